/-
  A part of the proof of the statement, in texts that tools of ours (wip/shrink.py, irpack.py, relax.py, minify.py, join.py, lay.py) have shortened.
-/
import Derived.Test.YtmmkkggfmigppaaGreatZaf
set_option linter.all false
set_option maxRecDepth 8000
set_option maxHeartbeats 16000000
namespace Go.DI
open Go Go.RowKit
def fy{c4 lb:Type}(f:c4->Option lb):List c4->Option (List lb)
  |[]=>some []
  | x::xs=>match f x with
    | some y=>(match fy f xs with
      |some ys=>some (y::ys)
      |none=>none)
    |none=>none
theorem Eh{c4 lb:Type}{f:c4->Option lb}: ∀{l:List c4} {dh:List lb},fy f l=some dh->dh.length=l.length/\ ∀(i:Nat) (y:lb),dh[i]?=some y-> ∃x,l[i]?=some x/\f x=some y
  |[],dh,h=>by cases h;exact⟨rfl,λi y h=>by simp at h⟩
  | x::xs,dh,h=>by
    simp only[fy]at h;cases aT:f x with
    |none=>simp[aT]at h
    | some y=>
      cases aw:fy f xs with
      |none=>simp[aT,aw]at h
      | some ys=>
        simp only[aT,aw,lV]at h;subst h;obtain⟨E,I⟩:=Eh aw;refine⟨by simp[E],λi J bK=> ?_⟩;cases i with
        |zero=>simp at bK;subst bK;exact⟨x,rfl,aT⟩
        |succ i=>exact I i J (by simpa using bK)
theorem Is{c4:Type}{f:c4->Option c4}: ∀{l:List c4},(∀x∈l,f x=some x)->fy f l=some l
  |[],_=>rfl
  | x::xs,h=>by have cx:fy f xs=some xs:=Is λy af=>h y (B4 _ af);simp only[fy,h x (by simp),cx]
def me(J:Nat):Nat->List Value->List (List Value)
  |0,_=>[]
  |n+1,cs=>cs.take J::me J n (cs.drop J)
theorem XJ(J:Nat): ∀(n:Nat) (cs:List Value),(me J n cs).length=n
  |0,_=>rfl
  |n+1,cs=>by simp[me,XJ J n]
theorem XI{J:Nat}: ∀{n:Nat} {cs:List Value} {i:Nat} {r:List Value},(me J n cs)[i]?=some r->i<n/\r=(cs.drop (i*J)).take J
  |0,cs,i,r,h=>by simp[me]at h
  | n+1,cs,i,r,h=>by
    cases i with
    |zero=>simp[me]at h;subst h;simp
    | succ i=>simp only[me,xH]at h;obtain⟨E,I⟩:=XI h;refine⟨by omega,?_⟩;rw[I,zJ,ly];congr 2;omega
theorem Kb{J:Nat}: ∀{bh:List (List Value)},(∀r∈bh,r.length=J)->me J bh.length bh.flatten=bh
  |[],_=>rfl
  | r::bh,h=>by have E:=h r (by simp);simp only[pI,me,oY];rw[<-E,List.take_left,List.drop_left,E,Kb λx G=>h x (by simp[G])]
def ha(v:Value):Bool:=dZ v||kf v
def dI:Nat->W->Value->Option Value
  |0,_,v=>if ha v then some v else none
  | n+1,t,v=>if ha v then some v else match v with
    | .slice (some a) l J=>match t.X a.block with
      | some x=>if a.spot.isNone&&decide (a.off+l*J<=x.cells.length)then
          (match fy (fy (dI n t)) (me J l (x.cells.drop a.off))with
            |some bh=>some (aj bh J)
            |none=>none)else none
      |none=>none
    | .pointer (some a)=>match t.X a.block with
      | some x=>if a.spot.isNone then
          (match fy (dI n t) x.cells with
            |some ct=>some (ek ct a.off)
            |none=>none)else none
      |none=>none
    | .agg cs=>match fy (dI n t) cs.toList with
      |some l=>some (.agg l.toArray)
      |none=>none
    | .tuple cs=>match fy (dI n t) cs.toList with
      |some l=>some (.tuple l.toArray)
      |none=>none
    | .func (.func f) xs cs=>match fy (dI n t) xs.toList,fy (dI n t) cs.toList with
      |some l,some k=>some (.func (.func f) l.toArray k.toArray)
      |_,_=>none
    |_=>none
def ed:Nat->W->Value->List Nat
  |0,_,_=>[]
  | n+1,t,v=>if ha v then[]else match v with
    | .slice (some a) _ _=>a.block::(match t.X a.block with
      |some x=>x.cells.flatMap (ed n t)
      |none=>[])
    | .pointer (some a)=>a.block::(match t.X a.block with
      |some x=>x.cells.flatMap (ed n t)
      |none=>[])
    | .agg cs=>cs.toList.flatMap (ed n t)
    | .tuple cs=>cs.toList.flatMap (ed n t)
    | .func _ xs cs=>xs.toList.flatMap (ed n t)++cs.toList.flatMap (ed n t)
    |_=>[]
theorem J7{u dz:fQ}{M:eM}(dx:hp u dz){v bx:Value}(ad:b5 u M v bx)(ar:ha v=true):b5 dz lr v bx:=by
  cases ad with
  |cH h=>exact .cH h
  |iu e E I av aH=>exact .iu e (dx _ _ E) I av λi j r x y a b c=>(aH i j r x y a b c).b8 dx (fY.refl _)
  |hR e=>exact .hR e
  |ek e E I av=>exact .ek e (dx _ _ E) I λj x y a b=>(av j x y a b).b8 dx (fY.refl _)
  |_=>simp[ha,dZ,kf]at ar
theorem FJ{u dz:fQ}{M:eM}{t m:W}(K:ec M u t m)(dx:hp u dz): ∀(n:Nat) {v bx r:Value},b5 u M v bx->dI n t v=some r->(∀o∈ed n t v,(t.X o).isSome=true-> ∀b cs w,M o=some b->m.X b=some ⟨cs,w⟩->dz b=some cs)->b5 dz lr r bx
  | 0,v,bx,r,ad,h,_=>by
    simp only[dI]at h;split at h
    · next ar=>cases h;exact J7 dx ad ar
    · cases h
  | n+1,v,bx,r,ad,h,aw=>by
    simp only[dI]at h;simp only[ed]at aw;split at h
    · next ar=>cases h;exact J7 dx ad ar
    · next ar=>
      rw[if_neg ar]at aw;have Ie: ∀{xs ys cc:List Value},bo u M xs ys->fy (dI n t) xs=some cc->(∀o∈xs.flatMap (ed n t),(t.X o).isSome=true-> ∀b cs w,M o=some b->m.X b=some ⟨cs,w⟩->dz b=some cs)->bo dz lr cc ys:= λaB aE aQ=>by obtain⟨E,I⟩:=Eh aE;refine⟨by rw[E,aB.1],λi x y G af=> ?_⟩;obtain⟨ch,fM,bn⟩:=I i x G;exact FJ K dx n (aB.2 i ch y fM af) bn λo aE=>aQ o (uF.2 ⟨ch,gJ fM,aE⟩)
      split at h
      · next a l J=>
        cases aP:t.X a.block with
        |none=>simp[aP]at h
        | some x=>
          simp only[aP]at h aw;split at h
          · next hb=>
            simp only[a1,e2]at hb;cases Rf:fy (fy (dI n t)) (me J l (x.cells.drop a.off))with
            |none=>simp[Rf]at h
            | some bh=>
              simp only[Rf,lV]at h;subst h;obtain⟨aK,bb⟩:=Eh Rf;rw[XJ]at aK;rcases ad.m1 with⟨b,aJ,aU,rfl⟩|⟨aJ,aU,cu,rfl⟩
              · obtain⟨cs,w,a8,bE,b7⟩:=K.qC aJ aP;have QK:=aw a.block (by simp) (by rw[aP];rfl) b cs w aJ a8;rw[<-aK];have mh: ∀(i:Nat) r,bh[i]?=some r->i<l/\ ∃mK,mK=(x.cells.drop (a.off+i*J)).take J/\fy (dI n t) mK=some r:= λi r ai=>by
                  obtain⟨mK,en,hd⟩:=bb i r ai;obtain⟨jw,w2⟩:=XI en;exact⟨jw,mK,by rw[w2,zJ],hd⟩
                refine .iu rfl QK (by rw[aK,<-b7.1];exact hb.2) (λi r ai=> ?_) λi j r bt y ai bj af=> ?_
                · obtain⟨jw,mK,w2,A8⟩:=mh i r ai;rw[(Eh A8).1,w2];simp;have:(i+1)*J<=l*J:=ri _ jw;rw[ly]at this;omega
                · obtain⟨jw,mK,w2,A8⟩:=mh i r ai;obtain⟨aif,vq,Nq⟩:=(Eh A8).2 j bt bj;rw[w2,vT]at vq;split at vq
                  · rw[zE]at vq;refine FJ K dx n (b7.2 _ aif y vq af) Nq λo aE=>aw o ?_;exact B4 _ (uF.2 ⟨aif,gJ vq,aE⟩)
                  · cases vq
              · subst cu;have:bh=[]:=B2 aK;subst this;exact .hR rfl
          · cases h
      · next a=>
        cases aP:t.X a.block with
        |none=>simp[aP]at h
        | some x=>
          simp only[aP]at h aw;split at h
          · cases mh:fy (dI n t) x.cells with
            |none=>simp[mh]at h
            | some ct=>simp only[mh,lV]at h;subst h;obtain⟨b,aJ,aU,rfl⟩:=ad.p9;obtain⟨cs,w,a8,bE,b7⟩:=K.qC aJ aP;have QK:=aw a.block (by simp) (by rw[aP];rfl) b cs w aJ a8;have aB:=Ie b7 mh λo aE=>aw o (B4 _ aE);have:=b5.ek (u:=dz) (M:=lr) (off:=0) (k:=a.off) (ct:=ct) rfl QK (by rw[aB.1];omega) λj bt y bj af=>aB.2 j bt y bj (by simpa using af);simpa using this
          · cases h
      · next cs=>
        cases aE:fy (dI n t) cs.toList with
        |none=>simp[aE]at h
        | some l=>simp only[aE,lV]at h;subst h;obtain⟨ys,rfl,aB⟩:=ad.rN;have:=(Ie aB aE aw).agg;simpa using this
      · next cs=>
        cases aE:fy (dI n t) cs.toList with
        |none=>simp[aE]at h
        | some l=>simp only[aE,lV]at h;subst h;obtain⟨ys,rfl,aB⟩:=ad.Ax;have:=(Ie aB aE aw).tuple;simpa using this
      · next f xs cs=>
        cases aE:fy (dI n t) xs.toList with
        |none=>simp[aE]at h
        | some l=>
          cases Ge:fy (dI n t) cs.toList with
          |none=>simp[aE,Ge]at h
          | some k=>simp only[aE,Ge,lV]at h;subst h;obtain⟨ys,ds,rfl,aB,aa⟩:=ad.Aw;have E:=Ie aB aE λo h=>aw o (kk.2 (.inl h));have I:=Ie aa Ge λo h=>aw o (kk.2 (.inr h));exact .func (by simpa using E.1) (by simpa using E.2) (by simpa using I.1) (by simpa using I.2)
      · cases h
def zZ(n:Nat)(t:W)(args:List Value):Option (List Value):=fy (dI n t) args
def re(t:W):List Nat->W
  |[]=>t
  |o::l=>re (match t.X o with|some x=>t.a0 o (some ⟨x.cells,false⟩)|none=>t) l
def hv(t:W)(l:List Nat):W:=⟨t.next,t.gV,λo=>if o∈l then none else t.mp o⟩
@[simp] theorem akv(t:W):hv t []=t:=by simp[hv]
@[simp] theorem aI5(t:W)(l:List Nat)(o:Nat):(hv t l).X o=t.X o:=rfl
@[simp] theorem aI6(t:W)(l:List Nat):(hv t l).next=t.next:=rfl
theorem ae:(∀(m:W) (b:Nat) (x:Option fB),(m.a0 b x).next=m.next)/\(∀(m:W) (k:Nat),(m.cf k).next=m.next+k)/\(∀(m:W) (b:Nat) (bc:List (Value×Value)),(m.g2 b bc).next=m.next)/\ ∀(t:W) (l:List Nat),(hv t l).next=t.next:=⟨λ_ _ _=>rfl,λ_ _=>rfl,λ_ _ _=>rfl,λ_ _=>rfl⟩
@[simp] theorem aQ9(t:W):re t []=t:=rfl
@[simp] theorem OC(t:W)(o:Nat)(l:List Nat):re t (o::l)=re (match t.X o with|some x=>t.a0 o (some ⟨x.cells,false⟩)|none=>t) l:=rfl
theorem VQ: ∀(l:List Nat) (t:W),(re t l).next=t.next
  |[],t=>rfl
  | o::l,t=>by rw[OC,VQ l];split<;>rfl
theorem EC: ∀(l:List Nat) (t:W) (p:Nat) (x:fB),(re t l).X p=some x-> ∃y,t.X p=some y/\x.cells=y.cells/\(x.own=true->y.own=true)/\(p∈l->x.own=false)
  |[],t,p,x,h=>⟨x,h,rfl,λh=>h,λh=>by simp at h⟩
  | o::l,t,p,x,h=>by
    rw[OC]at h;obtain⟨y,E,I,av,aH⟩:=EC l _ p x h;cases aP:t.X o with
    | none=>
      rw[aP]at E;refine⟨y,E,I,av,λab=> ?_⟩;rcases hH.1 ab with rfl|ab
      · simp only at E;rw[aP]at E;cases E
      · exact aH ab
    | some J=>
      rw[aP]at E;simp only at E;by_cases ym:p=o
      · subst ym;rw[eD (a6 aP)]at E;cases E;have aT:x.own=false:=by
          cases G:x.own with
          |false=>rfl
          |true=>have:=av G;cases this
        exact⟨J,aP,I,(λG=>by rw[aT]at G;cases G),λ_=>aT⟩
      · rw[bR ym]at E;exact⟨y,E,I,av,λab=>aH ((hH.1 ab).resolve_left ym)⟩
theorem VP: ∀(l:List Nat) (t:W),(re t l).mp=t.mp
  |[],t=>rfl
  | o::l,t=>by rw[OC,VP l];split<;>rfl
section
variable (P:Program)
def uJ(u:fQ)(m:W):Prop:= ∀b cs,u b=some cs-> ∃w,m.X b=some ⟨cs,w⟩
def bH(f:Nat)(args:List Value)(r:Value):Prop:= ∀(u:fQ) (m:W) (bY:List Value),uJ u m->bo u lr args bY->
  gp P f bY m λdL aq=>m.next<=aq.next/\(∀b,b<m.next->aq.X b=m.X b)/\ ∃cP,hp u cP/\uJ cP aq/\b5 cP lr r dL
def fi(f:Nat)(args:List Value)(t:W)(cj:Value->W->Prop):Prop:= ∀(M:eM) (u:fQ) (bY:List Value) (m:W),ec M u t m->bo u M args bY->
  gp P f bY m λdL aq=> ∃cL cP r aI,cj r aI/\ec cL cP aI aq/\b5 cP cL r dL/\eN t.next m.next M u t m cL cP aI aq
def fZ(c:H)(A:aR)(t:W)(Q:dA->aR->W->Prop):Prop:=m9 c=true-> ∀(M:eM) (u:fQ) (ak:aR) (m:W),ec M u t m->g4 u M A ak->
  ia P c ak m λe jU aq=> ∃cL cP bQ aI,Q e bQ aI/\ec cL cP aI aq/\g4 cP cL bQ jU/\eN t.next m.next M u t m cL cP aI aq
structure bC where
  f:Nat
  fn:List Value->Option Value
  ok: ∀args r,fn args=some r->bH P f args r
structure ie where
  f:Nat
  fn:List Value->W->Option (Value×W)
  ok: ∀args t r aI,fn args t=some (r,aI)-> ∀cj:Value->W->Prop,cj r aI->fi P f args t cj
structure ov where
  p:List (bC P)
  i:List (ie P)
variable {P}
def yb:List (ie P)->Nat->Bool
  |[],_=>false
  |s::l,f=>s.f==f||yb l f
def sT:List (ie P)->Nat->List Value->W->(Value->W->Prop)->Prop
  |[],_,_,_,_=>False
  | s::l,f,args,t,aW=>if s.f=f then(match s.fn args t with
    |some (r,aI)=>aW r aI
    |none=>False)else sT l f args t aW
def CC:List (bC P)->Nat->Bool
  |[],_=>false
  |s::l,f=>s.f==f||CC l f
def uu:List (bC P)->Nat->List Value->(Value->Prop)->Prop
  |[],_,_,_=>False
  | s::l,f,args,cj=>if s.f=f then(match s.fn args with
    |some r=>cj r
    |none=>False)else uu l f args cj
def vD(aC:List (bC P))(f:Nat)(args:List Value)(t:W)(aW:Value->W->Prop):Prop:=match zZ 9 t args with
  |some ts=>uu aC f ts λr=>aW r (if mV r then hv t (args.flatMap (ed 9 t))else re t (args.flatMap (ed 9 t)))
  |none=>False
def NQ(t:W)(o:Nat):Bool:=match t.X o with|some x=> !x.cells.isEmpty|none=>false
def iY(t:W)(l:List Nat):W:=⟨t.next,λb=>if b∈l then none else t.gV b,t.mp⟩
def kK(t bD:W)(l:List Nat):W:=⟨bD.next,λb=>if b∈l then t.gV b else bD.gV b,bD.mp⟩
def lO(A:aR)(t:W):List (Operand×Operand)->List Nat
  |[]=>[]
  | p::l=>match N (Z A p.1)with
    |some o=>if ui t o then o::lO A t l else lO A t l
    |none=>lO A t l
def xY(aC:ov P)(f:Nat)(args:List Value)(t:W):List Nat->(Value->W->Prop)->Prop
  |[],aW=>if yb aC.i f then sT aC.i f args t aW else fi P f args t aW
  |o::l,aW=>(o::l).all (NQ t)=true/\if yb aC.i f then sT aC.i f args (iY t (o::l)) (λr bD=>aW r (kK t bD (o::l)))else fi P f args (iY t (o::l)) λr bD=>aW r (kK t bD (o::l))
def tk(aC:ov P)(f:Nat)(args:List Value)(t:W)(L:List Nat)(aW:Value->W->Prop):Prop:=
  if CC aC.p f then vD aC.p f args t aW else xY aC f args t L aW
def Fv(aC:ov P)(v:Value)(args:List Value)(t:W)(L:List Nat)(aW:Value->W->Prop):Prop:=match v with
  | .func (.func f) first mA=>tk aC f (first.toList++args++mA.toList) t L aW
  |_=>False
def j1(aC:ov P)(base:Nat)(o:bp)(A:aR)(t:W)(aW:aR->W->Prop):Prop:=match o.k with
  | .dY f bY=>tk aC f (bY.map (Z A)) t (lO A t o.a9) λr aI=>aW (dc A o.d r) aI
  | .iN x bY=>Fv aC (Z A x) (bY.map (Z A)) t (lO A t o.a9) λr aI=>aW (dc A o.d r) aI
  | .iR _ _ _=>False
  |k=>k.iw A t=true/\iO A t o.a9=true/\aW (dc A o.d (k.iJ (base+o.aS) A t)) (k.mo (base+o.aS) A t)
def dv(aC:ov P)(base:Nat):List bp->aR->W->(aR->W->Prop)->Prop
  |[],A,t,aW=>aW A t
  |o::b4,A,t,aW=>if eR A o.g=true then j1 aC base o A t (λA t=>dv aC base b4 A t aW)else dv aC base b4 (dc A o.d undef) t aW
def jn(aC:ov P):H->aR->W->(dA->aR->W->Prop)->Prop
  | .skip,A,t,Q=>Q .ew A t
  | .D ops,A,t,Q=>dv aC t.next ops A (hl ops t) (Q .ew)
  | .q0 _ _ _,_,_,_=>False
  | .B a b,A,t,Q=>jn aC a A t λe A t=>match e with
    | .ew=>jn aC b A t Q
    |e=>Q e A t
  | .aM c a b,A,t,Q=>sK (Z A c)=true/\if uM (Z A c)=true then jn aC a A t Q else jn aC b A t Q
  | .block id c,A,t,Q=>jn aC c A t λe A t=>match e with
    | .a7 jg=>if jg=id then Q .ew A t else Q (.a7 jg) A t
    |e=>Q e A t
  | .loop c,A,t,Q=>fZ P (.loop c) A t Q
  | .a7 id,A,t,Q=>Q (.a7 id) A t
  | .aF,A,t,Q=>Q .aF A t
end
section
variable {P:Program} {u:fQ} {M:eM} {t m:W}
theorem ahV{l:List (ie P)}{f:Nat}{args:List Value}{t:W}{aW:Value->W->Prop}(h:sT l f args t aW):fi P f args t aW:=by
  induction l with
  |nil=>exact h.elim
  | cons s l cx=>
    simp only[sT]at h;split at h
    · next e=>
      cases aT:s.fn args t with
      |none=>rw[aT]at h;exact h.elim
      |some aCD=>obtain⟨r,aI⟩:=aCD;rw[aT]at h;have:=s.ok args t r aI aT aW h;rw[e]at this;exact this
    · exact cx h
theorem bH.aEy{f:Nat}{ts bY:List Value}{r:Value}(h:bH P f ts r)(dx:uJ u m)(aA:bo u lr ts bY):gp P f bY m λdL aq=>m.next<=aq.next/\(∀b,b<m.next->aq.X b=m.X b/\(u b=none->aq.mp b=m.mp b))/\
    ∃cP,hp u cP/\uJ cP aq/\(∀b cs,cP b=some cs->u b=some cs\/m.next<=b)/\b5 cP lr r dL:=by
  obtain⟨p,ab⟩: ∃p:W,p=⟨m.next,λb=>if(u b).isSome then m.gV b else none,m.mp⟩:=⟨_,rfl⟩;have vB:p.next=m.next:=by rw[ab]
  have Ux:p.mp=m.mp:=by rw[ab]
  have rX: ∀b,p.X b=if(u b).isSome then m.X b else none:= λb=>by
    rw[ab];simp only[W.X];split
    · rfl
    · split<;>rfl
  have part:wa p m:=⟨vB,Ux,λb x G=>by
    rw[rX]at G;split at G
    · exact G
    · cases G⟩
  have QE:uJ u p:= λb cs hb=>by obtain⟨w,a3⟩:=dx b cs hb;exact⟨w,by rw[rX,hb];exact a3⟩
  refine(gp.frame part (h u p bY QE aA)).b8 λdL aq aQ=> ?_;obtain⟨lP,⟨E,I,cP,av,aH,br⟩,b4⟩:=aQ;refine⟨b4.next,λb hb=>⟨?_,λaz=>(b4.ky b hb (by rw[rX,az];rfl)).2.2⟩,cP,av,λb cs hb=> ?_,λb cs hb=> ?_,br⟩
  · cases aP:p.X b with
    |none=>exact(b4.ky b hb aP).1
    |some x=>rw[part.X b x aP];exact b4.part.X b x (by rw[I b (by rw[vB];exact hb),aP])
  · obtain⟨w,a3⟩:=aH b cs hb;exact⟨w,b4.part.X b _ a3⟩
  · by_cases ev:b<m.next
    · left;obtain⟨w,a3⟩:=aH b cs hb;cases aP:p.X b with
      |none=>rw[(b4.ky b ev aP).2.1]at a3;cases a3
      | some x=>
        rw[I b (by rw[vB];exact ev)]at a3;rw[rX]at a3;split at a3
        · next K=>
          cases YU:u b with
          |none=>rw[YU]at K;cases K
          | some lC=>obtain⟨c3,n4⟩:=dx b lC YU;rw[n4]at a3;cases a3;rfl
        · cases a3
    · exact .inr (by omega)
theorem ak5{v bx:Value}(h:b5 u M v bx)(aT:mV v=true):bx=v:=by
  unfold mV at aT;split at aT
  · obtain⟨ys,rfl,aB⟩:=h.rN;rename_i cs;have:ys.toList=cs.toList:=by
      apply List.ext_getElem
      · exact aB.1.symm
      · intro i E I;exact(aB.2 i _ _ (cD I) (cD E)).h7 (eQ.1 aT _ (jQ I))
    rw[<-qw (xs:=ys),this]
  · obtain⟨ys,rfl,aB⟩:=h.Ax;rename_i cs;have:ys.toList=cs.toList:=by
      apply List.ext_getElem
      · exact aB.1.symm
      · intro i E I;exact(aB.2 i _ _ (cD I) (cD E)).h7 (eQ.1 aT _ (jQ I))
    rw[<-qw (xs:=ys),this]
  · exact h.h7 aT
open Classical in
theorem UB(K:ec M u t m){aC:List (bC P)}{f:Nat}{args bY:List Value}(aA:bo u M args bY){aW:Value->W->Prop}(h:vD aC f args t aW):
    gp P f bY m λdL aq=>(∀b,b<m.next->aq.X b=m.X b)/\ ∃cP r aI,aW r aI/\ec M cP aI aq/\b5 cP M r dL/\eN t.next m.next M u t m M cP aI aq:=by
  unfold vD at h;cases bK:zZ 9 t args with
  |none=>rw[bK]at h;exact h.elim
  | some ts=>
    rw[bK]at h;simp only at h;obtain⟨l,aB⟩: ∃l,l=args.flatMap (ed 9 t):=⟨_,rfl⟩;rw[<-aB]at h;have gP: ∃r,bH P f ts r/\aW r (if mV r then hv t l else re t l):=by
      clear bK aB;induction aC with
      |nil=>exact h.elim
      | cons s aC cx=>
        simp only[uu]at h;split at h
        · next e=>
          cases aT:s.fn ts with
          |none=>rw[aT]at h;exact h.elim
          |some r=>rw[aT]at h;exact⟨r,by have:=s.ok ts r aT;rw[e]at this;exact this,h⟩
        · exact cx h
    obtain⟨r,aw,dU⟩:=gP;obtain⟨dz,FY⟩: ∃dz:fQ,dz= λb=>match u b with
      |some cs=>some cs
      |none=>if∃o,o∈l/\M o=some b/\(t.X o).isSome=true then(m.X b).map (·.cells)else none:=⟨_,rfl⟩
    have dj:hp u dz:= λb cs hb=>by rw[FY];simp[hb]
    have dw: ∀b cs,dz b=some cs->u b=some cs\/(∃o,o∈l/\M o=some b):= λb cs hb=>by
      rw[FY]at hb;simp only at hb;split at hb
      · next E=>rw[E];exact .inl hb
      · split at hb
        · next E=>obtain⟨o,en,hd,_⟩:=E;exact .inr ⟨o,en,hd⟩
        · cases hb
    have Ct: ∀b cs,dz b=some cs->u b=some cs\/B8 M t b:= λb cs hb=>by
      rw[FY]at hb;simp only at hb;split at hb
      · next E=>rw[E];exact .inl hb
      · split at hb
        · next E=>obtain⟨o,_,hd,jw⟩:=E;obtain⟨x,G⟩:=Jv.1 jw;exact .inr ⟨o,x,hd,G⟩
        · cases hb
    have h6:uJ dz m:= λb cs hb=>by
      rw[FY]at hb;simp only at hb;split at hb
      · next E=>cases hb;exact(K.bF b _ E).1
      · split at hb
        · cases aP:m.X b with
          |none=>rw[aP]at hb;cases hb
          |some x=>rw[aP]at hb;cases hb;exact⟨x.own,rfl⟩
        · cases hb
    have kW: ∀o∈l,(t.X o).isSome=true-> ∀b cs w,M o=some b->m.X b=some ⟨cs,w⟩->dz b=some cs:= λo aE fv b cs w bZ aP=>by
      rw[FY];simp only;cases oC:u b with
      |some ds=>obtain⟨⟨c3,n4⟩,_⟩:=K.bF b ds oC;rw[aP]at n4;cases n4;rfl
      |none=>simp only;rw[if_pos ⟨o,aE,bZ,fv⟩,aP];rfl
    have alJ:bo dz lr ts bY:=(by obtain⟨E,I⟩:=Eh bK;refine⟨by rw[E,aA.1],λi x y G af=> ?_⟩;obtain⟨ch,fM,bn⟩:=I i x G;exact FJ K dj 9 (aA.2 i ch y fM af) bn λo aE=>kW o (by rw[aB];exact uF.2 ⟨ch,gJ fM,aE⟩));refine(aw.aEy h6 alJ).b8 λdL aq aQ=> ?_;obtain⟨aK,bb,cP,c0,ea,e9,fo⟩:=aQ;refine⟨λb hb=>(bb b hb).1,?_⟩;by_cases e1:mV r=true
    · rw[if_pos e1]at dU;refine⟨u,r,_,dU,?_,by rw[ak5 fo e1];exact b5.mV e1,?_⟩
      · refine⟨λo x G=> ?_,λo bc bn=> ?_,λo aE=> ?_,K.inj,λo b h=>⟨(K.cV o b h).1,pH (K.cV o b h).2 aK⟩,λb cs hb=> ?_⟩
        · rcases K.ij o x G with⟨b,cs,w,E,I,av,aH⟩|E
          · exact .inl ⟨b,cs,w,E,by rw[(bb b (K.cV o b E).2).1,I],av,aH⟩
          · exact .inr E
        · obtain⟨aJ,aU⟩:=iz bn;have An:o∉l:= λax=>by simp[hv,ax]at aU
          have cu:t.mp o=some bc:=(by simpa[hv,An]using aU);obtain⟨b,de,E,I,av⟩:=K.maps o bc (kq aJ cu);refine⟨b,de,E,?_,av⟩;obtain⟨aH,br⟩:=iz I;have hb:=(K.cV o b E).2;have oC:dz b=none:=by
            cases bd:dz b with
            |none=>rfl
            | some cs=>
              rcases dw b cs bd with cW|⟨o',cW,fu⟩
              · have:=(K.bF b cs cW).2 o _ E aJ;cases this
              · rw[K.inj o' o b fu E]at cW;exact absurd cW An
          exact kq (by rw[(bb b hb).1];exact aH) (by rw[(bb b hb).2 oC];exact br)
        · show(if o∈l then none else t.mp o)=none;rw[K.iD o aE];simp
        · obtain⟨⟨w,E⟩,I⟩:=K.bF b cs hb;exact⟨⟨w,by rw[(bb b (a6 E)).1,E]⟩,I⟩
      · exact⟨fY.refl _,hp.refl _,λ_ _ h=> .inl h,λ_ _ h=> .inl h,ey _,aK,λb hb _=>(bb b hb).1,λb hb a3=>a3,λb hb a3=>a3⟩
    · rw[if_neg e1]at dU;have QC:=dj.trans c0;refine⟨cP,r,_,dU,?_,fo.b8 (hp.refl _) (fY.nil _),?_⟩
      · refine⟨λo x G=> ?_,λo bc bn=> ?_,λo aE=> ?_,K.inj,λo b h=>⟨by rw[VQ];exact(K.cV o b h).1,pH (K.cV o b h).2 aK⟩,λb cs hb=> ?_⟩
        · obtain⟨y,af,aJ,aU,_⟩:=EC l t o x G;rcases K.ij o y af with⟨b,cs,w,E,I,av,aH⟩|⟨E,I⟩
          · exact .inl ⟨b,cs,w,E,by rw[(bb b (K.cV o b E).2).1,I],λh=>av (aU h),by rw[aJ];exact aH.b8 QC (fY.refl _)⟩
          · exact .inr ⟨E,by rw[aJ,I]⟩
        · obtain⟨aJ,aU⟩:=iz bn;obtain⟨y,af,cu,gO,lD⟩:=EC l t o _ aJ;have An:o∉l:= λax=>by have:=lD ax;cases this
          have tJ:y=⟨[],true⟩:=(by obtain⟨a,b⟩:=y;simp at cu gO;simp[cu,gO]);subst tJ;rw[VP]at aU;obtain⟨b,de,E,I,av⟩:=K.maps o bc (kq af aU);refine⟨b,de,E,?_,av.b8 QC (fY.refl _)⟩;obtain⟨aH,br⟩:=iz I;have hb:=(K.cV o b E).2;have oC:dz b=none:=by
            cases bd:dz b with
            |none=>rfl
            | some cs=>
              rcases dw b cs bd with cW|⟨o',cW,fu⟩
              · have:=(K.bF b cs cW).2 o _ E af;cases this
              · rw[K.inj o' o b fu E]at cW;exact absurd cW An
          exact kq (by rw[(bb b hb).1];exact aH) (by rw[(bb b hb).2 oC];exact br)
        · rw[VP];exact K.iD o aE
        · refine⟨ea b cs hb,λo x bZ G=> ?_⟩;obtain⟨y,af,aJ,aU,cu⟩:=EC l t o x G;have fH:=(K.cV o b bZ).2;rcases e9 b cs hb with cW|cW
          · rcases dw b cs cW with fu|⟨o',fu,hK⟩
            · have iZ:=(K.bF b cs fu).2 o y bZ af;cases fM:x.own with
              |false=>rfl
              |true=>rw[aU fM]at iZ;cases iZ
            · rw[K.inj o' o b hK bZ]at fu;exact cu fu
          · omega
      · refine⟨fY.refl _,QC,λ_ _ h=> .inl h,λb cs hb=> ?_,by rw[VQ];exact ey _,aK,λb hb _=>(bb b hb).1,λb hb a3=> ?_,λb hb a3=> ?_⟩
        · rcases e9 b cs hb with cW|cW
          · rcases Ct b cs cW with fu|fu
            · exact .inl fu
            · exact .inr (.inr fu)
          · exact .inr (.inl cW)
        · obtain⟨o,x,E,I,av⟩:=a3;obtain⟨y,af,aJ,aU,cu⟩:=EC l t o x I;exact⟨o,y,E,af,aU av⟩
        · obtain⟨o,x,E,I⟩:=a3;obtain⟨y,af,aJ,aU,cu⟩:=EC l t o x I;exact⟨o,y,E,af⟩
end
section
variable {t bD:W} {l:List Nat}
@[simp] theorem aI7:(iY t l).next=t.next:=rfl
theorem PS{b:Nat}(h:b∈l):(iY t l).X b=none:=by simp[iY,W.X,h]
theorem Kj{b:Nat}(h:b∉l):(iY t l).X b=t.X b:=by simp[iY,W.X,h]
theorem qF{b:Nat}{x:fB}(h:(iY t l).X b=some x):b∉l/\t.X b=some x:=by
  by_cases hb:b∈l
  · rw[PS hb]at h;cases h
  · rw[Kj hb]at h;exact⟨hb,h⟩
theorem PT{b:Nat}(h:b∉l):(iY t l).eS b=t.eS b:=by have E:(iY t l).X b=t.X b:=Kj h;unfold W.eS;rw[E];rfl
theorem afZ{b:Nat}(h:b∈l)(az:t.next<=bD.next)(hb:b<t.next):(kK t bD l).X b=t.X b:=by
  have:b<bD.next:=by omega
  simp[kK,W.X,h,hb,this]
theorem vp{b:Nat}(h:b∉l):(kK t bD l).X b=bD.X b:=by simp[kK,W.X,h]
theorem TS{b:Nat}(h:b∉l):(kK t bD l).eS b=bD.eS b:=by have E:(kK t bD l).X b=bD.X b:=vp h;unfold W.eS;rw[E];rfl
end
section
variable {P:Program} {M:eM} {u:fQ} {t m:W} {A ak:aR}
theorem af5(K:ec M u t m)(bI:g4 u M A ak){a9:List (Operand×Operand)}(aA:a9.all (λp=>cX p.1&&cX p.2)=true){aq:W}(aa: ∀b,b<m.next->aq.X b=m.X b):qZ ak a9 m aq:=by
  intro p ab b hb;simp only[eQ]at aA;have I:=aA p ab;simp only[a1]at I;have ad:=bI.Z I.1;generalize Z A p.1=a at ad;generalize Z ak p.1=dG at ad hb;cases ad with
  | cH h=>unfold N at hb;split at hb<;>simp[dZ]at h hb
  |cw bZ=>simp[N]at hb;subst hb;exact aa _ (K.cV _ _ bZ).2
  |slice bZ=>simp[N]at hb;subst hb;exact aa _ (K.cV _ _ bZ).2
  |map bZ=>simp[N]at hb;subst hb;exact aa _ (K.cV _ _ bZ).2
  |iu e dx=>simp[N]at hb;subst hb;obtain⟨⟨w,av⟩,_⟩:=K.bF _ _ dx;exact aa _ (a6 av)
  |ek e dx=>simp[N]at hb;subst hb;obtain⟨⟨w,av⟩,_⟩:=K.bF _ _ dx;exact aa _ (a6 av)
  |_=>simp[N]at hb
theorem Yl{f:Nat}{args bY:List Value}{cj:Value->W->Prop}{l:List Nat}(aB: ∀o∈l,∃x,t.X o=some x/\x.cells≠[])(h:fi P f args (iY t l) cj)(K:ec M u t m)(aA:bo u M args bY):
    gp P f bY m λdL bk=>(∀o∈l,∀b,M o=some b->bk.X b=m.X b)/\ ∃cC dz r bD,cj r bD/\ec cC dz (kK t bD l) bk/\b5 dz cC r dL/\eN t.next m.next M u t m cC dz (kK t bD l) bk:=by
  have Aq:ec M u (iY t l) m:=⟨λo x G=>K.ij o x (qF G).2,λo bc bn=>by have hb:=(qF (iz bn).1).1;rw[PT hb]at bn;exact K.maps o bc bn,K.iD,K.inj,K.cV,λb cs hb=>⟨(K.bF b cs hb).1,λo x bZ G=>(K.bF b cs hb).2 o x bZ (qF G).2⟩⟩;refine(h M u bY m Aq aA).b8 λdL bk aQ=> ?_;obtain⟨cC,dz,r,bD,E,I,av,aH⟩:=aQ;have az:t.next<=bD.next:=aH.jP
  have hq: ∀o∈l,∃x b cs w,t.X o=some x/\x.cells≠[]/\M o=some b/\m.X b=some ⟨cs,w⟩/\(x.own=true->w=true)/\bo u M x.cells cs:= λo aE=>by
    obtain⟨x,G,ar⟩:=aB o aE;rcases K.ij o x G with⟨b,cs,w,bu,bN,cn,eW⟩|⟨_,bN⟩
    · exact⟨x,b,cs,w,G,ar,bu,bN,cn,eW⟩
    · exact absurd bN ar
  have Bp: ∀o∈l,∀b,M o=some b-> ¬B8 M (iY t l) b:= λo aE b hb ⟨p,x,ab,G⟩=>by have:=K.inj p o b ab hb;subst this;rw[PS aE]at G;cases G
  have af6: ∀o∈l,∀b,M o=some b->bk.X b=m.X b:= λo aE b bZ=>aH.jx b (K.cV o b bZ).2 λ⟨p,J,a8,bE,_⟩=>Bp o aE b bZ ⟨p,J,a8,bE⟩;have Qg: ∀o∈l,bD.X o=none:= λo aE=>by
    obtain⟨x,b,cs,w,bu,bN,cn,eW,fU,h4⟩:=hq o aE;cases aP:bD.X o with
    |none=>rfl
    |some y=>exact absurd (aH.nn b (K.cV o b cn).2 ⟨o,y,aH.e o b cn,aP⟩) (Bp o aE b cn)
  have sx: ∀o∈l,(kK t bD l).X o=t.X o:= λo aE=>by obtain⟨x,b,cs,w,bu,_⟩:=hq o aE;exact afZ aE az (a6 bu)
  refine⟨af6,cC,dz,r,bD,E,?_,av,?_⟩
  · refine⟨λo x G=> ?_,λo bc bn=> ?_,I.iD,I.inj,I.cV,λb cs hb=>⟨(I.bF b cs hb).1,λo x bZ G=> ?_⟩⟩
    · by_cases aE:o∈l
      · rw[sx o aE]at G;obtain⟨y,b,cs,w,bu,bN,cn,eW,fU,h4⟩:=hq o aE;rw[bu]at G;cases G;exact .inl ⟨b,cs,w,aH.e o b cn,by rw[af6 o aE b cn];exact eW,fU,h4.b8 aH.f aH.e⟩
      · rw[vp aE]at G;exact I.ij o x G
    · by_cases aE:o∈l
      · have:=(iz bn).1;rw[sx o aE]at this;obtain⟨y,af,ar⟩:=aB o aE;rw[af]at this;cases this;exact absurd rfl ar
      · rw[TS aE]at bn;exact I.maps o bc bn
    · by_cases aE:o∈l
      · rw[sx o aE]at G;obtain⟨y,cd,lC,w,bu,bN,cn,eW,fU,h4⟩:=hq o aE;have fH:=aH.e o cd cn;rw[bZ]at fH;cases fH;rcases aH.fn b cs hb with q|q|q
        · exact(K.bF b cs q).2 o x cn G
        · have:=(K.cV o b cn).2;omega
        · exact absurd q (Bp o aE b cn)
      · rw[vp aE]at G;exact(I.bF b cs hb).2 o x bZ G
  · refine⟨aH.e,aH.f,aH.kb,λb cs hb=> ?_,az,aH.jZ,λb hb a3=>aH.jx b hb λ⟨p,J,a8,bE,b7⟩=>a3 ⟨p,J,a8,(qF bE).2,b7⟩,λb hb ⟨o,x,a8,bE,b7⟩=> ?_,λb hb ⟨o,x,a8,bE⟩=> ?_⟩
    · rcases aH.fn b cs hb with q|q|⟨p,J,a8,bE⟩
      · exact .inl q
      · exact .inr (.inl q)
      · exact .inr (.inr ⟨p,J,a8,(qF bE).2⟩)
    · by_cases aE:o∈l
      · obtain⟨y,cd,lC,w,bu,bN,cn,_⟩:=hq o aE;have fH:=aH.e o cd cn;rw[a8]at fH;cases fH;rw[sx o aE]at bE;exact⟨o,x,cn,bE,b7⟩
      · rw[vp aE]at bE;obtain⟨p,J,fs,g7,jl⟩:=aH.nT b hb ⟨o,x,a8,bE,b7⟩;exact⟨p,J,fs,(qF g7).2,jl⟩
    · by_cases aE:o∈l
      · obtain⟨y,cd,lC,w,bu,bN,cn,_⟩:=hq o aE;have fH:=aH.e o cd cn;rw[a8]at fH;cases fH;rw[sx o aE]at bE;exact⟨o,x,cn,bE⟩
      · rw[vp aE]at bE;obtain⟨p,J,fs,g7⟩:=aH.nn b hb ⟨o,x,a8,bE⟩;exact⟨p,J,fs,(qF g7).2⟩
theorem Nu(K:ec M u t m)(bI:g4 u M A ak){a9:List (Operand×Operand)}(aA:a9.all (λp=>cX p.1&&cX p.2)=true){aq:W}(aa: ∀b,b<m.next-> ¬Fc M t b->aq.X b=m.X b)(G: ∀o∈lO A t a9,∀b,M o=some b->aq.X b=m.X b):qZ ak a9 m aq:=by
  intro p ab b hb;simp only[eQ]at aA;have I:=aA p ab;simp only[a1]at I;have ad:=bI.Z I.1;have E: ∀o,N (Z A p.1)=some o->ui t o=true->o∈lO A t a9:=by
    clear G hb ad I aA;induction a9 with
    |nil=>cases ab
    | cons q l cx=>
      intro o aE a3;unfold lO;rcases hH.1 ab with rfl|ab
      · rw[aE];simp only;rw[if_pos a3];exact List.mem_cons_self
      · have:=cx ab o aE a3;split
        · split
          · exact B4 _ this
          · exact this
        · exact this
  generalize Z A p.1=a at ad E;generalize Z ak p.1=dG at ad hb;have key: ∀o,N a=some o->M o=some b->aq.X b=m.X b:= λo aE bZ=>by
    cases a3:ui t o with
    |true=>exact G o (E o aE a3) b bZ
    | false=>refine aa b (K.cV o b bZ).2 λ⟨o',x,aJ,aU,cu⟩=> ?_;rw[K.inj o' o b aJ bZ]at aU;simp[ui,aU,cu]at a3
  have Ia: ∀cs,u b=some cs->aq.X b=m.X b:= λcs dx=>by obtain⟨⟨w,av⟩,aH⟩:=K.bF b cs dx;exact aa b (a6 av) λ⟨o',x,aJ,aU,cu⟩=>by rw[aH o' x aJ aU]at cu;cases cu
  cases ad with
  | cH h=>unfold N at hb;split at hb<;>simp[dZ]at h hb
  |cw bZ=>simp[N]at hb;subst hb;exact key _ rfl bZ
  |slice bZ=>simp[N]at hb;subst hb;exact key _ rfl bZ
  |map bZ=>simp[N]at hb;subst hb;exact key _ rfl bZ
  |iu e dx=>simp[N]at hb;subst hb;exact Ia _ dx
  |ek e dx=>simp[N]at hb;subst hb;exact Ia _ dx
  |_=>simp[N]at hb
end
section
variable {P:Program} {u:fQ} {M:eM} {t m:W} {A ak:aR}
theorem aL6(K:ec M u t m)(bI:g4 u M A ak){a9:List (Operand×Operand)}(aA:a9.all (λp=>cX p.1&&cX p.2)=true)(h:H9 A t a9=true){aq:W}(aa: ∀b,b<m.next-> ¬Fc M t b->aq.X b=m.X b):qZ ak a9 m aq:=by
  intro p ab b hb;simp only[H9,eQ]at h aA;have E:=h p ab;have I:=aA p ab;simp only[a1]at I;have ad:=bI.Z I.1;generalize Z A p.1=a at ad E;generalize Z ak p.1=dG at ad hb;have key: ∀o,N a=some o->M o=some b->aq.X b=m.X b:= λo aE bZ=>by rw[aE]at E;refine aa b (K.cV o b bZ).2 λ⟨o',x,aJ,aU,cu⟩=> ?_;rw[K.inj o' o b aJ bZ]at aU;simp[ui,aU,cu]at E
  have Ia: ∀cs,u b=some cs->aq.X b=m.X b:= λcs dx=>by obtain⟨⟨w,av⟩,aH⟩:=K.bF b cs dx;exact aa b (a6 av) λ⟨o',x,aJ,aU,cu⟩=>by rw[aH o' x aJ aU]at cu;cases cu
  cases ad with
  | cH h=>unfold N at hb;split at hb<;>simp[dZ]at h hb
  |cw bZ=>simp[N]at hb;subst hb;exact key _ rfl bZ
  |slice bZ=>simp[N]at hb;subst hb;exact key _ rfl bZ
  |map bZ=>simp[N]at hb;subst hb;exact key _ rfl bZ
  |iu e dx=>simp[N]at hb;subst hb;exact Ia _ dx
  |ek e dx=>simp[N]at hb;subst hb;exact Ia _ dx
  |_=>simp[N]at hb
theorem XA(K:ec M u t m)(bI:g4 u M A ak){a9:List (Operand×Operand)}(hy:a9.all (λp=>cX p.1&&cX p.2)=true){aC:ov P}{f:Nat}{args bY:List Value}(aA:bo u M args bY){aW:Value->W->Prop}(h:tk aC f args t (lO A t a9) aW):
    gp P f bY m λdL aq=>qZ ak a9 m aq/\ ∃cL cP r aI,aW r aI/\ec cL cP aI aq/\b5 cP cL r dL/\eN t.next m.next M u t m cL cP aI aq:=by
  unfold tk at h;split at h
  · refine(UB K aA h).b8 λdL aq aQ=> ?_;obtain⟨E,cP,r,aI,I,av,aH,br⟩:=aQ;exact⟨af5 K bI hy E,M,cP,r,aI,I,av,aH,br⟩
  · cases ck:lO A t a9 with
    | nil=>
      rw[ck]at h;simp only[xY]at h;have I:fi P f args t aW:=by
        split at h
        · exact ahV h
        · exact h
      refine(I M u bY m K aA).b8 λdL aq aQ=> ?_;obtain⟨cL,cP,r,aI,I,av,aH,br⟩:=aQ;exact⟨Nu K bI hy br.jx (by rw[ck];nofun),cL,cP,r,aI,I,av,aH,br⟩
    | cons o l=>
      rw[ck]at h;simp only[xY]at h;have Q6: ∀p∈o::l,∃x,t.X p=some x/\x.cells≠[]:= λp ab=>by
        have:=eQ.1 h.1 p ab;unfold NQ at this;split at this
        · next x G=>exact⟨x,G,λe=>by rw[e]at this;simp at this⟩
        · cases this
      have I:fi P f args (iY t (o::l)) λr bD=>aW r (kK t bD (o::l)):=by
        have av:=h.2;split at av
        · exact ahV av
        · exact av
      refine(Yl Q6 I K aA).b8 λdL aq aQ=> ?_;obtain⟨en,cL,cP,mK,aI,aa,av,aH,br⟩:=aQ;exact⟨Nu K bI hy br.jx (by rw[ck];exact en),cL,cP,mK,_,aa,av,aH,br⟩
def xS(M:eM)(u:fQ)(t m:W)(base gF:Nat)(ops:List bp):Prop:= ∀o∈ops,o.k.e3=true->rn M u t m (base+o.aS) (gF+o.aS)
theorem nodup_cons{o:bp}{ops:List bp}(h:vw ((o::ops).map (·.aS))=true):(∀p∈ops,p.aS≠o.aS)/\vw (ops.map (·.aS))=true:=by simp only[mO,vw,a1]at h;refine⟨λp ab e=> ?_,h.2⟩;have E:=h.1;simp at E;exact E p ab e
theorem OQ{aC:ov P}{base gF:Nat}: ∀{ops:List bp} {M:eM} {u:fQ} {t m:W} {A ak:aR} {aW:aR->W->Prop},ops.all Ip=true->vw (ops.map (·.aS))=true->ec M u t m->g4 u M A ak->xS M u t m base gF ops->base<=t.next->gF<=m.next->
    dv aC base ops A t aW->hI P gF ops ak m λjU aq=> ∃cL cP bQ aI,aW bQ aI/\ec cL cP aI aq/\g4 cP cL bQ jU/\eN base gF M u t m cL cP aI aq
  | [],M,u,t,m,A,ak,aW,_,_,K,bI,_,_,_,h=>by rw[Wo];exact⟨M,u,A,t,h,K,bI,eN.refl⟩
  | o::ops,M,u,t,m,A,ak,aW,au,js,K,bI,eX,hb,sD,h=>by
    obtain⟨aS,d,g,k,a9⟩:=o;simp only[nm,a1]at au;obtain⟨cJ,Al⟩:=nodup_cons js;have u3:=au.1;simp only[Ip,a1]at u3;have skip: ∀{g:Option (Nat×Bool)},dv aC base ops (dc A d undef) t aW->hI P gF ops (dc ak d undef) m λjU aq=> ∃cL cP bQ aI,aW bQ aI/\ec cL cP aI aq/\g4 cP cL bQ jU/\eN base gF M u t m cL cP aI aq:= λh=>
      OQ au.2 Al K (bI.a0 b5.undef) (λo aE aA=>eX o (by simp[aE]) aA) hb sD h
    have Bl:j1 aC base ⟨aS,d,g,k,a9⟩ A t (λA t=>dv aC base ops A t aW)->hI P gF (⟨aS,d,none,k,a9⟩::ops) ak m λjU aq=> ∃cL cP bQ aI,aW bQ aI/\ec cL cP aI aq/\g4 cP cL bQ jU/\eN base gF M u t m cL cP aI aq:= λh=>by
      have after: ∀{dL:Value} {bk:W},(qZ ak a9 m bk/\ ∃cL cP r aI,(dv aC base ops (dc A d r) aI aW)/\ec cL cP aI bk/\b5 cP cL r dL/\eN t.next m.next M u t m cL cP aI bk)->
          wi P gF d a9 ops ak m (λjU aq=> ∃cL cP bQ aI,aW bQ aI/\ec cL cP aI aq/\g4 cP cL bQ jU/\eN base gF M u t m cL cP aI aq) dL bk:= λ{dL bk} ⟨aa,cC,dz,r,bD,E,I,av,aH⟩=>by
        refine⟨aa,?_⟩;have Au:g4 dz cC (dc A d r) (dc ak d dL):=(bI.b8 aH.f aH.e).a0 av;have Ab:xS cC dz bD bk base gF ops:= λo aE aA=>by
          have az:=eX o (by simp[aE]) aA;refine⟨?_,λo' mE=> ?_,?_,pH az.sX aH.jP,pH az.q1 aH.jZ⟩
          · cases bn:cC (base+o.aS)with
            |none=>rfl
            | some b=>
              rcases aH.kb _ _ bn with br|⟨br,_⟩
              · rw[az.e]at br;cases br
              · have:=az.sX;omega
          · rcases aH.kb _ _ mE with br|⟨_,br⟩
            · exact az.b _ br
            · have:=az.q1;omega
          · cases bn:dz (gF+o.aS)with
            |none=>rfl
            | some cs=>
              rcases aH.fn _ _ bn with br|br|⟨o',_,br,_⟩
              · rw[az.f]at br;cases br
              · have:=az.q1;omega
              · exact absurd br (az.b o')
        have cx:=OQ au.2 Al I Au Ab (kC hb aH.jP) (kC sD aH.jZ) E;obtain⟨n,ba,dR,hZ,fP,ji,dt,iW,a8,bE,b7,eH⟩:=cx;exact⟨n,ba,dR,hZ,fP,ji,dt,iW,a8,bE,b7,(aH.zx hb sD).trans eH⟩
      have Uq: ∀{k:ag},k.ke=false->xd k=true->(k.e3=true->rn M u t m (base+aS) (gF+aS))->(k.iw A t=true/\iO A t a9=true/\dv aC base ops (dc A d (k.iJ (base+aS) A t)) (k.mo (base+aS) A t) aW)->
          hI P gF (⟨aS,d,none,k,a9⟩::ops) ak m λjU aq=> ∃cL cP bQ aI,aW bQ aI/\ec cL cP aI aq/\g4 cP cL bQ jU/\eN base gF M u t m cL cP aI aq:= λ{k} ar aa az h=>by
        rw[vS ar];obtain⟨E,cC,q⟩:=agP (gU:=base) (hL:=gF) (id:=base+aS) (mid:=gF+aS) K bI ar aa h.1 az (by omega) (by omega);refine⟨E,XN K bI u3.2 h.2.1,?_⟩;have Au:g4 u cC (dc A d (k.iJ (base+aS) A t)) (dc ak d (k.val (gF+aS) ak m)):=(bI.b8 q.bF.f q.bF.e).a0 q.val;have Ab:xS cC u (k.mo (base+aS) A t) (k.gG (gF+aS) ak m) base gF ops:= λo aE aA=>by
          have az:=eX o (by simp[aE]) aA;have G:=cJ o aE;simp only at G;refine⟨by rw[q.Iw _ (by omega)];exact az.e,λo' mE=> ?_,az.f,pH az.sX q.bF.jP,pH az.q1 q.bF.jZ⟩;by_cases e:o'=base+aS
          · subst e;rcases q.self with br|br
            · rw[br]at mE;exact az.b _ mE
            · rw[br]at mE;simp only[lV]at mE;omega
          · rw[q.Iw _ e]at mE;exact az.b _ mE
        have cx:=OQ au.2 Al q.VR Au Ab (kC hb q.bF.jP) (kC sD q.bF.jZ) h.2.2;obtain⟨n,ba,dR,hZ,fP,ji,dt,iW,a8,bE,b7,eH⟩:=cx;exact⟨n,ba,dR,hZ,fP,ji,dt,iW,a8,bE,b7,q.bF.trans eH⟩
      have wI:=eX ⟨aS,d,g,k,a9⟩ (by simp);have Ac:=u3.1;have bB:=Ac;simp only[xd,a1]at bB;cases k with
      | dY f bY=>rw[Wn];exact(XA K bI u3.2 (bI.x5 bB.1) h).b8 λdL bk aQ=>after aQ
      | iN x bY=>
        simp only[j1,Fv]at h;simp only[ag.hh,nm,a1]at bB;split at h
        · next f first mA G=>have ad:=bI.Z bB.1.1;rw[G]at ad;obtain⟨ys,ds,e,gu,ga⟩:=ad.Aw;rw[aiz e];exact(XA K bI u3.2 ((gu.o6 (bI.x5 bB.1.2)).o6 ga) h).b8 λdL bk aQ=>after aQ
        · exact h.elim
      |iR=>exact h.elim
      |_=>exact Uq rfl Ac wI h
    simp only[dv]at h;cases g with
    |none=>exact Bl (by simpa[eR]using h)
    | some g=>
      obtain⟨j,b⟩:=g;rw[O1,Wc bI];split at h
      · next a3=>rw[if_pos a3];exact Bl h
      · next a3=>rw[if_neg a3];exact skip (g:=none) h
theorem PD(K:ec M u t m)(k:Nat):ec M u (t.cf k) (m.cf k) where
  ij o x G:=by
    by_cases h:o<t.next
    · rw[e0 h]at G;rcases K.ij o x G with⟨b,cs,w,E,I,av⟩|E
      · exact .inl ⟨b,cs,w,E,by rw[e0 (a6 I),I],av⟩
      · exact .inr E
    · simp[W.X,W.cf,h]at G
  maps o bc bn:=by
    by_cases h:o<t.next
    · rw[Qp h]at bn;obtain⟨b,de,E,I,av⟩:=K.maps o bc bn;exact⟨b,de,E,by rw[Qp (K.cV o b E).2,I],av⟩
    · have:=(iz bn).1;simp[W.X,W.cf,h]at this
  iD:=K.iD
  inj:=K.inj
  cV o b h:=by have:=K.cV o b h;simp only[y3];omega
  bF b cs h:=by obtain⟨⟨w,E⟩,I⟩:=K.bF b cs h;refine⟨⟨w,by rw[e0 (a6 E),E]⟩,λo x bZ G=> ?_⟩;rw[e0 (K.cV o b bZ).1]at G;exact I o x bZ G
theorem JZ(K:ec M u t m)(k:Nat):eN t.next m.next M u t m M u (t.cf k) (m.cf k) where
  e:=fY.refl _
  f:=hp.refl _
  kb o b h:= .inl h
  fn b cs h:= .inl h
  jP:=by simp
  jZ:=by simp
  jx b hb _:=e0 hb
  nT b hb:= λ⟨o,x,E,I,av⟩=>⟨o,x,E,by rw[e0 (K.cV o b E).1]at I;exact I,av⟩
  nn b hb:= λ⟨o,x,E,I⟩=>⟨o,x,E,by rw[e0 (K.cV o b E).1]at I;exact I⟩
theorem aB9{aC:ov P}{ops:List bp}(au:m9 (.D ops)=true)(K:ec M u t m)(bI:g4 u M A ak){aW:aR->W->Prop}(h:dv aC t.next ops A (hl ops t) aW):
    hI P m.next ops ak (hl ops m) λjU aq=> ∃cL cP bQ aI,aW bQ aI/\ec cL cP aI aq/\g4 cP cL bQ jU/\eN t.next m.next M u t m cL cP aI aq:=by
  simp only[m9,a1]at au;have u5:ec M u (hl ops t) (hl ops m):=by
    unfold hl;split
    · exact PD K _
    · exact K
  have sy:eN t.next m.next M u t m M u (hl ops t) (hl ops m):=by
    unfold hl;split
    · exact JZ K _
    · exact eN.refl
  have wG:xS M u (hl ops t) (hl ops m) t.next m.next ops:= λo aE aA=>by
    have F0:(ops.any λo=>o.k.e3)=true:=List.any_eq_true.2 ⟨o,aE,aA⟩;have qP:o.aS<ops.length:=(by simpa using eQ.1 au.2 o aE);refine⟨?_,λo' mE=> ?_,?_,by simp[hl,F0,qP],by simp[hl,F0,qP]⟩
    · cases bn:M (t.next+o.aS)with
      |none=>rfl
      |some b=>have:=(K.cV _ _ bn).1;omega
    · have:=(K.cV _ _ mE).2;omega
    · cases bn:u (m.next+o.aS)with
      |none=>rfl
      |some cs=>obtain⟨⟨w,E⟩,_⟩:=K.bF _ _ bn;have:=a6 E;omega
  have:=OQ au.1.1 au.1.2 u5 bI wG sy.jP sy.jZ h;obtain⟨n,ba,dR,hZ,fP,ji,dt,iW,a8,bE,b7,eH⟩:=this;exact⟨n,ba,dR,hZ,fP,ji,dt,iW,a8,bE,b7,sy.trans eH⟩
theorem BX{aC:ov P}: ∀{c:H} {A:aR} {t:W} {Q:dA->aR->W->Prop},jn aC c A t Q->fZ P c A t Q
  | .skip,A,t,Q,h=> λ_ M u ak m K bI=>by rw[Wm];exact⟨M,u,A,t,h,K,bI,eN.refl⟩
  | .a7 id,A,t,Q,h=> λ_ M u ak m K bI=>by rw[Wj];exact⟨M,u,A,t,h,K,bI,eN.refl⟩
  | .aF,A,t,Q,h=> λ_ M u ak m K bI=>by rw[Wl];exact⟨M,u,A,t,h,K,bI,eN.refl⟩
  | .D ops,A,t,Q,h=> λau M u ak m K bI=>by rw[Wk];exact aB9 au K bI h
  | .q0 _ _ _,_,_,_,h=>h.elim
  | .B a b,A,t,Q,h=> λau M u ak m K bI=>by
    simp only[m9,a1]at au;rw[OZ];refine(BX (c:=a) h au.1 M u ak m K bI).b8 λe ba bk aQ=> ?_;obtain⟨cC,dz,bQ,bD,E,I,av,aH⟩:=aQ;cases e with
    | ew=>rw[VW];refine(BX (c:=b) E au.2 cC dz ba bk I av).b8 λe eP dR aQ=> ?_;obtain⟨fP,ji,dt,iW,aK,bb,c0,ea⟩:=aQ;exact⟨fP,ji,dt,iW,aK,bb,c0,aH.trans (ea.zx aH.jP aH.jZ)⟩
    |a7 id=>exact⟨cC,dz,bQ,bD,E,I,av,aH⟩
    |aF=>exact⟨cC,dz,bQ,bD,E,I,av,aH⟩
  | .aM c a b,A,t,Q,h=> λau M u ak m K bI=>by
    simp only[m9,a1]at au;rw[OY];have e:=afP (bI.Z au.1.1) h.1;rw[e];refine⟨h.1,?_⟩;have I:=h.2;split at I
    · next ar=>rw[if_pos ar];exact BX (c:=a) I au.1.2 M u ak m K bI
    · next ar=>rw[if_neg ar];exact BX (c:=b) I au.2 M u ak m K bI
  | .block id c,A,t,Q,h=> λau M u ak m K bI=>by
    rw[Ji];refine(BX (c:=c) h au M u ak m K bI).b8 λe ba bk aQ=> ?_;obtain⟨cC,dz,bQ,bD,E,I⟩:=aQ;cases e with
    |ew=>exact⟨cC,dz,bQ,bD,E,I⟩
    |aF=>exact⟨cC,dz,bQ,bD,E,I⟩
    | a7 jg=>
      rw[Ch];simp only at E;split at E
      · next e=>rw[if_pos e];exact⟨cC,dz,bQ,bD,E,I⟩
      · next e=>rw[if_neg e];exact⟨cC,dz,bQ,bD,E,I⟩
  | .loop c,A,t,Q,h=>h
theorem fZ.b8{c:H}{Q xT:dA->aR->W->Prop}(h:fZ P c A t Q)(bd: ∀e A t,Q e A t->xT e A t):fZ P c A t xT:= λau M u ak m K bI=>(h au M u ak m K bI).b8 λe ba bk aQ=>by obtain⟨cC,dz,bQ,bD,E,I⟩:=aQ;exact⟨cC,dz,bQ,bD,bd _ _ _ E,I⟩
theorem fi.b8{f:Nat}{args:List Value}{cj mP:Value->W->Prop}(h:fi P f args t cj)(bd: ∀r t,cj r t->mP r t):fi P f args t mP:= λM u bY m K aA=>(h M u bY m K aA).b8 λdL bk aQ=>by obtain⟨cC,dz,r,bD,E,I⟩:=aQ;exact⟨cC,dz,r,bD,bd _ _ E,I⟩
theorem eE{aC:ov P}{c:H}{Q:dA->aR->W->Prop}(h: ∀cS:aR->W->Prop,(∀ak aI,fZ P (.loop c) ak aI Q->cS ak aI)->jn aC c A t (Be cS Q)):fZ P (.loop c) A t Q:= λau M u ak m K bI=>by
  rw[aiy];refine(BX (h (λak aI=>fZ P (.loop c) ak aI Q) (λ_ _ h=>h)) au M u ak m K bI).b8 λe ba bk aQ=> ?_;obtain⟨cC,dz,bQ,bD,E,I,av,aH⟩:=aQ;cases e with
  | ew=>rw[agd];refine(E au cC dz ba bk I av).b8 λe eP dR aQ=> ?_;obtain⟨fP,ji,dt,iW,aK,bb,c0,ea⟩:=aQ;exact⟨fP,ji,dt,iW,aK,bb,c0,aH.trans (ea.zx aH.jP aH.jZ)⟩
  |a7 id=>exact⟨cC,dz,bQ,bD,E,I,av,aH⟩
  |aF=>exact⟨cC,dz,bQ,bD,E,I,av,aH⟩
theorem fi.drop{f:Nat}{args:List Value}{cj mP:Value->W->Prop}(h:fi P f args t cj)(aD: ∀r aI,cj r aI-> ∃sU,mP r sU/\sU.next=aI.next/\sU.mp=aI.mp/\ ∀b x,sU.X b=some x->aI.X b=some x):fi P f args t mP:= λM u bY m K aA=>(h M u bY m K aA).b8 λdL bk aQ=>by
  obtain⟨cC,dz,r,bD,E,I,av,aH⟩:=aQ;obtain⟨iW,aK,bb,c0,ea⟩:=aD r bD E;have z4: ∀o bc,iW.eS o=some bc->bD.eS o=some bc:= λo bc bn=>by obtain⟨aJ,aU⟩:=iz bn;exact kq (ea _ _ aJ) (by rw[<-c0];exact aU)
  refine⟨cC,dz,r,iW,aK,⟨λo x G=>I.ij o x (ea o x G),λo bc bn=>I.maps o bc (z4 o bc bn),λo aE=>by rw[c0];exact I.iD o aE,I.inj,λo b hb=>by rw[bb];exact I.cV o b hb,λb cs hb=>⟨(I.bF b cs hb).1,λo x bZ G=>(I.bF b cs hb).2 o x bZ (ea o x G)⟩⟩,av,?_⟩;exact⟨aH.e,aH.f,aH.kb,aH.fn,by rw[bb];exact aH.jP,aH.jZ,aH.jx,λb hb ⟨o,x,a8,bE,b7⟩=>aH.nT b hb ⟨o,x,a8,ea _ _ bE,b7⟩,λb hb ⟨o,x,a8,bE⟩=>aH.nn b hb ⟨o,x,a8,ea _ _ bE⟩⟩
def UH(cy:List ld)(cj:Value->W->Prop)(e:dA)(A:aR)(t:W):Prop:=match e with| .a7 _=>False|_=>k7 t A cy=true/\cj (lu t A cy) t
theorem UG(K:ec M u t m)(bI:g4 u M A ak){r:ld}(h:py t A r=true):py m ak r=true/\b5 u M (qj t A r) (qj m ak r):=by
  cases r with
  |bw x=>exact⟨rfl,bI x⟩
  | im x dp n=>
    simp only[py,a1]at h⊢;have ny:mH (A x)=false:=by have E:=h.1;cases G:A x<;>simp[G,gD]at E<;>rfl
    have E:pS t (A x) n=true:=(by rw[pS,ny];exact h.1);refine⟨⟨Ff K (bI x) E,h.2⟩,?_⟩;have:=T2 K (bI x) E h.2;rw[w7,ny]at this;exact this
theorem UJ(K:ec M u t m)(bI:g4 u M A ak){cy:List ld}(h:k7 t A cy=true):k7 m ak cy=true/\b5 u M (lu t A cy) (lu m ak cy):=by
  simp only[k7,eQ]at h⊢;refine⟨λr aw=>(UG K bI (h r aw)).1,?_⟩;have aB:bo u M (cy.map (qj t A)) (cy.map (qj m ak)):=bo.D9 _ _ _ λr aw=>(UG K bI (h r aw)).2;unfold lu;split
  · exact(UG K bI (h _ (by simp))).2
  · exact aB.tuple
theorem dD{aC:ov P}{f:Nat}{Fn:bM}(dx:bW P f=some Fn)(au:m9 Fn.body=true){args:List Value}(aB:args.length<=Fn.cZ){cj:Value->W->Prop}(h:jn aC Fn.body (jI args) t (UH Fn.jA cj)):fi P f args t cj:= λM u bY m K aA=>by
  rw[sY dx (by rw[<-aA.1];exact aB)];refine(BX h au M u (jI bY) m K (g4.init aA)).b8 λe ba bk aQ=> ?_;obtain⟨cC,dz,bQ,bD,E,I,av,aH⟩:=aQ;cases e with
  |a7 id=>exact E.elim
  |ew=>obtain⟨a,b⟩:=UJ I av E.1;exact⟨a,cC,dz,_,bD,E.2,I,b,aH⟩
  |aF=>obtain⟨a,b⟩:=UJ I av E.1;exact⟨a,cC,dz,_,bD,E.2,I,b,aH⟩
def g0:W:=⟨0,λ_=>none,λ_=>none⟩
theorem agj(o:Nat):g0.X o=none:=by simp[g0,W.X]
theorem ahL(dx:uJ u m):ec lr u g0 m where
  ij o x G:=by rw[agj]at G;cases G
  maps o bc bn:=by have:=(iz bn).1;rw[agj]at this;cases this
  iD o _:=rfl
  inj o o' b h:=by cases h
  cV o b h:=by cases h
  bF b cs h:=⟨dx b cs h,λo x bZ=>by cases bZ⟩
open Classical in
theorem ei{f:Nat}{args:List Value}{r:Value}(h:fi P f args g0 λv t=>dI 9 t v=some r):bH P f args r:= λu m bY dx aA=>by
  refine(h lr u bY m (ahL dx) aA).b8 λdL aq aQ=> ?_;obtain⟨cL,cP,v,aI,E,I,av,aH⟩:=aQ;refine⟨aH.jZ,(λb hb=>aH.jx b hb λ⟨o,x,e,_⟩=>by cases e),(λb=>match cP b with
    |some cs=>some cs
    |none=>if∃o,cL o=some b then(aq.X b).map (·.cells)else none),λb cs hb=> ?_,λb cs hb=> ?_,?_⟩
  · simp only[aH.f b cs hb]
  · simp only at hb;split at hb
    · next br=>cases hb;exact(I.bF b _ br).1
    · split at hb
      · cases aP:aq.X b with
        |none=>rw[aP]at hb;cases hb
        |some x=>rw[aP]at hb;cases hb;exact⟨x.own,rfl⟩
      · cases hb
  · refine FJ I (λb cs hb=>by simp only[hb]) 9 av E λo aE fv b cs w bZ aP=> ?_;cases oC:cP b with
    |some ds=>obtain⟨⟨c3,n4⟩,_⟩:=I.bF b ds oC;rw[aP]at n4;cases n4;rfl
    |none=>rw[if_pos ⟨o,bZ⟩,aP];rfl
theorem ES{c:H}{Q:dA->aR->W->Prop}{d J:Nat}(dk:A d= .slice none 0 0)(h:fZ P c (qt A d (.slice (some ⟨t.next,0,none⟩) 0 J)) ((t.cf 1).a0 t.next (some ⟨[],true⟩)) Q):fZ P c A t Q:= λau M u ak m K bI=>by
  have bZ:M t.next=none:=by
    cases bn:M t.next with
    |none=>rfl
    |some b=>have:=(K.cV _ _ bn).1;omega
  have u5:ec M u ((t.cf 1).a0 t.next (some ⟨[],true⟩)) m:=by
    refine⟨λo x G=> ?_,λo bc bn=> ?_,K.iD,K.inj,λo b h=>⟨by have:=(K.cV o b h).1;simp only[mr,y3];omega,(K.cV o b h).2⟩,λb cs hb=> ?_⟩
    · by_cases aE:o=t.next
      · subst aE;rw[eD (by simp)]at G;cases G;exact .inr ⟨bZ,rfl⟩
      · rw[bR aE,W.e0]at G;exact K.ij o x G
    · by_cases aE:o=t.next
      · subst aE;have:=(iz bn).2;rw[show((t.cf 1).a0 t.next (some ⟨[],true⟩)).mp=t.mp from rfl,K.iD _ bZ]at this;cases this
      · rw[tv aE]at bn;obtain⟨aJ,aU⟩:=iz bn;rw[W.e0]at aJ;exact K.maps o bc (kq aJ aU)
    · obtain⟨E,I⟩:=K.bF b cs hb;refine⟨E,λo x QA G=> ?_⟩;have aE:o≠t.next:= λe=>by subst e;rw[bZ]at QA;cases QA
      rw[bR aE,W.e0]at G;exact I o x QA G
  have am4:g4 u M (qt A d (.slice (some ⟨t.next,0,none⟩) 0 J)) ak:= λx=>by
    have G:=bI x;simp only[qt];split
    · next e=>subst e;rw[dk]at G;rw[G.h7 rfl];exact .pD
    · exact G
  refine(h au M u ak m u5 am4).b8 λe ba bk aQ=> ?_;obtain⟨cC,dz,bQ,bD,E,I,av,aH⟩:=aQ;refine⟨cC,dz,bQ,bD,E,I,av,?_⟩;have als:eN t.next m.next M u t m M u ((t.cf 1).a0 t.next (some ⟨[],true⟩)) m:=⟨fY.refl _,hp.refl _,λ_ _ h=> .inl h,λ_ _ h=> .inl h,by simp,ey _,λ_ _ _=>rfl,λb hb=> λ⟨o,x,aJ,aU,cu⟩=>by
    have aE:o≠t.next:= λe=>by subst e;rw[bZ]at aJ;cases aJ
    rw[bR aE,W.e0]at aU;exact⟨o,x,aJ,aU,cu⟩,λb hb=> λ⟨o,x,aJ,aU⟩=>by
    have aE:o≠t.next:= λe=>by subst e;rw[bZ]at aJ;cases aJ
    rw[bR aE,W.e0]at aU;exact⟨o,x,aJ,aU⟩⟩
  exact als.trans (aH.zx (by simp) (ey _))
end
open Go
section
variable {P:Program} {aC:ov P} {qo:List (bC P)} {OD:List (ie P)} {base aS:Nat} {d:Option Nat} {b4:List bp} {A:aR} {t:W} {aW:aR->W->Prop} {a9:List (Operand×Operand)} {Q:dA->aR->W->Prop}
def OP(aC:ov P)(b:H)(Q:dA->aR->W->Prop)(e:dA)(A:aR)(t:W):Prop:=match e with
  | .ew=>jn aC b A t Q
  |e=>Q e A t
@[simp] theorem aRR{b:H}:OP aC b Q .ew A t=jn aC b A t Q:=propext kl
@[simp] theorem aRQ{b:H}{id:Nat}:OP aC b Q (.a7 id) A t=Q (.a7 id) A t:=propext kl
@[simp] theorem aRS{b:H}:OP aC b Q .aF A t=Q .aF A t:=propext kl
@[simp] theorem aOg{u:List ld}{cj:Value->W->Prop}:UH u cj .ew A t=(k7 t A u=true/\cj (lu t A u) t):=propext kl
@[simp] theorem aOh{u:List ld}{cj:Value->W->Prop}:UH u cj .aF A t=(k7 t A u=true/\cj (lu t A u) t):=propext kl
@[simp] theorem aR2:jn aC .skip A t Q=Q .ew A t:=propext kl
@[simp] theorem aRX{id:Nat}:jn aC (.a7 id) A t Q=Q (.a7 id) A t:=propext kl
@[simp] theorem aR0:jn aC .aF A t Q=Q .aF A t:=propext kl
@[simp] theorem aRZ{ops:List bp}:jn aC (.D ops) A t Q=dv aC t.next ops A (hl ops t) (Q .ew):=propext kl
@[simp] theorem aR1{a b:H}:jn aC (.B a b) A t Q=jn aC a A t (OP aC b Q):=propext kl
@[simp] theorem aRW{c:Operand}{a b:H}:jn aC (.aM c a b) A t Q=(sK (Z A c)=true/\if uM (Z A c)=true then jn aC a A t Q else jn aC b A t Q):=propext kl
@[simp] theorem aRV{id:Nat}{c:H}:jn aC (.block id c) A t Q=jn aC c A t (Fo id Q):=propext kl
@[simp] theorem aRY{c:H}:jn aC (.loop c) A t Q=fZ P (.loop c) A t Q:=propext kl
@[simp] theorem aSq:dv aC base [] A t aW=aW A t:=propext kl
@[simp] theorem aSf{k:ag}{j:Nat}{b:Bool}:dv aC base (⟨aS,d,some (j,b),k,a9⟩::b4) A t aW=if eR A (some (j,b))=true then dv aC base (⟨aS,d,none,k,a9⟩::b4) A t aW else dv aC base b4 (dc A d undef) t aW:=by simp only[dv];rfl
def TV(aC:ov P)(base:Nat)(d:Option Nat)(b4:List bp)(A:aR)(aW:aR->W->Prop)(r:Value)(t:W):Prop:=dv aC base b4 (dc A d r) t aW
@[simp] theorem aL3{r:Value}:TV aC base d b4 A aW r t=dv aC base b4 (dc A d r) t aW:=propext kl
@[simp] theorem aR9{f:Nat}{bY:List Operand}:dv aC base (⟨aS,d,none,.dY f bY,a9⟩::b4) A t aW=tk aC f (bY.map (Z A)) t (lO A t a9) (TV aC base d b4 A aW):=by simp only[dv,eR,if_true];rfl
@[simp] theorem aSa{x:Operand}{bY:List Operand}:dv aC base (⟨aS,d,none,.iN x bY,a9⟩::b4) A t aW=Fv aC (Z A x) (bY.map (Z A)) t (lO A t a9) (TV aC base d b4 A aW):=by simp only[dv,eR,if_true];rfl
@[simp] theorem aII{f:Nat}{first mA:Array Value}{args:List Value}{L:List Nat}{aW:Value->W->Prop}:Fv aC (.func (.func f) first mA) args t L aW=tk aC f (first.toList++args++mA.toList) t L aW:=propext kl
@[simp] theorem aSo(x:Operand):dv aC base (⟨aS,d,none,.mq x,a9⟩::b4) A t aW=(iO A t a9=true/\dv aC base b4 (dc A d (Z A x)) (t) aW):=by simp only[dv,eR,if_true,j1,ag.iw,ag.ok,true_and];rfl
@[simp] theorem aSs(c a b:Operand):dv aC base (⟨aS,d,none,.sQ c a b,a9⟩::b4) A t aW=(sK (Z A c)=true/\(iO A t a9=true/\dv aC base b4 (dc A d (if uM (Z A c)=true then Z A a else Z A b)) (t) aW)):=by simp only[dv,eR,if_true,j1];rfl
@[simp] theorem aSr(x:Operand):dv aC base (⟨aS,d,none,.qe x,a9⟩::b4) A t aW=(AW (Z A x)=true/\(iO A t a9=true/\dv aC base b4 (dc A d (Z A x)) (t) aW)):=by simp only[dv,eR,if_true,j1];rfl
@[simp] theorem aR3(J:List Value):dv aC base (⟨aS,d,none,.c9 J,a9⟩::b4) A t aW=(iO A t a9=true/\dv aC base b4 (dc A d (.pointer (some ⟨base+aS,0,none⟩))) (t.a0 (base+aS) (some ⟨J,true⟩)) aW):=by simp only[dv,eR,if_true,j1,ag.iw,ag.ok,true_and];rfl
@[simp] theorem aR6(x:Operand):dv aC base (⟨aS,d,none,.mz x,a9⟩::b4) A t aW=(U (Z A x)=true/\(iO A t a9=true/\dv aC base b4 (dc A d (.pointer (some ⟨base+aS,0,none⟩))) (t.a0 (base+aS) (some ⟨O (Z A x),true⟩)) aW)):=by simp only[dv,eR,if_true,j1];rfl
@[simp] theorem aR8(J:List Value)(ps:List (Nat×Nat×Operand)):dv aC base (⟨aS,d,none,.fF J ps,a9⟩::b4) A t aW=(qh J A ps=true/\(iO A t a9=true/\dv aC base b4 (dc A d (.agg (l5 J A ps).toArray)) (t) aW)):=by simp only[dv,eR,if_true,j1];rfl
@[simp] theorem aR7(J n:Nat)(cs:List Value)(ps:List (Nat×Nat×Operand)):dv aC base (⟨aS,d,none,.gM J n cs ps,a9⟩::b4) A t aW=(qh cs A ps=true/\(iO A t a9=true/\dv aC base b4 (dc A d (.slice (some ⟨base+aS,0,none⟩) n J)) (t.a0 (base+aS) (some ⟨l5 cs A ps,true⟩)) aW)):=by simp only[dv,eR,if_true,j1];rfl
@[simp] theorem aSj(dp:Bool)(n:Nat)(x:Operand):dv aC base (⟨aS,d,none,.k5 dp n x,a9⟩::b4) A t aW=((pS t (Z A x) n&&(dp||decide (n=1)))=true/\(iO A t a9=true/\dv aC base b4 (dc A d (w7 t dp n (Z A x))) (t) aW)):=by simp only[dv,eR,if_true,j1];rfl
@[simp] theorem aSv(n:Nat)(x v:Operand):dv aC base (⟨aS,d,none,.store n x v,a9⟩::b4) A t aW=((gD t (Z A x) n&&pT t (Z A x)&&U (Z A v)&&decide ((O (Z A v)).length=n))=true/\(iO A t a9=true/\dv aC base b4 (dc A d (undef)) (nP t (Z A x) (O (Z A v))) aW)):=by simp only[dv,eR,if_true,j1];rfl
@[simp] theorem aR5(op:BinOp)(c:td)(x y:Operand):dv aC base (⟨aS,d,none,.e8 op c x y,a9⟩::b4) A t aW=((mc (Z A x)&&mc (Z A y)&&ru op c (Z A x) (Z A y))=true/\(iO A t a9=true/\dv aC base b4 (dc A d (lg op (Z A x) (Z A y))) (t) aW)):=by simp only[dv,eR,if_true,j1];rfl
@[simp] theorem aSw(op:UnOp)(x:Operand):dv aC base (⟨aS,d,none,.qs op x,a9⟩::b4) A t aW=(xA op (Z A x)=true/\(iO A t a9=true/\dv aC base b4 (dc A d (BY op (Z A x))) (t) aW)):=by simp only[dv,eR,if_true,j1];rfl
@[simp] theorem aSc(k:IntKind)(x:Operand):dv aC base (⟨aS,d,none,.si k x,a9⟩::b4) A t aW=(e4 (Z A x)=true/\(iO A t a9=true/\dv aC base b4 (dc A d (.int k (k.wrap (eZ (Z A x))))) (t) aW)):=by simp only[dv,eR,if_true,j1];rfl
@[simp] theorem aSb(x:Operand):dv aC base (⟨aS,d,none,.mT x,a9⟩::b4) A t aW=((kQ t 1 (Z A x)&&(lh t 1 (Z A x)).all AY)=true/\(iO A t a9=true/\dv aC base b4 (dc A d (.string (toBytes (lh t 1 (Z A x))))) (t) aW)):=by simp only[dv,eR,if_true,j1];rfl
@[simp] theorem aSu(J:Nat)(x:Operand)(cB ai:Option Operand):dv aC base (⟨aS,d,none,.nO J x cB ai,a9⟩::b4) A t aW=((lv J (Z A x)&&nK A cB&&nK A ai&&decide (0<=g1 A cB 0)&&decide (g1 A cB 0<=g1 A ai (kg (Z A x)))&&decide (g1 A ai (kg (Z A x))<=kg (Z A x)))=true/\(iO A t a9=true/\dv aC base b4 (dc A d (sa (Z A x) J (g1 A cB 0).toNat (g1 A ai (kg (Z A x))).toNat)) (t) aW)):=by simp only[dv,eR,if_true,j1];rfl
@[simp] theorem aSt(J n:Nat)(x:Operand):dv aC base (⟨aS,d,none,.pC J n x,a9⟩::b4) A t aW=((gD t (Z A x) (n*J)&&decide (n<=maxLen))=true/\(iO A t a9=true/\dv aC base b4 (dc A d (Fh (Z A x) J n)) (t) aW)):=by simp only[dv,eR,if_true,j1];rfl
@[simp] theorem aSm(J bytes:Nat)(lz:List Value)(l c:Operand):dv aC base (⟨aS,d,none,.kN J bytes lz l c,a9⟩::b4) A t aW=((e4 (Z A l)&&e4 (Z A c)&&decide (0<=eZ (Z A l))&&decide (eZ (Z A l)<=eZ (Z A c))&&decide (eZ (Z A c)*(bytes:Int)<=140737488355328)&&decide (eZ (Z A c)<=9223372036854775807)&&decide (0<J))=true/\(iO A t a9=true/\dv aC base b4 (dc A d (.slice (some ⟨base+aS,0,none⟩) (eZ (Z A l)).toNat J)) (t.a0 (base+aS) (some ⟨(List.replicate (eZ (Z A l)).toNat lz).flatten,true⟩)) aW)):=by simp only[dv,eR,if_true,j1];rfl
@[simp] theorem aSe(off:Nat)(x:Operand):dv aC base (⟨aS,d,none,.so off x,a9⟩::b4) A t aW=(px (Z A x)=true/\(iO A t a9=true/\dv aC base b4 (dc A d (vC (Z A x) off)) (t) aW)):=by simp only[dv,eR,if_true,j1];rfl
@[simp] theorem aSg(J:Nat)(x i:Operand):dv aC base (⟨aS,d,none,.oH J x i,a9⟩::b4) A t aW=((lv J (Z A x)&&e4 (Z A i)&&decide (0<=eZ (Z A i))&&decide (eZ (Z A i)<kg (Z A x)))=true/\(iO A t a9=true/\dv aC base b4 (dc A d (zj (Z A x) J (eZ (Z A i)))) (t) aW)):=by simp only[dv,eR,if_true,j1];rfl
@[simp] theorem aSh(J len:Nat)(x i:Operand):dv aC base (⟨aS,d,none,.ph J len x i,a9⟩::b4) A t aW=((px (Z A x)&&e4 (Z A i)&&decide (0<=eZ (Z A i))&&decide (eZ (Z A i)<(len:Int)))=true/\(iO A t a9=true/\dv aC base b4 (dc A d (vC (Z A x) ((eZ (Z A i)).toNat*J))) (t) aW)):=by simp only[dv,eR,if_true,j1];rfl
@[simp] theorem aSd(i:Nat)(x:Operand):dv aC base (⟨aS,d,none,.ext i x,a9⟩::b4) A t aW=(EK (Z A x) i=true/\(iO A t a9=true/\dv aC base b4 (dc A d (BW (Z A x) i)) (t) aW)):=by simp only[dv,eR,if_true,j1];rfl
@[simp] theorem aSi(x:Operand):dv aC base (⟨aS,d,none,.sM x,a9⟩::b4) A t aW=(yR (Z A x)=true/\(iO A t a9=true/\dv aC base b4 (dc A d (.int .i64 (kg (Z A x)))) (t) aW)):=by simp only[dv,eR,if_true,j1];rfl
@[simp] theorem aR4(J bytes:Nat)(x y:Operand):dv aC base (⟨aS,d,none,.app J bytes x y,a9⟩::b4) A t aW=((fS t J (Z A x)&&kj t (Z A x)&&kQ t J (Z A y)&&decide (0<J)&&decide ((gI (Z A x)+kz (Z A y))*bytes<=140737488355328)&&decide (gI (Z A x)+kz (Z A y)<=9223372036854775807))=true/\(iO A t a9=true/\dv aC base b4 (dc A d (if kz (Z A y)=0 then Z A x else .slice (some ⟨base+aS,0,none⟩) (gI (Z A x)+kz (Z A y)) J)) (if kz (Z A y)=0 then t else(kL t (Z A x)).a0 (base+aS) (some ⟨gj t J (Z A x)++lh t J (Z A y),true⟩)) aW)):=by simp only[dv,eR,if_true,j1];rfl
@[simp] theorem aSk(fr:Bool)(x:Operand)(xs:List Operand):dv aC base (⟨aS,d,none,.pq fr x xs,a9⟩::b4) A t aW=((e4 (Z A x)&&xs.all λy=>e4 (Z A y))=true/\(iO A t a9=true/\dv aC base b4 (dc A d (xs.foldl (λdH y=>if fr then ob dH (Z A y)else oc dH (Z A y)) (Z A x))) (t) aW)):=by simp only[dv,eR,if_true,j1];rfl
@[simp] theorem aSl:dv aC base (⟨aS,d,none,.m6,a9⟩::b4) A t aW=(iO A t a9=true/\dv aC base b4 (dc A d (.map (some (base+aS)))) (t.g2 (base+aS) []) aW):=by simp only[dv,eR,if_true,j1,ag.iw,ag.ok,true_and];rfl
@[simp] theorem aSn(fN:kD)(zero:Value)(o:Bool)(x k:Operand):dv aC base (⟨aS,d,none,.m7 fN zero o x k,a9⟩::b4) A t aW=(ags fN t (Z A x) (Z A k)=true/\(iO A t a9=true/\dv aC base b4 (dc A d (agt zero o t (Z A x) (Z A k))) (t) aW)):=by simp only[dv,eR,if_true,j1];rfl
@[simp] theorem aSp(fN:kD)(x k v:Operand):dv aC base (⟨aS,d,none,.l3 fN x k v,a9⟩::b4) A t aW=(agB fN t (Z A x) (Z A k) (Z A v)=true/\(iO A t a9=true/\dv aC base b4 (dc A d (undef)) (agA t (Z A x) (Z A k) (Z A v)) aW)):=by simp only[dv,eR,if_true,j1];rfl
@[simp] theorem aH5{ct:List Value}{k n:Nat}:pS t (ek ct k) n=decide (k+n<=ct.length):=by simp[pS]
@[simp] theorem aH6{a o n:Nat}:pS t (.pointer (some ⟨a,o,none⟩)) n=(match t.X a with|some x=>decide (o+n<=x.cells.length)|none=>false):=rfl
@[simp] theorem aMr{ct:List Value}{k n:Nat}{dp:Bool}:w7 t dp n (ek ct k)=if dp then .agg ((ct.drop k).take n).toArray else((ct.drop k).take 1).headD undef:=by simp[w7]
@[simp] theorem aMs{a o n:Nat}{dp:Bool}:w7 t dp n (.pointer (some ⟨a,o,none⟩))=if dp then .agg (hP t a o n).toArray else(hP t a o 1).headD undef:=rfl
@[simp] theorem aNy{ct:List Value}{k:Nat}:px (ek ct k)=true:=rfl
@[simp] theorem aNz{a o:Nat}:px (.pointer (some ⟨a,o,none⟩))=true:=rfl
@[simp] theorem aNw{ct:List Value}{k n:Nat}:vC (ek ct k) n=ek ct (k+n):=by simp[vC]
@[simp] theorem aNx{a o n:Nat}:vC (.pointer (some ⟨a,o,none⟩)) n= .pointer (some ⟨a,o+n,none⟩):=rfl
section
variable {bh:List (List Value)} {J jB l c n:Nat} {a:Option Addr} {ef:Addr} {s:ByteArray} {i:Int}
@[simp] theorem aLI:yR (aj bh J)=true:=rfl
@[simp] theorem aLJ:yR (.slice a l c)=true:=rfl
@[simp] theorem aMe:kg (aj bh J)=bh.length:=by simp[kg]
@[simp] theorem aMf:kg (.slice a l c)=l:=rfl
@[simp] theorem aRd:kz (aj bh J)=bh.length:=by simp[kz]
@[simp] theorem aRe:kz (.slice a l c)=l:=rfl
@[simp] theorem aRf:lv jB (aj bh J)=(J==jB):=by simp[lv]
@[simp] theorem aRh{b o:Nat}:lv J (.slice (some ⟨b,o,none⟩) l c)=(c==J):=by simp[lv,h8]
@[simp] theorem aRg:lv J (.slice none 0 0)=true:=rfl
@[simp] theorem aRk{h:Nat}:sa (aj bh J) jB l h=aj ((bh.take h).drop l) jB:=by simp[sa]
@[simp] theorem aRm{b o h:Nat}:sa (.slice (some ⟨b,o,none⟩) n c) J l h= .slice (some ⟨b,o+l*J,none⟩) (h-l) c:=rfl
@[simp] theorem aRl{h:Nat}:sa (.slice none n c) J l h= .slice none 0 0:=rfl
@[simp] theorem aRa:zj (aj bh J) jB i=ek (bh.getD i.toNat []) 0:=by simp[zj]
@[simp] theorem aRb{b o:Nat}:zj (.slice (some ⟨b,o,none⟩) l c) J i= .pointer (some ⟨b,o+i.toNat*J,none⟩):=rfl
@[simp] theorem aRs:kQ t jB (aj bh J)=(J==jB):=by simp[kQ]
@[simp] theorem aRu{b o:Nat}:kQ t J (.slice (some ⟨b,o,none⟩) l c)=(c==J&&(match t.X b with|some x=>decide (o+l*J<=x.cells.length)|none=>false)):=rfl
@[simp] theorem aRt:kQ t J (.slice none 0 0)=true:=rfl
@[simp] theorem aIU:lh t jB (aj bh J)=bh.flatten:=by simp[lh]
@[simp] theorem aIW{b o:Nat}:lh t J (.slice (some ⟨b,o,none⟩) l c)=hP t b o (l*J):=rfl
@[simp] theorem aIV:lh t J (.slice none l c)=[]:=rfl
end
@[simp] theorem aLR{k:IntKind}{n:Int}:kf (.int k n)=false:=rfl
@[simp] theorem aLO{b:Bool}:kf (.bool b)=false:=rfl
@[simp] theorem aLX{b:ByteArray}:kf (.string b)=false:=rfl
@[simp] theorem aLV{a:Option Addr}:kf (.pointer a)=false:=rfl
@[simp] theorem aLW{a:Option Addr}{l c:Nat}:kf (.slice a l c)=false:=rfl
@[simp] theorem aLS{a:Option Nat}:kf (.map a)=false:=rfl
@[simp] theorem aLN{a:Array Value}:kf (.agg a)=false:=rfl
@[simp] theorem aLY{a:Array Value}:kf (.tuple a)=false:=rfl
@[simp] theorem aLZ:kf undef=false:=rfl
@[simp] theorem aLP{f:Nat}{a b:Array Value}:kf (.func (.func f) a b)=false:=rfl
@[simp] theorem aLT:kf .nilFunc=false:=rfl
@[simp] theorem aLU:kf .nilIface=false:=rfl
@[simp] theorem aLQ{t:TypeId}{v:Value}:kf (.iface t v)=false:=rfl
@[simp] theorem aIb{k:IntKind}{n:Int}:mc (.int k n)=true:=rfl
@[simp] theorem aH9{b:Bool}:mc (.bool b)=true:=rfl
@[simp] theorem aIf{b:ByteArray}:mc (.string b)=true:=rfl
@[simp] theorem aIe{a:Option Addr}:mc (.pointer a)=true:=rfl
@[simp] theorem aIc{l c:Nat}:mc (.slice none l c)=true:=rfl
@[simp] theorem aIa{f:Nat}{a b:Array Value}:mc (.func (.func f) a b)=true:=rfl
@[simp] theorem aId:mc .nilFunc=true:=rfl
@[simp high] theorem aSG{bh:List (List Value)}{J:Nat}:O (aj bh J)=[aj bh J]:=rfl
@[simp high] theorem aSF{ct:List Value}{J:Nat}:O (ek ct J)=[ek ct J]:=rfl
@[simp high] theorem aMP{bh:List (List Value)}{J:Nat}:U (aj bh J)=true:=rfl
@[simp high] theorem aMO{ct:List Value}{J:Nat}:U (ek ct J)=true:=rfl
@[simp high] theorem aM9{bh:List (List Value)}{J:Nat}:S (aj bh J)=true:=rfl
@[simp high] theorem aJk{bh:List (List Value)}{J:Nat}:dZ (aj bh J)=false:=rfl
@[simp high] theorem aJj{ct:List Value}{J:Nat}:dZ (ek ct J)=false:=rfl
@[simp high] theorem aLH{ct:List Value}{J:Nat}:AW (ek ct J)=true:=rfl
@[simp high] theorem aIi{bh:List (List Value)}{J:Nat}:N (aj bh J)=none:=rfl
@[simp high] theorem aIh{ct:List Value}{J:Nat}:N (ek ct J)=none:=rfl
@[simp] theorem aI4:iO A t []=true:=rfl
@[simp] theorem aI3{x y:Operand}:iO A t ((x,y)::a9)=(JQ t (Z A x) (Z A y)&&iO A t a9):=rfl
@[simp] theorem aL5:H9 A t []=true:=rfl
@[simp] theorem aL4{x:Operand×Operand}:H9 A t (x::a9)=((match N (Z A x.1)with|some o=> !ui t o|none=>true)&&H9 A t a9):=rfl
section
variable {k:IntKind} {n:Int} {b:Bool} {s:ByteArray} {a:Option Addr} {l c f:Nat} {xs ys:Array Value} {v:Value} {qq:TypeId} {mp:Option Nat}
@[simp] theorem aSL:O (.int k n)=[.int k n]:=rfl
@[simp] theorem aMU:U (.int k n)=true:=rfl
@[simp] theorem aNe:S (.int k n)=true:=rfl
@[simp] theorem aSI:O (.bool b)=[.bool b]:=rfl
@[simp] theorem aMR:U (.bool b)=true:=rfl
@[simp] theorem aNb:S (.bool b)=true:=rfl
@[simp] theorem aSR:O (.string s)=[.string s]:=rfl
@[simp] theorem aM0:U (.string s)=true:=rfl
@[simp] theorem aNk:S (.string s)=true:=rfl
@[simp] theorem aSP:O (.pointer a)=[.pointer a]:=rfl
@[simp] theorem aMY:U (.pointer a)=true:=rfl
@[simp] theorem aNi:S (.pointer a)=true:=rfl
@[simp] theorem aSQ:O (.slice a l c)=[.slice a l c]:=rfl
@[simp] theorem aMZ:U (.slice a l c)=true:=rfl
@[simp] theorem aNj:S (.slice a l c)=true:=rfl
@[simp] theorem aSM:O (.map mp)=[.map mp]:=rfl
@[simp] theorem aMV:U (.map mp)=true:=rfl
@[simp] theorem aNf:S (.map mp)=true:=rfl
@[simp] theorem aSJ:O (.func (.func f) xs ys)=[.func (.func f) xs ys]:=rfl
@[simp] theorem aMS:U (.func (.func f) xs ys)=true:=rfl
@[simp] theorem aNc:S (.func (.func f) xs ys)=true:=rfl
@[simp] theorem aSN:O (.nilFunc)=[.nilFunc]:=rfl
@[simp] theorem aMW:U (.nilFunc)=true:=rfl
@[simp] theorem aNg:S (.nilFunc)=true:=rfl
@[simp] theorem aSO:O (.nilIface)=[.nilIface]:=rfl
@[simp] theorem aMX:U (.nilIface)=true:=rfl
@[simp] theorem aNh:S (.nilIface)=true:=rfl
@[simp] theorem aSK:O (.iface qq v)=[.iface qq v]:=rfl
@[simp] theorem aMT:U (.iface qq v)=true:=rfl
@[simp] theorem aNd:S (.iface qq v)=true:=rfl
@[simp] theorem aSH:O (.agg xs)=xs.toList:=rfl
@[simp] theorem aMQ:U (.agg xs)=true:=rfl
@[simp] theorem aNa:S (.agg xs)=false:=rfl
@[simp] theorem aM1:U (.tuple xs)=false:=rfl
@[simp] theorem aIn:N (.int k n)=none:=rfl
@[simp] theorem aIk:N (.bool b)=none:=rfl
@[simp] theorem aIw:N (.string s)=none:=rfl
@[simp] theorem aIl:N (.func (.func f) xs ys)=none:=rfl
@[simp] theorem aIp:N (.nilFunc)=none:=rfl
@[simp] theorem aIq:N (.nilIface)=none:=rfl
@[simp] theorem aIm:N (.iface qq v)=none:=rfl
@[simp] theorem aIj:N (.agg xs)=none:=rfl
@[simp] theorem aIx:N (.tuple xs)=none:=rfl
@[simp] theorem aIu{ef:Addr}:N (.pointer (some ef))=some ef.block:=rfl
@[simp] theorem aIt:N (.pointer none)=none:=rfl
@[simp] theorem aIv{ef:Addr}:N (.slice (some ef) l c)=some ef.block:=rfl
@[simp] theorem aIr:N (.slice none l c)=none:=rfl
@[simp] theorem aIo:N (.map (some l))=some l:=rfl
@[simp] theorem aIs:N (.map none)=none:=rfl
end
@[simp] theorem aIH{f:Nat}{args:List Value}{L:List Nat}{aW:Value->W->Prop}:tk aC f args t L aW=if CC aC.p f=true then vD aC.p f args t aW else xY aC f args t L aW:=by simp only[tk]
@[simp] theorem aIG{f:Nat}{args:List Value}{aW:Value->W->Prop}:xY aC f args t [] aW=if yb aC.i f=true then sT aC.i f args t aW else fi P f args t aW:=propext kl
@[simp] theorem aIF{f o:Nat}{l:List Nat}{args:List Value}{aW:Value->W->Prop}:xY aC f args t (o::l) aW=((o::l).all (NQ t)=true/\if yb aC.i f=true then sT aC.i f args (iY t (o::l)) (λr bD=>aW r (kK t bD (o::l)))else fi P f args (iY t (o::l)) λr bD=>aW r (kK t bD (o::l))):=propext kl
@[simp] theorem aNq:lO A t []=[]:=rfl
@[simp] theorem aNp{x:Operand×Operand}:lO A t (x::a9)=(match N (Z A x.1)with|some o=>if ui t o=true then o::lO A t a9 else lO A t a9|none=>lO A t a9):=rfl
@[simp] theorem aM6{o:Nat}:NQ t o=(match t.X o with|some x=> !x.cells.isEmpty|none=>false):=rfl
theorem XX{o b:Nat}(h:b≠o):(iY t [o]).X b=t.X b:=Kj (by simpa using h)
theorem af1{o b:Nat}{x:Option fB}(h:b≠o):kK t ((iY t [o]).a0 b x) [o]=t.a0 b x:=by
  unfold kK iY W.a0;simp only[W.mk.injEq,and_true,true_and,rj];funext i;by_cases e:i=o
  · subst e;rw[if_pos rfl,if_neg (λq=>h q.symm)]
  · rw[if_neg e];by_cases aU:i=b
    · rw[if_pos aU,if_pos aU]
    · rw[if_neg aU,if_neg aU,if_neg e]
@[simp] theorem aJ4{f:Nat}:yb ([]:List (ie P)) f=false:=rfl
@[simp] theorem aJ3{s:ie P}{f:Nat}:yb (s::OD) f=(s.f==f||yb OD f):=rfl
def OU(o:Option (Value×W))(aW:Value->W->Prop):Prop:=match o with
  |some (r,t)=>aW r t
  |none=>False
@[simp] theorem aSD{r:Value}{aW:Value->W->Prop}:OU (some (r,t)) aW=aW r t:=propext kl
@[simp] theorem aRG{s:ie P}{f:Nat}{args:List Value}{aW:Value->W->Prop}:sT (s::OD) f args t aW=if s.f=f then OU (s.fn args t) aW else sT OD f args t aW:=propext kl
@[simp] theorem aJ6{f:Nat}:CC ([]:List (bC P)) f=false:=rfl
@[simp] theorem aJ5{s:bC P}{f:Nat}:CC (s::qo) f=(s.f==f||CC qo f):=rfl
def ail(o:Option Value)(cj:Value->Prop):Prop:=match o with
  |some r=>cj r
  |none=>False
@[simp] theorem aSE{r:Value}{cj:Value->Prop}:ail (some r) cj=cj r:=propext kl
@[simp] theorem aRI{s:bC P}{f:Nat}{args:List Value}{cj:Value->Prop}:uu (s::qo) f args cj=if s.f=f then ail (s.fn args) cj else uu qo f args cj:=propext kl
def Ek(args:List Value)(t:W)(aW:Value->W->Prop)(r:Value):Prop:=aW r (if mV r=true then hv t (args.flatMap (ed 9 t))else re t (args.flatMap (ed 9 t)))
@[simp low] theorem aNC{args:List Value}{aW:Value->W->Prop}{r:Value}:Ek args t aW r=aW r (if mV r=true then hv t (args.flatMap (ed 9 t))else re t (args.flatMap (ed 9 t))):=propext kl
@[simp] theorem aNB{args:List Value}{aW:Value->W->Prop}{b:Bool}:Ek args t aW (.bool b)=aW (.bool b) (hv t (args.flatMap (ed 9 t))):=propext kl
@[simp] theorem aND{args:List Value}{aW:Value->W->Prop}{k:IntKind}{n:Int}:Ek args t aW (.int k n)=aW (.int k n) (hv t (args.flatMap (ed 9 t))):=propext kl
@[simp] theorem aNE{args:List Value}{aW:Value->W->Prop}{s:ByteArray}:Ek args t aW (.string s)=aW (.string s) (hv t (args.flatMap (ed 9 t))):=propext kl
@[simp] theorem aNA{args:List Value}{aW:Value->W->Prop}{bh:List (List Value)}{J:Nat}:Ek args t aW (aj bh J)=aW (aj bh J) (re t (args.flatMap (ed 9 t))):=propext kl
def ahW(o:Option (List Value))(aC:List (bC P))(f:Nat)(cj:Value->Prop):Prop:=match o with
  |some ts=>uu aC f ts cj
  |none=>False
@[simp] theorem aRH{ts:List Value}{f:Nat}{cj:Value->Prop}:ahW (some ts) qo f cj=uu qo f ts cj:=propext kl
@[simp] theorem aNF{f:Nat}{args:List Value}{aW:Value->W->Prop}:vD qo f args t aW=ahW (zZ 9 t args) qo f (Ek args t aW):=propext kl
open Classical in
noncomputable def bC.dN(f:Nat)(eo:Type)(bX:eo->Prop)(enc:eo->List Value)(jA:eo->Value)(ok: ∀x,bX x->bH P f (enc x) (jA x)):bC P:=
  ⟨f,λargs=>if h: ∃x,bX x/\enc x=args then some (jA h.choose)else none,λargs r h=>by
    split at h
    · next G=>cases h;have:=ok _ G.choose_spec.1;rw[G.choose_spec.2]at this;exact this
    · cases h⟩
theorem bC.eh{f:Nat}{eo:Type}{bX:eo->Prop}{enc:eo->List Value}{jA:eo->Value}{ok: ∀x,bX x->bH P f (enc x) (jA x)}{x:eo}(ab:bX x)(ai: ∀y,enc y=enc x->y=x):(bC.dN f eo bX enc jA ok).fn (enc x)=some (jA x):=by have gP: ∃y,bX y/\enc y=enc x:=⟨x,ab,rfl⟩;simp only[bC.dN,dif_pos gP];rw[ai _ gP.choose_spec.2]
@[simp] theorem bC.aM7{f:Nat}{eo:Type}{bX:eo->Prop}{enc:eo->List Value}{jA:eo->Value}{ok: ∀x,bX x->bH P f (enc x) (jA x)}:(bC.dN f eo bX enc jA ok).f=f:=rfl
@[simp] theorem aJL{n:Nat}{args:List Value}:zZ n t args=fy (dI n t) args:=rfl
@[simp] theorem aBp{c4 lb:Type}{f:c4->Option lb}:fy f []=some []:=rfl
@[simp] theorem Ut{c4 lb:Type}{f:c4->Option lb}{x:c4}{xs:List c4}:fy f (x::xs)=match f x with
  | some y=>(match fy f xs with
    |some ys=>some (y::ys)
    |none=>none)
  |none=>none:=rfl
theorem x6{n:Nat}{v:Value}(h:ha v=true):dI n t v=some v:=by cases n<;>simp[dI,h]
theorem zb{n:Nat}{v:Value}(h:ha v=true):ed n t v=[]:=by cases n<;>simp[ed,h]
@[simp] theorem aJC{n:Nat}{k:IntKind}{x:Int}:dI n t (.int k x)=some (.int k x):=x6 rfl
@[simp] theorem aN2{n:Nat}{k:IntKind}{x:Int}:ed n t (.int k x)=[]:=zb rfl
@[simp] theorem aIN{k:IntKind}{x:Int}:ha (.int k x)=true:=rfl
@[simp] theorem aJv{n:Nat}{b:Bool}:dI n t (.bool b)=some (.bool b):=x6 rfl
@[simp] theorem aNV{n:Nat}{b:Bool}:ed n t (.bool b)=[]:=zb rfl
@[simp] theorem aIM{b:Bool}:ha (.bool b)=true:=rfl
@[simp] theorem aJE{n:Nat}{s:ByteArray}:dI n t (.string s)=some (.string s):=x6 rfl
@[simp] theorem aN4{n:Nat}{s:ByteArray}:ed n t (.string s)=[]:=zb rfl
@[simp] theorem aIT{s:ByteArray}:ha (.string s)=true:=rfl
@[simp] theorem aJD{n:Nat}:dI n t (.slice none 0 0)=some (.slice none 0 0):=x6 rfl
@[simp] theorem aN3{n:Nat}:ed n t (.slice none 0 0)=[]:=zb rfl
@[simp] theorem aIQ:ha (.slice none 0 0)=true:=rfl
@[simp] theorem aIS:ha (.pointer none)=true:=rfl
@[simp] theorem aIO:ha (.nilFunc)=true:=rfl
@[simp] theorem aIP:ha (.nilIface)=true:=rfl
@[simp] theorem aIR:ha (.map none)=true:=rfl
@[simp] theorem aJo{n:Nat}{bh:List (List Value)}{J:Nat}:dI n t (aj bh J)=some (aj bh J):=x6 rfl
@[simp] theorem aNO{n:Nat}{bh:List (List Value)}{J:Nat}:ed n t (aj bh J)=[]:=zb rfl
@[simp] theorem aIL{bh:List (List Value)}{J:Nat}:ha (aj bh J)=true:=rfl
@[simp] theorem aIK{ct:List Value}{J:Nat}:ha (ek ct J)=true:=rfl
theorem Qj{n b o l J:Nat}:dI (n+1) t (.slice (some ⟨b,o,none⟩) l J)=match t.X b with
  | some x=>if o+l*J<=x.cells.length then(match fy (fy (dI n t)) (me J l (x.cells.drop o))with
    |some bh=>some (aj bh J)
    |none=>none)else none
  |none=>none:=by
  simp only[dI,ha,dZ,kf,Bool.or_false,kB,if_false,Option.isNone_none,s8,e2]<;>rfl
@[simp] theorem aJu{cs:Array Value}:dI 9 t (.agg cs)=match fy (dI 8 t) cs.toList with
  |some l=>some (.agg l.toArray)
  |none=>none:=rfl
@[simp] theorem aJK{cs:Array Value}:dI 9 t (.tuple cs)=match fy (dI 8 t) cs.toList with
  |some l=>some (.tuple l.toArray)
  |none=>none:=rfl
@[simp] theorem aJB{f:Nat}{xs cs:Array Value}:dI 9 t (.func (.func f) xs cs)=match fy (dI 8 t) xs.toList,fy (dI 8 t) cs.toList with
  |some l,some k=>some (.func (.func f) l.toArray k.toArray)
  |_,_=>none:=rfl
theorem su{b o l J:Nat}:dI 9 t (.slice (some ⟨b,o,none⟩) l J)=match t.X b with
  | some x=>if o+l*J<=x.cells.length then(match fy (fy (dI 8 t)) (me J l (x.cells.drop o))with
    |some bh=>some (aj bh J)
    |none=>none)else none
  |none=>none:=Qj
@[simp] theorem aNU{cs:Array Value}:ed 9 t (.agg cs)=cs.toList.flatMap (ed 8 t):=rfl
@[simp] theorem aOa{cs:Array Value}:ed 9 t (.tuple cs)=cs.toList.flatMap (ed 8 t):=rfl
@[simp] theorem aN1{f:Nat}{xs cs:Array Value}:ed 9 t (.func (.func f) xs cs)=xs.toList.flatMap (ed 8 t)++cs.toList.flatMap (ed 8 t):=rfl
theorem rZ{b o l J:Nat}:ed 9 t (.slice (some ⟨b,o,none⟩) l J)=b::(match t.X b with
  |some x=>x.cells.flatMap (ed 8 t)
  |none=>[]):=rfl
@[simp] theorem aJt{cs:Array Value}:dI 8 t (.agg cs)=match fy (dI 7 t) cs.toList with
  |some l=>some (.agg l.toArray)
  |none=>none:=rfl
@[simp] theorem aJJ{cs:Array Value}:dI 8 t (.tuple cs)=match fy (dI 7 t) cs.toList with
  |some l=>some (.tuple l.toArray)
  |none=>none:=rfl
@[simp] theorem aJA{f:Nat}{xs cs:Array Value}:dI 8 t (.func (.func f) xs cs)=match fy (dI 7 t) xs.toList,fy (dI 7 t) cs.toList with
  |some l,some k=>some (.func (.func f) l.toArray k.toArray)
  |_,_=>none:=rfl
theorem ali{b o l J:Nat}:dI 8 t (.slice (some ⟨b,o,none⟩) l J)=match t.X b with
  | some x=>if o+l*J<=x.cells.length then(match fy (fy (dI 7 t)) (me J l (x.cells.drop o))with
    |some bh=>some (aj bh J)
    |none=>none)else none
  |none=>none:=Qj
@[simp] theorem aNT{cs:Array Value}:ed 8 t (.agg cs)=cs.toList.flatMap (ed 7 t):=rfl
@[simp] theorem aN9{cs:Array Value}:ed 8 t (.tuple cs)=cs.toList.flatMap (ed 7 t):=rfl
@[simp] theorem aN0{f:Nat}{xs cs:Array Value}:ed 8 t (.func (.func f) xs cs)=xs.toList.flatMap (ed 7 t)++cs.toList.flatMap (ed 7 t):=rfl
theorem aB4{b o l J:Nat}:ed 8 t (.slice (some ⟨b,o,none⟩) l J)=b::(match t.X b with
  |some x=>x.cells.flatMap (ed 7 t)
  |none=>[]):=rfl
@[simp] theorem aJs{cs:Array Value}:dI 7 t (.agg cs)=match fy (dI 6 t) cs.toList with
  |some l=>some (.agg l.toArray)
  |none=>none:=rfl
@[simp] theorem aJI{cs:Array Value}:dI 7 t (.tuple cs)=match fy (dI 6 t) cs.toList with
  |some l=>some (.tuple l.toArray)
  |none=>none:=rfl
@[simp] theorem aJz{f:Nat}{xs cs:Array Value}:dI 7 t (.func (.func f) xs cs)=match fy (dI 6 t) xs.toList,fy (dI 6 t) cs.toList with
  |some l,some k=>some (.func (.func f) l.toArray k.toArray)
  |_,_=>none:=rfl
@[simp] theorem aNS{cs:Array Value}:ed 7 t (.agg cs)=cs.toList.flatMap (ed 6 t):=rfl
@[simp] theorem aN8{cs:Array Value}:ed 7 t (.tuple cs)=cs.toList.flatMap (ed 6 t):=rfl
@[simp] theorem aNZ{f:Nat}{xs cs:Array Value}:ed 7 t (.func (.func f) xs cs)=xs.toList.flatMap (ed 6 t)++cs.toList.flatMap (ed 6 t):=rfl
@[simp] theorem aJr{cs:Array Value}:dI 6 t (.agg cs)=match fy (dI 5 t) cs.toList with
  |some l=>some (.agg l.toArray)
  |none=>none:=rfl
@[simp] theorem aJH{cs:Array Value}:dI 6 t (.tuple cs)=match fy (dI 5 t) cs.toList with
  |some l=>some (.tuple l.toArray)
  |none=>none:=rfl
@[simp] theorem aJy{f:Nat}{xs cs:Array Value}:dI 6 t (.func (.func f) xs cs)=match fy (dI 5 t) xs.toList,fy (dI 5 t) cs.toList with
  |some l,some k=>some (.func (.func f) l.toArray k.toArray)
  |_,_=>none:=rfl
@[simp] theorem aNR{cs:Array Value}:ed 6 t (.agg cs)=cs.toList.flatMap (ed 5 t):=rfl
@[simp] theorem aN7{cs:Array Value}:ed 6 t (.tuple cs)=cs.toList.flatMap (ed 5 t):=rfl
@[simp] theorem aNY{f:Nat}{xs cs:Array Value}:ed 6 t (.func (.func f) xs cs)=xs.toList.flatMap (ed 5 t)++cs.toList.flatMap (ed 5 t):=rfl
@[simp] theorem aJq{cs:Array Value}:dI 5 t (.agg cs)=match fy (dI 4 t) cs.toList with
  |some l=>some (.agg l.toArray)
  |none=>none:=rfl
@[simp] theorem aJG{cs:Array Value}:dI 5 t (.tuple cs)=match fy (dI 4 t) cs.toList with
  |some l=>some (.tuple l.toArray)
  |none=>none:=rfl
@[simp] theorem aJx{f:Nat}{xs cs:Array Value}:dI 5 t (.func (.func f) xs cs)=match fy (dI 4 t) xs.toList,fy (dI 4 t) cs.toList with
  |some l,some k=>some (.func (.func f) l.toArray k.toArray)
  |_,_=>none:=rfl
@[simp] theorem aNQ{cs:Array Value}:ed 5 t (.agg cs)=cs.toList.flatMap (ed 4 t):=rfl
@[simp] theorem aN6{cs:Array Value}:ed 5 t (.tuple cs)=cs.toList.flatMap (ed 4 t):=rfl
@[simp] theorem aNX{f:Nat}{xs cs:Array Value}:ed 5 t (.func (.func f) xs cs)=xs.toList.flatMap (ed 4 t)++cs.toList.flatMap (ed 4 t):=rfl
@[simp] theorem aJp{cs:Array Value}:dI 4 t (.agg cs)=match fy (dI 3 t) cs.toList with
  |some l=>some (.agg l.toArray)
  |none=>none:=rfl
@[simp] theorem aJF{cs:Array Value}:dI 4 t (.tuple cs)=match fy (dI 3 t) cs.toList with
  |some l=>some (.tuple l.toArray)
  |none=>none:=rfl
@[simp] theorem aJw{f:Nat}{xs cs:Array Value}:dI 4 t (.func (.func f) xs cs)=match fy (dI 3 t) xs.toList,fy (dI 3 t) cs.toList with
  |some l,some k=>some (.func (.func f) l.toArray k.toArray)
  |_,_=>none:=rfl
@[simp] theorem aNP{cs:Array Value}:ed 4 t (.agg cs)=cs.toList.flatMap (ed 3 t):=rfl
@[simp] theorem aN5{cs:Array Value}:ed 4 t (.tuple cs)=cs.toList.flatMap (ed 3 t):=rfl
@[simp] theorem aNW{f:Nat}{xs cs:Array Value}:ed 4 t (.func (.func f) xs cs)=xs.toList.flatMap (ed 3 t)++cs.toList.flatMap (ed 3 t):=rfl
@[simp] theorem aIX{J:Nat}{cs:List Value}:me J 0 cs=[]:=rfl
@[simp] theorem aIY{J:Nat}{cs:List Value}:me J 1 cs=[cs.take J]:=rfl
@[simp] theorem aIZ{J:Nat}{cs:List Value}:me J 2 cs=[cs.take J,(cs.drop J).take J]:=rfl
@[simp] theorem aI0{J:Nat}{cs:List Value}:me J 3 cs=[cs.take J,(cs.drop J).take J,((cs.drop J).drop J).take J]:=rfl
@[simp] theorem aI1{J:Nat}{cs:List Value}:me J 4 cs=[cs.take J,(cs.drop J).take J,((cs.drop J).drop J).take J,(((cs.drop J).drop J).drop J).take J]:=rfl
@[simp] theorem aI2{J:Nat}{cs:List Value}:me J 5 cs=[cs.take J,(cs.drop J).take J,((cs.drop J).drop J).take J,(((cs.drop J).drop J).drop J).take J,((((cs.drop J).drop J).drop J).drop J).take J]:=rfl
@[simp] theorem aMx:g0.next=0:=rfl
theorem ss{bh:List (List Value)}{n o l J:Nat}{w:Bool}(aP:t.X o=some ⟨bh.flatten,w⟩)(aB:l=bh.length)(aw: ∀r∈bh,r.length=J/\ ∀v∈r,ha v=true):dI (n+1) t (.slice (some ⟨o,0,none⟩) l J)=some (aj bh J):=by subst aB;have bK: ∀r∈bh,r.length=J:= λr h=>(aw r h).1;have I:fy (fy (dI n t)) bh=some bh:=Is λr h=>Is λv ad=>x6 ((aw r h).2 v ad);have av:(bh.flatten).length=bh.length*J:=sq bK;simp[dI,ha,dZ,kf,aP,Kb bK,I,av]
theorem IE{cs:List Value}{n:Nat}(aw: ∀v∈cs,ha v=true):cs.flatMap (ed n t)=[]:=by rw[List.flatMap_eq_nil_iff];exact λv ad=>zb (aw v ad)
end
@[simp] theorem aOm{d gX:List Value}{l:List (List Value)}:(gX::l)[0]?.getD d=gX:=rfl
@[simp] theorem aOn{d gX bu:List Value}{l:List (List Value)}:(gX::bu::l)[1]?.getD d=bu:=rfl
@[simp] theorem aOo{d gX bu bN:List Value}{l:List (List Value)}:(gX::bu::bN::l)[2]?.getD d=bN:=rfl
attribute [simp] JQ Fm ui FQ FP tv Qp mW
end Go.DI
