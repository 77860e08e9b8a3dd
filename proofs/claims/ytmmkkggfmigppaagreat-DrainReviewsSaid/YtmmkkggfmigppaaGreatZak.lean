/-
  A part of the proof, shortened by tools of ours.
-/
import Derived.Test.YtmmkkggfmigppaaGreatZaj
set_option linter.all false
set_option maxRecDepth 8000
set_option maxHeartbeats 16000000
namespace Go.DI
open Go Go.RowKit
def fD{dF pr:Type}(f:dF->Option pr):List dF->Option (List pr)
 |[]=>some []
 | x::xs=>match f x with
   | some y=>(match fD f xs with
     |some ys=>some (y::ys)
     |none=>none)
   |none=>none
theorem Ia{dF pr:Type}{f:dF->Option pr}: ∀{l:List dF} {c5:List pr},fD f l=some c5->c5.length=l.length/\ ∀(i:Nat) (y:pr),c5[i]?=some y-> ∃x,l[i]?=some x/\f x=some y
 |[],c5,h=>by cases h;exact⟨rfl,λi y h=>by simp at h⟩
 | x::xs,c5,h=>by
   simp only[fD]at h;cases a5:f x with
   |none=>simp[a5]at h
   | some y=>
     cases al:fD f xs with
     |none=>simp[a5,al]at h
     | some ys=>
       simp only[a5,al,mB]at h;subst h;obtain⟨A,D⟩:=Ia al;refine⟨by simp[A],λi G bw=> ?_⟩;cases i with
       |zero=>simp at bw;subst bw;exact⟨x,rfl,a5⟩
       |succ i=>exact D i G (by simpa using bw)
theorem MY{dF:Type}{f:dF->Option dF}: ∀{l:List dF},(∀x∈l,f x=some x)->fD f l=some l
 |[],_=>rfl
 | x::xs,h=>by have cf:fD f xs=some xs:=MY λy Y=>h y (F5 _ Y);simp only[fD,h x (by simp),cf]
def ld(G:Nat):Nat->List Value->List (List Value)
 |0,_=>[]
 |n+1,cs=>cs.take G::ld G n (cs.drop G)
theorem aft(G:Nat): ∀(n:Nat) (cs:List Value),(ld G n cs).length=n
 |0,_=>rfl
 |n+1,cs=>by simp[ld,aft G n]
theorem afr{G:Nat}: ∀{n:Nat} {cs:List Value} {i:Nat} {r:List Value},(ld G n cs)[i]?=some r->i<n/\r=(cs.drop (i*G)).take G
 |0,cs,i,r,h=>by simp[ld]at h
 | n+1,cs,i,r,h=>by
   cases i with
   |zero=>simp[ld]at h;subst h;simp
   | succ i=>simp only[ld,I0]at h;obtain⟨A,D⟩:=afr h;refine⟨by omega,?_⟩;rw[D,C8,oo];congr 2;omega
theorem O3{G:Nat}: ∀{bI:List (List Value)},(∀r∈bI,r.length=G)->ld G bI.length bI.flatten=bI
 |[],_=>rfl
 | r::bI,h=>by have A:=h r (by simp);simp only[mC,ld,sX];rw[<-A,List.take_left,List.drop_left,A,O3 λx B=>h x (by simp[B])]
def hB(v:Value):Bool:=ei v||lo v
def dt:Nat->H->Value->Option Value
 |0,_,v=>if hB v then some v else none
 | n+1,t,v=>if hB v then some v else match v with
   | .slice (some a) l G=>match t.I a.block with
     | some x=>if a.spot.isNone&&decide (a.off+l*G<=x.cells.length)then
      (match fD (fD (dt n t)) (ld G l (x.cells.drop a.off))with
       |some bI=>some (ad bI G)
       |none=>none)else none
     |none=>none
   | .pointer (some a)=>match t.I a.block with
     | some x=>if a.spot.isNone then
      (match fD (dt n t) x.cells with
       |some c3=>some (fi c3 a.off)
       |none=>none)else none
     |none=>none
   | .agg cs=>match fD (dt n t) cs.toList with
     |some l=>some (.agg l.toArray)
     |none=>none
   | .tuple cs=>match fD (dt n t) cs.toList with
     |some l=>some (.tuple l.toArray)
     |none=>none
   | .func (.func f) xs cs=>match fD (dt n t) xs.toList,fD (dt n t) cs.toList with
     |some l,some k=>some (.func (.func f) l.toArray k.toArray)
     |_,_=>none
   |_=>none
def et:Nat->H->Value->List Nat
 |0,_,_=>[]
 | n+1,t,v=>if hB v then[]else match v with
   | .slice (some a) _ _=>a.block::(match t.I a.block with
     |some x=>x.cells.flatMap (et n t)
     |none=>[])
   | .pointer (some a)=>a.block::(match t.I a.block with
     |some x=>x.cells.flatMap (et n t)
     |none=>[])
   | .agg cs=>cs.toList.flatMap (et n t)
   | .tuple cs=>cs.toList.flatMap (et n t)
   | .func _ xs cs=>xs.toList.flatMap (et n t)++cs.toList.flatMap (et n t)
   |_=>[]
theorem JD{u ea:fU}{J:eU}(dh:gS u ea){v bX:Value}(M:cm u J v bX)(ar:hB v=true):cm ea kS v bX:=by
 cases M with
 |c7 h=>exact .c7 h
 |jG e A D ai aT=>exact .jG e (dh _ _ A) D ai λi j r x y a b c=>(aT i j r x y a b c).bD dh (fE.refl _)
 |jH e=>exact .jH e
 |fi e A D ai=>exact .fi e (dh _ _ A) D λj x y a b=>(ai j x y a b).bD dh (fE.refl _)
 |_=>simp[hB,ei,lo]at ar
theorem Gz{u ea:fU}{J:eU}{t m:H}(F:eb J u t m)(dh:gS u ea): ∀(n:Nat) {v bX r:Value},cm u J v bX->dt n t v=some r->(∀o∈et n t v,(t.I o).isSome=true-> ∀b cs w,J o=some b->m.I b=some ⟨cs,w⟩->ea b=some cs)->cm ea kS r bX
 | 0,v,bX,r,M,h,_=>by
   simp only[dt]at h;split at h
   ·next ar=>cases h;exact JD dh M ar
   ·cases h
 | n+1,v,bX,r,M,h,al=>by
   simp only[dt]at h;simp only[et]at al;split at h
   ·next ar=>cases h;exact JD dh M ar
   ·next ar=>
    rw[if_neg ar]at al;have MB: ∀{xs ys cl:List Value},bL u J xs ys->fD (dt n t) xs=some cl->(∀o∈xs.flatMap (et n t),(t.I o).isSome=true-> ∀b cs w,J o=some b->m.I b=some ⟨cs,w⟩->ea b=some cs)->bL ea kS cl ys:= λaz aB bT=>by obtain⟨A,D⟩:=Ia aB;refine⟨by rw[A,az.1],λi x y B Y=> ?_⟩;obtain⟨pq,g3,aQ⟩:=D i x B;exact Gz F dh n (az.2 i pq y g3 Y) aQ λo aB=>bT o (wm.2 ⟨pq,fr g3,aB⟩)
    split at h
    ·next a l G=>
     cases aH:t.I a.block with
     |none=>simp[aH]at h
     | some x=>
       simp only[aH]at h al;split at h
       ·next hb=>
        simp only[a6,ey]at hb;cases W0:fD (fD (dt n t)) (ld G l (x.cells.drop a.off))with
        |none=>simp[W0]at h
        | some bI=>
          simp only[W0,mB]at h;subst h;obtain⟨aE,a2⟩:=Ia W0;rw[aft]at aE;rcases M.l6 with⟨b,aD,aJ,rfl⟩|⟨aD,aJ,cg,rfl⟩
          ·obtain⟨cs,w,a8,bV,cv⟩:=F.m1 aD aH;have wU:=al a.block (by simp) (by rw[aH];rfl) b cs w aD a8;rw[<-aE];have qP: ∀(i:Nat) r,bI[i]?=some r->i<l/\ ∃mT,mT=(x.cells.drop (a.off+i*G)).take G/\fD (dt n t) mT=some r:= λi r W=>by
            obtain⟨mT,bK,cz⟩:=a2 i r W;obtain⟨dV,gr⟩:=afr bK;exact⟨dV,mT,by rw[gr,C8],cz⟩
           refine .jG rfl wU (by rw[aE,<-cv.1];exact hb.2) (λi r W=> ?_) λi j r bf y W aX Y=> ?_
           ·obtain⟨dV,mT,gr,kj⟩:=qP i r W;rw[(Ia kj).1,gr];simp;have:(i+1)*G<=l*G:=zc _ dV;rw[oo]at this;omega
           ·obtain⟨dV,mT,gr,kj⟩:=qP i r W;obtain⟨aqf,p6,xk⟩:=(Ia kj).2 j bf aX;rw[gr,rf]at p6;split at p6
            ·rw[zd]at p6;refine Gz F dh n (cv.2 _ aqf y p6 Y) xk λo aB=>al o ?_;exact F5 _ (wm.2 ⟨aqf,fr p6,aB⟩)
            ·cases p6
          ·subst cg;have:bI=[]:=pU aE;subst this;exact .jH rfl
       ·cases h
    ·next a=>
     cases aH:t.I a.block with
     |none=>simp[aH]at h
     | some x=>
       simp only[aH]at h al;split at h
       ·cases qP:fD (dt n t) x.cells with
        |none=>simp[qP]at h
        | some c3=>simp only[qP,mB]at h;subst h;obtain⟨b,aD,aJ,rfl⟩:=M.sv;obtain⟨cs,w,a8,bV,cv⟩:=F.m1 aD aH;have wU:=al a.block (by simp) (by rw[aH];rfl) b cs w aD a8;have az:=MB cv qP λo aB=>al o (F5 _ aB);have:=cm.fi (u:=ea) (J:=kS) (off:=0) (k:=a.off) (c3:=c3) rfl wU (by rw[az.1];omega) λj bf y aX Y=>az.2 j bf y aX (by simpa using Y);simpa using this
       ·cases h
    ·next cs=>
     cases aB:fD (dt n t) cs.toList with
     |none=>simp[aB]at h
     | some l=>simp only[aB,mB]at h;subst h;obtain⟨ys,rfl,az⟩:=M.uI;have:=(MB az aB al).agg;simpa using this
    ·next cs=>
     cases aB:fD (dt n t) cs.toList with
     |none=>simp[aB]at h
     | some l=>simp only[aB,mB]at h;subst h;obtain⟨ys,rfl,az⟩:=M.Er;have:=(MB az aB al).tuple;simpa using this
    ·next f xs cs=>
     cases aB:fD (dt n t) xs.toList with
     |none=>simp[aB]at h
     | some l=>
       cases iz:fD (dt n t) cs.toList with
       |none=>simp[aB,iz]at h
       | some k=>simp only[aB,iz,mB]at h;subst h;obtain⟨ys,ds,rfl,az,S⟩:=M.Ep;have A:=MB az aB λo h=>al o (js.2 (.inl h));have D:=MB S iz λo h=>al o (js.2 (.inr h));exact .func (by simpa using A.1) (by simpa using A.2) (by simpa using D.1) (by simpa using D.2)
    ·cases h
def DM(n:Nat)(t:H)(args:List Value):Option (List Value):=fD (dt n t) args
def tS(t:H):List Nat->H
 |[]=>t
 |o::l=>tS (match t.I o with|some x=>t.aO o (some ⟨x.cells,false⟩)|none=>t) l
def hJ(t:H)(l:List Nat):H:=⟨t.next,t.hI,λo=>if o∈l then none else t.mp o⟩
@[simp] theorem as7(t:H):hJ t []=t:=by simp[hJ]
@[simp] theorem aNH(t:H)(l:List Nat)(o:Nat):(hJ t l).I o=t.I o:=rfl
@[simp] theorem as6(t:H)(l:List Nat):(hJ t l).next=t.next:=rfl
theorem aK:(∀(m:H) (b:Nat) (x:Option eM),(m.aO b x).next=m.next)/\(∀(m:H) (k:Nat),(m.b0 k).next=m.next+k)/\(∀(m:H) (b:Nat) (es:List (Value×Value)),(m.hv b es).next=m.next)/\ ∀(t:H) (l:List Nat),(hJ t l).next=t.next:=⟨λ_ _ _=>rfl,λ_ _=>rfl,λ_ _ _=>rfl,λ_ _=>rfl⟩
@[simp] theorem aWL(t:H):tS t []=t:=rfl
@[simp] theorem T8(t:H)(o:Nat)(l:List Nat):tS t (o::l)=tS (match t.I o with|some x=>t.aO o (some ⟨x.cells,false⟩)|none=>t) l:=rfl
theorem ac0: ∀(l:List Nat) (t:H),(tS t l).next=t.next
 |[],t=>rfl
 | o::l,t=>by rw[T8,ac0 l];split<;>rfl
theorem IC: ∀(l:List Nat) (t:H) (p:Nat) (x:eM),(tS t l).I p=some x-> ∃y,t.I p=some y/\x.cells=y.cells/\(x.own=true->y.own=true)/\(p∈l->x.own=false)
 |[],t,p,x,h=>⟨x,h,rfl,λh=>h,λh=>by simp at h⟩
 | o::l,t,p,x,h=>by
   rw[T8]at h;obtain⟨y,A,D,ai,aT⟩:=IC l _ p x h;cases aH:t.I o with
   | none=>
     rw[aH]at A;refine⟨y,A,D,ai,λZ=> ?_⟩;rcases hi.1 Z with rfl|Z
     ·simp only at A;rw[aH]at A;cases A
     ·exact aT Z
   | some G=>
     rw[aH]at A;simp only at A;by_cases WT:p=o
     ·subst WT;rw[cx (aM aH)]at A;cases A;have a5:x.own=false:=by
       cases B:x.own with
       |false=>rfl
       |true=>have:=ai B;cases this
      exact⟨G,aH,D,(λB=>by rw[a5]at B;cases B),λ_=>a5⟩
     ·rw[a7 WT]at A;exact⟨y,A,D,ai,λZ=>aT ((hi.1 Z).resolve_left WT)⟩
theorem acZ: ∀(l:List Nat) (t:H),(tS t l).mp=t.mp
 |[],t=>rfl
 | o::l,t=>by rw[T8,acZ l];split<;>rfl
section
variable (P:Program)
def sc(u:fU)(m:H):Prop:= ∀b cs,u b=some cs-> ∃w,m.I b=some ⟨cs,w⟩
def bP(f:Nat)(args:List Value)(r:Value):Prop:= ∀(u:fU) (m:H) (bu:List Value),sc u m->bL u kS args bu->
 ep P f bu m λdZ U=>m.next<=U.next/\(∀b,b<m.next->U.I b=m.I b)/\ ∃cy,gS u cy/\sc cy U/\cm cy kS r dZ
def fc(f:Nat)(args:List Value)(t:H)(bA:Value->H->Prop):Prop:= ∀(J:eU) (u:fU) (bu:List Value) (m:H),eb J u t m->bL u J args bu->
 ep P f bu m λdZ U=> ∃cU cy r af,bA r af/\eb cU cy af U/\cm cy cU r dZ/\eQ t.next m.next J u t m cU cy af U
def ec(c:aw)(z:aC)(t:H)(Q:cM->aC->H->Prop):Prop:=pa c=true-> ∀(J:eU) (u:fU) (K:aC) (m:H),eb J u t m->hp u J z K->
 fG P c K m λe kX U=> ∃cU cy bQ af,Q e bQ af/\eb cU cy af U/\hp cy cU bQ kX/\eQ t.next m.next J u t m cU cy af U
structure bx where
 f:Nat
 fn:List Value->Option Value
 ok: ∀args r,fn args=some r->bP P f args r
structure jg where
 f:Nat
 fn:List Value->H->Option (Value×H)
 ok: ∀args t r af,fn args t=some (r,af)-> ∀bA:Value->H->Prop,bA r af->fc P f args t bA
structure mG where
 p:List (bx P)
 i:List (jg P)
variable {P}
def BB:List (jg P)->Nat->Bool
 |[],_=>false
 |s::l,f=>s.f==f||BB l f
def wh:List (jg P)->Nat->List Value->H->(Value->H->Prop)->Prop
 |[],_,_,_,_=>False
 | s::l,f,args,t,aR=>if s.f=f then(match s.fn args t with
   |some (r,af)=>aR r af
   |none=>False)else wh l f args t aR
def GH:List (bx P)->Nat->Bool
 |[],_=>false
 |s::l,f=>s.f==f||GH l f
def xH:List (bx P)->Nat->List Value->(Value->Prop)->Prop
 |[],_,_,_=>False
 | s::l,f,args,bA=>if s.f=f then(match s.fn args with
   |some r=>bA r
   |none=>False)else xH l f args bA
def yU(ax:List (bx P))(f:Nat)(args:List Value)(t:H)(aR:Value->H->Prop):Prop:=match DM 9 t args with
 |some ts=>xH ax f ts λr=>aR r (if m4 r then hJ t (args.flatMap (et 9 t))else tS t (args.flatMap (et 9 t)))
 |none=>False
def Tl(t:H)(o:Nat):Bool:=match t.I o with|some x=> !x.cells.isEmpty|none=>false
def lY(t:H)(l:List Nat):H:=⟨t.next,λb=>if b∈l then none else t.hI b,t.mp⟩
def l7(t bj:H)(l:List Nat):H:=⟨bj.next,λb=>if b∈l then t.hI b else bj.hI b,bj.mp⟩
def nh(z:aC)(t:H):List (Operand×Operand)->List Nat
 |[]=>[]
 | p::l=>match ak (O z p.1)with
   |some o=>if Cv t o then o::nh z t l else nh z t l
   |none=>nh z t l
def Bh(ax:mG P)(f:Nat)(args:List Value)(t:H):List Nat->(Value->H->Prop)->Prop
 |[],aR=>if BB ax.i f then wh ax.i f args t aR else fc P f args t aR
 |o::l,aR=>(o::l).all (Tl t)=true/\if BB ax.i f then wh ax.i f args (lY t (o::l)) (λr bj=>aR r (l7 t bj (o::l)))else fc P f args (lY t (o::l)) λr bj=>aR r (l7 t bj (o::l))
def wG(ax:mG P)(f:Nat)(args:List Value)(t:H)(L:List Nat)(aR:Value->H->Prop):Prop:=
 if GH ax.p f then yU ax.p f args t aR else Bh ax f args t L aR
def JA(ax:mG P)(v:Value)(args:List Value)(t:H)(L:List Nat)(aR:Value->H->Prop):Prop:=match v with
 | .func (.func f) first kr=>wG ax f (first.toList++args++kr.toList) t L aR
 |_=>False
def kb(ax:mG P)(base:Nat)(o:cO)(z:aC)(t:H)(aR:aC->H->Prop):Prop:=match o.k with
 | .lA f bu=>wG ax f (bu.map (O z)) t (nh z t o.bd) λr af=>aR (cZ z o.d r) af
 | .m2 x bu=>JA ax (O z x) (bu.map (O z)) t (nh z t o.bd) λr af=>aR (cZ z o.d r) af
 | .mq _ _ _=>False
 |k=>k.jq z t=true/\iY z t o.bd=true/\aR (cZ z o.d (k.jW (base+o.aW) z t)) (k.o6 (base+o.aW) z t)
def dk(ax:mG P)(base:Nat):List cO->aC->H->(aC->H->Prop)->Prop
 |[],z,t,aR=>aR z t
 |o::bN,z,t,aR=>if eX z o.g=true then kb ax base o z t (λz t=>dk ax base bN z t aR)else dk ax base bN (cZ z o.d undef) t aR
def ix(ax:mG P):aw->aC->H->(cM->aC->H->Prop)->Prop
 | .skip,z,t,Q=>Q .eB z t
 | .kl ops,z,t,Q=>dk ax t.next ops z (hV ops t) (Q .eB)
 | .uQ _ _ _,_,_,_=>False
 | .ky a b,z,t,Q=>ix ax a z t λe z t=>match e with
   | .eB=>ix ax b z t Q
   |e=>Q e z t
 | .nx c a b,z,t,Q=>vU (O z c)=true/\if xW (O z c)=true then ix ax a z t Q else ix ax b z t Q
 | .block id c,z,t,Q=>ix ax c z t λe z t=>match e with
   | .cH ki=>if ki=id then Q .eB z t else Q (.cH ki) z t
   |e=>Q e z t
 | .loop c,z,t,Q=>ec P (.loop c) z t Q
 | .cH id,z,t,Q=>Q (.cH id) z t
 | .e3,z,t,Q=>Q .e3 z t
end
section
variable {P:Program} {u:fU} {J:eU} {t m:H}
theorem apG{l:List (jg P)}{f:Nat}{args:List Value}{t:H}{aR:Value->H->Prop}(h:wh l f args t aR):fc P f args t aR:=by
 induction l with
 |nil=>exact h.elim
 | cons s l cf=>
   simp only[wh]at h;split at h
   ·next e=>
    cases a5:s.fn args t with
    |none=>rw[a5]at h;exact h.elim
    |some aFF=>obtain⟨r,af⟩:=aFF;rw[a5]at h;have:=s.ok args t r af a5 aR h;rw[e]at this;exact this
   ·exact cf h
theorem bP.adv{f:Nat}{ts bu:List Value}{r:Value}(h:bP P f ts r)(dh:sc u m)(aa:bL u kS ts bu):ep P f bu m λdZ U=>m.next<=U.next/\(∀b,b<m.next->U.I b=m.I b/\(u b=none->U.mp b=m.mp b))/\
 ∃cy,gS u cy/\sc cy U/\(∀b cs,cy b=some cs->u b=some cs\/m.next<=b)/\cm cy kS r dZ:=by
 obtain⟨p,Z⟩: ∃p:H,p=⟨m.next,λb=>if(u b).isSome then m.hI b else none,m.mp⟩:=⟨_,rfl⟩;have q0:p.next=m.next:=by rw[Z]
 have M8:p.mp=m.mp:=by rw[Z]
 have oe: ∀b,p.I b=if(u b).isSome then m.I b else none:= λb=>by
  rw[Z];simp only[H.I];split
  ·rfl
  ·split<;>rfl
 have part:Di p m:=⟨q0,M8,λb x B=>by
  rw[oe]at B;split at B
  ·exact B
  ·cases B⟩
 have Ka:sc u p:= λb cs hb=>by obtain⟨w,aS⟩:=dh b cs hb;exact⟨w,by rw[oe,hb];exact aS⟩
 refine(ep.frame part (h u p bu Ka aa)).bD λdZ U bT=> ?_;obtain⟨k2,⟨A,D,cy,ai,aT,bF⟩,bN⟩:=bT;refine⟨bN.next,λb hb=>⟨?_,λae=>(bN.jd b hb (by rw[oe,ae];rfl)).2.2⟩,cy,ai,λb cs hb=> ?_,λb cs hb=> ?_,bF⟩
 ·cases aH:p.I b with
  |none=>exact(bN.jd b hb aH).1
  |some x=>rw[part.I b x aH];exact bN.part.I b x (by rw[D b (by rw[q0];exact hb),aH])
 ·obtain⟨w,aS⟩:=aT b cs hb;exact⟨w,bN.part.I b _ aS⟩
 ·by_cases dm:b<m.next
  ·left;obtain⟨w,aS⟩:=aT b cs hb;cases aH:p.I b with
   |none=>rw[(bN.jd b dm aH).2.1]at aS;cases aS
   | some x=>
     rw[D b (by rw[q0];exact dm)]at aS;rw[oe]at aS;split at aS
     ·next F=>
      cases qJ:u b with
      |none=>rw[qJ]at F;cases F
      | some ny=>obtain⟨w',kE⟩:=dh b ny qJ;rw[kE]at aS;cases aS;rfl
     ·cases aS
  ·exact .inr (by omega)
theorem aub{v bX:Value}(h:cm u J v bX)(a5:m4 v=true):bX=v:=by
 unfold m4 at a5;split at a5
 ·obtain⟨ys,rfl,az⟩:=h.uI;rename_i cs;have:ys.toList=cs.toList:=by
   apply AZ
   ·exact az.1.symm
   ·intro i A D;exact(az.2 i _ _ (c1 D) (c1 A)).hL (dP.1 a5 _ (kd D))
  rw[<-sW (xs:=ys),this]
 ·obtain⟨ys,rfl,az⟩:=h.Er;rename_i cs;have:ys.toList=cs.toList:=by
   apply AZ
   ·exact az.1.symm
   ·intro i A D;exact(az.2 i _ _ (c1 D) (c1 A)).hL (dP.1 a5 _ (kd D))
  rw[<-sW (xs:=ys),this]
 ·exact h.hL a5
open Classical in
theorem abe(F:eb J u t m){ax:List (bx P)}{f:Nat}{args bu:List Value}(aa:bL u J args bu){aR:Value->H->Prop}(h:yU ax f args t aR):
 ep P f bu m λdZ U=>(∀b,b<m.next->U.I b=m.I b)/\ ∃cy r af,aR r af/\eb J cy af U/\cm cy J r dZ/\eQ t.next m.next J u t m J cy af U:=by
 unfold yU at h;cases bw:DM 9 t args with
 |none=>rw[bw]at h;exact h.elim
 | some ts=>
   rw[bw]at h;simp only at h;obtain⟨l,az⟩: ∃l,l=args.flatMap (et 9 t):=⟨_,rfl⟩;rw[<-az]at h;have g2: ∃r,bP P f ts r/\aR r (if m4 r then hJ t l else tS t l):=by
    clear bw az;induction ax with
    |nil=>exact h.elim
    | cons s ax cf=>
      simp only[xH]at h;split at h
      ·next e=>
       cases a5:s.fn ts with
       |none=>rw[a5]at h;exact h.elim
       |some r=>rw[a5]at h;exact⟨r,by have:=s.ok ts r a5;rw[e]at this;exact this,h⟩
      ·exact cf h
   obtain⟨r,al,dz⟩:=g2;obtain⟨ea,J8⟩: ∃ea:fU,ea= λb=>match u b with
    |some cs=>some cs
    |none=>if∃o,o∈l/\J o=some b/\(t.I o).isSome=true then(m.I b).map (·.cells)else none:=⟨_,rfl⟩
   have eD:gS u ea:= λb cs hb=>by rw[J8];simp[hb]
   have eS: ∀b cs,ea b=some cs->u b=some cs\/(∃o,o∈l/\J o=some b):= λb cs hb=>by
    rw[J8]at hb;simp only at hb;split at hb
    ·next A=>rw[A];exact .inl hb
    ·split at hb
     ·next A=>obtain⟨o,bK,cz,_⟩:=A;exact .inr ⟨o,bK,cz⟩
     ·cases hb
   have f5: ∀b cs,ea b=some cs->u b=some cs\/I6 J t b:= λb cs hb=>by
    rw[J8]at hb;simp only at hb;split at hb
    ·next A=>rw[A];exact .inl hb
    ·split at hb
     ·next A=>obtain⟨o,_,cz,dV⟩:=A;obtain⟨x,B⟩:=Om.1 dV;exact .inr ⟨o,x,cz,B⟩
     ·cases hb
   have gN:sc ea m:= λb cs hb=>by
    rw[J8]at hb;simp only at hb;split at hb
    ·next A=>cases hb;exact(F.bZ b _ A).1
    ·split at hb
     ·cases aH:m.I b with
      |none=>rw[aH]at hb;cases hb
      |some x=>rw[aH]at hb;cases hb;exact⟨x.own,rfl⟩
     ·cases hb
   have f4: ∀o∈l,(t.I o).isSome=true-> ∀b cs w,J o=some b->m.I b=some ⟨cs,w⟩->ea b=some cs:= λo aB fl b cs w ck aH=>by
    rw[J8];simp only;cases mm:u b with
    |some ds=>obtain⟨⟨w',kE⟩,_⟩:=F.bZ b ds mm;rw[aH]at kE;cases kE;rfl
    |none=>simp only;rw[if_pos ⟨o,aB,ck,fl⟩,aH];rfl
   have Wd:bL ea kS ts bu:=(by obtain⟨A,D⟩:=Ia bw;refine⟨by rw[A,aa.1],λi x y B Y=> ?_⟩;obtain⟨pq,g3,aQ⟩:=D i x B;exact Gz F eD 9 (aa.2 i pq y g3 Y) aQ λo aB=>f4 o (by rw[az];exact wm.2 ⟨pq,fr g3,aB⟩));refine(al.adv gN Wd).bD λdZ U bT=> ?_;obtain⟨aE,a2,cy,cj,dy,fB,fb⟩:=bT;refine⟨λb hb=>(a2 b hb).1,?_⟩;by_cases dJ:m4 r=true
   ·rw[if_pos dJ]at dz;refine⟨u,r,_,dz,?_,by rw[aub fb dJ];exact cm.m4 dJ,?_⟩
    ·refine⟨λo x B=> ?_,λo es aQ=> ?_,λo aB=> ?_,F.inj,λo b h=>⟨(F.cQ o b h).1,ql (F.cQ o b h).2 aE⟩,λb cs hb=> ?_⟩
     ·rcases F.iU o x B with⟨b,cs,w,A,D,ai,aT⟩|A
      ·exact .inl ⟨b,cs,w,A,by rw[(a2 b (F.cQ o b A).2).1,D],ai,aT⟩
      ·exact .inr A
     ·obtain⟨aD,aJ⟩:=jb aQ;have w2:o∉l:= λab=>by simp[hJ,ab]at aJ
      have cg:t.mp o=some es:=(by simpa[hJ,w2]using aJ);obtain⟨b,db,A,D,ai⟩:=F.maps o es (kB aD cg);refine⟨b,db,A,?_,ai⟩;obtain⟨aT,bF⟩:=jb D;have hb:=(F.cQ o b A).2;have mm:ea b=none:=by
       cases bo:ea b with
       |none=>rfl
       | some cs=>
         rcases eS b cs bo with cW|⟨o',cW,dU⟩
         ·have:=(F.bZ b cs cW).2 o _ A aD;cases this
         ·rw[F.inj o' o b dU A]at cW;exact absurd cW w2
      exact kB (by rw[(a2 b hb).1];exact aT) (by rw[(a2 b hb).2 mm];exact bF)
     ·show(if o∈l then none else t.mp o)=none;rw[F.jo o aB];simp
     ·obtain⟨⟨w,A⟩,D⟩:=F.bZ b cs hb;exact⟨⟨w,by rw[(a2 b (aM A)).1,A]⟩,D⟩
    ·exact⟨fE.refl _,gS.refl _,λ_ _ h=> .inl h,λ_ _ h=> .inl h,c8 _,aE,λb hb _=>(a2 b hb).1,λb hb aS=>aS,λb hb aS=>aS⟩
   ·rw[if_neg dJ]at dz;have V7:=eD.trans cj;refine⟨cy,r,_,dz,?_,fb.bD (gS.refl _) (fE.nil _),?_⟩
    ·refine⟨λo x B=> ?_,λo es aQ=> ?_,λo aB=> ?_,F.inj,λo b h=>⟨by rw[ac0];exact(F.cQ o b h).1,ql (F.cQ o b h).2 aE⟩,λb cs hb=> ?_⟩
     ·obtain⟨y,Y,aD,aJ,_⟩:=IC l t o x B;rcases F.iU o y Y with⟨b,cs,w,A,D,ai,aT⟩|⟨A,D⟩
      ·exact .inl ⟨b,cs,w,A,by rw[(a2 b (F.cQ o b A).2).1,D],λh=>ai (aJ h),by rw[aD];exact aT.bD V7 (fE.refl _)⟩
      ·exact .inr ⟨A,by rw[aD,D]⟩
     ·obtain⟨aD,aJ⟩:=jb aQ;obtain⟨y,Y,cg,gA,jj⟩:=IC l t o _ aD;have w2:o∉l:= λab=>by have:=jj ab;cases this
      have yv:y=⟨[],true⟩:=(by obtain⟨a,b⟩:=y;simp at cg gA;simp[cg,gA]);subst yv;rw[acZ]at aJ;obtain⟨b,db,A,D,ai⟩:=F.maps o es (kB Y aJ);refine⟨b,db,A,?_,ai.bD V7 (fE.refl _)⟩;obtain⟨aT,bF⟩:=jb D;have hb:=(F.cQ o b A).2;have mm:ea b=none:=by
       cases bo:ea b with
       |none=>rfl
       | some cs=>
         rcases eS b cs bo with cW|⟨o',cW,dU⟩
         ·have:=(F.bZ b cs cW).2 o _ A Y;cases this
         ·rw[F.inj o' o b dU A]at cW;exact absurd cW w2
      exact kB (by rw[(a2 b hb).1];exact aT) (by rw[(a2 b hb).2 mm];exact bF)
     ·rw[acZ];exact F.jo o aB
     ·refine⟨dy b cs hb,λo x ck B=> ?_⟩;obtain⟨y,Y,aD,aJ,cg⟩:=IC l t o x B;have iG:=(F.cQ o b ck).2;rcases fB b cs hb with cW|cW
      ·rcases eS b cs cW with dU|⟨o',dU,g1⟩
       ·have iQ:=(F.bZ b cs dU).2 o y ck Y;cases g3:x.own with
        |false=>rfl
        |true=>rw[aJ g3]at iQ;cases iQ
       ·rw[F.inj o' o b g1 ck]at dU;exact cg dU
      ·omega
    ·refine⟨fE.refl _,V7,λ_ _ h=> .inl h,λb cs hb=> ?_,by rw[ac0];exact c8 _,aE,λb hb _=>(a2 b hb).1,λb hb aS=> ?_,λb hb aS=> ?_⟩
     ·rcases fB b cs hb with cW|cW
      ·rcases f5 b cs cW with dU|dU
       ·exact .inl dU
       ·exact .inr (.inr dU)
      ·exact .inr (.inl cW)
     ·obtain⟨o,x,A,D,ai⟩:=aS;obtain⟨y,Y,aD,aJ,cg⟩:=IC l t o x D;exact⟨o,y,A,Y,aJ ai⟩
     ·obtain⟨o,x,A,D⟩:=aS;obtain⟨y,Y,aD,aJ,cg⟩:=IC l t o x D;exact⟨o,y,A,Y⟩
end
section
variable {t bj:H} {l:List Nat}
@[simp] theorem ath:(lY t l).next=t.next:=rfl
theorem afG{b:Nat}(h:b∈l):(lY t l).I b=none:=by simp[lY,H.I,h]
theorem JG{b:Nat}(h:b∉l):(lY t l).I b=t.I b:=by simp[lY,H.I,h]
theorem Dz{b:Nat}{x:eM}(h:(lY t l).I b=some x):b∉l/\t.I b=some x:=by
 by_cases hb:b∈l
 ·rw[afG hb]at h;cases h
 ·rw[JG hb]at h;exact⟨hb,h⟩
theorem ati{b:Nat}(h:b∉l):(lY t l).fu b=t.fu b:=by have A:(lY t l).I b=t.I b:=JG h;unfold H.fu;rw[A];rfl
theorem amB{b:Nat}(h:b∈l)(ae:t.next<=bj.next)(hb:b<t.next):(l7 t bj l).I b=t.I b:=by
 have:b<bj.next:=by omega
 simp[l7,H.I,h,hb,this]
theorem ET{b:Nat}(h:b∉l):(l7 t bj l).I b=bj.I b:=by simp[l7,H.I,h]
theorem aBH{b:Nat}(h:b∉l):(l7 t bj l).fu b=bj.fu b:=by have A:(l7 t bj l).I b=bj.I b:=ET h;unfold H.fu;rw[A];rfl
end
section
variable {P:Program} {J:eU} {u:fU} {t m:H} {z K:aC}
theorem amI(F:eb J u t m)(b2:hp u J z K){bd:List (Operand×Operand)}(aa:bd.all (λp=>df p.1&&df p.2)=true){U:H}(S: ∀b,b<m.next->U.I b=m.I b):uP K bd m U:=by
 intro p Z b hb;simp only[dP]at aa;have D:=aa p Z;simp only[a6]at D;have M:=b2.O D.1;generalize O z p.1=a at M;generalize O K p.1=ed at M hb;cases M with
 | c7 h=>unfold ak at hb;split at hb<;>simp[ei]at h hb
 |bH ck=>simp[ak]at hb;subst hb;exact S _ (F.cQ _ _ ck).2
 |slice ck=>simp[ak]at hb;subst hb;exact S _ (F.cQ _ _ ck).2
 |map ck=>simp[ak]at hb;subst hb;exact S _ (F.cQ _ _ ck).2
 |jG e dh=>simp[ak]at hb;subst hb;obtain⟨⟨w,ai⟩,_⟩:=F.bZ _ _ dh;exact S _ (aM ai)
 |fi e dh=>simp[ak]at hb;subst hb;obtain⟨⟨w,ai⟩,_⟩:=F.bZ _ _ dh;exact S _ (aM ai)
 |_=>simp[ak]at hb
theorem agj{f:Nat}{args bu:List Value}{bA:Value->H->Prop}{l:List Nat}(az: ∀o∈l,∃x,t.I o=some x/\x.cells≠[])(h:fc P f args (lY t l) bA)(F:eb J u t m)(aa:bL u J args bu):
 ep P f bu m λdZ bn=>(∀o∈l,∀b,J o=some b->bn.I b=m.I b)/\ ∃cV ea r bj,bA r bj/\eb cV ea (l7 t bj l) bn/\cm ea cV r dZ/\eQ t.next m.next J u t m cV ea (l7 t bj l) bn:=by
 have KE:eb J u (lY t l) m:=⟨λo x B=>F.iU o x (Dz B).2,λo es aQ=>by have hb:=(Dz (jb aQ).1).1;rw[ati hb]at aQ;exact F.maps o es aQ,F.jo,F.inj,F.cQ,λb cs hb=>⟨(F.bZ b cs hb).1,λo x ck B=>(F.bZ b cs hb).2 o x ck (Dz B).2⟩⟩;refine(h J u bu m KE aa).bD λdZ bn bT=> ?_;obtain⟨cV,ea,r,bj,A,D,ai,aT⟩:=bT;have ae:t.next<=bj.next:=aT.k5
 have ij: ∀o∈l,∃x b cs w,t.I o=some x/\x.cells≠[]/\J o=some b/\m.I b=some ⟨cs,w⟩/\(x.own=true->w=true)/\bL u J x.cells cs:= λo aB=>by
  obtain⟨x,B,ar⟩:=az o aB;rcases F.iU o x B with⟨b,cs,w,bt,bR,a3,a4⟩|⟨_,bR⟩
  ·exact⟨x,b,cs,w,B,ar,bt,bR,a3,a4⟩
  ·exact absurd bR ar
 have aaH: ∀o∈l,∀b,J o=some b-> ¬I6 J (lY t l) b:= λo aB b hb ⟨p,x,Z,B⟩=>by have:=F.inj p o b Z hb;subst this;rw[afG aB]at B;cases B
 have amJ: ∀o∈l,∀b,J o=some b->bn.I b=m.I b:= λo aB b ck=>aT.dK b (F.cQ o b ck).2 λ⟨p,G,a8,bV,_⟩=>aaH o aB b ck ⟨p,G,a8,bV⟩;have aN6: ∀o∈l,bj.I o=none:= λo aB=>by
  obtain⟨x,b,cs,w,bt,bR,a3,a4,ft,jh⟩:=ij o aB;cases aH:bj.I o with
  |none=>rfl
  |some y=>exact absurd (aT.s9 b (F.cQ o b a3).2 ⟨o,y,aT.e o b a3,aH⟩) (aaH o aB b a3)
 have J3: ∀o∈l,(l7 t bj l).I o=t.I o:= λo aB=>by obtain⟨x,b,cs,w,bt,_⟩:=ij o aB;exact amB aB ae (aM bt)
 refine⟨amJ,cV,ea,r,bj,A,?_,ai,?_⟩
 ·refine⟨λo x B=> ?_,λo es aQ=> ?_,D.jo,D.inj,D.cQ,λb cs hb=>⟨(D.bZ b cs hb).1,λo x ck B=> ?_⟩⟩
  ·by_cases aB:o∈l
   ·rw[J3 o aB]at B;obtain⟨y,b,cs,w,bt,bR,a3,a4,ft,jh⟩:=ij o aB;rw[bt]at B;cases B;exact .inl ⟨b,cs,w,aT.e o b a3,by rw[amJ o aB b a3];exact a4,ft,jh.bD aT.f aT.e⟩
   ·rw[ET aB]at B;exact D.iU o x B
  ·by_cases aB:o∈l
   ·have:=(jb aQ).1;rw[J3 o aB]at this;obtain⟨y,Y,ar⟩:=az o aB;rw[Y]at this;cases this;exact absurd rfl ar
   ·rw[aBH aB]at aQ;exact D.maps o es aQ
  ·by_cases aB:o∈l
   ·rw[J3 o aB]at B;obtain⟨y,cw,ny,w,bt,bR,a3,a4,ft,jh⟩:=ij o aB;have iG:=aT.e o cw a3;rw[ck]at iG;cases iG;rcases aT.fn b cs hb with q|q|q
    ·exact(F.bZ b cs q).2 o x a3 B
    ·have:=(F.cQ o b a3).2;omega
    ·exact absurd q (aaH o aB b a3)
   ·rw[ET aB]at B;exact(D.bZ b cs hb).2 o x ck B
 ·refine⟨aT.e,aT.f,aT.kZ,λb cs hb=> ?_,ae,aT.lJ,λb hb aS=>aT.dK b hb λ⟨p,G,a8,bV,cv⟩=>aS ⟨p,G,a8,(Dz bV).2,cv⟩,λb hb ⟨o,x,a8,bV,cv⟩=> ?_,λb hb ⟨o,x,a8,bV⟩=> ?_⟩
  ·rcases aT.fn b cs hb with q|q|⟨p,G,a8,bV⟩
   ·exact .inl q
   ·exact .inr (.inl q)
   ·exact .inr (.inr ⟨p,G,a8,(Dz bV).2⟩)
  ·by_cases aB:o∈l
   ·obtain⟨y,cw,ny,w,bt,bR,a3,_⟩:=ij o aB;have iG:=aT.e o cw a3;rw[a8]at iG;cases iG;rw[J3 o aB]at bV;exact⟨o,x,a3,bV,cv⟩
   ·rw[ET aB]at bV;obtain⟨p,G,ek,gm,kT⟩:=aT.r5 b hb ⟨o,x,a8,bV,cv⟩;exact⟨p,G,ek,(Dz gm).2,kT⟩
  ·by_cases aB:o∈l
   ·obtain⟨y,cw,ny,w,bt,bR,a3,_⟩:=ij o aB;have iG:=aT.e o cw a3;rw[a8]at iG;cases iG;rw[J3 o aB]at bV;exact⟨o,x,a3,bV⟩
   ·rw[ET aB]at bV;obtain⟨p,G,ek,gm⟩:=aT.s9 b hb ⟨o,x,a8,bV⟩;exact⟨p,G,ek,(Dz gm).2⟩
theorem SU(F:eb J u t m)(b2:hp u J z K){bd:List (Operand×Operand)}(aa:bd.all (λp=>df p.1&&df p.2)=true){U:H}(S: ∀b,b<m.next-> ¬OF J t b->U.I b=m.I b)(B: ∀o∈nh z t bd,∀b,J o=some b->U.I b=m.I b):uP K bd m U:=by
 intro p Z b hb;simp only[dP]at aa;have D:=aa p Z;simp only[a6]at D;have M:=b2.O D.1;have A: ∀o,ak (O z p.1)=some o->Cv t o=true->o∈nh z t bd:=by
  clear B hb M D aa;induction bd with
  |nil=>cases Z
  | cons q l cf=>
    intro o aB aS;unfold nh;rcases hi.1 Z with rfl|Z
    ·rw[aB];simp only;rw[if_pos aS];exact List.mem_cons_self
    ·have:=cf Z o aB aS;split
     ·split
      ·exact F5 _ this
      ·exact this
     ·exact this
 generalize O z p.1=a at M A;generalize O K p.1=ed at M hb;have key: ∀o,ak a=some o->J o=some b->U.I b=m.I b:= λo aB ck=>by
  cases aS:Cv t o with
  |true=>exact B o (A o aB aS) b ck
  | false=>refine S b (F.cQ o b ck).2 λ⟨o',x,aD,aJ,cg⟩=> ?_;rw[F.inj o' o b aD ck]at aJ;simp[Cv,aJ,cg]at aS
 have amL: ∀cs,u b=some cs->U.I b=m.I b:= λcs dh=>by obtain⟨⟨w,ai⟩,aT⟩:=F.bZ b cs dh;exact S b (aM ai) λ⟨o',x,aD,aJ,cg⟩=>by rw[aT o' x aD aJ]at cg;cases cg
 cases M with
 | c7 h=>unfold ak at hb;split at hb<;>simp[ei]at h hb
 |bH ck=>simp[ak]at hb;subst hb;exact key _ rfl ck
 |slice ck=>simp[ak]at hb;subst hb;exact key _ rfl ck
 |map ck=>simp[ak]at hb;subst hb;exact key _ rfl ck
 |jG e dh=>simp[ak]at hb;subst hb;exact amL _ dh
 |fi e dh=>simp[ak]at hb;subst hb;exact amL _ dh
 |_=>simp[ak]at hb
end
section
variable {P:Program} {u:fU} {J:eU} {t m:H} {z K:aC}
theorem afg(F:eb J u t m)(b2:hp u J z K){bd:List (Operand×Operand)}(hj:bd.all (λp=>df p.1&&df p.2)=true){ax:mG P}{f:Nat}{args bu:List Value}(aa:bL u J args bu){aR:Value->H->Prop}(h:wG ax f args t (nh z t bd) aR):
 ep P f bu m λdZ U=>uP K bd m U/\ ∃cU cy r af,aR r af/\eb cU cy af U/\cm cy cU r dZ/\eQ t.next m.next J u t m cU cy af U:=by
 unfold wG at h;split at h
 ·refine(abe F aa h).bD λdZ U bT=> ?_;obtain⟨A,cy,r,af,D,ai,aT,bF⟩:=bT;exact⟨amI F b2 hj A,J,cy,r,af,D,ai,aT,bF⟩
 ·cases gd:nh z t bd with
  | nil=>
    rw[gd]at h;simp only[Bh]at h;have D:fc P f args t aR:=by
     split at h
     ·exact apG h
     ·exact h
    refine(D J u bu m F aa).bD λdZ U bT=> ?_;obtain⟨cU,cy,r,af,D,ai,aT,bF⟩:=bT;exact⟨SU F b2 hj bF.dK (by rw[gd];nofun),cU,cy,r,af,D,ai,aT,bF⟩
  | cons o l=>
    rw[gd]at h;simp only[Bh]at h;have WG: ∀p∈o::l,∃x,t.I p=some x/\x.cells≠[]:= λp Z=>by
     have:=dP.1 h.1 p Z;unfold Tl at this;split at this
     ·next x B=>exact⟨x,B,λe=>by rw[e]at this;simp at this⟩
     ·cases this
    have D:fc P f args (lY t (o::l)) λr bj=>aR r (l7 t bj (o::l)):=by
     have ai:=h.2;split at ai
     ·exact apG ai
     ·exact ai
    refine(agj WG D F aa).bD λdZ U bT=> ?_;obtain⟨bK,cU,cy,mT,af,S,ai,aT,bF⟩:=bT;exact⟨SU F b2 hj bF.dK (by rw[gd];exact bK),cU,cy,mT,_,S,ai,aT,bF⟩
def A5(J:eU)(u:fU)(t m:H)(base g5:Nat)(ops:List cO):Prop:= ∀o∈ops,o.k.fv=true->s6 J u t m (base+o.aW) (g5+o.aW)
theorem nodup_cons{o:cO}{ops:List cO}(h:yK ((o::ops).map (·.aW))=true):(∀p∈ops,p.aW≠o.aW)/\yK (ops.map (·.aW))=true:=by simp only[lO,yK,a6]at h;refine⟨λp Z e=> ?_,h.2⟩;have A:=h.1;simp at A;exact A p Z e
theorem Uu{ax:mG P}{base g5:Nat}: ∀{ops:List cO} {J:eU} {u:fU} {t m:H} {z K:aC} {aR:aC->H->Prop},ops.all MU=true->yK (ops.map (·.aW))=true->eb J u t m->hp u J z K->A5 J u t m base g5 ops->base<=t.next->g5<=m.next->
 dk ax base ops z t aR->fy P g5 ops K m λkX U=> ∃cU cy bQ af,aR bQ af/\eb cU cy af U/\hp cy cU bQ kX/\eQ base g5 J u t m cU cy af U
 | [],J,u,t,m,z,K,aR,_,_,F,b2,_,_,_,h=>by rw[adT];exact⟨J,u,z,t,h,F,b2,eQ.refl⟩
 | o::ops,J,u,t,m,z,K,aR,av,eW,F,b2,kt,hb,tq,h=>by
   obtain⟨aW,d,g,k,bd⟩:=o;simp only[mZ,a6]at av;obtain⟨bG,D9⟩:=nodup_cons eW;have yp:=av.1;simp only[MU,a6]at yp;have skip: ∀{g:Option (Nat×Bool)},dk ax base ops (cZ z d undef) t aR->fy P g5 ops (cZ K d undef) m λkX U=> ∃cU cy bQ af,aR bQ af/\eb cU cy af U/\hp cy cU bQ kX/\eQ base g5 J u t m cU cy af U:= λh=>
    Uu av.2 D9 F (b2.aO cm.undef) (λo aB aa=>kt o (by simp[aB]) aa) hb tq h
   have Aq:kb ax base ⟨aW,d,g,k,bd⟩ z t (λz t=>dk ax base ops z t aR)->fy P g5 (⟨aW,d,none,k,bd⟩::ops) K m λkX U=> ∃cU cy bQ af,aR bQ af/\eb cU cy af U/\hp cy cU bQ kX/\eQ base g5 J u t m cU cy af U:= λh=>by
    have after: ∀{dZ:Value} {bn:H},(uP K bd m bn/\ ∃cU cy r af,(dk ax base ops (cZ z d r) af aR)/\eb cU cy af bn/\cm cy cU r dZ/\eQ t.next m.next J u t m cU cy af bn)->
     wF P g5 d bd ops K m (λkX U=> ∃cU cy bQ af,aR bQ af/\eb cU cy af U/\hp cy cU bQ kX/\eQ base g5 J u t m cU cy af U) dZ bn:= λ{dZ bn} ⟨S,cV,ea,r,bj,A,D,ai,aT⟩=>by
     refine⟨S,?_⟩;have Em:hp ea cV (cZ z d r) (cZ K d dZ):=(b2.bD aT.f aT.e).aO ai;have D0:A5 cV ea bj bn base g5 ops:= λo aB aa=>by
      have ae:=kt o (by simp[aB]) aa;refine⟨?_,λo' jF=> ?_,?_,ql ae.r2 aT.k5,ql ae.tL aT.lJ⟩
      ·cases aQ:cV (base+o.aW)with
       |none=>rfl
       | some b=>
         rcases aT.kZ _ _ aQ with bF|⟨bF,_⟩
         ·rw[ae.e]at bF;cases bF
         ·have:=ae.r2;omega
      ·rcases aT.kZ _ _ jF with bF|⟨_,bF⟩
       ·exact ae.b _ bF
       ·have:=ae.tL;omega
      ·cases aQ:ea (g5+o.aW)with
       |none=>rfl
       | some cs=>
         rcases aT.fn _ _ aQ with bF|bF|⟨o',_,bF,_⟩
         ·rw[ae.f]at bF;cases bF
         ·have:=ae.tL;omega
         ·exact absurd bF (ae.b o')
     have cf:=Uu av.2 D9 D Em D0 (mD hb aT.k5) (mD tq aT.lJ) A;obtain⟨n,aU,cI,jl,gB,ke,c6,eC,a8,bV,cv,fQ⟩:=cf;exact⟨n,aU,cI,jl,gB,ke,c6,eC,a8,bV,cv,(aT.wj hb tq).trans fQ⟩
    have aa3: ∀{k:ah},k.ln=false->At k=true->(k.fv=true->s6 J u t m (base+aW) (g5+aW))->(k.jq z t=true/\iY z t bd=true/\dk ax base ops (cZ z d (k.jW (base+aW) z t)) (k.o6 (base+aW) z t) aR)->
     fy P g5 (⟨aW,d,none,k,bd⟩::ops) K m λkX U=> ∃cU cy bQ af,aR bQ af/\eb cU cy af U/\hp cy cU bQ kX/\eQ base g5 J u t m cU cy af U:= λ{k} ar S ae h=>by
     rw[nr ar];obtain⟨A,cV,q⟩:=anQ (hn:=base) (hE:=g5) (id:=base+aW) (mid:=g5+aW) F b2 ar S h.1 ae (by omega) (by omega);refine⟨A,afx F b2 yp.2 h.2.1,?_⟩;have Em:hp u cV (cZ z d (k.jW (base+aW) z t)) (cZ K d (k.val (g5+aW) K m)):=(b2.bD q.bZ.f q.bZ.e).aO q.val;have D0:A5 cV u (k.o6 (base+aW) z t) (k.hd (g5+aW) K m) base g5 ops:= λo aB aa=>by
      have ae:=kt o (by simp[aB]) aa;have B:=bG o aB;simp only at B;refine⟨by rw[q.M3 _ (by omega)];exact ae.e,λo' jF=> ?_,ae.f,ql ae.r2 q.bZ.k5,ql ae.tL q.bZ.lJ⟩;by_cases e:o'=base+aW
      ·subst e;rcases q.self with bF|bF
       ·rw[bF]at jF;exact ae.b _ jF
       ·rw[bF]at jF;simp only[mB]at jF;omega
      ·rw[q.M3 _ e]at jF;exact ae.b _ jF
     have cf:=Uu av.2 D9 q.T9 Em D0 (mD hb q.bZ.k5) (mD tq q.bZ.lJ) h.2.2;obtain⟨n,aU,cI,jl,gB,ke,c6,eC,a8,bV,cv,fQ⟩:=cf;exact⟨n,aU,cI,jl,gB,ke,c6,eC,a8,bV,cv,q.bZ.trans fQ⟩
    have tu:=kt ⟨aW,d,g,k,bd⟩ (by simp);have wZ:=yp.1;have b1:=wZ;simp only[At,a6]at b1;cases k with
    | lA f bu=>rw[adR];exact(afg F b2 yp.2 (b2.Bo b1.1) h).bD λdZ bn bT=>after bT
    | m2 x bu=>
      simp only[kb,JA]at h;simp only[ah.hO,mZ,a6]at b1;split at h
      ·next f first kr B=>have M:=b2.O b1.1.1;rw[B]at M;obtain⟨ys,ds,e,hZ,jw⟩:=M.Ep;rw[adS e];exact(afg F b2 yp.2 ((hZ.pV (b2.Bo b1.1.2)).pV jw) h).bD λdZ bn bT=>after bT
      ·exact h.elim
    |mq=>exact h.elim
    |_=>exact aa3 rfl wZ tu h
   simp only[dk]at h;cases g with
   |none=>exact Aq (by simpa[eX]using h)
   | some g=>
     obtain⟨j,b⟩:=g;rw[UA,adF b2];split at h
     ·next aS=>rw[if_pos aS];exact Aq h
     ·next aS=>rw[if_neg aS];exact skip (g:=none) h
theorem OR(F:eb J u t m)(k:Nat):eb J u (t.b0 k) (m.b0 k) where
 iU o x B:=by
  by_cases h:o<t.next
  ·rw[cJ h]at B;rcases F.iU o x B with⟨b,cs,w,A,D,ai⟩|A
   ·exact .inl ⟨b,cs,w,A,by rw[cJ (aM D),D],ai⟩
   ·exact .inr A
  ·simp[H.I,H.b0,h]at B
 maps o es aQ:=by
  by_cases h:o<t.next
  ·rw[VU h]at aQ;obtain⟨b,db,A,D,ai⟩:=F.maps o es aQ;exact⟨b,db,A,by rw[VU (F.cQ o b A).2,D],ai⟩
  ·have:=(jb aQ).1;simp[H.I,H.b0,h]at this
 jo:=F.jo
 inj:=F.inj
 cQ o b h:=by have:=F.cQ o b h;simp only[fp];omega
 bZ b cs h:=by obtain⟨⟨w,A⟩,D⟩:=F.bZ b cs h;refine⟨⟨w,by rw[cJ (aM A),A]⟩,λo x ck B=> ?_⟩;rw[cJ (F.cQ o b ck).1]at B;exact D o x ck B
theorem Ju(F:eb J u t m)(k:Nat):eQ t.next m.next J u t m J u (t.b0 k) (m.b0 k) where
 e:=fE.refl _
 f:=gS.refl _
 kZ o b h:= .inl h
 fn b cs h:= .inl h
 k5:=by simp
 lJ:=by simp
 dK b hb _:=cJ hb
 r5 b hb:= λ⟨o,x,A,D,ai⟩=>⟨o,x,A,by rw[cJ (F.cQ o b A).1]at D;exact D,ai⟩
 s9 b hb:= λ⟨o,x,A,D⟩=>⟨o,x,A,by rw[cJ (F.cQ o b A).1]at D;exact D⟩
theorem aEW{ax:mG P}{ops:List cO}(av:pa (.kl ops)=true)(F:eb J u t m)(b2:hp u J z K){aR:aC->H->Prop}(h:dk ax t.next ops z (hV ops t) aR):
 fy P m.next ops K (hV ops m) λkX U=> ∃cU cy bQ af,aR bQ af/\eb cU cy af U/\hp cy cU bQ kX/\eQ t.next m.next J u t m cU cy af U:=by
 simp only[pa,a6]at av;have mM:eb J u (hV ops t) (hV ops m):=by
  unfold hV;split
  ·exact OR F _
  ·exact F
 have vB:eQ t.next m.next J u t m J u (hV ops t) (hV ops m):=by
  unfold hV;split
  ·exact Ju F _
  ·exact eQ.refl
 have yd:A5 J u (hV ops t) (hV ops m) t.next m.next ops:= λo aB aa=>by
  have Kk:(ops.any λo=>o.k.fv)=true:=Dd.2 ⟨o,aB,aa⟩;have tn:o.aW<ops.length:=(by simpa using dP.1 av.2 o aB);refine⟨?_,λo' jF=> ?_,?_,by simp[hV,Kk,tn],by simp[hV,Kk,tn]⟩
  ·cases aQ:J (t.next+o.aW)with
   |none=>rfl
   |some b=>have:=(F.cQ _ _ aQ).1;omega
  ·have:=(F.cQ _ _ jF).2;omega
  ·cases aQ:u (m.next+o.aW)with
   |none=>rfl
   |some cs=>obtain⟨⟨w,A⟩,_⟩:=F.bZ _ _ aQ;have:=aM A;omega
 have:=Uu av.1.1 av.1.2 mM b2 yd vB.k5 vB.lJ h;obtain⟨n,aU,cI,jl,gB,ke,c6,eC,a8,bV,cv,fQ⟩:=this;exact⟨n,aU,cI,jl,gB,ke,c6,eC,a8,bV,cv,vB.trans fQ⟩
theorem FQ{ax:mG P}: ∀{c:aw} {z:aC} {t:H} {Q:cM->aC->H->Prop},ix ax c z t Q->ec P c z t Q
 | .skip,z,t,Q,h=> λ_ J u K m F b2=>by rw[adQ];exact⟨J,u,z,t,h,F,b2,eQ.refl⟩
 | .cH id,z,t,Q,h=> λ_ J u K m F b2=>by rw[adN];exact⟨J,u,z,t,h,F,b2,eQ.refl⟩
 | .e3,z,t,Q,h=> λ_ J u K m F b2=>by rw[adP];exact⟨J,u,z,t,h,F,b2,eQ.refl⟩
 | .kl ops,z,t,Q,h=> λav J u K m F b2=>by rw[adO];exact aEW av F b2 h
 | .uQ _ _ _,_,_,_,h=>h.elim
 | .ky a b,z,t,Q,h=> λav J u K m F b2=>by
   simp only[pa,a6]at av;rw[Uy];refine(FQ (c:=a) h av.1 J u K m F b2).bD λe aU bn bT=> ?_;obtain⟨cV,ea,bQ,bj,A,D,ai,aT⟩:=bT;cases e with
   | eB=>rw[NX];refine(FQ (c:=b) A av.2 cV ea aU bn D ai).bD λe bS cI bT=> ?_;obtain⟨gB,ke,c6,eC,aE,a2,cj,dy⟩:=bT;exact⟨gB,ke,c6,eC,aE,a2,cj,aT.trans (dy.wj aT.k5 aT.lJ)⟩
   |cH id=>exact⟨cV,ea,bQ,bj,A,D,ai,aT⟩
   |e3=>exact⟨cV,ea,bQ,bj,A,D,ai,aT⟩
 | .nx c a b,z,t,Q,h=> λav J u K m F b2=>by
   simp only[pa,a6]at av;rw[Ux];have e:=ams (b2.O av.1.1) h.1;rw[e];refine⟨h.1,?_⟩;have D:=h.2;split at D
   ·next ar=>rw[if_pos ar];exact FQ (c:=a) D av.1.2 J u K m F b2
   ·next ar=>rw[if_neg ar];exact FQ (c:=b) D av.2 J u K m F b2
 | .block id c,z,t,Q,h=> λav J u K m F b2=>by
   rw[N8];refine(FQ (c:=c) h av J u K m F b2).bD λe aU bn bT=> ?_;obtain⟨cV,ea,bQ,bj,A,D⟩:=bT;cases e with
   |eB=>exact⟨cV,ea,bQ,bj,A,D⟩
   |e3=>exact⟨cV,ea,bQ,bj,A,D⟩
   | cH ki=>
     rw[Gk];simp only at A;split at A
     ·next e=>rw[if_pos e];exact⟨cV,ea,bQ,bj,A,D⟩
     ·next e=>rw[if_neg e];exact⟨cV,ea,bQ,bj,A,D⟩
 | .loop c,z,t,Q,h=>h
theorem ec.bD{c:aw}{Q A8:cM->aC->H->Prop}(h:ec P c z t Q)(bo: ∀e z t,Q e z t->A8 e z t):ec P c z t A8:= λav J u K m F b2=>(h av J u K m F b2).bD λe aU bn bT=>by obtain⟨cV,ea,bQ,bj,A,D⟩:=bT;exact⟨cV,ea,bQ,bj,bo _ _ _ A,D⟩
theorem fc.bD{f:Nat}{args:List Value}{bA uc:Value->H->Prop}(h:fc P f args t bA)(bo: ∀r t,bA r t->uc r t):fc P f args t uc:= λJ u bu m F aa=>(h J u bu m F aa).bD λdZ bn bT=>by obtain⟨cV,ea,r,bj,A,D⟩:=bT;exact⟨cV,ea,r,bj,bo _ _ A,D⟩
theorem eF{ax:mG P}{c:aw}{Q:cM->aC->H->Prop}(h: ∀bM:aC->H->Prop,(∀K af,ec P (.loop c) K af Q->bM K af)->ix ax c z t (rM bM Q)):ec P (.loop c) z t Q:= λav J u K m F b2=>by
 rw[aqG];refine(FQ (h (λK af=>ec P (.loop c) K af Q) (λ_ _ h=>h)) av J u K m F b2).bD λe aU bn bT=> ?_;obtain⟨cV,ea,bQ,bj,A,D,ai,aT⟩:=bT;cases e with
 | eB=>rw[amX];refine(A av cV ea aU bn D ai).bD λe bS cI bT=> ?_;obtain⟨gB,ke,c6,eC,aE,a2,cj,dy⟩:=bT;exact⟨gB,ke,c6,eC,aE,a2,cj,aT.trans (dy.wj aT.k5 aT.lJ)⟩
 |cH id=>exact⟨cV,ea,bQ,bj,A,D,ai,aT⟩
 |e3=>exact⟨cV,ea,bQ,bj,A,D,ai,aT⟩
def CB(cC:List lP)(bA:Value->H->Prop)(e:cM)(z:aC)(t:H):Prop:=match e with| .cH _=>False|_=>mw t z cC=true/\bA (mU t z cC) t
theorem abz(F:eb J u t m)(b2:hp u J z K){r:lP}(h:rW t z r=true):rW m K r=true/\cm u J (sG t z r) (sG m K r):=by
 cases r with
 |bJ x=>exact⟨rfl,b2 x⟩
 | ha x dr n=>
   simp only[rW,a6]at h⊢;have pF:oI (z x)=false:=by have A:=h.1;cases B:z x<;>simp[B,gT]at A<;>rfl
   have A:sg t (z x) n=true:=(by rw[sg,pF];exact h.1);refine⟨⟨Jg F (b2 x) A,h.2⟩,?_⟩;have:=aan F (b2 x) A h.2;rw[Ao,pF]at this;exact this
theorem abB(F:eb J u t m)(b2:hp u J z K){cC:List lP}(h:mw t z cC=true):mw m K cC=true/\cm u J (mU t z cC) (mU m K cC):=by
 simp only[mw,dP]at h⊢;refine⟨λr al=>(abz F b2 (h r al)).1,?_⟩;have az:bL u J (cC.map (sG t z)) (cC.map (sG m K)):=bL.HU _ _ _ λr al=>(abz F b2 (h r al)).2;unfold mU;split
 ·exact(abz F b2 (h _ (by simp))).2
 ·exact az.tuple
theorem c2{ax:mG P}{f:Nat}{Fn:b8}(dh:cd P f=some Fn)(av:pa Fn.body=true){args:List Value}(az:args.length<=Fn.dc){bA:Value->H->Prop}(h:ix ax Fn.body (ig args) t (CB Fn.j6 bA)):fc P f args t bA:= λJ u bu m F aa=>by
 rw[nN dh (by rw[<-aa.1];exact az)];refine(FQ h av J u (ig bu) m F (hp.init aa)).bD λe aU bn bT=> ?_;obtain⟨cV,ea,bQ,bj,A,D,ai,aT⟩:=bT;cases e with
 |cH id=>exact A.elim
 |eB=>obtain⟨a,b⟩:=abB D ai A.1;exact⟨a,cV,ea,_,bj,A.2,D,b,aT⟩
 |e3=>obtain⟨a,b⟩:=abB D ai A.1;exact⟨a,cV,ea,_,bj,A.2,D,b,aT⟩
def fJ:H:=⟨0,λ_=>none,λ_=>none⟩
theorem aav(o:Nat):fJ.I o=none:=by simp[fJ,H.I]
theorem ac1(dh:sc u m):eb kS u fJ m where
 iU o x B:=by rw[aav]at B;cases B
 maps o es aQ:=by have:=(jb aQ).1;rw[aav]at this;cases this
 jo o _:=rfl
 inj o o' b h:=by cases h
 cQ o b h:=by cases h
 bZ b cs h:=⟨dh b cs h,λo x ck=>by cases ck⟩
open Classical in
theorem du{f:Nat}{args:List Value}{r:Value}(h:fc P f args fJ λv t=>dt 9 t v=some r):bP P f args r:= λu m bu dh aa=>by
 refine(h kS u bu m (ac1 dh) aa).bD λdZ U bT=> ?_;obtain⟨cU,cy,v,af,A,D,ai,aT⟩:=bT;refine⟨aT.lJ,(λb hb=>aT.dK b hb λ⟨o,x,e,_⟩=>by cases e),(λb=>match cy b with
  |some cs=>some cs
  |none=>if∃o,cU o=some b then(U.I b).map (·.cells)else none),λb cs hb=> ?_,λb cs hb=> ?_,?_⟩
 ·simp only[aT.f b cs hb]
 ·simp only at hb;split at hb
  ·next bF=>cases hb;exact(D.bZ b _ bF).1
  ·split at hb
   ·cases aH:U.I b with
    |none=>rw[aH]at hb;cases hb
    |some x=>rw[aH]at hb;cases hb;exact⟨x.own,rfl⟩
   ·cases hb
 ·refine Gz D (λb cs hb=>by simp only[hb]) 9 ai A λo aB fl b cs w ck aH=> ?_;cases mm:cy b with
  |some ds=>obtain⟨⟨w',kE⟩,_⟩:=D.bZ b ds mm;rw[aH]at kE;cases kE;rfl
  |none=>rw[if_pos ⟨o,ck⟩,aH];rfl
theorem tY{c:aw}{Q:cM->aC->H->Prop}{d G:Nat}(bY:z d= .slice none 0 0)(h:ec P c (k7 z d (.slice (some ⟨t.next,0,none⟩) 0 G)) ((t.b0 1).aO t.next (some ⟨[],true⟩)) Q):ec P c z t Q:= λav J u K m F b2=>by
 have ck:J t.next=none:=by
  cases aQ:J t.next with
  |none=>rfl
  |some b=>have:=(F.cQ _ _ aQ).1;omega
 have mM:eb J u ((t.b0 1).aO t.next (some ⟨[],true⟩)) m:=by
  refine⟨λo x B=> ?_,λo es aQ=> ?_,F.jo,F.inj,λo b h=>⟨by have:=(F.cQ o b h).1;simp only[eJ,fp];omega,(F.cQ o b h).2⟩,λb cs hb=> ?_⟩
  ·by_cases aB:o=t.next
   ·subst aB;rw[cx (by simp)]at B;cases B;exact .inr ⟨ck,rfl⟩
   ·rw[a7 aB,H.cJ]at B;exact F.iU o x B
  ·by_cases aB:o=t.next
   ·subst aB;have:=(jb aQ).2;rw[show((t.b0 1).aO t.next (some ⟨[],true⟩)).mp=t.mp from rfl,F.jo _ ck]at this;cases this
   ·rw[vw aB]at aQ;obtain⟨aD,aJ⟩:=jb aQ;rw[H.cJ]at aD;exact F.maps o es (kB aD aJ)
  ·obtain⟨A,D⟩:=F.bZ b cs hb;refine⟨A,λo x V6 B=> ?_⟩;have aB:o≠t.next:= λe=>by subst e;rw[ck]at V6;cases V6
   rw[a7 aB,H.cJ]at B;exact D o x V6 B
 have awU:hp u J (k7 z d (.slice (some ⟨t.next,0,none⟩) 0 G)) K:= λx=>by
  have B:=b2 x;simp only[k7];split
  ·next e=>subst e;rw[bY]at B;rw[B.hL rfl];exact .rZ
  ·exact B
 refine(h av J u K m mM awU).bD λe aU bn bT=> ?_;obtain⟨cV,ea,bQ,bj,A,D,ai,aT⟩:=bT;refine⟨cV,ea,bQ,bj,A,D,ai,?_⟩;have au2:eQ t.next m.next J u t m J u ((t.b0 1).aO t.next (some ⟨[],true⟩)) m:=⟨fE.refl _,gS.refl _,λ_ _ h=> .inl h,λ_ _ h=> .inl h,by simp,c8 _,λ_ _ _=>rfl,λb hb=> λ⟨o,x,aD,aJ,cg⟩=>by
  have aB:o≠t.next:= λe=>by subst e;rw[ck]at aD;cases aD
  rw[a7 aB,H.cJ]at aJ;exact⟨o,x,aD,aJ,cg⟩,λb hb=> λ⟨o,x,aD,aJ⟩=>by
  have aB:o≠t.next:= λe=>by subst e;rw[ck]at aD;cases aD
  rw[a7 aB,H.cJ]at aJ;exact⟨o,x,aD,aJ⟩⟩
 exact au2.trans (aT.wj (by simp) (c8 _))
end
end Go.DI
