/-
  A part of the proof, shortened by tools of ours.
-/
import Derived.SizedLaws
import Derived.ChangeOld
import Derived.WideShapes
import Derived.OpenShut
import Derived.Test.YtmmkkggfmigppaaGreatZah
set_option linter.all false
set_option maxRecDepth 8000
set_option maxHeartbeats 16000000
namespace Go.DI
open Go Go.RowKit
inductive fZ where
 |int (k:IntKind)
 |bool
 |str
 |slice (e:fZ)
 |unit
 |od (a b:fZ)
abbrev fZ.bU:fZ->Type
 | .int _=>Int
 | .bool=>Bool
 | .str=>ByteArray
 | .slice e=>List e.bU
 | .unit=>Unit
 | .od a b=>a.bU×b.bU
def fZ.cells:fZ->Nat
 | .unit=>0
 | .od a b=>a.cells+b.cells
 |_=>1
def fZ.bk:fZ->Nat
 | .int .u32=>4
 |_=>1
theorem fZ.aCz(s:fZ):1<=s.bk:=by unfold fZ.bk;split<;>omega
theorem fZ.aCy(s:fZ){n k:Nat}(h:n*s.bk<=k):n<=k:=mD (Nat.le_mul_of_pos_right n s.aCz) h
def fZ.isAgg:fZ->Bool
 | .unit| .od _ _=>true
 |_=>false
def ti(P:Program)(h:TypeId->fZ->Bool):Nat->List Field->fZ->Bool
 |_,[],.unit=>true
 |off,f::fs,.od a b=>f.offset==off&&h f.type a&&P.cellsOf f.type==a.cells&&ti P h (off+a.cells) fs b
 |_,_,_=>false
def th(h:fZ->Bool)(G:Nat):Nat->fZ->Bool
 |0,.unit=>true
 |n+1,.od a b=>h a&&a.cells==G&&th h G n b
 |_,_=>false
def BC(P:Program):Nat->TypeId->fZ->Bool
 |0,_,_=>false
 | n+1,t,s=>match P.underlying t,s with
   |some (.int k),.int e7=>decide (k=e7)
   |some .bool,.bool=>true
   |some .string,.str=>true
   |some (.slice e),.slice ih=>BC P n e ih&&P.cellsOf e==ih.cells&&decide (0<ih.cells)&&decide (ih.bk<=P.bytesOf e)
   |some (.struct fs),s=>s.isAgg&&P.cellsOf t==s.cells&&ti P (BC P n) 0 fs.toList s
   |some (.array k e),s=>s.isAgg&&P.cellsOf t==s.cells&&th (BC P n e) (P.cellsOf e) k s
   |_,_=>false
abbrev pw{e:fZ}(l:(fZ.slice e).bU):List e.bU:=l
def sZ(m:H):(s:fZ)->List Value->s.bU->Prop
 | .int k,cs,n=>cs=[.int k n]/\(Lit.int k n).wf=true
 | .bool,cs,b=>cs=[.bool b]
 | .str,cs,s=>cs=[.string s]/\s.size<=reachBytes
 | .slice e,cs,l=>(cs=[.slice none 0 0]/\pw l=[])\/ ∃(b:Nat) (bI:List (List Value)),cs=[.slice (some ⟨b,0,none⟩) (pw l).length e.cells]/\m.I b=some ⟨bI.flatten,false⟩/\(pw l).length*e.bk<=reachBytes/\bI.length=(pw l).length/\(∀(i:Nat) (r:List Value) (d:e.bU),bI[i]?=some r->(pw l)[i]?=some d->sZ m e r d)
 | .unit,cs,_=>cs=[]
 | .od a b,cs,d=> ∃b6 cR,cs=b6++cR/\sZ m a b6 d.1/\sZ m b cR d.2
theorem sZ.len{m:H}: ∀{s:fZ} {cs:List Value} {d:s.bU},sZ m s cs d->cs.length=s.cells
 | .int _,_,_,h=>by rw[h.1];rfl
 | .bool,cs,d,h=>by have:cs=[.bool d]:=h;rw[this];rfl
 | .str,_,_,h=>by rw[h.1];rfl
 | .slice _,_,_,h=>by rcases h with⟨rfl,_⟩|⟨b,bI,rfl,_⟩<;>rfl
 | .unit,cs,_,h=>by have:cs=[]:=h;rw[this];rfl
 | .od a b,_,_,h=>by obtain⟨b6,cR,rfl,A,D⟩:=h;simp[fZ.cells,A.len,D.len]
theorem sZ.bD{m U:H}(ab: ∀b x,m.I b=some x->x.own=false->U.I b=some x): ∀{s:fZ} {cs:List Value} {d:s.bU},sZ m s cs d->sZ U s cs d
 | .int _,_,_,h=>h
 | .bool,_,_,h=>h
 | .str,_,_,h=>h
 | .slice e,_,_,h=>by
   rcases h with h|⟨b,bI,A,D,ai,aT,bF⟩
   ·exact .inl h
   ·exact .inr ⟨b,bI,A,ab _ _ D rfl,ai,aT,λi r d al aV=>(bF i r d al aV).bD ab⟩
 | .unit,_,_,h=>h
 | .od a b,_,_,h=>by obtain⟨b6,cR,bY,A,D⟩:=h;exact⟨b6,cR,bY,A.bD ab,D.bD ab⟩
def Fg:(s:fZ)->s.bU->Prop
 | .int k,n=>(Lit.int k n).wf=true
 | .bool,_=>True
 | .str,s=>s.size<=reachBytes
 | .slice e,l=>(pw l).length*e.bk<=reachBytes/\ ∀x∈pw l,Fg e x
 | .unit,_=>True
 | .od a b,d=>Fg a d.1/\Fg b d.2
theorem sZ.ok{m:H}: ∀{s:fZ} {cs:List Value} {d:s.bU},sZ m s cs d->Fg s d
 | .int _,_,_,h=>h.2
 | .bool,_,_,_=>trivial
 | .str,_,_,h=>h.2
 | .slice e,_,l,h=>by
   rcases h with⟨_,h⟩|⟨b,bI,A,D,ai,aT,bF⟩
   ·subst h;exact⟨by simp[pw],λx B=>by cases B⟩
   ·refine⟨ai,λx B=> ?_⟩;obtain⟨i,W,rfl⟩:=lN B;exact(bF i (bI[i]'(by omega)) _ (by simp) (by simp)).ok
 | .unit,_,_,_=>trivial
 | .od a b,_,_,h=>by obtain⟨b6,cR,bY,A,D⟩:=h;exact⟨A.ok,D.ok⟩
def UK(m:H)(s:fZ)(v:Value)(d:s.bU):Prop:= ∃cs,sZ m s cs d/\v=if s.isAgg then .agg cs.toArray else cs.headD undef
inductive xQ(m:H):List fZ->List Value->Prop
 |nil:xQ m [] []
 |cons {s:fZ} {v:Value} {d:s.bU} {mX:List fZ} {vs:List Value} (h:UK m s v d) (F:xQ m mX vs):xQ m (s::mX) (v::vs)
section
variable {aN:Nat} {ag:Ren} {m:H} {w:World}
theorem dv.aeD(ab:dv aN ag m w)(aB: ∀b x,m.I b=some x->x.own=false){xs:List Value}{l:vh}(az:l.c<w.heap.size)(ae:xs.length<=l.n)
 (B: ∀i v,xs[i]?=some v->aq v=true/\ ∃bX,w.cell? ⟨l.c,l.o+i,none⟩=some bX/\dM ag v bX):
 dv aN (hh ag m.next l) ((m.b0 1).aO m.next (some ⟨xs,false⟩)) w/\gH ag (hh ag m.next l)/\(∀b x,m.I b=some x->((m.b0 1).aO m.next (some ⟨xs,false⟩)).I b=some x)/\
  (∀b x,((m.b0 1).aO m.next (some ⟨xs,false⟩)).I b=some x->x.own=false)/\((m.b0 1).aO m.next (some ⟨xs,false⟩)).I m.next=some ⟨xs,false⟩:=by
 have al:ag m.next=none:=by
  cases h:ag m.next with
  |none=>rfl
  |some l=>have:=ab.lf _ _ h;omega
 have eV:=r4 (l:=l) al;have ahP:((m.b0 1).aO m.next (some ⟨xs,false⟩)).I m.next=some ⟨xs,false⟩:=cx (by simp)
 have p3: ∀b x,m.I b=some x->((m.b0 1).aO m.next (some ⟨xs,false⟩)).I b=some x:= λb x hb=>by have:=aM hb;rw[a7 (by omega),cJ this,hb]
 have zR: ∀b x,((m.b0 1).aO m.next (some ⟨xs,false⟩)).I b=some x->(b=m.next/\x=⟨xs,false⟩)\/m.I b=some x:= λb x hb=>by
  by_cases e:b=m.next
  ·subst e;rw[ahP]at hb;cases hb;exact .inl ⟨rfl,rfl⟩
  ·rw[a7 e,H.cJ]at hb;exact .inr hb
 have j2: ∀b x,((m.b0 1).aO m.next (some ⟨xs,false⟩)).I b=some x->x.own=false:= λb x hb=>by
  rcases zR b x hb with⟨_,rfl⟩|h
  ·rfl
  ·exact aB _ _ h
 refine⟨⟨λb c5 hb=> ?_,λb c5 hb=> ?_,λb x hb=> ?_,λb x cw hy hZ jw A D=> ?_,λb es hb=> ?_,λb es hb=> ?_,λb x hZ A D=>(by rw[j2 _ _ A]at D;cases D)⟩,eV,p3,j2,ahP⟩
 ·unfold hh at hb;split at hb
  ·rename_i e;rw[e];simp
  ·have:=ab.lf _ _ hb;simp;omega
 ·unfold hh at hb;split at hb
  ·cases hb;exact az
  ·exact ab.l4 _ _ hb
 ·rcases zR b x hb with⟨rfl,rfl⟩|h
  ·exact⟨l,by simp[hh],ae,λi v M=>by obtain⟨a8,bX,bV,cv⟩:=B i v M;exact⟨a8,bX,bV,cv.bD eV⟩,λh=>by cases h⟩
  ·obtain⟨c5,aE,a2,cj,dy⟩:=ab.l8 b x h;exact⟨c5,eV _ _ aE,a2,λi v M=>by obtain⟨a8,bX,bV,cv⟩:=cj i v M;exact⟨a8,bX,bV,cv.bD eV⟩,dy⟩
 ·rw[j2 _ _ A]at D;cases D
 ·obtain⟨c5,h⟩:=ab.xn b es hb;exact⟨c5,eV _ _ h⟩
 ·exfalso;unfold H.fu at hb;split at hb
  ·rename_i h;have:=j2 _ _ h;cases this
  ·cases hb
end
section
variable {gK:Type} {enc:TypeId×Value->gK} {P:Program} {ay:World}
theorem adH{P:Program}{e:TypeId}{d:DataW gK}{n:Nat}: ∀{l:List (DataW gK)},d∈l->n∈d.weights P e->n∈DataW.weightsAll P e l
 |[],h,_=>by cases h
 | x::r,h,ae=>by
   simp only[DataW.weightsAll,js];rcases hi.1 h with rfl|h
   ·exact .inl ae
   ·exact .inr (adH h ae)
structure UO(ay:World)(ag:Ren)(m:H)(s:fZ)(cs:List Value)(cT:Ren)(U:H)(bu:List Value)(d:s.bU):Prop where
 og:dv ay.heap.size cT U ay
 Al:gH ag cT
 mR: ∀b x,m.I b=some x->U.I b=some x
 own: ∀b x,U.I b=some x->x.own=false
 xJ:da cT bu cs
 mv: ∀v∈bu,aq v=true
 Dk:sZ U s bu d
def Oq(ay:World)(cs:List Value):Prop:= ∀a len cap,.slice (some a) len cap∈cs->0<ay.heap.size
def Ox(enc:TypeId×Value->gK)(P:Program)(ay:World)(t:TypeId)(s:fZ):Prop:=
 ∀l1 cs x,DataW.trod enc P ay 0 (λ_=>true) true l1 t cs=some x->(∀n∈x.1.weights P t,n<=reachBytes)->Oq ay cs-> ∀ag m,dv ay.heap.size ag m ay->(∀b x,m.I b=some x->x.own=false)-> ∃cT U bu d,UO ay ag m s cs cT U bu d
theorem anT{h:TypeId->fZ->Bool}(bT: ∀t s,h t s=true->Ox enc P ay t s): ∀(fs:List Field) (s:fZ) (off l1:Nat) (cs:List Value),ti P h off fs s=true->off+s.cells<=cs.length->
 (∀f∈fs,∃x,DataW.trod enc P ay 0 (λ_=>true) true l1 f.type ((cs.drop f.offset).take (P.cellsOf f.type))=some x/\ ∀n∈x.1.weights P f.type,n<=reachBytes)->Oq ay cs->
 ∀ag m,dv ay.heap.size ag m ay->(∀b x,m.I b=some x->x.own=false)-> ∃cT U bu d,UO ay ag m s ((cs.drop off).take s.cells) cT U bu d
 |[],.unit,off,l1,cs,F,az,B,bw,ag,m,ab,aB=>⟨ag,m,[],(),ab,gH.refl ag,λ_ _ h=>h,aB,by simpa[fZ.cells]using da.nil ag,by simp,rfl⟩
 | f::fs,.od a b,off,l1,cs,F,az,B,bw,ag,m,ab,aB=>by
   simp only[ti,a6,beq_iff_eq]at F;obtain⟨⟨⟨rfl,A⟩,D⟩,ai⟩:=F;simp only[fZ.cells]at az⊢;obtain⟨x,g3,Xc⟩:=B f (by simp);rw[D]at g3;obtain⟨oq,bn,Jm,fW,hu⟩:=bT _ _ A _ _ _ g3 Xc (λao len cap dG=>bw ao len cap (AW (Db dG))) ag m ab aB;obtain⟨ot,cI,Jn,gI,h3⟩:=anT bT fs b (f.offset+a.cells) l1 cs ai (by omega) (λat6 vB=>B at6 (by simp[vB])) bw oq bn hu.og hu.own;refine⟨ot,cI,Jm++Jn,(fW,gI),h3.og,hu.Al.trans h3.Al,λb x hb=>h3.mR _ _ (hu.mR _ _ hb),h3.own,?_,?_,⟨Jm,Jn,rfl,hu.Dk.bD (λb x hb _=>h3.mR _ _ hb),h3.Dk⟩⟩
   ·rw[List.take_add,C8];exact(hu.xJ.bD h3.Al).pV h3.xJ
   ·intro v M;rcases js.1 M with h|h
    ·exact hu.mv v h
    ·exact h3.mv v h
 |[],.int _,_,_,_,F,_,_,_,_,_,_,_=>by simp[ti]at F
 |[],.bool,_,_,_,F,_,_,_,_,_,_,_=>by simp[ti]at F
 |[],.str,_,_,_,F,_,_,_,_,_,_,_=>by simp[ti]at F
 |[],.slice _,_,_,_,F,_,_,_,_,_,_,_=>by simp[ti]at F
 |[],.od _ _,_,_,_,F,_,_,_,_,_,_,_=>by simp[ti]at F
 |_::_,.int _,_,_,_,F,_,_,_,_,_,_,_=>by simp[ti]at F
 |_::_,.bool,_,_,_,F,_,_,_,_,_,_,_=>by simp[ti]at F
 |_::_,.str,_,_,_,F,_,_,_,_,_,_,_=>by simp[ti]at F
 |_::_,.slice _,_,_,_,F,_,_,_,_,_,_,_=>by simp[ti]at F
 |_::_,.unit,_,_,_,F,_,_,_,_,_,_,_=>by simp[ti]at F
theorem anS{h:fZ->Bool}{e:TypeId}{G:Nat}(bT: ∀s,h s=true->Ox enc P ay e s): ∀(n:Nat) (s:fZ) (i l1:Nat) (cs:List Value),th h G n s=true->i*G+s.cells<=cs.length->
 (∀j,i<=j->j<i+n-> ∃x,DataW.trod enc P ay 0 (λ_=>true) true l1 e ((cs.drop (j*G)).take G)=some x/\ ∀n∈x.1.weights P e,n<=reachBytes)->Oq ay cs->
 ∀ag m,dv ay.heap.size ag m ay->(∀b x,m.I b=some x->x.own=false)-> ∃cT U bu d,UO ay ag m s ((cs.drop (i*G)).take s.cells) cT U bu d
 |0,.unit,i,l1,cs,F,az,B,bw,ag,m,ab,aB=>⟨ag,m,[],(),ab,gH.refl ag,λ_ _ h=>h,aB,by simpa[fZ.cells]using da.nil ag,by simp,rfl⟩
 | n+1,.od a b,i,l1,cs,F,az,B,bw,ag,m,ab,aB=>by
   simp only[th,a6,beq_iff_eq]at F;obtain⟨⟨A,rfl⟩,ai⟩:=F;simp only[fZ.cells]at az⊢;obtain⟨x,g3,Xc⟩:=B i (c8 _) (by omega);obtain⟨oq,bn,Jm,fW,hu⟩:=bT _ A _ _ _ g3 Xc (λao len cap dG=>bw ao len cap (AW (Db dG))) ag m ab aB;have aD:(i+1)*a.cells=i*a.cells+a.cells:=(by rw[oo];omega);obtain⟨ot,cI,Jn,gI,h3⟩:=anS bT n b (i+1) l1 cs ai (by omega) (λj A D=>B j (by omega) (by omega)) bw oq bn hu.og hu.own;refine⟨ot,cI,Jm++Jn,(fW,gI),h3.og,hu.Al.trans h3.Al,λb x hb=>h3.mR _ _ (hu.mR _ _ hb),h3.own,?_,?_,⟨Jm,Jn,rfl,hu.Dk.bD (λb x hb _=>h3.mR _ _ hb),h3.Dk⟩⟩
   ·rw[List.take_add,C8,<-aD];exact(hu.xJ.bD h3.Al).pV h3.xJ
   ·intro v M;rcases js.1 M with h|h
    ·exact hu.mv v h
    ·exact h3.mv v h
 |0,.int _,_,_,_,F,_,_,_,_,_,_,_=>by simp[th]at F
 |0,.bool,_,_,_,F,_,_,_,_,_,_,_=>by simp[th]at F
 |0,.str,_,_,_,F,_,_,_,_,_,_,_=>by simp[th]at F
 |0,.slice _,_,_,_,F,_,_,_,_,_,_,_=>by simp[th]at F
 |0,.od _ _,_,_,_,F,_,_,_,_,_,_,_=>by simp[th]at F
 |_+1,.int _,_,_,_,F,_,_,_,_,_,_,_=>by simp[th]at F
 |_+1,.bool,_,_,_,F,_,_,_,_,_,_,_=>by simp[th]at F
 |_+1,.str,_,_,_,F,_,_,_,_,_,_,_=>by simp[th]at F
 |_+1,.slice _,_,_,_,F,_,_,_,_,_,_,_=>by simp[th]at F
 |_+1,.unit,_,_,_,F,_,_,_,_,_,_,_=>by simp[th]at F
theorem anU{e:TypeId}{s:fZ}(bT:Ox enc P ay e s){a:Addr}(F:a.spot=none){l1:Nat}(qH:0<ay.heap.size): ∀(k:Nat),(∀i,i<k-> ∃cs x,ay.cells? 0 (a.add (i*s.cells)) s.cells=some cs/\DataW.trod enc P ay 0 (λ_=>true) true l1 e cs=some x/\ ∀n∈x.1.weights P e,n<=reachBytes)->
 ∀ag m,dv ay.heap.size ag m ay->(∀b x,m.I b=some x->x.own=false)->
 ∃ (cT:Ren) (U:H) (bI:List (List Value)) (ds:List s.bU),dv ay.heap.size cT U ay/\gH ag cT/\(∀b x,m.I b=some x->U.I b=some x)/\(∀b x,U.I b=some x->x.own=false)/\bI.length=k/\ds.length=k/\(bI.flatten).length=k*s.cells/\
   (∀i v,bI.flatten[i]?=some v->aq v=true/\ ∃bX,ay.cell? ⟨a.block,a.off+i,none⟩=some bX/\dM cT v bX)/\(∀(i:Nat) (r:List Value) (d:s.bU),bI[i]?=some r->ds[i]?=some d->sZ U s r d)
 |0,_,ag,m,ab,aB=>⟨ag,m,[],[],ab,gH.refl ag,λ_ _ h=>h,aB,rfl,rfl,by simp,by simp,by simp⟩
 | k+1,S,ag,m,ab,aB=>by
   obtain⟨oq,bn,bI,ds,aE,a2,cj,dy,fB,fb,ja,qC,Bt⟩:=anU bT F qH k (λi W=>S i (by omega)) ag m ab aB;obtain⟨cs,x,ar,B,awJ⟩:=S k (by omega);obtain⟨_,di,vz⟩:=World.cells?_some ar;obtain⟨ot,cI,bu,d,o⟩:=bT _ _ _ B awJ (λ_ _ _ _=>qH) oq bn aE dy;have fl:bu.length=s.cells:=o.Dk.len;refine⟨ot,cI,bI++[bu],ds++[d],o.og,a2.trans o.Al,λb x hb=>o.mR _ _ (cj _ _ hb),o.own,by simp[fB],by simp[fb],?_,?_,?_⟩
   ·simp[ja,fl,oo]
   ·intro i v M;rw[List.flatten_append,zb]at M;split at M
    ·obtain⟨a8,bX,bV,cv⟩:=qC i v M;exact⟨a8,bX,bV,cv.bD o.Al⟩
    ·rename_i W;rw[ja]at W M;simp only[sX,List.flatten_nil,r8]at M;refine⟨o.mv v (fr M),?_⟩;obtain⟨bX,tx,al⟩:=o.xJ.I M;have lh:i-k*s.cells<s.cells:=(by have:=(cG.1 M).1;omega);have:=vz _ lh;rw[tx]at this;refine⟨bX,?_,al⟩;rw[<-this];congr 1;obtain⟨jC,hq,OK⟩:=a;simp only at F;subst F;unfold Addr.add;split<;>split<;>simp<;>omega
   ·intro i r lB al aV;rw[zb]at al aV;rw[fB]at al;rw[fb]at aV;split at al
    ·rename_i W;rw[if_pos W]at aV;exact(Bt i r lB al aV).bD (λb x hb _=>o.mR _ _ hb)
    ·rename_i W;rw[if_neg W]at aV;have:i-k=0:=by
      have:=(cG.1 al).1;simp at this;omega
     rw[this]at al aV;simp at al aV;subst al;subst aV;exact o.Dk
theorem anV: ∀(n:Nat) (t:TypeId) (s:fZ),BC P n t s=true->Ox enc P ay t s
 |0,_,_,h=>by cases h
 | n+1,t,s,h=>by
   have cf:=anV n;intro l1 cs x B nE bw ag m ab aB;unfold BC at h;split at h
   ·rename_i k e7 a9;simp only[ey]at h;subst h;obtain⟨v,rfl,rfl,aS⟩:=DataW.trod_int a9 B;exact⟨ag,m,[.int k v],v,ab,gH.refl ag,λ_ _ h=>h,aB,da.cons (.c7 rfl) (da.nil ag),by simp[aq],⟨rfl,aS⟩⟩
   ·rename_i a9;obtain⟨b,rfl,rfl⟩:=DataW.trod_bool a9 B;exact⟨ag,m,[.bool b],b,ab,gH.refl ag,λ_ _ h=>h,aB,da.cons (.c7 rfl) (da.nil ag),by simp[aq],rfl⟩
   ·rename_i a9;obtain⟨v,rfl,rfl,aS⟩:=DataW.trod_string a9 B;exact⟨ag,m,[.string v],v,ab,gH.refl ag,λ_ _ h=>h,aB,da.cons (.c7 rfl) (da.nil ag),by simp[aq],⟨rfl,by have:=nE v.data.toList.length (by simp[DataW.weights]);simpa using this⟩⟩
   ·rename_i e ih a9;simp only[a6,beq_iff_eq,ey]at h;obtain⟨⟨⟨A,D⟩,ai⟩,avs⟩:=h;rcases DataW.trod_slice a9 B with⟨rfl,rfl⟩|⟨a,len,cap,DE,bN,gQ,_,rfl,rfl,_,yj,qI,tk,ck,c0,_⟩
    ·exact⟨ag,m,[.slice none 0 0],[],ab,gH.refl ag,λ_ _ h=>h,aB,da.cons (.c7 rfl) (da.nil ag),by simp[aq],.inl ⟨rfl,rfl⟩⟩
    ·have qH:0<ay.heap.size:=bw a len cap (by simp);have Qd:len*ih.bk<=reachBytes:=by
      have bF:=nE ((DE.length+bN.length)*P.bytesOf e) (by simp[DataW.weights,a9]);have cW:len*ih.bk<=(DE.length+bN.length)*P.bytesOf e:=Nat.mul_le_mul (by omega) avs;omega
     have vR: ∀y∈DE,∀n∈y.1.weights P e,n<=reachBytes:= λy Y n ae=>nE n (by simp only[DataW.weights,a9];exact F5 _ (oR _ (adH (List.mem_map_of_mem Y) ae)));rw[D]at ck c0;have c0:=c0 rfl
     -- where adm B9 a ha,pR aMB B9 plain
     have ag0:0<cap->a.spot=none/\a.block<ay.heap.size:=by
      intro ar;have: ∃cs,ay.cells? 0 a ih.cells=some cs:=by
       by_cases az:0<len
       ·have:=ck 0 az;obtain⟨y,Y⟩: ∃y,DE[0]?=some y:=⟨DE[0]'(by omega),by simp⟩;rw[Y,Option.bind_eq_some_iff]at this;obtain⟨cs,ia,_⟩:=this;exact⟨cs,by simpa[Addr.add]using ia⟩
       ·have:=c0.2 0 (by omega);obtain⟨y,Y⟩: ∃y,bN[0]?=some y:=⟨bN[0]'(by omega),by simp⟩;rw[Y,Option.bind_eq_some_iff]at this;obtain⟨cs,ia,_⟩:=this;exact⟨cs,by simpa[Addr.add,show len=0 by omega]using ia⟩
      obtain⟨cs,ia⟩:=this;refine⟨?_,World.cells?_block ia ai⟩;obtain⟨_,az,vz⟩:=World.cells?_some ia;have bY:=vz 0 ai;obtain⟨jN,p2⟩: ∃jN,cs[0]?=some jN:=⟨cs[0]'(by omega),by simp⟩;rw[p2]at bY;simp only[Addr.add,if_true]at bY;unfold World.cell? at bY;split at bY
      ·split at bY
       ·cases bY
       ·rename_i gZ;simpa using gZ
      ·cases bY
     by_cases p2:cap=0
     ·obtain rfl:len=0:=(by omega);subst p2;obtain⟨ek,gm,kT,rV,Ay⟩:=ab.aeD aB (xs:=[]) (l:=⟨0,0,0⟩) qH (c8 _) (by simp);refine⟨_,_,[.slice (some ⟨m.next,0,none⟩) 0 ih.cells],[],ek,gm,kT,rV,da.cons (.slice (l:=⟨0,0,0⟩) (by simp[hh]) (.inl ⟨rfl,rfl⟩) (c8 _) (gi _)) (da.nil _),by simp[aq],.inr ⟨m.next,[],rfl,Ay,by simp[pw],rfl,by simp⟩⟩
     ·obtain⟨gZ,avu⟩:=ag0 (by omega);have PV: ∀i,i<len-> ∃cs x,ay.cells? 0 (a.add (i*ih.cells)) ih.cells=some cs/\DataW.trod enc P ay 0 (λ_=>true) true gQ e cs=some x/\ ∀n∈x.1.weights P e,n<=reachBytes:=by
       intro i W;have:=ck i W;obtain⟨y,Y⟩: ∃y,DE[i]?=some y:=⟨DE[i]'(by omega),by simp⟩;have awQ:=Y;rw[Y,Option.bind_eq_some_iff]at this;obtain⟨cs,ia,Y⟩:=this;exact⟨cs,y,ia,Y,vR y (fr awQ)⟩
      obtain⟨oq,bn,bI,ds,aE,a2,cj,dy,fB,fb,ja,qC,Bt⟩:=anU (cf _ _ A) gZ qH len PV ag m ab aB;have eV:len*ih.cells<=cap*ih.cells:=zc _ yj;have agz:(pw ds).length=len:=fb;obtain⟨ek,gm,kT,rV,Ay⟩:=aE.aeD dy (xs:=bI.flatten) (l:=⟨a.block,a.off,cap*ih.cells⟩) avu (by rw[ja];exact eV) qC
      refine⟨_,_,[.slice (some ⟨bn.next,0,none⟩) len ih.cells],ds,ek,a2.trans gm,λb x hb=>kT _ _ (cj _ _ hb),rV,da.cons (.slice (l:=⟨a.block,a.off,cap*ih.cells⟩) (by simp[hh]) (.inr ⟨?_,by simp⟩) yj qI) (da.nil _),by simp[aq],
       .inr ⟨bn.next,bI,by rw[agz],Ay,by rw[agz];exact Qd,by omega,λi r d al aV=>(Bt i r d al aV).bD (λb x hb _=>kT _ _ hb)⟩⟩
      obtain⟨jC,hq,OK⟩:=a;simp only at gZ;subst gZ;rfl
   ·rename_i ih fs a9;simp only[a6,beq_iff_eq]at h;obtain⟨⟨bY,A⟩,D⟩:=h;obtain⟨xs,gQ,_,rfl,az,KI,a5⟩:=DataW.trod_struct a9 B;have:=anT (λt s h=>cf t s h) fs.toList _ 0 gQ cs D (by rw[az,A];omega) (λf vB=> ?_) bw ag m ab aB
    ·rw[oj,h7 (by omega)]at this;exact this
    ·obtain⟨i,W,rfl⟩:=lN vB;have hK:i<fs.size:=(by simpa using W);have:=a5 i fs[i] (by simp[hK]);refine⟨xs[i]'(by omega),?_,λn ae=>nE n ?_⟩
     ·rw[c1 (by omega)]at this;simpa using this
     ·simp only[DataW.weights,a9];exact DataW.weights_mem_each (j:=i) (t:=fs[i].type) (d:=xs[i].1) (by simp[hK]) (by simp[c1 (show i<xs.length by omega)]) n (by simpa using ae)
   ·rename_i ih k e a9;simp only[a6,beq_iff_eq]at h;obtain⟨⟨bY,A⟩,D⟩:=h;obtain⟨xs,gQ,_,rfl,az,KI,a5⟩:=DataW.trod_array a9 B;have:=anS (λs h=>cf e s h) k _ 0 gQ cs D (by rw[az,A];omega) (λj _ aX=> ?_) bw ag m ab aB
    ·rw[Nat.zero_mul,oj,h7 (by omega)]at this;exact this
    ·have:=a5 j (by omega);refine⟨xs[j]'(by omega),?_,λn ae=>nE n ?_⟩
     ·rw[c1 (by omega)]at this;simpa using this
     ·simp only[DataW.weights,a9];exact adH (List.mem_map_of_mem (kd (show j<xs.length by omega))) ae
   ·cases h
theorem avC{aN:Nat}{t:TypeId}{v:Value}(M:Value.okWide P ay .any aN t v):Oq ay v.cells.toList:=by
 have ha: ∀bf a len cap,Cell.okWide P ay .any aN bf (.slice (some a) len cap)->0<ay.heap.size:=by
  intro bf a len cap h;unfold Cell.okWide at h;split at h<;>try(rename_i A;cases A)
  unfold Cell.ok at h;split at h<;>rename_i A<;>try cases A
  ·obtain⟨_,_,_,_,c3,cells,F,_⟩:=h;unfold World.shape? at F;split at F
   ·rename_i bT;have:=(xL.1 bT).1;omega
   ·cases F
  ·cases h
 intro a len cap ab;unfold Value.okWide at M;split at M
 ·obtain⟨cs,rfl,_,ts,_,_,al⟩:=M;obtain⟨i,W,aQ⟩:=lN ab;obtain⟨bf,_,ar⟩:=al i (.slice (some a) len cap) (by
   have:i<cs.size:=(by simpa[Value.cells]using W);rw[IZ this];simpa[Value.cells]using aQ)
  exact ha bf a len cap ar
 ·obtain⟨cs,rfl,_,ts,_,_,al⟩:=M;obtain⟨i,W,aQ⟩:=lN ab;obtain⟨bf,_,ar⟩:=al i (.slice (some a) len cap) (by
   have:i<cs.size:=(by simpa[Value.cells]using W);rw[IZ this];simpa[Value.cells]using aQ)
  exact ha bf a len cap ar
 ·cases v<;>simp[Value.cells]at ab
  ·obtain⟨rfl,rfl,rfl⟩:=ab;exact ha _ _ _ _ M
  ·exfalso;unfold Cell.okWide at M;split at M<;>try(rename_i A;cases A)
   unfold Cell.ok at M;split at M<;>try(rename_i A;cases A)
   cases M
theorem aDG{n:Nat}{t:TypeId}{s:fZ}(F:BC P n t s=true){aN:Nat}{v:Value}{d:DataW gK}{ps:List MemPlace}(M:Value.okWide P ay .any aN t v)(aV:DataW.Trod enc P ay 0 (λ_=>true) true t v d ps)(nE: ∀n∈d.weights P t,n<=reachBytes)
 {ag:Ren} {m:H} (ab:dv ay.heap.size ag m ay) (aB: ∀b x,m.I b=some x->x.own=false):
 ∃cT U bf uu,dv ay.heap.size cT U ay/\gH ag cT/\(∀b x,m.I b=some x->U.I b=some x)/\(∀b x,U.I b=some x->x.own=false)/\dM cT bf v/\UK U s bf uu:=by
 obtain⟨l1,B⟩:=aV;obtain⟨cT,U,bu,uu,o⟩:=anV n t s F l1 _ _ B nE (avC M) ag m ab aB;refine⟨cT,U,if s.isAgg then .agg bu.toArray else bu.headD undef,uu,o.og,o.Al,o.mR,o.own,?_,bu,o.Dk,rfl⟩;cases n with
 |zero=>cases F
 | succ n=>
   unfold BC at F;have Ua: ∀w:Value,v.cells.toList=[w]->w=v->s.isAgg=false->dM cT (if s.isAgg then .agg bu.toArray else bu.headD undef) v:=by
    intro w aS aQ aa;rw[aa];have A:=o.xJ;rw[aS]at A;have D:=A.1;cases bu with
    |nil=>simp at D
    |cons a bu=>have:=A.2 0 a w rfl rfl;rw[aQ]at this;simpa using this
   have agg:(∃cs,v= .agg cs)->s.isAgg=true->dM cT (if s.isAgg then .agg bu.toArray else bu.headD undef) v:=(by rintro⟨cs,rfl⟩ aa;rw[aa];have A:=o.xJ;simp only[Value.cells]at A;have:=A.agg o.mv;simpa using this);split at F
   ·rename_i k e7 a9;obtain⟨n,rfl⟩:=WideShapes.okWide_int a9 M;exact Ua _ rfl rfl rfl
   ·rename_i a9;obtain⟨n,rfl⟩:=WideShapes.okWide_bool a9 M;exact Ua _ rfl rfl rfl
   ·rename_i a9;obtain⟨n,rfl⟩:=WideShapes.okWide_string a9 M;exact Ua _ rfl rfl rfl
   ·rename_i e ih a9;obtain⟨a,l,c,rfl⟩:=WideShapes.okWide_slice a9 M;exact Ua _ rfl rfl rfl
   ·rename_i fs a9;simp only[a6]at F;obtain⟨cs,rfl,_⟩:=WideShapes.okWide_struct a9 M;exact agg ⟨cs,rfl⟩ F.1.1
   ·rename_i k e a9;simp only[a6]at F;unfold Value.okWide at M;rw[a9]at M;obtain⟨cs,rfl,_⟩:=M;exact agg ⟨cs,rfl⟩ F.1.1
   ·cases F
def GI(P:Program)(n:Nat):List TypeId->List fZ->Bool
 |[],[]=>true
 |t::ts,s::mX=>BC P n t s&&GI P n ts mX
 |_,_=>false
theorem anR{n:Nat}{aN:Nat}: ∀(ts:List TypeId) (mX:List fZ) (vs:List Value) (ds:List (DataW gK)) (ps:List MemPlace),GI P n ts mX=true->(∀(j:Nat) t v,ts[j]?=some t->vs[j]?=some v->Value.okWide P ay .any aN t v)->
 DataW.TrodAll enc P ay 0 (λ_=>true) true ts vs ds ps->(∀n∈DataW.weightsEach P ts ds,n<=reachBytes)-> ∀ag m,dv ay.heap.size ag m ay->(∀b x,m.I b=some x->x.own=false)->
 ∃cT U dp,dv ay.heap.size cT U ay/\gH ag cT/\(∀b x,m.I b=some x->U.I b=some x)/\da cT dp vs/\xQ U mX dp
 |[],[],[],[],_,_,_,_,_,ag,m,ab,aB=>⟨ag,m,[],ab,gH.refl ag,λ_ _ h=>h,da.nil ag,.nil⟩
 | t::ts,s::mX,v::vs,d::ds,ps,F,M,ba,nE,ag,m,ab,aB=>by simp only[GI,a6]at F;obtain⟨p,q,A,D,rfl⟩:=ba;obtain⟨oq,bn,bf,uu,aE,a2,cj,dy,fB,fb⟩:=aDG F.1 (M 0 t v rfl rfl) A (λn ae=>nE n (by simp only[DataW.weightsEach];exact oR _ ae)) ab aB;obtain⟨ot,cI,dp,bK,cz,dV,gr,kj⟩:=anR ts mX vs ds q F.2 (λj t v a b=>M (j+1) t v (by simpa using a) (by simpa using b)) D (λn ae=>nE n (by simp only[DataW.weightsEach];exact nR _ ae)) oq bn aE dy;obtain⟨cs,fb,ja⟩:=fb;exact⟨ot,cI,bf::dp,bK,a2.trans cz,λb x hb=>dV _ _ (cj _ _ hb),da.cons (fB.bD cz) gr,.cons ⟨cs,fb.bD (λb x hb _=>dV _ _ hb),ja⟩ kj⟩
 |[],_::_,_,_,_,F,_,_,_,_,_,_,_=>by simp[GI]at F
 |_::_,[],_,_,_,F,_,_,_,_,_,_,_=>by simp[GI]at F
 |[],[],_::_,_,_,_,_,ba,_,_,_,_,_=>by simp[DataW.TrodAll]at ba
 |[],[],[],_::_,_,_,_,ba,_,_,_,_,_=>by simp[DataW.TrodAll]at ba
 |_::_,_::_,[],_,_,_,_,ba,_,_,_,_,_=>by simp[DataW.TrodAll]at ba
 |_::_,_::_,_::_,[],_,_,_,ba,_,_,_,_,_=>by simp[DataW.TrodAll]at ba
theorem aah(oY:P.follows .mixedOrders=true){f n aN:Nat}{ts:List TypeId}{mX:List fZ}(F:GI P n ts mX=true){args:Array Value}{ds:List (DataW gK)}{ps:List MemPlace}
 (M: ∀(j:Nat) t v,ts[j]?=some t->args[j]?=some v->Value.okWide P ay .any aN t v) (ba:DataW.TrodAll enc P ay 0 (λ_=>true) true ts args.toList ds ps) (nE: ∀n∈DataW.weightsEach P ts ds,n<=reachBytes)
 (h: ∀m dp,xQ m mX dp->ep P f dp m λr _=>r= .bool true):
 Calls P f args ay λe w'=>e= .returned (.bool true)/\Below ay.heap.size ay w':=by
 obtain⟨ag,m,dp,aE,_,_,dy,fB⟩:=anR ts mX args.toList ds ps F (λj t v a b=>M j t v a (by simpa using b)) ba nE _ _ dv.empty (λb x h=>by unfold H.I at h;split at h<;>cases h);obtain⟨k,r,U,A,rfl⟩:=h m dp fB;have:=(afh oY k ay.heap.size f dp _ _ _ A).2.2.2.2 ag ay args dy aE (c8 _);refine this.mono λe w' bT=> ?_;obtain⟨v,cT,rfl,_,_,M,_,hb⟩:=bT;exact⟨by rw[M.tD],hb⟩
end
theorem J0{m:H}{b:Nat}(h:m.next<=b):m.I b=none:=by simp[H.I];omega
section
variable {dF:Type} {m U:H} {v:Value} {l:List dF}
theorem VQ{bI:List (List Value)}{G:Nat}(bw: ∀x∈bI,x.length=G): ∀{i:Nat} {y:List Value},bI[i]?=some y->(bI.flatten.drop (i*G)).take G=y:=by
 induction bI with
 |nil=>intro i y h;simp at h
 | cons x bI cf=>
   intro i y h;have B:=bw x (by simp);cases i with
   | zero=>simp at h;subst h;simp[List.take_append_of_le_length (Nat.le_of_eq B.symm),h7 (Nat.le_of_eq B)]
   | succ i=>rw[sX,oo,Nat.one_mul,Nat.add_comm,<-C8,<-B,List.drop_left,B];exact cf (λy Y=>bw y (by simp[Y])) (by simpa using h)
theorem wO{bI:List (List Value)}{G:Nat}(bw: ∀x∈bI,x.length=G):bI.flatten.length=bI.length*G:=by
 induction bI with
 |nil=>simp
 |cons x bI cf=>rw[sX,iv,bw x (by simp),cf (λy Y=>bw y (by simp[Y])),mC,oo];omega
variable {p:H} {bI:List (List Value)}
theorem aoW{cs:List Value}{G:Nat}: ∀(n o:Nat),o+n*G<=cs.length-> ∃bI:List (List Value),bI.length=n/\bI.flatten=(cs.drop o).take (n*G)/\ ∀i,i<n->bI[i]?=some ((cs.drop (o+i*G)).take G)
 |0,o,_=>⟨[],rfl,by simp,λi W=>by omega⟩
 | n+1,o,h=>by
   rw[oo]at h;obtain⟨bI,A,D,ai⟩:=aoW (cs:=cs) (G:=G) n (o+G) (by omega);refine⟨(cs.drop o).take G::bI,by simp[A],?_,λi W=> ?_⟩
   ·rw[sX,D,oo,Nat.one_mul,Nat.add_comm (n*G) G,List.take_add,C8]
   ·cases i with
    |zero=>simp
    | succ i=>rw[I0,ai i (by omega)];congr 3;rw[oo];omega
end
def anb(r:List Value):Value:= .agg r.toArray
def aqg:Value->List Value| .agg a=>a.toList|_=>[]
def ad(bI:List (List Value))(G:Nat):Value:= .func (.yield 0) (bI.map anb).toArray #[.int .i64 G]
def fi(c3:List Value)(k:Nat):Value:= .func (.yield 1) c3.toArray #[.int .i64 k]
def aaX:List Value->Nat|[.int _ n]=>n.toNat|_=>0
def iB:Value->Bool| .func (.yield n) _ _=>n==0|_=>false
def oI:Value->Bool| .func (.yield n) _ _=>n==1|_=>false
def lo:Value->Bool| .func (.yield _) _ _=>true|_=>false
def BX:Value->List (List Value)| .func _ cC _=>cC.toList.map aqg|_=>[]
def xb:Value->Nat| .func _ _ jf=>aaX jf.toList|_=>0
def M6:Value->List Value| .func _ cC _=>cC.toList|_=>[]
section
variable {bI CC:List (List Value)} {G j8 k e7:Nat} {c3 xx:List Value}
@[simp] theorem aYf:aqg (anb c3)=c3:=rfl
@[simp] theorem SI:iB (ad bI G)=true:=rfl
@[simp] theorem aQD:iB (fi c3 k)=false:=rfl
@[simp] theorem aQC:oI (ad bI G)=false:=rfl
@[simp] theorem aBA:oI (fi c3 k)=true:=rfl
@[simp] theorem aQK:lo (ad bI G)=true:=rfl
@[simp] theorem aQJ:lo (fi c3 k)=true:=rfl
@[simp] theorem Qk:BX (ad bI G)=bI:=by simp[BX,ad,Function.comp_def]
@[simp] theorem aPL:xb (ad bI G)=G:=by simp[xb,ad,aaX]
@[simp] theorem an2:M6 (fi c3 k)=c3:=rfl
@[simp] theorem ah6:xb (fi c3 k)=k:=by simp[xb,fi,aaX]
@[simp] theorem ah5:ad bI G=ad CC j8↔bI=CC/\G=j8:=
  ⟨λh=>⟨by have:=congrArg BX h;simpa using this,by have:=congrArg xb h;simpa using this⟩,λ⟨a,b⟩=>by rw[a,b]⟩
end
abbrev eU:=Nat->Option Nat
abbrev fU:=Nat->Option (List Value)
abbrev kS:eU:= λ_=>none
inductive cm(u:fU):eU->Value->Value->Prop
 |c7 {J:eU} {v:Value} (h:ei v=true):cm u J v v
 |bH {J:eU} {o b off:Nat} (h:J o=some b):cm u J (.pointer (some ⟨o,off,none⟩)) (.pointer (some ⟨b,off,none⟩))
 |slice {J:eU} {o b off l G:Nat} (h:J o=some b):cm u J (.slice (some ⟨o,off,none⟩) l G) (.slice (some ⟨b,off,none⟩) l G)
 |rZ {J:eU} {o G:Nat}:cm u J (.slice (some ⟨o,0,none⟩) 0 G) (.slice none 0 0)
 |map {J:eU} {o b:Nat} (h:J o=some b):cm u J (.map (some o)) (.map (some b))
 |agg {J:eU} {xs ys:Array Value} (F:xs.size=ys.size) (h: ∀(i:Nat) (x y:Value),xs[i]?=some x->ys[i]?=some y->cm u J x y):cm u J (.agg xs) (.agg ys)
 |tuple {J:eU} {xs ys:Array Value} (F:xs.size=ys.size) (h: ∀(i:Nat) (x y:Value),xs[i]?=some x->ys[i]?=some y->cm u J x y):cm u J (.tuple xs) (.tuple ys)
 | func {J:eU} {f:Nat} {xs ys cs ds:Array Value} (F:xs.size=ys.size) (h: ∀(i:Nat) (x y:Value),xs[i]?=some x->ys[i]?=some y->cm u J x y)
  (ie:cs.size=ds.size) (D: ∀(i:Nat) (x y:Value),cs[i]?=some x->ds[i]?=some y->cm u J x y):cm u J (.func (.func f) xs cs) (.func (.func f) ys ds)
 |iface {J:eU} {t:TypeId} {v bX:Value} (h:cm u J v bX):cm u J (.iface t v) (.iface t bX)
 | jG {J:eU} {v:Value} {b off G:Nat} {cs:List Value} {bI:List (List Value)} (e:v=ad bI G) (dh:u b=some cs) (az:off+bI.length*G<=cs.length)
  (bw: ∀(i:Nat) r,bI[i]?=some r->r.length=G) (ar: ∀(i j:Nat) r x y,bI[i]?=some r->r[j]?=some x->cs[off+i*G+j]?=some y->cm u kS x y):cm u J v (.slice (some ⟨b,off,none⟩) bI.length G)
 |jH {J:eU} {v:Value} {G:Nat} (e:v=ad [] G):cm u J v (.slice none 0 0)
 | fi {J:eU} {v:Value} {b off k:Nat} {cs c3:List Value} (e:v=fi c3 k) (dh:u b=some cs) (az:off+c3.length<=cs.length)
  (ar: ∀(j:Nat) x y,c3[j]?=some x->cs[off+j]?=some y->cm u kS x y):cm u J v (.pointer (some ⟨b,off+k,none⟩))
def fE(J cU:eU):Prop:= ∀o b,J o=some b->cU o=some b
def gS(u cy:fU):Prop:= ∀b cs,u b=some cs->cy b=some cs
theorem fE.refl(J:eU):fE J J:= λ_ _ h=>h
theorem fE.trans{a b c:eU}(h:fE a b)(cn:fE b c):fE a c:= λx l B=>cn x l (h x l B)
theorem fE.nil(J:eU):fE kS J:= λ_ _ h=>by cases h
theorem gS.refl(u:fU):gS u u:= λ_ _ h=>h
theorem gS.trans{a b c:fU}(h:gS a b)(cn:gS b c):gS a c:= λx l B=>cn x l (h x l B)
theorem cm.bD{u cy:fU}{J cU:eU}{v bX:Value}(h:cm u J v bX)(dh:gS u cy)(ck:fE J cU):cm cy cU v bX:=by
 induction h generalizing cU with
 |c7 h=>exact .c7 h
 |bH h=>exact .bH (ck _ _ h)
 |slice h=>exact .slice (ck _ _ h)
 |rZ=>exact .rZ
 |map h=>exact .map (ck _ _ h)
 |agg F _ cf=>exact .agg F λi x y a b=>cf i x y a b ck
 |tuple F _ cf=>exact .tuple F λi x y a b=>cf i x y a b ck
 |func F _ ie _ cf Xu=>exact .func F (λi x y a b=>cf i x y a b ck) ie λi x y a b=>Xu i x y a b ck
 |iface _ cf=>exact .iface (cf ck)
 |jG e A az bw ar cf=>exact .jG e (dh _ _ A) az bw λi j r x y a b c=>cf i j r x y a b c (fE.refl _)
 |jH e=>exact .jH e
 |fi e A az ar cf=>exact .fi e (dh _ _ A) az λj x y a b=>cf j x y a b (fE.refl _)
def bL(u:fU)(J:eU)(xs ys:List Value):Prop:=xs.length=ys.length/\ ∀(i:Nat) (x y:Value),xs[i]?=some x->ys[i]?=some y->cm u J x y
section
variable {u cy:fU} {J cU:eU}
theorem bL.nil:bL u J [] []:=⟨rfl,by intro i x y h;simp at h⟩
theorem bL.cons{x y:Value}{xs ys:List Value}(h:cm u J x y)(F:bL u J xs ys):bL u J (x::xs) (y::ys):=by
 refine⟨by simp[F.1],λi a b aa hb=> ?_⟩;cases i with
 |zero=>simp at aa hb;subst aa;subst hb;exact h
 |succ i=>exact F.2 i a b (by simpa using aa) (by simpa using hb)
theorem bL.bD{xs ys:List Value}(h:bL u J xs ys)(dh:gS u cy)(ck:fE J cU):bL cy cU xs ys:=⟨h.1,λi x y B Y=>(h.2 i x y B Y).bD dh ck⟩
theorem bL.agg{xs ys:List Value}(h:bL u J xs ys):cm u J (.agg xs.toArray) (.agg ys.toArray):= .agg (by simpa using h.1) (by simpa using h.2)
theorem bL.tuple{xs ys:List Value}(h:bL u J xs ys):cm u J (.tuple xs.toArray) (.tuple ys.toArray):= .tuple (by simpa using h.1) (by simpa using h.2)
theorem bL.pV{a b c d:List Value}(h:bL u J a b)(cn:bL u J c d):bL u J (a++c) (b++d):=by
 refine⟨by simp[h.1,cn.1],λi x y B Y=> ?_⟩;rw[zb]at B Y;rw[<-h.1]at Y;split at B
 ·rename_i W;rw[if_pos W]at Y;exact h.2 _ _ _ B Y
 ·rename_i W;rw[if_neg W]at Y;exact cn.2 _ _ _ B Y
theorem bL.drop{a b:List Value}(h:bL u J a b)(n:Nat):bL u J (a.drop n) (b.drop n):=
 ⟨by simp[h.1],λi x y B Y=>h.2 (n+i) x y (by simpa using B) (by simpa using Y)⟩
theorem bL.take{a b:List Value}(h:bL u J a b)(n:Nat):bL u J (a.take n) (b.take n):=by
 refine⟨by simp[h.1],λi x y B Y=> ?_⟩;rw[rf]at B Y;split at B
 ·rename_i W;rw[if_pos W]at Y;exact h.2 _ _ _ B Y
 ·cases B
theorem bL.set{a b:List Value}(h:bL u J a b)(n:Nat){x y:Value}(M:cm u J x y):bL u J (a.set n x) (b.set n y):=by
 refine⟨by simp[h.1],λi bf v B Y=> ?_⟩;rw[AX]at B Y;rw[<-h.1]at Y;split at B
 ·rename_i W;rw[if_pos W]at Y;split at B
  ·rename_i D;rw[if_pos D]at Y;simp at B Y;subst B;subst Y;exact M
  ·cases B
 ·rename_i W;rw[if_neg W]at Y;exact h.2 _ _ _ B Y
theorem bL.gE: ∀{vs dp:List Value} {a b:List Value} (off:Nat),bL u J a b->bL u J vs dp->bL u J (gE a off vs) (gE b off dp)
 |[],[],_,_,_,h,_=>h
 |[],bf::dp,_,_,_,_,D=>by simp[bL]at D
 |v::vs,[],_,_,_,_,D=>by simp[bL]at D
 | v::vs,bf::dp,a,b,off,h,D=>by simp only[Go.DI.gE];exact bL.gE (off+1) (h.set off (D.2 0 v bf rfl rfl)) ⟨by simpa using D.1,λi x y B Y=>D.2 (i+1) x y (by simpa using B) (by simpa using Y)⟩
theorem bL.I{a b:List Value}(h:bL u J a b){i:Nat}{x:Value}(B:a[i]?=some x): ∃y,b[i]?=some y/\cm u J x y:=by have W:i<a.length:=(cG.1 B).1;rw[h.1]at W;exact⟨b[i],c1 W,h.2 i x _ B (c1 W)⟩
theorem bL.HU{dF:Type}(f g:dF->Value): ∀(l:List dF),(∀x∈l,cm u J (f x) (g x))->bL u J (l.map f) (l.map g)
 |[],_=>bL.nil
 |x::l,h=>bL.cons (h x (by simp)) (bL.HU f g l λy Y=>h y (by simp[Y]))
theorem bL.c7{cs:List Value}(h:cs.all ei=true):bL u J cs cs:=by refine⟨rfl,λi x y B Y=> ?_⟩;rw[B]at Y;cases Y;exact .c7 (dP.1 h x (fr B))
theorem bL.flatten{k:Nat}{cs:List Value}(h:bL u J cs cs):bL u J (List.replicate k cs).flatten (List.replicate k cs).flatten:=by
 induction k with
 |zero=>exact bL.nil
 |succ k cf=>rw[I4,sX];exact h.pV cf
theorem cm.m4{v:Value}(h:m4 v=true):cm u J v v:=by
 unfold Go.DI.m4 at h;split at h
 ·rename_i cs;have:=bL.agg (u:=u) (J:=J) (bL.c7 h);simpa using this
 ·rename_i cs;have:=bL.tuple (u:=u) (J:=J) (bL.c7 h);simpa using this
 ·exact .c7 h
theorem cm.undef:cm u J undef undef:=bL.tuple bL.nil
theorem cm.hL{v bX:Value}(h:cm u J v bX)(a5:ei v=true):bX=v:=by
 cases h with
 |c7=>rfl
 |jG e=>subst e;simp[ei,ad]at a5
 |jH e=>subst e;simp[ei,ad]at a5
 |fi e=>subst e;simp[ei,DI.fi]at a5
 |_=>simp[ei]at a5
theorem cm.tE{k:IntKind}{n:Int}{v:Value}(h:cm u J (.int k n) v):v= .int k n:=h.hL rfl
theorem cm.tD{b:Bool}{v:Value}(h:cm u J (.bool b) v):v= .bool b:=h.hL rfl
theorem cm.Ab{b:ByteArray}{v:Value}(h:cm u J (.string b) v):v= .string b:=h.hL rfl
theorem cm.sv{a:Addr}{v:Value}(h:cm u J (.pointer (some a)) v): ∃b,J a.block=some b/\a.spot=none/\v= .pointer (some ⟨b,a.off,none⟩):=by
 cases h with
 |c7 h=>simp[ei]at h
 |bH h=>exact⟨_,h,rfl,rfl⟩
 |jG e=>simp[ad]at e
 |jH e=>simp[ad]at e
 |fi e=>simp[DI.fi]at e
theorem cm.l6{a:Addr}{l G:Nat}{v:Value}(h:cm u J (.slice (some a) l G) v):(∃b,J a.block=some b/\a.spot=none/\v= .slice (some ⟨b,a.off,none⟩) l G)\/(a.off=0/\a.spot=none/\l=0/\v= .slice none 0 0):=by
 cases h with
 |c7 h=>simp[ei]at h
 |slice h=>exact .inl ⟨_,h,rfl,rfl⟩
 |rZ=>exact .inr ⟨rfl,rfl,rfl,rfl⟩
 |jG e=>simp[ad]at e
 |jH e=>simp[ad]at e
 |fi e=>simp[DI.fi]at e
theorem cm.uI{xs:Array Value}{v:Value}(h:cm u J (.agg xs) v): ∃ys,v= .agg ys/\bL u J xs.toList ys.toList:=by
 cases h with
 |c7 h=>simp[ei]at h
 |agg F h=>exact⟨_,rfl,by simpa using F,by simpa using h⟩
 |jG e=>simp[ad]at e
 |jH e=>simp[ad]at e
 |fi e=>simp[DI.fi]at e
theorem cm.Er{xs:Array Value}{v:Value}(h:cm u J (.tuple xs) v): ∃ys,v= .tuple ys/\bL u J xs.toList ys.toList:=by
 cases h with
 |c7 h=>simp[ei]at h
 |tuple F h=>exact⟨_,rfl,by simpa using F,by simpa using h⟩
 |jG e=>simp[ad]at e
 |jH e=>simp[ad]at e
 |fi e=>simp[DI.fi]at e
theorem cm.Ep{f:Nat}{xs cs:Array Value}{v:Value}(h:cm u J (.func (.func f) xs cs) v): ∃ys ds,v= .func (.func f) ys ds/\bL u J xs.toList ys.toList/\bL u J cs.toList ds.toList:=by
 cases h with
 |c7 h=>simp[ei]at h
 |func F h ie D=>exact⟨_,_,rfl,⟨by simpa using F,by simpa using h⟩,by simpa using ie,by simpa using D⟩
 |jG e=>simp[ad]at e
 |jH e=>simp[ad]at e
 |fi e=>simp[DI.fi]at e
theorem cm.KT{t:TypeId}{x v:Value}(h:cm u J (.iface t x) v): ∃y,v= .iface t y/\cm u J x y:=by
 cases h with
 |c7 h=>simp[ei]at h
 |iface h=>exact⟨_,rfl,h⟩
 |jG e=>simp[ad]at e
 |jH e=>simp[ad]at e
 |fi e=>simp[DI.fi]at e
theorem cm.KU{o:Nat}{v:Value}(h:cm u J (.map (some o)) v): ∃b,J o=some b/\v= .map (some b):=by
 cases h with
 |c7 h=>simp[ei]at h
 |map h=>exact⟨_,h,rfl⟩
 |jG e=>simp[ad]at e
 |jH e=>simp[ad]at e
 |fi e=>simp[DI.fi]at e
theorem cm.aic{x v:Value}(h:cm u J x v)(W:oI x=true): ∃c3 k b off cs,x=DI.fi c3 k/\v= .pointer (some ⟨b,off+k,none⟩)/\u b=some cs/\off+c3.length<=cs.length/\
 (∀(j:Nat) x y,c3[j]?=some x->cs[off+j]?=some y->cm u kS x y):=by
 cases h with
 |c7 h=>cases x<;>simp_all [ei,oI]
 |fi e A D ai=>exact⟨_,_,_,_,_,e,rfl,A,D,ai⟩
 |jG e=>subst e;simp at W
 |jH e=>subst e;simp at W
 |_=>simp[oI]at W
theorem cm.an{v bX:Value}(h:cm u J v bX):bL u J (an v) (an bX):=by
 cases h with
 |agg F h=>exact⟨by simpa[DI.an]using F,by simpa[DI.an]using h⟩
 |c7 h=>cases v<;>simp[ei]at h<;>exact bL.cons (.c7 (by simp[ei,h])) bL.nil
 |bH h=>exact bL.cons (.bH h) bL.nil
 |slice h=>exact bL.cons (.slice h) bL.nil
 |rZ=>exact bL.cons .rZ bL.nil
 |tuple F h=>exact bL.cons (.tuple F h) bL.nil
 |func F h ie D=>exact bL.cons (.func F h ie D) bL.nil
 |iface h=>exact bL.cons (.iface h) bL.nil
 |map h=>exact bL.cons (.map h) bL.nil
 |jG e a b c d=>subst e;exact bL.cons (.jG rfl a b c d) bL.nil
 |jH e=>subst e;exact bL.cons (.jH rfl) bL.nil
 |fi e a b c=>subst e;exact bL.cons (.fi rfl a b c) bL.nil
theorem cm.au{v bX:Value}(h:cm u J v bX)(ae:au v=true):au bX=true:=by cases h<;>first|rfl|assumption|(simp[DI.au]at ae)
theorem cm.aq{v bX:Value}(h:cm u J v bX)(ae:aq v=true):aq bX=true:=by cases h<;>first|rfl|assumption|(simp[DI.aq]at ae)
end
def sg(m:H)(v:Value)(n:Nat):Bool:=if oI v then decide (xb v+n<=(M6 v).length)else gT m v n
def Ao(m:H)(dr:Bool)(n:Nat)(v:Value):Value:=
 if oI v then(if dr then .agg (((M6 v).drop (xb v)).take n).toArray else(((M6 v).drop (xb v)).take 1).headD undef)else lH m dr n v
def rT(v:Value):Bool:=oI v||sD v
def yT(v:Value)(n:Nat):Value:=if oI v then fi (M6 v) (xb v+n)else yS v n
def Cd(v:Value):Bool:=iB v||iC v
def lp(v:Value):Int:=if iB v then((BX v).length:Nat)else fm v
def k4(v:Value):Nat:=if iB v then(BX v).length else fR v
def mW(G:Nat)(v:Value):Bool:=if iB v then xb v==G else pl G v
def u7(v:Value)(G l h:Nat):Value:=if iB v then ad (((BX v).take h).drop l) G else rY v G l h
def CQ(v:Value)(G:Nat)(i:Int):Value:=if iB v then fi ((BX v).getD i.toNat []) 0 else CP v G i
def kz(m:H)(G:Nat)(v:Value):Bool:=if iB v then xb v==G else fw m G v
def lb(m:H)(G:Nat)(v:Value):List Value:=if iB v then(BX v).flatten else fq m G v
def nZ(v:Value):Bool:= !lo v&&(match v with| .slice (some _) l _=>l !=0|_=>true)
def ah.jq(k:ah)(z:aC)(m:H):Bool:=
 match k with
 | .g4 dr n x=>sg m (O z x) n&&(dr||decide (n=1))
 | .nY op c x y=>nZ (O z x)&&nZ (O z y)&&um op c (O z x) (O z y)
 | .py x=>kz m 1 (O z x)&&(lb m 1 (O z x)).all EO
 | .wg G x bk W=>mW G (O z x)&&pN z bk&&pN z W&&decide (0<=hf z bk 0)&&decide (hf z bk 0<=hf z W (lp (O z x)))&&decide (hf z W (lp (O z x))<=lp (O z x))
 | .AN G x bk W fK=>mW G (O z x)&&pN z bk&&fe (O z W)&&fe (O z fK)&&decide (0<=hf z bk 0)&&decide (hf z bk 0<=eN (O z W))&&decide (eN (O z W)<=eN (O z fK))&&decide (eN (O z fK)<=lp (O z x))
 | .ks _ x=>rT (O z x)
 | .mP G x i=>mW G (O z x)&&fe (O z i)&&decide (0<=eN (O z i))&&decide (eN (O z i)<lp (O z x))
 | .Aa _ len x i=>rT (O z x)&&fe (O z i)&&decide (0<=eN (O z i))&&decide (eN (O z i)<(len:Int))
 | .uS x=>Cd (O z x)
 | .app G bytes x y=>fw m G (O z x)&&iJ m (O z x)&&kz m G (O z y)&&decide (0<G)&&decide ((fR (O z x)+k4 (O z y))*bytes<=140737488355328)&&decide (fR (O z x)+k4 (O z y)<=9223372036854775807)
 | .yG fn _ _=>(match fn with| .func _=>true|_=>false)
 |k=>k.ok z m
def ah.jW(k:ah)(id:Nat)(z:aC)(m:H):Value:=
 match k with
 | .g4 dr n x=>Ao m dr n (O z x)
 | .py x=> .string (toBytes (lb m 1 (O z x)))
 | .wg G x bk W=>u7 (O z x) G (hf z bk 0).toNat (hf z W (lp (O z x))).toNat
 | .AN G x bk W _=>u7 (O z x) G (hf z bk 0).toNat (eN (O z W)).toNat
 | .ks off x=>yT (O z x) off
 | .mP G x i=>CQ (O z x) G (eN (O z i))
 | .Aa G _ x i=>yT (O z x) ((eN (O z i)).toNat*G)
 | .uS x=> .int .i64 (lp (O z x))
 | .app G _ x y=>if k4 (O z y)=0 then O z x else .slice (some ⟨id,0,none⟩) (fR (O z x)+k4 (O z y)) G
 |k=>k.val id z m
def ah.o6(k:ah)(id:Nat)(z:aC)(m:H):H:=
 match k with
 | .app G _ x y=>if k4 (O z y)=0 then m else(hC m (O z x)).aO id (some ⟨fq m G (O z x)++lb m G (O z y),true⟩)
 |k=>k.hd id z m
def Cv(m:H)(o:Nat):Bool:=match m.I o with|some x=>x.own|none=>false
def Js(m:H)(v:Value):Bool:=match ak v with|some o=>Cv m o|none=>true
def OI(m:H)(a b:Value):Bool:=
 if lo a then !lo b&&Js m b else if lo b then Js m a else match ak a,ak b with
  |some a,some b=>a !=b
  |_,_=>true
def iY(z:aC)(m:H)(bd:List (Operand×Operand)):Bool:=bd.all λ(x,y)=>OI m (O z x) (O z y)
def At(k:ah):Bool:=k.hO.all df&&(match k with
 | .nu G| .vl G _| .mh _ _ G _| .oc _ _ G _ _| .oV _ _ G _ _| .hJ G _=>G.all ei
 | .qX _ G _ _ _=>ei G
 |_=>true)
def MU(o:cO):Bool:=At o.k&&o.bd.all λp=>df p.1&&df p.2
def pa:aw->Bool
 | .kl ops=>ops.all MU&&yK (ops.map (·.aW))&&ops.all λo=>decide (o.aW<ops.length)
 | .ky a b=>pa a&&pa b
 | .nx c a b=>df c&&pa a&&pa b
 | .block _ c=>pa c
 | .loop c=>pa c
 | .uQ _ _ _=>false
 |_=>true
def sb(u:fU)(J:eU)(es db:List (Value×Value)):Prop:=es.length=db.length/\ ∀(i:Nat) e dd,es[i]?=some e->db[i]?=some dd->cm u J e.1 dd.1/\cm u J e.2 dd.2
theorem sb.bD{u cy:fU}{J cU:eU}{es db:List (Value×Value)}(h:sb u J es db)(dh:gS u cy)(ck:fE J cU):sb cy cU es db:=⟨h.1,λi e dd a b=>⟨(h.2 i e dd a b).1.bD dh ck,(h.2 i e dd a b).2.bD dh ck⟩⟩
structure eb(J:eU)(u:fU)(t m:H):Prop where
 iU: ∀o x,t.I o=some x->(∃b cs w,J o=some b/\m.I b=some ⟨cs,w⟩/\(x.own=true->w=true)/\bL u J x.cells cs)\/(J o=none/\x.cells=[])
 maps: ∀o es,t.fu o=some es-> ∃b db,J o=some b/\m.fu b=some db/\sb u J es db
 jo: ∀o,J o=none->t.mp o=none
 inj: ∀o o' b,J o=some b->J o'=some b->o=o'
 cQ: ∀o b,J o=some b->o<t.next/\b<m.next
 bZ: ∀b cs,u b=some cs->(∃w,m.I b=some ⟨cs,w⟩)/\ ∀o x,J o=some b->t.I o=some x->x.own=false
def OF(J:eU)(t:H)(b:Nat):Prop:= ∃o x,J o=some b/\t.I o=some x/\x.own=true
def I6(J:eU)(t:H)(b:Nat):Prop:= ∃o x,J o=some b/\t.I o=some x
structure eQ(hn hE:Nat)(J:eU)(u:fU)(t m:H)(cU:eU)(cy:fU)(af U:H):Prop where
 e:fE J cU
 f:gS u cy
 kZ: ∀o b,cU o=some b->J o=some b\/(hn<=o/\hE<=b)
 fn: ∀b cs,cy b=some cs->u b=some cs\/hE<=b\/I6 J t b
 k5:t.next<=af.next
 lJ:m.next<=U.next
 dK: ∀b,b<hE-> ¬OF J t b->U.I b=m.I b
 r5: ∀b,b<hE->OF cU af b->OF J t b
 s9: ∀b,b<hE->I6 cU af b->I6 J t b
theorem eQ.refl{hn hE:Nat}{J:eU}{u:fU}{t m:H}:eQ hn hE J u t m J u t m:=
 ⟨fE.refl _,gS.refl _,λ_ _ h=> .inl h,λ_ _ h=> .inl h,c8 _,c8 _,λ_ _ _=>rfl,λ_ _ h=>h,λ_ _ h=>h⟩
theorem eQ.trans{hn hE:Nat}{J cV gB:eU}{u ea ke:fU}{t bj eC m bn cI:H}(h:eQ hn hE J u t m cV ea bj bn)(cn:eQ hn hE cV ea bj bn gB ke eC cI):eQ hn hE J u t m gB ke eC cI where
 e:=h.e.trans cn.e
 f:=h.f.trans cn.f
 kZ o b hb:=(cn.kZ o b hb).elim (λA=>h.kZ o b A) .inr
 fn b cs hb:=by
  rcases cn.fn b cs hb with A|A|A
  ·exact h.fn b cs A
  ·exact .inr (.inl A)
  ·by_cases D:b<hE
   ·exact .inr (.inr (h.s9 b D A))
   ·exact .inr (.inl (by omega))
 k5:=mD h.k5 cn.k5
 lJ:=mD h.lJ cn.lJ
 dK b hb aS:=by rw[cn.dK b hb (λw=>aS (h.r5 b hb w)),h.dK b hb aS]
 r5 b hb aS:=h.r5 b hb (cn.r5 b hb aS)
 s9 b hb aS:=h.s9 b hb (cn.s9 b hb aS)
theorem eQ.wj{hn hE NY MN:Nat}{J cU:eU}{u cy:fU}{t af m U:H}(h:eQ hn hE J u t m cU cy af U)(ba:NY<=hn)(ab:MN<=hE):eQ NY MN J u t m cU cy af U where
 e:=h.e
 f:=h.f
 kZ o b hb:=(h.kZ o b hb).imp_right λ⟨a,b⟩=>⟨by omega,by omega⟩
 fn b cs hb:=by
  rcases h.fn b cs hb with A|A|A
  ·exact .inl A
  ·exact .inr (.inl (by omega))
  ·exact .inr (.inr A)
 k5:=h.k5
 lJ:=h.lJ
 dK b hb aS:=h.dK b (by omega) aS
 r5 b hb aS:=h.r5 b (by omega) aS
 s9 b hb aS:=h.s9 b (by omega) aS
def hp(u:fU)(J:eU)(z K:aC):Prop:= ∀t,cm u J (z t) (K t)
section
variable {u cy:fU} {J cU:eU} {z K:aC} {t m:H}
theorem hp.bD(h:hp u J z K)(dh:gS u cy)(ck:fE J cU):hp cy cU z K:= λt=>(h t).bD dh ck
theorem hp.O(h:hp u J z K){x:Operand}(B:df x=true):cm u J (O z x) (O K x):=by
 cases x with
 |tmp t=>exact h t
 |const v=>exact cm.m4 B
 |func f=>exact .func rfl (by intro i x y h;simp at h) rfl (by intro i x y h;simp at h)
 |global g=>simp[df]at B
theorem hp.aO(h:hp u J z K){d:Option Nat}{v bX:Value}(M:cm u J v bX):hp u J (cZ z d v) (cZ K d bX):=by
 cases d with
 |none=>exact h
 | some d=>
   intro t;simp only[cZ,k7];by_cases e:t=d
   ·simp only[e,if_true];exact M
   ·simp only[e,if_false];exact h t
theorem hp.Bo(h:hp u J z K){l:List Operand}(az:l.all df=true):bL u J (l.map (Go.DI.O z)) (l.map (Go.DI.O K)):=
 bL.HU _ _ _ λx B=>h.O (dP.1 az x B)
theorem hp.init{bu bs:List Value}(h:bL u J bu bs):hp u J (ig bu) (ig bs):= λt=>by
 simp only[ig,nQ];cases aa:bu[t]? with
 | none=>rw[re (by rw[<-h.1];exact List.getElem?_eq_none_iff.1 aa)];exact cm.undef
 |some x=>obtain⟨y,Y,M⟩:=h.I aa;rw[Y];exact M
theorem ams{v bX:Value}(h:cm u J v bX)(hb:vU v=true):bX=v:=by cases v<;>simp[vU]at hb;exact h.tD
theorem sw{v bX:Value}(h:cm u J v bX)(hb:fe v=true):bX=v:=by cases v<;>simp[fe]at hb;exact h.tE
theorem EN{v bX:Value}(h:cm u J v bX)(hb:mQ v=true):bX=v:=by cases v<;>simp[mQ]at hb;exact h.Ab
theorem adF(h:hp u J z K)(g:Option (Nat×Bool)):eX K g=eX z g:=by
 cases g with
 |none=>rfl
 | some g=>
   obtain⟨j,b⟩:=g;have M:=h j;simp only[eX];generalize z j=v at M;generalize K j=bX at M;cases M with
   |c7 h=>rfl
   |jG e=>subst e;rfl
   |jH e=>subst e;rfl
   |fi e=>subst e;rfl
   |_=>rfl
end
end Go.DI
