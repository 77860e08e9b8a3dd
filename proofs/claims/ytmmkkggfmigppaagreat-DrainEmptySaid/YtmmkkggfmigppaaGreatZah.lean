/-
  A part of the proof of the statement, in texts that tools of ours (wip/shrink.py, irpack.py, relax.py, minify.py, join.py, lay.py) have shortened.
-/
import Derived.SizedLaws
import Derived.ChangeOld
import Derived.WideShapes
import Derived.OpenShut
import Derived.Test.YtmmkkggfmigppaaGreatZag
set_option linter.all false
set_option maxRecDepth 8000
set_option maxHeartbeats 16000000
namespace Go.DI
open Go Go.RowKit
inductive fc where
  |int (k:IntKind)
  |bool
  |str
  |slice (e:fc)
  |unit
  |m8 (a b:fc)
abbrev fc.cE:fc->Type
  | .int _=>Int
  | .bool=>Bool
  | .str=>ByteArray
  | .slice e=>List e.cE
  | .unit=>Unit
  | .m8 a b=>a.cE×b.cE
def fc.cells:fc->Nat
  | .unit=>0
  | .m8 a b=>a.cells+b.cells
  |_=>1
def fc.ct:fc->Nat
  | .int .u32=>4
  |_=>1
theorem fc.au7(s:fc):1<=s.ct:=by unfold fc.ct;split<;>omega
theorem fc.au6(s:fc){n k:Nat}(h:n*s.ct<=k):n<=k:=jv (Nat.le_mul_of_pos_right n s.au7) h
def fc.isAgg:fc->Bool
  | .unit| .m8 _ _=>true
  |_=>false
def pY(P:Program)(h:TypeId->fc->Bool):Nat->List Field->fc->Bool
  |_,[],.unit=>true
  |off,f::fr,.m8 a b=>f.offset==off&&h f.type a&&P.cellsOf f.type==a.cells&&pY P h (off+a.cells) fr b
  |_,_,_=>false
def pX(h:fc->Bool)(J:Nat):Nat->fc->Bool
  |0,.unit=>true
  |n+1,.m8 a b=>h a&&a.cells==J&&pX h J n b
  |_,_=>false
def w6(P:Program):Nat->TypeId->fc->Bool
  |0,_,_=>false
  | n+1,t,s=>match P.underlying t,s with
    |some (.int k),.int eW=>decide (k=eW)
    |some .bool,.bool=>true
    |some .string,.str=>true
    |some (.slice e),.slice kM=>w6 P n e kM&&P.cellsOf e==kM.cells&&decide (0<kM.cells)&&decide (kM.ct<=P.bytesOf e)
    |some (.struct fr),s=>s.isAgg&&P.cellsOf t==s.cells&&pY P (w6 P n) 0 fr.toList s
    |some (.array k e),s=>s.isAgg&&P.cellsOf t==s.cells&&pX (w6 P n e) (P.cellsOf e) k s
    |_,_=>false
abbrev nj{e:fc}(l:(fc.slice e).cE):List e.cE:=l
def pI(m:W):(s:fc)->List Value->s.cE->Prop
  | .int k,cs,n=>cs=[.int k n]/\(Lit.int k n).wf=true
  | .bool,cs,b=>cs=[.bool b]
  | .str,cs,s=>cs=[.string s]/\s.size<=reachBytes
  | .slice e,cs,l=>(cs=[.slice none 0 0]/\nj l=[])\/ ∃(b:Nat) (bg:List (List Value)),cs=[.slice (some ⟨b,0,none⟩) (nj l).length e.cells]/\m.Y b=some ⟨bg.flatten,false⟩/\(nj l).length*e.ct<=reachBytes/\bg.length=(nj l).length/\(∀(i:Nat) (r:List Value) (d:e.cE),bg[i]?=some r->(nj l)[i]?=some d->pI m e r d)
  | .unit,cs,_=>cs=[]
  | .m8 a b,cs,d=> ∃bN cI,cs=bN++cI/\pI m a bN d.1/\pI m b cI d.2
theorem pI.len{m:W}: ∀{s:fc} {cs:List Value} {d:s.cE},pI m s cs d->cs.length=s.cells
  | .int _,_,_,h=>by rw[h.1];rfl
  | .bool,cs,d,h=>by have:cs=[.bool d]:=h;rw[this];rfl
  | .str,_,_,h=>by rw[h.1];rfl
  | .slice _,_,_,h=>by rcases h with⟨rfl,_⟩|⟨b,bg,rfl,_⟩<;>rfl
  | .unit,cs,_,h=>by have:cs=[]:=h;rw[this];rfl
  | .m8 a b,_,_,h=>by obtain⟨bN,cI,rfl,D,H⟩:=h;simp[fc.cells,D.len,H.len]
theorem pI.cd{m an:W}(aw: ∀b x,m.Y b=some x->x.own=false->an.Y b=some x): ∀{s:fc} {cs:List Value} {d:s.cE},pI m s cs d->pI an s cs d
  | .int _,_,_,h=>h
  | .bool,_,_,h=>h
  | .str,_,_,h=>h
  | .slice e,_,_,h=>by
    rcases h with h|⟨b,bg,D,H,aq,aF,br⟩
    · exact .inl h
    · exact .inr ⟨b,bg,D,aw _ _ H rfl,aq,aF,λi r d ay aA=>(br i r d ay aA).cd aw⟩
  | .unit,_,_,h=>h
  | .m8 a b,_,_,h=>by obtain⟨bN,cI,c5,D,H⟩:=h;exact⟨bN,cI,c5,D.cd aw,H.cd aw⟩
def fc.cv:fc->Bool
  | .slice _=>false
  | .m8 a b=>a.cv&&b.cv
  |_=>true
def VL:(s:fc)->s.cE->List Value
  | .int k,n=>[.int k n]
  | .bool,b=>[.bool b]
  | .str,s=>[.string s]
  | .slice _,_=>[]
  | .unit,_=>[]
  | .m8 a b,d=>VL a d.1++VL b d.2
def xZ:(s:fc)->s.cE->Prop
  | .int k,n=>(Lit.int k n).wf=true
  | .bool,_=>True
  | .str,s=>s.size<=reachBytes
  | .slice e,l=>(nj l).length*e.ct<=reachBytes/\ ∀x∈nj l,xZ e x
  | .unit,_=>True
  | .m8 a b,d=>xZ a d.1/\xZ b d.2
theorem pI.ok{m:W}: ∀{s:fc} {cs:List Value} {d:s.cE},pI m s cs d->xZ s d
  | .int _,_,_,h=>h.2
  | .bool,_,_,_=>trivial
  | .str,_,_,h=>h.2
  | .slice e,_,l,h=>by
    rcases h with⟨_,h⟩|⟨b,bg,D,H,aq,aF,br⟩
    · subst h;exact⟨by simp[nj],λx G=>by cases G⟩
    · refine⟨aq,λx G=> ?_⟩;obtain⟨i,ai,rfl⟩:=kx G;exact(br i (bg[i]'(by omega)) _ (by simp) (by simp)).ok
  | .unit,_,_,_=>trivial
  | .m8 a b,_,_,h=>by obtain⟨bN,cI,c5,D,H⟩:=h;exact⟨D.ok,H.ok⟩
def uV(m:W)(s:fc)(v:Value)(d:s.cE):Prop:= ∃cs,pI m s cs d/\v=if s.isAgg then .agg cs.toArray else cs.headD undef
inductive sg(m:W):List fc->List Value->Prop
  |nil:sg m [] []
  |cons {s:fc} {v:Value} {d:s.cE} {kv:List fc} {ck:List Value} (h:uV m s v d) (M:sg m kv ck):sg m (s::kv) (v::ck)
theorem sg.cd{m an:W}(aw: ∀b x,m.Y b=some x->x.own=false->an.Y b=some x){kv:List fc}{ck:List Value}(h:sg m kv ck):sg an kv ck:=by
  induction h with
  |nil=>exact .nil
  |cons h M cn=>obtain⟨cs,D,H⟩:=h;exact .cons ⟨cs,D.cd aw,H⟩ cn
section
variable {aV:Nat} {ag:ez} {m:W} {w:World}
theorem dr.UE(aw:dr aV ag m w)(aD: ∀b x,m.Y b=some x->x.own=false){xs:List Value}{l:si}(aC:l.c<w.heap.size)(ax:xs.length<=l.n)
    (G: ∀i v,xs[i]?=some v->S v=true/\ ∃bq,w.cell? ⟨l.c,l.o+i,none⟩=some bq/\dw ag v bq):
    dr aV (ha ag m.next l) ((m.du 1).a4 m.next (some ⟨xs,false⟩)) w/\fW ag (ha ag m.next l)/\(∀b x,m.Y b=some x->((m.du 1).a4 m.next (some ⟨xs,false⟩)).Y b=some x)/\
      (∀b x,((m.du 1).a4 m.next (some ⟨xs,false⟩)).Y b=some x->x.own=false)/\((m.du 1).a4 m.next (some ⟨xs,false⟩)).Y m.next=some ⟨xs,false⟩:=by
  have ay:ag m.next=none:=by
    cases h:ag m.next with
    |none=>rfl
    |some l=>have:=aw.ke _ _ h;omega
  have fJ:=rk (l:=l) ay;have W6:((m.du 1).a4 m.next (some ⟨xs,false⟩)).Y m.next=some ⟨xs,false⟩:=eZ (by simp)
  have By: ∀b x,m.Y b=some x->((m.du 1).a4 m.next (some ⟨xs,false⟩)).Y b=some x:= λb x hb=>by have:=bm hb;rw[b3 (by omega),e9 this,hb]
  have Bt: ∀b x,((m.du 1).a4 m.next (some ⟨xs,false⟩)).Y b=some x->(b=m.next/\x=⟨xs,false⟩)\/m.Y b=some x:= λb x hb=>by
    by_cases e:b=m.next
    · subst e;rw[W6]at hb;cases hb;exact .inl ⟨rfl,rfl⟩
    · rw[b3 e,W.e9]at hb;exact .inr hb
  have iK: ∀b x,((m.du 1).a4 m.next (some ⟨xs,false⟩)).Y b=some x->x.own=false:= λb x hb=>by
    rcases Bt b x hb with⟨_,rfl⟩|h
    · rfl
    · exact aD _ _ h
  refine⟨⟨λb dj hb=> ?_,λb dj hb=> ?_,λb x hb=> ?_,λb x ca hJ iE iP D H=> ?_,λb a9 hb=> ?_,λb a9 hb=> ?_⟩,fJ,By,iK,W6⟩
  · unfold ha at hb;split at hb
    · rename_i e;rw[e];simp
    · have:=aw.ke _ _ hb;simp;omega
  · unfold ha at hb;split at hb
    · cases hb;exact aC
    · exact aw.lF _ _ hb
  · rcases Bt b x hb with⟨rfl,rfl⟩|h
    · exact⟨l,by simp[ha],ax,λi v ab=>by obtain⟨a7,bq,bD,b4⟩:=G i v ab;exact⟨a7,bq,bD,b4.cd fJ⟩,λh=>by cases h⟩
    · obtain⟨dj,aQ,a8,cN,dP⟩:=aw.lI b x h;exact⟨dj,fJ _ _ aQ,a8,λi v ab=>by obtain⟨a7,bq,bD,b4⟩:=cN i v ab;exact⟨a7,bq,bD,b4.cd fJ⟩,dP⟩
  · rw[iK _ _ D]at H;cases H
  · obtain⟨dj,h⟩:=aw.s0 b a9 hb;exact⟨dj,fJ _ _ h⟩
  · exfalso;unfold W.eJ at hb;split at hb
    · rename_i h;have:=iK _ _ h;cases this
    · cases hb
end
section
variable {jT:Type} {enc:TypeId×Value->jT} {P:Program} {fe:World}
theorem TZ{P:Program}{e:TypeId}{d:DataW jT}{n:Nat}: ∀{l:List (DataW jT)},d∈l->n∈d.weights P e->n∈DataW.weightsAll P e l
  |[],h,_=>by cases h
  | x::r,h,ax=>by
    simp only[DataW.weightsAll,kQ];rcases g6.1 h with rfl|h
    · exact .inl ax
    · exact .inr (TZ h ax)
structure NR(fe:World)(ag:ez)(m:W)(s:fc)(cs:List Value)(cA:ez)(an:W)(bQ:List Value)(d:s.cE):Prop where
  l8:dr fe.heap.size cA an fe
  vN:fW ag cA
  lr: ∀b x,m.Y b=some x->an.Y b=some x
  own: ∀b x,an.Y b=some x->x.own=false
  tm:cU cA bQ cs
  m6: ∀v∈bQ,S v=true
  yD:pI an s bQ d
def Iu(fe:World)(cs:List Value):Prop:= ∀a len cap,.slice (some a) len cap∈cs->0<fe.heap.size
def Iz(enc:TypeId×Value->jT)(P:Program)(fe:World)(t:TypeId)(s:fc):Prop:=
  ∀jZ cs x,DataW.trod enc P fe 0 (λ_=>true) true jZ t cs=some x->(∀n∈x.1.weights P t,n<=reachBytes)->Iu fe cs-> ∀ag m,dr fe.heap.size ag m fe->(∀b x,m.Y b=some x->x.own=false)-> ∃cA an bQ d,NR fe ag m s cs cA an bQ d
theorem adT{h:TypeId->fc->Bool}(aJ: ∀t s,h t s=true->Iz enc P fe t s): ∀(fr:List Field) (s:fc) (off jZ:Nat) (cs:List Value),pY P h off fr s=true->off+s.cells<=cs.length->
    (∀f∈fr,∃x,DataW.trod enc P fe 0 (λ_=>true) true jZ f.type ((cs.drop f.offset).take (P.cellsOf f.type))=some x/\ ∀n∈x.1.weights P f.type,n<=reachBytes)->Iu fe cs->
    ∀ag m,dr fe.heap.size ag m fe->(∀b x,m.Y b=some x->x.own=false)-> ∃cA an bQ d,NR fe ag m s ((cs.drop off).take s.cells) cA an bQ d
  |[],.unit,off,jZ,cs,M,aC,G,bL,ag,m,aw,aD=>⟨ag,m,[],(),aw,fW.refl ag,λ_ _ h=>h,aD,by simpa[fc.cells]using cU.nil ag,by simp,rfl⟩
  | f::fr,.m8 a b,off,jZ,cs,M,aC,G,bL,ag,m,aw,aD=>by
    simp only[pY,aX,beq_iff_eq]at M;obtain⟨⟨⟨rfl,D⟩,H⟩,aq⟩:=M;simp only[fc.cells]at aC⊢;obtain⟨x,fA,PB⟩:=G f (by simp);rw[H]at fA;obtain⟨lN,bd,DU,gZ,ij⟩:=aJ _ _ D _ _ _ fA PB (λef len cap vj=>bL ef len cap (AT (wB vj))) ag m aw aD;obtain⟨lO,dE,DV,gM,jO⟩:=adT aJ fr b (f.offset+a.cells) jZ cs aq (by omega) (λahS rI=>G ahS (by simp[rI])) bL lN bd ij.l8 ij.own;refine⟨lO,dE,DU++DV,(gZ,gM),jO.l8,ij.vN.trans jO.vN,λb x hb=>jO.lr _ _ (ij.lr _ _ hb),jO.own,?_,?_,⟨DU,DV,rfl,ij.yD.cd (λb x hb _=>jO.lr _ _ hb),jO.yD⟩⟩
    · rw[List.take_add,yA];exact(ij.tm.cd jO.vN).oh jO.tm
    · intro v ab;rcases kQ.1 ab with h|h
      · exact ij.m6 v h
      · exact jO.m6 v h
  |[],.int _,_,_,_,M,_,_,_,_,_,_,_=>by simp[pY]at M
  |[],.bool,_,_,_,M,_,_,_,_,_,_,_=>by simp[pY]at M
  |[],.str,_,_,_,M,_,_,_,_,_,_,_=>by simp[pY]at M
  |[],.slice _,_,_,_,M,_,_,_,_,_,_,_=>by simp[pY]at M
  |[],.m8 _ _,_,_,_,M,_,_,_,_,_,_,_=>by simp[pY]at M
  |_::_,.int _,_,_,_,M,_,_,_,_,_,_,_=>by simp[pY]at M
  |_::_,.bool,_,_,_,M,_,_,_,_,_,_,_=>by simp[pY]at M
  |_::_,.str,_,_,_,M,_,_,_,_,_,_,_=>by simp[pY]at M
  |_::_,.slice _,_,_,_,M,_,_,_,_,_,_,_=>by simp[pY]at M
  |_::_,.unit,_,_,_,M,_,_,_,_,_,_,_=>by simp[pY]at M
theorem adS{h:fc->Bool}{e:TypeId}{J:Nat}(aJ: ∀s,h s=true->Iz enc P fe e s): ∀(n:Nat) (s:fc) (i jZ:Nat) (cs:List Value),pX h J n s=true->i*J+s.cells<=cs.length->
    (∀j,i<=j->j<i+n-> ∃x,DataW.trod enc P fe 0 (λ_=>true) true jZ e ((cs.drop (j*J)).take J)=some x/\ ∀n∈x.1.weights P e,n<=reachBytes)->Iu fe cs->
    ∀ag m,dr fe.heap.size ag m fe->(∀b x,m.Y b=some x->x.own=false)-> ∃cA an bQ d,NR fe ag m s ((cs.drop (i*J)).take s.cells) cA an bQ d
  |0,.unit,i,jZ,cs,M,aC,G,bL,ag,m,aw,aD=>⟨ag,m,[],(),aw,fW.refl ag,λ_ _ h=>h,aD,by simpa[fc.cells]using cU.nil ag,by simp,rfl⟩
  | n+1,.m8 a b,i,jZ,cs,M,aC,G,bL,ag,m,aw,aD=>by
    simp only[pX,aX,beq_iff_eq]at M;obtain⟨⟨D,rfl⟩,aq⟩:=M;simp only[fc.cells]at aC⊢;obtain⟨x,fA,PB⟩:=G i (ev _) (by omega);obtain⟨lN,bd,DU,gZ,ij⟩:=aJ _ D _ _ _ fA PB (λef len cap vj=>bL ef len cap (AT (wB vj))) ag m aw aD;have aL:(i+1)*a.cells=i*a.cells+a.cells:=(by rw[kR];omega);obtain⟨lO,dE,DV,gM,jO⟩:=adS aJ n b (i+1) jZ cs aq (by omega) (λj D H=>G j (by omega) (by omega)) bL lN bd ij.l8 ij.own;refine⟨lO,dE,DU++DV,(gZ,gM),jO.l8,ij.vN.trans jO.vN,λb x hb=>jO.lr _ _ (ij.lr _ _ hb),jO.own,?_,?_,⟨DU,DV,rfl,ij.yD.cd (λb x hb _=>jO.lr _ _ hb),jO.yD⟩⟩
    · rw[List.take_add,yA,<-aL];exact(ij.tm.cd jO.vN).oh jO.tm
    · intro v ab;rcases kQ.1 ab with h|h
      · exact ij.m6 v h
      · exact jO.m6 v h
  |0,.int _,_,_,_,M,_,_,_,_,_,_,_=>by simp[pX]at M
  |0,.bool,_,_,_,M,_,_,_,_,_,_,_=>by simp[pX]at M
  |0,.str,_,_,_,M,_,_,_,_,_,_,_=>by simp[pX]at M
  |0,.slice _,_,_,_,M,_,_,_,_,_,_,_=>by simp[pX]at M
  |0,.m8 _ _,_,_,_,M,_,_,_,_,_,_,_=>by simp[pX]at M
  |_+1,.int _,_,_,_,M,_,_,_,_,_,_,_=>by simp[pX]at M
  |_+1,.bool,_,_,_,M,_,_,_,_,_,_,_=>by simp[pX]at M
  |_+1,.str,_,_,_,M,_,_,_,_,_,_,_=>by simp[pX]at M
  |_+1,.slice _,_,_,_,M,_,_,_,_,_,_,_=>by simp[pX]at M
  |_+1,.unit,_,_,_,M,_,_,_,_,_,_,_=>by simp[pX]at M
theorem adU{e:TypeId}{s:fc}(aJ:Iz enc P fe e s){a:Addr}(M:a.spot=none){jZ:Nat}(w4:0<fe.heap.size): ∀(k:Nat),(∀i,i<k-> ∃cs x,fe.cells? 0 (a.add (i*s.cells)) s.cells=some cs/\DataW.trod enc P fe 0 (λ_=>true) true jZ e cs=some x/\ ∀n∈x.1.weights P e,n<=reachBytes)->
    ∀ag m,dr fe.heap.size ag m fe->(∀b x,m.Y b=some x->x.own=false)->
    ∃ (cA:ez) (an:W) (bg:List (List Value)) (ds:List s.cE),dr fe.heap.size cA an fe/\fW ag cA/\(∀b x,m.Y b=some x->an.Y b=some x)/\(∀b x,an.Y b=some x->x.own=false)/\bg.length=k/\ds.length=k/\(bg.flatten).length=k*s.cells/\
      (∀i v,bg.flatten[i]?=some v->S v=true/\ ∃bq,fe.cell? ⟨a.block,a.off+i,none⟩=some bq/\dw cA v bq)/\(∀(i:Nat) (r:List Value) (d:s.cE),bg[i]?=some r->ds[i]?=some d->pI an s r d)
  |0,_,ag,m,aw,aD=>⟨ag,m,[],[],aw,fW.refl ag,λ_ _ h=>h,aD,rfl,rfl,by simp,by simp,by simp⟩
  | k+1,aa,ag,m,aw,aD=>by
    obtain⟨lN,bd,bg,ds,aQ,a8,cN,dP,fF,fg,rE,Es,Bn⟩:=adU aJ M w4 k (λi ai=>aa i (by omega)) ag m aw aD;obtain⟨cs,x,ar,G,ajO⟩:=aa k (by omega);obtain⟨_,eS,w8⟩:=World.cells?_some ar;obtain⟨lO,dE,bQ,d,o⟩:=aJ _ _ _ G ajO (λ_ _ _ _=>w4) lN bd aQ dP;have fi:bQ.length=s.cells:=o.yD.len;refine⟨lO,dE,bg++[bQ],ds++[d],o.l8,a8.trans o.vN,λb x hb=>o.lr _ _ (cN _ _ hb),o.own,by simp[fF],by simp[fg],?_,?_,?_⟩
    · simp[rE,fi,kR]
    · intro i v ab;rw[List.flatten_append,AS]at ab;split at ab
      · obtain⟨a7,bq,bD,b4⟩:=Es i v ab;exact⟨a7,bq,bD,b4.cd o.vN⟩
      · rename_i ai;rw[rE]at ai ab;simp only[qu,List.flatten_nil,AW]at ab;refine⟨o.m6 v (hR ab),?_⟩;obtain⟨bq,qU,ay⟩:=o.tm.Y ab;have kD:i-k*s.cells<s.cells:=(by have:=(ek.1 ab).1;omega);have:=w8 _ kD;rw[qU]at this;refine⟨bq,?_,ay⟩;rw[<-this];congr 1;obtain⟨wL,A4,IJ⟩:=a;simp only at M;subst M;unfold Addr.add;split<;>split<;>simp<;>omega
    · intro i r pU ay aA;rw[AS]at ay aA;rw[fF]at ay;rw[fg]at aA;split at ay
      · rename_i ai;rw[if_pos ai]at aA;exact(Bn i r pU ay aA).cd (λb x hb _=>o.lr _ _ hb)
      · rename_i ai;rw[if_neg ai]at aA;have:i-k=0:=by
          have:=(ek.1 ay).1;simp at this;omega
        rw[this]at ay aA;simp at ay aA;subst ay;subst aA;exact o.yD
theorem adV: ∀(n:Nat) (t:TypeId) (s:fc),w6 P n t s=true->Iz enc P fe t s
  |0,_,_,h=>by cases h
  | n+1,t,s,h=>by
    have cn:=adV n;intro jZ cs x G mU bL ag m aw aD;unfold w6 at h;split at h
    · rename_i k eW aY;simp only[eM]at h;subst h;obtain⟨v,rfl,rfl,aZ⟩:=DataW.trod_int aY G;exact⟨ag,m,[.int k v],v,aw,fW.refl ag,λ_ _ h=>h,aD,cU.cons (.cv rfl) (cU.nil ag),by simp[S],⟨rfl,aZ⟩⟩
    · rename_i aY;obtain⟨b,rfl,rfl⟩:=DataW.trod_bool aY G;exact⟨ag,m,[.bool b],b,aw,fW.refl ag,λ_ _ h=>h,aD,cU.cons (.cv rfl) (cU.nil ag),by simp[S],rfl⟩
    · rename_i aY;obtain⟨v,rfl,rfl,aZ⟩:=DataW.trod_string aY G;exact⟨ag,m,[.string v],v,aw,fW.refl ag,λ_ _ h=>h,aD,cU.cons (.cv rfl) (cU.nil ag),by simp[S],⟨rfl,by have:=mU v.data.toList.length (by simp[DataW.weights]);simpa using this⟩⟩
    · rename_i e kM aY;simp only[aX,beq_iff_eq,eM]at h;obtain⟨⟨⟨D,H⟩,aq⟩,aiD⟩:=h;rcases DataW.trod_slice aY G with⟨rfl,rfl⟩|⟨a,len,cap,yJ,bV,gU,_,rfl,rfl,_,y6,pc,aEA,bR,iy,_⟩
      · exact⟨ag,m,[.slice none 0 0],[],aw,fW.refl ag,λ_ _ h=>h,aD,cU.cons (.cv rfl) (cU.nil ag),by simp[S],.inl ⟨rfl,rfl⟩⟩
      · have w4:0<fe.heap.size:=bL a len cap (by simp);have PD:len*kM.ct<=reachBytes:=by
          have br:=mU ((yJ.length+bV.length)*P.bytesOf e) (by simp[DataW.weights,aY]);have cR:len*kM.ct<=(yJ.length+bV.length)*P.bytesOf e:=Nat.mul_le_mul (by omega) aiD;omega
        have ajM: ∀y∈yJ,∀n∈y.1.weights P e,n<=reachBytes:= λy ah n ax=>mU n (by simp only[DataW.weights,aY];exact Dy _ (mb _ (TZ (List.mem_map_of_mem ah) ax)));rw[H]at bR iy;have iy:=iy rfl
        -- where ayM zQ a hL,pB aCv zQ plain
        have O7:0<cap->a.spot=none/\a.block<fe.heap.size:=by
          intro ar;have: ∃cs,fe.cells? 0 a kM.cells=some cs:=by
            by_cases aC:0<len
            · have:=bR 0 aC;obtain⟨y,ah⟩: ∃y,yJ[0]?=some y:=⟨yJ[0]'(by omega),by simp⟩;rw[ah,Option.bind_eq_some_iff]at this;obtain⟨cs,j0,_⟩:=this;exact⟨cs,by simpa[Addr.add]using j0⟩
            · have:=iy.2 0 (by omega);obtain⟨y,ah⟩: ∃y,bV[0]?=some y:=⟨bV[0]'(by omega),by simp⟩;rw[ah,Option.bind_eq_some_iff]at this;obtain⟨cs,j0,_⟩:=this;exact⟨cs,by simpa[Addr.add,show len=0 by omega]using j0⟩
          obtain⟨cs,j0⟩:=this;refine⟨?_,World.cells?_block j0 aq⟩;obtain⟨_,aC,w8⟩:=World.cells?_some j0;have c5:=w8 0 aq;obtain⟨jH,tP⟩: ∃jH,cs[0]?=some jH:=⟨cs[0]'(by omega),by simp⟩;rw[tP]at c5;simp only[Addr.add,if_true]at c5;unfold World.cell? at c5;split at c5
          · split at c5
            · cases c5
            · rename_i l0;simpa using l0
          · cases c5
        by_cases tP:cap=0
        · obtain rfl:len=0:=(by omega);subst tP;obtain⟨fC,g3,jF,m9,v3⟩:=aw.UE aD (xs:=[]) (l:=⟨0,0,0⟩) w4 (ev _) (by simp);refine⟨_,_,[.slice (some ⟨m.next,0,none⟩) 0 kM.cells],[],fC,g3,jF,m9,cU.cons (.slice (l:=⟨0,0,0⟩) (by simp[ha]) (.inl ⟨rfl,rfl⟩) (ev _) (ho _)) (cU.nil _),by simp[S],.inr ⟨m.next,[],rfl,v3,by simp[nj],rfl,by simp⟩⟩
        · obtain⟨l0,aiE⟩:=O7 (by omega);have aiP: ∀i,i<len-> ∃cs x,fe.cells? 0 (a.add (i*kM.cells)) kM.cells=some cs/\DataW.trod enc P fe 0 (λ_=>true) true gU e cs=some x/\ ∀n∈x.1.weights P e,n<=reachBytes:=by
            intro i ai;have:=bR i ai;obtain⟨y,ah⟩: ∃y,yJ[i]?=some y:=⟨yJ[i]'(by omega),by simp⟩;have ajS:=ah;rw[ah,Option.bind_eq_some_iff]at this;obtain⟨cs,j0,ah⟩:=this;exact⟨cs,y,j0,ah,ajM y (hR ajS)⟩
          obtain⟨lN,bd,bg,ds,aQ,a8,cN,dP,fF,fg,rE,Es,Bn⟩:=adU (cn _ _ D) l0 w4 len aiP ag m aw aD;have fJ:len*kM.cells<=cap*kM.cells:=qt _ y6;have We:(nj ds).length=len:=fg;obtain⟨fC,g3,jF,m9,v3⟩:=aQ.UE dP (xs:=bg.flatten) (l:=⟨a.block,a.off,cap*kM.cells⟩) aiE (by rw[rE];exact fJ) Es
          refine⟨_,_,[.slice (some ⟨bd.next,0,none⟩) len kM.cells],ds,fC,a8.trans g3,λb x hb=>jF _ _ (cN _ _ hb),m9,cU.cons (.slice (l:=⟨a.block,a.off,cap*kM.cells⟩) (by simp[ha]) (.inr ⟨?_,by simp⟩) y6 pc) (cU.nil _),by simp[S],
            .inr ⟨bd.next,bg,by rw[We],v3,by rw[We];exact PD,by omega,λi r d ay aA=>(Bn i r d ay aA).cd (λb x hb _=>jF _ _ hb)⟩⟩
          obtain⟨wL,A4,IJ⟩:=a;simp only at l0;subst l0;rfl
    · rename_i kM fr aY;simp only[aX,beq_iff_eq]at h;obtain⟨⟨c5,D⟩,H⟩:=h;obtain⟨xs,gU,_,rfl,aC,E3,a3⟩:=DataW.trod_struct aY G;have:=adT (λt s h=>cn t s h) fr.toList _ 0 gU cs H (by rw[aC,D];omega) (λf rI=> ?_) bL ag m aw aD
      · rw[List.drop_zero,ky (by omega)]at this;exact this
      · obtain⟨i,ai,rfl⟩:=kx rI;have hE:i<fr.size:=(by simpa using ai);have:=a3 i fr[i] (by simp[hE]);refine⟨xs[i]'(by omega),?_,λn ax=>mU n ?_⟩
        · rw[dx (by omega)]at this;simpa using this
        · simp only[DataW.weights,aY];exact DataW.weights_mem_each (j:=i) (t:=fr[i].type) (d:=xs[i].1) (by simp[hE]) (by simp[dx (show i<xs.length by omega)]) n (by simpa using ax)
    · rename_i kM k e aY;simp only[aX,beq_iff_eq]at h;obtain⟨⟨c5,D⟩,H⟩:=h;obtain⟨xs,gU,_,rfl,aC,E3,a3⟩:=DataW.trod_array aY G;have:=adS (λs h=>cn e s h) k _ 0 gU cs H (by rw[aC,D];omega) (λj _ bx=> ?_) bL ag m aw aD
      · rw[Nat.zero_mul,List.drop_zero,ky (by omega)]at this;exact this
      · have:=a3 j (by omega);refine⟨xs[j]'(by omega),?_,λn ax=>mU n ?_⟩
        · rw[dx (by omega)]at this;simpa using this
        · simp only[DataW.weights,aY];exact TZ (List.mem_map_of_mem (mI (show j<xs.length by omega))) ax
    · cases h
theorem aiO{aV:Nat}{t:TypeId}{v:Value}(ab:Value.okWide P fe .any aV t v):Iu fe v.cells.toList:=by
  have hL: ∀bp a len cap,Cell.okWide P fe .any aV bp (.slice (some a) len cap)->0<fe.heap.size:=by
    intro bp a len cap h;unfold Cell.okWide at h;split at h<;>try(rename_i D;cases D)
    unfold Cell.ok at h;split at h<;>rename_i D<;>try cases D
    · obtain⟨_,_,_,_,cW,cells,M,_⟩:=h;unfold World.shape? at M;split at M
      · rename_i aJ;have:=(tu.1 aJ).1;omega
      · cases M
    · cases h
  intro a len cap aw;unfold Value.okWide at ab;split at ab
  · obtain⟨cs,rfl,_,ts,_,_,ay⟩:=ab;obtain⟨i,ai,bh⟩:=kx aw;obtain⟨bp,_,ar⟩:=ay i (.slice (some a) len cap) (by
      have:i<cs.size:=(by simpa[Value.cells]using ai);rw[yr this];simpa[Value.cells]using bh)
    exact hL bp a len cap ar
  · obtain⟨cs,rfl,_,ts,_,_,ay⟩:=ab;obtain⟨i,ai,bh⟩:=kx aw;obtain⟨bp,_,ar⟩:=ay i (.slice (some a) len cap) (by
      have:i<cs.size:=(by simpa[Value.cells]using ai);rw[yr this];simpa[Value.cells]using bh)
    exact hL bp a len cap ar
  · cases v<;>simp[Value.cells]at aw
    · obtain⟨rfl,rfl,rfl⟩:=aw;exact hL _ _ _ _ ab
    · exfalso;unfold Cell.okWide at ab;split at ab<;>try(rename_i D;cases D)
      unfold Cell.ok at ab;split at ab<;>try(rename_i D;cases D)
      cases ab
theorem av9{n:Nat}{t:TypeId}{s:fc}(M:w6 P n t s=true){aV:Nat}{v:Value}{d:DataW jT}{ps:List MemPlace}(ab:Value.okWide P fe .any aV t v)(aA:DataW.Trod enc P fe 0 (λ_=>true) true t v d ps)(mU: ∀n∈d.weights P t,n<=reachBytes)
    {ag:ez} {m:W} (aw:dr fe.heap.size ag m fe) (aD: ∀b x,m.Y b=some x->x.own=false):
    ∃cA an bp rv,dr fe.heap.size cA an fe/\fW ag cA/\(∀b x,m.Y b=some x->an.Y b=some x)/\(∀b x,an.Y b=some x->x.own=false)/\dw cA bp v/\uV an s bp rv:=by
  obtain⟨jZ,G⟩:=aA;obtain⟨cA,an,bQ,rv,o⟩:=adV n t s M jZ _ _ G mU (aiO ab) ag m aw aD;refine⟨cA,an,if s.isAgg then .agg bQ.toArray else bQ.headD undef,rv,o.l8,o.vN,o.lr,o.own,?_,bQ,o.yD,rfl⟩;cases n with
  |zero=>cases M
  | succ n=>
    unfold w6 at M;have Na: ∀w:Value,v.cells.toList=[w]->w=v->s.isAgg=false->dw cA (if s.isAgg then .agg bQ.toArray else bQ.headD undef) v:=by
      intro w aZ bh az;rw[az];have D:=o.tm;rw[aZ]at D;have H:=D.1;cases bQ with
      |nil=>simp at H
      |cons a bQ=>have:=D.2 0 a w rfl rfl;rw[bh]at this;simpa using this
    have agg:(∃cs,v= .agg cs)->s.isAgg=true->dw cA (if s.isAgg then .agg bQ.toArray else bQ.headD undef) v:=(by rintro⟨cs,rfl⟩ az;rw[az];have D:=o.tm;simp only[Value.cells]at D;have:=D.agg o.m6;simpa using this);split at M
    · rename_i k eW aY;obtain⟨n,rfl⟩:=WideShapes.okWide_int aY ab;exact Na _ rfl rfl rfl
    · rename_i aY;obtain⟨n,rfl⟩:=WideShapes.okWide_bool aY ab;exact Na _ rfl rfl rfl
    · rename_i aY;obtain⟨n,rfl⟩:=WideShapes.okWide_string aY ab;exact Na _ rfl rfl rfl
    · rename_i e kM aY;obtain⟨a,l,c,rfl⟩:=WideShapes.okWide_slice aY ab;exact Na _ rfl rfl rfl
    · rename_i fr aY;simp only[aX]at M;obtain⟨cs,rfl,_⟩:=WideShapes.okWide_struct aY ab;exact agg ⟨cs,rfl⟩ M.1.1
    · rename_i k e aY;simp only[aX]at M;unfold Value.okWide at ab;rw[aY]at ab;obtain⟨cs,rfl,_⟩:=ab;exact agg ⟨cs,rfl⟩ M.1.1
    · cases M
def Br(P:Program)(n:Nat):List TypeId->List fc->Bool
  |[],[]=>true
  |t::ts,s::kv=>w6 P n t s&&Br P n ts kv
  |_,_=>false
theorem adR{n:Nat}{aV:Nat}: ∀(ts:List TypeId) (kv:List fc) (ck:List Value) (ds:List (DataW jT)) (ps:List MemPlace),Br P n ts kv=true->(∀(j:Nat) t v,ts[j]?=some t->ck[j]?=some v->Value.okWide P fe .any aV t v)->
    DataW.TrodAll enc P fe 0 (λ_=>true) true ts ck ds ps->(∀n∈DataW.weightsEach P ts ds,n<=reachBytes)-> ∀ag m,dr fe.heap.size ag m fe->(∀b x,m.Y b=some x->x.own=false)->
    ∃cA an e1,dr fe.heap.size cA an fe/\fW ag cA/\(∀b x,m.Y b=some x->an.Y b=some x)/\cU cA e1 ck/\sg an kv e1
  |[],[],[],[],_,_,_,_,_,ag,m,aw,aD=>⟨ag,m,[],aw,fW.refl ag,λ_ _ h=>h,cU.nil ag,.nil⟩
  | t::ts,s::kv,v::ck,d::ds,ps,M,ab,bt,mU,ag,m,aw,aD=>by simp only[Br,aX]at M;obtain⟨p,q,D,H,rfl⟩:=bt;obtain⟨lN,bd,bp,rv,aQ,a8,cN,dP,fF,fg⟩:=av9 M.1 (ab 0 t v rfl rfl) D (λn ax=>mU n (by simp only[DataW.weightsEach];exact mb _ ax)) aw aD;obtain⟨lO,dE,e1,eB,hk,iO,vM,z0⟩:=adR ts kv ck ds q M.2 (λj t v a b=>ab (j+1) t v (by simpa using a) (by simpa using b)) H (λn ax=>mU n (by simp only[DataW.weightsEach];exact lz _ ax)) lN bd aQ dP;obtain⟨cs,fg,rE⟩:=fg;exact⟨lO,dE,bp::e1,eB,a8.trans hk,λb x hb=>iO _ _ (cN _ _ hb),cU.cons (fF.cd hk) vM,.cons ⟨cs,fg.cd (λb x hb _=>iO _ _ hb),rE⟩ z0⟩
  |[],_::_,_,_,_,M,_,_,_,_,_,_,_=>by simp[Br]at M
  |_::_,[],_,_,_,M,_,_,_,_,_,_,_=>by simp[Br]at M
  |[],[],_::_,_,_,_,_,bt,_,_,_,_,_=>by simp[DataW.TrodAll]at bt
  |[],[],[],_::_,_,_,_,bt,_,_,_,_,_=>by simp[DataW.TrodAll]at bt
  |_::_,_::_,[],_,_,_,_,bt,_,_,_,_,_=>by simp[DataW.TrodAll]at bt
  |_::_,_::_,_::_,[],_,_,_,bt,_,_,_,_,_=>by simp[DataW.TrodAll]at bt
theorem auR(mo:P.follows .mixedOrders=true){f n aV:Nat}{ts:List TypeId}{kv:List fc}(M:Br P n ts kv=true){args:Array Value}{ds:List (DataW jT)}{ps:List MemPlace}
    (ab: ∀(j:Nat) t v,ts[j]?=some t->args[j]?=some v->Value.okWide P fe .any aV t v) (bt:DataW.TrodAll enc P fe 0 (λ_=>true) true ts args.toList ds ps) (mU: ∀n∈DataW.weightsEach P ts ds,n<=reachBytes)
    (h: ∀m e1,sg m kv e1->fZ P f e1 m λr _=>r= .bool true):
    Calls P f args fe λe cT=>e= .returned (.bool true)/\Below fe.heap.size fe cT:=by
  obtain⟨ag,m,e1,aQ,_,_,dP,fF⟩:=adR ts kv args.toList ds ps M (λj t v a b=>ab j t v a (by simpa using b)) bt mU _ _ dr.empty (λb x h=>by unfold W.Y at h;split at h<;>cases h);obtain⟨k,r,an,D,rfl⟩:=h m e1 fF;have:=(Vd mo k fe.heap.size f e1 _ _ _ D).2.2.2.2 ag fe args dP aQ (ev _);refine this.mono λe cT aJ=> ?_;obtain⟨v,cA,rfl,_,_,ab,_,hb⟩:=aJ;exact⟨by rw[ab.p5],hb⟩
end
theorem uV.int{m:W}{k:IntKind}{v:Value}{n:Int}(h:uV m (.int k) v n):v= .int k n/\(Lit.int k n).wf=true:=by obtain⟨cs,h,rfl⟩:=h;obtain⟨rfl,h⟩:=h;exact⟨rfl,h⟩
theorem uV.bool{m:W}{v:Value}{b:Bool}(h:uV m .bool v b):v= .bool b:=by obtain⟨cs,h,rfl⟩:=h;have:cs=[.bool b]:=h;subst this;rfl
theorem uV.str{m:W}{v:Value}{s:ByteArray}(h:uV m .str v s):v= .string s/\s.size<=reachBytes:=by obtain⟨cs,h,rfl⟩:=h;obtain⟨rfl,h⟩:=h;exact⟨rfl,h⟩
structure o5(m an:W):Prop where
  next:m.next<=an.next
  Y: ∀b x,m.Y b=some x->an.Y b=some x
theorem o5.refl(m:W):o5 m m:=⟨ev _,λ_ _ h=>h⟩
theorem o5.trans{a b c:W}(h:o5 a b)(bK:o5 b c):o5 a c:=⟨jv h.next bK.next,λx y G=>bK.Y x y (h.Y x y G)⟩
theorem u2.sub{p m:W}(h:u2 p m):o5 p m:=⟨Nat.le_of_eq h.next,h.Y⟩
theorem o5.du(m:W)(k:Nat):o5 m (m.du k):=⟨by simp,λb x h=>by rw[e9 (bm h),h]⟩
theorem o5.a4{m:W}{b:Nat}{x:Option fm}(h:m.Y b=none):o5 m (m.a4 b x):=⟨ev _,λc y ar=>by rw[b3 (λbh=>by subst bh;rw[h]at ar;cases ar),ar]⟩
theorem Ev{m:W}{b:Nat}(h:m.next<=b):m.Y b=none:=by simp[W.Y];omega
structure jw(c7:Type) where
  J:Nat
  R:W->List Value->c7->Prop
  len: ∀m cs x,R m cs x->cs.length=J
  cd: ∀m an cs x,o5 m an->R m cs x->R an cs x
def jw.cG{c7:Type}(r:jw c7)(m:W)(v:Value)(l:List c7):Prop:=
  (v= .slice none 0 0/\l=[])\/ ∃b o cs w,v= .slice (some ⟨b,o,none⟩) l.length r.J/\m.Y b=some ⟨cs,w⟩/\o+l.length*r.J<=cs.length/\
    ∀(i:Nat) x,l[i]?=some x->r.R m ((cs.drop (o+i*r.J)).take r.J) x
section
variable {c7:Type} {r:jw c7} {m an:W} {v:Value} {l:List c7}
theorem jw.cG.cd(h:r.cG m v l)(M:o5 m an):r.cG an v l:=by
  rcases h with h|⟨b,o,cs,w,D,H,aq,aF⟩
  · exact .inl h
  · exact .inr ⟨b,o,cs,w,D,M.Y _ _ H,aq,λi x G=>r.cd _ _ _ _ M (aF i x G)⟩
theorem jw.cG.nil:r.cG m (.slice none 0 0) []:= .inl ⟨rfl,rfl⟩
theorem jw.cG.len(h:r.cG m v l):hY v=l.length/\xJ v=true/\mE r.J v=true/\gv v=l.length:=by
  rcases h with⟨rfl,rfl⟩|⟨b,o,cs,w,rfl,_⟩
  · exact⟨rfl,rfl,rfl,rfl⟩
  · exact⟨rfl,rfl,by simp,rfl⟩
theorem jw.cG.qB(h:r.cG m v l){i:Nat}{x:c7}(G:l[i]?=some x): ∃b o cs w,wi v r.J (i:Int)= .pointer (some ⟨b,o,none⟩)/\m.Y b=some ⟨cs,w⟩/\o+r.J<=cs.length/\r.R m ((cs.drop o).take r.J) x:=by
  rcases h with⟨rfl,rfl⟩|⟨b,o,cs,w,rfl,H,aq,aF⟩
  · simp at G
  · have ai:=(ek.1 G).1;refine⟨b,o+i*r.J,cs,w,by simp[wi],H,?_,aF i x G⟩;have:(i+1)*r.J<=l.length*r.J:=qt _ ai;rw[kR]at this;omega
theorem jw.cG.sub(h:r.cG m v l){k n:Nat}(aa:k<=n)(ax:n<=l.length):r.cG m (oQ v r.J k n) ((l.take n).drop k):=by
  rcases h with⟨rfl,rfl⟩|⟨b,o,cs,w,rfl,H,aq,aF⟩
  · exact .inl ⟨rfl,by simp⟩
  · have e:((l.take n).drop k).length=n-k:=(by simp;omega);have br:n*r.J<=l.length*r.J:=qt _ ax;have cR:k*r.J+(n-k)*r.J=n*r.J:=(by rw[<-kR];congr 1;omega);refine .inr ⟨b,o+k*r.J,cs,w,by rw[e];rfl,H,by rw[e];omega,λi x G=> ?_⟩;rw[yv,uQ]at G;split at G
    · have:=aF _ x G;rw[show o+k*r.J+i*r.J=o+(k+i)*r.J by rw[kR];omega];exact this
    · cases G
theorem OA{bg:List (List Value)}{J:Nat}(bL: ∀x∈bg,x.length=J): ∀{i:Nat} {y:List Value},bg[i]?=some y->(bg.flatten.drop (i*J)).take J=y:=by
  induction bg with
  |nil=>intro i y h;simp at h
  | cons x bg cn=>
    intro i y h;have G:=bL x (by simp);cases i with
    | zero=>simp at h;subst h;simp[List.take_append_of_le_length (Nat.le_of_eq G.symm),ky (Nat.le_of_eq G)]
    | succ i=>rw[qu,kR,Nat.one_mul,Nat.add_comm,<-yA,<-G,List.drop_left,G];exact cn (λy ah=>bL y (by simp[ah])) (by simpa using h)
theorem sw{bg:List (List Value)}{J:Nat}(bL: ∀x∈bg,x.length=J):bg.flatten.length=bg.length*J:=by
  induction bg with
  |nil=>simp
  |cons x bg cn=>rw[qu,j7,bL x (by simp),cn (λy ah=>bL y (by simp[ah])),oX,kR];omega
structure jw.L(r:jw c7)(p:W)(bg:List (List Value))(l:List c7):Prop where
  len:bg.length=l.length
  all: ∀(i:Nat) y x,bg[i]?=some y->l[i]?=some x->r.R p y x
variable {p:W} {bg:List (List Value)}
theorem jw.L.cd(h:r.L p bg l){lu:W}(M:o5 p lu):r.L lu bg l:=⟨h.len,λi y x ah G=>r.cd _ _ _ _ M (h.all i y x ah G)⟩
theorem jw.L.nil:r.L p [] []:=⟨rfl,λi y x h=>by simp at h⟩
theorem jw.L.app(h:r.L p bg l){tf:List (List Value)}{dj:List c7}(bK:r.L p tf dj):r.L p (bg++tf) (l++dj):=by
  refine⟨by simp[h.len,bK.len],λi wz hJ sK hi=> ?_⟩;by_cases ai:i<bg.length
  · rw[tv ai]at sK;rw[tv (by rw[<-h.len];exact ai)]at hi;exact h.all i _ _ sK hi
  · rw[uP (by omega)]at sK;rw[uP (by rw[<-h.len];omega),<-h.len]at hi;exact bK.all _ _ _ sK hi
theorem jw.L.ada(h:r.L p bg l): ∀y∈bg,y.length=r.J:= λy ah=>by
  obtain⟨i,ai,rfl⟩:=kx ah;have aC:i<l.length:=by rw[<-h.len];exact ai
  exact r.len _ _ _ (h.all i _ _ (dx ai) (dx aC))
theorem jw.L.ah0(h:r.L p bg l):bg.flatten.length=l.length*r.J:=by rw[sw h.ada,h.len]
theorem jw.L.slice(h:r.L p bg l)(af:o5 p m){b:Nat}{w:Bool}(hb:m.Y b=some ⟨bg.flatten,w⟩):r.cG m (.slice (some ⟨b,0,none⟩) l.length r.J) l:=by refine .inr ⟨b,0,_,w,rfl,hb,by rw[h.ah0];omega,λi x G=> ?_⟩;have ai:=(ek.1 G).1;rw[Nat.zero_add,OA h.ada (y:=bg[i]'(by rw[h.len];exact ai)) (by simp)];exact r.cd _ _ _ _ af (h.all i _ _ (by simp) G)
theorem SM{cs:List Value}{J:Nat}: ∀(n o:Nat),o+n*J<=cs.length-> ∃bg:List (List Value),bg.length=n/\bg.flatten=(cs.drop o).take (n*J)/\ ∀i,i<n->bg[i]?=some ((cs.drop (o+i*J)).take J)
  |0,o,_=>⟨[],rfl,by simp,λi ai=>by omega⟩
  | n+1,o,h=>by
    rw[kR]at h;obtain⟨bg,D,H,aq⟩:=SM (cs:=cs) (J:=J) n (o+J) (by omega);refine⟨(cs.drop o).take J::bg,by simp[D],?_,λi ai=> ?_⟩
    · rw[qu,H,kR,Nat.one_mul,Nat.add_comm (n*J) J,List.take_add,yA]
    · cases i with
      |zero=>simp
      | succ i=>rw[Dw,aq i (by omega)];congr 3;rw[kR];omega
theorem jw.cG.cells(h:r.cG m v l):fG m r.J v=true/\ ∃bg,fV m r.J v=bg.flatten/\r.L m bg l:=by
  rcases h with⟨rfl,rfl⟩|⟨b,o,cs,w,rfl,H,aq,aF⟩
  · exact⟨rfl,[],rfl,.nil⟩
  · refine⟨by simp[H];omega,?_⟩;obtain⟨bg,aL,aU,cz⟩:=SM l.length o aq;refine⟨bg,by simp[H,aU],aL,λi y x ah G=> ?_⟩;rw[cz i (ek.1 G).1]at ah;cases ah;exact aF i x G
end
def jw.int(k:IntKind):jw Int:=⟨1,λ_ cs n=>cs=[.int k n],λ_ _ _ h=>by rw[h];rfl,λ_ _ _ _ _ h=>h⟩
def jw.bool:jw Bool:=⟨1,λ_ cs n=>cs=[.bool n],λ_ _ _ h=>by rw[h];rfl,λ_ _ _ _ _ h=>h⟩
def jw.str:jw ByteArray:=⟨1,λ_ cs n=>cs=[.string n],λ_ _ _ h=>by rw[h];rfl,λ_ _ _ _ _ h=>h⟩
def jw.map{c7 lM:Type}(r:jw c7)(f:c7->lM):jw lM:=⟨r.J,λm cs y=> ∃x,f x=y/\r.R m cs x,λ_ _ _ ⟨_,_,h⟩=>r.len _ _ _ h,λ_ _ _ _ M ⟨x,h,bK⟩=>⟨x,h,r.cd _ _ _ _ M bK⟩⟩
theorem jw.cG.wo{c7 lM:Type}{r:jw c7}{q:jw lM}{m:W}{v:Value}{l:List c7}(f:c7->lM)(h:r.cG m v l)(bL:r.J=q.J)(a3: ∀cs x,x∈l->r.R m cs x->q.R m cs (f x)):q.cG m v (l.map f):=by
  rcases h with⟨rfl,rfl⟩|⟨b,o,cs,w,rfl,H,aq,aF⟩
  · exact .inl ⟨rfl,rfl⟩
  · refine .inr ⟨b,o,cs,w,by simp[bL],H,by simp[<-bL];exact aq,λi y ah=> ?_⟩;rw[qv,rl]at ah;obtain⟨x,G,rfl⟩:=ah;rw[<-bL];exact a3 _ x (hR G) (aF i x G)
def adr(r:List Value):Value:= .agg r.toArray
def afh:Value->List Value| .agg a=>a.toList|_=>[]
def au(bg:List (List Value))(J:Nat):Value:= .func (.yield 0) (bg.map adr).toArray #[.int .i64 J]
def eO(cW:List Value)(k:Nat):Value:= .func (.yield 1) cW.toArray #[.int .i64 k]
def Sl:List Value->Nat|[.int _ n]=>n.toNat|_=>0
def hC:Value->Bool| .func (.yield n) _ _=>n==0|_=>false
def l2:Value->Bool| .func (.yield n) _ _=>n==1|_=>false
def jC:Value->Bool| .func (.yield _) _ _=>true|_=>false
def xn:Value->List (List Value)| .func _ cm _=>cm.toList.map afh|_=>[]
def sN:Value->Nat| .func _ _ kT=>Sl kT.toList|_=>0
def Hl:Value->List Value| .func _ cm _=>cm.toList|_=>[]
section
variable {bg tf:List (List Value)} {J iT k eW:Nat} {cW te:List Value}
@[simp] theorem aMD:afh (adr cW)=cW:=rfl
@[simp] theorem LS:hC (au bg J)=true:=rfl
@[simp] theorem aFQ:hC (eO cW k)=false:=rfl
@[simp] theorem aFP:l2 (au bg J)=false:=rfl
@[simp] theorem atX:l2 (eO cW k)=true:=rfl
@[simp] theorem aFW:jC (au bg J)=true:=rfl
@[simp] theorem aFV:jC (eO cW k)=true:=rfl
@[simp] theorem JZ:xn (au bg J)=bg:=by simp[xn,au,Function.comp_def]
@[simp] theorem aEZ:sN (au bg J)=J:=by simp[sN,au,Sl]
@[simp] theorem adY:Hl (eO cW k)=cW:=rfl
@[simp] theorem Xo:sN (eO cW k)=k:=by simp[sN,eO,Sl]
@[simp] theorem Xn:au bg J=au tf iT↔bg=tf/\J=iT:=
  ⟨λh=>⟨by have:=congrArg xn h;simpa using this,by have:=congrArg sN h;simpa using this⟩,λ⟨a,b⟩=>by rw[a,b]⟩
end
abbrev eE:=Nat->Option Nat
abbrev fE:=Nat->Option (List Value)
abbrev k6:eE:= λ_=>none
inductive bW(u:fE):eE->Value->Value->Prop
  |cv {K:eE} {v:Value} (h:dO v=true):bW u K v v
  |cD {K:eE} {o b off:Nat} (h:K o=some b):bW u K (.pointer (some ⟨o,off,none⟩)) (.pointer (some ⟨b,off,none⟩))
  |slice {K:eE} {o b off l J:Nat} (h:K o=some b):bW u K (.slice (some ⟨o,off,none⟩) l J) (.slice (some ⟨b,off,none⟩) l J)
  |oS {K:eE} {o J:Nat}:bW u K (.slice (some ⟨o,0,none⟩) 0 J) (.slice none 0 0)
  |map {K:eE} {o b:Nat} (h:K o=some b):bW u K (.map (some o)) (.map (some b))
  |agg {K:eE} {xs ys:Array Value} (M:xs.size=ys.size) (h: ∀(i:Nat) (x y:Value),xs[i]?=some x->ys[i]?=some y->bW u K x y):bW u K (.agg xs) (.agg ys)
  |tuple {K:eE} {xs ys:Array Value} (M:xs.size=ys.size) (h: ∀(i:Nat) (x y:Value),xs[i]?=some x->ys[i]?=some y->bW u K x y):bW u K (.tuple xs) (.tuple ys)
  | func {K:eE} {f:Nat} {xs ys cs ds:Array Value} (M:xs.size=ys.size) (h: ∀(i:Nat) (x y:Value),xs[i]?=some x->ys[i]?=some y->bW u K x y)
      (hA:cs.size=ds.size) (H: ∀(i:Nat) (x y:Value),cs[i]?=some x->ds[i]?=some y->bW u K x y):bW u K (.func (.func f) xs cs) (.func (.func f) ys ds)
  |iface {K:eE} {t:TypeId} {v bq:Value} (h:bW u K v bq):bW u K (.iface t v) (.iface t bq)
  | hX {K:eE} {v:Value} {b off J:Nat} {cs:List Value} {bg:List (List Value)} (e:v=au bg J) (dn:u b=some cs) (aC:off+bg.length*J<=cs.length)
      (bL: ∀(i:Nat) r,bg[i]?=some r->r.length=J) (ar: ∀(i j:Nat) r x y,bg[i]?=some r->r[j]?=some x->cs[off+i*J+j]?=some y->bW u k6 x y):bW u K v (.slice (some ⟨b,off,none⟩) bg.length J)
  |hj {K:eE} {v:Value} {J:Nat} (e:v=au [] J):bW u K v (.slice none 0 0)
  | eO {K:eE} {v:Value} {b off k:Nat} {cs cW:List Value} (e:v=eO cW k) (dn:u b=some cs) (aC:off+cW.length<=cs.length)
      (ar: ∀(j:Nat) x y,cW[j]?=some x->cs[off+j]?=some y->bW u k6 x y):bW u K v (.pointer (some ⟨b,off+k,none⟩))
def fM(K cy:eE):Prop:= ∀o b,K o=some b->cy o=some b
def gW(u cF:fE):Prop:= ∀b cs,u b=some cs->cF b=some cs
theorem fM.refl(K:eE):fM K K:= λ_ _ h=>h
theorem fM.trans{a b c:eE}(h:fM a b)(bK:fM b c):fM a c:= λx l G=>bK x l (h x l G)
theorem fM.nil(K:eE):fM k6 K:= λ_ _ h=>by cases h
theorem gW.refl(u:fE):gW u u:= λ_ _ h=>h
theorem gW.trans{a b c:fE}(h:gW a b)(bK:gW b c):gW a c:= λx l G=>bK x l (h x l G)
theorem bW.cd{u cF:fE}{K cy:eE}{v bq:Value}(h:bW u K v bq)(dn:gW u cF)(bR:fM K cy):bW cF cy v bq:=by
  induction h generalizing cy with
  |cv h=>exact .cv h
  |cD h=>exact .cD (bR _ _ h)
  |slice h=>exact .slice (bR _ _ h)
  |oS=>exact .oS
  |map h=>exact .map (bR _ _ h)
  |agg M _ cn=>exact .agg M λi x y a b=>cn i x y a b bR
  |tuple M _ cn=>exact .tuple M λi x y a b=>cn i x y a b bR
  |func M _ hA _ cn PS=>exact .func M (λi x y a b=>cn i x y a b bR) hA λi x y a b=>PS i x y a b bR
  |iface _ cn=>exact .iface (cn bR)
  |hX e D aC bL ar cn=>exact .hX e (dn _ _ D) aC bL λi j r x y a b c=>cn i j r x y a b c (fM.refl _)
  |hj e=>exact .hj e
  |eO e D aC ar cn=>exact .eO e (dn _ _ D) aC λj x y a b=>cn j x y a b (fM.refl _)
def bj(u:fE)(K:eE)(xs ys:List Value):Prop:=xs.length=ys.length/\ ∀(i:Nat) (x y:Value),xs[i]?=some x->ys[i]?=some y->bW u K x y
section
variable {u cF:fE} {K cy:eE}
theorem bj.nil:bj u K [] []:=⟨rfl,by intro i x y h;simp at h⟩
theorem bj.cons{x y:Value}{xs ys:List Value}(h:bW u K x y)(M:bj u K xs ys):bj u K (x::xs) (y::ys):=by
  refine⟨by simp[M.1],λi a b az hb=> ?_⟩;cases i with
  |zero=>simp at az hb;subst az;subst hb;exact h
  |succ i=>exact M.2 i a b (by simpa using az) (by simpa using hb)
theorem bj.cd{xs ys:List Value}(h:bj u K xs ys)(dn:gW u cF)(bR:fM K cy):bj cF cy xs ys:=⟨h.1,λi x y G ah=>(h.2 i x y G ah).cd dn bR⟩
theorem bj.agg{xs ys:List Value}(h:bj u K xs ys):bW u K (.agg xs.toArray) (.agg ys.toArray):= .agg (by simpa using h.1) (by simpa using h.2)
theorem bj.tuple{xs ys:List Value}(h:bj u K xs ys):bW u K (.tuple xs.toArray) (.tuple ys.toArray):= .tuple (by simpa using h.1) (by simpa using h.2)
theorem bj.oh{a b c d:List Value}(h:bj u K a b)(bK:bj u K c d):bj u K (a++c) (b++d):=by
  refine⟨by simp[h.1,bK.1],λi x y G ah=> ?_⟩;rw[AS]at G ah;rw[<-h.1]at ah;split at G
  · rename_i ai;rw[if_pos ai]at ah;exact h.2 _ _ _ G ah
  · rename_i ai;rw[if_neg ai]at ah;exact bK.2 _ _ _ G ah
theorem bj.drop{a b:List Value}(h:bj u K a b)(n:Nat):bj u K (a.drop n) (b.drop n):=
  ⟨by simp[h.1],λi x y G ah=>h.2 (n+i) x y (by simpa using G) (by simpa using ah)⟩
theorem bj.take{a b:List Value}(h:bj u K a b)(n:Nat):bj u K (a.take n) (b.take n):=by
  refine⟨by simp[h.1],λi x y G ah=> ?_⟩;rw[uQ]at G ah;split at G
  · rename_i ai;rw[if_pos ai]at ah;exact h.2 _ _ _ G ah
  · cases G
theorem bj.set{a b:List Value}(h:bj u K a b)(n:Nat){x y:Value}(ab:bW u K x y):bj u K (a.set n x) (b.set n y):=by
  refine⟨by simp[h.1],λi bp v G ah=> ?_⟩;rw[yw]at G ah;rw[<-h.1]at ah;split at G
  · rename_i ai;rw[if_pos ai]at ah;split at G
    · rename_i H;rw[if_pos H]at ah;simp at G ah;subst G;subst ah;exact ab
    · cases G
  · rename_i ai;rw[if_neg ai]at ah;exact h.2 _ _ _ G ah
theorem bj.gx: ∀{ck e1:List Value} {a b:List Value} (off:Nat),bj u K a b->bj u K ck e1->bj u K (gx a off ck) (gx b off e1)
  |[],[],_,_,_,h,_=>h
  |[],bp::e1,_,_,_,_,H=>by simp[bj]at H
  |v::ck,[],_,_,_,_,H=>by simp[bj]at H
  | v::ck,bp::e1,a,b,off,h,H=>by simp only[Go.DI.gx];exact bj.gx (off+1) (h.set off (H.2 0 v bp rfl rfl)) ⟨by simpa using H.1,λi x y G ah=>H.2 (i+1) x y (by simpa using G) (by simpa using ah)⟩
theorem bj.Y{a b:List Value}(h:bj u K a b){i:Nat}{x:Value}(G:a[i]?=some x): ∃y,b[i]?=some y/\bW u K x y:=by have ai:i<a.length:=(ek.1 G).1;rw[h.1]at ai;exact⟨b[i],dx ai,h.2 i x _ G (dx ai)⟩
theorem bj.CL{c7:Type}(f g:c7->Value): ∀(l:List c7),(∀x∈l,bW u K (f x) (g x))->bj u K (l.map f) (l.map g)
  |[],_=>bj.nil
  |x::l,h=>bj.cons (h x (by simp)) (bj.CL f g l λy ah=>h y (by simp[ah]))
theorem bj.cv{cs:List Value}(h:cs.all dO=true):bj u K cs cs:=by refine⟨rfl,λi x y G ah=> ?_⟩;rw[G]at ah;cases ah;exact .cv (eD.1 h x (hR G))
theorem bj.flatten{k:Nat}{cs:List Value}(h:bj u K cs cs):bj u K (List.replicate k cs).flatten (List.replicate k cs).flatten:=by
  induction k with
  |zero=>exact bj.nil
  |succ k cn=>rw[Iq,qu];exact h.oh cn
theorem bW.mj{v:Value}(h:mj v=true):bW u K v v:=by
  unfold Go.DI.mj at h;split at h
  · rename_i cs;have:=bj.agg (u:=u) (K:=K) (bj.cv h);simpa using this
  · rename_i cs;have:=bj.tuple (u:=u) (K:=K) (bj.cv h);simpa using this
  · exact .cv h
theorem bW.undef:bW u K undef undef:=bj.tuple bj.nil
theorem bW.hB{v bq:Value}(h:bW u K v bq)(a3:dO v=true):bq=v:=by
  cases h with
  |cv=>rfl
  |hX e=>subst e;simp[dO,au]at a3
  |hj e=>subst e;simp[dO,au]at a3
  |eO e=>subst e;simp[dO,DI.eO]at a3
  |_=>simp[dO]at a3
theorem bW.p6{k:IntKind}{n:Int}{v:Value}(h:bW u K (.int k n) v):v= .int k n:=h.hB rfl
theorem bW.p5{b:Bool}{v:Value}(h:bW u K (.bool b) v):v= .bool b:=h.hB rfl
theorem bW.vv{b:ByteArray}{v:Value}(h:bW u K (.string b) v):v= .string b:=h.hB rfl
theorem bW.p7{a:Addr}{v:Value}(h:bW u K (.pointer (some a)) v): ∃b,K a.block=some b/\a.spot=none/\v= .pointer (some ⟨b,a.off,none⟩):=by
  cases h with
  |cv h=>simp[dO]at h
  |cD h=>exact⟨_,h,rfl,rfl⟩
  |hX e=>simp[au]at e
  |hj e=>simp[au]at e
  |eO e=>simp[DI.eO]at e
theorem bW.mu{a:Addr}{l J:Nat}{v:Value}(h:bW u K (.slice (some a) l J) v):(∃b,K a.block=some b/\a.spot=none/\v= .slice (some ⟨b,a.off,none⟩) l J)\/(a.off=0/\a.spot=none/\l=0/\v= .slice none 0 0):=by
  cases h with
  |cv h=>simp[dO]at h
  |slice h=>exact .inl ⟨_,h,rfl,rfl⟩
  |oS=>exact .inr ⟨rfl,rfl,rfl,rfl⟩
  |hX e=>simp[au]at e
  |hj e=>simp[au]at e
  |eO e=>simp[DI.eO]at e
theorem bW.qV{xs:Array Value}{v:Value}(h:bW u K (.agg xs) v): ∃ys,v= .agg ys/\bj u K xs.toList ys.toList:=by
  cases h with
  |cv h=>simp[dO]at h
  |agg M h=>exact⟨_,rfl,by simpa using M,by simpa using h⟩
  |hX e=>simp[au]at e
  |hj e=>simp[au]at e
  |eO e=>simp[DI.eO]at e
theorem bW.zo{xs:Array Value}{v:Value}(h:bW u K (.tuple xs) v): ∃ys,v= .tuple ys/\bj u K xs.toList ys.toList:=by
  cases h with
  |cv h=>simp[dO]at h
  |tuple M h=>exact⟨_,rfl,by simpa using M,by simpa using h⟩
  |hX e=>simp[au]at e
  |hj e=>simp[au]at e
  |eO e=>simp[DI.eO]at e
theorem bW.zn{f:Nat}{xs cs:Array Value}{v:Value}(h:bW u K (.func (.func f) xs cs) v): ∃ys ds,v= .func (.func f) ys ds/\bj u K xs.toList ys.toList/\bj u K cs.toList ds.toList:=by
  cases h with
  |cv h=>simp[dO]at h
  |func M h hA H=>exact⟨_,_,rfl,⟨by simpa using M,by simpa using h⟩,by simpa using hA,by simpa using H⟩
  |hX e=>simp[au]at e
  |hj e=>simp[au]at e
  |eO e=>simp[DI.eO]at e
theorem bW.Fa{t:TypeId}{x v:Value}(h:bW u K (.iface t x) v): ∃y,v= .iface t y/\bW u K x y:=by
  cases h with
  |cv h=>simp[dO]at h
  |iface h=>exact⟨_,rfl,h⟩
  |hX e=>simp[au]at e
  |hj e=>simp[au]at e
  |eO e=>simp[DI.eO]at e
theorem bW.Fb{o:Nat}{v:Value}(h:bW u K (.map (some o)) v): ∃b,K o=some b/\v= .map (some b):=by
  cases h with
  |cv h=>simp[dO]at h
  |map h=>exact⟨_,h,rfl⟩
  |hX e=>simp[au]at e
  |hj e=>simp[au]at e
  |eO e=>simp[DI.eO]at e
theorem bW.Xu{x v:Value}(h:bW u K x v)(ai:l2 x=true): ∃cW k b off cs,x=DI.eO cW k/\v= .pointer (some ⟨b,off+k,none⟩)/\u b=some cs/\off+cW.length<=cs.length/\
    (∀(j:Nat) x y,cW[j]?=some x->cs[off+j]?=some y->bW u k6 x y):=by
  cases h with
  |cv h=>cases x<;>simp_all [dO,l2]
  |eO e D H aq=>exact⟨_,_,_,_,_,e,rfl,D,H,aq⟩
  |hX e=>subst e;simp at ai
  |hj e=>subst e;simp at ai
  |_=>simp[l2]at ai
theorem bW.O{v bq:Value}(h:bW u K v bq):bj u K (O v) (O bq):=by
  cases h with
  |agg M h=>exact⟨by simpa[DI.O]using M,by simpa[DI.O]using h⟩
  |cv h=>cases v<;>simp[dO]at h<;>exact bj.cons (.cv (by simp[dO,h])) bj.nil
  |cD h=>exact bj.cons (.cD h) bj.nil
  |slice h=>exact bj.cons (.slice h) bj.nil
  |oS=>exact bj.cons .oS bj.nil
  |tuple M h=>exact bj.cons (.tuple M h) bj.nil
  |func M h hA H=>exact bj.cons (.func M h hA H) bj.nil
  |iface h=>exact bj.cons (.iface h) bj.nil
  |map h=>exact bj.cons (.map h) bj.nil
  |hX e a b c d=>subst e;exact bj.cons (.hX rfl a b c d) bj.nil
  |hj e=>subst e;exact bj.cons (.hj rfl) bj.nil
  |eO e a b c=>subst e;exact bj.cons (.eO rfl a b c) bj.nil
theorem bW.U{v bq:Value}(h:bW u K v bq)(ax:U v=true):U bq=true:=by cases h<;>first|rfl|assumption|(simp[DI.U]at ax)
theorem bW.S{v bq:Value}(h:bW u K v bq)(ax:S v=true):S bq=true:=by cases h<;>first|rfl|assumption|(simp[DI.S]at ax)
end
def o6(m:W)(v:Value)(n:Nat):Bool:=if l2 v then decide (sN v+n<=(Hl v).length)else gk m v n
def vR(m:W)(dc:Bool)(n:Nat)(v:Value):Value:=
  if l2 v then(if dc then .agg (((Hl v).drop (sN v)).take n).toArray else(((Hl v).drop (sN v)).take 1).headD undef)else j4 m dc n v
def oM(v:Value):Bool:=l2 v||qe v
def uy(v:Value)(n:Nat):Value:=if l2 v then eO (Hl v) (sN v+n)else vX v n
def xK(v:Value):Bool:=hC v||xJ v
def jD(v:Value):Int:=if hC v then((xn v).length:Nat)else hY v
def jP(v:Value):Nat:=if hC v then(xn v).length else gv v
def kN(J:Nat)(v:Value):Bool:=if hC v then sN v==J else mE J v
def rh(v:Value)(J l h:Nat):Value:=if hC v then au (((xn v).take h).drop l) J else oQ v J l h
def yc(v:Value)(J:Nat)(i:Int):Value:=if hC v then eO ((xn v).getD i.toNat []) 0 else wi v J i
def ku(m:W)(J:Nat)(v:Value):Bool:=if hC v then sN v==J else fG m J v
def kX(m:W)(J:Nat)(v:Value):List Value:=if hC v then(xn v).flatten else fV m J v
def lD(v:Value):Bool:= !jC v&&(match v with| .slice (some _) l _=>l !=0|_=>true)
def ad.hZ(k:ad)(z:aP)(m:W):Bool:=
  match k with
  | .kp dc n x=>o6 m (X z x) n&&(dc||decide (n=1))
  | .eX op c x y=>lD (X z x)&&lD (X z y)&&qD op c (X z x) (X z y)
  | .mg x=>ku m 1 (X z x)&&(kX m 1 (X z x)).all zT
  | .nb J x ct ai=>kN J (X z x)&&m7 z ct&&m7 z ai&&decide (0<=gG z ct 0)&&decide (gG z ct 0<=gG z ai (jD (X z x)))&&decide (gG z ai (jD (X z x))<=jD (X z x))
  | .uJ J x ct ai fh=>kN J (X z x)&&m7 z ct&&eV (X z ai)&&eV (X z fh)&&decide (0<=gG z ct 0)&&decide (gG z ct 0<=eR (X z ai))&&decide (eR (X z ai)<=eR (X z fh))&&decide (eR (X z fh)<=jD (X z x))
  | .rB _ x=>oM (X z x)
  | .p3 J x i=>kN J (X z x)&&eV (X z i)&&decide (0<=eR (X z i))&&decide (eR (X z i)<jD (X z x))
  | .oz _ len x i=>oM (X z x)&&eV (X z i)&&decide (0<=eR (X z i))&&decide (eR (X z i)<(len:Int))
  | .rY x=>xK (X z x)
  | .app J bytes x y=>fG m J (X z x)&&jG m (X z x)&&ku m J (X z y)&&decide (0<J)&&decide ((gv (X z x)+jP (X z y))*bytes<=140737488355328)&&decide (gv (X z x)+jP (X z y)<=9223372036854775807)
  | .s3 fn _ _=>(match fn with| .func _=>true|_=>false)
  |k=>k.ok z m
def ad.ia(k:ad)(id:Nat)(z:aP)(m:W):Value:=
  match k with
  | .kp dc n x=>vR m dc n (X z x)
  | .mg x=> .string (toBytes (kX m 1 (X z x)))
  | .nb J x ct ai=>rh (X z x) J (gG z ct 0).toNat (gG z ai (jD (X z x))).toNat
  | .uJ J x ct ai _=>rh (X z x) J (gG z ct 0).toNat (eR (X z ai)).toNat
  | .rB off x=>uy (X z x) off
  | .p3 J x i=>yc (X z x) J (eR (X z i))
  | .oz J _ x i=>uy (X z x) ((eR (X z i)).toNat*J)
  | .rY x=> .int .i64 (jD (X z x))
  | .app J _ x y=>if jP (X z y)=0 then X z x else .slice (some ⟨id,0,none⟩) (gv (X z x)+jP (X z y)) J
  |k=>k.val id z m
def ad.my(k:ad)(id:Nat)(z:aP)(m:W):W:=
  match k with
  | .app J _ x y=>if jP (X z y)=0 then m else(j3 m (X z x)).a4 id (some ⟨fV m J (X z x)++kX m J (X z y),true⟩)
  |k=>k.gu id z m
def tc(m:W)(o:Nat):Bool:=match m.Y o with|some x=>x.own|none=>false
def DZ(m:W)(v:Value):Bool:=match N v with|some o=>tc m o|none=>true
def II(m:W)(a b:Value):Bool:=
  if jC a then !jC b&&DZ m b else if jC b then DZ m a else match N a,N b with
    |some a,some b=>a !=b
    |_,_=>true
def ig(z:aP)(m:W)(a5:List (Operand×Operand)):Bool:=a5.all λ(x,y)=>II m (X z x) (X z y)
def GZ(z:aP)(m:W)(a5:List (Operand×Operand)):Bool:=a5.all λp=>match N (X z p.1)with|some o=> !tc m o|none=>true
def vU(k:ad):Bool:=k.gN.all cL&&(match k with
  | .dm J| .eT J _| .fI _ _ J _| .jq _ _ J _ _| .me _ _ J _ _| .hg J _=>J.all dO
  | .m1 _ J _ _ _=>dO J
  |_=>true)
def Hc(o:bn):Bool:=vU o.k&&o.a5.all λp=>cL p.1&&cL p.2
def mA:I->Bool
  | .E ops=>ops.all Hc&&uq (ops.map (·.aN))&&ops.all λo=>decide (o.aN<ops.length)
  | .B a b=>mA a&&mA b
  | .aR c a b=>cL c&&mA a&&mA b
  | .block _ c=>mA c
  | .loop c=>mA c
  | .qa _ _ _=>false
  |_=>true
def o1(u:fE)(K:eE)(a9 c2:List (Value×Value)):Prop:=a9.length=c2.length/\ ∀(i:Nat) e dY,a9[i]?=some e->c2[i]?=some dY->bW u K e.1 dY.1/\bW u K e.2 dY.2
theorem o1.cd{u cF:fE}{K cy:eE}{a9 c2:List (Value×Value)}(h:o1 u K a9 c2)(dn:gW u cF)(bR:fM K cy):o1 cF cy a9 c2:=⟨h.1,λi e dY a b=>⟨(h.2 i e dY a b).1.cd dn bR,(h.2 i e dY a b).2.cd dn bR⟩⟩
structure dR(K:eE)(u:fE)(t m:W):Prop where
  hO: ∀o x,t.Y o=some x->(∃b cs w,K o=some b/\m.Y b=some ⟨cs,w⟩/\(x.own=true->w=true)/\bj u K x.cells cs)\/(K o=none/\x.cells=[])
  maps: ∀o a9,t.eJ o=some a9-> ∃b c2,K o=some b/\m.eJ b=some c2/\o1 u K a9 c2
  h4: ∀o,K o=none->t.mp o=none
  inj: ∀o o' b,K o=some b->K o'=some b->o=o'
  c0: ∀o b,K o=some b->o<t.next/\b<m.next
  bA: ∀b cs,u b=some cs->(∃w,m.Y b=some ⟨cs,w⟩)/\ ∀o x,K o=some b->t.Y o=some x->x.own=false
def DP(K:eE)(t:W)(b:Nat):Prop:= ∃o x,K o=some b/\t.Y o=some x/\x.own=true
def AX(K:eE)(t:W)(b:Nat):Prop:= ∃o x,K o=some b/\t.Y o=some x
structure eF(gC g8:Nat)(K:eE)(u:fE)(t m:W)(cy:eE)(cF:fE)(aT an:W):Prop where
  e:fM K cy
  f:gW u cF
  jz: ∀o b,cy o=some b->K o=some b\/(gC<=o/\g8<=b)
  fn: ∀b cs,cF b=some cs->u b=some cs\/g8<=b\/AX K t b
  jh:t.next<=aT.next
  jr:m.next<=an.next
  k3: ∀b,b<g8-> ¬DP K t b->an.Y b=m.Y b
  nh: ∀b,b<g8->DP cy aT b->DP K t b
  mM: ∀b,b<g8->AX cy aT b->AX K t b
theorem eF.refl{gC g8:Nat}{K:eE}{u:fE}{t m:W}:eF gC g8 K u t m K u t m:=
  ⟨fM.refl _,gW.refl _,λ_ _ h=> .inl h,λ_ _ h=> .inl h,ev _,ev _,λ_ _ _=>rfl,λ_ _ h=>h,λ_ _ h=>h⟩
theorem eF.trans{gC g8:Nat}{K cp fD:eE}{u dv iC:fE}{t bO iB m bd dE:W}(h:eF gC g8 K u t m cp dv bO bd)(bK:eF gC g8 cp dv bO bd fD iC iB dE):eF gC g8 K u t m fD iC iB dE where
  e:=h.e.trans bK.e
  f:=h.f.trans bK.f
  jz o b hb:=(bK.jz o b hb).elim (λD=>h.jz o b D) .inr
  fn b cs hb:=by
    rcases bK.fn b cs hb with D|D|D
    · exact h.fn b cs D
    · exact .inr (.inl D)
    · by_cases H:b<g8
      · exact .inr (.inr (h.mM b H D))
      · exact .inr (.inl (by omega))
  jh:=jv h.jh bK.jh
  jr:=jv h.jr bK.jr
  k3 b hb aZ:=by rw[bK.k3 b hb (λw=>aZ (h.nh b hb w)),h.k3 b hb aZ]
  nh b hb aZ:=h.nh b hb (bK.nh b hb aZ)
  mM b hb aZ:=h.mM b hb (bK.mM b hb aZ)
theorem eF.yo{gC g8 H3 G8:Nat}{K cy:eE}{u cF:fE}{t aT m an:W}(h:eF gC g8 K u t m cy cF aT an)(bt:H3<=gC)(aw:G8<=g8):eF H3 G8 K u t m cy cF aT an where
  e:=h.e
  f:=h.f
  jz o b hb:=(h.jz o b hb).imp_right λ⟨a,b⟩=>⟨by omega,by omega⟩
  fn b cs hb:=by
    rcases h.fn b cs hb with D|D|D
    · exact .inl D
    · exact .inr (.inl (by omega))
    · exact .inr (.inr D)
  jh:=h.jh
  jr:=h.jr
  k3 b hb aZ:=h.k3 b (by omega) aZ
  nh b hb aZ:=h.nh b (by omega) aZ
  mM b hb aZ:=h.mM b (by omega) aZ
def gJ(u:fE)(K:eE)(z aj:aP):Prop:= ∀t,bW u K (z t) (aj t)
section
variable {u cF:fE} {K cy:eE} {z aj:aP} {t m:W}
theorem gJ.cd(h:gJ u K z aj)(dn:gW u cF)(bR:fM K cy):gJ cF cy z aj:= λt=>(h t).cd dn bR
theorem gJ.X(h:gJ u K z aj){x:Operand}(G:cL x=true):bW u K (X z x) (X aj x):=by
  cases x with
  |tmp t=>exact h t
  |const v=>exact bW.mj G
  |func f=>exact .func rfl (by intro i x y h;simp at h) rfl (by intro i x y h;simp at h)
  |global g=>simp[cL]at G
theorem gJ.a4(h:gJ u K z aj){d:Option Nat}{v bq:Value}(ab:bW u K v bq):gJ u K (c1 z d v) (c1 aj d bq):=by
  cases d with
  |none=>exact h
  | some d=>
    intro t;simp only[c1,pE];by_cases e:t=d
    · simp only[e,if_true];exact ab
    · simp only[e,if_false];exact h t
theorem gJ.wZ(h:gJ u K z aj){l:List Operand}(aC:l.all cL=true):bj u K (l.map (Go.DI.X z)) (l.map (Go.DI.X aj)):=
  bj.CL _ _ _ λx G=>h.X (eD.1 aC x G)
theorem gJ.init{bQ bs:List Value}(h:bj u K bQ bs):gJ u K (ja bQ) (ja bs):= λt=>by
  simp only[ja,oa];cases az:bQ[t]? with
  | none=>rw[rm (by rw[<-h.1];exact List.getElem?_eq_none_iff.1 az)];exact bW.undef
  |some x=>obtain⟨y,ah,ab⟩:=h.Y az;rw[ah];exact ab
theorem acP{v bq:Value}(h:bW u K v bq)(hb:rT v=true):bq=v:=by cases v<;>simp[rT]at hb;exact h.p5
theorem pk{v bq:Value}(h:bW u K v bq)(hb:eV v=true):bq=v:=by cases v<;>simp[eV]at hb;exact h.p6
theorem zS{v bq:Value}(h:bW u K v bq)(hb:kF v=true):bq=v:=by cases v<;>simp[kF]at hb;exact h.vv
theorem TX(h:gJ u K z aj)(g:Option (Nat×Bool)):eH aj g=eH z g:=by
  cases g with
  |none=>rfl
  | some g=>
    obtain⟨j,b⟩:=g;have ab:=h j;simp only[eH];generalize z j=v at ab;generalize aj j=bq at ab;cases ab with
    |cv h=>rfl
    |hX e=>subst e;rfl
    |hj e=>subst e;rfl
    |eO e=>subst e;rfl
    |_=>rfl
end
section
variable {u:fE} {K:eE} {z aj:aP} {t m:W} {v bq:Value}
theorem rR(h:dO v=true):hC v=false/\l2 v=false/\jC v=false:=by cases v<;>simp_all [dO,hC,l2,jC]
theorem bj.headD{xs ys:List Value}(h:bj u K xs ys):bW u K (xs.headD undef) (ys.headD undef):=by
  cases xs with
  | nil=>cases ys with
    |nil=>exact bW.undef
    |cons y ys=>simp[bj]at h
  | cons x xs=>cases ys with
    |nil=>simp[bj]at h
    |cons y ys=>exact h.2 0 x y rfl rfl
theorem bj.VU: ∀{bg tf:List (List Value)},bg.length=tf.length->(∀(i:Nat) r dF,bg[i]?=some r->tf[i]?=some dF->bj u K r dF)->bj u K bg.flatten tf.flatten
  |[],[],_,_=>bj.nil
  |[],_::_,h,_=>by simp at h
  |_::_,[],h,_=>by simp at h
  | r::bg,dF::tf,h,aJ=>by rw[qu,qu];exact(aJ 0 r dF rfl rfl).oh (bj.VU (by simpa using h) λi a b az hb=>aJ (i+1) a b (by simpa using az) (by simpa using hb))
theorem bj.cW{cW cs:List Value}{off k n:Nat}(aC:off+cW.length<=cs.length)(ar: ∀(j:Nat) x y,cW[j]?=some x->cs[off+j]?=some y->bW u k6 x y)(aa:k+n<=cW.length):
    bj u K ((cW.drop k).take n) ((cs.drop (off+k)).take n):=by
  refine⟨by simp;omega,λi x y G ah=> ?_⟩;rw[uQ]at G ah;split at G
  · rename_i ai;rw[if_pos ai]at ah;rw[yv]at G ah;exact(ar (k+i) x y G (by rw[<-oY];exact ah)).cd (gW.refl _) (fM.nil _)
  · cases G
theorem dR.qB(M:dR K u t m){o b:Nat}{x:fm}(bR:K o=some b)(G:t.Y o=some x): ∃cs w,m.Y b=some ⟨cs,w⟩/\(x.own=true->w=true)/\bj u K x.cells cs:=by
  rcases M.hO o x G with⟨ca,cs,w,D,H,aq,aF⟩|⟨D,_⟩
  · rw[bR]at D;cases D;exact⟨cs,w,H,aq,aF⟩
  · rw[bR]at D;cases D
theorem DR(M:dR K u t m)(ab:bW u K v bq){n:Nat}(h:o6 t v n=true):gk m bq n=true:=by
  unfold o6 at h;split at h
  · rename_i ai;obtain⟨cW,k,b,off,cs,rfl,rfl,dn,aC,ar⟩:=ab.Xu ai;obtain⟨⟨w,aZ⟩,_⟩:=M.bA b cs dn;simp at h;simp[aZ];omega
  · rename_i mT;unfold gk at h;split at h
    · next a=>
      obtain⟨b,bR,l0,rfl⟩:=ab.p7;simp only[aX]at h;cases aM:t.Y a.block with
      |none=>rw[aM]at h;simp at h
      | some x=>rw[aM]at h;obtain⟨cs,w,D,_,aq⟩:=M.qB bR aM;simp at h;simp[D];have:=aq.1;omega
    · cases h
theorem R1(M:dR K u t m)(ab:bW u K v bq){n:Nat}{dc:Bool}(h:o6 t v n=true)(D:(dc||decide (n=1))=true):bW u K (vR t dc n v) (j4 m dc n bq):=by
  unfold o6 at h;unfold vR;split at h
  · rename_i ai;rw[if_pos ai];obtain⟨cW,k,b,off,cs,rfl,rfl,dn,aC,ar⟩:=ab.Xu ai;obtain⟨⟨w,aZ⟩,_⟩:=M.bA b cs dn;simp at h;simp only[au8,Vf,aZ,Xo,adY];cases dc with
    |true=>exact(bj.cW aC ar h).agg
    |false=>simp at D;subst D;exact(bj.cW aC ar h).headD
  · rename_i ai;rw[if_neg ai];unfold gk at h;split at h
    · next a=>
      obtain⟨b,bR,l0,rfl⟩:=ab.p7;simp only[aX]at h;cases aM:t.Y a.block with
      |none=>rw[aM]at h;simp at h
      | some x=>
        obtain⟨cs,w,H,_,aq⟩:=M.qB bR aM;simp only[j4,hf,H];rw[aM];cases dc with
        |true=>exact((aq.drop _).take _).agg
        |false=>exact((aq.drop _).take _).headD
    · cases h
theorem ad6(ab:bW u K v bq)(h:oM v=true):qe bq=true:=by
  cases ab with
  |cv D=>obtain⟨_,H,_⟩:=rR D;simpa[oM,H]using h
  |cD h=>rfl
  |eO e=>rfl
  |hX e=>subst e;simp[oM,qe,au,l2]at h
  |hj e=>subst e;simp[oM,qe,au,l2]at h
  |_=>simp[oM,qe,l2]at h
theorem ad5(ab:bW u K v bq)(h:oM v=true)(n:Nat):bW u K (uy v n) (vX bq n):=by
  cases ab with
  | cv D=>
    obtain⟨_,H,_⟩:=rR D;simp only[oM,H,Bool.false_or,qe]at h;split at h
    · simp[dO]at D
    · cases h
  |cD bR=>simp only[uy,l2,vX,jR,if_false];exact .cD bR
  |eO e dn aC ar=>subst e;simp only[uy,atX,if_true,adY,Xo,vX,oY];exact .eO rfl dn aC ar
  |hX e=>subst e;simp[oM,qe,au,l2]at h
  |hj e=>subst e;simp[oM,qe,au,l2]at h
  |_=>simp[oM,qe,l2]at h
theorem Mc(ab:bW u K v bq):jD v=hY bq:=by
  cases ab with
  |cv h=>simp[jD,(rR h).1]
  |hX e=>subst e;simp[jD,hY]
  |hj e=>subst e;simp[jD,hY]
  |eO e=>subst e;simp[jD,hY,eO,hC]
  |_=>rfl
theorem Nd(ab:bW u K v bq):jP v=gv bq:=by
  cases ab with
  |cv h=>simp[jP,(rR h).1]
  |hX e=>subst e;simp[jP,gv]
  |hj e=>subst e;simp[jP,gv]
  |eO e=>subst e;simp[jP,gv,eO,hC]
  |_=>rfl
theorem atY(ab:bW u K v bq)(h:xK v=true):xJ bq=true:=by
  cases ab with
  |cv D=>simpa[xK,(rR D).1]using h
  |hX e=>rfl
  |hj e=>rfl
  |eO e=>subst e;simp[xK,eO,hC,xJ]at h
  |_=>simpa[xK,hC,xJ]using h
theorem HR(ab:bW u K v bq){J:Nat}(h:kN J v=true):mE J bq=true:=by
  cases ab with
  |cv D=>simpa[kN,(rR D).1]using h
  |hX e=>subst e;simpa[kN]using h
  |hj e=>rfl
  |eO e=>subst e;simp[kN,eO,hC,mE]at h
  |oS=>rfl
  |slice=>simpa[kN,hC]using h
  |_=>simp[kN,hC,mE]at h
theorem aeN(ab:bW u K v bq){J l h:Nat}(af:kN J v=true)(D:l<=h)(H:h<=jP v):bW u K (rh v J l h) (oQ bq J l h):=by
  cases ab with
  | cv a3=>
    simp only[rh,(rR a3).1,jR,if_false];unfold oQ;split
    · simp[dO]at a3
    · exact .cv rfl
  | hX e dn aC bL ar=>
    rename_i b off iT cs bg;subst e;have BA:iT=J:=(by simpa[kN]using af);subst BA;have sA:h<=bg.length:=(by simpa[jP]using H);simp only[rh,LS,if_true,JZ,oQ];have eS:((bg.take h).drop l).length=h-l:=(by simp;omega);have aw:h*iT<=bg.length*iT:=qt _ sA;have bf:l*iT+(h-l)*iT=h*iT:=(by rw[<-kR];congr 1;omega);rw[<-eS];refine .hX rfl dn (by rw[eS];omega) (λi r ay=> ?_) λi j r x y ay G ah=> ?_
    · rw[yv,uQ]at ay;split at ay
      · exact bL _ _ ay
      · cases ay
    · rw[yv,uQ]at ay;split at ay
      · refine ar _ j r x y ay G ?_;rw[<-ah];congr 1;rw[kR];omega
      · cases ay
  | hj e=>subst e;simp only[rh,LS,if_true,JZ,oQ];simp;exact .hj rfl
  |eO e=>subst e;simp[kN,eO,hC,mE]at af
  | oS=>have:h=0:=(by simpa[jP,hC,gv]using H);subst this;have:l=0:=(by omega);subst this;simp only[rh,hC,oQ,jR,if_false,Nat.zero_mul,Nat.add_zero,Nat.sub_self];exact .oS
  |slice bR=>simp only[rh,hC,oQ,jR,if_false];exact .slice bR
  |_=>simp[kN,hC,mE]at af
theorem ayp(ab:bW u K v bq){J:Nat}{i:Int}(af:kN J v=true)(c5:0<=i)(D:i<jD v):bW u K (yc v J i) (wi bq J i):=by
  obtain⟨n,rfl⟩:=kS c5;cases ab with
  | cv a3=>
    simp only[jD,(rR a3).1,jR,if_false]at D;simp only[kN,(rR a3).1,jR,if_false]at af;unfold mE at af;split at af
    · simp[hY]at D;simp at af;omega
    · simp[dO]at a3
    · cases af
  | hX e dn aC bL ar=>rename_i b off iT cs bg;subst e;have BA:iT=J:=(by simpa[kN]using af);subst BA;have H:n<bg.length:=(by simpa[jD]using D);simp only[yc,LS,if_true,JZ,wi,rn];rw[oa,dx H,AV];have ay:=dx H;have qS:=bL _ _ ay;have:(n+1)*iT<=bg.length*iT:=qt _ H;rw[kR]at this;exact .eO (off:=off+n*iT) (k:=0) rfl dn (by omega) λj x y G ah=>ar n j _ x y ay G ah
  |hj e=>subst e;simp[jD]at D;omega
  |eO e=>subst e;simp[kN,eO,hC,mE]at af
  |oS=>simp[jD,hC,hY]at D;omega
  |slice bR=>simp only[yc,hC,wi,jR,if_false];exact .cD bR
  |_=>simp[kN,hC,mE]at af
theorem HV(M:dR K u t m)(ab:bW u K v bq){J:Nat}(h:ku t J v=true):fG m J bq=true:=by
  cases ab with
  | cv a3=>
    simp only[ku,(rR a3).1,jR,if_false]at h;unfold fG at h;split at h
    · simpa[fG]using h
    · simp[dO]at a3
    · cases h
  | hX e dn aC bL ar=>subst e;have:=(by simpa[ku]using h);subst this;obtain⟨⟨w,aZ⟩,_⟩:=M.bA _ _ dn;simp[aZ,aC]
  |hj e=>rfl
  |eO e=>subst e;simp[ku,eO,hC,fG]at h
  |oS=>rfl
  | slice bR=>
    rename_i o b off l iT;simp only[ku,hC,jR,if_false,aeO,aX]at h⊢;refine⟨h.1,?_⟩;cases aM:t.Y o with
    |none=>rw[aM]at h;simp at h
    | some x=>rw[aM]at h;obtain⟨cs,w,D,_,aq⟩:=M.qB bR aM;have:=aq.1;simp[D]at h⊢;omega
  |_=>simp[ku,hC,fG]at h
theorem I2(M:dR K u t m)(ab:bW u K v bq){J:Nat}(h:ku t J v=true):bj u K (kX t J v) (fV m J bq):=by
  cases ab with
  | cv a3=>
    simp only[ku,(rR a3).1,jR,if_false]at h;unfold fG at h;split at h
    · exact bj.nil
    · simp[dO]at a3
    · cases h
  | hX e dn aC bL ar=>rename_i b off iT cs bg;subst e;have:=(by simpa[ku]using h);subst this;obtain⟨⟨w,aZ⟩,_⟩:=M.bA _ _ dn;simp only[kX,LS,if_true,JZ,ayt,Vf,aZ];obtain⟨tf,aL,aU,cz⟩:=SM bg.length off aC;rw[<-aU];refine bj.VU aL.symm λi r dF ay W1=> ?_;have ai:=(ek.1 ay).1;rw[cz i ai]at W1;cases W1;have WN:=bL _ _ ay;have:(i+1)*iT<=bg.length*iT:=qt _ ai;rw[kR]at this;have:=bj.cW (u:=u) (K:=K) (cW:=r) (cs:=cs) (off:=off+i*iT) (k:=0) (n:=iT) (by omega) (λj x y G ah=>ar i j r x y ay G ah) (by omega);rw[List.drop_zero,ky (by omega)]at this;exact this
  |hj e=>subst e;simp[kX,fV];exact bj.nil
  |eO e=>subst e;simp[ku,eO,hC,fG]at h
  | oS=>
    simp only[kX,hC,jR,if_false,fV,hf];split
    · simp;exact bj.nil
    · exact bj.nil
  | slice bR=>
    rename_i o b off l iT;simp only[ku,hC,jR,if_false,aeO,aX]at h;simp only[kX,hC,jR,if_false,fV,hf];cases aM:t.Y o with
    |none=>rw[aM]at h;simp at h
    | some x=>obtain⟨cs,w,D,_,aq⟩:=M.qB bR aM;simp only[D];exact(aq.drop _).take _
  |_=>simp[ku,hC,fG]at h
theorem aeP(M:dR K u t m)(ab:bW u K v bq)(h:jG t v=true):jG m bq=true:=by
  unfold jG at h;split at h
  · rename_i l c;cases ab with
    |cv a3=>rfl
    |hX e=>simp[au]at e
    |hj e=>simp[au]at e
    |eO e=>simp[eO]at e
  · rename_i a l c;rcases ab.mu with⟨b,bR,_,rfl⟩|⟨_,_,_,rfl⟩
    · cases aM:t.Y a.block with
      |none=>rw[aM]at h;cases h
      | some x=>rw[aM]at h;obtain⟨cs,w,D,H,aq⟩:=M.qB bR aM;simp[D,H h]
    · rfl
  · cases h
theorem avp(M:dR K u t m)(ab:bW u K v bq){a9:List (Value×Value)}(h:jM t v=some a9): ∃c2,jM m bq=some c2/\o1 u K a9 c2:=by
  unfold jM at h;split at h
  · cases h;have:bq= .map none:=ab.hB rfl;subst this;exact⟨[],rfl,rfl,λi e dY a=>by simp at a⟩
  · obtain⟨b,c2,D,H,aq⟩:=M.maps _ _ h;obtain⟨ca,aF,rfl⟩:=ab.Fb;rw[D]at aF;cases aF;exact⟨c2,H,aq⟩
  · cases h
theorem acT(ab:bW u K v bq){a5:jU}(h:nv a5 v=true):bq=v:=by
  cases a5<;>cases v<;>simp[nv]at h
  · exact ab.p6
  · exact ab.vv
theorem ac6{a5:jU}{a9 c2:List (Value×Value)}(bh:o1 u K a9 c2)(ab:bW u K v bq)(h:nA a5 v a9=true):nA a5 bq c2=true/\bq=v/\ ∀(i:Nat) e dY,a9[i]?=some e->c2[i]?=some dY->dY.1=e.1:=by
  simp only[nA,aX,eD]at h⊢;have aL:=acT ab h.1;subst aL;have aa: ∀(i:Nat) e dY,a9[i]?=some e->c2[i]?=some dY->dY.1=e.1:= λi e dY a b=>acT (bh.2 i e dY a b).1 (h.2 e (hR a));refine⟨⟨h.1,λdY aw=> ?_⟩,rfl,aa⟩;obtain⟨i,ai,rfl⟩:=kx aw;have hE:i<a9.length:=by rw[bh.1];exact ai
  rw[aa i _ _ (dx hE) (dx ai)];exact h.2 _ (mI hE)
theorem adq{k:Value}: ∀{a9 c2:List (Value×Value)},o1 u K a9 c2->(∀(i:Nat) e dY,a9[i]?=some e->c2[i]?=some dY->dY.1=e.1)->(iF k a9=none/\iF k c2=none)\/ ∃a b,iF k a9=some a/\iF k c2=some b/\bW u K a b
  |[],[],_,_=> .inl ⟨rfl,rfl⟩
  |[],_::_,h,_=>by simp[o1]at h
  |_::_,[],h,_=>by simp[o1]at h
  | e::a9,dY::c2,h,aa=>by
    have c5:=aa 0 e dY rfl rfl;simp only[iF,c5];split
    · exact .inr ⟨_,_,rfl,rfl,(h.2 0 e dY rfl rfl).2⟩
    · exact adq ⟨by simpa using h.1,λi a b az hb=>h.2 (i+1) a b (by simpa using az) (by simpa using hb)⟩ λi a b az hb=>aa (i+1) a b (by simpa using az) (by simpa using hb)
theorem adE{k v bq:Value}(xb:bW u K k k)(ab:bW u K v bq): ∀{a9 c2:List (Value×Value)},o1 u K a9 c2->(∀(i:Nat) e dY,a9[i]?=some e->c2[i]?=some dY->dY.1=e.1)->o1 u K (k4 k v a9) (k4 k bq c2)
  | [],[],_,_=>⟨rfl,λi a b az hb=>by
      cases i with
      |zero=>simp[k4]at az hb;subst az;subst hb;exact⟨xb,ab⟩
      |succ i=>simp[k4]at az⟩
  |[],_::_,h,_=>by simp[o1]at h
  |_::_,[],h,_=>by simp[o1]at h
  | e::a9,dY::c2,h,aa=>by
    have c5:=aa 0 e dY rfl rfl;have bt:o1 u K a9 c2:=⟨by simpa using h.1,λi a b az hb=>h.2 (i+1) a b (by simpa using az) (by simpa using hb)⟩;simp only[k4,c5];split
    · refine⟨by simpa using h.1,λi a b az hb=> ?_⟩;cases i with
      |zero=>simp at az hb;subst az;subst hb;exact⟨xb,ab⟩
      |succ i=>exact bt.2 i a b (by simpa using az) (by simpa using hb)
    · have:=adE xb ab bt λi a b az hb=>aa (i+1) a b (by simpa using az) (by simpa using hb);refine⟨by simpa using this.1,λi a b az hb=> ?_⟩;cases i with
      |zero=>simp at az hb;subst az;subst hb;exact h.2 0 e dY rfl rfl
      |succ i=>exact this.2 i a b (by simpa using az) (by simpa using hb)
end
section
variable {u:fE} {K:eE} {z aj:aP} {t m:W} {v bq:Value}
theorem He(bE:gJ u K z aj){x:Option Operand}(G: ∀o,x=some o->cL o=true)(h:m7 z x=true)(d:Int):m7 aj x=true/\gG aj x d=gG z x d:=by
  cases x with
  |none=>exact⟨rfl,rfl⟩
  | some o=>have e:=pk (bE.X (G o rfl)) h;simp only[m7,gG,e]at h⊢;exact⟨h,trivial⟩
theorem adZ(bE:gJ u K z aj){cs kY:List Value}(aC:cs.length=kY.length){ps:List (Nat×Nat×Operand)}(az: ∀p∈ps,cL p.2.2=true)(h:pt cs z ps=true):pt kY aj ps=true:=by simp only[pt,eD]at h⊢;intro p af;have:=h p af;obtain⟨off,n,x⟩:=p;simp only[aX,eM]at this⊢;have ab:=bE.X (az _ af);exact⟨⟨ab.U this.1.1,by rw[<-ab.O.1];exact this.1.2⟩,by rw[<-aC];exact this.2⟩
theorem St(bE:gJ u K z aj): ∀{ps:List (Nat×Nat×Operand)} {cs kY:List Value},bj u K cs kY->(∀p∈ps,cL p.2.2=true)->bj u K (lv cs z ps) (lv kY aj ps)
  |[],_,_,h,_=>h
  | (off,n,x)::ps,_,_,h,az=>by simp only[lv];exact St bE (h.gx off (bE.X (az (off,n,x) (by simp))).O) λp af=>az p (by simp[af])
theorem bW.Db{v:Value}(h:dO v=true\/v=Go.undef):bW u K v v:=by
  rcases h with h|rfl
  · exact .cv h
  · exact bW.undef
theorem ajZ(op:BinOp)(k:IntKind)(a b:Int):dO (BF op k a b)=true:=by cases op<;>rfl
theorem ayB(op:BinOp)(a b:ByteArray):dO (yi op a b)=true\/yi op a b=Go.undef:=by cases op<;>first|exact .inl rfl|exact .inr rfl
theorem agT(op:BinOp)(x y:Value):dO (kA op x y)=true\/kA op x y=Go.undef:=by
  unfold kA;split
  · exact .inl (ajZ _ _ _ _)
  · exact ayB _ _ _
  · split
    · exact .inl rfl
    · exact .inl rfl
    · exact .inr rfl
theorem aeG(ab:bW u K v bq)(h:lD v=true):bq=v\/(∃a dD,v= .pointer (some a)/\bq= .pointer (some dD))\/(∃a dD l J,v= .slice (some a) l J/\bq= .slice (some dD) l J)\/
    (∃f xs cs ys ds,v= .func (.func f) xs cs/\bq= .func (.func f) ys ds)\/(∃a b,v= .map a/\bq= .map b)\/(∃a b,v= .agg a/\bq= .agg b)\/(∃a b,v= .tuple a/\bq= .tuple b)\/ ∃t a b,v= .iface t a/\bq= .iface t b:=by
  cases ab with
  |cv=>exact .inl rfl
  |cD=>exact .inr (.inl ⟨_,_,rfl,rfl⟩)
  |slice=>exact .inr (.inr (.inl ⟨_,_,_,_,rfl,rfl⟩))
  |oS=>simp[lD,jC]at h
  |map=>exact .inr (.inr (.inr (.inr (.inl ⟨_,_,rfl,rfl⟩))))
  |agg=>exact .inr (.inr (.inr (.inr (.inr (.inl ⟨_,_,rfl,rfl⟩)))))
  |tuple=>exact .inr (.inr (.inr (.inr (.inr (.inr (.inl ⟨_,_,rfl,rfl⟩))))))
  |func=>exact .inr (.inr (.inr (.inl ⟨_,_,_,_,_,rfl,rfl⟩)))
  |iface=>exact .inr (.inr (.inr (.inr (.inr (.inr (.inr ⟨_,_,_,rfl,rfl⟩))))))
  |hX e=>subst e;simp[lD]at h
  |hj e=>subst e;simp[lD]at h
  |eO e=>subst e;simp[lD]at h
theorem U4{x y:Value}{op:BinOp}{c:sj}(h:(eV x&&eV y)=false)(H:(kF x&&kF y)=false):qD op c x y=(match op with| .eql| .neq=>sv c x y|_=>false):=by
  unfold qD;split
  · simp[eV]at h
  · simp[kF]at H
  · rfl
theorem U5{x y:Value}{op:BinOp}(h:(eV x&&eV y)=false)(H:(kF x&&kF y)=false):kA op x y=(match op with| .eql=> .bool (nP x y)| .neq=> .bool (!nP x y)|_=>Go.undef):=by
  unfold kA;split
  · simp[eV]at h
  · simp[kF]at H
  · rfl
theorem acQ(ab:bW u K v bq)(h:lD v=true):eV bq=eV v/\kF bq=kF v:=by rcases aeG ab h with rfl|⟨a,dD,rfl,rfl⟩|⟨a,dD,l,J,rfl,rfl⟩|⟨f,xs,cs,ys,ds,rfl,rfl⟩|⟨a,b,rfl,rfl⟩|⟨a,b,rfl,rfl⟩|⟨a,b,rfl,rfl⟩|⟨t,a,b,rfl,rfl⟩<;>exact⟨rfl,rfl⟩
def Dk:Value->Value
  | .pointer (some _)=> .pointer (some ⟨0,0,none⟩)
  | .slice (some _) _ _=> .slice (some ⟨0,0,none⟩) 0 0
  | .func _ _ _=> .func (.func 0) #[] #[]
  | .map _=> .map none
  | .agg _=> .agg #[]
  | .tuple _=> .tuple #[]
  | .iface _ _=> .iface 0 .nilIface
  |v=>v
theorem VO(c:sj)(x y:Value):sv c (Dk x) (Dk y)=sv c x y:=by cases c<;>cases x<;>cases y<;>first|rfl|(cases‹Option Addr› <;>first|rfl|(cases‹Option Addr› <;>rfl))
theorem VP(x y:Value):nP (Dk x) (Dk y)=nP x y:=by cases x<;>cases y<;>first|rfl|(cases‹Option Addr› <;>first|rfl|(cases‹Option Addr› <;>rfl))
theorem Ni(ab:bW u K v bq)(h:lD v=true):Dk bq=Dk v:=by rcases aeG ab h with rfl|⟨a,dD,rfl,rfl⟩|⟨a,dD,l,J,rfl,rfl⟩|⟨f,xs,cs,ys,ds,rfl,rfl⟩|⟨a,b,rfl,rfl⟩|⟨a,b,rfl,rfl⟩|⟨a,b,rfl,rfl⟩|⟨t,a,b,rfl,rfl⟩<;>rfl
theorem VQ{x y hJ wz:Value}{c:sj}(G:bW u K x hJ)(ah:bW u K y wz)(D:lD x=true)(H:lD y=true)(h:sv c x y=true):sv c hJ wz=true/\nP hJ wz=nP x y:=by rw[<-VO,Ni G D,Ni ah H,VO,<-VP hJ wz,Ni G D,Ni ah H,VP];exact⟨h,rfl⟩
theorem agU{x y hJ wz:Value}{op:BinOp}{c:sj}(G:bW u K x hJ)(ah:bW u K y wz)(D:lD x=true)(H:lD y=true)(h:qD op c x y=true):qD op c hJ wz=true/\kA op hJ wz=kA op x y:=by
  obtain⟨km,bb⟩:=acQ G D;obtain⟨ln,dS⟩:=acQ ah H;by_cases ai:(eV x&&eV y)=true
  · simp only[aX]at ai;rw[pk G ai.1,pk ah ai.2];exact⟨h,rfl⟩
  · by_cases M:(kF x&&kF y)=true
    · simp only[aX]at M;rw[zS G M.1,zS ah M.2];exact⟨h,rfl⟩
    · simp only[Bool.not_eq_true]at ai M;rw[U4 ai M]at h;rw[U4 (by rw[km,ln];exact ai) (by rw[bb,dS];exact M),U5 ai M,U5 (by rw[km,ln];exact ai) (by rw[bb,dS];exact M)];cases op<;>simp only[jR]at h⊢
      · obtain⟨a,b⟩:=VQ G ah D H h;rw[b];exact⟨a,rfl⟩
      · obtain⟨a,b⟩:=VQ G ah D H h;rw[b];exact⟨a,rfl⟩
theorem adb: ∀{gz:List oZ} {bQ bs A6 D1:List Value},hU gz bQ bs=true->bj u K bQ A6->bj u K bs D1->A6=bQ/\D1=bs
  | [],[],[],A6,D1,_,D,H=>by have aL:A6=[]:=AR (by rw[<-D.1];rfl);have aU:D1=[]:=AR (by rw[<-H.1];rfl);exact⟨aL,aU⟩
  |k::gz,a::bQ,b::bs,[],_,_,D,_=>by simp[bj]at D
  |k::gz,a::bQ,b::bs,_::_,[],_,_,H=>by simp[bj]at H
  | k::gz,a::bQ,b::bs,dD::A6,ca::D1,h,D,H=>by simp only[hU,aX]at h;obtain⟨aL,aU⟩:=adb h.2 ⟨by simpa using D.1,λi x y G ah=>D.2 (i+1) x y (by simpa using G) (by simpa using ah)⟩ ⟨by simpa using H.1,λi x y G ah=>H.2 (i+1) x y (by simpa using G) (by simpa using ah)⟩;have az:=D.2 0 a dD rfl rfl;have hb:=H.2 0 b ca rfl rfl;have aa:=h.1;have cz:dD=a:=(by cases k<;>cases a<;>cases b<;>simp[wT]at aa<;>exact az.hB rfl);have gR:ca=b:=(by cases k<;>cases a<;>cases b<;>simp[wT]at aa<;>exact hb.hB rfl);rw[aL,aU,cz,gR];exact⟨rfl,rfl⟩
  |[],_::_,_,_,_,h,_,_=>by simp[hU]at h
  |[],[],_::_,_,_,h,_,_=>by simp[hU]at h
  |_::_,[],_,_,_,h,_,_=>by simp[hU]at h
  |_::_,_::_,[],_,_,h,_,_=>by simp[hU]at h
theorem adz(bE:gJ u K z aj)(fh:Bool): ∀(xs:List Operand) (dz:Value),xs.all cL=true->(xs.all λy=>eV (X z y))=true->eV dz=true->
    (xs.foldl (λdz y=>if fh then nB dz (X aj y)else nC dz (X aj y)) dz=xs.foldl (λdz y=>if fh then nB dz (X z y)else nC dz (X z y)) dz)/\eV (xs.foldl (λdz y=>if fh then nB dz (X z y)else nC dz (X z y)) dz)=true
  |[],dz,_,_,h=>⟨rfl,h⟩
  | y::xs,dz,az,ai,h=>by simp only[mK,aX]at az ai;have e:=pk (bE.X az.1) ai.1;simp only[wD,e];refine adz bE fh xs _ az.2 ai.2 ?_;have D:=ai.1;cases dz<;>simp[eV]at h;cases ah:X z y<;>simp[ah,eV]at D;split<;>rfl
theorem ahV(h:eV v=true):dO v=true:=by cases v<;>simp[eV]at h<;>rfl
def ad.SA:ad->Bool
  | .dm _| .lQ _| .fI _ _ _ _| .nm _| .jq _ _ _ _ _| .app _ _ _ _| .me _ _ _ _ _| .hg _ _| .m0| .store _ _ _| .lJ _ _ _ _| .dA _ _| .iw _ _| .kn _ _ _=>false
  |_=>true
theorem awv{k:ad}(h:k.SA=true){id iz:Nat}:k.my id z t=t/\k.gu iz aj m=m:=by cases k<;>first|exact⟨rfl,rfl⟩|cases h
theorem aww(M:dR K u t m)(bE:gJ u K z aj){k:ad}(bf:k.SA=true)(aD:vU k=true)(ao:k.hZ z t=true)(id iz:Nat):k.ok aj m=true/\bW u K (k.ia id z t) (k.val iz aj m):=by
  simp only[vU,aX]at aD;obtain⟨az,bL⟩:=aD;cases k with
  |m2 x=>simp[ad.gN]at az;exact⟨rfl,bE.X az⟩
  | oL c a b=>
    simp[ad.gN]at az;have e:=acP (bE.X az.1) ao;refine⟨by simp only[ad.ok,e];exact ao,?_⟩;simp only[ad.ia,ad.val,e];split
    · exact bE.X az.2.1
    · exact bE.X az.2.2
  | s8 x=>
    simp[ad.gN]at az;have ab:=bE.X az;refine⟨?_,ab⟩;simp only[ad.hZ,ad.ok]at ao⊢;generalize X z x=a at ab ao;generalize X aj x=dD at ab;cases ab with
    |cv=>exact ao
    |_=>rfl
  | eT J ps=>have mS: ∀p∈ps,cL p.2.2=true:= λp af=>eD.1 az _ (by simp only[ad.gN];exact List.mem_map_of_mem af);have aC:=bj.cv (u:=u) (K:=K) bL;exact⟨adZ bE rfl mS ao,(St bE aC mS).agg⟩
  | kp dc n x=>simp[ad.gN]at az;simp only[ad.hZ,aX]at ao;refine⟨?_,R1 M (bE.X az) ao.1 ao.2⟩;simp only[ad.ok,aX];exact⟨DR M (bE.X az) ao.1,ao.2⟩
  | eX op c x y=>simp[ad.gN]at az;simp only[ad.hZ,aX]at ao;obtain⟨D,H⟩:=agU (bE.X az.1) (bE.X az.2) ao.1.1 ao.1.2 ao.2;refine⟨D,?_⟩;simp only[ad.ia,ad.val,H];exact bW.Db (agT _ _ _)
  | vf jE gz x y=>simp[ad.gN]at az;simp only[ad.hZ,ad.ok,aX]at ao;have G:=bE.X az.1;have ah:=bE.X az.2;simp only[ad.ok,ad.ia,ad.val];cases fA:X z x<;>simp[fA,rS]at ao;cases E4:X z y<;>simp[E4]at ao;rw[fA]at G;rw[E4]at ah;obtain⟨xs,aL,iE⟩:=G.qV;obtain⟨ys,aU,iP⟩:=ah.qV;obtain⟨cz,gR⟩:=adb ao iE iP;simp only[aL,aU,O,cz,gR,rS,sf];exact⟨ao,.cv rfl⟩
  | qn op x=>
    simp[ad.gN]at az;have ab:=bE.X az;simp only[ad.hZ,ad.ok,ad.ia,ad.val]at ao⊢;cases fA:X z x with
    |int k n=>rw[fA]at ab ao;rw[ab.p6];exact⟨ao,by cases op<;>first|exact .cv rfl|exact bW.undef⟩
    |bool b=>rw[fA]at ab ao;rw[ab.p5];exact⟨ao,by cases op<;>first|exact .cv rfl|exact bW.undef⟩
    |_=>rw[fA]at ao;cases op<;>simp[wq]at ao
  | ru k x=>simp[ad.gN]at az;have e:=pk (bE.X az) ao;simp only[ad.ok,ad.ia,ad.val,e];exact⟨ao,.cv rfl⟩
  | Bd x=>simp[ad.gN]at az;have e:=zS (bE.X az) ao;simp only[ad.ok,ad.ia,ad.val,e];refine⟨ao,?_⟩;simp only[ad.hZ,ad.ok]at ao;cases G:X z x<;>simp[G,kF]at ao;exact .cv rfl
  | mg x=>
    simp[ad.gN]at az;have ab:=bE.X az;simp only[ad.hZ,aX]at ao;have aC:=I2 M ab ao.1;have e:fV m 1 (X aj x)=kX t 1 (X z x):=by
      apply List.ext_getElem
      · exact aC.1.symm
      · intro i D H;have aJ:=aC.2 i _ _ (dx H) (dx D);have aY:=eD.1 ao.2 _ (mI H);generalize(kX t 1 (X z x))[i]=a at aJ aY;cases a<;>simp[zT]at aY;exact aJ.p6
    simp only[ad.ok,ad.ia,ad.val,e,aX];exact⟨⟨HV M ab ao.1,ao.2⟩,.cv rfl⟩
  | AH x ct ai=>simp[ad.gN]at az;have p0: ∀o,ct=some o->cL o=true:= λo h=>az.2.1 o h;have tR: ∀o,ai=some o->cL o=true:= λo h=>az.2.2 o h;simp only[ad.hZ,ad.ok,aX,eM]at ao;obtain⟨⟨⟨⟨⟨D,H⟩,aq⟩,aF⟩,br⟩,cR⟩:=ao;have e:=zS (bE.X az.1) D;obtain⟨aL,aU⟩:=He bE p0 H 0;obtain⟨cz,gR⟩:=He bE tR aq (hY (X z x));simp only[ad.ok,ad.ia,ad.val,e,aL,aU,cz,gR,aX,eM];exact⟨⟨⟨⟨⟨⟨D,trivial⟩,trivial⟩,aF⟩,br⟩,cR⟩,.cv rfl⟩
  | nb J x ct ai=>
    simp[ad.gN]at az;have p0: ∀o,ct=some o->cL o=true:= λo h=>az.2.1 o h;have tR: ∀o,ai=some o->cL o=true:= λo h=>az.2.2 o h;simp only[ad.hZ,aX,eM]at ao;obtain⟨⟨⟨⟨⟨D,H⟩,aq⟩,aF⟩,br⟩,cR⟩:=ao;have ab:=bE.X az.1;have ve:=Mc ab;obtain⟨aL,aU⟩:=He bE p0 H 0;obtain⟨cz,gR⟩:=He bE tR aq (jD (X z x));simp only[ad.ok,ad.ia,ad.val,<-ve,aL,aU,cz,gR,aX,eM];refine⟨⟨⟨⟨⟨⟨HR ab D,trivial⟩,trivial⟩,aF⟩,br⟩,cR⟩,aeN ab D (by omega) ?_⟩;have:jD (X z x)=jP (X z x):=by
      have iY:=HR ab D;rw[ve,Nd ab];unfold mE at iY;split at iY
      · simp at iY;next bf=>rw[bf];simp[hY,gv]
      · next bf=>rw[bf];simp[hY,gv]
      · cases iY
    omega
  | uJ J x ct ai fh=>
    simp[ad.gN]at az;have p0: ∀o,ct=some o->cL o=true:= λo h=>az.2.2.2 o (by simp[h]);simp only[ad.hZ,aX,eM]at ao;obtain⟨⟨⟨⟨⟨⟨⟨D,H⟩,aq⟩,aF⟩,br⟩,cR⟩,fs⟩,hz⟩:=ao;have ab:=bE.X az.1;have ve:=Mc ab;obtain⟨aL,aU⟩:=He bE p0 H 0;have cz:=pk (bE.X az.2.1) aq;have gR:=pk (bE.X az.2.2.1) aF;simp only[ad.ok,ad.ia,ad.val,<-ve,aL,aU,cz,gR,aX,eM];refine⟨⟨⟨⟨⟨⟨⟨⟨HR ab D,trivial⟩,aq⟩,aF⟩,br⟩,cR⟩,fs⟩,hz⟩,aeN ab D (by omega) ?_⟩;have:jD (X z x)=jP (X z x):=by
      have iY:=HR ab D;rw[ve,Nd ab];unfold mE at iY;split at iY
      · simp at iY;next bf=>rw[bf];simp[hY,gv]
      · next bf=>rw[bf];simp[hY,gv]
      · cases iY
    omega
  | oR J n x=>
    simp[ad.gN]at az;have ab:=bE.X az;simp only[ad.hZ,ad.ok,aX]at ao;simp only[ad.ok,ad.ia,ad.val,aX];have mT:l2 (X z x)=false:=by cases G:X z x<;>simp[G,gk]at ao<;>rfl
    have bt:o6 t (X z x) (n*J)=true:=(by rw[o6,mT];exact ao.1);refine⟨⟨DR M ab bt,ao.2⟩,?_⟩;cases G:X z x<;>simp[G,gk]at ao
    next a=>
      cases a with
      |none=>simp at ao
      | some a=>rw[G]at ab;obtain⟨b,D,H,aq⟩:=ab.p7;rw[aq];simp only[DT];exact .slice D
  |rB off x=>simp[ad.gN]at az;exact⟨ad6 (bE.X az) ao,ad5 (bE.X az) ao off⟩
  | field dc off n x=>
    simp[ad.gN]at az;have ab:=bE.X az;simp only[ad.hZ,ad.ok,aX]at ao;simp only[ad.ok,ad.ia,ad.val,aX];cases G:X z x<;>simp[G,Ej]at ao;rw[G]at ab;obtain⟨ys,e,aC⟩:=ab.qV;have:=aC.1;simp at this;rw[e];refine⟨⟨by simp[Ej];omega,by simpa using ao.2⟩,?_⟩;simp only[Jj];split
    · exact((aC.drop _).take _).agg
    · next sD=>rename_i cs;have D:n=1:=(by simpa[sD]using ao.2);have ai:off<cs.toList.length:=(by simp;omega);obtain⟨y,ah,PA⟩:=aC.Y (dx ai);rw[oa,oa,dx ai,ah];exact PA
  | p3 J x i=>simp[ad.gN]at az;simp only[ad.hZ,aX,eM]at ao;obtain⟨⟨⟨D,H⟩,aq⟩,aF⟩:=ao;have ab:=bE.X az.1;have e:=pk (bE.X az.2) H;simp only[ad.ok,ad.ia,ad.val,e,<-Mc ab,aX,eM];exact⟨⟨⟨⟨HR ab D,H⟩,aq⟩,aF⟩,ayp ab D aq aF⟩
  | oz J n x i=>simp[ad.gN]at az;simp only[ad.hZ,aX,eM]at ao;obtain⟨⟨⟨D,H⟩,aq⟩,aF⟩:=ao;have ab:=bE.X az.1;have e:=pk (bE.X az.2) H;simp only[ad.ok,ad.ia,ad.val,e,aX,eM];exact⟨⟨⟨⟨ad6 ab D,H⟩,aq⟩,aF⟩,ad5 ab D _⟩
  | sM x i=>simp[ad.gN]at az;simp only[ad.hZ,ad.ok,aX,eM]at ao;obtain⟨⟨⟨D,H⟩,aq⟩,aF⟩:=ao;have e:=pk (bE.X az.2) H;have aL:=zS (bE.X az.1) D;simp only[ad.ok,ad.ia,ad.val,e,aL,aX,eM];exact⟨⟨⟨⟨D,H⟩,aq⟩,aF⟩,.cv rfl⟩
  | ext i x=>simp[ad.gN]at az;have ab:=bE.X az;simp only[ad.hZ,ad.ok]at ao;simp only[ad.ok,ad.ia,ad.val];cases G:X z x<;>simp[G,Dn]at ao;rename_i ck;rw[G]at ab;obtain⟨ys,e,aC⟩:=ab.zo;have:=aC.1;simp at this;rw[e];have ai:i<ck.toList.length:=(by simpa using ao);obtain⟨y,ah,PA⟩:=aC.Y (dx ai);refine⟨by simp[Dn];omega,?_⟩;simp only[AK];rw[oa,oa,dx ai,ah];exact PA
  | rX x=>simp[ad.gN]at az;have aL:=zS (bE.X az) ao;simp only[ad.ok,ad.ia,ad.val,aL];exact⟨ao,.cv rfl⟩
  | rY x=>simp[ad.gN]at az;have ab:=bE.X az;refine⟨atY ab ao,?_⟩;simp only[ad.ia,ad.val,Mc ab];exact .cv rfl
  | wR x=>simp[ad.gN]at az;have ab:=bE.X az;simp only[ad.hZ,ad.ok]at ao⊢;rw[LW ao]at ab;rw[ab.hB rfl];exact⟨rfl,.cv rfl⟩
  | oF fh x xs=>simp[ad.gN]at az;simp only[ad.hZ,ad.ok,aX]at ao;have e:=pk (bE.X az.1) ao.1;have PJ:xs.all cL=true:=(by simpa using az.2);obtain⟨D,H⟩:=adz bE fh xs (X z x) PJ ao.2 ao.1;simp only[ad.ok,ad.ia,ad.val,e,D,aX];refine⟨⟨ao.1,?_⟩,.cv (ahV H)⟩;simp only[eD]at ao PJ⊢;intro y ah;rw[pk (bE.X (PJ y ah)) (ao.2 y ah)];exact ao.2 y ah
  | s3 fn first lT=>
    simp only[ad.hZ]at ao;simp only[ad.gN,sd,aX]at az;refine⟨rfl,?_⟩;simp only[ad.ia,ad.val];cases fn with
    | func f=>have D:=bE.wZ az.1;have H:=bE.wZ az.2;exact .func (by simpa using D.1) (by simpa using D.2) (by simpa using H.1) (by simpa using H.2)
    |_=>cases ao
  |xT pD x=>simp[ad.gN]at az;exact⟨rfl,.iface (bE.X az)⟩
  | Dm pD x=>simp[ad.gN]at az;have ab:=bE.X az;simp only[ad.hZ,ad.ok]at ao;simp only[ad.ok,ad.ia,ad.val];cases G:X z x<;>simp[G,E8]at ao;rw[G]at ab;obtain⟨y,e,D⟩:=ab.Fa;rw[e];exact⟨by simpa[E8]using ao,D⟩
  | m1 a5 J o x fB=>
    simp[ad.gN]at az;simp only[ad.hZ,ad.ok]at ao;simp only[ad.ok,ad.ia,ad.val];cases aw:jM t (X z x)with
    |none=>rw[aw]at ao;cases ao
    | some a9=>
      rw[aw]at ao;simp only at ao;obtain⟨c2,D,H⟩:=avp M (bE.X az.1) aw;obtain⟨aq,aF,br⟩:=ac6 H (bE.X az.2) ao;rw[D,aF];rw[aF]at aq;refine⟨aq,?_⟩;simp only[Option.bind_some];have BA:bW u K J J:= .cv bL;rcases adq (k:=X z fB) H br with⟨aL,aU⟩|⟨a,b,aL,aU,cz⟩
      · rw[aL,aU];split
        · exact(bj.cons BA (bj.cons (.cv rfl) bj.nil)).tuple
        · exact BA
      · rw[aL,aU];split
        · exact(bj.cons cz (bj.cons (.cv rfl) bj.nil)).tuple
        · exact cz
  |_=>cases bf
end
end Go.DI
