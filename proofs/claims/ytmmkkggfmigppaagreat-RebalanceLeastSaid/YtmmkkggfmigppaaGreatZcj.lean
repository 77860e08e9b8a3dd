/- A part of the proof. -/
import Derived.SizedLaws
import Derived.ChangeOld
import Derived.WideShapes
import Derived.OpenShut
import Derived.Test.YtmmkkggfmigppaaGreatZci
set_option linter.all false
set_option maxRecDepth 8000
set_option maxHeartbeats 16000000
namespace Go.DI
open Go Go.RowKit
inductive CX where
 |int (k:IntKind)
 |bool
 |str
 |slice (e:CX)
 |unit
 |EF (a b:CX)
abbrev CX.FO:CX->Type
 | .int _=>Int
 | .bool=>Bool
 | .str=>ByteArray
 | .slice e=>List e.FO
 | .unit=>Unit
 | .EF a b=>a.FO×b.FO
def CX.cells:CX->Nat
 | .unit=>0
 | .EF a b=>a.cells+b.cells
 |_=>1
def CX.EZ:CX->Nat
 | .int .u32=>4
 |_=>1
theorem CX.a3y(s:CX):1<=s.EZ:=by unfold CX.EZ;split<;>omega
variable{k n R f i o h4 iv:Nat}{C:V}{xs ys a b cs:List Value}{e:TypeId}{h:TypeId->CX->Bool}{s:CX}{v b3 x:Value}{args:Array Value}{ps:List MemPlace}{ts:List TypeId}{nR:List CX}{U:Type}{S es:List (Value×Value)}{l:List Operand}
theorem CX.aAX(s:CX)(h:n*s.EZ<=k):n<=k:=Dh (Nat.le_mul_of_pos_right n s.a3y) h
def CX.isAgg:CX->Bool
 | .unit| .EF _ _=>true
 |_=>false
def Jz(P:Program)(h:TypeId->CX->Bool):Nat->List Field->CX->Bool
 |_,[],.unit=>true
 |off,f::fs,.EF a b=>f.offset==off&&h f.type a&&P.cellsOf f.type==a.cells&&Jz P h (off+a.cells) fs b
 |_,_,_=>false
def Jg(h:CX->Bool)(z:Nat):Nat->CX->Bool
 |0,.unit=>true
 |n+1,.EF a b=>h a&&a.cells==z&&Jg h z n b
 |_,_=>false
def Oe(P:Program):Nat->TypeId->CX->Bool
 |0,_,_=>false
 | n+1,t,s=>match P.underlying t,s with
   |some (.int k),.int fC=>decide (k=fC)
   |some .bool,.bool=>true
   |some .string,.str=>true
   |some (.slice e),.slice a=>Oe P n e a&&P.cellsOf e==a.cells&&decide (0<a.cells)&&decide (a.EZ<=P.bytesOf e)
   |some (.struct fs),s=>s.isAgg&&P.cellsOf t==s.cells&&Jz P (Oe P n) 0 fs.toList s
   |some (.array k e),s=>s.isAgg&&P.cellsOf t==s.cells&&Jg (Oe P n e) (P.cellsOf e) k s
   |_,_=>false
abbrev Im{e:CX}(l:(CX.slice e).FO):List e.FO:=l
def Ju(m:V):(s:CX)->List Value->s.FO->Prop
 | .int k,cs,n=>cs=[.int k n]/\(Lit.int k n).wf=true
 | .bool,cs,b=>cs=[.bool b]
 | .str,cs,s=>cs=[.string s]/\s.size<=reachBytes
 | .slice e,cs,l=>(cs=[.slice none 0 0]/\Im l=[])\/ ∃(b:Nat) (b5:List (List Value)),cs=[.slice (some ⟨b,0,none⟩) (Im l).length e.cells]/\m.W b=some ⟨b5.flatten,false⟩/\(Im l).length*e.EZ<=reachBytes/\b5.length=(Im l).length/\(∀(i:Nat) (r:List Value) (d:e.FO),b5[i]?=some r->(Im l)[i]?=some d->Ju m e r d)
 | .unit,cs,_=>cs=[]
 | .EF a b,cs,d=> ∃c f,cs=c++f/\Ju m a c d.1/\Ju m b f d.2
theorem Ju.len{m:V}: ∀{s:CX} {cs:List Value} {d:s.FO},Ju m s cs d->cs.length=s.cells
 | .int _,_,_,h=>by rw[h.1];rfl
 | .bool,cs,d,h=>by have:cs=[.bool d]:=h;rw[this];rfl
 | .str,_,_,h=>by rw[h.1];rfl
 | .slice _,_,_,h=>by rcases h with⟨rfl,_⟩|⟨b,b5,rfl,_⟩<;>rfl
 | .unit,cs,_,h=>by have:cs=[]:=h;rw[this];rfl
 | .EF a b,_,_,h=>by obtain⟨f,g,rfl,c,e⟩:=h;simp[CX.cells,c.len,e.len]
theorem Ju.AG{m:V}(c: ∀b x,m.W b=some x->x.own=false->C.W b=some x): ∀{s:CX} {cs:List Value} {d:s.FO},Ju m s cs d->Ju C s cs d
 | .int _,_,_,h=>h
 | .bool,_,_,h=>h
 | .str,_,_,h=>h
 | .slice e,_,_,h=>by
   rcases h with h|⟨b,b5,f,g,j,k,l⟩
   ·exact .inl h
   ·exact .inr ⟨b,b5,f,c _ _ g rfl,j,k,λi r d n o=>(l i r d n o).AG c⟩
 | .unit,_,_,h=>h
 | .EF a b,_,_,h=>by obtain⟨p,q,t,f,g⟩:=h;exact⟨p,q,t,f.AG c,g.AG c⟩
def QA:(s:CX)->s.FO->Prop
 | .int k,n=>(Lit.int k n).wf=true
 | .bool,_=>True
 | .str,s=>s.size<=reachBytes
 | .slice e,l=>(Im l).length*e.EZ<=reachBytes/\ ∀x∈Im l,QA e x
 | .unit,_=>True
 | .EF a b,d=>QA a d.1/\QA b d.2
theorem Ju.ok{m:V}: ∀{s:CX} {cs:List Value} {d:s.FO},Ju m s cs d->QA s d
 | .int _,_,_,h=>h.2
 | .bool,_,_,_=>trivial
 | .str,_,_,h=>h.2
 | .slice e,_,l,h=>by
   rcases h with⟨_,h⟩|⟨b,b5,f,g,j,n,k⟩
   ·subst h;exact⟨by simp[Im],λx c=>by cases c⟩
   ·refine⟨j,λx c=> ?_⟩;obtain⟨i,o,rfl⟩:=EC c;exact(k i (b5[i]'(by omega)) _ (by simp) (by simp)).ok
 | .unit,_,_,_=>trivial
 | .EF a b,_,_,h=>by obtain⟨p,q,r,f,g⟩:=h;exact⟨f.ok,g.ok⟩
def nM(m:V)(s:CX)(v:Value)(d:s.FO):Prop:= ∃cs,Ju m s cs d/\v=if s.isAgg then .agg cs.toArray else cs.headD undef
inductive MU(m:V):List CX->List Value->Prop
 |nil:MU m [] []
 |cons {s:CX} {v:Value} {d:s.FO} {nR:List CX} {a:List Value} (h:nM m s v d) (b:MU m nR a):MU m (s::nR) (v::a)
variable {aJ:Nat} {B:Ren} {m:V} {w:World}
theorem BA.uv(a:BA aJ B m w)(K: ∀b x,m.W b=some x->x.own=false){l:Ou}(s:l.c<w.heap.size)(t:xs.length<=l.n)
 (u: ∀i v,xs[i]?=some v->G v=true/\ ∃b3,w.cell? ⟨l.c,l.o+i,none⟩=some b3/\B6 B v b3):
 BA aJ (DU B m.next l) ((m.AE 1).A0 m.next (some ⟨xs,false⟩)) w/\CZ B (DU B m.next l)/\(∀b x,m.W b=some x->((m.AE 1).A0 m.next (some ⟨xs,false⟩)).W b=some x)/\
  (∀b x,((m.AE 1).A0 m.next (some ⟨xs,false⟩)).W b=some x->x.own=false)/\((m.AE 1).A0 m.next (some ⟨xs,false⟩)).W m.next=some ⟨xs,false⟩:=by
 have y:B m.next=none:=by
  cases h:B m.next with
  |none=>rfl
  |some l=>have:=a.Fq _ _ h;omega
 have d:=Kt (l:=l) y;have z:((m.AE 1).A0 m.next (some ⟨xs,false⟩)).W m.next=some ⟨xs,false⟩:=AT (by simp)
 have A: ∀b x,m.W b=some x->((m.AE 1).A0 m.next (some ⟨xs,false⟩)).W b=some x:= λb x hb=>by
  grind [F,A3,AU]
 have C: ∀b x,((m.AE 1).A0 m.next (some ⟨xs,false⟩)).W b=some x->(b=m.next/\x=⟨xs,false⟩)\/m.W b=some x:= λb x hb=>by
  grind [A3,V.AU]
 have q: ∀b x,((m.AE 1).A0 m.next (some ⟨xs,false⟩)).W b=some x->x.own=false:= λb x hb=>by
  grind
 refine⟨⟨λb e hb=> ?_,λb e hb=> ?_,λb x hb=> ?_,λb x L M D N r f=> ?_,λb es hb=> ?_,λb es hb=> ?_,λb x D r f=>(by rw[q _ _ r]at f;cases f)⟩,d,A,q,z⟩
 ·unfold DU at hb;split at hb
  ·simp_all
  ·have:=a.Fq _ _ hb;simp;omega
 ·unfold DU at hb;split at hb
  ·cases hb;exact s
  ·exact a.G9 _ _ hb
 ·rcases C b x hb with⟨rfl,rfl⟩|h
  ·exact⟨l,by simp[DU],t,λi v g=>by obtain⟨j,b3,k,p⟩:=u i v g;exact⟨j,b3,k,p.AG d⟩,λh=>by cases h⟩
  ·obtain⟨e,E,H,I,J⟩:=a.G2 b x h;exact⟨e,d _ _ E,H,λi v g=>by obtain⟨j,b3,k,p⟩:=I i v g;exact⟨j,b3,k,p.AG d⟩,J⟩
 ·grind
 ·obtain⟨e,h⟩:=a.NC b es hb;exact⟨e,d _ _ h⟩
 ·grind [V.BL]
variable {T:Type} {enc:TypeId×Value->T} {P:Program} {fp:World}
theorem jl{P:Program}{d:DataW T}: ∀{l:List (DataW T)},d∈l->n∈d.weights P e->n∈DataW.weightsAll P e l
 |[],h,_=>by cases h
 | x::r,h,a=>by
   simp only[DataW.weightsAll,Cg];rcases CM.1 h with rfl|h
   ·exact .inl a
   ·exact .inr (jl h a)
structure jx(fp:World)(B:Ren)(m:V)(s:CX)(cs:List Value)(a:Ren)(C:V)(c:List Value)(d:s.FO):Prop where
 Gp:BA fp.heap.size a C fp
 PV:CZ B a
 Pg: ∀b x,m.W b=some x->C.W b=some x
 own: ∀b x,C.W b=some x->x.own=false
 Lq:Al a c cs
 Gd: ∀v∈c,G v=true
 RW:Ju C s c d
def Xp(fp:World)(cs:List Value):Prop:= ∀a len cap,.slice (some a) len cap∈cs->0<fp.heap.size
def dk(enc:TypeId×Value->T)(P:Program)(fp:World)(t:TypeId)(s:CX):Prop:=
 ∀R cs x,DataW.trod enc P fp 0 (λ_=>true) true R t cs=some x->(∀n∈x.1.weights P t,n<=reachBytes)->Xp fp cs-> ∀B m,BA fp.heap.size B m fp->(∀b x,m.W b=some x->x.own=false)-> ∃a C c d,jx fp B m s cs a C c d
theorem vN(o: ∀t s,h t s=true->dk enc P fp t s): ∀(fs:List Field) (s:CX) (off R:Nat) (cs:List Value),Jz P h off fs s=true->off+s.cells<=cs.length->
 (∀f∈fs,∃x,DataW.trod enc P fp 0 (λ_=>true) true R f.type ((cs.drop f.offset).take (P.cellsOf f.type))=some x/\ ∀n∈x.1.weights P f.type,n<=reachBytes)->Xp fp cs->
 ∀B m,BA fp.heap.size B m fp->(∀b x,m.W b=some x->x.own=false)-> ∃w C y d,jx fp B m s ((cs.drop off).take s.cells) w C y d
 |[],.unit,off,R,cs,c,p,i,j,B,m,k,l=>⟨B,m,[],(),k,CZ.refl B,λ_ _ h=>h,l,by simpa[CX.cells]using Al.nil B,by simp,rfl⟩
 | f::fs,.EF a b,off,R,cs,c,p,i,j,B,m,k,l=>by
   simp only[Jz,AB,beq_iff_eq]at c;obtain⟨⟨⟨rfl,z⟩,A⟩,D⟩:=c;simp only[CX.cells]at p⊢;obtain⟨x,q,E⟩:=i f (by simp);rw[A]at q;obtain⟨F,G,r,H,g⟩:=o _ _ z _ _ _ q E (λI len cap J=>j I len cap (RH (K2 J))) B m k l;obtain⟨K,L,u,M,e⟩:=vN o fs b (f.offset+a.cells) R cs D (by omega) (λN O=>i N (by simp[O])) j F G g.Gp g.own;refine⟨K,L,r++u,(H,M),e.Gp,g.PV.trans e.PV,λb x hb=>e.Pg _ _ (g.Pg _ _ hb),e.own,?_,?_,⟨r,u,rfl,g.RW.AG (λb x hb _=>e.Pg _ _ hb),e.RW⟩⟩
   ·rw[List.take_add,lG];exact(g.Lq.AG e.PV).Iu e.Lq
   ·intro v Q;rcases Cg.1 Q with h|h
    ·exact g.Gd v h
    ·exact e.Gd v h
 |[],.int _,_,_,_,c,_,_,_,_,_,_,_=>by simp[Jz]at c
 |[],.bool,_,_,_,c,_,_,_,_,_,_,_=>by simp[Jz]at c
 |[],.str,_,_,_,c,_,_,_,_,_,_,_=>by simp[Jz]at c
 |[],.slice _,_,_,_,c,_,_,_,_,_,_,_=>by simp[Jz]at c
 |[],.EF _ _,_,_,_,c,_,_,_,_,_,_,_=>by simp[Jz]at c
 |_::_,.int _,_,_,_,c,_,_,_,_,_,_,_=>by simp[Jz]at c
 |_::_,.bool,_,_,_,c,_,_,_,_,_,_,_=>by simp[Jz]at c
 |_::_,.str,_,_,_,c,_,_,_,_,_,_,_=>by simp[Jz]at c
 |_::_,.slice _,_,_,_,c,_,_,_,_,_,_,_=>by simp[Jz]at c
 |_::_,.unit,_,_,_,c,_,_,_,_,_,_,_=>by simp[Jz]at c
theorem pN{h:CX->Bool}{e:TypeId}{z:Nat}(q: ∀s,h s=true->dk enc P fp e s): ∀(n:Nat) (s:CX) (i R:Nat) (cs:List Value),Jg h z n s=true->i*z+s.cells<=cs.length->
 (∀j,i<=j->j<i+n-> ∃x,DataW.trod enc P fp 0 (λ_=>true) true R e ((cs.drop (j*z)).take z)=some x/\ ∀n∈x.1.weights P e,n<=reachBytes)->Xp fp cs->
 ∀B m,BA fp.heap.size B m fp->(∀b x,m.W b=some x->x.own=false)-> ∃y C A d,jx fp B m s ((cs.drop (i*z)).take s.cells) y C A d
 |0,.unit,i,R,cs,c,r,k,l,B,m,o,p=>⟨B,m,[],(),o,CZ.refl B,λ_ _ h=>h,p,by simpa[CX.cells]using Al.nil B,by simp,rfl⟩
 | n+1,.EF a b,i,R,cs,c,r,k,l,B,m,o,p=>by
   simp only[Jg,AB,beq_iff_eq]at c;obtain⟨⟨t,rfl⟩,D⟩:=c;simp only[CX.cells]at r⊢;obtain⟨x,E,F⟩:=k i (Ao _) (by omega);obtain⟨G,H,u,I,g⟩:=q _ t _ _ _ E F (λJ len cap K=>l J len cap (RH (K2 K))) B m o p;have L:(i+1)*a.cells=i*a.cells+a.cells:=(by rw[Hl];omega);obtain⟨M,N,w,O,f⟩:=pN q n b (i+1) R cs D (by omega) (λj t S=>k j (by omega) (by omega)) l G H g.Gp g.own;refine⟨M,N,u++w,(I,O),f.Gp,g.PV.trans f.PV,λb x hb=>f.Pg _ _ (g.Pg _ _ hb),f.own,?_,?_,⟨u,w,rfl,g.RW.AG (λb x hb _=>f.Pg _ _ hb),f.RW⟩⟩
   ·rw[List.take_add,lG,<-L];exact(g.Lq.AG f.PV).Iu f.Lq
   ·intro v Q;rcases Cg.1 Q with h|h
    ·exact g.Gd v h
    ·exact f.Gd v h
 |0,.int _,_,_,_,c,_,_,_,_,_,_,_=>by simp[Jg]at c
 |0,.bool,_,_,_,c,_,_,_,_,_,_,_=>by simp[Jg]at c
 |0,.str,_,_,_,c,_,_,_,_,_,_,_=>by simp[Jg]at c
 |0,.slice _,_,_,_,c,_,_,_,_,_,_,_=>by simp[Jg]at c
 |0,.EF _ _,_,_,_,c,_,_,_,_,_,_,_=>by simp[Jg]at c
 |_+1,.int _,_,_,_,c,_,_,_,_,_,_,_=>by simp[Jg]at c
 |_+1,.bool,_,_,_,c,_,_,_,_,_,_,_=>by simp[Jg]at c
 |_+1,.str,_,_,_,c,_,_,_,_,_,_,_=>by simp[Jg]at c
 |_+1,.slice _,_,_,_,c,_,_,_,_,_,_,_=>by simp[Jg]at c
 |_+1,.unit,_,_,_,c,_,_,_,_,_,_,_=>by simp[Jg]at c
theorem o2(t:dk enc P fp e s){a:Addr}(D:a.spot=none)(u:0<fp.heap.size): ∀(k:Nat),(∀i,i<k-> ∃cs x,fp.cells? 0 (a.add (i*s.cells)) s.cells=some cs/\DataW.trod enc P fp 0 (λ_=>true) true R e cs=some x/\ ∀n∈x.1.weights P e,n<=reachBytes)->
 ∀B m,BA fp.heap.size B m fp->(∀b x,m.W b=some x->x.own=false)->
 ∃ (l:Ren) (C:V) (b5:List (List Value)) (ds:List s.FO),BA fp.heap.size l C fp/\CZ B l/\(∀b x,m.W b=some x->C.W b=some x)/\(∀b x,C.W b=some x->x.own=false)/\b5.length=k/\ds.length=k/\(b5.flatten).length=k*s.cells/\
   (∀i v,b5.flatten[i]?=some v->G v=true/\ ∃b3,fp.cell? ⟨a.block,a.off+i,none⟩=some b3/\B6 l v b3)/\(∀(i:Nat) (r:List Value) (d:s.FO),b5[i]?=some r->ds[i]?=some d->Ju C s r d)
 |0,_,B,m,p,q=>⟨B,m,[],[],p,CZ.refl B,λ_ _ h=>h,q,rfl,rfl,by simp,by simp,by simp⟩
 | k+1,w,B,m,p,q=>by
   obtain⟨E,F,b5,ds,H,I,J,K,y,z,L,M,N⟩:=o2 t D u k (λi j=>w i (by omega)) B m p q;obtain⟨cs,x,O,Q,S⟩:=w k (by omega);obtain⟨_,A4,T⟩:=World.cells?_some O;obtain⟨U,X,A,d,o⟩:=t _ _ _ Q S (λ_ _ _ _=>u) E F H K;have A5:A.length=s.cells:=o.RW.len;refine⟨U,X,b5++[A],ds++[d],o.Gp,I.trans o.PV,λb x hb=>o.Pg _ _ (J _ _ hb),o.own,by simp[y],by simp[z],?_,?_,?_⟩
   ·grind
   ·intro i v f;rw[List.flatten_append,MY]at f;split at f
    ·obtain⟨Y,b3,Z,A0⟩:=M i v f;exact⟨Y,b3,Z,A0.AG o.PV⟩
    ·rename_i j;rw[L]at j f;simp only[HM,List.flatten_nil,NP]at f;refine⟨o.Gd v (B9 f),?_⟩;obtain⟨b3,A1,c⟩:=o.Lq.W f;have A2:i-k*s.cells<s.cells:=(by have:=(AX.1 f).1;omega);have:=T _ A2;rw[A1]at this;refine⟨b3,?_,c⟩;rw[<-this];congr 1;obtain⟨A6,A7,A8⟩:=a
     grind [Addr.add]
   ·intro i r A3 c g;rw[MY]at c g;rw[y]at c;rw[z]at g;split at c
    ·rename_i j;rw[if_pos j]at g;exact(N i r A3 c g).AG (λb x hb _=>o.Pg _ _ hb)
    ·rename_i j;rw[if_neg j]at g;have:i-k=0:=by
      grind
     rw[this]at c g;simp at c g;subst c;subst g;exact o.RW
theorem pT: ∀(n:Nat) (t:TypeId) (s:CX),Oe P n t s=true->dk enc P fp t s
 |0,_,_,h=>by cases h
 | n+1,t,s,h=>by
   have H:=pT n;intro R cs x u D I B m o p;unfold Oe at h;split at h
   ·rename_i k fC c;simp only[Ba]at h;subst h;obtain⟨v,rfl,rfl,Q⟩:=DataW.trod_int c u;exact⟨B,m,[.int k v],v,o,CZ.refl B,λ_ _ h=>h,p,Al.cons (.BT rfl) (Al.nil B),by simp[G],⟨rfl,Q⟩⟩
   ·rename_i c;obtain⟨b,rfl,rfl⟩:=DataW.trod_bool c u;exact⟨B,m,[.bool b],b,o,CZ.refl B,λ_ _ h=>h,p,Al.cons (.BT rfl) (Al.nil B),by simp[G],rfl⟩
   ·rename_i c;obtain⟨v,rfl,rfl,Q⟩:=DataW.trod_string c u;exact⟨B,m,[.string v],v,o,CZ.refl B,λ_ _ h=>h,p,Al.cons (.BT rfl) (Al.nil B),by simp[G],⟨rfl,by have:=D v.data.toList.length (by simp[DataW.weights]);simpa using this⟩⟩
   ·rename_i e g c;simp only[AB,beq_iff_eq,Ba]at h;obtain⟨⟨⟨w,z⟩,S⟩,A3⟩:=h;rcases DataW.trod_slice c u with⟨rfl,rfl⟩|⟨a,len,cap,J,T,A,_,rfl,rfl,_,U,A4,AW,A5,E,_⟩
    ·exact⟨B,m,[.slice none 0 0],[],o,CZ.refl B,λ_ _ h=>h,p,Al.cons (.BT rfl) (Al.nil B),by simp[G],.inl ⟨rfl,rfl⟩⟩
    ·have V:0<fp.heap.size:=I a len cap (by simp);have A6:len*g.EZ<=reachBytes:=by
      have AX:=D ((J.length+T.length)*P.bytesOf e) (by simp[DataW.weights,c]);have AY:len*g.EZ<=(J.length+T.length)*P.bytesOf e:=Nat.mul_le_mul (by omega) A3;omega
     have AZ: ∀y∈J,∀n∈y.1.weights P e,n<=reachBytes:= λy Aa n W=>D n (by
      grind [DataW.weights,jl,List.mem_map_of_mem])
     rw[z]at A5 E;have E:=E rfl

     have A7:0<cap->a.spot=none/\a.block<fp.heap.size:=by
      intro Ab;have: ∃cs,fp.cells? 0 a g.cells=some cs:=by
       by_cases C:0<len
       ·grind [Option.bind_eq_some_iff,Addr.add]
       ·have:=E.2 0 (by omega)
        grind [Option.bind_eq_some_iff,Addr.add]
      obtain⟨cs,X⟩:=this;refine⟨?_,World.cells?_block X S⟩;obtain⟨_,C,A8⟩:=World.cells?_some X;have q:=A8 0 S;obtain⟨Y,K⟩: ∃Y,cs[0]?=some Y:=⟨cs[0]'(by omega),by simp⟩;rw[K]at q;simp only[Addr.add,if_true]at q;unfold World.cell? at q;split at q
      ·simp_all
      ·cases q
     by_cases K:cap=0
     ·obtain rfl:len=0:=(by omega);subst K;obtain⟨L,M,F,N,O⟩:=o.uv p (xs:=[]) (l:=⟨0,0,0⟩) V (Ao _) (by simp);refine⟨_,_,[.slice (some ⟨m.next,0,none⟩) 0 g.cells],[],L,M,F,N,Al.cons (.slice (l:=⟨0,0,0⟩) (by simp[DU]) (.inl ⟨rfl,rfl⟩) (Ao _) (C0 _)) (Al.nil _),by simp[G],.inr ⟨m.next,[],rfl,O,by simp[Im],rfl,by simp⟩⟩
     ·obtain⟨A9,AD⟩:=A7 (by omega);have AE: ∀i,i<len-> ∃cs x,fp.cells? 0 (a.add (i*g.cells)) g.cells=some cs/\DataW.trod enc P fp 0 (λ_=>true) true A e cs=some x/\ ∀n∈x.1.weights P e,n<=reachBytes:=by
       grind [Option.bind_eq_some_iff]
      obtain⟨Ac,Z,b5,ds,AF,AH,AJ,AK,Ad,AL,AM,AN,AO⟩:=o2 (H _ _ w) A9 V len AE B m o p;have AP:len*g.cells<=cap*g.cells:=IF _ U;have A0:(Im ds).length=len:=AL;obtain⟨L,M,F,N,O⟩:=AF.uv AK (xs:=b5.flatten) (l:=⟨a.block,a.off,cap*g.cells⟩) AD (by rw[AM];exact AP) AN
      refine⟨_,_,[.slice (some ⟨Z.next,0,none⟩) len g.cells],ds,L,AH.trans M,λb x hb=>F _ _ (AJ _ _ hb),N,Al.cons (.slice (l:=⟨a.block,a.off,cap*g.cells⟩) (by simp[DU]) (.inr ⟨?_,by simp⟩) U A4) (Al.nil _),by simp[G],
       .inr ⟨Z.next,b5,by rw[A0],O,by rw[A0];exact A6,by omega,λi r d AQ AR=>(AO i r d AQ AR).AG (λb x hb _=>F _ _ hb)⟩⟩
      obtain⟨Ae,Af,Ag⟩:=a
      simp_all
   ·rename_i g fs c;simp only[AB,beq_iff_eq]at h;obtain⟨⟨q,w⟩,z⟩:=h;obtain⟨xs,A,_,rfl,C,AT,A1⟩:=DataW.trod_struct c u;have:=vN (λt s h=>H t s h) fs.toList _ 0 A cs z (by rw[C,w];omega) (λf AU=> ?_) I B m o p
    ·grind
    ·obtain⟨i,AV,rfl⟩:=EC AU;have A2:i<fs.size:=(by simpa using AV);have:=A1 i fs[i] (by simp[A2]);refine⟨xs[i]'(by omega),?_,λn W=>D n ?_⟩
     ·simp_all
     ·simp only[DataW.weights,c];exact DataW.weights_mem_each (j:=i) (t:=fs[i].type) (d:=xs[i].1) (by simp[A2]) (by simp[AS (show i<xs.length by omega)]) n (by simpa using W)
   ·rename_i g k e c;simp only[AB,beq_iff_eq]at h;obtain⟨⟨q,w⟩,z⟩:=h;obtain⟨xs,A,_,rfl,C,AT,A1⟩:=DataW.trod_array c u;have:=pN (λs h=>H e s h) k _ 0 A cs z (by rw[C,w];omega) (λj _ Ah=> ?_) I B m o p
    ·grind
    ·grind [DataW.weights,jl,List.mem_map_of_mem,List.getElem_mem]
   ·cases h
theorem aEe{aJ:Nat}{t:TypeId}(b:Value.okWide P fp .any aJ t v):Xp fp v.cells.toList:=by
 have l: ∀c a len cap,Cell.okWide P fp .any aJ c (.slice (some a) len cap)->0<fp.heap.size:=by
  intro c a len cap h;unfold Cell.okWide at h;split at h<;>try(rename_i d;cases d)
  unfold Cell.ok at h;split at h<;>rename_i d<;>try cases d
  ·obtain⟨_,_,_,_,bh,cells,m,_⟩:=h
   grind [World.shape?]
  ·cases h
 intro a len cap e;unfold Value.okWide at b;split at b
 ·obtain⟨cs,rfl,_,ts,_,_,f⟩:=b;obtain⟨i,g,j⟩:=EC e;obtain⟨c,_,k⟩:=f i (.slice (some a) len cap) (by
   grind [Value.cells])
  grind
 ·obtain⟨cs,rfl,_,ts,_,_,f⟩:=b;obtain⟨i,g,j⟩:=EC e;obtain⟨c,_,k⟩:=f i (.slice (some a) len cap) (by
   grind [Value.cells])
  grind
 ·cases v<;>simp[Value.cells]at e
  ·grind
  ·simp_all [Cell.okWide,Cell.ok]
theorem a0P{n:Nat}{t:TypeId}{s:CX}(j:Oe P n t s=true){aJ:Nat}{v:Value}{d:DataW T}{ps:List MemPlace}(p:Value.okWide P fp .any aJ t v)(z:DataW.Trod enc P fp 0 (λ_=>true) true t v d ps)(A: ∀n∈d.weights P t,n<=reachBytes)
 {B:Ren} {m:V} (D:BA fp.heap.size B m fp) (E: ∀b x,m.W b=some x->x.own=false):
 ∃g C y r,BA fp.heap.size g C fp/\CZ B g/\(∀b x,m.W b=some x->C.W b=some x)/\(∀b x,C.W b=some x->x.own=false)/\B6 g y v/\nM C s y r:=by
 obtain⟨R,F⟩:=z;obtain⟨g,C,f,r,o⟩:=pT n t s j R _ _ F A (aEe p) B m D E;refine⟨g,C,if s.isAgg then .agg f.toArray else f.headD undef,r,o.Gp,o.PV,o.Pg,o.own,?_,f,o.RW,rfl⟩;cases n with
 |zero=>cases j
 | succ n=>
   unfold Oe at j;have q: ∀w:Value,v.cells.toList=[w]->w=v->s.isAgg=false->B6 g (if s.isAgg then .agg f.toArray else f.headD undef) v:=by
    intro w G H u;rw[u];have i:=o.Lq;rw[G]at i;have I:=i.1;cases f with
    |nil=>simp at I
    |cons a f=>have:=i.2 0 a w rfl rfl;rw[H]at this;simpa using this
   have agg:(∃cs,v= .agg cs)->s.isAgg=true->B6 g (if s.isAgg then .agg f.toArray else f.headD undef) v:=(by rintro⟨cs,rfl⟩ u;rw[u];have i:=o.Lq;simp only[Value.cells]at i;have:=i.agg o.Gd;simpa using this);split at j
   ·rename_i k fC h;obtain⟨n,rfl⟩:=WideShapes.okWide_int h p;exact q _ rfl rfl rfl
   ·rename_i h;obtain⟨n,rfl⟩:=WideShapes.okWide_bool h p;exact q _ rfl rfl rfl
   ·rename_i h;obtain⟨n,rfl⟩:=WideShapes.okWide_string h p;exact q _ rfl rfl rfl
   ·rename_i e J h;obtain⟨a,l,c,rfl⟩:=WideShapes.okWide_slice h p;exact q _ rfl rfl rfl
   ·grind [WideShapes.okWide_struct]
   ·grind [Value.okWide]
   ·cases j
def SE(P:Program)(n:Nat):List TypeId->List CX->Bool
 |[],[]=>true
 |t::ts,s::nR=>Oe P n t s&&SE P n ts nR
 |_,_=>false
theorem pj{aJ:Nat}: ∀(ts:List TypeId) (nR:List CX) (f:List Value) (ds:List (DataW T)) (ps:List MemPlace),SE P n ts nR=true->(∀(j:Nat) t v,ts[j]?=some t->f[j]?=some v->Value.okWide P fp .any aJ t v)->
 DataW.TrodAll enc P fp 0 (λ_=>true) true ts f ds ps->(∀n∈DataW.weightsEach P ts ds,n<=reachBytes)-> ∀B m,BA fp.heap.size B m fp->(∀b x,m.W b=some x->x.own=false)->
 ∃i C g,BA fp.heap.size i C fp/\CZ B i/\(∀b x,m.W b=some x->C.W b=some x)/\Al i g f/\MU C nR g
 |[],[],[],[],_,_,_,_,_,B,m,k,r=>⟨B,m,[],k,CZ.refl B,λ_ _ h=>h,Al.nil B,.nil⟩
 | t::ts,s::nR,v::f,d::ds,ps,e,u,c,w,B,m,k,r=>by simp only[SE,AB]at e;obtain⟨p,q,A,D,rfl⟩:=c;obtain⟨E,F,G,U,H,I,J,K,L,l⟩:=a0P e.1 (u 0 t v rfl rfl) A (λn o=>w n (by simp only[DataW.weightsEach];exact Ho _ o)) k r;obtain⟨M,N,g,O,y,z,Q,R⟩:=pj ts nR f ds q e.2 (λj t v a b=>u (j+1) t v (by simpa using a) (by simpa using b)) D (λn o=>w n (by simp only[DataW.weightsEach];exact Gr _ o)) E F H K;obtain⟨cs,l,S⟩:=l;exact⟨M,N,G::g,O,I.trans y,λb x hb=>z _ _ (J _ _ hb),Al.cons (L.AG y) Q,.cons ⟨cs,l.AG (λb x hb _=>z _ _ hb),S⟩ R⟩
 |[],_::_,_,_,_,e,_,_,_,_,_,_,_=>by simp[SE]at e
 |_::_,[],_,_,_,e,_,_,_,_,_,_,_=>by simp[SE]at e
 |[],[],_::_,_,_,_,_,c,_,_,_,_,_=>by simp[DataW.TrodAll]at c
 |[],[],[],_::_,_,_,_,c,_,_,_,_,_=>by simp[DataW.TrodAll]at c
 |_::_,_::_,[],_,_,_,_,c,_,_,_,_,_=>by simp[DataW.TrodAll]at c
 |_::_,_::_,_::_,[],_,_,_,c,_,_,_,_,_=>by simp[DataW.TrodAll]at c
theorem ij(i:P.follows .mixedOrders=true){aJ:Nat}(l:SE P n ts nR=true){ds:List (DataW T)}
 (d: ∀(j:Nat) t v,ts[j]?=some t->args[j]?=some v->Value.okWide P fp .any aJ t v) (o:DataW.TrodAll enc P fp 0 (λ_=>true) true ts args.toList ds ps) (p: ∀n∈DataW.weightsEach P ts ds,n<=reachBytes)
 (h: ∀m c,MU m nR c->Aq P f c m λr _=>r= .bool true):
 Calls P f args fp λe g=>e= .returned (.bool true)/\Below fp.heap.size fp g:=by
 obtain⟨B,m,c,q,_,_,s,u⟩:=pj ts nR args.toList ds ps l (λj t v a b=>d j t v a (by simpa using b)) o p _ _ BA.empty (λb x h=>by unfold V.W at h;split at h<;>cases h);obtain⟨k,r,C,w,rfl⟩:=h m c u;have:=(rS i k fp.heap.size f c _ _ _ w).2.2.2.2 B fp args s q (Ao _);refine this.mono λe g y=> ?_;obtain⟨v,z,rfl,_,_,d,_,hb⟩:=y;exact⟨by rw[d.Jv],hb⟩
theorem X4{m:V}{b:Nat}(h:m.next<=b):m.W b=none:=by simp[V.W];omega
section
variable {U:Type} {m C:V} {v:Value} {l:List U}
theorem uL{b5:List (List Value)}{z:Nat}(a: ∀x∈b5,x.length=z): ∀{i:Nat} {y:List Value},b5[i]?=some y->(b5.flatten.drop (i*z)).take z=y:=by
 induction b5 with
 |nil=>intro i y h;simp at h
 | cons x b5 b=>
   intro i y h;have c:=a x (by simp);cases i with
   | zero=>
     simp_all
   | succ i=>
     grind [List.drop_drop,List.drop_left]
variable{z:Nat}
theorem JQ{b5:List (List Value)}(a: ∀x∈b5,x.length=z):b5.flatten.length=b5.length*z:=by
 induction b5 with
 |nil=>simp
 |cons x b5 b=>rw[HM,Ds,a x (by simp),b (λy c=>a y (by simp[c])),Df,Hl];omega
variable {p:V} {b5:List (List Value)}
theorem qL{cs:List Value}{z:Nat}: ∀(n o:Nat),o+n*z<=cs.length-> ∃b5:List (List Value),b5.length=n/\b5.flatten=(cs.drop o).take (n*z)/\ ∀i,i<n->b5[i]?=some ((cs.drop (o+i*z)).take z)
 |0,o,_=>⟨[],rfl,by simp,λi a=>by omega⟩
 | n+1,o,h=>by
   rw[Hl]at h;obtain⟨b5,b,c,d⟩:=qL (cs:=cs) (z:=z) n (o+z) (by omega);refine⟨(cs.drop o).take z::b5,by simp[b],?_,λi a=> ?_⟩
   ·grind [Nat.add_mul,List.drop_drop]
   ·cases i with
    |zero=>simp
    | succ i=>
      grind
end
def w2(r:List Value):Value:= .agg r.toArray
def tY:Value->List Value| .agg a=>a.toList|_=>[]
def M(b5:List (List Value))(z:Nat):Value:= .func (.yield 0) (b5.map w2).toArray #[.int .i64 z]
def BR(bh:List Value)(k:Nat):Value:= .func (.yield 1) bh.toArray #[.int .i64 k]
def hx:List Value->Nat|[.int _ n]=>n.toNat|_=>0
def DL:Value->Bool| .func (.yield n) _ _=>n==0|_=>false
def GW:Value->Bool| .func (.yield n) _ _=>n==1|_=>false
def Ec:Value->Bool| .func (.yield _) _ _=>true|_=>false
def Ot:Value->List (List Value)| .func _ a _=>a.toList.map tY|_=>[]
def Ku:Value->Nat| .func _ _ a=>hx a.toList|_=>0
def Rw:Value->List Value| .func _ a _=>a.toList|_=>[]
section
variable {b5 X:List (List Value)} {z Y k fC:Nat} {bh Z:List Value}
@[simp] theorem aOj:tY (w2 bh)=bh:=rfl
@[simp] theorem dd:DL (M b5 z)=true:=rfl
@[simp] theorem aPc:DL (BR bh k)=false:=rfl
@[simp] theorem aLO:GW (M b5 z)=false:=rfl
@[simp] theorem aE2:GW (BR bh k)=true:=rfl
@[simp] theorem aHc:Ec (M b5 z)=true:=rfl
@[simp] theorem aMH:Ec (BR bh k)=true:=rfl
@[simp] theorem ZO:Ot (M b5 z)=b5:=by simp[Ot,M,Function.comp_def]
@[simp] theorem aLG:Ku (M b5 z)=z:=by simp[Ku,M,hx]
@[simp] theorem tL:Rw (BR bh k)=bh:=rfl
@[simp] theorem uJ:Ku (BR bh k)=k:=by simp[Ku,BR,hx]
@[simp] theorem y7:M b5 z=M X Y↔b5=X/\z=Y:=
  ⟨λh=>⟨by have:=congrArg Ot h;simpa using this,by have:=congrArg Ku h;simpa using this⟩,λ⟨a,b⟩=>by rw[a,b]⟩
@[simp] theorem aPU:BR bh k=BR Z fC↔bh=Z/\k=fC:=
  ⟨λh=>⟨by have:=congrArg Rw h;simpa using this,by have:=congrArg Ku h;simpa using this⟩,λ⟨a,b⟩=>by rw[a,b]⟩
end
abbrev C5:=Nat->Option Nat
abbrev Ca:=Nat->Option (List Value)
abbrev EX:C5:= λ_=>none
inductive AW(u:Ca):C5->Value->Value->Prop
 |BT {J:C5} {v:Value} (h:BB v=true):AW u J v v
 |AA {J:C5} {o b off:Nat} (h:J o=some b):AW u J (.pointer (some ⟨o,off,none⟩)) (.pointer (some ⟨b,off,none⟩))
 |slice {J:C5} {o b off l z:Nat} {a:Option Nat} (h:J o=some b):AW u J (.slice (some ⟨o,off,a⟩) l z) (.slice (some ⟨b,off,a⟩) l z)
 |Qs {J:C5} {o z:Nat} {a:Option Nat} (c:a=none\/a=some 0):AW u J (.slice (some ⟨o,0,a⟩) 0 z) (.slice none 0 0)
 |map {J:C5} {o b:Nat} (h:J o=some b):AW u J (.map (some o)) (.map (some b))
 |agg {J:C5} {xs ys:Array Value} (c:xs.size=ys.size) (h: ∀(i:Nat) (x y:Value),xs[i]?=some x->ys[i]?=some y->AW u J x y):AW u J (.agg xs) (.agg ys)
 |tuple {J:C5} {xs ys:Array Value} (c:xs.size=ys.size) (h: ∀(i:Nat) (x y:Value),xs[i]?=some x->ys[i]?=some y->AW u J x y):AW u J (.tuple xs) (.tuple ys)
 | func {J:C5} {f:Nat} {xs ys cs ds:Array Value} (c:xs.size=ys.size) (h: ∀(i:Nat) (x y:Value),xs[i]?=some x->ys[i]?=some y->AW u J x y)
  (n:cs.size=ds.size) (p: ∀(i:Nat) (x y:Value),cs[i]?=some x->ds[i]?=some y->AW u J x y):AW u J (.func (.func f) xs cs) (.func (.func f) ys ds)
 |iface {J:C5} {t:TypeId} {v b3:Value} (h:AW u J v b3):AW u J (.iface t v) (.iface t b3)
 | Ql {J:C5} {v:Value} {b off z:Nat} {cs:List Value} {b5:List (List Value)} (e:v=M b5 z) (d:u b=some cs) (g:off+b5.length*z<=cs.length)
  (q: ∀(i:Nat) r,b5[i]?=some r->r.length=z) (m: ∀(i j:Nat) r x y,b5[i]?=some r->r[j]?=some x->cs[off+i*z+j]?=some y->AW u EX x y):AW u J v (.slice (some ⟨b,off,none⟩) b5.length z)
 |Oy {J:C5} {v:Value} {z:Nat} (e:v=M [] z):AW u J v (.slice none 0 0)
 | BR {J:C5} {v:Value} {b off k:Nat} {cs bh:List Value} (e:v=BR bh k) (d:u b=some cs) (g:off+bh.length<=cs.length)
  (m: ∀(j:Nat) x y,bh[j]?=some x->cs[off+j]?=some y->AW u EX x y):AW u J v (.pointer (some ⟨b,off+k,none⟩))
def CA(J L:C5):Prop:= ∀o b,J o=some b->L o=some b
def Cs(u Q:Ca):Prop:= ∀b cs,u b=some cs->Q b=some cs
theorem CA.refl(J:C5):CA J J:= λ_ _ h=>h
theorem CA.trans{a b c:C5}(h:CA a b)(d:CA b c):CA a c:= λx l e=>d x l (h x l e)
theorem CA.nil(J:C5):CA EX J:= λ_ _ h=>by cases h
theorem Cs.refl(u:Ca):Cs u u:= λ_ _ h=>h
theorem Cs.trans{a b c:Ca}(h:Cs a b)(d:Cs b c):Cs a c:= λx l e=>d x l (h x l e)
theorem AW.AG{u Q:Ca}{J L:C5}(h:AW u J v b3)(m:Cs u Q)(f:CA J L):AW Q L v b3:=by
 induction h generalizing L with
 |BT h=>exact .BT h
 |AA h=>exact .AA (f _ _ h)
 |slice h=>exact .slice (f _ _ h)
 |Qs g=>exact .Qs g
 |map h=>exact .map (f _ _ h)
 |agg g _ d=>exact .agg g λi x y a b=>d i x y a b f
 |tuple g _ d=>exact .tuple g λi x y a b=>d i x y a b f
 |func g _ n _ d o=>exact .func g (λi x y a b=>d i x y a b f) n λi x y a b=>o i x y a b f
 |iface _ d=>exact .iface (d f)
 |Ql e k l p q d=>exact .Ql e (m _ _ k) l p λi j r x y a b c=>d i j r x y a b c (CA.refl _)
 |Oy e=>exact .Oy e
 |BR e k l q d=>exact .BR e (m _ _ k) l λj x y a b=>d j x y a b (CA.refl _)
def AJ(u:Ca)(J:C5)(xs ys:List Value):Prop:=xs.length=ys.length/\ ∀(i:Nat) (x y:Value),xs[i]?=some x->ys[i]?=some y->AW u J x y
variable {u Q:Ca} {J L:C5}
theorem AJ.nil:AJ u J [] []:=⟨rfl,by intro i x y h;simp at h⟩
theorem AJ.cons{x y:Value}{xs ys:List Value}(h:AW u J x y)(d:AJ u J xs ys):AJ u J (x::xs) (y::ys):=by
 refine⟨by simp[d.1],λi a b c hb=> ?_⟩;cases i with
 |zero=>simp at c hb;subst c;subst hb;exact h
 |succ i=>exact d.2 i a b (by simpa using c) (by simpa using hb)
theorem AJ.AG(h:AJ u J xs ys)(a:Cs u Q)(b:CA J L):AJ Q L xs ys:=⟨h.1,λi x y c d=>(h.2 i x y c d).AG a b⟩
theorem AJ.agg(h:AJ u J xs ys):AW u J (.agg xs.toArray) (.agg ys.toArray):= .agg (by simpa using h.1) (by simpa using h.2)
theorem AJ.tuple(h:AJ u J xs ys):AW u J (.tuple xs.toArray) (.tuple ys.toArray):= .tuple (by simpa using h.1) (by simpa using h.2)
theorem AJ.Iu{c d:List Value}(h:AJ u J a b)(j:AJ u J c d):AJ u J (a++c) (b++d):=by
 refine⟨by simp[h.1,j.1],λi x y f e=> ?_⟩;rw[MY]at f e;rw[<-h.1]at e;split at f
 ·rename_i g;rw[if_pos g]at e;exact h.2 _ _ _ f e
 ·rename_i g;rw[if_neg g]at e;exact j.2 _ _ _ f e
theorem AJ.drop(h:AJ u J a b)(n:Nat):AJ u J (a.drop n) (b.drop n):=
 ⟨by simp[h.1],λi x y c d=>h.2 (n+i) x y (by simpa using c) (by simpa using d)⟩
theorem AJ.take(h:AJ u J a b)(n:Nat):AJ u J (a.take n) (b.take n):=by
 refine⟨by simp[h.1],λi x y c d=> ?_⟩;rw[QO]at c d;split at c
 ·rename_i e;rw[if_pos e]at d;exact h.2 _ _ _ c d
 ·cases c
theorem AJ.set(h:AJ u J a b)(n:Nat){y:Value}(f:AW u J x y):AJ u J (a.set n x) (b.set n y):=by
 refine⟨by simp[h.1],λi g v d c=> ?_⟩;rw[Ig]at d c;rw[<-h.1]at c;split at d
 ·simp_all
 ·rename_i e;rw[if_neg e]at c;exact h.2 _ _ _ d c
theorem AJ.C3: ∀{d e:List Value} {a b:List Value} (off:Nat),AJ u J a b->AJ u J d e->AJ u J (C3 a off d) (C3 b off e)
 |[],[],_,_,_,h,_=>h
 |[],f::e,_,_,_,_,c=>by simp[AJ]at c
 |v::d,[],_,_,_,_,c=>by simp[AJ]at c
 | v::d,f::e,a,b,off,h,c=>by simp only[Go.DI.C3];exact AJ.C3 (off+1) (h.set off (c.2 0 v f rfl rfl)) ⟨by simpa using c.1,λi x y g j=>c.2 (i+1) x y (by simpa using g) (by simpa using j)⟩
theorem AJ.W(h:AJ u J a b)(d:a[i]?=some x): ∃y,b[i]?=some y/\AW u J x y:=by have c:i<a.length:=(AX.1 d).1;rw[h.1]at c;exact⟨b[i],AS c,h.2 i x _ d (AS c)⟩
theorem AJ.Sd(f g:U->Value): ∀(l:List U),(∀x∈l,AW u J (f x) (g x))->AJ u J (l.map f) (l.map g)
 |[],_=>AJ.nil
 |x::l,h=>AJ.cons (h x (by simp)) (AJ.Sd f g l λy a=>h y (by simp[a]))
theorem AJ.BT(h:cs.all BB=true):AJ u J cs cs:=by refine⟨rfl,λi x y a b=> ?_⟩;rw[a]at b;cases b;exact .BT (BF.1 h x (B9 a))
theorem AJ.flatten(h:AJ u J cs cs):AJ u J (List.replicate k cs).flatten (List.replicate k cs).flatten:=by
 induction k with
 |zero=>exact AJ.nil
 |succ k a=>rw[Rv,HM];exact h.Iu a
theorem AW.Fp(h:Fp v=true):AW u J v v:=by
 unfold Go.DI.Fp at h;split at h
 ·rename_i cs;have:=AJ.agg (u:=u) (J:=J) (AJ.BT h);simpa using this
 ·rename_i cs;have:=AJ.tuple (u:=u) (J:=J) (AJ.BT h);simpa using this
 ·exact .BT h
theorem AW.undef:AW u J undef undef:=AJ.tuple AJ.nil
theorem AW.DH(h:AW u J v b3)(a:BB v=true):b3=v:=by
 cases h with
 |BT=>rfl
 |Ql e=>subst e;simp[BB,M]at a
 |Oy e=>subst e;simp[BB,M]at a
 |BR e=>subst e;simp[BB,DI.BR]at a
 |_=>simp[BB]at a
theorem AW.Hd{k:IntKind}{n:Int}(h:AW u J (.int k n) v):v= .int k n:=h.DH rfl
theorem AW.Jv{b:Bool}(h:AW u J (.bool b) v):v= .bool b:=h.DH rfl
theorem AW.NV{b:ByteArray}(h:AW u J (.string b) v):v= .string b:=h.DH rfl
theorem AW.Io{a:Addr}(h:AW u J (.pointer (some a)) v): ∃b,J a.block=some b/\a.spot=none/\v= .pointer (some ⟨b,a.off,none⟩):=by
 cases h with
 |BT h=>simp[BB]at h
 |AA h=>exact⟨_,h,rfl,rfl⟩
 |Ql e=>simp[M]at e
 |Oy e=>simp[M]at e
 |BR e=>simp[DI.BR]at e
theorem AW.Fk{a:Addr}{l z:Nat}(h:AW u J (.slice (some a) l z) v):(∃b,J a.block=some b/\True/\v= .slice (some ⟨b,a.off,a.spot⟩) l z)\/(a.off=0/\(a.spot=none\/a.spot=some 0)/\l=0/\v= .slice none 0 0):=by
 cases h with
 |BT h=>simp[BB]at h
 |slice h=>exact .inl ⟨_,h,trivial,rfl⟩
 |Qs c=>exact .inr ⟨rfl,c,rfl,rfl⟩
 |Ql e=>simp[M]at e
 |Oy e=>simp[M]at e
 |BR e=>simp[DI.BR]at e
theorem AW.K8{xs:Array Value}(h:AW u J (.agg xs) v): ∃ys,v= .agg ys/\AJ u J xs.toList ys.toList:=by
 cases h with
 |BT h=>simp[BB]at h
 |agg a h=>exact⟨_,rfl,by simpa using a,by simpa using h⟩
 |Ql e=>simp[M]at e
 |Oy e=>simp[M]at e
 |BR e=>simp[DI.BR]at e
theorem AW.S1{xs:Array Value}(h:AW u J (.tuple xs) v): ∃ys,v= .tuple ys/\AJ u J xs.toList ys.toList:=by
 cases h with
 |BT h=>simp[BB]at h
 |tuple a h=>exact⟨_,rfl,by simpa using a,by simpa using h⟩
 |Ql e=>simp[M]at e
 |Oy e=>simp[M]at e
 |BR e=>simp[DI.BR]at e
theorem AW.QU{xs cs:Array Value}(h:AW u J (.func (.func f) xs cs) v): ∃ys ds,v= .func (.func f) ys ds/\AJ u J xs.toList ys.toList/\AJ u J cs.toList ds.toList:=by
 cases h with
 |BT h=>simp[BB]at h
 |func a h b c=>exact⟨_,_,rfl,⟨by simpa using a,by simpa using h⟩,by simpa using b,by simpa using c⟩
 |Ql e=>simp[M]at e
 |Oy e=>simp[M]at e
 |BR e=>simp[DI.BR]at e
theorem AW.V8{t:TypeId}(h:AW u J (.iface t x) v): ∃y,v= .iface t y/\AW u J x y:=by
 cases h with
 |BT h=>simp[BB]at h
 |iface h=>exact⟨_,rfl,h⟩
 |Ql e=>simp[M]at e
 |Oy e=>simp[M]at e
 |BR e=>simp[DI.BR]at e
theorem AW.UI(h:AW u J (.map (some o)) v): ∃b,J o=some b/\v= .map (some b):=by
 cases h with
 |BT h=>simp[BB]at h
 |map h=>exact⟨_,h,rfl⟩
 |Ql e=>simp[M]at e
 |Oy e=>simp[M]at e
 |BR e=>simp[DI.BR]at e
theorem AW.pY{x v:Value}(h:AW u J x v)(a:GW x=true): ∃bh k b off cs,x=DI.BR bh k/\v= .pointer (some ⟨b,off+k,none⟩)/\u b=some cs/\off+bh.length<=cs.length/\
 (∀(j:Nat) x y,bh[j]?=some x->cs[off+j]?=some y->AW u EX x y):=by
 cases h with
 |BT h=>cases x<;>simp_all [BB,GW]
 |BR e c d f=>exact⟨_,_,_,_,_,e,rfl,c,d,f⟩
 |Ql e=>subst e;simp at a
 |Oy e=>subst e;simp at a
 |_=>simp[GW]at a
theorem AW.H{v b3:Value}(h:AW u J v b3):AJ u J (H v) (H b3):=by
 cases h with
 |agg f h=>exact⟨by simpa[DI.H]using f,by simpa[DI.H]using h⟩
 |BT h=>cases v<;>simp[BB]at h<;>exact AJ.cons (.BT (by simp[BB,h])) AJ.nil
 |AA h=>exact AJ.cons (.AA h) AJ.nil
 |slice h=>exact AJ.cons (.slice h) AJ.nil
 |Qs f=>exact AJ.cons (.Qs f) AJ.nil
 |tuple f h=>exact AJ.cons (.tuple f h) AJ.nil
 |func f h g i=>exact AJ.cons (.func f h g i) AJ.nil
 |iface h=>exact AJ.cons (.iface h) AJ.nil
 |map h=>exact AJ.cons (.map h) AJ.nil
 |Ql e a b c d=>subst e;exact AJ.cons (.Ql rfl a b c d) AJ.nil
 |Oy e=>subst e;exact AJ.cons (.Oy rfl) AJ.nil
 |BR e a b c=>subst e;exact AJ.cons (.BR rfl a b c) AJ.nil
theorem AW.E(h:AW u J v b3)(a:E v=true):E b3=true:=by cases h<;>first|rfl|assumption|(simp[DI.E]at a)
theorem AW.G(h:AW u J v b3)(a:G v=true):G b3=true:=by cases h<;>first|rfl|assumption|(simp[DI.G]at a)
def J6(m:V)(v:Value)(n:Nat):Bool:=if GW v then decide (Ku v+n<=(Rw v).length)else Bx m v n
def Nw(m:V)(a:Bool)(n:Nat)(v:Value):Value:=
 if GW v then(if a then .agg (((Rw v).drop (Ku v)).take n).toArray else(((Rw v).drop (Ku v)).take 1).headD undef)else DN m a n v
def IW(v:Value):Bool:=GW v||J4 v
def Mh(v:Value)(n:Nat):Value:=if GW v then BR (Rw v) (Ku v+n)else Ml v n
def Ov(v:Value):Bool:=DL v||Lo v
def Em(v:Value):Int:=if DL v then((Ot v).length:Nat)else De v
def Dz(v:Value):Nat:=if DL v then(Ot v).length else CQ v
def Eg(z:Nat)(v:Value):Bool:=if DL v then Ku v==z else Fj z v
def KN(v:Value)(z l h:Nat):Value:=if DL v then M (((Ot v).take h).drop l) z else IT v z l h
def N6(v:Value)(z:Nat)(i:Int):Value:=if DL v then BR ((Ot v).getD i.toNat []) 0 else Pb v z i
def FH(m:V)(z:Nat)(v:Value):Bool:=if DL v then Ku v==z else Bp m z v
def FA(m:V)(z:Nat)(v:Value):List Value:=if DL v then(Ot v).flatten else C7 m z v
def GM(v:Value):Bool:= !Ec v&&(match v with| .slice (some _) l _=>l !=0|_=>true)
def K.Dq(k:K)(A:A6)(m:V):Bool:=
 match k with
 | .E4 e n x=>J6 m (O A x) n&&(e||decide (n=1))
 | .Jw op c x y=>GM (O A x)&&GM (O A y)&&KP op c (O A x) (O A y)
 | .M6 x=>FH m 1 (O A x)&&(FA m 1 (O A x)).all QX
 | .N7 z x a b=>Eg z (O A x)&&HW A a&&HW A b&&decide (0<=Cq A a 0)&&decide (Cq A a 0<=Cq A b (Em (O A x)))&&decide (Cq A b (Em (O A x))<=Em (O A x))&& !(a.isNone&&KA b&&DL (O A x))
 | .S8 z x a b d=>Eg z (O A x)&&HW A a&&Bo (O A b)&&Bo (O A d)&&decide (0<=Cq A a 0)&&decide (Cq A a 0<=Bh (O A b))&&decide (Bh (O A b)<=Bh (O A d))&&decide (Bh (O A d)<=Em (O A x))
 | .GV _ x=>IW (O A x)
 | .HN z x i=>Eg z (O A x)&&Bo (O A i)&&decide (0<=Bh (O A i))&&decide (Bh (O A i)<Em (O A x))
 | .Qy _ len x i=>IW (O A x)&&Bo (O A i)&&decide (0<=Bh (O A i))&&decide (Bh (O A i)<(len:Int))
 | .NR x=>Ov (O A x)
 | .app z bytes x y=>Bp m z (O A x)&&Dl m (O A x)&&FH m z (O A y)&&decide (0<z)&&decide ((CQ (O A x)+Dz (O A y))*bytes<=140737488355328)&&decide (CQ (O A x)+Dz (O A y)<=9223372036854775807)
 | .Q9 fn _ _=>(match fn with| .func _=>true|_=>false)
 |k=>k.ok A m
def K.E0(k:K)(id:Nat)(A:A6)(m:V):Value:=
 match k with
 | .E4 c n x=>Nw m c n (O A x)
 | .M6 x=> .string (toBytes (FA m 1 (O A x)))
 | .N7 z x a b=>if a.isNone&&KA b then M8 (O A x)else KN (O A x) z (Cq A a 0).toNat (Cq A b (Em (O A x))).toNat
 | .S8 z x a b _=>KN (O A x) z (Cq A a 0).toNat (Bh (O A b)).toNat
 | .GV off x=>Mh (O A x) off
 | .HN z x i=>N6 (O A x) z (Bh (O A i))
 | .Qy z _ x i=>Mh (O A x) ((Bh (O A i)).toNat*z)
 | .NR x=> .int .i64 (Em (O A x))
 | .app z _ x y=>if Dz (O A y)=0 then O A x else if Dn m z (O A x) (Dz (O A y))then SI (O A x) (Dz (O A y))else .slice (some ⟨id,0,none⟩) (CQ (O A x)+Dz (O A y)) z
 |k=>k.val id A m
def K.Gz(k:K)(id:Nat)(A:A6)(m:V):V:=
 match k with
 | .app z _ x y=>if Dz (O A y)=0 then m else if Dn m z (O A x) (Dz (O A y))then GA m z (O A x) (FA m z (O A y))else(Dx m (O A x)).A0 id (some ⟨C7 m z (O A x)++FA m z (O A y),true⟩)
 |k=>k.Cl id A m
def OX(m:V)(o:Nat):Bool:=match m.W o with|some x=>x.own|none=>false
def U7(m:V)(v:Value):Bool:=match I v with|some o=>OX m o|none=>true
def eV(m:V)(a b:Value):Bool:=
 if Ec a then !Ec b&&U7 m b else if Ec b then U7 m a else match I a,I b with
  |some a,some b=>a !=b
  |_,_=>true
def Du(A:A6)(m:V)(a:List (Operand×Operand)):Bool:=a.all λ(x,y)=>eV m (O A x) (O A y)
def OB(k:K):Bool:=k.D6.all An&&(match k with
 | .IX z| .PR z _| .HG _ _ z _| .IA _ _ z _ _| .KD _ _ z _ _| .Cm z _=>z.all BB
 | .Ll _ z _ _ _=>BB z
 |_=>true)
def Wm(o:Ap):Bool:=OB o.k&&o.Gc.all λp=>An p.1&&An p.2
def Gi:D->Bool
 | .FI ops=>ops.all Wm&&MK (ops.map (·.AO))&&ops.all λo=>decide (o.AO<ops.length)
 | .Ez a b=>Gi a&&Gi b
 | .Gh c a b=>An c&&Gi a&&Gi b
 | .block _ c=>Gi c
 | .loop c=>Gi c
 | .Ky _ _ _=>false
 |_=>true
def J2(u:Ca)(J:C5)(es S:List (Value×Value)):Prop:=es.length=S.length/\ ∀(i:Nat) e a,es[i]?=some e->S[i]?=some a->AW u J e.1 a.1/\AW u J e.2 a.2
theorem J2.AG{u Q:Ca}{J L:C5}(h:J2 u J es S)(c:Cs u Q)(d:CA J L):J2 Q L es S:=⟨h.1,λi e f a b=>⟨(h.2 i e f a b).1.AG c d,(h.2 i e f a b).2.AG c d⟩⟩
structure BI(J:C5)(u:Ca)(t m:V):Prop where
 Eh: ∀o x,t.W o=some x->(∃b cs w,J o=some b/\m.W b=some ⟨cs,w⟩/\(x.own=true->w=true)/\AJ u J x.cells cs)\/(J o=none/\x.cells=[])
 maps: ∀o es,t.BL o=some es-> ∃b S,J o=some b/\m.BL b=some S/\J2 u J es S
 Er: ∀o,J o=none->t.mp o=none
 inj: ∀o o' b,J o=some b->J o'=some b->o=o'
 B7: ∀o b,J o=some b->o<t.next/\b<m.next
 AZ: ∀b cs,u b=some cs->(∃w,m.W b=some ⟨cs,w⟩)/\ ∀o x,J o=some b->t.W o=some x->x.own=false
def fH(J:C5)(t:V)(b:Nat):Prop:= ∃o x,J o=some b/\t.W o=some x/\x.own=true
def Wv(J:C5)(t:V)(b:Nat):Prop:= ∃o x,J o=some b/\t.W o=some x
structure Be(h4 iv:Nat)(J:C5)(u:Ca)(t m:V)(L:C5)(Q:Ca)(a C:V):Prop where
 e:CA J L
 f:Cs u Q
 MR: ∀o b,L o=some b->J o=some b\/(h4<=o/\iv<=b)
 fn: ∀b cs,Q b=some cs->u b=some cs\/iv<=b\/Wv J t b
 Gm:t.next<=a.next
 Gt:m.next<=C.next
 DW: ∀b,b<iv-> ¬fH J t b->C.W b=m.W b
 To: ∀b,b<iv->fH L a b->fH J t b
 TZ: ∀b,b<iv->Wv L a b->Wv J t b
theorem Be.refl{J:C5}{u:Ca}{t m:V}:Be h4 iv J u t m J u t m:=
 ⟨CA.refl _,Cs.refl _,λ_ _ h=> .inl h,λ_ _ h=> .inl h,Ao _,Ao _,λ_ _ _=>rfl,λ_ _ h=>h,λ_ _ h=>h⟩
theorem Be.trans{J g i:C5}{u j k:Ca}{t l n m p q:V}(h:Be h4 iv J u t m g j l p)(a:Be h4 iv g j l p i k n q):Be h4 iv J u t m i k n q where
 e:=h.e.trans a.e
 f:=h.f.trans a.f
 MR o b hb:=(a.MR o b hb).elim (λc=>h.MR o b c) .inr
 fn b cs hb:=by
  rcases a.fn b cs hb with c|c|c
  ·exact h.fn b cs c
  ·exact .inr (.inl c)
  ·by_cases r:b<iv
   ·exact .inr (.inr (h.TZ b r c))
   ·omega
 Gm:=Dh h.Gm a.Gm
 Gt:=Dh h.Gt a.Gt
 DW b hb d:=by rw[a.DW b hb (λw=>d (h.To b hb w)),h.DW b hb d]
 To b hb d:=h.To b hb (a.To b hb d)
 TZ b hb d:=h.TZ b hb (a.TZ b hb d)
theorem Be.Kr{g i:Nat}{J L:C5}{u Q:Ca}{t j m:V}(h:Be h4 iv J u t m L Q j C)(k:g<=h4)(l:i<=iv):Be g i J u t m L Q j C where
 e:=h.e
 f:=h.f
 MR o b hb:=(h.MR o b hb).imp_right λ⟨a,b⟩=>⟨by omega,by omega⟩
 fn b cs hb:=by
  rcases h.fn b cs hb with d|d|d
  ·exact .inl d
  ·omega
  ·exact .inr (.inr d)
 Gm:=h.Gm
 Gt:=h.Gt
 DW b hb c:=h.DW b (by omega) c
 To b hb c:=h.To b (by omega) c
 TZ b hb c:=h.TZ b (by omega) c
def D5(u:Ca)(J:C5)(A N:A6):Prop:= ∀t,AW u J (A t) (N t)
variable {u Q:Ca} {J L:C5} {A N:A6} {t m:V}
theorem D5.AG(h:D5 u J A N)(a:Cs u Q)(b:CA J L):D5 Q L A N:= λt=>(h t).AG a b
theorem D5.O(h:D5 u J A N){x:Operand}(a:An x=true):AW u J (O A x) (O N x):=by
 cases x with
 |tmp t=>exact h t
 |const v=>exact AW.Fp a
 |func f=>exact .func rfl (by intro i x y h;simp at h) rfl (by intro i x y h;simp at h)
 |global g=>simp[An]at a
theorem D5.A0(h:D5 u J A N){d:Option Nat}{v b3:Value}(a:AW u J v b3):D5 u J (Af A d v) (Af N d b3):=by
 cases d with
 |none=>exact h
 | some d=>
   intro t;simp only[Af,FT];by_cases e:t=d
   ·simp_all
   ·simp only[e,if_false];exact h t
theorem D5.PI(h:D5 u J A N)(a:l.all An=true):AJ u J (l.map (Go.DI.O A)) (l.map (Go.DI.O N)):=
 AJ.Sd _ _ _ λx b=>h.O (BF.1 a x b)
theorem D5.init{a bs:List Value}(h:AJ u J a bs):D5 u J (Cp a) (Cp bs):= λt=>by
 simp only[Cp,Dv];cases b:a[t]? with
 | none=>rw[LF (by rw[<-h.1];exact List.getElem?_eq_none_iff.1 b)];exact AW.undef
 |some x=>obtain⟨y,c,d⟩:=h.W b;rw[c];exact d
theorem sz(h:AW u J v b3)(hb:Kv v=true):b3=v:=by cases v<;>simp[Kv]at hb;exact h.Jv
theorem Jf(h:AW u J v b3)(hb:Bo v=true):b3=v:=by cases v<;>simp[Bo]at hb;exact h.Hd
theorem TF(h:AW u J v b3)(hb:Fe v=true):b3=v:=by cases v<;>simp[Fe]at hb;exact h.NV
theorem jv(h:D5 u J A N)(g:Option (Nat×Bool)):Bf N g=Bf A g:=by
 cases g with
 |none=>rfl
 | some g=>
   obtain⟨j,b⟩:=g;have a:=h j;simp only[Bf];generalize A j=v at a;generalize N j=b3 at a;cases a with
   |BT h=>rfl
   |Ql e=>subst e;rfl
   |Oy e=>subst e;rfl
   |BR e=>subst e;rfl
   |_=>rfl
end Go.DI
