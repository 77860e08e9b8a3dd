/- A part of the proof. -/
import Derived.ChangeKeysEq
import Derived.Test.YtmmkkggfmigppaaGreatZda
set_option linter.all false
set_option maxRecDepth 20000
set_option maxHeartbeats 16000000
namespace Go.DI
open Go Go.RowKit
structure Pj where
 c:Nat
 o:Nat
 n:Nat
abbrev Ren:=Nat->Option Pj
inductive BD(u:Ren):Value->Value->Prop
 |BP {v:Value} (h:BJ v=true):BD u v v
 |AG {b off:Nat} {l:Pj} (h:u b=some l):BD u (.pointer (some ⟨b,off,none⟩)) (.pointer (some ⟨l.c,l.o+off,none⟩))
 | slice {b off len z cap:Nat} {a:Option Nat} {d:Addr} {l:Pj} (h:u b=some l) (f:(cap=0/\len=0)\/(d=⟨l.c,l.o+off,none⟩/\off+cap*z<=l.n)) (g:len<=cap) (j:cap<=maxLen) (k: ∀c,a=some c->c<=cap:=by intro _ h;cases h):
  BD u (.slice (some ⟨b,off,a⟩) len z) (.slice (some d) len cap)
 |agg {xs ys:Array Value} (e:xs.size=ys.size) (h: ∀(i:Nat) (x y:Value),xs[i]?=some x->ys[i]?=some y->BD u x y) (m: ∀x∈xs.toList,F x=true):BD u (.agg xs) (.agg ys)
 |tuple {xs ys:Array Value} (e:xs.size=ys.size) (h: ∀(i:Nat) (x y:Value),xs[i]?=some x->ys[i]?=some y->BD u x y):BD u (.tuple xs) (.tuple ys)
 | func {fn:Fn} {xs ys cs ds:Array Value} (e:xs.size=ys.size) (h: ∀(i:Nat) (x y:Value),xs[i]?=some x->ys[i]?=some y->BD u x y)
  (p:cs.size=ds.size) (q: ∀(i:Nat) (x y:Value),cs[i]?=some x->ds[i]?=some y->BD u x y):BD u (.func fn xs cs) (.func fn ys ds)
 |iface {t:TypeId} {v ca:Value} (h:BD u v ca):BD u (.iface t v) (.iface t ca)
 |map {b:Nat} {l:Pj} (h:u b=some l):BD u (.map (some b)) (.map (some l.c))
def CY(u K:Ren):Prop:= ∀b l,u b=some l->K b=some l
theorem CY.refl(u:Ren):CY u u:= λ_ _ h=>h
theorem CY.trans{a b c:Ren}(h:CY a b)(d:CY b c):CY a c:= λx l e=>d x l (h x l e)
variable{ca v aY z:Value}{u K:Ren}{ys:List Value}{xs cs ds C:Array Value}{i I c bx aH off cap l h:Nat}{A0:Type}{k:IntKind}{n:Int}{b O r VM gE:Bool}{s:ByteArray}{fn:Fn}{t e M d:TypeId}{A:A2}{L:List MapEntry}{es:List (Value×Value)}{m:X}{J:World}{x y:Operand}{op:BinOp}{B:TypeInfo}{f:Field}{fs:Array Field}{p:Option Addr}{Q bs:Array TypeId}{ae:Option Operand}{N:Addr}{ps:Array (Nat×Operand)}{G:List Iu}
theorem BD.AD(c:CY u K)(h:BD u v ca):BD K v ca:=by
 induction h with
 |BP h=>exact .BP h
 |AG h=>exact .AG (c _ _ h)
 |slice h d e f g=>exact .slice (c _ _ h) d e f g
 |agg b _ i a=>exact .agg b a i
 |tuple b _ a=>exact .tuple b a
 |func b _ j _ a k=>exact .func b a j k
 |iface _ a=>exact .iface a
 |map h=>exact .map (c _ _ h)
def Aw(u:Ren)(xs ys:List Value):Prop:=xs.length=ys.length/\ ∀(i:Nat) (x y:Value),xs[i]?=some x->ys[i]?=some y->BD u x y
theorem Aw.nil(u:Ren):Aw u [] []:=⟨rfl,by intro i x y h;simp at h⟩
theorem Aw.cons{u:Ren}{x y:Value}{xs ys:List Value}(h:BD u x y)(d:Aw u xs ys):Aw u (x::xs) (y::ys):=by
 refine⟨by simp[d.1],λi a b c hb=> ?_⟩;cases i with
 |zero=>simp at c hb;subst c;subst hb;exact h
 |succ i=>exact d.2 i a b (by simpa using c) (by simpa using hb)
theorem Aw.AD(a:CY u K){xs:List Value}(h:Aw u xs ys):Aw K xs ys:=⟨h.1,λi x y b c=>(h.2 i x y b c).AD a⟩
theorem Aw.agg{xs:List Value}(h:Aw u xs ys)(a: ∀x∈xs,F x=true):BD u (.agg xs.toArray) (.agg ys.toArray):= .agg (by simpa using h.1) (by simpa using h.2) (by simpa using a)
theorem Aw.tuple{xs:List Value}(h:Aw u xs ys):BD u (.tuple xs.toArray) (.tuple ys.toArray):= .tuple (by simpa using h.1) (by simpa using h.2)
theorem Aw.aKl{ys:Array Value}(h:BD u (.agg xs) (.agg ys)):Aw u xs.toList ys.toList:=by
 cases h with
 |BP h=>simp[BJ]at h
 |agg a h _=>exact⟨by simpa using a,by simpa using h⟩
theorem Aw.JU{a b c d:List Value}(h:Aw u a b)(g:Aw u c d):Aw u (a++c) (b++d):=by
 refine⟨by simp[h.1,g.1],λi x y f e=> ?_⟩;rw[Mk]at f e;rw[<-h.1]at e;split at f
 ·rename_i ae;rw[if_pos ae]at e;exact h.2 _ _ _ f e
 ·rename_i ae;rw[if_neg ae]at e;exact g.2 _ _ _ f e
theorem Aw.drop{a b:List Value}(h:Aw u a b)(n:Nat):Aw u (a.drop n) (b.drop n):=
 ⟨by simp[h.1],λi x y c d=>h.2 (n+i) x y (by simpa using c) (by simpa using d)⟩
theorem Aw.take{a b:List Value}(h:Aw u a b)(n:Nat):Aw u (a.take n) (b.take n):=by
 refine⟨by simp[h.1],λi x y c d=> ?_⟩;rw[PU]at c d;split at c
 ·rename_i ae;rw[if_pos ae]at d;exact h.2 _ _ _ c d
 ·cases c
theorem Aw.set{a b:List Value}(h:Aw u a b)(n:Nat){x y:Value}(e:BD u x y):Aw u (a.set n x) (b.set n y):=by
 refine⟨by simp[h.1],λi aY v d c=> ?_⟩;rw[Ih]at d c;rw[<-h.1]at c;split at d
 ·simp_all
 ·rename_i ae;rw[if_neg ae]at c;exact h.2 _ _ _ d c
theorem Aw.CV: ∀{C d:List Value} {a b:List Value} (off:Nat),Aw u a b->Aw u C d->Aw u (CV a off C) (CV b off d)
 |[],[],_,_,_,h,_=>h
 |[],aY::d,_,_,_,_,c=>by simp[Aw]at c
 |v::C,[],_,_,_,_,c=>by simp[Aw]at c
 | v::C,aY::d,a,b,off,h,c=>by simp only[Go.DI.CV];exact Aw.CV (off+1) (h.set off (c.2 0 v aY rfl rfl)) ⟨by simpa using c.1,λi x y e f=>c.2 (i+1) x y (by simpa using e) (by simpa using f)⟩
theorem Aw.Y{a b:List Value}(h:Aw u a b){x:Value}(c:a[i]?=some x): ∃y,b[i]?=some y/\BD u x y:=by have ae:i<a.length:=(Ae.1 c).1;rw[h.1]at ae;exact⟨b[i],AP ae,h.2 i x _ c (AP ae)⟩
theorem Aw.SI(f g:A0->Value): ∀(l:List A0),(∀x∈l,BD u (f x) (g x))->Aw u (l.map f) (l.map g)
 |[],_=>Aw.nil u
 |x::l,h=>Aw.cons (h x (by simp)) (Aw.SI f g l λy a=>h y (by simp[a]))
theorem Aw.BP(u:Ren){cs:List Value}(h:cs.all BJ=true):Aw u cs cs:=by refine⟨rfl,λi x y a b=> ?_⟩;rw[a]at b;cases b;exact .BP (BR.1 h x (B5 a))
theorem OF(h:BJ v=true):F v=true:=by cases v<;>simp_all [BJ,Go.DI.F]
theorem BD.G4(u:Ren)(h:G4 v=true):BD u v v:=by
 unfold Go.DI.G4 at h;split at h
 ·rename_i cs;have:=Aw.agg (Aw.BP u h) (λv a=>OF (BR.1 h v a));simpa using this
 ·rename_i cs;have:=Aw.tuple (Aw.BP u h);simpa using this
 ·exact .BP h
theorem BD.undef(u:Ren):BD u undef undef:=Aw.tuple (Aw.nil u)
theorem BD.F(h:BD u v ca):F ca=F v:=by cases h<;>simp[Go.DI.F]
theorem fR{u:Ren}{v ca:Value}(h:BD u v ca):Aw u (H v) ca.cells.toList:=by
 cases h with
 |agg a h _=>exact⟨by simpa[H,Value.cells]using a,by simpa[H,Value.cells]using h⟩
 | BP h=>cases v<;>simp[BJ]at h<;>exact Aw.cons (.BP (by simp[BJ,h])) (Aw.nil u)
 |AG h=>exact Aw.cons (.AG h) (Aw.nil u)
 |slice h b c d e=>exact Aw.cons (.slice h b c d e) (Aw.nil u)
 |tuple a h=>exact Aw.cons (.tuple a h) (Aw.nil u)
 |func a h f g=>exact Aw.cons (.func a h f g) (Aw.nil u)
 |iface h=>exact Aw.cons (.iface h) (Aw.nil u)
 |map h=>exact Aw.cons (.map h) (Aw.nil u)
theorem lL{u:Ren}{v ca:Value}(h:BD u v ca)(b:D v=true): ∀x∈H v,F x=true:=by
 intro x a;cases h with
 |agg c h d=>exact d x a
 |BP h=>cases v<;>simp[BJ,H]at h a<;>subst a<;>rfl
 |AG h=>simp[H]at a;subst a;rfl
 |slice h b e f g=>simp[H]at a;subst a;rfl
 |tuple c h=>simp[D]at b
 |func c h i j=>simp[H]at a;subst a;rfl
 |iface h=>simp[H]at a;subst a;rfl
 |map h=>simp[H]at a;subst a;rfl
theorem BD.a2U(h:BD u (.agg xs) v): ∀x∈xs.toList,Go.DI.F x=true:=by
 cases h with
 |BP h=>simp[BJ]at h
 |agg b h a=>exact a
theorem BD.Hp(h:BD u (.int k n) v):v= .int k n:=by cases h;rfl
theorem BD.Jk(h:BD u (.bool b) v):v= .bool b:=by cases h;rfl
theorem BD.O5(h:BD u (.string s) v):v= .string s:=by cases h;rfl
theorem BD.JW{a:Addr}(h:BD u (.pointer (some a)) v): ∃l,u a.block=some l/\a.spot=none/\v= .pointer (some ⟨l.c,l.o+a.off,none⟩):=by
 cases h with
 |BP h=>simp[BJ]at h
 |AG h=>exact⟨_,h,rfl,rfl⟩
theorem BD.Fl{a:Addr}{len z:Nat}(h:BD u (.slice (some a) len z) v):
 ∃l b cap,u a.block=some l/\(∀c,a.spot=some c->c<=cap)/\v= .slice (some b) len cap/\((cap=0/\len=0)\/(b=⟨l.c,l.o+a.off,none⟩/\a.off+cap*z<=l.n))/\len<=cap/\cap<=maxLen:=by
 cases h with
 |BP h=>simp[BJ]at h
 |slice h d e f g=>exact⟨_,_,_,h,g,rfl,d,e,f⟩
theorem BD.Ka(h:BD u (.agg xs) v): ∃ys,v= .agg ys/\Aw u xs.toList ys.toList:=by
 cases h with
 |BP h=>simp[BJ]at h
 |agg a h _=>exact⟨_,rfl,by simpa using a,by simpa using h⟩
theorem BD.Q9(h:BD u (.tuple xs) v): ∃ys,v= .tuple ys/\Aw u xs.toList ys.toList:=by
 cases h with
 |BP h=>simp[BJ]at h
 |tuple a h=>exact⟨_,rfl,by simpa using a,by simpa using h⟩
theorem BD.Py(h:BD u (.func fn xs cs) v): ∃ys ds,v= .func fn ys ds/\Aw u xs.toList ys.toList/\Aw u cs.toList ds.toList:=by
 cases h with
 |BP h=>simp[BJ]at h
 |func a h b c=>exact⟨_,_,rfl,⟨by simpa using a,by simpa using h⟩,by simpa using b,by simpa using c⟩
theorem BD.UA{x:Value}(h:BD u (.iface t x) v): ∃y,v= .iface t y/\BD u x y:=by
 cases h with
 |BP h=>simp[BJ]at h
 |iface h=>exact⟨_,rfl,h⟩
theorem BD.Te{b:Nat}(h:BD u (.map (some b)) v): ∃l,u b=some l/\v= .map (some l.c):=by
 cases h with
 |BP h=>simp[BJ]at h
 |map h=>exact⟨_,h,rfl⟩
theorem BD.DF(h:BD u v ca)(a:BJ v=true):ca=v:=by cases h<;>first|rfl|simp[BJ]at a
structure Cr(u:Ren)(I:Nat)(A:A2)(a:Act):Prop where
 size:a.tmps.size=I
 defers:a.defers=[]
 HG: ∀t,BD u (A t) (a.tmps.getD t undef)
theorem Cr.AD(b:CY u K){a:Act}(h:Cr u I A a):Cr K I A a:=⟨h.size,h.defers,λt=>(h.HG t).AD b⟩
theorem Cr.U{u:Ren}{I:Nat}{A:A2}{a:Act}(h:Cr u I A a){x:Operand}(b:Ay x=true):BD u (U A x) (a.eval x):=by
 cases x with
 |tmp t=>exact h.HG t
 |const v=>exact BD.G4 u b
 |func f=>exact .func rfl (by intro i x y h;simp at h) rfl (by intro i x y h;simp at h)
 |global g=>simp[Ay]at b
theorem Cr.A1{u:Ren}{I:Nat}{A:A2}{a:Act}(h:Cr u I A a){d:Option Nat}(b:d.all (λd=>decide (d<I))=true){v ca:Value}(c:BD u v ca):Cr u I (Ar A d v) (a.put d ca):=by
 cases d with
 |none=>exact h
 | some d=>
   have f:d<I:=(by simpa using b);refine⟨by simp[Act.put,h.size],h.defers,λt=> ?_⟩;simp only[Ar,Fg,Act.put];by_cases e:t=d
   ·subst e;have:t<a.tmps.size:=(by rw[h.size];exact f);simpa[this]using c
   ·have:=h.HG t
    simp_all [Ne.symm]
def NL(u:Ren)(es:List (Value×Value))(L:List MapEntry):Prop:=es.length=L.length/\ ∀(i:Nat) e a,es[i]?=some e->L[i]?=some a->G4 e.1=true/\a.key=e.1/\F e.2=true/\BD u e.2 a.val
theorem NL.AD(f:CY u K)(h:NL u es L):NL K es L:=
 ⟨h.1,λi e g j k=>by obtain⟨a,b,c,d⟩:=h.2 i e g j k;exact⟨a,b,c,d.AD f⟩⟩
theorem X.MK{b:Nat}(h:m.Bs b=some es):m.Y b=some ⟨[],true⟩/\m.mp b=some es:=by
 grind [X.Bs]
theorem X.Ec{b:Nat}(a:m.Y b=some ⟨[],true⟩)(c:m.mp b=some es):m.Bs b=some es:=by unfold X.Bs;rw[a];exact c
def Iq(w:World)(c:Nat):Prop:= ∀t k,w.shape? c=some (t,k)->w.frozen? ⟨c,k,none⟩=false
theorem Iq.TM{w:World}(h:Iq w c)(e:J.heap[c]?=w.heap[c]?):Iq J c:= λt k a=>by
 have b:J.shape? c=w.shape? c:=by simp only[World.shape?,e]
 have d:J.frozen? ⟨c,k,none⟩=w.frozen? ⟨c,k,none⟩:=by simp only[World.frozen?,e]
 rw[d];exact h t k (by rw[<-b];exact a)
theorem Iq.setCells{c:Nat}(b:Nat): ∀(C:List Value) (o:Nat) {w:World},Iq w c->Iq (w.setCells b o C) c
 |[],_,_,h=>h
 | v::C,o,w,h=>by
   rw[World.setCells];refine Iq.setCells b C _ ?_;intro t k a;have key:(w.setCell ⟨b,o,none⟩ v).heap[c]?=if b=c then(w.heap[c]?).map (λx=>match x with
    | .cells cs e f=> .cells (cs.setIfInBounds o v) e f
    |x=>x)else w.heap[c]?:=by
    simp only[World.setCell,Array.getElem?_modify];rfl
   by_cases e:b=c
   ·rw[if_pos e]at key;cases d:w.heap[c]? with
    |none=>rw[d]at key;simp[World.shape?,key]at a
    | some x=>
      rw[d]at key;cases x with
      | cells cs aY f=>
        have:=h aY cs.size (by simp only[World.shape?,d])
        grind [World.frozen?,World.shape?]
      |_=>simp[World.shape?,key]at a
   ·rw[if_neg e]at key;exact h.TM key t k a
theorem Iq.vr{w:World}{es:Array MapEntry}(h:w.heap[c]?=some (.map es bx)):Iq w c:= λt k a=>by simp[World.shape?,h]at a
theorem Iq.zW{w:World}{a:Nat×Nat}(h:w.heap[c]?=some (.cells ds e a))(b: ¬(a.1<=ds.size/\ds.size<a.2)):Iq w c:= λt k d=>by
 grind [World.shape?,World.frozen?]
structure BF(aH:Nat)(u:Ren)(m:X)(w:World):Prop where
 Gc: ∀b l,u b=some l->b<m.ac
 Gh: ∀b l,u b=some l->l.c<w.heap.size
 GK: ∀b x,m.Y b=some x-> ∃l,u b=some l/\x.cells.length<=l.n/\(∀i v,x.cells[i]?=some v->F v=true/\ ∃ca,w.cell? ⟨l.c,l.o+i,none⟩=some ca/\BD u v ca)/\
  (x.own=true->aH<=l.c/\ ∀i,i<l.n->(w.cell? ⟨l.c,l.o+i,none⟩).isSome=true/\w.frozen? ⟨l.c,l.o+i,none⟩=false)
 LQ: ∀b x a e l d,m.Y b=some x->x.own=true->m.Y a=some e->b≠a->u b=some l->u a=some d->l.c≠d.c
 NO: ∀b es,m.mp b=some es-> ∃l,u b=some l
 maps: ∀b es,m.Bs b=some es-> ∃l L f,u b=some l/\aH<=l.c/\w.heap[l.c]?=some (.map L f)/\NL u es L.toList
 Nw: ∀b x l,m.Y b=some x->x.own=true->u b=some l->Iq w l.c
theorem X.E{b:Nat}{x:CC}(h:m.Y b=some x):b<m.ac:=by
 grind [X.Y]
theorem X.GJ(m:X)(b a:Nat)(x:Option CC):(m.A1 b x).Y a=if a=b then(if b<m.ac then x else none)else m.Y a:=by
 unfold X.Y X.A1
 grind
theorem X.Ab(m:X)(k b:Nat):(m.AE k).Y b=m.Y b:=by
 unfold X.Y X.AE
 grind
theorem X.vV(m:X)(b:Nat)(x:Option CC):(m.A1 b x).ac=m.ac:=rfl
theorem X.Lv(m:X)(k:Nat):(m.AE k).ac=m.ac+k:=rfl
theorem BF.AE{w:World}(h:BF aH u m w)(k:Nat):BF aH u (m.AE k) w:=
 ⟨λb l hb=>GV (h.Gc b l hb) (by simp[X.Lv]),h.Gh,λb x a=>h.GK b x (by rwa [X.Ab]at a),
  λb x d e l f g i j=>h.LQ b x d e l f (by rwa [X.Ab]at g) i (by rwa [X.Ab]at j),
  h.NO,λb es hb=>by obtain⟨c,n⟩:=X.MK hb;rw[X.Ab]at c;exact h.maps b es (X.Ec c n),λb x l a=>h.Nw b x l (by rwa [X.Ab]at a)⟩
theorem BF.sr{w:World}(h:BF aH u m w)(c:J.heap=w.heap):BF aH u m J:=by
 have d: ∀a,J.cell? a=w.cell? a:= λa=>by simp[World.cell?,c]
 have e: ∀a,J.frozen? a=w.frozen? a:= λa=>by simp[World.frozen?,c]
 exact⟨h.Gc,by rw[c];exact h.Gh,λb x f=>by simpa only[d,e]using h.GK b x f,h.LQ,h.NO,λb es hb=>by rw[c];exact h.maps b es hb,λb x l g i j=>(h.Nw b x l g i j).TM (by rw[c])⟩
def EP(P:Program)(o:Oper)(a:Act)(w:World)(v:Value)(J:World):Prop:=
 (execOp a.eval o).run P w= .ok (.value v) J\/((execOp a.eval o).run P w= .ok .skip J/\v=undef)
variable {P:Program} {o:Oper} {a:Act} {w:World}
theorem a4h(b:o.op= .move x):EP P o a w (a.eval x) w:= .inl (by simp[execOp,b])
theorem a4K(b:o.op= .assign x):EP P o a w (a.eval x) w:= .inl (by simp[execOp,b])
theorem a1G{c:Operand}(d:o.op= .pick c x y)(e:a.eval c= .bool b):EP P o a w (if b then a.eval x else a.eval y) w:=
 .inl (by simp[execOp,d,e,asBool])
theorem a2X(b:o.op= .nilCheck x)(c:OQ (a.eval x)=true):EP P o a w (a.eval x) w:=by
 refine .inl ?_;simp only[execOp,b];generalize a.eval x=v at c;cases v<;>simp_all [OQ]
 ·rename_i p;cases p<;>simp_all
 ·rename_i fn _ _;cases fn<;>simp_all
theorem UK(b:o.op= .binOp op t x y M)(c:(eqGuard op t x y (a.eval x) (a.eval y)).run P w= .ok () w)
 (h:(binOp op t (a.eval x) (a.eval y)).run P w= .ok v w):EP P o a w v w:=
 .inl (by simp[execOp,b,c,h])
theorem yO{op:UnOp}(b:o.op= .unOp op t x)(c:NZ op (a.eval x)=true):EP P o a w (QU op (a.eval x)) w:=by refine .inl ?_;simp only[execOp,b];generalize a.eval x=v at c;cases op<;>cases v<;>simp_all [NZ,QU,Op.unary,Op.intArith]
theorem aBT(b:o.op= .extract x i)(c:a.eval x= .tuple C)(ae:i<C.size):EP P o a w (RH (a.eval x) i) w:=by refine .inl ?_;simp[execOp,b,c,Instr.extract,ae,RH]
theorem a5E{s:TypeId}{b c:IntKind}(e:o.op= .convert s d x)(f:P.underlying s=some (.int b))(g:P.underlying d=some (.int k))(h:a.eval x= .int c n):
 EP P o a w (.int k (k.wrap n)) w:=by
 refine .inl ?_;simp[execOp,e,h,convert,underlying,f,g,Conv.intToInt]
theorem a1z{s:TypeId}{b:ByteArray}(c:o.op= .convert s d x)(e:P.underlying s=some .string)(f:P.underlying d=some .string)(g:a.eval x= .string b):
 EP P o a w (.string b) w:=by
 refine .inl ?_;simp[execOp,c,g,convert,underlying,e,f]
theorem aDE{x y:Array Operand}(b:o.op= .makeFunc fn x y):EP P o a w (.func fn (x.map a.eval) (y.map a.eval)) w:=
 .inl (by simp[execOp,b,Instr.makeFunc])
theorem a15{s:TypeId}(b:o.op= .fieldAddr s x i)(d:P.underlying s=some (.struct fs))(e:fs[i]?=some f)
 (ae:P.info? f.type=some B) (g:0<B.size) (h:a.eval x= .pointer (some ⟨c,off,none⟩)):EP P o a w (.pointer (some ⟨c,off+f.offset,none⟩)) w:=by
 refine .inl ?_;have:B.size≠0:=by omega
 simp_all [execOp,Instr.fieldAt,underlying,Instr.sureAddr,fieldPlace,sizeOf,typeInfo,Addr.add]
theorem a2i{i:Operand}{len:Nat}(b:o.op= .indexAddr t x i)(d:P.underlying t=some (.slice e))
 (ae:P.info? e=some B) (f:a.eval x= .slice (some ⟨c,off,none⟩) len cap) (g:a.eval i= .int k n) (h:0<=n) (j:n<(len:Int)):
 EP P o a w (.pointer (some ⟨c,off+n.toNat*B.size,none⟩)) w:=by
 refine .inl ?_;simp[execOp,b,f,g,Instr.indexAt,asIntOf,underlying,d,sizeOf,typeInfo,ae,h,j,Addr.add]
theorem a3o{i:Operand}{len:Nat}(b:o.op= .indexAddr t x i)(d:P.underlying t=some (.array len e))
 (ae:P.info? e=some B) (f:a.eval x= .pointer (some ⟨c,off,none⟩)) (g:a.eval i= .int k n) (h:0<=n) (j:n<(len:Int)):
 EP P o a w (.pointer (some ⟨c,off+n.toNat*B.size,none⟩)) w:=by
 refine .inl ?_;simp[execOp,b,f,g,Instr.indexAt,asIntOf,underlying,d,sizeOf,typeInfo,ae,h,j,Addr.add,Instr.sureAddr]
theorem a0R{i:Operand}(c:o.op= .index t x i)(d:P.underlying t=some .string)
 (e:a.eval x= .string s) (f:a.eval i= .int k n) (g:0<=n) (h:n<(s.size:Int)):
 EP P o a w (.int .u8 ((s.data.toList.getD n.toNat 0).toNat:Nat)) w:=by
 refine .inl ?_;have b:n.toNat<s.size:=by omega
 have j:s[n.toNat]?=some (s.data.toList.getD n.toNat 0):=by rw[getElem?_pos s n.toNat b];have:n.toNat<s.data.size:=b;simp only[E1,Array.getElem?_toList,Array.getElem?_eq_getElem this,Jb];rfl
 simp_all [execOp,Instr.index,asIntOf,underlying]
theorem a3h{c:Call}(b:o.op= .call c)(d:c.callee= .builtin .len)(e:c.args.toList=[x])(f:c.argTypes.toList=[t])
 (g:P.underlying t=some .string) (h:a.eval x= .string s):EP P o a w (.int .i64 s.size) w:=by
 refine .inl ?_;have i:c.args= #[x]:=by rw[<-KX (xs:=c.args),e]
 have j:c.argTypes= #[t]:=by rw[<-KX (xs:=c.argTypes),f]
 simp[execOp,b,resolve,d,i,j,invoke,builtin,Builtin.len_,underlying,g,h,goInt]
theorem a54{c:Call}(b:o.op= .call c)(d:c.callee= .builtin .len)(f:c.args.toList=[x])(g:c.argTypes.toList=[t])
 (h:P.underlying t=some (.slice e)) (i:a.eval x= .slice p l cap):EP P o a w (.int .i64 l) w:=by
 refine .inl ?_;have j:c.args= #[x]:=by rw[<-KX (xs:=c.args),f]
 have k:c.argTypes= #[t]:=by rw[<-KX (xs:=c.argTypes),g]
 simp[execOp,b,resolve,d,j,k,invoke,builtin,Builtin.len_,underlying,h,i,goInt]
theorem a3l{c:Call}(b:o.op= .call c)(d:c.callee= .builtin .cap)(f:c.args.toList=[x])(g:c.argTypes.toList=[t])
 (h:P.underlying t=some (.slice e)) (i:a.eval x= .slice p l cap):EP P o a w (.int .i64 cap) w:=by
 refine .inl ?_;have j:c.args= #[x]:=by rw[<-KX (xs:=c.args),f]
 have k:c.argTypes= #[t]:=by rw[<-KX (xs:=c.argTypes),g]
 simp[execOp,b,resolve,d,j,k,invoke,builtin,Builtin.cap_,underlying,h,i,goInt]
variable {P:Program} {w:World}
theorem a82(d:Nat)(h:P.underlying t=some .bool)(a b:Bool):(Op.equalIn (d+1) t (.bool a) (.bool b)).run P w= .ok (a==b) w:=by simp[Op.equalIn,run_underlying h]
theorem aB0(d:Nat)(h:P.underlying t=some (.pointer e))(p q:Option Addr)(a:p=none\/q=none):(Op.equalIn (d+1) t (.pointer p) (.pointer q)).run P w= .ok (p.isNone&&q.isNone) w:=by
 rcases a with rfl|rfl
 ·simp[Op.equalIn,run_underlying h]
 ·cases p<;>simp[Op.equalIn,run_underlying h]
theorem aCF(d:Nat)(h:P.underlying t=some (.slice e))(p q:Option Addr)(l c a b:Nat)(f:p=none\/q=none):(Op.equalIn (d+1) t (.slice p l c) (.slice q a b)).run P w= .ok (p.isNone&&q.isNone) w:=by
 rcases f with rfl|rfl
 ·simp[Op.equalIn,run_underlying h]
 ·cases p<;>simp[Op.equalIn,run_underlying h]
theorem zK(d:Nat)(h:P.underlying t=some (.func Q bs O))(x y:Value)
 (e:(x= .nilFunc/\y= .nilFunc)\/(x= .nilFunc/\ ∃a b c,y= .func a b c)\/(y= .nilFunc/\ ∃a b c,x= .func a b c)):(Op.equalIn (d+1) t x y).run P w= .ok (J0 x&&J0 y) w:=by
 rcases e with⟨rfl,rfl⟩|⟨rfl,_,_,_,rfl⟩|⟨rfl,_,_,_,rfl⟩<;>simp[Op.equalIn,run_underlying h,J0]
theorem aCE(h:P.underlying t=some .bool)(a b:Bool):(Op.equal t (.bool a) (.bool b)).run P w= .ok (a==b) w:=a82 9999 h a b
theorem xK(h:P.underlying t=some (.pointer e))(p q:Option Addr)(a:p=none\/q=none):(Op.equal t (.pointer p) (.pointer q)).run P w= .ok (p.isNone&&q.isNone) w:=aB0 9999 h p q a
theorem uw(h:P.underlying t=some (.slice e))(p q:Option Addr)(l c a b:Nat)(d:p=none\/q=none):(Op.equal t (.slice p l c) (.slice q a b)).run P w= .ok (p.isNone&&q.isNone) w:=aCF 9999 h p q l c a b d
theorem h4(h:P.underlying t=some (.func Q bs O))(x y:Value)
 (d:(x= .nilFunc/\y= .nilFunc)\/(x= .nilFunc/\ ∃a b c,y= .func a b c)\/(y= .nilFunc/\ ∃a b c,x= .func a b c)):(Op.equal t x y).run P w= .ok (J0 x&&J0 y) w:=zK 9999 h x y d
theorem aCg(h:IN P t= .bool):P.underlying t=some .bool:=by
 grind [IN]
theorem q7(h:IN P t= .AG): ∃e,P.underlying t=some (.pointer e):=by
 grind [IN]
theorem ny(h:IN P t= .slice): ∃e,P.underlying t=some (.slice e):=by
 grind [IN]
theorem lN(h:IN P t= .fn): ∃a b c,P.underlying t=some (.func a b c):=by
 grind [IN]
theorem Xq(b:aY≠ .nilIface)(c:KA aY=false):(eqGuard op t x y aY v).run P w= .ok () w:=by
 unfold eqGuard;by_cases a:op= .eql\/op= .neq
 ·rcases a with rfl|rfl<;>simp<;>cases aY<;>simp_all [KA]
 ·cases op<;>simp_all
theorem a0n{c:IntKind}{a b:Int}(h:X1 op k c a b=true):(binOp op t (.int k a) (.int c b)).run P w= .ok (T6 op k a b) w:=by cases op<;>simp_all [X1,binOp,T6,Op.intArith,Op.intDiv,Op.intBits,Op.intCmp,Op.shift]<;>first|rfl|(intro d;omega)
theorem toList_beq(a b:ByteArray):(a.toList==b.toList)=decide (a=b):=by
 rw[Bool.eq_iff_iff];simp only[ByteArray.toList_eq,beq_iff_eq,BW];constructor
 ·intro h;cases a;cases b;simpa using h
 ·rintro rfl;rfl
theorem aCk{a b:ByteArray}(h:Vp op a b=true):(binOp op t (.string a) (.string b)).run P w= .ok (PA op a b) w:=by have e:=toList_beq a b;cases op<;>simp_all [Vp,binOp,PA,Op.stringOp];omega
theorem Ol(c:op= .eql\/op= .neq)(d:Bp aY=false)(e:Fp aY=false)(f:Pa aY=true->Bp v=false)(g:(∀k a b,aY≠ .complex k a b)/\ ∀k a,aY≠ .float k a)
 (h:(Op.equal t aY v).run P w= .ok r w):(binOp op t aY v).run P w= .ok (.bool (if op= .eql then r else !r)) w:=by
 rcases c with rfl|rfl<;>cases aY<;>simp_all [Bp,Fp,binOp]
theorem x6{k:Value}(d:op= .eql\/op= .neq)(n:MF (IN P t) aY v=true)(i:BD u aY k)(j:BD u v ca):
 (binOp op t k ca).run P w= .ok (Fs op aY v) w/\k≠ .nilIface/\KA k=false:=by
 unfold MF at n;split at n
 ·rename_i f;have:=i.Jk;subst this;have:=j.Jk;subst this;refine⟨?_,by simp,rfl⟩;rw[Ol d rfl rfl (by simp[Pa]) (by simp) (aCE (aCg f) _ _)];rcases d with rfl|rfl<;>simp[Fs,IE]
 ·rename_i p f;obtain⟨e,g⟩:=q7 f;have:=i.DF rfl;subst this;have m: ∃q,ca= .pointer q/\q.isNone=p.isNone:=by
   cases p with
   |none=>exact⟨none,j.DF rfl,rfl⟩
   |some a=>obtain⟨l,_,_,h⟩:=j.JW;exact⟨_,h,rfl⟩
  obtain⟨q,rfl,o⟩:=m;refine⟨?_,by simp,rfl⟩;rw[Ol d rfl rfl (by simp[Pa]) (by simp) (xK g _ _ (.inl rfl))];cases p<;>rcases d with rfl|rfl<;>simp_all [Fs,IE,J0]
 ·rename_i p _ f;obtain⟨e,g⟩:=q7 f;have:=j.DF rfl;subst this;have m: ∃q,k= .pointer q/\q.isNone=p.isNone:=by
   cases p with
   |none=>exact⟨none,i.DF rfl,rfl⟩
   |some a=>obtain⟨l,_,_,h⟩:=i.JW;exact⟨_,h,rfl⟩
  obtain⟨q,rfl,o⟩:=m;refine⟨?_,by simp,rfl⟩;rw[Ol d rfl rfl (by simp[Bp]) (by simp) (xK g _ _ (.inr rfl))];cases p<;>rcases d with rfl|rfl<;>simp_all [Fs,IE,J0]
 ·rename_i s x p y z f;obtain⟨e,g⟩:=ny f;have r:k= .slice none s x:=(by cases i with|BP h=>rfl);subst r;have m: ∃q l c,ca= .slice q l c/\q.isNone=p.isNone:=by
   cases p with
   |none=>cases j with|BP h=>exact⟨_,_,_,rfl,rfl⟩
   |some a=>obtain⟨l,A,cap,_,_,h,_⟩:=j.Fl;exact⟨_,_,_,h,rfl⟩
  obtain⟨q,l,c,rfl,o⟩:=m;refine⟨?_,by simp,rfl⟩;rw[Ol d rfl rfl (by simp[Pa]) (by simp) (uw g _ _ _ _ _ _ (.inl rfl))];cases p<;>rcases d with rfl|rfl<;>simp_all [Fs,IE,J0]
 ·rename_i p s x y z _ f;obtain⟨e,g⟩:=ny f;have m:ca= .slice none y z:=(by cases j with|BP h=>rfl);subst m;have r: ∃q l c,k= .slice q l c/\q.isNone=p.isNone:=by
   cases p with
   |none=>cases i with|BP h=>exact⟨_,_,_,rfl,rfl⟩
   |some a=>obtain⟨l,A,cap,_,_,h,_⟩:=i.Fl;exact⟨_,_,_,h,rfl⟩
  obtain⟨q,l,c,rfl,o⟩:=r;refine⟨?_,by simp,rfl⟩;rw[Ol d rfl rfl (by simp[Pa]) (by simp) (uw g _ _ _ _ _ _ (.inr rfl))];cases p<;>rcases d with rfl|rfl<;>simp_all [Fs,IE,J0]
 ·rename_i f;obtain⟨a,b,c,g⟩:=lN f;have:=i.DF rfl;subst this;have:=j.DF rfl;subst this;refine⟨?_,by simp,rfl⟩;rw[Ol d rfl rfl (by simp[Pa]) (by simp) (h4 g _ _ (.inl ⟨rfl,rfl⟩))];rcases d with rfl|rfl<;>simp[Fs,IE,J0]
 ·rename_i f;obtain⟨a,b,c,g⟩:=lN f;have:=i.DF rfl;subst this;obtain⟨ys,ds,rfl,_⟩:=j.Py;refine⟨?_,by simp,rfl⟩;rw[Ol d rfl rfl (by simp[Pa]) (by simp) (h4 g _ _ (.inr (.inl ⟨rfl,_,_,_,rfl⟩)))];rcases d with rfl|rfl<;>simp[Fs,IE,J0]
 ·rename_i f;obtain⟨a,b,c,g⟩:=lN f;have:=j.DF rfl;subst this;obtain⟨ys,ds,rfl,_⟩:=i.Py;refine⟨?_,by simp,rfl⟩;rw[Ol d rfl rfl (by simp[Pa]) (by simp) (h4 g _ _ (.inr (.inr ⟨rfl,_,_,_,rfl⟩)))];rcases d with rfl|rfl<;>simp[Fs,IE,J0]
 ·cases n
theorem a1y{o:Oper}{a:Act}{op:BinOp}{t M:TypeId}{x y:Operand}{u:Ren}{aY v:Value}(f:o.op= .binOp op t x y M)(d:BD u aY (a.eval x))(e:BD u v (a.eval y))
 (c:Kk op (IN P t) aY v=true): ∃ca,EP P o a w ca w/\BD u (Fs op aY v) ca:=by
 generalize b:a.eval x=z at d;generalize g:a.eval y=ca at e;cases aY with
 | int k n=>
   cases v<;>simp only[Kk]at c
   case int A p=>have:=d.Hp;subst this;have:=e.Hp;subst this;refine⟨T6 op k n p,UK f (Xq (by simp[b]) (by simp[b,KA])) (by rw[b,g];exact a0n c),?_⟩;simp only[Fs];exact .BP (by cases op<;>rfl)
   all_goals(cases op<;>first|cases c|(cases h:IN P t<;>simp[h,MF]at c))
 | string s=>
   cases v<;>simp only[Kk]at c
   case string q=>have:=d.O5;subst this;have:=e.O5;subst this;refine⟨PA op s q,UK f (Xq (by simp[b]) (by simp[b,KA])) (by rw[b,g];exact aCk c),?_⟩;simp only[Fs];exact .BP (by cases op<;>simp_all [PA,Vp,BJ])
   all_goals(cases op<;>first|cases c|(cases h:IN P t<;>simp[h,MF]at c))
 | _=>
   simp only[Kk]at c;have r:op= .eql\/op= .neq:=(by cases op<;>first|exact .inl rfl|exact .inr rfl|cases c);have m:=c;rcases r with rfl|rfl
   ·obtain⟨i,j,l⟩:=x6 (w:=w) (.inl rfl) m d e;exact⟨_,UK f (Xq (by rw[b];exact j) (by rw[b];exact l)) (by rw[b,g];exact i),.BP (by simp[Fs,BJ])⟩
   ·obtain⟨i,j,l⟩:=x6 (w:=w) (.inr rfl) m d e;exact⟨_,UK f (Xq (by rw[b];exact j) (by rw[b];exact l)) (by rw[b,g];exact i),.BP (by simp[Fs,BJ])⟩
variable {P:Program} {w:World} {o:Oper} {a:Act}
def Ny(x:Option Value)(a:Nat)(n:Nat):Prop:=(x=none/\n=a)\/ ∃(k:IntKind) (i:Int),x=some (.int k i)/\0<=i/\i.toNat=n
theorem Vx{i:Int}{y n:Nat}{c:BoundsCode}(a:0<=i)(b:i.toNat=n)(d:n<=y):(Instr.sliceBound (.int k i) y c).run P w= .ok n w:=by
 have:i<=(y:Int):=by omega
 simp[Instr.sliceBound,asIntOf,a,this,b]
theorem gY{len:Nat}{bc ae:Option Value}(a:Ny bc 0 l)(b:Ny ae len h)(c:l<=h)(d:h<=cap):
 (Instr.sliceBounds VM len cap bc ae none).run P w= .ok (l,h,cap) w:=by
 rcases a with⟨rfl,rfl⟩|⟨k,i,rfl,e,f⟩<;>rcases b with⟨rfl,rfl⟩|⟨m,eo,rfl,g,j⟩
 ·simp[Instr.sliceBounds]
 ·simp[Instr.sliceBounds,Vx g j d]
 ·simp[Instr.sliceBounds,Vx e f c]
 ·simp_all [Instr.sliceBounds,Vx]
theorem zt{b:Option Operand}(c:o.op= .slice t x b ae none)(d:P.underlying t=some .string)(e:a.eval x= .string s)
 (f:Ny (b.map a.eval) 0 l) (g:Ny (ae.map a.eval) s.size h) (i:l<=h) (j:h<=s.size):EP P o a w (.string (s.extract l h)) w:=by
 refine .inl ?_;simp[execOp,c,e,Instr.sliceAt,Instr.slice,run_underlying d,gY f g i j]
theorem y7{b:Option Operand}{len:Nat}(c:o.op= .slice t x b ae none)(d:P.underlying t=some (.slice e))(f:P.info? e=some B)
 (g:a.eval x= .slice p len cap) (i:Ny (b.map a.eval) 0 l) (j:Ny (ae.map a.eval) len h) (k:l<=h) (m:h<=cap):
 EP P o a w (.slice (if cap=l then p else p.map (·.add (l*B.size))) (h-l) (cap-l)) w:=by
 refine .inl ?_;simp[execOp,c,g,Instr.sliceAt,Instr.slice,run_underlying d,gY i j k m,sizeOf,typeInfo,f]
theorem aBu{n:Nat}(b:o.op= .slice t x none none none)(c:P.underlying t=some (.array n e))(d:P.info? e=some B)
 (f:a.eval x= .pointer (some N)):EP P o a w (.slice (some (if n=0 then N else N.add (0*B.size))) (n-0) (n-0)) w:=by
 refine .inl ?_;have hb:=gY (P:=P) (w:=w) (VM:=false) (len:=n) (cap:=n) (l:=0) (h:=n) (bc:=none) (ae:=none) (.inl ⟨rfl,rfl⟩) (.inl ⟨rfl,rfl⟩) (C8 _) (Aj _)
 simp_all [execOp,Instr.sliceAt,Instr.sureAddr,run_underlying,sizeOf,typeInfo]
theorem a3c{len m:Nat}{a:Option Value}{ae gE:Value}(b:Ny a 0 l)(c: ∃(k:IntKind) (i:Int),ae= .int k i/\0<=i/\i.toNat=h)(d: ∃(k:IntKind) (i:Int),gE= .int k i/\0<=i/\i.toNat=m)(e:l<=h)(f:h<=m)(g:m<=cap):
 (Instr.sliceBounds VM len cap a (some ae) (some gE)).run P w= .ok (l,h,m) w:=by
 obtain⟨j,eo,rfl,n,o⟩:=c;obtain⟨p,q,rfl,r,s⟩:=d;rcases b with⟨rfl,rfl⟩|⟨k,i,rfl,t,u⟩
 ·simp_all [Instr.sliceBounds,Vx]
 ·simp_all [Instr.sliceBounds,Vx]
theorem qG{ae gE:Operand}{b:Option Operand}{len:Nat}{m:Nat}(c:o.op= .slice t x b (some ae) (some gE))(d:P.underlying t=some (.slice e))(f:P.info? e=some B)
 (g:a.eval x= .slice p len cap) (j:Ny (b.map a.eval) 0 l) (n: ∃(k:IntKind) (i:Int),a.eval ae= .int k i/\0<=i/\i.toNat=h) (q: ∃(k:IntKind) (i:Int),a.eval gE= .int k i/\0<=i/\i.toNat=m) (r:l<=h) (s:h<=m) (u:m<=cap):
 EP P o a w (.slice (if m=l then p else p.map (·.add (l*B.size))) (h-l) (m-l)) w:=by
 refine .inl ?_;simp[execOp,c,g,Instr.sliceAt,Instr.slice,run_underlying d,a3c j n q r s u,sizeOf,typeInfo,f]
theorem Qb{u:Ren}{I:Nat}{A:A2}(g:Cr u I A a){x:Option Operand}(h:Sm x=true)(c:Hx A x=true)(d:Nat)(e:0<=Cm A x d):Ny (x.map a.eval) d (Cm A x d).toNat:=by
 cases x with
 |none=>exact .inl ⟨rfl,by simp[Cm]⟩
 | some x=>
   have f:=g.U (x:=x) h;simp only[Hx]at c;simp only[Cm]at e⊢;cases b:U A x<;>simp[b,Bp]at c;rw[b]at f;refine .inr ⟨_,_,by simp[f.Hp];exact⟨rfl,rfl⟩,?_,?_⟩
   ·simpa[b,Bk]using e
   ·simp[Bk]
theorem p0(off:Nat): ∀(C:List Value) (j:Nat) (cs:Array Value),((C.zipIdx j).foldl (λcs (c,j)=>cs.setIfInBounds (off+j) c) cs).toList=CV cs.toList (off+j) C
 |[],_,_=>rfl
 | v::C,j,cs=>by
   simp_all [CV,p0,Jr]
theorem a53(off:Nat)(v:Value)(cs:Array Value):(v.cells.zipIdx.foldl (λcs (c,j)=>cs.setIfInBounds (off+j) c) cs).toList=CV cs.toList off v.cells.toList:=by
 have:=p0 off v.cells.toList 0 cs
 grind [Array.toList_zipIdx]
theorem W2: ∀(C:List Value) (off:Nat) (cs:List Value),(CV cs off C).length=cs.length
 |[],_,_=>rfl
 |v::C,off,cs=>by simp only[CV];rw[W2 C];simp
theorem p5(p:Value->Prop): ∀(C:List Value) (off:Nat) (cs:List Value),(∀x∈cs,p x)->(∀x∈C,p x)-> ∀x∈CV cs off C,p x
 |[],_,_,h,_=>h
 | v::C,off,cs,h,b=>by
   simp only[CV];refine p5 p C _ _ (λx a=> ?_) (λx a=>b x (by simp[a]))
   grind
theorem bP(o:Cr u I A a)(h:Nat->Option (Nat×Nat)): ∀(ps:List (Nat×Operand)) (b:List (Nat×Nat×Operand)) (cs:List Value) (ds:Array Value),
 (ps.length=b.length/\ ∀(i:Nat) p q,ps[i]?=some p->b[i]?=some q->p.2=q.2.2/\Ay p.2=true/\h p.1=some (q.1,q.2.1))->
 Aw u cs ds.toList->(∀x∈cs,F x=true)->Ia cs A b=true-> ∃k:Array Value,Instr.fill h ds (ps.map λp=>(p.1,a.eval p.2))=some k/\Aw u (GS cs A b) k.toList/\(∀x∈GS cs A b,F x=true)
 |[],[],cs,ds,_,f,l,_=>⟨ds,rfl,f,l⟩
 |[],_::_,_,_,d,_,_,_=>by simp at d
 |_::_,[],_,_,d,_,_,_=>by simp at d
 | p::ps,(g,r,e)::b,cs,ds,d,f,l,m=>by
   obtain⟨s,v,w⟩:=d.2 0 p (g,r,e) rfl rfl;dsimp only at s w;simp only[Ia,F3,AF,BW]at m;have n:=o.U (x:=p.2) v;rw[s]at n;have t:=fR n;have E:(a.eval e).cells.size=r:=(by have:=t.1;simp only[Array.length_toList]at this;rw[<-this];exact m.1.1.2);have G:ds.size=cs.length:=(by have:=f.1;simp at this;exact this.symm);have z:Aw u (CV cs g (H (U A e))) ((a.eval e).cells.zipIdx.foldl (λcs (c,j)=>cs.setIfInBounds (g+j) c) ds).toList:=(by rw[a53];exact f.CV _ t);have B: ∀x∈CV cs g (H (U A e)),F x=true:=p5 (λx=>F x=true) _ _ _ l (lL n m.1.1.1);obtain⟨k,J,K,L⟩:=bP o h ps b _ _ ⟨by simpa using d.1,λi x y C D=>d.2 (i+1) x y (by simpa using C) (by simpa using D)⟩ z B (by
    grind [Ia,W2])
   grind [GS,Instr.fill]
theorem nK: ∀(ps:List (Nat×Operand)) (a:List (Nat×Nat×Operand)),V5 P fs ps=some a->
 ps.length=a.length/\ ∀(i:Nat) p q,ps[i]?=some p->a[i]?=some q->p.2=q.2.2/\Ay p.2=true/\ ∃f B,fs[p.1]?=some f/\P.info? f.type=some B/\q.1=f.offset/\q.2.1=B.size
 |[],a,h=>by simp[V5]at h;subst h;simp
 | (j,x)::ps,a,h=>by
   simp only[V5]at h;split at h
   ·rename_i f e;split at h
    ·rename_i n g b k;split at h
     ·rename_i l;cases h;obtain⟨m,o⟩:=nK ps g k;refine⟨by simp[m],λi p q c d=> ?_⟩;cases i with
      | zero=>
        simp at c d;subst c;subst d;unfold FZ at b;cases ae:P.info? f.type with
        |none=>simp[ae]at b
        |some B=>exact⟨rfl,l,f,B,e,ae,rfl,by simpa[ae]using b.symm⟩
      |succ i=>exact o i p q (by simpa using c) (by simpa using d)
     ·cases h
    ·cases h
   ·cases h
theorem kl{z:Nat}: ∀(ps:List (Nat×Operand)) (a:List (Nat×Nat×Operand)),R4 z ps=some a->
 ps.length=a.length/\ ∀(i:Nat) p q,ps[i]?=some p->a[i]?=some q->p.2=q.2.2/\Ay p.2=true/\q.1=p.1*z/\q.2.1=z
 |[],a,h=>by simp[R4]at h;subst h;simp
 | (j,x)::ps,a,h=>by
   simp only[R4]at h;split at h
   ·rename_i b c;split at h
    ·rename_i d;cases h;obtain⟨e,f⟩:=kl ps b c
     grind
    ·cases h
   ·cases h
theorem P0{z:List Value}(h:Iv P t=some z): ∃B a,P.info? t=some B/\B.zero=some a/\a.cells.toList=z/\z.all BJ=true/\z.length=B.size:=by
 grind [Iv]
theorem Km{n:Nat}(h:FZ P t=some n): ∃B,P.info? t=some B/\B.size=n:=by
 simp_all [FZ]
theorem dj(h:IP P t=some b):(isAgg t).run P w= .ok b w:=by
 unfold IP at h;unfold isAgg;split at h<;>first|cases h|skip
 ·rename_i a;simp[run_underlying a]
 ·rename_i a;simp[run_underlying a]
 ·simp_all [run_underlying]
theorem a4O(fs:List Field)(h:fs.all (λf=>(FZ P f.type).isSome)=true):
 ∃a:List (Nat×Nat),(fs.mapM (m:=Sem) λ(f:Field)=>do pure (f.offset,<-sizeOf f.type)).run P w= .ok a w/\ ∀i:Nat,a[i]?=(fs[i]?).bind λ(f:Field)=>(P.info? f.type).map λB=>(f.offset,B.size):=by
 induction fs with
 |nil=>exact⟨[],by simp,by simp⟩
 | cons f fs b=>
   simp only[F3,AF]at h;obtain⟨a,d,e⟩:=b h.2;obtain⟨n,c⟩:=dH.1 h.1;obtain⟨B,ae,_⟩:=Km c;refine⟨(f.offset,B.size)::a,?_,λi=> ?_⟩
   ·simp_all [sizeOf,typeInfo]
   ·grind
variable {P:Program} {w:World} {o:Oper} {a:Act}
theorem a2O{cells:Array Value}(d:o.op= .build t ps)(ae:P.info? t=some B)(e:B.zero=some z)
 (g:P.underlying t=some (.struct fs)) (c:fs.toList.all (λf=>(FZ P f.type).isSome)=true)
 (h: ∀b:Nat->Option (Nat×Nat),(∀i,b i=(fs[i]?).bind λ(f:Field)=>(P.info? f.type).map λB=>(f.offset,B.size))->Instr.fill b z.cells (ps.toList.map λp=>(p.1,a.eval p.2))=some cells):
 EP P o a w (.agg cells) w:=by
 refine .inl ?_;obtain⟨j,k,l⟩:=a4O (P:=P) (w:=w) fs.toList c
 simp_all [Array.mapM_eq_mapM_toList,execOp,Instr.build,run_underlying,zeroValue,typeInfo]
theorem a52(c:o.op= .field t x i)(d:P.underlying t=some (.struct fs))(e:fs[i]?=some f)
 (ae:P.info? f.type=some B) (hb:IP P f.type=some b) (g:a.eval x= .agg cs) (l:f.offset+B.size<=cs.size) (h:b=true\/B.size=1):
 EP P o a w (if b then .agg (cs.toList.drop f.offset|>.take B.size).toArray else cs.toList.getD f.offset undef) w:=by
 refine .inl ?_;have j:=dj (w:=w) hb;simp only[execOp,c,g,Instr.field,Sem.run_bind,run_underlying d,Result.andThen_ok,e,asAgg,Sem.run_pure,part,j];cases b
 ·have m:B.size=1:=(by simpa using h);have k:f.offset<cs.size:=(by omega);simp[k]
 ·simp only[if_true,Sem.run_bind,sizeOf,typeInfo,run_program,ae,Sem.run_pure,Result.andThen_ok];congr 3
  grind
theorem a8P{n:Nat}{cells:Array Value}{b:TypeInfo}(c:o.op= .build t ps)(ae:P.info? t=some B)(d:B.zero=some z)
 (f:P.underlying t=some (.array n e)) (g:P.info? e=some b)
 (h:Instr.fill (λi=>some (i*b.size,b.size)) z.cells (ps.toList.map λp=>(p.1,a.eval p.2))=some cells):EP P o a w (.agg cells) w:=by
 refine .inl ?_
 simp_all [execOp,Instr.build,run_underlying,zeroValue,sizeOf,typeInfo]
theorem uL(gE:Bool): ∀(xs:List Value) (a:Value),Bp a=true->(∀x∈xs,Bp x=true)->
 (xs.foldlM (m:=Sem) (if gE then Builtin.max2 else Builtin.min2) a).run P w= .ok (xs.foldl (λa y=>if gE then Ha a y else Hf a y) a) w
 |[],_,_,_=>by simp
 | x::xs,a,h,c=>by
   have d:((if gE then Builtin.max2 else Builtin.min2) a x).run P w= .ok (if gE then Ha a x else Hf a x) w:=(by have b:=c x (by simp);cases a<;>simp[Bp]at h;cases x<;>simp[Bp]at b;cases gE<;>simp[Builtin.max2,Builtin.min2,Ha,Hf]);have e:Bp (if gE then Ha a x else Hf a x)=true:=by have b:=c x (by simp);cases a<;>simp[Bp]at h;cases x<;>simp[Bp]at b;cases gE<;>simp[Ha,Hf,Bp]
   simp_all [uL]
theorem y0{c:Call}{xs:List Operand}(h:o.op= .call c)(i:c.callee= .builtin (if gE then .max else .min))(d:c.args.toList=x::xs)
 (e:Bp (a.eval x)=true) (f: ∀y∈xs,Bp (a.eval y)=true):EP P o a w (xs.foldl (λb y=>if gE then Ha b (a.eval y)else Hf b (a.eval y)) (a.eval x)) w:=by
 refine .inl ?_;have j:(c.args.map a.eval).toList=a.eval x::xs.map a.eval:=by simp[d]
 have g:=uL (P:=P) (w:=w) gE (xs.map a.eval) (a.eval x) e (by simpa using f);rw[List.foldl_map]at g;cases gE
 ·simp_all [execOp,resolve,invoke,builtin,Builtin.min_]
 ·simp_all [execOp,resolve,invoke,builtin,Builtin.max_]
theorem aR: ∀(a b:List Iu) (xs ys:List Value),Dn (a++b) xs ys=true->Dn a (xs.take a.length) (ys.take a.length)=true/\Dn b (xs.drop a.length) (ys.drop a.length)=true/\
 Fz xs ys=(Fz (xs.take a.length) (ys.take a.length)&&Fz (xs.drop a.length) (ys.drop a.length))
 |[],b,xs,ys,h=>by simpa[Dn,Fz]using h
 |k::a,b,[],ys,h=>by simp[Dn]at h
 |k::a,b,x::xs,[],h=>by simp[Dn]at h
 | k::a,b,x::xs,y::ys,h=>by
   simp only[Js,Dn,AF]at h;obtain⟨c,d,e⟩:=aR a b xs ys h.2
   grind [Dn,Fz]
theorem Xi: ∀(G:List Iu) (xs ys:List Value),Dn G xs ys=true->xs.length=G.length/\ys.length=G.length
 |[],[],[],_=>by simp
 |[],[],_::_,h=>by simp[Dn]at h
 |[],_::_,_,h=>by simp[Dn]at h
 |_::_,[],_,h=>by simp[Dn]at h
 |_::_,_::_,[],h=>by simp[Dn]at h
 | k::G,x::xs,y::ys,h=>by simp only[Dn,AF]at h;have:=Xi G xs ys h.2;simp[this]
def Lc(a:Bool)(xs:List Value):Value:=if a then .agg xs.toArray else xs.headD undef
theorem NI{xs:List Value}(h:xs.length=1): ∃x,xs=[x]:=by
 match xs,h with
 |[x],_=>exact⟨x,rfl⟩
theorem YM{n:Nat}{xs:List Value}(hb:IP P t=some b)(a:FZ P t=some n)(c:b=true\/n=1)(d:off+n<=xs.length):
 (part t xs.toArray off).run P w= .ok (Lc b ((xs.drop off).take n)) w:=by
 obtain⟨B,ae,rfl⟩:=Km a;simp only[part,Sem.run_bind,dj hb,Result.andThen_ok];cases b
 ·have e:B.size=1:=(by simpa using c);have f:off<xs.length:=by omega
  simp_all [Lc,List.take_one]
 ·simp_all [sizeOf,typeInfo,Lc]
theorem cY: ∀(d m:Nat) (t:TypeId) (G:List Iu) (xs ys:List Value),M8 P d t=some G->d<=m->Dn G xs ys=true->
 ∃b,IP P t=some b/\FZ P t=some G.length/\(b=true\/G.length=1)/\(Op.equalIn m t (Lc b xs) (Lc b ys)).run P w= .ok (Fz xs ys) w
 |0,_,_,_,_,_,h,_,_=>by simp[M8]at h
 |d+1,0,_,_,_,_,_,h,_=>by omega
 | d+1,m+1,t,G,xs,ys,h,A3,u=>by
   obtain⟨v,z⟩:=Xi G xs ys u;unfold M8 at h;split at h
   ·rename_i n c o;split at h<;>cases h;rename_i e;subst e;obtain⟨x,rfl⟩:=NI v;obtain⟨y,rfl⟩:=NI z;refine⟨false,by simp[IP,c],o,.inr rfl,?_⟩;cases x<;>cases y<;>simp[Dn,Og]at u
    grind [Lc,Fz,K6,run_equalIn_bool']
   ·rename_i k n c o;split at h<;>cases h;rename_i e;subst e;obtain⟨x,rfl⟩:=NI v;obtain⟨y,rfl⟩:=NI z;refine⟨false,by simp[IP,c],o,.inr rfl,?_⟩;cases x<;>cases y<;>simp[Dn,Og]at u
    grind [Lc,Fz,K6,run_equalIn_int]
   ·rename_i n c o;split at h<;>cases h;rename_i e;subst e;obtain⟨x,rfl⟩:=NI v;obtain⟨y,rfl⟩:=NI z;refine⟨false,by simp[IP,c],o,.inr rfl,?_⟩;cases x<;>cases y<;>simp[Dn,Og]at u
    grind [Lc,Fz,K6,run_equalIn_string,toList_beq]
   ·rename_i fs n c o;split at h
    ·rename_i A4 E;split at h
     ·rename_i q;cases h;simp only[AF,BW,JQ]at q;obtain⟨rfl,R⟩:=q;refine⟨true,by simp[IP,c],o,.inl rfl,?_⟩;simp only[Lc,if_true];have M:P.fieldsOf t=fs:=(by simp[Program.fieldsOf,c]);rw[run_equalIn_struct w m t _ _ (by rw[M];exact c) R,M]

      have key: ∀(A:List Field) (off:Nat) (F:List Iu),Vg (M8 P d) A off=some F->Dn F (xs.drop off) (ys.drop off)=true->
       (Op.eqFields m xs.toArray ys.toArray A).run P w= .ok (Fz (xs.drop off) (ys.drop off)) w:=by
       intro A;induction A with
       | nil=>intro off F g l;simp[Vg]at g;subst g;cases I:xs.drop off<;>cases J:ys.drop off<;>simp[I,J,Dn]at l;simp[Op.eqFields,Fz]
       | cons f A N=>
         intro off F g l;simp only[Vg]at g;split at g
         ·rename_i q;simp only[AF,bne_iff_ne,ne_eq,beq_iff_eq]at q;obtain⟨A5,A6⟩:=q;split at g
          ·rename_i a S;split at g
           ·rename_i T A7;split at g<;>cases g;rename_i U;obtain⟨C,H,K⟩:=aR a T _ _ l;obtain⟨b,s,p,D,V⟩:=cY d m f.type a _ _ S (by omega) C;have L:=(Xi _ _ _ l);simp only[List.length_drop,En]at L;have W:=YM (w:=w) (off:=off) (xs:=xs) s p D (by omega);have X:=YM (w:=w) (off:=off) (xs:=ys) s p D (by omega)
            grind [List.drop_drop,Op.eqFields,Sem.run_bind,Result.andThen_ok,Sem.run_pure]
           ·cases g
          ·cases g
         ·cases g
      grind
     ·cases h
    ·cases h
   ·
    rename_i k e n c o;split at h
    ·rename_i a E;split at h
     ·rename_i q;cases h;simp only[AF,BW]at q;obtain⟨rfl,U⟩:=q;have Y: ∀r:Nat,(List.replicate r a).flatten.length=r*a.length:=by
       simp_all
      refine⟨true,by simp[IP,c],by rw[o,Y],.inl rfl,?_⟩;simp only[Lc,if_true];by_cases Z:k=0
      ·subst Z;simp only[List.replicate_zero,List.flatten_nil]at u v z;have s:xs=[]:=Ii.1 v;have p:ys=[]:=Ii.1 z;subst s p;simp[Op.equalIn,run_underlying c,Fz,sizeOf,typeInfo];cases ae:P.info? e with
       | none=>

         exfalso;cases d with
         |zero=>simp[M8]at E
         | succ d=>
           grind [M8,FZ]
       |some i=>simp
      ·obtain⟨O,rfl⟩: ∃O,k=O+1:=⟨k-1,by omega⟩;have Q:=u;rw[QY,I2]at Q;obtain⟨C,_,_⟩:=aR a _ xs ys Q;obtain⟨A8,_,p,_,_⟩:=cY d m e a _ _ E (by omega) C;obtain⟨B,ae,A0⟩:=Km p;have A1:P.cellsOf e=a.length:=(by simp[Program.cellsOf,ae,A0]);rw[run_equalIn_array w m xs.toArray ys.toArray c ae,A1,List.range_eq_range']
       have key: ∀(r j:Nat),Dn (List.replicate r a).flatten (xs.drop (j*a.length)) (ys.drop (j*a.length))=true->
        (Op.eqItems m e a.length xs.toArray ys.toArray (List.range' j r)).run P w= .ok (Fz (xs.drop (j*a.length)) (ys.drop (j*a.length))) w:=by
        intro r;induction r with
        | zero=>intro j l;simp only[List.replicate_zero,List.flatten_nil]at l;cases I:xs.drop (j*a.length)<;>cases J:ys.drop (j*a.length)<;>simp[I,J,Dn]at l;simp[Op.eqItems,Fz]
        | succ r N=>
          intro j l;rw[QY,I2]at l;obtain⟨C,H,K⟩:=aR a _ _ _ l;obtain⟨b,s,p,D,V⟩:=cY d m e a _ _ E (by omega) C;have L:=Xi _ _ _ l;simp only[List.length_drop,En]at L;have W:=YM (w:=w) (off:=j*a.length) (xs:=xs) s p D (by omega);have X:=YM (w:=w) (off:=j*a.length) (xs:=ys) s p D (by omega);simp only[kn]at H K;have A2:j*a.length+a.length=(j+1)*a.length:=(by rw[IQ];omega);rw[A2]at H K;have A9:=N (j+1) H;rw[List.range'_succ]
          grind [Op.eqItems,Sem.run_bind,Result.andThen_ok,Sem.run_pure]
       simp_all
     ·cases h
    ·cases h
   ·cases h
termination_by d=>d
theorem a1v{ys:Array Value}(c:Bool)(f:o.op= .binOp op t x y M)(k:op=if c then .neq else .eql)(g:M8 P 8 t=some G)
 (h:P.eqGuardType P.depth t=false) (l:IN P t= .agg) (d:a.eval x= .agg xs) (e:a.eval y= .agg ys) (i:Dn G xs.toList ys.toList=true):
 EP P o a w (.bool (if c then !Fz xs.toList ys.toList else Fz xs.toList ys.toList)) w:=by
 obtain⟨b,m,_,_,j⟩:=cY (P:=P) (w:=w) 8 10000 t G xs.toList ys.toList g (by omega) i;have hb:b=true:=by
  grind [IN,IP]
 subst hb;simp only[Lc,if_true,KX]at j;refine UK f (by rw[d,e];exact run_eqGuard_agg w op t x y xs ys h) ?_;rw[d,e];cases c
 ·simp_all [run_eql_struct]
 ·simp_all [run_neq_struct]
end Go.DI
