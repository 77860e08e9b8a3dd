/-
  A part of the proof, shortened by tools of ours.
-/
import Derived.ChangeKeysEq
import Derived.Test.YtmmkkggfmigppaaGreatZca
set_option linter.all false
set_option maxRecDepth 8000
set_option maxHeartbeats 16000000
namespace Go.DI
open Go Go.RowKit
structure Ou where
 c:Nat
 o:Nat
 n:Nat
abbrev Ren:=Nat->Option Ou
inductive B6(u:Ren):Value->Value->Prop
 |BT {v:Value} (h:BB v=true):B6 u v v
 |AA {b off:Nat} {l:Ou} (h:u b=some l):B6 u (.pointer (some ⟨b,off,none⟩)) (.pointer (some ⟨l.c,l.o+off,none⟩))
 | slice {b off len z cap:Nat} {a:Option Nat} {d:Addr} {l:Ou} (h:u b=some l) (f:(cap=0/\len=0)\/(d=⟨l.c,l.o+off,none⟩/\off+cap*z<=l.n)) (g:len<=cap) (j:cap<=maxLen) (k: ∀c,a=some c->c<=cap:=by intro _ h;cases h):
  B6 u (.slice (some ⟨b,off,a⟩) len z) (.slice (some d) len cap)
 |agg {xs ys:Array Value} (e:xs.size=ys.size) (h: ∀(i:Nat) (x y:Value),xs[i]?=some x->ys[i]?=some y->B6 u x y) (m: ∀x∈xs.toList,G x=true):B6 u (.agg xs) (.agg ys)
 |tuple {xs ys:Array Value} (e:xs.size=ys.size) (h: ∀(i:Nat) (x y:Value),xs[i]?=some x->ys[i]?=some y->B6 u x y):B6 u (.tuple xs) (.tuple ys)
 | func {fn:Fn} {xs ys cs ds:Array Value} (e:xs.size=ys.size) (h: ∀(i:Nat) (x y:Value),xs[i]?=some x->ys[i]?=some y->B6 u x y)
  (p:cs.size=ds.size) (q: ∀(i:Nat) (x y:Value),cs[i]?=some x->ds[i]?=some y->B6 u x y):B6 u (.func fn xs cs) (.func fn ys ds)
 |iface {t:TypeId} {v b3:Value} (h:B6 u v b3):B6 u (.iface t v) (.iface t b3)
 |map {b:Nat} {l:Ou} (h:u b=some l):B6 u (.map (some b)) (.map (some l.c))
def CZ(u K:Ren):Prop:= ∀b l,u b=some l->K b=some l
theorem CZ.refl(u:Ren):CZ u u:= λ_ _ h=>h
theorem CZ.trans{a b c:Ren}(h:CZ a b)(d:CZ b c):CZ a c:= λx l e=>d x l (h x l e)
variable{b3 v a6 z:Value}{u K:Ren}{ys:List Value}{xs cs ds C:Array Value}{i J c bp aJ off cap l h:Nat}{Q:Type}{k:IntKind}{n:Int}{b A1 r Wt gu:Bool}{s:ByteArray}{fn:Fn}{t e N:TypeId}{A:A6}{x y:Operand}{d:Option Nat}{L:List MapEntry}{es:List (Value×Value)}{m:V}{I:World}{op:BinOp}{B:TypeInfo}{f:Field}{fs:Array Field}{p:Option Addr}{R bs:Array TypeId}{X:Option Operand}{M:Addr}{ps:Array (Nat×Operand)}{D:List IV}
theorem B6.AG(c:CZ u K)(h:B6 u v b3):B6 K v b3:=by
 induction h with
 |BT h=>exact .BT h
 |AA h=>exact .AA (c _ _ h)
 |slice h d e f g=>exact .slice (c _ _ h) d e f g
 |agg b _ i a=>exact .agg b a i
 |tuple b _ a=>exact .tuple b a
 |func b _ j _ a k=>exact .func b a j k
 |iface _ a=>exact .iface a
 |map h=>exact .map (c _ _ h)
def Al(u:Ren)(xs ys:List Value):Prop:=xs.length=ys.length/\ ∀(i:Nat) (x y:Value),xs[i]?=some x->ys[i]?=some y->B6 u x y
theorem Al.nil(u:Ren):Al u [] []:=⟨rfl,by intro i x y h;simp at h⟩
theorem Al.cons{u:Ren}{x y:Value}{xs ys:List Value}(h:B6 u x y)(d:Al u xs ys):Al u (x::xs) (y::ys):=by
 refine⟨by simp[d.1],λi a b c hb=> ?_⟩;cases i with
 |zero=>simp at c hb;subst c;subst hb;exact h
 |succ i=>exact d.2 i a b (by simpa using c) (by simpa using hb)
theorem Al.AG(a:CZ u K){xs:List Value}(h:Al u xs ys):Al K xs ys:=⟨h.1,λi x y b c=>(h.2 i x y b c).AG a⟩
theorem Al.agg{xs:List Value}(h:Al u xs ys)(a: ∀x∈xs,G x=true):B6 u (.agg xs.toArray) (.agg ys.toArray):= .agg (by simpa using h.1) (by simpa using h.2) (by simpa using a)
theorem Al.tuple{xs:List Value}(h:Al u xs ys):B6 u (.tuple xs.toArray) (.tuple ys.toArray):= .tuple (by simpa using h.1) (by simpa using h.2)
theorem Al.aLr{ys:Array Value}(h:B6 u (.agg xs) (.agg ys)):Al u xs.toList ys.toList:=by
 cases h with
 |BT h=>simp[BB]at h
 |agg a h _=>exact⟨by simpa using a,by simpa using h⟩
theorem Al.Iu{a b c d:List Value}(h:Al u a b)(g:Al u c d):Al u (a++c) (b++d):=by
 refine⟨by simp[h.1,g.1],λi x y f e=> ?_⟩;rw[MY]at f e;rw[<-h.1]at e;split at f
 ·rename_i X;rw[if_pos X]at e;exact h.2 _ _ _ f e
 ·rename_i X;rw[if_neg X]at e;exact g.2 _ _ _ f e
theorem Al.drop{a b:List Value}(h:Al u a b)(n:Nat):Al u (a.drop n) (b.drop n):=
 ⟨by simp[h.1],λi x y c d=>h.2 (n+i) x y (by simpa using c) (by simpa using d)⟩
theorem Al.take{a b:List Value}(h:Al u a b)(n:Nat):Al u (a.take n) (b.take n):=by
 refine⟨by simp[h.1],λi x y c d=> ?_⟩;rw[QO]at c d;split at c
 ·rename_i X;rw[if_pos X]at d;exact h.2 _ _ _ c d
 ·cases c
theorem Al.set{a b:List Value}(h:Al u a b)(n:Nat){x y:Value}(e:B6 u x y):Al u (a.set n x) (b.set n y):=by
 refine⟨by simp[h.1],λi a6 v d c=> ?_⟩;rw[Ig]at d c;rw[<-h.1]at c;split at d
 ·simp_all
 ·rename_i X;rw[if_neg X]at c;exact h.2 _ _ _ d c
theorem Al.C3: ∀{C d:List Value} {a b:List Value} (off:Nat),Al u a b->Al u C d->Al u (C3 a off C) (C3 b off d)
 |[],[],_,_,_,h,_=>h
 |[],a6::d,_,_,_,_,c=>by simp[Al]at c
 |v::C,[],_,_,_,_,c=>by simp[Al]at c
 | v::C,a6::d,a,b,off,h,c=>by simp only[Go.DI.C3];exact Al.C3 (off+1) (h.set off (c.2 0 v a6 rfl rfl)) ⟨by simpa using c.1,λi x y e f=>c.2 (i+1) x y (by simpa using e) (by simpa using f)⟩
theorem Al.W{a b:List Value}(h:Al u a b){x:Value}(c:a[i]?=some x): ∃y,b[i]?=some y/\B6 u x y:=by have X:i<a.length:=(AX.1 c).1;rw[h.1]at X;exact⟨b[i],AS X,h.2 i x _ c (AS X)⟩
theorem Al.Sd(f g:Q->Value): ∀(l:List Q),(∀x∈l,B6 u (f x) (g x))->Al u (l.map f) (l.map g)
 |[],_=>Al.nil u
 |x::l,h=>Al.cons (h x (by simp)) (Al.Sd f g l λy a=>h y (by simp[a]))
theorem Al.BT(u:Ren){cs:List Value}(h:cs.all BB=true):Al u cs cs:=by refine⟨rfl,λi x y a b=> ?_⟩;rw[a]at b;cases b;exact .BT (BF.1 h x (B9 a))
theorem No(h:BB v=true):G v=true:=by cases v<;>simp_all [BB,Go.DI.G]
theorem B6.Fp(u:Ren)(h:Fp v=true):B6 u v v:=by
 unfold Go.DI.Fp at h;split at h
 ·rename_i cs;have:=Al.agg (Al.BT u h) (λv a=>No (BF.1 h v a));simpa using this
 ·rename_i cs;have:=Al.tuple (Al.BT u h);simpa using this
 ·exact .BT h
theorem B6.undef(u:Ren):B6 u undef undef:=Al.tuple (Al.nil u)
theorem B6.G(h:B6 u v b3):G b3=G v:=by cases h<;>simp[Go.DI.G]
theorem fj{u:Ren}{v b3:Value}(h:B6 u v b3):Al u (H v) b3.cells.toList:=by
 cases h with
 |agg a h _=>exact⟨by simpa[H,Value.cells]using a,by simpa[H,Value.cells]using h⟩
 | BT h=>cases v<;>simp[BB]at h<;>exact Al.cons (.BT (by simp[BB,h])) (Al.nil u)
 |AA h=>exact Al.cons (.AA h) (Al.nil u)
 |slice h b c d e=>exact Al.cons (.slice h b c d e) (Al.nil u)
 |tuple a h=>exact Al.cons (.tuple a h) (Al.nil u)
 |func a h f g=>exact Al.cons (.func a h f g) (Al.nil u)
 |iface h=>exact Al.cons (.iface h) (Al.nil u)
 |map h=>exact Al.cons (.map h) (Al.nil u)
theorem iT{u:Ren}{v b3:Value}(h:B6 u v b3)(b:E v=true): ∀x∈H v,G x=true:=by
 intro x a;cases h with
 |agg c h d=>exact d x a
 |BT h=>cases v<;>simp[BB,H]at h a<;>subst a<;>rfl
 |AA h=>simp[H]at a;subst a;rfl
 |slice h b e f g=>simp[H]at a;subst a;rfl
 |tuple c h=>simp[E]at b
 |func c h i j=>simp[H]at a;subst a;rfl
 |iface h=>simp[H]at a;subst a;rfl
 |map h=>simp[H]at a;subst a;rfl
theorem B6.a8g(h:B6 u (.agg xs) v): ∀x∈xs.toList,Go.DI.G x=true:=by
 cases h with
 |BT h=>simp[BB]at h
 |agg b h a=>exact a
theorem B6.Hd(h:B6 u (.int k n) v):v= .int k n:=by cases h;rfl
theorem B6.Jv(h:B6 u (.bool b) v):v= .bool b:=by cases h;rfl
theorem B6.NV(h:B6 u (.string s) v):v= .string s:=by cases h;rfl
theorem B6.Io{a:Addr}(h:B6 u (.pointer (some a)) v): ∃l,u a.block=some l/\a.spot=none/\v= .pointer (some ⟨l.c,l.o+a.off,none⟩):=by
 cases h with
 |BT h=>simp[BB]at h
 |AA h=>exact⟨_,h,rfl,rfl⟩
theorem B6.Fk{a:Addr}{len z:Nat}(h:B6 u (.slice (some a) len z) v):
 ∃l b cap,u a.block=some l/\(∀c,a.spot=some c->c<=cap)/\v= .slice (some b) len cap/\((cap=0/\len=0)\/(b=⟨l.c,l.o+a.off,none⟩/\a.off+cap*z<=l.n))/\len<=cap/\cap<=maxLen:=by
 cases h with
 |BT h=>simp[BB]at h
 |slice h d e f g=>exact⟨_,_,_,h,g,rfl,d,e,f⟩
theorem B6.K8(h:B6 u (.agg xs) v): ∃ys,v= .agg ys/\Al u xs.toList ys.toList:=by
 cases h with
 |BT h=>simp[BB]at h
 |agg a h _=>exact⟨_,rfl,by simpa using a,by simpa using h⟩
theorem B6.S1(h:B6 u (.tuple xs) v): ∃ys,v= .tuple ys/\Al u xs.toList ys.toList:=by
 cases h with
 |BT h=>simp[BB]at h
 |tuple a h=>exact⟨_,rfl,by simpa using a,by simpa using h⟩
theorem B6.QU(h:B6 u (.func fn xs cs) v): ∃ys ds,v= .func fn ys ds/\Al u xs.toList ys.toList/\Al u cs.toList ds.toList:=by
 cases h with
 |BT h=>simp[BB]at h
 |func a h b c=>exact⟨_,_,rfl,⟨by simpa using a,by simpa using h⟩,by simpa using b,by simpa using c⟩
theorem B6.V8{x:Value}(h:B6 u (.iface t x) v): ∃y,v= .iface t y/\B6 u x y:=by
 cases h with
 |BT h=>simp[BB]at h
 |iface h=>exact⟨_,rfl,h⟩
theorem B6.UI{b:Nat}(h:B6 u (.map (some b)) v): ∃l,u b=some l/\v= .map (some l.c):=by
 cases h with
 |BT h=>simp[BB]at h
 |map h=>exact⟨_,h,rfl⟩
theorem B6.DH(h:B6 u v b3)(a:BB v=true):b3=v:=by cases h<;>first|rfl|simp[BB]at a
structure Cw(u:Ren)(J:Nat)(A:A6)(a:Act):Prop where
 size:a.tmps.size=J
 defers:a.defers=[]
 Gp: ∀t,B6 u (A t) (a.tmps.getD t undef)
theorem Cw.AG(b:CZ u K){a:Act}(h:Cw u J A a):Cw K J A a:=⟨h.size,h.defers,λt=>(h.Gp t).AG b⟩
theorem Cw.O{a:Act}(h:Cw u J A a)(b:An x=true):B6 u (O A x) (a.eval x):=by
 cases x with
 |tmp t=>exact h.Gp t
 |const v=>exact B6.Fp u b
 |func f=>exact .func rfl (by intro i x y h;simp at h) rfl (by intro i x y h;simp at h)
 |global g=>simp[An]at b
theorem Cw.A0{a:Act}(h:Cw u J A a)(b:d.all (λd=>decide (d<J))=true)(c:B6 u v b3):Cw u J (Af A d v) (a.put d b3):=by
 cases d with
 |none=>exact h
 | some d=>
   have f:d<J:=(by simpa using b);refine⟨by simp[Act.put,h.size],h.defers,λt=> ?_⟩;simp only[Af,FT,Act.put];by_cases e:t=d
   ·subst e;have:t<a.tmps.size:=(by rw[h.size];exact f);simpa[this]using c
   ·have:=h.Gp t
    simp_all [Ne.symm]
def O2(u:Ren)(es:List (Value×Value))(L:List MapEntry):Prop:=es.length=L.length/\ ∀(i:Nat) e a,es[i]?=some e->L[i]?=some a->Fp e.1=true/\a.key=e.1/\G e.2=true/\B6 u e.2 a.val
theorem O2.AG(f:CZ u K)(h:O2 u es L):O2 K es L:=
 ⟨h.1,λi e g j k=>by obtain⟨a,b,c,d⟩:=h.2 i e g j k;exact⟨a,b,c,d.AG f⟩⟩
theorem V.Hp{b:Nat}(h:m.BL b=some es):m.W b=some ⟨[],true⟩/\m.mp b=some es:=by
 grind [V.BL]
theorem V.E7{b:Nat}(a:m.W b=some ⟨[],true⟩)(c:m.mp b=some es):m.BL b=some es:=by unfold V.BL;rw[a];exact c
def IE(w:World)(c:Nat):Prop:= ∀t k,w.shape? c=some (t,k)->w.frozen? ⟨c,k,none⟩=false
theorem IE.Rb{w:World}(h:IE w c)(e:I.heap[c]?=w.heap[c]?):IE I c:= λt k a=>by
 have b:I.shape? c=w.shape? c:=by simp only[World.shape?,e]
 have d:I.frozen? ⟨c,k,none⟩=w.frozen? ⟨c,k,none⟩:=by simp only[World.frozen?,e]
 rw[d];exact h t k (by rw[<-b];exact a)
theorem IE.setCells(b:Nat): ∀(C:List Value) (o:Nat) {w:World},IE w c->IE (w.setCells b o C) c
 |[],_,_,h=>h
 | v::C,o,w,h=>by
   rw[World.setCells];refine IE.setCells b C _ ?_;intro t k a;have key:(w.setCell ⟨b,o,none⟩ v).heap[c]?=if b=c then(w.heap[c]?).map (λx=>match x with
    | .cells cs e f=> .cells (cs.setIfInBounds o v) e f
    |x=>x)else w.heap[c]?:=by
    simp only[World.setCell,Array.getElem?_modify];rfl
   by_cases e:b=c
   ·rw[if_pos e]at key;cases d:w.heap[c]? with
    |none=>rw[d]at key;simp[World.shape?,key]at a
    | some x=>
      rw[d]at key;cases x with
      | cells cs a6 f=>
        have:=h a6 cs.size (by simp only[World.shape?,d])
        grind [World.frozen?,World.shape?]
      |_=>simp[World.shape?,key]at a
   ·rw[if_neg e]at key;exact h.Rb key t k a
theorem IE.rI{w:World}{es:Array MapEntry}(h:w.heap[c]?=some (.map es bp)):IE w c:= λt k a=>by simp[World.shape?,h]at a
theorem IE.a2z{w:World}{a:Nat×Nat}(h:w.heap[c]?=some (.cells ds e a))(b: ¬(a.1<=ds.size/\ds.size<a.2)):IE w c:= λt k d=>by
 grind [World.shape?,World.frozen?]
structure BA(aJ:Nat)(u:Ren)(m:V)(w:World):Prop where
 Fq: ∀b l,u b=some l->b<m.next
 G9: ∀b l,u b=some l->l.c<w.heap.size
 G2: ∀b x,m.W b=some x-> ∃l,u b=some l/\x.cells.length<=l.n/\(∀i v,x.cells[i]?=some v->G v=true/\ ∃b3,w.cell? ⟨l.c,l.o+i,none⟩=some b3/\B6 u v b3)/\
  (x.own=true->aJ<=l.c/\ ∀i,i<l.n->(w.cell? ⟨l.c,l.o+i,none⟩).isSome=true/\w.frozen? ⟨l.c,l.o+i,none⟩=false)
 MD: ∀b x a e l d,m.W b=some x->x.own=true->m.W a=some e->b≠a->u b=some l->u a=some d->l.c≠d.c
 NC: ∀b es,m.mp b=some es-> ∃l,u b=some l
 maps: ∀b es,m.BL b=some es-> ∃l L f,u b=some l/\aJ<=l.c/\w.heap[l.c]?=some (.map L f)/\O2 u es L.toList
 NU: ∀b x l,m.W b=some x->x.own=true->u b=some l->IE w l.c
theorem V.F{b:Nat}{x:Bw}(h:m.W b=some x):b<m.next:=by
 grind [V.W]
theorem V.G1(m:V)(b a:Nat)(x:Option Bw):(m.A0 b x).W a=if a=b then(if b<m.next then x else none)else m.W a:=by
 unfold V.W V.A0
 grind
theorem V.AU(m:V)(k b:Nat):(m.AE k).W b=m.W b:=by
 unfold V.W V.AE
 grind
theorem V.sg(m:V)(b:Nat)(x:Option Bw):(m.A0 b x).next=m.next:=rfl
theorem V.M1(m:V)(k:Nat):(m.AE k).next=m.next+k:=rfl
theorem BA.AE{w:World}(h:BA aJ u m w)(k:Nat):BA aJ u (m.AE k) w:=
 ⟨λb l hb=>Eo (h.Fq b l hb) (by simp[V.M1]),h.G9,λb x a=>h.G2 b x (by rwa [V.AU]at a),
  λb x d e l f g i j=>h.MD b x d e l f (by rwa [V.AU]at g) i (by rwa [V.AU]at j),
  h.NC,λb es hb=>by obtain⟨c,n⟩:=V.Hp hb;rw[V.AU]at c;exact h.maps b es (V.E7 c n),λb x l a=>h.NU b x l (by rwa [V.AU]at a)⟩
theorem BA.xL{w:World}(h:BA aJ u m w)(c:I.heap=w.heap):BA aJ u m I:=by
 have d: ∀a,I.cell? a=w.cell? a:= λa=>by simp[World.cell?,c]
 have e: ∀a,I.frozen? a=w.frozen? a:= λa=>by simp[World.frozen?,c]
 exact⟨h.Fq,by rw[c];exact h.G9,λb x f=>by simpa only[d,e]using h.G2 b x f,h.MD,h.NC,λb es hb=>by rw[c];exact h.maps b es hb,λb x l g i j=>(h.NU b x l g i j).Rb (by rw[c])⟩
def EJ(P:Program)(o:Oper)(a:Act)(w:World)(v:Value)(I:World):Prop:=
 (execOp a.eval o).run P w= .ok (.value v) I\/((execOp a.eval o).run P w= .ok .skip I/\v=undef)
variable {P:Program} {o:Oper} {a:Act} {w:World}
theorem aF7(b:o.op= .move x):EJ P o a w (a.eval x) w:= .inl (by simp[execOp,b])
theorem aEz(b:o.op= .assign x):EJ P o a w (a.eval x) w:= .inl (by simp[execOp,b])
theorem a78{c:Operand}(d:o.op= .pick c x y)(e:a.eval c= .bool b):EJ P o a w (if b then a.eval x else a.eval y) w:=
 .inl (by simp[execOp,d,e,asBool])
theorem a4T(b:o.op= .nilCheck x)(c:P5 (a.eval x)=true):EJ P o a w (a.eval x) w:=by
 refine .inl ?_;simp only[execOp,b];generalize a.eval x=v at c;cases v<;>simp_all [P5]
 ·rename_i p;cases p<;>simp_all
 ·rename_i fn _ _;cases fn<;>simp_all
theorem Wj(b:o.op= .binOp op t x y N)(c:(eqGuard op t x y (a.eval x) (a.eval y)).run P w= .ok () w)
 (h:(binOp op t (a.eval x) (a.eval y)).run P w= .ok v w):EJ P o a w v w:=
 .inl (by simp[execOp,b,c,h])
theorem aEj{op:UnOp}(b:o.op= .unOp op t x)(c:NB op (a.eval x)=true):EJ P o a w (RC op (a.eval x)) w:=by refine .inl ?_;simp only[execOp,b];generalize a.eval x=v at c;cases op<;>cases v<;>simp_all [NB,RC,Op.unary,Op.intArith]
theorem a4M(b:o.op= .extract x i)(c:a.eval x= .tuple C)(X:i<C.size):EJ P o a w (Q4 (a.eval x) i) w:=by refine .inl ?_;simp[execOp,b,c,Instr.extract,X,Q4]
theorem aG1{s d:TypeId}{b c:IntKind}(e:o.op= .convert s d x)(f:P.underlying s=some (.int b))(g:P.underlying d=some (.int k))(h:a.eval x= .int c n):
 EJ P o a w (.int k (k.wrap n)) w:=by
 refine .inl ?_;simp[execOp,e,h,convert,underlying,f,g,Conv.intToInt]
theorem aEh{s d:TypeId}{b:ByteArray}(c:o.op= .convert s d x)(e:P.underlying s=some .string)(f:P.underlying d=some .string)(g:a.eval x= .string b):
 EJ P o a w (.string b) w:=by
 refine .inl ?_;simp[execOp,c,g,convert,underlying,e,f]
theorem a7A{x y:Array Operand}(b:o.op= .makeFunc fn x y):EJ P o a w (.func fn (x.map a.eval) (y.map a.eval)) w:=
 .inl (by simp[execOp,b,Instr.makeFunc])
theorem aBs{s:TypeId}(b:o.op= .fieldAddr s x i)(d:P.underlying s=some (.struct fs))(e:fs[i]?=some f)
 (X:P.info? f.type=some B) (g:0<B.size) (h:a.eval x= .pointer (some ⟨c,off,none⟩)):EJ P o a w (.pointer (some ⟨c,off+f.offset,none⟩)) w:=by
 refine .inl ?_;have:B.size≠0:=by omega
 simp_all [execOp,Instr.fieldAt,underlying,Instr.sureAddr,fieldPlace,sizeOf,typeInfo,Addr.add]
theorem aAZ{i:Operand}{len:Nat}(b:o.op= .indexAddr t x i)(d:P.underlying t=some (.slice e))
 (X:P.info? e=some B) (f:a.eval x= .slice (some ⟨c,off,none⟩) len cap) (g:a.eval i= .int k n) (h:0<=n) (j:n<(len:Int)):
 EJ P o a w (.pointer (some ⟨c,off+n.toNat*B.size,none⟩)) w:=by
 refine .inl ?_;simp[execOp,b,f,g,Instr.indexAt,asIntOf,underlying,d,sizeOf,typeInfo,X,h,j,Addr.add]
theorem aEJ{i:Operand}{len:Nat}(b:o.op= .indexAddr t x i)(d:P.underlying t=some (.array len e))
 (X:P.info? e=some B) (f:a.eval x= .pointer (some ⟨c,off,none⟩)) (g:a.eval i= .int k n) (h:0<=n) (j:n<(len:Int)):
 EJ P o a w (.pointer (some ⟨c,off+n.toNat*B.size,none⟩)) w:=by
 refine .inl ?_;simp[execOp,b,f,g,Instr.indexAt,asIntOf,underlying,d,sizeOf,typeInfo,X,h,j,Addr.add,Instr.sureAddr]
theorem a18{i:Operand}(c:o.op= .index t x i)(d:P.underlying t=some .string)
 (e:a.eval x= .string s) (f:a.eval i= .int k n) (g:0<=n) (h:n<(s.size:Int)):
 EJ P o a w (.int .u8 ((s.data.toList.getD n.toNat 0).toNat:Nat)) w:=by
 refine .inl ?_;have b:n.toNat<s.size:=by omega
 have j:s[n.toNat]?=some (s.data.toList.getD n.toNat 0):=by rw[getElem?_pos s n.toNat b];have:n.toNat<s.data.size:=b;simp only[Dv,Array.getElem?_toList,Array.getElem?_eq_getElem this,L2];rfl
 simp_all [execOp,Instr.index,asIntOf,underlying]
theorem aAE{c:Call}(b:o.op= .call c)(d:c.callee= .builtin .len)(e:c.args.toList=[x])(f:c.argTypes.toList=[t])
 (g:P.underlying t=some .string) (h:a.eval x= .string s):EJ P o a w (.int .i64 s.size) w:=by
 refine .inl ?_;have i:c.args= #[x]:=by rw[<-K7 (xs:=c.args),e]
 have j:c.argTypes= #[t]:=by rw[<-K7 (xs:=c.argTypes),f]
 simp[execOp,b,resolve,d,i,j,invoke,builtin,Builtin.len_,underlying,g,h,goInt]
theorem aEI{c:Call}(b:o.op= .call c)(d:c.callee= .builtin .len)(f:c.args.toList=[x])(g:c.argTypes.toList=[t])
 (h:P.underlying t=some (.slice e)) (i:a.eval x= .slice p l cap):EJ P o a w (.int .i64 l) w:=by
 refine .inl ?_;have j:c.args= #[x]:=by rw[<-K7 (xs:=c.args),f]
 have k:c.argTypes= #[t]:=by rw[<-K7 (xs:=c.argTypes),g]
 simp[execOp,b,resolve,d,j,k,invoke,builtin,Builtin.len_,underlying,h,i,goInt]
theorem aB5{c:Call}(b:o.op= .call c)(d:c.callee= .builtin .cap)(f:c.args.toList=[x])(g:c.argTypes.toList=[t])
 (h:P.underlying t=some (.slice e)) (i:a.eval x= .slice p l cap):EJ P o a w (.int .i64 cap) w:=by
 refine .inl ?_;have j:c.args= #[x]:=by rw[<-K7 (xs:=c.args),f]
 have k:c.argTypes= #[t]:=by rw[<-K7 (xs:=c.argTypes),g]
 simp[execOp,b,resolve,d,j,k,invoke,builtin,Builtin.cap_,underlying,h,i,goInt]
variable {P:Program} {w:World}
theorem aEk(d:Nat)(h:P.underlying t=some .bool)(a b:Bool):(Op.equalIn (d+1) t (.bool a) (.bool b)).run P w= .ok (a==b) w:=by simp[Op.equalIn,run_underlying h]
theorem a0E(d:Nat)(h:P.underlying t=some (.pointer e))(p q:Option Addr)(a:p=none\/q=none):(Op.equalIn (d+1) t (.pointer p) (.pointer q)).run P w= .ok (p.isNone&&q.isNone) w:=by
 rcases a with rfl|rfl
 ·simp[Op.equalIn,run_underlying h]
 ·cases p<;>simp[Op.equalIn,run_underlying h]
theorem aAr(d:Nat)(h:P.underlying t=some (.slice e))(p q:Option Addr)(l c a b:Nat)(f:p=none\/q=none):(Op.equalIn (d+1) t (.slice p l c) (.slice q a b)).run P w= .ok (p.isNone&&q.isNone) w:=by
 rcases f with rfl|rfl
 ·simp[Op.equalIn,run_underlying h]
 ·cases p<;>simp[Op.equalIn,run_underlying h]
theorem aBQ(d:Nat)(h:P.underlying t=some (.func R bs A1))(x y:Value)
 (e:(x= .nilFunc/\y= .nilFunc)\/(x= .nilFunc/\ ∃a b c,y= .func a b c)\/(y= .nilFunc/\ ∃a b c,x= .func a b c)):(Op.equalIn (d+1) t x y).run P w= .ok (JA x&&JA y) w:=by
 rcases e with⟨rfl,rfl⟩|⟨rfl,_,_,_,rfl⟩|⟨rfl,_,_,_,rfl⟩<;>simp[Op.equalIn,run_underlying h,JA]
theorem aF8(h:P.underlying t=some .bool)(a b:Bool):(Op.equal t (.bool a) (.bool b)).run P w= .ok (a==b) w:=aEk 9999 h a b
theorem qK(h:P.underlying t=some (.pointer e))(p q:Option Addr)(a:p=none\/q=none):(Op.equal t (.pointer p) (.pointer q)).run P w= .ok (p.isNone&&q.isNone) w:=a0E 9999 h p q a
theorem tl(h:P.underlying t=some (.slice e))(p q:Option Addr)(l c a b:Nat)(d:p=none\/q=none):(Op.equal t (.slice p l c) (.slice q a b)).run P w= .ok (p.isNone&&q.isNone) w:=aAr 9999 h p q l c a b d
theorem gj(h:P.underlying t=some (.func R bs A1))(x y:Value)
 (d:(x= .nilFunc/\y= .nilFunc)\/(x= .nilFunc/\ ∃a b c,y= .func a b c)\/(y= .nilFunc/\ ∃a b c,x= .func a b c)):(Op.equal t x y).run P w= .ok (JA x&&JA y) w:=aBQ 9999 h x y d
theorem a0u(h:Hw P t= .bool):P.underlying t=some .bool:=by
 grind [Hw]
theorem pr(h:Hw P t= .AA): ∃e,P.underlying t=some (.pointer e):=by
 grind [Hw]
theorem qw(h:Hw P t= .slice): ∃e,P.underlying t=some (.slice e):=by
 grind [Hw]
theorem fo(h:Hw P t= .fn): ∃a b c,P.underlying t=some (.func a b c):=by
 grind [Hw]
theorem aQ(b:a6≠ .nilIface)(c:Jc a6=false):(eqGuard op t x y a6 v).run P w= .ok () w:=by
 unfold eqGuard;by_cases a:op= .eql\/op= .neq
 ·rcases a with rfl|rfl<;>simp<;>cases a6<;>simp_all [Jc]
 ·cases op<;>simp_all
theorem aC4{c:IntKind}{a b:Int}(h:bD op k c a b=true):(binOp op t (.int k a) (.int c b)).run P w= .ok (Sr op k a b) w:=by cases op<;>simp_all [bD,binOp,Sr,Op.intArith,Op.intDiv,Op.intBits,Op.intCmp,Op.shift]<;>first|rfl|(intro d;omega)
theorem toList_beq(a b:ByteArray):(a.toList==b.toList)=decide (a=b):=by
 rw[Bool.eq_iff_iff];simp only[ByteArray.toList_eq,beq_iff_eq,Ba];constructor
 ·intro h;cases a;cases b;simpa using h
 ·rintro rfl;rfl
theorem a30{a b:ByteArray}(h:Un op a b=true):(binOp op t (.string a) (.string b)).run P w= .ok (OQ op a b) w:=by have e:=toList_beq a b;cases op<;>simp_all [Un,binOp,OQ,Op.stringOp];omega
theorem PO(c:op= .eql\/op= .neq)(d:Bo a6=false)(e:Fe a6=false)(f:P8 a6=true->Bo v=false)(g:(∀k a b,a6≠ .complex k a b)/\ ∀k a,a6≠ .float k a)
 (h:(Op.equal t a6 v).run P w= .ok r w):(binOp op t a6 v).run P w= .ok (.bool (if op= .eql then r else !r)) w:=by
 rcases c with rfl|rfl<;>cases a6<;>simp_all [Bo,Fe,binOp]
theorem qU{k:Value}(d:op= .eql\/op= .neq)(n:M5 (Hw P t) a6 v=true)(i:B6 u a6 k)(j:B6 u v b3):
 (binOp op t k b3).run P w= .ok (FY op a6 v) w/\k≠ .nilIface/\Jc k=false:=by
 unfold M5 at n;split at n
 ·rename_i f;have:=i.Jv;subst this;have:=j.Jv;subst this;refine⟨?_,by simp,rfl⟩;rw[PO d rfl rfl (by simp[P8]) (by simp) (aF8 (a0u f) _ _)];rcases d with rfl|rfl<;>simp[FY,I3]
 ·rename_i p f;obtain⟨e,g⟩:=pr f;have:=i.DH rfl;subst this;have m: ∃q,b3= .pointer q/\q.isNone=p.isNone:=by
   cases p with
   |none=>exact⟨none,j.DH rfl,rfl⟩
   |some a=>obtain⟨l,_,_,h⟩:=j.Io;exact⟨_,h,rfl⟩
  obtain⟨q,rfl,o⟩:=m;refine⟨?_,by simp,rfl⟩;rw[PO d rfl rfl (by simp[P8]) (by simp) (qK g _ _ (.inl rfl))];cases p<;>rcases d with rfl|rfl<;>simp_all [FY,I3,JA]
 ·rename_i p _ f;obtain⟨e,g⟩:=pr f;have:=j.DH rfl;subst this;have m: ∃q,k= .pointer q/\q.isNone=p.isNone:=by
   cases p with
   |none=>exact⟨none,i.DH rfl,rfl⟩
   |some a=>obtain⟨l,_,_,h⟩:=i.Io;exact⟨_,h,rfl⟩
  obtain⟨q,rfl,o⟩:=m;refine⟨?_,by simp,rfl⟩;rw[PO d rfl rfl (by simp[Bo]) (by simp) (qK g _ _ (.inr rfl))];cases p<;>rcases d with rfl|rfl<;>simp_all [FY,I3,JA]
 ·rename_i s x p y z f;obtain⟨e,g⟩:=qw f;have r:k= .slice none s x:=(by cases i with|BT h=>rfl);subst r;have m: ∃q l c,b3= .slice q l c/\q.isNone=p.isNone:=by
   cases p with
   |none=>cases j with|BT h=>exact⟨_,_,_,rfl,rfl⟩
   |some a=>obtain⟨l,A,cap,_,_,h,_⟩:=j.Fk;exact⟨_,_,_,h,rfl⟩
  obtain⟨q,l,c,rfl,o⟩:=m;refine⟨?_,by simp,rfl⟩;rw[PO d rfl rfl (by simp[P8]) (by simp) (tl g _ _ _ _ _ _ (.inl rfl))];cases p<;>rcases d with rfl|rfl<;>simp_all [FY,I3,JA]
 ·rename_i p s x y z _ f;obtain⟨e,g⟩:=qw f;have m:b3= .slice none y z:=(by cases j with|BT h=>rfl);subst m;have r: ∃q l c,k= .slice q l c/\q.isNone=p.isNone:=by
   cases p with
   |none=>cases i with|BT h=>exact⟨_,_,_,rfl,rfl⟩
   |some a=>obtain⟨l,A,cap,_,_,h,_⟩:=i.Fk;exact⟨_,_,_,h,rfl⟩
  obtain⟨q,l,c,rfl,o⟩:=r;refine⟨?_,by simp,rfl⟩;rw[PO d rfl rfl (by simp[P8]) (by simp) (tl g _ _ _ _ _ _ (.inr rfl))];cases p<;>rcases d with rfl|rfl<;>simp_all [FY,I3,JA]
 ·rename_i f;obtain⟨a,b,c,g⟩:=fo f;have:=i.DH rfl;subst this;have:=j.DH rfl;subst this;refine⟨?_,by simp,rfl⟩;rw[PO d rfl rfl (by simp[P8]) (by simp) (gj g _ _ (.inl ⟨rfl,rfl⟩))];rcases d with rfl|rfl<;>simp[FY,I3,JA]
 ·rename_i f;obtain⟨a,b,c,g⟩:=fo f;have:=i.DH rfl;subst this;obtain⟨ys,ds,rfl,_⟩:=j.QU;refine⟨?_,by simp,rfl⟩;rw[PO d rfl rfl (by simp[P8]) (by simp) (gj g _ _ (.inr (.inl ⟨rfl,_,_,_,rfl⟩)))];rcases d with rfl|rfl<;>simp[FY,I3,JA]
 ·rename_i f;obtain⟨a,b,c,g⟩:=fo f;have:=j.DH rfl;subst this;obtain⟨ys,ds,rfl,_⟩:=i.QU;refine⟨?_,by simp,rfl⟩;rw[PO d rfl rfl (by simp[P8]) (by simp) (gj g _ _ (.inr (.inr ⟨rfl,_,_,_,rfl⟩)))];rcases d with rfl|rfl<;>simp[FY,I3,JA]
 ·cases n
theorem a5A{o:Oper}{a:Act}(f:o.op= .binOp op t x y N)(d:B6 u a6 (a.eval x))(e:B6 u v (a.eval y))
 (c:KP op (Hw P t) a6 v=true): ∃b3,EJ P o a w b3 w/\B6 u (FY op a6 v) b3:=by
 generalize b:a.eval x=z at d;generalize g:a.eval y=b3 at e;cases a6 with
 | int k n=>
   cases v<;>simp only[KP]at c
   case int A p=>have:=d.Hd;subst this;have:=e.Hd;subst this;refine⟨Sr op k n p,Wj f (aQ (by simp[b]) (by simp[b,Jc])) (by rw[b,g];exact aC4 c),?_⟩;simp only[FY];exact .BT (by cases op<;>rfl)
   all_goals(cases op<;>first|cases c|(cases h:Hw P t<;>simp[h,M5]at c))
 | string s=>
   cases v<;>simp only[KP]at c
   case string q=>have:=d.NV;subst this;have:=e.NV;subst this;refine⟨OQ op s q,Wj f (aQ (by simp[b]) (by simp[b,Jc])) (by rw[b,g];exact a30 c),?_⟩;simp only[FY];exact .BT (by cases op<;>simp_all [OQ,Un,BB])
   all_goals(cases op<;>first|cases c|(cases h:Hw P t<;>simp[h,M5]at c))
 | _=>
   simp only[KP]at c;have r:op= .eql\/op= .neq:=(by cases op<;>first|exact .inl rfl|exact .inr rfl|cases c);have m:=c;rcases r with rfl|rfl
   ·obtain⟨i,j,l⟩:=qU (w:=w) (.inl rfl) m d e;exact⟨_,Wj f (aQ (by rw[b];exact j) (by rw[b];exact l)) (by rw[b,g];exact i),.BT (by simp[FY,BB])⟩
   ·obtain⟨i,j,l⟩:=qU (w:=w) (.inr rfl) m d e;exact⟨_,Wj f (aQ (by rw[b];exact j) (by rw[b];exact l)) (by rw[b,g];exact i),.BT (by simp[FY,BB])⟩
variable {P:Program} {w:World} {o:Oper} {a:Act}
def Nm(x:Option Value)(a:Nat)(n:Nat):Prop:=(x=none/\n=a)\/ ∃(k:IntKind) (i:Int),x=some (.int k i)/\0<=i/\i.toNat=n
theorem X8{i:Int}{y n:Nat}{c:BoundsCode}(a:0<=i)(b:i.toNat=n)(d:n<=y):(Instr.sliceBound (.int k i) y c).run P w= .ok n w:=by
 have:i<=(y:Int):=by omega
 simp[Instr.sliceBound,asIntOf,a,this,b]
theorem gI{len:Nat}{bl X:Option Value}(a:Nm bl 0 l)(b:Nm X len h)(c:l<=h)(d:h<=cap):
 (Instr.sliceBounds Wt len cap bl X none).run P w= .ok (l,h,cap) w:=by
 rcases a with⟨rfl,rfl⟩|⟨k,i,rfl,e,f⟩<;>rcases b with⟨rfl,rfl⟩|⟨m,dW,rfl,g,j⟩
 ·simp[Instr.sliceBounds]
 ·simp[Instr.sliceBounds,X8 g j d]
 ·simp[Instr.sliceBounds,X8 e f c]
 ·simp_all [Instr.sliceBounds,X8]
theorem a7p{b:Option Operand}(c:o.op= .slice t x b X none)(d:P.underlying t=some .string)(e:a.eval x= .string s)
 (f:Nm (b.map a.eval) 0 l) (g:Nm (X.map a.eval) s.size h) (i:l<=h) (j:h<=s.size):EJ P o a w (.string (s.extract l h)) w:=by
 refine .inl ?_;simp[execOp,c,e,Instr.sliceAt,Instr.slice,run_underlying d,gI f g i j]
theorem sM{b:Option Operand}{len:Nat}(c:o.op= .slice t x b X none)(d:P.underlying t=some (.slice e))(f:P.info? e=some B)
 (g:a.eval x= .slice p len cap) (i:Nm (b.map a.eval) 0 l) (j:Nm (X.map a.eval) len h) (k:l<=h) (m:h<=cap):
 EJ P o a w (.slice (if cap=l then p else p.map (·.add (l*B.size))) (h-l) (cap-l)) w:=by
 refine .inl ?_;simp[execOp,c,g,Instr.sliceAt,Instr.slice,run_underlying d,gI i j k m,sizeOf,typeInfo,f]
theorem a37{n:Nat}(b:o.op= .slice t x none none none)(c:P.underlying t=some (.array n e))(d:P.info? e=some B)
 (f:a.eval x= .pointer (some M)):EJ P o a w (.slice (some (if n=0 then M else M.add (0*B.size))) (n-0) (n-0)) w:=by
 refine .inl ?_;have hb:=gI (P:=P) (w:=w) (Wt:=false) (len:=n) (cap:=n) (l:=0) (h:=n) (bl:=none) (X:=none) (.inl ⟨rfl,rfl⟩) (.inl ⟨rfl,rfl⟩) (C0 _) (Ao _)
 simp_all [execOp,Instr.sliceAt,Instr.sureAddr,run_underlying,sizeOf,typeInfo]
theorem a1U{len m:Nat}{a:Option Value}{X gu:Value}(b:Nm a 0 l)(c: ∃(k:IntKind) (i:Int),X= .int k i/\0<=i/\i.toNat=h)(d: ∃(k:IntKind) (i:Int),gu= .int k i/\0<=i/\i.toNat=m)(e:l<=h)(f:h<=m)(g:m<=cap):
 (Instr.sliceBounds Wt len cap a (some X) (some gu)).run P w= .ok (l,h,m) w:=by
 obtain⟨j,dW,rfl,n,o⟩:=c;obtain⟨p,q,rfl,r,s⟩:=d;rcases b with⟨rfl,rfl⟩|⟨k,i,rfl,t,u⟩
 ·simp_all [Instr.sliceBounds,X8]
 ·simp_all [Instr.sliceBounds,X8]
theorem qB{X gu:Operand}{b:Option Operand}{len:Nat}{m:Nat}(c:o.op= .slice t x b (some X) (some gu))(d:P.underlying t=some (.slice e))(f:P.info? e=some B)
 (g:a.eval x= .slice p len cap) (j:Nm (b.map a.eval) 0 l) (n: ∃(k:IntKind) (i:Int),a.eval X= .int k i/\0<=i/\i.toNat=h) (q: ∃(k:IntKind) (i:Int),a.eval gu= .int k i/\0<=i/\i.toNat=m) (r:l<=h) (s:h<=m) (u:m<=cap):
 EJ P o a w (.slice (if m=l then p else p.map (·.add (l*B.size))) (h-l) (m-l)) w:=by
 refine .inl ?_;simp[execOp,c,g,Instr.sliceAt,Instr.slice,run_underlying d,a1U j n q r s u,sizeOf,typeInfo,f]
theorem QF(g:Cw u J A a){x:Option Operand}(h:Ss x=true)(c:HW A x=true)(d:Nat)(e:0<=Cq A x d):Nm (x.map a.eval) d (Cq A x d).toNat:=by
 cases x with
 |none=>exact .inl ⟨rfl,by simp[Cq]⟩
 | some x=>
   have f:=g.O (x:=x) h;simp only[HW]at c;simp only[Cq]at e⊢;cases b:O A x<;>simp[b,Bo]at c;rw[b]at f;refine .inr ⟨_,_,by simp[f.Hd];exact⟨rfl,rfl⟩,?_,?_⟩
   ·simpa[b,Bh]using e
   ·simp[Bh]
theorem vc(off:Nat): ∀(C:List Value) (j:Nat) (cs:Array Value),((C.zipIdx j).foldl (λcs (c,j)=>cs.setIfInBounds (off+j) c) cs).toList=C3 cs.toList (off+j) C
 |[],_,_=>rfl
 | v::C,j,cs=>by
   simp_all [C3,vc,JN]
theorem aCJ(off:Nat)(v:Value)(cs:Array Value):(v.cells.zipIdx.foldl (λcs (c,j)=>cs.setIfInBounds (off+j) c) cs).toList=C3 cs.toList off v.cells.toList:=by
 have:=vc off v.cells.toList 0 cs
 grind [Array.toList_zipIdx]
theorem VP: ∀(C:List Value) (off:Nat) (cs:List Value),(C3 cs off C).length=cs.length
 |[],_,_=>rfl
 |v::C,off,cs=>by simp only[C3];rw[VP C];simp
theorem re(p:Value->Prop): ∀(C:List Value) (off:Nat) (cs:List Value),(∀x∈cs,p x)->(∀x∈C,p x)-> ∀x∈C3 cs off C,p x
 |[],_,_,h,_=>h
 | v::C,off,cs,h,b=>by
   simp only[C3];refine re p C _ _ (λx a=> ?_) (λx a=>b x (by simp[a]))
   grind
theorem fM(o:Cw u J A a)(h:Nat->Option (Nat×Nat)): ∀(ps:List (Nat×Operand)) (b:List (Nat×Nat×Operand)) (cs:List Value) (ds:Array Value),
 (ps.length=b.length/\ ∀(i:Nat) p q,ps[i]?=some p->b[i]?=some q->p.2=q.2.2/\An p.2=true/\h p.1=some (q.1,q.2.1))->
 Al u cs ds.toList->(∀x∈cs,G x=true)->I8 cs A b=true-> ∃k:Array Value,Instr.fill h ds (ps.map λp=>(p.1,a.eval p.2))=some k/\Al u (G5 cs A b) k.toList/\(∀x∈G5 cs A b,G x=true)
 |[],[],cs,ds,_,f,l,_=>⟨ds,rfl,f,l⟩
 |[],_::_,_,_,d,_,_,_=>by simp at d
 |_::_,[],_,_,d,_,_,_=>by simp at d
 | p::ps,(g,r,e)::b,cs,ds,d,f,l,m=>by
   obtain⟨s,v,w⟩:=d.2 0 p (g,r,e) rfl rfl;dsimp only at s w;simp only[I8,Fz,AB,Ba]at m;have n:=o.O (x:=p.2) v;rw[s]at n;have t:=fj n;have E:(a.eval e).cells.size=r:=(by have:=t.1;simp only[Array.length_toList]at this;rw[<-this];exact m.1.1.2);have F:ds.size=cs.length:=(by have:=f.1;simp at this;exact this.symm);have z:Al u (C3 cs g (H (O A e))) ((a.eval e).cells.zipIdx.foldl (λcs (c,j)=>cs.setIfInBounds (g+j) c) ds).toList:=(by rw[aCJ];exact f.C3 _ t);have B: ∀x∈C3 cs g (H (O A e)),G x=true:=re (λx=>G x=true) _ _ _ l (iT n m.1.1.1);obtain⟨k,I,K,L⟩:=fM o h ps b _ _ ⟨by simpa using d.1,λi x y C D=>d.2 (i+1) x y (by simpa using C) (by simpa using D)⟩ z B (by
    grind [I8,VP])
   grind [G5,Instr.fill]
theorem zK: ∀(ps:List (Nat×Operand)) (a:List (Nat×Nat×Operand)),UQ P fs ps=some a->
 ps.length=a.length/\ ∀(i:Nat) p q,ps[i]?=some p->a[i]?=some q->p.2=q.2.2/\An p.2=true/\ ∃f B,fs[p.1]?=some f/\P.info? f.type=some B/\q.1=f.offset/\q.2.1=B.size
 |[],a,h=>by simp[UQ]at h;subst h;simp
 | (j,x)::ps,a,h=>by
   simp only[UQ]at h;split at h
   ·rename_i f e;split at h
    ·rename_i n g b k;split at h
     ·rename_i l;cases h;obtain⟨m,o⟩:=zK ps g k;refine⟨by simp[m],λi p q c d=> ?_⟩;cases i with
      | zero=>
        simp at c d;subst c;subst d;unfold FQ at b;cases X:P.info? f.type with
        |none=>simp[X]at b
        |some B=>exact⟨rfl,l,f,B,e,X,rfl,by simpa[X]using b.symm⟩
      |succ i=>exact o i p q (by simpa using c) (by simpa using d)
     ·cases h
    ·cases h
   ·cases h
theorem jj{z:Nat}: ∀(ps:List (Nat×Operand)) (a:List (Nat×Nat×Operand)),Qa z ps=some a->
 ps.length=a.length/\ ∀(i:Nat) p q,ps[i]?=some p->a[i]?=some q->p.2=q.2.2/\An p.2=true/\q.1=p.1*z/\q.2.1=z
 |[],a,h=>by simp[Qa]at h;subst h;simp
 | (j,x)::ps,a,h=>by
   simp only[Qa]at h;split at h
   ·rename_i b c;split at h
    ·rename_i d;cases h;obtain⟨e,f⟩:=jj ps b c
     grind
    ·cases h
   ·cases h
theorem OR{z:List Value}(h:IC P t=some z): ∃B a,P.info? t=some B/\B.zero=some a/\a.cells.toList=z/\z.all BB=true/\z.length=B.size:=by
 grind [IC]
theorem Kg{n:Nat}(h:FQ P t=some n): ∃B,P.info? t=some B/\B.size=n:=by
 simp_all [FQ]
theorem lA(h:I0 P t=some b):(isAgg t).run P w= .ok b w:=by
 unfold I0 at h;unfold isAgg;split at h<;>first|cases h|skip
 ·rename_i a;simp[run_underlying a]
 ·rename_i a;simp[run_underlying a]
 ·simp_all [run_underlying]
theorem aBw(fs:List Field)(h:fs.all (λf=>(FQ P f.type).isSome)=true):
 ∃a:List (Nat×Nat),(fs.mapM (m:=Sem) λ(f:Field)=>do pure (f.offset,<-sizeOf f.type)).run P w= .ok a w/\ ∀i:Nat,a[i]?=(fs[i]?).bind λ(f:Field)=>(P.info? f.type).map λB=>(f.offset,B.size):=by
 induction fs with
 |nil=>exact⟨[],by simp,by simp⟩
 | cons f fs b=>
   simp only[Fz,AB]at h;obtain⟨a,d,e⟩:=b h.2;obtain⟨n,c⟩:=ax.1 h.1;obtain⟨B,X,_⟩:=Kg c;refine⟨(f.offset,B.size)::a,?_,λi=> ?_⟩
   ·simp_all [sizeOf,typeInfo]
   ·grind
variable {P:Program} {w:World} {o:Oper} {a:Act}
theorem a5r{cells:Array Value}(d:o.op= .build t ps)(X:P.info? t=some B)(e:B.zero=some z)
 (g:P.underlying t=some (.struct fs)) (c:fs.toList.all (λf=>(FQ P f.type).isSome)=true)
 (h: ∀b:Nat->Option (Nat×Nat),(∀i,b i=(fs[i]?).bind λ(f:Field)=>(P.info? f.type).map λB=>(f.offset,B.size))->Instr.fill b z.cells (ps.toList.map λp=>(p.1,a.eval p.2))=some cells):
 EJ P o a w (.agg cells) w:=by
 refine .inl ?_;obtain⟨j,k,l⟩:=aBw (P:=P) (w:=w) fs.toList c
 simp_all [Array.mapM_eq_mapM_toList,execOp,Instr.build,run_underlying,zeroValue,typeInfo]
theorem aDD(c:o.op= .field t x i)(d:P.underlying t=some (.struct fs))(e:fs[i]?=some f)
 (X:P.info? f.type=some B) (hb:I0 P f.type=some b) (g:a.eval x= .agg cs) (l:f.offset+B.size<=cs.size) (h:b=true\/B.size=1):
 EJ P o a w (if b then .agg (cs.toList.drop f.offset|>.take B.size).toArray else cs.toList.getD f.offset undef) w:=by
 refine .inl ?_;have j:=lA (w:=w) hb;simp only[execOp,c,g,Instr.field,Sem.run_bind,run_underlying d,Result.andThen_ok,e,asAgg,Sem.run_pure,part,j];cases b
 ·have m:B.size=1:=(by simpa using h);have k:f.offset<cs.size:=(by omega);simp[k]
 ·simp only[if_true,Sem.run_bind,sizeOf,typeInfo,run_program,X,Sem.run_pure,Result.andThen_ok];congr 3
  grind
theorem aEV{n:Nat}{cells:Array Value}{b:TypeInfo}(c:o.op= .build t ps)(X:P.info? t=some B)(d:B.zero=some z)
 (f:P.underlying t=some (.array n e)) (g:P.info? e=some b)
 (h:Instr.fill (λi=>some (i*b.size,b.size)) z.cells (ps.toList.map λp=>(p.1,a.eval p.2))=some cells):EJ P o a w (.agg cells) w:=by
 refine .inl ?_
 simp_all [execOp,Instr.build,run_underlying,zeroValue,sizeOf,typeInfo]
theorem oP(gu:Bool): ∀(xs:List Value) (a:Value),Bo a=true->(∀x∈xs,Bo x=true)->
 (xs.foldlM (m:=Sem) (if gu then Builtin.max2 else Builtin.min2) a).run P w= .ok (xs.foldl (λa y=>if gu then HI a y else H9 a y) a) w
 |[],_,_,_=>by simp
 | x::xs,a,h,c=>by
   have d:((if gu then Builtin.max2 else Builtin.min2) a x).run P w= .ok (if gu then HI a x else H9 a x) w:=(by have b:=c x (by simp);cases a<;>simp[Bo]at h;cases x<;>simp[Bo]at b;cases gu<;>simp[Builtin.max2,Builtin.min2,HI,H9]);have e:Bo (if gu then HI a x else H9 a x)=true:=by have b:=c x (by simp);cases a<;>simp[Bo]at h;cases x<;>simp[Bo]at b;cases gu<;>simp[HI,H9,Bo]
   simp_all [oP]
theorem tD{c:Call}{xs:List Operand}(h:o.op= .call c)(i:c.callee= .builtin (if gu then .max else .min))(d:c.args.toList=x::xs)
 (e:Bo (a.eval x)=true) (f: ∀y∈xs,Bo (a.eval y)=true):EJ P o a w (xs.foldl (λb y=>if gu then HI b (a.eval y)else H9 b (a.eval y)) (a.eval x)) w:=by
 refine .inl ?_;have j:(c.args.map a.eval).toList=a.eval x::xs.map a.eval:=by simp[d]
 have g:=oP (P:=P) (w:=w) gu (xs.map a.eval) (a.eval x) e (by simpa using f);rw[List.foldl_map]at g;cases gu
 ·simp_all [execOp,resolve,invoke,builtin,Builtin.min_]
 ·simp_all [execOp,resolve,invoke,builtin,Builtin.max_]
theorem bM: ∀(a b:List IV) (xs ys:List Value),Dp (a++b) xs ys=true->Dp a (xs.take a.length) (ys.take a.length)=true/\Dp b (xs.drop a.length) (ys.drop a.length)=true/\
 Ev xs ys=(Ev (xs.take a.length) (ys.take a.length)&&Ev (xs.drop a.length) (ys.drop a.length))
 |[],b,xs,ys,h=>by simpa[Dp,Ev]using h
 |k::a,b,[],ys,h=>by simp[Dp]at h
 |k::a,b,x::xs,[],h=>by simp[Dp]at h
 | k::a,b,x::xs,y::ys,h=>by
   simp only[Ih,Dp,AB]at h;obtain⟨c,d,e⟩:=bM a b xs ys h.2
   grind [Dp,Ev]
theorem bY: ∀(D:List IV) (xs ys:List Value),Dp D xs ys=true->xs.length=D.length/\ys.length=D.length
 |[],[],[],_=>by simp
 |[],[],_::_,h=>by simp[Dp]at h
 |[],_::_,_,h=>by simp[Dp]at h
 |_::_,[],_,h=>by simp[Dp]at h
 |_::_,_::_,[],h=>by simp[Dp]at h
 | k::D,x::xs,y::ys,h=>by simp only[Dp,AB]at h;have:=bY D xs ys h.2;simp[this]
def LY(a:Bool)(xs:List Value):Value:=if a then .agg xs.toArray else xs.headD undef
theorem NZ{xs:List Value}(h:xs.length=1): ∃x,xs=[x]:=by
 match xs,h with
 |[x],_=>exact⟨x,rfl⟩
theorem Yo{n:Nat}{xs:List Value}(hb:I0 P t=some b)(a:FQ P t=some n)(c:b=true\/n=1)(d:off+n<=xs.length):
 (part t xs.toArray off).run P w= .ok (LY b ((xs.drop off).take n)) w:=by
 obtain⟨B,X,rfl⟩:=Kg a;simp only[part,Sem.run_bind,lA hb,Result.andThen_ok];cases b
 ·have e:B.size=1:=(by simpa using c);have f:off<xs.length:=by omega
  simp_all [LY,List.take_one]
 ·simp_all [sizeOf,typeInfo,LY]
theorem aA: ∀(d m:Nat) (t:TypeId) (D:List IV) (xs ys:List Value),Lj P d t=some D->d<=m->Dp D xs ys=true->
 ∃b,I0 P t=some b/\FQ P t=some D.length/\(b=true\/D.length=1)/\(Op.equalIn m t (LY b xs) (LY b ys)).run P w= .ok (Ev xs ys) w
 |0,_,_,_,_,_,h,_,_=>by simp[Lj]at h
 |d+1,0,_,_,_,_,_,h,_=>by omega
 | d+1,m+1,t,D,xs,ys,h,A4,u=>by
   obtain⟨v,z⟩:=bY D xs ys u;unfold Lj at h;split at h
   ·rename_i n c o;split at h<;>cases h;rename_i e;subst e;obtain⟨x,rfl⟩:=NZ v;obtain⟨y,rfl⟩:=NZ z;refine⟨false,by simp[I0,c],o,.inr rfl,?_⟩;cases x<;>cases y<;>simp[Dp,Om]at u
    grind [LY,Ev,Hq,run_equalIn_bool']
   ·rename_i k n c o;split at h<;>cases h;rename_i e;subst e;obtain⟨x,rfl⟩:=NZ v;obtain⟨y,rfl⟩:=NZ z;refine⟨false,by simp[I0,c],o,.inr rfl,?_⟩;cases x<;>cases y<;>simp[Dp,Om]at u
    grind [LY,Ev,Hq,run_equalIn_int]
   ·rename_i n c o;split at h<;>cases h;rename_i e;subst e;obtain⟨x,rfl⟩:=NZ v;obtain⟨y,rfl⟩:=NZ z;refine⟨false,by simp[I0,c],o,.inr rfl,?_⟩;cases x<;>cases y<;>simp[Dp,Om]at u
    grind [LY,Ev,Hq,run_equalIn_string,toList_beq]
   ·rename_i fs n c o;split at h
    ·rename_i A5 F;split at h
     ·rename_i q;cases h;simp only[AB,Ba,Iz]at q;obtain⟨rfl,R⟩:=q;refine⟨true,by simp[I0,c],o,.inl rfl,?_⟩;simp only[LY,if_true];have M:P.fieldsOf t=fs:=(by simp[Program.fieldsOf,c]);rw[run_equalIn_struct w m t _ _ (by rw[M];exact c) R,M]

      have key: ∀(A:List Field) (off:Nat) (G:List IV),V5 (Lj P d) A off=some G->Dp G (xs.drop off) (ys.drop off)=true->
       (Op.eqFields m xs.toArray ys.toArray A).run P w= .ok (Ev (xs.drop off) (ys.drop off)) w:=by
       intro A;induction A with
       | nil=>intro off G g l;simp[V5]at g;subst g;cases I:xs.drop off<;>cases J:ys.drop off<;>simp[I,J,Dp]at l;simp[Op.eqFields,Ev]
       | cons f A N=>
         intro off G g l;simp only[V5]at g;split at g
         ·rename_i q;simp only[AB,bne_iff_ne,ne_eq,beq_iff_eq]at q;obtain⟨A6,A7⟩:=q;split at g
          ·rename_i a S;split at g
           ·rename_i T A8;split at g<;>cases g;rename_i U;obtain⟨C,H,K⟩:=bM a T _ _ l;obtain⟨b,s,p,E,V⟩:=aA d m f.type a _ _ S (by omega) C;have L:=(bY _ _ _ l);simp only[List.length_drop,Ds]at L;have W:=Yo (w:=w) (off:=off) (xs:=xs) s p E (by omega);have Y:=Yo (w:=w) (off:=off) (xs:=ys) s p E (by omega)
            grind [List.drop_drop,Op.eqFields,Sem.run_bind,Result.andThen_ok,Sem.run_pure]
           ·cases g
          ·cases g
         ·cases g
      grind
     ·cases h
    ·cases h
   ·
    rename_i k e n c o;split at h
    ·rename_i a F;split at h
     ·rename_i q;cases h;simp only[AB,Ba]at q;obtain⟨rfl,U⟩:=q;have Z: ∀r:Nat,(List.replicate r a).flatten.length=r*a.length:=by
       simp_all
      refine⟨true,by simp[I0,c],by rw[o,Z],.inl rfl,?_⟩;simp only[LY,if_true];by_cases A0:k=0
      ·subst A0;simp only[List.replicate_zero,List.flatten_nil]at u v z;have s:xs=[]:=Gy.1 v;have p:ys=[]:=Gy.1 z;subst s p;simp[Op.equalIn,run_underlying c,Ev,sizeOf,typeInfo];cases X:P.info? e with
       | none=>

         exfalso;cases d with
         |zero=>simp[Lj]at F
         | succ d=>
           grind [Lj,FQ]
       |some i=>simp
      ·obtain⟨O,rfl⟩: ∃O,k=O+1:=⟨k-1,by omega⟩;have Q:=u;rw[Rv,HM]at Q;obtain⟨C,_,_⟩:=bM a _ xs ys Q;obtain⟨A9,_,p,_,_⟩:=aA d m e a _ _ F (by omega) C;obtain⟨B,X,A1⟩:=Kg p;have A2:P.cellsOf e=a.length:=(by simp[Program.cellsOf,X,A1]);rw[run_equalIn_array w m xs.toArray ys.toArray c X,A2,List.range_eq_range']
       have key: ∀(r j:Nat),Dp (List.replicate r a).flatten (xs.drop (j*a.length)) (ys.drop (j*a.length))=true->
        (Op.eqItems m e a.length xs.toArray ys.toArray (List.range' j r)).run P w= .ok (Ev (xs.drop (j*a.length)) (ys.drop (j*a.length))) w:=by
        intro r;induction r with
        | zero=>intro j l;simp only[List.replicate_zero,List.flatten_nil]at l;cases I:xs.drop (j*a.length)<;>cases J:ys.drop (j*a.length)<;>simp[I,J,Dp]at l;simp[Op.eqItems,Ev]
        | succ r N=>
          intro j l;rw[Rv,HM]at l;obtain⟨C,H,K⟩:=bM a _ _ _ l;obtain⟨b,s,p,E,V⟩:=aA d m e a _ _ F (by omega) C;have L:=bY _ _ _ l;simp only[List.length_drop,Ds]at L;have W:=Yo (w:=w) (off:=j*a.length) (xs:=xs) s p E (by omega);have Y:=Yo (w:=w) (off:=j*a.length) (xs:=ys) s p E (by omega);simp only[lG]at H K;have A3:j*a.length+a.length=(j+1)*a.length:=(by rw[Hl];omega);rw[A3]at H K;have AD:=N (j+1) H;rw[List.range'_succ]
          grind [Op.eqItems,Sem.run_bind,Result.andThen_ok,Sem.run_pure]
       simp_all
     ·cases h
    ·cases h
   ·cases h
termination_by d=>d
theorem a1B{ys:Array Value}(c:Bool)(f:o.op= .binOp op t x y N)(k:op=if c then .neq else .eql)(g:Lj P 8 t=some D)
 (h:P.eqGuardType P.depth t=false) (l:Hw P t= .agg) (d:a.eval x= .agg xs) (e:a.eval y= .agg ys) (i:Dp D xs.toList ys.toList=true):
 EJ P o a w (.bool (if c then !Ev xs.toList ys.toList else Ev xs.toList ys.toList)) w:=by
 obtain⟨b,m,_,_,j⟩:=aA (P:=P) (w:=w) 8 10000 t D xs.toList ys.toList g (by omega) i;have hb:b=true:=by
  grind [Hw,I0]
 subst hb;simp only[LY,if_true,K7]at j;refine Wj f (by rw[d,e];exact run_eqGuard_agg w op t x y xs ys h) ?_;rw[d,e];cases c
 ·simp_all [run_eql_struct]
 ·simp_all [run_neq_struct]
end Go.DI
