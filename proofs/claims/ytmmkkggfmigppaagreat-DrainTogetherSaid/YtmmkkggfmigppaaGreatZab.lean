/-
  A part of the proof, shortened by tools of ours.
-/
import Derived.ChangeKeysEq
import Derived.Test.YtmmkkggfmigppaaGreatZaa
set_option linter.all false
set_option maxRecDepth 8000
set_option maxHeartbeats 16000000
namespace Go.DI
open Go Go.RowKit
structure vh where
 c:Nat
 o:Nat
 n:Nat
abbrev Ren:=Nat->Option vh
inductive dM(ag:Ren):Value->Value->Prop
 |c7 {v:Value} (h:ei v=true):dM ag v v
 |bH {b off:Nat} {l:vh} (h:ag b=some l):dM ag (.pointer (some ⟨b,off,none⟩)) (.pointer (some ⟨l.c,l.o+off,none⟩))
 | slice {b off len G cap:Nat} {ed:Addr} {l:vh} (h:ag b=some l) (ae:(cap=0/\len=0)\/(ed=⟨l.c,l.o+off,none⟩/\off+cap*G<=l.n)) (az:len<=cap) (ab:cap<=maxLen):
  dM ag (.slice (some ⟨b,off,none⟩) len G) (.slice (some ed) len cap)
 |agg {xs ys:Array Value} (F:xs.size=ys.size) (h: ∀(i:Nat) (x y:Value),xs[i]?=some x->ys[i]?=some y->dM ag x y) (A: ∀x∈xs.toList,aq x=true):dM ag (.agg xs) (.agg ys)
 |tuple {xs ys:Array Value} (F:xs.size=ys.size) (h: ∀(i:Nat) (x y:Value),xs[i]?=some x->ys[i]?=some y->dM ag x y):dM ag (.tuple xs) (.tuple ys)
 | func {fn:Fn} {xs ys cs ds:Array Value} (F:xs.size=ys.size) (h: ∀(i:Nat) (x y:Value),xs[i]?=some x->ys[i]?=some y->dM ag x y)
  (ie:cs.size=ds.size) (D: ∀(i:Nat) (x y:Value),cs[i]?=some x->ds[i]?=some y->dM ag x y):dM ag (.func fn xs cs) (.func fn ys ds)
 |iface {t:TypeId} {v bX:Value} (h:dM ag v bX):dM ag (.iface t v) (.iface t bX)
 |map {b:Nat} {l:vh} (h:ag b=some l):dM ag (.map (some b)) (.map (some l.c))
def gH(ag cT:Ren):Prop:= ∀b l,ag b=some l->cT b=some l
theorem gH.refl(ag:Ren):gH ag ag:= λ_ _ h=>h
theorem gH.trans{a b c:Ren}(h:gH a b)(cn:gH b c):gH a c:= λx l B=>cn x l (h x l B)
theorem dM.bD{ag cT:Ren}(eV:gH ag cT){v bX:Value}(h:dM ag v bX):dM cT v bX:=by
 induction h with
 |c7 h=>exact .c7 h
 |bH h=>exact .bH (eV _ _ h)
 |slice h ae az ab=>exact .slice (eV _ _ h) ae az ab
 |agg F _ A cf=>exact .agg F cf A
 |tuple F _ cf=>exact .tuple F cf
 |func F _ ie _ cf Xu=>exact .func F cf ie Xu
 |iface _ cf=>exact .iface cf
 |map h=>exact .map (eV _ _ h)
def da(ag:Ren)(xs ys:List Value):Prop:=xs.length=ys.length/\ ∀(i:Nat) (x y:Value),xs[i]?=some x->ys[i]?=some y->dM ag x y
theorem da.nil(ag:Ren):da ag [] []:=⟨rfl,by intro i x y h;simp at h⟩
theorem da.cons{ag:Ren}{x y:Value}{xs ys:List Value}(h:dM ag x y)(F:da ag xs ys):da ag (x::xs) (y::ys):=by
 refine⟨by simp[F.1],λi a b aa hb=> ?_⟩;cases i with
 |zero=>simp at aa hb;subst aa;subst hb;exact h
 |succ i=>exact F.2 i a b (by simpa using aa) (by simpa using hb)
theorem da.bD{ag cT:Ren}(eV:gH ag cT){xs ys:List Value}(h:da ag xs ys):da cT xs ys:=⟨h.1,λi x y B Y=>(h.2 i x y B Y).bD eV⟩
theorem da.agg{ag:Ren}{xs ys:List Value}(h:da ag xs ys)(A: ∀x∈xs,aq x=true):dM ag (.agg xs.toArray) (.agg ys.toArray):= .agg (by simpa using h.1) (by simpa using h.2) (by simpa using A)
theorem da.tuple{ag:Ren}{xs ys:List Value}(h:da ag xs ys):dM ag (.tuple xs.toArray) (.tuple ys.toArray):= .tuple (by simpa using h.1) (by simpa using h.2)
theorem da.pV{ag:Ren}{a b c d:List Value}(h:da ag a b)(cn:da ag c d):da ag (a++c) (b++d):=by
 refine⟨by simp[h.1,cn.1],λi x y B Y=> ?_⟩;rw[zb]at B Y;rw[<-h.1]at Y;split at B
 ·rename_i W;rw[if_pos W]at Y;exact h.2 _ _ _ B Y
 ·rename_i W;rw[if_neg W]at Y;exact cn.2 _ _ _ B Y
theorem da.drop{ag:Ren}{a b:List Value}(h:da ag a b)(n:Nat):da ag (a.drop n) (b.drop n):=
 ⟨by simp[h.1],λi x y B Y=>h.2 (n+i) x y (by simpa using B) (by simpa using Y)⟩
theorem da.take{ag:Ren}{a b:List Value}(h:da ag a b)(n:Nat):da ag (a.take n) (b.take n):=by
 refine⟨by simp[h.1],λi x y B Y=> ?_⟩;rw[rf]at B Y;split at B
 ·rename_i W;rw[if_pos W]at Y;exact h.2 _ _ _ B Y
 ·cases B
theorem da.set{ag:Ren}{a b:List Value}(h:da ag a b)(n:Nat){x y:Value}(M:dM ag x y):da ag (a.set n x) (b.set n y):=by
 refine⟨by simp[h.1],λi bf v B Y=> ?_⟩;rw[AX]at B Y;rw[<-h.1]at Y;split at B
 ·rename_i W;rw[if_pos W]at Y;split at B
  ·rename_i D;rw[if_pos D]at Y;simp at B Y;subst B;subst Y;exact M
  ·cases B
 ·rename_i W;rw[if_neg W]at Y;exact h.2 _ _ _ B Y
theorem da.gE{ag:Ren}: ∀{vs dp:List Value} {a b:List Value} (off:Nat),da ag a b->da ag vs dp->da ag (gE a off vs) (gE b off dp)
 |[],[],_,_,_,h,_=>h
 |[],bf::dp,_,_,_,_,D=>by simp[da]at D
 |v::vs,[],_,_,_,_,D=>by simp[da]at D
 | v::vs,bf::dp,a,b,off,h,D=>by simp only[Go.DI.gE];exact da.gE (off+1) (h.set off (D.2 0 v bf rfl rfl)) ⟨by simpa using D.1,λi x y B Y=>D.2 (i+1) x y (by simpa using B) (by simpa using Y)⟩
theorem da.I{ag:Ren}{a b:List Value}(h:da ag a b){i:Nat}{x:Value}(B:a[i]?=some x): ∃y,b[i]?=some y/\dM ag x y:=by have W:i<a.length:=(cG.1 B).1;rw[h.1]at W;exact⟨b[i],c1 W,h.2 i x _ B (c1 W)⟩
theorem da.HU{ag:Ren}{dF:Type}(f g:dF->Value): ∀(l:List dF),(∀x∈l,dM ag (f x) (g x))->da ag (l.map f) (l.map g)
 |[],_=>da.nil ag
 |x::l,h=>da.cons (h x (by simp)) (da.HU f g l λy Y=>h y (by simp[Y]))
theorem da.c7(ag:Ren){cs:List Value}(h:cs.all ei=true):da ag cs cs:=by refine⟨rfl,λi x y B Y=> ?_⟩;rw[B]at Y;cases Y;exact .c7 (dP.1 h x (fr B))
theorem zI{v:Value}(h:ei v=true):aq v=true:=by cases v<;>simp_all [ei,Go.DI.aq]
theorem dM.m4(ag:Ren){v:Value}(h:m4 v=true):dM ag v v:=by
 unfold Go.DI.m4 at h;split at h
 ·rename_i cs;have:=da.agg (da.c7 ag h) (λv M=>zI (dP.1 h v M));simpa using this
 ·rename_i cs;have:=da.tuple (da.c7 ag h);simpa using this
 ·exact .c7 h
theorem dM.undef(ag:Ren):dM ag undef undef:=da.tuple (da.nil ag)
theorem dM.aq{ag:Ren}{v bX:Value}(h:dM ag v bX):aq bX=aq v:=by cases h<;>simp[Go.DI.aq]
theorem adz{ag:Ren}{v bX:Value}(h:dM ag v bX):da ag (an v) bX.cells.toList:=by
 cases h with
 |agg F h _=>exact⟨by simpa[an,Value.cells]using F,by simpa[an,Value.cells]using h⟩
 | c7 h=>cases v<;>simp[ei]at h<;>exact da.cons (.c7 (by simp[ei,h])) (da.nil ag)
 |bH h=>exact da.cons (.bH h) (da.nil ag)
 |slice h ae az ab=>exact da.cons (.slice h ae az ab) (da.nil ag)
 |tuple F h=>exact da.cons (.tuple F h) (da.nil ag)
 |func F h ie D=>exact da.cons (.func F h ie D) (da.nil ag)
 |iface h=>exact da.cons (.iface h) (da.nil ag)
 |map h=>exact da.cons (.map h) (da.nil ag)
theorem ady{ag:Ren}{v bX:Value}(h:dM ag v bX)(ae:au v=true): ∀x∈an v,aq x=true:=by
 intro x B;cases h with
 |agg F h A=>exact A x B
 |c7 h=>cases v<;>simp[ei,an]at h B<;>subst B<;>rfl
 |bH h=>simp[an]at B;subst B;rfl
 |slice h ae az ab=>simp[an]at B;subst B;rfl
 |tuple F h=>simp[au]at ae
 |func F h ie D=>simp[an]at B;subst B;rfl
 |iface h=>simp[an]at B;subst B;rfl
 |map h=>simp[an]at B;subst B;rfl
theorem dM.ar0{ag:Ren}{xs:Array Value}{v:Value}(h:dM ag (.agg xs) v): ∀x∈xs.toList,Go.DI.aq x=true:=by
 cases h with
 |c7 h=>simp[ei]at h
 |agg F h A=>exact A
theorem dM.tE{ag:Ren}{k:IntKind}{n:Int}{v:Value}(h:dM ag (.int k n) v):v= .int k n:=by cases h;rfl
theorem dM.tD{ag:Ren}{b:Bool}{v:Value}(h:dM ag (.bool b) v):v= .bool b:=by cases h;rfl
theorem dM.Ab{ag:Ren}{s:ByteArray}{v:Value}(h:dM ag (.string s) v):v= .string s:=by cases h;rfl
theorem dM.sv{ag:Ren}{a:Addr}{v:Value}(h:dM ag (.pointer (some a)) v): ∃l,ag a.block=some l/\a.spot=none/\v= .pointer (some ⟨l.c,l.o+a.off,none⟩):=by
 cases h with
 |c7 h=>simp[ei]at h
 |bH h=>exact⟨_,h,rfl,rfl⟩
theorem dM.l6{ag:Ren}{a:Addr}{len G:Nat}{v:Value}(h:dM ag (.slice (some a) len G) v):
 ∃l ed cap,ag a.block=some l/\a.spot=none/\v= .slice (some ed) len cap/\((cap=0/\len=0)\/(ed=⟨l.c,l.o+a.off,none⟩/\a.off+cap*G<=l.n))/\len<=cap/\cap<=maxLen:=by
 cases h with
 |c7 h=>simp[ei]at h
 |slice h ae az ab=>exact⟨_,_,_,h,rfl,rfl,ae,az,ab⟩
theorem dM.uI{ag:Ren}{xs:Array Value}{v:Value}(h:dM ag (.agg xs) v): ∃ys,v= .agg ys/\da ag xs.toList ys.toList:=by
 cases h with
 |c7 h=>simp[ei]at h
 |agg F h _=>exact⟨_,rfl,by simpa using F,by simpa using h⟩
theorem dM.Er{ag:Ren}{xs:Array Value}{v:Value}(h:dM ag (.tuple xs) v): ∃ys,v= .tuple ys/\da ag xs.toList ys.toList:=by
 cases h with
 |c7 h=>simp[ei]at h
 |tuple F h=>exact⟨_,rfl,by simpa using F,by simpa using h⟩
theorem dM.Ep{ag:Ren}{fn:Fn}{xs cs:Array Value}{v:Value}(h:dM ag (.func fn xs cs) v): ∃ys ds,v= .func fn ys ds/\da ag xs.toList ys.toList/\da ag cs.toList ds.toList:=by
 cases h with
 |c7 h=>simp[ei]at h
 |func F h ie D=>exact⟨_,_,rfl,⟨by simpa using F,by simpa using h⟩,by simpa using ie,by simpa using D⟩
theorem dM.KT{ag:Ren}{t:TypeId}{x v:Value}(h:dM ag (.iface t x) v): ∃y,v= .iface t y/\dM ag x y:=by
 cases h with
 |c7 h=>simp[ei]at h
 |iface h=>exact⟨_,rfl,h⟩
theorem dM.KU{ag:Ren}{b:Nat}{v:Value}(h:dM ag (.map (some b)) v): ∃l,ag b=some l/\v= .map (some l.c):=by
 cases h with
 |c7 h=>simp[ei]at h
 |map h=>exact⟨_,h,rfl⟩
theorem dM.hL{ag:Ren}{v bX:Value}(h:dM ag v bX)(a5:ei v=true):bX=v:=by cases h<;>first|rfl|simp[ei]at a5
structure g7(ag:Ren)(dc:Nat)(z:aC)(a:Act):Prop where
 size:a.tmps.size=dc
 defers:a.defers=[]
 og: ∀t,dM ag (z t) (a.tmps.getD t undef)
theorem g7.bD{ag cT:Ren}(eV:gH ag cT){dc:Nat}{z:aC}{a:Act}(h:g7 ag dc z a):g7 cT dc z a:=⟨h.size,h.defers,λt=>(h.og t).bD eV⟩
theorem g7.O{ag:Ren}{dc:Nat}{z:aC}{a:Act}(h:g7 ag dc z a){x:Operand}(B:df x=true):dM ag (O z x) (a.eval x):=by
 cases x with
 |tmp t=>exact h.og t
 |const v=>exact dM.m4 ag B
 |func f=>exact .func rfl (by intro i x y h;simp at h) rfl (by intro i x y h;simp at h)
 |global g=>simp[df]at B
theorem g7.aO{ag:Ren}{dc:Nat}{z:aC}{a:Act}(h:g7 ag dc z a){d:Option Nat}(aV:d.all (λd=>decide (d<dc))=true){v bX:Value}(M:dM ag v bX):g7 ag dc (cZ z d v) (a.put d bX):=by
 cases d with
 |none=>exact h
 | some d=>
   have uz:d<dc:=(by simpa using aV);refine⟨by simp[Act.put,h.size],h.defers,λt=> ?_⟩;simp only[cZ,k7,Act.put];by_cases e:t=d
   ·subst e;have:t<a.tmps.size:=(by rw[h.size];exact uz);simpa[this]using M
   ·have:=h.og t;simp only[Array.getD_eq_getD_getElem?]at this⊢;rw[Array.getElem?_setIfInBounds_ne (Ne.symm e)];simpa[e]using this
def A4(ag:Ren)(es:List (Value×Value))(db:List MapEntry):Prop:=es.length=db.length/\ ∀(i:Nat) e dd,es[i]?=some e->db[i]?=some dd->ei e.1=true/\dd.key=e.1/\aq e.2=true/\dM ag e.2 dd.val
theorem A4.bD{ag cT:Ren}(eV:gH ag cT){es:List (Value×Value)}{db:List MapEntry}(h:A4 ag es db):A4 cT es db:=
 ⟨h.1,λi e dd A D=>by obtain⟨a,b,c,d⟩:=h.2 i e dd A D;exact⟨a,b,c,d.bD eV⟩⟩
theorem H.x5{m:H}{b:Nat}{es:List (Value×Value)}(h:m.fu b=some es):m.I b=some ⟨[],true⟩/\m.mp b=some es:=by
 unfold H.fu at h;split at h
 ·rename_i aH;exact⟨aH,h⟩
 ·cases h
theorem H.kB{m:H}{b:Nat}{es:List (Value×Value)}(A:m.I b=some ⟨[],true⟩)(D:m.mp b=some es):m.fu b=some es:=by unfold H.fu;rw[A];exact D
def oU(w:World)(c:Nat):Prop:= ∀t k,w.shape? c=some (t,k)->w.frozen? ⟨c,k,none⟩=false
theorem oU.Ct{w w':World}{c:Nat}(h:oU w c)(e:w'.heap[c]?=w.heap[c]?):oU w' c:= λt k F=>by
 have A:w'.shape? c=w.shape? c:=by simp only[World.shape?,e]
 have D:w'.frozen? ⟨c,k,none⟩=w.frozen? ⟨c,k,none⟩:=by simp only[World.frozen?,e]
 rw[D];exact h t k (by rw[<-A];exact F)
theorem oU.setCells{c:Nat}(b:Nat): ∀(vs:List Value) (o:Nat) {w:World},oU w c->oU (w.setCells b o vs) c
 |[],_,_,h=>h
 | v::vs,o,w,h=>by
   rw[World.setCells];refine oU.setCells b vs _ ?_;intro t k F;have key:(w.setCell ⟨b,o,none⟩ v).heap[c]?=if b=c then(w.heap[c]?).map (λx=>match x with
    | .cells cs e bZ=> .cells (cs.setIfInBounds o v) e bZ
    |x=>x)else w.heap[c]?:=by
    simp only[World.setCell,Array.getElem?_modify];rfl
   by_cases e:b=c
   ·rw[if_pos e]at key;cases A:w.heap[c]? with
    |none=>rw[A]at key;simp[World.shape?,key]at F
    | some x=>
      rw[A]at key;cases x with
      | cells cs bf bZ=>have:=h bf cs.size (by simp only[World.shape?,A]);simp only[World.frozen?,A]at this;simp only[World.shape?,key,Option.map_some,mB,wq,Array.size_setIfInBounds]at F;obtain⟨_,rfl⟩:=F;simp only[World.frozen?,key,Option.map_some];exact this
      |_=>simp[World.shape?,key]at F
   ·rw[if_neg e]at key;exact h.Ct key t k F
theorem oU.anN{w:World}{c:Nat}{es:Array MapEntry}{bd:Nat}(h:w.heap[c]?=some (.map es bd)):oU w c:= λt k F=>by simp[World.shape?,h]at F
theorem oU.anM{w:World}{c:Nat}{ds:Array Value}{e:TypeId}{bZ:Nat×Nat}(h:w.heap[c]?=some (.cells ds e bZ))(a5: ¬(bZ.1<=ds.size/\ds.size<bZ.2)):oU w c:= λt k F=>by simp only[World.shape?,h,mB,wq]at F;obtain⟨_,rfl⟩:=F;simp only[World.frozen?,h];simpa using a5
structure dv(aN:Nat)(ag:Ren)(m:H)(w:World):Prop where
 lf: ∀b l,ag b=some l->b<m.next
 l4: ∀b l,ag b=some l->l.c<w.heap.size
 l8: ∀b x,m.I b=some x-> ∃l,ag b=some l/\x.cells.length<=l.n/\(∀i v,x.cells[i]?=some v->aq v=true/\ ∃bX,w.cell? ⟨l.c,l.o+i,none⟩=some bX/\dM ag v bX)/\
  (x.own=true->aN<=l.c/\ ∀i,i<l.n->(w.cell? ⟨l.c,l.o+i,none⟩).isSome=true/\w.frozen? ⟨l.c,l.o+i,none⟩=false)
 rA: ∀b x cw hy l c5,m.I b=some x->x.own=true->m.I cw=some hy->b≠cw->ag b=some l->ag cw=some c5->l.c≠c5.c
 xn: ∀b es,m.mp b=some es-> ∃l,ag b=some l
 maps: ∀b es,m.fu b=some es-> ∃l db as4,ag b=some l/\aN<=l.c/\w.heap[l.c]?=some (.map db as4)/\A4 ag es db.toList
 tK: ∀b x l,m.I b=some x->x.own=true->ag b=some l->oU w l.c
theorem H.aM{m:H}{b:Nat}{x:eM}(h:m.I b=some x):b<m.next:=by
 unfold H.I at h;split at h
 ·assumption
 ·cases h
theorem H.mK(m:H)(b cw:Nat)(x:Option eM):(m.aO b x).I cw=if cw=b then(if b<m.next then x else none)else m.I cw:=by
 unfold H.I H.aO;by_cases h:cw=b
 ·subst h;simp
 ·simp[h]
theorem H.cJ(m:H)(k b:Nat):(m.b0 k).I b=m.I b:=by
 unfold H.I H.b0;by_cases h:b<m.next
 ·simp[h,ql h (Nat.le_add_right _ _)]
 ·simp[h]
theorem H.Nc(m:H)(b:Nat)(x:Option eM):(m.aO b x).next=m.next:=rfl
theorem H.qy(m:H)(k:Nat):(m.b0 k).next=m.next+k:=rfl
theorem dv.b0{aN:Nat}{ag:Ren}{m:H}{w:World}(h:dv aN ag m w)(k:Nat):dv aN ag (m.b0 k) w:=
 ⟨λb l hb=>ql (h.lf b l hb) (by simp[H.qy]),h.l4,λb x B=>h.l8 b x (by rwa [H.cJ]at B),
  λb x cw hy l c5 A D ai=>h.rA b x cw hy l c5 (by rwa [H.cJ]at A) D (by rwa [H.cJ]at ai),
  h.xn,λb es hb=>by obtain⟨aE,a2⟩:=H.x5 hb;rw[H.cJ]at aE;exact h.maps b es (H.kB aE a2),λb x l B=>h.tK b x l (by rwa [H.cJ]at B)⟩
theorem dv.aqE{aN:Nat}{ag:Ren}{m:H}{w w':World}(h:dv aN ag m w)(bT:w'.heap=w.heap):dv aN ag m w':=by
 have ar: ∀a,w'.cell? a=w.cell? a:= λa=>by simp[World.cell?,bT]
 have a5: ∀a,w'.frozen? a=w.frozen? a:= λa=>by simp[World.frozen?,bT]
 exact⟨h.lf,by rw[bT];exact h.l4,λb x B=>by simpa only[ar,a5]using h.l8 b x B,h.rA,h.xn,λb es hb=>by rw[bT];exact h.maps b es hb,λb x l A D ai=>(h.tK b x l A D ai).Ct (by rw[bT])⟩
def kf(P:Program)(o:Oper)(a:Act)(w:World)(v:Value)(w':World):Prop:=
 (execOp a.eval o).run P w= .ok (.value v) w'\/((execOp a.eval o).run P w= .ok .skip w'/\v=undef)
section
variable {P:Program} {o:Oper} {a:Act} {w:World}
theorem aI4{x:Operand}(b1:o.op= .move x):kf P o a w (a.eval x) w:= .inl (by simp[execOp,b1])
theorem aIN{x:Operand}(b1:o.op= .assign x):kf P o a w (a.eval x) w:= .inl (by simp[execOp,b1])
theorem aI6{c x y:Operand}{b:Bool}(b1:o.op= .pick c x y)(ar:a.eval c= .bool b):kf P o a w (if b then a.eval x else a.eval y) w:=
 .inl (by simp[execOp,b1,ar,asBool])
theorem aI5{x:Operand}(b1:o.op= .nilCheck x)(B:Cb (a.eval x)=true):kf P o a w (a.eval x) w:=by
 refine .inl ?_;simp only[execOp,b1];generalize a.eval x=v at B;cases v<;>simp_all [Cb]
 ·rename_i p;cases p<;>simp_all
 ·rename_i fn _ _;cases fn<;>simp_all
theorem Od{op:BinOp}{t C6:TypeId}{x y:Operand}{v:Value}(b1:o.op= .binOp op t x y C6)(aH:(eqGuard op t x y (a.eval x) (a.eval y)).run P w= .ok () w)
 (h:(binOp op t (a.eval x) (a.eval y)).run P w= .ok v w):kf P o a w v w:=
 .inl (by simp[execOp,b1,aH,h])
theorem aI9{op:UnOp}{t:TypeId}{x:Operand}(b1:o.op= .unOp op t x)(B:AO op (a.eval x)=true):kf P o a w (FT op (a.eval x)) w:=by refine .inl ?_;simp only[execOp,b1];generalize a.eval x=v at B;cases op<;>cases v<;>simp_all [AO,FT,Op.unary,Op.intArith]
theorem aIV{x:Operand}{i:Nat}{vs:Array Value}(b1:o.op= .extract x i)(B:a.eval x= .tuple vs)(W:i<vs.size):kf P o a w (CY (a.eval x) i) w:=by refine .inl ?_;simp[execOp,b1,B,Instr.extract,W,CY]
theorem aIS{s d:TypeId}{k uO bK:IntKind}{n:Int}{x:Operand}(b1:o.op= .convert s d x)(F:P.underlying s=some (.int uO))(aV:P.underlying d=some (.int k))(B:a.eval x= .int bK n):
 kf P o a w (.int k (k.wrap n)) w:=by
 refine .inl ?_;simp[execOp,b1,B,convert,underlying,F,aV,Conv.intToInt]
theorem aIT{s d:TypeId}{b:ByteArray}{x:Operand}(b1:o.op= .convert s d x)(F:P.underlying s=some .string)(aV:P.underlying d=some .string)(B:a.eval x= .string b):
 kf P o a w (.string b) w:=by
 refine .inl ?_;simp[execOp,b1,B,convert,underlying,F,aV]
theorem aI3{fn:Fn}{x y:Array Operand}(b1:o.op= .makeFunc fn x y):kf P o a w (.func fn (x.map a.eval) (y.map a.eval)) w:=
 .inl (by simp[execOp,b1,Instr.makeFunc])
theorem aIW{s:TypeId}{x:Operand}{i:Nat}{fs:Array Field}{f:Field}{b3:TypeInfo}{c off:Nat}(b1:o.op= .fieldAddr s x i)(F:P.underlying s=some (.struct fs))(a5:fs[i]?=some f)
 (W:P.info? f.type=some b3) (ae:0<b3.size) (B:a.eval x= .pointer (some ⟨c,off,none⟩)):kf P o a w (.pointer (some ⟨c,off+f.offset,none⟩)) w:=by
 refine .inl ?_;have:b3.size≠0:=by omega
 simp[execOp,b1,B,Instr.fieldAt,underlying,F,a5,Instr.sureAddr,fieldPlace,sizeOf,typeInfo,W,this,Addr.add]
theorem aIY{t e:TypeId}{x i:Operand}{b3:TypeInfo}{c off len cap:Nat}{k:IntKind}{n:Int}(b1:o.op= .indexAddr t x i)(ba:P.underlying t=some (.slice e))
 (W:P.info? e=some b3) (B:a.eval x= .slice (some ⟨c,off,none⟩) len cap) (ae:a.eval i= .int k n) (bY:0<=n) (A:n<(len:Int)):
 kf P o a w (.pointer (some ⟨c,off+n.toNat*b3.size,none⟩)) w:=by
 refine .inl ?_;simp[execOp,b1,B,ae,Instr.indexAt,asIntOf,underlying,ba,sizeOf,typeInfo,W,bY,A,Addr.add]
theorem aIZ{t e:TypeId}{x i:Operand}{b3:TypeInfo}{c off len:Nat}{k:IntKind}{n:Int}(b1:o.op= .indexAddr t x i)(ba:P.underlying t=some (.array len e))
 (W:P.info? e=some b3) (B:a.eval x= .pointer (some ⟨c,off,none⟩)) (ae:a.eval i= .int k n) (bY:0<=n) (A:n<(len:Int)):
 kf P o a w (.pointer (some ⟨c,off+n.toNat*b3.size,none⟩)) w:=by
 refine .inl ?_;simp[execOp,b1,B,ae,Instr.indexAt,asIntOf,underlying,ba,sizeOf,typeInfo,W,bY,A,Addr.add,Instr.sureAddr]
theorem aI0{t:TypeId}{x i:Operand}{s:ByteArray}{k:IntKind}{n:Int}(b1:o.op= .index t x i)(ba:P.underlying t=some .string)
 (B:a.eval x= .string s) (ae:a.eval i= .int k n) (bY:0<=n) (A:n<(s.size:Int)):
 kf P o a w (.int .u8 ((s.data.toList.getD n.toNat 0).toNat:Nat)) w:=by
 refine .inl ?_;have D:n.toNat<s.size:=by omega
 have ai:s[n.toNat]?=some (s.data.toList.getD n.toNat 0):=by rw[getElem?_pos s n.toNat D];have:n.toNat<s.data.size:=D;simp only[nQ,Og,IZ this,A0];rfl
 simp[execOp,b1,B,ae,Instr.index,asIntOf,underlying,ba,bY,ai]
theorem aI1{c:Call}{x:Operand}{t:TypeId}{s:ByteArray}(b1:o.op= .call c)(ar:c.callee= .builtin .len)(aa:c.args.toList=[x])(fO:c.argTypes.toList=[t])
 (ba:P.underlying t=some .string) (B:a.eval x= .string s):kf P o a w (.int .i64 s.size) w:=by
 refine .inl ?_;have kD:c.args= #[x]:=by rw[<-sW (xs:=c.args),aa]
 have zP:c.argTypes= #[t]:=by rw[<-sW (xs:=c.argTypes),fO]
 simp[execOp,b1,resolve,ar,kD,zP,invoke,builtin,Builtin.len_,underlying,ba,B,goInt]
theorem aI2{c:Call}{x:Operand}{t e:TypeId}{p:Option Addr}{l cap:Nat}(b1:o.op= .call c)(ar:c.callee= .builtin .len)(aa:c.args.toList=[x])(fO:c.argTypes.toList=[t])
 (ba:P.underlying t=some (.slice e)) (B:a.eval x= .slice p l cap):kf P o a w (.int .i64 l) w:=by
 refine .inl ?_;have kD:c.args= #[x]:=by rw[<-sW (xs:=c.args),aa]
 have zP:c.argTypes= #[t]:=by rw[<-sW (xs:=c.argTypes),fO]
 simp[execOp,b1,resolve,ar,kD,zP,invoke,builtin,Builtin.len_,underlying,ba,B,goInt]
theorem aIR{c:Call}{x:Operand}{t e:TypeId}{p:Option Addr}{l cap:Nat}(b1:o.op= .call c)(ar:c.callee= .builtin .cap)(aa:c.args.toList=[x])(fO:c.argTypes.toList=[t])
 (ba:P.underlying t=some (.slice e)) (B:a.eval x= .slice p l cap):kf P o a w (.int .i64 cap) w:=by
 refine .inl ?_;have kD:c.args= #[x]:=by rw[<-sW (xs:=c.args),aa]
 have zP:c.argTypes= #[t]:=by rw[<-sW (xs:=c.argTypes),fO]
 simp[execOp,b1,resolve,ar,kD,zP,invoke,builtin,Builtin.cap_,underlying,ba,B,goInt]
end
section
variable {P:Program} {w:World}
theorem aFL{t:TypeId}(d:Nat)(h:P.underlying t=some .bool)(a b:Bool):(Op.equalIn (d+1) t (.bool a) (.bool b)).run P w= .ok (a==b) w:=by simp[Op.equalIn,run_underlying h]
theorem aFN{t e:TypeId}(d:Nat)(h:P.underlying t=some (.pointer e))(p q:Option Addr)(sq:p=none\/q=none):(Op.equalIn (d+1) t (.pointer p) (.pointer q)).run P w= .ok (p.isNone&&q.isNone) w:=by
 rcases sq with rfl|rfl
 ·simp[Op.equalIn,run_underlying h]
 ·cases p<;>simp[Op.equalIn,run_underlying h]
theorem aFO{t e:TypeId}(d:Nat)(h:P.underlying t=some (.slice e))(p q:Option Addr)(l c c5 nw:Nat)(sq:p=none\/q=none):(Op.equalIn (d+1) t (.slice p l c) (.slice q c5 nw)).run P w= .ok (p.isNone&&q.isNone) w:=by
 rcases sq with rfl|rfl
 ·simp[Op.equalIn,run_underlying h]
 ·cases p<;>simp[Op.equalIn,run_underlying h]
theorem aFM{t:TypeId}{bu bs:Array TypeId}{adA:Bool}(d:Nat)(h:P.underlying t=some (.func bu bs adA))(x y:Value)
 (uF:(x= .nilFunc/\y= .nilFunc)\/(x= .nilFunc/\ ∃a b c,y= .func a b c)\/(y= .nilFunc/\ ∃a b c,x= .func a b c)):(Op.equalIn (d+1) t x y).run P w= .ok (sx x&&sx y) w:=by
 rcases uF with⟨rfl,rfl⟩|⟨rfl,_,_,_,rfl⟩|⟨rfl,_,_,_,rfl⟩<;>simp[Op.equalIn,run_underlying h,sx]
theorem aFP{t:TypeId}(h:P.underlying t=some .bool)(a b:Bool):(Op.equal t (.bool a) (.bool b)).run P w= .ok (a==b) w:=aFL 9999 h a b
theorem ao3{t e:TypeId}(h:P.underlying t=some (.pointer e))(p q:Option Addr)(sq:p=none\/q=none):(Op.equal t (.pointer p) (.pointer q)).run P w= .ok (p.isNone&&q.isNone) w:=aFN 9999 h p q sq
theorem ao4{t e:TypeId}(h:P.underlying t=some (.slice e))(p q:Option Addr)(l c c5 nw:Nat)(sq:p=none\/q=none):(Op.equal t (.slice p l c) (.slice q c5 nw)).run P w= .ok (p.isNone&&q.isNone) w:=aFO 9999 h p q l c c5 nw sq
theorem abZ{t:TypeId}{bu bs:Array TypeId}{adA:Bool}(h:P.underlying t=some (.func bu bs adA))(x y:Value)
 (uF:(x= .nilFunc/\y= .nilFunc)\/(x= .nilFunc/\ ∃a b c,y= .func a b c)\/(y= .nilFunc/\ ∃a b c,x= .func a b c)):(Op.equal t x y).run P w= .ok (sx x&&sx y) w:=aFM 9999 h x y uF
theorem aHX{t:TypeId}(h:q8 P t= .bool):P.underlying t=some .bool:=by unfold q8 at h;split at h<;>first|assumption|cases h
theorem aqd{t:TypeId}(h:q8 P t= .bH): ∃e,P.underlying t=some (.pointer e):=by unfold q8 at h;split at h<;>first|exact⟨_,by assumption⟩|cases h
theorem aqe{t:TypeId}(h:q8 P t= .slice): ∃e,P.underlying t=some (.slice e):=by unfold q8 at h;split at h<;>first|exact⟨_,by assumption⟩|cases h
theorem adp{t:TypeId}(h:q8 P t= .fn): ∃a b c,P.underlying t=some (.func a b c):=by unfold q8 at h;split at h<;>first|exact⟨_,_,_,by assumption⟩|cases h
theorem TF{op:BinOp}{t:TypeId}{x y:Operand}{bf v:Value}(A:bf≠ .nilIface)(D:vT bf=false):(eqGuard op t x y bf v).run P w= .ok () w:=by
 unfold eqGuard;by_cases b1:op= .eql\/op= .neq
 ·rcases b1 with rfl|rfl<;>simp<;>cases bf<;>simp_all [vT]
 ·cases op<;>simp_all
theorem aFQ{op:BinOp}{t:TypeId}{k e7:IntKind}{a b:Int}(h:Ql op k e7 a b=true):(binOp op t (.int k a) (.int e7 b)).run P w= .ok (Ha op k a b) w:=by cases op<;>simp_all [Ql,binOp,Ha,Op.intArith,Op.intDiv,Op.intBits,Op.intCmp,Op.shift]<;>first|rfl|(intro cn;omega)
theorem toList_beq(a b:ByteArray):(a.toList==b.toList)=decide (a=b):=by
 rw[Bool.eq_iff_iff];simp only[ByteArray.toList_eq,beq_iff_eq,ey];constructor
 ·intro h;cases a;cases b;simpa using h
 ·rintro rfl;rfl
theorem aFT{op:BinOp}{t:TypeId}{a b:ByteArray}(h:NT op a b=true):(binOp op t (.string a) (.string b)).run P w= .ok (CU op a b) w:=by have e:=toList_beq a b;cases op<;>simp_all [NT,binOp,CU,Op.stringOp];omega
theorem Bd{op:BinOp}(o0:op= .eql\/op= .neq){t:TypeId}{bf v:Value}(a9:fe bf=false)(F:mQ bf=false)(Qb:Cc bf=true->fe v=false){r:Bool}(a5:(∀k a b,bf≠ .complex k a b)/\ ∀k a,bf≠ .float k a)
 (h:(Op.equal t bf v).run P w= .ok r w):(binOp op t bf v).run P w= .ok (.bool (if op= .eql then r else !r)) w:=by
 rcases o0 with rfl|rfl<;>cases bf<;>simp_all [fe,mQ,binOp]
theorem ao2{op:BinOp}{t:TypeId}{ag:Ren}{bf v C0 bX:Value}(o0:op= .eql\/op= .neq)(av:wN (q8 P t) bf v=true)(a9:dM ag bf C0)(M:dM ag v bX):
 (binOp op t C0 bX).run P w= .ok (mJ op bf v) w/\C0≠ .nilIface/\vT C0=false:=by
 unfold wN at av;split at av
 ·rename_i fO;have:=a9.tD;subst this;have:=M.tD;subst this;refine⟨?_,by simp,rfl⟩;rw[Bd o0 rfl rfl (by simp[Cc]) (by simp) (aFP (aHX fO) _ _)];rcases o0 with rfl|rfl<;>simp[mJ,qA]
 ·rename_i p fO;obtain⟨e,aQ⟩:=aqd fO;have:=a9.hL rfl;subst this;have qQ: ∃q,bX= .pointer q/\q.isNone=p.isNone:=by
   cases p with
   |none=>exact⟨none,M.hL rfl,rfl⟩
   |some a=>obtain⟨l,_,_,h⟩:=M.sv;exact⟨_,h,rfl⟩
  obtain⟨q,rfl,bo⟩:=qQ;refine⟨?_,by simp,rfl⟩;rw[Bd o0 rfl rfl (by simp[Cc]) (by simp) (ao3 aQ _ _ (.inl rfl))];cases p<;>rcases o0 with rfl|rfl<;>simp_all [mJ,qA,sx]
 ·rename_i p _ fO;obtain⟨e,aQ⟩:=aqd fO;have:=M.hL rfl;subst this;have qQ: ∃q,C0= .pointer q/\q.isNone=p.isNone:=by
   cases p with
   |none=>exact⟨none,a9.hL rfl,rfl⟩
   |some a=>obtain⟨l,_,_,h⟩:=a9.sv;exact⟨_,h,rfl⟩
  obtain⟨q,rfl,bo⟩:=qQ;refine⟨?_,by simp,rfl⟩;rw[Bd o0 rfl rfl (by simp[fe]) (by simp) (ao3 aQ _ _ (.inr rfl))];cases p<;>rcases o0 with rfl|rfl<;>simp_all [mJ,qA,sx]
 ·rename_i hZ b6 p jw cR fO;obtain⟨e,aQ⟩:=aqe fO;have Qb:C0= .slice none hZ b6:=(by cases a9 with|c7 h=>rfl);subst Qb;have qQ: ∃q l c,bX= .slice q l c/\q.isNone=p.isNone:=by
   cases p with
   |none=>cases M with|c7 h=>exact⟨_,_,_,rfl,rfl⟩
   |some a=>obtain⟨l,ed,cap,_,_,h,_⟩:=M.l6;exact⟨_,_,_,h,rfl⟩
  obtain⟨q,l,c,rfl,bo⟩:=qQ;refine⟨?_,by simp,rfl⟩;rw[Bd o0 rfl rfl (by simp[Cc]) (by simp) (ao4 aQ _ _ _ _ _ _ (.inl rfl))];cases p<;>rcases o0 with rfl|rfl<;>simp_all [mJ,qA,sx]
 ·rename_i p hZ b6 jw cR _ fO;obtain⟨e,aQ⟩:=aqe fO;have qQ:bX= .slice none jw cR:=(by cases M with|c7 h=>rfl);subst qQ;have Qb: ∃q l c,C0= .slice q l c/\q.isNone=p.isNone:=by
   cases p with
   |none=>cases a9 with|c7 h=>exact⟨_,_,_,rfl,rfl⟩
   |some a=>obtain⟨l,ed,cap,_,_,h,_⟩:=a9.l6;exact⟨_,_,_,h,rfl⟩
  obtain⟨q,l,c,rfl,bo⟩:=Qb;refine⟨?_,by simp,rfl⟩;rw[Bd o0 rfl rfl (by simp[Cc]) (by simp) (ao4 aQ _ _ _ _ _ _ (.inr rfl))];cases p<;>rcases o0 with rfl|rfl<;>simp_all [mJ,qA,sx]
 ·rename_i fO;obtain⟨a,b,c,aQ⟩:=adp fO;have:=a9.hL rfl;subst this;have:=M.hL rfl;subst this;refine⟨?_,by simp,rfl⟩;rw[Bd o0 rfl rfl (by simp[Cc]) (by simp) (abZ aQ _ _ (.inl ⟨rfl,rfl⟩))];rcases o0 with rfl|rfl<;>simp[mJ,qA,sx]
 ·rename_i fO;obtain⟨a,b,c,aQ⟩:=adp fO;have:=a9.hL rfl;subst this;obtain⟨ys,ds,rfl,_⟩:=M.Ep;refine⟨?_,by simp,rfl⟩;rw[Bd o0 rfl rfl (by simp[Cc]) (by simp) (abZ aQ _ _ (.inr (.inl ⟨rfl,_,_,_,rfl⟩)))];rcases o0 with rfl|rfl<;>simp[mJ,qA,sx]
 ·rename_i fO;obtain⟨a,b,c,aQ⟩:=adp fO;have:=M.hL rfl;subst this;obtain⟨ys,ds,rfl,_⟩:=a9.Ep;refine⟨?_,by simp,rfl⟩;rw[Bd o0 rfl rfl (by simp[Cc]) (by simp) (abZ aQ _ _ (.inr (.inr ⟨rfl,_,_,_,rfl⟩)))];rcases o0 with rfl|rfl<;>simp[mJ,qA,sx]
 ·cases av
theorem aIO{o:Oper}{a:Act}{op:BinOp}{t C6:TypeId}{x y:Operand}{ag:Ren}{bf v:Value}(b1:o.op= .binOp op t x y C6)(B:dM ag bf (a.eval x))(Y:dM ag v (a.eval y))
 (av:um op (q8 P t) bf v=true): ∃bX,kf P o a w bX w/\dM ag (mJ op bf v) bX:=by
 generalize hk:a.eval x=C0 at B;generalize yv:a.eval y=bX at Y;cases bf with
 | int k n=>
   cases v<;>simp only[um]at av
   case int e7 gQ=>have:=B.tE;subst this;have:=Y.tE;subst this;refine⟨Ha op k n gQ,Od b1 (TF (by simp[hk]) (by simp[hk,vT])) (by rw[hk,yv];exact aFQ av),?_⟩;simp only[mJ];exact .c7 (by cases op<;>rfl)
   all_goals(cases op<;>first|cases av|(cases ar:q8 P t<;>simp[ar,wN]at av))
 | string s=>
   cases v<;>simp only[um]at av
   case string ih=>have:=B.Ab;subst this;have:=Y.Ab;subst this;refine⟨CU op s ih,Od b1 (TF (by simp[hk]) (by simp[hk,vT])) (by rw[hk,yv];exact aFT av),?_⟩;simp only[mJ];exact .c7 (by cases op<;>simp_all [CU,NT,ei])
   all_goals(cases op<;>first|cases av|(cases ar:q8 P t<;>simp[ar,wN]at av))
 | _=>
   simp only[um]at av;have o0:op= .eql\/op= .neq:=(by cases op<;>first|exact .inl rfl|exact .inr rfl|cases av);have w1:=av;rcases o0 with rfl|rfl
   ·obtain⟨A,D,ai⟩:=ao2 (w:=w) (.inl rfl) w1 B Y;exact⟨_,Od b1 (TF (by rw[hk];exact D) (by rw[hk];exact ai)) (by rw[hk,yv];exact A),.c7 (by simp[mJ,ei])⟩
   ·obtain⟨A,D,ai⟩:=ao2 (w:=w) (.inr rfl) w1 B Y;exact⟨_,Od b1 (TF (by rw[hk];exact D) (by rw[hk];exact ai)) (by rw[hk,yv];exact A),.c7 (by simp[mJ,ei])⟩
end
section
variable {P:Program} {w:World} {o:Oper} {a:Act}
def zj(x:Option Value)(Vt:Nat)(n:Nat):Prop:=(x=none/\n=Vt)\/ ∃(k:IntKind) (i:Int),x=some (.int k i)/\0<=i/\i.toNat=n
theorem AE{k:IntKind}{i:Int}{y n:Nat}{c:BoundsCode}(bY:0<=i)(A:i.toNat=n)(D:n<=y):(Instr.sliceBound (.int k i) y c).run P w= .ok n w:=by
 have:i<=(y:Int):=by omega
 simp[Instr.sliceBound,asIntOf,bY,this,A]
theorem abX{SL:Bool}{len cap l h:Nat}{bk W:Option Value}(az:zj bk 0 l)(bT:zj W len h)(A:l<=h)(D:h<=cap):
 (Instr.sliceBounds SL len cap bk W none).run P w= .ok (l,h,cap) w:=by
 rcases az with⟨rfl,rfl⟩|⟨k,i,rfl,GL,qK⟩<;>rcases bT with⟨rfl,rfl⟩|⟨e7,dn,rfl,Ku,pE⟩
 ·simp[Instr.sliceBounds]
 ·simp[Instr.sliceBounds,AE Ku pE D]
 ·simp[Instr.sliceBounds,AE GL qK A]
 ·simp[Instr.sliceBounds,AE Ku pE D,AE GL qK A]
theorem aI8{t:TypeId}{x:Operand}{bk W:Option Operand}{s:ByteArray}{l h:Nat}(b1:o.op= .slice t x bk W none)(ba:P.underlying t=some .string)(B:a.eval x= .string s)
 (az:zj (bk.map a.eval) 0 l) (bT:zj (W.map a.eval) s.size h) (A:l<=h) (D:h<=s.size):kf P o a w (.string (s.extract l h)) w:=by
 refine .inl ?_;simp[execOp,b1,B,Instr.sliceAt,Instr.slice,run_underlying ba,abX az bT A D]
theorem aqP{t e:TypeId}{x:Operand}{bk W:Option Operand}{p:Option Addr}{len cap:Nat}{b3:TypeInfo}{l h:Nat}(b1:o.op= .slice t x bk W none)(ba:P.underlying t=some (.slice e))(hK:P.info? e=some b3)
 (B:a.eval x= .slice p len cap) (az:zj (bk.map a.eval) 0 l) (bT:zj (W.map a.eval) len h) (A:l<=h) (D:h<=cap):
 kf P o a w (.slice (if cap=l then p else p.map (·.add (l*b3.size))) (h-l) (cap-l)) w:=by
 refine .inl ?_;simp[execOp,b1,B,Instr.sliceAt,Instr.slice,run_underlying ba,abX az bT A D,sizeOf,typeInfo,hK]
theorem aI7{t e:TypeId}{x:Operand}{eu:Addr}{n:Nat}{b3:TypeInfo}(b1:o.op= .slice t x none none none)(aa:P.underlying t=some (.array n e))(hK:P.info? e=some b3)
 (B:a.eval x= .pointer (some eu)):kf P o a w (.slice (some (if n=0 then eu else eu.add (0*b3.size))) (n-0) (n-0)) w:=by
 refine .inl ?_;have hb:=abX (P:=P) (w:=w) (SL:=false) (len:=n) (cap:=n) (l:=0) (h:=n) (bk:=none) (W:=none) (.inl ⟨rfl,rfl⟩) (.inl ⟨rfl,rfl⟩) (gi _) (c8 _);simp[execOp,b1,B,Instr.sliceAt,Instr.sureAddr,run_underlying aa,hb,sizeOf,typeInfo,hK]
theorem aFK{SL:Bool}{len cap l h m:Nat}{bk:Option Value}{W fK:Value}(az:zj bk 0 l)(bT: ∃(k:IntKind) (i:Int),W= .int k i/\0<=i/\i.toNat=h)(ab: ∃(k:IntKind) (i:Int),fK= .int k i/\0<=i/\i.toNat=m)(A:l<=h)(D:h<=m)(ai:m<=cap):
 (Instr.sliceBounds SL len cap bk (some W) (some fK)).run P w= .ok (l,h,m) w:=by
 obtain⟨e7,dn,rfl,Ku,pE⟩:=bT;obtain⟨cz,nG,rfl,zZ,l2⟩:=ab;rcases az with⟨rfl,rfl⟩|⟨k,i,rfl,GL,qK⟩
 ·simp[Instr.sliceBounds,AE zZ l2 ai,AE Ku pE D]
 ·simp[Instr.sliceBounds,AE zZ l2 ai,AE Ku pE D,AE GL qK A]
theorem aqO{t e:TypeId}{x W fK:Operand}{bk:Option Operand}{p:Option Addr}{len cap:Nat}{b3:TypeInfo}{l h m:Nat}(b1:o.op= .slice t x bk (some W) (some fK))(ba:P.underlying t=some (.slice e))(hK:P.info? e=some b3)
 (B:a.eval x= .slice p len cap) (az:zj (bk.map a.eval) 0 l) (bT: ∃(k:IntKind) (i:Int),a.eval W= .int k i/\0<=i/\i.toNat=h) (ab: ∃(k:IntKind) (i:Int),a.eval fK= .int k i/\0<=i/\i.toNat=m) (A:l<=h) (D:h<=m) (ai:m<=cap):
 kf P o a w (.slice (if m=l then p else p.map (·.add (l*b3.size))) (h-l) (m-l)) w:=by
 refine .inl ?_;simp[execOp,b1,B,Instr.sliceAt,Instr.slice,run_underlying ba,aFK az bT ab A D ai,sizeOf,typeInfo,hK]
theorem Dr{ag:Ren}{dc:Nat}{z:aC}(F:g7 ag dc z a){x:Option Operand}(B:H9 x=true)(av:pN z x=true)(d:Nat)(bY:0<=hf z x d):zj (x.map a.eval) d (hf z x d).toNat:=by
 cases x with
 |none=>exact .inl ⟨rfl,by simp[hf]⟩
 | some x=>
   have al:=F.O (x:=x) B;simp only[pN]at av;simp only[hf]at bY⊢;cases M:O z x<;>simp[M,fe]at av;rw[M]at al;refine .inr ⟨_,_,by simp[al.tE];exact⟨rfl,rfl⟩,?_,?_⟩
   ·simpa[M,eN]using bY
   ·simp[eN]
theorem agf(off:Nat): ∀(vs:List Value) (j:Nat) (cs:Array Value),((vs.zipIdx j).foldl (λcs (c,j)=>cs.setIfInBounds (off+j) c) cs).toList=gE cs.toList (off+j) vs
 |[],_,_=>rfl
 | v::vs,j,cs=>by simp only[List.zipIdx_cons,zg,gE];rw[agf off vs (j+1)];simp[nS]
theorem auf(off:Nat)(v:Value)(cs:Array Value):(v.cells.zipIdx.foldl (λcs (c,j)=>cs.setIfInBounds (off+j) c) cs).toList=gE cs.toList off v.cells.toList:=by have:=agf off v.cells.toList 0 cs;simp only[wu]at this;rw[<-this,<-Array.foldl_toList];simp[Array.toList_zipIdx]
theorem Gj: ∀(vs:List Value) (off:Nat) (cs:List Value),(gE cs off vs).length=cs.length
 |[],_,_=>rfl
 |v::vs,off,cs=>by simp only[gE];rw[Gj vs];simp
theorem Vd(p:Value->Prop): ∀(vs:List Value) (off:Nat) (cs:List Value),(∀x∈cs,p x)->(∀x∈vs,p x)-> ∀x∈gE cs off vs,p x
 |[],_,_,h,_=>h
 | v::vs,off,cs,h,D=>by
   simp only[gE];refine Vd p vs _ _ (λx B=> ?_) (λx B=>D x (by simp[B]));rcases F4 B with ai|ai
   ·exact h x ai
   ·subst ai;exact D _ (by simp)
theorem Pq{ag:Ren}{dc:Nat}{z:aC}(F:g7 ag dc z a)(yR:Nat->Option (Nat×Nat)): ∀(ps:List (Nat×Operand)) (hU:List (Nat×Nat×Operand)) (cs:List Value) (ds:Array Value),
 (ps.length=hU.length/\ ∀(i:Nat) p q,ps[i]?=some p->hU[i]?=some q->p.2=q.2.2/\df p.2=true/\yR p.1=some (q.1,q.2.1))->
 da ag cs ds.toList->(∀x∈cs,aq x=true)->rS cs z hU=true-> ∃gz:Array Value,Instr.fill yR ds (ps.map λp=>(p.1,a.eval p.2))=some gz/\da ag (nj cs z hU) gz.toList/\(∀x∈nj cs z hU,aq x=true)
 |[],[],cs,ds,_,al,aB,_=>⟨ds,rfl,al,aB⟩
 |[],_::_,_,_,sq,_,_,_=>by simp at sq
 |_::_,[],_,_,sq,_,_,_=>by simp at sq
 | p::ps,(a8,bV,cv)::hU,cs,ds,sq,al,aB,av=>by obtain⟨aD,aJ,cg⟩:=sq.2 0 p (a8,bV,cv) rfl rfl;dsimp only at aD cg;simp only[rS,mZ,a6,ey]at av;have M:=F.O (x:=p.2) aJ;rw[aD]at M;have ar:=adz M;have az:(a.eval cv).cells.size=bV:=(by have:=ar.1;simp only[Array.length_toList]at this;rw[<-this];exact av.1.1.2);have aV:ds.size=cs.length:=(by have:=al.1;simp at this;exact this.symm);have vQ:da ag (gE cs a8 (an (O z cv))) ((a.eval cv).cells.zipIdx.foldl (λcs (c,j)=>cs.setIfInBounds (a8+j) c) ds).toList:=(by rw[auf];exact al.gE _ ar);have iz: ∀x∈gE cs a8 (an (O z cv)),aq x=true:=Vd (λx=>aq x=true) _ _ _ aB (ady M av.1.1.1);obtain⟨gz,A,D,ai⟩:=Pq F yR ps hU _ _ ⟨by simpa using sq.1,λi x y B Y=>sq.2 (i+1) x y (by simpa using B) (by simpa using Y)⟩ vQ iz (by have ai:=av.2;simp only[rS,Gj]at ai⊢;exact ai);refine⟨gz,?_,by simpa only[nj]using D,by simpa only[nj]using ai⟩;simp only[lO,Instr.fill,aD,cg,az,ne_eq,not_true_eq_false,decide_false,Bool.false_or];rw[if_neg (by simp;omega)];exact A
theorem agb{fs:Array Field}: ∀(ps:List (Nat×Operand)) (hU:List (Nat×Nat×Operand)),JT P fs ps=some hU->
 ps.length=hU.length/\ ∀(i:Nat) p q,ps[i]?=some p->hU[i]?=some q->p.2=q.2.2/\df p.2=true/\ ∃f b3,fs[p.1]?=some f/\P.info? f.type=some b3/\q.1=f.offset/\q.2.1=b3.size
 |[],hU,h=>by simp[JT]at h;subst h;simp
 | (j,x)::ps,hU,h=>by
   simp only[JT]at h;split at h
   ·rename_i f a5;split at h
    ·rename_i n cC ae W1;split at h
     ·rename_i B;cases h;obtain⟨A,D⟩:=agb ps cC W1;refine⟨by simp[A],λi p q Z bo=> ?_⟩;cases i with
      | zero=>
        simp at Z bo;subst Z;subst bo;unfold md at ae;cases W:P.info? f.type with
        |none=>simp[W]at ae
        |some b3=>exact⟨rfl,B,f,b3,a5,W,rfl,by simpa[W]using ae.symm⟩
      |succ i=>exact D i p q (by simpa using Z) (by simpa using bo)
     ·cases h
    ·cases h
   ·cases h
theorem VE{G:Nat}: ∀(ps:List (Nat×Operand)) (hU:List (Nat×Nat×Operand)),DD G ps=some hU->
 ps.length=hU.length/\ ∀(i:Nat) p q,ps[i]?=some p->hU[i]?=some q->p.2=q.2.2/\df p.2=true/\q.1=p.1*G/\q.2.1=G
 |[],hU,h=>by simp[DD]at h;subst h;simp
 | (j,x)::ps,hU,h=>by
   simp only[DD]at h;split at h
   ·rename_i cC W1;split at h
    ·rename_i B;cases h;obtain⟨A,D⟩:=VE ps cC W1;refine⟨by simp[A],λi p q Z bo=> ?_⟩;cases i with
     |zero=>simp at Z bo;subst Z;subst bo;exact⟨rfl,B,rfl,rfl⟩
     |succ i=>exact D i p q (by simpa using Z) (by simpa using bo)
    ·cases h
   ·cases h
theorem CZ{t:TypeId}{G:List Value}(h:r3 P t=some G): ∃b3 iw,P.info? t=some b3/\b3.zero=some iw/\iw.cells.toList=G/\G.all ei=true/\G.length=b3.size:=by
 unfold r3 at h;split at h
 ·rename_i b3 W;split at h
  ·rename_i iw bw;simp only at h;split at h
   ·rename_i ar;cases h;simp only[a6,ey]at ar;exact⟨b3,iw,W,bw,rfl,ar.1,ar.2⟩
   ·cases h
  ·cases h
 ·cases h
theorem vb{t:TypeId}{n:Nat}(h:md P t=some n): ∃b3,P.info? t=some b3/\b3.size=n:=by
 unfold md at h;cases W:P.info? t with
 |none=>simp[W]at h
 |some b3=>exact⟨b3,rfl,by simpa[W]using h⟩
theorem ado{t:TypeId}{b:Bool}(h:q7 P t=some b):(isAgg t).run P w= .ok b w:=by
 unfold q7 at h;unfold isAgg;split at h<;>first|cases h|skip
 ·rename_i a9;simp[run_underlying a9]
 ·rename_i a9;simp[run_underlying a9]
 ·rename_i d A D a9;simp only[Sem.run_bind,run_underlying a9,Result.andThen_ok];rfl
theorem aCQ(fs:List Field)(h:fs.all (λf=>(md P f.type).isSome)=true):
 ∃yQ:List (Nat×Nat),(fs.mapM (m:=Sem) λ(f:Field)=>do pure (f.offset,<-sizeOf f.type)).run P w= .ok yQ w/\ ∀i:Nat,yQ[i]?=(fs[i]?).bind λ(f:Field)=>(P.info? f.type).map λb3=>(f.offset,b3.size):=by
 induction fs with
 |nil=>exact⟨[],by simp,by simp⟩
 | cons f fs cf=>
   simp only[mZ,a6]at h;obtain⟨yQ,A,D⟩:=cf h.2;obtain⟨n,ae⟩:=Om.1 h.1;obtain⟨b3,W,_⟩:=vb ae;refine⟨(f.offset,b3.size)::yQ,?_,λi=> ?_⟩
   ·simp[List.mapM_cons,sizeOf,typeInfo,W]at A⊢;simp[A]
   ·cases i with
    |zero=>simp[W]
    |succ i=>simpa using D i
end
section
variable {P:Program} {w:World} {o:Oper} {a:Act}
theorem aIP{t:TypeId}{ps:Array (Nat×Operand)}{cells:Array Value}{b3:TypeInfo}{G:Value}{fs:Array Field}(b1:o.op= .build t ps)(W:P.info? t=some b3)(bw:b3.zero=some G)
 (ba:P.underlying t=some (.struct fs)) (jk:fs.toList.all (λf=>(md P f.type).isSome)=true)
 (a5: ∀yR:Nat->Option (Nat×Nat),(∀i,yR i=(fs[i]?).bind λ(f:Field)=>(P.info? f.type).map λb3=>(f.offset,b3.size))->Instr.fill yR G.cells (ps.toList.map λp=>(p.1,a.eval p.2))=some cells):
 kf P o a w (.agg cells) w:=by
 refine .inl ?_;obtain⟨yQ,A,D⟩:=aCQ (P:=P) (w:=w) fs.toList jk;have ai:=a5 (λi=>yQ.toArray[i]?) (λi=>by simpa using D i);have bF:(fs.mapM (m:=Sem) λ(f:Field)=>do pure (f.offset,<-sizeOf f.type)).run P w= .ok yQ.toArray w:=by rw[Array.mapM_eq_mapM_toList];simp only[Sem.run_map,A];rfl
 simp only[execOp,b1,Instr.build,Sem.run_bind,run_underlying ba,zeroValue,typeInfo,run_program,W,bw,Sem.run_pure,Result.andThen_ok,bF];have cW:Instr.fill (λx=>yQ[x]?) G.cells (List.map (λx=>(x.fst,a.eval x.snd)) ps.toList)=some cells:=by simpa using ai
 simp[cW]
theorem aIX{t:TypeId}{x:Operand}{i:Nat}{fs:Array Field}{f:Field}{b3:TypeInfo}{b:Bool}{cs:Array Value}(b1:o.op= .field t x i)(ba:P.underlying t=some (.struct fs))(a5:fs[i]?=some f)
 (W:P.info? f.type=some b3) (hb:q7 P f.type=some b) (B:a.eval x= .agg cs) (ae:f.offset+b3.size<=cs.size) (A:b=true\/b3.size=1):
 kf P o a w (if b then .agg (cs.toList.drop f.offset|>.take b3.size).toArray else cs.toList.getD f.offset undef) w:=by
 refine .inl ?_;have D:=ado (w:=w) hb;simp only[execOp,b1,B,Instr.field,Sem.run_bind,run_underlying ba,Result.andThen_ok,a5,asAgg,Sem.run_pure,part,D];cases b
 ·have ai:b3.size=1:=(by simpa using A);have aT:f.offset<cs.size:=(by omega);simp[aT]
 ·simp only[if_true,Sem.run_bind,sizeOf,typeInfo,run_program,W,Sem.run_pure,Result.andThen_ok];congr 3;apply F1.1;simp[Array.toList_extract]
theorem aIQ{t e:TypeId}{n:Nat}{ps:Array (Nat×Operand)}{cells:Array Value}{b3 G9:TypeInfo}{G:Value}(b1:o.op= .build t ps)(W:P.info? t=some b3)(bw:b3.zero=some G)
 (ba:P.underlying t=some (.array n e)) (aQ:P.info? e=some G9)
 (a5:Instr.fill (λi=>some (i*G9.size,G9.size)) G.cells (ps.toList.map λp=>(p.1,a.eval p.2))=some cells):kf P o a w (.agg cells) w:=by
 refine .inl ?_;simp[execOp,b1,Instr.build,run_underlying ba,zeroValue,sizeOf,typeInfo,W,bw,aQ,a5]
theorem ao6(fK:Bool): ∀(xs:List Value) (dN:Value),fe dN=true->(∀x∈xs,fe x=true)->
 (xs.foldlM (m:=Sem) (if fK then Builtin.max2 else Builtin.min2) dN).run P w= .ok (xs.foldl (λdN y=>if fK then pK dN y else pM dN y) dN) w
 |[],_,_,_=>by simp
 | x::xs,dN,h,B=>by have A:((if fK then Builtin.max2 else Builtin.min2) dN x).run P w= .ok (if fK then pK dN x else pM dN x) w:=(by have Xf:=B x (by simp);cases dN<;>simp[fe]at h;cases x<;>simp[fe]at Xf;cases fK<;>simp[Builtin.max2,Builtin.min2,pK,pM]);have D:fe (if fK then pK dN x else pM dN x)=true:=(by have Xf:=B x (by simp);cases dN<;>simp[fe]at h;cases x<;>simp[fe]at Xf;cases fK<;>simp[pK,pM,fe]);simp only[List.foldlM_cons,Sem.run_bind,A,Result.andThen_ok,zg];exact ao6 fK xs _ D (λy Y=>B y (by simp[Y]))
theorem aqN{c:Call}{fK:Bool}{x:Operand}{xs:List Operand}(b1:o.op= .call c)(ar:c.callee= .builtin (if fK then .max else .min))(aa:c.args.toList=x::xs)
 (A:fe (a.eval x)=true) (D: ∀y∈xs,fe (a.eval y)=true):kf P o a w (xs.foldl (λdN y=>if fK then pK dN (a.eval y)else pM dN (a.eval y)) (a.eval x)) w:=by
 refine .inl ?_;have ai:(c.args.map a.eval).toList=a.eval x::xs.map a.eval:=by simp[aa]
 have aT:=ao6 (P:=P) (w:=w) fK (xs.map a.eval) (a.eval x) A (by simpa using D);rw[List.foldl_map]at aT;cases fK
 ·simp only[execOp,b1,resolve,ar,invoke,builtin,Sem.run_bind,Sem.run_pure,Result.andThen_ok,je,if_false,Builtin.min_,ai];simp only[je,if_false]at aT;simp[aT]
 ·simp only[execOp,b1,resolve,ar,invoke,builtin,Sem.run_bind,Sem.run_pure,Result.andThen_ok,if_true,Builtin.max_,ai];simp only[if_true]at aT;simp[aT]
theorem O1: ∀(bK cz:List r9) (xs ys:List Value),jD (bK++cz) xs ys=true->jD bK (xs.take bK.length) (ys.take bK.length)=true/\jD cz (xs.drop bK.length) (ys.drop bK.length)=true/\
 n0 xs ys=(n0 (xs.take bK.length) (ys.take bK.length)&&n0 (xs.drop bK.length) (ys.drop bK.length))
 |[],cz,xs,ys,h=>by simpa[jD,n0]using h
 |k::bK,cz,[],ys,h=>by simp[jD]at h
 |k::bK,cz,x::xs,[],h=>by simp[jD]at h
 | k::bK,cz,x::xs,y::ys,h=>by simp only[tZ,jD,a6]at h;obtain⟨A,D,ai⟩:=O1 bK cz xs ys h.2;exact⟨by simp[jD,h.1,A],by simpa using D,by simp[n0,ai,Bool.and_assoc]⟩
theorem O2: ∀(fI:List r9) (xs ys:List Value),jD fI xs ys=true->xs.length=fI.length/\ys.length=fI.length
 |[],[],[],_=>by simp
 |[],[],_::_,h=>by simp[jD]at h
 |[],_::_,_,h=>by simp[jD]at h
 |_::_,[],_,h=>by simp[jD]at h
 |_::_,_::_,[],h=>by simp[jD]at h
 | k::fI,x::xs,y::ys,h=>by simp only[jD,a6]at h;have:=O2 fI xs ys h.2;simp[this]
def wC(dr:Bool)(xs:List Value):Value:=if dr then .agg xs.toArray else xs.headD undef
theorem Am{xs:List Value}(h:xs.length=1): ∃x,xs=[x]:=by
 match xs,h with
 |[x],_=>exact⟨x,rfl⟩
theorem Tt{t:TypeId}{b:Bool}{n off:Nat}{xs:List Value}(hb:q7 P t=some b)(ae:md P t=some n)(A:b=true\/n=1)(az:off+n<=xs.length):
 (part t xs.toArray off).run P w= .ok (wC b ((xs.drop off).take n)) w:=by
 obtain⟨b3,W,rfl⟩:=vb ae;simp only[part,Sem.run_bind,ado hb,Result.andThen_ok];cases b
 ·have D:b3.size=1:=(by simpa using A);have ai:off<xs.length:=(by omega);simp only[je,if_false,wC,D];simp[c1 ai,List.take_one,List.headD]
 ·simp only[if_true,Sem.run_bind,sizeOf,typeInfo,run_program,W,Sem.run_pure,Result.andThen_ok,wC];congr 2;apply F1.1;simp
theorem Pn: ∀(d bU:Nat) (t:TypeId) (fI:List r9) (xs ys:List Value),wM P d t=some fI->d<=bU->jD fI xs ys=true->
 ∃b,q7 P t=some b/\md P t=some fI.length/\(b=true\/fI.length=1)/\(Op.equalIn bU t (wC b xs) (wC b ys)).run P w= .ok (n0 xs ys) w
 |0,_,_,_,_,_,h,_,_=>by simp[wM]at h
 |d+1,0,_,_,_,_,_,h,_=>by omega
 | d+1,bU+1,t,fI,xs,ys,h,h9,az=>by
   obtain⟨MF,jI⟩:=O2 fI xs ys az;unfold wM at h;split at h
   ·rename_i n a9 ae;split at h<;>cases h;rename_i e;subst e;obtain⟨x,rfl⟩:=Am MF;obtain⟨y,rfl⟩:=Am jI;refine⟨false,by simp[q7,a9],ae,.inr rfl,?_⟩;cases x<;>cases y<;>simp[jD,Bi]at az;simp only[wC,je,if_false,List.headD_cons,n0,pW,Bool.and_true];exact run_equalIn_bool' w bU t _ _ a9
   ·rename_i k n a9 ae;split at h<;>cases h;rename_i e;subst e;obtain⟨x,rfl⟩:=Am MF;obtain⟨y,rfl⟩:=Am jI;refine⟨false,by simp[q7,a9],ae,.inr rfl,?_⟩;cases x<;>cases y<;>simp[jD,Bi]at az;subst az;simp only[wC,je,if_false,List.headD_cons,n0,pW,Bool.and_true];exact run_equalIn_int w bU t _ _ _ _ a9
   ·rename_i n a9 ae;split at h<;>cases h;rename_i e;subst e;obtain⟨x,rfl⟩:=Am MF;obtain⟨y,rfl⟩:=Am jI;refine⟨false,by simp[q7,a9],ae,.inr rfl,?_⟩;cases x<;>cases y<;>simp[jD,Bi]at az;simp only[wC,je,if_false,List.headD_cons,n0,pW,Bool.and_true];rw[run_equalIn_string w bU t _ _ a9,toList_beq]
   ·rename_i fs n a9 ae;split at h
    ·rename_i aQ7 uB;split at h
     ·rename_i ar;cases h;simp only[a6,ey,r7]at ar;obtain⟨rfl,iR⟩:=ar;refine⟨true,by simp[q7,a9],ae,.inl rfl,?_⟩;simp only[wC,if_true];have tm:P.fieldsOf t=fs:=(by simp[Program.fieldsOf,a9]);rw[run_equalIn_struct w bU t _ _ (by rw[tm];exact a9) iR,tm]
      -- pR aN2,mv Jr pR sC
      have key: ∀(aj:List Field) (off:Nat) (SV:List r9),JN (wM P d) aj off=some SV->jD SV (xs.drop off) (ys.drop off)=true->
       (Op.eqFields bU xs.toArray ys.toArray aj).run P w= .ok (n0 (xs.drop off) (ys.drop off)) w:=by
       intro aj;induction aj with
       | nil=>intro off SV A D;simp[JN]at A;subst A;cases B:xs.drop off<;>cases Y:ys.drop off<;>simp[B,Y,jD]at D;simp[Op.eqFields,n0]
       | cons f aj cf=>
         intro off SV A D;simp only[JN]at A;split at A
         ·rename_i ar;simp only[a6,bne_iff_ne,ne_eq,beq_iff_eq]at ar;obtain⟨l3,GU⟩:=ar;split at A
          ·rename_i bK nB;split at A
           ·rename_i cz qL;split at A<;>cases A;rename_i WU;obtain⟨aE,a2,cj⟩:=O1 bK cz _ _ D;obtain⟨b,aD,aJ,cg,gA⟩:=Pn d bU f.type bK _ _ nB (by omega) aE;have hZ:=(O2 _ _ _ D);simp only[F2,iv]at hZ;have ef:=Tt (w:=w) (off:=off) (xs:=xs) aD aJ cg (by omega);have e2:=Tt (w:=w) (off:=off) (xs:=ys) aD aJ cg (by omega);simp only[C8]at a2 cj;have ai:=cf (off+bK.length) cz qL a2;simp only[Op.eqFields,l3,ne_eq,not_false_eq_true,if_true,Sem.run_bind,GU,ef,e2,Result.andThen_ok,gA,cj,Sem.run_ite,Sem.run_pure,ai];cases n0 (List.take bK.length (List.drop off xs)) (List.take bK.length (List.drop off ys))<;>simp
           ·cases A
          ·cases A
         ·cases A
      have:=key fs.toList 0 _ uB (by simpa using az);simpa using this
     ·cases h
    ·cases h
   ·-- U8 array
    rename_i k e n a9 ae;split at h
    ·rename_i bK uB;split at h
     ·rename_i ar;cases h;simp only[a6,ey]at ar;obtain⟨rfl,WU⟩:=ar;have di: ∀r:Nat,(List.replicate r bK).flatten.length=r*bK.length:=by
       intro r;induction r with
       |zero=>simp
       |succ r cf=>rw[I4,sX,iv,cf,oo];omega
      refine⟨true,by simp[q7,a9],by rw[ae,di],.inl rfl,?_⟩;simp only[wC,if_true];by_cases wZ:k=0
      ·subst wZ;simp only[List.replicate_zero,List.flatten_nil]at az MF jI;have aD:xs=[]:=r6.1 MF;have aJ:ys=[]:=r6.1 jI;subst aD aJ;simp[Op.equalIn,run_underlying a9,n0,sizeOf,typeInfo];cases W:P.info? e with
       | none=>
         -- pR aNW type B9 aQ6,bu aQZ kinds aMH
         exfalso;cases d with
         |zero=>simp[wM]at uB
         | succ d=>unfold wM at uB;have:md P e=none:=(by simp[md,W]);simp[this]at uB
       |some i=>simp
      ·obtain⟨e0,rfl⟩: ∃e0,k=e0+1:=⟨k-1,by omega⟩;have oE:=az;rw[I4,sX]at oE;obtain⟨aE,_,_⟩:=O1 bK _ xs ys oE;obtain⟨px,_,aJ,_,_⟩:=Pn d bU e bK _ _ uB (by omega) aE;obtain⟨b3,W,j3⟩:=vb aJ;have zS:P.cellsOf e=bK.length:=(by simp[Program.cellsOf,W,j3]);rw[run_equalIn_array w bU xs.toArray ys.toArray a9 W,zS,List.range_eq_range']
       have key: ∀(r j:Nat),jD (List.replicate r bK).flatten (xs.drop (j*bK.length)) (ys.drop (j*bK.length))=true->
        (Op.eqItems bU e bK.length xs.toArray ys.toArray (List.range' j r)).run P w= .ok (n0 (xs.drop (j*bK.length)) (ys.drop (j*bK.length))) w:=by
        intro r;induction r with
        | zero=>intro j D;simp only[List.replicate_zero,List.flatten_nil]at D;cases B:xs.drop (j*bK.length)<;>cases Y:ys.drop (j*bK.length)<;>simp[B,Y,jD]at D;simp[Op.eqItems,n0]
        | succ r cf=>intro j D;rw[I4,sX]at D;obtain⟨aE,a2,cj⟩:=O1 bK _ _ _ D;obtain⟨b,aD,aJ,cg,gA⟩:=Pn d bU e bK _ _ uB (by omega) aE;have hZ:=O2 _ _ _ D;simp only[F2,iv]at hZ;have ef:=Tt (w:=w) (off:=j*bK.length) (xs:=xs) aD aJ cg (by omega);have e2:=Tt (w:=w) (off:=j*bK.length) (xs:=ys) aD aJ cg (by omega);simp only[C8]at a2 cj;have aX:j*bK.length+bK.length=(j+1)*bK.length:=(by rw[oo];omega);rw[aX]at a2 cj;have ai:=cf (j+1) a2;rw[List.range'_succ];simp only[Op.eqItems,Sem.run_bind,ef,e2,Result.andThen_ok,gA,cj,Sem.run_ite,Sem.run_pure,ai];cases n0 (List.take bK.length (List.drop (j*bK.length) xs)) (List.take bK.length (List.drop (j*bK.length) ys))<;>simp
       have:=key (e0+1) 0 (by simpa using az);simpa using this
     ·cases h
    ·cases h
   ·cases h
termination_by d=>d
theorem aIU{op:BinOp}{t C6:TypeId}{x y:Operand}{fI:List r9}{xs ys:Array Value}(ku:Bool)(b1:o.op= .binOp op t x y C6)(aQ:op=if ku then .neq else .eql)(a5:wM P 8 t=some fI)
 (aH:P.eqGuardType P.depth t=false) (fO:q8 P t= .agg) (B:a.eval x= .agg xs) (Y:a.eval y= .agg ys) (az:jD fI xs.toList ys.toList=true):
 kf P o a w (.bool (if ku then !n0 xs.toList ys.toList else n0 xs.toList ys.toList)) w:=by
 obtain⟨b,A,_,_,aT⟩:=Pn (P:=P) (w:=w) 8 10000 t fI xs.toList ys.toList a5 (by omega) az;have hb:b=true:=by
  unfold q8 at fO;unfold q7 at A;split at fO<;>first|cases fO|skip
  ·rename_i a9;simp only[a9]at A;cases A;rfl
  ·rename_i a9;simp only[a9]at A;cases A;rfl
 subst hb;simp only[wC,if_true,sW]at aT;refine Od b1 (by rw[B,Y];exact run_eqGuard_agg w op t x y xs ys aH) ?_;rw[B,Y];cases ku
 ·simp only[je,if_false]at aQ⊢;subst aQ;rw[run_eql_struct,aT];rfl
 ·simp only[if_true]at aQ⊢;subst aQ;rw[run_neq_struct,aT];rfl
end
end Go.DI
