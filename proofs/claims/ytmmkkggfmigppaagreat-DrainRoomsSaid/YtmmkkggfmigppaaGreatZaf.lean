/-
  A part of the proof of the statement, in texts that tools of ours (wip/shrink.py, irpack.py, relax.py, minify.py, join.py, lay.py) have shortened.
-/
import Derived.Test.YtmmkkggfmigppaaGreatZae
set_option linter.all false
set_option maxRecDepth 8000
set_option maxHeartbeats 16000000
namespace Go.DI
open Go Go.RowKit
def adK(r:List Value):Value:= .agg r.toArray
def afH:Value->List Value| .agg a=>a.toList|_=>[]
def aw(a8:List (List Value))(I:Nat):Value:= .func (.yield 0) (a8.map adK).toArray #[.int .i64 I]
def eL(cJ:List Value)(k:Nat):Value:= .func (.yield 1) cJ.toArray #[.int .i64 k]
def SL:List Value->Nat|[.int _ n]=>n.toNat|_=>0
def hD:Value->Bool| .func (.yield n) _ _=>n==0|_=>false
def md:Value->Bool| .func (.yield n) _ _=>n==1|_=>false
def jP:Value->Bool| .func (.yield _) _ _=>true|_=>false
def xC:Value->List (List Value)| .func _ cl _=>cl.toList.map afH|_=>[]
def sX:Value->Nat| .func _ _ j6=>SL j6.toList|_=>0
def HJ:Value->List Value| .func _ cl _=>cl.toList|_=>[]
section
variable {a8 tq:List (List Value)} {I jf k eX:Nat} {cJ tp:List Value}
@[simp] theorem aMH:afH (adK cJ)=cJ:=rfl
@[simp] theorem Ma:hD (aw a8 I)=true:=rfl
@[simp] theorem aF2:hD (eL cJ k)=false:=rfl
@[simp] theorem aF1:md (aw a8 I)=false:=rfl
@[simp] theorem atF:md (eL cJ k)=true:=rfl
@[simp] theorem aF8:jP (aw a8 I)=true:=rfl
@[simp] theorem aF7:jP (eL cJ k)=true:=rfl
@[simp] theorem Kj:xC (aw a8 I)=a8:=by simp[xC,aw,Function.comp_def]
@[simp] theorem aFb:sX (aw a8 I)=I:=by simp[sX,aw,SL]
@[simp] theorem ael:HJ (eL cJ k)=cJ:=rfl
@[simp] theorem XY:sX (eL cJ k)=k:=by simp[sX,eL,SL]
@[simp] theorem XX:aw a8 I=aw tq jf↔a8=tq/\I=jf:=
  ⟨λh=>⟨by have:=congrArg xC h;simpa using this,by have:=congrArg sX h;simpa using this⟩,λ⟨a,b⟩=>by rw[a,b]⟩
end
abbrev eC:=Nat->Option Nat
abbrev fz:=Nat->Option (List Value)
abbrev kT:eC:= λ_=>none
inductive bV(u:fz):eC->Value->Value->Prop
  |cy {K:eC} {v:Value} (h:dQ v=true):bV u K v v
  |cF {K:eC} {o b off:Nat} (h:K o=some b):bV u K (.pointer (some ⟨o,off,none⟩)) (.pointer (some ⟨b,off,none⟩))
  |slice {K:eC} {o b off l I:Nat} (h:K o=some b):bV u K (.slice (some ⟨o,off,none⟩) l I) (.slice (some ⟨b,off,none⟩) l I)
  |oU {K:eC} {o I:Nat}:bV u K (.slice (some ⟨o,0,none⟩) 0 I) (.slice none 0 0)
  |map {K:eC} {o b:Nat} (h:K o=some b):bV u K (.map (some o)) (.map (some b))
  |agg {K:eC} {xs ys:Array Value} (M:xs.size=ys.size) (h: ∀(i:Nat) (x y:Value),xs[i]?=some x->ys[i]?=some y->bV u K x y):bV u K (.agg xs) (.agg ys)
  |tuple {K:eC} {xs ys:Array Value} (M:xs.size=ys.size) (h: ∀(i:Nat) (x y:Value),xs[i]?=some x->ys[i]?=some y->bV u K x y):bV u K (.tuple xs) (.tuple ys)
  | func {K:eC} {f:Nat} {xs ys cs ds:Array Value} (M:xs.size=ys.size) (h: ∀(i:Nat) (x y:Value),xs[i]?=some x->ys[i]?=some y->bV u K x y)
      (hB:cs.size=ds.size) (H: ∀(i:Nat) (x y:Value),cs[i]?=some x->ds[i]?=some y->bV u K x y):bV u K (.func (.func f) xs cs) (.func (.func f) ys ds)
  |iface {K:eC} {t:TypeId} {v bu:Value} (h:bV u K v bu):bV u K (.iface t v) (.iface t bu)
  | hT {K:eC} {v:Value} {b off I:Nat} {cs:List Value} {a8:List (List Value)} (e:v=aw a8 I) (dv:u b=some cs) (aD:off+a8.length*I<=cs.length)
      (bD: ∀(i:Nat) r,a8[i]?=some r->r.length=I) (ar: ∀(i j:Nat) r x y,a8[i]?=some r->r[j]?=some x->cs[off+i*I+j]?=some y->bV u kT x y):bV u K v (.slice (some ⟨b,off,none⟩) a8.length I)
  |hf {K:eC} {v:Value} {I:Nat} (e:v=aw [] I):bV u K v (.slice none 0 0)
  | eL {K:eC} {v:Value} {b off k:Nat} {cs cJ:List Value} (e:v=eL cJ k) (dv:u b=some cs) (aD:off+cJ.length<=cs.length)
      (ar: ∀(j:Nat) x y,cJ[j]?=some x->cs[off+j]?=some y->bV u kT x y):bV u K v (.pointer (some ⟨b,off+k,none⟩))
def fy(K cz:eC):Prop:= ∀o b,K o=some b->cz o=some b
def gV(u cr:fz):Prop:= ∀b cs,u b=some cs->cr b=some cs
theorem fy.refl(K:eC):fy K K:= λ_ _ h=>h
theorem fy.trans{a b c:eC}(h:fy a b)(bN:fy b c):fy a c:= λx l G=>bN x l (h x l G)
theorem fy.nil(K:eC):fy kT K:= λ_ _ h=>by cases h
theorem gV.refl(u:fz):gV u u:= λ_ _ h=>h
theorem gV.trans{a b c:fz}(h:gV a b)(bN:gV b c):gV a c:= λx l G=>bN x l (h x l G)
theorem bV.b6{u cr:fz}{K cz:eC}{v bu:Value}(h:bV u K v bu)(dv:gV u cr)(bQ:fy K cz):bV cr cz v bu:=by
  induction h generalizing cz with
  |cy h=>exact .cy h
  |cF h=>exact .cF (bQ _ _ h)
  |slice h=>exact .slice (bQ _ _ h)
  |oU=>exact .oU
  |map h=>exact .map (bQ _ _ h)
  |agg M _ cc=>exact .agg M λi x y a b=>cc i x y a b bQ
  |tuple M _ cc=>exact .tuple M λi x y a b=>cc i x y a b bQ
  |func M _ hB _ cc P8=>exact .func M (λi x y a b=>cc i x y a b bQ) hB λi x y a b=>P8 i x y a b bQ
  |iface _ cc=>exact .iface (cc bQ)
  |hT e D aD bD ar cc=>exact .hT e (dv _ _ D) aD bD λi j r x y a b c=>cc i j r x y a b c (fy.refl _)
  |hf e=>exact .hf e
  |eL e D aD ar cc=>exact .eL e (dv _ _ D) aD λj x y a b=>cc j x y a b (fy.refl _)
def bj(u:fz)(K:eC)(xs ys:List Value):Prop:=xs.length=ys.length/\ ∀(i:Nat) (x y:Value),xs[i]?=some x->ys[i]?=some y->bV u K x y
section
variable {u cr:fz} {K cz:eC}
theorem bj.nil:bj u K [] []:=⟨rfl,by intro i x y h;simp at h⟩
theorem bj.cons{x y:Value}{xs ys:List Value}(h:bV u K x y)(M:bj u K xs ys):bj u K (x::xs) (y::ys):=by
  refine⟨by simp[M.1],λi a b ax hb=> ?_⟩;cases i with
  |zero=>simp at ax hb;subst ax;subst hb;exact h
  |succ i=>exact M.2 i a b (by simpa using ax) (by simpa using hb)
theorem bj.b6{xs ys:List Value}(h:bj u K xs ys)(dv:gV u cr)(bQ:fy K cz):bj cr cz xs ys:=⟨h.1,λi x y G ag=>(h.2 i x y G ag).b6 dv bQ⟩
theorem bj.agg{xs ys:List Value}(h:bj u K xs ys):bV u K (.agg xs.toArray) (.agg ys.toArray):= .agg (by simpa using h.1) (by simpa using h.2)
theorem bj.tuple{xs ys:List Value}(h:bj u K xs ys):bV u K (.tuple xs.toArray) (.tuple ys.toArray):= .tuple (by simpa using h.1) (by simpa using h.2)
theorem bj.oq{a b c d:List Value}(h:bj u K a b)(bN:bj u K c d):bj u K (a++c) (b++d):=by
  refine⟨by simp[h.1,bN.1],λi x y G ag=> ?_⟩;rw[A9]at G ag;rw[<-h.1]at ag;split at G
  · rename_i ak;rw[if_pos ak]at ag;exact h.2 _ _ _ G ag
  · rename_i ak;rw[if_neg ak]at ag;exact bN.2 _ _ _ G ag
theorem bj.drop{a b:List Value}(h:bj u K a b)(n:Nat):bj u K (a.drop n) (b.drop n):=
  ⟨by simp[h.1],λi x y G ag=>h.2 (n+i) x y (by simpa using G) (by simpa using ag)⟩
theorem bj.take{a b:List Value}(h:bj u K a b)(n:Nat):bj u K (a.take n) (b.take n):=by
  refine⟨by simp[h.1],λi x y G ag=> ?_⟩;rw[tI]at G ag;split at G
  · rename_i ak;rw[if_pos ak]at ag;exact h.2 _ _ _ G ag
  · cases G
theorem bj.set{a b:List Value}(h:bj u K a b)(n:Nat){x y:Value}(ad:bV u K x y):bj u K (a.set n x) (b.set n y):=by
  refine⟨by simp[h.1],λi bo v G ag=> ?_⟩;rw[u2]at G ag;rw[<-h.1]at ag;split at G
  · rename_i ak;rw[if_pos ak]at ag;split at G
    · rename_i H;rw[if_pos H]at ag;simp at G ag;subst G;subst ag;exact ad
    · cases G
  · rename_i ak;rw[if_neg ak]at ag;exact h.2 _ _ _ G ag
theorem bj.gy: ∀{cj e2:List Value} {a b:List Value} (off:Nat),bj u K a b->bj u K cj e2->bj u K (gy a off cj) (gy b off e2)
  |[],[],_,_,_,h,_=>h
  |[],bo::e2,_,_,_,_,H=>by simp[bj]at H
  |v::cj,[],_,_,_,_,H=>by simp[bj]at H
  | v::cj,bo::e2,a,b,off,h,H=>by simp only[Go.DI.gy];exact bj.gy (off+1) (h.set off (H.2 0 v bo rfl rfl)) ⟨by simpa using H.1,λi x y G ag=>H.2 (i+1) x y (by simpa using G) (by simpa using ag)⟩
theorem bj.X{a b:List Value}(h:bj u K a b){i:Nat}{x:Value}(G:a[i]?=some x): ∃y,b[i]?=some y/\bV u K x y:=by have ak:i<a.length:=(eB.1 G).1;rw[h.1]at ak;exact⟨b[i],dD ak,h.2 i x _ G (dD ak)⟩
theorem bj.Db{c4:Type}(f g:c4->Value): ∀(l:List c4),(∀x∈l,bV u K (f x) (g x))->bj u K (l.map f) (l.map g)
  |[],_=>bj.nil
  |x::l,h=>bj.cons (h x (by simp)) (bj.Db f g l λy ag=>h y (by simp[ag]))
theorem bj.cy{cs:List Value}(h:cs.all dQ=true):bj u K cs cs:=by refine⟨rfl,λi x y G ag=> ?_⟩;rw[G]at ag;cases ag;exact .cy (eQ.1 h x (hF G))
theorem bj.flatten{k:Nat}{cs:List Value}(h:bj u K cs cs):bj u K (List.replicate k cs).flatten (List.replicate k cs).flatten:=by
  induction k with
  |zero=>exact bj.nil
  |succ k cc=>rw[IK,rp];exact h.oq cc
theorem bV.my{v:Value}(h:my v=true):bV u K v v:=by
  unfold Go.DI.my at h;split at h
  · rename_i cs;have:=bj.agg (u:=u) (K:=K) (bj.cy h);simpa using this
  · rename_i cs;have:=bj.tuple (u:=u) (K:=K) (bj.cy h);simpa using this
  · exact .cy h
theorem bV.undef:bV u K undef undef:=bj.tuple bj.nil
theorem bV.hC{v bu:Value}(h:bV u K v bu)(a6:dQ v=true):bu=v:=by
  cases h with
  |cy=>rfl
  |hT e=>subst e;simp[dQ,aw]at a6
  |hf e=>subst e;simp[dQ,aw]at a6
  |eL e=>subst e;simp[dQ,DI.eL]at a6
  |_=>simp[dQ]at a6
theorem bV.qe{k:IntKind}{n:Int}{v:Value}(h:bV u K (.int k n) v):v= .int k n:=h.hC rfl
theorem bV.qd{b:Bool}{v:Value}(h:bV u K (.bool b) v):v= .bool b:=h.hC rfl
theorem bV.vJ{b:ByteArray}{v:Value}(h:bV u K (.string b) v):v= .string b:=h.hC rfl
theorem bV.pv{a:Addr}{v:Value}(h:bV u K (.pointer (some a)) v): ∃b,K a.block=some b/\a.spot=none/\v= .pointer (some ⟨b,a.off,none⟩):=by
  cases h with
  |cy h=>simp[dQ]at h
  |cF h=>exact⟨_,h,rfl,rfl⟩
  |hT e=>simp[aw]at e
  |hf e=>simp[aw]at e
  |eL e=>simp[DI.eL]at e
theorem bV.mc{a:Addr}{l I:Nat}{v:Value}(h:bV u K (.slice (some a) l I) v):(∃b,K a.block=some b/\a.spot=none/\v= .slice (some ⟨b,a.off,none⟩) l I)\/(a.off=0/\a.spot=none/\l=0/\v= .slice none 0 0):=by
  cases h with
  |cy h=>simp[dQ]at h
  |slice h=>exact .inl ⟨_,h,rfl,rfl⟩
  |oU=>exact .inr ⟨rfl,rfl,rfl,rfl⟩
  |hT e=>simp[aw]at e
  |hf e=>simp[aw]at e
  |eL e=>simp[DI.eL]at e
theorem bV.q0{xs:Array Value}{v:Value}(h:bV u K (.agg xs) v): ∃ys,v= .agg ys/\bj u K xs.toList ys.toList:=by
  cases h with
  |cy h=>simp[dQ]at h
  |agg M h=>exact⟨_,rfl,by simpa using M,by simpa using h⟩
  |hT e=>simp[aw]at e
  |hf e=>simp[aw]at e
  |eL e=>simp[DI.eL]at e
theorem bV.zA{xs:Array Value}{v:Value}(h:bV u K (.tuple xs) v): ∃ys,v= .tuple ys/\bj u K xs.toList ys.toList:=by
  cases h with
  |cy h=>simp[dQ]at h
  |tuple M h=>exact⟨_,rfl,by simpa using M,by simpa using h⟩
  |hT e=>simp[aw]at e
  |hf e=>simp[aw]at e
  |eL e=>simp[DI.eL]at e
theorem bV.zz{f:Nat}{xs cs:Array Value}{v:Value}(h:bV u K (.func (.func f) xs cs) v): ∃ys ds,v= .func (.func f) ys ds/\bj u K xs.toList ys.toList/\bj u K cs.toList ds.toList:=by
  cases h with
  |cy h=>simp[dQ]at h
  |func M h hB H=>exact⟨_,_,rfl,⟨by simpa using M,by simpa using h⟩,by simpa using hB,by simpa using H⟩
  |hT e=>simp[aw]at e
  |hf e=>simp[aw]at e
  |eL e=>simp[DI.eL]at e
theorem bV.FG{t:TypeId}{x v:Value}(h:bV u K (.iface t x) v): ∃y,v= .iface t y/\bV u K x y:=by
  cases h with
  |cy h=>simp[dQ]at h
  |iface h=>exact⟨_,rfl,h⟩
  |hT e=>simp[aw]at e
  |hf e=>simp[aw]at e
  |eL e=>simp[DI.eL]at e
theorem bV.FH{o:Nat}{v:Value}(h:bV u K (.map (some o)) v): ∃b,K o=some b/\v= .map (some b):=by
  cases h with
  |cy h=>simp[dQ]at h
  |map h=>exact⟨_,h,rfl⟩
  |hT e=>simp[aw]at e
  |hf e=>simp[aw]at e
  |eL e=>simp[DI.eL]at e
theorem bV.X4{x v:Value}(h:bV u K x v)(ak:md x=true): ∃cJ k b off cs,x=DI.eL cJ k/\v= .pointer (some ⟨b,off+k,none⟩)/\u b=some cs/\off+cJ.length<=cs.length/\
    (∀(j:Nat) x y,cJ[j]?=some x->cs[off+j]?=some y->bV u kT x y):=by
  cases h with
  |cy h=>cases x<;>simp_all [dQ,md]
  |eL e D H aq=>exact⟨_,_,_,_,_,e,rfl,D,H,aq⟩
  |hT e=>subst e;simp at ak
  |hf e=>subst e;simp at ak
  |_=>simp[md]at ak
theorem bV.O{v bu:Value}(h:bV u K v bu):bj u K (O v) (O bu):=by
  cases h with
  |agg M h=>exact⟨by simpa[DI.O]using M,by simpa[DI.O]using h⟩
  |cy h=>cases v<;>simp[dQ]at h<;>exact bj.cons (.cy (by simp[dQ,h])) bj.nil
  |cF h=>exact bj.cons (.cF h) bj.nil
  |slice h=>exact bj.cons (.slice h) bj.nil
  |oU=>exact bj.cons .oU bj.nil
  |tuple M h=>exact bj.cons (.tuple M h) bj.nil
  |func M h hB H=>exact bj.cons (.func M h hB H) bj.nil
  |iface h=>exact bj.cons (.iface h) bj.nil
  |map h=>exact bj.cons (.map h) bj.nil
  |hT e a b c d=>subst e;exact bj.cons (.hT rfl a b c d) bj.nil
  |hf e=>subst e;exact bj.cons (.hf rfl) bj.nil
  |eL e a b c=>subst e;exact bj.cons (.eL rfl a b c) bj.nil
theorem bV.U{v bu:Value}(h:bV u K v bu)(au:U v=true):U bu=true:=by cases h<;>first|rfl|assumption|(simp[DI.U]at au)
theorem bV.S{v bu:Value}(h:bV u K v bu)(au:S v=true):S bu=true:=by cases h<;>first|rfl|assumption|(simp[DI.S]at au)
end
def o8(m:W)(v:Value)(n:Nat):Bool:=if md v then decide (sX v+n<=(HJ v).length)else gn m v n
def v9(m:W)(dd:Bool)(n:Nat)(v:Value):Value:=
  if md v then(if dd then .agg (((HJ v).drop (sX v)).take n).toArray else(((HJ v).drop (sX v)).take 1).headD undef)else kg m dd n v
def oP(v:Value):Bool:=md v||qk v
def uL(v:Value)(n:Nat):Value:=if md v then eL (HJ v) (sX v+n)else wm v n
def xZ(v:Value):Bool:=hD v||xY v
def jQ(v:Value):Int:=if hD v then((xC v).length:Nat)else h2 v
def j3(v:Value):Nat:=if hD v then(xC v).length else gv v
def kW(I:Nat)(v:Value):Bool:=if hD v then sX v==I else mP I v
def rj(v:Value)(I l h:Nat):Value:=if hD v then aw (((xC v).take h).drop l) I else oS v I l h
def yn(v:Value)(I:Nat)(i:Int):Value:=if hD v then eL ((xC v).getD i.toNat []) 0 else wG v I i
def kB(m:W)(I:Nat)(v:Value):Bool:=if hD v then sX v==I else fP m I v
def k5(m:W)(I:Nat)(v:Value):List Value:=if hD v then(xC v).flatten else fZ m I v
def lK(v:Value):Bool:= !jP v&&(match v with| .slice (some _) l _=>l !=0|_=>true)
def af.hW(k:af)(z:aM)(m:W):Bool:=
  match k with
  | .kx dd n x=>o8 m (Y z x) n&&(dd||decide (n=1))
  | .fg op c x y=>lK (Y z x)&&lK (Y z y)&&qG op c (Y z x) (Y z y)
  | .mw x=>kB m 1 (Y z x)&&(k5 m 1 (Y z x)).all z4
  | .mQ I x cp ak=>kW I (Y z x)&&nj z cp&&nj z ak&&decide (0<=gK z cp 0)&&decide (gK z cp 0<=gK z ak (jQ (Y z x)))&&decide (gK z ak (jQ (Y z x))<=jQ (Y z x))
  | .uS I x cp ak fk=>kW I (Y z x)&&nj z cp&&eT (Y z ak)&&eT (Y z fk)&&decide (0<=gK z cp 0)&&decide (gK z cp 0<=eG (Y z ak))&&decide (eG (Y z ak)<=eG (Y z fk))&&decide (eG (Y z fk)<=jQ (Y z x))
  | .rF _ x=>oP (Y z x)
  | .qc I x i=>kW I (Y z x)&&eT (Y z i)&&decide (0<=eG (Y z i))&&decide (eG (Y z i)<jQ (Y z x))
  | .oD _ len x i=>oP (Y z x)&&eT (Y z i)&&decide (0<=eG (Y z i))&&decide (eG (Y z i)<(len:Int))
  | .r2 x=>xZ (Y z x)
  | .app I bytes x y=>fP m I (Y z x)&&jS m (Y z x)&&kB m I (Y z y)&&decide (0<I)&&decide ((gv (Y z x)+j3 (Y z y))*bytes<=140737488355328)&&decide (gv (Y z x)+j3 (Y z y)<=9223372036854775807)
  | .td fn _ _=>(match fn with| .func _=>true|_=>false)
  |k=>k.ok z m
def af.ic(k:af)(id:Nat)(z:aM)(m:W):Value:=
  match k with
  | .kx dd n x=>v9 m dd n (Y z x)
  | .mw x=> .string (toBytes (k5 m 1 (Y z x)))
  | .mQ I x cp ak=>rj (Y z x) I (gK z cp 0).toNat (gK z ak (jQ (Y z x))).toNat
  | .uS I x cp ak _=>rj (Y z x) I (gK z cp 0).toNat (eG (Y z ak)).toNat
  | .rF off x=>uL (Y z x) off
  | .qc I x i=>yn (Y z x) I (eG (Y z i))
  | .oD I _ x i=>uL (Y z x) ((eG (Y z i)).toNat*I)
  | .r2 x=> .int .i64 (jQ (Y z x))
  | .app I _ x y=>if j3 (Y z y)=0 then Y z x else .slice (some ⟨id,0,none⟩) (gv (Y z x)+j3 (Y z y)) I
  |k=>k.val id z m
def af.mJ(k:af)(id:Nat)(z:aM)(m:W):W:=
  match k with
  | .app I _ x y=>if j3 (Y z y)=0 then m else(kf m (Y z x)).a0 id (some ⟨fZ m I (Y z x)++k5 m I (Y z y),true⟩)
  |k=>k.gu id z m
def tm(m:W)(o:Nat):Bool:=match m.X o with|some x=>x.own|none=>false
def Es(m:W)(v:Value):Bool:=match N v with|some o=>tm m o|none=>true
def I6(m:W)(a b:Value):Bool:=
  if jP a then !jP b&&Es m b else if jP b then Es m a else match N a,N b with
    |some a,some b=>a !=b
    |_,_=>true
def hO(z:aM)(m:W)(a4:List (Operand×Operand)):Bool:=a4.all λ(x,y)=>I6 m (Y z x) (Y z y)
def Hn(z:aM)(m:W)(a4:List (Operand×Operand)):Bool:=a4.all λp=>match N (Y z p.1)with|some o=> !tm m o|none=>true
def wi(k:af):Bool:=k.gR.all cO&&(match k with
  | .dz I| .eY I _| .fR _ _ I _| .jY _ _ I _ _| .lZ _ _ I _ _| .hl I _=>I.all dQ
  | .nd _ I _ _ _=>dQ I
  |_=>true)
def HA(o:bp):Bool:=wi o.k&&o.a4.all λp=>cO p.1&&cO p.2
def mM:J->Bool
  | .F ops=>ops.all HA&&uE (ops.map (·.aN))&&ops.all λo=>decide (o.aN<ops.length)
  | .B a b=>mM a&&mM b
  | .aV c a b=>cO c&&mM a&&mM b
  | .block _ c=>mM c
  | .loop c=>mM c
  | .qh _ _ _=>false
  |_=>true
def o3(u:fz)(K:eC)(a9 c1:List (Value×Value)):Prop:=a9.length=c1.length/\ ∀(i:Nat) e dX,a9[i]?=some e->c1[i]?=some dX->bV u K e.1 dX.1/\bV u K e.2 dX.2
theorem o3.b6{u cr:fz}{K cz:eC}{a9 c1:List (Value×Value)}(h:o3 u K a9 c1)(dv:gV u cr)(bQ:fy K cz):o3 cr cz a9 c1:=⟨h.1,λi e dX a b=>⟨(h.2 i e dX a b).1.b6 dv bQ,(h.2 i e dX a b).2.b6 dv bQ⟩⟩
structure dN(K:eC)(u:fz)(t m:W):Prop where
  hK: ∀o x,t.X o=some x->(∃b cs w,K o=some b/\m.X b=some ⟨cs,w⟩/\(x.own=true->w=true)/\bj u K x.cells cs)\/(K o=none/\x.cells=[])
  maps: ∀o a9,t.eK o=some a9-> ∃b c1,K o=some b/\m.eK b=some c1/\o3 u K a9 c1
  h3: ∀o,K o=none->t.mp o=none
  inj: ∀o o' b,K o=some b->K o'=some b->o=o'
  c2: ∀o b,K o=some b->o<t.next/\b<m.next
  bA: ∀b cs,u b=some cs->(∃w,m.X b=some ⟨cs,w⟩)/\ ∀o x,K o=some b->t.X o=some x->x.own=false
def Ef(K:eC)(t:W)(b:Nat):Prop:= ∃o x,K o=some b/\t.X o=some x/\x.own=true
def Bh(K:eC)(t:W)(b:Nat):Prop:= ∃o x,K o=some b/\t.X o=some x
structure eD(gE hg:Nat)(K:eC)(u:fz)(t m:W)(cz:eC)(cr:fz)(aJ an:W):Prop where
  e:fy K cz
  f:gV u cr
  iJ: ∀o b,cz o=some b->K o=some b\/(gE<=o/\hg<=b)
  fn: ∀b cs,cr b=some cs->u b=some cs\/hg<=b\/Bh K t b
  je:t.next<=aJ.next
  jE:m.next<=an.next
  la: ∀b,b<hg-> ¬Ef K t b->an.X b=m.X b
  nu: ∀b,b<hg->Ef cz aJ b->Ef K t b
  mX: ∀b,b<hg->Bh cz aJ b->Bh K t b
theorem eD.refl{gE hg:Nat}{K:eC}{u:fz}{t m:W}:eD gE hg K u t m K u t m:=
  ⟨fy.refl _,gV.refl _,λ_ _ h=> .inl h,λ_ _ h=> .inl h,dW _,dW _,λ_ _ _=>rfl,λ_ _ h=>h,λ_ _ h=>h⟩
theorem eD.trans{gE hg:Nat}{K cq fM:eC}{u dt ig:fz}{t bF iH m bg dH:W}(h:eD gE hg K u t m cq dt bF bg)(bN:eD gE hg cq dt bF bg fM ig iH dH):eD gE hg K u t m fM ig iH dH where
  e:=h.e.trans bN.e
  f:=h.f.trans bN.f
  iJ o b hb:=(bN.iJ o b hb).elim (λD=>h.iJ o b D) .inr
  fn b cs hb:=by
    rcases bN.fn b cs hb with D|D|D
    · exact h.fn b cs D
    · exact .inr (.inl D)
    · by_cases H:b<hg
      · exact .inr (.inr (h.mX b H D))
      · exact .inr (.inl (by omega))
  je:=kZ h.je bN.je
  jE:=kZ h.jE bN.jE
  la b hb aZ:=by rw[bN.la b hb (λw=>aZ (h.nu b hb w)),h.la b hb aZ]
  nu b hb aZ:=h.nu b hb (bN.nu b hb aZ)
  mX b hb aZ:=h.mX b hb (bN.mX b hb aZ)
theorem eD.uX{gE hg Ir Hw:Nat}{K cz:eC}{u cr:fz}{t aJ m an:W}(h:eD gE hg K u t m cz cr aJ an)(bt:Ir<=gE)(av:Hw<=hg):eD Ir Hw K u t m cz cr aJ an where
  e:=h.e
  f:=h.f
  iJ o b hb:=(h.iJ o b hb).imp_right λ⟨a,b⟩=>⟨by omega,by omega⟩
  fn b cs hb:=by
    rcases h.fn b cs hb with D|D|D
    · exact .inl D
    · exact .inr (.inl (by omega))
    · exact .inr (.inr D)
  je:=h.je
  jE:=h.jE
  la b hb aZ:=h.la b (by omega) aZ
  nu b hb aZ:=h.nu b (by omega) aZ
  mX b hb aZ:=h.mX b (by omega) aZ
def gF(u:fz)(K:eC)(z ae:aM):Prop:= ∀t,bV u K (z t) (ae t)
section
variable {u cr:fz} {K cz:eC} {z ae:aM} {t m:W}
theorem gF.b6(h:gF u K z ae)(dv:gV u cr)(bQ:fy K cz):gF cr cz z ae:= λt=>(h t).b6 dv bQ
theorem gF.Y(h:gF u K z ae){x:Operand}(G:cO x=true):bV u K (Y z x) (Y ae x):=by
  cases x with
  |tmp t=>exact h t
  |const v=>exact bV.my G
  |func f=>exact .func rfl (by intro i x y h;simp at h) rfl (by intro i x y h;simp at h)
  |global g=>simp[cO]at G
theorem gF.a0(h:gF u K z ae){d:Option Nat}{v bu:Value}(ad:bV u K v bu):gF u K (c0 z d v) (c0 ae d bu):=by
  cases d with
  |none=>exact h
  | some d=>
    intro t;simp only[c0,mm];by_cases e:t=d
    · simp only[e,if_true];exact ad
    · simp only[e,if_false];exact h t
theorem gF.xe(h:gF u K z ae){l:List Operand}(aD:l.all cO=true):bj u K (l.map (Go.DI.Y z)) (l.map (Go.DI.Y ae)):=
  bj.Db _ _ _ λx G=>h.Y (eQ.1 aD x G)
theorem gF.init{bz bs:List Value}(h:bj u K bz bs):gF u K (jl bz) (jl bs):= λt=>by
  simp only[jl,mV];cases ax:bz[t]? with
  | none=>rw[pP (by rw[<-h.1];exact List.getElem?_eq_none_iff.1 ax)];exact bV.undef
  |some x=>obtain⟨y,ag,ad⟩:=h.X ax;rw[ag];exact ad
theorem ada{v bu:Value}(h:bV u K v bu)(hb:rX v=true):bu=v:=by cases v<;>simp[rX]at hb;exact h.qd
theorem pw{v bu:Value}(h:bV u K v bu)(hb:eT v=true):bu=v:=by cases v<;>simp[eT]at hb;exact h.qe
theorem z3{v bu:Value}(h:bV u K v bu)(hb:kN v=true):bu=v:=by cases v<;>simp[kN]at hb;exact h.vJ
theorem Ur(h:gF u K z ae)(g:Option (Nat×Bool)):eA ae g=eA z g:=by
  cases g with
  |none=>rfl
  | some g=>
    obtain⟨j,b⟩:=g;have ad:=h j;simp only[eA];generalize z j=v at ad;generalize ae j=bu at ad;cases ad with
    |cy h=>rfl
    |hT e=>subst e;rfl
    |hf e=>subst e;rfl
    |eL e=>subst e;rfl
    |_=>rfl
end
section
variable {u:fz} {K:eC} {z ae:aM} {t m:W} {v bu:Value}
theorem rV(h:dQ v=true):hD v=false/\md v=false/\jP v=false:=by cases v<;>simp_all [dQ,hD,md,jP]
theorem bj.headD{xs ys:List Value}(h:bj u K xs ys):bV u K (xs.headD undef) (ys.headD undef):=by
  cases xs with
  | nil=>cases ys with
    |nil=>exact bV.undef
    |cons y ys=>simp[bj]at h
  | cons x xs=>cases ys with
    |nil=>simp[bj]at h
    |cons y ys=>exact h.2 0 x y rfl rfl
theorem bj.Wr: ∀{a8 tq:List (List Value)},a8.length=tq.length->(∀(i:Nat) r dV,a8[i]?=some r->tq[i]?=some dV->bj u K r dV)->bj u K a8.flatten tq.flatten
  |[],[],_,_=>bj.nil
  |[],_::_,h,_=>by simp at h
  |_::_,[],h,_=>by simp at h
  | r::a8,dV::tq,h,aH=>by rw[rp,rp];exact(aH 0 r dV rfl rfl).oq (bj.Wr (by simpa using h) λi a b ax hb=>aH (i+1) a b (by simpa using ax) (by simpa using hb))
theorem bj.cJ{cJ cs:List Value}{off k n:Nat}(aD:off+cJ.length<=cs.length)(ar: ∀(j:Nat) x y,cJ[j]?=some x->cs[off+j]?=some y->bV u kT x y)(aa:k+n<=cJ.length):
    bj u K ((cJ.drop k).take n) ((cs.drop (off+k)).take n):=by
  refine⟨by simp;omega,λi x y G ag=> ?_⟩;rw[tI]at G ag;split at G
  · rename_i ak;rw[if_pos ak]at ag;rw[wP]at G ag;exact(ar (k+i) x y G (by rw[<-o0];exact ag)).b6 (gV.refl _) (fy.nil _)
  · cases G
theorem dN.pc(M:dN K u t m){o b:Nat}{x:fq}(bQ:K o=some b)(G:t.X o=some x): ∃cs w,m.X b=some ⟨cs,w⟩/\(x.own=true->w=true)/\bj u K x.cells cs:=by
  rcases M.hK o x G with⟨ca,cs,w,D,H,aq,aE⟩|⟨D,_⟩
  · rw[bQ]at D;cases D;exact⟨cs,w,H,aq,aE⟩
  · rw[bQ]at D;cases D
theorem Eh(M:dN K u t m)(ad:bV u K v bu){n:Nat}(h:o8 t v n=true):gn m bu n=true:=by
  unfold o8 at h;split at h
  · rename_i ak;obtain⟨cJ,k,b,off,cs,rfl,rfl,dv,aD,ar⟩:=ad.X4 ak;obtain⟨⟨w,aZ⟩,_⟩:=M.bA b cs dv;simp at h;simp[aZ];omega
  · rename_i m5;unfold gn at h;split at h
    · next a=>
      obtain⟨b,bQ,l9,rfl⟩:=ad.pv;simp only[aY]at h;cases aF:t.X a.block with
      |none=>rw[aF]at h;simp at h
      | some x=>rw[aF]at h;obtain⟨cs,w,D,_,aq⟩:=M.pc bQ aF;simp at h;simp[D];have:=aq.1;omega
    · cases h
theorem Sq(M:dN K u t m)(ad:bV u K v bu){n:Nat}{dd:Bool}(h:o8 t v n=true)(D:(dd||decide (n=1))=true):bV u K (v9 t dd n v) (kg m dd n bu):=by
  unfold o8 at h;unfold v9;split at h
  · rename_i ak;rw[if_pos ak];obtain⟨cJ,k,b,off,cs,rfl,rfl,dv,aD,ar⟩:=ad.X4 ak;obtain⟨⟨w,aZ⟩,_⟩:=M.bA b cs dv;simp at h;simp only[auO,VO,aZ,XY,ael];cases dd with
    |true=>exact(bj.cJ aD ar h).agg
    |false=>simp at D;subst D;exact(bj.cJ aD ar h).headD
  · rename_i ak;rw[if_neg ak];unfold gn at h;split at h
    · next a=>
      obtain⟨b,bQ,l9,rfl⟩:=ad.pv;simp only[aY]at h;cases aF:t.X a.block with
      |none=>rw[aF]at h;simp at h
      | some x=>
        obtain⟨cs,w,H,_,aq⟩:=M.pc bQ aF;simp only[kg,hk,H];rw[aF];cases dd with
        |true=>exact((aq.drop _).take _).agg
        |false=>exact((aq.drop _).take _).headD
    · cases h
theorem aet(ad:bV u K v bu)(h:oP v=true):qk bu=true:=by
  cases ad with
  |cy D=>obtain⟨_,H,_⟩:=rV D;simpa[oP,H]using h
  |cF h=>rfl
  |eL e=>rfl
  |hT e=>subst e;simp[oP,qk,aw,md]at h
  |hf e=>subst e;simp[oP,qk,aw,md]at h
  |_=>simp[oP,qk,md]at h
theorem aes(ad:bV u K v bu)(h:oP v=true)(n:Nat):bV u K (uL v n) (wm bu n):=by
  cases ad with
  | cy D=>
    obtain⟨_,H,_⟩:=rV D;simp only[oP,H,Bool.false_or,qk]at h;split at h
    · simp[dQ]at D
    · cases h
  |cF bQ=>simp only[uL,md,wm,jv,if_false];exact .cF bQ
  |eL e dv aD ar=>subst e;simp only[uL,atF,if_true,ael,XY,wm,o0];exact .eL rfl dv aD ar
  |hT e=>subst e;simp[oP,qk,aw,md]at h
  |hf e=>subst e;simp[oP,qk,aw,md]at h
  |_=>simp[oP,qk,md]at h
theorem Mu(ad:bV u K v bu):jQ v=h2 bu:=by
  cases ad with
  |cy h=>simp[jQ,(rV h).1]
  |hT e=>subst e;simp[jQ,h2]
  |hf e=>subst e;simp[jQ,h2]
  |eL e=>subst e;simp[jQ,h2,eL,hD]
  |_=>rfl
theorem Nx(ad:bV u K v bu):j3 v=gv bu:=by
  cases ad with
  |cy h=>simp[j3,(rV h).1]
  |hT e=>subst e;simp[j3,gv]
  |hf e=>subst e;simp[j3,gv]
  |eL e=>subst e;simp[j3,gv,eL,hD]
  |_=>rfl
theorem atG(ad:bV u K v bu)(h:xZ v=true):xY bu=true:=by
  cases ad with
  |cy D=>simpa[xZ,(rV D).1]using h
  |hT e=>rfl
  |hf e=>rfl
  |eL e=>subst e;simp[xZ,eL,hD,xY]at h
  |_=>simpa[xZ,hD,xY]using h
theorem Ie(ad:bV u K v bu){I:Nat}(h:kW I v=true):mP I bu=true:=by
  cases ad with
  |cy D=>simpa[kW,(rV D).1]using h
  |hT e=>subst e;simpa[kW]using h
  |hf e=>rfl
  |eL e=>subst e;simp[kW,eL,hD,mP]at h
  |oU=>rfl
  |slice=>simpa[kW,hD]using h
  |_=>simp[kW,hD,mP]at h
theorem ae7(ad:bV u K v bu){I l h:Nat}(ai:kW I v=true)(D:l<=h)(H:h<=j3 v):bV u K (rj v I l h) (oS bu I l h):=by
  cases ad with
  | cy a6=>
    simp only[rj,(rV a6).1,jv,if_false];unfold oS;split
    · simp[dQ]at a6
    · exact .cy rfl
  | hT e dv aD bD ar=>
    rename_i b off jf cs a8;subst e;have BV:jf=I:=(by simpa[kW]using ai);subst BV;have sJ:h<=a8.length:=(by simpa[j3]using H);simp only[rj,Ma,if_true,Kj,oS];have eS:((a8.take h).drop l).length=h-l:=(by simp;omega);have av:h*jf<=a8.length*jf:=sn _ sJ;have bc:l*jf+(h-l)*jf=h*jf:=(by rw[<-k0];congr 1;omega);rw[<-eS];refine .hT rfl dv (by rw[eS];omega) (λi r az=> ?_) λi j r x y az G ag=> ?_
    · rw[wP,tI]at az;split at az
      · exact bD _ _ az
      · cases az
    · rw[wP,tI]at az;split at az
      · refine ar _ j r x y az G ?_;rw[<-ag];congr 1;rw[k0];omega
      · cases az
  | hf e=>subst e;simp only[rj,Ma,if_true,Kj,oS];simp;exact .hf rfl
  |eL e=>subst e;simp[kW,eL,hD,mP]at ai
  | oU=>have:h=0:=(by simpa[j3,hD,gv]using H);subst this;have:l=0:=(by omega);subst this;simp only[rj,hD,oS,jv,if_false,Nat.zero_mul,Nat.add_zero,Nat.sub_self];exact .oU
  |slice bQ=>simp only[rj,hD,oS,jv,if_false];exact .slice bQ
  |_=>simp[kW,hD,mP]at ai
theorem ayl(ad:bV u K v bu){I:Nat}{i:Int}(ai:kW I v=true)(cR:0<=i)(D:i<jQ v):bV u K (yn v I i) (wG bu I i):=by
  obtain⟨n,rfl⟩:=k1 cR;cases ad with
  | cy a6=>
    simp only[jQ,(rV a6).1,jv,if_false]at D;simp only[kW,(rV a6).1,jv,if_false]at ai;unfold mP at ai;split at ai
    · simp[h2]at D;simp at ai;omega
    · simp[dQ]at a6
    · cases ai
  | hT e dv aD bD ar=>rename_i b off jf cs a8;subst e;have BV:jf=I:=(by simpa[kW]using ai);subst BV;have H:n<a8.length:=(by simpa[jQ]using D);simp only[yn,Ma,if_true,Kj,wG,pR];rw[mV,dD H,Bg];have az:=dD H;have qV:=bD _ _ az;have:(n+1)*jf<=a8.length*jf:=sn _ H;rw[k0]at this;exact .eL (off:=off+n*jf) (k:=0) rfl dv (by omega) λj x y G ag=>ar n j _ x y az G ag
  |hf e=>subst e;simp[jQ]at D;omega
  |eL e=>subst e;simp[kW,eL,hD,mP]at ai
  |oU=>simp[jQ,hD,h2]at D;omega
  |slice bQ=>simp only[yn,hD,wG,jv,if_false];exact .cF bQ
  |_=>simp[kW,hD,mP]at ai
theorem Ij(M:dN K u t m)(ad:bV u K v bu){I:Nat}(h:kB t I v=true):fP m I bu=true:=by
  cases ad with
  | cy a6=>
    simp only[kB,(rV a6).1,jv,if_false]at h;unfold fP at h;split at h
    · simpa[fP]using h
    · simp[dQ]at a6
    · cases h
  | hT e dv aD bD ar=>subst e;have:=(by simpa[kB]using h);subst this;obtain⟨⟨w,aZ⟩,_⟩:=M.bA _ _ dv;simp[aZ,aD]
  |hf e=>rfl
  |eL e=>subst e;simp[kB,eL,hD,fP]at h
  |oU=>rfl
  | slice bQ=>
    rename_i o b off l jf;simp only[kB,hD,jv,if_false,ae8,aY]at h⊢;refine⟨h.1,?_⟩;cases aF:t.X o with
    |none=>rw[aF]at h;simp at h
    | some x=>rw[aF]at h;obtain⟨cs,w,D,_,aq⟩:=M.pc bQ aF;have:=aq.1;simp[D]at h⊢;omega
  |_=>simp[kB,hD,fP]at h
theorem Jo(M:dN K u t m)(ad:bV u K v bu){I:Nat}(h:kB t I v=true):bj u K (k5 t I v) (fZ m I bu):=by
  cases ad with
  | cy a6=>
    simp only[kB,(rV a6).1,jv,if_false]at h;unfold fP at h;split at h
    · exact bj.nil
    · simp[dQ]at a6
    · cases h
  | hT e dv aD bD ar=>rename_i b off jf cs a8;subst e;have:=(by simpa[kB]using h);subst this;obtain⟨⟨w,aZ⟩,_⟩:=M.bA _ _ dv;simp only[k5,Ma,if_true,Kj,ayp,VO,aZ];obtain⟨tq,aK,aR,cB⟩:=Te a8.length off aD;rw[<-aR];refine bj.Wr aK.symm λi r dV az XA=> ?_;have ak:=(eB.1 az).1;rw[cB i ak]at XA;cases XA;have Xm:=bD _ _ az;have:(i+1)*jf<=a8.length*jf:=sn _ ak;rw[k0]at this;have:=bj.cJ (u:=u) (K:=K) (cJ:=r) (cs:=cs) (off:=off+i*jf) (k:=0) (n:=jf) (by omega) (λj x y G ag=>ar i j r x y az G ag) (by omega);rw[List.drop_zero,jh (by omega)]at this;exact this
  |hf e=>subst e;simp[k5,fZ];exact bj.nil
  |eL e=>subst e;simp[kB,eL,hD,fP]at h
  | oU=>
    simp only[k5,hD,jv,if_false,fZ,hk];split
    · simp;exact bj.nil
    · exact bj.nil
  | slice bQ=>
    rename_i o b off l jf;simp only[kB,hD,jv,if_false,ae8,aY]at h;simp only[k5,hD,jv,if_false,fZ,hk];cases aF:t.X o with
    |none=>rw[aF]at h;simp at h
    | some x=>obtain⟨cs,w,D,_,aq⟩:=M.pc bQ aF;simp only[D];exact(aq.drop _).take _
  |_=>simp[kB,hD,fP]at h
theorem ae9(M:dN K u t m)(ad:bV u K v bu)(h:jS t v=true):jS m bu=true:=by
  unfold jS at h;split at h
  · rename_i l c;cases ad with
    |cy a6=>rfl
    |hT e=>simp[aw]at e
    |hf e=>simp[aw]at e
    |eL e=>simp[eL]at e
  · rename_i a l c;rcases ad.mc with⟨b,bQ,_,rfl⟩|⟨_,_,_,rfl⟩
    · cases aF:t.X a.block with
      |none=>rw[aF]at h;cases h
      | some x=>rw[aF]at h;obtain⟨cs,w,D,H,aq⟩:=M.pc bQ aF;simp[D,H h]
    · rfl
  · cases h
theorem au7(M:dN K u t m)(ad:bV u K v bu){a9:List (Value×Value)}(h:jX t v=some a9): ∃c1,jX m bu=some c1/\o3 u K a9 c1:=by
  unfold jX at h;split at h
  · cases h;have:bu= .map none:=ad.hC rfl;subst this;exact⟨[],rfl,rfl,λi e dX a=>by simp at a⟩
  · obtain⟨b,c1,D,H,aq⟩:=M.maps _ _ h;obtain⟨ca,aE,rfl⟩:=ad.FH;rw[D]at aE;cases aE;exact⟨c1,H,aq⟩
  · cases h
theorem adg(ad:bV u K v bu){a4:j8}(h:nb a4 v=true):bu=v:=by
  cases a4<;>cases v<;>simp[nb]at h
  · exact ad.qe
  · exact ad.vJ
theorem adr{a4:j8}{a9 c1:List (Value×Value)}(bb:o3 u K a9 c1)(ad:bV u K v bu)(h:kR a4 v a9=true):kR a4 bu c1=true/\bu=v/\ ∀(i:Nat) e dX,a9[i]?=some e->c1[i]?=some dX->dX.1=e.1:=by
  simp only[kR,aY,eQ]at h⊢;have aK:=adg ad h.1;subst aK;have aa: ∀(i:Nat) e dX,a9[i]?=some e->c1[i]?=some dX->dX.1=e.1:= λi e dX a b=>adg (bb.2 i e dX a b).1 (h.2 e (hF a));refine⟨⟨h.1,λdX av=> ?_⟩,rfl,aa⟩;obtain⟨i,ak,rfl⟩:=mq av;have hH:i<a9.length:=by rw[bb.1];exact ak
  rw[aa i _ _ (dD hH) (dD ak)];exact h.2 _ (nv hH)
theorem adJ{k:Value}: ∀{a9 c1:List (Value×Value)},o3 u K a9 c1->(∀(i:Nat) e dX,a9[i]?=some e->c1[i]?=some dX->dX.1=e.1)->(hE k a9=none/\hE k c1=none)\/ ∃a b,hE k a9=some a/\hE k c1=some b/\bV u K a b
  |[],[],_,_=> .inl ⟨rfl,rfl⟩
  |[],_::_,h,_=>by simp[o3]at h
  |_::_,[],h,_=>by simp[o3]at h
  | e::a9,dX::c1,h,aa=>by
    have cR:=aa 0 e dX rfl rfl;simp only[hE,cR];split
    · exact .inr ⟨_,_,rfl,rfl,(h.2 0 e dX rfl rfl).2⟩
    · exact adJ ⟨by simpa using h.1,λi a b ax hb=>h.2 (i+1) a b (by simpa using ax) (by simpa using hb)⟩ λi a b ax hb=>aa (i+1) a b (by simpa using ax) (by simpa using hb)
theorem adX{k v bu:Value}(xp:bV u K k k)(ad:bV u K v bu): ∀{a9 c1:List (Value×Value)},o3 u K a9 c1->(∀(i:Nat) e dX,a9[i]?=some e->c1[i]?=some dX->dX.1=e.1)->o3 u K (iZ k v a9) (iZ k bu c1)
  | [],[],_,_=>⟨rfl,λi a b ax hb=>by
      cases i with
      |zero=>simp[iZ]at ax hb;subst ax;subst hb;exact⟨xp,ad⟩
      |succ i=>simp[iZ]at ax⟩
  |[],_::_,h,_=>by simp[o3]at h
  |_::_,[],h,_=>by simp[o3]at h
  | e::a9,dX::c1,h,aa=>by
    have cR:=aa 0 e dX rfl rfl;have bt:o3 u K a9 c1:=⟨by simpa using h.1,λi a b ax hb=>h.2 (i+1) a b (by simpa using ax) (by simpa using hb)⟩;simp only[iZ,cR];split
    · refine⟨by simpa using h.1,λi a b ax hb=> ?_⟩;cases i with
      |zero=>simp at ax hb;subst ax;subst hb;exact⟨xp,ad⟩
      |succ i=>exact bt.2 i a b (by simpa using ax) (by simpa using hb)
    · have:=adX xp ad bt λi a b ax hb=>aa (i+1) a b (by simpa using ax) (by simpa using hb);refine⟨by simpa using this.1,λi a b ax hb=> ?_⟩;cases i with
      |zero=>simp at ax hb;subst ax;subst hb;exact h.2 0 e dX rfl rfl
      |succ i=>exact this.2 i a b (by simpa using ax) (by simpa using hb)
end
section
variable {u:fz} {K:eC} {z ae:aM} {t m:W} {v bu:Value}
theorem HC(bB:gF u K z ae){x:Option Operand}(G: ∀o,x=some o->cO o=true)(h:nj z x=true)(d:Int):nj ae x=true/\gK ae x d=gK z x d:=by
  cases x with
  |none=>exact⟨rfl,rfl⟩
  | some o=>have e:=pw (bB.Y (G o rfl)) h;simp only[nj,gK,e]at h⊢;exact⟨h,trivial⟩
theorem aem(bB:gF u K z ae){cs k6:List Value}(aD:cs.length=k6.length){ps:List (Nat×Nat×Operand)}(ax: ∀p∈ps,cO p.2.2=true)(h:pD cs z ps=true):pD k6 ae ps=true:=by simp only[pD,eQ]at h⊢;intro p ai;have:=h p ai;obtain⟨off,n,x⟩:=p;simp only[aY,eO]at this⊢;have ad:=bB.Y (ax _ ai);exact⟨⟨ad.U this.1.1,by rw[<-ad.O.1];exact this.1.2⟩,by rw[<-aD];exact this.2⟩
theorem SU(bB:gF u K z ae): ∀{ps:List (Nat×Nat×Operand)} {cs k6:List Value},bj u K cs k6->(∀p∈ps,cO p.2.2=true)->bj u K (lE cs z ps) (lE k6 ae ps)
  |[],_,_,h,_=>h
  | (off,n,x)::ps,_,_,h,ax=>by simp only[lE];exact SU bB (h.gy off (bB.Y (ax (off,n,x) (by simp))).O) λp ai=>ax p (by simp[ai])
theorem bV.DC{v:Value}(h:dQ v=true\/v=Go.undef):bV u K v v:=by
  rcases h with h|rfl
  · exact .cy h
  · exact bV.undef
theorem aky(op:BinOp)(k:IntKind)(a b:Int):dQ (B1 op k a b)=true:=by cases op<;>rfl
theorem ayw(op:BinOp)(a b:ByteArray):dQ (yu op a b)=true\/yu op a b=Go.undef:=by cases op<;>first|exact .inl rfl|exact .inr rfl
theorem ahi(op:BinOp)(x y:Value):dQ (kI op x y)=true\/kI op x y=Go.undef:=by
  unfold kI;split
  · exact .inl (aky _ _ _ _)
  · exact ayw _ _ _
  · split
    · exact .inl rfl
    · exact .inl rfl
    · exact .inr rfl
theorem ae0(ad:bV u K v bu)(h:lK v=true):bu=v\/(∃a dF,v= .pointer (some a)/\bu= .pointer (some dF))\/(∃a dF l I,v= .slice (some a) l I/\bu= .slice (some dF) l I)\/
    (∃f xs cs ys ds,v= .func (.func f) xs cs/\bu= .func (.func f) ys ds)\/(∃a b,v= .map a/\bu= .map b)\/(∃a b,v= .agg a/\bu= .agg b)\/(∃a b,v= .tuple a/\bu= .tuple b)\/ ∃t a b,v= .iface t a/\bu= .iface t b:=by
  cases ad with
  |cy=>exact .inl rfl
  |cF=>exact .inr (.inl ⟨_,_,rfl,rfl⟩)
  |slice=>exact .inr (.inr (.inl ⟨_,_,_,_,rfl,rfl⟩))
  |oU=>simp[lK,jP]at h
  |map=>exact .inr (.inr (.inr (.inr (.inl ⟨_,_,rfl,rfl⟩))))
  |agg=>exact .inr (.inr (.inr (.inr (.inr (.inl ⟨_,_,rfl,rfl⟩)))))
  |tuple=>exact .inr (.inr (.inr (.inr (.inr (.inr (.inl ⟨_,_,rfl,rfl⟩))))))
  |func=>exact .inr (.inr (.inr (.inl ⟨_,_,_,_,_,rfl,rfl⟩)))
  |iface=>exact .inr (.inr (.inr (.inr (.inr (.inr (.inr ⟨_,_,_,rfl,rfl⟩))))))
  |hT e=>subst e;simp[lK]at h
  |hf e=>subst e;simp[lK]at h
  |eL e=>subst e;simp[lK]at h
theorem VC{x y:Value}{op:BinOp}{c:su}(h:(eT x&&eT y)=false)(H:(kN x&&kN y)=false):qG op c x y=(match op with| .eql| .neq=>sF c x y|_=>false):=by
  unfold qG;split
  · simp[eT]at h
  · simp[kN]at H
  · rfl
theorem VD{x y:Value}{op:BinOp}(h:(eT x&&eT y)=false)(H:(kN x&&kN y)=false):kI op x y=(match op with| .eql=> .bool (nV x y)| .neq=> .bool (!nV x y)|_=>Go.undef):=by
  unfold kI;split
  · simp[eT]at h
  · simp[kN]at H
  · rfl
theorem adb(ad:bV u K v bu)(h:lK v=true):eT bu=eT v/\kN bu=kN v:=by rcases ae0 ad h with rfl|⟨a,dF,rfl,rfl⟩|⟨a,dF,l,I,rfl,rfl⟩|⟨f,xs,cs,ys,ds,rfl,rfl⟩|⟨a,b,rfl,rfl⟩|⟨a,b,rfl,rfl⟩|⟨a,b,rfl,rfl⟩|⟨t,a,b,rfl,rfl⟩<;>exact⟨rfl,rfl⟩
def DN:Value->Value
  | .pointer (some _)=> .pointer (some ⟨0,0,none⟩)
  | .slice (some _) _ _=> .slice (some ⟨0,0,none⟩) 0 0
  | .func _ _ _=> .func (.func 0) #[] #[]
  | .map _=> .map none
  | .agg _=> .agg #[]
  | .tuple _=> .tuple #[]
  | .iface _ _=> .iface 0 .nilIface
  |v=>v
theorem Wl(c:su)(x y:Value):sF c (DN x) (DN y)=sF c x y:=by cases c<;>cases x<;>cases y<;>first|rfl|(cases‹Option Addr› <;>first|rfl|(cases‹Option Addr› <;>rfl))
theorem Wm(x y:Value):nV (DN x) (DN y)=nV x y:=by cases x<;>cases y<;>first|rfl|(cases‹Option Addr› <;>first|rfl|(cases‹Option Addr› <;>rfl))
theorem NB(ad:bV u K v bu)(h:lK v=true):DN bu=DN v:=by rcases ae0 ad h with rfl|⟨a,dF,rfl,rfl⟩|⟨a,dF,l,I,rfl,rfl⟩|⟨f,xs,cs,ys,ds,rfl,rfl⟩|⟨a,b,rfl,rfl⟩|⟨a,b,rfl,rfl⟩|⟨a,b,rfl,rfl⟩|⟨t,a,b,rfl,rfl⟩<;>rfl
theorem Wn{x y hM wO:Value}{c:su}(G:bV u K x hM)(ag:bV u K y wO)(D:lK x=true)(H:lK y=true)(h:sF c x y=true):sF c hM wO=true/\nV hM wO=nV x y:=by rw[<-Wl,NB G D,NB ag H,Wl,<-Wm hM wO,NB G D,NB ag H,Wm];exact⟨h,rfl⟩
theorem ahj{x y hM wO:Value}{op:BinOp}{c:su}(G:bV u K x hM)(ag:bV u K y wO)(D:lK x=true)(H:lK y=true)(h:qG op c x y=true):qG op c hM wO=true/\kI op hM wO=kI op x y:=by
  obtain⟨ku,bl⟩:=adb G D;obtain⟨lx,eU⟩:=adb ag H;by_cases ak:(eT x&&eT y)=true
  · simp only[aY]at ak;rw[pw G ak.1,pw ag ak.2];exact⟨h,rfl⟩
  · by_cases M:(kN x&&kN y)=true
    · simp only[aY]at M;rw[z3 G M.1,z3 ag M.2];exact⟨h,rfl⟩
    · simp only[Bool.not_eq_true]at ak M;rw[VC ak M]at h;rw[VC (by rw[ku,lx];exact ak) (by rw[bl,eU];exact M),VD ak M,VD (by rw[ku,lx];exact ak) (by rw[bl,eU];exact M)];cases op<;>simp only[jv]at h⊢
      · obtain⟨a,b⟩:=Wn G ag D H h;rw[b];exact⟨a,rfl⟩
      · obtain⟨a,b⟩:=Wn G ag D H h;rw[b];exact⟨a,rfl⟩
theorem adw: ∀{gz:List o1} {bz bs Bq Eu:List Value},h0 gz bz bs=true->bj u K bz Bq->bj u K bs Eu->Bq=bz/\Eu=bs
  | [],[],[],Bq,Eu,_,D,H=>by have aK:Bq=[]:=yE (by rw[<-D.1];rfl);have aR:Eu=[]:=yE (by rw[<-H.1];rfl);exact⟨aK,aR⟩
  |k::gz,a::bz,b::bs,[],_,_,D,_=>by simp[bj]at D
  |k::gz,a::bz,b::bs,_::_,[],_,_,H=>by simp[bj]at H
  | k::gz,a::bz,b::bs,dF::Bq,ca::Eu,h,D,H=>by simp only[h0,aY]at h;obtain⟨aK,aR⟩:=adw h.2 ⟨by simpa using D.1,λi x y G ag=>D.2 (i+1) x y (by simpa using G) (by simpa using ag)⟩ ⟨by simpa using H.1,λi x y G ag=>H.2 (i+1) x y (by simpa using G) (by simpa using ag)⟩;have ax:=D.2 0 a dF rfl rfl;have hb:=H.2 0 b ca rfl rfl;have aa:=h.1;have cB:dF=a:=(by cases k<;>cases a<;>cases b<;>simp[w8]at aa<;>exact ax.hC rfl);have gX:ca=b:=(by cases k<;>cases a<;>cases b<;>simp[w8]at aa<;>exact hb.hC rfl);rw[aK,aR,cB,gX];exact⟨rfl,rfl⟩
  |[],_::_,_,_,_,h,_,_=>by simp[h0]at h
  |[],[],_::_,_,_,h,_,_=>by simp[h0]at h
  |_::_,[],_,_,_,h,_,_=>by simp[h0]at h
  |_::_,_::_,[],_,_,h,_,_=>by simp[h0]at h
theorem adS(bB:gF u K z ae)(fk:Bool): ∀(xs:List Operand) (dC:Value),xs.all cO=true->(xs.all λy=>eT (Y z y))=true->eT dC=true->
    (xs.foldl (λdC y=>if fk then nG dC (Y ae y)else nH dC (Y ae y)) dC=xs.foldl (λdC y=>if fk then nG dC (Y z y)else nH dC (Y z y)) dC)/\eT (xs.foldl (λdC y=>if fk then nG dC (Y z y)else nH dC (Y z y)) dC)=true
  |[],dC,_,_,h=>⟨rfl,h⟩
  | y::xs,dC,ax,ak,h=>by simp only[mW,aY]at ax ak;have e:=pw (bB.Y ax.1) ak.1;simp only[wS,e];refine adS bB fk xs _ ax.2 ak.2 ?_;have D:=ak.1;cases dC<;>simp[eT]at h;cases ag:Y z y<;>simp[ag,eT]at D;split<;>rfl
theorem aiq(h:eT v=true):dQ v=true:=by cases v<;>simp[eT]at h<;>rfl
def af.S1:af->Bool
  | .dz _| .l0 _| .fR _ _ _ _| .ny _| .jY _ _ _ _ _| .app _ _ _ _| .lZ _ _ _ _ _| .hl _ _| .nc| .store _ _ _| .lR _ _ _ _| .dm _ _| .iy _ _| .kv _ _ _=>false
  |_=>true
theorem awn{k:af}(h:k.S1=true){id iB:Nat}:k.mJ id z t=t/\k.gu iB ae m=m:=by cases k<;>first|exact⟨rfl,rfl⟩|cases h
theorem awo(M:dN K u t m)(bB:gF u K z ae){k:af}(bc:k.S1=true)(aC:wi k=true)(ao:k.hW z t=true)(id iB:Nat):k.ok ae m=true/\bV u K (k.ic id z t) (k.val iB ae m):=by
  simp only[wi,aY]at aC;obtain⟨ax,bD⟩:=aC;cases k with
  |nf x=>simp[af.gR]at ax;exact⟨rfl,bB.Y ax⟩
  | pE c a b=>
    simp[af.gR]at ax;have e:=ada (bB.Y ax.1) ao;refine⟨by simp only[af.ok,e];exact ao,?_⟩;simp only[af.ic,af.val,e];split
    · exact bB.Y ax.2.1
    · exact bB.Y ax.2.2
  | ti x=>
    simp[af.gR]at ax;have ad:=bB.Y ax;refine⟨?_,ad⟩;simp only[af.hW,af.ok]at ao⊢;generalize Y z x=a at ad ao;generalize Y ae x=dF at ad;cases ad with
    |cy=>exact ao
    |_=>rfl
  | eY I ps=>have m3: ∀p∈ps,cO p.2.2=true:= λp ai=>eQ.1 ax _ (by simp only[af.gR];exact List.mem_map_of_mem ai);have aD:=bj.cy (u:=u) (K:=K) bD;exact⟨aem bB rfl m3 ao,(SU bB aD m3).agg⟩
  | kx dd n x=>simp[af.gR]at ax;simp only[af.hW,aY]at ao;refine⟨?_,Sq M (bB.Y ax) ao.1 ao.2⟩;simp only[af.ok,aY];exact⟨Eh M (bB.Y ax) ao.1,ao.2⟩
  | fg op c x y=>simp[af.gR]at ax;simp only[af.hW,aY]at ao;obtain⟨D,H⟩:=ahj (bB.Y ax.1) (bB.Y ax.2) ao.1.1 ao.1.2 ao.2;refine⟨D,?_⟩;simp only[af.ic,af.val,H];exact bV.DC (ahi _ _ _)
  | vr jR gz x y=>simp[af.gR]at ax;simp only[af.hW,af.ok,aY]at ao;have G:=bB.Y ax.1;have ag:=bB.Y ax.2;simp only[af.ok,af.ic,af.val];cases fJ:Y z x<;>simp[fJ,rW]at ao;cases Fy:Y z y<;>simp[Fy]at ao;rw[fJ]at G;rw[Fy]at ag;obtain⟨xs,aK,jo⟩:=G.q0;obtain⟨ys,aR,jq⟩:=ag.q0;obtain⟨cB,gX⟩:=adw ao jo jq;simp only[aK,aR,O,cB,gX,rW,ru];exact⟨ao,.cy rfl⟩
  | qv op x=>
    simp[af.gR]at ax;have ad:=bB.Y ax;simp only[af.hW,af.ok,af.ic,af.val]at ao⊢;cases fJ:Y z x with
    |int k n=>rw[fJ]at ad ao;rw[ad.qe];exact⟨ao,by cases op<;>first|exact .cy rfl|exact bV.undef⟩
    |bool b=>rw[fJ]at ad ao;rw[ad.qd];exact⟨ao,by cases op<;>first|exact .cy rfl|exact bV.undef⟩
    |_=>rw[fJ]at ao;cases op<;>simp[wL]at ao
  | rz k x=>simp[af.gR]at ax;have e:=pw (bB.Y ax) ao;simp only[af.ok,af.ic,af.val,e];exact⟨ao,.cy rfl⟩
  | Bx x=>simp[af.gR]at ax;have e:=z3 (bB.Y ax) ao;simp only[af.ok,af.ic,af.val,e];refine⟨ao,?_⟩;simp only[af.hW,af.ok]at ao;cases G:Y z x<;>simp[G,kN]at ao;exact .cy rfl
  | mw x=>
    simp[af.gR]at ax;have ad:=bB.Y ax;simp only[af.hW,aY]at ao;have aD:=Jo M ad ao.1;have e:fZ m 1 (Y ae x)=k5 t 1 (Y z x):=by
      apply List.ext_getElem
      · exact aD.1.symm
      · intro i D H;have aH:=aD.2 i _ _ (dD H) (dD D);have aS:=eQ.1 ao.2 _ (nv H);generalize(k5 t 1 (Y z x))[i]=a at aH aS;cases a<;>simp[z4]at aS;exact aH.qe
    simp only[af.ok,af.ic,af.val,e,aY];exact⟨⟨Ij M ad ao.1,ao.2⟩,.cy rfl⟩
  | AW x cp ak=>simp[af.gR]at ax;have oz: ∀o,cp=some o->cO o=true:= λo h=>ax.2.1 o h;have ue: ∀o,ak=some o->cO o=true:= λo h=>ax.2.2 o h;simp only[af.hW,af.ok,aY,eO]at ao;obtain⟨⟨⟨⟨⟨D,H⟩,aq⟩,aE⟩,bq⟩,cP⟩:=ao;have e:=z3 (bB.Y ax.1) D;obtain⟨aK,aR⟩:=HC bB oz H 0;obtain⟨cB,gX⟩:=HC bB ue aq (h2 (Y z x));simp only[af.ok,af.ic,af.val,e,aK,aR,cB,gX,aY,eO];exact⟨⟨⟨⟨⟨⟨D,trivial⟩,trivial⟩,aE⟩,bq⟩,cP⟩,.cy rfl⟩
  | mQ I x cp ak=>
    simp[af.gR]at ax;have oz: ∀o,cp=some o->cO o=true:= λo h=>ax.2.1 o h;have ue: ∀o,ak=some o->cO o=true:= λo h=>ax.2.2 o h;simp only[af.hW,aY,eO]at ao;obtain⟨⟨⟨⟨⟨D,H⟩,aq⟩,aE⟩,bq⟩,cP⟩:=ao;have ad:=bB.Y ax.1;have sC:=Mu ad;obtain⟨aK,aR⟩:=HC bB oz H 0;obtain⟨cB,gX⟩:=HC bB ue aq (jQ (Y z x));simp only[af.ok,af.ic,af.val,<-sC,aK,aR,cB,gX,aY,eO];refine⟨⟨⟨⟨⟨⟨Ie ad D,trivial⟩,trivial⟩,aE⟩,bq⟩,cP⟩,ae7 ad D (by omega) ?_⟩;have:jQ (Y z x)=j3 (Y z x):=by
      have jj:=Ie ad D;rw[sC,Nx ad];unfold mP at jj;split at jj
      · simp at jj;next bc=>rw[bc];simp[h2,gv]
      · next bc=>rw[bc];simp[h2,gv]
      · cases jj
    omega
  | uS I x cp ak fk=>
    simp[af.gR]at ax;have oz: ∀o,cp=some o->cO o=true:= λo h=>ax.2.2.2 o (by simp[h]);simp only[af.hW,aY,eO]at ao;obtain⟨⟨⟨⟨⟨⟨⟨D,H⟩,aq⟩,aE⟩,bq⟩,cP⟩,fB⟩,hA⟩:=ao;have ad:=bB.Y ax.1;have sC:=Mu ad;obtain⟨aK,aR⟩:=HC bB oz H 0;have cB:=pw (bB.Y ax.2.1) aq;have gX:=pw (bB.Y ax.2.2.1) aE;simp only[af.ok,af.ic,af.val,<-sC,aK,aR,cB,gX,aY,eO];refine⟨⟨⟨⟨⟨⟨⟨⟨Ie ad D,trivial⟩,aq⟩,aE⟩,bq⟩,cP⟩,fB⟩,hA⟩,ae7 ad D (by omega) ?_⟩;have:jQ (Y z x)=j3 (Y z x):=by
      have jj:=Ie ad D;rw[sC,Nx ad];unfold mP at jj;split at jj
      · simp at jj;next bc=>rw[bc];simp[h2,gv]
      · next bc=>rw[bc];simp[h2,gv]
      · cases jj
    omega
  | oT I n x=>
    simp[af.gR]at ax;have ad:=bB.Y ax;simp only[af.hW,af.ok,aY]at ao;simp only[af.ok,af.ic,af.val,aY];have m5:md (Y z x)=false:=by cases G:Y z x<;>simp[G,gn]at ao<;>rfl
    have bt:o8 t (Y z x) (n*I)=true:=(by rw[o8,m5];exact ao.1);refine⟨⟨Eh M ad bt,ao.2⟩,?_⟩;cases G:Y z x<;>simp[G,gn]at ao
    next a=>
      cases a with
      |none=>simp at ao
      | some a=>rw[G]at ad;obtain⟨b,D,H,aq⟩:=ad.pv;rw[aq];simp only[Ej];exact .slice D
  |rF off x=>simp[af.gR]at ax;exact⟨aet (bB.Y ax) ao,aes (bB.Y ax) ao off⟩
  | field dd off n x=>
    simp[af.gR]at ax;have ad:=bB.Y ax;simp only[af.hW,af.ok,aY]at ao;simp only[af.ok,af.ic,af.val,aY];cases G:Y z x<;>simp[G,EM]at ao;rw[G]at ad;obtain⟨ys,e,aD⟩:=ad.q0;have:=aD.1;simp at this;rw[e];refine⟨⟨by simp[EM];omega,by simpa using ao.2⟩,?_⟩;simp only[JF];split
    · exact((aD.drop _).take _).agg
    · next sN=>rename_i cs;have D:n=1:=(by simpa[sN]using ao.2);have ak:off<cs.toList.length:=(by simp;omega);obtain⟨y,ag,PU⟩:=aD.X (dD ak);rw[mV,mV,dD ak,ag];exact PU
  | qc I x i=>simp[af.gR]at ax;simp only[af.hW,aY,eO]at ao;obtain⟨⟨⟨D,H⟩,aq⟩,aE⟩:=ao;have ad:=bB.Y ax.1;have e:=pw (bB.Y ax.2) H;simp only[af.ok,af.ic,af.val,e,<-Mu ad,aY,eO];exact⟨⟨⟨⟨Ie ad D,H⟩,aq⟩,aE⟩,ayl ad D aq aE⟩
  | oD I n x i=>simp[af.gR]at ax;simp only[af.hW,aY,eO]at ao;obtain⟨⟨⟨D,H⟩,aq⟩,aE⟩:=ao;have ad:=bB.Y ax.1;have e:=pw (bB.Y ax.2) H;simp only[af.ok,af.ic,af.val,e,aY,eO];exact⟨⟨⟨⟨aet ad D,H⟩,aq⟩,aE⟩,aes ad D _⟩
  | sW x i=>simp[af.gR]at ax;simp only[af.hW,af.ok,aY,eO]at ao;obtain⟨⟨⟨D,H⟩,aq⟩,aE⟩:=ao;have e:=pw (bB.Y ax.2) H;have aK:=z3 (bB.Y ax.1) D;simp only[af.ok,af.ic,af.val,e,aK,aY,eO];exact⟨⟨⟨⟨D,H⟩,aq⟩,aE⟩,.cy rfl⟩
  | ext i x=>simp[af.gR]at ax;have ad:=bB.Y ax;simp only[af.hW,af.ok]at ao;simp only[af.ok,af.ic,af.val];cases G:Y z x<;>simp[G,DQ]at ao;rename_i cj;rw[G]at ad;obtain⟨ys,e,aD⟩:=ad.zA;have:=aD.1;simp at this;rw[e];have ak:i<cj.toList.length:=(by simpa using ao);obtain⟨y,ag,PU⟩:=aD.X (dD ak);refine⟨by simp[DQ];omega,?_⟩;simp only[A1];rw[mV,mV,dD ak,ag];exact PU
  | r1 x=>simp[af.gR]at ax;have aK:=z3 (bB.Y ax) ao;simp only[af.ok,af.ic,af.val,aK];exact⟨ao,.cy rfl⟩
  | r2 x=>simp[af.gR]at ax;have ad:=bB.Y ax;refine⟨atG ad ao,?_⟩;simp only[af.ic,af.val,Mu ad];exact .cy rfl
  | vl x=>simp[af.gR]at ax;have ad:=bB.Y ax;simp only[af.hW,af.ok]at ao⊢;rw[Mc ao]at ad;rw[ad.hC rfl];exact⟨rfl,.cy rfl⟩
  | oJ fk x xs=>simp[af.gR]at ax;simp only[af.hW,af.ok,aY]at ao;have e:=pw (bB.Y ax.1) ao.1;have P0:xs.all cO=true:=(by simpa using ax.2);obtain⟨D,H⟩:=adS bB fk xs (Y z x) P0 ao.2 ao.1;simp only[af.ok,af.ic,af.val,e,D,aY];refine⟨⟨ao.1,?_⟩,.cy (aiq H)⟩;simp only[eQ]at ao P0⊢;intro y ag;rw[pw (bB.Y (P0 y ag)) (ao.2 y ag)];exact ao.2 y ag
  | td fn first l3=>
    simp only[af.hW]at ao;simp only[af.gR,rr,aY]at ax;refine⟨rfl,?_⟩;simp only[af.ic,af.val];cases fn with
    | func f=>have D:=bB.xe ax.1;have H:=bB.xe ax.2;exact .func (by simpa using D.1) (by simpa using D.2) (by simpa using H.1) (by simpa using H.2)
    |_=>cases ao
  |wc nS x=>simp[af.gR]at ax;exact⟨rfl,.iface (bB.Y ax)⟩
  | DP nS x=>simp[af.gR]at ax;have ad:=bB.Y ax;simp only[af.hW,af.ok]at ao;simp only[af.ok,af.ic,af.val];cases G:Y z x<;>simp[G,FE]at ao;rw[G]at ad;obtain⟨y,e,D⟩:=ad.FG;rw[e];exact⟨by simpa[FE]using ao,D⟩
  | nd a4 I o x fK=>
    simp[af.gR]at ax;simp only[af.hW,af.ok]at ao;simp only[af.ok,af.ic,af.val];cases av:jX t (Y z x)with
    |none=>rw[av]at ao;cases ao
    | some a9=>
      rw[av]at ao;simp only at ao;obtain⟨c1,D,H⟩:=au7 M (bB.Y ax.1) av;obtain⟨aq,aE,bq⟩:=adr H (bB.Y ax.2) ao;rw[D,aE];rw[aE]at aq;refine⟨aq,?_⟩;simp only[Option.bind_some];have BV:bV u K I I:= .cy bD;rcases adJ (k:=Y z fK) H bq with⟨aK,aR⟩|⟨a,b,aK,aR,cB⟩
      · rw[aK,aR];split
        · exact(bj.cons BV (bj.cons (.cy rfl) bj.nil)).tuple
        · exact BV
      · rw[aK,aR];split
        · exact(bj.cons cB (bj.cons (.cy rfl) bj.nil)).tuple
        · exact cB
  |_=>cases bc
end
def gS(K:eC)(id mid:Nat):eC:= λo=>if o=id then some mid else K o
section
variable {u:fz} {K:eC} {z ae:aM} {t m:W} {v bu:Value} {id mid gE hg:Nat}
theorem fy.set(h:K id=none):fy K (gS K id mid):= λo b hb=>by
  unfold gS;split
  · next e=>subst e;rw[h]at hb;cases hb
  · exact hb
structure qC(K:eC)(u:fz)(t m:W)(id mid:Nat):Prop where
  e:K id=none
  b: ∀o,K o≠some mid
  f:u mid=none
  sh:id<t.next
  qi:mid<m.next
theorem qC.mK(au:qC K u t m id mid){o b:Nat}(h:K o=some b):b≠mid:= λe=>by subst e;exact au.b o h
theorem dN.mK(M:dN K u t m){p o c b:Nat}(h:K p=some c)(bN:K o=some b)(au:p≠o):c≠b:= λe=>by subst e;exact au (M.inj p o c h bN)
theorem hR{m:W}{b:Nat}{a9:List (Value×Value)}(h:m.eK b=some a9):m.X b=some ⟨[],true⟩/\m.mp b=some a9:=by
  unfold W.eK at h;cases aF:m.X b with
  |none=>rw[aF]at h;cases h
  | some x=>
    obtain⟨cs,w⟩:=x;rw[aF]at h;cases cs with
    | nil=>cases w with
      |true=>exact⟨rfl,h⟩
      |false=>cases h
    |cons c cs=>cases h
theorem jM{m:W}{b:Nat}{a9:List (Value×Value)}(h:m.X b=some ⟨[],true⟩)(bN:m.mp b=some a9):m.eK b=some a9:=by unfold W.eK;rw[h];exact bN
theorem MJ(M:dN K u t m)(au:qC K u t m id mid){cs k6:List Value}(ar:bj u K cs k6):dN (gS K id mid) u (t.a0 id (some ⟨cs,true⟩)) (m.a0 mid (some ⟨k6,true⟩)) where
  hK o x G:=by
    by_cases aC:o=id
    · subst aC;rw[ej au.sh]at G;cases G;exact .inl ⟨mid,k6,true,by simp[gS],ej au.qi,λ_=>rfl,ar.b6 (gV.refl _) (fy.set au.e)⟩
    · rw[bW aC]at G;rcases M.hK o x G with⟨b,ds,w,D,H,aq,aE⟩|⟨D,H⟩
      · exact .inl ⟨b,ds,w,by simp[gS,aC,D],by rw[bW (au.mK D),H],aq,aE.b6 (gV.refl _) (fy.set au.e)⟩
      · exact .inr ⟨by simp[gS,aC,D],H⟩
  maps o a9 bb:=by
    by_cases aC:o=id
    · subst aC;have:=(hR bb).2;rw[show(t.a0 o (some ⟨cs,true⟩)).mp=t.mp from rfl,M.h3 o au.e]at this;cases this
    · rw[sH aC]at bb;obtain⟨b,c1,D,H,aq⟩:=M.maps o a9 bb;exact⟨b,c1,by simp[gS,aC,D],by rw[sH (au.mK D),H],aq.b6 (gV.refl _) (fy.set au.e)⟩
  h3 o h:=by
    simp only[gS]at h;split at h
    · cases h
    · exact M.h3 o h
  inj o o' b h bN:=by
    simp only[gS]at h bN;split at h
    · cases h;split at bN
      · next a b=>rw[a,b]
      · exact absurd bN (au.b o')
    · split at bN
      · cases bN;exact absurd h (au.b o)
      · exact M.inj o o' b h bN
  c2 o b h:=by
    simp only[gS]at h;split at h
    · next e=>cases h;subst e;exact⟨au.sh,au.qi⟩
    · exact M.c2 o b h
  bA b ds h:=by
    have hb:b≠mid:= λe=>by subst e;rw[au.f]at h;cases h
    obtain⟨⟨w,D⟩,H⟩:=M.bA b ds h;refine⟨⟨w,by rw[bW hb,D]⟩,λo x aC G=> ?_⟩;simp only[gS]at aC;split at aC
    · cases aC;exact absurd rfl hb
    · next cW=>rw[bW cW]at G;exact H o x aC G
theorem ad3(au:qC K u t m id mid)(D:gE<=id)(H:hg<=mid){x:Option fq}{y:Option fq}:eD gE hg K u t m (gS K id mid) u (t.a0 id x) (m.a0 mid y) where
  e:=fy.set au.e
  f:=gV.refl _
  iJ o b h:=by
    simp only[gS]at h;split at h
    · next e=>cases h;subst e;exact .inr ⟨D,H⟩
    · exact .inl h
  fn b cs h:= .inl h
  je:=dW _
  jE:=dW _
  la b hb _:=bW (by omega)
  nu b hb:= λ⟨o,y,h,bN,qO⟩=>by
    simp only[gS]at h;split at h
    · cases h;omega
    · next cW=>exact⟨o,y,h,by rw[bW cW]at bN;exact bN,qO⟩
  mX b hb:= λ⟨o,y,h,bN⟩=>by
    simp only[gS]at h;split at h
    · cases h;omega
    · next cW=>exact⟨o,y,h,by rw[bW cW]at bN;exact bN⟩
theorem avv(M:dN K u t m)(au:qC K u t m id mid){a9 c1:List (Value×Value)}(ar:o3 u K a9 c1):dN (gS K id mid) u (t.gL id a9) (m.gL mid c1) where
  hK o x G:=by
    by_cases aC:o=id
    · subst aC;rw[E0 au.sh]at G;cases G;exact .inl ⟨mid,[],true,by simp[gS],E0 au.qi,λ_=>rfl,bj.nil⟩
    · rw[mz aC]at G;rcases M.hK o x G with⟨b,ds,w,D,H,aq,aE⟩|⟨D,H⟩
      · exact .inl ⟨b,ds,w,by simp[gS,aC,D],by rw[mz (au.mK D),H],aq,aE.b6 (gV.refl _) (fy.set au.e)⟩
      · exact .inr ⟨by simp[gS,aC,D],H⟩
  maps o eo bb:=by
    by_cases aC:o=id
    · subst aC;rw[EY au.sh]at bb;cases bb;exact⟨mid,c1,by simp[gS],EY au.qi,ar.b6 (gV.refl _) (fy.set au.e)⟩
    · rw[EX aC]at bb;obtain⟨b,c1,D,H,aq⟩:=M.maps o eo bb;exact⟨b,c1,by simp[gS,aC,D],by rw[EX (au.mK D),H],aq.b6 (gV.refl _) (fy.set au.e)⟩
  h3 o h:=by
    simp only[gS]at h;split at h
    · cases h
    · next cW=>show(if o=id then some a9 else t.mp o)=none;rw[if_neg cW];exact M.h3 o h
  inj:=(MJ M au (cs:=[]) (k6:=[]) bj.nil).inj
  c2:=(MJ M au (cs:=[]) (k6:=[]) bj.nil).c2
  bA b ds h:=by
    have hb:b≠mid:= λe=>by subst e;rw[au.f]at h;cases h
    obtain⟨⟨w,D⟩,H⟩:=M.bA b ds h;refine⟨⟨w,by rw[mz hb,D]⟩,λo x aC G=> ?_⟩;simp only[gS]at aC;split at aC
    · cases aC;exact absurd rfl hb
    · next cW=>rw[mz cW]at G;exact H o x aC G
theorem avu(au:qC K u t m id mid)(D:gE<=id)(H:hg<=mid){a9 c1:List (Value×Value)}:eD gE hg K u t m (gS K id mid) u (t.gL id a9) (m.gL mid c1) where
  e:=fy.set au.e
  f:=gV.refl _
  iJ o b h:=by
    simp only[gS]at h;split at h
    · next e=>cases h;subst e;exact .inr ⟨D,H⟩
    · exact .inl h
  fn b cs h:= .inl h
  je:=dW _
  jE:=dW _
  la b hb _:=mz (by omega)
  nu b hb:= λ⟨o,y,h,bN,qO⟩=>by
    simp only[gS]at h;split at h
    · cases h;omega
    · next cW=>exact⟨o,y,h,by rw[mz cW]at bN;exact bN,qO⟩
  mX b hb:= λ⟨o,y,h,bN⟩=>by
    simp only[gS]at h;split at h
    · cases h;omega
    · next cW=>exact⟨o,y,h,by rw[mz cW]at bN;exact bN⟩
theorem afJ(M:dN K u t m){o b:Nat}{x:fq}{k6:List Value}{w:Bool}(bQ:K o=some b)(G:t.X o=some x)(aZ:x.own=true)(hb:m.X b=some ⟨k6,w⟩)
    {ds fH:List Value} (aD:ds.length=x.cells.length) (ar:bj u K ds fH) (XO:w=true):dN K u (t.a0 o (some ⟨ds,true⟩)) (m.a0 b (some ⟨fH,w⟩)) where
  hK p y ag:=by
    have ek:=M.c2 o b bQ;by_cases aC:p=o
    · subst aC;rw[ej ek.1]at ag;cases ag;exact .inl ⟨b,fH,w,bQ,ej ek.2,λ_=>XO,ar⟩
    · rw[bW aC]at ag;rcases M.hK p y ag with⟨c,ds,w,D,H,aq,aE⟩|D
      · exact .inl ⟨c,ds,w,D,by rw[bW (M.mK D bQ aC),H],aq,aE⟩
      · exact .inr D
  maps p a9 bb:=by
    have ek:=M.c2 o b bQ;by_cases aC:p=o
    · subst aC;obtain⟨D,H⟩:=hR bb;rw[ej ek.1]at D;have ay:ds=[]:=(by simpa using D);subst ay;have iL:x.cells=[]:=yE aD.symm;have:t.eK p=some a9:=jM (by rw[G];obtain⟨a,b⟩:=x;simp at iL aZ;simp[iL,aZ]) H;obtain⟨ca,c1,aQ,a7,cD⟩:=M.maps p a9 this;rw[bQ]at aQ;cases aQ;have y9:fH=[]:=yE (by rw[<-ar.1];rfl);refine⟨b,c1,bQ,?_,cD⟩;subst y9;subst XO;exact jM (ej ek.2) (hR a7).2
    · rw[sH aC]at bb;obtain⟨c,c1,D,H,aq⟩:=M.maps p a9 bb;exact⟨c,c1,D,by rw[sH (M.mK D bQ aC),H],aq⟩
  h3:=M.h3
  inj:=M.inj
  c2:=M.c2
  bA c a9 h:=by
    obtain⟨⟨cN,D⟩,H⟩:=M.bA c a9 h;have ar:c≠b:= λe=>by subst e;have:=H o x bQ G;rw[aZ]at this;cases this
    refine⟨⟨cN,by rw[bW ar,D]⟩,λp y ai ag=> ?_⟩;have:p≠o:= λe=>by subst e;rw[bQ]at ai;cases ai;exact ar rfl
    rw[bW this]at ag;exact H p y ai ag
theorem NL(M:dN K u t m){o b:Nat}{x:fq}(bQ:K o=some b)(G:t.X o=some x)(aZ:x.own=true){y I:Option fq}:eD gE hg K u t m K u (t.a0 o y) (m.a0 b I) where
  e:=fy.refl _
  f:=gV.refl _
  iJ o b h:= .inl h
  fn b cs h:= .inl h
  je:=dW _
  jE:=dW _
  la c ar au:=bW (λe=>au (by subst e;exact⟨o,x,bQ,G,aZ⟩))
  nu c ar:= λ⟨p,bo,h,bN,qO⟩=>by
    by_cases ai:p=o
    · subst ai;rw[bQ]at h;cases h;exact⟨p,x,bQ,G,aZ⟩
    · rw[bW ai]at bN;exact⟨p,bo,h,bN,qO⟩
  mX c ar:= λ⟨p,bo,h,bN⟩=>by
    by_cases ai:p=o
    · subst ai;rw[bQ]at h;cases h;exact⟨p,x,bQ,G⟩
    · rw[bW ai]at bN;exact⟨p,bo,h,bN⟩
theorem Wc(M:dN K u t m){o:Nat}:dN K u (t.a0 o none) m where
  hK p y ag:=by
    by_cases aC:p=o
    · subst aC;by_cases ek:p<t.next
      · rw[ej ek]at ag;cases ag
      · have D:(t.a0 p none).X p=none:=EZ (by simp;omega);rw[D]at ag;cases ag
    · rw[bW aC]at ag;exact M.hK p y ag
  maps p a9 bb:=by
    by_cases aC:p=o
    · subst aC;have:=(hR bb).1;by_cases ek:p<t.next
      · rw[ej ek]at this;cases this
      · have D:(t.a0 p none).X p=none:=EZ (by simp;omega);rw[D]at this;cases this
    · rw[sH aC]at bb;exact M.maps p a9 bb
  h3:=M.h3
  inj:=M.inj
  c2:=M.c2
  bA c a9 h:=by
    obtain⟨D,H⟩:=M.bA c a9 h;refine⟨D,λp y ai ag=> ?_⟩;by_cases aC:p=o
    · subst aC;by_cases ek:p<t.next
      · rw[ej ek]at ag;cases ag
      · have D:(t.a0 p none).X p=none:=EZ (by simp;omega);rw[D]at ag;cases ag
    · rw[bW aC]at ag;exact H p y ai ag
theorem Wb{o:Nat}:eD gE hg K u t m K u (t.a0 o none) m where
  e:=fy.refl _
  f:=gV.refl _
  iJ o b h:= .inl h
  fn b cs h:= .inl h
  je:=dW _
  jE:=dW _
  la c ar au:=rfl
  nu c ar:= λ⟨p,bo,h,bN,qO⟩=>by
    by_cases ai:p=o
    · subst ai;by_cases ek:p<t.next
      · rw[ej ek]at bN;cases bN
      · have D:(t.a0 p none).X p=none:=EZ (by simp;omega);rw[D]at bN;cases bN
    · rw[bW ai]at bN;exact⟨p,bo,h,bN,qO⟩
  mX c ar:= λ⟨p,bo,h,bN⟩=>by
    by_cases ai:p=o
    · subst ai;by_cases ek:p<t.next
      · rw[ej ek]at bN;cases bN
      · have D:(t.a0 p none).X p=none:=EZ (by simp;omega);rw[D]at bN;cases bN
    · rw[bW ai]at bN;exact⟨p,bo,h,bN⟩
theorem ads(M:dN K u t m){o b:Nat}{x:fq}(bQ:K o=some b)(G:t.X o=some x)(aZ:x.own=true):dN K u (t.a0 o none) (m.a0 b none) where
  hK p y ag:=by
    have ek:=M.c2 o b bQ;by_cases aC:p=o
    · subst aC;rw[ej ek.1]at ag;cases ag
    · rw[bW aC]at ag;rcases M.hK p y ag with⟨c,ds,w,D,H,aq,aE⟩|D
      · exact .inl ⟨c,ds,w,D,by rw[bW (M.mK D bQ aC),H],aq,aE⟩
      · exact .inr D
  maps p a9 bb:=by
    have ek:=M.c2 o b bQ;by_cases aC:p=o
    · subst aC;have:=(hR bb).1;rw[ej ek.1]at this;cases this
    · rw[sH aC]at bb;obtain⟨c,c1,D,H,aq⟩:=M.maps p a9 bb;exact⟨c,c1,D,by rw[sH (M.mK D bQ aC),H],aq⟩
  h3:=M.h3
  inj:=M.inj
  c2:=M.c2
  bA c a9 h:=by
    obtain⟨⟨cN,D⟩,H⟩:=M.bA c a9 h;have ar:c≠b:= λe=>by subst e;have:=H o x bQ G;rw[aZ]at this;cases this
    refine⟨⟨cN,by rw[bW ar,D]⟩,λp y ai ag=> ?_⟩;have:p≠o:= λe=>by subst e;rw[bQ]at ai;cases ai;exact ar rfl
    rw[bW this]at ag;exact H p y ai ag
theorem avO(s:ByteArray):bj u K (wh s) (wh s):=bj.cy (by simp only[wh,List.all_map,eQ];intro b _;rfl)
structure oj(gE hg id mid:Nat)(K:eC)(u:fz)(t m aJ an:W)(v bu:Value)(cz:eC):Prop where
  T2:dN cz u aJ an
  val:bV u cz v bu
  bA:eD gE hg K u t m cz u aJ an
  HH: ∀o,o≠id->cz o=K o
  self:cz id=K id\/cz id=some mid
theorem oj.new(M:dN K u t m)(au:qC K u t m id mid)(D:gE<=id)(H:hg<=mid){cs k6:List Value}(ar:bj u K cs k6){v bu:Value}(ad:bV u (gS K id mid) v bu):
    ∃cz,oj gE hg id mid K u t m (t.a0 id (some ⟨cs,true⟩)) (m.a0 mid (some ⟨k6,true⟩)) v bu cz:=
  ⟨gS K id mid,MJ M au ar,ad,ad3 au D H,λo aC=>by simp[gS,aC],.inr (by simp[gS])⟩
theorem oj.DC(M:dN K u t m){v bu:Value}(ad:bV u K v bu): ∃cz,oj gE hg id mid K u t m t m v bu cz:=⟨K,M,ad,eD.refl,λ_ _=>rfl,.inl rfl⟩
theorem aec(M:dN K u t m)(bB:gF u K z ae){k:af}(ar:k.jO=false)(aC:wi k=true)(ao:k.hW z t=true)(au:k.eW=true->qC K u t m id mid)(D:gE<=id)(H:hg<=mid):
    k.ok ae m=true/\ ∃cz,oj gE hg id mid K u t m (k.mJ id z t) (k.gu mid ae m) (k.ic id z t) (k.val mid ae m) cz:=by
  by_cases bc:k.S1=true
  · obtain⟨a,b⟩:=awo M bB bc aC ao id mid;obtain⟨aK,aR⟩:=awn (z:=z) (ae:=ae) (t:=t) (m:=m) bc (id:=id) (iB:=mid);refine⟨a,?_⟩;rw[aK,aR];exact oj.DC M b
  · simp only[wi,aY]at aC;obtain⟨ax,bD⟩:=aC;have vH:gS K id mid id=some mid:=(by simp[gS]);cases k with
    |dz I=>exact⟨rfl,oj.new M (au rfl) D H (bj.cy bD) (.cF vH)⟩
    | l0 x=>simp[af.gR]at ax;exact⟨(bB.Y ax).U ao,oj.new M (au rfl) D H (bB.Y ax).O (.cF vH)⟩
    | fR a n I ps=>have m3: ∀p∈ps,cO p.2.2=true:= λp ai=>eQ.1 ax _ (by simp only[af.gR];exact List.mem_map_of_mem ai);exact⟨aem bB rfl m3 ao,oj.new M (au rfl) D H (SU bB (bj.cy bD) m3) (.slice vH)⟩
    | ny x=>simp[af.gR]at ax;simp only[af.hW,af.ok,aY]at ao;have e:=z3 (bB.Y ax) ao.1;simp only[af.ok,af.ic,af.val,af.mJ,af.gu,e,aY];exact⟨ao,oj.new M (au rfl) D H (avO _) (.slice vH)⟩
    | jY I bytes zero l c=>simp[af.gR]at ax;have Fp:=ao;simp only[af.hW,af.ok,aY]at ao;have aK:=pw (bB.Y ax.1) ao.1.1.1.1.1.1;have aR:=pw (bB.Y ax.2) ao.1.1.1.1.1.2;simp only[af.ok,af.ic,af.val,af.mJ,af.gu,aK,aR,aY];exact⟨ao,oj.new M (au rfl) D H (bj.flatten (bj.cy bD)) (.slice vH)⟩
    | lZ I bytes zero x n=>simp[af.gR]at ax;simp only[af.hW,af.ok,aY]at ao;have aK:=pw (bB.Y ax.2) ao.1.1.1.1.2;have G:=bB.Y ax.1;have h5:=Mc ao.1.1.1.1.1;rw[h5]at G;have aR:=(G.hC rfl).trans h5.symm;simp only[af.ok,af.ic,af.val,af.mJ,af.gu,aK,aR,aY];exact⟨ao,oj.new M (au rfl) D H (bj.flatten (bj.cy bD)) (.slice vH)⟩
    | hl zero x=>
      simp[af.gR]at ax;have G:=bB.Y ax;simp only[af.hW,af.ok,aY,eO]at ao;obtain⟨⟨aQ,a7⟩,cD⟩:=ao;have m5:hD (Y z x)=false:=by cases fJ:Y z x<;>simp[fJ,fP]at aQ<;>rfl
      have xf:=Ij M G (I:=zero.length) (by rw[kB,m5];exact aQ);have vu:=ae9 M G a7;simp only[af.ok,af.ic,af.val,af.mJ,af.gu,aY,eO];refine⟨⟨⟨xf,vu⟩,cD⟩,?_⟩;cases fJ:Y z x with
      | slice p l c=>
        rw[fJ]at G aQ a7;cases p with
        | none=>have h5:=G.hC (by simpa[fP,dQ]using aQ);rw[h5];exact oj.DC M bV.undef
        | some dU=>
          obtain⟨w1,Bp,I8⟩:=dU;cases aF:t.X w1 with
          |none=>simp[fP,aF]at aQ
          | some y=>
            have iW:y.own=true:=(by simpa[jS,aF]using a7);have k8:mv t zero (.slice (some ⟨w1,Bp,I8⟩) l c)=t.a0 w1 (some ⟨gy y.cells Bp (List.replicate l zero).flatten,y.own⟩):=(by simp only[mv,aF]);rcases G.mc with⟨b,aK,aR,cB⟩|⟨aK,aR,cB,gX⟩
            · simp only at aK aR cB;subst aR;obtain⟨cs,w,a3,br,bX⟩:=M.pc aK aF;have aZ:=br iW;subst aZ;rw[k8,cB];simp only[mv,a3,iW];refine⟨K,?_,bV.undef,NL M aK aF iW,λ_ _=>rfl,.inl rfl⟩;exact afJ M aK aF iW a3 (by
                have: ∀(cj:List Value) (cs:List Value) (o:Nat),(gy cs o cj).length=cs.length:=by
                  intro cj;induction cj with
                  |nil=>intro cs o;rfl
                  |cons v cj cc=>intro cs o;simp only[gy,cc,List.length_set]
                exact this _ _ _) (bX.gy _ (bj.flatten (bj.cy bD))) rfl
            · simp only at aK aR cB;subst cB;have mx:t.a0 w1 (some ⟨gy y.cells Bp (List.replicate 0 zero).flatten,y.own⟩)=t:=aeB aF;rw[k8,mx,gX];exact oj.DC M bV.undef
      |_=>simp[fJ,fP]at aQ
    | nc=>have:=au rfl;exact⟨rfl,gS K id mid,avv M this ⟨rfl,λi e dX a=>by simp at a⟩,.map vH,avu this D H,λo aC=>by simp[gS,aC],.inr vH⟩
    | store n x v=>
      simp[af.gR]at ax;have G:=bB.Y ax.1;have ad:=bB.Y ax.2;simp only[af.hW,af.ok,aY,eO]at ao;obtain⟨⟨⟨aQ,a7⟩,cD⟩,dI⟩:=ao;have m5:md (Y z x)=false:=by cases fJ:Y z x<;>simp[fJ,gn]at aQ<;>rfl
      have xf:=Eh M G (n:=n) (by rw[o8,m5];exact aQ);simp only[af.ok,af.ic,af.val,af.mJ,af.gu,aY,eO];cases fJ:Y z x with
      | pointer p=>
        cases p with
        |none=>simp[fJ,gn]at aQ
        | some a=>
          rw[fJ]at G aQ a7;obtain⟨b,aK,aR,cB⟩:=G.pv;obtain⟨w1,Bp,I8⟩:=a;simp only at aK aR cB;subst aR;cases aF:t.X w1 with
          |none=>simp[aF]at aQ
          | some y=>
            simp only[ag0,aF,eO]at aQ;simp only[Ve,aF]at a7;obtain⟨cs,w,a3,br,bX⟩:=M.pc aK aF;have aZ:=br a7;subst aZ;rw[cB]at xf⊢;simp only[ayv,aF,a3,Ve,a7];refine⟨⟨⟨⟨xf,trivial⟩,ad.U cD⟩,by rw[<-ad.O.1];exact dI⟩,K,?_,bV.undef,NL M aK aF a7,λ_ _=>rfl,.inl rfl⟩;exact afJ M aK aF a7 a3 (by
              have: ∀(cj:List Value) (cs:List Value) (o:Nat),(gy cs o cj).length=cs.length:=by
                intro cj;induction cj with
                |nil=>intro cs o;rfl
                |cons v cj cc=>intro cs o;simp only[gy,cc,List.length_set]
              exact this _ _ _) (bX.gy _ ad.O) rfl
      |_=>simp[fJ,gn]at aQ
    | app I bytes x y=>
      simp[af.gR]at ax;have G:=bB.Y ax.1;have ag:=bB.Y ax.2;simp only[af.hW,aY,eO]at ao;obtain⟨⟨⟨⟨⟨aQ,a7⟩,cD⟩,dI⟩,gi⟩,fj⟩:=ao;have m5:hD (Y z x)=false:=by cases fJ:Y z x<;>simp[fJ,fP]at aQ<;>rfl
      have WJ:kB t I (Y z x)=true:=(by rw[kB,m5];exact aQ);have xf:=Ij M G WJ;have vu:=ae9 M G a7;have aiI:=Ij M ag cD;have OL:=Nx ag;have OK:gv (Y z x)=gv (Y ae x):=(by rw[<-Nx G,j3,m5];rfl);have p4:bj u K (fZ t I (Y z x)) (fZ m I (Y ae x)):=(by have:=Jo M G WJ;rw[k5,m5]at this;exact this);have yQ:=Jo M ag cD;simp only[af.ok,af.ic,af.val,af.mJ,af.gu,aY,eO];refine⟨⟨⟨⟨⟨⟨xf,vu⟩,aiI⟩,dI⟩,by rw[<-OK,<-OL];exact gi⟩,by rw[<-OK,<-OL];exact fj⟩,?_⟩;rw[<-OL,<-OK];split
      · exact oj.DC M G
      · have oA:=au rfl;have key: ∃bF bg,kf t (Y z x)=bF/\kf m (Y ae x)=bg/\dN K u bF bg/\eD gE hg K u t m K u bF bg/\bF.next=t.next/\bg.next=m.next:=by
          refine⟨_,_,rfl,rfl,?_⟩;unfold fP at aQ;split at aQ
          · next fJ=>rw[fJ]at G⊢;have:Y ae x=_:=G.hC (by simpa[dQ]using aQ);rw[this];exact⟨M,eD.refl,rfl,rfl⟩
          · next a l c fJ=>
            rw[fJ]at G a7⊢;rcases G.mc with⟨b,aK,aR,cB⟩|⟨aK,aR,cB,gX⟩
            · rw[cB];cases aF:t.X a.block with
              |none=>simp[jS,aF]at a7
              | some y=>simp only[jS,aF]at a7;exact⟨ads M aK aF a7,NL M aK aF a7,rfl,rfl⟩
            · rw[gX];exact⟨Wc M,Wb,rfl,rfl⟩
          · cases aQ
        obtain⟨bF,bg,aK,aR,vG,ajn,aii,aij⟩:=key;rw[aK,aR];have ajJ:qC K u bF bg id mid:=⟨oA.e,oA.b,oA.f,by rw[aii];exact oA.sh,by rw[aij];exact oA.qi⟩;obtain⟨cz,q⟩:=oj.new (gE:=gE) (hg:=hg) vG ajJ D H (p4.oq yQ) (v:= .slice (some ⟨id,0,none⟩) (gv (Y z x)+j3 (Y z y)) I) (bu:= .slice (some ⟨mid,0,none⟩) (gv (Y z x)+j3 (Y z y)) I) (.slice vH);exact⟨cz,q.T2,q.val,ajn.trans q.bA,q.HH,q.self⟩
    | lR a4 x fK v=>
      simp[af.gR]at ax;have G:=bB.Y ax.1;have aa:=bB.Y ax.2.1;have ad:=bB.Y ax.2.2;simp only[af.hW,af.ok]at ao;split at ao
      · next b fJ=>
        cases av:t.eK b with
        |none=>simp[av]at ao
        | some a9=>
          simp only[av,aY]at ao;obtain⟨c,c1,a3,br,bX⟩:=M.maps b a9 av;rw[fJ]at G;obtain⟨l1,e1,fY⟩:=G.FH;rw[a3]at e1;cases e1;obtain⟨fL,g8,jt⟩:=adr bX aa ao.1;simp only[af.ok,af.ic,af.val,af.mJ,af.gu,fJ,fY,uC,av,br,Bg,aY];refine⟨⟨fL,ad.S ao.2⟩,K,?_,bV.undef,?_,λ_ _=>rfl,.inl rfl⟩
          · rw[g8];have xp:bV u K (Y z fK) (Y z fK):=(by rw[g8]at aa;exact aa);have ajE:=adX xp ad bX jt;have ek:=M.c2 b c a3;refine⟨λp y ag=> ?_,λp eo ai=> ?_,λp ai=> ?_,M.inj,M.c2,λd ds ay=> ?_⟩
            · by_cases zp:p=b
              · subst zp;rw[E0 ek.1]at ag;cases ag;exact .inl ⟨c,[],true,a3,E0 ek.2,λ_=>rfl,bj.nil⟩
              · rw[mz zp]at ag;rcases M.hK p y ag with⟨l1,ds,w,D,H,aq,aE⟩|D
                · exact .inl ⟨l1,ds,w,D,by rw[mz (M.mK D a3 zp),H],aq,aE⟩
                · exact .inr D
            · by_cases zp:p=b
              · subst zp;rw[EY ek.1]at ai;cases ai;exact⟨c,_,a3,EY ek.2,ajE⟩
              · rw[EX zp]at ai;obtain⟨l1,c1,D,H,aq⟩:=M.maps p eo ai;exact⟨l1,c1,D,by rw[EX (M.mK D a3 zp),H],aq⟩
            · have cW:p≠b:= λe=>by subst e;rw[a3]at ai;cases ai
              show(if p=b then _ else t.mp p)=none;rw[if_neg cW];exact M.h3 p ai
            · obtain⟨⟨cN,aQ⟩,a7⟩:=M.bA d ds ay;have aF:=(hR av).1;have W6:d≠c:= λe=>by subst e;have:=a7 b _ a3 aF;cases this
              refine⟨⟨cN,by rw[mz W6,aQ]⟩,λp y ai ag=> ?_⟩;have:p≠b:= λe=>by subst e;rw[a3]at ai;cases ai;exact W6 rfl
              rw[mz this]at ag;exact a7 p y ai ag
          · have aF:=(hR av).1;refine⟨fy.refl _,gV.refl _,λ_ _ h=> .inl h,λ_ _ h=> .inl h,dW _,dW _,λd ay aZ=> ?_,λd ay=> λ⟨p,bo,h,bN,qO⟩=> ?_,λd ay=> λ⟨p,bo,h,bN⟩=> ?_⟩
            · exact mz (λe=>aZ (by subst e;exact⟨b,_,a3,aF,rfl⟩))
            · by_cases ai:p=b
              · subst ai;rw[a3]at h;cases h;exact⟨p,_,a3,aF,rfl⟩
              · rw[mz ai]at bN;exact⟨p,bo,h,bN,qO⟩
            · by_cases ai:p=b
              · subst ai;rw[a3]at h;cases h;exact⟨p,_,a3,aF⟩
              · rw[mz ai]at bN;exact⟨p,bo,h,bN⟩
      · cases ao
    |dm=>cases ar
    |iy=>cases ar
    |kv=>cases ar
    |_=>exact absurd rfl bc
theorem VZ(M:dN K u t m)(bB:gF u K z ae){a4:List (Operand×Operand)}(ax:a4.all (λp=>cO p.1&&cO p.2)=true)(h:hO z t a4=true):pd ae a4=true:=by
  simp only[pd,hO,eQ]at h ax⊢;intro p ai;have D:=h p ai;have H:=ax p ai;obtain⟨x,y⟩:=p;simp only[aY]at H;simp only at D⊢;have G:=bB.Y H.1;have ag:=bB.Y H.2;generalize Y z x=a at G D;generalize Y ae x=dF at G;generalize Y z y=b at ag D;generalize Y ae y=ca at ag;have ado: ∀{a dF:Value},bV u K a dF->jP a=true-> ∀c,N dF=some c-> ∃cs,u c=some cs:= λax ag c ar=>by
    cases ax with
    |cy h=>have:=(rV h).2.2;rw[this]at ag;cases ag
    |hT e dv=>simp[N]at ar;subst ar;exact⟨_,dv⟩
    |hf=>simp[N]at ar
    |eL e dv=>simp[N]at ar;subst ar;exact⟨_,dv⟩
    |_=>simp[jP]at ag
  have Mn: ∀{a dF:Value},bV u K a dF->jP a=false-> ∀c,N dF=some c-> ∃o,N a=some o/\K o=some c:= λax ag c ar=>by
    cases ax with
    | cy h=>rename_i a;unfold N at ar;split at ar<;>simp[dQ]at h ar
    |cF bQ=>simp[N]at ar;subst ar;exact⟨_,rfl,bQ⟩
    |slice bQ=>simp[N]at ar;subst ar;exact⟨_,rfl,bQ⟩
    |map bQ=>simp[N]at ar;subst ar;exact⟨_,rfl,bQ⟩
    |hT e=>subst e;simp at ag
    |hf e=>subst e;simp at ag
    |eL e=>subst e;simp at ag
    |_=>simp[N]at ar
  have adn: ∀{c:Nat} {cs:List Value} {b:Value} {o:Nat},u c=some cs->N b=some o->Es t b=true->K o=some c->False:= λ{c cs b o} dv hb aC bQ=>by
    simp only[Es,hb,tm]at aC;cases aF:t.X o with
    |none=>simp[aF]at aC
    | some x=>simp only[aF]at aC;have:=(M.bA c cs dv).2 o x bQ aF;rw[aC]at this;cases this
  cases m3:N dF with
  |none=>rfl
  | some c=>
    cases fN:N ca with
    |none=>rfl
    | some d=>
      simp only;unfold I6 at D;split at D
      · next N0=>simp only[aY,u1]at D;obtain⟨cs,db⟩:=ado G N0 c m3;obtain⟨o,dx,f3⟩:=Mn ag D.1 d fN;simp only[bne_iff_ne,ne_eq];intro e;subst e;exact adn db dx D.2 f3
      · next N0=>
        split at D
        · next yC=>obtain⟨cs,db⟩:=ado ag yC d fN;obtain⟨o,dx,f3⟩:=Mn G (by simpa using N0) c m3;simp only[bne_iff_ne,ne_eq];intro e;subst e;exact adn db dx D f3
        · next yC=>obtain⟨o,dx,f3⟩:=Mn G (by simpa using N0) c m3;obtain⟨o',yW,aip⟩:=Mn ag (by simpa using yC) d fN;rw[dx,yW]at D;simp only[bne_iff_ne,ne_eq]at D⊢;intro e;subst e;exact D (M.inj o o' c f3 aip)
end
end Go.DI
