/-
  A part of the proof of the statement, in texts that tools of ours (wip/shrink.py, irpack.py, relax.py, minify.py, join.py, lay.py) have shortened.
-/
import Derived.Test.YtmmkkggfmigppaaGreatZae
set_option linter.all false
set_option maxRecDepth 8000
set_option maxHeartbeats 16000000
namespace Go.DI
open Go Go.RowKit
def agq(r:List Value):Value:= .agg r.toArray
def aii:Value->List Value| .agg a=>a.toList|_=>[]
def aj(bh:List (List Value))(J:Nat):Value:= .func (.yield 0) (bh.map agq).toArray #[.int .i64 J]
def ek(ct:List Value)(k:Nat):Value:= .func (.yield 1) ct.toArray #[.int .i64 k]
def Um:List Value->Nat|[.int _ n]=>n.toNat|_=>0
def h8:Value->Bool| .func (.yield n) _ _=>n==0|_=>false
def mH:Value->Bool| .func (.yield n) _ _=>n==1|_=>false
def kf:Value->Bool| .func (.yield _) _ _=>true|_=>false
def yx:Value->List (List Value)| .func _ cy _=>cy.toList.map aii|_=>[]
def sG:Value->Nat| .func _ _ lz=>Um lz.toList|_=>0
def Ej:Value->List Value| .func _ cy _=>cy.toList|_=>[]
section
variable {bh uk:List (List Value)} {J jB k gg:Nat} {ct r2:List Value}
@[simp] theorem aSB:aii (agq ct)=ct:=rfl
@[simp] theorem Ni:h8 (aj bh J)=true:=rfl
@[simp] theorem aLG:h8 (ek ct k)=false:=rfl
@[simp] theorem aLF:mH (aj bh J)=false:=rfl
@[simp] theorem aza:mH (ek ct k)=true:=rfl
@[simp] theorem aLM:kf (aj bh J)=true:=rfl
@[simp] theorem aLL:kf (ek ct k)=true:=rfl
@[simp] theorem Lb:yx (aj bh J)=bh:=by simp[yx,aj,Function.comp_def]
@[simp] theorem aKP:sG (aj bh J)=J:=by simp[sG,aj,Um]
@[simp] theorem agY:Ej (ek ct k)=ct:=rfl
@[simp] theorem ZG:sG (ek ct k)=k:=by simp[sG,ek,Um]
@[simp] theorem ZF:aj bh J=aj uk jB↔bh=uk/\J=jB:=
  ⟨λh=>⟨by have:=congrArg yx h;simpa using this,by have:=congrArg sG h;simpa using this⟩,λ⟨a,b⟩=>by rw[a,b]⟩
@[simp] theorem aKO:ek ct k=ek r2 gg↔ct=r2/\k=gg:=
  ⟨λh=>⟨by have:=congrArg Ej h;simpa using this,by have:=congrArg sG h;simpa using this⟩,λ⟨a,b⟩=>by rw[a,b]⟩
end
abbrev eM:=Nat->Option Nat
abbrev fQ:=Nat->Option (List Value)
abbrev lr:eM:= λ_=>none
inductive b5(u:fQ):eM->Value->Value->Prop
  |cH {M:eM} {v:Value} (h:dZ v=true):b5 u M v v
  |cw {M:eM} {o b off:Nat} (h:M o=some b):b5 u M (.pointer (some ⟨o,off,none⟩)) (.pointer (some ⟨b,off,none⟩))
  |slice {M:eM} {o b off l J:Nat} (h:M o=some b):b5 u M (.slice (some ⟨o,off,none⟩) l J) (.slice (some ⟨b,off,none⟩) l J)
  |pD {M:eM} {o J:Nat}:b5 u M (.slice (some ⟨o,0,none⟩) 0 J) (.slice none 0 0)
  |map {M:eM} {o b:Nat} (h:M o=some b):b5 u M (.map (some o)) (.map (some b))
  |agg {M:eM} {xs ys:Array Value} (K:xs.size=ys.size) (h: ∀(i:Nat) (x y:Value),xs[i]?=some x->ys[i]?=some y->b5 u M x y):b5 u M (.agg xs) (.agg ys)
  |tuple {M:eM} {xs ys:Array Value} (K:xs.size=ys.size) (h: ∀(i:Nat) (x y:Value),xs[i]?=some x->ys[i]?=some y->b5 u M x y):b5 u M (.tuple xs) (.tuple ys)
  | func {M:eM} {f:Nat} {xs ys cs ds:Array Value} (K:xs.size=ys.size) (h: ∀(i:Nat) (x y:Value),xs[i]?=some x->ys[i]?=some y->b5 u M x y)
      (iP:cs.size=ds.size) (I: ∀(i:Nat) (x y:Value),cs[i]?=some x->ds[i]?=some y->b5 u M x y):b5 u M (.func (.func f) xs cs) (.func (.func f) ys ds)
  |iface {M:eM} {t:TypeId} {v bx:Value} (h:b5 u M v bx):b5 u M (.iface t v) (.iface t bx)
  | iu {M:eM} {v:Value} {b off J:Nat} {cs:List Value} {bh:List (List Value)} (e:v=aj bh J) (dx:u b=some cs) (aB:off+bh.length*J<=cs.length)
      (bK: ∀(i:Nat) r,bh[i]?=some r->r.length=J) (ar: ∀(i j:Nat) r x y,bh[i]?=some r->r[j]?=some x->cs[off+i*J+j]?=some y->b5 u lr x y):b5 u M v (.slice (some ⟨b,off,none⟩) bh.length J)
  |hR {M:eM} {v:Value} {J:Nat} (e:v=aj [] J):b5 u M v (.slice none 0 0)
  | ek {M:eM} {v:Value} {b off k:Nat} {cs ct:List Value} (e:v=ek ct k) (dx:u b=some cs) (aB:off+ct.length<=cs.length)
      (ar: ∀(j:Nat) x y,ct[j]?=some x->cs[off+j]?=some y->b5 u lr x y):b5 u M v (.pointer (some ⟨b,off+k,none⟩))
def fY(M cL:eM):Prop:= ∀o b,M o=some b->cL o=some b
def hp(u cP:fQ):Prop:= ∀b cs,u b=some cs->cP b=some cs
theorem fY.refl(M:eM):fY M M:= λ_ _ h=>h
theorem fY.trans{a b c:eM}(h:fY a b)(bS:fY b c):fY a c:= λx l G=>bS x l (h x l G)
theorem fY.nil(M:eM):fY lr M:= λ_ _ h=>by cases h
theorem hp.refl(u:fQ):hp u u:= λ_ _ h=>h
theorem hp.trans{a b c:fQ}(h:hp a b)(bS:hp b c):hp a c:= λx l G=>bS x l (h x l G)
theorem b5.b8{u cP:fQ}{M cL:eM}{v bx:Value}(h:b5 u M v bx)(dx:hp u cP)(bZ:fY M cL):b5 cP cL v bx:=by
  induction h generalizing cL with
  |cH h=>exact .cH h
  |cw h=>exact .cw (bZ _ _ h)
  |slice h=>exact .slice (bZ _ _ h)
  |pD=>exact .pD
  |map h=>exact .map (bZ _ _ h)
  |agg K _ cx=>exact .agg K λi x y a b=>cx i x y a b bZ
  |tuple K _ cx=>exact .tuple K λi x y a b=>cx i x y a b bZ
  |func K _ iP _ cx RG=>exact .func K (λi x y a b=>cx i x y a b bZ) iP λi x y a b=>RG i x y a b bZ
  |iface _ cx=>exact .iface (cx bZ)
  |iu e E aB bK ar cx=>exact .iu e (dx _ _ E) aB bK λi j r x y a b c=>cx i j r x y a b c (fY.refl _)
  |hR e=>exact .hR e
  |ek e E aB ar cx=>exact .ek e (dx _ _ E) aB λj x y a b=>cx j x y a b (fY.refl _)
def bo(u:fQ)(M:eM)(xs ys:List Value):Prop:=xs.length=ys.length/\ ∀(i:Nat) (x y:Value),xs[i]?=some x->ys[i]?=some y->b5 u M x y
section
variable {u cP:fQ} {M cL:eM}
theorem bo.nil:bo u M [] []:=⟨rfl,by intro i x y h;simp at h⟩
theorem bo.cons{x y:Value}{xs ys:List Value}(h:b5 u M x y)(K:bo u M xs ys):bo u M (x::xs) (y::ys):=by
  refine⟨by simp[K.1],λi a b aA hb=> ?_⟩;cases i with
  |zero=>simp at aA hb;subst aA;subst hb;exact h
  |succ i=>exact K.2 i a b (by simpa using aA) (by simpa using hb)
theorem bo.b8{xs ys:List Value}(h:bo u M xs ys)(dx:hp u cP)(bZ:fY M cL):bo cP cL xs ys:=⟨h.1,λi x y G af=>(h.2 i x y G af).b8 dx bZ⟩
theorem bo.agg{xs ys:List Value}(h:bo u M xs ys):b5 u M (.agg xs.toArray) (.agg ys.toArray):= .agg (by simpa using h.1) (by simpa using h.2)
theorem bo.tuple{xs ys:List Value}(h:bo u M xs ys):b5 u M (.tuple xs.toArray) (.tuple ys.toArray):= .tuple (by simpa using h.1) (by simpa using h.2)
theorem bo.o6{a b c d:List Value}(h:bo u M a b)(bS:bo u M c d):bo u M (a++c) (b++d):=by
  refine⟨by simp[h.1,bS.1],λi x y G af=> ?_⟩;rw[xI]at G af;rw[<-h.1]at af;split at G
  · rename_i ai;rw[if_pos ai]at af;exact h.2 _ _ _ G af
  · rename_i ai;rw[if_neg ai]at af;exact bS.2 _ _ _ G af
theorem bo.drop{a b:List Value}(h:bo u M a b)(n:Nat):bo u M (a.drop n) (b.drop n):=
  ⟨by simp[h.1],λi x y G af=>h.2 (n+i) x y (by simpa using G) (by simpa using af)⟩
theorem bo.take{a b:List Value}(h:bo u M a b)(n:Nat):bo u M (a.take n) (b.take n):=by
  refine⟨by simp[h.1],λi x y G af=> ?_⟩;rw[vT]at G af;split at G
  · rename_i ai;rw[if_pos ai]at af;exact h.2 _ _ _ G af
  · cases G
theorem bo.set{a b:List Value}(h:bo u M a b)(n:Nat){x y:Value}(ad:b5 u M x y):bo u M (a.set n x) (b.set n y):=by
  refine⟨by simp[h.1],λi bt v G af=> ?_⟩;rw[s5]at G af;rw[<-h.1]at af;split at G
  · rename_i ai;rw[if_pos ai]at af;split at G
    · rename_i I;rw[if_pos I]at af;simp at G af;subst G;subst af;exact ad
    · cases G
  · rename_i ai;rw[if_neg ai]at af;exact h.2 _ _ _ G af
theorem bo.gL: ∀{cz fb:List Value} {a b:List Value} (off:Nat),bo u M a b->bo u M cz fb->bo u M (gL a off cz) (gL b off fb)
  |[],[],_,_,_,h,_=>h
  |[],bt::fb,_,_,_,_,I=>by simp[bo]at I
  |v::cz,[],_,_,_,_,I=>by simp[bo]at I
  | v::cz,bt::fb,a,b,off,h,I=>by simp only[Go.DI.gL];exact bo.gL (off+1) (h.set off (I.2 0 v bt rfl rfl)) ⟨by simpa using I.1,λi x y G af=>I.2 (i+1) x y (by simpa using G) (by simpa using af)⟩
theorem bo.X{a b:List Value}(h:bo u M a b){i:Nat}{x:Value}(G:a[i]?=some x): ∃y,b[i]?=some y/\b5 u M x y:=by have ai:i<a.length:=(dO.1 G).1;rw[h.1]at ai;exact⟨b[i],cD ai,h.2 i x _ G (cD ai)⟩
theorem bo.D9{c4:Type}(f g:c4->Value): ∀(l:List c4),(∀x∈l,b5 u M (f x) (g x))->bo u M (l.map f) (l.map g)
  |[],_=>bo.nil
  |x::l,h=>bo.cons (h x (by simp)) (bo.D9 f g l λy af=>h y (by simp[af]))
theorem bo.cH{cs:List Value}(h:cs.all dZ=true):bo u M cs cs:=by refine⟨rfl,λi x y G af=> ?_⟩;rw[G]at af;cases af;exact .cH (eQ.1 h x (gJ G))
theorem bo.flatten{k:Nat}{cs:List Value}(h:bo u M cs cs):bo u M (List.replicate k cs).flatten (List.replicate k cs).flatten:=by
  induction k with
  |zero=>exact bo.nil
  |succ k cx=>rw[Jx,oY];exact h.o6 cx
theorem b5.mV{v:Value}(h:mV v=true):b5 u M v v:=by
  unfold Go.DI.mV at h;split at h
  · rename_i cs;have:=bo.agg (u:=u) (M:=M) (bo.cH h);simpa using this
  · rename_i cs;have:=bo.tuple (u:=u) (M:=M) (bo.cH h);simpa using this
  · exact .cH h
theorem b5.undef:b5 u M undef undef:=bo.tuple bo.nil
theorem b5.h7{v bx:Value}(h:b5 u M v bx)(aT:dZ v=true):bx=v:=by
  cases h with
  |cH=>rfl
  |iu e=>subst e;simp[dZ,aj]at aT
  |hR e=>subst e;simp[dZ,aj]at aT
  |ek e=>subst e;simp[dZ,DI.ek]at aT
  |_=>simp[dZ]at aT
theorem b5.qU{k:IntKind}{n:Int}{v:Value}(h:b5 u M (.int k n) v):v= .int k n:=h.h7 rfl
theorem b5.qT{b:Bool}{v:Value}(h:b5 u M (.bool b) v):v= .bool b:=h.h7 rfl
theorem b5.wN{b:ByteArray}{v:Value}(h:b5 u M (.string b) v):v= .string b:=h.h7 rfl
theorem b5.p9{a:Addr}{v:Value}(h:b5 u M (.pointer (some a)) v): ∃b,M a.block=some b/\a.spot=none/\v= .pointer (some ⟨b,a.off,none⟩):=by
  cases h with
  |cH h=>simp[dZ]at h
  |cw h=>exact⟨_,h,rfl,rfl⟩
  |iu e=>simp[aj]at e
  |hR e=>simp[aj]at e
  |ek e=>simp[DI.ek]at e
theorem b5.m1{a:Addr}{l J:Nat}{v:Value}(h:b5 u M (.slice (some a) l J) v):(∃b,M a.block=some b/\a.spot=none/\v= .slice (some ⟨b,a.off,none⟩) l J)\/(a.off=0/\a.spot=none/\l=0/\v= .slice none 0 0):=by
  cases h with
  |cH h=>simp[dZ]at h
  |slice h=>exact .inl ⟨_,h,rfl,rfl⟩
  |pD=>exact .inr ⟨rfl,rfl,rfl,rfl⟩
  |iu e=>simp[aj]at e
  |hR e=>simp[aj]at e
  |ek e=>simp[DI.ek]at e
theorem b5.rN{xs:Array Value}{v:Value}(h:b5 u M (.agg xs) v): ∃ys,v= .agg ys/\bo u M xs.toList ys.toList:=by
  cases h with
  |cH h=>simp[dZ]at h
  |agg K h=>exact⟨_,rfl,by simpa using K,by simpa using h⟩
  |iu e=>simp[aj]at e
  |hR e=>simp[aj]at e
  |ek e=>simp[DI.ek]at e
theorem b5.Ax{xs:Array Value}{v:Value}(h:b5 u M (.tuple xs) v): ∃ys,v= .tuple ys/\bo u M xs.toList ys.toList:=by
  cases h with
  |cH h=>simp[dZ]at h
  |tuple K h=>exact⟨_,rfl,by simpa using K,by simpa using h⟩
  |iu e=>simp[aj]at e
  |hR e=>simp[aj]at e
  |ek e=>simp[DI.ek]at e
theorem b5.Aw{f:Nat}{xs cs:Array Value}{v:Value}(h:b5 u M (.func (.func f) xs cs) v): ∃ys ds,v= .func (.func f) ys ds/\bo u M xs.toList ys.toList/\bo u M cs.toList ds.toList:=by
  cases h with
  |cH h=>simp[dZ]at h
  |func K h iP I=>exact⟨_,_,rfl,⟨by simpa using K,by simpa using h⟩,by simpa using iP,by simpa using I⟩
  |iu e=>simp[aj]at e
  |hR e=>simp[aj]at e
  |ek e=>simp[DI.ek]at e
theorem b5.Gy{t:TypeId}{x v:Value}(h:b5 u M (.iface t x) v): ∃y,v= .iface t y/\b5 u M x y:=by
  cases h with
  |cH h=>simp[dZ]at h
  |iface h=>exact⟨_,rfl,h⟩
  |iu e=>simp[aj]at e
  |hR e=>simp[aj]at e
  |ek e=>simp[DI.ek]at e
theorem b5.Gz{o:Nat}{v:Value}(h:b5 u M (.map (some o)) v): ∃b,M o=some b/\v= .map (some b):=by
  cases h with
  |cH h=>simp[dZ]at h
  |map h=>exact⟨_,h,rfl⟩
  |iu e=>simp[aj]at e
  |hR e=>simp[aj]at e
  |ek e=>simp[DI.ek]at e
theorem b5.ZN{x v:Value}(h:b5 u M x v)(ai:mH x=true): ∃ct k b off cs,x=DI.ek ct k/\v= .pointer (some ⟨b,off+k,none⟩)/\u b=some cs/\off+ct.length<=cs.length/\
    (∀(j:Nat) x y,ct[j]?=some x->cs[off+j]?=some y->b5 u lr x y):=by
  cases h with
  |cH h=>cases x<;>simp_all [dZ,mH]
  |ek e E I av=>exact⟨_,_,_,_,_,e,rfl,E,I,av⟩
  |iu e=>subst e;simp at ai
  |hR e=>subst e;simp at ai
  |_=>simp[mH]at ai
theorem b5.O{v bx:Value}(h:b5 u M v bx):bo u M (O v) (O bx):=by
  cases h with
  |agg K h=>exact⟨by simpa[DI.O]using K,by simpa[DI.O]using h⟩
  |cH h=>cases v<;>simp[dZ]at h<;>exact bo.cons (.cH (by simp[dZ,h])) bo.nil
  |cw h=>exact bo.cons (.cw h) bo.nil
  |slice h=>exact bo.cons (.slice h) bo.nil
  |pD=>exact bo.cons .pD bo.nil
  |tuple K h=>exact bo.cons (.tuple K h) bo.nil
  |func K h iP I=>exact bo.cons (.func K h iP I) bo.nil
  |iface h=>exact bo.cons (.iface h) bo.nil
  |map h=>exact bo.cons (.map h) bo.nil
  |iu e a b c d=>subst e;exact bo.cons (.iu rfl a b c d) bo.nil
  |hR e=>subst e;exact bo.cons (.hR rfl) bo.nil
  |ek e a b c=>subst e;exact bo.cons (.ek rfl a b c) bo.nil
theorem b5.U{v bx:Value}(h:b5 u M v bx)(az:U v=true):U bx=true:=by cases h<;>first|rfl|assumption|(simp[DI.U]at az)
theorem b5.S{v bx:Value}(h:b5 u M v bx)(az:S v=true):S bx=true:=by cases h<;>first|rfl|assumption|(simp[DI.S]at az)
end
def pS(m:W)(v:Value)(n:Nat):Bool:=if mH v then decide (sG v+n<=(Ej v).length)else gD m v n
def w7(m:W)(dp:Bool)(n:Nat)(v:Value):Value:=
  if mH v then(if dp then .agg (((Ej v).drop (sG v)).take n).toArray else(((Ej v).drop (sG v)).take 1).headD undef)else kM m dp n v
def px(v:Value):Bool:=mH v||q3 v
def vC(v:Value)(n:Nat):Value:=if mH v then ek (Ej v) (sG v+n)else xg v n
def yR(v:Value):Bool:=h8 v||yQ v
def kg(v:Value):Int:=if h8 v then((yx v).length:Nat)else iv v
def kz(v:Value):Nat:=if h8 v then(yx v).length else gI v
def lv(J:Nat)(v:Value):Bool:=if h8 v then sG v==J else nf J v
def sa(v:Value)(J l h:Nat):Value:=if h8 v then aj (((yx v).take h).drop l) J else pB v J l h
def zj(v:Value)(J:Nat)(i:Int):Value:=if h8 v then ek ((yx v).getD i.toNat []) 0 else xw v J i
def kQ(m:W)(J:Nat)(v:Value):Bool:=if h8 v then sG v==J else fS m J v
def lh(m:W)(J:Nat)(v:Value):List Value:=if h8 v then(yx v).flatten else gj m J v
def mc(v:Value):Bool:= !kf v&&(match v with| .slice (some _) l _=>l !=0|_=>true)
def ag.iw(k:ag)(A:aR)(m:W):Bool:=
  match k with
  | .k5 dp n x=>pS m (Z A x) n&&(dp||decide (n=1))
  | .e8 op c x y=>mc (Z A x)&&mc (Z A y)&&ru op c (Z A x) (Z A y)
  | .mT x=>kQ m 1 (Z A x)&&(lh m 1 (Z A x)).all AY
  | .nO J x cB ai=>lv J (Z A x)&&nK A cB&&nK A ai&&decide (0<=g1 A cB 0)&&decide (g1 A cB 0<=g1 A ai (kg (Z A x)))&&decide (g1 A ai (kg (Z A x))<=kg (Z A x))
  | .vK J x cB ai fr=>lv J (Z A x)&&nK A cB&&e4 (Z A ai)&&e4 (Z A fr)&&decide (0<=g1 A cB 0)&&decide (g1 A cB 0<=eZ (Z A ai))&&decide (eZ (Z A ai)<=eZ (Z A fr))&&decide (eZ (Z A fr)<=kg (Z A x))
  | .so _ x=>px (Z A x)
  | .oH J x i=>lv J (Z A x)&&e4 (Z A i)&&decide (0<=eZ (Z A i))&&decide (eZ (Z A i)<kg (Z A x))
  | .ph _ len x i=>px (Z A x)&&e4 (Z A i)&&decide (0<=eZ (Z A i))&&decide (eZ (Z A i)<(len:Int))
  | .sM x=>yR (Z A x)
  | .app J bytes x y=>fS m J (Z A x)&&kj m (Z A x)&&kQ m J (Z A y)&&decide (0<J)&&decide ((gI (Z A x)+kz (Z A y))*bytes<=140737488355328)&&decide (gI (Z A x)+kz (Z A y)<=9223372036854775807)
  | .ub fn _ _=>(match fn with| .func _=>true|_=>false)
  |k=>k.ok A m
def ag.iJ(k:ag)(id:Nat)(A:aR)(m:W):Value:=
  match k with
  | .k5 dp n x=>w7 m dp n (Z A x)
  | .mT x=> .string (toBytes (lh m 1 (Z A x)))
  | .nO J x cB ai=>sa (Z A x) J (g1 A cB 0).toNat (g1 A ai (kg (Z A x))).toNat
  | .vK J x cB ai _=>sa (Z A x) J (g1 A cB 0).toNat (eZ (Z A ai)).toNat
  | .so off x=>vC (Z A x) off
  | .oH J x i=>zj (Z A x) J (eZ (Z A i))
  | .ph J _ x i=>vC (Z A x) ((eZ (Z A i)).toNat*J)
  | .sM x=> .int .i64 (kg (Z A x))
  | .app J _ x y=>if kz (Z A y)=0 then Z A x else .slice (some ⟨id,0,none⟩) (gI (Z A x)+kz (Z A y)) J
  |k=>k.val id A m
def ag.mo(k:ag)(id:Nat)(A:aR)(m:W):W:=
  match k with
  | .app J _ x y=>if kz (Z A y)=0 then m else(kL m (Z A x)).a0 id (some ⟨gj m J (Z A x)++lh m J (Z A y),true⟩)
  |k=>k.gG id A m
def ui(m:W)(o:Nat):Bool:=match m.X o with|some x=>x.own|none=>false
def Fm(m:W)(v:Value):Bool:=match N v with|some o=>ui m o|none=>true
def JQ(m:W)(a b:Value):Bool:=
  if kf a then !kf b&&Fm m b else if kf b then Fm m a else match N a,N b with
    |some a,some b=>a !=b
    |_,_=>true
def iO(A:aR)(m:W)(a9:List (Operand×Operand)):Bool:=a9.all λ(x,y)=>JQ m (Z A x) (Z A y)
def H9(A:aR)(m:W)(a9:List (Operand×Operand)):Bool:=a9.all λp=>match N (Z A p.1)with|some o=> !ui m o|none=>true
def xd(k:ag):Bool:=k.hh.all cX&&(match k with
  | .c9 J| .fF J _| .gM _ _ J _| .kN _ _ J _ _| .np _ _ J _ _| .hv J _=>J.all dZ
  | .m7 _ J _ _ _=>dZ J
  |_=>true)
def Ip(o:bp):Bool:=xd o.k&&o.a9.all λp=>cX p.1&&cX p.2
def m9:H->Bool
  | .D ops=>ops.all Ip&&vw (ops.map (·.aS))&&ops.all λo=>decide (o.aS<ops.length)
  | .B a b=>m9 a&&m9 b
  | .aM c a b=>cX c&&m9 a&&m9 b
  | .block _ c=>m9 c
  | .loop c=>m9 c
  | .q0 _ _ _=>false
  |_=>true
def pM(u:fQ)(M:eM)(bc de:List (Value×Value)):Prop:=bc.length=de.length/\ ∀(i:Nat) e et,bc[i]?=some e->de[i]?=some et->b5 u M e.1 et.1/\b5 u M e.2 et.2
theorem pM.b8{u cP:fQ}{M cL:eM}{bc de:List (Value×Value)}(h:pM u M bc de)(dx:hp u cP)(bZ:fY M cL):pM cP cL bc de:=⟨h.1,λi e et a b=>⟨(h.2 i e et a b).1.b8 dx bZ,(h.2 i e et a b).2.b8 dx bZ⟩⟩
structure ec(M:eM)(u:fQ)(t m:W):Prop where
  ij: ∀o x,t.X o=some x->(∃b cs w,M o=some b/\m.X b=some ⟨cs,w⟩/\(x.own=true->w=true)/\bo u M x.cells cs)\/(M o=none/\x.cells=[])
  maps: ∀o bc,t.eS o=some bc-> ∃b de,M o=some b/\m.eS b=some de/\pM u M bc de
  iD: ∀o,M o=none->t.mp o=none
  inj: ∀o o' b,M o=some b->M o'=some b->o=o'
  cV: ∀o b,M o=some b->o<t.next/\b<m.next
  bF: ∀b cs,u b=some cs->(∃w,m.X b=some ⟨cs,w⟩)/\ ∀o x,M o=some b->t.X o=some x->x.own=false
def Fc(M:eM)(t:W)(b:Nat):Prop:= ∃o x,M o=some b/\t.X o=some x/\x.own=true
def B8(M:eM)(t:W)(b:Nat):Prop:= ∃o x,M o=some b/\t.X o=some x
structure eN(gU hL:Nat)(M:eM)(u:fQ)(t m:W)(cL:eM)(cP:fQ)(aI aq:W):Prop where
  e:fY M cL
  f:hp u cP
  kb: ∀o b,cL o=some b->M o=some b\/(gU<=o/\hL<=b)
  fn: ∀b cs,cP b=some cs->u b=some cs\/hL<=b\/B8 M t b
  jP:t.next<=aI.next
  jZ:m.next<=aq.next
  jx: ∀b,b<hL-> ¬Fc M t b->aq.X b=m.X b
  nT: ∀b,b<hL->Fc cL aI b->Fc M t b
  nn: ∀b,b<hL->B8 cL aI b->B8 M t b
theorem eN.refl{gU hL:Nat}{M:eM}{u:fQ}{t m:W}:eN gU hL M u t m M u t m:=
  ⟨fY.refl _,hp.refl _,λ_ _ h=> .inl h,λ_ _ h=> .inl h,ey _,ey _,λ_ _ _=>rfl,λ_ _ h=>h,λ_ _ h=>h⟩
theorem eN.trans{gU hL:Nat}{M cC fP:eM}{u dz ji:fQ}{t bD iW m bk dR:W}(h:eN gU hL M u t m cC dz bD bk)(bS:eN gU hL cC dz bD bk fP ji iW dR):eN gU hL M u t m fP ji iW dR where
  e:=h.e.trans bS.e
  f:=h.f.trans bS.f
  kb o b hb:=(bS.kb o b hb).elim (λE=>h.kb o b E) .inr
  fn b cs hb:=by
    rcases bS.fn b cs hb with E|E|E
    · exact h.fn b cs E
    · exact .inr (.inl E)
    · by_cases I:b<hL
      · exact .inr (.inr (h.nn b I E))
      · exact .inr (.inl (by omega))
  jP:=kC h.jP bS.jP
  jZ:=kC h.jZ bS.jZ
  jx b hb a3:=by rw[bS.jx b hb (λw=>a3 (h.nT b hb w)),h.jx b hb a3]
  nT b hb a3:=h.nT b hb (bS.nT b hb a3)
  nn b hb a3:=h.nn b hb (bS.nn b hb a3)
theorem eN.zx{gU hL Jd Ik:Nat}{M cL:eM}{u cP:fQ}{t aI m aq:W}(h:eN gU hL M u t m cL cP aI aq)(bA:Jd<=gU)(ax:Ik<=hL):eN Jd Ik M u t m cL cP aI aq where
  e:=h.e
  f:=h.f
  kb o b hb:=(h.kb o b hb).imp_right λ⟨a,b⟩=>⟨by omega,by omega⟩
  fn b cs hb:=by
    rcases h.fn b cs hb with E|E|E
    · exact .inl E
    · exact .inr (.inl (by omega))
    · exact .inr (.inr E)
  jP:=h.jP
  jZ:=h.jZ
  jx b hb a3:=h.jx b (by omega) a3
  nT b hb a3:=h.nT b (by omega) a3
  nn b hb a3:=h.nn b (by omega) a3
def g4(u:fQ)(M:eM)(A ak:aR):Prop:= ∀t,b5 u M (A t) (ak t)
section
variable {u cP:fQ} {M cL:eM} {A ak:aR} {t m:W}
theorem g4.b8(h:g4 u M A ak)(dx:hp u cP)(bZ:fY M cL):g4 cP cL A ak:= λt=>(h t).b8 dx bZ
theorem g4.Z(h:g4 u M A ak){x:Operand}(G:cX x=true):b5 u M (Z A x) (Z ak x):=by
  cases x with
  |tmp t=>exact h t
  |const v=>exact b5.mV G
  |func f=>exact .func rfl (by intro i x y h;simp at h) rfl (by intro i x y h;simp at h)
  |global g=>simp[cX]at G
theorem g4.a0(h:g4 u M A ak){d:Option Nat}{v bx:Value}(ad:b5 u M v bx):g4 u M (dc A d v) (dc ak d bx):=by
  cases d with
  |none=>exact h
  | some d=>
    intro t;simp only[dc,qt];by_cases e:t=d
    · simp only[e,if_true];exact ad
    · simp only[e,if_false];exact h t
theorem g4.x5(h:g4 u M A ak){l:List Operand}(aB:l.all cX=true):bo u M (l.map (Go.DI.Z A)) (l.map (Go.DI.Z ak)):=
  bo.D9 _ _ _ λx G=>h.Z (eQ.1 aB x G)
theorem g4.init{bY bs:List Value}(h:bo u M bY bs):g4 u M (jI bY) (jI bs):= λt=>by
  simp only[jI,la];cases aA:bY[t]? with
  | none=>rw[qv (by rw[<-h.1];exact List.getElem?_eq_none_iff.1 aA)];exact b5.undef
  |some x=>obtain⟨y,af,ad⟩:=h.X aA;rw[af];exact ad
theorem afP{v bx:Value}(h:b5 u M v bx)(hb:sK v=true):bx=v:=by cases v<;>simp[sK]at hb;exact h.qT
theorem qa{v bx:Value}(h:b5 u M v bx)(hb:e4 v=true):bx=v:=by cases v<;>simp[e4]at hb;exact h.qU
theorem AX{v bx:Value}(h:b5 u M v bx)(hb:lo v=true):bx=v:=by cases v<;>simp[lo]at hb;exact h.wN
theorem Wc(h:g4 u M A ak)(g:Option (Nat×Bool)):eR ak g=eR A g:=by
  cases g with
  |none=>rfl
  | some g=>
    obtain⟨j,b⟩:=g;have ad:=h j;simp only[eR];generalize A j=v at ad;generalize ak j=bx at ad;cases ad with
    |cH h=>rfl
    |iu e=>subst e;rfl
    |hR e=>subst e;rfl
    |ek e=>subst e;rfl
    |_=>rfl
end
section
variable {u:fQ} {M:eM} {A ak:aR} {t m:W} {v bx:Value}
theorem sH(h:dZ v=true):h8 v=false/\mH v=false/\kf v=false:=by cases v<;>simp_all [dZ,h8,mH,kf]
theorem bo.headD{xs ys:List Value}(h:bo u M xs ys):b5 u M (xs.headD undef) (ys.headD undef):=by
  cases xs with
  | nil=>cases ys with
    |nil=>exact b5.undef
    |cons y ys=>simp[bo]at h
  | cons x xs=>cases ys with
    |nil=>simp[bo]at h
    |cons y ys=>exact h.2 0 x y rfl rfl
theorem bo.Yh: ∀{bh uk:List (List Value)},bh.length=uk.length->(∀(i:Nat) r dL,bh[i]?=some r->uk[i]?=some dL->bo u M r dL)->bo u M bh.flatten uk.flatten
  |[],[],_,_=>bo.nil
  |[],_::_,h,_=>by simp at h
  |_::_,[],h,_=>by simp at h
  | r::bh,dL::uk,h,aQ=>by rw[oY,oY];exact(aQ 0 r dL rfl rfl).o6 (bo.Yh (by simpa using h) λi a b aA hb=>aQ (i+1) a b (by simpa using aA) (by simpa using hb))
theorem bo.ct{ct cs:List Value}{off k n:Nat}(aB:off+ct.length<=cs.length)(ar: ∀(j:Nat) x y,ct[j]?=some x->cs[off+j]?=some y->b5 u lr x y)(aa:k+n<=ct.length):
    bo u M ((ct.drop k).take n) ((cs.drop (off+k)).take n):=by
  refine⟨by simp;omega,λi x y G af=> ?_⟩;rw[vT]at G af;split at G
  · rename_i ai;rw[if_pos ai]at af;rw[zE]at G af;exact(ar (k+i) x y G (by rw[<-pJ];exact af)).b8 (hp.refl _) (fY.nil _)
  · cases G
theorem ec.qC(K:ec M u t m){o b:Nat}{x:fB}(bZ:M o=some b)(G:t.X o=some x): ∃cs w,m.X b=some ⟨cs,w⟩/\(x.own=true->w=true)/\bo u M x.cells cs:=by
  rcases K.ij o x G with⟨cd,cs,w,E,I,av,aH⟩|⟨E,_⟩
  · rw[bZ]at E;cases E;exact⟨cs,w,I,av,aH⟩
  · rw[bZ]at E;cases E
theorem Ff(K:ec M u t m)(ad:b5 u M v bx){n:Nat}(h:pS t v n=true):gD m bx n=true:=by
  unfold pS at h;split at h
  · rename_i ai;obtain⟨ct,k,b,off,cs,rfl,rfl,dx,aB,ar⟩:=ad.ZN ai;obtain⟨⟨w,a3⟩,_⟩:=K.bF b cs dx;simp at h;simp[a3];omega
  · rename_i ny;unfold gD at h;split at h
    · next a=>
      obtain⟨b,bZ,lK,rfl⟩:=ad.p9;simp only[a1]at h;cases aP:t.X a.block with
      |none=>rw[aP]at h;simp at h
      | some x=>rw[aP]at h;obtain⟨cs,w,E,_,av⟩:=K.qC bZ aP;simp at h;simp[E];have:=av.1;omega
    · cases h
theorem T2(K:ec M u t m)(ad:b5 u M v bx){n:Nat}{dp:Bool}(h:pS t v n=true)(E:(dp||decide (n=1))=true):b5 u M (w7 t dp n v) (kM m dp n bx):=by
  unfold pS at h;unfold w7;split at h
  · rename_i ai;rw[if_pos ai];obtain⟨ct,k,b,off,cs,rfl,rfl,dx,aB,ar⟩:=ad.ZN ai;obtain⟨⟨w,a3⟩,_⟩:=K.bF b cs dx;simp at h;simp only[aAi,XD,a3,ZG,agY];cases dp with
    |true=>exact(bo.ct aB ar h).agg
    |false=>simp at E;subst E;exact(bo.ct aB ar h).headD
  · rename_i ai;rw[if_neg ai];unfold gD at h;split at h
    · next a=>
      obtain⟨b,bZ,lK,rfl⟩:=ad.p9;simp only[a1]at h;cases aP:t.X a.block with
      |none=>rw[aP]at h;simp at h
      | some x=>
        obtain⟨cs,w,I,_,av⟩:=K.qC bZ aP;simp only[kM,hP,I];rw[aP];cases dp with
        |true=>exact((av.drop _).take _).agg
        |false=>exact((av.drop _).take _).headD
    · cases h
theorem ag7(ad:b5 u M v bx)(h:px v=true):q3 bx=true:=by
  cases ad with
  |cH E=>obtain⟨_,I,_⟩:=sH E;simpa[px,I]using h
  |cw h=>rfl
  |ek e=>rfl
  |iu e=>subst e;simp[px,q3,aj,mH]at h
  |hR e=>subst e;simp[px,q3,aj,mH]at h
  |_=>simp[px,q3,mH]at h
theorem ag6(ad:b5 u M v bx)(h:px v=true)(n:Nat):b5 u M (vC v n) (xg bx n):=by
  cases ad with
  | cH E=>
    obtain⟨_,I,_⟩:=sH E;simp only[px,I,Bool.false_or,q3]at h;split at h
    · simp[dZ]at E
    · cases h
  |cw bZ=>simp only[vC,mH,xg,kB,if_false];exact .cw bZ
  |ek e dx aB ar=>subst e;simp only[vC,aza,if_true,agY,ZG,xg,pJ];exact .ek rfl dx aB ar
  |iu e=>subst e;simp[px,q3,aj,mH]at h
  |hR e=>subst e;simp[px,q3,aj,mH]at h
  |_=>simp[px,q3,mH]at h
theorem NB(ad:b5 u M v bx):kg v=iv bx:=by
  cases ad with
  |cH h=>simp[kg,(sH h).1]
  |iu e=>subst e;simp[kg,iv]
  |hR e=>subst e;simp[kg,iv]
  |ek e=>subst e;simp[kg,iv,ek,h8]
  |_=>rfl
theorem OH(ad:b5 u M v bx):kz v=gI bx:=by
  cases ad with
  |cH h=>simp[kz,(sH h).1]
  |iu e=>subst e;simp[kz,gI]
  |hR e=>subst e;simp[kz,gI]
  |ek e=>subst e;simp[kz,gI,ek,h8]
  |_=>rfl
theorem azb(ad:b5 u M v bx)(h:yR v=true):yQ bx=true:=by
  cases ad with
  |cH E=>simpa[yR,(sH E).1]using h
  |iu e=>rfl
  |hR e=>rfl
  |ek e=>subst e;simp[yR,ek,h8,yQ]at h
  |_=>simpa[yR,h8,yQ]using h
theorem I1(ad:b5 u M v bx){J:Nat}(h:lv J v=true):nf J bx=true:=by
  cases ad with
  |cH E=>simpa[lv,(sH E).1]using h
  |iu e=>subst e;simpa[lv]using h
  |hR e=>rfl
  |ek e=>subst e;simp[lv,ek,h8,nf]at h
  |pD=>rfl
  |slice=>simpa[lv,h8]using h
  |_=>simp[lv,h8,nf]at h
theorem ahN(ad:b5 u M v bx){J l h:Nat}(ab:lv J v=true)(E:l<=h)(I:h<=kz v):b5 u M (sa v J l h) (pB bx J l h):=by
  cases ad with
  | cH aT=>
    simp only[sa,(sH aT).1,kB,if_false];unfold pB;split
    · simp[dZ]at aT
    · exact .cH rfl
  | iu e dx aB bK ar=>
    rename_i b off jB cs bh;subst e;have CP:jB=J:=(by simpa[lv]using ab);subst CP;have tx:h<=bh.length:=(by simpa[kz]using I);simp only[sa,Ni,if_true,Lb,pB];have eA:((bh.take h).drop l).length=h-l:=(by simp;omega);have ax:h*jB<=bh.length*jB:=ri _ tx;have bd:l*jB+(h-l)*jB=h*jB:=(by rw[<-ly];congr 1;omega);rw[<-eA];refine .iu rfl dx (by rw[eA];omega) (λi r aw=> ?_) λi j r x y aw G af=> ?_
    · rw[zE,vT]at aw;split at aw
      · exact bK _ _ aw
      · cases aw
    · rw[zE,vT]at aw;split at aw
      · refine ar _ j r x y aw G ?_;rw[<-af];congr 1;rw[ly];omega
      · cases aw
  | hR e=>subst e;simp only[sa,Ni,if_true,Lb,pB];simp;exact .hR rfl
  |ek e=>subst e;simp[lv,ek,h8,nf]at ab
  | pD=>have:h=0:=(by simpa[kz,h8,gI]using I);subst this;have:l=0:=(by omega);subst this;simp only[sa,h8,pB,kB,if_false,Nat.zero_mul,Nat.add_zero,Nat.sub_self];exact .pD
  |slice bZ=>simp only[sa,h8,pB,kB,if_false];exact .slice bZ
  |_=>simp[lv,h8,nf]at ab
theorem aDZ(ad:b5 u M v bx){J:Nat}{i:Int}(ab:lv J v=true)(dk:0<=i)(E:i<kg v):b5 u M (zj v J i) (xw bx J i):=by
  obtain⟨n,rfl⟩:=jS dk;cases ad with
  | cH aT=>
    simp only[kg,(sH aT).1,kB,if_false]at E;simp only[lv,(sH aT).1,kB,if_false]at ab;unfold nf at ab;split at ab
    · simp[iv]at E;simp at ab;omega
    · simp[dZ]at aT
    · cases ab
  | iu e dx aB bK ar=>rename_i b off jB cs bh;subst e;have CP:jB=J:=(by simpa[lv]using ab);subst CP;have I:n<bh.length:=(by simpa[kg]using E);simp only[zj,Ni,if_true,Lb,xw,ot];rw[la,cD I,zG];have aw:=cD I;have rJ:=bK _ _ aw;have:(n+1)*jB<=bh.length*jB:=ri _ I;rw[ly]at this;exact .ek (off:=off+n*jB) (k:=0) rfl dx (by omega) λj x y G af=>ar n j _ x y aw G af
  |hR e=>subst e;simp[kg]at E;omega
  |ek e=>subst e;simp[lv,ek,h8,nf]at ab
  |pD=>simp[kg,h8,iv]at E;omega
  |slice bZ=>simp only[zj,h8,xw,kB,if_false];exact .cw bZ
  |_=>simp[lv,h8,nf]at ab
theorem I5(K:ec M u t m)(ad:b5 u M v bx){J:Nat}(h:kQ t J v=true):fS m J bx=true:=by
  cases ad with
  | cH aT=>
    simp only[kQ,(sH aT).1,kB,if_false]at h;unfold fS at h;split at h
    · simpa[fS]using h
    · simp[dZ]at aT
    · cases h
  | iu e dx aB bK ar=>subst e;have:=(by simpa[kQ]using h);subst this;obtain⟨⟨w,a3⟩,_⟩:=K.bF _ _ dx;simp[a3,aB]
  |hR e=>rfl
  |ek e=>subst e;simp[kQ,ek,h8,fS]at h
  |pD=>rfl
  | slice bZ=>
    rename_i o b off l jB;simp only[kQ,h8,kB,if_false,ahO,a1]at h⊢;refine⟨h.1,?_⟩;cases aP:t.X o with
    |none=>rw[aP]at h;simp at h
    | some x=>rw[aP]at h;obtain⟨cs,w,E,_,av⟩:=K.qC bZ aP;have:=av.1;simp[E]at h⊢;omega
  |_=>simp[kQ,h8,fS]at h
theorem Ka(K:ec M u t m)(ad:b5 u M v bx){J:Nat}(h:kQ t J v=true):bo u M (lh t J v) (gj m J bx):=by
  cases ad with
  | cH aT=>
    simp only[kQ,(sH aT).1,kB,if_false]at h;unfold fS at h;split at h
    · exact bo.nil
    · simp[dZ]at aT
    · cases h
  | iu e dx aB bK ar=>rename_i b off jB cs bh;subst e;have:=(by simpa[kQ]using h);subst this;obtain⟨⟨w,a3⟩,_⟩:=K.bF _ _ dx;simp only[lh,Ni,if_true,Lb,aD3,XD,a3];obtain⟨uk,aJ,aU,cu⟩:=UO bh.length off aB;rw[<-aU];refine bo.Yh aJ.symm λi r dL aw yo=> ?_;have ai:=(dO.1 aw).1;rw[cu i ai]at yo;cases yo;have Y8:=bK _ _ aw;have:(i+1)*jB<=bh.length*jB:=ri _ ai;rw[ly]at this;have:=bo.ct (u:=u) (M:=M) (ct:=r) (cs:=cs) (off:=off+i*jB) (k:=0) (n:=jB) (by omega) (λj x y G af=>ar i j r x y aw G af) (by omega);rw[List.drop_zero,jT (by omega)]at this;exact this
  |hR e=>subst e;simp[lh,gj];exact bo.nil
  |ek e=>subst e;simp[kQ,ek,h8,fS]at h
  | pD=>
    simp only[lh,h8,kB,if_false,gj,hP];split
    · simp;exact bo.nil
    · exact bo.nil
  | slice bZ=>
    rename_i o b off l jB;simp only[kQ,h8,kB,if_false,ahO,a1]at h;simp only[lh,h8,kB,if_false,gj,hP];cases aP:t.X o with
    |none=>rw[aP]at h;simp at h
    | some x=>obtain⟨cs,w,E,_,av⟩:=K.qC bZ aP;simp only[E];exact(av.drop _).take _
  |_=>simp[kQ,h8,fS]at h
theorem ahP(K:ec M u t m)(ad:b5 u M v bx)(h:kj t v=true):kj m bx=true:=by
  unfold kj at h;split at h
  · rename_i l c;cases ad with
    |cH aT=>rfl
    |iu e=>simp[aj]at e
    |hR e=>simp[aj]at e
    |ek e=>simp[ek]at e
  · rename_i a l c;rcases ad.m1 with⟨b,bZ,_,rfl⟩|⟨_,_,_,rfl⟩
    · cases aP:t.X a.block with
      |none=>rw[aP]at h;cases h
      | some x=>rw[aP]at h;obtain⟨cs,w,E,I,av⟩:=K.qC bZ aP;simp[E,I h]
    · rfl
  · cases h
theorem aAz(K:ec M u t m)(ad:b5 u M v bx){bc:List (Value×Value)}(h:ku t v=some bc): ∃de,ku m bx=some de/\pM u M bc de:=by
  unfold ku at h;split at h
  · cases h;have:bx= .map none:=ad.h7 rfl;subst this;exact⟨[],rfl,rfl,λi e et a=>by simp at a⟩
  · obtain⟨b,de,E,I,av⟩:=K.maps _ _ h;obtain⟨cd,aH,rfl⟩:=ad.Gz;rw[E]at aH;cases aH;exact⟨de,I,av⟩
  · cases h
theorem afT(ad:b5 u M v bx){a9:kD}(h:n6 a9 v=true):bx=v:=by
  cases a9<;>cases v<;>simp[n6]at h
  · exact ad.qU
  · exact ad.wN
theorem af7{a9:kD}{bc de:List (Value×Value)}(bn:pM u M bc de)(ad:b5 u M v bx)(h:oa a9 v bc=true):oa a9 bx de=true/\bx=v/\ ∀(i:Nat) e et,bc[i]?=some e->de[i]?=some et->et.1=e.1:=by
  simp only[oa,a1,eQ]at h⊢;have aJ:=afT ad h.1;subst aJ;have aa: ∀(i:Nat) e et,bc[i]?=some e->de[i]?=some et->et.1=e.1:= λi e et a b=>afT (bn.2 i e et a b).1 (h.2 e (gJ a));refine⟨⟨h.1,λet ax=> ?_⟩,rfl,aa⟩;obtain⟨i,ai,rfl⟩:=j4 ax;have gW:i<bc.length:=by rw[bn.1];exact ai
  rw[aa i _ _ (cD gW) (cD ai)];exact h.2 _ (jQ gW)
theorem agp{k:Value}: ∀{bc de:List (Value×Value)},pM u M bc de->(∀(i:Nat) e et,bc[i]?=some e->de[i]?=some et->et.1=e.1)->(jk k bc=none/\jk k de=none)\/ ∃a b,jk k bc=some a/\jk k de=some b/\b5 u M a b
  |[],[],_,_=> .inl ⟨rfl,rfl⟩
  |[],_::_,h,_=>by simp[pM]at h
  |_::_,[],h,_=>by simp[pM]at h
  | e::bc,et::de,h,aa=>by
    have dk:=aa 0 e et rfl rfl;simp only[jk,dk];split
    · exact .inr ⟨_,_,rfl,rfl,(h.2 0 e et rfl rfl).2⟩
    · exact agp ⟨by simpa using h.1,λi a b aA hb=>h.2 (i+1) a b (by simpa using aA) (by simpa using hb)⟩ λi a b aA hb=>aa (i+1) a b (by simpa using aA) (by simpa using hb)
theorem agD{k v bx:Value}(yh:b5 u M k k)(ad:b5 u M v bx): ∀{bc de:List (Value×Value)},pM u M bc de->(∀(i:Nat) e et,bc[i]?=some e->de[i]?=some et->et.1=e.1)->pM u M (lM k v bc) (lM k bx de)
  | [],[],_,_=>⟨rfl,λi a b aA hb=>by
      cases i with
      |zero=>simp[lM]at aA hb;subst aA;subst hb;exact⟨yh,ad⟩
      |succ i=>simp[lM]at aA⟩
  |[],_::_,h,_=>by simp[pM]at h
  |_::_,[],h,_=>by simp[pM]at h
  | e::bc,et::de,h,aa=>by
    have dk:=aa 0 e et rfl rfl;have bA:pM u M bc de:=⟨by simpa using h.1,λi a b aA hb=>h.2 (i+1) a b (by simpa using aA) (by simpa using hb)⟩;simp only[lM,dk];split
    · refine⟨by simpa using h.1,λi a b aA hb=> ?_⟩;cases i with
      |zero=>simp at aA hb;subst aA;subst hb;exact⟨yh,ad⟩
      |succ i=>exact bA.2 i a b (by simpa using aA) (by simpa using hb)
    · have:=agD yh ad bA λi a b aA hb=>aa (i+1) a b (by simpa using aA) (by simpa using hb);refine⟨by simpa using this.1,λi a b aA hb=> ?_⟩;cases i with
      |zero=>simp at aA hb;subst aA;subst hb;exact h.2 0 e et rfl rfl
      |succ i=>exact this.2 i a b (by simpa using aA) (by simpa using hb)
end
section
variable {u:fQ} {M:eM} {A ak:aR} {t m:W} {v bx:Value}
theorem Ir(bI:g4 u M A ak){x:Option Operand}(G: ∀o,x=some o->cX o=true)(h:nK A x=true)(d:Int):nK ak x=true/\g1 ak x d=g1 A x d:=by
  cases x with
  |none=>exact⟨rfl,rfl⟩
  | some o=>have e:=qa (bI.Z (G o rfl)) h;simp only[nK,g1,e]at h⊢;exact⟨h,trivial⟩
theorem agZ(bI:g4 u M A ak){cs lC:List Value}(aB:cs.length=lC.length){ps:List (Nat×Nat×Operand)}(aA: ∀p∈ps,cX p.2.2=true)(h:qh cs A ps=true):qh lC ak ps=true:=by simp only[qh,eQ]at h⊢;intro p ab;have:=h p ab;obtain⟨off,n,x⟩:=p;simp only[a1,e2]at this⊢;have ad:=bI.Z (aA _ ab);exact⟨⟨ad.U this.1.1,by rw[<-ad.O.1];exact this.1.2⟩,by rw[<-aB];exact this.2⟩
theorem Uu(bI:g4 u M A ak): ∀{ps:List (Nat×Nat×Operand)} {cs lC:List Value},bo u M cs lC->(∀p∈ps,cX p.2.2=true)->bo u M (l5 cs A ps) (l5 lC ak ps)
  |[],_,_,h,_=>h
  | (off,n,x)::ps,_,_,h,aA=>by simp only[l5];exact Uu bI (h.gL off (bI.Z (aA (off,n,x) (by simp))).O) λp ab=>aA p (by simp[ab])
theorem b5.EA{v:Value}(h:dZ v=true\/v=Go.undef):b5 u M v v:=by
  rcases h with h|rfl
  · exact .cH h
  · exact b5.undef
theorem ana(op:BinOp)(k:IntKind)(a b:Int):dZ (CU op k a b)=true:=by cases op<;>rfl
theorem aEc(op:BinOp)(a b:ByteArray):dZ (zp op a b)=true\/zp op a b=Go.undef:=by cases op<;>first|exact .inl rfl|exact .inr rfl
theorem aj4(op:BinOp)(x y:Value):dZ (lg op x y)=true\/lg op x y=Go.undef:=by
  unfold lg;split
  · exact .inl (ana _ _ _ _)
  · exact aEc _ _ _
  · split
    · exact .inl rfl
    · exact .inl rfl
    · exact .inr rfl
theorem ahF(ad:b5 u M v bx)(h:mc v=true):bx=v\/(∃a dG,v= .pointer (some a)/\bx= .pointer (some dG))\/(∃a dG l J,v= .slice (some a) l J/\bx= .slice (some dG) l J)\/
    (∃f xs cs ys ds,v= .func (.func f) xs cs/\bx= .func (.func f) ys ds)\/(∃a b,v= .map a/\bx= .map b)\/(∃a b,v= .agg a/\bx= .agg b)\/(∃a b,v= .tuple a/\bx= .tuple b)\/ ∃t a b,v= .iface t a/\bx= .iface t b:=by
  cases ad with
  |cH=>exact .inl rfl
  |cw=>exact .inr (.inl ⟨_,_,rfl,rfl⟩)
  |slice=>exact .inr (.inr (.inl ⟨_,_,_,_,rfl,rfl⟩))
  |pD=>simp[mc,kf]at h
  |map=>exact .inr (.inr (.inr (.inr (.inl ⟨_,_,rfl,rfl⟩))))
  |agg=>exact .inr (.inr (.inr (.inr (.inr (.inl ⟨_,_,rfl,rfl⟩)))))
  |tuple=>exact .inr (.inr (.inr (.inr (.inr (.inr (.inl ⟨_,_,rfl,rfl⟩))))))
  |func=>exact .inr (.inr (.inr (.inl ⟨_,_,_,_,_,rfl,rfl⟩)))
  |iface=>exact .inr (.inr (.inr (.inr (.inr (.inr (.inr ⟨_,_,_,rfl,rfl⟩))))))
  |iu e=>subst e;simp[mc]at h
  |hR e=>subst e;simp[mc]at h
  |ek e=>subst e;simp[mc]at h
theorem Xq{x y:Value}{op:BinOp}{c:td}(h:(e4 x&&e4 y)=false)(I:(lo x&&lo y)=false):ru op c x y=(match op with| .eql| .neq=>tu c x y|_=>false):=by
  unfold ru;split
  · simp[e4]at h
  · simp[lo]at I
  · rfl
theorem Xr{x y:Value}{op:BinOp}(h:(e4 x&&e4 y)=false)(I:(lo x&&lo y)=false):lg op x y=(match op with| .eql=> .bool (oz x y)| .neq=> .bool (!oz x y)|_=>Go.undef):=by
  unfold lg;split
  · simp[e4]at h
  · simp[lo]at I
  · rfl
theorem afQ(ad:b5 u M v bx)(h:mc v=true):e4 bx=e4 v/\lo bx=lo v:=by rcases ahF ad h with rfl|⟨a,dG,rfl,rfl⟩|⟨a,dG,l,J,rfl,rfl⟩|⟨f,xs,cs,ys,ds,rfl,rfl⟩|⟨a,b,rfl,rfl⟩|⟨a,b,rfl,rfl⟩|⟨a,b,rfl,rfl⟩|⟨t,a,b,rfl,rfl⟩<;>exact⟨rfl,rfl⟩
def EI:Value->Value
  | .pointer (some _)=> .pointer (some ⟨0,0,none⟩)
  | .slice (some _) _ _=> .slice (some ⟨0,0,none⟩) 0 0
  | .func _ _ _=> .func (.func 0) #[] #[]
  | .map _=> .map none
  | .agg _=> .agg #[]
  | .tuple _=> .tuple #[]
  | .iface _ _=> .iface 0 .nilIface
  |v=>v
theorem Yc(c:td)(x y:Value):tu c (EI x) (EI y)=tu c x y:=by cases c<;>cases x<;>cases y<;>first|rfl|(cases‹Option Addr› <;>first|rfl|(cases‹Option Addr› <;>rfl))
theorem Yd(x y:Value):oz (EI x) (EI y)=oz x y:=by cases x<;>cases y<;>first|rfl|(cases‹Option Addr› <;>first|rfl|(cases‹Option Addr› <;>rfl))
theorem OM(ad:b5 u M v bx)(h:mc v=true):EI bx=EI v:=by rcases ahF ad h with rfl|⟨a,dG,rfl,rfl⟩|⟨a,dG,l,J,rfl,rfl⟩|⟨f,xs,cs,ys,ds,rfl,rfl⟩|⟨a,b,rfl,rfl⟩|⟨a,b,rfl,rfl⟩|⟨a,b,rfl,rfl⟩|⟨t,a,b,rfl,rfl⟩<;>rfl
theorem Ye{x y ic xG:Value}{c:td}(G:b5 u M x ic)(af:b5 u M y xG)(E:mc x=true)(I:mc y=true)(h:tu c x y=true):tu c ic xG=true/\oz ic xG=oz x y:=by rw[<-Yc,OM G E,OM af I,Yc,<-Yd ic xG,OM G E,OM af I,Yd];exact⟨h,rfl⟩
theorem aj5{x y ic xG:Value}{op:BinOp}{c:td}(G:b5 u M x ic)(af:b5 u M y xG)(E:mc x=true)(I:mc y=true)(h:ru op c x y=true):ru op c ic xG=true/\lg op ic xG=lg op x y:=by
  obtain⟨k2,ba⟩:=afQ G E;obtain⟨ks,eP⟩:=afQ af I;by_cases ai:(e4 x&&e4 y)=true
  · simp only[a1]at ai;rw[qa G ai.1,qa af ai.2];exact⟨h,rfl⟩
  · by_cases K:(lo x&&lo y)=true
    · simp only[a1]at K;rw[AX G K.1,AX af K.2];exact⟨h,rfl⟩
    · simp only[Bool.not_eq_true]at ai K;rw[Xq ai K]at h;rw[Xq (by rw[k2,ks];exact ai) (by rw[ba,eP];exact K),Xr ai K,Xr (by rw[k2,ks];exact ai) (by rw[ba,eP];exact K)];cases op<;>simp only[kB]at h⊢
      · obtain⟨a,b⟩:=Ye G af E I h;rw[b];exact⟨a,rfl⟩
      · obtain⟨a,b⟩:=Ye G af E I h;rw[b];exact⟨a,rfl⟩
theorem agc: ∀{gQ:List pK} {bY bs Cg Fp:List Value},iq gQ bY bs=true->bo u M bY Cg->bo u M bs Fp->Cg=bY/\Fp=bs
  | [],[],[],Cg,Fp,_,E,I=>by have aJ:Cg=[]:=B2 (by rw[<-E.1];rfl);have aU:Fp=[]:=B2 (by rw[<-I.1];rfl);exact⟨aJ,aU⟩
  |k::gQ,a::bY,b::bs,[],_,_,E,_=>by simp[bo]at E
  |k::gQ,a::bY,b::bs,_::_,[],_,_,I=>by simp[bo]at I
  | k::gQ,a::bY,b::bs,dG::Cg,cd::Fp,h,E,I=>by simp only[iq,a1]at h;obtain⟨aJ,aU⟩:=agc h.2 ⟨by simpa using E.1,λi x y G af=>E.2 (i+1) x y (by simpa using G) (by simpa using af)⟩ ⟨by simpa using I.1,λi x y G af=>I.2 (i+1) x y (by simpa using G) (by simpa using af)⟩;have aA:=E.2 0 a dG rfl rfl;have hb:=I.2 0 b cd rfl rfl;have aa:=h.1;have cu:dG=a:=(by cases k<;>cases a<;>cases b<;>simp[x0]at aa<;>exact aA.h7 rfl);have gO:cd=b:=(by cases k<;>cases a<;>cases b<;>simp[x0]at aa<;>exact hb.h7 rfl);rw[aJ,aU,cu,gO];exact⟨rfl,rfl⟩
  |[],_::_,_,_,_,h,_,_=>by simp[iq]at h
  |[],[],_::_,_,_,h,_,_=>by simp[iq]at h
  |_::_,[],_,_,_,h,_,_=>by simp[iq]at h
  |_::_,_::_,[],_,_,h,_,_=>by simp[iq]at h
theorem agy(bI:g4 u M A ak)(fr:Bool): ∀(xs:List Operand) (dH:Value),xs.all cX=true->(xs.all λy=>e4 (Z A y))=true->e4 dH=true->
    (xs.foldl (λdH y=>if fr then ob dH (Z ak y)else oc dH (Z ak y)) dH=xs.foldl (λdH y=>if fr then ob dH (Z A y)else oc dH (Z A y)) dH)/\e4 (xs.foldl (λdH y=>if fr then ob dH (Z A y)else oc dH (Z A y)) dH)=true
  |[],dH,_,_,h=>⟨rfl,h⟩
  | y::xs,dH,aA,ai,h=>by simp only[nm,a1]at aA ai;have e:=qa (bI.Z aA.1) ai.1;simp only[xL,e];refine agy bI fr xs _ aA.2 ai.2 ?_;have E:=ai.1;cases dH<;>simp[e4]at h;cases af:Z A y<;>simp[af,e4]at E;split<;>rfl
theorem ak4(h:e4 v=true):dZ v=true:=by cases v<;>simp[e4]at h<;>rfl
def ag.UC:ag->Bool
  | .c9 _| .mz _| .gM _ _ _ _| .nX _| .kN _ _ _ _ _| .app _ _ _ _| .np _ _ _ _ _| .hv _ _| .m6| .store _ _ _| .l3 _ _ _ _| .dY _ _| .iN _ _| .iR _ _ _=>false
  |_=>true
theorem aBT{k:ag}(h:k.UC=true){id jg:Nat}:k.mo id A t=t/\k.gG jg ak m=m:=by cases k<;>first|exact⟨rfl,rfl⟩|cases h
theorem aBU(K:ec M u t m)(bI:g4 u M A ak){k:ag}(bd:k.UC=true)(aE:xd k=true)(au:k.iw A t=true)(id jg:Nat):k.ok ak m=true/\b5 u M (k.iJ id A t) (k.val jg ak m):=by
  simp only[xd,a1]at aE;obtain⟨aA,bK⟩:=aE;cases k with
  |mq x=>simp[ag.hh]at aA;exact⟨rfl,bI.Z aA⟩
  | sQ c a b=>
    simp[ag.hh]at aA;have e:=afP (bI.Z aA.1) au;refine⟨by simp only[ag.ok,e];exact au,?_⟩;simp only[ag.iJ,ag.val,e];split
    · exact bI.Z aA.2.1
    · exact bI.Z aA.2.2
  | qe x=>
    simp[ag.hh]at aA;have ad:=bI.Z aA;refine⟨?_,ad⟩;simp only[ag.iw,ag.ok]at au⊢;generalize Z A x=a at ad au;generalize Z ak x=dG at ad;cases ad with
    |cH=>exact au
    |_=>rfl
  | fF J ps=>have nw: ∀p∈ps,cX p.2.2=true:= λp ab=>eQ.1 aA _ (by simp only[ag.hh];exact List.mem_map_of_mem ab);have aB:=bo.cH (u:=u) (M:=M) bK;exact⟨agZ bI rfl nw au,(Uu bI aB nw).agg⟩
  | k5 dp n x=>simp[ag.hh]at aA;simp only[ag.iw,a1]at au;refine⟨?_,T2 K (bI.Z aA) au.1 au.2⟩;simp only[ag.ok,a1];exact⟨Ff K (bI.Z aA) au.1,au.2⟩
  | e8 op c x y=>simp[ag.hh]at aA;simp only[ag.iw,a1]at au;obtain⟨E,I⟩:=aj5 (bI.Z aA.1) (bI.Z aA.2) au.1.1 au.1.2 au.2;refine⟨E,?_⟩;simp only[ag.iJ,ag.val,I];exact b5.EA (aj4 _ _ _)
  | wy kh gQ x y=>simp[ag.hh]at aA;simp only[ag.iw,ag.ok,a1]at au;have G:=bI.Z aA.1;have af:=bI.Z aA.2;simp only[ag.ok,ag.iJ,ag.val];cases fM:Z A x<;>simp[fM,sJ]at au;cases Gr:Z A y<;>simp[Gr]at au;rw[fM]at G;rw[Gr]at af;obtain⟨xs,aJ,gu⟩:=G.rN;obtain⟨ys,aU,ga⟩:=af.rN;obtain⟨cu,gO⟩:=agc au gu ga;simp only[aJ,aU,O,cu,gO,sJ,s8];exact⟨au,.cH rfl⟩
  | qs op x=>
    simp[ag.hh]at aA;have ad:=bI.Z aA;simp only[ag.iw,ag.ok,ag.iJ,ag.val]at au⊢;cases fM:Z A x with
    |int k n=>rw[fM]at ad au;rw[ad.qU];exact⟨au,by cases op<;>first|exact .cH rfl|exact b5.undef⟩
    |bool b=>rw[fM]at ad au;rw[ad.qT];exact⟨au,by cases op<;>first|exact .cH rfl|exact b5.undef⟩
    |_=>rw[fM]at au;cases op<;>simp[xA]at au
  | si k x=>simp[ag.hh]at aA;have e:=qa (bI.Z aA) au;simp only[ag.ok,ag.iJ,ag.val,e];exact⟨au,.cH rfl⟩
  | Cq x=>simp[ag.hh]at aA;have e:=AX (bI.Z aA) au;simp only[ag.ok,ag.iJ,ag.val,e];refine⟨au,?_⟩;simp only[ag.iw,ag.ok]at au;cases G:Z A x<;>simp[G,lo]at au;exact .cH rfl
  | mT x=>
    simp[ag.hh]at aA;have ad:=bI.Z aA;simp only[ag.iw,a1]at au;have aB:=Ka K ad au.1;have e:gj m 1 (Z ak x)=lh t 1 (Z A x):=by
      apply List.ext_getElem
      · exact aB.1.symm
      · intro i E I;have aQ:=aB.2 i _ _ (cD I) (cD E);have a2:=eQ.1 au.2 _ (jQ I);generalize(lh t 1 (Z A x))[i]=a at aQ a2;cases a<;>simp[AY]at a2;exact aQ.qU
    simp only[ag.ok,ag.iJ,ag.val,e,a1];exact⟨⟨I5 K ad au.1,au.2⟩,.cH rfl⟩
  | BT x cB ai=>simp[ag.hh]at aA;have qQ: ∀o,cB=some o->cX o=true:= λo h=>aA.2.1 o h;have uY: ∀o,ai=some o->cX o=true:= λo h=>aA.2.2 o h;simp only[ag.iw,ag.ok,a1,e2]at au;obtain⟨⟨⟨⟨⟨E,I⟩,av⟩,aH⟩,br⟩,cW⟩:=au;have e:=AX (bI.Z aA.1) E;obtain⟨aJ,aU⟩:=Ir bI qQ I 0;obtain⟨cu,gO⟩:=Ir bI uY av (iv (Z A x));simp only[ag.ok,ag.iJ,ag.val,e,aJ,aU,cu,gO,a1,e2];exact⟨⟨⟨⟨⟨⟨E,trivial⟩,trivial⟩,aH⟩,br⟩,cW⟩,.cH rfl⟩
  | nO J x cB ai=>
    simp[ag.hh]at aA;have qQ: ∀o,cB=some o->cX o=true:= λo h=>aA.2.1 o h;have uY: ∀o,ai=some o->cX o=true:= λo h=>aA.2.2 o h;simp only[ag.iw,a1,e2]at au;obtain⟨⟨⟨⟨⟨E,I⟩,av⟩,aH⟩,br⟩,cW⟩:=au;have ad:=bI.Z aA.1;have wv:=NB ad;obtain⟨aJ,aU⟩:=Ir bI qQ I 0;obtain⟨cu,gO⟩:=Ir bI uY av (kg (Z A x));simp only[ag.ok,ag.iJ,ag.val,<-wv,aJ,aU,cu,gO,a1,e2];refine⟨⟨⟨⟨⟨⟨I1 ad E,trivial⟩,trivial⟩,aH⟩,br⟩,cW⟩,ahN ad E (by omega) ?_⟩;have:kg (Z A x)=kz (Z A x):=by
      have jF:=I1 ad E;rw[wv,OH ad];unfold nf at jF;split at jF
      · simp at jF;next bd=>rw[bd];simp[iv,gI]
      · next bd=>rw[bd];simp[iv,gI]
      · cases jF
    omega
  | vK J x cB ai fr=>
    simp[ag.hh]at aA;have qQ: ∀o,cB=some o->cX o=true:= λo h=>aA.2.2.2 o (by simp[h]);simp only[ag.iw,a1,e2]at au;obtain⟨⟨⟨⟨⟨⟨⟨E,I⟩,av⟩,aH⟩,br⟩,cW⟩,fu⟩,hK⟩:=au;have ad:=bI.Z aA.1;have wv:=NB ad;obtain⟨aJ,aU⟩:=Ir bI qQ I 0;have cu:=qa (bI.Z aA.2.1) av;have gO:=qa (bI.Z aA.2.2.1) aH;simp only[ag.ok,ag.iJ,ag.val,<-wv,aJ,aU,cu,gO,a1,e2];refine⟨⟨⟨⟨⟨⟨⟨⟨I1 ad E,trivial⟩,av⟩,aH⟩,br⟩,cW⟩,fu⟩,hK⟩,ahN ad E (by omega) ?_⟩;have:kg (Z A x)=kz (Z A x):=by
      have jF:=I1 ad E;rw[wv,OH ad];unfold nf at jF;split at jF
      · simp at jF;next bd=>rw[bd];simp[iv,gI]
      · next bd=>rw[bd];simp[iv,gI]
      · cases jF
    omega
  | pC J n x=>
    simp[ag.hh]at aA;have ad:=bI.Z aA;simp only[ag.iw,ag.ok,a1]at au;simp only[ag.ok,ag.iJ,ag.val,a1];have ny:mH (Z A x)=false:=by cases G:Z A x<;>simp[G,gD]at au<;>rfl
    have bA:pS t (Z A x) (n*J)=true:=(by rw[pS,ny];exact au.1);refine⟨⟨Ff K ad bA,au.2⟩,?_⟩;cases G:Z A x<;>simp[G,gD]at au
    next a=>
      cases a with
      |none=>simp at au
      | some a=>rw[G]at ad;obtain⟨b,E,I,av⟩:=ad.p9;rw[av];simp only[Fh];exact .slice E
  |so off x=>simp[ag.hh]at aA;exact⟨ag7 (bI.Z aA) au,ag6 (bI.Z aA) au off⟩
  | field dp off n x=>
    simp[ag.hh]at aA;have ad:=bI.Z aA;simp only[ag.iw,ag.ok,a1]at au;simp only[ag.ok,ag.iJ,ag.val,a1];cases G:Z A x<;>simp[G,FF]at au;rw[G]at ad;obtain⟨ys,e,aB⟩:=ad.rN;have:=aB.1;simp at this;rw[e];refine⟨⟨by simp[FF];omega,by simpa using au.2⟩,?_⟩;simp only[Ks];split
    · exact((aB.drop _).take _).agg
    · next tB=>rename_i cs;have E:n=1:=(by simpa[tB]using au.2);have ai:off<cs.toList.length:=(by simp;omega);obtain⟨y,af,Rn⟩:=aB.X (cD ai);rw[la,la,cD ai,af];exact Rn
  | oH J x i=>simp[ag.hh]at aA;simp only[ag.iw,a1,e2]at au;obtain⟨⟨⟨E,I⟩,av⟩,aH⟩:=au;have ad:=bI.Z aA.1;have e:=qa (bI.Z aA.2) I;simp only[ag.ok,ag.iJ,ag.val,e,<-NB ad,a1,e2];exact⟨⟨⟨⟨I1 ad E,I⟩,av⟩,aH⟩,aDZ ad E av aH⟩
  | ph J n x i=>simp[ag.hh]at aA;simp only[ag.iw,a1,e2]at au;obtain⟨⟨⟨E,I⟩,av⟩,aH⟩:=au;have ad:=bI.Z aA.1;have e:=qa (bI.Z aA.2) I;simp only[ag.ok,ag.iJ,ag.val,e,a1,e2];exact⟨⟨⟨⟨ag7 ad E,I⟩,av⟩,aH⟩,ag6 ad E _⟩
  | tL x i=>simp[ag.hh]at aA;simp only[ag.iw,ag.ok,a1,e2]at au;obtain⟨⟨⟨E,I⟩,av⟩,aH⟩:=au;have e:=qa (bI.Z aA.2) I;have aJ:=AX (bI.Z aA.1) E;simp only[ag.ok,ag.iJ,ag.val,e,aJ,a1,e2];exact⟨⟨⟨⟨E,I⟩,av⟩,aH⟩,.cH rfl⟩
  | ext i x=>simp[ag.hh]at aA;have ad:=bI.Z aA;simp only[ag.iw,ag.ok]at au;simp only[ag.ok,ag.iJ,ag.val];cases G:Z A x<;>simp[G,EK]at au;rename_i cz;rw[G]at ad;obtain⟨ys,e,aB⟩:=ad.Ax;have:=aB.1;simp at this;rw[e];have ai:i<cz.toList.length:=(by simpa using au);obtain⟨y,af,Rn⟩:=aB.X (cD ai);refine⟨by simp[EK];omega,?_⟩;simp only[BW];rw[la,la,cD ai,af];exact Rn
  | sL x=>simp[ag.hh]at aA;have aJ:=AX (bI.Z aA) au;simp only[ag.ok,ag.iJ,ag.val,aJ];exact⟨au,.cH rfl⟩
  | sM x=>simp[ag.hh]at aA;have ad:=bI.Z aA;refine⟨azb ad au,?_⟩;simp only[ag.iJ,ag.val,NB ad];exact .cH rfl
  | Cm x=>simp[ag.hh]at aA;have ad:=bI.Z aA;simp only[ag.iw,ag.ok]at au⊢;rw[Nl au]at ad;rw[ad.h7 rfl];exact⟨rfl,.cH rfl⟩
  | pq fr x xs=>simp[ag.hh]at aA;simp only[ag.iw,ag.ok,a1]at au;have e:=qa (bI.Z aA.1) au.1;have Ru:xs.all cX=true:=(by simpa using aA.2);obtain⟨E,I⟩:=agy bI fr xs (Z A x) Ru au.2 au.1;simp only[ag.ok,ag.iJ,ag.val,e,E,a1];refine⟨⟨au.1,?_⟩,.cH (ak4 I)⟩;simp only[eQ]at au Ru⊢;intro y af;rw[qa (bI.Z (Ru y af)) (au.2 y af)];exact au.2 y af
  | ub fn first mA=>
    simp only[ag.iw]at au;simp only[ag.hh,s6,a1]at aA;refine⟨rfl,?_⟩;simp only[ag.iJ,ag.val];cases fn with
    | func f=>have E:=bI.x5 aA.1;have I:=bI.x5 aA.2;exact .func (by simpa using E.1) (by simpa using E.2) (by simpa using I.1) (by simpa using I.2)
    |_=>cases au
  |vu qq x=>simp[ag.hh]at aA;exact⟨rfl,.iface (bI.Z aA)⟩
  | zr qq x=>simp[ag.hh]at aA;have ad:=bI.Z aA;simp only[ag.iw,ag.ok]at au;simp only[ag.ok,ag.iJ,ag.val];cases G:Z A x<;>simp[G,Gw]at au;rw[G]at ad;obtain⟨y,e,E⟩:=ad.Gy;rw[e];exact⟨by simpa[Gw]using au,E⟩
  | m7 a9 J o x fN=>
    simp[ag.hh]at aA;simp only[ag.iw,ag.ok]at au;simp only[ag.ok,ag.iJ,ag.val];cases ax:ku t (Z A x)with
    |none=>rw[ax]at au;cases au
    | some bc=>
      rw[ax]at au;simp only at au;obtain⟨de,E,I⟩:=aAz K (bI.Z aA.1) ax;obtain⟨av,aH,br⟩:=af7 I (bI.Z aA.2) au;rw[E,aH];rw[aH]at av;refine⟨av,?_⟩;simp only[Option.bind_some];have CP:b5 u M J J:= .cH bK;rcases agp (k:=Z A fN) I br with⟨aJ,aU⟩|⟨a,b,aJ,aU,cu⟩
      · rw[aJ,aU];split
        · exact(bo.cons CP (bo.cons (.cH rfl) bo.nil)).tuple
        · exact CP
      · rw[aJ,aU];split
        · exact(bo.cons cu (bo.cons (.cH rfl) bo.nil)).tuple
        · exact cu
  |_=>cases bd
end
def hi(M:eM)(id mid:Nat):eM:= λo=>if o=id then some mid else M o
section
variable {u:fQ} {M:eM} {A ak:aR} {t m:W} {v bx:Value} {id mid gU hL:Nat}
theorem fY.set(h:M id=none):fY M (hi M id mid):= λo b hb=>by
  unfold hi;split
  · next e=>subst e;rw[h]at hb;cases hb
  · exact hb
structure rn(M:eM)(u:fQ)(t m:W)(id mid:Nat):Prop where
  e:M id=none
  b: ∀o,M o≠some mid
  f:u mid=none
  sX:id<t.next
  q1:mid<m.next
theorem rn.sO(az:rn M u t m id mid){o b:Nat}(h:M o=some b):b≠mid:= λe=>by subst e;exact az.b o h
theorem ec.sO(K:ec M u t m){p o c b:Nat}(h:M p=some c)(bS:M o=some b)(az:p≠o):c≠b:= λe=>by subst e;exact az (K.inj p o c h bS)
theorem iz{m:W}{b:Nat}{bc:List (Value×Value)}(h:m.eS b=some bc):m.X b=some ⟨[],true⟩/\m.mp b=some bc:=by
  unfold W.eS at h;cases aP:m.X b with
  |none=>rw[aP]at h;cases h
  | some x=>
    obtain⟨cs,w⟩:=x;rw[aP]at h;cases cs with
    | nil=>cases w with
      |true=>exact⟨rfl,h⟩
      |false=>cases h
    |cons c cs=>cases h
theorem kq{m:W}{b:Nat}{bc:List (Value×Value)}(h:m.X b=some ⟨[],true⟩)(bS:m.mp b=some bc):m.eS b=some bc:=by unfold W.eS;rw[h];exact bS
theorem NP(K:ec M u t m)(az:rn M u t m id mid){cs lC:List Value}(ar:bo u M cs lC):ec (hi M id mid) u (t.a0 id (some ⟨cs,true⟩)) (m.a0 mid (some ⟨lC,true⟩)) where
  ij o x G:=by
    by_cases aE:o=id
    · subst aE;rw[eD az.sX]at G;cases G;exact .inl ⟨mid,lC,true,by simp[hi],eD az.q1,λ_=>rfl,ar.b8 (hp.refl _) (fY.set az.e)⟩
    · rw[bR aE]at G;rcases K.ij o x G with⟨b,ds,w,E,I,av,aH⟩|⟨E,I⟩
      · exact .inl ⟨b,ds,w,by simp[hi,aE,E],by rw[bR (az.sO E),I],av,aH.b8 (hp.refl _) (fY.set az.e)⟩
      · exact .inr ⟨by simp[hi,aE,E],I⟩
  maps o bc bn:=by
    by_cases aE:o=id
    · subst aE;have:=(iz bn).2;rw[show(t.a0 o (some ⟨cs,true⟩)).mp=t.mp from rfl,K.iD o az.e]at this;cases this
    · rw[tv aE]at bn;obtain⟨b,de,E,I,av⟩:=K.maps o bc bn;exact⟨b,de,by simp[hi,aE,E],by rw[tv (az.sO E),I],av.b8 (hp.refl _) (fY.set az.e)⟩
  iD o h:=by
    simp only[hi]at h;split at h
    · cases h
    · exact K.iD o h
  inj o o' b h bS:=by
    simp only[hi]at h bS;split at h
    · cases h;split at bS
      · next a b=>rw[a,b]
      · exact absurd bS (az.b o')
    · split at bS
      · cases bS;exact absurd h (az.b o)
      · exact K.inj o o' b h bS
  cV o b h:=by
    simp only[hi]at h;split at h
    · next e=>cases h;subst e;exact⟨az.sX,az.q1⟩
    · exact K.cV o b h
  bF b ds h:=by
    have hb:b≠mid:= λe=>by subst e;rw[az.f]at h;cases h
    obtain⟨⟨w,E⟩,I⟩:=K.bF b ds h;refine⟨⟨w,by rw[bR hb,E]⟩,λo x aE G=> ?_⟩;simp only[hi]at aE;split at aE
    · cases aE;exact absurd rfl hb
    · next cJ=>rw[bR cJ]at G;exact I o x aE G
theorem agJ(az:rn M u t m id mid)(E:gU<=id)(I:hL<=mid){x:Option fB}{y:Option fB}:eN gU hL M u t m (hi M id mid) u (t.a0 id x) (m.a0 mid y) where
  e:=fY.set az.e
  f:=hp.refl _
  kb o b h:=by
    simp only[hi]at h;split at h
    · next e=>cases h;subst e;exact .inr ⟨E,I⟩
    · exact .inl h
  fn b cs h:= .inl h
  jP:=ey _
  jZ:=ey _
  jx b hb _:=bR (by omega)
  nT b hb:= λ⟨o,y,h,bS,rC⟩=>by
    simp only[hi]at h;split at h
    · cases h;omega
    · next cJ=>exact⟨o,y,h,by rw[bR cJ]at bS;exact bS,rC⟩
  nn b hb:= λ⟨o,y,h,bS⟩=>by
    simp only[hi]at h;split at h
    · cases h;omega
    · next cJ=>exact⟨o,y,h,by rw[bR cJ]at bS;exact bS⟩
theorem aAX(K:ec M u t m)(az:rn M u t m id mid){bc de:List (Value×Value)}(ar:pM u M bc de):ec (hi M id mid) u (t.g2 id bc) (m.g2 mid de) where
  ij o x G:=by
    by_cases aE:o=id
    · subst aE;rw[FT az.sX]at G;cases G;exact .inl ⟨mid,[],true,by simp[hi],FT az.q1,λ_=>rfl,bo.nil⟩
    · rw[mW aE]at G;rcases K.ij o x G with⟨b,ds,w,E,I,av,aH⟩|⟨E,I⟩
      · exact .inl ⟨b,ds,w,by simp[hi,aE,E],by rw[mW (az.sO E),I],av,aH.b8 (hp.refl _) (fY.set az.e)⟩
      · exact .inr ⟨by simp[hi,aE,E],I⟩
  maps o fG bn:=by
    by_cases aE:o=id
    · subst aE;rw[FQ az.sX]at bn;cases bn;exact⟨mid,de,by simp[hi],FQ az.q1,ar.b8 (hp.refl _) (fY.set az.e)⟩
    · rw[FP aE]at bn;obtain⟨b,de,E,I,av⟩:=K.maps o fG bn;exact⟨b,de,by simp[hi,aE,E],by rw[FP (az.sO E),I],av.b8 (hp.refl _) (fY.set az.e)⟩
  iD o h:=by
    simp only[hi]at h;split at h
    · cases h
    · next cJ=>show(if o=id then some bc else t.mp o)=none;rw[if_neg cJ];exact K.iD o h
  inj:=(NP K az (cs:=[]) (lC:=[]) bo.nil).inj
  cV:=(NP K az (cs:=[]) (lC:=[]) bo.nil).cV
  bF b ds h:=by
    have hb:b≠mid:= λe=>by subst e;rw[az.f]at h;cases h
    obtain⟨⟨w,E⟩,I⟩:=K.bF b ds h;refine⟨⟨w,by rw[mW hb,E]⟩,λo x aE G=> ?_⟩;simp only[hi]at aE;split at aE
    · cases aE;exact absurd rfl hb
    · next cJ=>rw[mW cJ]at G;exact I o x aE G
theorem aAW(az:rn M u t m id mid)(E:gU<=id)(I:hL<=mid){bc de:List (Value×Value)}:eN gU hL M u t m (hi M id mid) u (t.g2 id bc) (m.g2 mid de) where
  e:=fY.set az.e
  f:=hp.refl _
  kb o b h:=by
    simp only[hi]at h;split at h
    · next e=>cases h;subst e;exact .inr ⟨E,I⟩
    · exact .inl h
  fn b cs h:= .inl h
  jP:=ey _
  jZ:=ey _
  jx b hb _:=mW (by omega)
  nT b hb:= λ⟨o,y,h,bS,rC⟩=>by
    simp only[hi]at h;split at h
    · cases h;omega
    · next cJ=>exact⟨o,y,h,by rw[mW cJ]at bS;exact bS,rC⟩
  nn b hb:= λ⟨o,y,h,bS⟩=>by
    simp only[hi]at h;split at h
    · cases h;omega
    · next cJ=>exact⟨o,y,h,by rw[mW cJ]at bS;exact bS⟩
theorem aik(K:ec M u t m){o b:Nat}{x:fB}{lC:List Value}{w:Bool}(bZ:M o=some b)(G:t.X o=some x)(a3:x.own=true)(hb:m.X b=some ⟨lC,w⟩)
    {ds fL:List Value} (aB:ds.length=x.cells.length) (ar:bo u M ds fL) (Zy:w=true):ec M u (t.a0 o (some ⟨ds,true⟩)) (m.a0 b (some ⟨fL,w⟩)) where
  ij p y af:=by
    have ev:=K.cV o b bZ;by_cases aE:p=o
    · subst aE;rw[eD ev.1]at af;cases af;exact .inl ⟨b,fL,w,bZ,eD ev.2,λ_=>Zy,ar⟩
    · rw[bR aE]at af;rcases K.ij p y af with⟨c,ds,w,E,I,av,aH⟩|E
      · exact .inl ⟨c,ds,w,E,by rw[bR (K.sO E bZ aE),I],av,aH⟩
      · exact .inr E
  maps p bc bn:=by
    have ev:=K.cV o b bZ;by_cases aE:p=o
    · subst aE;obtain⟨E,I⟩:=iz bn;rw[eD ev.1]at E;have aD:ds=[]:=(by simpa using E);subst aD;have jq:x.cells=[]:=B2 aB.symm;have:t.eS p=some bc:=kq (by rw[G];obtain⟨a,b⟩:=x;simp at jq a3;simp[jq,a3]) I;obtain⟨cd,de,aK,bb,c0⟩:=K.maps p bc this;rw[bZ]at aK;cases aK;have pZ:fL=[]:=B2 (by rw[<-ar.1];rfl);refine⟨b,de,bZ,?_,c0⟩;subst pZ;subst Zy;exact kq (eD ev.2) (iz bb).2
    · rw[tv aE]at bn;obtain⟨c,de,E,I,av⟩:=K.maps p bc bn;exact⟨c,de,E,by rw[tv (K.sO E bZ aE),I],av⟩
  iD:=K.iD
  inj:=K.inj
  cV:=K.cV
  bF c bc h:=by
    obtain⟨⟨c3,E⟩,I⟩:=K.bF c bc h;have ar:c≠b:= λe=>by subst e;have:=I o x bZ G;rw[a3]at this;cases this
    refine⟨⟨c3,by rw[bR ar,E]⟩,λp y ab af=> ?_⟩;have:p≠o:= λe=>by subst e;rw[bZ]at ab;cases ab;exact ar rfl
    rw[bR this]at af;exact I p y ab af
theorem OT(K:ec M u t m){o b:Nat}{x:fB}(bZ:M o=some b)(G:t.X o=some x)(a3:x.own=true){y J:Option fB}:eN gU hL M u t m M u (t.a0 o y) (m.a0 b J) where
  e:=fY.refl _
  f:=hp.refl _
  kb o b h:= .inl h
  fn b cs h:= .inl h
  jP:=ey _
  jZ:=ey _
  jx c ar az:=bR (λe=>az (by subst e;exact⟨o,x,bZ,G,a3⟩))
  nT c ar:= λ⟨p,bt,h,bS,rC⟩=>by
    by_cases ab:p=o
    · subst ab;rw[bZ]at h;cases h;exact⟨p,x,bZ,G,a3⟩
    · rw[bR ab]at bS;exact⟨p,bt,h,bS,rC⟩
  nn c ar:= λ⟨p,bt,h,bS⟩=>by
    by_cases ab:p=o
    · subst ab;rw[bZ]at h;cases h;exact⟨p,x,bZ,G⟩
    · rw[bR ab]at bS;exact⟨p,bt,h,bS⟩
theorem X4(K:ec M u t m){o:Nat}:ec M u (t.a0 o none) m where
  ij p y af:=by
    by_cases aE:p=o
    · subst aE;by_cases ev:p<t.next
      · rw[eD ev]at af;cases af
      · have E:(t.a0 p none).X p=none:=FR (by simp;omega);rw[E]at af;cases af
    · rw[bR aE]at af;exact K.ij p y af
  maps p bc bn:=by
    by_cases aE:p=o
    · subst aE;have:=(iz bn).1;by_cases ev:p<t.next
      · rw[eD ev]at this;cases this
      · have E:(t.a0 p none).X p=none:=FR (by simp;omega);rw[E]at this;cases this
    · rw[tv aE]at bn;exact K.maps p bc bn
  iD:=K.iD
  inj:=K.inj
  cV:=K.cV
  bF c bc h:=by
    obtain⟨E,I⟩:=K.bF c bc h;refine⟨E,λp y ab af=> ?_⟩;by_cases aE:p=o
    · subst aE;by_cases ev:p<t.next
      · rw[eD ev]at af;cases af
      · have E:(t.a0 p none).X p=none:=FR (by simp;omega);rw[E]at af;cases af
    · rw[bR aE]at af;exact I p y ab af
theorem X3{o:Nat}:eN gU hL M u t m M u (t.a0 o none) m where
  e:=fY.refl _
  f:=hp.refl _
  kb o b h:= .inl h
  fn b cs h:= .inl h
  jP:=ey _
  jZ:=ey _
  jx c ar az:=rfl
  nT c ar:= λ⟨p,bt,h,bS,rC⟩=>by
    by_cases ab:p=o
    · subst ab;by_cases ev:p<t.next
      · rw[eD ev]at bS;cases bS
      · have E:(t.a0 p none).X p=none:=FR (by simp;omega);rw[E]at bS;cases bS
    · rw[bR ab]at bS;exact⟨p,bt,h,bS,rC⟩
  nn c ar:= λ⟨p,bt,h,bS⟩=>by
    by_cases ab:p=o
    · subst ab;by_cases ev:p<t.next
      · rw[eD ev]at bS;cases bS
      · have E:(t.a0 p none).X p=none:=FR (by simp;omega);rw[E]at bS;cases bS
    · rw[bR ab]at bS;exact⟨p,bt,h,bS⟩
theorem af8(K:ec M u t m){o b:Nat}{x:fB}(bZ:M o=some b)(G:t.X o=some x)(a3:x.own=true):ec M u (t.a0 o none) (m.a0 b none) where
  ij p y af:=by
    have ev:=K.cV o b bZ;by_cases aE:p=o
    · subst aE;rw[eD ev.1]at af;cases af
    · rw[bR aE]at af;rcases K.ij p y af with⟨c,ds,w,E,I,av,aH⟩|E
      · exact .inl ⟨c,ds,w,E,by rw[bR (K.sO E bZ aE),I],av,aH⟩
      · exact .inr E
  maps p bc bn:=by
    have ev:=K.cV o b bZ;by_cases aE:p=o
    · subst aE;have:=(iz bn).1;rw[eD ev.1]at this;cases this
    · rw[tv aE]at bn;obtain⟨c,de,E,I,av⟩:=K.maps p bc bn;exact⟨c,de,E,by rw[tv (K.sO E bZ aE),I],av⟩
  iD:=K.iD
  inj:=K.inj
  cV:=K.cV
  bF c bc h:=by
    obtain⟨⟨c3,E⟩,I⟩:=K.bF c bc h;have ar:c≠b:= λe=>by subst e;have:=I o x bZ G;rw[a3]at this;cases this
    refine⟨⟨c3,by rw[bR ar,E]⟩,λp y ab af=> ?_⟩;have:p≠o:= λe=>by subst e;rw[bZ]at ab;cases ab;exact ar rfl
    rw[bR this]at af;exact I p y ab af
theorem aBg(s:ByteArray):bo u M (xc s) (xc s):=bo.cH (by simp only[xc,List.all_map,eQ];intro b _;rfl)
structure o2(gU hL id mid:Nat)(M:eM)(u:fQ)(t m aI aq:W)(v bx:Value)(cL:eM):Prop where
  VR:ec cL u aI aq
  val:b5 u cL v bx
  bF:eN gU hL M u t m cL u aI aq
  Iw: ∀o,o≠id->cL o=M o
  self:cL id=M id\/cL id=some mid
theorem o2.new(K:ec M u t m)(az:rn M u t m id mid)(E:gU<=id)(I:hL<=mid){cs lC:List Value}(ar:bo u M cs lC){v bx:Value}(ad:b5 u (hi M id mid) v bx):
    ∃cL,o2 gU hL id mid M u t m (t.a0 id (some ⟨cs,true⟩)) (m.a0 mid (some ⟨lC,true⟩)) v bx cL:=
  ⟨hi M id mid,NP K az ar,ad,agJ az E I,λo aE=>by simp[hi,aE],.inr (by simp[hi])⟩
theorem o2.EA(K:ec M u t m){v bx:Value}(ad:b5 u M v bx): ∃cL,o2 gU hL id mid M u t m t m v bx cL:=⟨M,K,ad,eN.refl,λ_ _=>rfl,.inl rfl⟩
theorem agP(K:ec M u t m)(bI:g4 u M A ak){k:ag}(ar:k.ke=false)(aE:xd k=true)(au:k.iw A t=true)(az:k.e3=true->rn M u t m id mid)(E:gU<=id)(I:hL<=mid):
    k.ok ak m=true/\ ∃cL,o2 gU hL id mid M u t m (k.mo id A t) (k.gG mid ak m) (k.iJ id A t) (k.val mid ak m) cL:=by
  by_cases bd:k.UC=true
  · obtain⟨a,b⟩:=aBU K bI bd aE au id mid;obtain⟨aJ,aU⟩:=aBT (A:=A) (ak:=ak) (t:=t) (m:=m) bd (id:=id) (jg:=mid);refine⟨a,?_⟩;rw[aJ,aU];exact o2.EA K b
  · simp only[xd,a1]at aE;obtain⟨aA,bK⟩:=aE;have wL:hi M id mid id=some mid:=(by simp[hi]);cases k with
    |c9 J=>exact⟨rfl,o2.new K (az rfl) E I (bo.cH bK) (.cw wL)⟩
    | mz x=>simp[ag.hh]at aA;exact⟨(bI.Z aA).U au,o2.new K (az rfl) E I (bI.Z aA).O (.cw wL)⟩
    | gM a n J ps=>have nw: ∀p∈ps,cX p.2.2=true:= λp ab=>eQ.1 aA _ (by simp only[ag.hh];exact List.mem_map_of_mem ab);exact⟨agZ bI rfl nw au,o2.new K (az rfl) E I (Uu bI (bo.cH bK) nw) (.slice wL)⟩
    | nX x=>simp[ag.hh]at aA;simp only[ag.iw,ag.ok,a1]at au;have e:=AX (bI.Z aA) au.1;simp only[ag.ok,ag.iJ,ag.val,ag.mo,ag.gG,e,a1];exact⟨au,o2.new K (az rfl) E I (aBg _) (.slice wL)⟩
    | kN J bytes zero l c=>simp[ag.hh]at aA;have Gg:=au;simp only[ag.iw,ag.ok,a1]at au;have aJ:=qa (bI.Z aA.1) au.1.1.1.1.1.1;have aU:=qa (bI.Z aA.2) au.1.1.1.1.1.2;simp only[ag.ok,ag.iJ,ag.val,ag.mo,ag.gG,aJ,aU,a1];exact⟨au,o2.new K (az rfl) E I (bo.flatten (bo.cH bK)) (.slice wL)⟩
    | np J bytes zero x n=>simp[ag.hh]at aA;simp only[ag.iw,ag.ok,a1]at au;have aJ:=qa (bI.Z aA.2) au.1.1.1.1.2;have G:=bI.Z aA.1;have hV:=Nl au.1.1.1.1.1;rw[hV]at G;have aU:=(G.h7 rfl).trans hV.symm;simp only[ag.ok,ag.iJ,ag.val,ag.mo,ag.gG,aJ,aU,a1];exact⟨au,o2.new K (az rfl) E I (bo.flatten (bo.cH bK)) (.slice wL)⟩
    | hv zero x=>
      simp[ag.hh]at aA;have G:=bI.Z aA;simp only[ag.iw,ag.ok,a1,e2]at au;obtain⟨⟨aK,bb⟩,c0⟩:=au;have ny:h8 (Z A x)=false:=by cases fM:Z A x<;>simp[fM,fS]at aK<;>rfl
      have x7:=I5 K G (J:=zero.length) (by rw[kQ,ny];exact aK);have wB:=ahP K G bb;simp only[ag.ok,ag.iJ,ag.val,ag.mo,ag.gG,a1,e2];refine⟨⟨⟨x7,wB⟩,c0⟩,?_⟩;cases fM:Z A x with
      | slice p l c=>
        rw[fM]at G aK bb;cases p with
        | none=>have hV:=G.h7 (by simpa[fS,dZ]using aK);rw[hV];exact o2.EA K b5.undef
        | some ef=>
          obtain⟨xU,Ce,JR⟩:=ef;cases aP:t.X xU with
          |none=>simp[fS,aP]at aK
          | some y=>
            have jt:y.own=true:=(by simpa[kj,aP]using bb);have lJ:mS t zero (.slice (some ⟨xU,Ce,JR⟩) l c)=t.a0 xU (some ⟨gL y.cells Ce (List.replicate l zero).flatten,y.own⟩):=(by simp only[mS,aP]);rcases G.m1 with⟨b,aJ,aU,cu⟩|⟨aJ,aU,cu,gO⟩
            · simp only at aJ aU cu;subst aU;obtain⟨cs,w,a8,bE,b7⟩:=K.qC aJ aP;have a3:=bE jt;subst a3;rw[lJ,cu];simp only[mS,a8,jt];refine⟨M,?_,b5.undef,OT K aJ aP jt,λ_ _=>rfl,.inl rfl⟩;exact aik K aJ aP jt a8 (by
                have: ∀(cz:List Value) (cs:List Value) (o:Nat),(gL cs o cz).length=cs.length:=by
                  intro cz;induction cz with
                  |nil=>intro cs o;rfl
                  |cons v cz cx=>intro cs o;simp only[gL,cx,List.length_set]
                exact this _ _ _) (b7.gL _ (bo.flatten (bo.cH bK))) rfl
            · simp only at aJ aU cu;subst cu;have lD:t.a0 xU (some ⟨gL y.cells Ce (List.replicate 0 zero).flatten,y.own⟩)=t:=ahf aP;rw[lJ,lD,gO];exact o2.EA K b5.undef
      |_=>simp[fM,fS]at aK
    | m6=>have:=az rfl;exact⟨rfl,hi M id mid,aAX K this ⟨rfl,λi e et a=>by simp at a⟩,.map wL,aAW this E I,λo aE=>by simp[hi,aE],.inr wL⟩
    | store n x v=>
      simp[ag.hh]at aA;have G:=bI.Z aA.1;have ad:=bI.Z aA.2;simp only[ag.iw,ag.ok,a1,e2]at au;obtain⟨⟨⟨aK,bb⟩,c0⟩,ea⟩:=au;have ny:mH (Z A x)=false:=by cases fM:Z A x<;>simp[fM,gD]at aK<;>rfl
      have x7:=Ff K G (n:=n) (by rw[pS,ny];exact aK);simp only[ag.ok,ag.iJ,ag.val,ag.mo,ag.gG,a1,e2];cases fM:Z A x with
      | pointer p=>
        cases p with
        |none=>simp[fM,gD]at aK
        | some a=>
          rw[fM]at G aK bb;obtain⟨b,aJ,aU,cu⟩:=G.p9;obtain⟨xU,Ce,JR⟩:=a;simp only at aJ aU cu;subst aU;cases aP:t.X xU with
          |none=>simp[aP]at aK
          | some y=>
            simp only[ajC,aP,e2]at aK;simp only[WY,aP]at bb;obtain⟨cs,w,a8,bE,b7⟩:=K.qC aJ aP;have a3:=bE bb;subst a3;rw[cu]at x7⊢;simp only[aEb,aP,a8,WY,bb];refine⟨⟨⟨⟨x7,trivial⟩,ad.U c0⟩,by rw[<-ad.O.1];exact ea⟩,M,?_,b5.undef,OT K aJ aP bb,λ_ _=>rfl,.inl rfl⟩;exact aik K aJ aP bb a8 (by
              have: ∀(cz:List Value) (cs:List Value) (o:Nat),(gL cs o cz).length=cs.length:=by
                intro cz;induction cz with
                |nil=>intro cs o;rfl
                |cons v cz cx=>intro cs o;simp only[gL,cx,List.length_set]
              exact this _ _ _) (b7.gL _ ad.O) rfl
      |_=>simp[fM,gD]at aK
    | app J bytes x y=>
      simp[ag.hh]at aA;have G:=bI.Z aA.1;have af:=bI.Z aA.2;simp only[ag.iw,a1,e2]at au;obtain⟨⟨⟨⟨⟨aK,bb⟩,c0⟩,ea⟩,e9⟩,fo⟩:=au;have ny:h8 (Z A x)=false:=by cases fM:Z A x<;>simp[fM,fS]at aK<;>rfl
      have Yu:kQ t J (Z A x)=true:=(by rw[kQ,ny];exact aK);have x7:=I5 K G Yu;have wB:=ahP K G bb;have alm:=I5 K af c0;have P4:=OH af;have P3:gI (Z A x)=gI (Z ak x):=(by rw[<-OH G,kz,ny];rfl);have qG:bo u M (gj t J (Z A x)) (gj m J (Z ak x)):=(by have:=Ka K G Yu;rw[lh,ny]at this;exact this);have zR:=Ka K af c0;simp only[ag.ok,ag.iJ,ag.val,ag.mo,ag.gG,a1,e2];refine⟨⟨⟨⟨⟨⟨x7,wB⟩,alm⟩,ea⟩,by rw[<-P3,<-P4];exact e9⟩,by rw[<-P3,<-P4];exact fo⟩,?_⟩;rw[<-P4,<-P3];split
      · exact o2.EA K G
      · have pf:=az rfl;have key: ∃bD bk,kL t (Z A x)=bD/\kL m (Z ak x)=bk/\ec M u bD bk/\eN gU hL M u t m M u bD bk/\bD.next=t.next/\bk.next=m.next:=by
          refine⟨_,_,rfl,rfl,?_⟩;unfold fS at aK;split at aK
          · next fM=>rw[fM]at G⊢;have:Z ak x=_:=G.h7 (by simpa[dZ]using aK);rw[this];exact⟨K,eN.refl,rfl,rfl⟩
          · next a l c fM=>
            rw[fM]at G bb⊢;rcases G.m1 with⟨b,aJ,aU,cu⟩|⟨aJ,aU,cu,gO⟩
            · rw[cu];cases aP:t.X a.block with
              |none=>simp[kj,aP]at bb
              | some y=>simp only[kj,aP]at bb;exact⟨af8 K aJ aP bb,OT K aJ aP bb,rfl,rfl⟩
            · rw[gO];exact⟨X4 K,X3,rfl,rfl⟩
          · cases aK
        obtain⟨bD,bk,aJ,aU,wK,QV,akY,akZ⟩:=key;rw[aJ,aU];have amo:rn M u bD bk id mid:=⟨pf.e,pf.b,pf.f,by rw[akY];exact pf.sX,by rw[akZ];exact pf.q1⟩;obtain⟨cL,q⟩:=o2.new (gU:=gU) (hL:=hL) wK amo E I (qG.o6 zR) (v:= .slice (some ⟨id,0,none⟩) (gI (Z A x)+kz (Z A y)) J) (bx:= .slice (some ⟨mid,0,none⟩) (gI (Z A x)+kz (Z A y)) J) (.slice wL);exact⟨cL,q.VR,q.val,QV.trans q.bF,q.Iw,q.self⟩
    | l3 a9 x fN v=>
      simp[ag.hh]at aA;have G:=bI.Z aA.1;have aa:=bI.Z aA.2.1;have ad:=bI.Z aA.2.2;simp only[ag.iw,ag.ok]at au;split at au
      · next b fM=>
        cases ax:t.eS b with
        |none=>simp[ax]at au
        | some bc=>
          simp only[ax,a1]at au;obtain⟨c,de,a8,bE,b7⟩:=K.maps b bc ax;rw[fM]at G;obtain⟨km,eH,gi⟩:=G.Gz;rw[a8]at eH;cases eH;obtain⟨fs,g7,jl⟩:=af7 b7 aa au.1;simp only[ag.ok,ag.iJ,ag.val,ag.mo,ag.gG,fM,gi,vt,ax,bE,zG,a1];refine⟨⟨fs,ad.S au.2⟩,M,?_,b5.undef,?_,λ_ _=>rfl,.inl rfl⟩
          · rw[g7];have yh:b5 u M (Z A fN) (Z A fN):=(by rw[g7]at aa;exact aa);have amj:=agD yh ad b7 jl;have ev:=K.cV b c a8;refine⟨λp y af=> ?_,λp fG ab=> ?_,λp ab=> ?_,K.inj,K.cV,λd ds aD=> ?_⟩
            · by_cases Ao:p=b
              · subst Ao;rw[FT ev.1]at af;cases af;exact .inl ⟨c,[],true,a8,FT ev.2,λ_=>rfl,bo.nil⟩
              · rw[mW Ao]at af;rcases K.ij p y af with⟨km,ds,w,E,I,av,aH⟩|E
                · exact .inl ⟨km,ds,w,E,by rw[mW (K.sO E a8 Ao),I],av,aH⟩
                · exact .inr E
            · by_cases Ao:p=b
              · subst Ao;rw[FQ ev.1]at ab;cases ab;exact⟨c,_,a8,FQ ev.2,amj⟩
              · rw[FP Ao]at ab;obtain⟨km,de,E,I,av⟩:=K.maps p fG ab;exact⟨km,de,E,by rw[FP (K.sO E a8 Ao),I],av⟩
            · have cJ:p≠b:= λe=>by subst e;rw[a8]at ab;cases ab
              show(if p=b then _ else t.mp p)=none;rw[if_neg cJ];exact K.iD p ab
            · obtain⟨⟨c3,aK⟩,bb⟩:=K.bF d ds aD;have aP:=(iz ax).1;have YQ:d≠c:= λe=>by subst e;have:=bb b _ a8 aP;cases this
              refine⟨⟨c3,by rw[mW YQ,aK]⟩,λp y ab af=> ?_⟩;have:p≠b:= λe=>by subst e;rw[a8]at ab;cases ab;exact YQ rfl
              rw[mW this]at af;exact bb p y ab af
          · have aP:=(iz ax).1;refine⟨fY.refl _,hp.refl _,λ_ _ h=> .inl h,λ_ _ h=> .inl h,ey _,ey _,λd aD a3=> ?_,λd aD=> λ⟨p,bt,h,bS,rC⟩=> ?_,λd aD=> λ⟨p,bt,h,bS⟩=> ?_⟩
            · exact mW (λe=>a3 (by subst e;exact⟨b,_,a8,aP,rfl⟩))
            · by_cases ab:p=b
              · subst ab;rw[a8]at h;cases h;exact⟨p,_,a8,aP,rfl⟩
              · rw[mW ab]at bS;exact⟨p,bt,h,bS,rC⟩
            · by_cases ab:p=b
              · subst ab;rw[a8]at h;cases h;exact⟨p,_,a8,aP⟩
              · rw[mW ab]at bS;exact⟨p,bt,h,bS⟩
      · cases au
    |dY=>cases ar
    |iN=>cases ar
    |iR=>cases ar
    |_=>exact absurd rfl bd
theorem XN(K:ec M u t m)(bI:g4 u M A ak){a9:List (Operand×Operand)}(aA:a9.all (λp=>cX p.1&&cX p.2)=true)(h:iO A t a9=true):pV ak a9=true:=by
  simp only[pV,iO,eQ]at h aA⊢;intro p ab;have E:=h p ab;have I:=aA p ab;obtain⟨x,y⟩:=p;simp only[a1]at I;simp only at E⊢;have G:=bI.Z I.1;have af:=bI.Z I.2;generalize Z A x=a at G E;generalize Z ak x=dG at G;generalize Z A y=b at af E;generalize Z ak y=cd at af;have af4: ∀{a dG:Value},b5 u M a dG->kf a=true-> ∀c,N dG=some c-> ∃cs,u c=some cs:= λaA af c ar=>by
    cases aA with
    |cH h=>have:=(sH h).2.2;rw[this]at af;cases af
    |iu e dx=>simp[N]at ar;subst ar;exact⟨_,dx⟩
    |hR=>simp[N]at ar
    |ek e dx=>simp[N]at ar;subst ar;exact⟨_,dx⟩
    |_=>simp[kf]at af
  have Ns: ∀{a dG:Value},b5 u M a dG->kf a=false-> ∀c,N dG=some c-> ∃o,N a=some o/\M o=some c:= λaA af c ar=>by
    cases aA with
    | cH h=>rename_i a;unfold N at ar;split at ar<;>simp[dZ]at h ar
    |cw bZ=>simp[N]at ar;subst ar;exact⟨_,rfl,bZ⟩
    |slice bZ=>simp[N]at ar;subst ar;exact⟨_,rfl,bZ⟩
    |map bZ=>simp[N]at ar;subst ar;exact⟨_,rfl,bZ⟩
    |iu e=>subst e;simp at af
    |hR e=>subst e;simp at af
    |ek e=>subst e;simp at af
    |_=>simp[N]at ar
  have af3: ∀{c:Nat} {cs:List Value} {b:Value} {o:Nat},u c=some cs->N b=some o->Fm t b=true->M o=some c->False:= λ{c cs b o} dx hb aE bZ=>by
    simp only[Fm,hb,ui]at aE;cases aP:t.X o with
    |none=>simp[aP]at aE
    | some x=>simp only[aP]at aE;have:=(K.bF c cs dx).2 o x bZ aP;rw[aE]at this;cases this
  cases nw:N dG with
  |none=>rfl
  | some c=>
    cases fH:N cd with
    |none=>rfl
    | some d=>
      simp only;unfold JQ at E;split at E
      · next O9=>simp only[a1,uE]at E;obtain⟨cs,dj⟩:=af4 G O9 c nw;obtain⟨o,dw,h6⟩:=Ns af E.1 d fH;simp only[bne_iff_ne,ne_eq];intro e;subst e;exact af3 dj dw E.2 h6
      · next O9=>
        split at E
        · next zy=>obtain⟨cs,dj⟩:=af4 af zy d fH;obtain⟨o,dw,h6⟩:=Ns G (by simpa using O9) c nw;simp only[bne_iff_ne,ne_eq];intro e;subst e;exact af3 dj dw E h6
        · next zy=>obtain⟨o,dw,h6⟩:=Ns G (by simpa using O9) c nw;obtain⟨o',zW,ak3⟩:=Ns af (by simpa using zy) d fH;rw[dw,zW]at E;simp only[bne_iff_ne,ne_eq]at E⊢;intro e;subst e;exact E (K.inj o o' c h6 ak3)
end
end Go.DI
