/- A part of the proof. -/
import Derived.Test.YtmmkkggfmigppaaGreatZdh
set_option linter.all false
set_option maxRecDepth 20000
set_option maxHeartbeats 16000000
namespace Go.DI
open Go Go.RowKit
def mS(r:List Value):Value:= .agg r.toArray
def w9:Value->List Value| .agg a=>a.toList|_=>[]
def O(cb:List (List Value))(z:Nat):Value:= .func (.yield 0) (cb.map mS).toArray #[.int .i64 z]
def BX(a2:List Value)(k:Nat):Value:= .func (.yield 1) a2.toArray #[.int .i64 k]
def hj:List Value->Nat|[.int _ n]=>n.toNat|_=>0
def DK:Value->Bool| .func (.yield n) _ _=>n==0|_=>false
def Gp:Value->Bool| .func (.yield n) _ _=>n==1|_=>false
def F4:Value->Bool| .func (.yield _) _ _=>true|_=>false
def PT:Value->List (List Value)| .func _ a _=>a.toList.map w9|_=>[]
def LI:Value->Nat| .func _ _ a=>hj a.toList|_=>0
def T8:Value->List Value| .func _ a _=>a.toList|_=>[]
section
variable {cb E:List (List Value)} {z B k fv:Nat} {a2 P:List Value}
@[simp] theorem aH0:w9 (mS a2)=a2:=rfl
@[simp] theorem XC:DK (O cb z)=true:=rfl
@[simp] theorem aKT:DK (BX a2 k)=false:=rfl
@[simp] theorem aKu:Gp (O cb z)=false:=rfl
@[simp] theorem a7O:Gp (BX a2 k)=true:=rfl
@[simp] theorem aEw:F4 (O cb z)=true:=rfl
@[simp] theorem aGq:F4 (BX a2 k)=true:=rfl
@[simp] theorem XR:PT (O cb z)=cb:=by simp[PT,O,Function.comp_def]
@[simp] theorem aIX:LI (O cb z)=z:=by simp[LI,O,hj]
@[simp] theorem vA:T8 (BX a2 k)=a2:=rfl
@[simp] theorem sl:LI (BX a2 k)=k:=by simp[LI,BX,hj]
@[simp] theorem qM:O cb z=O E B↔cb=E/\z=B:=
  ⟨λh=>⟨by have:=congrArg PT h;simpa using this,by have:=congrArg LI h;simpa using this⟩,λ⟨a,b⟩=>by rw[a,b]⟩
@[simp] theorem aH3:BX a2 k=BX P fv↔a2=P/\k=fv:=
  ⟨λh=>⟨by have:=congrArg T8 h;simpa using this,by have:=congrArg LI h;simpa using this⟩,λ⟨a,b⟩=>by rw[a,b]⟩
end
abbrev Be:=Nat->Option Nat
abbrev C0:=Nat->Option (List Value)
abbrev Ea:Be:= λ_=>none
inductive AY(u:C0):Be->Value->Value->Prop
 |BP {K:Be} {v:Value} (h:BJ v=true):AY u K v v
 |AG {K:Be} {o b off:Nat} (h:K o=some b):AY u K (.pointer (some ⟨o,off,none⟩)) (.pointer (some ⟨b,off,none⟩))
 |slice {K:Be} {o b off l z:Nat} {a:Option Nat} (h:K o=some b):AY u K (.slice (some ⟨o,off,a⟩) l z) (.slice (some ⟨b,off,a⟩) l z)
 |Pg {K:Be} {o z:Nat} {a:Option Nat} (c:a=none\/a=some 0):AY u K (.slice (some ⟨o,0,a⟩) 0 z) (.slice none 0 0)
 |map {K:Be} {o b:Nat} (h:K o=some b):AY u K (.map (some o)) (.map (some b))
 |agg {K:Be} {xs ys:Array Value} (c:xs.size=ys.size) (h: ∀(i:Nat) (x y:Value),xs[i]?=some x->ys[i]?=some y->AY u K x y):AY u K (.agg xs) (.agg ys)
 |tuple {K:Be} {xs ys:Array Value} (c:xs.size=ys.size) (h: ∀(i:Nat) (x y:Value),xs[i]?=some x->ys[i]?=some y->AY u K x y):AY u K (.tuple xs) (.tuple ys)
 | func {K:Be} {f:Nat} {xs ys cs ds:Array Value} (c:xs.size=ys.size) (h: ∀(i:Nat) (x y:Value),xs[i]?=some x->ys[i]?=some y->AY u K x y)
  (n:cs.size=ds.size) (p: ∀(i:Nat) (x y:Value),cs[i]?=some x->ds[i]?=some y->AY u K x y):AY u K (.func (.func f) xs cs) (.func (.func f) ys ds)
 |iface {K:Be} {t:TypeId} {v ca:Value} (h:AY u K v ca):AY u K (.iface t v) (.iface t ca)
 | QI {K:Be} {v:Value} {b off z:Nat} {cs:List Value} {cb:List (List Value)} (e:v=O cb z) (d:u b=some cs) (g:off+cb.length*z<=cs.length)
  (q: ∀(i:Nat) r,cb[i]?=some r->r.length=z) (m: ∀(i j:Nat) r x y,cb[i]?=some r->r[j]?=some x->cs[off+i*z+j]?=some y->AY u Ea x y):AY u K v (.slice (some ⟨b,off,none⟩) cb.length z)
 |OW {K:Be} {v:Value} {z:Nat} (e:v=O [] z):AY u K v (.slice none 0 0)
 | BX {K:Be} {v:Value} {b off k:Nat} {cs a2:List Value} (e:v=BX a2 k) (d:u b=some cs) (g:off+a2.length<=cs.length)
  (m: ∀(j:Nat) x y,a2[j]?=some x->cs[off+j]?=some y->AY u Ea x y):AY u K v (.pointer (some ⟨b,off+k,none⟩))
def CA(K s:Be):Prop:= ∀o b,K o=some b->s o=some b
def Ce(u C:C0):Prop:= ∀b cs,u b=some cs->C b=some cs
theorem CA.refl(K:Be):CA K K:= λ_ _ h=>h
theorem CA.trans{a b c:Be}(h:CA a b)(d:CA b c):CA a c:= λx l e=>d x l (h x l e)
theorem CA.nil(K:Be):CA Ea K:= λ_ _ h=>by cases h
theorem Ce.refl(u:C0):Ce u u:= λ_ _ h=>h
theorem Ce.trans{a b c:C0}(h:Ce a b)(d:Ce b c):Ce a c:= λx l e=>d x l (h x l e)
theorem AY.AD{u C:C0}{K s:Be}{v ca:Value}(h:AY u K v ca)(m:Ce u C)(f:CA K s):AY C s v ca:=by
 induction h generalizing s with
 |BP h=>exact .BP h
 |AG h=>exact .AG (f _ _ h)
 |slice h=>exact .slice (f _ _ h)
 |Pg g=>exact .Pg g
 |map h=>exact .map (f _ _ h)
 |agg g _ d=>exact .agg g λi x y a b=>d i x y a b f
 |tuple g _ d=>exact .tuple g λi x y a b=>d i x y a b f
 |func g _ n _ d o=>exact .func g (λi x y a b=>d i x y a b f) n λi x y a b=>o i x y a b f
 |iface _ d=>exact .iface (d f)
 |QI e k l p q d=>exact .QI e (m _ _ k) l p λi j r x y a b c=>d i j r x y a b c (CA.refl _)
 |OW e=>exact .OW e
 |BX e k l q d=>exact .BX e (m _ _ k) l λj x y a b=>d j x y a b (CA.refl _)
def AJ(u:C0)(K:Be)(xs ys:List Value):Prop:=xs.length=ys.length/\ ∀(i:Nat) (x y:Value),xs[i]?=some x->ys[i]?=some y->AY u K x y
variable {u C:C0} {K s:Be}
theorem AJ.nil:AJ u K [] []:=⟨rfl,by intro i x y h;simp at h⟩
theorem AJ.cons{x y:Value}{xs ys:List Value}(h:AY u K x y)(d:AJ u K xs ys):AJ u K (x::xs) (y::ys):=by
 refine⟨by simp[d.1],λi a b c hb=> ?_⟩;cases i with
 |zero=>simp at c hb;subst c;subst hb;exact h
 |succ i=>exact d.2 i a b (by simpa using c) (by simpa using hb)
variable{ys a b cs:List Value}{x y k G L:Value}{i z f o h7 iQ n:Nat}{N:Type}{xs:Array Value}{q es:List (Value×Value)}{l:List Operand}{bx:GU}{ps:List (Nat×Nat×Operand)}{c:Nr}{op:BinOp}
theorem AJ.AD{xs:List Value}(h:AJ u K xs ys)(a:Ce u C)(b:CA K s):AJ C s xs ys:=⟨h.1,λi x y c d=>(h.2 i x y c d).AD a b⟩
theorem AJ.agg{xs:List Value}(h:AJ u K xs ys):AY u K (.agg xs.toArray) (.agg ys.toArray):= .agg (by simpa using h.1) (by simpa using h.2)
theorem AJ.tuple{xs:List Value}(h:AJ u K xs ys):AY u K (.tuple xs.toArray) (.tuple ys.toArray):= .tuple (by simpa using h.1) (by simpa using h.2)
theorem AJ.JU{c d:List Value}(h:AJ u K a b)(j:AJ u K c d):AJ u K (a++c) (b++d):=by
 refine⟨by simp[h.1,j.1],λi x y f e=> ?_⟩;rw[Mk]at f e;rw[<-h.1]at e;split at f
 ·rename_i g;rw[if_pos g]at e;exact h.2 _ _ _ f e
 ·rename_i g;rw[if_neg g]at e;exact j.2 _ _ _ f e
theorem AJ.drop(h:AJ u K a b)(n:Nat):AJ u K (a.drop n) (b.drop n):=
 ⟨by simp[h.1],λi x y c d=>h.2 (n+i) x y (by simpa using c) (by simpa using d)⟩
theorem AJ.take(h:AJ u K a b)(n:Nat):AJ u K (a.take n) (b.take n):=by
 refine⟨by simp[h.1],λi x y c d=> ?_⟩;rw[PU]at c d;split at c
 ·rename_i e;rw[if_pos e]at d;exact h.2 _ _ _ c d
 ·cases c
theorem AJ.set(h:AJ u K a b)(n:Nat)(f:AY u K x y):AJ u K (a.set n x) (b.set n y):=by
 refine⟨by simp[h.1],λi g v d c=> ?_⟩;rw[Ih]at d c;rw[<-h.1]at c;split at d
 ·simp_all
 ·rename_i e;rw[if_neg e]at c;exact h.2 _ _ _ d c
theorem AJ.CV: ∀{d e:List Value} {a b:List Value} (off:Nat),AJ u K a b->AJ u K d e->AJ u K (CV a off d) (CV b off e)
 |[],[],_,_,_,h,_=>h
 |[],f::e,_,_,_,_,c=>by simp[AJ]at c
 |v::d,[],_,_,_,_,c=>by simp[AJ]at c
 | v::d,f::e,a,b,off,h,c=>by simp only[Go.DI.CV];exact AJ.CV (off+1) (h.set off (c.2 0 v f rfl rfl)) ⟨by simpa using c.1,λi x y g j=>c.2 (i+1) x y (by simpa using g) (by simpa using j)⟩
theorem AJ.Y(h:AJ u K a b)(d:a[i]?=some x): ∃y,b[i]?=some y/\AY u K x y:=by have c:i<a.length:=(Ae.1 d).1;rw[h.1]at c;exact⟨b[i],AP c,h.2 i x _ d (AP c)⟩
theorem AJ.SI(f g:N->Value): ∀(l:List N),(∀x∈l,AY u K (f x) (g x))->AJ u K (l.map f) (l.map g)
 |[],_=>AJ.nil
 |x::l,h=>AJ.cons (h x (by simp)) (AJ.SI f g l λy a=>h y (by simp[a]))
theorem AJ.BP(h:cs.all BJ=true):AJ u K cs cs:=by refine⟨rfl,λi x y a b=> ?_⟩;rw[a]at b;cases b;exact .BP (BR.1 h x (B5 a))
theorem AJ.flatten{k:Nat}(h:AJ u K cs cs):AJ u K (List.replicate k cs).flatten (List.replicate k cs).flatten:=by
 induction k with
 |zero=>exact AJ.nil
 |succ k a=>rw[QY,I2];exact h.JU a
theorem AY.G4{v:Value}(h:G4 v=true):AY u K v v:=by
 unfold Go.DI.G4 at h;split at h
 ·rename_i cs;have:=AJ.agg (u:=u) (K:=K) (AJ.BP h);simpa using this
 ·rename_i cs;have:=AJ.tuple (u:=u) (K:=K) (AJ.BP h);simpa using this
 ·exact .BP h
theorem AY.undef:AY u K undef undef:=AJ.tuple AJ.nil
theorem AY.DF{v ca:Value}(h:AY u K v ca)(a:BJ v=true):ca=v:=by
 cases h with
 |BP=>rfl
 |QI e=>subst e;simp[BJ,O]at a
 |OW e=>subst e;simp[BJ,O]at a
 |BX e=>subst e;simp[BJ,DI.BX]at a
 |_=>simp[BJ]at a
theorem AY.Hp{k:IntKind}{n:Int}{v:Value}(h:AY u K (.int k n) v):v= .int k n:=h.DF rfl
theorem AY.Jk{b:Bool}{v:Value}(h:AY u K (.bool b) v):v= .bool b:=h.DF rfl
theorem AY.O5{b:ByteArray}{v:Value}(h:AY u K (.string b) v):v= .string b:=h.DF rfl
theorem AY.JW{a:Addr}{v:Value}(h:AY u K (.pointer (some a)) v): ∃b,K a.block=some b/\a.spot=none/\v= .pointer (some ⟨b,a.off,none⟩):=by
 cases h with
 |BP h=>simp[BJ]at h
 |AG h=>exact⟨_,h,rfl,rfl⟩
 |QI e=>simp[O]at e
 |OW e=>simp[O]at e
 |BX e=>simp[DI.BX]at e
theorem AY.Fl{a:Addr}{l:Nat}{v:Value}(h:AY u K (.slice (some a) l z) v):(∃b,K a.block=some b/\True/\v= .slice (some ⟨b,a.off,a.spot⟩) l z)\/(a.off=0/\(a.spot=none\/a.spot=some 0)/\l=0/\v= .slice none 0 0):=by
 cases h with
 |BP h=>simp[BJ]at h
 |slice h=>exact .inl ⟨_,h,trivial,rfl⟩
 |Pg c=>exact .inr ⟨rfl,c,rfl,rfl⟩
 |QI e=>simp[O]at e
 |OW e=>simp[O]at e
 |BX e=>simp[DI.BX]at e
theorem AY.Ka{v:Value}(h:AY u K (.agg xs) v): ∃ys,v= .agg ys/\AJ u K xs.toList ys.toList:=by
 cases h with
 |BP h=>simp[BJ]at h
 |agg a h=>exact⟨_,rfl,by simpa using a,by simpa using h⟩
 |QI e=>simp[O]at e
 |OW e=>simp[O]at e
 |BX e=>simp[DI.BX]at e
theorem AY.Q9{v:Value}(h:AY u K (.tuple xs) v): ∃ys,v= .tuple ys/\AJ u K xs.toList ys.toList:=by
 cases h with
 |BP h=>simp[BJ]at h
 |tuple a h=>exact⟨_,rfl,by simpa using a,by simpa using h⟩
 |QI e=>simp[O]at e
 |OW e=>simp[O]at e
 |BX e=>simp[DI.BX]at e
theorem AY.Py{cs:Array Value}{v:Value}(h:AY u K (.func (.func f) xs cs) v): ∃ys ds,v= .func (.func f) ys ds/\AJ u K xs.toList ys.toList/\AJ u K cs.toList ds.toList:=by
 cases h with
 |BP h=>simp[BJ]at h
 |func a h b c=>exact⟨_,_,rfl,⟨by simpa using a,by simpa using h⟩,by simpa using b,by simpa using c⟩
 |QI e=>simp[O]at e
 |OW e=>simp[O]at e
 |BX e=>simp[DI.BX]at e
theorem AY.UA{t:TypeId}{v:Value}(h:AY u K (.iface t x) v): ∃y,v= .iface t y/\AY u K x y:=by
 cases h with
 |BP h=>simp[BJ]at h
 |iface h=>exact⟨_,rfl,h⟩
 |QI e=>simp[O]at e
 |OW e=>simp[O]at e
 |BX e=>simp[DI.BX]at e
theorem AY.Te{v:Value}(h:AY u K (.map (some o)) v): ∃b,K o=some b/\v= .map (some b):=by
 cases h with
 |BP h=>simp[BJ]at h
 |map h=>exact⟨_,h,rfl⟩
 |QI e=>simp[O]at e
 |OW e=>simp[O]at e
 |BX e=>simp[DI.BX]at e
theorem AY.ta{x v:Value}(h:AY u K x v)(a:Gp x=true): ∃a2 k b off cs,x=DI.BX a2 k/\v= .pointer (some ⟨b,off+k,none⟩)/\u b=some cs/\off+a2.length<=cs.length/\
 (∀(j:Nat) x y,a2[j]?=some x->cs[off+j]?=some y->AY u Ea x y):=by
 cases h with
 |BP h=>cases x<;>simp_all [BJ,Gp]
 |BX e c d f=>exact⟨_,_,_,_,_,e,rfl,c,d,f⟩
 |QI e=>subst e;simp at a
 |OW e=>subst e;simp at a
 |_=>simp[Gp]at a
theorem AY.H{v ca:Value}(h:AY u K v ca):AJ u K (H v) (H ca):=by
 cases h with
 |agg f h=>exact⟨by simpa[DI.H]using f,by simpa[DI.H]using h⟩
 |BP h=>cases v<;>simp[BJ]at h<;>exact AJ.cons (.BP (by simp[BJ,h])) AJ.nil
 |AG h=>exact AJ.cons (.AG h) AJ.nil
 |slice h=>exact AJ.cons (.slice h) AJ.nil
 |Pg f=>exact AJ.cons (.Pg f) AJ.nil
 |tuple f h=>exact AJ.cons (.tuple f h) AJ.nil
 |func f h g i=>exact AJ.cons (.func f h g i) AJ.nil
 |iface h=>exact AJ.cons (.iface h) AJ.nil
 |map h=>exact AJ.cons (.map h) AJ.nil
 |QI e a b c d=>subst e;exact AJ.cons (.QI rfl a b c d) AJ.nil
 |OW e=>subst e;exact AJ.cons (.OW rfl) AJ.nil
 |BX e a b c=>subst e;exact AJ.cons (.BX rfl a b c) AJ.nil
theorem AY.D{v ca:Value}(h:AY u K v ca)(a:D v=true):D ca=true:=by cases h<;>first|rfl|assumption|(simp[DI.D]at a)
theorem AY.F{v ca:Value}(h:AY u K v ca)(a:F v=true):F ca=true:=by cases h<;>first|rfl|assumption|(simp[DI.F]at a)
def JP(m:X)(v:Value)(n:Nat):Bool:=if Gp v then decide (LI v+n<=(T8 v).length)else Bj m v n
def Nq(m:X)(a:Bool)(n:Nat)(v:Value):Value:=
 if Gp v then(if a then .agg (((T8 v).drop (LI v)).take n).toArray else(((T8 v).drop (LI v)).take 1).headD undef)else Co m a n v
def Ix(v:Value):Bool:=Gp v||JG v
def N6(v:Value)(n:Nat):Value:=if Gp v then BX (T8 v) (LI v+n)else MS v n
def P1(v:Value):Bool:=DK v||KP v
def F6(v:Value):Int:=if DK v then((PT v).length:Nat)else DS v
def ED(v:Value):Nat:=if DK v then(PT v).length else CO v
def Er(z:Nat)(v:Value):Bool:=if DK v then LI v==z else G9 z v
def KJ(v:Value)(z l h:Nat):Value:=if DK v then O (((PT v).take h).drop l) z else Io v z l h
def Nj(v:Value)(z:Nat)(i:Int):Value:=if DK v then BX ((PT v).getD i.toNat []) 0 else PE v z i
def Fb(m:X)(z:Nat)(v:Value):Bool:=if DK v then LI v==z else Br m z v
def FL(m:X)(z:Nat)(v:Value):List Value:=if DK v then(PT v).flatten else C5 m z v
def Ge(v:Value):Bool:= !F4 v&&(match v with| .slice (some _) l _=>l !=0|_=>true)
def M.Di(k:M)(A:A2)(m:X):Bool:=
 match k with
 | .EO e n x=>JP m (U A x) n&&(e||decide (n=1))
 | .Jf op c x y=>Ge (U A x)&&Ge (U A y)&&Kk op c (U A x) (U A y)
 | .Lr x=>Fb m 1 (U A x)&&(FL m 1 (U A x)).all R3
 | .OL z x a b=>Er z (U A x)&&Hx A a&&Hx A b&&decide (0<=Cm A a 0)&&decide (Cm A a 0<=Cm A b (F6 (U A x)))&&decide (Cm A b (F6 (U A x))<=F6 (U A x))&& !(a.isNone&&Kp b&&DK (U A x))
 | .S3 z x a b d=>Er z (U A x)&&Hx A a&&Bp (U A b)&&Bp (U A d)&&decide (0<=Cm A a 0)&&decide (Cm A a 0<=Bk (U A b))&&decide (Bk (U A b)<=Bk (U A d))&&decide (Bk (U A d)<=F6 (U A x))
 | .H0 _ x=>Ix (U A x)
 | .He z x i=>Er z (U A x)&&Bp (U A i)&&decide (0<=Bk (U A i))&&decide (Bk (U A i)<F6 (U A x))
 | .QX _ len x i=>Ix (U A x)&&Bp (U A i)&&decide (0<=Bk (U A i))&&decide (Bk (U A i)<(len:Int))
 | .NS x=>P1 (U A x)
 | .app z bytes x y=>Br m z (U A x)&&Dm m (U A x)&&Fb m z (U A y)&&decide (0<z)&&decide ((CO (U A x)+ED (U A y))*bytes<=140737488355328)&&decide (CO (U A x)+ED (U A y)<=9223372036854775807)
 | .Qv fn _ _=>(match fn with| .func _=>true|_=>false)
 |k=>k.ok A m
def M.EE(k:M)(id:Nat)(A:A2)(m:X):Value:=
 match k with
 | .EO c n x=>Nq m c n (U A x)
 | .Lr x=> .string (toBytes (FL m 1 (U A x)))
 | .OL z x a b=>if a.isNone&&Kp b then M5 (U A x)else KJ (U A x) z (Cm A a 0).toNat (Cm A b (F6 (U A x))).toNat
 | .S3 z x a b _=>KJ (U A x) z (Cm A a 0).toNat (Bk (U A b)).toNat
 | .H0 off x=>N6 (U A x) off
 | .He z x i=>Nj (U A x) z (Bk (U A i))
 | .QX z _ x i=>N6 (U A x) ((Bk (U A i)).toNat*z)
 | .NS x=> .int .i64 (F6 (U A x))
 | .app z _ x y=>if ED (U A y)=0 then U A x else if Dj m z (U A x) (ED (U A y))then Sj (U A x) (ED (U A y))else .slice (some ⟨id,0,none⟩) (CO (U A x)+ED (U A y)) z
 |k=>k.val id A m
def M.H8(k:M)(id:Nat)(A:A2)(m:X):X:=
 match k with
 | .app z _ x y=>if ED (U A y)=0 then m else if Dj m z (U A x) (ED (U A y))then Ga m z (U A x) (FL m z (U A y))else(EC m (U A x)).A1 id (some ⟨C5 m z (U A x)++FL m z (U A y),true⟩)
 |k=>k.Cj id A m
def P4(m:X)(o:Nat):Bool:=match m.Y o with|some x=>x.own|none=>false
def VQ(m:X)(v:Value):Bool:=match I v with|some o=>P4 m o|none=>true
def bF(m:X)(a b:Value):Bool:=
 if F4 a then !F4 b&&VQ m b else if F4 b then VQ m a else match I a,I b with
  |some a,some b=>a !=b
  |_,_=>true
def Dv(A:A2)(m:X)(bx:List (Operand×Operand)):Bool:=bx.all λ(x,y)=>bF m (U A x) (U A y)
def Ns(k:M):Bool:=k.D9.all Ay&&(match k with
 | .It z| .PC z _| .Hg _ _ z _| .IZ _ _ z _ _| .KZ _ _ z _ _| .Ca z _=>z.all BJ
 | .LS _ z _ _ _=>BJ z
 |_=>true)
def Wg(o:Av):Bool:=Ns o.k&&o.Gr.all λp=>Ay p.1&&Ay p.2
noncomputable def HI:CF->Bool
 | .FW ops=>ops.all Wg&&Mq (ops.map (·.AQ))&&ops.all λo=>decide (o.AQ<ops.length)
 | .El a b=>HI a&&HI b
 | .HP c a b=>Ay c&&HI a&&HI b
 | .block _ c=>HI c
 | .loop c=>HI c
 | .LN _ _ _=>false
 |_=>true
def J4(u:C0)(K:Be)(es q:List (Value×Value)):Prop:=es.length=q.length/\ ∀(i:Nat) e a,es[i]?=some e->q[i]?=some a->AY u K e.1 a.1/\AY u K e.2 a.2
theorem J4.AD{u C:C0}{K s:Be}(h:J4 u K es q)(c:Ce u C)(d:CA K s):J4 C s es q:=⟨h.1,λi e f a b=>⟨(h.2 i e f a b).1.AD c d,(h.2 i e f a b).2.AD c d⟩⟩
structure BN(K:Be)(u:C0)(t m:X):Prop where
 Ee: ∀o x,t.Y o=some x->(∃b cs w,K o=some b/\m.Y b=some ⟨cs,w⟩/\(x.own=true->w=true)/\AJ u K x.cells cs)\/(K o=none/\x.cells=[])
 maps: ∀o es,t.Bs o=some es-> ∃b q,K o=some b/\m.Bs b=some q/\J4 u K es q
 Ek: ∀o,K o=none->t.mp o=none
 inj: ∀o o' b,K o=some b->K o'=some b->o=o'
 B0: ∀o b,K o=some b->o<t.ac/\b<m.ac
 AZ: ∀b cs,u b=some cs->(∃w,m.Y b=some ⟨cs,w⟩)/\ ∀o x,K o=some b->t.Y o=some x->x.own=false
def b8(K:Be)(t:X)(b:Nat):Prop:= ∃o x,K o=some b/\t.Y o=some x/\x.own=true
def Tj(K:Be)(t:X)(b:Nat):Prop:= ∃o x,K o=some b/\t.Y o=some x
structure Bi(h7 iQ:Nat)(K:Be)(u:C0)(t m:X)(s:Be)(C:C0)(a c:X):Prop where
 e:CA K s
 f:Ce u C
 LX: ∀o b,s o=some b->K o=some b\/(h7<=o/\iQ<=b)
 fn: ∀b cs,C b=some cs->u b=some cs\/iQ<=b\/Tj K t b
 HB:t.ac<=a.ac
 HL:m.ac<=c.ac
 DL: ∀b,b<iQ-> ¬b8 K t b->c.Y b=m.Y b
 Vd: ∀b,b<iQ->b8 s a b->b8 K t b
 TO: ∀b,b<iQ->Tj s a b->Tj K t b
theorem Bi.refl{K:Be}{u:C0}{t m:X}:Bi h7 iQ K u t m K u t m:=
 ⟨CA.refl _,Ce.refl _,λ_ _ h=> .inl h,λ_ _ h=> .inl h,Aj _,Aj _,λ_ _ _=>rfl,λ_ _ h=>h,λ_ _ h=>h⟩
theorem Bi.trans{K g i:Be}{u j k:C0}{t l n m p q:X}(h:Bi h7 iQ K u t m g j l p)(a:Bi h7 iQ g j l p i k n q):Bi h7 iQ K u t m i k n q where
 e:=h.e.trans a.e
 f:=h.f.trans a.f
 LX o b hb:=(a.LX o b hb).elim (λc=>h.LX o b c) .inr
 fn b cs hb:=by
  rcases a.fn b cs hb with c|c|c
  ·exact h.fn b cs c
  ·exact .inr (.inl c)
  ·by_cases r:b<iQ
   ·exact .inr (.inr (h.TO b r c))
   ·omega
 HB:=E8 h.HB a.HB
 HL:=E8 h.HL a.HL
 DL b hb d:=by rw[a.DL b hb (λw=>d (h.Vd b hb w)),h.DL b hb d]
 Vd b hb d:=h.Vd b hb (a.Vd b hb d)
 TO b hb d:=h.TO b hb (a.TO b hb d)
theorem Bi.JL{g i:Nat}{K s:Be}{u C:C0}{t j m k:X}(h:Bi h7 iQ K u t m s C j k)(l:g<=h7)(n:i<=iQ):Bi g i K u t m s C j k where
 e:=h.e
 f:=h.f
 LX o b hb:=(h.LX o b hb).imp_right λ⟨a,b⟩=>⟨by omega,by omega⟩
 fn b cs hb:=by
  rcases h.fn b cs hb with d|d|d
  ·exact .inl d
  ·omega
  ·exact .inr (.inr d)
 HB:=h.HB
 HL:=h.HL
 DL b hb c:=h.DL b (by omega) c
 Vd b hb c:=h.Vd b (by omega) c
 TO b hb c:=h.TO b (by omega) c
def D5(u:C0)(K:Be)(A J:A2):Prop:= ∀t,AY u K (A t) (J t)
variable {u C:C0} {K s:Be} {A J:A2} {t m:X}
theorem D5.AD(h:D5 u K A J)(a:Ce u C)(b:CA K s):D5 C s A J:= λt=>(h t).AD a b
theorem D5.U(h:D5 u K A J){x:Operand}(a:Ay x=true):AY u K (U A x) (U J x):=by
 cases x with
 |tmp t=>exact h t
 |const v=>exact AY.G4 a
 |func f=>exact .func rfl (by intro i x y h;simp at h) rfl (by intro i x y h;simp at h)
 |global g=>simp[Ay]at a
theorem D5.A1(h:D5 u K A J){d:Option Nat}{v ca:Value}(a:AY u K v ca):D5 u K (Ar A d v) (Ar J d ca):=by
 cases d with
 |none=>exact h
 | some d=>
   intro t;simp only[Ar,Fg];by_cases e:t=d
   ·simp_all
   ·simp only[e,if_false];exact h t
theorem D5.OS(h:D5 u K A J)(a:l.all Ay=true):AJ u K (l.map (Go.DI.U A)) (l.map (Go.DI.U J)):=
 AJ.SI _ _ _ λx b=>h.U (BR.1 a x b)
theorem D5.init{a bs:List Value}(h:AJ u K a bs):D5 u K (CQ a) (CQ bs):= λt=>by
 simp only[CQ,E1];cases b:a[t]? with
 | none=>rw[L1 (by rw[<-h.1];exact List.getElem?_eq_none_iff.1 b)];exact AY.undef
 |some x=>obtain⟨y,c,d⟩:=h.Y b;rw[c];exact d
theorem rD{v ca:Value}(h:AY u K v ca)(hb:LL v=true):ca=v:=by cases v<;>simp[LL]at hb;exact h.Jk
theorem Jh{v ca:Value}(h:AY u K v ca)(hb:Bp v=true):ca=v:=by cases v<;>simp[Bp]at hb;exact h.Hp
theorem TY{v ca:Value}(h:AY u K v ca)(hb:Fp v=true):ca=v:=by cases v<;>simp[Fp]at hb;exact h.O5
theorem gG(h:D5 u K A J)(g:Option (Nat×Bool)):Bl J g=Bl A g:=by
 cases g with
 |none=>rfl
 | some g=>
   obtain⟨j,b⟩:=g;have a:=h j;simp only[Bl];generalize A j=v at a;generalize J j=ca at a;cases a with
   |BP h=>rfl
   |QI e=>subst e;rfl
   |OW e=>subst e;rfl
   |BX e=>subst e;rfl
   |_=>rfl
variable {u:C0} {K:Be} {A J:A2} {t m:X} {v ca:Value}
theorem LA(h:BJ v=true):DK v=false/\Gp v=false/\F4 v=false:=by cases v<;>simp_all [BJ,DK,Gp,F4]
theorem AJ.headD{xs ys:List Value}(h:AJ u K xs ys):AY u K (xs.headD undef) (ys.headD undef):=by
 cases xs with
 | nil=>cases ys with
   |nil=>exact AY.undef
   |cons y ys=>simp[AJ]at h
 | cons x xs=>cases ys with
   |nil=>simp[AJ]at h
   |cons y ys=>exact h.2 0 x y rfl rfl
theorem AJ.ui: ∀{cb E:List (List Value)},cb.length=E.length->(∀(i:Nat) r c,cb[i]?=some r->E[i]?=some c->AJ u K r c)->AJ u K cb.flatten E.flatten
 |[],[],_,_=>AJ.nil
 |[],_::_,h,_=>by simp at h
 |_::_,[],h,_=>by simp at h
 | r::cb,c::E,h,d=>by rw[I2,I2];exact(d 0 r c rfl rfl).JU (AJ.ui (by simpa using h) λi a b e hb=>d (i+1) a b (by simpa using e) (by simpa using hb))
theorem AJ.Ds{a2:List Value}{off k:Nat}(e:off+a2.length<=cs.length)(c: ∀(j:Nat) x y,a2[j]?=some x->cs[off+j]?=some y->AY u Ea x y)(f:k+n<=a2.length):
 AJ u K ((a2.drop k).take n) ((cs.drop (off+k)).take n):=by
 refine⟨by simp;omega,λi x y a b=> ?_⟩;rw[PU]at a b;split at a
 ·rename_i d;rw[if_pos d]at b;rw[RL]at a b;exact(c (k+i) x y a (by rw[<-Jr];exact b)).AD (Ce.refl _) (CA.nil _)
 ·cases a
theorem BN.HF(a:BN K u t m){b:Nat}{x:CC}(e:K o=some b)(c:t.Y o=some x): ∃cs w,m.Y b=some ⟨cs,w⟩/\(x.own=true->w=true)/\AJ u K x.cells cs:=by
 rcases a.Ee o x c with⟨f,cs,w,d,g,h,i⟩|⟨d,_⟩
 ·grind
 ·simp_all
theorem WV(d:BN K u t m)(e:AY u K v ca)(h:JP t v n=true):Bj m ca n=true:=by
 unfold JP at h;split at h
 ·rename_i f;obtain⟨a2,k,b,off,cs,rfl,rfl,g,p,q⟩:=e.ta f;obtain⟨⟨w,i⟩,_⟩:=d.AZ b cs g;simp at h;simp[i];omega
 ·rename_i r;unfold Bj at h;split at h
  ·next a=>
   obtain⟨b,j,s,rfl⟩:=e.JW;simp only[AF]at h;cases c:t.Y a.block with
   |none=>rw[c]at h;simp at h
   | some x=>rw[c]at h;obtain⟨cs,w,l,_,o⟩:=d.HF j c;simp at h;simp[l];have:=o.1;omega
  ·cases h
theorem iS(f:BN K u t m)(g:AY u K v ca){n:Nat}{c:Bool}(h:JP t v n=true)(i:(c||decide (n=1))=true):AY u K (Nq t c n v) (Co m c n ca):=by
 unfold JP at h;unfold Nq;split at h
 ·rename_i d;rw[if_pos d];obtain⟨a2,k,b,off,cs,rfl,rfl,p,j,l⟩:=g.ta d;obtain⟨⟨w,q⟩,_⟩:=f.AZ b cs p;simp at h;simp only[a2N,xY,q,sl,vA];cases c with
  |true=>exact(AJ.Ds j l h).agg
  |false=>simp at i;subst i;exact(AJ.Ds j l h).headD
 ·rename_i d;rw[if_neg d];unfold Bj at h;split at h
  ·next a=>
   obtain⟨b,r,y,rfl⟩:=g.JW;simp only[AF]at h;cases e:t.Y a.block with
   |none=>rw[e]at h;simp at h
   | some x=>
     obtain⟨cs,w,s,_,o⟩:=f.HF r e;simp only[Co,C3,s];rw[e];cases c with
     |true=>exact((o.drop _).take _).agg
     |false=>exact((o.drop _).take _).headD
  ·cases h
theorem r2(a:AY u K v ca)(h:Ix v=true):JG ca=true:=by
 cases a with
 |BP b=>obtain⟨_,c,_⟩:=LA b;simpa[Ix,c]using h
 |AG h=>rfl
 |BX e=>rfl
 |QI e=>subst e;simp[Ix,JG,O,Gp]at h
 |OW e=>subst e;simp[Ix,JG,O,Gp]at h
 |_=>simp[Ix,JG,Gp]at h
theorem nc(b:AY u K v ca)(h:Ix v=true)(n:Nat):AY u K (N6 v n) (MS ca n):=by
 cases b with
 | BP a=>
   obtain⟨_,c,_⟩:=LA a;simp only[Ix,c,Bool.false_or,JG]at h;split at h
   ·simp[BJ]at a
   ·cases h
 |AG d=>simp only[N6,Gp,MS,E3,if_false];exact .AG d
 |BX e f g i=>subst e;simp only[N6,a7O,if_true,vA,sl,MS,Jr];exact .BX rfl f g i
 |QI e=>subst e;simp[Ix,JG,O,Gp]at h
 |OW e=>subst e;simp[Ix,JG,O,Gp]at h
 |_=>simp[Ix,JG,Gp]at h
theorem bK(a:AY u K v ca):F6 v=DS ca:=by
 cases a with
 |BP h=>simp[F6,(LA h).1]
 |QI e=>subst e;simp[F6,DS]
 |OW e=>subst e;simp[F6,DS]
 |BX e=>subst e;simp[F6,DS,BX,DK]
 |_=>rfl
theorem Yn(a:AY u K v ca):ED v=CO ca:=by
 cases a with
 |BP h=>simp[ED,(LA h).1]
 |QI e=>subst e;simp[ED,CO]
 |OW e=>subst e;simp[ED,CO]
 |BX e=>subst e;simp[ED,CO,BX,DK]
 |_=>rfl
theorem a8n(a:AY u K v ca)(h:P1 v=true):KP ca=true:=by
 cases a with
 |BP b=>simpa[P1,(LA b).1]using h
 |QI e=>rfl
 |OW e=>rfl
 |BX e=>subst e;simp[P1,BX,DK,KP]at h
 |_=>simpa[P1,DK,KP]using h
theorem Vk(a:AY u K v ca)(h:Er z v=true):G9 z ca=true:=by
 cases a with
 |BP b=>simpa[Er,(LA b).1]using h
 |QI e=>subst e;simpa[Er]using h
 |OW e=>rfl
 |BX e=>subst e;simp[Er,BX,DK,G9]at h
 |Pg=>rfl
 |slice=>simpa[Er,DK,G9]using h
 |_=>simp[Er,DK,G9]at h
theorem ox(g:AY u K v ca){l h:Nat}(a:Er z v=true)(q:l<=h)(c:h<=ED v):AY u K (KJ v z l h) (Io ca z l h):=by
 cases g with
 | BP d=>
   simp only[KJ,(LA d).1,E3,if_false];unfold Io;split
   ·simp[BJ]at d
   ·exact .BP rfl
 | QI e k s t w=>
   rename_i b off B cs cb;subst e;have m:B=z:=(by simpa[Er]using a);subst m;have n:h<=cb.length:=(by simpa[ED]using c);simp only[KJ,XC,if_true,XR,Io];have f:((cb.take h).drop l).length=h-l:=(by simp;omega);have A:h*B<=cb.length*B:=KI _ n;have C:l*B+(h-l)*B=h*B:=(by rw[<-IQ];congr 1;omega);rw[<-f];refine .QI rfl k (by rw[f];omega) (λi r o=> ?_) λi j r x y o D E=> ?_
   ·grind
   ·grind
 | OW e=>subst e;simp only[KJ,XC,if_true,XR,Io];simp;exact .OW rfl
 |BX e=>subst e;simp[Er,BX,DK,G9]at a
 | Pg=>have:h=0:=(by simpa[ED,DK,CO]using c);subst this;have:l=0:=(by omega);subst this;simp only[KJ,DK,Io,E3,if_false,Nat.zero_mul,MG,Nat.sub_self];exact .Pg (.inl rfl)
 |slice p=>simp only[KJ,DK,Io,E3,if_false];exact .slice p
 |_=>simp[Er,DK,G9]at a
theorem a2A(c:AY u K v ca)(a:Er z v=true)(b:DK v=false):AY u K (M5 v) (M5 ca):=by
 cases c with
 | BP d=>
   unfold M5;split
   ·simp[BJ]at d
   ·exact .BP rfl
 |QI e=>subst e;simp at b
 |OW e=>subst e;simp at b
 |BX e=>subst e;simp[Er,BX,DK,G9]at a
 |Pg g=>exact .Pg (.inr rfl)
 |slice f=>exact .slice f
 |_=>simp[Er,DK,G9]at a
theorem a5l(h:AY u K v ca){i:Int}(a:Er z v=true)(l:0<=i)(c:i<F6 v):AY u K (Nj v z i) (PE ca z i):=by
 obtain⟨n,rfl⟩:=Dp l;cases h with
 | BP f=>
   simp only[F6,(LA f).1,E3,if_false]at c;simp only[Er,(LA f).1,E3,if_false]at a;unfold G9 at a
   grind [DS,BJ]
 | QI e m w o p=>rename_i b off B cs cb;subst e;have q:B=z:=(by simpa[Er]using a);subst q;have d:n<cb.length:=(by simpa[F6]using c);simp only[Nj,XC,if_true,XR,PE,Dx];rw[E1,AP d,Jb];have g:=AP d;have A:=o _ _ g;have:(n+1)*B<=cb.length*B:=KI _ d;rw[IQ]at this;exact .BX (off:=off+n*B) (k:=0) rfl m (by omega) λj x y r s=>p n j _ x y g r s
 |OW e=>subst e;simp[F6]at c;omega
 |BX e=>subst e;simp[Er,BX,DK,G9]at a
 |Pg=>simp[F6,DK,DS]at c;omega
 |slice t=>simp only[Nj,DK,PE,E3,if_false];exact .AG t
 |_=>simp[Er,DK,G9]at a
theorem Tt(c:BN K u t m)(d:AY u K v ca)(h:Fb t z v=true):Br m z ca=true:=by
 cases d with
 | BP f=>
   simp only[Fb,(LA f).1,E3,if_false]at h;unfold Br at h
   grind [Br,BJ]
 | QI e g i p q=>subst e;have:=(by simpa[Fb]using h);subst this;obtain⟨⟨w,j⟩,_⟩:=c.AZ _ _ g;simp[j,i]
 |OW e=>rfl
 |BX e=>subst e;simp[Fb,BX,DK,Br]at h
 |Pg=>rfl
 | slice k=>
   rename_i o b off l B r;simp only[Fb,DK,E3,if_false,nX,AF]at h⊢;refine⟨h.1,?_⟩;cases a:t.Y o with
   |none=>rw[a]at h;simp at h
   | some x=>
     rw[a]at h;obtain⟨cs,w,s,_,n⟩:=c.HF k a;have:=n.1
     simp_all
 |_=>simp[Fb,DK,Br]at h
theorem aK(c:BN K u t m)(q:AY u K v ca)(h:Fb t z v=true):AJ u K (FL t z v) (C5 m z ca):=by
 cases q with
 | BP d=>
   simp only[Fb,(LA d).1,E3,if_false]at h;unfold Br at h;split at h
   ·exact AJ.nil
   ·simp[BJ]at d
   ·cases h
 | QI e s A C D=>
   rename_i b off B cs cb;subst e;have:=(by simpa[Fb]using h);subst this;obtain⟨⟨w,F⟩,_⟩:=c.AZ _ _ s;simp only[FL,XC,if_true,XR,aAi,xY,F];obtain⟨E,G,H,I⟩:=tu cb.length off A;rw[<-H];refine AJ.ui G.symm λi r P a f=> ?_;have g:=(Ae.1 a).1;rw[I i g]at f;cases f;have Q:=C _ _ a;have:(i+1)*B<=cb.length*B:=KI _ g;rw[IQ]at this;have:=AJ.Ds (u:=u) (K:=K) (a2:=r) (cs:=cs) (off:=off+i*B) (k:=0) (n:=B) (by omega) (λj x y J L=>D i j r x y a J L) (by omega)
   grind
 |OW e=>subst e;simp[FL,C5];exact AJ.nil
 |BX e=>subst e;simp[Fb,BX,DK,Br]at h
 | Pg=>
   grind [FL,DK,C5,C3,AJ.nil]
 | slice M=>
   rename_i o b off l B R;simp only[Fb,DK,E3,if_false,nX,AF]at h;simp only[FL,DK,E3,if_false,C5,C3];cases p:t.Y o with
   |none=>rw[p]at h;simp at h
   | some x=>obtain⟨cs,w,N,_,O⟩:=c.HF M p;simp only[N];exact(O.drop _).take _
 |_=>simp[Fb,DK,Br]at h
theorem vf(g:BN K u t m)(f:AY u K v ca)(h:Dm t v=true):Dm m ca=true:=by
 unfold Dm at h;split at h
 ·rename_i l c;cases f with
  |BP n=>rfl
  |QI e=>simp[O]at e
  |OW e=>simp[O]at e
  |BX e=>simp[BX]at e
 ·rename_i a l c;rcases f.Fl with⟨b,i,_,rfl⟩|⟨_,_,_,rfl⟩
  ·cases d:t.Y a.block with
   |none=>rw[d]at h;cases h
   | some x=>rw[d]at h;obtain⟨cs,w,j,k,o⟩:=g.HF i d;simp[j,k h]
  ·rfl
 ·cases h
theorem zi(f:BN K u t m)(c:AY u K v ca)(h:FC t v=some es): ∃q,FC m ca=some q/\J4 u K es q:=by
 unfold FC at h;split at h
 ·cases h;have:ca= .map none:=c.DF rfl;subst this;exact⟨[],rfl,rfl,λi e l a=>by simp at a⟩
 ·obtain⟨b,q,g,j,k⟩:=f.maps _ _ h;obtain⟨n,d,rfl⟩:=c.Te;rw[g]at d;cases d;exact⟨q,j,k⟩
 ·cases h
theorem xH(c:AY u K v ca){bx:GU}(h:DX bx v=true):ca=v:=by
 cases bx with
 |int k=>cases v<;>simp[DX]at h;exact c.Hp
 |str=>cases v<;>simp[DX]at h;exact c.O5
 | Eb k=>
   obtain⟨a,b,rfl⟩:=NX h;obtain⟨ys,rfl,d⟩:=c.Ka;obtain⟨l⟩:=ys
   match l,d.1 with
   | [e,f],_=>have g:=(d.2 0 _ e rfl rfl).Hp;have i:=(d.2 1 _ f rfl rfl).Hp;rw[g,i]
theorem ue(d:J4 u K es q)(j:AY u K v ca)(h:ET bx v es=true):ET bx ca q=true/\ca=v/\ ∀(i:Nat) e c,es[i]?=some e->q[i]?=some c->c.1=e.1:=by
 simp only[ET,AF,BR]at h⊢;have k:=xH j h.1;subst k;have f: ∀(i:Nat) e c,es[i]?=some e->q[i]?=some c->c.1=e.1:= λi e c a b=>xH (d.2 i e c a b).1 (h.2 e (B5 a));refine⟨⟨h.1,λc l=> ?_⟩,rfl,f⟩;obtain⟨i,g,rfl⟩:=E5 l;have m:i<es.length:=by rw[d.1];exact g
 rw[f i _ _ (AP m) (AP g)]
 grind
theorem m5: ∀{es q:List (Value×Value)},J4 u K es q->(∀(i:Nat) e c,es[i]?=some e->q[i]?=some c->c.1=e.1)->(Cy k es=none/\Cy k q=none)\/ ∃a b,Cy k es=some a/\Cy k q=some b/\AY u K a b
 |[],[],_,_=> .inl ⟨rfl,rfl⟩
 |[],_::_,h,_=>by simp[J4]at h
 |_::_,[],h,_=>by simp[J4]at h
 | e::es,c::q,h,f=>by
   have g:=f 0 e c rfl rfl;simp only[Cy,g];split
   ·exact .inr ⟨_,_,rfl,rfl,(h.2 0 e c rfl rfl).2⟩
   ·exact m5 ⟨by simpa using h.1,λi a b d hb=>h.2 (i+1) a b (by simpa using d) (by simpa using hb)⟩ λi a b d hb=>f (i+1) a b (by simpa using d) (by simpa using hb)
theorem wQ{v ca:Value}(f:AY u K k k)(g:AY u K v ca): ∀{es q:List (Value×Value)},J4 u K es q->(∀(i:Nat) e d,es[i]?=some e->q[i]?=some d->d.1=e.1)->J4 u K (Dy k v es) (Dy k ca q)
 | [],[],_,_=>⟨rfl,λi a b c hb=>by
  grind [Dy]⟩
 |[],_::_,h,_=>by simp[J4]at h
 |_::_,[],h,_=>by simp[J4]at h
 | e::es,d::q,h,j=>by
   have m:=j 0 e d rfl rfl;have l:J4 u K es q:=⟨by simpa using h.1,λi a b c hb=>h.2 (i+1) a b (by simpa using c) (by simpa using hb)⟩;simp only[Dy,m];split
   ·refine⟨by simpa using h.1,λi a b c hb=> ?_⟩;cases i with
    |zero=>simp at c hb;subst c;subst hb;exact⟨f,g⟩
    |succ i=>exact l.2 i a b (by simpa using c) (by simpa using hb)
   ·have:=wQ f g l λi a b c hb=>j (i+1) a b (by simpa using c) (by simpa using hb);refine⟨by simpa using this.1,λi a b c hb=> ?_⟩;cases i with
    |zero=>simp at c hb;subst c;subst hb;exact h.2 0 e d rfl rfl
    |succ i=>exact this.2 i a b (by simpa using c) (by simpa using hb)
variable {u:C0} {K:Be} {A J:A2} {t m:X} {v ca:Value}
theorem UX(a:D5 u K A J){x:Option Operand}(b: ∀o,x=some o->Ay o=true)(h:Hx A x=true)(d:Int):Hx J x=true/\Cm J x d=Cm A x d:=by
 cases x with
 |none=>exact⟨rfl,rfl⟩
 | some o=>
   have e:=Jh (a.U (b o rfl)) h
   simp_all
theorem p6(d:D5 u K A J){a:List Value}(e:cs.length=a.length)(f: ∀p∈ps,Ay p.2.2=true)(h:Ia cs A ps=true):Ia a J ps=true:=by simp only[Ia,BR]at h⊢;intro p b;have:=h p b;obtain⟨off,n,x⟩:=p;simp only[AF,BW]at this⊢;have c:=d.U (f _ b);exact⟨⟨c.D this.1.1,by rw[<-c.H.1];exact this.1.2⟩,by rw[<-e];exact this.2⟩
theorem l4(a:D5 u K A J): ∀{ps:List (Nat×Nat×Operand)} {cs b:List Value},AJ u K cs b->(∀p∈ps,Ay p.2.2=true)->AJ u K (GS cs A ps) (GS b J ps)
 |[],_,_,h,_=>h
 | (off,n,x)::ps,_,_,h,c=>by simp only[GS];exact l4 a (h.CV off (a.U (c (off,n,x) (by simp))).H) λp d=>c p (by simp[d])
theorem AY.Lg{v:Value}(h:BJ v=true\/v=Go.undef):AY u K v v:=by
 rcases h with h|rfl
 ·exact .BP h
 ·exact AY.undef
theorem aCc(op:BinOp)(k:IntKind)(a b:Int):BJ (T6 op k a b)=true:=by cases op<;>rfl
theorem zg(op:BinOp)(a b:ByteArray):BJ (PA op a b)=true\/PA op a b=Go.undef:=by cases op<;>first|exact .inl rfl|exact .inr rfl
theorem a3C(op:BinOp)(x y:Value):BJ (Fs op x y)=true\/Fs op x y=Go.undef:=by
 unfold Fs;split
 ·exact .inl (aCc _ _ _ _)
 ·exact zg _ _ _
 ·split
  ·exact .inl rfl
  ·exact .inl rfl
  ·exact .inr rfl
theorem vd(d:AY u K v ca)(h:Ge v=true):ca=v\/(∃a c,v= .pointer (some a)/\ca= .pointer (some c))\/(∃a c l z,v= .slice (some a) l z/\ca= .slice (some c) l z)\/
 (∃f xs cs ys ds,v= .func (.func f) xs cs/\ca= .func (.func f) ys ds)\/(∃a b,v= .map a/\ca= .map b)\/(∃a b,v= .agg a/\ca= .agg b)\/(∃a b,v= .tuple a/\ca= .tuple b)\/ ∃t a b,v= .iface t a/\ca= .iface t b:=by
 cases d with
 |BP=>exact .inl rfl
 |AG=>exact .inr (.inl ⟨_,_,rfl,rfl⟩)
 |slice=>exact .inr (.inr (.inl ⟨_,_,_,_,rfl,rfl⟩))
 |Pg=>simp[Ge,F4]at h
 |map=>exact .inr (.inr (.inr (.inr (.inl ⟨_,_,rfl,rfl⟩))))
 |agg=>exact .inr (.inr (.inr (.inr (.inr (.inl ⟨_,_,rfl,rfl⟩)))))
 |tuple=>exact .inr (.inr (.inr (.inr (.inr (.inr (.inl ⟨_,_,rfl,rfl⟩))))))
 |func=>exact .inr (.inr (.inr (.inl ⟨_,_,_,_,_,rfl,rfl⟩)))
 |iface=>exact .inr (.inr (.inr (.inr (.inr (.inr (.inr ⟨_,_,_,rfl,rfl⟩))))))
 |QI e=>subst e;simp[Ge]at h
 |OW e=>subst e;simp[Ge]at h
 |BX e=>subst e;simp[Ge]at h
theorem aC4(h:(Bp x&&Bp y)=false)(a:(Fp x&&Fp y)=false):Kk op c x y=(match op with| .eql| .neq=>MF c x y|_=>false):=by
 unfold Kk
 grind [Bp,Fp]
theorem aB2(h:(Bp x&&Bp y)=false)(a:(Fp x&&Fp y)=false):Fs op x y=(match op with| .eql=> .bool (IE x y)| .neq=> .bool (!IE x y)|_=>Go.undef):=by
 unfold Fs
 grind [Bp,Fp]
theorem y4(c:AY u K v ca)(h:Ge v=true):Bp ca=Bp v/\Fp ca=Fp v:=by rcases vd c h with rfl|⟨a,d,rfl,rfl⟩|⟨a,d,l,z,rfl,rfl⟩|⟨f,xs,cs,ys,ds,rfl,rfl⟩|⟨a,b,rfl,rfl⟩|⟨a,b,rfl,rfl⟩|⟨a,b,rfl,rfl⟩|⟨t,a,b,rfl,rfl⟩<;>exact⟨rfl,rfl⟩
def SL:Value->Value
 | .pointer (some _)=> .pointer (some ⟨0,0,none⟩)
 | .slice (some _) _ _=> .slice (some ⟨0,0,none⟩) 0 0
 | .func _ _ _=> .func (.func 0) #[] #[]
 | .map _=> .map none
 | .agg _=> .agg #[]
 | .tuple _=> .tuple #[]
 | .iface _ _=> .iface 0 .nilIface
 |v=>v
theorem nh(c:Nr)(x y:Value):MF c (SL x) (SL y)=MF c x y:=by cases c<;>cases x<;>cases y<;>first|rfl|(cases‹Option Addr› <;>first|rfl|(cases‹Option Addr› <;>rfl))
theorem rj(x y:Value):IE (SL x) (SL y)=IE x y:=by cases x<;>cases y<;>first|rfl|(cases‹Option Addr› <;>first|rfl|(cases‹Option Addr› <;>rfl))
theorem bp(c:AY u K v ca)(h:Ge v=true):SL ca=SL v:=by rcases vd c h with rfl|⟨a,d,rfl,rfl⟩|⟨a,d,l,z,rfl,rfl⟩|⟨f,xs,cs,ys,ds,rfl,rfl⟩|⟨a,b,rfl,rfl⟩|⟨a,b,rfl,rfl⟩|⟨a,b,rfl,rfl⟩|⟨t,a,b,rfl,rfl⟩<;>rfl
theorem a2T(a:AY u K x L)(b:AY u K y G)(d:Ge x=true)(e:Ge y=true)(h:MF c x y=true):MF c L G=true/\IE L G=IE x y:=by rw[<-nh,bp a d,bp b e,nh,<-rj L G,bp a d,bp b e,rj];exact⟨h,rfl⟩
theorem a8T(a:AY u K x L)(b:AY u K y G)(d:Ge x=true)(e:Ge y=true)(h:Kk op c x y=true):Kk op c L G=true/\Fs op L G=Fs op x y:=by
 obtain⟨f,g⟩:=y4 a d;obtain⟨i,j⟩:=y4 b e;by_cases k:(Bp x&&Bp y)=true
 ·grind [Jh]
 ·by_cases l:(Fp x&&Fp y)=true
  ·grind [TY]
  ·grind [aC4,aB2,a2T]
theorem wP: ∀{j:List Iu} {e bs f g:List Value},Dn j e bs=true->AJ u K e f->AJ u K bs g->f=e/\g=bs
 | [],[],[],f,g,_,c,d=>by have n:f=[]:=M0 (by rw[<-c.1];rfl);have o:g=[]:=M0 (by rw[<-d.1];rfl);exact⟨n,o⟩
 |k::j,a::e,b::bs,[],_,_,c,_=>by simp[AJ]at c
 |k::j,a::e,b::bs,_::_,[],_,_,d=>by simp[AJ]at d
 | k::j,a::e,b::bs,p::f,q::g,h,c,d=>by
   simp only[Dn,AF]at h;obtain⟨n,o⟩:=wP h.2 ⟨by simpa using c.1,λi x y l m=>c.2 (i+1) x y (by simpa using l) (by simpa using m)⟩ ⟨by simpa using d.1,λi x y l m=>d.2 (i+1) x y (by simpa using l) (by simpa using m)⟩;have s:=c.2 0 a p rfl rfl;have hb:=d.2 0 b q rfl rfl;have r:=h.1;have t:p=a:=(by cases k<;>cases a<;>cases b<;>simp[Og]at r<;>exact s.DF rfl);have v:q=b:=by cases k<;>cases a<;>cases b<;>simp[Og]at r<;>exact hb.DF rfl
   simp_all
 |[],_::_,_,_,_,h,_,_=>by simp[Dn]at h
 |[],[],_::_,_,_,h,_,_=>by simp[Dn]at h
 |_::_,[],_,_,_,h,_,_=>by simp[Dn]at h
 |_::_,_::_,[],_,_,h,_,_=>by simp[Dn]at h
theorem oB(f:D5 u K A J)(b:Bool): ∀(xs:List Operand) (a:Value),xs.all Ay=true->(xs.all λy=>Bp (U A y))=true->Bp a=true->
 (xs.foldl (λa y=>if b then Ha a (U J y)else Hf a (U J y)) a=xs.foldl (λa y=>if b then Ha a (U A y)else Hf a (U A y)) a)/\Bp (xs.foldl (λa y=>if b then Ha a (U A y)else Hf a (U A y)) a)=true
 |[],a,_,_,h=>⟨rfl,h⟩
 | y::xs,a,d,c,h=>by simp only[F3,AF]at d c;have e:=Jh (f.U d.1) c.1;simp only[GO,e];refine oB f b xs _ d.2 c.2 ?_;have g:=c.1;cases a<;>simp[Bp]at h;cases i:U A y<;>simp[i,Bp]at g;split<;>rfl
theorem a8B(h:Bp v=true):BJ v=true:=by cases v<;>simp[Bp]at h<;>rfl
def M.gb:M->Bool
 | .It _| .Ja _| .Hg _ _ _ _| .Mz _| .IZ _ _ _ _ _| .app _ _ _ _| .KZ _ _ _ _ _| .Ca _ _| .Kz| .store _ _ _| .Ki _ _ _ _| .Kg _ _| .JV _ _| .JN _ _ _=>false
 |_=>true
theorem a7z{k:M}(h:k.gb=true){id lQ:Nat}:k.H8 id A t=t/\k.Cj lQ J m=m:=by cases k<;>first|exact⟨rfl,rfl⟩|cases h
theorem aCB(O:BN K u t m)(j:D5 u K A J){k:M}(A9:k.gb=true)(A2:Ns k=true)(d:k.Di A t=true)(id AA:Nat):k.ok J m=true/\AY u K (k.EE id A t) (k.val AA J m):=by
 simp only[Ns,AF]at A2;obtain⟨g,A3⟩:=A2;cases k with
 |FA x=>simp[M.D9]at g;exact⟨rfl,j.U g⟩
 | SE c a b=>
   simp[M.D9]at g;have e:=rD (j.U g.1) d;refine⟨by simp only[M.ok,e];exact d,?_⟩;simp only[M.EE,M.val,e];split
   ·exact j.U g.2.1
   ·exact j.U g.2.2
 | Lj x=>
   simp[M.D9]at g;have l:=j.U g;refine⟨?_,l⟩;simp only[M.Di,M.ok]at d⊢;generalize U A x=a at l d;generalize U J x=AT at l;cases l with
   |BP=>exact d
   |_=>rfl
 | PC z ps=>have A4: ∀p∈ps,Ay p.2.2=true:= λp AB=>BR.1 g _ (by simp only[M.D9];exact List.mem_map_of_mem AB);have D:=AJ.BP (u:=u) (K:=K) A3;exact⟨p6 j rfl A4 d,(l4 j D A4).agg⟩
 | EO AD n x=>simp[M.D9]at g;simp only[M.Di,AF]at d;refine⟨?_,iS O (j.U g) d.1 d.2⟩;simp only[M.ok,AF];exact⟨WV O (j.U g) d.1,d.2⟩
 | Jf op c x y=>
   simp[M.D9]at g;simp only[M.Di,AF]at d;obtain⟨r,s⟩:=a8T (j.U g.1) (j.U g.2) d.1.1 d.1.2 d.2;refine⟨r,?_⟩
   grind [M.EE,M.val,AY.Lg,a3C]
 | Oy AU AV x y=>simp[M.D9]at g;simp only[M.Di,M.ok,AF]at d;have v:=j.U g.1;have G:=j.U g.2;simp only[M.ok,M.EE,M.val];cases P:U A x<;>simp[P,KA]at d;cases A5:U A y<;>simp[A5]at d;rw[P]at v;rw[A5]at G;obtain⟨xs,w,AE⟩:=v.Ka;obtain⟨ys,E,AI⟩:=G.Ka;obtain⟨F,L⟩:=wP d AE AI;simp only[w,E,H,F,L,KA,Bool.true_and];exact⟨d,.BP rfl⟩
 | T9 op x=>
   simp[M.D9]at g;have l:=j.U g;simp only[M.Di,M.ok,M.EE,M.val]at d⊢;cases P:U A x with
   |int k n=>rw[P]at l d;rw[l.Hp];exact⟨d,by cases op<;>first|exact .BP rfl|exact AY.undef⟩
   |bool b=>rw[P]at l d;rw[l.Jk];exact⟨d,by cases op<;>first|exact .BP rfl|exact AY.undef⟩
   |_=>rw[P]at d;cases op<;>simp[NZ]at d
 | VB k x=>simp[M.D9]at g;have e:=Jh (j.U g) d;simp only[M.ok,M.EE,M.val,e];exact⟨d,.BP rfl⟩
 | Z6 x=>simp[M.D9]at g;have e:=TY (j.U g) d;simp only[M.ok,M.EE,M.val,e];refine⟨d,?_⟩;simp only[M.Di,M.ok]at d;cases v:U A x<;>simp[v,Fp]at d;exact .BP rfl
 | Lr x=>
   simp[M.D9]at g;have l:=j.U g;simp only[M.Di,AF]at d;have D:=aK O l d.1;have e:C5 m 1 (U J x)=FL t 1 (U A x):=by
    apply Lu
    ·exact D.1.symm
    ·intro i r s;have A6:=D.2 i _ _ (AP s) (AP r);have A7:=BR.1 d.2 _ (Dq s);generalize(FL t 1 (U A x))[i]=a at A6 A7;cases a<;>simp[R3]at A7;exact A6.Hp
   simp only[M.ok,M.EE,M.val,e,AF];exact⟨⟨Tt O l d.1,d.2⟩,.BP rfl⟩
 | c5 x Q I=>simp[M.D9]at g;have R: ∀o,Q=some o->Ay o=true:= λo h=>g.2.1 o h;have W: ∀o,I=some o->Ay o=true:= λo h=>g.2.2 o h;simp only[M.Di,M.ok,AF,BW]at d;obtain⟨⟨⟨⟨⟨r,s⟩,B⟩,C⟩,N⟩,S⟩:=d;have e:=TY (j.U g.1) r;obtain⟨w,E⟩:=UX j R s 0;obtain⟨F,L⟩:=UX j W B (DS (U A x));simp only[M.ok,M.EE,M.val,e,w,E,F,L,AF,BW];exact⟨⟨⟨⟨⟨⟨r,trivial⟩,trivial⟩,C⟩,N⟩,S⟩,.BP rfl⟩
 | OL z x Q I=>
   simp[M.D9]at g;have R: ∀o,Q=some o->Ay o=true:= λo h=>g.2.1 o h;have W: ∀o,I=some o->Ay o=true:= λo h=>g.2.2 o h;simp only[M.Di,AF,BW]at d;obtain⟨⟨⟨⟨⟨⟨r,s⟩,B⟩,C⟩,N⟩,S⟩,X⟩:=d;have l:=j.U g.1;have T:=bK l;obtain⟨w,E⟩:=UX j R s 0;obtain⟨F,L⟩:=UX j W B (F6 (U A x));simp only[M.ok,M.EE,M.val,<-T,w,E,F,L,AF,BW];refine⟨⟨⟨⟨⟨⟨Vk l r,trivial⟩,trivial⟩,C⟩,N⟩,S⟩,?_⟩;split
   ·next V=>exact a2A l r (by simpa[V.1,V.2]using X)
   refine ox l r (by omega) ?_;have:F6 (U A x)=ED (U A x):=by
    have Z:=Vk l r;rw[T,Yn l];unfold G9 at Z
    grind [DS,CO]
   omega
 | S3 z x Q I A8=>
   simp[M.D9]at g;have R: ∀o,Q=some o->Ay o=true:= λo h=>g.2.2.2 o (by simp[h]);simp only[M.Di,AF,BW]at d;obtain⟨⟨⟨⟨⟨⟨⟨r,s⟩,B⟩,C⟩,N⟩,S⟩,X⟩,AK⟩:=d;have l:=j.U g.1;have T:=bK l;obtain⟨w,E⟩:=UX j R s 0;have F:=Jh (j.U g.2.1) B;have L:=Jh (j.U g.2.2.1) C;simp only[M.ok,M.EE,M.val,<-T,w,E,F,L,AF,BW];refine⟨⟨⟨⟨⟨⟨⟨⟨Vk l r,trivial⟩,B⟩,C⟩,N⟩,S⟩,X⟩,AK⟩,ox l r (by omega) ?_⟩;have:F6 (U A x)=ED (U A x):=by
    have Z:=Vk l r;rw[T,Yn l];unfold G9 at Z
    grind [DS,CO]
   omega
 | NH z n x=>
   simp[M.D9]at g;have l:=j.U g;simp only[M.Di,M.ok,AF]at d;simp only[M.ok,M.EE,M.val,AF];have AL:Gp (U A x)=false:=by cases v:U A x<;>simp[v,Bj]at d<;>rfl
   have AM:JP t (U A x) (n*z)=true:=(by rw[JP,AL];exact d.1);refine⟨⟨WV O l AM,d.2⟩,?_⟩;cases v:U A x<;>simp[v,Bj]at d
   next a=>
    cases a with
    |none=>simp at d
    | some a=>rw[v]at l;obtain⟨b,r,s,B⟩:=l.JW;rw[B];simp only[We];exact .slice r
 |H0 off x=>simp[M.D9]at g;exact⟨r2 (j.U g) d,nc (j.U g) d off⟩
 | field AD off n x=>
   simp[M.D9]at g;have l:=j.U g;simp only[M.Di,M.ok,AF]at d;simp only[M.ok,M.EE,M.val,AF];cases v:U A x<;>simp[v,U1]at d;rw[v]at l;obtain⟨ys,e,D⟩:=l.Ka;have:=D.1;simp at this;rw[e];refine⟨⟨by simp[U1];omega,by simpa using d.2⟩,?_⟩;simp only[Xt];split
   ·exact((D.drop _).take _).agg
   ·next AN=>
    rename_i cs;have r:n=1:=(by simpa[AN]using d.2);have I:off<cs.toList.length:=(by simp;omega);obtain⟨y,G,AO⟩:=D.Y (AP I)
    grind
 | He z x i=>
   simp[M.D9]at g;simp only[M.Di,AF,BW]at d;obtain⟨⟨⟨r,s⟩,B⟩,C⟩:=d;have l:=j.U g.1;have e:=Jh (j.U g.2) s
   grind [M.ok,M.EE,M.val,bK,Vk,a5l]
 | QX z n x i=>
   simp[M.D9]at g;simp only[M.Di,AF,BW]at d;obtain⟨⟨⟨r,s⟩,B⟩,C⟩:=d;have l:=j.U g.1;have e:=Jh (j.U g.2) s
   grind [M.ok,M.EE,M.val,r2,nc]
 | VT x i=>simp[M.D9]at g;simp only[M.Di,M.ok,AF,BW]at d;obtain⟨⟨⟨r,s⟩,B⟩,C⟩:=d;have e:=Jh (j.U g.2) s;have w:=TY (j.U g.1) r;simp only[M.ok,M.EE,M.val,e,w,AF,BW];exact⟨⟨⟨⟨r,s⟩,B⟩,C⟩,.BP rfl⟩
 | ext i x=>
   simp[M.D9]at g;have l:=j.U g;simp only[M.Di,M.ok]at d;simp only[M.ok,M.EE,M.val];cases v:U A x<;>simp[v,SK]at d;rename_i AQ;rw[v]at l;obtain⟨ys,e,D⟩:=l.Q9;have:=D.1;simp at this;rw[e];have I:i<AQ.toList.length:=(by simpa using d);obtain⟨y,G,AO⟩:=D.Y (AP I)
   simp_all
 | W4 x=>simp[M.D9]at g;have w:=TY (j.U g) d;simp only[M.ok,M.EE,M.val,w];exact⟨d,.BP rfl⟩
 | NS x=>simp[M.D9]at g;have l:=j.U g;refine⟨a8n l d,?_⟩;simp only[M.EE,M.val,bK l];exact .BP rfl
 | cr x=>simp[M.D9]at g;have l:=j.U g;simp only[M.Di,M.ok]at d⊢;rw[cO d]at l;rw[l.DF rfl];exact⟨rfl,.BP rfl⟩
 | QG A8 x xs=>simp[M.D9]at g;simp only[M.Di,M.ok,AF]at d;have e:=Jh (j.U g.1) d.1;have A0:xs.all Ay=true:=(by simpa using g.2);obtain⟨r,s⟩:=oB j A8 xs (U A x) A0 d.2 d.1;simp only[M.ok,M.EE,M.val,e,r,AF];refine⟨⟨d.1,?_⟩,.BP (a8B s)⟩;simp only[BR]at d A0⊢;intro y G;rw[Jh (j.U (A0 y G)) (d.2 y G)];exact d.2 y G
 | Qv fn first AW=>
   simp only[M.Di]at d;simp only[M.D9,List.all_append,AF]at g;refine⟨rfl,?_⟩;simp only[M.EE,M.val];cases fn with
   | func f=>have r:=j.OS g.1;have s:=j.OS g.2;exact .func (by simpa using r.1) (by simpa using r.2) (by simpa using s.1) (by simpa using s.2)
   |_=>cases d
 |Tx AR x=>simp[M.D9]at g;exact⟨rfl,.iface (j.U g)⟩
 | Vy AR x=>
   simp[M.D9]at g;have l:=j.U g;simp only[M.Di,M.ok]at d;simp only[M.ok,M.EE,M.val];cases v:U A x<;>simp[v,VF]at d;rw[v]at l;obtain⟨y,e,r⟩:=l.UA
   simp_all
 | LS bx z o x AS=>
   simp[M.D9]at g;simp only[M.Di,M.ok]at d;simp only[M.ok,M.EE,M.val];cases A1:FC t (U A x)with
   |none=>rw[A1]at d;cases d
   | some es=>
     rw[A1]at d;simp only at d;obtain⟨q,r,s⟩:=zi O (j.U g.1) A1;obtain⟨B,C,N⟩:=ue s (j.U g.2) d;rw[r,C];rw[C]at B;refine⟨B,?_⟩;simp only[Option.bind_some];have V:AY u K z z:= .BP A3;rcases m5 (k:=U A AS) s N with⟨w,E⟩|⟨a,b,w,E,F⟩
     ·rw[w,E];split
      ·exact(AJ.cons V (AJ.cons (.BP rfl) AJ.nil)).tuple
      ·exact V
     ·rw[w,E];split
      ·exact(AJ.cons F (AJ.cons (.BP rfl) AJ.nil)).tuple
      ·exact F
 |_=>cases A9
end Go.DI
