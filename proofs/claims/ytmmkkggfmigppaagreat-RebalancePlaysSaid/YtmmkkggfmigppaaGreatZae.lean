/-
  A part of the proof of the statement, in texts that tools of ours (wip/shrink.py, irpack.py, relax.py, minify.py, join.py, lay.py) have shortened.
-/
import Derived.SizedLaws
import Derived.ChangeOld
import Derived.WideShapes
import Derived.OpenShut
import Derived.Test.YtmmkkggfmigppaaGreatZad
set_option linter.all false
set_option maxRecDepth 8000
set_option maxHeartbeats 16000000
namespace Go.DI
open Go
def sh(s:ByteArray)(i:Nat):Int:=((s.data.toList.getD i 0).toNat:Nat)
def ags(fN:kD)(m:W)(x k:Value):Bool:=match ku m x with
  |some bc=>oa fN k bc
  |none=>false
def agt(zero:Value)(o:Bool)(m:W)(x k:Value):Value:=
  if o then .tuple #[((ku m x).bind (jk k)).getD zero,.bool ((ku m x).bind (jk k)).isSome]else((ku m x).bind (jk k)).getD zero
def agB(fN:kD)(m:W)(x k v:Value):Bool:=match x with
  | .map (some b)=>(match m.eS b with
    |some bc=>oa fN k bc&&S v
    |none=>false)
  |_=>false
def agA(m:W)(x k v:Value):W:=m.g2 (vt x) (lM k v ((m.eS (vt x)).getD []))
@[simp] theorem aMz{fN:kD}{m:W}{b:Nat}{k:Value}:ags fN m (.map (some b)) k=(match m.eS b with|some bc=>oa fN k bc|none=>false):=rfl
@[simp] theorem aMA{J:Value}{o:Bool}{m:W}{b:Nat}{k:Value}:agt J o m (.map (some b)) k=if o then .tuple #[((m.eS b).bind (jk k)).getD J,.bool ((m.eS b).bind (jk k)).isSome]else((m.eS b).bind (jk k)).getD J:=rfl
@[simp] theorem aMC{fN:kD}{m:W}{b:Nat}{k v:Value}:agB fN m (.map (some b)) k v=(match m.eS b with|some bc=>oa fN k bc&&S v|none=>false):=rfl
@[simp] theorem aMB{m:W}{b:Nat}{k v:Value}:agA m (.map (some b)) k v=m.g2 b (lM k v ((m.eS b).getD [])):=rfl
attribute [simp] Wm Wj Wl Wk OZ OY Ji VW aEl aEm aj8 Ch aj9 agd aAk aAl aCd aCe
  Wo O1 Wn Ft akr
section
variable {P:Program} {base aS:Nat} {d:Option Nat} {b4:List bp} {A:aR} {m:W} {aW:aR->W->Prop} {a9:List (Operand×Operand)}
@[simp] theorem aS6(x:Operand):hI P base (⟨aS,d,none,.mq x,a9⟩::b4) A m aW=(pV A a9=true/\hI P base b4 (dc A d (Z A x)) (m) aW):=by rw[vS rfl];simp only[ag.ok,true_and];try rfl
@[simp] theorem aS7(c a b:Operand):hI P base (⟨aS,d,none,.sQ c a b,a9⟩::b4) A m aW=(sK (Z A c)=true/\pV A a9=true/\hI P base b4 (dc A d (if uM (Z A c)=true then Z A a else Z A b)) (m) aW):=by rw[vS rfl];rfl
@[simp] theorem aS3(J n:Nat)(cs:List Value)(ps:List (Nat×Nat×Operand)):hI P base (⟨aS,d,none,.gM J n cs ps,a9⟩::b4) A m aW=(qh cs A ps=true/\pV A a9=true/\hI P base b4 (dc A d (.slice (some ⟨base+aS,0,none⟩) n J)) (m.a0 (base+aS) (some ⟨l5 cs A ps,true⟩)) aW):=by rw[vS rfl];rfl
@[simp] theorem aS2(op:BinOp)(c:td)(x y:Operand):hI P base (⟨aS,d,none,.e8 op c x y,a9⟩::b4) A m aW=(ru op c (Z A x) (Z A y)=true/\pV A a9=true/\hI P base b4 (dc A d (lg op (Z A x) (Z A y))) (m) aW):=by rw[vS rfl];rfl
@[simp] theorem aS8(op:UnOp)(x:Operand):hI P base (⟨aS,d,none,.qs op x,a9⟩::b4) A m aW=(xA op (Z A x)=true/\pV A a9=true/\hI P base b4 (dc A d (BY op (Z A x))) (m) aW):=by rw[vS rfl];rfl
@[simp] theorem aS4(x i:Operand):hI P base (⟨aS,d,none,.tL x i,a9⟩::b4) A m aW=((lo (Z A x)&&e4 (Z A i)&&decide (0<=eZ (Z A i))&&decide (eZ (Z A i)<iv (Z A x)))=true/\pV A a9=true/\hI P base b4 (dc A d (.int .u8 (sh (qB (Z A x)) (eZ (Z A i)).toNat))) (m) aW):=by rw[vS rfl];rfl
@[simp] theorem aS5(x:Operand):hI P base (⟨aS,d,none,.sL x,a9⟩::b4) A m aW=(lo (Z A x)=true/\pV A a9=true/\hI P base b4 (dc A d (.int .i64 (iv (Z A x)))) (m) aW):=by rw[vS rfl];rfl
@[simp] theorem aS1(J bytes:Nat)(x y:Operand):hI P base (⟨aS,d,none,.app J bytes x y,a9⟩::b4) A m aW=((ag.app J bytes x y).ok A m=true/\pV A a9=true/\hI P base b4 (dc A d ((ag.app J bytes x y).val (base+aS) A m)) ((ag.app J bytes x y).gG (base+aS) A m) aW):=by rw[vS rfl];try rfl
@[simp] theorem aKM{t aI:TypeId}{v:Value}:Gw t (.iface aI v)=decide (aI=t):=rfl
@[simp] theorem aKN{t:TypeId}{v:Value}:ZE (.iface t v)=v:=rfl
@[simp] theorem aJg{t:Nat}:Z A (.tmp t)=A t:=rfl
@[simp] theorem aJe{v:Value}:Z A (.const v)=v:=rfl
@[simp] theorem aJf{f:Nat}:Z A (.func f)= .func (.func f) #[] #[]:=rfl
@[simp] theorem aNH{t:Nat}{v:Value}:dc A (some t) v=qt A t v:=rfl
@[simp] theorem aNG{v:Value}:dc A none v=A:=rfl
@[simp] theorem aEx{t bt:Nat}{v:Value}:qt A t v bt=if bt=t then v else A bt:=rfl
@[simp] theorem aKQ{gX:Value}{l:List Value}:jI (gX::l) 0=gX:=rfl
@[simp] theorem aKR{gX bu:Value}{l:List Value}:jI (gX::bu::l) 1=bu:=rfl
@[simp] theorem aKS{gX bu bN:Value}{l:List Value}:jI (gX::bu::bN::l) 2=bN:=rfl
@[simp] theorem aKT{gX bu bN cn:Value}{l:List Value}:jI (gX::bu::bN::cn::l) 3=cn:=rfl
@[simp] theorem aKU{gX bu bN cn eW:Value}{l:List Value}:jI (gX::bu::bN::cn::eW::l) 4=eW:=rfl
@[simp] theorem aKV{gX bu bN cn eW fU:Value}{l:List Value}:jI (gX::bu::bN::cn::eW::fU::l) 5=fU:=rfl
@[simp] theorem aKW{gX bu bN cn eW fU h4:Value}{l:List Value}:jI (gX::bu::bN::cn::eW::fU::h4::l) 6=h4:=rfl
@[simp] theorem aKX{gX bu bN cn eW fU h4 j8:Value}{l:List Value}:jI (gX::bu::bN::cn::eW::fU::h4::j8::l) 7=j8:=rfl
def Wb(v:Value)(b:Bool):Bool:=match v with| .bool c=>c==b|_=>false
@[simp] theorem aSV{c b:Bool}:Wb (.bool c) b=(c==b):=rfl
@[simp] theorem aSW{b:Bool}:Wb undef b=false:=rfl
@[simp] theorem aSX{t:Nat}{b:Bool}:eR A (some (t,b))=Wb (A t) b:=rfl
@[simp] theorem aOk{r:ld}:lu m A [r]=qj m A r:=rfl
@[simp] theorem aOj:lu m A []= .tuple #[]:=rfl
@[simp] theorem aOl{r s:ld}{l:List ld}:lu m A (r::s::l)= .tuple ((r::s::l).map (qj m A)).toArray:=rfl
@[simp] theorem aOf{t:Nat}:qj m A (.bw t)=A t:=rfl
@[simp] theorem aOe{t n:Nat}{dp:Bool}:qj m A (.im t dp n)=kM m dp n (A t):=rfl
@[simp] theorem aOi{l:List ld}:k7 m A l=l.all (py m A):=rfl
@[simp] theorem aOd{t:Nat}:py m A (.bw t)=true:=rfl
@[simp] theorem aOc{t n:Nat}{dp:Bool}:py m A (.im t dp n)=(gD m (A t) n&&(dp||decide (n=1))):=rfl
@[simp] theorem aOb{l:List bp}:hl l m=if l.any (λo=>o.k.e3)=true then m.cf l.length else m:=by unfold hl;rfl
end
attribute [simp] uM sK eZ e4 qB O gL N U AW q3 xg Fh lo BW EK Ks FF sJ g1 nK oc ob AY byteOf qh l5
  ru lg CU Lc zp I9 tu oz qb BY xA o7 x0 md iq
attribute [simp] oa n6 jk lM S
@[simp] theorem aLr:ag.m6.e3=true:=rfl
@[simp] theorem aKY(a:List Value):(ag.c9 a).e3=true:=rfl
@[simp] theorem aK2(a:Operand):(ag.mz a).e3=true:=rfl
@[simp] theorem aK3(a b:Nat)(c:List Value)(d:List (Nat×Nat×Operand)):(ag.gM a b c d).e3=true:=rfl
@[simp] theorem aLc(a:Operand):(ag.nX a).e3=true:=rfl
@[simp] theorem aLs(a b:Nat)(c:List Value)(d e:Operand):(ag.kN a b c d e).e3=true:=rfl
@[simp] theorem aK0(a b:Nat)(c:List Value)(d e:Operand):(ag.np a b c d e).e3=true:=rfl
@[simp] theorem aKZ(a b:Nat)(c d:Operand):(ag.app a b c d).e3=true:=rfl
@[simp] theorem aK7(a:Operand):(ag.Cm a).e3=false:=rfl
@[simp] theorem aK8(a:List Value)(b:Operand):(ag.hv a b).e3=false:=rfl
@[simp] theorem aLt(a:kD)(b:Value)(c:Bool)(d e:Operand):(ag.m7 a b c d e).e3=false:=rfl
@[simp] theorem aLv(a:kD)(b c d:Operand):(ag.l3 a b c d).e3=false:=rfl
@[simp] theorem aLy(a b:Nat)(c:Operand):(ag.pC a b c).e3=false:=rfl
@[simp] theorem aLz(a:Nat)(b:Operand)(c:Option Operand)(d e:Operand):(ag.vK a b c d e).e3=false:=rfl
@[simp] theorem aLq(a:TypeId)(b:Operand):(ag.vu a b).e3=false:=rfl
@[simp] theorem aLD(a:TypeId)(b:Operand):(ag.zr a b).e3=false:=rfl
@[simp] theorem aLj(a:List (TypeId×Nat×Option (Bool×Nat)))(b:Operand)(c:List Operand):(ag.iR a b c).e3=false:=rfl
@[simp] theorem aLu(a:Operand):(ag.mq a).e3=false:=rfl
@[simp] theorem aLx(a b c:Operand):(ag.sQ a b c).e3=false:=rfl
@[simp] theorem aLw(a:Operand):(ag.qe a).e3=false:=rfl
@[simp] theorem aK4(a:List Value)(b:List (Nat×Nat×Operand)):(ag.fF a b).e3=false:=rfl
@[simp] theorem aLn(a:Bool)(b:Nat)(c:Operand):(ag.k5 a b c).e3=false:=rfl
@[simp] theorem aLC(a:Nat)(b c:Operand):(ag.store a b c).e3=false:=rfl
@[simp] theorem aK1(a:BinOp)(b:td)(c d:Operand):(ag.e8 a b c d).e3=false:=rfl
@[simp] theorem aLd(a:Bool)(b:List pK)(c d:Operand):(ag.wy a b c d).e3=false:=rfl
@[simp] theorem aLE(a:UnOp)(b:Operand):(ag.qs a b).e3=false:=rfl
@[simp] theorem aLa(a:IntKind)(b:Operand):(ag.si a b).e3=false:=rfl
@[simp] theorem aLb(a:Operand):(ag.Cq a).e3=false:=rfl
@[simp] theorem aK9(a:Operand):(ag.mT a).e3=false:=rfl
@[simp] theorem aLB(a:Operand)(b c:Option Operand):(ag.BT a b c).e3=false:=rfl
@[simp] theorem aLA(a:Nat)(b:Operand)(c d:Option Operand):(ag.nO a b c d).e3=false:=rfl
@[simp] theorem aLf(a:Nat)(b:Operand):(ag.so a b).e3=false:=rfl
@[simp] theorem aLg(a:Bool)(b c:Nat)(d:Operand):(ag.field a b c d).e3=false:=rfl
@[simp] theorem aLh(a:Nat)(b c:Operand):(ag.oH a b c).e3=false:=rfl
@[simp] theorem aLi(a b:Nat)(c d:Operand):(ag.ph a b c d).e3=false:=rfl
@[simp] theorem aLk(a b:Operand):(ag.tL a b).e3=false:=rfl
@[simp] theorem aLe(a:Nat)(b:Operand):(ag.ext a b).e3=false:=rfl
@[simp] theorem aLl(a:Operand):(ag.sL a).e3=false:=rfl
@[simp] theorem aLm(a:Operand):(ag.sM a).e3=false:=rfl
@[simp] theorem aLo(a:Bool)(b:Operand)(c:List Operand):(ag.pq a b c).e3=false:=rfl
@[simp] theorem aLp(a:Fn)(b c:List Operand):(ag.ub a b c).e3=false:=rfl
@[simp] theorem aK5(a:Nat)(b:List Operand):(ag.dY a b).e3=false:=rfl
@[simp] theorem aK6(a:Operand)(b:List Operand):(ag.iN a b).e3=false:=rfl
abbrev F(n:Nat):Operand:= .tmp n
abbrev z(i d x:Nat):bp:=⟨i,some d,none,.mq (.tmp x),[]⟩
abbrev a5(i d:Nat)(n:Int):bp:=⟨i,some d,none,.mq (.const (.int .i64 n)),[]⟩
abbrev cr(i d:Nat)(b:Bool):bp:=⟨i,some d,none,.mq (.const (.bool b)),[]⟩
abbrev ao(i d x:Nat):bp:=⟨i,some d,none,.k5 false 1 (.tmp x),[]⟩
abbrev bL(i d n x:Nat):bp:=⟨i,some d,none,.k5 true n (.tmp x),[]⟩
abbrev ay(i d n x:Nat):bp:=⟨i,some d,none,.so n (.tmp x),[]⟩
abbrev df(i d:Nat)(op:BinOp)(x y:Operand):bp:=⟨i,some d,none,.e8 op .fW x y,[]⟩
abbrev aY(i d J x y:Nat):bp:=⟨i,some d,none,.oH J (.tmp x) (.tmp y),[]⟩
abbrev bq(i d x:Nat):bp:=⟨i,some d,none,.sM (.tmp x),[]⟩
abbrev b3(i d n x:Nat):bp:=⟨i,some d,none,.ext n (.tmp x),[]⟩
abbrev b0(i d f:Nat)(bY:List Operand):bp:=⟨i,some d,none,.dY f bY,[]⟩
abbrev bz(i n x y:Nat):bp:=⟨i,none,none,.store n (.tmp x) (.tmp y),[]⟩
abbrev a4(i d:Nat)(k:ag):bp:=⟨i,some d,none,k,[]⟩
abbrev cQ(i d j:Nat)(b:Bool)(k:ag):bp:=⟨i,some d,some (j,b),k,[]⟩
abbrev iS(i d:Nat)(k:ag)(a9:List (Operand×Operand)):bp:=⟨i,some d,none,k,a9⟩
abbrev rM(i:Nat)(k:ag):bp:=⟨i,none,none,k,[]⟩
abbrev cI(ch cb cG:Nat):bp:=df ch cb .add (F cG) (.const (.int .i64 1))
abbrev cR(ch cb cG dn:Nat):bp:=a4 ch cb (.sQ (F cG) (F dn) (.const (.bool false)))
abbrev cY(ch cb cG dn:Nat):bp:=df ch cb .lss (F cG) (F dn)
abbrev c6(ch cb cG dn:Nat):bp:=a4 ch cb (.sQ (F cG) (.const (.bool true)) (F dn))
abbrev db(ch cb cG dn gy:Nat):bp:=b0 ch cb cG [F dn,F gy]
abbrev dg(ch cb cG dn:Nat):bp:=cQ ch cb cG true (.mq (F dn))
abbrev du(ch cb cG dn:Nat):bp:=cQ ch cb cG false (.mq (F dn))
abbrev dJ(ch cb cG:Nat):bp:=a4 ch cb (.mz (F cG))
abbrev dM(ch cb cG gy:Nat):bp:=cQ ch cb cG false (.k5 false 1 (F gy))
abbrev dQ(ch cb cG gy:Nat):bp:=cQ ch cb cG true (.k5 false 1 (F gy))
abbrev dV(ch cb:Nat):bp:=a4 ch cb (.mq (.const (.slice none 0 0)))
abbrev eg(ch cb cG dn gy:Nat):bp:=cQ ch cb cG false (.so dn (F gy))
abbrev eB(ch cb cG dn gy:Nat):bp:=cQ ch cb cG true (.so dn (F gy))
abbrev fq(ch cb cG:Nat):bp:=a4 ch cb (.qe (F cG))
abbrev g6(ch cb cG:Nat):bp:=a4 ch cb (.qs .not (F cG))
abbrev hc(ch cb cG dn:Nat):bp:=df ch cb .add (F cG) (F dn)
abbrev h0(ch:Nat)(cb:Nat)(cG:Nat)(dn:Int):bp:=df ch cb .sub (F cG) (.const (.int .i64 dn))
abbrev iC(ch cb cG dn gy pG:Nat):bp:=a4 ch cb (.app cG dn (F gy) (F pG))
abbrev iT(ch cb cG dn:Nat):bp:=cQ ch cb cG false (.sM (F dn))
abbrev jh(ch cb cG dn:Nat):bp:=cQ ch cb cG false (.qs .not (F dn))
abbrev jv(ch cb cG dn gy:Nat):bp:=cQ ch cb cG false (.dY dn [F gy])
abbrev jK(ch cb cG:Nat):bp:=a4 ch cb (.si .u64 (F cG))
abbrev jX(ch:Nat)(cb:Nat)(cG:Nat)(dn:Int):bp:=df ch cb .gtr (F cG) (.const (.int .i64 dn))
abbrev kt(ch:Nat)(cb:Nat)(cG:Nat)(dn:Int):bp:=df ch cb .lss (F cG) (.const (.int .i64 dn))
abbrev kI(ch:Nat)(cb:Nat)(cG:Nat)(dn:Int):bp:=df ch cb .eql (F cG) (.const (.int .i64 dn))
abbrev kJ(ch cb cG dn gy:Nat):bp:=cQ ch cb cG true (.k5 true dn (F gy))
abbrev k3(ch cb cG dn:Nat):bp:=cQ ch cb cG true (.sM (F dn))
abbrev k4(ch:Nat)(cb:Nat)(cG:Nat)(dn:Nat)(gy:Int):bp:=b0 ch cb cG [F dn,.const (.int .i64 gy)]
abbrev lL(ch:Nat)(cb:Nat)(cG:Nat)(dn:Int):bp:=df ch cb .geq (F cG) (.const (.int .i64 dn))
abbrev l2(ch:Nat)(cb:Nat)(cG:Int)(dn:Nat):bp:=df ch cb .add (.const (.int .i64 cG)) (F dn)
abbrev ml(ch cb cG dn gy pG:Nat):bp:=cQ ch cb cG true (.oH dn (F gy) (F pG))
abbrev mm(ch:Nat)(cb:Nat)(cG:Nat)(dn:Nat)(gy:Int):bp:=cQ ch cb cG false (.e8 .gtr .fW (F dn) (.const (.int .i64 gy)))
abbrev mI(ch cb cG dn gy:Nat):bp:=cQ ch cb cG false (.k5 true dn (F gy))
abbrev m3(ch cb cG dn gy:Nat):bp:=cQ ch cb cG true (.dY dn [F gy])
abbrev nF(ch cb cG dn:Nat):bp:=df ch cb .neq (F cG) (F dn)
abbrev n7(ch cb cG dn gy pG:Nat):bp:=cQ ch cb cG false (.oH dn (F gy) (F pG))
abbrev n8(ch:Nat)(cb:Nat)(cG:Nat)(dn:Nat)(gy:Int):bp:=cQ ch cb cG true (.e8 .leq .fW (F dn) (.const (.int .i64 gy)))
abbrev n9(ch cb cG:Nat):bp:=a4 ch cb (.si .u32 (F cG))
abbrev pl(ch:Nat)(cb:Nat)(cG:Nat)(dn:Nat)(gy:Int):bp:=cQ ch cb cG true (.e8 .eql .fW (F dn) (.const (.int .i64 gy)))
abbrev qc(ch cb pG rg:Nat):bp:=a4 ch cb (.kN 1 8 [.int .i64 0] (F pG) (F rg))
abbrev qW(ch cb cG dn gy:Nat):bp:=cQ ch cb cG false (.e8 .neq .fW (F dn) (F gy))
abbrev qX(ch cb cG dn gy pG:Nat):bp:=cQ ch cb cG true (.dY dn [F gy,F pG])
abbrev qY(ch cb cG dn gy:Nat):bp:=a4 ch cb (.nO cG (F dn) none (some (F gy)))
abbrev rR(ch cb cG dn:Nat):bp:=cQ ch cb cG true (.qs .not (F dn))
abbrev rS(ch cb cG dn:Nat):bp:=cQ ch cb cG true (.e8 .sub .fW (F dn) (.const (.int .i64 1)))
abbrev tT(ch:Nat)(cb:Nat)(cG:Nat)(dn:Int)(gy:Int):bp:=b0 ch cb cG [.const (.int .i64 dn),.const (.int .i64 gy)]
abbrev tU(ch cb cG:Nat):bp:=df ch cb .neq (F cG) (.const (.int .i64 0))
abbrev vl(ch cb aiE:Nat):bp:=a4 ch cb (.gM 1 1 [.int .i64 0] [(0,1,F aiE)])
abbrev vm(ch:Nat)(cb:Nat)(cG:Int):bp:=a4 ch cb (.mq (.const (.int .u64 cG)))
abbrev vn(ch cb cG dn gy rg:Nat):bp:=cQ ch cb cG true (.dY dn [F gy,.const (.int .i64 0),F rg])
abbrev vo(ch cb dn:Nat):bp:=df ch cb .sub (.const (.int .i64 (-1))) (F dn)
abbrev w1(ch cb pG rg:Nat):bp:=a4 ch cb (.kN 1 4 [.int .u32 0] (F pG) (F rg))
abbrev yT(ch cb cG dn gy:Nat):bp:=cQ ch cb cG true (.e8 .lss .fW (F dn) (F gy))
abbrev yU(ch cb cG dn gy:Nat):bp:=cQ ch cb cG false (.e8 .geq .fW (F dn) (F gy))
abbrev yV(ch cb O5:Nat):bp:=a4 ch cb (.gM 3 1 [.int .i64 0,.int .i64 0,.int .i64 0] [(0,3,F O5)])
abbrev yW(ch cb cG dn:Nat):bp:=cQ ch cb cG true (.e8 .gtr .fW (F dn) (.const (.int .i64 0)))
abbrev yX(ch cb cG dn:Nat):bp:=a4 ch cb (.oH cG (F dn) (.const (.int .i64 0)))
abbrev yY(ch cb rg:Nat):bp:=a4 ch cb (.gM 1 1 [.string ⟨#[]⟩] [(0,1,F rg)])
abbrev yZ(ch:Nat)(cb:Nat)(cG:Nat)(dn:Int):bp:=df ch cb .shr (F cG) (.const (.int .u64 dn))
abbrev AZ(ch cb gy pG:Nat):bp:=a4 ch cb (.kN 1 1 [.bool false] (F gy) (F pG))
abbrev A0(ch cb aiF:Nat):bp:=a4 ch cb (.gM 1 1 [.slice none 0 0] [(0,1,F aiF)])
abbrev A1(ch:Nat)(cb:Nat)(cG:Nat)(dn:Int):bp:=rM ch (.store cb (F cG) (.const (.int .i64 dn)))
abbrev A2(ch:Nat)(cb:Nat)(cG:Nat)(dn:Nat)(gy:Nat)(rg:Int):bp:=cQ ch cb cG true (.dY dn [F gy,.const (.int .i64 1),.const (.int .i64 rg)])
abbrev A3(ch:Nat)(cb:Nat)(cG:Nat)(dn:Nat)(gy:Int)(pG:Int):bp:=b0 ch cb cG [F dn,.const (.int .i64 gy),.const (.int .i64 pG)]
abbrev A4(ch cb rg O5:Nat):bp:=a4 ch cb (.fF [.int .i64 0,.int .i64 0] [(0,1,F rg),(1,1,F O5)])
abbrev A5(ch cb cG dn:Nat):bp:=cQ ch cb cG false (.e8 .lss .fW (F dn) (.const (.int .i64 0)))
abbrev A6(ch:Nat)(cb:Nat)(cG:Nat)(dn:Nat)(gy:Int):bp:=cQ ch cb cG true (.e8 .leq .fW (F dn) (.const (.int .u8 gy)))
abbrev A7(ch cb O4:Nat):bp:=a4 ch cb (.gM 4 1 [.int .i64 0,.int .i64 0,.int .i64 0,.int .i64 0] [(0,4,F O4)])
abbrev D0(ch:Nat)(cb:Nat)(cG:Nat)(dn:Int):bp:=a4 ch cb (.pq true (F cG) [.const (.int .i64 dn)])
abbrev D1(ch cb O4:Nat):bp:=a4 ch cb (.gM 3 1 [.bool false,.slice none 0 0,.slice none 0 0] [(0,3,F O4)])
abbrev D2(ch cb cG dn:Nat):bp:=cQ ch cb cG false (.e8 .neq .fW (F dn) (.const (.int .i64 0)))
abbrev D3(ch cb cG dn gy:Nat):bp:=cQ ch cb cG false (.sQ (F dn) (F gy) (.const (.bool false)))
abbrev D4(ch cb dn rg:Nat):bp:=a4 ch cb (.app 1 dn (.const (.slice none 0 0)) (F rg))
abbrev H7(ch cb cG dn:Nat):bp:=cQ ch cb cG false (.e8 .eql .fW (F dn) (.const (.int .i64 0)))
abbrev TQ(ch cb aE4:Nat):bp:=a4 ch cb (.gM 17 1 [.string ⟨#[]⟩,.int .i64 0,.int .i64 0,.int .i64 0,.int .i64 0,.int .i64 0,.int .i64 0,.int .i64 0,.int .i64 0,.slice none 0 0,.slice none 0 0,.bool false,.slice none 0 0,.slice none 0 0,.bool false,.slice none 0 0,.slice none 0 0] [(0,17,F aE4)])
attribute [simp] cI cR cY c6 db dg du dJ dM dQ dV eg eB fq g6 hc h0 iC iT jh jv jK jX kt kI kJ k3 k4 lL l2 ml mm mI m3 nF n7 n8 n9 pl qc qW qX qY rR rS tT tU vl vm vn vo w1 yT yU yV yW yX yY yZ AZ A0 A1 A2 A3 A4 A5 A6 A7 D0 D1 D2 D3 D4 H7 TQ
attribute [simp] F z a5 cr ao bL ay df aY bq b3 b0 bz a4 cQ iS rM
section
variable {m:W} {b cd k:Nat} {x y:Option fB} {J:fB}
@[simp] theorem mr:(m.a0 b x).next=m.next:=rfl
@[simp] theorem y3:(m.cf k).next=m.next+k:=rfl
theorem a6(h:m.X b=some J):b<m.next:=by
  unfold W.X at h;split at h
  · assumption
  · cases h
theorem eD(h:b<m.next):(m.a0 b x).X b=x:=by simp[W.X,W.a0,h]
theorem bR(h:cd≠b):(m.a0 b x).X cd=m.X cd:=by simp[W.X,W.a0,h]
theorem e0(h:b<m.next):(m.cf k).X b=m.X b:=by
  have:b<m.next+k:=by omega
  simp[W.X,W.cf,h,this]
@[simp] theorem aML{bc:List (Value×Value)}:(m.g2 b bc).next=m.next:=rfl
theorem aO:(∀(m:W) (b:Nat) (x:Option fB),(m.a0 b x).next=m.next)/\(∀(m:W) (k:Nat),(m.cf k).next=m.next+k)/\ ∀(m:W) (b:Nat) (bc:List (Value×Value)),(m.g2 b bc).next=m.next:=⟨λ_ _ _=>rfl,λ_ _=>rfl,λ_ _ _=>rfl⟩
theorem FT{bc:List (Value×Value)}(h:b<m.next):(m.g2 b bc).X b=some ⟨[],true⟩:=by simp[W.X,W.g2,h]
theorem mW{bc:List (Value×Value)}(h:cd≠b):(m.g2 b bc).X cd=m.X cd:=by simp[W.X,W.g2,h]
theorem FQ{bc:List (Value×Value)}(h:b<m.next):(m.g2 b bc).eS b=some bc:=by simp[W.eS,FT h];simp[W.g2]
theorem FP{bc:List (Value×Value)}(h:cd≠b):(m.g2 b bc).eS cd=m.eS cd:=by simp[W.eS,mW h];simp[W.g2,h]
theorem tv(h:cd≠b):(m.a0 b x).eS cd=m.eS cd:=by simp[W.eS,bR h];rfl
theorem Qp(h:b<m.next):(m.cf k).eS b=m.eS b:=by simp[W.eS,e0 h];rfl
theorem aBO:(m.a0 b x).a0 b y=m.a0 b y:=by simp only[W.a0,W.mk.injEq,true_and,and_true];funext i;by_cases h:i=b<;>simp[h]
@[simp] theorem ajC{a o n:Nat}:gD m (.pointer (some ⟨a,o,none⟩)) n=(match m.X a with|some x=>decide (o+n<=x.cells.length)|none=>false):=rfl
@[simp] theorem WY{a o:Nat}:pT m (.pointer (some ⟨a,o,none⟩))=(match m.X a with|some x=>x.own|none=>false):=rfl
@[simp] theorem aAi{a o n:Nat}{dp:Bool}:kM m dp n (.pointer (some ⟨a,o,none⟩))=if dp then .agg (hP m a o n).toArray else(hP m a o 1).headD undef:=rfl
@[simp] theorem XD{a o n:Nat}:hP m a o n=match m.X a with|some x=>(x.cells.drop o).take n|none=>[]:=rfl
@[simp] theorem aEb{a o:Nat}{cs:List Value}:nP m (.pointer (some ⟨a,o,none⟩)) cs=match m.X a with|some x=>m.a0 a (some ⟨gL x.cells o cs,x.own⟩)|none=>m:=rfl
@[simp] theorem ahO{a o l c n:Nat}:fS m n (.slice (some ⟨a,o,none⟩) l c)=(c==n&&(match m.X a with|some x=>decide (o+l*n<=x.cells.length)|none=>false)):=rfl
@[simp] theorem aRv{n:Nat}:fS m n (.slice none 0 0)=true:=rfl
@[simp] theorem aRx{a o l c:Nat}:kj m (.slice (some ⟨a,o,none⟩) l c)=(match m.X a with|some x=>x.own|none=>false):=rfl
@[simp] theorem aRw{l c:Nat}:kj m (.slice none l c)=true:=rfl
@[simp] theorem aD3{a o l c n:Nat}:gj m n (.slice (some ⟨a,o,none⟩) l c)=hP m a o (l*n):=rfl
@[simp] theorem aRq{l c n:Nat}:gj m n (.slice none l c)=[]:=rfl
@[simp] theorem aL8{a o l c:Nat}:kL m (.slice (some ⟨a,o,none⟩) l c)=m.a0 a none:=rfl
@[simp] theorem aL7{l c:Nat}:kL m (.slice none l c)=m:=rfl
end
theorem fV{n:Int}(E: -9223372036854775808<=n)(I:n<=9223372036854775807):IntKind.i64.wrap n=n:=IntWalk.i64_in n ⟨E,I⟩
theorem gY{n:Nat}(h:n<9223372036854775807):IntKind.i64.wrap ((n:Int)+1)=(n:Int)+1:=fV (by omega) (by omega)
theorem kp{c4:Type}{l:List c4}{i:Nat}(h:i<l.length): ∃x,l[i]?=some x:=⟨_,List.getElem?_eq_getElem h⟩
section
variable {P:Program} {A:aR} {m:W} {Q:dA->aR->W->Prop}
def Be(cS:aR->W->Prop)(Q:dA->aR->W->Prop)(e:dA)(A:aR)(m:W):Prop:=match e with| .ew=>cS A m|e=>Q e A m
@[simp] theorem aMu{cS:aR->W->Prop}:Be cS Q .ew A m=cS A m:=rfl
@[simp] theorem aMt{cS:aR->W->Prop}{id:Nat}:Be cS Q (.a7 id) A m=Q (.a7 id) A m:=rfl
@[simp] theorem aMv{cS:aR->W->Prop}:Be cS Q .aF A m=Q .aF A m:=rfl
theorem ER{c:H}(h: ∀cS:aR->W->Prop,(∀ak aq,ia P (.loop c) ak aq Q->cS ak aq)->ia P c A m (Be cS Q)):ia P (.loop c) A m Q:=by rw[aiy];refine(h (λak aq=>ia P (.loop c) ak aq Q) (λ_ _ h=>h)).b8 λe ak aq h=> ?_;cases e<;>exact h
def K9(P:Program)(bh:List (TypeId×Nat×Option (Bool×Nat)))(v:Value)(args:List Value)(m:W)(cj:Value->W->Prop):Prop:=match v with
  | .iface t v=>match bh.find? (λr=>r.1==t)with
    |some (_,f,none)=>gp P f (v::args) m cj
    |some (_,f,some (dp,n))=>(gD m v n&&(dp||decide (n=1)))=true/\gp P f (kM m dp n v::args) m cj
    |none=>False
  |_=>False
theorem aE0{base aS:Nat}{d:Option Nat}{b4:List bp}{aW:aR->W->Prop}{a9:List (Operand×Operand)}{bh:List (TypeId×Nat×Option (Bool×Nat))}{x:Operand}{bY:List Operand}:
    hI P base (⟨aS,d,none,.iR bh x bY,a9⟩::b4) A m aW=K9 P bh (Z A x) (bY.map (Z A)) m (wi P base d a9 b4 A m aW):=by
  have Q9:(ag.iR bh x bY).fj A m=none->hI P base (⟨aS,d,none,.iR bh x bY,a9⟩::b4) A m aW=False:= λgA=>by refine propext ⟨λ⟨n,ak,aq,h,q⟩=> ?_,False.elim⟩;obtain⟨bQ,bk,E,_,_⟩:=q6 h;obtain⟨au,_⟩:=VU (o:=⟨aS,d,none,.iR bh x bY,a9⟩) rfl gA E;cases au
  unfold K9;split
  · rename_i t v ad;split
    · rename_i r f aw;exact O0 (by simp only[ag.fj,ad,aw])
    · rename_i r f dp n aw;by_cases au:(gD m v n&&(dp||decide (n=1)))=true
      · rw[O0 (f:=f) (args:=kM m dp n v::bY.map (Z A)) (by simp only[ag.fj,ad,aw,au,if_true])];simp only[au,true_and]
      · rw[Q9 (by simp only[ag.fj,ad,aw,if_neg au])];exact propext ⟨False.elim,λh=>absurd h.1 au⟩
    · rename_i aw;rw[Q9 (by simp only[ag.fj,ad,aw])]
  · rename_i ad;refine Q9 ?_;simp only[ag.fj]
@[simp] theorem aEZ{base aS:Nat}{d:Option Nat}{b4:List bp}{aW:aR->W->Prop}{a9:List (Operand×Operand)}{bh:List (TypeId×Nat×Option (Bool×Nat))}{x:Operand}{bY:List Operand}:
    hI P base (⟨aS,d,none,.iR bh x bY,a9⟩::b4) A m aW=K9 P bh (Z A x) (bY.map (Z A)) m (wi P base d a9 b4 A m aW):=aE0
end
@[simp] theorem aMg{d gX:Value}{l:List Value}:(gX::l)[0]?.getD d=gX:=rfl
@[simp] theorem aMh{d gX bu:Value}{l:List Value}:(gX::bu::l)[1]?.getD d=bu:=rfl
@[simp] theorem aMi{d gX bu bN:Value}{l:List Value}:(gX::bu::bN::l)[2]?.getD d=bN:=rfl
@[simp] theorem aMj{d gX bu bN cn:Value}{l:List Value}:(gX::bu::bN::cn::l)[3]?.getD d=cn:=rfl
@[simp] theorem aMk{d gX bu bN cn eW:Value}{l:List Value}:(gX::bu::bN::cn::eW::l)[4]?.getD d=eW:=rfl
@[simp] theorem aMl{d gX bu bN cn eW fU:Value}{l:List Value}:(gX::bu::bN::cn::eW::fU::l)[5]?.getD d=fU:=rfl
@[simp] theorem aMm{d gX bu bN cn eW fU h4:Value}{l:List Value}:(gX::bu::bN::cn::eW::fU::h4::l)[6]?.getD d=h4:=rfl
@[simp] theorem aMn{d gX bu bN cn eW fU h4 j8:Value}{l:List Value}:(gX::bu::bN::cn::eW::fU::h4::j8::l)[7]?.getD d=j8:=rfl
attribute [simp] ag.ok ag.val ag.gG
section
variable {p:Option Addr} {a:Addr} {l c J i j:Nat}
@[simp] theorem rT{s:ByteArray}:iv (.string s)=s.size:=rfl
@[simp] theorem aMd:iv (.slice p l c)=l:=rfl
@[simp] theorem aLK:yQ (.slice p l c)=true:=rfl
@[simp] theorem aRr:gI (.slice p l c)=l:=rfl
@[simp] theorem aRj{b o:Nat}:nf J (.slice (some ⟨b,o,none⟩) l c)=(c==J):=rfl
@[simp] theorem aRc{b o:Nat}{n:Int}:xw (.slice (some ⟨b,o,none⟩) l c) J n= .pointer (some ⟨b,o+n.toNat*J,none⟩):=rfl
@[simp] theorem aRo{b o:Nat}:pB (.slice (some ⟨b,o,none⟩) l c) J i j= .slice (some ⟨b,o+i*J,none⟩) (j-i) c:=rfl
@[simp] theorem aRi:nf J (.slice none 0 0)=true:=rfl
@[simp] theorem aRn:pB (.slice none 0 0) J i j= .slice none 0 0:=rfl
end
@[simp] theorem aSz{n:Nat}:min n IntKind.u64.bits=min n 64:=rfl
@[simp] theorem aSx{n:Nat}:min n IntKind.u32.bits=min n 32:=rfl
attribute [simp] eD bR e0 aBO
open Go Go.RowKit
structure fc(cO:Nat->Prop)(dX m ah:W):Prop where
  next:ah.next=m.next
  xF:dX.next<=m.next
  cB: ∀b,cO b->b<m.next
  off: ∀b,cO b->m.X b=none
  bF: ∀b,cO b->ah.X b=dX.X b/\ah.mp b=dX.mp b
  eq: ∀b,¬cO b->ah.X b=m.X b
  mp:ah.mp=m.mp
section
variable {cO:Nat->Prop} {dX m ah:W}
theorem fc.jN(M:fc cO dX m ah){b:Nat}{x:fB}(h:m.X b=some x): ¬cO b:= λaD=>by rw[M.off b aD]at h;cases h
theorem fc.X(M:fc cO dX m ah){b:Nat}{x:fB}(h:m.X b=some x):ah.X b=some x:=by rw[M.eq b (M.jN h),h]
theorem fc.eS(M:fc cO dX m ah){b:Nat}{e:List (Value×Value)}(h:m.eS b=some e):ah.eS b=some e:=by
  unfold W.eS at h⊢;cases aP:m.X b with
  |none=>rw[aP]at h;cases h
  |some x=>rw[aP]at h;rw[M.X aP,M.mp];exact h
theorem fc.Qq(M:fc cO dX m ah){b:Nat}{e:List (Value×Value)}(h:m.eS b=some e): ¬cO b:=by
  unfold W.eS at h;cases aP:m.X b with
  |none=>rw[aP]at h;cases h
  |some x=>exact M.jN aP
theorem fc.a0(M:fc cO dX m ah){b:Nat}(hb: ¬cO b)(x:Option fB):fc cO dX (m.a0 b x) (ah.a0 b x) where
  next:=M.next
  xF:=M.xF
  cB:=M.cB
  off c ar:=by rw[bR (show c≠b from λh=>hb (h▸ar)),M.off c ar]
  bF c ar:=⟨by rw[bR (show c≠b from λh=>hb (h▸ar)),(M.bF c ar).1],(M.bF c ar).2⟩
  eq c ar:=by
    by_cases h:c=b
    · subst h;simp only[W.X,W.a0,M.next,if_true]
    · rw[bR h,bR h,M.eq c ar]
  mp:=M.mp
theorem fc.g2(M:fc cO dX m ah){b:Nat}(hb: ¬cO b)(e:List (Value×Value)):fc cO dX (m.g2 b e) (ah.g2 b e) where
  next:=M.next
  xF:=M.xF
  cB:=M.cB
  off c ar:=by rw[mW (show c≠b from λh=>hb (h▸ar)),M.off c ar]
  bF c ar:=by refine⟨by rw[mW (show c≠b from λh=>hb (h▸ar)),(M.bF c ar).1],by show(if c=b then some e else ah.mp c)=_;rw[if_neg (show c≠b from λh=>hb (h▸ar))];exact(M.bF c ar).2⟩
  eq c ar:=by
    by_cases h:c=b
    · subst h;simp only[W.X,W.g2,M.next,if_true]
    · rw[mW h,mW h,M.eq c ar]
  mp:=by show(λi=>if i=b then some e else ah.mp i)=_;rw[M.mp];rfl
theorem fc.cf(M:fc cO dX m ah)(k:Nat):fc cO dX (m.cf k) (ah.cf k) where
  next:=by show ah.next+k=m.next+k;rw[M.next]
  xF:=by have:=M.xF;show dX.next<=m.next+k;omega
  cB b hb:=by have:=M.cB b hb;show b<m.next+k;omega
  off b hb:=by rw[e0 (M.cB b hb),M.off b hb]
  bF b hb:=⟨by rw[e0 (by rw[M.next];exact M.cB b hb),(M.bF b hb).1],(M.bF b hb).2⟩
  eq b hb:=by
    by_cases h:b<m.next
    · rw[e0 h,e0 (by rw[M.next];exact h),M.eq b hb]
    · simp[W.X,W.cf,M.next,h]
  mp:=M.mp
theorem fc.gD(M:fc cO dX m ah){v:Value}{n:Nat}(h:gD m v n=true):gD ah v n=true:=by
  unfold DI.gD at h⊢;split at h
  · rename_i a;simp only[a1]at h⊢;refine⟨h.1,?_⟩;cases aP:m.X a.block with
    |none=>rw[aP]at h;simp at h
    |some x=>rw[aP]at h;rw[M.X aP];exact h.2
  · cases h
theorem fc.pT(M:fc cO dX m ah){v:Value}(h:pT m v=true):pT ah v=true:=by
  unfold DI.pT at h⊢;split at h
  · rename_i a;cases aP:m.X a.block with
    |none=>rw[aP]at h;cases h
    |some x=>rw[aP]at h;rw[M.X aP];exact h
  · cases h
theorem fc.kM(M:fc cO dX m ah){v:Value}{n:Nat}{dp:Bool}(h:DI.gD m v n=true):kM ah dp n v=kM m dp n v:=by
  unfold DI.gD at h;split at h
  · rename_i a;simp only[a1]at h;cases aP:m.X a.block with
    |none=>rw[aP]at h;simp at h
    |some x=>simp only[DI.kM,hP,aP,M.X aP]
  · cases h
theorem fc.nP(M:fc cO dX m ah){v:Value}{n:Nat}{cs:List Value}(h:DI.gD m v n=true):fc cO dX (nP m v cs) (nP ah v cs):=by
  unfold DI.gD at h;split at h
  · rename_i a;simp only[a1]at h;cases aP:m.X a.block with
    |none=>rw[aP]at h;simp at h
    |some x=>simp only[DI.nP,aP,M.X aP];exact M.a0 (M.jN aP) _
  · cases h
theorem fc.fS(M:fc cO dX m ah){v:Value}{J:Nat}(h:fS m J v=true):fS ah J v=true:=by
  unfold DI.fS at h⊢;split at h
  · exact h
  · rename_i a l c;simp only[a1]at h⊢;refine⟨h.1,?_⟩;cases aP:m.X a.block with
    |none=>rw[aP]at h;simp at h
    |some x=>rw[aP]at h;rw[M.X aP];exact h.2
  · cases h
theorem fc.kj(M:fc cO dX m ah){v:Value}(h:kj m v=true):kj ah v=true:=by
  unfold DI.kj at h⊢;split at h
  · rfl
  · rename_i a l c;cases aP:m.X a.block with
    |none=>rw[aP]at h;cases h
    |some x=>rw[aP]at h;rw[M.X aP];exact h
  · cases h
theorem fc.gj(M:fc cO dX m ah){v:Value}{J:Nat}(h:DI.fS m J v=true):gj ah J v=gj m J v:=by
  unfold DI.fS at h;split at h
  · rfl
  · rename_i a l c;simp only[a1]at h;cases aP:m.X a.block with
    |none=>rw[aP]at h;simp at h
    |some x=>simp only[DI.gj,hP,aP,M.X aP]
  · cases h
theorem fc.kL(M:fc cO dX m ah){v:Value}{J:Nat}(h:DI.fS m J v=true):fc cO dX (kL m v) (kL ah v):=by
  unfold DI.fS at h;split at h
  · exact M
  · rename_i a l c;simp only[a1]at h;cases aP:m.X a.block with
    |none=>rw[aP]at h;simp at h
    |some x=>exact M.a0 (M.jN aP) _
  · cases h
theorem fc.mS(M:fc cO dX m ah){v:Value}{J:Nat}{cs:List Value}(h:DI.fS m J v=true):fc cO dX (mS m cs v) (mS ah cs v):=by
  unfold DI.fS at h;split at h
  · exact M
  · rename_i a l c;simp only[a1]at h;cases aP:m.X a.block with
    |none=>rw[aP]at h;simp at h
    |some x=>simp only[DI.mS,aP,M.X aP];exact M.a0 (M.jN aP) _
  · cases h
theorem fc.ku(M:fc cO dX m ah){v:Value}{bc:List (Value×Value)}(h:ku m v=some bc):ku ah v=some bc:=by
  unfold DI.ku at h⊢;split at h
  · exact h
  · exact M.eS h
  · cases h
theorem Iq(M:fc cO dX m ah){k:ag}{A:aR}(h:k.ok A m=true):k.ok A ah=true:=by
  cases k with
  |pC J n y=>simp only[ag.ok,a1]at h⊢;exact⟨M.gD h.1,h.2⟩
  |k5 dp n x=>simp only[ag.ok,a1]at h⊢;exact⟨M.gD h.1,h.2⟩
  |store n x v=>simp only[ag.ok,a1]at h⊢;exact⟨⟨⟨M.gD h.1.1.1,M.pT h.1.1.2⟩,h.1.2⟩,h.2⟩
  |mT x=>simp only[ag.ok,a1]at h⊢;exact⟨M.fS h.1,by rw[M.gj h.1];exact h.2⟩
  |app J bytes x y=>simp only[ag.ok,a1]at h⊢;exact⟨⟨⟨⟨⟨M.fS h.1.1.1.1.1,M.kj h.1.1.1.1.2⟩,M.fS h.1.1.1.2⟩,h.1.1.2⟩,h.1.2⟩,h.2⟩
  |hv J x=>simp only[ag.ok,a1]at h⊢;exact⟨⟨M.fS h.1.1,M.kj h.1.2⟩,h.2⟩
  | m7 a9 J o x fN=>
    simp only[ag.ok]at h⊢;cases ax:DI.ku m (Z A x)with
    |none=>rw[ax]at h;cases h
    |some bc=>rw[ax]at h;rw[M.ku ax];exact h
  | l3 a9 x fN v=>
    simp only[ag.ok]at h⊢;split at h
    · rename_i ch b hb;cases ax:m.eS b with
      |none=>rw[ax]at h;cases h
      |some bc=>rw[ax]at h;rw[M.eS ax];exact h
    · cases h
  |_=>exact h
theorem Jh(M:fc cO dX m ah){k:ag}{A:aR}{id:Nat}(h:k.ok A m=true):k.val id A ah=k.val id A m:=by
  cases k with
  |k5 dp n x=>simp only[ag.ok,a1]at h;exact M.kM h.1
  |mT x=>simp only[ag.ok,a1]at h;simp only[ag.val,M.gj h.1]
  | m7 a9 J o x fN=>
    simp only[ag.ok]at h;cases ax:DI.ku m (Z A x)with
    |none=>rw[ax]at h;cases h
    |some bc=>simp only[ag.val,ax,M.ku ax]
  |_=>rfl
theorem Ij(M:fc cO dX m ah){k:ag}{A:aR}{id:Nat}(ep: ¬cO id)(h:k.ok A m=true):fc cO dX (k.gG id A m) (k.gG id A ah):=by
  cases k with
  |c9 J=>exact M.a0 ep _
  |mz x=>exact M.a0 ep _
  |gM a b c d=>exact M.a0 ep _
  |nX x=>exact M.a0 ep _
  |np a b c d e=>exact M.a0 ep _
  |hv J x=>simp only[ag.ok,a1]at h;exact M.mS h.1.1
  |kN a b c d e=>exact M.a0 ep _
  |store n x v=>simp only[ag.ok,a1]at h;exact M.nP h.1.1.1
  | app J bytes x y=>
    simp only[ag.ok,a1]at h;simp only[ag.gG];split
    · exact M
    · rw[M.gj h.1.1.1.1.1,M.gj h.1.1.1.2];exact(M.kL h.1.1.1.1.1).a0 ep _
  |m6=>exact M.g2 ep _
  | l3 a9 x fN v=>
    simp only[ag.ok]at h;split at h
    · rename_i ch b hb;cases ax:m.eS b with
      |none=>rw[ax]at h;cases h
      |some bc=>simp only[ag.gG,hb,vt,ax,M.eS ax];exact M.g2 (M.Qq ax) _
    · cases h
  |_=>exact M
theorem J5(M:fc cO dX m ah){k:ag}{A:aR}{kX:Nat×List Value}(h:k.fj A m=some kX):k.fj A ah=some kX:=by
  cases k with
  | iR bh x args=>
    simp only[ag.fj]at h⊢;split at h
    · split at h
      · exact h
      · split at h
        · rename_i ar;simp only[a1]at ar;rw[if_pos (by simp only[a1];exact⟨M.gD ar.1,ar.2⟩),M.kM ar.1];exact h
        · cases h
      · cases h
    · cases h
  |_=>exact h
theorem PI{m ah:W}{k:ag}{A:aR}(h:k.fj A m=none)(au:k.ok A m=true):k.fj A ah=none:=by
  refine rP ?_;cases k with
  |dY f a=>simp[ag.ok]at au
  |iN f a=>simp[ag.ok]at au
  |iR f a b=>simp[ag.ok]at au
  |_=>rfl
def JA(cO:Nat->Prop)(dX:W)(bJ:Callee):Prop:= ∀f a m r aq,bJ f a m=some (r,aq)-> ∀ah,fc cO dX m ah-> ∃cv,bJ f a ah=some (r,cv)/\fc cO dX aq cv
theorem TW{aq cv:W}(M:fc cO dX m ah)(cL:fc cO dX aq cv){A:aR}{a9:List (Operand×Operand)}(h:qZ A a9 m aq):qZ A a9 ah cv:= λp ab b hb=>by
  by_cases aD:cO b
  · rw[(M.bF b aD).1,(cL.bF b aD).1]
  · rw[M.eq b aD,cL.eq b aD];exact h p ab b hb
theorem VT{bJ:Callee}(ca:JA cO dX bJ)(M:fc cO dX m ah){base:Nat}(hb: ∀b,cO b->b<base){o:bp}{A ak:aR}{aq:W}(h:hF bJ base o A m=some (ak,aq))(aa:oy o A m aq):
    ∃cv,hF bJ base o A ah=some (ak,cv)/\fc cO dX aq cv/\oy o A ah cv:=by
  unfold hF at h⊢;unfold oy at aa⊢;by_cases a3:eR A o.g=true
  · rw[if_pos a3]at h⊢
    replace aa:=aa a3
    cases ar:o.k.fj A m with
    | none=>
      rw[ar]at h aa;simp only at h aa;split at h
      · rename_i au;cases h;simp only[PI ar au];rw[if_pos (Iq M au),Jh M au];exact⟨_,rfl,Ij M (λaD=>by have:=hb _ aD;omega) au,λ_=>aa⟩
      · cases h
    | some kX=>
      obtain⟨f,args⟩:=kX;rw[ar]at h aa;simp only at h aa;cases aT:bJ f args m with
      |none=>rw[aT]at h;cases h
      | some EO=>obtain⟨v,bk⟩:=EO;rw[aT]at h;cases h;obtain⟨cv,E,cL⟩:=ca _ _ _ _ _ aT ah M;simp only[J5 M ar,E];exact⟨_,rfl,cL,λ_=>TW M cL aa⟩
  · rw[if_neg a3]at h⊢;cases h;exact⟨ah,rfl,M,λh=>absurd h a3⟩
theorem xe{bJ:Callee}(ca:JA cO dX bJ){base:Nat}(hb: ∀b,cO b->b<base): ∀{L:List bp} {A ak:aR} {m aq ah:W},fc cO dX m ah->j3 bJ base L A m=some (ak,aq)-> ∃cv,j3 bJ base L A ah=some (ak,cv)/\fc cO dX aq cv
  |[],_,_,_,_,ah,M,h=>by cases h;exact⟨ah,rfl,M⟩
  | _::_,_,_,_,_,ah,M,h=>by obtain⟨bQ,bk,E,I,av⟩:=q6 h;obtain⟨c2,aK,cC,bb⟩:=VT ca M hb E I;obtain⟨fe,c0,fP⟩:=xe ca hb cC av;exact⟨fe,xn aK bb c0,fP⟩
theorem H4{f:aR->W->Option (dA×aR×W)}(aT: ∀A m e ak aq,f A m=some (e,ak,aq)-> ∀ah,fc cO dX m ah-> ∃cv,f A ah=some (e,ak,cv)/\fc cO dX aq cv):
    ∀{n:Nat} {A:aR} {m:W} {e:dA} {ak:aR} {aq ah:W},jJ f n A m=some (e,ak,aq)->fc cO dX m ah-> ∃cv,jJ f n A ah=some (e,ak,cv)/\fc cO dX aq cv
  |0,_,_,_,_,_,_,h,_=>by simp[jJ]at h
  | n+1,A,m,e,ak,aq,ah,h,M=>by
    rcases H5 h with⟨bQ,bk,E,I⟩|⟨E,I⟩
    · obtain⟨c2,aK,cC⟩:=aT _ _ _ _ _ E ah M;obtain⟨fe,bb,fP⟩:=H4 aT I cC;exact⟨fe,by simp only[jJ,aK];exact bb,fP⟩
    · obtain⟨c2,aK,cC⟩:=aT _ _ _ _ _ E ah M;refine⟨c2,?_,cC⟩;simp only[jJ,aK];cases e with
      |ew=>exact absurd rfl I
      |a7 id=>rfl
      |aF=>rfl
theorem CS{m:W}{b:Nat}:(nC m).X b=(m.X b).map CR:=by
  unfold W.X;show(if b<m.next then _ else _)=_;by_cases h:b<m.next
  · rw[if_pos h,if_pos h];rfl
  · rw[if_neg h,if_neg h];rfl
theorem fc.nC(M:fc cO dX m ah):fc cO (nC dX) (nC m) (nC ah) where
  next:=M.next
  xF:=M.xF
  cB:=M.cB
  off b hb:=by rw[CS,M.off b hb];rfl
  bF b hb:=⟨by rw[CS,CS,(M.bF b hb).1],rfl⟩
  eq b hb:=by rw[CS,CS,M.eq b hb]
  mp:=rfl
theorem fc.qp(M:fc cO dX m ah){J:Nat}{v:Value}(h:qp J m v=true):qp J ah v=true:=by
  unfold DI.qp at h⊢;split at h
  · rename_i a l c;cases aP:m.X a.block with
    |none=>rw[aP]at h;cases h
    |some x=>rw[aP]at h;rw[M.X aP];exact h
  · rfl
theorem fc.m4(M:fc cO dX m ah){o:bp}{A:aR}(h:m4 o A m=true):m4 o A ah=true:=by
  unfold DI.m4 at h⊢;simp only[a1]at h⊢;refine⟨⟨h.1.1,?_⟩,Iq M h.2⟩;have:=h.1.2;split at this
  · exact M.qp this
  · cases this
theorem nt{bJ:Callee}(ca: ∀dX,JA cO dX bJ){n:Nat}: ∀{c:H} {A ak:aR} {m aq ah:W} {e:dA},eu bJ n c A m=some (e,ak,aq)->fc cO dX m ah-> ∃cv,eu bJ n c A ah=some (e,ak,cv)/\fc cO dX aq cv
  | .skip,_,_,_,_,ah,_,h,M=>by cases h;exact⟨ah,rfl,M⟩
  | .D ops,A,ak,m,aq,ah,e,h,M=>by
    simp only[eu]at h⊢;split at h
    · rename_i bQ bk aw;cases h;have cL:fc cO dX (hl ops m) (hl ops ah):=by
        unfold hl;split
        · exact M.cf _
        · exact M
      obtain⟨cv,g,fP⟩:=xe (ca dX) (base:=m.next) (λb hb=>M.cB b hb) cL aw;refine⟨cv,?_,fP⟩;rw[M.next,g]
    · cases h
  | .q0 bX o b4,A,ak,m,aq,ah,e,h,M=>by
    simp only[eu]at h⊢;split at h
    · rename_i bQ bk E;split at h
      · rename_i au;split at h
        · rename_i dt dR I;cases h;obtain⟨c2,aK,cC⟩:=xe (ca dX) (base:=m.next) (λb hb=>M.cB b hb) (M.cf _) E;have aa:o.k.ok bQ bk=true:=(by unfold DI.m4 at au;simp only[a1]at au;exact au.2);obtain⟨fe,bb,fP⟩:=xe (ca _) (base:=m.next) (λb hb=>M.cB b hb) cC.nC I;rw[M.next,aK];simp only[cC.m4 au,if_true,Jh cC aa,bb,fP.next,cC.next];exact⟨_,rfl,(Ij cC (λaD=>by have:=M.cB _ aD;omega) aa).cf _⟩
        · cases h
      · cases h
    · cases h
  | .B a b,A,ak,m,aq,ah,e,h,M=>by
    simp only[eu]at h⊢;split at h
    · rename_i bQ bk E;obtain⟨c2,aK,cC⟩:=nt ca E M;obtain⟨fe,bb,fP⟩:=nt ca h cC;exact⟨fe,by rw[aK];exact bb,fP⟩
    · rename_i cJ;obtain⟨c2,aK,cC⟩:=nt ca h M;refine⟨c2,?_,cC⟩;rw[aK];cases e with
      |ew=>exact absurd h (cJ _ _)
      |a7 id=>rfl
      |aF=>rfl
  | .aM x a b,A,ak,m,aq,ah,e,h,M=>by
    simp only[eu]at h⊢;split at h
    · rename_i E;rw[if_pos E];split at h
      · rename_i I;rw[if_pos I];exact nt ca h M
      · rename_i I;rw[if_neg I];exact nt ca h M
    · cases h
  | .block id c,A,ak,m,aq,ah,e,h,M=>by
    simp only[eu]at h⊢;split at h
    · rename_i E;obtain⟨c2,aK,cC⟩:=nt ca E M;rw[aK];simp only;split at h
      · rename_i ep;cases h;exact⟨c2,by rw[if_pos ep],cC⟩
      · rename_i ep;cases h;exact⟨c2,by rw[if_neg ep],cC⟩
    · rename_i cJ;obtain⟨c2,aK,cC⟩:=nt ca h M;refine⟨c2,?_,cC⟩;rw[aK];cases e with
      |ew=>rfl
      |a7 id=>exact absurd h (cJ _ _ _)
      |aF=>rfl
  | .loop c,A,ak,m,aq,ah,e,h,M=>by simp only[eu]at h⊢;exact H4 (f:=eu bJ n c) (λA m e ak aq E ah M=>nt ca E M) h M
  | .a7 id,_,_,_,_,ah,_,h,M=>by cases h;exact⟨ah,rfl,M⟩
  | .aF,_,_,_,_,ah,_,h,M=>by cases h;exact⟨ah,rfl,M⟩
theorem BF(M:fc cO dX m ah){A:aR}{r:ld}(h:py m A r=true):py ah A r=true/\qj ah A r=qj m A r:=by
  cases r with
  |bw t=>exact⟨rfl,rfl⟩
  | im t dp n=>simp only[py,a1]at h⊢;exact⟨⟨M.gD h.1,h.2⟩,M.kM h.1⟩
theorem UI(M:fc cO dX m ah){A:aR}{cy:List ld}(h:k7 m A cy=true):k7 ah A cy=true/\lu ah A cy=lu m A cy:=by
  have aw: ∀r∈cy,py m A r=true:=by simpa[k7]using h
  refine⟨by simp only[k7,eQ];exact λr ax=>(BF M (aw r ax)).1,?_⟩;unfold lu;split
  · exact(BF M (aw _ (by simp))).2
  · rw[zD λr ax=>(BF M (aw r ax)).2]
theorem Fu{P:Program}: ∀n dX,JA cO dX (jV P n)
  |0,_=> λf a m r aq h=>by simp[jV]at h
  | n+1,dX=> λf a m r aq h ah M=>by
    simp only[jV]at h⊢;split at h
    · rename_i u dx;split at h
      · rename_i fR;rw[if_pos fR];split at h
        · cases h
        · rename_i e ak bk cJ gP;obtain⟨c2,aK,cC⟩:=nt (Fu n) gP M;split at h
          · rename_i aw;cases h;obtain⟨bb,c0⟩:=UI cC aw;rw[aK];refine⟨c2,?_,cC⟩;cases e with
            |ew=>simp only[bb,c0,if_true]
            |aF=>simp only[bb,c0,if_true]
            |a7 id=>exact absurd rfl (cJ id)
          · cases h
        · cases h
      · cases h
    · cases h
end
structure wa(p m:W):Prop where
  next:p.next=m.next
  mp:p.mp=m.mp
  X: ∀b x,p.X b=some x->m.X b=some x
structure ai9(p m lP aq:W):Prop where
  part:wa lP aq
  next:m.next<=aq.next
  ky: ∀b,b<m.next->p.X b=none->aq.X b=m.X b/\lP.X b=none/\aq.mp b=m.mp b
theorem wa.refl(m:W):wa m m:=⟨rfl,rfl,λ_ _ h=>h⟩
theorem gp.frame{P:Program}{f:Nat}{args:List Value}{p m:W}{cj:Value->W->Prop}(ab:wa p m)(h:gp P f args p cj):
    gp P f args m λr aq=> ∃lP,cj r lP/\ai9 p m lP aq:=by
  obtain⟨n,r,lP,E,q⟩:=h;have M:fc (λb=>b<p.next/\p.X b=none) m p m:=by
    refine⟨ab.next.symm,by rw[ab.next];exact ey _,λb hb=>hb.1,λb hb=>hb.2,λb _=>⟨rfl,rfl⟩,λb hb=> ?_,ab.mp.symm⟩;cases aP:p.X b with
    |some x=>exact ab.X b x aP
    | none=>
      have: ¬b<p.next:= λev=>hb ⟨ev,aP⟩
      have I: ¬b<m.next:=by rw[<-ab.next];exact this
      simp only[W.X,I,if_false]
  obtain⟨aq,I,cL⟩:=Fu n m _ _ _ _ _ E m M;refine⟨n,r,aq,I,lP,q,⟨cL.next.symm,cL.mp.symm,λb x hb=>cL.X hb⟩,?_,λb hb az=> ?_⟩
  · rw[cL.next];exact cL.xF
  · have aD:b<p.next/\p.X b=none:=⟨by rw[ab.next];exact hb,az⟩
    exact⟨(cL.bF b aD).1,cL.off b aD,(cL.bF b aD).2⟩
inductive fh where
  |int (k:IntKind)
  |bool
  |str
  |slice (e:fh)
  |unit
  |lQ (a b:fh)
abbrev fh.cO:fh->Type
  | .int _=>Int
  | .bool=>Bool
  | .str=>ByteArray
  | .slice e=>List e.cO
  | .unit=>Unit
  | .lQ a b=>a.cO×b.cO
def fh.cells:fh->Nat
  | .unit=>0
  | .lQ a b=>a.cells+b.cells
  |_=>1
def fh.cB:fh->Nat
  | .int .u32=>4
  |_=>1
theorem fh.aAh(s:fh):1<=s.cB:=by unfold fh.cB;split<;>omega
theorem fh.aAg(s:fh){n k:Nat}(h:n*s.cB<=k):n<=k:=kC (Nat.le_mul_of_pos_right n s.aAh) h
def fh.isAgg:fh->Bool
  | .unit| .lQ _ _=>true
  |_=>false
def qN(P:Program)(h:TypeId->fh->Bool):Nat->List Field->fh->Bool
  |_,[],.unit=>true
  |off,f::fG,.lQ a b=>f.offset==off&&h f.type a&&P.cellsOf f.type==a.cells&&qN P h (off+a.cells) fG b
  |_,_,_=>false
def qM(h:fh->Bool)(J:Nat):Nat->fh->Bool
  |0,.unit=>true
  |n+1,.lQ a b=>h a&&a.cells==J&&qM h J n b
  |_,_=>false
def yc(P:Program):Nat->TypeId->fh->Bool
  |0,_,_=>false
  | n+1,t,s=>match P.underlying t,s with
    |some (.int k),.int gg=>decide (k=gg)
    |some .bool,.bool=>true
    |some .string,.str=>true
    |some (.slice e),.slice ki=>yc P n e ki&&P.cellsOf e==ki.cells&&decide (0<ki.cells)&&decide (ki.cB<=P.bytesOf e)
    |some (.struct fG),s=>s.isAgg&&P.cellsOf t==s.cells&&qN P (yc P n) 0 fG.toList s
    |some (.array k e),s=>s.isAgg&&P.cellsOf t==s.cells&&qM (yc P n e) (P.cellsOf e) k s
    |_,_=>false
abbrev ow{e:fh}(l:(fh.slice e).cO):List e.cO:=l
def o0(m:W):(s:fh)->List Value->s.cO->Prop
  | .int k,cs,n=>cs=[.int k n]/\(Lit.int k n).wf=true
  | .bool,cs,b=>cs=[.bool b]
  | .str,cs,s=>cs=[.string s]/\s.size<=reachBytes
  | .slice e,cs,l=>(cs=[.slice none 0 0]/\ow l=[])\/ ∃(b:Nat) (bh:List (List Value)),cs=[.slice (some ⟨b,0,none⟩) (ow l).length e.cells]/\m.X b=some ⟨bh.flatten,false⟩/\(ow l).length*e.cB<=reachBytes/\bh.length=(ow l).length/\(∀(i:Nat) (r:List Value) (d:e.cO),bh[i]?=some r->(ow l)[i]?=some d->o0 m e r d)
  | .unit,cs,_=>cs=[]
  | .lQ a b,cs,d=> ∃bO cA,cs=bO++cA/\o0 m a bO d.1/\o0 m b cA d.2
theorem o0.len{m:W}: ∀{s:fh} {cs:List Value} {d:s.cO},o0 m s cs d->cs.length=s.cells
  | .int _,_,_,h=>by rw[h.1];rfl
  | .bool,cs,d,h=>by have:cs=[.bool d]:=h;rw[this];rfl
  | .str,_,_,h=>by rw[h.1];rfl
  | .slice _,_,_,h=>by rcases h with⟨rfl,_⟩|⟨b,bh,rfl,_⟩<;>rfl
  | .unit,cs,_,h=>by have:cs=[]:=h;rw[this];rfl
  | .lQ a b,_,_,h=>by obtain⟨bO,cA,rfl,E,I⟩:=h;simp[fh.cells,E.len,I.len]
theorem o0.b8{m aq:W}(ax: ∀b x,m.X b=some x->x.own=false->aq.X b=some x): ∀{s:fh} {cs:List Value} {d:s.cO},o0 m s cs d->o0 aq s cs d
  | .int _,_,_,h=>h
  | .bool,_,_,h=>h
  | .str,_,_,h=>h
  | .slice e,_,_,h=>by
    rcases h with h|⟨b,bh,E,I,av,aH,br⟩
    · exact .inl h
    · exact .inr ⟨b,bh,E,ax _ _ I rfl,av,aH,λi r d aw aD=>(br i r d aw aD).b8 ax⟩
  | .unit,_,_,h=>h
  | .lQ a b,_,_,h=>by obtain⟨bO,cA,dk,E,I⟩:=h;exact⟨bO,cA,dk,E.b8 ax,I.b8 ax⟩
def fh.cH:fh->Bool
  | .slice _=>false
  | .lQ a b=>a.cH&&b.cH
  |_=>true
def P5:(s:fh)->s.cO->List Value
  | .int k,n=>[.int k n]
  | .bool,b=>[.bool b]
  | .str,s=>[.string s]
  | .slice _,_=>[]
  | .unit,_=>[]
  | .lQ a b,d=>P5 a d.1++P5 b d.2
def Bx:(s:fh)->s.cO->Prop
  | .int k,n=>(Lit.int k n).wf=true
  | .bool,_=>True
  | .str,s=>s.size<=reachBytes
  | .slice e,l=>(ow l).length*e.cB<=reachBytes/\ ∀x∈ow l,Bx e x
  | .unit,_=>True
  | .lQ a b,d=>Bx a d.1/\Bx b d.2
theorem o0.enc{m:W}: ∀{s:fh} {cs:List Value} {d:s.cO},s.cH=true->o0 m s cs d->cs=P5 s d
  | .int _,_,_,_,h=>h.1
  | .bool,_,_,_,h=>h
  | .str,_,_,_,h=>h.1
  | .slice _,_,_,aT,_=>by cases aT
  | .unit,_,_,_,h=>h
  | .lQ a b,_,_,aT,h=>by simp only[fh.cH,a1]at aT;obtain⟨bO,cA,rfl,E,I⟩:=h;rw[E.enc aT.1,I.enc aT.2];rfl
theorem o0.ok{m:W}: ∀{s:fh} {cs:List Value} {d:s.cO},o0 m s cs d->Bx s d
  | .int _,_,_,h=>h.2
  | .bool,_,_,_=>trivial
  | .str,_,_,h=>h.2
  | .slice e,_,l,h=>by
    rcases h with⟨_,h⟩|⟨b,bh,E,I,av,aH,br⟩
    · subst h;exact⟨by simp[ow],λx G=>by cases G⟩
    · refine⟨av,λx G=> ?_⟩;obtain⟨i,ai,rfl⟩:=j4 G;exact(br i (bh[i]'(by omega)) _ (by simp) (by simp)).ok
  | .unit,_,_,_=>trivial
  | .lQ a b,_,_,h=>by obtain⟨bO,cA,dk,E,I⟩:=h;exact⟨E.ok,I.ok⟩
def vX(m:W)(s:fh)(v:Value)(d:s.cO):Prop:= ∃cs,o0 m s cs d/\v=if s.isAgg then .agg cs.toArray else cs.headD undef
inductive s9(m:W):List fh->List Value->Prop
  |nil:s9 m [] []
  |cons {s:fh} {v:Value} {d:s.cO} {k9:List fh} {cz:List Value} (h:vX m s v d) (K:s9 m k9 cz):s9 m (s::k9) (v::cz)
theorem s9.b8{m aq:W}(ax: ∀b x,m.X b=some x->x.own=false->aq.X b=some x){k9:List fh}{cz:List Value}(h:s9 m k9 cz):s9 aq k9 cz:=by
  induction h with
  |nil=>exact .nil
  |cons h K cx=>obtain⟨cs,E,I⟩:=h;exact .cons ⟨cs,E.b8 ax,I⟩ cx
section
variable {aV:Nat} {an:eJ} {m:W} {w:World}
theorem dB.WX(ax:dB aV an m w)(aE: ∀b x,m.X b=some x->x.own=false){xs:List Value}{l:tb}(aB:l.c<w.heap.size)(az:xs.length<=l.n)
    (G: ∀i v,xs[i]?=some v->S v=true/\ ∃bx,w.cell? ⟨l.c,l.o+i,none⟩=some bx/\dF an v bx):
    dB aV (hN an m.next l) ((m.cf 1).a0 m.next (some ⟨xs,false⟩)) w/\gl an (hN an m.next l)/\(∀b x,m.X b=some x->((m.cf 1).a0 m.next (some ⟨xs,false⟩)).X b=some x)/\
      (∀b x,((m.cf 1).a0 m.next (some ⟨xs,false⟩)).X b=some x->x.own=false)/\((m.cf 1).a0 m.next (some ⟨xs,false⟩)).X m.next=some ⟨xs,false⟩:=by
  have aw:an m.next=none:=by
    cases h:an m.next with
    |none=>rfl
    |some l=>have:=ax.mf _ _ h;omega
  have fR:=sd (l:=l) aw;have Zp:((m.cf 1).a0 m.next (some ⟨xs,false⟩)).X m.next=some ⟨xs,false⟩:=eD (by simp)
  have CM: ∀b x,m.X b=some x->((m.cf 1).a0 m.next (some ⟨xs,false⟩)).X b=some x:= λb x hb=>by have:=a6 hb;rw[bR (by omega),e0 this,hb]
  have CF: ∀b x,((m.cf 1).a0 m.next (some ⟨xs,false⟩)).X b=some x->(b=m.next/\x=⟨xs,false⟩)\/m.X b=some x:= λb x hb=>by
    by_cases e:b=m.next
    · subst e;rw[Zp]at hb;cases hb;exact .inl ⟨rfl,rfl⟩
    · rw[bR e,W.e0]at hb;exact .inr hb
  have jt: ∀b x,((m.cf 1).a0 m.next (some ⟨xs,false⟩)).X b=some x->x.own=false:= λb x hb=>by
    rcases CF b x hb with⟨_,rfl⟩|h
    · rfl
    · exact aE _ _ h
  refine⟨⟨λb dh hb=> ?_,λb dh hb=> ?_,λb x hb=> ?_,λb x cd ic gu ga E I=> ?_,λb bc hb=> ?_,λb bc hb=> ?_⟩,fR,CM,jt,Zp⟩
  · unfold hN at hb;split at hb
    · rename_i e;rw[e];simp
    · have:=ax.mf _ _ hb;simp;omega
  · unfold hN at hb;split at hb
    · cases hb;exact aB
    · exact ax.mi _ _ hb
  · rcases CF b x hb with⟨rfl,rfl⟩|h
    · exact⟨l,by simp[hN],az,λi v ad=>by obtain⟨a8,bx,bE,b7⟩:=G i v ad;exact⟨a8,bx,bE,b7.b8 fR⟩,λh=>by cases h⟩
    · obtain⟨dh,aK,bb,c0,ea⟩:=ax.mn b x h;exact⟨dh,fR _ _ aK,bb,λi v ad=>by obtain⟨a8,bx,bE,b7⟩:=c0 i v ad;exact⟨a8,bx,bE,b7.b8 fR⟩,ea⟩
  · rw[jt _ _ E]at I;cases I
  · obtain⟨dh,h⟩:=ax.ua b bc hb;exact⟨dh,fR _ _ h⟩
  · exfalso;unfold W.eS at hb;split at hb
    · rename_i h;have:=jt _ _ h;cases this
    · cases hb
end
section
variable {j6:Type} {enc:TypeId×Value->j6} {P:Program} {fm:World}
theorem We{P:Program}{e:TypeId}{d:DataW j6}{n:Nat}: ∀{l:List (DataW j6)},d∈l->n∈d.weights P e->n∈DataW.weightsAll P e l
  |[],h,_=>by cases h
  | x::r,h,az=>by
    simp only[DataW.weightsAll,kk];rcases hH.1 h with rfl|h
    · exact .inl az
    · exact .inr (We h az)
structure Pm(fm:World)(an:eJ)(m:W)(s:fh)(cs:List Value)(cM:eJ)(aq:W)(bY:List Value)(d:s.cO):Prop where
  mL:dB fm.heap.size cM aq fm
  w4:gl an cM
  l4: ∀b x,m.X b=some x->aq.X b=some x
  own: ∀b x,aq.X b=some x->x.own=false
  uy:c5 cM bY cs
  nJ: ∀v∈bY,S v=true
  zN:o0 aq s bY d
def JC(fm:World)(cs:List Value):Prop:= ∀a len cap,.slice (some a) len cap∈cs->0<fm.heap.size
def JH(enc:TypeId×Value->j6)(P:Program)(fm:World)(t:TypeId)(s:fh):Prop:=
  ∀kH cs x,DataW.trod enc P fm 0 (λ_=>true) true kH t cs=some x->(∀n∈x.1.weights P t,n<=reachBytes)->JC fm cs-> ∀an m,dB fm.heap.size an m fm->(∀b x,m.X b=some x->x.own=false)-> ∃cM aq bY d,Pm fm an m s cs cM aq bY d
theorem agS{h:TypeId->fh->Bool}(aQ: ∀t s,h t s=true->JH enc P fm t s): ∀(fG:List Field) (s:fh) (off kH:Nat) (cs:List Value),qN P h off fG s=true->off+s.cells<=cs.length->
    (∀f∈fG,∃x,DataW.trod enc P fm 0 (λ_=>true) true kH f.type ((cs.drop f.offset).take (P.cellsOf f.type))=some x/\ ∀n∈x.1.weights P f.type,n<=reachBytes)->JC fm cs->
    ∀an m,dB fm.heap.size an m fm->(∀b x,m.X b=some x->x.own=false)-> ∃cM aq bY d,Pm fm an m s ((cs.drop off).take s.cells) cM aq bY d
  |[],.unit,off,kH,cs,K,aB,G,bK,an,m,ax,aE=>⟨an,m,[],(),ax,gl.refl an,λ_ _ h=>h,aE,by simpa[fh.cells]using c5.nil an,by simp,rfl⟩
  | f::fG,.lQ a b,off,kH,cs,K,aB,G,bK,an,m,ax,aE=>by
    simp only[qN,a1,beq_iff_eq]at K;obtain⟨⟨⟨rfl,E⟩,I⟩,av⟩:=K;simp only[fh.cells]at aB⊢;obtain⟨x,fM,K5⟩:=G f (by simp);rw[I]at fM;obtain⟨mw,bk,Fi,g5,iU⟩:=aQ _ _ E _ _ _ fM K5 (λeo len cap kZ=>bK eo len cap (B5 (xJ kZ))) an m ax aE;obtain⟨mx,dR,Fj,gN,kx⟩:=agS aQ fG b (f.offset+a.cells) kH cs av (by omega) (λQb sy=>G Qb (by simp[sy])) bK mw bk iU.mL iU.own;refine⟨mx,dR,Fi++Fj,(g5,gN),kx.mL,iU.w4.trans kx.w4,λb x hb=>kx.l4 _ _ (iU.l4 _ _ hb),kx.own,?_,?_,⟨Fi,Fj,rfl,iU.zN.b8 (λb x hb _=>kx.l4 _ _ hb),kx.zN⟩⟩
    · rw[List.take_add,zJ];exact(iU.uy.b8 kx.w4).o6 kx.uy
    · intro v ad;rcases kk.1 ad with h|h
      · exact iU.nJ v h
      · exact kx.nJ v h
  |[],.int _,_,_,_,K,_,_,_,_,_,_,_=>by simp[qN]at K
  |[],.bool,_,_,_,K,_,_,_,_,_,_,_=>by simp[qN]at K
  |[],.str,_,_,_,K,_,_,_,_,_,_,_=>by simp[qN]at K
  |[],.slice _,_,_,_,K,_,_,_,_,_,_,_=>by simp[qN]at K
  |[],.lQ _ _,_,_,_,K,_,_,_,_,_,_,_=>by simp[qN]at K
  |_::_,.int _,_,_,_,K,_,_,_,_,_,_,_=>by simp[qN]at K
  |_::_,.bool,_,_,_,K,_,_,_,_,_,_,_=>by simp[qN]at K
  |_::_,.str,_,_,_,K,_,_,_,_,_,_,_=>by simp[qN]at K
  |_::_,.slice _,_,_,_,K,_,_,_,_,_,_,_=>by simp[qN]at K
  |_::_,.unit,_,_,_,K,_,_,_,_,_,_,_=>by simp[qN]at K
theorem agR{h:fh->Bool}{e:TypeId}{J:Nat}(aQ: ∀s,h s=true->JH enc P fm e s): ∀(n:Nat) (s:fh) (i kH:Nat) (cs:List Value),qM h J n s=true->i*J+s.cells<=cs.length->
    (∀j,i<=j->j<i+n-> ∃x,DataW.trod enc P fm 0 (λ_=>true) true kH e ((cs.drop (j*J)).take J)=some x/\ ∀n∈x.1.weights P e,n<=reachBytes)->JC fm cs->
    ∀an m,dB fm.heap.size an m fm->(∀b x,m.X b=some x->x.own=false)-> ∃cM aq bY d,Pm fm an m s ((cs.drop (i*J)).take s.cells) cM aq bY d
  |0,.unit,i,kH,cs,K,aB,G,bK,an,m,ax,aE=>⟨an,m,[],(),ax,gl.refl an,λ_ _ h=>h,aE,by simpa[fh.cells]using c5.nil an,by simp,rfl⟩
  | n+1,.lQ a b,i,kH,cs,K,aB,G,bK,an,m,ax,aE=>by
    simp only[qM,a1,beq_iff_eq]at K;obtain⟨⟨E,rfl⟩,av⟩:=K;simp only[fh.cells]at aB⊢;obtain⟨x,fM,K5⟩:=G i (ey _) (by omega);obtain⟨mw,bk,Fi,g5,iU⟩:=aQ _ E _ _ _ fM K5 (λeo len cap kZ=>bK eo len cap (B5 (xJ kZ))) an m ax aE;have aJ:(i+1)*a.cells=i*a.cells+a.cells:=(by rw[ly];omega);obtain⟨mx,dR,Fj,gN,kx⟩:=agR aQ n b (i+1) kH cs av (by omega) (λj E I=>G j (by omega) (by omega)) bK mw bk iU.mL iU.own;refine⟨mx,dR,Fi++Fj,(g5,gN),kx.mL,iU.w4.trans kx.w4,λb x hb=>kx.l4 _ _ (iU.l4 _ _ hb),kx.own,?_,?_,⟨Fi,Fj,rfl,iU.zN.b8 (λb x hb _=>kx.l4 _ _ hb),kx.zN⟩⟩
    · rw[List.take_add,zJ,<-aJ];exact(iU.uy.b8 kx.w4).o6 kx.uy
    · intro v ad;rcases kk.1 ad with h|h
      · exact iU.nJ v h
      · exact kx.nJ v h
  |0,.int _,_,_,_,K,_,_,_,_,_,_,_=>by simp[qM]at K
  |0,.bool,_,_,_,K,_,_,_,_,_,_,_=>by simp[qM]at K
  |0,.str,_,_,_,K,_,_,_,_,_,_,_=>by simp[qM]at K
  |0,.slice _,_,_,_,K,_,_,_,_,_,_,_=>by simp[qM]at K
  |0,.lQ _ _,_,_,_,K,_,_,_,_,_,_,_=>by simp[qM]at K
  |_+1,.int _,_,_,_,K,_,_,_,_,_,_,_=>by simp[qM]at K
  |_+1,.bool,_,_,_,K,_,_,_,_,_,_,_=>by simp[qM]at K
  |_+1,.str,_,_,_,K,_,_,_,_,_,_,_=>by simp[qM]at K
  |_+1,.slice _,_,_,_,K,_,_,_,_,_,_,_=>by simp[qM]at K
  |_+1,.unit,_,_,_,K,_,_,_,_,_,_,_=>by simp[qM]at K
theorem agT{e:TypeId}{s:fh}(aQ:JH enc P fm e s){a:Addr}(K:a.spot=none){kH:Nat}(ya:0<fm.heap.size): ∀(k:Nat),(∀i,i<k-> ∃cs x,fm.cells? 0 (a.add (i*s.cells)) s.cells=some cs/\DataW.trod enc P fm 0 (λ_=>true) true kH e cs=some x/\ ∀n∈x.1.weights P e,n<=reachBytes)->
    ∀an m,dB fm.heap.size an m fm->(∀b x,m.X b=some x->x.own=false)->
    ∃ (cM:eJ) (aq:W) (bh:List (List Value)) (ds:List s.cO),dB fm.heap.size cM aq fm/\gl an cM/\(∀b x,m.X b=some x->aq.X b=some x)/\(∀b x,aq.X b=some x->x.own=false)/\bh.length=k/\ds.length=k/\(bh.flatten).length=k*s.cells/\
      (∀i v,bh.flatten[i]?=some v->S v=true/\ ∃bx,fm.cell? ⟨a.block,a.off+i,none⟩=some bx/\dF cM v bx)/\(∀(i:Nat) (r:List Value) (d:s.cO),bh[i]?=some r->ds[i]?=some d->o0 aq s r d)
  |0,_,an,m,ax,aE=>⟨an,m,[],[],ax,gl.refl an,λ_ _ h=>h,aE,rfl,rfl,by simp,by simp,by simp⟩
  | k+1,aa,an,m,ax,aE=>by
    obtain⟨mw,bk,bh,ds,aK,bb,c0,ea,e9,fo,sv,FO,CB⟩:=agT aQ K ya k (λi ai=>aa i (by omega)) an m ax aE;obtain⟨cs,x,ar,G,amY⟩:=aa k (by omega);obtain⟨_,eA,ye⟩:=World.cells?_some ar;obtain⟨mx,dR,bY,d,o⟩:=aQ _ _ _ G amY (λ_ _ _ _=>ya) mw bk aK ea;have fv:bY.length=s.cells:=o.zN.len;refine⟨mx,dR,bh++[bY],ds++[d],o.mL,bb.trans o.w4,λb x hb=>o.l4 _ _ (c0 _ _ hb),o.own,by simp[e9],by simp[fo],?_,?_,?_⟩
    · simp[sv,fv,ly]
    · intro i v ad;rw[List.flatten_append,xI]at ad;split at ad
      · obtain⟨a8,bx,bE,b7⟩:=FO i v ad;exact⟨a8,bx,bE,b7.b8 o.w4⟩
      · rename_i ai;rw[sv]at ai ad;simp only[oY,List.flatten_nil,B7]at ad;refine⟨o.nJ v (gJ ad),?_⟩;obtain⟨bx,rL,aw⟩:=o.uy.X ad;have ln:i-k*s.cells<s.cells:=(by have:=(dO.1 ad).1;omega);have:=ye _ ln;rw[rL]at this;refine⟨bx,?_,aw⟩;rw[<-this];congr 1;obtain⟨xU,Ce,JR⟩:=a;simp only at K;subst K;unfold Addr.add;split<;>split<;>simp<;>omega
    · intro i r ns aw aD;rw[xI]at aw aD;rw[e9]at aw;rw[fo]at aD;split at aw
      · rename_i ai;rw[if_pos ai]at aD;exact(CB i r ns aw aD).b8 (λb x hb _=>o.l4 _ _ hb)
      · rename_i ai;rw[if_neg ai]at aD;have:i-k=0:=by
          have:=(dO.1 aw).1;simp at this;omega
        rw[this]at aw aD;simp at aw aD;subst aw;subst aD;exact o.zN
theorem agU: ∀(n:Nat) (t:TypeId) (s:fh),yc P n t s=true->JH enc P fm t s
  |0,_,_,h=>by cases h
  | n+1,t,s,h=>by
    have cx:=agU n;intro kH cs x G nA bK an m ax aE;unfold yc at h;split at h
    · rename_i k gg a2;simp only[e2]at h;subst h;obtain⟨v,rfl,rfl,a3⟩:=DataW.trod_int a2 G;exact⟨an,m,[.int k v],v,ax,gl.refl an,λ_ _ h=>h,aE,c5.cons (.cH rfl) (c5.nil an),by simp[S],⟨rfl,a3⟩⟩
    · rename_i a2;obtain⟨b,rfl,rfl⟩:=DataW.trod_bool a2 G;exact⟨an,m,[.bool b],b,ax,gl.refl an,λ_ _ h=>h,aE,c5.cons (.cH rfl) (c5.nil an),by simp[S],rfl⟩
    · rename_i a2;obtain⟨v,rfl,rfl,a3⟩:=DataW.trod_string a2 G;exact⟨an,m,[.string v],v,ax,gl.refl an,λ_ _ h=>h,aE,c5.cons (.cH rfl) (c5.nil an),by simp[S],⟨rfl,by have:=nA v.data.toList.length (by simp[DataW.weights]);simpa using this⟩⟩
    · rename_i e ki a2;simp only[a1,beq_iff_eq,e2]at h;obtain⟨⟨⟨E,I⟩,av⟩,alL⟩:=h;rcases DataW.trod_slice a2 G with⟨rfl,rfl⟩|⟨a,len,cap,zU,b4,ho,_,rfl,rfl,_,Ag,pY,aKb,bZ,je,_⟩
      · exact⟨an,m,[.slice none 0 0],[],ax,gl.refl an,λ_ _ h=>h,aE,c5.cons (.cH rfl) (c5.nil an),by simp[S],.inl ⟨rfl,rfl⟩⟩
      · have ya:0<fm.heap.size:=bK a len cap (by simp);have Rp:len*ki.cB<=reachBytes:=by
          have br:=nA ((zU.length+b4.length)*P.bytesOf e) (by simp[DataW.weights,a2]);have cW:len*ki.cB<=(zU.length+b4.length)*P.bytesOf e:=Nat.mul_le_mul (by omega) alL;omega
        have amW: ∀y∈zU,∀n∈y.1.weights P e,n<=reachBytes:= λy af n az=>nA n (by simp only[DataW.weights,a2];exact B4 _ (mN _ (We (List.mem_map_of_mem af) az)));rw[I]at bZ je;have je:=je rfl
        -- where aEn AV a im,sW aH7 AV plain
        have QO:0<cap->a.spot=none/\a.block<fm.heap.size:=by
          intro ar;have: ∃cs,fm.cells? 0 a ki.cells=some cs:=by
            by_cases aB:0<len
            · have:=bZ 0 aB;obtain⟨y,af⟩: ∃y,zU[0]?=some y:=⟨zU[0]'(by omega),by simp⟩;rw[af,Option.bind_eq_some_iff]at this;obtain⟨cs,jq,_⟩:=this;exact⟨cs,by simpa[Addr.add]using jq⟩
            · have:=je.2 0 (by omega);obtain⟨y,af⟩: ∃y,b4[0]?=some y:=⟨b4[0]'(by omega),by simp⟩;rw[af,Option.bind_eq_some_iff]at this;obtain⟨cs,jq,_⟩:=this;exact⟨cs,by simpa[Addr.add,show len=0 by omega]using jq⟩
          obtain⟨cs,jq⟩:=this;refine⟨?_,World.cells?_block jq av⟩;obtain⟨_,aB,ye⟩:=World.cells?_some jq;have dk:=ye 0 av;obtain⟨kn,uW⟩: ∃kn,cs[0]?=some kn:=⟨cs[0]'(by omega),by simp⟩;rw[uW]at dk;simp only[Addr.add,if_true]at dk;unfold World.cell? at dk;split at dk
          · split at dk
            · cases dk
            · rename_i lK;simpa using lK
          · cases dk
        by_cases uW:cap=0
        · obtain rfl:len=0:=(by omega);subst uW;obtain⟨fs,g7,jl,nL,xk⟩:=ax.WX aE (xs:=[]) (l:=⟨0,0,0⟩) ya (ey _) (by simp);refine⟨_,_,[.slice (some ⟨m.next,0,none⟩) 0 ki.cells],[],fs,g7,jl,nL,c5.cons (.slice (l:=⟨0,0,0⟩) (by simp[hN]) (.inl ⟨rfl,rfl⟩) (ey _) (ht _)) (c5.nil _),by simp[S],.inr ⟨m.next,[],rfl,xk,by simp[ow],rfl,by simp⟩⟩
        · obtain⟨lK,alM⟩:=QO (by omega);have alW: ∀i,i<len-> ∃cs x,fm.cells? 0 (a.add (i*ki.cells)) ki.cells=some cs/\DataW.trod enc P fm 0 (λ_=>true) true ho e cs=some x/\ ∀n∈x.1.weights P e,n<=reachBytes:=by
            intro i ai;have:=bZ i ai;obtain⟨y,af⟩: ∃y,zU[i]?=some y:=⟨zU[i]'(by omega),by simp⟩;have am2:=af;rw[af,Option.bind_eq_some_iff]at this;obtain⟨cs,jq,af⟩:=this;exact⟨cs,y,jq,af,amW y (gJ am2)⟩
          obtain⟨mw,bk,bh,ds,aK,bb,c0,ea,e9,fo,sv,FO,CB⟩:=agT (cx _ _ E) lK ya len alW an m ax aE;have fR:len*ki.cells<=cap*ki.cells:=ri _ Ag;have Yy:(ow ds).length=len:=fo;obtain⟨fs,g7,jl,nL,xk⟩:=aK.WX ea (xs:=bh.flatten) (l:=⟨a.block,a.off,cap*ki.cells⟩) alM (by rw[sv];exact fR) FO
          refine⟨_,_,[.slice (some ⟨bk.next,0,none⟩) len ki.cells],ds,fs,bb.trans g7,λb x hb=>jl _ _ (c0 _ _ hb),nL,c5.cons (.slice (l:=⟨a.block,a.off,cap*ki.cells⟩) (by simp[hN]) (.inr ⟨?_,by simp⟩) Ag pY) (c5.nil _),by simp[S],
            .inr ⟨bk.next,bh,by rw[Yy],xk,by rw[Yy];exact Rp,by omega,λi r d aw aD=>(CB i r d aw aD).b8 (λb x hb _=>jl _ _ hb)⟩⟩
          obtain⟨xU,Ce,JR⟩:=a;simp only at lK;subst lK;rfl
    · rename_i ki fG a2;simp only[a1,beq_iff_eq]at h;obtain⟨⟨dk,E⟩,I⟩:=h;obtain⟨xs,ho,_,rfl,aB,Gq,aT⟩:=DataW.trod_struct a2 G;have:=agS (λt s h=>cx t s h) fG.toList _ 0 ho cs I (by rw[aB,E];omega) (λf sy=> ?_) bK an m ax aE
      · rw[List.drop_zero,jT (by omega)]at this;exact this
      · obtain⟨i,ai,rfl⟩:=j4 sy;have gW:i<fG.size:=(by simpa using ai);have:=aT i fG[i] (by simp[gW]);refine⟨xs[i]'(by omega),?_,λn az=>nA n ?_⟩
        · rw[cD (by omega)]at this;simpa using this
        · simp only[DataW.weights,a2];exact DataW.weights_mem_each (j:=i) (t:=fG[i].type) (d:=xs[i].1) (by simp[gW]) (by simp[cD (show i<xs.length by omega)]) n (by simpa using az)
    · rename_i ki k e a2;simp only[a1,beq_iff_eq]at h;obtain⟨⟨dk,E⟩,I⟩:=h;obtain⟨xs,ho,_,rfl,aB,Gq,aT⟩:=DataW.trod_array a2 G;have:=agR (λs h=>cx e s h) k _ 0 ho cs I (by rw[aB,E];omega) (λj _ bj=> ?_) bK an m ax aE
      · rw[Nat.zero_mul,List.drop_zero,jT (by omega)]at this;exact this
      · have:=aT j (by omega);refine⟨xs[j]'(by omega),?_,λn az=>nA n ?_⟩
        · rw[cD (by omega)]at this;simpa using this
        · simp only[DataW.weights,a2];exact We (List.mem_map_of_mem (jQ (show j<xs.length by omega))) az
    · cases h
theorem alV{aV:Nat}{t:TypeId}{v:Value}(ad:Value.okWide P fm .any aV t v):JC fm v.cells.toList:=by
  have im: ∀bt a len cap,Cell.okWide P fm .any aV bt (.slice (some a) len cap)->0<fm.heap.size:=by
    intro bt a len cap h;unfold Cell.okWide at h;split at h<;>try(rename_i E;cases E)
    unfold Cell.ok at h;split at h<;>rename_i E<;>try cases E
    · obtain⟨_,_,_,_,ct,cells,K,_⟩:=h;unfold World.shape? at K;split at K
      · rename_i aQ;have:=(uC.1 aQ).1;omega
      · cases K
    · cases h
  intro a len cap ax;unfold Value.okWide at ad;split at ad
  · obtain⟨cs,rfl,_,ts,_,_,aw⟩:=ad;obtain⟨i,ai,bn⟩:=j4 ax;obtain⟨bt,_,ar⟩:=aw i (.slice (some a) len cap) (by
      have:i<cs.size:=(by simpa[Value.cells]using ai);rw[zA this];simpa[Value.cells]using bn)
    exact im bt a len cap ar
  · obtain⟨cs,rfl,_,ts,_,_,aw⟩:=ad;obtain⟨i,ai,bn⟩:=j4 ax;obtain⟨bt,_,ar⟩:=aw i (.slice (some a) len cap) (by
      have:i<cs.size:=(by simpa[Value.cells]using ai);rw[zA this];simpa[Value.cells]using bn)
    exact im bt a len cap ar
  · cases v<;>simp[Value.cells]at ax
    · obtain⟨rfl,rfl,rfl⟩:=ax;exact im _ _ _ _ ad
    · exfalso;unfold Cell.okWide at ad;split at ad<;>try(rename_i E;cases E)
      unfold Cell.ok at ad;split at ad<;>try(rename_i E;cases E)
      cases ad
theorem aBo{n:Nat}{t:TypeId}{s:fh}(K:yc P n t s=true){aV:Nat}{v:Value}{d:DataW j6}{ps:List MemPlace}(ad:Value.okWide P fm .any aV t v)(aD:DataW.Trod enc P fm 0 (λ_=>true) true t v d ps)(nA: ∀n∈d.weights P t,n<=reachBytes)
    {an:eJ} {m:W} (ax:dB fm.heap.size an m fm) (aE: ∀b x,m.X b=some x->x.own=false):
    ∃cM aq bt sj,dB fm.heap.size cM aq fm/\gl an cM/\(∀b x,m.X b=some x->aq.X b=some x)/\(∀b x,aq.X b=some x->x.own=false)/\dF cM bt v/\vX aq s bt sj:=by
  obtain⟨kH,G⟩:=aD;obtain⟨cM,aq,bY,sj,o⟩:=agU n t s K kH _ _ G nA (alV ad) an m ax aE;refine⟨cM,aq,if s.isAgg then .agg bY.toArray else bY.headD undef,sj,o.mL,o.w4,o.l4,o.own,?_,bY,o.zN,rfl⟩;cases n with
  |zero=>cases K
  | succ n=>
    unfold yc at K;have OE: ∀w:Value,v.cells.toList=[w]->w=v->s.isAgg=false->dF cM (if s.isAgg then .agg bY.toArray else bY.headD undef) v:=by
      intro w a3 bn aA;rw[aA];have E:=o.uy;rw[a3]at E;have I:=E.1;cases bY with
      |nil=>simp at I
      |cons a bY=>have:=E.2 0 a w rfl rfl;rw[bn]at this;simpa using this
    have agg:(∃cs,v= .agg cs)->s.isAgg=true->dF cM (if s.isAgg then .agg bY.toArray else bY.headD undef) v:=(by rintro⟨cs,rfl⟩ aA;rw[aA];have E:=o.uy;simp only[Value.cells]at E;have:=E.agg o.nJ;simpa using this);split at K
    · rename_i k gg a2;obtain⟨n,rfl⟩:=WideShapes.okWide_int a2 ad;exact OE _ rfl rfl rfl
    · rename_i a2;obtain⟨n,rfl⟩:=WideShapes.okWide_bool a2 ad;exact OE _ rfl rfl rfl
    · rename_i a2;obtain⟨n,rfl⟩:=WideShapes.okWide_string a2 ad;exact OE _ rfl rfl rfl
    · rename_i e ki a2;obtain⟨a,l,c,rfl⟩:=WideShapes.okWide_slice a2 ad;exact OE _ rfl rfl rfl
    · rename_i fG a2;simp only[a1]at K;obtain⟨cs,rfl,_⟩:=WideShapes.okWide_struct a2 ad;exact agg ⟨cs,rfl⟩ K.1.1
    · rename_i k e a2;simp only[a1]at K;unfold Value.okWide at ad;rw[a2]at ad;obtain⟨cs,rfl,_⟩:=ad;exact agg ⟨cs,rfl⟩ K.1.1
    · cases K
def CD(P:Program)(n:Nat):List TypeId->List fh->Bool
  |[],[]=>true
  |t::ts,s::k9=>yc P n t s&&CD P n ts k9
  |_,_=>false
theorem agQ{n:Nat}{aV:Nat}: ∀(ts:List TypeId) (k9:List fh) (cz:List Value) (ds:List (DataW j6)) (ps:List MemPlace),CD P n ts k9=true->(∀(j:Nat) t v,ts[j]?=some t->cz[j]?=some v->Value.okWide P fm .any aV t v)->
    DataW.TrodAll enc P fm 0 (λ_=>true) true ts cz ds ps->(∀n∈DataW.weightsEach P ts ds,n<=reachBytes)-> ∀an m,dB fm.heap.size an m fm->(∀b x,m.X b=some x->x.own=false)->
    ∃cM aq fb,dB fm.heap.size cM aq fm/\gl an cM/\(∀b x,m.X b=some x->aq.X b=some x)/\c5 cM fb cz/\s9 aq k9 fb
  |[],[],[],[],_,_,_,_,_,an,m,ax,aE=>⟨an,m,[],ax,gl.refl an,λ_ _ h=>h,c5.nil an,.nil⟩
  | t::ts,s::k9,v::cz,d::ds,ps,K,ad,bA,nA,an,m,ax,aE=>by simp only[CD,a1]at K;obtain⟨p,q,E,I,rfl⟩:=bA;obtain⟨mw,bk,bt,sj,aK,bb,c0,ea,e9,fo⟩:=aBo K.1 (ad 0 t v rfl rfl) E (λn az=>nA n (by simp only[DataW.weightsEach];exact mN _ az)) ax aE;obtain⟨mx,dR,fb,en,hd,jw,w2,A8⟩:=agQ ts k9 cz ds q K.2 (λj t v a b=>ad (j+1) t v (by simpa using a) (by simpa using b)) I (λn az=>nA n (by simp only[DataW.weightsEach];exact l7 _ az)) mw bk aK ea;obtain⟨cs,fo,sv⟩:=fo;exact⟨mx,dR,bt::fb,en,bb.trans hd,λb x hb=>jw _ _ (c0 _ _ hb),c5.cons (e9.b8 hd) w2,.cons ⟨cs,fo.b8 (λb x hb _=>jw _ _ hb),sv⟩ A8⟩
  |[],_::_,_,_,_,K,_,_,_,_,_,_,_=>by simp[CD]at K
  |_::_,[],_,_,_,K,_,_,_,_,_,_,_=>by simp[CD]at K
  |[],[],_::_,_,_,_,_,bA,_,_,_,_,_=>by simp[DataW.TrodAll]at bA
  |[],[],[],_::_,_,_,_,bA,_,_,_,_,_=>by simp[DataW.TrodAll]at bA
  |_::_,_::_,[],_,_,_,_,bA,_,_,_,_,_=>by simp[DataW.TrodAll]at bA
  |_::_,_::_,_::_,[],_,_,_,bA,_,_,_,_,_=>by simp[DataW.TrodAll]at bA
theorem az2(mY:P.follows .mixedOrders=true){f n aV:Nat}{ts:List TypeId}{k9:List fh}(K:CD P n ts k9=true){args:Array Value}{ds:List (DataW j6)}{ps:List MemPlace}
    (ad: ∀(j:Nat) t v,ts[j]?=some t->args[j]?=some v->Value.okWide P fm .any aV t v) (bA:DataW.TrodAll enc P fm 0 (λ_=>true) true ts args.toList ds ps) (nA: ∀n∈DataW.weightsEach P ts ds,n<=reachBytes)
    (h: ∀m fb,s9 m k9 fb->gp P f fb m λr _=>r= .bool true):
    Calls P f args fm λe c3=>e= .returned (.bool true)/\Below fm.heap.size fm c3:=by
  obtain⟨an,m,fb,aK,_,_,ea,e9⟩:=agQ ts k9 args.toList ds ps K (λj t v a b=>ad j t v a (by simpa using b)) bA nA _ _ dB.empty (λb x h=>by unfold W.X at h;split at h<;>cases h);obtain⟨k,r,aq,E,rfl⟩:=h m fb e9;have:=(XB mY k fm.heap.size f fb _ _ _ E).2.2.2.2 an fm args ea aK (ey _);refine this.mono λe c3 aQ=> ?_;obtain⟨v,cM,rfl,_,_,ad,_,hb⟩:=aQ;exact⟨by rw[ad.qT],hb⟩
end
theorem vX.int{m:W}{k:IntKind}{v:Value}{n:Int}(h:vX m (.int k) v n):v= .int k n/\(Lit.int k n).wf=true:=by obtain⟨cs,h,rfl⟩:=h;obtain⟨rfl,h⟩:=h;exact⟨rfl,h⟩
theorem vX.bool{m:W}{v:Value}{b:Bool}(h:vX m .bool v b):v= .bool b:=by obtain⟨cs,h,rfl⟩:=h;have:cs=[.bool b]:=h;subst this;rfl
theorem vX.str{m:W}{v:Value}{s:ByteArray}(h:vX m .str v s):v= .string s/\s.size<=reachBytes:=by obtain⟨cs,h,rfl⟩:=h;obtain⟨rfl,h⟩:=h;exact⟨rfl,h⟩
structure pR(m aq:W):Prop where
  next:m.next<=aq.next
  X: ∀b x,m.X b=some x->aq.X b=some x
theorem pR.refl(m:W):pR m m:=⟨ey _,λ_ _ h=>h⟩
theorem pR.trans{a b c:W}(h:pR a b)(bS:pR b c):pR a c:=⟨kC h.next bS.next,λx y G=>bS.X x y (h.X x y G)⟩
theorem wa.sub{p m:W}(h:wa p m):pR p m:=⟨Nat.le_of_eq h.next,h.X⟩
theorem pR.cf(m:W)(k:Nat):pR m (m.cf k):=⟨by simp,λb x h=>by rw[e0 (a6 h),h]⟩
theorem pR.a0{m:W}{b:Nat}{x:Option fB}(h:m.X b=none):pR m (m.a0 b x):=⟨ey _,λc y ar=>by rw[bR (λbn=>by subst bn;rw[h]at ar;cases ar),ar]⟩
theorem FR{m:W}{b:Nat}(h:m.next<=b):m.X b=none:=by simp[W.X];omega
structure j7(c4:Type) where
  J:Nat
  R:W->List Value->c4->Prop
  len: ∀m cs x,R m cs x->cs.length=J
  b8: ∀m aq cs x,pR m aq->R m cs x->R aq cs x
def j7.bV{c4:Type}(r:j7 c4)(m:W)(v:Value)(l:List c4):Prop:=
  (v= .slice none 0 0/\l=[])\/ ∃b o cs w,v= .slice (some ⟨b,o,none⟩) l.length r.J/\m.X b=some ⟨cs,w⟩/\o+l.length*r.J<=cs.length/\
    ∀(i:Nat) x,l[i]?=some x->r.R m ((cs.drop (o+i*r.J)).take r.J) x
section
variable {c4:Type} {r:j7 c4} {m aq:W} {v:Value} {l:List c4}
theorem j7.bV.b8(h:r.bV m v l)(K:pR m aq):r.bV aq v l:=by
  rcases h with h|⟨b,o,cs,w,E,I,av,aH⟩
  · exact .inl h
  · exact .inr ⟨b,o,cs,w,E,K.X _ _ I,av,λi x G=>r.b8 _ _ _ _ K (aH i x G)⟩
theorem j7.bV.nil:r.bV m (.slice none 0 0) []:= .inl ⟨rfl,rfl⟩
theorem j7.bV.len(h:r.bV m v l):iv v=l.length/\yQ v=true/\nf r.J v=true/\gI v=l.length:=by
  rcases h with⟨rfl,rfl⟩|⟨b,o,cs,w,rfl,_⟩
  · exact⟨rfl,rfl,rfl,rfl⟩
  · exact⟨rfl,rfl,by simp,rfl⟩
theorem j7.bV.qC(h:r.bV m v l){i:Nat}{x:c4}(G:l[i]?=some x): ∃b o cs w,xw v r.J (i:Int)= .pointer (some ⟨b,o,none⟩)/\m.X b=some ⟨cs,w⟩/\o+r.J<=cs.length/\r.R m ((cs.drop o).take r.J) x:=by
  rcases h with⟨rfl,rfl⟩|⟨b,o,cs,w,rfl,I,av,aH⟩
  · simp at G
  · have ai:=(dO.1 G).1;refine⟨b,o+i*r.J,cs,w,by simp[xw],I,?_,aH i x G⟩;have:(i+1)*r.J<=l.length*r.J:=ri _ ai;rw[ly]at this;omega
theorem j7.bV.sub(h:r.bV m v l){k n:Nat}(aa:k<=n)(az:n<=l.length):r.bV m (pB v r.J k n) ((l.take n).drop k):=by
  rcases h with⟨rfl,rfl⟩|⟨b,o,cs,w,rfl,I,av,aH⟩
  · exact .inl ⟨rfl,by simp⟩
  · have e:((l.take n).drop k).length=n-k:=(by simp;omega);have br:n*r.J<=l.length*r.J:=ri _ az;have cW:k*r.J+(n-k)*r.J=n*r.J:=(by rw[<-ly];congr 1;omega);refine .inr ⟨b,o+k*r.J,cs,w,by rw[e];rfl,I,by rw[e];omega,λi x G=> ?_⟩;rw[zE,vT]at G;split at G
    · have:=aH _ x G;rw[show o+k*r.J+i*r.J=o+(k+i)*r.J by rw[ly];omega];exact this
    · cases G
theorem Qf{bh:List (List Value)}{J:Nat}(bK: ∀x∈bh,x.length=J): ∀{i:Nat} {y:List Value},bh[i]?=some y->(bh.flatten.drop (i*J)).take J=y:=by
  induction bh with
  |nil=>intro i y h;simp at h
  | cons x bh cx=>
    intro i y h;have G:=bK x (by simp);cases i with
    | zero=>simp at h;subst h;simp[List.take_append_of_le_length (Nat.le_of_eq G.symm),jT (Nat.le_of_eq G)]
    | succ i=>rw[oY,ly,Nat.one_mul,Nat.add_comm,<-zJ,<-G,List.drop_left,G];exact cx (λy af=>bK y (by simp[af])) (by simpa using h)
theorem sq{bh:List (List Value)}{J:Nat}(bK: ∀x∈bh,x.length=J):bh.flatten.length=bh.length*J:=by
  induction bh with
  |nil=>simp
  |cons x bh cx=>rw[oY,kT,bK x (by simp),cx (λy af=>bK y (by simp[af])),pI,ly];omega
structure j7.L(r:j7 c4)(p:W)(bh:List (List Value))(l:List c4):Prop where
  len:bh.length=l.length
  all: ∀(i:Nat) y x,bh[i]?=some y->l[i]?=some x->r.R p y x
variable {p:W} {bh:List (List Value)}
theorem j7.L.b8(h:r.L p bh l){lP:W}(K:pR p lP):r.L lP bh l:=⟨h.len,λi y x af G=>r.b8 _ _ _ _ K (h.all i y x af G)⟩
theorem j7.L.nil:r.L p [] []:=⟨rfl,λi y x h=>by simp at h⟩
theorem j7.L.app(h:r.L p bh l){uk:List (List Value)}{dh:List c4}(bS:r.L p uk dh):r.L p (bh++uk) (l++dh):=by
  refine⟨by simp[h.len,bS.len],λi xG ic tJ hQ=> ?_⟩;by_cases ai:i<bh.length
  · rw[sf ai]at tJ;rw[sf (by rw[<-h.len];exact ai)]at hQ;exact h.all i _ _ tJ hQ
  · rw[s4 (by omega)]at tJ;rw[s4 (by rw[<-h.len];omega),<-h.len]at hQ;exact bS.all _ _ _ tJ hQ
theorem j7.L.agb(h:r.L p bh l): ∀y∈bh,y.length=r.J:= λy af=>by
  obtain⟨i,ai,rfl⟩:=j4 af;have aB:i<l.length:=by rw[<-h.len];exact ai
  exact r.len _ _ _ (h.all i _ _ (cD ai) (cD aB))
theorem j7.L.ak8(h:r.L p bh l):bh.flatten.length=l.length*r.J:=by rw[sq h.agb,h.len]
theorem j7.L.slice(h:r.L p bh l)(ab:pR p m){b:Nat}{w:Bool}(hb:m.X b=some ⟨bh.flatten,w⟩):r.bV m (.slice (some ⟨b,0,none⟩) l.length r.J) l:=by refine .inr ⟨b,0,_,w,rfl,hb,by rw[h.ak8];omega,λi x G=> ?_⟩;have ai:=(dO.1 G).1;rw[Nat.zero_add,Qf h.agb (y:=bh[i]'(by rw[h.len];exact ai)) (by simp)];exact r.b8 _ _ _ _ ab (h.all i _ _ (by simp) G)
theorem UO{cs:List Value}{J:Nat}: ∀(n o:Nat),o+n*J<=cs.length-> ∃bh:List (List Value),bh.length=n/\bh.flatten=(cs.drop o).take (n*J)/\ ∀i,i<n->bh[i]?=some ((cs.drop (o+i*J)).take J)
  |0,o,_=>⟨[],rfl,by simp,λi ai=>by omega⟩
  | n+1,o,h=>by
    rw[ly]at h;obtain⟨bh,E,I,av⟩:=UO (cs:=cs) (J:=J) n (o+J) (by omega);refine⟨(cs.drop o).take J::bh,by simp[E],?_,λi ai=> ?_⟩
    · rw[oY,I,ly,Nat.one_mul,Nat.add_comm (n*J) J,List.take_add,zJ]
    · cases i with
      |zero=>simp
      | succ i=>rw[xH,av i (by omega)];congr 3;rw[ly];omega
theorem j7.bV.cells(h:r.bV m v l):fS m r.J v=true/\ ∃bh,gj m r.J v=bh.flatten/\r.L m bh l:=by
  rcases h with⟨rfl,rfl⟩|⟨b,o,cs,w,rfl,I,av,aH⟩
  · exact⟨rfl,[],rfl,.nil⟩
  · refine⟨by simp[I];omega,?_⟩;obtain⟨bh,aJ,aU,cu⟩:=UO l.length o av;refine⟨bh,by simp[I,aU],aJ,λi y x af G=> ?_⟩;rw[cu i (dO.1 G).1]at af;cases af;exact aH i x G
end
def j7.int(k:IntKind):j7 Int:=⟨1,λ_ cs n=>cs=[.int k n],λ_ _ _ h=>by rw[h];rfl,λ_ _ _ _ _ h=>h⟩
def j7.bool:j7 Bool:=⟨1,λ_ cs n=>cs=[.bool n],λ_ _ _ h=>by rw[h];rfl,λ_ _ _ _ _ h=>h⟩
def j7.str:j7 ByteArray:=⟨1,λ_ cs n=>cs=[.string n],λ_ _ _ h=>by rw[h];rfl,λ_ _ _ _ _ h=>h⟩
def j7.map{c4 lb:Type}(r:j7 c4)(f:c4->lb):j7 lb:=⟨r.J,λm cs y=> ∃x,f x=y/\r.R m cs x,λ_ _ _ ⟨_,_,h⟩=>r.len _ _ _ h,λ_ _ _ _ K ⟨x,h,bS⟩=>⟨x,h,r.b8 _ _ _ _ K bS⟩⟩
theorem j7.bV.hT{c4 lb:Type}{r:j7 c4}{q:j7 lb}{m:W}{v:Value}{l:List c4}(f:c4->lb)(h:r.bV m v l)(bK:r.J=q.J)(aT: ∀cs x,x∈l->r.R m cs x->q.R m cs (f x)):q.bV m v (l.map f):=by
  rcases h with⟨rfl,rfl⟩|⟨b,o,cs,w,rfl,I,av,aH⟩
  · exact .inl ⟨rfl,rfl⟩
  · refine .inr ⟨b,o,cs,w,by simp[bK],I,by simp[<-bK];exact av,λi y af=> ?_⟩;rw[oZ,rh]at af;obtain⟨x,G,rfl⟩:=af;rw[<-bK];exact aT _ x (gJ G) (aH i x G)
end Go.DI
