/- A part of the proof. -/
import Derived.Test.YtmmkkggfmigppaaGreatZcl
set_option linter.all false
set_option maxRecDepth 8000
set_option maxHeartbeats 16000000
namespace Go.DI
open Go
section
variable {P:Program} {an:J9 P} {U:List (AK P)} {A4:List (DB P)} {base B:Nat} {d:Option Nat} {bd:List Ap} {A:A6} {t:V} {aF:A6->V->Prop} {bp:List (Operand×Operand)} {Q:BM->A6->V->Prop}
def bB(an:J9 P)(b:D)(Q:BM->A6->V->Prop)(e:BM)(A:A6)(t:V):Prop:=match e with
 | .Cx=>ED an b A t Q
 |e=>Q e A t
@[simp] theorem aKY{b:D}:bB an b Q .Cx A t=ED an b A t Q:=propext Ep
@[simp] theorem aGh{b:D}{id:Nat}:bB an b Q (.Ai id) A t=Q (.Ai id) A t:=propext Ep
@[simp] theorem aNr{b:D}:bB an b Q .DO A t=Q .DO A t:=propext Ep
variable{u:List Fy}{ops:List Ap}{j o z:Nat}{r:Value}{C:List Operand}{L:List Nat}{args ts:List Value}{S w:Bool}{b5:List (List Value)}{Z:Addr}{a7:Value->Prop}{bG A2 A7:Type}{x:Int}{cs:Array Value}
@[simp] theorem aKQ{a7:Value->V->Prop}:ay u a7 .Cx A t=(FM t A u=true/\a7 (Fg t A u) t):=propext Ep
@[simp] theorem aNq{a7:Value->V->Prop}:ay u a7 .DO A t=(FM t A u=true/\a7 (Fg t A u) t):=propext Ep
@[simp] theorem aHw:ED an .skip A t Q=Q .Cx A t:=propext Ep
@[simp] theorem aNF{id:Nat}:ED an (.Ai id) A t Q=Q (.Ai id) A t:=propext Ep
@[simp] theorem aKJ:ED an .DO A t Q=Q .DO A t:=propext Ep
@[simp] theorem aMa:ED an (.FI ops) A t Q=B0 an t.next ops A (Cu ops t) (Q .Cx):=propext Ep
@[simp] theorem aKl{a b:D}:ED an (.Ez a b) A t Q=ED an a A t (bB an b Q):=propext Ep
@[simp] theorem aKr{c:Operand}{a b:D}:ED an (.Gh c a b) A t Q=(Kv (O A c)=true/\if Me (O A c)=true then ED an a A t Q else ED an b A t Q):=propext Ep
@[simp] theorem aPN{id:Nat}{c:D}:ED an (.block id c) A t Q=ED an c A t (V6 id Q):=propext Ep
@[simp] theorem aMz{c:D}:ED an (.loop c) A t Q=BY P (.loop c) A t Q:=propext Ep
@[simp] theorem aKA:B0 an base [] A t aF=aF A t:=propext Ep
@[simp] theorem aKC{k:K}{b:Bool}:B0 an base (⟨B,d,some (j,b),k,bp⟩::bd) A t aF=if Bf A (some (j,b))=true then B0 an base (⟨B,d,none,k,bp⟩::bd) A t aF else B0 an base bd (Af A d undef) t aF:=by simp only[B0];rfl
def j6(an:J9 P)(base:Nat)(d:Option Nat)(bd:List Ap)(A:A6)(aF:A6->V->Prop)(r:Value)(t:V):Prop:=B0 an base bd (Af A d r) t aF
@[simp] theorem aHS:j6 an base d bd A aF r t=B0 an base bd (Af A d r) t aF:=propext Ep
@[simp] theorem aPm{f:Nat}:B0 an base (⟨B,d,none,.KC f C,bp⟩::bd) A t aF=Lc an f (C.map (O A)) t (Fo A t bp) (j6 an base d bd A aF):=by simp only[B0,Bf,if_true];rfl
@[simp] theorem aN1{x:Operand}:B0 an base (⟨B,d,none,.Iw x C,bp⟩::bd) A t aF=Vf an (O A x) (C.map (O A)) t (Fo A t bp) (j6 an base d bd A aF):=by simp only[B0,Bf,if_true];rfl
@[simp] theorem aOi{f:Nat}{first a:Array Value}{aF:Value->V->Prop}:Vf an (.func (.func f) first a) args t L aF=Lc an f (first.toList++args++a.toList) t L aF:=propext Ep
@[simp] theorem aKa(x:Operand):B0 an base (⟨B,d,none,.F2 x,bp⟩::bd) A t aF=(Du A t bp=true/\B0 an base bd (Af A d (O A x)) (t) aF):=by simp only[B0,Bf,if_true,EV,K.Dq,K.ok,true_and];rfl
@[simp] theorem aPE(c a b:Operand):B0 an base (⟨B,d,none,.T0 c a b,bp⟩::bd) A t aF=(Kv (O A c)=true/\(Du A t bp=true/\B0 an base bd (Af A d (if Me (O A c)=true then O A a else O A b)) (t) aF)):=by simp only[B0,Bf,if_true,EV];rfl
@[simp] theorem aPn(x:Operand):B0 an base (⟨B,d,none,.Lz x,bp⟩::bd) A t aF=(P5 (O A x)=true/\(Du A t bp=true/\B0 an base bd (Af A d (O A x)) (t) aF)):=by simp only[B0,Bf,if_true,EV];rfl
@[simp] theorem aH6(z:List Value):B0 an base (⟨B,d,none,.IX z,bp⟩::bd) A t aF=(Du A t bp=true/\B0 an base bd (Af A d (.pointer (some ⟨base+B,0,none⟩))) (t.A0 (base+B) (some ⟨z,true⟩)) aF):=by simp only[B0,Bf,if_true,EV,K.Dq,K.ok,true_and];rfl
@[simp] theorem aHy(x:Operand):B0 an base (⟨B,d,none,.JP x,bp⟩::bd) A t aF=(E (O A x)=true/\(Du A t bp=true/\B0 an base bd (Af A d (.pointer (some ⟨base+B,0,none⟩))) (t.A0 (base+B) (some ⟨H (O A x),true⟩)) aF)):=by simp only[B0,Bf,if_true,EV];rfl
@[simp] theorem aOu(z:List Value)(ps:List (Nat×Nat×Operand)):B0 an base (⟨B,d,none,.PR z ps,bp⟩::bd) A t aF=(I8 z A ps=true/\(Du A t bp=true/\B0 an base bd (Af A d (.agg (G5 z A ps).toArray)) (t) aF)):=by simp only[B0,Bf,if_true,EV];rfl
@[simp] theorem aJ2(z n:Nat)(cs:List Value)(ps:List (Nat×Nat×Operand)):B0 an base (⟨B,d,none,.HG z n cs ps,bp⟩::bd) A t aF=(I8 cs A ps=true/\(Du A t bp=true/\B0 an base bd (Af A d (.slice (some ⟨base+B,0,none⟩) n z)) (t.A0 (base+B) (some ⟨G5 cs A ps,true⟩)) aF)):=by simp only[B0,Bf,if_true,EV];rfl
@[simp] theorem aGG(S:Bool)(n:Nat)(x:Operand):B0 an base (⟨B,d,none,.E4 S n x,bp⟩::bd) A t aF=((J6 t (O A x) n&&(S||decide (n=1)))=true/\(Du A t bp=true/\B0 an base bd (Af A d (Nw t S n (O A x))) (t) aF)):=by simp only[B0,Bf,if_true,EV];rfl
@[simp] theorem aNk(n:Nat)(x v:Operand):B0 an base (⟨B,d,none,.store n x v,bp⟩::bd) A t aF=((Bx t (O A x) n&&GN t (O A x)&&E (O A v)&&decide ((H (O A v)).length=n))=true/\(Du A t bp=true/\B0 an base bd (Af A d (undef)) (FJ t (O A x) (H (O A v))) aF)):=by simp only[B0,Bf,if_true,EV];rfl
@[simp] theorem aIY(op:BinOp)(c:Ny)(x y:Operand):B0 an base (⟨B,d,none,.Jw op c x y,bp⟩::bd) A t aF=((GM (O A x)&&GM (O A y)&&KP op c (O A x) (O A y))=true/\(Du A t bp=true/\B0 an base bd (Af A d (FY op (O A x) (O A y))) (t) aF)):=by simp only[B0,Bf,if_true,EV];rfl
@[simp] theorem aKP(a:Bool)(b:List IV)(x y:Operand):B0 an base (⟨B,d,none,.PC a b x y,bp⟩::bd) A t aF=((Jc (O A x)&&Jc (O A y)&&Dp b (H (O A x)) (H (O A y)))=true/\(Du A t bp=true/\B0 an base bd (Af A d (.bool (if a then !Ev (H (O A x)) (H (O A y))else Ev (H (O A x)) (H (O A y))))) (t) aF)):=by simp only[B0,Bf,if_true,EV];rfl
@[simp] theorem aIg(op:UnOp)(x:Operand):B0 an base (⟨B,d,none,.S3 op x,bp⟩::bd) A t aF=(NB op (O A x)=true/\(Du A t bp=true/\B0 an base bd (Af A d (RC op (O A x))) (t) aF)):=by simp only[B0,Bf,if_true,EV];rfl
@[simp] theorem aPs(k:IntKind)(x:Operand):B0 an base (⟨B,d,none,.X1 k x,bp⟩::bd) A t aF=(Bo (O A x)=true/\(Du A t bp=true/\B0 an base bd (Af A d (.int k (k.wrap (Bh (O A x))))) (t) aF)):=by simp only[B0,Bf,if_true,EV];rfl
@[simp] theorem aMD(x:Operand):B0 an base (⟨B,d,none,.M6 x,bp⟩::bd) A t aF=((FH t 1 (O A x)&&(FA t 1 (O A x)).all QX)=true/\(Du A t bp=true/\B0 an base bd (Af A d (.string (toBytes (FA t 1 (O A x))))) (t) aF)):=by simp only[B0,Bf,if_true,EV];rfl
@[simp] theorem aNE(z:Nat)(x:Operand)(a b:Option Operand):B0 an base (⟨B,d,none,.N7 z x a b,bp⟩::bd) A t aF=((Eg z (O A x)&&HW A a&&HW A b&&decide (0<=Cq A a 0)&&decide (Cq A a 0<=Cq A b (Em (O A x)))&&decide (Cq A b (Em (O A x))<=Em (O A x))&& !(a.isNone&&KA b&&DL (O A x)))=true/\(Du A t bp=true/\B0 an base bd (Af A d (if a.isNone&&KA b then M8 (O A x)else KN (O A x) z (Cq A a 0).toNat (Cq A b (Em (O A x))).toNat)) (t) aF)):=by simp only[B0,Bf,if_true,EV];rfl
@[simp] theorem aMK(z n:Nat)(x:Operand):B0 an base (⟨B,d,none,.Nt z n x,bp⟩::bd) A t aF=((Bx t (O A x) (n*z)&&decide (n<=maxLen))=true/\(Du A t bp=true/\B0 an base bd (Af A d (Ue (O A x) z n)) (t) aF)):=by simp only[B0,Bf,if_true,EV];rfl
@[simp] theorem aMd(z bytes:Nat)(R:List Value)(l c:Operand):B0 an base (⟨B,d,none,.IA z bytes R l c,bp⟩::bd) A t aF=((Bo (O A l)&&Bo (O A c)&&decide (0<=Bh (O A l))&&decide (Bh (O A l)<=Bh (O A c))&&decide (Bh (O A c)*(bytes:Int)<=140737488355328)&&decide (Bh (O A c)<=9223372036854775807)&&decide (0<z))=true/\(Du A t bp=true/\B0 an base bd (Af A d (.slice (some ⟨base+B,0,none⟩) (Bh (O A l)).toNat z)) (t.A0 (base+B) (some ⟨(List.replicate (Bh (O A l)).toNat R).flatten,true⟩)) aF)):=by simp only[B0,Bf,if_true,EV];rfl
@[simp] theorem aOb(off:Nat)(x:Operand):B0 an base (⟨B,d,none,.GV off x,bp⟩::bd) A t aF=(IW (O A x)=true/\(Du A t bp=true/\B0 an base bd (Af A d (Mh (O A x) off)) (t) aF)):=by simp only[B0,Bf,if_true,EV];rfl
@[simp] theorem aPX(z:Nat)(x i:Operand):B0 an base (⟨B,d,none,.HN z x i,bp⟩::bd) A t aF=((Eg z (O A x)&&Bo (O A i)&&decide (0<=Bh (O A i))&&decide (Bh (O A i)<Em (O A x)))=true/\(Du A t bp=true/\B0 an base bd (Af A d (N6 (O A x) z (Bh (O A i)))) (t) aF)):=by simp only[B0,Bf,if_true,EV];rfl
@[simp] theorem aNg(z len:Nat)(x i:Operand):B0 an base (⟨B,d,none,.Qy z len x i,bp⟩::bd) A t aF=((IW (O A x)&&Bo (O A i)&&decide (0<=Bh (O A i))&&decide (Bh (O A i)<(len:Int)))=true/\(Du A t bp=true/\B0 an base bd (Af A d (Mh (O A x) ((Bh (O A i)).toNat*z))) (t) aF)):=by simp only[B0,Bf,if_true,EV];rfl
@[simp] theorem aLW(i:Nat)(x:Operand):B0 an base (⟨B,d,none,.ext i x,bp⟩::bd) A t aF=(Rk (O A x) i=true/\(Du A t bp=true/\B0 an base bd (Af A d (Q4 (O A x) i)) (t) aF)):=by simp only[B0,Bf,if_true,EV];rfl
@[simp] theorem aQ7(x:Operand):B0 an base (⟨B,d,none,.NR x,bp⟩::bd) A t aF=(Ov (O A x)=true/\(Du A t bp=true/\B0 an base bd (Af A d (.int .i64 (Em (O A x)))) (t) aF)):=by simp only[B0,Bf,if_true,EV];rfl
@[simp] theorem aJG(z bytes:Nat)(x y:Operand):B0 an base (⟨B,d,none,.app z bytes x y,bp⟩::bd) A t aF=((Bp t z (O A x)&&Dl t (O A x)&&FH t z (O A y)&&decide (0<z)&&decide ((CQ (O A x)+Dz (O A y))*bytes<=140737488355328)&&decide (CQ (O A x)+Dz (O A y)<=9223372036854775807))=true/\(Du A t bp=true/\B0 an base bd (Af A d (if Dz (O A y)=0 then O A x else if Dn t z (O A x) (Dz (O A y))then SI (O A x) (Dz (O A y))else .slice (some ⟨base+B,0,none⟩) (CQ (O A x)+Dz (O A y)) z)) (if Dz (O A y)=0 then t else if Dn t z (O A x) (Dz (O A y))then GA t z (O A x) (FA t z (O A y))else(Dx t (O A x)).A0 (base+B) (some ⟨C7 t z (O A x)++FA t z (O A y),true⟩)) aF)):=by simp only[B0,Bf,if_true,EV];rfl
@[simp] theorem aIq(a:Bool)(x:Operand)(xs:List Operand):B0 an base (⟨B,d,none,.QM a x xs,bp⟩::bd) A t aF=((Bo (O A x)&&xs.all λy=>Bo (O A y))=true/\(Du A t bp=true/\B0 an base bd (Af A d (xs.foldl (λb y=>if a then HI b (O A y)else H9 b (O A y)) (O A x))) (t) aF)):=by simp only[B0,Bf,if_true,EV];rfl
@[simp] theorem aI7:B0 an base (⟨B,d,none,.LB,bp⟩::bd) A t aF=(Du A t bp=true/\B0 an base bd (Af A d (.map (some (base+B)))) (t.Cf (base+B) []) aF):=by simp only[B0,Bf,if_true,EV,K.Dq,K.ok,true_and];rfl
@[simp] theorem aK4(a:Hj)(zero:Value)(o:Bool)(x k:Operand):B0 an base (⟨B,d,none,.Ll a zero o x k,bp⟩::bd) A t aF=(wV a t (O A x) (O A k)=true/\(Du A t bp=true/\B0 an base bd (Af A d (v7 zero o t (O A x) (O A k))) (t) aF)):=by simp only[B0,Bf,if_true,EV];rfl
@[simp] theorem aKc(a:Hj)(x k v:Operand):B0 an base (⟨B,d,none,.Kn a x k v,bp⟩::bd) A t aF=(yb a t (O A x) (O A k) (O A v)=true/\(Du A t bp=true/\B0 an base bd (Af A d (undef)) (pD t (O A x) (O A k) (O A v)) aF)):=by simp only[B0,Bf,if_true,EV];rfl
@[simp] theorem aJT(f:Nat)(fs cs:List Operand):B0 an base (⟨B,d,none,.Q9 (.func f) fs cs,bp⟩::bd) A t aF=(Du A t bp=true/\B0 an base bd (Af A d (.func (.func f) (fs.map (O A)).toArray (cs.map (O A)).toArray)) (t) aF):=by simp only[B0,Bf,if_true,EV,K.Dq,true_and];rfl
@[simp] theorem aKv{a:List Value}{k n:Nat}:J6 t (BR a k) n=decide (k+n<=a.length):=by simp[J6]
@[simp] theorem aGa{a n:Nat}:J6 t (.pointer (some ⟨a,o,none⟩)) n=(match t.W a with|some x=>decide (o+n<=x.cells.length)|none=>false):=rfl
@[simp] theorem aLm{a:List Value}{k n:Nat}:Nw t S n (BR a k)=if S then .agg ((a.drop k).take n).toArray else((a.drop k).take 1).headD undef:=by simp[Nw]
@[simp] theorem aOG{a n:Nat}:Nw t S n (.pointer (some ⟨a,o,none⟩))=if S then .agg (CW t a o n).toArray else(CW t a o 1).headD undef:=rfl
@[simp] theorem aJ3{a:List Value}{k:Nat}:IW (BR a k)=true:=rfl
@[simp] theorem aNT{a:Nat}:IW (.pointer (some ⟨a,o,none⟩))=true:=rfl
@[simp] theorem aMW{a:List Value}{k n:Nat}:Mh (BR a k) n=BR a (k+n):=by simp[Mh]
@[simp] theorem aMI{a n:Nat}:Mh (.pointer (some ⟨a,o,none⟩)) n= .pointer (some ⟨a,o+n,none⟩):=rfl
section
variable {b5:List (List Value)} {z T l c n:Nat} {a:Option Addr} {Z:Addr} {s:ByteArray} {i:Int}
@[simp] theorem aM8:Ov (M b5 z)=true:=rfl
@[simp] theorem aQ4:Ov (.slice a l c)=true:=rfl
@[simp] theorem aOZ:Em (M b5 z)=b5.length:=by simp[Em]
@[simp] theorem aNs:Em (.slice a l c)=l:=rfl
@[simp] theorem aOQ:Dz (M b5 z)=b5.length:=by simp[Dz]
@[simp] theorem aIM:Dz (.slice a l c)=l:=rfl
@[simp] theorem aOg:Eg T (M b5 z)=(z==T):=by simp[Eg]
variable{b o h:Nat}
@[simp] theorem aGg:Eg z (.slice (some ⟨b,o,none⟩) l c)=(c==z):=by simp[Eg,DL]
@[simp] theorem aHa:Eg z (.slice none 0 0)=true:=rfl
@[simp] theorem aJj:KN (M b5 z) T l h=M ((b5.take h).drop l) T:=by simp[KN]
@[simp] theorem aQB:KN (.slice (some ⟨b,o,none⟩) n c) z l h= .slice (some ⟨b,o+l*z,none⟩) (h-l) c:=rfl
@[simp] theorem aH4:KN (.slice none n c) z l h= .slice none 0 0:=rfl
@[simp] theorem aMm:N6 (M b5 z) T i=BR (b5.getD i.toNat []) 0:=by simp[N6]
@[simp] theorem aO1:N6 (.slice (some ⟨b,o,none⟩) l c) z i= .pointer (some ⟨b,o+i.toNat*z,none⟩):=rfl
@[simp] theorem aMc:FH t T (M b5 z)=(z==T):=by simp[FH]
@[simp] theorem aNI:FH t z (.slice (some ⟨b,o,none⟩) l c)=(c==z&&(match t.W b with|some x=>decide (o+l*z<=x.cells.length)|none=>false)):=rfl
@[simp] theorem aHY:FH t z (.slice none 0 0)=true:=rfl
@[simp] theorem aNp:FA t T (M b5 z)=b5.flatten:=by simp[FA]
@[simp] theorem aHt:FA t z (.slice (some ⟨b,o,none⟩) l c)=CW t b o (l*z):=rfl
@[simp] theorem aPM:FA t z (.slice none l c)=[]:=rfl
end
@[simp] theorem aIB{k:IntKind}{n:Int}:Ec (.int k n)=false:=rfl
@[simp] theorem aOX{b:Bool}:Ec (.bool b)=false:=rfl
@[simp] theorem aIV{b:ByteArray}:Ec (.string b)=false:=rfl
@[simp] theorem aIc{a:Option Addr}:Ec (.pointer a)=false:=rfl
@[simp] theorem aKB{a:Option Addr}{l c:Nat}:Ec (.slice a l c)=false:=rfl
@[simp] theorem aLH{a:Option Nat}:Ec (.map a)=false:=rfl
@[simp] theorem aO9{a:Array Value}:Ec (.agg a)=false:=rfl
@[simp] theorem aGQ{a:Array Value}:Ec (.tuple a)=false:=rfl
@[simp] theorem aIh:Ec undef=false:=rfl
@[simp] theorem aNV{f:Nat}{a b:Array Value}:Ec (.func (.func f) a b)=false:=rfl
@[simp] theorem aMx:Ec .nilFunc=false:=rfl
@[simp] theorem aMo:Ec .nilIface=false:=rfl
@[simp] theorem aJI{t:TypeId}{v:Value}:Ec (.iface t v)=false:=rfl
@[simp] theorem aOy{k:IntKind}{n:Int}:GM (.int k n)=true:=rfl
@[simp] theorem aLb{b:Bool}:GM (.bool b)=true:=rfl
@[simp] theorem aMu{b:ByteArray}:GM (.string b)=true:=rfl
@[simp] theorem aNW{a:Option Addr}:GM (.pointer a)=true:=rfl
@[simp] theorem aMb{l c:Nat}:GM (.slice none l c)=true:=rfl
@[simp] theorem aPo{f:Nat}{a b:Array Value}:GM (.func (.func f) a b)=true:=rfl
@[simp] theorem aJf:GM .nilFunc=true:=rfl
@[simp high] theorem aIw:H (M b5 z)=[M b5 z]:=rfl
@[simp high] theorem aKR{a:List Value}:H (BR a z)=[BR a z]:=rfl
@[simp high] theorem aJy:E (M b5 z)=true:=rfl
@[simp high] theorem aLa{a:List Value}:E (BR a z)=true:=rfl
@[simp high] theorem aOJ:G (M b5 z)=true:=rfl
@[simp high] theorem aHn:BB (M b5 z)=false:=rfl
@[simp high] theorem aK1{a:List Value}:BB (BR a z)=false:=rfl
@[simp high] theorem aMO{a:List Value}:P5 (BR a z)=true:=rfl
@[simp high] theorem aMU:I (M b5 z)=none:=rfl
@[simp high] theorem aKg{a:List Value}:I (BR a z)=none:=rfl
@[simp] theorem aPA:Du A t []=true:=rfl
@[simp] theorem aO6{x y:Operand}:Du A t ((x,y)::bp)=(eV t (O A x) (O A y)&&Du A t bp):=rfl
variable {k:IntKind} {n:Int} {b:Bool} {s:ByteArray} {a:Option Addr} {l c f:Nat} {xs ys:Array Value} {v:Value} {A1:TypeId} {mp:Option Nat}
@[simp] theorem aK6:H (.int k n)=[.int k n]:=rfl
@[simp] theorem aJ5:E (.int k n)=true:=rfl
@[simp] theorem aPa:G (.int k n)=true:=rfl
@[simp] theorem aPl:H (.bool b)=[.bool b]:=rfl
@[simp] theorem aM1:E (.bool b)=true:=rfl
@[simp] theorem aLS:G (.bool b)=true:=rfl
@[simp] theorem aIm:H (.string s)=[.string s]:=rfl
@[simp] theorem aQE:E (.string s)=true:=rfl
@[simp] theorem aL7:G (.string s)=true:=rfl
@[simp] theorem aIL:H (.pointer a)=[.pointer a]:=rfl
@[simp] theorem aJQ:E (.pointer a)=true:=rfl
@[simp] theorem aKX:G (.pointer a)=true:=rfl
@[simp] theorem aJA:H (.slice a l c)=[.slice a l c]:=rfl
@[simp] theorem aMT:E (.slice a l c)=true:=rfl
@[simp] theorem aGX:G (.slice a l c)=true:=rfl
@[simp] theorem aP9:H (.map mp)=[.map mp]:=rfl
@[simp] theorem aJD:E (.map mp)=true:=rfl
@[simp] theorem aM3:G (.map mp)=true:=rfl
@[simp] theorem aGY:H (.func (.func f) xs ys)=[.func (.func f) xs ys]:=rfl
@[simp] theorem aIr:E (.func (.func f) xs ys)=true:=rfl
@[simp] theorem aKy:G (.func (.func f) xs ys)=true:=rfl
@[simp] theorem aHz:H (.nilFunc)=[.nilFunc]:=rfl
@[simp] theorem aNw:E (.nilFunc)=true:=rfl
@[simp] theorem aJK:G (.nilFunc)=true:=rfl
@[simp] theorem aLx:H (.nilIface)=[.nilIface]:=rfl
@[simp] theorem aIR:E (.nilIface)=true:=rfl
@[simp] theorem aNC:G (.nilIface)=true:=rfl
@[simp] theorem aOT:H (.iface A1 v)=[.iface A1 v]:=rfl
@[simp] theorem aGd:E (.iface A1 v)=true:=rfl
@[simp] theorem aP8:G (.iface A1 v)=true:=rfl
@[simp] theorem aOk:H (.agg xs)=xs.toList:=rfl
@[simp] theorem aHH:E (.agg xs)=true:=rfl
@[simp] theorem aPK:G (.agg xs)=false:=rfl
@[simp] theorem aIP:E (.tuple xs)=false:=rfl
@[simp] theorem aPH:I (.int k n)=none:=rfl
@[simp] theorem aGn:I (.bool b)=none:=rfl
@[simp] theorem aIu:I (.string s)=none:=rfl
@[simp] theorem aGo:I (.func (.func f) xs ys)=none:=rfl
@[simp] theorem aHB:I (.nilFunc)=none:=rfl
@[simp] theorem aKH:I (.nilIface)=none:=rfl
@[simp] theorem aHK:I (.iface A1 v)=none:=rfl
@[simp] theorem aHx:I (.agg xs)=none:=rfl
@[simp] theorem aGj:I (.tuple xs)=none:=rfl
@[simp] theorem aHk:I (.pointer (some Z))=some Z.block:=rfl
@[simp] theorem aGW:I (.pointer none)=none:=rfl
@[simp] theorem aJV:I (.slice (some Z) l c)=some Z.block:=rfl
@[simp] theorem aKW:I (.slice none l c)=none:=rfl
@[simp] theorem aMM:I (.map (some l))=some l:=rfl
@[simp] theorem aMy:I (.map none)=none:=rfl
@[simp] theorem aGr{f:Nat}{aF:Value->V->Prop}:Lc an f args t L aF=if SH an.p f=true then NM an.p f args t aF else OZ an f args t L aF:=by simp only[Lc]
@[simp] theorem aKw{f:Nat}{aF:Value->V->Prop}:OZ an f args t [] aF=if OS an.i f=true then LH an.i f args t aF else Bv P f args t aF:=propext Ep
@[simp] theorem aNX{f:Nat}{l:List Nat}{aF:Value->V->Prop}:OZ an f args t (o::l) aF=((o::l).all (Zj t)=true/\if OS an.i f=true then LH an.i f args (ER t (o::l)) (λr bC=>aF r (FU t bC (o::l)))else Bv P f args (ER t (o::l)) λr bC=>aF r (FU t bC (o::l))):=propext Ep
@[simp] theorem aHI:Fo A t []=[]:=rfl
@[simp] theorem aJc{x:Operand×Operand}:Fo A t (x::bp)=(match I (O A x.1)with|some o=>if OX t o=true then o::Fo A t bp else Fo A t bp|none=>Fo A t bp):=rfl
@[simp] theorem aNJ:Zj t o=(match t.W o with|some x=> !x.cells.isEmpty|none=>false):=rfl
theorem h9{b:Nat}(h:b≠o):(ER t [o]).W b=t.W b:=eF (by simpa using h)
theorem jf{b:Nat}{x:Option Bw}(h:b≠o):FU t ((ER t [o]).A0 b x) [o]=t.A0 b x:=by
 unfold FU ER V.A0
 grind
@[simp] theorem aIi{f:Nat}:OS ([]:List (DB P)) f=false:=rfl
@[simp] theorem aOs{s:DB P}{f:Nat}:OS (s::A4) f=(s.f==f||OS A4 f):=rfl
def ep(o:Option (Value×V))(aF:Value->V->Prop):Prop:=match o with
 |some (r,t)=>aF r t
 |none=>False
@[simp] theorem aK2{aF:Value->V->Prop}:ep (some (r,t)) aF=aF r t:=propext Ep
@[simp] theorem aJw{s:DB P}{f:Nat}{aF:Value->V->Prop}:LH (s::A4) f args t aF=if s.f=f then ep (s.fn args t) aF else LH A4 f args t aF:=propext Ep
@[simp] theorem aNQ{f:Nat}:SH ([]:List (AK P)) f=false:=rfl
@[simp] theorem aHV{s:AK P}{f:Nat}:SH (s::U) f=(s.f==f||SH U f):=rfl
def xT(o:Option Value)(a7:Value->Prop):Prop:=match o with
 |some r=>a7 r
 |none=>False
@[simp] theorem aKj:xT (some r) a7=a7 r:=propext Ep
@[simp] theorem aNy{s:AK P}{f:Nat}:MZ (s::U) f args a7=if s.f=f then xT (s.fn args) a7 else MZ U f args a7:=propext Ep
def TG(args:List Value)(t:V)(aF:Value->V->Prop)(r:Value):Prop:=aF r (if Fp r=true then Cm t (args.flatMap (As 9 t))else Jb t (args.flatMap (As 9 t)))
@[simp low] theorem aL4{aF:Value->V->Prop}:TG args t aF r=aF r (if Fp r=true then Cm t (args.flatMap (As 9 t))else Jb t (args.flatMap (As 9 t))):=propext Ep
@[simp] theorem aL5{aF:Value->V->Prop}{b:Bool}:TG args t aF (.bool b)=aF (.bool b) (Cm t (args.flatMap (As 9 t))):=propext Ep
@[simp] theorem aIT{aF:Value->V->Prop}{k:IntKind}{n:Int}:TG args t aF (.int k n)=aF (.int k n) (Cm t (args.flatMap (As 9 t))):=propext Ep
@[simp] theorem aJv{aF:Value->V->Prop}{s:ByteArray}:TG args t aF (.string s)=aF (.string s) (Cm t (args.flatMap (As 9 t))):=propext Ep
@[simp] theorem aOH{aF:Value->V->Prop}:TG args t aF (M b5 z)=aF (M b5 z) (Jb t (args.flatMap (As 9 t))):=propext Ep
def ua(o:Option (List Value))(an:List (AK P))(f:Nat)(a7:Value->Prop):Prop:=match o with
 |some ts=>MZ an f ts a7
 |none=>False
@[simp] theorem aNf{f:Nat}:ua (some ts) U f a7=MZ U f ts a7:=propext Ep
@[simp] theorem aNu{f:Nat}{aF:Value->V->Prop}:NM U f args t aF=ua (QY 9 t args) U f (TG args t aF):=propext Ep
open Classical in
noncomputable def AK.B8(f:Nat)(bG:Type)(a:bG->Prop)(enc:bG->List Value)(b:bG->Value)(ok: ∀x,a x->AL P f (enc x) (b x)):AK P:=
 ⟨f,λargs=>if h: ∃x,a x/\enc x=args then some (b h.choose)else none,λargs r h=>by
  split at h
  ·grind
  ·cases h⟩
theorem AK.BD{f:Nat}{dj:bG->Prop}{enc:bG->List Value}{a:bG->Value}{ok: ∀x,dj x->AL P f (enc x) (a x)}{x:bG}(b:dj x)(c: ∀y,enc y=enc x->y=x):(AK.B8 f bG dj enc a ok).fn (enc x)=some (a x):=by
 have d: ∃y,dj y/\enc y=enc x:=⟨x,b,rfl⟩
 grind [AK.B8]
@[simp] theorem AK.aOK{f:Nat}{a:bG->Prop}{enc:bG->List Value}{b:bG->Value}{ok: ∀x,a x->AL P f (enc x) (b x)}:(AK.B8 f bG a enc b ok).f=f:=rfl
@[simp] theorem aLg{n:Nat}:QY n t args=C8 (Az n t) args:=rfl
@[simp] theorem aE3{f:A2->Option A7}:C8 f []=some []:=rfl
@[simp] theorem fr{f:A2->Option A7}{x:A2}{xs:List A2}:C8 f (x::xs)=match f x with
  | some y=>(match C8 f xs with
    |some ys=>some (y::ys)
    |none=>none)
  |none=>none:=rfl
theorem Pe{n:Nat}{v:Value}(h:Co v=true):Az n t v=some v:=by cases n<;>simp[Az,h]
theorem P9{n:Nat}{v:Value}(h:Co v=true):As n t v=[]:=by cases n<;>simp[As,h]
@[simp] theorem aPt{n:Nat}{k:IntKind}:Az n t (.int k x)=some (.int k x):=Pe rfl
@[simp] theorem vx{n:Nat}{k:IntKind}:As n t (.int k x)=[]:=P9 rfl
@[simp] theorem aI1{k:IntKind}:Co (.int k x)=true:=rfl
@[simp] theorem aJB{n:Nat}{b:Bool}:Az n t (.bool b)=some (.bool b):=Pe rfl
@[simp] theorem aPf{n:Nat}{b:Bool}:As n t (.bool b)=[]:=P9 rfl
@[simp] theorem aII{b:Bool}:Co (.bool b)=true:=rfl
@[simp] theorem aMJ{n:Nat}{s:ByteArray}:Az n t (.string s)=some (.string s):=Pe rfl
@[simp] theorem aKt{n:Nat}{s:ByteArray}:As n t (.string s)=[]:=P9 rfl
@[simp] theorem aOY{s:ByteArray}:Co (.string s)=true:=rfl
@[simp] theorem aIS{n:Nat}:Az n t (.slice none 0 0)=some (.slice none 0 0):=Pe rfl
@[simp] theorem aLK{n:Nat}:As n t (.slice none 0 0)=[]:=P9 rfl
@[simp] theorem aIj:Co (.slice none 0 0)=true:=rfl
@[simp] theorem aLE:Co (.pointer none)=true:=rfl
@[simp] theorem aLR:Co (.nilFunc)=true:=rfl
@[simp] theorem aIG:Co (.nilIface)=true:=rfl
@[simp] theorem aOx:Co (.map none)=true:=rfl
@[simp] theorem aGx{n:Nat}:Az n t (M b5 z)=some (M b5 z):=Pe rfl
@[simp] theorem aKz{n:Nat}:As n t (M b5 z)=[]:=P9 rfl
@[simp] theorem aPS:Co (M b5 z)=true:=rfl
@[simp] theorem aHo{a:List Value}:Co (BR a z)=true:=rfl
theorem dS{n b l:Nat}:Az (n+1) t (.slice (some ⟨b,o,none⟩) l z)=match t.W b with
 | some x=>if o+l*z<=x.cells.length then(match C8 (C8 (Az n t)) (FE z l (x.cells.drop o))with
   |some b5=>some (M b5 z)
   |none=>none)else none
 |none=>none:=by
 grind [Az,Co,BB,Ec]
@[simp] theorem aJz:Az 9 t (.agg cs)=match C8 (Az 8 t) cs.toList with
  |some l=>some (.agg l.toArray)
  |none=>none:=rfl
@[simp] theorem aJq:Az 9 t (.tuple cs)=match C8 (Az 8 t) cs.toList with
  |some l=>some (.tuple l.toArray)
  |none=>none:=rfl
@[simp] theorem aOa{f:Nat}{xs:Array Value}:Az 9 t (.func (.func f) xs cs)=match C8 (Az 8 t) xs.toList,C8 (Az 8 t) cs.toList with
  |some l,some k=>some (.func (.func f) l.toArray k.toArray)
  |_,_=>none:=rfl
theorem RF{b l:Nat}:Az 9 t (.slice (some ⟨b,o,none⟩) l z)=match t.W b with
 | some x=>if o+l*z<=x.cells.length then(match C8 (C8 (Az 8 t)) (FE z l (x.cells.drop o))with
   |some b5=>some (M b5 z)
   |none=>none)else none
 |none=>none:=dS
@[simp] theorem aKx:As 9 t (.agg cs)=cs.toList.flatMap (As 8 t):=rfl
@[simp] theorem aIO:As 9 t (.tuple cs)=cs.toList.flatMap (As 8 t):=rfl
@[simp] theorem aNe{f:Nat}{xs:Array Value}:As 9 t (.func (.func f) xs cs)=xs.toList.flatMap (As 8 t)++cs.toList.flatMap (As 8 t):=rfl
theorem Na{b l:Nat}:As 9 t (.slice (some ⟨b,o,none⟩) l z)=b::(match t.W b with
 |some x=>x.cells.flatMap (As 8 t)
 |none=>[]):=rfl
@[simp] theorem aID:Az 8 t (.agg cs)=match C8 (Az 7 t) cs.toList with
  |some l=>some (.agg l.toArray)
  |none=>none:=rfl
@[simp] theorem aK0:Az 8 t (.tuple cs)=match C8 (Az 7 t) cs.toList with
  |some l=>some (.tuple l.toArray)
  |none=>none:=rfl
@[simp] theorem aMF{f:Nat}{xs:Array Value}:Az 8 t (.func (.func f) xs cs)=match C8 (Az 7 t) xs.toList,C8 (Az 7 t) cs.toList with
  |some l,some k=>some (.func (.func f) l.toArray k.toArray)
  |_,_=>none:=rfl
theorem a1I{b l:Nat}:Az 8 t (.slice (some ⟨b,o,none⟩) l z)=match t.W b with
 | some x=>if o+l*z<=x.cells.length then(match C8 (C8 (Az 7 t)) (FE z l (x.cells.drop o))with
   |some b5=>some (M b5 z)
   |none=>none)else none
 |none=>none:=dS
@[simp] theorem aNa:As 8 t (.agg cs)=cs.toList.flatMap (As 7 t):=rfl
@[simp] theorem aMR:As 8 t (.tuple cs)=cs.toList.flatMap (As 7 t):=rfl
@[simp] theorem aQ5{f:Nat}{xs:Array Value}:As 8 t (.func (.func f) xs cs)=xs.toList.flatMap (As 7 t)++cs.toList.flatMap (As 7 t):=rfl
theorem aF9{b l:Nat}:As 8 t (.slice (some ⟨b,o,none⟩) l z)=b::(match t.W b with
 |some x=>x.cells.flatMap (As 7 t)
 |none=>[]):=rfl
@[simp] theorem aGL:Az 7 t (.agg cs)=match C8 (Az 6 t) cs.toList with
  |some l=>some (.agg l.toArray)
  |none=>none:=rfl
@[simp] theorem aMV:Az 7 t (.tuple cs)=match C8 (Az 6 t) cs.toList with
  |some l=>some (.tuple l.toArray)
  |none=>none:=rfl
@[simp] theorem aKI{f:Nat}{xs:Array Value}:Az 7 t (.func (.func f) xs cs)=match C8 (Az 6 t) xs.toList,C8 (Az 6 t) cs.toList with
  |some l,some k=>some (.func (.func f) l.toArray k.toArray)
  |_,_=>none:=rfl
@[simp] theorem aP6:As 7 t (.agg cs)=cs.toList.flatMap (As 6 t):=rfl
@[simp] theorem aKe:As 7 t (.tuple cs)=cs.toList.flatMap (As 6 t):=rfl
@[simp] theorem aNM{f:Nat}{xs:Array Value}:As 7 t (.func (.func f) xs cs)=xs.toList.flatMap (As 6 t)++cs.toList.flatMap (As 6 t):=rfl
@[simp] theorem aKh:Az 6 t (.agg cs)=match C8 (Az 5 t) cs.toList with
  |some l=>some (.agg l.toArray)
  |none=>none:=rfl
@[simp] theorem aOw:Az 6 t (.tuple cs)=match C8 (Az 5 t) cs.toList with
  |some l=>some (.tuple l.toArray)
  |none=>none:=rfl
@[simp] theorem aNx{f:Nat}{xs:Array Value}:Az 6 t (.func (.func f) xs cs)=match C8 (Az 5 t) xs.toList,C8 (Az 5 t) cs.toList with
  |some l,some k=>some (.func (.func f) l.toArray k.toArray)
  |_,_=>none:=rfl
@[simp] theorem aHi:As 6 t (.agg cs)=cs.toList.flatMap (As 5 t):=rfl
@[simp] theorem aND:As 6 t (.tuple cs)=cs.toList.flatMap (As 5 t):=rfl
@[simp] theorem aOE{f:Nat}{xs:Array Value}:As 6 t (.func (.func f) xs cs)=xs.toList.flatMap (As 5 t)++cs.toList.flatMap (As 5 t):=rfl
@[simp] theorem aNB:Az 5 t (.agg cs)=match C8 (Az 4 t) cs.toList with
  |some l=>some (.agg l.toArray)
  |none=>none:=rfl
@[simp] theorem aKS:Az 5 t (.tuple cs)=match C8 (Az 4 t) cs.toList with
  |some l=>some (.tuple l.toArray)
  |none=>none:=rfl
@[simp] theorem aGu{f:Nat}{xs:Array Value}:Az 5 t (.func (.func f) xs cs)=match C8 (Az 4 t) xs.toList,C8 (Az 4 t) cs.toList with
  |some l,some k=>some (.func (.func f) l.toArray k.toArray)
  |_,_=>none:=rfl
@[simp] theorem aOM:As 5 t (.agg cs)=cs.toList.flatMap (As 4 t):=rfl
@[simp] theorem aGb:As 5 t (.tuple cs)=cs.toList.flatMap (As 4 t):=rfl
@[simp] theorem aM6{f:Nat}{xs:Array Value}:As 5 t (.func (.func f) xs cs)=xs.toList.flatMap (As 4 t)++cs.toList.flatMap (As 4 t):=rfl
@[simp] theorem aHq:Az 4 t (.agg cs)=match C8 (Az 3 t) cs.toList with
  |some l=>some (.agg l.toArray)
  |none=>none:=rfl
@[simp] theorem aOo:Az 4 t (.tuple cs)=match C8 (Az 3 t) cs.toList with
  |some l=>some (.tuple l.toArray)
  |none=>none:=rfl
@[simp] theorem aJX{f:Nat}{xs:Array Value}:Az 4 t (.func (.func f) xs cs)=match C8 (Az 3 t) xs.toList,C8 (Az 3 t) cs.toList with
  |some l,some k=>some (.func (.func f) l.toArray k.toArray)
  |_,_=>none:=rfl
@[simp] theorem aMj:As 4 t (.agg cs)=cs.toList.flatMap (As 3 t):=rfl
@[simp] theorem aPR:As 4 t (.tuple cs)=cs.toList.flatMap (As 3 t):=rfl
@[simp] theorem aKG{f:Nat}{xs:Array Value}:As 4 t (.func (.func f) xs cs)=xs.toList.flatMap (As 3 t)++cs.toList.flatMap (As 3 t):=rfl
@[simp] theorem aP7{cs:List Value}:FE z 0 cs=[]:=rfl
@[simp] theorem aGs{cs:List Value}:FE z 1 cs=[cs.take z]:=rfl
@[simp] theorem aGP{cs:List Value}:FE z 2 cs=[cs.take z,(cs.drop z).take z]:=rfl
@[simp] theorem aPP{cs:List Value}:FE z 3 cs=[cs.take z,(cs.drop z).take z,((cs.drop z).drop z).take z]:=rfl
@[simp] theorem aJa{cs:List Value}:FE z 4 cs=[cs.take z,(cs.drop z).take z,((cs.drop z).drop z).take z,(((cs.drop z).drop z).drop z).take z]:=rfl
@[simp] theorem aNO{cs:List Value}:FE z 5 cs=[cs.take z,(cs.drop z).take z,((cs.drop z).drop z).take z,(((cs.drop z).drop z).drop z).take z,((((cs.drop z).drop z).drop z).drop z).take z]:=rfl
@[simp] theorem aPe:D0.next=0:=rfl
theorem JG{n l:Nat}(a:t.W o=some ⟨b5.flatten,w⟩)(b:l=b5.length)(c: ∀r∈b5,r.length=z/\ ∀v∈r,Co v=true):Az (n+1) t (.slice (some ⟨o,0,none⟩) l z)=some (M b5 z):=by
 grind [Az,dw,Pe,JQ,Co,BB,Ec,e6]
theorem cg{cs:List Value}{n:Nat}(a: ∀v∈cs,Co v=true):cs.flatMap (As n t)=[]:=by
 grind [List.flatMap_eq_nil_iff,P9]
end
variable{a0 d bA cs ts ys R X:List Value}{b f base:Nat}{w:Bool}{r x y v:Value}{J:C5}{s:CX}{nR:List CX}{aF q8:Value->V->Prop}
@[simp] theorem aOR{l:List (List Value)}:(a0::l)[0]?.getD d=a0:=rfl
@[simp] theorem aLs{l:List (List Value)}:(a0::bA::l)[1]?.getD d=bA:=rfl
@[simp] theorem aPY{a:List Value}{l:List (List Value)}:(a0::bA::a::l)[2]?.getD d=a:=rfl
attribute [simp] eV U7 OX RX VG IS Ul H2
open Go Go.RowKit
def Mb(m:V):Ca:= λb=>(m.W b).map (·.cells)
variable {P:Program} {u:Ca} {m N:V}
theorem vD(m:V):It (Mb m) m:= λb cs h=>by
 simp only[Mb]at h;cases a:m.W b with
 |none=>rw[a]at h;cases h
 |some x=>rw[a]at h;cases h;exact⟨x.own,rfl⟩
theorem gD(h:m.W b=some ⟨cs,w⟩):Mb m b=some cs:=by simp[Mb,h]
theorem x2(h:It u m):Cs u (Mb m):= λb cs hb=>by obtain⟨w,a⟩:=h b cs hb;exact gD a
abbrev Yy(m:V)(v a:Value):Prop:=AW (Mb m) EX v a
abbrev XY(m:V)(a b:List Value):Prop:=AJ (Mb m) EX a b
theorem aEc(h: ∀m C,XY m ts C->Aq P f C m λa N=>(m.next<=N.next/\ ∀b,b<m.next->N.W b=m.W b)/\Yy N r a):AL P f ts r:= λu m C c g=>by refine(h m C (g.AG (x2 c) (CA.refl _))).AG λa N i=> ?_;obtain⟨⟨j,d⟩,k⟩:=i;exact⟨j,d,Mb N,λb cs hb=>by obtain⟨w,e⟩:=c b cs hb;exact gD (by rw[d b (F e)];exact e),vD N,k⟩
theorem AL.below{C:List Value}(h:AL P f ts r)(c:XY m ts C):Aq P f C m λa N=>(m.next<=N.next/\ ∀b,b<m.next->N.W b=m.W b)/\Yy N r a:=by refine(h (Mb m) m C (vD m) c).AG λa N d=> ?_;obtain⟨e,g,k,l,i,j⟩:=d;exact⟨⟨e,g⟩,j.AG (x2 i) (CA.refl _)⟩
theorem AJ.Gd(h:AJ u J [x] ys): ∃y,ys=[y]/\AW u J x y:=by
 match ys,h with
 |[y],h=>exact⟨y,rfl,h.2 0 x y rfl rfl⟩
 |[],h=>simp[AJ]at h
 |_::_::_,h=>simp[AJ]at h
theorem AJ.ct(h:AJ u J [x,y] R): ∃a b,R=[a,b]/\AW u J x a/\AW u J y b:=by
 match R,h with
 |[a,b],h=>exact⟨a,b,rfl,h.2 0 x a rfl rfl,h.2 1 y b rfl rfl⟩
 |[],h=>simp[AJ]at h
 |[_],h=>simp[AJ]at h
 |_::_::_::_,h=>simp[AJ]at h
theorem AJ.a2A{z:Value}(h:AJ u J [x,y,z] R): ∃a b c,R=[a,b,c]/\AW u J x a/\AW u J y b/\AW u J z c:=by
 match R,h with
 |[a,b,c],h=>exact⟨a,b,c,rfl,h.2 0 x a rfl rfl,h.2 1 y b rfl rfl,h.2 2 z c rfl rfl⟩
 |[],h=>simp[AJ]at h
 |[_],h=>simp[AJ]at h
 |[_,_],h=>simp[AJ]at h
 |_::_::_::_::_,h=>simp[AJ]at h
def Lr:(s:CX)->s.FO->List Value
 | .int k,n=>[.int k n]
 | .bool,b=>[.bool b]
 | .str,s=>[.string s]
 | .slice e,l=>[M ((Im l).map (Lr e)) e.cells]
 | .unit,_=>[]
 | .EF a b,d=>Lr a d.1++Lr b d.2
theorem bJ: ∀(s:CX) (d:s.FO),(Lr s d).length=s.cells
 | .int _,_=>rfl
 | .bool,_=>rfl
 | .str,_=>rfl
 | .slice _,_=>rfl
 | .unit,_=>rfl
 | .EF a b,d=>by simp[Lr,bJ a,bJ b,CX.cells]
theorem b7: ∀{s:CX} {cs:List Value} {d:s.FO},Ju m s cs d->XY m (Lr s d) cs
 | .int k,cs,d,h=>by rw[h.1];exact AJ.cons (.BT rfl) AJ.nil
 | .bool,cs,d,h=>by have:cs=[.bool d]:=h;rw[this];exact AJ.cons (.BT rfl) AJ.nil
 | .str,cs,d,h=>by rw[h.1];exact AJ.cons (.BT rfl) AJ.nil
 | .unit,cs,d,h=>by have:cs=[]:=h;rw[this];exact AJ.nil
 | .EF a b,cs,d,h=>by obtain⟨E,F,rfl,A,f⟩:=h;exact(b7 A).Iu (b7 f)
 | .slice e,cs,l,h=>by
   simp only[Lr];rcases h with⟨rfl,h⟩|⟨b,b5,rfl,f,G,n,o⟩
   ·rw[h];exact AJ.cons (.Oy rfl) AJ.nil
   ·refine AJ.cons ?_ AJ.nil;have p: ∀r∈b5,r.length=e.cells:= λr c=>by
     obtain⟨i,g,rfl⟩:=EC c;exact(o i _ _ (AS g) (AS (by omega))).len
    have B:b5.flatten.length=b5.length*e.cells:=JQ p;have:=AW.Ql (u:=Mb m) (J:=EX) (v:=M ((Im l).map (Lr e)) e.cells) (b:=b) (off:=0) (z:=e.cells) (cs:=b5.flatten) (b5:=(Im l).map (Lr e)) rfl (gD f) (by rw[B,n,Eb];omega) (λi r c=> ?_) λi j r x y c q H=> ?_
    ·simpa using this
    ·grind [bJ]
    ·rw[GS,Kz]at c;obtain⟨I,t,rfl⟩:=c;have g:=(AX.1 t).1;have w:i<b5.length:=(by rw[n];exact g);have C:=o i _ _ (AS w) t;refine(b7 C).2 j x y q ?_;have D:=(AX.1 q).1;rw[bJ]at D;have K:=uL p (AS w)
     grind
def Wy(s:CX)(d:s.FO):Value:=if s.isAgg then .agg (Lr s d).toArray else(Lr s d).headD undef
theorem a2p{d:s.FO}(h:nM m s v d):Yy m (Wy s d) v:=by
 obtain⟨cs,a,rfl⟩:=h;have:=b7 a;unfold Wy;split
 ·exact this.agg
 ·exact this.headD
inductive VA:List CX->List Value->Prop
 |nil:VA [] []
 |cons {s:CX} {d:s.FO} {nR:List CX} {a:List Value} (ok:QA s d) (b:VA nR a):VA (s::nR) (Wy s d::a)
theorem a2X(h:MU m nR X): ∃ts,VA nR ts/\XY m ts X:=by
 induction h with
 |nil=>exact⟨[],.nil,AJ.nil⟩
 | cons h f b=>obtain⟨ts,c,d⟩:=b;obtain⟨cs,a,e⟩:=h;exact⟨_,.cons a.ok c,AJ.cons (a2p ⟨cs,a,e⟩) d⟩
theorem kR(h: ∀ts,VA nR ts->AL P f ts (.bool true))(m:V)(X:List Value)(a:MU m nR X):Aq P f X m λr _=>r= .bool true:=by obtain⟨ts,b,c⟩:=a2X a;exact((h ts b).below c).AG λr N d=>d.2.Jv
variable {P:Program} {an:J9 P} {t bC:V} {A A5:A6} {c:D} {Q:BM->A6->V->Prop}
theorem aDU(d: ∀J u a m,BI J u t m->D5 u J A a->BI J u bC m/\D5 u J A5 a/\Be t.next m.next J u t m J u bC m)(h:BY P c A5 bC Q):BY P c A t Q:= λf J u a m g i=>by obtain⟨j,k,b⟩:=d J u a m g i;refine(h f J u a m j k).AG λe x y l=> ?_;obtain⟨n,o,p,q,r,s,v,w⟩:=l;exact⟨n,o,p,q,r,s,v,b.trans (w.Kr b.Gm (Ao _))⟩
theorem qh{J:C5}{u:Ca}{m:V}(c:BI J u t m){o j z:Nat}{cs:List Value}(q:t.W o=some ⟨cs,true⟩)(B:cs[j]?=some (.slice none 0 0)):
 BI J u (((t.AE 1).A0 t.next (some ⟨[],true⟩)).A0 o (some ⟨cs.set j (.slice (some ⟨t.next,0,none⟩) 0 z),true⟩)) m/\Be t.next m.next J u t m J u (((t.AE 1).A0 t.next (some ⟨[],true⟩)).A0 o (some ⟨cs.set j (.slice (some ⟨t.next,0,none⟩) 0 z),true⟩)) m:=by
 refine⟨?_,?_⟩
 ·have n:J t.next=none:=by
   cases l:J t.next with
   |none=>rfl
   |some b=>have:=(c.B7 _ _ l).1;omega
  have E:=F q;have G:o≠t.next:=by omega
  refine⟨λp x k=> ?_,λp es l=> ?_,c.Er,c.inj,λp b h=>⟨by have:=(c.B7 p b h).1;simp only[Ar,BC];omega,(c.B7 p b h).2⟩,λb ds hb=> ?_⟩
  ·by_cases d:p=o
   ·subst d;rw[AT (by simp;omega)]at k;cases k;rcases c.Eh p _ q with⟨b,ds,w,s,v,r,A⟩|⟨s,v⟩
    ·refine .inl ⟨b,ds,w,s,v,r,?_⟩;obtain⟨y,H,C⟩:=A.W B;have:=A.set j (y:=y) (x:= .slice (some ⟨t.next,0,none⟩) 0 z) (by rw[C.DH rfl];exact .Qs (.inl rfl));rw[show ds.set j y=ds from by
      apply N1;intro i;rw[Ig];split
      ·grind
      ·rfl]at this
     exact this
    ·simp_all
   ·rw[A3 d]at k;by_cases g:p=t.next
    ·subst g;rw[AT (by simp)]at k;cases k;exact .inr ⟨n,rfl⟩
    ·rw[A3 g,V.AU]at k;exact c.Eh p x k
  ·by_cases d:p=o
   ·subst d;obtain⟨a,f⟩:=DQ l;rw[AT (by simp;omega)]at a
    simp_all
   ·obtain⟨a,f⟩:=DQ l;rw[A3 d]at a;by_cases g:p=t.next
    ·subst g;have r:t.mp t.next=some es:=f
     rw[c.Er _ n]at r;cases r
    ·rw[A3 g,V.AU]at a;exact c.maps p es (E7 a f)
  ·obtain⟨s,v⟩:=c.AZ b ds hb
   grind [A3,V.AU]
 ·have n:J t.next=none:=by
   cases l:J t.next with
   |none=>rfl
   |some b=>have:=(c.B7 _ _ l).1;omega
  refine⟨CA.refl _,Cs.refl _,λ_ _ h=> .inl h,λ_ _ h=> .inl h,by simp,Ao _,λ_ _ _=>rfl,λb hb=> λ⟨p,x,a,f,D⟩=> ?_,λb hb=> λ⟨p,x,a,f⟩=> ?_⟩
  ·by_cases d:p=o
   ·subst d;exact⟨p,_,a,q,rfl⟩
   ·rw[A3 d]at f;have g:p≠t.next:= λe=>by subst e;rw[n]at a;cases a
    rw[A3 g,V.AU]at f;exact⟨p,x,a,f,D⟩
  ·by_cases d:p=o
   ·subst d;exact⟨p,_,a,q⟩
   ·rw[A3 d]at f;have g:p≠t.next:= λe=>by subst e;rw[n]at a;cases a
    rw[A3 g,V.AU]at f;exact⟨p,x,a,f⟩
theorem Oa{o j z:Nat}(a:t.W o=some ⟨cs,true⟩)(b:cs[j]?=some (.slice none 0 0))
 (h:BY P c A (((t.AE 1).A0 t.next (some ⟨[],true⟩)).A0 o (some ⟨cs.set j (.slice (some ⟨t.next,0,none⟩) 0 z),true⟩)) Q):BY P c A t Q:=
 aDU (λJ u f m d e=>⟨(qh d a b).1,e,(qh d a b).2⟩) h
theorem a6P{l:List (AK P)}{a7 a:Value->Prop}(h:MZ l f ts a7)(b: ∀r,a7 r->a r):MZ l f ts a:=by
 induction l with
 |nil=>exact h
 | cons s an c=>
   grind [MZ]
theorem ot{l:List (DB P)}{t:V}(h:LH l f ts t aF)(a: ∀r t,aF r t->q8 r t):LH l f ts t q8:=by
 induction l with
 |nil=>exact h
 | cons s an b=>
   grind [LH]
theorem qk{f:Nat}{args:List Value}{L:List Nat}{aF q8:Value->V->Prop}(h:Lc an f args t L aF)(a: ∀r t,aF r t->q8 r t):Lc an f args t L q8:=by
 unfold Lc at h⊢;split at h
 ·grind [NM,a6P]
 ·next c=>
  rw[if_neg c];cases L with
  | nil=>
    simp only[OZ]at h⊢;split at h
    ·next e=>rw[if_pos e];exact ot h a
    ·next e=>rw[if_neg e];exact h.AG a
  | cons o l=>
    simp only[OZ]at h⊢;refine⟨h.1,?_⟩;have b:=h.2;split at b
    ·grind [ot]
    ·next e=>rw[if_neg e];exact b.AG λr t d=>a _ _ d
theorem X9: ∀{ops:List Ap} {A:A6} {t:V} {aF q8:A6->V->Prop},B0 an base ops A t aF->(∀A t,aF A t->q8 A t)->B0 an base ops A t q8
 |[],_,_,_,_,h,a=>a _ _ h
 | o::ops,A,t,aF,q8,h,a=>by
   simp only[B0]at h⊢;split at h
   ·next b=>
    rw[if_pos b];obtain⟨B,d,g,k,bp⟩:=o;cases k with
    |KC f C=>exact qk h λr t h=>X9 h a
    | Iw x C=>
      simp only[EV,Vf]at h⊢;split at h
      ·exact qk h λr t h=>X9 h a
      ·exact h
    |Ip=>exact h
    |_=>exact⟨h.1,h.2.1,X9 h.2.2 a⟩
   ·next b=>rw[if_neg b];exact X9 h a
theorem Rt: ∀{c:D} {A:A6} {t:V} {Q g:BM->A6->V->Prop},ED an c A t Q->(∀e A t,Q e A t->g e A t)->ED an c A t g
 | .skip,_,_,_,_,h,d=>d _ _ _ h
 | .Ai _,_,_,_,_,h,d=>d _ _ _ h
 | .DO,_,_,_,_,h,d=>d _ _ _ h
 | .FI _,_,_,_,_,h,d=>X9 h λA t h=>d _ _ _ h
 | .Ky _ _ _,_,_,_,_,h,_=>h.elim
 | .Ez a b,_,_,_,_,h,d=>Rt (c:=a) h λe A t h=>by
   cases e with
   |Cx=>exact Rt (c:=b) h d
   |Ai id=>exact d _ _ _ h
   |DO=>exact d _ _ _ h
 | .Gh c a b,_,_,_,_,h,d=>by
   refine⟨h.1,?_⟩;have f:=h.2;split at f
   ·next e=>rw[if_pos e];exact Rt (c:=a) f d
   ·next e=>rw[if_neg e];exact Rt (c:=b) f d
 | .block id c,_,_,_,_,h,d=>Rt (c:=c) h λe A t h=>by
   grind
 | .loop _,_,_,_,_,h,d=>h.AG d
theorem CE(Y:Nat->A6->V->Prop)(n:Nat)(step: ∀i A t,i<n->Y i A t-> ∀a:A6->V->Prop,(∀d f,Y (i+1) d f->a d f)->ED an c A t (Li a Q))
 (k: ∀A t,Y n A t->ED an c A t (Li (λ_ _=>False) Q)): ∀(i:Nat) (A:A6) (t:V),i<=n->Y i A t->BY P (.loop c) A t Q:=by
 have key: ∀(r i:Nat) (A:A6) (t:V),i+r=n->Y i A t->BY P (.loop c) A t Q:=by
  intro r;induction r with
  | zero=>
    intro i A t g b;have e:i=n:=(by omega);subst e;refine BU (an:=an) λa j=> ?_;have l:=k A t b;refine Rt l λe A t h=> ?_;cases e with
    |Cx=>exact h.elim
    |Ai id=>exact h
    |DO=>exact h
  | succ r m=>intro i A t g b;exact BU (an:=an) λa j=>step i A t (by omega) b a λd f h=>j _ _ (m (i+1) d f (by omega) h)
 exact λi A t g b=>key (n-i) i A t (by omega) b
variable {P:Program} {t:V}
open Classical in
theorem aDv{J:C5}{u:Ca}{t m:V}(a:BI J u t m){o p j z:Nat}{b5:List (List Value)}{cells:List Value}(O:t.W o=some ⟨b5.flatten,true⟩)(P: ∀r∈b5,r.length=z/\ ∀v∈r,Co v=true)
 (Q:t.W p=some ⟨cells,true⟩) (A1:cells[j]?=some (.slice (some ⟨o,0,none⟩) b5.length z)) (A2:o≠p):
 ∃d,Cs u d/\(∀b cs,d b=some cs->u b=some cs\/J o=some b)/\BI J d ((t.A0 o none).A0 p (some ⟨cells.set j (M b5 z),true⟩)) m:=by
 have A4:=F O;have A5:=F Q;have A: ∀r∈b5,r.length=z:= λr h=>(P r h).1;refine⟨λb=>match u b with
  |some cs=>some cs
  |none=>if J o=some b then(m.W b).map (·.cells)else none,λb cs hb=>by simp only[hb],λb cs hb=> ?_,?_⟩
 ·grind
 ·obtain⟨d,B⟩: ∃d:Ca,d= λb=>match u b with
   |some cs=>some cs
   |none=>if J o=some b then(m.W b).map (·.cells)else none:=⟨_,rfl⟩
  rw[<-B];have C:Cs u d:= λb cs hb=>by rw[B];simp only[hb]
  have A6: ∀b cs w,J o=some b->m.W b=some ⟨cs,w⟩->d b=some cs:= λb cs w I k=>by
   rw[B];simp only;cases D:u b with
   |some ds=>obtain⟨⟨R,S⟩,_⟩:=a.AZ b ds D;rw[k]at S;cases S;rfl
   |none=>simp only;rw[if_pos I,k];rfl
  have A7:((t.A0 o none).A0 p (some ⟨cells.set j (M b5 z),true⟩)).W p=some ⟨cells.set j (M b5 z),true⟩:=AT (by simpa using A5);have AO:((t.A0 o none).A0 p (some ⟨cells.set j (M b5 z),true⟩)).W o=none:=(by rw[A3 A2,AT A4]);have T: ∀q,q≠p->q≠o->((t.A0 o none).A0 p (some ⟨cells.set j (M b5 z),true⟩)).W q=t.W q:= λq e f=>by rw[A3 e,A3 f]
  refine⟨λq x l=> ?_,λq es A8=> ?_,a.Er,a.inj,a.B7,λb ds hb=> ?_⟩
  ·by_cases e:q=p
   ·subst e;rw[A7]at l;cases l;rcases a.Eh q _ Q with⟨b,ds,w,g,E,K,G⟩|⟨g,E⟩
    ·refine .inl ⟨b,ds,w,g,E,K,?_⟩;obtain⟨y,U,A9⟩:=G.W A1;have AB:AW d J (M b5 z) y:=by
      rcases A9.Fk with⟨c,n,_,rfl⟩|⟨_,_,AD,rfl⟩
      ·obtain⟨cs,R,L,_,H⟩:=a.Hc n O;have AP:(b5.flatten).length=b5.length*z:=JQ A;refine .Ql (off:=0) rfl (A6 c cs R n L) (by rw[<-H.1];simp only;omega) (λi r s=>A r (B9 s)) λi X r N y s Y U=> ?_;have AQ:=uL A s;have AE:=(AX.1 Y).1;rw[A r (B9 s)]at AE;have AF:(b5.flatten)[i*z+X]?=some N:=by
        grind
       have AH:=H.2 (i*z+X) N y AF (by rw[<-U];congr 1;omega);exact eh C AH ((P r (B9 s)).2 N (B9 Y))
      ·have:b5=[]:=MM AD;subst this;exact .Oy rfl
     have Z:=(G.AG C (CA.refl _)).set j AB;rw[show ds.set j y=ds from by
      apply N1;intro i;rw[Ig];split
      ·grind
      ·rfl]at Z
     exact Z
    ·simp_all
   ·by_cases f:q=o
    ·simp_all
    ·rw[T q e f]at l;rcases a.Eh q x l with⟨b,ds,w,g,E,K,G⟩|g
     ·exact .inl ⟨b,ds,w,g,E,K,G.AG C (CA.refl _)⟩
     ·exact .inr g
  ·obtain⟨n,AJ⟩:=DQ A8;by_cases e:q=p
   ·simp_all
   ·by_cases f:q=o
    ·simp_all
    ·rw[T q e f]at n;obtain⟨b,AK,L,AL,H⟩:=a.maps q es (E7 n AJ);exact⟨b,AK,L,AL,H.AG C (CA.refl _)⟩
  ·have AM:u b=some ds\/(J o=some b/\ ∃w,m.W b=some ⟨ds,w⟩):=by
    rw[B]at hb;simp only at hb;cases D:u b with
    |some x=>rw[D]at hb;simp only at hb;exact .inl hb
    | none=>
      rw[D]at hb;simp only at hb;split at hb
      ·next h=>
       cases k:m.W b with
       |none=>rw[k]at hb;cases hb
       |some x=>rw[k]at hb;cases hb;exact .inr ⟨h,x.own,rfl⟩
      ·cases hb
   rcases AM with h|⟨h,w,AN⟩
   ·obtain⟨e,f⟩:=a.AZ b ds h
    grind
   ·refine⟨⟨w,AN⟩,λq x I l=> ?_⟩;have:q=o:=a.inj q o b I h
    simp_all
variable {P:Program} {t bC:V} {l:List Nat}
end Go.DI
