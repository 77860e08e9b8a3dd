/-
  A part of the proof of the statement, in texts that tools of ours (wip/shrink.py, irpack.py, relax.py, minify.py, join.py, lay.py) have shortened.
-/
import Derived.Test.YtmmkkggfmigppaaGreatZai
set_option linter.all false
set_option maxRecDepth 8000
set_option maxHeartbeats 16000000
namespace Go.DI
open Go
section
variable {P:Program} {aB:nN P} {yg:List (bz P)} {M9:List (j9 P)} {base aN:Nat} {d:Option Nat} {bV:List bn} {z:aP} {t:W} {aW:aP->W->Prop} {a5:List (Operand×Operand)} {Q:dy->aP->W->Prop}
def Nl(aB:nN P)(b:I)(Q:dy->aP->W->Prop)(e:dy)(z:aP)(t:W):Prop:=match e with
  | .et=>iU aB b z t Q
  |e=>Q e z t
@[simp] theorem aLS{b:I}:Nl aB b Q .et z t=iU aB b z t Q:=propext jS
@[simp] theorem aLR{b:I}{id:Nat}:Nl aB b Q (.ba id) z t=Q (.ba id) z t:=propext jS
@[simp] theorem aLT{b:I}:Nl aB b Q .aG z t=Q .aG z t:=propext jS
@[simp] theorem aIm{u:List kU}{cg:Value->W->Prop}:aen u cg .aG z t=(kK t z u=true/\cg (lb t z u) t):=propext jS
@[simp] theorem aL4:iU aB .skip z t Q=Q .et z t:=propext jS
@[simp] theorem aLZ{id:Nat}:iU aB (.ba id) z t Q=Q (.ba id) z t:=propext jS
@[simp] theorem aL2:iU aB .aG z t Q=Q .aG z t:=propext jS
@[simp] theorem aL1{ops:List bn}:iU aB (.E ops) z t Q=dk aB t.next ops z (gQ ops t) (Q .et):=propext jS
@[simp] theorem aL3{a b:I}:iU aB (.B a b) z t Q=iU aB a z t (Nl aB b Q):=propext jS
@[simp] theorem aLY{c:Operand}{a b:I}:iU aB (.aR c a b) z t Q=(rT (X z c)=true/\if tI (X z c)=true then iU aB a z t Q else iU aB b z t Q):=propext jS
@[simp] theorem aLX{id:Nat}{c:I}:iU aB (.block id c) z t Q=iU aB c z t (D0 id Q):=propext jS
@[simp] theorem aL0{c:I}:iU aB (.loop c) z t Q=fP P (.loop c) z t Q:=propext jS
@[simp] theorem aMs:dk aB base [] z t aW=aW z t:=propext jS
@[simp] theorem aMh{k:ad}{j:Nat}{b:Bool}:dk aB base (⟨aN,d,some (j,b),k,a5⟩::bV) z t aW=if eH z (some (j,b))=true then dk aB base (⟨aN,d,none,k,a5⟩::bV) z t aW else dk aB base bV (c1 z d undef) t aW:=by simp only[dk];rfl
def RT(aB:nN P)(base:Nat)(d:Option Nat)(bV:List bn)(z:aP)(aW:aP->W->Prop)(r:Value)(t:W):Prop:=dk aB base bV (c1 z d r) t aW
@[simp] theorem aGd{r:Value}:RT aB base d bV z aW r t=dk aB base bV (c1 z d r) t aW:=propext jS
@[simp] theorem aMb{f:Nat}{bQ:List Operand}:dk aB base (⟨aN,d,none,.dA f bQ,a5⟩::bV) z t aW=sq aB f (bQ.map (X z)) t (k8 z t a5) (RT aB base d bV z aW):=by simp only[dk,eH,if_true];rfl
@[simp] theorem aMc{x:Operand}{bQ:List Operand}:dk aB base (⟨aN,d,none,.iw x bQ,a5⟩::bV) z t aW=D7 aB (X z x) (bQ.map (X z)) t (k8 z t a5) (RT aB base d bV z aW):=by simp only[dk,eH,if_true];rfl
@[simp] theorem aC9{f:Nat}{first lT:Array Value}{args:List Value}{L:List Nat}{aW:Value->W->Prop}:D7 aB (.func (.func f) first lT) args t L aW=sq aB f (first.toList++args++lT.toList) t L aW:=propext jS
@[simp] theorem aMq(x:Operand):dk aB base (⟨aN,d,none,.m2 x,a5⟩::bV) z t aW=(ig z t a5=true/\dk aB base bV (c1 z d (X z x)) (t) aW):=by simp only[dk,eH,if_true,js,ad.hZ,ad.ok,true_and];rfl
@[simp] theorem aMu(c a b:Operand):dk aB base (⟨aN,d,none,.oL c a b,a5⟩::bV) z t aW=(rT (X z c)=true/\(ig z t a5=true/\dk aB base bV (c1 z d (if tI (X z c)=true then X z a else X z b)) (t) aW)):=by simp only[dk,eH,if_true,js];rfl
@[simp] theorem aMt(x:Operand):dk aB base (⟨aN,d,none,.s8 x,a5⟩::bV) z t aW=(zR (X z x)=true/\(ig z t a5=true/\dk aB base bV (c1 z d (X z x)) (t) aW)):=by simp only[dk,eH,if_true,js];rfl
@[simp] theorem aL5(J:List Value):dk aB base (⟨aN,d,none,.dm J,a5⟩::bV) z t aW=(ig z t a5=true/\dk aB base bV (c1 z d (.pointer (some ⟨base+aN,0,none⟩))) (t.a4 (base+aN) (some ⟨J,true⟩)) aW):=by simp only[dk,eH,if_true,js,ad.hZ,ad.ok,true_and];rfl
@[simp] theorem aL8(x:Operand):dk aB base (⟨aN,d,none,.lQ x,a5⟩::bV) z t aW=(U (X z x)=true/\(ig z t a5=true/\dk aB base bV (c1 z d (.pointer (some ⟨base+aN,0,none⟩))) (t.a4 (base+aN) (some ⟨O (X z x),true⟩)) aW)):=by simp only[dk,eH,if_true,js];rfl
@[simp] theorem aMa(J:List Value)(ps:List (Nat×Nat×Operand)):dk aB base (⟨aN,d,none,.eT J ps,a5⟩::bV) z t aW=(pt J z ps=true/\(ig z t a5=true/\dk aB base bV (c1 z d (.agg (lv J z ps).toArray)) (t) aW)):=by simp only[dk,eH,if_true,js];rfl
@[simp] theorem aL9(J n:Nat)(cs:List Value)(ps:List (Nat×Nat×Operand)):dk aB base (⟨aN,d,none,.fI J n cs ps,a5⟩::bV) z t aW=(pt cs z ps=true/\(ig z t a5=true/\dk aB base bV (c1 z d (.slice (some ⟨base+aN,0,none⟩) n J)) (t.a4 (base+aN) (some ⟨lv cs z ps,true⟩)) aW)):=by simp only[dk,eH,if_true,js];rfl
@[simp] theorem aMl(dc:Bool)(n:Nat)(x:Operand):dk aB base (⟨aN,d,none,.kp dc n x,a5⟩::bV) z t aW=((o6 t (X z x) n&&(dc||decide (n=1)))=true/\(ig z t a5=true/\dk aB base bV (c1 z d (vR t dc n (X z x))) (t) aW)):=by simp only[dk,eH,if_true,js];rfl
@[simp] theorem aMx(n:Nat)(x v:Operand):dk aB base (⟨aN,d,none,.store n x v,a5⟩::bV) z t aW=((gk t (X z x) n&&o7 t (X z x)&&U (X z v)&&decide ((O (X z v)).length=n))=true/\(ig z t a5=true/\dk aB base bV (c1 z d (undef)) (nc t (X z x) (O (X z v))) aW)):=by simp only[dk,eH,if_true,js];rfl
@[simp] theorem aL7(op:BinOp)(c:sj)(x y:Operand):dk aB base (⟨aN,d,none,.eX op c x y,a5⟩::bV) z t aW=((lD (X z x)&&lD (X z y)&&qD op c (X z x) (X z y))=true/\(ig z t a5=true/\dk aB base bV (c1 z d (kA op (X z x) (X z y))) (t) aW)):=by simp only[dk,eH,if_true,js];rfl
@[simp] theorem aMy(op:UnOp)(x:Operand):dk aB base (⟨aN,d,none,.qn op x,a5⟩::bV) z t aW=(wq op (X z x)=true/\(ig z t a5=true/\dk aB base bV (c1 z d (AM op (X z x))) (t) aW)):=by simp only[dk,eH,if_true,js];rfl
@[simp] theorem aMe(k:IntKind)(x:Operand):dk aB base (⟨aN,d,none,.ru k x,a5⟩::bV) z t aW=(eV (X z x)=true/\(ig z t a5=true/\dk aB base bV (c1 z d (.int k (k.wrap (eR (X z x))))) (t) aW)):=by simp only[dk,eH,if_true,js];rfl
@[simp] theorem aMd(x:Operand):dk aB base (⟨aN,d,none,.mg x,a5⟩::bV) z t aW=((ku t 1 (X z x)&&(kX t 1 (X z x)).all zT)=true/\(ig z t a5=true/\dk aB base bV (c1 z d (.string (toBytes (kX t 1 (X z x))))) (t) aW)):=by simp only[dk,eH,if_true,js];rfl
@[simp] theorem aMw(J:Nat)(x:Operand)(ct ai:Option Operand):dk aB base (⟨aN,d,none,.nb J x ct ai,a5⟩::bV) z t aW=((kN J (X z x)&&m7 z ct&&m7 z ai&&decide (0<=gG z ct 0)&&decide (gG z ct 0<=gG z ai (jD (X z x)))&&decide (gG z ai (jD (X z x))<=jD (X z x)))=true/\(ig z t a5=true/\dk aB base bV (c1 z d (rh (X z x) J (gG z ct 0).toNat (gG z ai (jD (X z x))).toNat)) (t) aW)):=by simp only[dk,eH,if_true,js];rfl
@[simp] theorem aMv(J n:Nat)(x:Operand):dk aB base (⟨aN,d,none,.oR J n x,a5⟩::bV) z t aW=((gk t (X z x) (n*J)&&decide (n<=maxLen))=true/\(ig z t a5=true/\dk aB base bV (c1 z d (DT (X z x) J n)) (t) aW)):=by simp only[dk,eH,if_true,js];rfl
@[simp] theorem aMo(J bytes:Nat)(kT:List Value)(l c:Operand):dk aB base (⟨aN,d,none,.jq J bytes kT l c,a5⟩::bV) z t aW=((eV (X z l)&&eV (X z c)&&decide (0<=eR (X z l))&&decide (eR (X z l)<=eR (X z c))&&decide (eR (X z c)*(bytes:Int)<=140737488355328)&&decide (eR (X z c)<=9223372036854775807)&&decide (0<J))=true/\(ig z t a5=true/\dk aB base bV (c1 z d (.slice (some ⟨base+aN,0,none⟩) (eR (X z l)).toNat J)) (t.a4 (base+aN) (some ⟨(List.replicate (eR (X z l)).toNat kT).flatten,true⟩)) aW)):=by simp only[dk,eH,if_true,js];rfl
@[simp] theorem aMg(off:Nat)(x:Operand):dk aB base (⟨aN,d,none,.rB off x,a5⟩::bV) z t aW=(oM (X z x)=true/\(ig z t a5=true/\dk aB base bV (c1 z d (uy (X z x) off)) (t) aW)):=by simp only[dk,eH,if_true,js];rfl
@[simp] theorem aMi(J:Nat)(x i:Operand):dk aB base (⟨aN,d,none,.p3 J x i,a5⟩::bV) z t aW=((kN J (X z x)&&eV (X z i)&&decide (0<=eR (X z i))&&decide (eR (X z i)<jD (X z x)))=true/\(ig z t a5=true/\dk aB base bV (c1 z d (yc (X z x) J (eR (X z i)))) (t) aW)):=by simp only[dk,eH,if_true,js];rfl
@[simp] theorem aMj(J len:Nat)(x i:Operand):dk aB base (⟨aN,d,none,.oz J len x i,a5⟩::bV) z t aW=((oM (X z x)&&eV (X z i)&&decide (0<=eR (X z i))&&decide (eR (X z i)<(len:Int)))=true/\(ig z t a5=true/\dk aB base bV (c1 z d (uy (X z x) ((eR (X z i)).toNat*J))) (t) aW)):=by simp only[dk,eH,if_true,js];rfl
@[simp] theorem aMf(i:Nat)(x:Operand):dk aB base (⟨aN,d,none,.ext i x,a5⟩::bV) z t aW=(Dn (X z x) i=true/\(ig z t a5=true/\dk aB base bV (c1 z d (AK (X z x) i)) (t) aW)):=by simp only[dk,eH,if_true,js];rfl
@[simp] theorem aMk(x:Operand):dk aB base (⟨aN,d,none,.rY x,a5⟩::bV) z t aW=(xK (X z x)=true/\(ig z t a5=true/\dk aB base bV (c1 z d (.int .i64 (jD (X z x)))) (t) aW)):=by simp only[dk,eH,if_true,js];rfl
@[simp] theorem aL6(J bytes:Nat)(x y:Operand):dk aB base (⟨aN,d,none,.app J bytes x y,a5⟩::bV) z t aW=((fG t J (X z x)&&jG t (X z x)&&ku t J (X z y)&&decide (0<J)&&decide ((gv (X z x)+jP (X z y))*bytes<=140737488355328)&&decide (gv (X z x)+jP (X z y)<=9223372036854775807))=true/\(ig z t a5=true/\dk aB base bV (c1 z d (if jP (X z y)=0 then X z x else .slice (some ⟨base+aN,0,none⟩) (gv (X z x)+jP (X z y)) J)) (if jP (X z y)=0 then t else(j3 t (X z x)).a4 (base+aN) (some ⟨fV t J (X z x)++kX t J (X z y),true⟩)) aW)):=by simp only[dk,eH,if_true,js];rfl
@[simp] theorem aMm(fh:Bool)(x:Operand)(xs:List Operand):dk aB base (⟨aN,d,none,.oF fh x xs,a5⟩::bV) z t aW=((eV (X z x)&&xs.all λy=>eV (X z y))=true/\(ig z t a5=true/\dk aB base bV (c1 z d (xs.foldl (λdz y=>if fh then nB dz (X z y)else nC dz (X z y)) (X z x))) (t) aW)):=by simp only[dk,eH,if_true,js];rfl
@[simp] theorem aMn:dk aB base (⟨aN,d,none,.m0,a5⟩::bV) z t aW=(ig z t a5=true/\dk aB base bV (c1 z d (.map (some (base+aN)))) (t.gH (base+aN) []) aW):=by simp only[dk,eH,if_true,js,ad.hZ,ad.ok,true_and];rfl
@[simp] theorem aMp(fB:jU)(zero:Value)(o:Bool)(x k:Operand):dk aB base (⟨aN,d,none,.m1 fB zero o x k,a5⟩::bV) z t aW=(adt fB t (X z x) (X z k)=true/\(ig z t a5=true/\dk aB base bV (c1 z d (adu zero o t (X z x) (X z k))) (t) aW)):=by simp only[dk,eH,if_true,js];rfl
@[simp] theorem aMr(fB:jU)(x k v:Operand):dk aB base (⟨aN,d,none,.lJ fB x k v,a5⟩::bV) z t aW=(adC fB t (X z x) (X z k) (X z v)=true/\(ig z t a5=true/\dk aB base bV (c1 z d (undef)) (adB t (X z x) (X z k) (X z v)) aW)):=by simp only[dk,eH,if_true,js];rfl
@[simp] theorem aCt{cW:List Value}{k n:Nat}:o6 t (eO cW k) n=decide (k+n<=cW.length):=by simp[o6]
@[simp] theorem aCu{a o n:Nat}:o6 t (.pointer (some ⟨a,o,none⟩)) n=(match t.Y a with|some x=>decide (o+n<=x.cells.length)|none=>false):=rfl
@[simp] theorem aGA{cW:List Value}{k n:Nat}{dc:Bool}:vR t dc n (eO cW k)=if dc then .agg ((cW.drop k).take n).toArray else((cW.drop k).take 1).headD undef:=by simp[vR]
@[simp] theorem aGB{a o n:Nat}{dc:Bool}:vR t dc n (.pointer (some ⟨a,o,none⟩))=if dc then .agg (hf t a o n).toArray else(hf t a o 1).headD undef:=rfl
@[simp] theorem aHD{cW:List Value}{k:Nat}:oM (eO cW k)=true:=rfl
@[simp] theorem aHE{a o:Nat}:oM (.pointer (some ⟨a,o,none⟩))=true:=rfl
@[simp] theorem aHB{cW:List Value}{k n:Nat}:uy (eO cW k) n=eO cW (k+n):=by simp[uy]
@[simp] theorem aHC{a o n:Nat}:uy (.pointer (some ⟨a,o,none⟩)) n= .pointer (some ⟨a,o+n,none⟩):=rfl
section
variable {bg:List (List Value)} {J iT l c n:Nat} {a:Option Addr} {dV:Addr} {s:ByteArray} {i:Int}
@[simp] theorem aFS:xK (au bg J)=true:=rfl
@[simp] theorem aFT:xK (.slice a l c)=true:=rfl
@[simp] theorem aGn:jD (au bg J)=bg.length:=by simp[jD]
@[simp] theorem aGo:jD (.slice a l c)=l:=rfl
@[simp] theorem aLf:jP (au bg J)=bg.length:=by simp[jP]
@[simp] theorem aLg:jP (.slice a l c)=l:=rfl
@[simp] theorem aLh:kN iT (au bg J)=(J==iT):=by simp[kN]
@[simp] theorem aLj{b o:Nat}:kN J (.slice (some ⟨b,o,none⟩) l c)=(c==J):=by simp[kN,hC]
@[simp] theorem aLi:kN J (.slice none 0 0)=true:=rfl
@[simp] theorem aLm{h:Nat}:rh (au bg J) iT l h=au ((bg.take h).drop l) iT:=by simp[rh]
@[simp] theorem aLo{b o h:Nat}:rh (.slice (some ⟨b,o,none⟩) n c) J l h= .slice (some ⟨b,o+l*J,none⟩) (h-l) c:=rfl
@[simp] theorem aLn{h:Nat}:rh (.slice none n c) J l h= .slice none 0 0:=rfl
@[simp] theorem aLc:yc (au bg J) iT i=eO (bg.getD i.toNat []) 0:=by simp[yc]
@[simp] theorem aLd{b o:Nat}:yc (.slice (some ⟨b,o,none⟩) l c) J i= .pointer (some ⟨b,o+i.toNat*J,none⟩):=rfl
@[simp] theorem aLu:ku t iT (au bg J)=(J==iT):=by simp[ku]
@[simp] theorem aLw{b o:Nat}:ku t J (.slice (some ⟨b,o,none⟩) l c)=(c==J&&(match t.Y b with|some x=>decide (o+l*J<=x.cells.length)|none=>false)):=rfl
@[simp] theorem aLv:ku t J (.slice none 0 0)=true:=rfl
@[simp] theorem aDl:kX t iT (au bg J)=bg.flatten:=by simp[kX]
@[simp] theorem aDn{b o:Nat}:kX t J (.slice (some ⟨b,o,none⟩) l c)=hf t b o (l*J):=rfl
@[simp] theorem aDm:kX t J (.slice none l c)=[]:=rfl
end
@[simp] theorem aF1{k:IntKind}{n:Int}:jC (.int k n)=false:=rfl
@[simp] theorem aFY{b:Bool}:jC (.bool b)=false:=rfl
@[simp] theorem aF7{b:ByteArray}:jC (.string b)=false:=rfl
@[simp] theorem aF5{a:Option Addr}:jC (.pointer a)=false:=rfl
@[simp] theorem aF6{a:Option Addr}{l c:Nat}:jC (.slice a l c)=false:=rfl
@[simp] theorem aF2{a:Option Nat}:jC (.map a)=false:=rfl
@[simp] theorem aFX{a:Array Value}:jC (.agg a)=false:=rfl
@[simp] theorem aF8{a:Array Value}:jC (.tuple a)=false:=rfl
@[simp] theorem aF9:jC undef=false:=rfl
@[simp] theorem aFZ{f:Nat}{a b:Array Value}:jC (.func (.func f) a b)=false:=rfl
@[simp] theorem aF3:jC .nilFunc=false:=rfl
@[simp] theorem aF4:jC .nilIface=false:=rfl
@[simp] theorem aF0{t:TypeId}{v:Value}:jC (.iface t v)=false:=rfl
@[simp] theorem aCA{k:IntKind}{n:Int}:lD (.int k n)=true:=rfl
@[simp] theorem aCy{b:Bool}:lD (.bool b)=true:=rfl
@[simp] theorem aCE{b:ByteArray}:lD (.string b)=true:=rfl
@[simp] theorem aCD{a:Option Addr}:lD (.pointer a)=true:=rfl
@[simp] theorem aCB{l c:Nat}:lD (.slice none l c)=true:=rfl
@[simp] theorem aCz{f:Nat}{a b:Array Value}:lD (.func (.func f) a b)=true:=rfl
@[simp] theorem aCC:lD .nilFunc=true:=rfl
@[simp high] theorem aMI{bg:List (List Value)}{J:Nat}:O (au bg J)=[au bg J]:=rfl
@[simp high] theorem aMH{cW:List Value}{J:Nat}:O (eO cW J)=[eO cW J]:=rfl
@[simp high] theorem aGU{bg:List (List Value)}{J:Nat}:U (au bg J)=true:=rfl
@[simp high] theorem aGT{cW:List Value}{J:Nat}:U (eO cW J)=true:=rfl
@[simp high] theorem aHd{bg:List (List Value)}{J:Nat}:S (au bg J)=true:=rfl
@[simp high] theorem aDK{bg:List (List Value)}{J:Nat}:dO (au bg J)=false:=rfl
@[simp high] theorem aDJ{cW:List Value}{J:Nat}:dO (eO cW J)=false:=rfl
@[simp high] theorem aFR{cW:List Value}{J:Nat}:zR (eO cW J)=true:=rfl
@[simp high] theorem aCH{bg:List (List Value)}{J:Nat}:N (au bg J)=none:=rfl
@[simp high] theorem aCG{cW:List Value}{J:Nat}:N (eO cW J)=none:=rfl
@[simp] theorem aDv:ig z t []=true:=rfl
@[simp] theorem aDu{x y:Operand}:ig z t ((x,y)::a5)=(II t (X z x) (X z y)&&ig z t a5):=rfl
@[simp] theorem aGf:GZ z t []=true:=rfl
@[simp] theorem aGe{x:Operand×Operand}:GZ z t (x::a5)=((match N (X z x.1)with|some o=> !tc t o|none=>true)&&GZ z t a5):=rfl
section
variable {k:IntKind} {n:Int} {b:Bool} {s:ByteArray} {a:Option Addr} {l c f:Nat} {xs ys:Array Value} {v:Value} {pD:TypeId} {mp:Option Nat}
@[simp] theorem aMN:O (.int k n)=[.int k n]:=rfl
@[simp] theorem aGZ:U (.int k n)=true:=rfl
@[simp] theorem aHi:S (.int k n)=true:=rfl
@[simp] theorem aMK:O (.bool b)=[.bool b]:=rfl
@[simp] theorem aGW:U (.bool b)=true:=rfl
@[simp] theorem aHf:S (.bool b)=true:=rfl
@[simp] theorem aMT:O (.string s)=[.string s]:=rfl
@[simp] theorem aG5:U (.string s)=true:=rfl
@[simp] theorem aHo:S (.string s)=true:=rfl
@[simp] theorem aMR:O (.pointer a)=[.pointer a]:=rfl
@[simp] theorem aG3:U (.pointer a)=true:=rfl
@[simp] theorem aHm:S (.pointer a)=true:=rfl
@[simp] theorem aMS:O (.slice a l c)=[.slice a l c]:=rfl
@[simp] theorem aG4:U (.slice a l c)=true:=rfl
@[simp] theorem aHn:S (.slice a l c)=true:=rfl
@[simp] theorem aMO:O (.map mp)=[.map mp]:=rfl
@[simp] theorem aG0:U (.map mp)=true:=rfl
@[simp] theorem aHj:S (.map mp)=true:=rfl
@[simp] theorem aML:O (.func (.func f) xs ys)=[.func (.func f) xs ys]:=rfl
@[simp] theorem aGX:U (.func (.func f) xs ys)=true:=rfl
@[simp] theorem aHg:S (.func (.func f) xs ys)=true:=rfl
@[simp] theorem aMP:O (.nilFunc)=[.nilFunc]:=rfl
@[simp] theorem aG1:U (.nilFunc)=true:=rfl
@[simp] theorem aHk:S (.nilFunc)=true:=rfl
@[simp] theorem aMQ:O (.nilIface)=[.nilIface]:=rfl
@[simp] theorem aG2:U (.nilIface)=true:=rfl
@[simp] theorem aHl:S (.nilIface)=true:=rfl
@[simp] theorem aMM:O (.iface pD v)=[.iface pD v]:=rfl
@[simp] theorem aGY:U (.iface pD v)=true:=rfl
@[simp] theorem aHh:S (.iface pD v)=true:=rfl
@[simp] theorem aMJ:O (.agg xs)=xs.toList:=rfl
@[simp] theorem aGV:U (.agg xs)=true:=rfl
@[simp] theorem aHe:S (.agg xs)=false:=rfl
@[simp] theorem aG6:U (.tuple xs)=false:=rfl
@[simp] theorem aCM:N (.int k n)=none:=rfl
@[simp] theorem aCJ:N (.bool b)=none:=rfl
@[simp] theorem aCV:N (.string s)=none:=rfl
@[simp] theorem aCK:N (.func (.func f) xs ys)=none:=rfl
@[simp] theorem aCO:N (.nilFunc)=none:=rfl
@[simp] theorem aCP:N (.nilIface)=none:=rfl
@[simp] theorem aCL:N (.iface pD v)=none:=rfl
@[simp] theorem aCI:N (.agg xs)=none:=rfl
@[simp] theorem aCW:N (.tuple xs)=none:=rfl
@[simp] theorem aCT{dV:Addr}:N (.pointer (some dV))=some dV.block:=rfl
@[simp] theorem aCS:N (.pointer none)=none:=rfl
@[simp] theorem aCU{dV:Addr}:N (.slice (some dV) l c)=some dV.block:=rfl
@[simp] theorem aCQ:N (.slice none l c)=none:=rfl
@[simp] theorem aCN:N (.map (some l))=some l:=rfl
@[simp] theorem aCR:N (.map none)=none:=rfl
end
@[simp] theorem aC8{f:Nat}{args:List Value}{L:List Nat}{aW:Value->W->Prop}:sq aB f args t L aW=if Bq aB.p f=true then uz aB.p f args t aW else wQ aB f args t L aW:=by simp only[sq]
@[simp] theorem aC7{f:Nat}{args:List Value}{aW:Value->W->Prop}:wQ aB f args t [] aW=if w5 aB.i f=true then r5 aB.i f args t aW else fQ P f args t aW:=propext jS
@[simp] theorem aC6{f o:Nat}{l:List Nat}{args:List Value}{aW:Value->W->Prop}:wQ aB f args t (o::l) aW=((o::l).all (Ms t)=true/\if w5 aB.i f=true then r5 aB.i f args (jY t (o::l)) (λr bO=>aW r (lH t bO (o::l)))else fQ P f args (jY t (o::l)) λr bO=>aW r (lH t bO (o::l))):=propext jS
@[simp] theorem aHv:k8 z t []=[]:=rfl
@[simp] theorem aHu{x:Operand×Operand}:k8 z t (x::a5)=(match N (X z x.1)with|some o=>if tc t o=true then o::k8 z t a5 else k8 z t a5|none=>k8 z t a5):=rfl
@[simp] theorem aHb{o:Nat}:Ms t o=(match t.Y o with|some x=> !x.cells.isEmpty|none=>false):=rfl
theorem Vw{o b:Nat}(h:b≠o):(jY t [o]).Y b=t.Y b:=Jb (by simpa using h)
theorem ac0{o b:Nat}{x:Option fm}(h:b≠o):lH t ((jY t [o]).a4 b x) [o]=t.a4 b x:=by
  unfold lH jY W.a4;simp only[W.mk.injEq,and_true,true_and,pH];funext i;by_cases e:i=o
  · subst e;rw[if_pos rfl,if_neg (λq=>h q.symm)]
  · rw[if_neg e];by_cases aU:i=b
    · rw[if_pos aU,if_pos aU]
    · rw[if_neg aU,if_neg aU,if_neg e]
@[simp] theorem aEt{f:Nat}:w5 ([]:List (j9 P)) f=false:=rfl
@[simp] theorem aEs{s:j9 P}{f:Nat}:w5 (s::M9) f=(s.f==f||w5 M9 f):=rfl
def TQ(o:Option (Value×W))(aW:Value->W->Prop):Prop:=match o with
  |some (r,t)=>aW r t
  |none=>False
@[simp] theorem aMF{r:Value}{aW:Value->W->Prop}:TQ (some (r,t)) aW=aW r t:=propext jS
@[simp] theorem aLH{s:j9 P}{f:Nat}{args:List Value}{aW:Value->W->Prop}:r5 (s::M9) f args t aW=if s.f=f then TQ (s.fn args t) aW else r5 M9 f args t aW:=propext jS
@[simp] theorem aEv{f:Nat}:Bq ([]:List (bz P)) f=false:=rfl
@[simp] theorem aEu{s:bz P}{f:Nat}:Bq (s::yg) f=(s.f==f||Bq yg f):=rfl
def afk(o:Option Value)(cg:Value->Prop):Prop:=match o with
  |some r=>cg r
  |none=>False
@[simp] theorem aMG{r:Value}{cg:Value->Prop}:afk (some r) cg=cg r:=propext jS
@[simp] theorem aLJ{s:bz P}{f:Nat}{args:List Value}{cg:Value->Prop}:tj (s::yg) f args cg=if s.f=f then afk (s.fn args) cg else tj yg f args cg:=propext jS
def CV(args:List Value)(t:W)(aW:Value->W->Prop)(r:Value):Prop:=aW r (if mj r=true then hg t (args.flatMap (ei 9 t))else qm t (args.flatMap (ei 9 t)))
@[simp low] theorem aHH{args:List Value}{aW:Value->W->Prop}{r:Value}:CV args t aW r=aW r (if mj r=true then hg t (args.flatMap (ei 9 t))else qm t (args.flatMap (ei 9 t))):=propext jS
@[simp] theorem aHG{args:List Value}{aW:Value->W->Prop}{b:Bool}:CV args t aW (.bool b)=aW (.bool b) (hg t (args.flatMap (ei 9 t))):=propext jS
@[simp] theorem aHI{args:List Value}{aW:Value->W->Prop}{k:IntKind}{n:Int}:CV args t aW (.int k n)=aW (.int k n) (hg t (args.flatMap (ei 9 t))):=propext jS
@[simp] theorem aHJ{args:List Value}{aW:Value->W->Prop}{s:ByteArray}:CV args t aW (.string s)=aW (.string s) (hg t (args.flatMap (ei 9 t))):=propext jS
@[simp] theorem aHF{args:List Value}{aW:Value->W->Prop}{bg:List (List Value)}{J:Nat}:CV args t aW (au bg J)=aW (au bg J) (qm t (args.flatMap (ei 9 t))):=propext jS
def aeW(o:Option (List Value))(aB:List (bz P))(f:Nat)(cg:Value->Prop):Prop:=match o with
  |some ts=>tj aB f ts cg
  |none=>False
@[simp] theorem aLI{ts:List Value}{f:Nat}{cg:Value->Prop}:aeW (some ts) yg f cg=tj yg f ts cg:=propext jS
@[simp] theorem aHK{f:Nat}{args:List Value}{aW:Value->W->Prop}:uz yg f args t aW=aeW (yO 9 t args) yg f (CV args t aW):=propext jS
open Classical in
noncomputable def bz.dM(f:Nat)(ef:Type)(bP:ef->Prop)(enc:ef->List Value)(iS:ef->Value)(ok: ∀x,bP x->bH P f (enc x) (iS x)):bz P:=
  ⟨f,λargs=>if h: ∃x,bP x/\enc x=args then some (iS h.choose)else none,λargs r h=>by
    split at h
    · next G=>cases h;have:=ok _ G.choose_spec.1;rw[G.choose_spec.2]at this;exact this
    · cases h⟩
theorem bz.eu{f:Nat}{ef:Type}{bP:ef->Prop}{enc:ef->List Value}{iS:ef->Value}{ok: ∀x,bP x->bH P f (enc x) (iS x)}{x:ef}(af:bP x)(ai: ∀y,enc y=enc x->y=x):(bz.dM f ef bP enc iS ok).fn (enc x)=some (iS x):=by have hh: ∃y,bP y/\enc y=enc x:=⟨x,af,rfl⟩;simp only[bz.dM,dif_pos hh];rw[ai _ hh.choose_spec.2]
@[simp] theorem bz.aHc{f:Nat}{ef:Type}{bP:ef->Prop}{enc:ef->List Value}{iS:ef->Value}{ok: ∀x,bP x->bH P f (enc x) (iS x)}:(bz.dM f ef bP enc iS ok).f=f:=rfl
@[simp] theorem aEa{n:Nat}{args:List Value}:yO n t args=fK (dZ n t) args:=rfl
@[simp] theorem aHs{c7 lM:Type}{f:c7->Option lM}:fK f []=some []:=rfl
@[simp] theorem aHr{c7 lM:Type}{f:c7->Option lM}{x:c7}{xs:List c7}:fK f (x::xs)=match f x with
  | some y=>(match fK f xs with
    |some ys=>some (y::ys)
    |none=>none)
  |none=>none:=rfl
theorem yN{n:Nat}{v:Value}(h:gP v=true):dZ n t v=some v:=by cases n<;>simp[dZ,h]
theorem x2{n:Nat}{v:Value}(h:gP v=true):ei n t v=[]:=by cases n<;>simp[ei,h]
@[simp] theorem aD1{n:Nat}{k:IntKind}{x:Int}:dZ n t (.int k x)=some (.int k x):=yN rfl
@[simp] theorem aH8{n:Nat}{k:IntKind}{x:Int}:ei n t (.int k x)=[]:=x2 rfl
@[simp] theorem aDe{k:IntKind}{x:Int}:gP (.int k x)=true:=rfl
@[simp] theorem aDU{n:Nat}{b:Bool}:dZ n t (.bool b)=some (.bool b):=yN rfl
@[simp] theorem aH1{n:Nat}{b:Bool}:ei n t (.bool b)=[]:=x2 rfl
@[simp] theorem aDd{b:Bool}:gP (.bool b)=true:=rfl
@[simp] theorem aD3{n:Nat}{s:ByteArray}:dZ n t (.string s)=some (.string s):=yN rfl
@[simp] theorem aIa{n:Nat}{s:ByteArray}:ei n t (.string s)=[]:=x2 rfl
@[simp] theorem aDk{s:ByteArray}:gP (.string s)=true:=rfl
@[simp] theorem aD2{n:Nat}:dZ n t (.slice none 0 0)=some (.slice none 0 0):=yN rfl
@[simp] theorem aH9{n:Nat}:ei n t (.slice none 0 0)=[]:=x2 rfl
@[simp] theorem aDh:gP (.slice none 0 0)=true:=rfl
@[simp] theorem aDj:gP (.pointer none)=true:=rfl
@[simp] theorem aDf:gP (.nilFunc)=true:=rfl
@[simp] theorem aDg:gP (.nilIface)=true:=rfl
@[simp] theorem aDi:gP (.map none)=true:=rfl
@[simp] theorem aDN{n:Nat}{bg:List (List Value)}{J:Nat}:dZ n t (au bg J)=some (au bg J):=yN rfl
@[simp] theorem aHU{n:Nat}{bg:List (List Value)}{J:Nat}:ei n t (au bg J)=[]:=x2 rfl
@[simp] theorem aDc{bg:List (List Value)}{J:Nat}:gP (au bg J)=true:=rfl
@[simp] theorem aDb{cW:List Value}{J:Nat}:gP (eO cW J)=true:=rfl
theorem V1{n b o l J:Nat}:dZ (n+1) t (.slice (some ⟨b,o,none⟩) l J)=match t.Y b with
  | some x=>if o+l*J<=x.cells.length then(match fK (fK (dZ n t)) (lU J l (x.cells.drop o))with
    |some bg=>some (au bg J)
    |none=>none)else none
  |none=>none:=by
  simp only[dZ,gP,dO,jC,Bool.or_false,jR,if_false,Option.isNone_none,sf,eM];rfl
@[simp] theorem aDT{cs:Array Value}:dZ 9 t (.agg cs)=match fK (dZ 8 t) cs.toList with
  |some l=>some (.agg l.toArray)
  |none=>none:=rfl
@[simp] theorem aD9{cs:Array Value}:dZ 9 t (.tuple cs)=match fK (dZ 8 t) cs.toList with
  |some l=>some (.tuple l.toArray)
  |none=>none:=rfl
@[simp] theorem aD0{f:Nat}{xs cs:Array Value}:dZ 9 t (.func (.func f) xs cs)=match fK (dZ 8 t) xs.toList,fK (dZ 8 t) cs.toList with
  |some l,some k=>some (.func (.func f) l.toArray k.toArray)
  |_,_=>none:=rfl
theorem rD{b o l J:Nat}:dZ 9 t (.slice (some ⟨b,o,none⟩) l J)=match t.Y b with
  | some x=>if o+l*J<=x.cells.length then(match fK (fK (dZ 8 t)) (lU J l (x.cells.drop o))with
    |some bg=>some (au bg J)
    |none=>none)else none
  |none=>none:=V1
@[simp] theorem aH0{cs:Array Value}:ei 9 t (.agg cs)=cs.toList.flatMap (ei 8 t):=rfl
@[simp] theorem aIg{cs:Array Value}:ei 9 t (.tuple cs)=cs.toList.flatMap (ei 8 t):=rfl
@[simp] theorem aH7{f:Nat}{xs cs:Array Value}:ei 9 t (.func (.func f) xs cs)=xs.toList.flatMap (ei 8 t)++cs.toList.flatMap (ei 8 t):=rfl
theorem q5{b o l J:Nat}:ei 9 t (.slice (some ⟨b,o,none⟩) l J)=b::(match t.Y b with
  |some x=>x.cells.flatMap (ei 8 t)
  |none=>[]):=rfl
@[simp] theorem aDS{cs:Array Value}:dZ 8 t (.agg cs)=match fK (dZ 7 t) cs.toList with
  |some l=>some (.agg l.toArray)
  |none=>none:=rfl
@[simp] theorem aD8{cs:Array Value}:dZ 8 t (.tuple cs)=match fK (dZ 7 t) cs.toList with
  |some l=>some (.tuple l.toArray)
  |none=>none:=rfl
@[simp] theorem aDZ{f:Nat}{xs cs:Array Value}:dZ 8 t (.func (.func f) xs cs)=match fK (dZ 7 t) xs.toList,fK (dZ 7 t) cs.toList with
  |some l,some k=>some (.func (.func f) l.toArray k.toArray)
  |_,_=>none:=rfl
theorem aib{b o l J:Nat}:dZ 8 t (.slice (some ⟨b,o,none⟩) l J)=match t.Y b with
  | some x=>if o+l*J<=x.cells.length then(match fK (fK (dZ 7 t)) (lU J l (x.cells.drop o))with
    |some bg=>some (au bg J)
    |none=>none)else none
  |none=>none:=V1
@[simp] theorem aHZ{cs:Array Value}:ei 8 t (.agg cs)=cs.toList.flatMap (ei 7 t):=rfl
@[simp] theorem aIf{cs:Array Value}:ei 8 t (.tuple cs)=cs.toList.flatMap (ei 7 t):=rfl
@[simp] theorem aH6{f:Nat}{xs cs:Array Value}:ei 8 t (.func (.func f) xs cs)=xs.toList.flatMap (ei 7 t)++cs.toList.flatMap (ei 7 t):=rfl
theorem awH{b o l J:Nat}:ei 8 t (.slice (some ⟨b,o,none⟩) l J)=b::(match t.Y b with
  |some x=>x.cells.flatMap (ei 7 t)
  |none=>[]):=rfl
@[simp] theorem aDR{cs:Array Value}:dZ 7 t (.agg cs)=match fK (dZ 6 t) cs.toList with
  |some l=>some (.agg l.toArray)
  |none=>none:=rfl
@[simp] theorem aD7{cs:Array Value}:dZ 7 t (.tuple cs)=match fK (dZ 6 t) cs.toList with
  |some l=>some (.tuple l.toArray)
  |none=>none:=rfl
@[simp] theorem aDY{f:Nat}{xs cs:Array Value}:dZ 7 t (.func (.func f) xs cs)=match fK (dZ 6 t) xs.toList,fK (dZ 6 t) cs.toList with
  |some l,some k=>some (.func (.func f) l.toArray k.toArray)
  |_,_=>none:=rfl
@[simp] theorem aHY{cs:Array Value}:ei 7 t (.agg cs)=cs.toList.flatMap (ei 6 t):=rfl
@[simp] theorem aIe{cs:Array Value}:ei 7 t (.tuple cs)=cs.toList.flatMap (ei 6 t):=rfl
@[simp] theorem aH5{f:Nat}{xs cs:Array Value}:ei 7 t (.func (.func f) xs cs)=xs.toList.flatMap (ei 6 t)++cs.toList.flatMap (ei 6 t):=rfl
@[simp] theorem aDQ{cs:Array Value}:dZ 6 t (.agg cs)=match fK (dZ 5 t) cs.toList with
  |some l=>some (.agg l.toArray)
  |none=>none:=rfl
@[simp] theorem aD6{cs:Array Value}:dZ 6 t (.tuple cs)=match fK (dZ 5 t) cs.toList with
  |some l=>some (.tuple l.toArray)
  |none=>none:=rfl
@[simp] theorem aDX{f:Nat}{xs cs:Array Value}:dZ 6 t (.func (.func f) xs cs)=match fK (dZ 5 t) xs.toList,fK (dZ 5 t) cs.toList with
  |some l,some k=>some (.func (.func f) l.toArray k.toArray)
  |_,_=>none:=rfl
@[simp] theorem aHX{cs:Array Value}:ei 6 t (.agg cs)=cs.toList.flatMap (ei 5 t):=rfl
@[simp] theorem aId{cs:Array Value}:ei 6 t (.tuple cs)=cs.toList.flatMap (ei 5 t):=rfl
@[simp] theorem aH4{f:Nat}{xs cs:Array Value}:ei 6 t (.func (.func f) xs cs)=xs.toList.flatMap (ei 5 t)++cs.toList.flatMap (ei 5 t):=rfl
@[simp] theorem aDP{cs:Array Value}:dZ 5 t (.agg cs)=match fK (dZ 4 t) cs.toList with
  |some l=>some (.agg l.toArray)
  |none=>none:=rfl
@[simp] theorem aD5{cs:Array Value}:dZ 5 t (.tuple cs)=match fK (dZ 4 t) cs.toList with
  |some l=>some (.tuple l.toArray)
  |none=>none:=rfl
@[simp] theorem aDW{f:Nat}{xs cs:Array Value}:dZ 5 t (.func (.func f) xs cs)=match fK (dZ 4 t) xs.toList,fK (dZ 4 t) cs.toList with
  |some l,some k=>some (.func (.func f) l.toArray k.toArray)
  |_,_=>none:=rfl
@[simp] theorem aHW{cs:Array Value}:ei 5 t (.agg cs)=cs.toList.flatMap (ei 4 t):=rfl
@[simp] theorem aIc{cs:Array Value}:ei 5 t (.tuple cs)=cs.toList.flatMap (ei 4 t):=rfl
@[simp] theorem aH3{f:Nat}{xs cs:Array Value}:ei 5 t (.func (.func f) xs cs)=xs.toList.flatMap (ei 4 t)++cs.toList.flatMap (ei 4 t):=rfl
@[simp] theorem aDO{cs:Array Value}:dZ 4 t (.agg cs)=match fK (dZ 3 t) cs.toList with
  |some l=>some (.agg l.toArray)
  |none=>none:=rfl
@[simp] theorem aD4{cs:Array Value}:dZ 4 t (.tuple cs)=match fK (dZ 3 t) cs.toList with
  |some l=>some (.tuple l.toArray)
  |none=>none:=rfl
@[simp] theorem aDV{f:Nat}{xs cs:Array Value}:dZ 4 t (.func (.func f) xs cs)=match fK (dZ 3 t) xs.toList,fK (dZ 3 t) cs.toList with
  |some l,some k=>some (.func (.func f) l.toArray k.toArray)
  |_,_=>none:=rfl
@[simp] theorem aHV{cs:Array Value}:ei 4 t (.agg cs)=cs.toList.flatMap (ei 3 t):=rfl
@[simp] theorem aIb{cs:Array Value}:ei 4 t (.tuple cs)=cs.toList.flatMap (ei 3 t):=rfl
@[simp] theorem aH2{f:Nat}{xs cs:Array Value}:ei 4 t (.func (.func f) xs cs)=xs.toList.flatMap (ei 3 t)++cs.toList.flatMap (ei 3 t):=rfl
@[simp] theorem aDo{J:Nat}{cs:List Value}:lU J 0 cs=[]:=rfl
@[simp] theorem aDp{J:Nat}{cs:List Value}:lU J 1 cs=[cs.take J]:=rfl
@[simp] theorem aDq{J:Nat}{cs:List Value}:lU J 2 cs=[cs.take J,(cs.drop J).take J]:=rfl
@[simp] theorem aDr{J:Nat}{cs:List Value}:lU J 3 cs=[cs.take J,(cs.drop J).take J,((cs.drop J).drop J).take J]:=rfl
@[simp] theorem aDs{J:Nat}{cs:List Value}:lU J 4 cs=[cs.take J,(cs.drop J).take J,((cs.drop J).drop J).take J,(((cs.drop J).drop J).drop J).take J]:=rfl
@[simp] theorem aDt{J:Nat}{cs:List Value}:lU J 5 cs=[cs.take J,(cs.drop J).take J,((cs.drop J).drop J).take J,(((cs.drop J).drop J).drop J).take J,((((cs.drop J).drop J).drop J).drop J).take J]:=rfl
@[simp] theorem aGG:ir.next=0:=rfl
theorem sx{bg:List (List Value)}{n o l J:Nat}{w:Bool}(aM:t.Y o=some ⟨bg.flatten,w⟩)(aC:l=bg.length)(ay: ∀r∈bg,r.length=J/\ ∀v∈r,gP v=true):dZ (n+1) t (.slice (some ⟨o,0,none⟩) l J)=some (au bg J):=by subst aC;have bL: ∀r∈bg,r.length=J:= λr h=>(ay r h).1;have H:fK (fK (dZ n t)) bg=some bg:=Hf λr h=>Hf λv ab=>yN ((ay r h).2 v ab);have aq:(bg.flatten).length=bg.length*J:=sw bL;simp[dZ,gP,dO,jC,aM,Oa bL,H,aq]
theorem MF{cs:List Value}{n:Nat}(ay: ∀v∈cs,gP v=true):cs.flatMap (ei n t)=[]:=by rw[List.flatMap_eq_nil_iff];exact λv ab=>x2 (ay v ab)
end
@[simp] theorem aIr{d gE:List Value}{l:List (List Value)}:(gE::l)[0]?.getD d=gE:=rfl
@[simp] theorem aIs{d gE bw:List Value}{l:List (List Value)}:(gE::bw::l)[1]?.getD d=bw:=rfl
@[simp] theorem aIt{d gE bw bJ:List Value}{l:List (List Value)}:(gE::bw::bJ::l)[2]?.getD d=bJ:=rfl
attribute [simp] II DZ tc Eu Et sy OL ml
open Go Go.RowKit
def tN(m:W):fE:= λb=>(m.Y b).map (·.cells)
section
variable {P:Program} {u:fE} {m an:W}
theorem V2(m:W):tC (tN m) m:= λb cs h=>by
  simp only[tN]at h;cases aM:m.Y b with
  |none=>rw[aM]at h;cases h
  |some x=>rw[aM]at h;cases h;exact⟨x.own,rfl⟩
theorem OG{b:Nat}{cs:List Value}{w:Bool}(h:m.Y b=some ⟨cs,w⟩):tN m b=some cs:=by simp[tN,h]
theorem V3(h:tC u m):gW u (tN m):= λb cs hb=>by obtain⟨w,aZ⟩:=h b cs hb;exact OG aZ
abbrev Iv(m:W)(v bq:Value):Prop:=bW (tN m) k6 v bq
abbrev DG(m:W)(ck yn:List Value):Prop:=bj (tN m) k6 ck yn
theorem ayQ{f:Nat}{ts:List Value}{r:Value}(h: ∀m bQ,DG m ts bQ->fZ P f bQ m λdF an=>(m.next<=an.next/\ ∀b,b<m.next->an.Y b=m.Y b)/\Iv an r dF):bH P f ts r:= λu m bQ dn az=>by refine(h m bQ (az.cd (V3 dn) (fM.refl _))).cd λdF an aJ=> ?_;obtain⟨⟨D,H⟩,aq⟩:=aJ;exact⟨D,H,tN an,λb cs hb=>by obtain⟨w,aZ⟩:=dn b cs hb;exact OG (by rw[H b (bm aZ)];exact aZ),V2 an,aq⟩
theorem bH.below{f:Nat}{ts bQ:List Value}{r:Value}(h:bH P f ts r)(az:DG m ts bQ):fZ P f bQ m λdF an=>(m.next<=an.next/\ ∀b,b<m.next->an.Y b=m.Y b)/\Iv an r dF:=by refine(h (tN m) m bQ (V2 m) az).cd λdF an aJ=> ?_;obtain⟨D,H,cF,aq,aF,br⟩:=aJ;exact⟨⟨D,H⟩,br.cd (V3 aF) (fM.refl _)⟩
theorem bj.m6{K:eE}{x:Value}{ys:List Value}(h:bj u K [x] ys): ∃y,ys=[y]/\bW u K x y:=by
  match ys,h with
  |[y],h=>exact⟨y,rfl,h.2 0 x y rfl rfl⟩
  |[],h=>simp[bj]at h
  |_::_::_,h=>simp[bj]at h
theorem bj.ayT{K:eE}{x y:Value}{kT:List Value}(h:bj u K [x,y] kT): ∃a b,kT=[a,b]/\bW u K x a/\bW u K y b:=by
  match kT,h with
  |[a,b],h=>exact⟨a,b,rfl,h.2 0 x a rfl rfl,h.2 1 y b rfl rfl⟩
  |[],h=>simp[bj]at h
  |[_],h=>simp[bj]at h
  |_::_::_::_,h=>simp[bj]at h
theorem bj.ayN{K:eE}{x y J:Value}{kT:List Value}(h:bj u K [x,y,J] kT): ∃a b c,kT=[a,b,c]/\bW u K x a/\bW u K y b/\bW u K J c:=by
  match kT,h with
  |[a,b,c],h=>exact⟨a,b,c,rfl,h.2 0 x a rfl rfl,h.2 1 y b rfl rfl,h.2 2 J c rfl rfl⟩
  |[],h=>simp[bj]at h
  |[_],h=>simp[bj]at h
  |[_,_],h=>simp[bj]at h
  |_::_::_::_::_,h=>simp[bj]at h
def ss:(s:fc)->s.cE->List Value
  | .int k,n=>[.int k n]
  | .bool,b=>[.bool b]
  | .str,s=>[.string s]
  | .slice e,l=>[au ((nj l).map (ss e)) e.cells]
  | .unit,_=>[]
  | .m8 a b,d=>ss a d.1++ss b d.2
theorem Jg: ∀(s:fc) (d:s.cE),(ss s d).length=s.cells
  | .int _,_=>rfl
  | .bool,_=>rfl
  | .str,_=>rfl
  | .slice _,_=>rfl
  | .unit,_=>rfl
  | .m8 a b,d=>by simp[ss,Jg a,Jg b,fc.cells]
theorem IG: ∀{s:fc} {cs:List Value} {d:s.cE},pI m s cs d->DG m (ss s d) cs
  | .int k,cs,d,h=>by rw[h.1];exact bj.cons (.cv rfl) bj.nil
  | .bool,cs,d,h=>by have:cs=[.bool d]:=h;rw[this];exact bj.cons (.cv rfl) bj.nil
  | .str,cs,d,h=>by rw[h.1];exact bj.cons (.cv rfl) bj.nil
  | .unit,cs,d,h=>by have:cs=[]:=h;rw[this];exact bj.nil
  | .m8 a b,cs,d,h=>by obtain⟨bN,cI,rfl,D,H⟩:=h;exact(IG D).oh (IG H)
  | .slice e,cs,l,h=>by
    simp only[ss];rcases h with⟨rfl,h⟩|⟨b,bg,rfl,H,aq,aF,br⟩
    · rw[h];exact bj.cons (.hj rfl) bj.nil
    · refine bj.cons ?_ bj.nil;have bL: ∀r∈bg,r.length=e.cells:= λr ay=>by
        obtain⟨i,ai,rfl⟩:=kx ay;exact(br i _ _ (dx ai) (dx (by omega))).len
      have fy:bg.flatten.length=bg.length*e.cells:=sw bL;have:=bW.hX (u:=tN m) (K:=k6) (v:=au ((nj l).map (ss e)) e.cells) (b:=b) (off:=0) (J:=e.cells) (cs:=bg.flatten) (bg:=(nj l).map (ss e)) rfl (OG H) (by rw[fy,aF,j8];omega) (λi r ay=> ?_) λi j r x y ay G ah=> ?_
      · simpa using this
      · rw[qv,rl]at ay;obtain⟨x,_,rfl⟩:=ay;exact Jg e x
      · rw[qv,rl]at ay;obtain⟨cl,fA,rfl⟩:=ay;have ai:=(ek.1 fA).1;have hE:i<bg.length:=(by rw[aF];exact ai);have zf:=br i _ _ (dx hE) fA;refine(IG zf).2 j x y G ?_;have bx:=(ek.1 G).1;rw[Jg]at bx;have bf:=OA bL (dx hE);rw[<-bf,uQ,if_pos bx,yv,<-ah,Nat.zero_add]
def A5(s:fc)(d:s.cE):Value:=if s.isAgg then .agg (ss s d).toArray else(ss s d).headD undef
theorem agB{s:fc}{v:Value}{d:s.cE}(h:uV m s v d):Iv m (A5 s d) v:=by
  obtain⟨cs,D,rfl⟩:=h;have:=IG D;unfold A5;split
  · exact this.agg
  · exact this.headD
inductive DE:List fc->List Value->Prop
  |nil:DE [] []
  |cons {s:fc} {d:s.cE} {kv:List fc} {ck:List Value} (ok:xZ s d) (M:DE kv ck):DE (s::kv) (A5 s d::ck)
theorem agA{kv:List fc}{e1:List Value}(h:sg m kv e1): ∃ts,DE kv ts/\DG m ts e1:=by
  induction h with
  |nil=>exact⟨[],.nil,bj.nil⟩
  | cons h M cn=>obtain⟨ts,D,H⟩:=cn;obtain⟨cs,aq,aF⟩:=h;exact⟨_,.cons aq.ok D,bj.cons (agB ⟨cs,aq,aF⟩) H⟩
theorem auS{f:Nat}{kv:List fc}(h: ∀ts,DE kv ts->bH P f ts (.bool true))(m:W)(e1:List Value)(az:sg m kv e1):fZ P f e1 m λr _=>r= .bool true:=by obtain⟨ts,D,H⟩:=agA az;exact((h ts D).below H).cd λr an aJ=>aJ.2.p5
end
section
variable {P:Program} {aB:nN P} {t bO:W} {z bI:aP} {c:I} {Q:dy->aP->W->Prop}
theorem azs(aM: ∀K u aj m,dR K u t m->gJ u K z aj->dR K u bO m/\gJ u K bI aj/\eF t.next m.next K u t m K u bO m)(h:fP P c bI bO Q):fP P c z t Q:= λao K u aj m M bE=>by obtain⟨aQ,a8,cN⟩:=aM K u aj m M bE;refine(h ao K u aj m aQ a8).cd λe bb bd aJ=> ?_;obtain⟨cp,dv,dh,iB,D,H,aq,aF⟩:=aJ;exact⟨cp,dv,dh,iB,D,H,aq,cN.trans (aF.yo cN.jh (ev _))⟩
theorem afo{K:eE}{u:fE}{m:W}(M:dR K u t m){o j J:Nat}{cs:List Value}(aD:t.Y o=some ⟨cs,true⟩)(bx:cs[j]?=some (.slice none 0 0)):
    dR K u (((t.du 1).a4 t.next (some ⟨[],true⟩)).a4 o (some ⟨cs.set j (.slice (some ⟨t.next,0,none⟩) 0 J),true⟩)) m/\eF t.next m.next K u t m K u (((t.du 1).a4 t.next (some ⟨[],true⟩)).a4 o (some ⟨cs.set j (.slice (some ⟨t.next,0,none⟩) 0 J),true⟩)) m:=by
  refine⟨?_,?_⟩
  · have bR:K t.next=none:=by
      cases bh:K t.next with
      |none=>rfl
      |some b=>have:=(M.c0 _ _ bh).1;omega
    have ee:=bm aD;have cZ:o≠t.next:=by omega
    refine⟨λp x G=> ?_,λp a9 bh=> ?_,M.h4,M.inj,λp b h=>⟨by have:=(M.c0 p b h).1;simp only[l5,xU];omega,(M.c0 p b h).2⟩,λb ds hb=> ?_⟩
    · by_cases af:p=o
      · subst af;rw[eZ (by simp;omega)]at G;cases G;rcases M.hO p _ aD with⟨b,ds,w,D,H,aq,aF⟩|⟨D,H⟩
        · refine .inl ⟨b,ds,w,D,H,aq,?_⟩;obtain⟨y,ah,ab⟩:=aF.Y bx;have:=aF.set j (y:=y) (x:= .slice (some ⟨t.next,0,none⟩) 0 J) (by rw[ab.hB rfl];exact .oS);rw[show ds.set j y=ds from by
            apply DA;intro i;rw[yw];split
            · next e=>subst e;rw[ah];simp;exact(ek.1 ah).1
            · rfl]at this
          exact this
        · simp only at H;subst H;simp at bx
      · rw[b3 af]at G;by_cases bf:p=t.next
        · subst bf;rw[eZ (by simp)]at G;cases G;exact .inr ⟨bR,rfl⟩
        · rw[b3 bf,W.e9]at G;exact M.hO p x G
    · by_cases af:p=o
      · subst af;obtain⟨aL,aU⟩:=h2 bh;rw[eZ (by simp;omega)]at aL;have:cs=[]:=(by simpa using aL);subst this;simp at bx
      · obtain⟨aL,aU⟩:=h2 bh;rw[b3 af]at aL;by_cases bf:p=t.next
        · subst bf;have aq:t.mp t.next=some a9:=aU
          rw[M.h4 _ bR]at aq;cases aq
        · rw[b3 bf,W.e9]at aL;exact M.maps p a9 (jJ aL aU)
    · obtain⟨D,H⟩:=M.bA b ds hb;refine⟨D,λp x Jz G=> ?_⟩;by_cases af:p=o
      · subst af;have:=H p _ Jz aD;cases this
      · rw[b3 af]at G;have bf:p≠t.next:= λe=>by subst e;rw[bR]at Jz;cases Jz
        rw[b3 bf,W.e9]at G;exact H p x Jz G
  · have bR:K t.next=none:=by
      cases bh:K t.next with
      |none=>rfl
      |some b=>have:=(M.c0 _ _ bh).1;omega
    refine⟨fM.refl _,gW.refl _,λ_ _ h=> .inl h,λ_ _ h=> .inl h,by simp,ev _,λ_ _ _=>rfl,λb hb=> λ⟨p,x,aL,aU,cz⟩=> ?_,λb hb=> λ⟨p,x,aL,aU⟩=> ?_⟩
    · by_cases af:p=o
      · subst af;exact⟨p,_,aL,aD,rfl⟩
      · rw[b3 af]at aU;have bf:p≠t.next:= λe=>by subst e;rw[bR]at aL;cases aL
        rw[b3 bf,W.e9]at aU;exact⟨p,x,aL,aU,cz⟩
    · by_cases af:p=o
      · subst af;exact⟨p,_,aL,aD⟩
      · rw[b3 af]at aU;have bf:p≠t.next:= λe=>by subst e;rw[bR]at aL;cases aL
        rw[b3 bf,W.e9]at aU;exact⟨p,x,aL,aU⟩
theorem Ny{o j J:Nat}{cs:List Value}(aD:t.Y o=some ⟨cs,true⟩)(bx:cs[j]?=some (.slice none 0 0))
    (h:fP P c z (((t.du 1).a4 t.next (some ⟨[],true⟩)).a4 o (some ⟨cs.set j (.slice (some ⟨t.next,0,none⟩) 0 J),true⟩)) Q):fP P c z t Q:=
  azs (λK u aj m M bE=>⟨(afo M aD bx).1,bE,(afo M aD bx).2⟩) h
theorem ayy{l:List (bz P)}{f:Nat}{ts:List Value}{cg mc:Value->Prop}(h:tj l f ts cg)(aa: ∀r,cg r->mc r):tj l f ts mc:=by
  induction l with
  |nil=>exact h
  | cons s aB cn=>
    simp only[tj]at h⊢;split at h
    · next e=>
      rw[if_pos e];cases a3:s.fn ts with
      |none=>rw[a3]at h;exact h
      |some r=>rw[a3]at h;exact aa _ h
    · next e=>rw[if_neg e];exact cn h
theorem aeU{l:List (j9 P)}{f:Nat}{ts:List Value}{t:W}{aW uY:Value->W->Prop}(h:r5 l f ts t aW)(aa: ∀r t,aW r t->uY r t):r5 l f ts t uY:=by
  induction l with
  |nil=>exact h
  | cons s aB cn=>
    simp only[r5]at h⊢;split at h
    · next e=>
      rw[if_pos e];cases a3:s.fn ts t with
      |none=>rw[a3]at h;exact h
      |some r=>rw[a3]at h;exact aa _ _ h
    · next e=>rw[if_neg e];exact cn h
theorem Vb{f:Nat}{args:List Value}{L:List Nat}{aW uY:Value->W->Prop}(h:sq aB f args t L aW)(aa: ∀r t,aW r t->uY r t):sq aB f args t L uY:=by
  unfold sq at h⊢;split at h
  · next M=>
    rw[if_pos M];unfold uz at h⊢;split at h
    · next ts bL=>exact ayy h λr h=>aa _ _ h
    · exact h
  · next M=>
    rw[if_neg M];cases L with
    | nil=>
      simp only[wQ]at h⊢;split at h
      · next e=>rw[if_pos e];exact aeU h aa
      · next e=>rw[if_neg e];exact h.cd aa
    | cons o l=>
      simp only[wQ]at h⊢;refine⟨h.1,?_⟩;have H:=h.2;split at H
      · next e=>rw[if_pos e];exact aeU H λr t aJ=>aa _ _ aJ
      · next e=>rw[if_neg e];exact H.cd λr t aJ=>aa _ _ aJ
theorem DO{base:Nat}: ∀{ops:List bn} {z:aP} {t:W} {aW uY:aP->W->Prop},dk aB base ops z t aW->(∀z t,aW z t->uY z t)->dk aB base ops z t uY
  |[],_,_,_,_,h,aa=>aa _ _ h
  | o::ops,z,t,aW,uY,h,aa=>by
    simp only[dk]at h⊢;split at h
    · next aZ=>
      rw[if_pos aZ];obtain⟨aN,d,g,k,a5⟩:=o;cases k with
      |dA f bQ=>exact Vb h λr t h=>DO h aa
      | iw x bQ=>
        simp only[js,D7]at h⊢;split at h
        · exact Vb h λr t h=>DO h aa
        · exact h
      |kn=>exact h
      |_=>exact⟨h.1,h.2.1,DO h.2.2 aa⟩
    · next aZ=>rw[if_neg aZ];exact DO h aa
theorem A2: ∀{c:I} {z:aP} {t:W} {Q wK:dy->aP->W->Prop},iU aB c z t Q->(∀e z t,Q e z t->wK e z t)->iU aB c z t wK
  | .skip,_,_,_,_,h,bf=>bf _ _ _ h
  | .ba _,_,_,_,_,h,bf=>bf _ _ _ h
  | .aG,_,_,_,_,h,bf=>bf _ _ _ h
  | .E _,_,_,_,_,h,bf=>DO h λz t h=>bf _ _ _ h
  | .qa _ _ _,_,_,_,_,h,_=>h.elim
  | .B a b,_,_,_,_,h,bf=>A2 (c:=a) h λe z t h=>by
    cases e with
    |et=>exact A2 (c:=b) h bf
    |ba id=>exact bf _ _ _ h
    |aG=>exact bf _ _ _ h
  | .aR c a b,_,_,_,_,h,bf=>by
    refine⟨h.1,?_⟩;have H:=h.2;split at H
    · next e=>rw[if_pos e];exact A2 (c:=a) H bf
    · next e=>rw[if_neg e];exact A2 (c:=b) H bf
  | .block id c,_,_,_,_,h,bf=>A2 (c:=c) h λe z t h=>by
    cases e with
    |et=>exact bf _ _ _ h
    |aG=>exact bf _ _ _ h
    | ba iz=>
      simp only at h⊢;split at h
      · next e=>rw[if_pos e];exact bf _ _ _ h
      · next e=>rw[if_neg e];exact bf _ _ _ h
  | .loop _,_,_,_,_,h,bf=>h.cd bf
theorem hI(Z:Nat->aP->W->Prop)(n:Nat)(step: ∀i z t,i<n->Z i z t-> ∀cK:aP->W->Prop,(∀aj aT,Z (i+1) aj aT->cK aj aT)->iU aB c z t (z5 cK Q))
    (auM: ∀z t,Z n z t->iU aB c z t (z5 (λ_ _=>False) Q)): ∀(i:Nat) (z:aP) (t:W),i<=n->Z i z t->fP P (.loop c) z t Q:=by
  have key: ∀(r i:Nat) (z:aP) (t:W),i+r=n->Z i z t->fP P (.loop c) z t Q:=by
    intro r;induction r with
    | zero=>
      intro i z t ai EB;have e:i=n:=(by omega);subst e;refine eC (aB:=aB) λcK bk=> ?_;have D:=auM z t EB;refine A2 D λe z t h=> ?_;cases e with
      |et=>exact h.elim
      |ba id=>exact h
      |aG=>exact h
    | succ r cn=>intro i z t ai EB;exact eC (aB:=aB) λcK bk=>step i z t (by omega) EB cK λaj aT h=>bk _ _ (cn (i+1) aj aT (by omega) h)
  exact λi z t ai EB=>key (n-i) i z t (by omega) EB
end
section
variable {P:Program} {t:W}
open Classical in
theorem VZ{K:eE}{u:fE}{t m:W}(M:dR K u t m){o p j J:Nat}{bg:List (List Value)}{cells:List Value}(aD:t.Y o=some ⟨bg.flatten,true⟩)(ay: ∀r∈bg,r.length=J/\ ∀v∈r,gP v=true)
    (af:t.Y p=some ⟨cells,true⟩) (bx:cells[j]?=some (.slice (some ⟨o,0,none⟩) bg.length J)) (cZ:o≠p):
    ∃cF,gW u cF/\(∀b cs,cF b=some cs->u b=some cs\/K o=some b)/\dR K cF ((t.a4 o none).a4 p (some ⟨cells.set j (au bg J),true⟩)) m:=by
  have p0:=bm aD;have ai2:=bm af;have bL: ∀r∈bg,r.length=J:= λr h=>(ay r h).1;refine⟨λb=>match u b with
    |some cs=>some cs
    |none=>if K o=some b then(m.Y b).map (·.cells)else none,λb cs hb=>by simp only[hb],λb cs hb=> ?_,?_⟩
  · simp only at hb;cases dn:u b with
    |some ds=>rw[dn]at hb;exact .inl hb
    | none=>
      rw[dn]at hb;simp only at hb;split at hb
      · next h=>exact .inr h
      · cases hb
  · obtain⟨cF,ot⟩: ∃cF:fE,cF= λb=>match u b with
      |some cs=>some cs
      |none=>if K o=some b then(m.Y b).map (·.cells)else none:=⟨_,rfl⟩
    rw[<-ot];have fJ:gW u cF:= λb cs hb=>by rw[ot];simp only[hb]
    have ajk: ∀b cs w,K o=some b->m.Y b=some ⟨cs,w⟩->cF b=some cs:= λb cs w bR aM=>by
      rw[ot];simp only;cases nS:u b with
      |some ds=>obtain⟨⟨cT,ns⟩,_⟩:=M.bA b ds nS;rw[aM]at ns;cases ns;rfl
      |none=>simp only;rw[if_pos bR,aM];rfl
    have qJ:((t.a4 o none).a4 p (some ⟨cells.set j (au bg J),true⟩)).Y p=some ⟨cells.set j (au bg J),true⟩:=eZ (by simpa using ai2);have bX:((t.a4 o none).a4 p (some ⟨cells.set j (au bg J),true⟩)).Y o=none:=(by rw[b3 cZ,eZ p0]);have qK: ∀q,q≠p->q≠o->((t.a4 o none).a4 p (some ⟨cells.set j (au bg J),true⟩)).Y q=t.Y q:= λq D H=>by rw[b3 D,b3 H]
    refine⟨λq x G=> ?_,λq a9 bh=> ?_,M.h4,M.inj,M.c0,λb ds hb=> ?_⟩
    · by_cases D:q=p
      · subst D;rw[qJ]at G;cases G;rcases M.hO q _ af with⟨b,ds,w,aQ,a8,cN,dP⟩|⟨aQ,a8⟩
        · refine .inl ⟨b,ds,w,aQ,a8,cN,?_⟩;obtain⟨y,ah,ab⟩:=dP.Y bx;have qU:bW cF K (au bg J) y:=by
            rcases ab.mu with⟨c,aL,_,rfl⟩|⟨_,_,cz,rfl⟩
            · obtain⟨cs,cT,eB,_,iO⟩:=M.qB aL aD;have fy:(bg.flatten).length=bg.length*J:=sw bL;refine .hX (off:=0) rfl (ajk c cs cT aL eB) (by rw[<-iO.1];simp only;omega) (λi r ai=>bL r (hR ai)) λi acY r bp y ai aY ah=> ?_;have zf:=OA bL ai;have WJ:=(ek.1 aY).1;rw[bL r (hR ai)]at WJ;have br:(bg.flatten)[i*J+acY]?=some bp:=by
                rw[<-zf,uQ,if_pos WJ,yv]at aY;exact aY
              have cR:=iO.2 (i*J+acY) bp y br (by rw[<-ah];congr 1;omega);exact IZ fJ cR ((ay r (hR ai)).2 bp (hR aY))
            · have:bg=[]:=AR cz;subst this;exact .hj rfl
          have fs:=(dP.cd fJ (fM.refl _)).set j qU;rw[show ds.set j y=ds from by
            apply DA;intro i;rw[yw];split
            · next e=>subst e;rw[ah];simp;exact(ek.1 ah).1
            · rfl]at fs
          exact fs
        · simp only at a8;subst a8;simp at bx
      · by_cases H:q=o
        · subst H;rw[bX]at G;cases G
        · rw[qK q D H]at G;rcases M.hO q x G with⟨b,ds,w,aQ,a8,cN,dP⟩|aQ
          · exact .inl ⟨b,ds,w,aQ,a8,cN,dP.cd fJ (fM.refl _)⟩
          · exact .inr aQ
    · obtain⟨aL,aU⟩:=h2 bh;by_cases D:q=p
      · subst D;rw[qJ]at aL;have:cells=[]:=(by simpa using aL);subst this;simp at bx
      · by_cases H:q=o
        · subst H;rw[bX]at aL;cases aL
        · rw[qK q D H]at aL;obtain⟨b,c2,eB,hk,iO⟩:=M.maps q a9 (jJ aL aU);exact⟨b,c2,eB,hk,iO.cd fJ (fM.refl _)⟩
    · have Bt:u b=some ds\/(K o=some b/\ ∃w,m.Y b=some ⟨ds,w⟩):=by
        rw[ot]at hb;simp only at hb;cases nS:u b with
        |some x=>rw[nS]at hb;simp only at hb;exact .inl hb
        | none=>
          rw[nS]at hb;simp only at hb;split at hb
          · next h=>
            cases aM:m.Y b with
            |none=>rw[aM]at hb;cases hb
            |some x=>rw[aM]at hb;cases hb;exact .inr ⟨h,x.own,rfl⟩
          · cases hb
      rcases Bt with h|⟨h,w,bK⟩
      · obtain⟨D,H⟩:=M.bA b ds h;refine⟨D,λq x bR G=> ?_⟩;by_cases aL:q=p
        · subst aL;have:=H q _ bR af;cases this
        · by_cases aU:q=o
          · subst aU;rw[bX]at G;cases G
          · rw[qK q aL aU]at G;exact H q x bR G
      · refine⟨⟨w,bK⟩,λq x bR G=> ?_⟩;have:q=o:=M.inj q o b bR h;subst this;rw[bX]at G;cases G
theorem fQ.freeze{f:Nat}{args:List Value}{cg mc:Value->W->Prop}(h:fQ P f args t cg)(aA: ∀r aT,cg r aT->mc r aT\/ ∃o p j J bg cells,aT.Y o=some ⟨bg.flatten,true⟩/\(∀r∈bg,r.length=J/\ ∀v∈r,gP v=true)/\aT.Y p=some ⟨cells,true⟩/\
    cells[j]?=some (.slice (some ⟨o,0,none⟩) bg.length J)/\o≠p/\mc r ((aT.a4 o none).a4 p (some ⟨cells.set j (au bg J),true⟩))):fQ P f args t mc:= λK u bQ m M az=>(h K u bQ m M az).cd λdF bd aJ=>by
  obtain⟨cp,dv,r,bO,D,H,aq,aF⟩:=aJ;rcases aA r bO D with iY|⟨o,p,j,J,bg,cells,aQ,a8,cN,dP,fF,fg⟩
  · exact⟨cp,dv,r,bO,iY,H,aq,aF⟩
  obtain⟨iC,eB,hk,iO⟩:=VZ H aQ a8 cN dP fF;refine⟨cp,iC,r,_,fg,iO,aq.cd eB (fM.refl _),aF.e,aF.f.trans eB,aF.jz,λb cs hb=> ?_,aF.jh,aF.jr,aF.k3,λb hb ⟨q,x,a7,bD,b4⟩=>aF.nh b hb ?_,λb hb ⟨q,x,a7,bD⟩=>aF.mM b hb ?_⟩
  · rcases hk b cs hb with br|br
    · exact aF.fn b cs br
    · by_cases cR:b<m.next
      · exact .inr (.inr (aF.mM b cR ⟨o,_,br,aQ⟩))
      · exact .inr (.inl (by omega))
  · by_cases aL:q=p
    · subst aL;exact⟨q,_,a7,cN,rfl⟩
    · by_cases aU:q=o
      · subst aU;exact⟨q,_,a7,aQ,rfl⟩
      · rw[b3 aL,b3 aU]at bD;exact⟨q,x,a7,bD,b4⟩
  · by_cases aL:q=p
    · subst aL;exact⟨q,_,a7,cN⟩
    · by_cases aU:q=o
      · subst aU;exact⟨q,_,a7,aQ⟩
      · rw[b3 aL,b3 aU]at bD;exact⟨q,x,a7,bD⟩
end
structure Ux(bO aT:W):Prop where
  next:aT.next=bO.next
  Y: ∀b x,bO.Y b=some x->aT.Y b=some x
  map: ∀b a9,bO.eJ b=some a9->aT.eJ b=some a9
section
variable {P:Program} {t bO:W} {l:List Nat}
theorem fQ.frame{f:Nat}{args:List Value}{cg:Value->W->Prop}(aC: ∀o∈l,∃x,t.Y o=some x/\x.cells≠[])(h:fQ P f args (jY t l) cg):
    fQ P f args t λr aT=> ∃bO,cg r bO/\Ux bO (jY aT l)/\t.next<=aT.next/\ ∀o∈l,aT.Y o=t.Y o:= λK u bQ m M az=>by
  have zh:dR K u (jY t l) m:=⟨λo x G=>M.hO o x (pS G).2,λo a9 bh=>by have hb:=(pS (h2 bh).1).1;rw[Oe hb]at bh;exact M.maps o a9 bh,M.h4,M.inj,M.c0,λb cs hb=>⟨(M.bA b cs hb).1,λo x bR G=>(M.bA b cs hb).2 o x bR (pS G).2⟩⟩;refine(h K u bQ m zh az).cd λdF bd aJ=> ?_;obtain⟨cp,dv,r,bO,D,H,aq,aF⟩:=aJ;have ax:t.next<=bO.next:=aF.jh
  have gX: ∀o∈l,∃x b cs w,t.Y o=some x/\x.cells≠[]/\K o=some b/\m.Y b=some ⟨cs,w⟩/\(x.own=true->w=true)/\bj u K x.cells cs:= λo aD=>by
    obtain⟨x,G,ar⟩:=aC o aD;rcases M.hO o x G with⟨b,cs,w,bw,bJ,cc,eI⟩|⟨_,bJ⟩
    · exact⟨x,b,cs,w,G,ar,bw,bJ,cc,eI⟩
    · exact absurd bJ ar
  have Af: ∀o∈l,∀b,K o=some b-> ¬AX K (jY t l) b:= λo aD b hb ⟨p,x,af,G⟩=>by have:=M.inj p o b af hb;subst this;rw[Od aD]at G;cases G
  have OE: ∀o∈l,bO.Y o=none:= λo aD=>by
    obtain⟨x,b,cs,w,bw,bJ,cc,eI,fp,hv⟩:=gX o aD;cases aM:bO.Y o with
    |none=>rfl
    |some y=>exact absurd (aF.mM b (M.c0 o b cc).2 ⟨o,y,aF.e o b cc,aM⟩) (Af o aD b cc)
  have rG: ∀o∈l,(lH t bO l).Y o=t.Y o:= λo aD=>by obtain⟨x,b,cs,w,bw,_⟩:=gX o aD;exact acZ aD ax (bm bw)
  have ajE:Ux bO (jY (lH t bO l) l):=⟨rfl,λb x hb=>by
      have:b∉l:= λaw=>by rw[OE b aw]at hb;cases hb
      rw[Jb this,uh this];exact hb,λb a9 hb=>by
      have:b∉l:= λaw=>by have:=(h2 hb).1;rw[OE b aw]at this;cases this
      rw[Oe this,RQ this];exact hb⟩
  refine⟨cp,dv,r,lH t bO l,⟨bO,D,ajE,ax,rG⟩,?_,aq,?_⟩
  · refine⟨λo x G=> ?_,λo a9 bh=> ?_,H.h4,H.inj,H.c0,λb cs hb=>⟨(H.bA b cs hb).1,λo x bR G=> ?_⟩⟩
    · by_cases aD:o∈l
      · rw[rG o aD]at G;obtain⟨y,b,cs,w,bw,bJ,cc,eI,fp,hv⟩:=gX o aD;rw[bw]at G;cases G;exact .inl ⟨b,cs,w,aF.e o b cc,by rw[aF.k3 b (M.c0 o b cc).2 λ⟨p,J,a7,bD,_⟩=>Af o aD b cc ⟨p,J,a7,bD⟩];exact eI,fp,hv.cd aF.f aF.e⟩
      · rw[uh aD]at G;exact H.hO o x G
    · by_cases aD:o∈l
      · have:=(h2 bh).1;rw[rG o aD]at this;obtain⟨y,ah,ar⟩:=aC o aD;rw[ah]at this;cases this;exact absurd rfl ar
      · rw[RQ aD]at bh;exact H.maps o a9 bh
    · by_cases aD:o∈l
      · rw[rG o aD]at G;obtain⟨y,ca,kY,w,bw,bJ,cc,eI,fp,hv⟩:=gX o aD;have ft:=aF.e o ca cc;rw[bR]at ft;cases ft;rcases aF.fn b cs hb with q|q|q
        · exact(M.bA b cs q).2 o x cc G
        · have:=(M.c0 o b cc).2;omega
        · exact absurd q (Af o aD b cc)
      · rw[uh aD]at G;exact(H.bA b cs hb).2 o x bR G
  · refine⟨aF.e,aF.f,aF.jz,λb cs hb=> ?_,ax,aF.jr,λb hb aZ=>aF.k3 b hb λ⟨p,J,a7,bD,b4⟩=>aZ ⟨p,J,a7,(pS bD).2,b4⟩,λb hb ⟨o,x,a7,bD,b4⟩=> ?_,λb hb ⟨o,x,a7,bD⟩=> ?_⟩
    · rcases aF.fn b cs hb with q|q|⟨p,J,a7,bD⟩
      · exact .inl q
      · exact .inr (.inl q)
      · exact .inr (.inr ⟨p,J,a7,(pS bD).2⟩)
    · by_cases aD:o∈l
      · obtain⟨y,ca,kY,w,bw,bJ,cc,_⟩:=gX o aD;have ft:=aF.e o ca cc;rw[a7]at ft;cases ft;rw[rG o aD]at bD;exact⟨o,x,cc,bD,b4⟩
      · rw[uh aD]at bD;obtain⟨p,J,fC,g3,jF⟩:=aF.nh b hb ⟨o,x,a7,bD,b4⟩;exact⟨p,J,fC,(pS g3).2,jF⟩
    · by_cases aD:o∈l
      · obtain⟨y,ca,kY,w,bw,bJ,cc,_⟩:=gX o aD;have ft:=aF.e o ca cc;rw[a7]at ft;cases ft;rw[rG o aD]at bD;exact⟨o,x,cc,bD⟩
      · rw[uh aD]at bD;obtain⟨p,J,fC,g3⟩:=aF.mM b hb ⟨o,x,a7,bD⟩;exact⟨p,J,fC,(pS g3).2⟩
def tG(r dF:Value):Prop:= ∀(u:fE) (K:eE) (v:Value),bW u K r v->bW u K dF v
theorem tG.refl(r:Value):tG r r:= λ_ _ _ h=>h
theorem tG.nil{J:Nat}:tG (.slice none 0 0) (au [] J):= λu K v h=>by rw[h.hB rfl];exact .hj rfl
def sk:List Value->List Value->Prop
  |[],[]=>True
  |x::xs,y::ys=>tG x y/\sk xs ys
  |_,_=>False
theorem sk.len: ∀{xs ys:List Value},sk xs ys->xs.length=ys.length
  |[],[],_=>rfl
  |x::xs,y::ys,h=>by simp[sk.len h.2]
  |[],_::_,h=>h.elim
  |_::_,[],h=>h.elim
theorem sk.Y: ∀{xs ys:List Value},sk xs ys-> ∀(i:Nat) (x y:Value),xs[i]?=some x->ys[i]?=some y->tG x y
  |[],[],_,i,x,y,D,_=>by simp at D
  |x::xs,y::ys,h,0,a,b,D,H=>by simp at D H;subst D;subst H;exact h.1
  |x::xs,y::ys,h,i+1,a,b,D,H=>sk.Y h.2 i a b (by simpa using D) (by simpa using H)
  |[],_::_,h,_,_,_,_,_=>h.elim
  |_::_,[],h,_,_,_,_,_=>h.elim
theorem sk.sY{xs ys kT:List Value}(h:sk xs ys){u:fE}{K:eE}(aC:bj u K xs kT):bj u K ys kT:=by refine⟨by rw[<-h.len];exact aC.1,λi y J ah bL=> ?_⟩;have ai:=(ek.1 ah).1;have G:xs[i]?=some (xs[i]'(by rw[h.len];exact ai)):=dx _;exact h.Y i _ y G ah u K J (aC.2 i _ J G bL)
theorem tG.agg{xs ys:List Value}(h:sk xs ys):tG (.agg xs.toArray) (.agg ys.toArray):= λu K v ab=>by obtain⟨kT,rfl,aC⟩:=ab.qV;have:=(h.sY (by simpa using aC)).agg;simpa using this
theorem tG.tuple{xs ys:List Value}(h:sk xs ys):tG (.tuple xs.toArray) (.tuple ys.toArray):= λu K v ab=>by obtain⟨kT,rfl,aC⟩:=ab.zo;have:=(h.sY (by simpa using aC)).tuple;simpa using this
end
theorem IP{a b:Nat}(h:a≠b):Nat.beq a b=false:=by
  cases hb:Nat.beq a b with
  |false=>rfl
  |true=>exact absurd (Nat.eq_of_beq_eq_true hb) h
inductive fo(c7:Type) where
  |nil
  |kJ (v:Option c7) (l r:fo c7)
section
variable {c7:Type}
def fo.Y:fo c7->Nat->Option c7
  | .nil,_=>none
  | .kJ v l r,k=>bif Nat.beq k 0 then v else bif Nat.beq (k%2) 1 then l.Y (k/2)else r.Y (k/2-1)
def fo.set:Nat->fo c7->Nat->Option c7->fo c7
  |0,t,_,_=>t
  |n+1,.nil,k,x=>bif Nat.beq k 0 then .kJ x .nil .nil else bif Nat.beq (k%2) 1 then .kJ none (fo.set n .nil (k/2) x) .nil else .kJ none .nil (fo.set n .nil (k/2-1) x)
  |n+1,.kJ v l r,k,x=>bif Nat.beq k 0 then .kJ x l r else bif Nat.beq (k%2) 1 then .kJ v (fo.set n l (k/2) x) r else .kJ v l (fo.set n r (k/2-1) x)
@[simp] theorem fo.aEc(k:Nat):(fo.nil:fo c7).Y k=none:=rfl
theorem fo.yS{v:Option c7}{l r:fo c7}{k:Nat}:(fo.kJ v l r).Y k=if k=0 then v else if k%2=1 then l.Y (k/2)else r.Y (k/2-1):=by
  show(bif Nat.beq k 0 then _ else _)=_;by_cases h:k=0
  · simp[h]
  · have D:Nat.beq k 0=false:=IP h;rw[D,if_neg h];show(bif Nat.beq (k%2) 1 then _ else _)=_;by_cases H:k%2=1
    · simp[H]
    · have aq:Nat.beq (k%2) 1=false:=IP H;rw[aq,if_neg H];rfl
theorem fo.sz: ∀{n:Nat} {t:fo c7} {k:Nat} {x:Option c7} {j:Nat},k+1<2^n->(fo.set n t k x).Y j=if j=k then x else t.Y j
  |0,t,k,x,j,h=>by simp at h
  | n+1,t,k,x,j,h=>by
    have af:2^(n+1)=2*2^n:=(by rw[Nat.pow_succ];omega);have bX: ∀(v:Option c7) (l r:fo c7),(if k=0 then fo.kJ x l r else if k%2=1 then .kJ v (fo.set n l (k/2) x) r else .kJ v l (fo.set n r (k/2-1) x)).Y j=if j=k then x else(fo.kJ v l r).Y j:= λv l r=>by
      by_cases c5:k=0
      · subst c5;rw[if_pos rfl,fo.yS,fo.yS];by_cases bx:j=0
        · simp[bx]
        · simp[bx]
      · rw[if_neg c5];by_cases D:k%2=1
        · rw[if_pos D,fo.yS,fo.yS];by_cases bx:j=0
          · have:j≠k:=(by omega);simp[bx];omega
          · rw[if_neg bx,if_neg bx];by_cases pe:j%2=1
            · rw[if_pos pe,if_pos pe,fo.sz (by omega)];by_cases e:j=k
              · rw[if_pos e,if_pos (by omega)]
              · rw[if_neg e,if_neg (by omega)]
            · rw[if_neg pe,if_neg pe,if_neg (by omega)]
        · rw[if_neg D,fo.yS,fo.yS];by_cases bx:j=0
          · simp[bx];omega
          · rw[if_neg bx,if_neg bx];by_cases pe:j%2=1
            · rw[if_pos pe,if_pos pe,if_neg (by omega)]
            · rw[if_neg pe,if_neg pe,fo.sz (by omega)];by_cases e:j=k
              · rw[if_pos e,if_pos (by omega)]
              · rw[if_neg e,if_neg (by omega)]
    have Vx: ∀{lM:Type} (a b c:lM),(bif Nat.beq k 0 then a else bif Nat.beq (k%2) 1 then b else c)=if k=0 then a else if k%2=1 then b else c:= λa b c=>by
      by_cases c5:k=0
      · simp[c5]
      · have D:Nat.beq k 0=false:=IP c5;rw[D,if_neg c5];show(bif Nat.beq (k%2) 1 then _ else _)=_;by_cases H:k%2=1
        · simp[H]
        · have aq:Nat.beq (k%2) 1=false:=IP H;rw[aq,if_neg H];rfl
    cases t with
    | nil=>
      show(bif Nat.beq k 0 then fo.kJ x .nil .nil else bif Nat.beq (k%2) 1 then .kJ none (fo.set n .nil (k/2) x) .nil else .kJ none .nil (fo.set n .nil (k/2-1) x)).Y j=_;rw[Vx,bX none .nil .nil];by_cases e:j=k
      · rw[if_pos e,if_pos e]
      · rw[if_neg e,if_neg e,fo.yS];simp
    | kJ v l r=>show(bif Nat.beq k 0 then fo.kJ x l r else bif Nat.beq (k%2) 1 then .kJ v (fo.set n l (k/2) x) r else .kJ v l (fo.set n r (k/2-1) x)).Y j=_;rw[Vx,bX v l r]
end
abbrev ie:=fo Value
def kt(cG:ie):aP:= λk=>match cG.Y k with|some v=>v|none=>undef
def z1(k:Nat):Bool:=Nat.blt k 2000000
theorem xP{k:Nat}(h:z1 k=true):k+1<2^21:=by
  have:k<2000000:=by simpa[z1,Nat.blt_eq]using h
  omega
def vZ(cG:ie)(d:Option Nat)(v:Value):Option ie:=match d with
  |none=>some cG
  |some k=>if z1 k then some (fo.set 21 cG k (some v))else none
theorem TB{cG kz:ie}{d:Option Nat}{v:Value}(h:vZ cG d v=some kz):kt kz=c1 (kt cG) d v:=by
  unfold vZ at h;cases d with
  |none=>cases h;rfl
  | some k=>
    simp only at h;split at h
    · next aa=>
      cases h;funext j;show(match(fo.set 21 cG k (some v)).Y j with|some v=>v|none=>undef)=pE (kt cG) k v j;rw[fo.sz (xP aa)];unfold pE;by_cases e:j=k
      · rw[if_pos e,if_pos e]
      · rw[if_neg e,if_neg e];rfl
    · cases h
def zl:List Value->Nat->ie->ie
  |[],_,cG=>cG
  |v::l,k,cG=>zl l (k+1) (fo.set 21 cG k (some v))
theorem Xr: ∀{l:List Value} {k:Nat} {cG:ie} {j:Nat},k+l.length<1000000->(zl l k cG).Y j=if k<=j/\j<k+l.length then l[j-k]? else cG.Y j
  | [],k,cG,j,h=>by rw[if_neg λH=>by simp at H;omega];rfl
  | v::l,k,cG,j,h=>by
    simp only[oX]at h;show(zl l (k+1) (fo.set 21 cG k (some v))).Y j=_;rw[Xr (by omega),fo.sz (by omega)];by_cases e:j=k
    · subst e;rw[if_neg (by omega),if_pos rfl,if_pos ⟨ev _,by simp⟩];simp
    · by_cases H:k+1<=j/\j<k+1+l.length
      · rw[if_pos H,if_pos (by simp;omega)];have:j-k=(j-(k+1))+1:=(by omega);rw[this,Dw]
      · rw[if_neg H,if_neg e,if_neg (by simp;omega)]
theorem ayj{args:List Value}(h:args.length<1000000):kt (zl args 0 .nil)=ja args:=by
  funext j;show(match(zl args 0 .nil).Y j with|some v=>v|none=>undef)=args.getD j undef;rw[Xr (by omega)];by_cases H:j<args.length
  · rw[if_pos ⟨ho _,by omega⟩];simp[dx H]
  · rw[if_neg (by omega)];simp[rm (by omega:args.length<=j)]
structure eA where
  next:Nat
  iv:fo fm
  mp:fo (List (Value×Value))
def cr(ae:eA):W:=⟨ae.next,λb=>ae.iv.Y b,λb=>ae.mp.Y b⟩
def DN:eA:=⟨0,.nil,.nil⟩
def fw(ae:eA):Prop:= ∀i,ae.next<=i->ae.iv.Y i=none
theorem adv:cr DN=ir:=rfl
theorem afs:fw DN:= λ_ _=>rfl
def A8(ae:eA)(k:Nat):eA:=⟨ae.next+k,ae.iv,ae.mp⟩
theorem adw{ae:eA}(h:fw ae){k:Nat}:cr (A8 ae k)=(cr ae).du k:=by
  unfold cr A8 W.du;simp only[W.mk.injEq,and_true,true_and];funext i;by_cases ai:i<ae.next
  · rw[if_pos ai]
  · rw[if_neg ai];exact h i (by omega)
theorem aft{ae:eA}(h:fw ae){k:Nat}:fw (A8 ae k):= λi ai=>h i (by simp[A8]at ai;omega)
def nE(ae:eA)(b:Nat)(x:Option fm):Option eA:=if z1 b&&Nat.blt b ae.next then some ⟨ae.next,fo.set 21 ae.iv b x,ae.mp⟩else none
theorem x0{ae cj:eA}{b:Nat}{x:Option fm}(aZ:fw ae)(h:nE ae b x=some cj):fw cj/\cr cj=(cr ae).a4 b x:=by
  unfold nE at h;split at h
  · next aa=>
    cases h;simp only[aX,Nat.blt_eq]at aa;refine⟨λi ai=> ?_,?_⟩
    · show(fo.set 21 ae.iv b x).Y i=none;rw[fo.sz (xP aa.1),if_neg (by simp at ai;omega)];exact aZ i ai
    · unfold cr W.a4;simp only[W.mk.injEq,and_true,true_and];funext i;rw[fo.sz (xP aa.1)]
  · cases h
def MB(ae:eA)(b:Nat)(a9:List (Value×Value)):Option eA:=if z1 b&&Nat.blt b ae.next then some ⟨ae.next,fo.set 21 ae.iv b (some ⟨[],true⟩),fo.set 21 ae.mp b (some a9)⟩else none
theorem aeb{ae cj:eA}{b:Nat}{a9:List (Value×Value)}(aZ:fw ae)(h:MB ae b a9=some cj):fw cj/\cr cj=(cr ae).gH b a9:=by
  unfold MB at h;split at h
  · next aa=>
    cases h;simp only[aX,Nat.blt_eq]at aa;refine⟨λi ai=> ?_,?_⟩
    · show(fo.set 21 ae.iv b (some ⟨[],true⟩)).Y i=none;rw[fo.sz (xP aa.1),if_neg (by simp at ai;omega)];exact aZ i ai
    · unfold cr W.gH;simp only[W.mk.injEq,true_and];refine⟨?_,?_⟩
      · funext i;rw[fo.sz (xP aa.1)]
      · funext i;rw[fo.sz (xP aa.1)]
  · cases h
def Ad(k:ad)(id:Nat)(z:aP)(ae:eA):Option eA:=
  match k with
  | .dm J=>nE ae id (some ⟨J,true⟩)
  | .lQ x=>nE ae id (some ⟨O (X z x),true⟩)
  | .fI _ _ J ps=>nE ae id (some ⟨lv J z ps,true⟩)
  | .store _ x v=>(match X z x with
    | .pointer (some a)=>(match ae.iv.Y a.block with|some y=>nE ae a.block (some ⟨gx y.cells a.off (O (X z v)),y.own⟩)|none=>none)
    |_=>none)
  | .nm x=>nE ae id (some ⟨vT (pO (X z x)),true⟩)
  | .jq _ _ zero l _=>nE ae id (some ⟨(List.replicate (eR (X z l)).toNat zero).flatten,true⟩)
  | .me _ _ zero _ l=>nE ae id (some ⟨(List.replicate (eR (X z l)).toNat zero).flatten,true⟩)
  | .hg zero x=>(match X z x with
    | .slice none _ _=>some ae
    | .slice (some a) l _=>(match ae.iv.Y a.block with|some y=>nE ae a.block (some ⟨gx y.cells a.off (List.replicate l zero).flatten,y.own⟩)|none=>none)
    |_=>none)
  | .app J _ x y=>if jP (X z y)=0 then some ae else(match X z x with
    | .slice (some a) l _=>(match nE ae a.block none with
      |some cQ=>nE cQ id (some ⟨fV (cr ae) J (X z x)++kX (cr ae) J (X z y),true⟩)
      |none=>none)
    | .slice none _ _=>nE ae id (some ⟨kX (cr ae) J (X z y),true⟩)
    |_=>none)
  | .m0=>MB ae id []
  | .lJ _ x k v=>MB ae (um (X z x)) (k4 (X z k) (X z v) (((cr ae).eJ (um (X z x))).getD []))
  |_=>some ae
theorem adx{ae:eA}{b:Nat}{x:fm}(aZ:fw ae)(h:ae.iv.Y b=some x):(cr ae).Y b=some x:=by
  have:b<ae.next:=Nat.lt_of_not_le λe=>by rw[aZ b e]at h;cases h
  show(if b<ae.next then ae.iv.Y b else none)=_;rw[if_pos this,h]
theorem adk{k:ad}{id:Nat}{z:aP}{ae cj:eA}(aZ:fw ae)(h:Ad k id z ae=some cj):fw cj/\cr cj=k.my id z (cr ae):=by
  have key: ∀{b:Nat} {x:Option fm},nE ae b x=some cj->fw cj/\cr cj=(cr ae).a4 b x:= λh=>x0 aZ h;cases k with
  |dm J=>exact key h
  |lQ x=>exact key h
  |fI a b J ps=>exact key h
  | store n x v=>
    simp only[Ad]at h;show fw cj/\cr cj=nc (cr ae) (X z x) (O (X z v));split at h
    · next a G=>
      split at h
      · next y ah=>obtain⟨D,H⟩:=key h;refine⟨D,?_⟩;rw[H];unfold nc;rw[G];simp only[adx aZ ah]
      · cases h
    · cases h
  |nm x=>exact key h
  |jq a b c d e=>exact key h
  |me a b c d e=>exact key h
  | hg zero x=>
    simp only[Ad]at h;show fw cj/\cr cj=mf (cr ae) zero (X z x);split at h
    · next l c G=>cases h;rw[G];exact⟨aZ,rfl⟩
    · next a l c G=>
      split at h
      · next y ah=>obtain⟨D,H⟩:=key h;refine⟨D,?_⟩;rw[H];unfold mf;rw[G];simp only[adx aZ ah]
      · cases h
    · cases h
  | app J o8 x y=>
    simp only[Ad]at h;show fw cj/\cr cj=if jP (X z y)=0 then cr ae else(j3 (cr ae) (X z x)).a4 id (some ⟨fV (cr ae) J (X z x)++kX (cr ae) J (X z y),true⟩)
    split at h
    · next c5=>cases h;rw[if_pos c5];exact⟨aZ,rfl⟩
    · next c5=>
      rw[if_neg c5];split at h
      · next a l c G=>
        split at h
        · next cQ D=>obtain⟨cX,aL⟩:=x0 aZ D;obtain⟨e2,aU⟩:=x0 cX h;refine⟨e2,?_⟩;rw[aU,aL,G];rfl
        · cases h
      · next l c G=>obtain⟨e2,aU⟩:=x0 aZ h;refine⟨e2,?_⟩;rw[aU,G];rfl
      · cases h
  |m0=>exact aeb aZ h
  |lJ a x k v=>exact aeb aZ h
  |_=>cases h;exact⟨aZ,rfl⟩
abbrev lA:=Nat->List Value->eA->Option (Value×eA)
def Ja(ae:eA):List Nat->Option eA
  |[]=>some ae
  | o::l=>match nE ae o none with
    |some cQ=>Ja cQ l
    |none=>none
def L2(ae cQ:eA):List Nat->Option eA
  |[]=>some cQ
  | o::l=>match nE cQ o (ae.iv.Y o)with
    |some e7=>L2 ae e7 l
    |none=>none
def Dc(ae:eA):List Nat->Option eA
  |[]=>some ae
  | o::l=>match ae.iv.Y o with
    | some x=>(match nE ae o (some ⟨x.cells,false⟩)with
      |some cQ=>Dc cQ l
      |none=>none)
    |none=>Dc ae l
def yF(ae:eA):List Nat->Option eA
  |[]=>some ae
  | o::l=>match ae.mp.Y o with
    |some _=>if z1 o then yF ⟨ae.next,ae.iv,fo.set 21 ae.mp o none⟩ l else none
    |none=>yF ae l
def Aq(bF:lA)(f:Nat)(args:List Value)(ae:eA):Option (Value×eA):=match yO 9 (cr ae) args with
  | some ts=>(match bF f ts DN with
    | some (v,cQ)=>(match dZ 9 (cr cQ) v with
      | some r=>if mj r then(match yF ae (args.flatMap (ei 9 (cr ae)))with
          |some e7=>some (r,e7)
          |none=>none)
        else(match Dc ae (args.flatMap (ei 9 (cr ae)))with
          |some e7=>some (r,e7)
          |none=>none)
      |none=>none)
    |none=>none)
  |none=>none
def so(bF:lA)(f:Nat)(args:List Value)(ae:eA):List Nat->Option (Value×eA)
  |[]=>bF f args ae
  | L =>if L.all (λo=>match ae.iv.Y o with|some x=> !x.cells.isEmpty|none=>false)then
      (match Ja ae L with
      | some uZ=>(match bF f args uZ with
        | some (r,cQ)=>(match L2 ae cQ L with
          |some e7=>some (r,e7)
          |none=>none)
        |none=>Aq bF f args ae)
      |none=>none)
    else Aq bF f args ae
def Am(bF:lA)(base:Nat)(o:bn)(cG:ie)(ae:eA):Option (ie×eA):=
  let z:=kt cG
  let iS (x:Option (Value×eA)):Option (ie×eA):=match x with
    | some (r,cj)=>(match vZ cG o.d r with
      |some kz=>some (kz,cj)
      |none=>none)
    |none=>none
  match o.k with
  | .dA f bQ=>iS (so bF f (bQ.map (X z)) ae (k8 z (cr ae) o.a5))
  | .iw x bQ=>(match X z x with
    | .func (.func f) first lT=>iS (so bF f (first.toList++bQ.map (X z)++lT.toList) ae (k8 z (cr ae) o.a5))
    |_=>none)
  | .kn bg x bQ=>(match X z x with
    | .iface t v=>(match bg.find? (λr=>r.1==t)with
      |some (_,f,none)=>iS (so bF f (v::bQ.map (X z)) ae (k8 z (cr ae) o.a5))
      |some (_,f,some (dc,n))=>if o6 (cr ae) v n&&(dc||decide (n=1))then iS (so bF f (vR (cr ae) dc n v::bQ.map (X z)) ae (k8 z (cr ae) o.a5))else none
      |none=>none)
    |_=>none)
  | k=>if k.hZ z (cr ae)&&ig z (cr ae) o.a5 then(match Ad k (base+o.aN) z ae with
    |some cj=>iS (some (k.ia (base+o.aN) z (cr ae),cj))
    |none=>none)else none
def ur(bF:lA)(base:Nat):List bn->ie->eA->Option (ie×eA)
  |[],cG,ae=>some (cG,ae)
  | o ::bV,cG,ae=>if eH (kt cG) o.g then(match Am bF base o cG ae with
      |some (kz,cj)=>ur bF base bV kz cj
      |none=>none)
    else(match vZ cG o.d undef with
      |some kz=>ur bF base bV kz ae
      |none=>none)
def CW(ops:List bn)(ae:eA):eA:=if ops.any (λo=>o.k.eU)then A8 ae ops.length else ae
def LY(f:ie->eA->Option (dy×ie×eA)):Nat->ie->eA->Option (dy×ie×eA)
  |0,_,_=>none
  | n+1,cG,ae=>match f cG ae with
    |some (.et,kz,cj)=>LY f n kz cj
    |r=>r
def pR(bF:lA)(n:Nat):I->ie->eA->Option (dy×ie×eA)
  | .skip,cG,ae=>some (.et,cG,ae)
  | .E ops,cG,ae=>(match ur bF ae.next ops cG (CW ops ae)with
    |some (kz,cj)=>some (.et,kz,cj)
    |none=>none)
  | .qa _ _ _,_,_=>none
  | .B a b,cG,ae=>(match pR bF n a cG ae with
    |some (.et,kz,cj)=>pR bF n b kz cj
    |r=>r)
  | .aR c a b,cG,ae=>(match X (kt cG) c with
    | .bool true=>pR bF n a cG ae
    | .bool false=>pR bF n b cG ae
    |_=>none)
  | .block id c,cG,ae=>(match pR bF n c cG ae with
    |some (.ba iz,kz,cj)=>if iz=id then some (.et,kz,cj)else some (.ba iz,kz,cj)
    |r=>r)
  | .loop c,cG,ae=>LY (pR bF n c) n cG ae
  | .ba id,cG,ae=>some (.ba id,cG,ae)
  | .aG,cG,ae=>some (.aG,cG,ae)
def Jh(cm:List kU):Option (dy×ie×eA)->Option (Value×eA)
  |some (.ba _,_,_)=>none
  |some (_,cG,ae)=>if kK (cr ae) (kt cG) cm then some (lb (cr ae) (kt cG) cm,ae)else none
  |none=>none
theorem ady{ae:eA}(aZ:fw ae){b:Nat}:(cr ae).Y b=ae.iv.Y b:=by
  show(if b<ae.next then ae.iv.Y b else none)=_;by_cases h:b<ae.next
  · rw[if_pos h]
  · rw[if_neg h,aZ b (by omega)]
theorem Oc: ∀{L:List Nat} {ae uZ:eA},fw ae->Ja ae L=some uZ->fw uZ/\cr uZ=jY (cr ae) L
  | [],ae,uZ,aZ,h=>by cases h;refine⟨aZ,?_⟩;unfold jY;simp
  | o::l,ae,uZ,aZ,h=>by
    simp only[Ja]at h;split at h
    · next cQ D=>
      obtain⟨cX,aL⟩:=x0 aZ D;obtain⟨e2,aU⟩:=Oc cX h;refine⟨e2,?_⟩;rw[aU,aL];unfold jY W.a4;simp only[W.mk.injEq,true_and,and_true];funext b;by_cases D:b∈l
      · rw[if_pos D,if_pos (by simp[D])]
      · rw[if_neg D];by_cases H:b=o
        · rw[if_pos H,if_pos (by simp[H])]
        · rw[if_neg H,if_neg (by simp[D,H])]
    · cases h
theorem RP{ae:eA}: ∀{L:List Nat} {cQ e7:eA},fw cQ->L2 ae cQ L=some e7->fw e7/\cr e7=lH (cr ae) (cr cQ) L
  | [],cQ,e7,aZ,h=>by cases h;refine⟨aZ,?_⟩;unfold lH;simp
  | o::l,cQ,e7,aZ,h=>by
    simp only[L2]at h;split at h
    · next aAu D=>
      obtain⟨cX,aL⟩:=x0 aZ D;obtain⟨e2,aU⟩:=RP cX h;refine⟨e2,?_⟩;rw[aU,aL];unfold lH W.a4;simp only[W.mk.injEq,true_and,and_true];funext b;by_cases D:b∈l
      · rw[if_pos D,if_pos (by simp[D])]
      · rw[if_neg D];by_cases H:b=o
        · rw[if_pos H,if_pos (by simp[H]),H];rfl
        · rw[if_neg H,if_neg (by simp[D,H])]
    · cases h
theorem HP: ∀{L:List Nat} {ae e7:eA},fw ae->Dc ae L=some e7->fw e7/\cr e7=qm (cr ae) L
  |[],ae,e7,aZ,h=>by cases h;exact⟨aZ,rfl⟩
  | o::l,ae,e7,aZ,h=>by
    simp only[Dc]at h;rw[M8,ady aZ];split at h
    · next x G=>
      rw[G];simp only;split at h
      · next cQ D=>obtain⟨cX,aL⟩:=x0 aZ D;rw[<-aL];exact HP cX h
      · cases h
    · next G=>rw[G];exact HP aZ h
theorem I7: ∀{L:List Nat} {ae e7:eA},fw ae->yF ae L=some e7->fw e7/\cr e7=hg (cr ae) L
  |[],ae,e7,aZ,h=>by cases h;exact⟨aZ,(ahl _).symm⟩
  | o::l,ae,e7,aZ,h=>by
    have ar: ∀{cj:eA},fw cj->yF cj l=some e7->cj.next=ae.next->cj.iv=ae.iv->(∀b,b∉l->cj.mp.Y b=if b=o then none else ae.mp.Y b)->fw e7/\cr e7=hg (cr ae) (o::l):= λ{cj} ns bK ax hb aw=>by
      obtain⟨w,e⟩:=I7 ns bK;refine⟨w,?_⟩;rw[e];unfold hg cr;simp only[W.mk.injEq,ax,hb,true_and];funext b;by_cases D:b∈l
      · rw[if_pos D,if_pos (by simp[D])]
      · rw[if_neg D,aw b D];by_cases H:b=o
        · rw[if_pos H,if_pos (by simp[H])]
        · rw[if_neg H,if_neg (by simp[D,H])]
    simp only[yF]at h;split at h
    · split at h
      · next aa=>exact ar (cj:=⟨ae.next,ae.iv,fo.set 21 ae.mp o none⟩) aZ h rfl rfl λb _=>fo.sz (xP aa)
      · cases h
    · next G=>
      refine ar aZ h rfl rfl λb _=> ?_;by_cases H:b=o
      · rw[if_pos H,H];exact G
      · rw[if_neg H]
section
variable {P:Program} {K:eE} {u:fE} {t m:W} {z aj:aP}
noncomputable def Mv{f:Nat}{ts:List Value}{r:Value}(h:bH P f ts r):bz P:=by
  classical exact⟨f,λbQ=>if bQ=ts then some r else none,λbQ dF e=>by
    by_cases bh:bQ=ts
    · rw[if_pos bh]at e;cases e;rw[bh];exact h
    · rw[if_neg bh]at e;cases e⟩
theorem Mw{f:Nat}{args ts:List Value}{r:Value}(h:bH P f ts r)(a3:yO 9 t args=some ts){aW:Value->W->Prop}(ea:aW r (if mj r then hg t (args.flatMap (ei 9 t))else qm t (args.flatMap (ei 9 t)))):uz [Mv h] f args t aW:=by unfold uz;rw[a3];simp only[tj,Mv,if_true];exact ea
def qw(P:Program)(bF:lA):Prop:= ∀f args ae r cj,fw ae->bF f args ae=some (r,cj)->fw cj/\fQ P f args (cr ae) λdF aT=>dF=r/\aT=cr cj
theorem awq{bF:lA}(b5:qw P bF){f:Nat}{args:List Value}{ae cj:eA}{r:Value}(aZ:fw ae)(h:Aq bF f args ae=some (r,cj)):
    fw cj/\ ∃ts,∃af:bH P f ts r,uz [Mv af] f args (cr ae) λdF aT=>dF=r/\aT=cr cj:=by
  unfold Aq at h;split at h
  · next ts E0=>
    split at h
    · next v cQ D=>
      obtain⟨cX,a7⟩:=b5 _ _ _ _ _ afs D;split at h
      · next fC ay=>
        have af:bH P f ts fC:=ed (by have:=a7;rw[adv]at this;exact this.cd λdF aT aJ=>by rw[aJ.1,aJ.2];exact ay);split at h
        · next fy=>
          split at h
          · next e7 H=>cases h;obtain⟨e2,aU⟩:=I7 aZ H;exact⟨e2,ts,af,Mw af E0 ⟨rfl,by rw[if_pos fy,aU]⟩⟩
          · cases h
        · next fy=>
          split at h
          · next e7 H=>cases h;obtain⟨e2,aU⟩:=HP aZ H;exact⟨e2,ts,af,Mw af E0 ⟨rfl,by rw[if_neg fy,aU]⟩⟩
          · cases h
      · cases h
    · cases h
  · cases h
theorem ahc{bF:lA}(b5:qw P bF){f:Nat}{args bQ:List Value}{ae cj:eA}{r:Value}{a5:List (Operand×Operand)}(aZ:fw ae)(M:dR K u (cr ae) m)(bE:gJ u K z aj)(g1:a5.all (λp=>cL p.1&&cL p.2)=true)(az:bj u K args bQ)
    (h:so bF f args ae (k8 z (cr ae) a5)=some (r,cj)):fw cj/\
    fZ P f bQ m λdF an=>p9 aj a5 m an/\ ∃cy cF,dR cy cF (cr cj) an/\bW cF cy r dF/\eF (cr ae).next m.next K u (cr ae) m cy cF (cr cj) an:=by
  have pure: ∀{x:Value×eA},Aq bF f args ae=some x->x=(r,cj)->fw cj/\fZ P f bQ m λdF an=>p9 aj a5 m an/\ ∃cy cF,dR cy cF (cr cj) an/\bW cF cy r dF/\eF (cr ae).next m.next K u (cr ae) m cy cF (cr cj) an:= λ{x} G e=>by subst e;obtain⟨w,ts,af,q⟩:=awq b5 aZ G;refine⟨w,(Sx M az q).cd λdF an aJ=> ?_⟩;obtain⟨D,cF,l7,aT,⟨rfl,rfl⟩,aq,aF,br⟩:=aJ;exact⟨ac4 M bE g1 D,K,cF,aq,aF,br⟩
  cases cS:k8 z (cr ae) a5 with
  | nil=>rw[cS]at h;simp only[so]at h;obtain⟨w,q⟩:=b5 _ _ _ _ _ aZ h;refine⟨w,(q K u bQ m M az).cd λdF an aJ=> ?_⟩;obtain⟨cy,cF,l7,aT,⟨rfl,rfl⟩,H,aq,aF⟩:=aJ;exact⟨L7 M bE g1 aF.k3 (by rw[cS];nofun),cy,cF,H,aq,aF⟩
  | cons o l=>
    rw[cS]at h;simp only[so]at h;split at h
    · next cZ=>
      split at h
      · next uZ ar=>
        obtain⟨TY,ahI⟩:=Oc aZ ar;split at h
        · next fC cQ D=>
          split at h
          · next e7 H=>
            cases h;obtain⟨cX,a7⟩:=b5 _ _ _ _ _ TY D;obtain⟨e2,aU⟩:=RP cX H;refine⟨e2,?_⟩;rw[ahI]at a7;have Pk: ∀p∈o::l,∃x,(cr ae).Y p=some x/\x.cells≠[]:= λp af=>by
              have:=eD.1 cZ p af;rw[ady aZ];split at this
              · next x G=>exact⟨x,G,λe=>by rw[e]at this;simp at this⟩
              · cases this
            refine(VY Pk a7 M az).cd λdF an aJ=> ?_;obtain⟨eB,cy,cF,l7,aT,⟨rfl,rfl⟩,aq,aF,br⟩:=aJ;rw[<-aU]at aq br;exact⟨L7 M bE g1 br.k3 (by rw[cS];exact eB),cy,cF,aq,aF,br⟩
          · cases h
        · exact pure h rfl
      · cases h
    · exact pure h rfl
end
end Go.DI
