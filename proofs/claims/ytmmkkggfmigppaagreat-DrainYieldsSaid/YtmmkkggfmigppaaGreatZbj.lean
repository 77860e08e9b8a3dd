/-
  A part of the proof, shortened by tools of ours.
-/
import Derived.Test.YtmmkkggfmigppaaGreatZbi
set_option linter.all false
set_option maxRecDepth 8000
set_option maxHeartbeats 16000000
namespace Go.DI
open Go
section
variable {P:Program} {ay:mq P} {Dm:List (bF P)} {nv:List (jg P)} {base aY:Nat} {d:Option Nat} {bK:List cS} {z:aD} {t:G} {aR:aD->G->Prop} {bc:List (Operand×Operand)} {Q:cO->aD->G->Prop}
def Je(ay:mq P)(b:aB)(Q:cO->aD->G->Prop)(e:cO)(z:aD)(t:G):Prop:=match e with
 | .eR=>iK ay b z t Q
 |e=>Q e z t
@[simp] theorem aY6{b:aB}:Je ay b Q .eR z t=iK ay b z t Q:=propext lD
@[simp] theorem aY5{b:aB}{id:Nat}:Je ay b Q (.cF id) z t=Q (.cF id) z t:=propext lD
@[simp] theorem aY7{b:aB}:Je ay b Q .fi z t=Q .fi z t:=propext lD
@[simp] theorem aU4{u:List ln}{bu:Value->G->Prop}:A2 u bu .eR z t=(mL t z u=true/\bu (m3 t z u) t):=propext lD
@[simp] theorem aU5{u:List ln}{bu:Value->G->Prop}:A2 u bu .fi z t=(mL t z u=true/\bu (m3 t z u) t):=propext lD
@[simp] theorem aZh:iK ay .skip z t Q=Q .eR z t:=propext lD
@[simp] theorem aZc{id:Nat}:iK ay (.cF id) z t Q=Q (.cF id) z t:=propext lD
@[simp] theorem aZf:iK ay .fi z t Q=Q .fi z t:=propext lD
@[simp] theorem aZe{ops:List cS}:iK ay (.kN ops) z t Q=dn ay t.next ops z (h9 ops t) (Q .eR):=propext lD
@[simp] theorem aZg{a b:aB}:iK ay (.kB a b) z t Q=iK ay a z t (Je ay b Q):=propext lD
@[simp] theorem aZb{c:Operand}{a b:aB}:iK ay (.nG c a b) z t Q=(wA (S z c)=true/\if yt (S z c)=true then iK ay a z t Q else iK ay b z t Q):=propext lD
@[simp] theorem aZa{id:Nat}{c:aB}:iK ay (.block id c) z t Q=iK ay c z t (DZ id Q):=propext lD
@[simp] theorem aZd{c:aB}:iK ay (.loop c) z t Q=ee P (.loop c) z t Q:=propext lD
@[simp] theorem aZK:dn ay base [] z t aR=aR z t:=propext lD
@[simp] theorem aZx{k:an}{j:Nat}{b:Bool}:dn ay base (⟨aY,d,some (j,b),k,bc⟩::bK) z t aR=if e9 z (some (j,b))=true then dn ay base (⟨aY,d,none,k,bc⟩::bK) z t aR else dn ay base bK (c0 z d undef) t aR:=by simp only[dn];rfl
def qo(ay:mq P)(base:Nat)(d:Option Nat)(bK:List cS)(z:aD)(aR:aD->G->Prop)(r:Value)(t:G):Prop:=dn ay base bK (c0 z d r) t aR
@[simp] theorem aSz{r:Value}:qo ay base d bK z aR r t=dn ay base bK (c0 z d r) t aR:=propext lD
@[simp] theorem aZp{f:Nat}{bz:List Operand}:dn ay base (⟨aY,d,none,.l2 f bz,bc⟩::bK) z t aR=xe ay f (bz.map (S z)) t (nr z t bc) (qo ay base d bK z aR):=by simp only[dn,e9,if_true];rfl
@[simp] theorem aZq{x:Operand}{bz:List Operand}:dn ay base (⟨aY,d,none,.nc x bz,bc⟩::bK) z t aR=JZ ay (S z x) (bz.map (S z)) t (nr z t bc) (qo ay base d bK z aR):=by simp only[dn,e9,if_true];rfl
@[simp] theorem aOR{f:Nat}{first ks:Array Value}{args:List Value}{L:List Nat}{aR:Value->G->Prop}:JZ ay (.func (.func f) first ks) args t L aR=xe ay f (first.toList++args++ks.toList) t L aR:=propext lD
@[simp] theorem aZI(x:Operand):dn ay base (⟨aY,d,none,.hY x,bc⟩::bK) z t aR=(iZ z t bc=true/\dn ay base bK (c0 z d (S z x)) (t) aR):=by simp only[dn,e9,if_true,kc,an.js,an.ok,true_and];rfl
@[simp] theorem aZM(c a b:Operand):dn ay base (⟨aY,d,none,.vl c a b,bc⟩::bK) z t aR=(wA (S z c)=true/\(iZ z t bc=true/\dn ay base bK (c0 z d (if yt (S z c)=true then S z a else S z b)) (t) aR)):=by simp only[dn,e9,if_true,kc];rfl
@[simp] theorem aZL(x:Operand):dn ay base (⟨aY,d,none,.vj x,bc⟩::bK) z t aR=(CJ (S z x)=true/\(iZ z t bc=true/\dn ay base bK (c0 z d (S z x)) (t) aR)):=by simp only[dn,e9,if_true,kc];rfl
@[simp] theorem aZi(I:List Value):dn ay base (⟨aY,d,none,.nD I,bc⟩::bK) z t aR=(iZ z t bc=true/\dn ay base bK (c0 z d (.pointer (some ⟨base+aY,0,none⟩))) (t.aK (base+aY) (some ⟨I,true⟩)) aR):=by simp only[dn,e9,if_true,kc,an.js,an.ok,true_and];rfl
@[simp] theorem aZm(x:Operand):dn ay base (⟨aY,d,none,.oK x,bc⟩::bK) z t aR=(ah (S z x)=true/\(iZ z t bc=true/\dn ay base bK (c0 z d (.pointer (some ⟨base+aY,0,none⟩))) (t.aK (base+aY) (some ⟨ab (S z x),true⟩)) aR)):=by simp only[dn,e9,if_true,kc];rfl
@[simp] theorem aZo(I:List Value)(ps:List (Nat×Nat×Operand)):dn ay base (⟨aY,d,none,.vQ I ps,bc⟩::bK) z t aR=(r3 I z ps=true/\(iZ z t bc=true/\dn ay base bK (c0 z d (.agg (ns I z ps).toArray)) (t) aR)):=by simp only[dn,e9,if_true,kc];rfl
@[simp] theorem aZn(I n:Nat)(cs:List Value)(ps:List (Nat×Nat×Operand)):dn ay base (⟨aY,d,none,.mv I n cs ps,bc⟩::bK) z t aR=(r3 cs z ps=true/\(iZ z t bc=true/\dn ay base bK (c0 z d (.slice (some ⟨base+aY,0,none⟩) n I)) (t.aK (base+aY) (some ⟨ns cs z ps,true⟩)) aR)):=by simp only[dn,e9,if_true,kc];rfl
@[simp] theorem aZB(dE:Bool)(n:Nat)(x:Operand):dn ay base (⟨aY,d,none,.hq dE n x,bc⟩::bK) z t aR=((sv t (S z x) n&&(dE||decide (n=1)))=true/\(iZ z t bc=true/\dn ay base bK (c0 z d (AP t dE n (S z x))) (t) aR)):=by simp only[dn,e9,if_true,kc];rfl
@[simp] theorem aZP(n:Nat)(x v:Operand):dn ay base (⟨aY,d,none,.store n x v,bc⟩::bK) z t aR=((g2 t (S z x) n&&rG t (S z x)&&ah (S z v)&&decide ((ab (S z v)).length=n))=true/\(iZ z t bc=true/\dn ay base bK (c0 z d (undef)) (pD t (S z x) (ab (S z v))) aR)):=by simp only[dn,e9,if_true,kc];rfl
@[simp] theorem aZl(op:BinOp)(c:w5)(x y:Operand):dn ay base (⟨aY,d,none,.oJ op c x y,bc⟩::bK) z t aR=((oc (S z x)&&oc (S z y)&&uI op c (S z x) (S z y))=true/\(iZ z t bc=true/\dn ay base bK (c0 z d (mU op (S z x) (S z y))) (t) aR)):=by simp only[dn,e9,if_true,kc];rfl
@[simp] theorem aZQ(op:UnOp)(x:Operand):dn ay base (⟨aY,d,none,.zC op x,bc⟩::bK) z t aR=(Bj op (S z x)=true/\(iZ z t bc=true/\dn ay base bK (c0 z d (Gl op (S z x))) (t) aR)):=by simp only[dn,e9,if_true,kc];rfl
@[simp] theorem aZu(k:IntKind)(x:Operand):dn ay base (⟨aY,d,none,.D6 k x,bc⟩::bK) z t aR=(fu (S z x)=true/\(iZ z t bc=true/\dn ay base bK (c0 z d (.int k (k.wrap (eZ (S z x))))) (t) aR)):=by simp only[dn,e9,if_true,kc];rfl
@[simp] theorem aZt(x:Operand):dn ay base (⟨aY,d,none,.pN x,bc⟩::bK) z t aR=((kC t 1 (S z x)&&(lp t 1 (S z x)).all Fi)=true/\(iZ z t bc=true/\dn ay base bK (c0 z d (.string (toBytes (lp t 1 (S z x))))) (t) aR)):=by simp only[dn,e9,if_true,kc];rfl
@[simp] theorem aZO(I:Nat)(x:Operand)(bh Y:Option Operand):dn ay base (⟨aY,d,none,.wP I x bh Y,bc⟩::bK) z t aR=((m4 I (S z x)&&p4 z bh&&p4 z Y&&decide (0<=hs z bh 0)&&decide (hs z bh 0<=hs z Y (lz (S z x)))&&decide (hs z Y (lz (S z x))<=lz (S z x)))=true/\(iZ z t bc=true/\dn ay base bK (c0 z d (vB (S z x) I (hs z bh 0).toNat (hs z Y (lz (S z x))).toNat)) (t) aR)):=by simp only[dn,e9,if_true,kc];rfl
@[simp] theorem aZN(I n:Nat)(x:Operand):dn ay base (⟨aY,d,none,.s5 I n x,bc⟩::bK) z t aR=((g2 t (S z x) (n*I)&&decide (n<=maxLen))=true/\(iZ z t bc=true/\dn ay base bK (c0 z d (JK (S z x) I n)) (t) aR)):=by simp only[dn,e9,if_true,kc];rfl
@[simp] theorem aZG(I bytes:Nat)(jf:List Value)(l c:Operand):dn ay base (⟨aY,d,none,.ov I bytes jf l c,bc⟩::bK) z t aR=((fu (S z l)&&fu (S z c)&&decide (0<=eZ (S z l))&&decide (eZ (S z l)<=eZ (S z c))&&decide (eZ (S z c)*(bytes:Int)<=140737488355328)&&decide (eZ (S z c)<=9223372036854775807)&&decide (0<I))=true/\(iZ z t bc=true/\dn ay base bK (c0 z d (.slice (some ⟨base+aY,0,none⟩) (eZ (S z l)).toNat I)) (t.aK (base+aY) (some ⟨(List.replicate (eZ (S z l)).toNat jf).flatten,true⟩)) aR)):=by simp only[dn,e9,if_true,kc];rfl
@[simp] theorem aZw(off:Nat)(x:Operand):dn ay base (⟨aY,d,none,.kt off x,bc⟩::bK) z t aR=(r4 (S z x)=true/\(iZ z t bc=true/\dn ay base bK (c0 z d (zo (S z x) off)) (t) aR)):=by simp only[dn,e9,if_true,kc];rfl
@[simp] theorem aZy(I:Nat)(x i:Operand):dn ay base (⟨aY,d,none,.mZ I x i,bc⟩::bK) z t aR=((m4 I (S z x)&&fu (S z i)&&decide (0<=eZ (S z i))&&decide (eZ (S z i)<lz (S z x)))=true/\(iZ z t bc=true/\dn ay base bK (c0 z d (Dk (S z x) I (eZ (S z i)))) (t) aR)):=by simp only[dn,e9,if_true,kc];rfl
@[simp] theorem aZz(I len:Nat)(x i:Operand):dn ay base (⟨aY,d,none,.AF I len x i,bc⟩::bK) z t aR=((r4 (S z x)&&fu (S z i)&&decide (0<=eZ (S z i))&&decide (eZ (S z i)<(len:Int)))=true/\(iZ z t bc=true/\dn ay base bK (c0 z d (zo (S z x) ((eZ (S z i)).toNat*I))) (t) aR)):=by simp only[dn,e9,if_true,kc];rfl
@[simp] theorem aZv(i:Nat)(x:Operand):dn ay base (⟨aY,d,none,.ext i x,bc⟩::bK) z t aR=(Gj (S z x) i=true/\(iZ z t bc=true/\dn ay base bK (c0 z d (Du (S z x) i)) (t) aR)):=by simp only[dn,e9,if_true,kc];rfl
@[simp] theorem aZA(x:Operand):dn ay base (⟨aY,d,none,.vg x,bc⟩::bK) z t aR=(CM (S z x)=true/\(iZ z t bc=true/\dn ay base bK (c0 z d (.int .i64 (lz (S z x)))) (t) aR)):=by simp only[dn,e9,if_true,kc];rfl
@[simp] theorem aZj(I bytes:Nat)(x y:Operand):dn ay base (⟨aY,d,none,.app I bytes x y,bc⟩::bK) z t aR=((fF t I (S z x)&&iQ t (S z x)&&kC t I (S z y)&&decide (0<I)&&decide ((fW (S z x)+lj (S z y))*bytes<=140737488355328)&&decide (fW (S z x)+lj (S z y)<=9223372036854775807))=true/\(iZ z t bc=true/\dn ay base bK (c0 z d (if lj (S z y)=0 then S z x else .slice (some ⟨base+aY,0,none⟩) (fW (S z x)+lj (S z y)) I)) (if lj (S z y)=0 then t else(hR t (S z x)).aK (base+aY) (some ⟨fy t I (S z x)++lp t I (S z y),true⟩)) aR)):=by simp only[dn,e9,if_true,kc];rfl
@[simp] theorem aZr(x:Operand):dn ay base (⟨aY,d,none,.D2 x,bc⟩::bK) z t aR=(CI (S z x)=true/\(iZ z t bc=true/\dn ay base bK (c0 z d (.int .i64 0)) (t) aR)):=by simp only[dn,e9,if_true,kc];rfl
@[simp] theorem aZk(I bytes:Nat)(jf:List Value)(x n:Operand):dn ay base (⟨aY,d,none,.o8 I bytes jf x n,bc⟩::bK) z t aR=((CI (S z x)&&fu (S z n)&&decide (0<eZ (S z n))&&decide (eZ (S z n)*(bytes:Int)<=140737488355328)&&decide (eZ (S z n)<=9223372036854775807)&&decide (0<I))=true/\(iZ z t bc=true/\dn ay base bK (c0 z d (.slice (some ⟨base+aY,0,none⟩) (eZ (S z n)).toNat I)) (t.aK (base+aY) (some ⟨(List.replicate (eZ (S z n)).toNat jf).flatten,true⟩)) aR)):=by simp only[dn,e9,if_true,kc];rfl
@[simp] theorem aZs(jf:List Value)(x:Operand):dn ay base (⟨aY,d,none,.hW jf x,bc⟩::bK) z t aR=((fF t jf.length (S z x)&&iQ t (S z x)&&decide (0<jf.length))=true/\(iZ z t bc=true/\dn ay base bK (c0 z d (undef)) (oe t jf (S z x)) aR)):=by simp only[dn,e9,if_true,kc];rfl
@[simp] theorem aZC(fP:Bool)(x:Operand)(xs:List Operand):dn ay base (⟨aY,d,none,.za fP x xs,bc⟩::bK) z t aR=((fu (S z x)&&xs.all λy=>fu (S z y))=true/\(iZ z t bc=true/\dn ay base bK (c0 z d (xs.foldl (λdY y=>if fP then pZ dY (S z y)else p1 dY (S z y)) (S z x))) (t) aR)):=by simp only[dn,e9,if_true,kc];rfl
@[simp] theorem aZE(qC:TypeId)(x:Operand):dn ay base (⟨aY,d,none,.FG qC x,bc⟩::bK) z t aR=(iZ z t bc=true/\dn ay base bK (c0 z d (.iface qC (S z x))) (t) aR):=by simp only[dn,e9,if_true,kc,an.js,an.ok,true_and];rfl
@[simp] theorem aZF:dn ay base (⟨aY,d,none,.re,bc⟩::bK) z t aR=(iZ z t bc=true/\dn ay base bK (c0 z d (.map (some (base+aY)))) (t.hL (base+aY) []) aR):=by simp only[dn,e9,if_true,kc,an.js,an.ok,true_and];rfl
@[simp] theorem aZH(eX:lX)(zero:Value)(o:Bool)(x k:Operand):dn ay base (⟨aY,d,none,.rf eX zero o x k,bc⟩::bK) z t aR=(aox eX t (S z x) (S z k)=true/\(iZ z t bc=true/\dn ay base bK (c0 z d (aoy zero o t (S z x) (S z k))) (t) aR)):=by simp only[dn,e9,if_true,kc];rfl
@[simp] theorem aZJ(eX:lX)(x k v:Operand):dn ay base (⟨aY,d,none,.po eX x k v,bc⟩::bK) z t aR=(aoF eX t (S z x) (S z k) (S z v)=true/\(iZ z t bc=true/\dn ay base bK (c0 z d (undef)) (aoE t (S z x) (S z k) (S z v)) aR)):=by simp only[dn,e9,if_true,kc];rfl
@[simp] theorem aZD(f:Nat)(fs cs:List Operand):dn ay base (⟨aY,d,none,.zb (.func f) fs cs,bc⟩::bK) z t aR=(iZ z t bc=true/\dn ay base bK (c0 z d (.func (.func f) (fs.map (S z)).toArray (cs.map (S z)).toArray)) (t) aR):=by simp only[dn,e9,if_true,kc,an.js,true_and];rfl
@[simp] theorem aN7{c5:List Value}{k n:Nat}:sv t (fx c5 k) n=decide (k+n<=c5.length):=by simp[sv]
@[simp] theorem aN8{a o n:Nat}:sv t (.pointer (some ⟨a,o,none⟩)) n=(match t.F a with|some x=>decide (o+n<=x.cells.length)|none=>false):=rfl
@[simp] theorem aTc{c5:List Value}{k n:Nat}{dE:Bool}:AP t dE n (fx c5 k)=if dE then .agg ((c5.drop k).take n).toArray else((c5.drop k).take 1).headD undef:=by simp[AP]
@[simp] theorem aTd{a o n:Nat}{dE:Bool}:AP t dE n (.pointer (some ⟨a,o,none⟩))=if dE then .agg (gW t a o n).toArray else(gW t a o 1).headD undef:=rfl
@[simp] theorem aUn{c5:List Value}{k:Nat}:r4 (fx c5 k)=true:=rfl
@[simp] theorem aUo{a o:Nat}:r4 (.pointer (some ⟨a,o,none⟩))=true:=rfl
@[simp] theorem aUl{c5:List Value}{k n:Nat}:zo (fx c5 k) n=fx c5 (k+n):=by simp[zo]
@[simp] theorem aUm{a o n:Nat}:zo (.pointer (some ⟨a,o,none⟩)) n= .pointer (some ⟨a,o+n,none⟩):=rfl
section
variable {bJ:List (List Value)} {I j7 l c n:Nat} {a:Option Addr} {eG:Addr} {s:ByteArray} {i:Int}
@[simp] theorem aSb:CM (ai bJ I)=true:=rfl
@[simp] theorem aSc:CM (.slice a l c)=true:=rfl
@[simp] theorem aSV:lz (ai bJ I)=bJ.length:=by simp[lz]
@[simp] theorem aSW:lz (.slice a l c)=l:=rfl
@[simp] theorem aYt:lj (ai bJ I)=bJ.length:=by simp[lj]
@[simp] theorem aYu:lj (.slice a l c)=l:=rfl
@[simp] theorem aYv:m4 j7 (ai bJ I)=(I==j7):=by simp[m4]
@[simp] theorem aYx{b o:Nat}:m4 I (.slice (some ⟨b,o,none⟩) l c)=(c==I):=by simp[m4,iG]
@[simp] theorem aYw:m4 I (.slice none 0 0)=true:=rfl
@[simp] theorem aYA{h:Nat}:vB (ai bJ I) j7 l h=ai ((bJ.take h).drop l) j7:=by simp[vB]
@[simp] theorem aYC{b o h:Nat}:vB (.slice (some ⟨b,o,none⟩) n c) I l h= .slice (some ⟨b,o+l*I,none⟩) (h-l) c:=rfl
@[simp] theorem aYB{h:Nat}:vB (.slice none n c) I l h= .slice none 0 0:=rfl
@[simp] theorem aYq:Dk (ai bJ I) j7 i=fx (bJ.getD i.toNat []) 0:=by simp[Dk]
@[simp] theorem aYr{b o:Nat}:Dk (.slice (some ⟨b,o,none⟩) l c) I i= .pointer (some ⟨b,o+i.toNat*I,none⟩):=rfl
@[simp] theorem aYH:kC t j7 (ai bJ I)=(I==j7):=by simp[kC]
@[simp] theorem aYJ{b o:Nat}:kC t I (.slice (some ⟨b,o,none⟩) l c)=(c==I&&(match t.F b with|some x=>decide (o+l*I<=x.cells.length)|none=>false)):=rfl
@[simp] theorem aYI:kC t I (.slice none 0 0)=true:=rfl
@[simp] theorem aO4:lp t j7 (ai bJ I)=bJ.flatten:=by simp[lp]
@[simp] theorem aO6{b o:Nat}:lp t I (.slice (some ⟨b,o,none⟩) l c)=gW t b o (l*I):=rfl
@[simp] theorem aO5:lp t I (.slice none l c)=[]:=rfl
end
@[simp] theorem aSl{k:IntKind}{n:Int}:ly (.int k n)=false:=rfl
@[simp] theorem aSi{b:Bool}:ly (.bool b)=false:=rfl
@[simp] theorem aSr{b:ByteArray}:ly (.string b)=false:=rfl
@[simp] theorem aSp{a:Option Addr}:ly (.pointer a)=false:=rfl
@[simp] theorem aSq{a:Option Addr}{l c:Nat}:ly (.slice a l c)=false:=rfl
@[simp] theorem aSm{a:Option Nat}:ly (.map a)=false:=rfl
@[simp] theorem aSh{a:Array Value}:ly (.agg a)=false:=rfl
@[simp] theorem aSs{a:Array Value}:ly (.tuple a)=false:=rfl
@[simp] theorem aSt:ly undef=false:=rfl
@[simp] theorem aSj{f:Nat}{a b:Array Value}:ly (.func (.func f) a b)=false:=rfl
@[simp] theorem aSn:ly .nilFunc=false:=rfl
@[simp] theorem aSo:ly .nilIface=false:=rfl
@[simp] theorem aSk{t:TypeId}{v:Value}:ly (.iface t v)=false:=rfl
@[simp] theorem aOi{k:IntKind}{n:Int}:oc (.int k n)=true:=rfl
@[simp] theorem aOg{b:Bool}:oc (.bool b)=true:=rfl
@[simp] theorem aOm{b:ByteArray}:oc (.string b)=true:=rfl
@[simp] theorem aOl{a:Option Addr}:oc (.pointer a)=true:=rfl
@[simp] theorem aOj{l c:Nat}:oc (.slice none l c)=true:=rfl
@[simp] theorem aOh{f:Nat}{a b:Array Value}:oc (.func (.func f) a b)=true:=rfl
@[simp] theorem aOk:oc .nilFunc=true:=rfl
@[simp high] theorem aZZ{bJ:List (List Value)}{I:Nat}:ab (ai bJ I)=[ai bJ I]:=rfl
@[simp high] theorem aZY{c5:List Value}{I:Nat}:ab (fx c5 I)=[fx c5 I]:=rfl
@[simp high] theorem aTG{bJ:List (List Value)}{I:Nat}:ah (ai bJ I)=true:=rfl
@[simp high] theorem aTF{c5:List Value}{I:Nat}:ah (fx c5 I)=true:=rfl
@[simp high] theorem aT0{bJ:List (List Value)}{I:Nat}:ad (ai bJ I)=true:=rfl
@[simp high] theorem aPA{bJ:List (List Value)}{I:Nat}:ew (ai bJ I)=false:=rfl
@[simp high] theorem aPz{c5:List Value}{I:Nat}:ew (fx c5 I)=false:=rfl
@[simp high] theorem aSa{c5:List Value}{I:Nat}:CJ (fx c5 I)=true:=rfl
@[simp high] theorem aOp{bJ:List (List Value)}{I:Nat}:aa (ai bJ I)=none:=rfl
@[simp high] theorem aOo{c5:List Value}{I:Nat}:aa (fx c5 I)=none:=rfl
@[simp] theorem aPe:iZ z t []=true:=rfl
@[simp] theorem aPd{x y:Operand}:iZ z t ((x,y)::bc)=(OP t (S z x) (S z y)&&iZ z t bc):=rfl
section
variable {k:IntKind} {n:Int} {b:Bool} {s:ByteArray} {a:Option Addr} {l c f:Nat} {xs ys:Array Value} {v:Value} {qC:TypeId} {mp:Option Nat}
@[simp] theorem aZ4:ab (.int k n)=[.int k n]:=rfl
@[simp] theorem aTL:ah (.int k n)=true:=rfl
@[simp] theorem aT5:ad (.int k n)=true:=rfl
@[simp] theorem aZ1:ab (.bool b)=[.bool b]:=rfl
@[simp] theorem aTI:ah (.bool b)=true:=rfl
@[simp] theorem aT2:ad (.bool b)=true:=rfl
@[simp] theorem a0a:ab (.string s)=[.string s]:=rfl
@[simp] theorem aTR:ah (.string s)=true:=rfl
@[simp] theorem aUb:ad (.string s)=true:=rfl
@[simp] theorem aZ8:ab (.pointer a)=[.pointer a]:=rfl
@[simp] theorem aTP:ah (.pointer a)=true:=rfl
@[simp] theorem aT9:ad (.pointer a)=true:=rfl
@[simp] theorem aZ9:ab (.slice a l c)=[.slice a l c]:=rfl
@[simp] theorem aTQ:ah (.slice a l c)=true:=rfl
@[simp] theorem aUa:ad (.slice a l c)=true:=rfl
@[simp] theorem aZ5:ab (.map mp)=[.map mp]:=rfl
@[simp] theorem aTM:ah (.map mp)=true:=rfl
@[simp] theorem aT6:ad (.map mp)=true:=rfl
@[simp] theorem aZ2:ab (.func (.func f) xs ys)=[.func (.func f) xs ys]:=rfl
@[simp] theorem aTJ:ah (.func (.func f) xs ys)=true:=rfl
@[simp] theorem aT3:ad (.func (.func f) xs ys)=true:=rfl
@[simp] theorem aZ6:ab (.nilFunc)=[.nilFunc]:=rfl
@[simp] theorem aTN:ah (.nilFunc)=true:=rfl
@[simp] theorem aT7:ad (.nilFunc)=true:=rfl
@[simp] theorem aZ7:ab (.nilIface)=[.nilIface]:=rfl
@[simp] theorem aTO:ah (.nilIface)=true:=rfl
@[simp] theorem aT8:ad (.nilIface)=true:=rfl
@[simp] theorem aZ3:ab (.iface qC v)=[.iface qC v]:=rfl
@[simp] theorem aTK:ah (.iface qC v)=true:=rfl
@[simp] theorem aT4:ad (.iface qC v)=true:=rfl
@[simp] theorem aZ0:ab (.agg xs)=xs.toList:=rfl
@[simp] theorem aTH:ah (.agg xs)=true:=rfl
@[simp] theorem aT1:ad (.agg xs)=false:=rfl
@[simp] theorem aTS:ah (.tuple xs)=false:=rfl
@[simp] theorem aOu:aa (.int k n)=none:=rfl
@[simp] theorem aOr:aa (.bool b)=none:=rfl
@[simp] theorem aOD:aa (.string s)=none:=rfl
@[simp] theorem aOs:aa (.func (.func f) xs ys)=none:=rfl
@[simp] theorem aOw:aa (.nilFunc)=none:=rfl
@[simp] theorem aOx:aa (.nilIface)=none:=rfl
@[simp] theorem aOt:aa (.iface qC v)=none:=rfl
@[simp] theorem aOq:aa (.agg xs)=none:=rfl
@[simp] theorem aOE:aa (.tuple xs)=none:=rfl
@[simp] theorem aOB{eG:Addr}:aa (.pointer (some eG))=some eG.block:=rfl
@[simp] theorem aOA:aa (.pointer none)=none:=rfl
@[simp] theorem aOC{eG:Addr}:aa (.slice (some eG) l c)=some eG.block:=rfl
@[simp] theorem aOy:aa (.slice none l c)=none:=rfl
@[simp] theorem aOv:aa (.map (some l))=some l:=rfl
@[simp] theorem aOz:aa (.map none)=none:=rfl
end
@[simp] theorem aOQ{f:Nat}{args:List Value}{L:List Nat}{aR:Value->G->Prop}:xe ay f args t L aR=if G8 ay.p f=true then zp ay.p f args t aR else BO ay f args t L aR:=by simp only[xe]
@[simp] theorem aOP{f:Nat}{args:List Value}{aR:Value->G->Prop}:BO ay f args t [] aR=if Cb ay.i f=true then wQ ay.i f args t aR else fg P f args t aR:=propext lD
@[simp] theorem aOO{f o:Nat}{l:List Nat}{args:List Value}{aR:Value->G->Prop}:BO ay f args t (o::l) aR=((o::l).all (TA t)=true/\if Cb ay.i f=true then wQ ay.i f args (lI t (o::l)) (λr bd=>aR r (lO t bd (o::l)))else fg P f args (lI t (o::l)) λr bd=>aR r (lO t bd (o::l))):=propext lD
@[simp] theorem aUh:nr z t []=[]:=rfl
@[simp] theorem aUg{x:Operand×Operand}:nr z t (x::bc)=(match aa (S z x.1)with|some o=>if C2 t o=true then o::nr z t bc else nr z t bc|none=>nr z t bc):=rfl
@[simp] theorem aTX{o:Nat}:TA t o=(match t.F o with|some x=> !x.cells.isEmpty|none=>false):=rfl
theorem agI{o b:Nat}(h:b≠o):(lI t [o]).F b=t.F b:=J6 (by simpa using h)
theorem anW{o b:Nat}{x:Option en}(h:b≠o):lO t ((lI t [o]).aK b x) [o]=t.aK b x:=by
 unfold lO lI G.aK;simp only[G.mk.injEq,and_true,true_and,rz];funext i;by_cases e:i=o
 ·subst e;rw[if_pos rfl,if_neg (λq=>h q.symm)]
 ·rw[if_neg e];by_cases aN:i=b
  ·rw[if_pos aN,if_pos aN]
  ·rw[if_neg aN,if_neg aN,if_neg e]
@[simp] theorem aQj{f:Nat}:Cb ([]:List (jg P)) f=false:=rfl
@[simp] theorem aQi{s:jg P}{f:Nat}:Cb (s::nv) f=(s.f==f||Cb nv f):=rfl
def aer(o:Option (Value×G))(aR:Value->G->Prop):Prop:=match o with
 |some (r,t)=>aR r t
 |none=>False
@[simp] theorem aZW{r:Value}{aR:Value->G->Prop}:aer (some (r,t)) aR=aR r t:=propext lD
@[simp] theorem aYU{s:jg P}{f:Nat}{args:List Value}{aR:Value->G->Prop}:wQ (s::nv) f args t aR=if s.f=f then aer (s.fn args t) aR else wQ nv f args t aR:=propext lD
@[simp] theorem aQl{f:Nat}:G8 ([]:List (bF P)) f=false:=rfl
@[simp] theorem aQk{s:bF P}{f:Nat}:G8 (s::Dm) f=(s.f==f||G8 Dm f):=rfl
def arI(o:Option Value)(bu:Value->Prop):Prop:=match o with
 |some r=>bu r
 |none=>False
@[simp] theorem aZX{r:Value}{bu:Value->Prop}:arI (some r) bu=bu r:=propext lD
@[simp] theorem aYW{s:bF P}{f:Nat}{args:List Value}{bu:Value->Prop}:ye (s::Dm) f args bu=if s.f=f then arI (s.fn args) bu else ye Dm f args bu:=propext lD
def II(args:List Value)(t:G)(aR:Value->G->Prop)(r:Value):Prop:=aR r (if nf r=true then hW t (args.flatMap (eC 9 t))else uh t (args.flatMap (eC 9 t)))
@[simp low] theorem aUr{args:List Value}{aR:Value->G->Prop}{r:Value}:II args t aR r=aR r (if nf r=true then hW t (args.flatMap (eC 9 t))else uh t (args.flatMap (eC 9 t))):=propext lD
@[simp] theorem aUq{args:List Value}{aR:Value->G->Prop}{b:Bool}:II args t aR (.bool b)=aR (.bool b) (hW t (args.flatMap (eC 9 t))):=propext lD
@[simp] theorem aUs{args:List Value}{aR:Value->G->Prop}{k:IntKind}{n:Int}:II args t aR (.int k n)=aR (.int k n) (hW t (args.flatMap (eC 9 t))):=propext lD
@[simp] theorem aUt{args:List Value}{aR:Value->G->Prop}{s:ByteArray}:II args t aR (.string s)=aR (.string s) (hW t (args.flatMap (eC 9 t))):=propext lD
@[simp] theorem aUp{args:List Value}{aR:Value->G->Prop}{bJ:List (List Value)}{I:Nat}:II args t aR (ai bJ I)=aR (ai bJ I) (uh t (args.flatMap (eC 9 t))):=propext lD
def aqZ(o:Option (List Value))(ay:List (bF P))(f:Nat)(bu:Value->Prop):Prop:=match o with
 |some ts=>ye ay f ts bu
 |none=>False
@[simp] theorem aYV{ts:List Value}{f:Nat}{bu:Value->Prop}:aqZ (some ts) Dm f bu=ye Dm f ts bu:=propext lD
@[simp] theorem aUu{f:Nat}{args:List Value}{aR:Value->G->Prop}:zp Dm f args t aR=aqZ (Ef 9 t args) Dm f (II args t aR):=propext lD
open Classical in
noncomputable def bF.cM(f:Nat)(af:Type)(cI:af->Prop)(enc:af->List Value)(j5:af->Value)(ok: ∀x,cI x->bP P f (enc x) (j5 x)):bF P:=
 ⟨f,λargs=>if h: ∃x,cI x/\enc x=args then some (j5 h.choose)else none,λargs r h=>by
  split at h
  ·next B=>cases h;have:=ok _ B.choose_spec.1;rw[B.choose_spec.2]at this;exact this
  ·cases h⟩
theorem bF.dK{f:Nat}{af:Type}{cI:af->Prop}{enc:af->List Value}{j5:af->Value}{ok: ∀x,cI x->bP P f (enc x) (j5 x)}{x:af}(ae:cI x)(Y: ∀y,enc y=enc x->y=x):(bF.cM f af cI enc j5 ok).fn (enc x)=some (j5 x):=by have hX: ∃y,cI y/\enc y=enc x:=⟨x,ae,rfl⟩;simp only[bF.cM,dif_pos hX];rw[Y _ hX.choose_spec.2]
@[simp] theorem bF.aTY{f:Nat}{af:Type}{cI:af->Prop}{enc:af->List Value}{j5:af->Value}{ok: ∀x,cI x->bP P f (enc x) (j5 x)}:(bF.cM f af cI enc j5 ok).f=f:=rfl
@[simp] theorem aP0{n:Nat}{args:List Value}:Ef n t args=fR (dx n t) args:=rfl
@[simp] theorem aUe{dP pI:Type}{f:dP->Option pI}:fR f []=some []:=rfl
@[simp] theorem aET{dP pI:Type}{f:dP->Option pI}{x:dP}{xs:List dP}:fR f (x::xs)=match f x with
  | some y=>(match fR f xs with
    |some ys=>some (y::ys)
    |none=>none)
  |none=>none:=rfl
theorem Ee{n:Nat}{v:Value}(h:hH v=true):dx n t v=some v:=by cases n<;>simp[dx,h]
theorem C6{n:Nat}{v:Value}(h:hH v=true):eC n t v=[]:=by cases n<;>simp[eC,h]
@[simp] theorem avJ{n:Nat}{k:IntKind}{x:Int}:dx n t (.int k x)=some (.int k x):=Ee rfl
@[simp] theorem aF8{n:Nat}{k:IntKind}{x:Int}:eC n t (.int k x)=[]:=C6 rfl
@[simp] theorem aOX{k:IntKind}{x:Int}:hH (.int k x)=true:=rfl
@[simp] theorem aPL{n:Nat}{b:Bool}:dx n t (.bool b)=some (.bool b):=Ee rfl
@[simp] theorem aUK{n:Nat}{b:Bool}:eC n t (.bool b)=[]:=C6 rfl
@[simp] theorem aOW{b:Bool}:hH (.bool b)=true:=rfl
@[simp] theorem aPT{n:Nat}{s:ByteArray}:dx n t (.string s)=some (.string s):=Ee rfl
@[simp] theorem aUS{n:Nat}{s:ByteArray}:eC n t (.string s)=[]:=C6 rfl
@[simp] theorem aO3{s:ByteArray}:hH (.string s)=true:=rfl
@[simp] theorem aPS{n:Nat}:dx n t (.slice none 0 0)=some (.slice none 0 0):=Ee rfl
@[simp] theorem aUR{n:Nat}:eC n t (.slice none 0 0)=[]:=C6 rfl
@[simp] theorem aO0:hH (.slice none 0 0)=true:=rfl
@[simp] theorem aO2:hH (.pointer none)=true:=rfl
@[simp] theorem aOY:hH (.nilFunc)=true:=rfl
@[simp] theorem aOZ:hH (.nilIface)=true:=rfl
@[simp] theorem aO1:hH (.map none)=true:=rfl
@[simp] theorem aPE{n:Nat}{bJ:List (List Value)}{I:Nat}:dx n t (ai bJ I)=some (ai bJ I):=Ee rfl
@[simp] theorem aUD{n:Nat}{bJ:List (List Value)}{I:Nat}:eC n t (ai bJ I)=[]:=C6 rfl
@[simp] theorem aOV{bJ:List (List Value)}{I:Nat}:hH (ai bJ I)=true:=rfl
@[simp] theorem aOU{c5:List Value}{I:Nat}:hH (fx c5 I)=true:=rfl
theorem PE{n b o l I:Nat}:dx (n+1) t (.slice (some ⟨b,o,none⟩) l I)=match t.F b with
 | some x=>if o+l*I<=x.cells.length then(match fR (fR (dx n t)) (lH I l (x.cells.drop o))with
   |some bJ=>some (ai bJ I)
   |none=>none)else none
 |none=>none:=by
 simp only[dx,hH,ew,ly,Bool.or_false,jO,if_false,Option.isNone_none,DF,eF]<;>
 rfl
@[simp] theorem aPK{cs:Array Value}:dx 9 t (.agg cs)=match fR (dx 8 t) cs.toList with
  |some l=>some (.agg l.toArray)
  |none=>none:=rfl
@[simp] theorem aPZ{cs:Array Value}:dx 9 t (.tuple cs)=match fR (dx 8 t) cs.toList with
  |some l=>some (.tuple l.toArray)
  |none=>none:=rfl
@[simp] theorem aPR{f:Nat}{xs cs:Array Value}:dx 9 t (.func (.func f) xs cs)=match fR (dx 8 t) xs.toList,fR (dx 8 t) cs.toList with
  |some l,some k=>some (.func (.func f) l.toArray k.toArray)
  |_,_=>none:=rfl
theorem B2{b o l I:Nat}:dx 9 t (.slice (some ⟨b,o,none⟩) l I)=match t.F b with
 | some x=>if o+l*I<=x.cells.length then(match fR (fR (dx 8 t)) (lH I l (x.cells.drop o))with
   |some bJ=>some (ai bJ I)
   |none=>none)else none
 |none=>none:=PE
@[simp] theorem aUJ{cs:Array Value}:eC 9 t (.agg cs)=cs.toList.flatMap (eC 8 t):=rfl
@[simp] theorem aUY{cs:Array Value}:eC 9 t (.tuple cs)=cs.toList.flatMap (eC 8 t):=rfl
@[simp] theorem aUQ{f:Nat}{xs cs:Array Value}:eC 9 t (.func (.func f) xs cs)=xs.toList.flatMap (eC 8 t)++cs.toList.flatMap (eC 8 t):=rfl
theorem zs{b o l I:Nat}:eC 9 t (.slice (some ⟨b,o,none⟩) l I)=b::(match t.F b with
 |some x=>x.cells.flatMap (eC 8 t)
 |none=>[]):=rfl
@[simp] theorem aPJ{cs:Array Value}:dx 8 t (.agg cs)=match fR (dx 7 t) cs.toList with
  |some l=>some (.agg l.toArray)
  |none=>none:=rfl
@[simp] theorem aPY{cs:Array Value}:dx 8 t (.tuple cs)=match fR (dx 7 t) cs.toList with
  |some l=>some (.tuple l.toArray)
  |none=>none:=rfl
@[simp] theorem aPQ{f:Nat}{xs cs:Array Value}:dx 8 t (.func (.func f) xs cs)=match fR (dx 7 t) xs.toList,fR (dx 7 t) cs.toList with
  |some l,some k=>some (.func (.func f) l.toArray k.toArray)
  |_,_=>none:=rfl
theorem avL{b o l I:Nat}:dx 8 t (.slice (some ⟨b,o,none⟩) l I)=match t.F b with
 | some x=>if o+l*I<=x.cells.length then(match fR (fR (dx 7 t)) (lH I l (x.cells.drop o))with
   |some bJ=>some (ai bJ I)
   |none=>none)else none
 |none=>none:=PE
@[simp] theorem aUI{cs:Array Value}:eC 8 t (.agg cs)=cs.toList.flatMap (eC 7 t):=rfl
@[simp] theorem aUX{cs:Array Value}:eC 8 t (.tuple cs)=cs.toList.flatMap (eC 7 t):=rfl
@[simp] theorem aUP{f:Nat}{xs cs:Array Value}:eC 8 t (.func (.func f) xs cs)=xs.toList.flatMap (eC 7 t)++cs.toList.flatMap (eC 7 t):=rfl
theorem apZ{b o l I:Nat}:eC 8 t (.slice (some ⟨b,o,none⟩) l I)=b::(match t.F b with
 |some x=>x.cells.flatMap (eC 7 t)
 |none=>[]):=rfl
@[simp] theorem aPI{cs:Array Value}:dx 7 t (.agg cs)=match fR (dx 6 t) cs.toList with
  |some l=>some (.agg l.toArray)
  |none=>none:=rfl
@[simp] theorem aPX{cs:Array Value}:dx 7 t (.tuple cs)=match fR (dx 6 t) cs.toList with
  |some l=>some (.tuple l.toArray)
  |none=>none:=rfl
@[simp] theorem aPP{f:Nat}{xs cs:Array Value}:dx 7 t (.func (.func f) xs cs)=match fR (dx 6 t) xs.toList,fR (dx 6 t) cs.toList with
  |some l,some k=>some (.func (.func f) l.toArray k.toArray)
  |_,_=>none:=rfl
@[simp] theorem aUH{cs:Array Value}:eC 7 t (.agg cs)=cs.toList.flatMap (eC 6 t):=rfl
@[simp] theorem aUW{cs:Array Value}:eC 7 t (.tuple cs)=cs.toList.flatMap (eC 6 t):=rfl
@[simp] theorem aUO{f:Nat}{xs cs:Array Value}:eC 7 t (.func (.func f) xs cs)=xs.toList.flatMap (eC 6 t)++cs.toList.flatMap (eC 6 t):=rfl
@[simp] theorem aPH{cs:Array Value}:dx 6 t (.agg cs)=match fR (dx 5 t) cs.toList with
  |some l=>some (.agg l.toArray)
  |none=>none:=rfl
@[simp] theorem aPW{cs:Array Value}:dx 6 t (.tuple cs)=match fR (dx 5 t) cs.toList with
  |some l=>some (.tuple l.toArray)
  |none=>none:=rfl
@[simp] theorem aPO{f:Nat}{xs cs:Array Value}:dx 6 t (.func (.func f) xs cs)=match fR (dx 5 t) xs.toList,fR (dx 5 t) cs.toList with
  |some l,some k=>some (.func (.func f) l.toArray k.toArray)
  |_,_=>none:=rfl
@[simp] theorem aUG{cs:Array Value}:eC 6 t (.agg cs)=cs.toList.flatMap (eC 5 t):=rfl
@[simp] theorem aUV{cs:Array Value}:eC 6 t (.tuple cs)=cs.toList.flatMap (eC 5 t):=rfl
@[simp] theorem aUN{f:Nat}{xs cs:Array Value}:eC 6 t (.func (.func f) xs cs)=xs.toList.flatMap (eC 5 t)++cs.toList.flatMap (eC 5 t):=rfl
@[simp] theorem aPG{cs:Array Value}:dx 5 t (.agg cs)=match fR (dx 4 t) cs.toList with
  |some l=>some (.agg l.toArray)
  |none=>none:=rfl
@[simp] theorem aPV{cs:Array Value}:dx 5 t (.tuple cs)=match fR (dx 4 t) cs.toList with
  |some l=>some (.tuple l.toArray)
  |none=>none:=rfl
@[simp] theorem aPN{f:Nat}{xs cs:Array Value}:dx 5 t (.func (.func f) xs cs)=match fR (dx 4 t) xs.toList,fR (dx 4 t) cs.toList with
  |some l,some k=>some (.func (.func f) l.toArray k.toArray)
  |_,_=>none:=rfl
@[simp] theorem aUF{cs:Array Value}:eC 5 t (.agg cs)=cs.toList.flatMap (eC 4 t):=rfl
@[simp] theorem aUU{cs:Array Value}:eC 5 t (.tuple cs)=cs.toList.flatMap (eC 4 t):=rfl
@[simp] theorem aUM{f:Nat}{xs cs:Array Value}:eC 5 t (.func (.func f) xs cs)=xs.toList.flatMap (eC 4 t)++cs.toList.flatMap (eC 4 t):=rfl
@[simp] theorem aPF{cs:Array Value}:dx 4 t (.agg cs)=match fR (dx 3 t) cs.toList with
  |some l=>some (.agg l.toArray)
  |none=>none:=rfl
@[simp] theorem aPU{cs:Array Value}:dx 4 t (.tuple cs)=match fR (dx 3 t) cs.toList with
  |some l=>some (.tuple l.toArray)
  |none=>none:=rfl
@[simp] theorem aPM{f:Nat}{xs cs:Array Value}:dx 4 t (.func (.func f) xs cs)=match fR (dx 3 t) xs.toList,fR (dx 3 t) cs.toList with
  |some l,some k=>some (.func (.func f) l.toArray k.toArray)
  |_,_=>none:=rfl
@[simp] theorem aUE{cs:Array Value}:eC 4 t (.agg cs)=cs.toList.flatMap (eC 3 t):=rfl
@[simp] theorem aUT{cs:Array Value}:eC 4 t (.tuple cs)=cs.toList.flatMap (eC 3 t):=rfl
@[simp] theorem aUL{f:Nat}{xs cs:Array Value}:eC 4 t (.func (.func f) xs cs)=xs.toList.flatMap (eC 3 t)++cs.toList.flatMap (eC 3 t):=rfl
@[simp] theorem aO7{I:Nat}{cs:List Value}:lH I 0 cs=[]:=rfl
@[simp] theorem aO8{I:Nat}{cs:List Value}:lH I 1 cs=[cs.take I]:=rfl
@[simp] theorem aO9{I:Nat}{cs:List Value}:lH I 2 cs=[cs.take I,(cs.drop I).take I]:=rfl
@[simp] theorem aPa{I:Nat}{cs:List Value}:lH I 3 cs=[cs.take I,(cs.drop I).take I,((cs.drop I).drop I).take I]:=rfl
@[simp] theorem aPb{I:Nat}{cs:List Value}:lH I 4 cs=[cs.take I,(cs.drop I).take I,((cs.drop I).drop I).take I,(((cs.drop I).drop I).drop I).take I]:=rfl
@[simp] theorem aPc{I:Nat}{cs:List Value}:lH I 5 cs=[cs.take I,(cs.drop I).take I,((cs.drop I).drop I).take I,(((cs.drop I).drop I).drop I).take I,((((cs.drop I).drop I).drop I).drop I).take I]:=rfl
@[simp] theorem aTr:fE.next=0:=rfl
@[simp] theorem aTq{o:Nat}:fE.F o=none:=abx o
theorem uS{bJ:List (List Value)}{n o l I:Nat}{w:Bool}(aH:t.F o=some ⟨bJ.flatten,w⟩)(aA:l=bJ.length)(ar: ∀r∈bJ,r.length=I/\ ∀v∈r,hH v=true):dx (n+1) t (.slice (some ⟨o,0,none⟩) l I)=some (ai bJ I):=by subst aA;have bE: ∀r∈bJ,r.length=I:= λr h=>(ar r h).1;have E:fR (fR (dx n t)) bJ=some bJ:=Na λr h=>Na λv M=>Ee ((ar r h).2 v M);have ao:(bJ.flatten).length=bJ.length*I:=xl bE;simp[dx,hH,ew,ly,aH,Vz bE,E,ao]
theorem TP{cs:List Value}{n:Nat}(ar: ∀v∈cs,hH v=true):cs.flatMap (eC n t)=[]:=by rw[List.flatMap_eq_nil_iff];exact λv M=>C6 (ar v M)
end
@[simp] theorem aVa{d a0:List Value}{l:List (List Value)}:(a0::l)[0]?.getD d=a0:=rfl
@[simp] theorem aVb{d a0 br:List Value}{l:List (List Value)}:(a0::br::l)[1]?.getD d=br:=rfl
@[simp] theorem aVc{d a0 br bQ:List Value}{l:List (List Value)}:(a0::br::bQ::l)[2]?.getD d=bQ:=rfl
attribute [simp] OP JR C2 Kq Kp vX Wf o9
open Go Go.RowKit
def yD(m:G):fY:= λb=>(m.F b).map (·.cells)
section
variable {P:Program} {u:fY} {m U:G}
theorem ahl(m:G):sq (yD m) m:= λb cs h=>by
 simp only[yD]at h;cases aH:m.F b with
 |none=>rw[aH]at h;cases h
 |some x=>rw[aH]at h;cases h;exact⟨x.own,rfl⟩
theorem Wc{b:Nat}{cs:List Value}{w:Bool}(h:m.F b=some ⟨cs,w⟩):yD m b=some cs:=by simp[yD,h]
theorem ahm(h:sq u m):g7 u (yD m):= λb cs hb=>by obtain⟨w,aQ⟩:=h b cs hb;exact Wc aQ
abbrev Oy(m:G)(v bZ:Value):Prop:=cu (yD m) kY v bZ
abbrev Ju(m:G)(vs Bn:List Value):Prop:=bM (yD m) kY vs Bn
theorem aI1{f:Nat}{ts:List Value}{r:Value}(h: ∀m bz,Ju m ts bz->eu P f bz m λeA U=>(m.next<=U.next/\ ∀b,b<m.next->U.F b=m.F b)/\Oy U r eA):bP P f ts r:= λu m bz df ag=>by refine(h m bz (ag.bt (ahm df) (fN.refl _))).bt λeA U bV=> ?_;obtain⟨⟨A,E⟩,ao⟩:=bV;exact⟨A,E,yD U,λb cs hb=>by obtain⟨w,aQ⟩:=df b cs hb;exact Wc (by rw[E b (aF aQ)];exact aQ),ahl U,ao⟩
theorem bP.below{f:Nat}{ts bz:List Value}{r:Value}(h:bP P f ts r)(ag:Ju m ts bz):eu P f bz m λeA U=>(m.next<=U.next/\ ∀b,b<m.next->U.F b=m.F b)/\Oy U r eA:=by refine(h (yD m) m bz (ahl m) ag).bt λeA U bV=> ?_;obtain⟨A,E,cE,ao,aS,bI⟩:=bV;exact⟨⟨A,E⟩,bI.bt (ahm aS) (fN.refl _)⟩
theorem bM.mK{J:e3}{x:Value}{ys:List Value}(h:bM u J [x] ys): ∃y,ys=[y]/\cu u J x y:=by
 match ys,h with
 |[y],h=>exact⟨y,rfl,h.2 0 x y rfl rfl⟩
 |[],h=>simp[bM]at h
 |_::_::_,h=>simp[bM]at h
theorem bM.aI4{J:e3}{x y:Value}{jf:List Value}(h:bM u J [x,y] jf): ∃a b,jf=[a,b]/\cu u J x a/\cu u J y b:=by
 match jf,h with
 |[a,b],h=>exact⟨a,b,rfl,h.2 0 x a rfl rfl,h.2 1 y b rfl rfl⟩
 |[],h=>simp[bM]at h
 |[_],h=>simp[bM]at h
 |_::_::_::_,h=>simp[bM]at h
theorem bM.aIW{J:e3}{x y I:Value}{jf:List Value}(h:bM u J [x,y,I] jf): ∃a b c,jf=[a,b,c]/\cu u J x a/\cu u J y b/\cu u J I c:=by
 match jf,h with
 |[a,b,c],h=>exact⟨a,b,c,rfl,h.2 0 x a rfl rfl,h.2 1 y b rfl rfl,h.2 2 I c rfl rfl⟩
 |[],h=>simp[bM]at h
 |[_],h=>simp[bM]at h
 |[_,_],h=>simp[bM]at h
 |_::_::_::_::_,h=>simp[bM]at h
def vT:(s:gm)->s.b1->List Value
 | .int k,n=>[.int k n]
 | .bool,b=>[.bool b]
 | .str,s=>[.string s]
 | .slice e,l=>[ai ((qN l).map (vT e)) e.cells]
 | .unit,_=>[]
 | .pt a b,d=>vT a d.1++vT b d.2
theorem Pu: ∀(s:gm) (d:s.b1),(vT s d).length=s.cells
 | .int _,_=>rfl
 | .bool,_=>rfl
 | .str,_=>rfl
 | .slice _,_=>rfl
 | .unit,_=>rfl
 | .pt a b,d=>by simp[vT,Pu a,Pu b,gm.cells]
theorem OM: ∀{s:gm} {cs:List Value} {d:s.b1},tf m s cs d->Ju m (vT s d) cs
 | .int k,cs,d,h=>by rw[h.1];exact bM.cons (.c4 rfl) bM.nil
 | .bool,cs,d,h=>by have:cs=[.bool d]:=h;rw[this];exact bM.cons (.c4 rfl) bM.nil
 | .str,cs,d,h=>by rw[h.1];exact bM.cons (.c4 rfl) bM.nil
 | .unit,cs,d,h=>by have:cs=[]:=h;rw[this];exact bM.nil
 | .pt a b,cs,d,h=>by obtain⟨ck,c9,rfl,A,E⟩:=h;exact(OM A).p8 (OM E)
 | .slice e,cs,l,h=>by
   simp only[vT];rcases h with⟨rfl,h⟩|⟨b,bJ,rfl,E,ao,aS,bI⟩
   ·rw[h];exact bM.cons (.jI rfl) bM.nil
   ·refine bM.cons ?_ bM.nil;have bE: ∀r∈bJ,r.length=e.cells:= λr ar=>by
     obtain⟨i,Y,rfl⟩:=n4 ar;exact(bI i _ _ (c6 Y) (c6 (by omega))).len
    have dV:bJ.flatten.length=bJ.length*e.cells:=xl bE;have:=cu.jH (u:=yD m) (J:=kY) (v:=ai ((qN l).map (vT e)) e.cells) (b:=b) (off:=0) (I:=e.cells) (cs:=bJ.flatten) (bJ:=(qN l).map (vT e)) rfl (Wc E) (by rw[dV,aS,ll];omega) (λi r ar=> ?_) λi j r x y ar B Z=> ?_
    ·simpa using this
    ·rw[sk,vI]at ar;obtain⟨x,_,rfl⟩:=ar;exact Pu e x
    ·rw[sk,vI]at ar;obtain⟨jZ,hh,rfl⟩:=ar;have Y:=(cN.1 hh).1;have ih:i<bJ.length:=(by rw[aS];exact Y);have sK:=bI i _ _ (c6 ih) hh;refine(OM sK).2 j x y B ?_;have aV:=(cN.1 B).1;rw[Pu]at aV;have bg:=V9 bE (c6 ih);rw[<-bg,ry,if_pos aV,zL,<-Z,Bz]
def GL(s:gm)(d:s.b1):Value:=if s.isAgg then .agg (vT s d).toArray else(vT s d).headD undef
theorem atj{s:gm}{v:Value}{d:s.b1}(h:U1 m s v d):Oy m (GL s d) v:=by
 obtain⟨cs,A,rfl⟩:=h;have:=OM A;unfold GL;split
 ·exact this.agg
 ·exact this.headD
inductive Jt:List gm->List Value->Prop
 |nil:Jt [] []
 |cons {s:gm} {d:s.b1} {nw:List gm} {vs:List Value} (ok:FN s d) (H:Jt nw vs):Jt (s::nw) (GL s d::vs)
theorem ati{nw:List gm}{dD:List Value}(h:zO m nw dD): ∃ts,Jt nw ts/\Ju m ts dD:=by
 induction h with
 |nil=>exact⟨[],.nil,bM.nil⟩
 | cons h H cj=>obtain⟨ts,A,E⟩:=cj;obtain⟨cs,ao,aS⟩:=h;exact⟨_,.cons ao.ok A,bM.cons (atj ⟨cs,ao,aS⟩) E⟩
theorem aoc{f:Nat}{nw:List gm}(h: ∀ts,Jt nw ts->bP P f ts (.bool true))(m:G)(dD:List Value)(ag:zO m nw dD):eu P f dD m λr _=>r= .bool true:=by obtain⟨ts,A,E⟩:=ati ag;exact((h ts A).below E).bt λr U bV=>bV.2.tR
end
section
variable {P:Program} {ay:mq P} {t bd:G} {z bT:aD} {c:aB} {Q:cO->aD->G->Prop}
theorem aJ2(aH: ∀J u K m,ep J u t m->hF u J z K->ep J u bd m/\hF u J bT K/\e4 t.next m.next J u t m J u bd m)(h:ee P c bT bd Q):ee P c z t Q:= λax J u K m H b4=>by obtain⟨aE,a5,ch⟩:=aH J u K m H b4;refine(h ax J u K m aE a5).bt λe aT bn bV=> ?_;obtain⟨cW,eo,c2,dR,A,E,ao,aS⟩:=bV;exact⟨cW,eo,c2,dR,A,E,ao,ch.trans (aS.wV ch.lk (c8 _))⟩
theorem arQ{J:e3}{u:fY}{m:G}(H:ep J u t m){o j I:Nat}{cs:List Value}(aC:t.F o=some ⟨cs,true⟩)(aV:cs[j]?=some (.slice none 0 0)):
 ep J u (((t.bU 1).aK t.next (some ⟨[],true⟩)).aK o (some ⟨cs.set j (.slice (some ⟨t.next,0,none⟩) 0 I),true⟩)) m/\e4 t.next m.next J u t m J u (((t.bU 1).aK t.next (some ⟨[],true⟩)).aK o (some ⟨cs.set j (.slice (some ⟨t.next,0,none⟩) 0 I),true⟩)) m:=by
 refine⟨?_,?_⟩
 ·have cp:J t.next=none:=by
   cases aU:J t.next with
   |none=>rfl
   |some b=>have:=(H.cU _ _ aU).1;omega
  have dA:=aF aC;have bx:o≠t.next:=by omega
  refine⟨λp x B=> ?_,λp es aU=> ?_,H.jA,H.inj,λp b h=>⟨by have:=(H.cU p b h).1;simp only[eT,fq];omega,(H.cU p b h).2⟩,λb ds hb=> ?_⟩
  ·by_cases ae:p=o
   ·subst ae;rw[cb (by simp;omega)]at B;cases B;rcases H.jc p _ aC with⟨b,ds,w,A,E,ao,aS⟩|⟨A,E⟩
    ·refine .inl ⟨b,ds,w,A,E,ao,?_⟩;obtain⟨y,Z,M⟩:=aS.F aV;have:=aS.set j (y:=y) (x:= .slice (some ⟨t.next,0,none⟩) 0 I) (by rw[M.hB rfl];exact .sb);rw[show ds.set j y=ds from by
      apply yi;intro i;rw[Bu];split
      ·next e=>subst e;rw[Z];simp;exact(cN.1 Z).1
      ·rfl]at this
     exact this
    ·simp only at E;subst E;simp at aV
   ·rw[aX ae]at B;by_cases bg:p=t.next
    ·subst bg;rw[cb (by simp)]at B;cases B;exact .inr ⟨cp,rfl⟩
    ·rw[aX bg,G.cl]at B;exact H.jc p x B
  ·by_cases ae:p=o
   ·subst ae;obtain⟨aG,aN⟩:=ji aU;rw[cb (by simp;omega)]at aG;have:cs=[]:=(by simpa using aG);subst this;simp at aV
   ·obtain⟨aG,aN⟩:=ji aU;rw[aX ae]at aG;by_cases bg:p=t.next
    ·subst bg;have ao:t.mp t.next=some es:=aN
     rw[H.jA _ cp]at ao;cases ao
    ·rw[aX bg,G.cl]at aG;exact H.maps p es (kT aG aN)
  ·obtain⟨A,E⟩:=H.b0 b ds hb;refine⟨A,λp x PT B=> ?_⟩;by_cases ae:p=o
   ·subst ae;have:=E p _ PT aC;cases this
   ·rw[aX ae]at B;have bg:p≠t.next:= λe=>by subst e;rw[cp]at PT;cases PT
    rw[aX bg,G.cl]at B;exact E p x PT B
 ·have cp:J t.next=none:=by
   cases aU:J t.next with
   |none=>rfl
   |some b=>have:=(H.cU _ _ aU).1;omega
  refine⟨fN.refl _,g7.refl _,λ_ _ h=> .inl h,λ_ _ h=> .inl h,by simp,c8 _,λ_ _ _=>rfl,λb hb=> λ⟨p,x,aG,aN,ct⟩=> ?_,λb hb=> λ⟨p,x,aG,aN⟩=> ?_⟩
  ·by_cases ae:p=o
   ·subst ae;exact⟨p,_,aG,aC,rfl⟩
   ·rw[aX ae]at aN;have bg:p≠t.next:= λe=>by subst e;rw[cp]at aG;cases aG
    rw[aX bg,G.cl]at aN;exact⟨p,x,aG,aN,ct⟩
  ·by_cases ae:p=o
   ·subst ae;exact⟨p,_,aG,aC⟩
   ·rw[aX ae]at aN;have bg:p≠t.next:= λe=>by subst e;rw[cp]at aG;cases aG
    rw[aX bg,G.cl]at aN;exact⟨p,x,aG,aN⟩
theorem zG{o j I:Nat}{cs:List Value}(aC:t.F o=some ⟨cs,true⟩)(aV:cs[j]?=some (.slice none 0 0))
 (h:ee P c z (((t.bU 1).aK t.next (some ⟨[],true⟩)).aK o (some ⟨cs.set j (.slice (some ⟨t.next,0,none⟩) 0 I),true⟩)) Q):ee P c z t Q:=
 aJ2 (λJ u K m H b4=>⟨(arQ H aC aV).1,b4,(arQ H aC aV).2⟩) h
theorem aIC{l:List (bF P)}{f:Nat}{ts:List Value}{bu uy:Value->Prop}(h:ye l f ts bu)(O: ∀r,bu r->uy r):ye l f ts uy:=by
 induction l with
 |nil=>exact h
 | cons s ay cj=>
   simp only[ye]at h⊢;split at h
   ·next e=>
    rw[if_pos e];cases bb:s.fn ts with
    |none=>rw[bb]at h;exact h
    |some r=>rw[bb]at h;exact O _ h
   ·next e=>rw[if_neg e];exact cj h
theorem aqX{l:List (jg P)}{f:Nat}{ts:List Value}{t:G}{aR uD:Value->G->Prop}(h:wQ l f ts t aR)(O: ∀r t,aR r t->uD r t):wQ l f ts t uD:=by
 induction l with
 |nil=>exact h
 | cons s ay cj=>
   simp only[wQ]at h⊢;split at h
   ·next e=>
    rw[if_pos e];cases bb:s.fn ts t with
    |none=>rw[bb]at h;exact h
    |some r=>rw[bb]at h;exact O _ _ h
   ·next e=>rw[if_neg e];exact cj h
theorem agf{f:Nat}{args:List Value}{L:List Nat}{aR uD:Value->G->Prop}(h:xe ay f args t L aR)(O: ∀r t,aR r t->uD r t):xe ay f args t L uD:=by
 unfold xe at h⊢;split at h
 ·next H=>
  rw[if_pos H];unfold zp at h⊢;split at h
  ·next ts bE=>exact aIC h λr h=>O _ _ h
  ·exact h
 ·next H=>
  rw[if_neg H];cases L with
  | nil=>
    simp only[BO]at h⊢;split at h
    ·next e=>rw[if_pos e];exact aqX h O
    ·next e=>rw[if_neg e];exact h.bt O
  | cons o l=>
    simp only[BO]at h⊢;refine⟨h.1,?_⟩;have E:=h.2;split at E
    ·next e=>rw[if_pos e];exact aqX E λr t bV=>O _ _ bV
    ·next e=>rw[if_neg e];exact E.bt λr t bV=>O _ _ bV
theorem JC{base:Nat}: ∀{ops:List cS} {z:aD} {t:G} {aR uD:aD->G->Prop},dn ay base ops z t aR->(∀z t,aR z t->uD z t)->dn ay base ops z t uD
 |[],_,_,_,_,h,O=>O _ _ h
 | o::ops,z,t,aR,uD,h,O=>by
   simp only[dn]at h⊢;split at h
   ·next aQ=>
    rw[if_pos aQ];obtain⟨aY,d,g,k,bc⟩:=o;cases k with
    |l2 f bz=>exact agf h λr t h=>JC h O
    | nc x bz=>
      simp only[kc,JZ]at h⊢;split at h
      ·exact agf h λr t h=>JC h O
      ·exact h
    |mE=>exact h
    |_=>exact⟨h.1,h.2.1,JC h.2.2 O⟩
   ·next aQ=>rw[if_neg aQ];exact JC h O
theorem DT: ∀{c:aB} {z:aD} {t:G} {Q BF:cO->aD->G->Prop},iK ay c z t Q->(∀e z t,Q e z t->BF e z t)->iK ay c z t BF
 | .skip,_,_,_,_,h,bg=>bg _ _ _ h
 | .cF _,_,_,_,_,h,bg=>bg _ _ _ h
 | .fi,_,_,_,_,h,bg=>bg _ _ _ h
 | .kN _,_,_,_,_,h,bg=>JC h λz t h=>bg _ _ _ h
 | .ve _ _ _,_,_,_,_,h,_=>h.elim
 | .kB a b,_,_,_,_,h,bg=>DT (c:=a) h λe z t h=>by
   cases e with
   |eR=>exact DT (c:=b) h bg
   |cF id=>exact bg _ _ _ h
   |fi=>exact bg _ _ _ h
 | .nG c a b,_,_,_,_,h,bg=>by
   refine⟨h.1,?_⟩;have E:=h.2;split at E
   ·next e=>rw[if_pos e];exact DT (c:=a) E bg
   ·next e=>rw[if_neg e];exact DT (c:=b) E bg
 | .block id c,_,_,_,_,h,bg=>DT (c:=c) h λe z t h=>by
   cases e with
   |eR=>exact bg _ _ _ h
   |fi=>exact bg _ _ _ h
   | cF kl=>
     simp only at h⊢;split at h
     ·next e=>rw[if_pos e];exact bg _ _ _ h
     ·next e=>rw[if_neg e];exact bg _ _ _ h
 | .loop _,_,_,_,_,h,bg=>h.bt bg
theorem gP(D:Nat->aD->G->Prop)(n:Nat)(step: ∀i z t,i<n->D i z t-> ∀bO:aD->G->Prop,(∀K X,D (i+1) K X->bO K X)->iK ay c z t (sS bO Q))
 (ML: ∀z t,D n z t->iK ay c z t (sS (λ_ _=>False) Q)): ∀(i:Nat) (z:aD) (t:G),i<=n->D i z t->ee P (.loop c) z t Q:=by
 have key: ∀(r i:Nat) (z:aD) (t:G),i+r=n->D i z t->ee P (.loop c) z t Q:=by
  intro r;induction r with
  | zero=>
    intro i z t Y ja;have e:i=n:=(by omega);subst e;refine eS (ay:=ay) λbO a1=> ?_;have A:=ML z t ja;refine DT A λe z t h=> ?_;cases e with
    |eR=>exact h.elim
    |cF id=>exact h
    |fi=>exact h
  | succ r cj=>intro i z t Y ja;exact eS (ay:=ay) λbO a1=>step i z t (by omega) ja bO λK X h=>a1 _ _ (cj (i+1) K X (by omega) h)
 exact λi z t Y ja=>key (n-i) i z t (by omega) ja
end
section
variable {P:Program} {t:G}
open Classical in
theorem avC{J:e3}{u:fY}{t m:G}(H:ep J u t m){o p j I:Nat}{bJ:List (List Value)}{cells:List Value}(aC:t.F o=some ⟨bJ.flatten,true⟩)(ar: ∀r∈bJ,r.length=I/\ ∀v∈r,hH v=true)
 (ae:t.F p=some ⟨cells,true⟩) (aV:cells[j]?=some (.slice (some ⟨o,0,none⟩) bJ.length I)) (bx:o≠p):
 ∃cE,g7 u cE/\(∀b cs,cE b=some cs->u b=some cs\/J o=some b)/\ep J cE ((t.aK o none).aK p (some ⟨cells.set j (ai bJ I),true⟩)) m:=by
 have lM:=aF aC;have axB:=aF ae;have bE: ∀r∈bJ,r.length=I:= λr h=>(ar r h).1;refine⟨λb=>match u b with
  |some cs=>some cs
  |none=>if J o=some b then(m.F b).map (·.cells)else none,λb cs hb=>by simp only[hb],λb cs hb=> ?_,?_⟩
 ·simp only at hb;cases df:u b with
  |some ds=>rw[df]at hb;exact .inl hb
  | none=>
    rw[df]at hb;simp only at hb;split at hb
    ·next h=>exact .inr h
    ·cases hb
 ·obtain⟨cE,oh⟩: ∃cE:fY,cE= λb=>match u b with
   |some cs=>some cs
   |none=>if J o=some b then(m.F b).map (·.cells)else none:=⟨_,rfl⟩
  rw[<-oh];have eW:g7 u cE:= λb cs hb=>by rw[oh];simp only[hb]
  have Ay: ∀b cs w,J o=some b->m.F b=some ⟨cs,w⟩->cE b=some cs:= λb cs w cp aH=>by
   rw[oh];simp only;cases mz:u b with
   |some ds=>obtain⟨⟨w',kJ⟩,_⟩:=H.b0 b ds mz;rw[aH]at kJ;cases kJ;rfl
   |none=>simp only;rw[if_pos cp,aH];rfl
  have ig:((t.aK o none).aK p (some ⟨cells.set j (ai bJ I),true⟩)).F p=some ⟨cells.set j (ai bJ I),true⟩:=cb (by simpa using axB);have bw:((t.aK o none).aK p (some ⟨cells.set j (ai bJ I),true⟩)).F o=none:=(by rw[aX bx,cb lM]);have hP: ∀q,q≠p->q≠o->((t.aK o none).aK p (some ⟨cells.set j (ai bJ I),true⟩)).F q=t.F q:= λq A E=>by rw[aX A,aX E]
  refine⟨λq x B=> ?_,λq es aU=> ?_,H.jA,H.inj,H.cU,λb ds hb=> ?_⟩
  ·by_cases A:q=p
   ·subst A;rw[ig]at B;cases B;rcases H.jc q _ ae with⟨b,ds,w,aE,a5,ch,dT⟩|⟨aE,a5⟩
    ·refine .inl ⟨b,ds,w,aE,a5,ch,?_⟩;obtain⟨y,Z,M⟩:=dT.F aV;have AE:cu cE J (ai bJ I) y:=by
      rcases M.lv with⟨c,aG,_,rfl⟩|⟨_,_,ct,rfl⟩
      ·obtain⟨cs,w',bB,_,dO⟩:=H.mu aG aC;have dV:(bJ.flatten).length=bJ.length*I:=xl bE;refine .jH (off:=0) rfl (Ay c cs w' aG bB) (by rw[<-dO.1];simp only;omega) (λi r Y=>bE r (fX Y)) λi vb r bf y Y ba Z=> ?_;have sK:=V9 bE Y;have Au:=(cN.1 ba).1;rw[bE r (fX Y)]at Au;have bI:(bJ.flatten)[i*I+vb]?=some bf:=by
        rw[<-sK,ry,if_pos Au,zL]at ba;exact ba
       have cZ:=dO.2 (i*I+vb) bf y bI (by rw[<-Z];congr 1;omega);exact J1 eW cZ ((ar r (fX Y)).2 bf (fX ba))
      ·have:bJ=[]:=n2 ct;subst this;exact .jI rfl
     have eg:=(dT.bt eW (fN.refl _)).set j AE;rw[show ds.set j y=ds from by
      apply yi;intro i;rw[Bu];split
      ·next e=>subst e;rw[Z];simp;exact(cN.1 Z).1
      ·rfl]at eg
     exact eg
    ·simp only at a5;subst a5;simp at aV
   ·by_cases E:q=o
    ·subst E;rw[bw]at B;cases B
    ·rw[hP q A E]at B;rcases H.jc q x B with⟨b,ds,w,aE,a5,ch,dT⟩|aE
     ·exact .inl ⟨b,ds,w,aE,a5,ch,dT.bt eW (fN.refl _)⟩
     ·exact .inr aE
  ·obtain⟨aG,aN⟩:=ji aU;by_cases A:q=p
   ·subst A;rw[ig]at aG;have:cells=[]:=(by simpa using aG);subst this;simp at aV
   ·by_cases E:q=o
    ·subst E;rw[bw]at aG;cases aG
    ·rw[hP q A E]at aG;obtain⟨b,de,bB,cC,dO⟩:=H.maps q es (kT aG aN);exact⟨b,de,bB,cC,dO.bt eW (fN.refl _)⟩
  ·have Ap:u b=some ds\/(J o=some b/\ ∃w,m.F b=some ⟨ds,w⟩):=by
    rw[oh]at hb;simp only at hb;cases mz:u b with
    |some x=>rw[mz]at hb;simp only at hb;exact .inl hb
    | none=>
      rw[mz]at hb;simp only at hb;split at hb
      ·next h=>
       cases aH:m.F b with
       |none=>rw[aH]at hb;cases hb
       |some x=>rw[aH]at hb;cases hb;exact .inr ⟨h,x.own,rfl⟩
      ·cases hb
   rcases Ap with h|⟨h,w,cw⟩
   ·obtain⟨A,E⟩:=H.b0 b ds h;refine⟨A,λq x cp B=> ?_⟩;by_cases aG:q=p
    ·subst aG;have:=E q _ cp ae;cases this
    ·by_cases aN:q=o
     ·subst aN;rw[bw]at B;cases B
     ·rw[hP q aG aN]at B;exact E q x cp B
   ·refine⟨⟨w,cw⟩,λq x cp B=> ?_⟩;have:q=o:=H.inj q o b cp h;subst this;rw[bw]at B;cases B
end
section
variable {P:Program} {t bd:G} {l:List Nat}
def pK(r eA:Value):Prop:= ∀(u:fY) (J:e3) (v:Value),cu u J r v->cu u J eA v
theorem pK.refl(r:Value):pK r r:= λ_ _ _ h=>h
theorem pK.nil{I:Nat}:pK (.slice none 0 0) (ai [] I):= λu J v h=>by rw[h.hB rfl];exact .jI rfl
def vN:List Value->List Value->Prop
 |[],[]=>True
 |x::xs,y::ys=>pK x y/\vN xs ys
 |_,_=>False
theorem vN.len: ∀{xs ys:List Value},vN xs ys->xs.length=ys.length
 |[],[],_=>rfl
 |x::xs,y::ys,h=>by simp[vN.len h.2]
 |[],_::_,h=>h.elim
 |_::_,[],h=>h.elim
theorem vN.F: ∀{xs ys:List Value},vN xs ys-> ∀(i:Nat) (x y:Value),xs[i]?=some x->ys[i]?=some y->pK x y
 |[],[],_,i,x,y,A,_=>by simp at A
 |x::xs,y::ys,h,0,a,b,A,E=>by simp at A E;subst A;subst E;exact h.1
 |x::xs,y::ys,h,i+1,a,b,A,E=>vN.F h.2 i a b (by simpa using A) (by simpa using E)
 |[],_::_,h,_,_,_,_,_=>h.elim
 |_::_,[],h,_,_,_,_,_=>h.elim
theorem vN.jS{xs ys jf:List Value}(h:vN xs ys){u:fY}{J:e3}(aA:bM u J xs jf):bM u J ys jf:=by refine⟨by rw[<-h.len];exact aA.1,λi y I Z bE=> ?_⟩;have Y:=(cN.1 Z).1;have B:xs[i]?=some (xs[i]'(by rw[h.len];exact Y)):=c6 _;exact h.F i _ y B Z u J I (aA.2 i _ I B bE)
theorem pK.agg{xs ys:List Value}(h:vN xs ys):pK (.agg xs.toArray) (.agg ys.toArray):= λu J v M=>by obtain⟨jf,rfl,aA⟩:=M.tQ;have:=(h.jS (by simpa using aA)).agg;simpa using this
theorem pK.tuple{xs ys:List Value}(h:vN xs ys):pK (.tuple xs.toArray) (.tuple ys.toArray):= λu J v M=>by obtain⟨jf,rfl,aA⟩:=M.ET;have:=(h.jS (by simpa using aA)).tuple;simpa using this
theorem bP.uq{f:Nat}{args:List Value}{r eA:Value}(h:bP P f args r)(aQ:pK r eA):bP P f args eA:= λu m bz df ag=>(h u m bz df ag).bt λx U bV=>by obtain⟨A,E,cE,ao,aS,bI⟩:=bV;exact⟨A,E,cE,ao,aS,aQ cE _ _ bI⟩
end
section
variable {P:Program} {ay:mq P} {t:G} {z:aD} {c:aB} {Q:cO->aD->G->Prop}
theorem vH{o p j I:Nat}{bJ:List (List Value)}{cells:List Value}(aC:t.F o=some ⟨bJ.flatten,true⟩)(ar: ∀r∈bJ,r.length=I/\ ∀v∈r,hH v=true)
 (ae:t.F p=some ⟨cells,true⟩) (aV:cells[j]?=some (.slice (some ⟨o,0,none⟩) bJ.length I)) (bx:o≠p) (h:ee P c z ((t.aK o none).aK p (some ⟨cells.set j (ai bJ I),true⟩)) Q):ee P c z t Q:= λax J u K m H b4=>by
 obtain⟨kg,bB,cC,dO⟩:=avC H aC ar ae aV bx;refine(h ax J kg K m dO (b4.bt bB (fN.refl _))).bt λe aT bn bV=> ?_;obtain⟨cW,eo,c2,dR,A,E,ao,aS⟩:=bV;have fw: ∀q x,((t.aK o none).aK p (some ⟨cells.set j (ai bJ I),true⟩)).F q=some x-> ∃y,t.F q=some y/\(x.own=true->y.own=true):= λq x B=>by
  by_cases aG:q=p
  ·subst aG;exact⟨_,ae,λ_=>rfl⟩
  ·by_cases aN:q=o
   ·subst aN;exact⟨_,aC,λ_=>rfl⟩
   ·rw[aX aG,aX aN]at B;exact⟨x,B,λh=>h⟩
 have ch:e4 t.next m.next J u t m J kg ((t.aK o none).aK p (some ⟨cells.set j (ai bJ I),true⟩)) m:=by
  refine⟨fN.refl _,bB,λ_ _ h=> .inl h,λb cs hb=> ?_,by simp,c8 _,λ_ _ _=>rfl,λb hb ⟨q,x,a9,bW,cA⟩=> ?_,λb hb ⟨q,x,a9,bW⟩=> ?_⟩
  ·rcases cC b cs hb with bI|bI
   ·exact .inl bI
   ·exact .inr (.inr ⟨o,_,bI,aC⟩)
  ·obtain⟨y,Z,Lk⟩:=fw q x bW;exact⟨q,y,a9,Z,Lk cA⟩
  ·obtain⟨y,Z,_⟩:=fw q x bW;exact⟨q,y,a9,Z⟩
 exact⟨cW,eo,c2,dR,A,E,ao,ch.trans (aS.wV ch.lk (c8 _))⟩
def asz(D:aD->G->Prop)(z:aD)(t:G):Prop:= ∃(o p j I:Nat) (bJ:List (List Value)) (cells:List Value),t.F o=some ⟨bJ.flatten,true⟩/\(∀r∈bJ,r.length=I/\ ∀v∈r,hH v=true)/\t.F p=some ⟨cells,true⟩/\
 cells[j]?=some (.slice (some ⟨o,0,none⟩) bJ.length I)/\o≠p/\D z ((t.aK o none).aK p (some ⟨cells.set j (ai bJ I),true⟩))
end
end Go.DI
