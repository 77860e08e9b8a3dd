/-
  A part of the proof, shortened by tools of ours.
-/
import Derived.Test.YtmmkkggfmigppaaGreatZak
set_option linter.all false
set_option maxRecDepth 8000
set_option maxHeartbeats 16000000
namespace Go.DI
open Go
section
variable {P:Program} {ax:mG P} {CS:List (bx P)} {qg:List (jg P)} {base aW:Nat} {d:Option Nat} {bN:List cO} {z:aC} {t:H} {aR:aC->H->Prop} {bd:List (Operand×Operand)} {Q:cM->aC->H->Prop}
def CX(ax:mG P)(b:aw)(Q:cM->aC->H->Prop)(e:cM)(z:aC)(t:H):Prop:=match e with
 | .eB=>ix ax b z t Q
 |e=>Q e z t
@[simp] theorem aXs{b:aw}:CX ax b Q .eB z t=ix ax b z t Q:=propext lv
@[simp] theorem aXr{b:aw}{id:Nat}:CX ax b Q (.cH id) z t=Q (.cH id) z t:=propext lv
@[simp] theorem aXt{b:aw}:CX ax b Q .e3 z t=Q .e3 z t:=propext lv
@[simp] theorem aTh{u:List lP}{bA:Value->H->Prop}:CB u bA .eB z t=(mw t z u=true/\bA (mU t z u) t):=propext lv
@[simp] theorem aTi{u:List lP}{bA:Value->H->Prop}:CB u bA .e3 z t=(mw t z u=true/\bA (mU t z u) t):=propext lv
@[simp] theorem aXD:ix ax .skip z t Q=Q .eB z t:=propext lv
@[simp] theorem aXy{id:Nat}:ix ax (.cH id) z t Q=Q (.cH id) z t:=propext lv
@[simp] theorem aXB:ix ax .e3 z t Q=Q .e3 z t:=propext lv
@[simp] theorem aXA{ops:List cO}:ix ax (.kl ops) z t Q=dk ax t.next ops z (hV ops t) (Q .eB):=propext lv
@[simp] theorem aXC{a b:aw}:ix ax (.ky a b) z t Q=ix ax a z t (CX ax b Q):=propext lv
@[simp] theorem aXx{c:Operand}{a b:aw}:ix ax (.nx c a b) z t Q=(vU (O z c)=true/\if xW (O z c)=true then ix ax a z t Q else ix ax b z t Q):=propext lv
@[simp] theorem aXw{id:Nat}{c:aw}:ix ax (.block id c) z t Q=ix ax c z t (zt id Q):=propext lv
@[simp] theorem aXz{c:aw}:ix ax (.loop c) z t Q=ec P (.loop c) z t Q:=propext lv
@[simp] theorem aX6:dk ax base [] z t aR=aR z t:=propext lv
@[simp] theorem aXT{k:ah}{j:Nat}{b:Bool}:dk ax base (⟨aW,d,some (j,b),k,bd⟩::bN) z t aR=if eX z (some (j,b))=true then dk ax base (⟨aW,d,none,k,bd⟩::bN) z t aR else dk ax base bN (cZ z d undef) t aR:=by simp only[dk];rfl
def sy(ax:mG P)(base:Nat)(d:Option Nat)(bN:List cO)(z:aC)(aR:aC->H->Prop)(r:Value)(t:H):Prop:=dk ax base bN (cZ z d r) t aR
@[simp] theorem aQ3{r:Value}:sy ax base d bN z aR r t=dk ax base bN (cZ z d r) t aR:=propext lv
@[simp] theorem aXL{f:Nat}{bu:List Operand}:dk ax base (⟨aW,d,none,.lA f bu,bd⟩::bN) z t aR=wG ax f (bu.map (O z)) t (nh z t bd) (sy ax base d bN z aR):=by simp only[dk,eX,if_true];rfl
@[simp] theorem aXM{x:Operand}{bu:List Operand}:dk ax base (⟨aW,d,none,.m2 x bu,bd⟩::bN) z t aR=JA ax (O z x) (bu.map (O z)) t (nh z t bd) (sy ax base d bN z aR):=by simp only[dk,eX,if_true];rfl
@[simp] theorem aNj{f:Nat}{first kr:Array Value}{args:List Value}{L:List Nat}{aR:Value->H->Prop}:JA ax (.func (.func f) first kr) args t L aR=wG ax f (first.toList++args++kr.toList) t L aR:=propext lv
@[simp] theorem aX4(x:Operand):dk ax base (⟨aW,d,none,.hs x,bd⟩::bN) z t aR=(iY z t bd=true/\dk ax base bN (cZ z d (O z x)) (t) aR):=by simp only[dk,eX,if_true,kb,ah.jq,ah.ok,true_and];rfl
@[simp] theorem aX8(c a b:Operand):dk ax base (⟨aW,d,none,.uV c a b,bd⟩::bN) z t aR=(vU (O z c)=true/\(iY z t bd=true/\dk ax base bN (cZ z d (if xW (O z c)=true then O z a else O z b)) (t) aR)):=by simp only[dk,eX,if_true,kb];rfl
@[simp] theorem aX7(x:Operand):dk ax base (⟨aW,d,none,.uT x,bd⟩::bN) z t aR=(Cb (O z x)=true/\(iY z t bd=true/\dk ax base bN (cZ z d (O z x)) (t) aR)):=by simp only[dk,eX,if_true,kb];rfl
@[simp] theorem aXE(G:List Value):dk ax base (⟨aW,d,none,.nu G,bd⟩::bN) z t aR=(iY z t bd=true/\dk ax base bN (cZ z d (.pointer (some ⟨base+aW,0,none⟩))) (t.aO (base+aW) (some ⟨G,true⟩)) aR):=by simp only[dk,eX,if_true,kb,ah.jq,ah.ok,true_and];rfl
@[simp] theorem aXI(x:Operand):dk ax base (⟨aW,d,none,.oy x,bd⟩::bN) z t aR=(au (O z x)=true/\(iY z t bd=true/\dk ax base bN (cZ z d (.pointer (some ⟨base+aW,0,none⟩))) (t.aO (base+aW) (some ⟨an (O z x),true⟩)) aR)):=by simp only[dk,eX,if_true,kb];rfl
@[simp] theorem aXK(G:List Value)(ps:List (Nat×Nat×Operand)):dk ax base (⟨aW,d,none,.vl G ps,bd⟩::bN) z t aR=(rS G z ps=true/\(iY z t bd=true/\dk ax base bN (cZ z d (.agg (nj G z ps).toArray)) (t) aR)):=by simp only[dk,eX,if_true,kb];rfl
@[simp] theorem aXJ(G n:Nat)(cs:List Value)(ps:List (Nat×Nat×Operand)):dk ax base (⟨aW,d,none,.mh G n cs ps,bd⟩::bN) z t aR=(rS cs z ps=true/\(iY z t bd=true/\dk ax base bN (cZ z d (.slice (some ⟨base+aW,0,none⟩) n G)) (t.aO (base+aW) (some ⟨nj cs z ps,true⟩)) aR)):=by simp only[dk,eX,if_true,kb];rfl
@[simp] theorem aXX(dr:Bool)(n:Nat)(x:Operand):dk ax base (⟨aW,d,none,.g4 dr n x,bd⟩::bN) z t aR=((sg t (O z x) n&&(dr||decide (n=1)))=true/\(iY z t bd=true/\dk ax base bN (cZ z d (Ao t dr n (O z x))) (t) aR)):=by simp only[dk,eX,if_true,kb];rfl
@[simp] theorem aYb(n:Nat)(x v:Operand):dk ax base (⟨aW,d,none,.store n x v,bd⟩::bN) z t aR=((gT t (O z x) n&&rq t (O z x)&&au (O z v)&&decide ((an (O z v)).length=n))=true/\(iY z t bd=true/\dk ax base bN (cZ z d (undef)) (pn t (O z x) (an (O z v))) aR)):=by simp only[dk,eX,if_true,kb];rfl
@[simp] theorem aXH(op:BinOp)(c:wz)(x y:Operand):dk ax base (⟨aW,d,none,.nY op c x y,bd⟩::bN) z t aR=((nZ (O z x)&&nZ (O z y)&&um op c (O z x) (O z y))=true/\(iY z t bd=true/\dk ax base bN (cZ z d (mJ op (O z x) (O z y))) (t) aR)):=by simp only[dk,eX,if_true,kb];rfl
@[simp] theorem aYc(op:UnOp)(x:Operand):dk ax base (⟨aW,d,none,.y5 op x,bd⟩::bN) z t aR=(AO op (O z x)=true/\(iY z t bd=true/\dk ax base bN (cZ z d (FT op (O z x))) (t) aR)):=by simp only[dk,eX,if_true,kb];rfl
@[simp] theorem aXQ(k:IntKind)(x:Operand):dk ax base (⟨aW,d,none,.Dx k x,bd⟩::bN) z t aR=(fe (O z x)=true/\(iY z t bd=true/\dk ax base bN (cZ z d (.int k (k.wrap (eN (O z x))))) (t) aR)):=by simp only[dk,eX,if_true,kb];rfl
@[simp] theorem aXP(x:Operand):dk ax base (⟨aW,d,none,.py x,bd⟩::bN) z t aR=((kz t 1 (O z x)&&(lb t 1 (O z x)).all EO)=true/\(iY z t bd=true/\dk ax base bN (cZ z d (.string (toBytes (lb t 1 (O z x))))) (t) aR)):=by simp only[dk,eX,if_true,kb];rfl
@[simp] theorem aYa(G:Nat)(x:Operand)(bk W:Option Operand):dk ax base (⟨aW,d,none,.wg G x bk W,bd⟩::bN) z t aR=((mW G (O z x)&&pN z bk&&pN z W&&decide (0<=hf z bk 0)&&decide (hf z bk 0<=hf z W (lp (O z x)))&&decide (hf z W (lp (O z x))<=lp (O z x)))=true/\(iY z t bd=true/\dk ax base bN (cZ z d (u7 (O z x) G (hf z bk 0).toNat (hf z W (lp (O z x))).toNat)) (t) aR)):=by simp only[dk,eX,if_true,kb];rfl
@[simp] theorem aX9(G n:Nat)(x:Operand):dk ax base (⟨aW,d,none,.sN G n x,bd⟩::bN) z t aR=((gT t (O z x) (n*G)&&decide (n<=maxLen))=true/\(iY z t bd=true/\dk ax base bN (cZ z d (Jl (O z x) G n)) (t) aR)):=by simp only[dk,eX,if_true,kb];rfl
@[simp] theorem aX2(G bytes:Nat)(jf:List Value)(l c:Operand):dk ax base (⟨aW,d,none,.oc G bytes jf l c,bd⟩::bN) z t aR=((fe (O z l)&&fe (O z c)&&decide (0<=eN (O z l))&&decide (eN (O z l)<=eN (O z c))&&decide (eN (O z c)*(bytes:Int)<=140737488355328)&&decide (eN (O z c)<=9223372036854775807)&&decide (0<G))=true/\(iY z t bd=true/\dk ax base bN (cZ z d (.slice (some ⟨base+aW,0,none⟩) (eN (O z l)).toNat G)) (t.aO (base+aW) (some ⟨(List.replicate (eN (O z l)).toNat jf).flatten,true⟩)) aR)):=by simp only[dk,eX,if_true,kb];rfl
@[simp] theorem aXS(off:Nat)(x:Operand):dk ax base (⟨aW,d,none,.ks off x,bd⟩::bN) z t aR=(rT (O z x)=true/\(iY z t bd=true/\dk ax base bN (cZ z d (yT (O z x) off)) (t) aR)):=by simp only[dk,eX,if_true,kb];rfl
@[simp] theorem aXU(G:Nat)(x i:Operand):dk ax base (⟨aW,d,none,.mP G x i,bd⟩::bN) z t aR=((mW G (O z x)&&fe (O z i)&&decide (0<=eN (O z i))&&decide (eN (O z i)<lp (O z x)))=true/\(iY z t bd=true/\dk ax base bN (cZ z d (CQ (O z x) G (eN (O z i)))) (t) aR)):=by simp only[dk,eX,if_true,kb];rfl
@[simp] theorem aXV(G len:Nat)(x i:Operand):dk ax base (⟨aW,d,none,.Aa G len x i,bd⟩::bN) z t aR=((rT (O z x)&&fe (O z i)&&decide (0<=eN (O z i))&&decide (eN (O z i)<(len:Int)))=true/\(iY z t bd=true/\dk ax base bN (cZ z d (yT (O z x) ((eN (O z i)).toNat*G))) (t) aR)):=by simp only[dk,eX,if_true,kb];rfl
@[simp] theorem aXR(i:Nat)(x:Operand):dk ax base (⟨aW,d,none,.ext i x,bd⟩::bN) z t aR=(FP (O z x) i=true/\(iY z t bd=true/\dk ax base bN (cZ z d (CY (O z x) i)) (t) aR)):=by simp only[dk,eX,if_true,kb];rfl
@[simp] theorem aXW(x:Operand):dk ax base (⟨aW,d,none,.uS x,bd⟩::bN) z t aR=(Cd (O z x)=true/\(iY z t bd=true/\dk ax base bN (cZ z d (.int .i64 (lp (O z x)))) (t) aR)):=by simp only[dk,eX,if_true,kb];rfl
@[simp] theorem aXF(G bytes:Nat)(x y:Operand):dk ax base (⟨aW,d,none,.app G bytes x y,bd⟩::bN) z t aR=((fw t G (O z x)&&iJ t (O z x)&&kz t G (O z y)&&decide (0<G)&&decide ((fR (O z x)+k4 (O z y))*bytes<=140737488355328)&&decide (fR (O z x)+k4 (O z y)<=9223372036854775807))=true/\(iY z t bd=true/\dk ax base bN (cZ z d (if k4 (O z y)=0 then O z x else .slice (some ⟨base+aW,0,none⟩) (fR (O z x)+k4 (O z y)) G)) (if k4 (O z y)=0 then t else(hC t (O z x)).aO (base+aW) (some ⟨fq t G (O z x)++lb t G (O z y),true⟩)) aR)):=by simp only[dk,eX,if_true,kb];rfl
@[simp] theorem aXN(x:Operand):dk ax base (⟨aW,d,none,.Dt x,bd⟩::bN) z t aR=(Ca (O z x)=true/\(iY z t bd=true/\dk ax base bN (cZ z d (.int .i64 0)) (t) aR)):=by simp only[dk,eX,if_true,kb];rfl
@[simp] theorem aXG(G bytes:Nat)(jf:List Value)(x n:Operand):dk ax base (⟨aW,d,none,.oV G bytes jf x n,bd⟩::bN) z t aR=((Ca (O z x)&&fe (O z n)&&decide (0<eN (O z n))&&decide (eN (O z n)*(bytes:Int)<=140737488355328)&&decide (eN (O z n)<=9223372036854775807)&&decide (0<G))=true/\(iY z t bd=true/\dk ax base bN (cZ z d (.slice (some ⟨base+aW,0,none⟩) (eN (O z n)).toNat G)) (t.aO (base+aW) (some ⟨(List.replicate (eN (O z n)).toNat jf).flatten,true⟩)) aR)):=by simp only[dk,eX,if_true,kb];rfl
@[simp] theorem aXO(jf:List Value)(x:Operand):dk ax base (⟨aW,d,none,.hJ jf x,bd⟩::bN) z t aR=((fw t jf.length (O z x)&&iJ t (O z x)&&decide (0<jf.length))=true/\(iY z t bd=true/\dk ax base bN (cZ z d (undef)) (n1 t jf (O z x)) aR)):=by simp only[dk,eX,if_true,kb];rfl
@[simp] theorem aXY(fK:Bool)(x:Operand)(xs:List Operand):dk ax base (⟨aW,d,none,.yF fK x xs,bd⟩::bN) z t aR=((fe (O z x)&&xs.all λy=>fe (O z y))=true/\(iY z t bd=true/\dk ax base bN (cZ z d (xs.foldl (λdN y=>if fK then pK dN (O z y)else pM dN (O z y)) (O z x))) (t) aR)):=by simp only[dk,eX,if_true,kb];rfl
@[simp] theorem aX0(qj:TypeId)(x:Operand):dk ax base (⟨aW,d,none,.E6 qj x,bd⟩::bN) z t aR=(iY z t bd=true/\dk ax base bN (cZ z d (.iface qj (O z x))) (t) aR):=by simp only[dk,eX,if_true,kb,ah.jq,ah.ok,true_and];rfl
@[simp] theorem aX1:dk ax base (⟨aW,d,none,.qW,bd⟩::bN) z t aR=(iY z t bd=true/\dk ax base bN (cZ z d (.map (some (base+aW)))) (t.hv (base+aW) []) aR):=by simp only[dk,eX,if_true,kb,ah.jq,ah.ok,true_and];rfl
@[simp] theorem aX3(e0:lQ)(zero:Value)(o:Bool)(x k:Operand):dk ax base (⟨aW,d,none,.qX e0 zero o x k,bd⟩::bN) z t aR=(ane e0 t (O z x) (O z k)=true/\(iY z t bd=true/\dk ax base bN (cZ z d (anf zero o t (O z x) (O z k))) (t) aR)):=by simp only[dk,eX,if_true,kb];rfl
@[simp] theorem aX5(e0:lQ)(x k v:Operand):dk ax base (⟨aW,d,none,.o7 e0 x k v,bd⟩::bN) z t aR=(anm e0 t (O z x) (O z k) (O z v)=true/\(iY z t bd=true/\dk ax base bN (cZ z d (undef)) (anl t (O z x) (O z k) (O z v)) aR)):=by simp only[dk,eX,if_true,kb];rfl
@[simp] theorem aXZ(f:Nat)(fs cs:List Operand):dk ax base (⟨aW,d,none,.yG (.func f) fs cs,bd⟩::bN) z t aR=(iY z t bd=true/\dk ax base bN (cZ z d (.func (.func f) (fs.map (O z)).toArray (cs.map (O z)).toArray)) (t) aR):=by simp only[dk,eX,if_true,kb,ah.jq,true_and];rfl
@[simp] theorem aMz{c3:List Value}{k n:Nat}:sg t (fi c3 k) n=decide (k+n<=c3.length):=by simp[sg]
@[simp] theorem aMA{a o n:Nat}:sg t (.pointer (some ⟨a,o,none⟩)) n=(match t.I a with|some x=>decide (o+n<=x.cells.length)|none=>false):=rfl
@[simp] theorem aRv{c3:List Value}{k n:Nat}{dr:Bool}:Ao t dr n (fi c3 k)=if dr then .agg ((c3.drop k).take n).toArray else((c3.drop k).take 1).headD undef:=by simp[Ao]
@[simp] theorem aRw{a o n:Nat}{dr:Bool}:Ao t dr n (.pointer (some ⟨a,o,none⟩))=if dr then .agg (gM t a o n).toArray else(gM t a o 1).headD undef:=rfl
@[simp] theorem aSA{c3:List Value}{k:Nat}:rT (fi c3 k)=true:=rfl
@[simp] theorem aSB{a o:Nat}:rT (.pointer (some ⟨a,o,none⟩))=true:=rfl
@[simp] theorem aSy{c3:List Value}{k n:Nat}:yT (fi c3 k) n=fi c3 (k+n):=by simp[yT]
@[simp] theorem aSz{a o n:Nat}:yT (.pointer (some ⟨a,o,none⟩)) n= .pointer (some ⟨a,o+n,none⟩):=rfl
section
variable {bI:List (List Value)} {G j8 l c n:Nat} {a:Option Addr} {eu:Addr} {s:ByteArray} {i:Int}
@[simp] theorem aQF:Cd (ad bI G)=true:=rfl
@[simp] theorem aQG:Cd (.slice a l c)=true:=rfl
@[simp] theorem aRg:lp (ad bI G)=bI.length:=by simp[lp]
@[simp] theorem aRh:lp (.slice a l c)=l:=rfl
@[simp] theorem aWP:k4 (ad bI G)=bI.length:=by simp[k4]
@[simp] theorem aWQ:k4 (.slice a l c)=l:=rfl
@[simp] theorem aWR:mW j8 (ad bI G)=(G==j8):=by simp[mW]
@[simp] theorem aWT{b o:Nat}:mW G (.slice (some ⟨b,o,none⟩) l c)=(c==G):=by simp[mW,iB]
@[simp] theorem aWS:mW G (.slice none 0 0)=true:=rfl
@[simp] theorem aWW{h:Nat}:u7 (ad bI G) j8 l h=ad ((bI.take h).drop l) j8:=by simp[u7]
@[simp] theorem aWY{b o h:Nat}:u7 (.slice (some ⟨b,o,none⟩) n c) G l h= .slice (some ⟨b,o+l*G,none⟩) (h-l) c:=rfl
@[simp] theorem aWX{h:Nat}:u7 (.slice none n c) G l h= .slice none 0 0:=rfl
@[simp] theorem aWM:CQ (ad bI G) j8 i=fi (bI.getD i.toNat []) 0:=by simp[CQ]
@[simp] theorem aWN{b o:Nat}:CQ (.slice (some ⟨b,o,none⟩) l c) G i= .pointer (some ⟨b,o+i.toNat*G,none⟩):=rfl
@[simp] theorem aW3:kz t j8 (ad bI G)=(G==j8):=by simp[kz]
@[simp] theorem aW5{b o:Nat}:kz t G (.slice (some ⟨b,o,none⟩) l c)=(c==G&&(match t.I b with|some x=>decide (o+l*G<=x.cells.length)|none=>false)):=rfl
@[simp] theorem aW4:kz t G (.slice none 0 0)=true:=rfl
@[simp] theorem aNw:lb t j8 (ad bI G)=bI.flatten:=by simp[lb]
@[simp] theorem aNy{b o:Nat}:lb t G (.slice (some ⟨b,o,none⟩) l c)=gM t b o (l*G):=rfl
@[simp] theorem aNx:lb t G (.slice none l c)=[]:=rfl
end
@[simp] theorem aQP{k:IntKind}{n:Int}:lo (.int k n)=false:=rfl
@[simp] theorem aQM{b:Bool}:lo (.bool b)=false:=rfl
@[simp] theorem aQV{b:ByteArray}:lo (.string b)=false:=rfl
@[simp] theorem aQT{a:Option Addr}:lo (.pointer a)=false:=rfl
@[simp] theorem aQU{a:Option Addr}{l c:Nat}:lo (.slice a l c)=false:=rfl
@[simp] theorem aQQ{a:Option Nat}:lo (.map a)=false:=rfl
@[simp] theorem aQL{a:Array Value}:lo (.agg a)=false:=rfl
@[simp] theorem aQW{a:Array Value}:lo (.tuple a)=false:=rfl
@[simp] theorem aQX:lo undef=false:=rfl
@[simp] theorem aQN{f:Nat}{a b:Array Value}:lo (.func (.func f) a b)=false:=rfl
@[simp] theorem aQR:lo .nilFunc=false:=rfl
@[simp] theorem aQS:lo .nilIface=false:=rfl
@[simp] theorem aQO{t:TypeId}{v:Value}:lo (.iface t v)=false:=rfl
@[simp] theorem aMK{k:IntKind}{n:Int}:nZ (.int k n)=true:=rfl
@[simp] theorem aMI{b:Bool}:nZ (.bool b)=true:=rfl
@[simp] theorem aMO{b:ByteArray}:nZ (.string b)=true:=rfl
@[simp] theorem aMN{a:Option Addr}:nZ (.pointer a)=true:=rfl
@[simp] theorem aML{l c:Nat}:nZ (.slice none l c)=true:=rfl
@[simp] theorem aMJ{f:Nat}{a b:Array Value}:nZ (.func (.func f) a b)=true:=rfl
@[simp] theorem aMM:nZ .nilFunc=true:=rfl
@[simp high] theorem aYk{bI:List (List Value)}{G:Nat}:an (ad bI G)=[ad bI G]:=rfl
@[simp high] theorem aYj{c3:List Value}{G:Nat}:an (fi c3 G)=[fi c3 G]:=rfl
@[simp high] theorem aRT{bI:List (List Value)}{G:Nat}:au (ad bI G)=true:=rfl
@[simp high] theorem aRS{c3:List Value}{G:Nat}:au (fi c3 G)=true:=rfl
@[simp high] theorem aSd{bI:List (List Value)}{G:Nat}:aq (ad bI G)=true:=rfl
@[simp high] theorem aN4{bI:List (List Value)}{G:Nat}:ei (ad bI G)=false:=rfl
@[simp high] theorem aN3{c3:List Value}{G:Nat}:ei (fi c3 G)=false:=rfl
@[simp high] theorem aQE{c3:List Value}{G:Nat}:Cb (fi c3 G)=true:=rfl
@[simp high] theorem aMR{bI:List (List Value)}{G:Nat}:ak (ad bI G)=none:=rfl
@[simp high] theorem aMQ{c3:List Value}{G:Nat}:ak (fi c3 G)=none:=rfl
@[simp] theorem aNG:iY z t []=true:=rfl
@[simp] theorem aNF{x y:Operand}:iY z t ((x,y)::bd)=(OI t (O z x) (O z y)&&iY z t bd):=rfl
section
variable {k:IntKind} {n:Int} {b:Bool} {s:ByteArray} {a:Option Addr} {l c f:Nat} {xs ys:Array Value} {v:Value} {qj:TypeId} {mp:Option Nat}
@[simp] theorem aYp:an (.int k n)=[.int k n]:=rfl
@[simp] theorem aRY:au (.int k n)=true:=rfl
@[simp] theorem aSi:aq (.int k n)=true:=rfl
@[simp] theorem aYm:an (.bool b)=[.bool b]:=rfl
@[simp] theorem aRV:au (.bool b)=true:=rfl
@[simp] theorem aSf:aq (.bool b)=true:=rfl
@[simp] theorem aYv:an (.string s)=[.string s]:=rfl
@[simp] theorem aR4:au (.string s)=true:=rfl
@[simp] theorem aSo:aq (.string s)=true:=rfl
@[simp] theorem aYt:an (.pointer a)=[.pointer a]:=rfl
@[simp] theorem aR2:au (.pointer a)=true:=rfl
@[simp] theorem aSm:aq (.pointer a)=true:=rfl
@[simp] theorem aYu:an (.slice a l c)=[.slice a l c]:=rfl
@[simp] theorem aR3:au (.slice a l c)=true:=rfl
@[simp] theorem aSn:aq (.slice a l c)=true:=rfl
@[simp] theorem aYq:an (.map mp)=[.map mp]:=rfl
@[simp] theorem aRZ:au (.map mp)=true:=rfl
@[simp] theorem aSj:aq (.map mp)=true:=rfl
@[simp] theorem aYn:an (.func (.func f) xs ys)=[.func (.func f) xs ys]:=rfl
@[simp] theorem aRW:au (.func (.func f) xs ys)=true:=rfl
@[simp] theorem aSg:aq (.func (.func f) xs ys)=true:=rfl
@[simp] theorem aYr:an (.nilFunc)=[.nilFunc]:=rfl
@[simp] theorem aR0:au (.nilFunc)=true:=rfl
@[simp] theorem aSk:aq (.nilFunc)=true:=rfl
@[simp] theorem aYs:an (.nilIface)=[.nilIface]:=rfl
@[simp] theorem aR1:au (.nilIface)=true:=rfl
@[simp] theorem aSl:aq (.nilIface)=true:=rfl
@[simp] theorem aYo:an (.iface qj v)=[.iface qj v]:=rfl
@[simp] theorem aRX:au (.iface qj v)=true:=rfl
@[simp] theorem aSh:aq (.iface qj v)=true:=rfl
@[simp] theorem aYl:an (.agg xs)=xs.toList:=rfl
@[simp] theorem aRU:au (.agg xs)=true:=rfl
@[simp] theorem aSe:aq (.agg xs)=false:=rfl
@[simp] theorem aR5:au (.tuple xs)=false:=rfl
@[simp] theorem aMW:ak (.int k n)=none:=rfl
@[simp] theorem aMT:ak (.bool b)=none:=rfl
@[simp] theorem aM5:ak (.string s)=none:=rfl
@[simp] theorem aMU:ak (.func (.func f) xs ys)=none:=rfl
@[simp] theorem aMY:ak (.nilFunc)=none:=rfl
@[simp] theorem aMZ:ak (.nilIface)=none:=rfl
@[simp] theorem aMV:ak (.iface qj v)=none:=rfl
@[simp] theorem aMS:ak (.agg xs)=none:=rfl
@[simp] theorem aM6:ak (.tuple xs)=none:=rfl
@[simp] theorem aM3{eu:Addr}:ak (.pointer (some eu))=some eu.block:=rfl
@[simp] theorem aM2:ak (.pointer none)=none:=rfl
@[simp] theorem aM4{eu:Addr}:ak (.slice (some eu) l c)=some eu.block:=rfl
@[simp] theorem aM0:ak (.slice none l c)=none:=rfl
@[simp] theorem aMX:ak (.map (some l))=some l:=rfl
@[simp] theorem aM1:ak (.map none)=none:=rfl
end
@[simp] theorem aNi{f:Nat}{args:List Value}{L:List Nat}{aR:Value->H->Prop}:wG ax f args t L aR=if GH ax.p f=true then yU ax.p f args t aR else Bh ax f args t L aR:=by simp only[wG]
@[simp] theorem aNh{f:Nat}{args:List Value}{aR:Value->H->Prop}:Bh ax f args t [] aR=if BB ax.i f=true then wh ax.i f args t aR else fc P f args t aR:=propext lv
@[simp] theorem aNg{f o:Nat}{l:List Nat}{args:List Value}{aR:Value->H->Prop}:Bh ax f args t (o::l) aR=((o::l).all (Tl t)=true/\if BB ax.i f=true then wh ax.i f args (lY t (o::l)) (λr bj=>aR r (l7 t bj (o::l)))else fc P f args (lY t (o::l)) λr bj=>aR r (l7 t bj (o::l))):=propext lv
@[simp] theorem aSu:nh z t []=[]:=rfl
@[simp] theorem aSt{x:Operand×Operand}:nh z t (x::bd)=(match ak (O z x.1)with|some o=>if Cv t o=true then o::nh z t bd else nh z t bd|none=>nh z t bd):=rfl
@[simp] theorem aSa{o:Nat}:Tl t o=(match t.I o with|some x=> !x.cells.isEmpty|none=>false):=rfl
theorem afI{o b:Nat}(h:b≠o):(lY t [o]).I b=t.I b:=JG (by simpa using h)
theorem amC{o b:Nat}{x:Option eM}(h:b≠o):l7 t ((lY t [o]).aO b x) [o]=t.aO b x:=by
 unfold l7 lY H.aO;simp only[H.mk.injEq,and_true,true_and,rg];funext i;by_cases e:i=o
 ·subst e;rw[if_pos rfl,if_neg (λq=>h q.symm)]
 ·rw[if_neg e];by_cases aJ:i=b
  ·rw[if_pos aJ,if_pos aJ]
  ·rw[if_neg aJ,if_neg aJ,if_neg e]
@[simp] theorem aOM{f:Nat}:BB ([]:List (jg P)) f=false:=rfl
@[simp] theorem aOL{s:jg P}{f:Nat}:BB (s::qg) f=(s.f==f||BB qg f):=rfl
def adw(o:Option (Value×H))(aR:Value->H->Prop):Prop:=match o with
 |some (r,t)=>aR r t
 |none=>False
@[simp] theorem aYh{r:Value}{aR:Value->H->Prop}:adw (some (r,t)) aR=aR r t:=propext lv
@[simp] theorem aXg{s:jg P}{f:Nat}{args:List Value}{aR:Value->H->Prop}:wh (s::qg) f args t aR=if s.f=f then adw (s.fn args t) aR else wh qg f args t aR:=propext lv
@[simp] theorem aOO{f:Nat}:GH ([]:List (bx P)) f=false:=rfl
@[simp] theorem aON{s:bx P}{f:Nat}:GH (s::CS) f=(s.f==f||GH CS f):=rfl
def aqk(o:Option Value)(bA:Value->Prop):Prop:=match o with
 |some r=>bA r
 |none=>False
@[simp] theorem aYi{r:Value}{bA:Value->Prop}:aqk (some r) bA=bA r:=propext lv
@[simp] theorem aXi{s:bx P}{f:Nat}{args:List Value}{bA:Value->Prop}:xH (s::CS) f args bA=if s.f=f then aqk (s.fn args) bA else xH CS f args bA:=propext lv
def Ig(args:List Value)(t:H)(aR:Value->H->Prop)(r:Value):Prop:=aR r (if m4 r=true then hJ t (args.flatMap (et 9 t))else tS t (args.flatMap (et 9 t)))
@[simp low] theorem aSE{args:List Value}{aR:Value->H->Prop}{r:Value}:Ig args t aR r=aR r (if m4 r=true then hJ t (args.flatMap (et 9 t))else tS t (args.flatMap (et 9 t))):=propext lv
@[simp] theorem aSD{args:List Value}{aR:Value->H->Prop}{b:Bool}:Ig args t aR (.bool b)=aR (.bool b) (hJ t (args.flatMap (et 9 t))):=propext lv
@[simp] theorem aSF{args:List Value}{aR:Value->H->Prop}{k:IntKind}{n:Int}:Ig args t aR (.int k n)=aR (.int k n) (hJ t (args.flatMap (et 9 t))):=propext lv
@[simp] theorem aSG{args:List Value}{aR:Value->H->Prop}{s:ByteArray}:Ig args t aR (.string s)=aR (.string s) (hJ t (args.flatMap (et 9 t))):=propext lv
@[simp] theorem aSC{args:List Value}{aR:Value->H->Prop}{bI:List (List Value)}{G:Nat}:Ig args t aR (ad bI G)=aR (ad bI G) (tS t (args.flatMap (et 9 t))):=propext lv
def apH(o:Option (List Value))(ax:List (bx P))(f:Nat)(bA:Value->Prop):Prop:=match o with
 |some ts=>xH ax f ts bA
 |none=>False
@[simp] theorem aXh{ts:List Value}{f:Nat}{bA:Value->Prop}:apH (some ts) CS f bA=xH CS f ts bA:=propext lv
@[simp] theorem aSH{f:Nat}{args:List Value}{aR:Value->H->Prop}:yU CS f args t aR=apH (DM 9 t args) CS f (Ig args t aR):=propext lv
open Classical in
noncomputable def bx.cK(f:Nat)(ao:Type)(cD:ao->Prop)(enc:ao->List Value)(j6:ao->Value)(ok: ∀x,cD x->bP P f (enc x) (j6 x)):bx P:=
 ⟨f,λargs=>if h: ∃x,cD x/\enc x=args then some (j6 h.choose)else none,λargs r h=>by
  split at h
  ·next B=>cases h;have:=ok _ B.choose_spec.1;rw[B.choose_spec.2]at this;exact this
  ·cases h⟩
theorem bx.dx{f:Nat}{ao:Type}{cD:ao->Prop}{enc:ao->List Value}{j6:ao->Value}{ok: ∀x,cD x->bP P f (enc x) (j6 x)}{x:ao}(Z:cD x)(W: ∀y,enc y=enc x->y=x):(bx.cK f ao cD enc j6 ok).fn (enc x)=some (j6 x):=by have g2: ∃y,cD y/\enc y=enc x:=⟨x,Z,rfl⟩;simp only[bx.cK,dif_pos g2];rw[W _ g2.choose_spec.2]
@[simp] theorem bx.aSb{f:Nat}{ao:Type}{cD:ao->Prop}{enc:ao->List Value}{j6:ao->Value}{ok: ∀x,cD x->bP P f (enc x) (j6 x)}:(bx.cK f ao cD enc j6 ok).f=f:=rfl
@[simp] theorem aOu{n:Nat}{args:List Value}:DM n t args=fD (dt n t) args:=rfl
@[simp] theorem aSr{dF pr:Type}{f:dF->Option pr}:fD f []=some []:=rfl
@[simp] theorem anY{dF pr:Type}{f:dF->Option pr}{x:dF}{xs:List dF}:fD f (x::xs)=match f x with
  | some y=>(match fD f xs with
    |some ys=>some (y::ys)
    |none=>none)
  |none=>none:=rfl
theorem DL{n:Nat}{v:Value}(h:hB v=true):dt n t v=some v:=by cases n<;>simp[dt,h]
theorem Cz{n:Nat}{v:Value}(h:hB v=true):et n t v=[]:=by cases n<;>simp[et,h]
@[simp] theorem auu{n:Nat}{k:IntKind}{x:Int}:dt n t (.int k x)=some (.int k x):=DL rfl
@[simp] theorem aES{n:Nat}{k:IntKind}{x:Int}:et n t (.int k x)=[]:=Cz rfl
@[simp] theorem aNp{k:IntKind}{x:Int}:hB (.int k x)=true:=rfl
@[simp] theorem aOf{n:Nat}{b:Bool}:dt n t (.bool b)=some (.bool b):=DL rfl
@[simp] theorem aSX{n:Nat}{b:Bool}:et n t (.bool b)=[]:=Cz rfl
@[simp] theorem aNo{b:Bool}:hB (.bool b)=true:=rfl
@[simp] theorem aOn{n:Nat}{s:ByteArray}:dt n t (.string s)=some (.string s):=DL rfl
@[simp] theorem aS5{n:Nat}{s:ByteArray}:et n t (.string s)=[]:=Cz rfl
@[simp] theorem aNv{s:ByteArray}:hB (.string s)=true:=rfl
@[simp] theorem aOm{n:Nat}:dt n t (.slice none 0 0)=some (.slice none 0 0):=DL rfl
@[simp] theorem aS4{n:Nat}:et n t (.slice none 0 0)=[]:=Cz rfl
@[simp] theorem aNs:hB (.slice none 0 0)=true:=rfl
@[simp] theorem aNu:hB (.pointer none)=true:=rfl
@[simp] theorem aNq:hB (.nilFunc)=true:=rfl
@[simp] theorem aNr:hB (.nilIface)=true:=rfl
@[simp] theorem aNt:hB (.map none)=true:=rfl
@[simp] theorem aN8{n:Nat}{bI:List (List Value)}{G:Nat}:dt n t (ad bI G)=some (ad bI G):=DL rfl
@[simp] theorem aSQ{n:Nat}{bI:List (List Value)}{G:Nat}:et n t (ad bI G)=[]:=Cz rfl
@[simp] theorem aNn{bI:List (List Value)}{G:Nat}:hB (ad bI G)=true:=rfl
@[simp] theorem aNm{c3:List Value}{G:Nat}:hB (fi c3 G)=true:=rfl
theorem JW{n b o l G:Nat}:dt (n+1) t (.slice (some ⟨b,o,none⟩) l G)=match t.I b with
 | some x=>if o+l*G<=x.cells.length then(match fD (fD (dt n t)) (ld G l (x.cells.drop o))with
   |some bI=>some (ad bI G)
   |none=>none)else none
 |none=>none:=by
 simp only[dt,hB,ei,lo,Bool.or_false,je,if_false,Option.isNone_none,C9,ey]<;>
 rfl
@[simp] theorem aOe{cs:Array Value}:dt 9 t (.agg cs)=match fD (dt 8 t) cs.toList with
  |some l=>some (.agg l.toArray)
  |none=>none:=rfl
@[simp] theorem aOt{cs:Array Value}:dt 9 t (.tuple cs)=match fD (dt 8 t) cs.toList with
  |some l=>some (.tuple l.toArray)
  |none=>none:=rfl
@[simp] theorem aOl{f:Nat}{xs cs:Array Value}:dt 9 t (.func (.func f) xs cs)=match fD (dt 8 t) xs.toList,fD (dt 8 t) cs.toList with
  |some l,some k=>some (.func (.func f) l.toArray k.toArray)
  |_,_=>none:=rfl
theorem Br{b o l G:Nat}:dt 9 t (.slice (some ⟨b,o,none⟩) l G)=match t.I b with
 | some x=>if o+l*G<=x.cells.length then(match fD (fD (dt 8 t)) (ld G l (x.cells.drop o))with
   |some bI=>some (ad bI G)
   |none=>none)else none
 |none=>none:=JW
@[simp] theorem aSW{cs:Array Value}:et 9 t (.agg cs)=cs.toList.flatMap (et 8 t):=rfl
@[simp] theorem aTb{cs:Array Value}:et 9 t (.tuple cs)=cs.toList.flatMap (et 8 t):=rfl
@[simp] theorem aS3{f:Nat}{xs cs:Array Value}:et 9 t (.func (.func f) xs cs)=xs.toList.flatMap (et 8 t)++cs.toList.flatMap (et 8 t):=rfl
theorem yX{b o l G:Nat}:et 9 t (.slice (some ⟨b,o,none⟩) l G)=b::(match t.I b with
 |some x=>x.cells.flatMap (et 8 t)
 |none=>[]):=rfl
@[simp] theorem aOd{cs:Array Value}:dt 8 t (.agg cs)=match fD (dt 7 t) cs.toList with
  |some l=>some (.agg l.toArray)
  |none=>none:=rfl
@[simp] theorem aOs{cs:Array Value}:dt 8 t (.tuple cs)=match fD (dt 7 t) cs.toList with
  |some l=>some (.tuple l.toArray)
  |none=>none:=rfl
@[simp] theorem aOk{f:Nat}{xs cs:Array Value}:dt 8 t (.func (.func f) xs cs)=match fD (dt 7 t) xs.toList,fD (dt 7 t) cs.toList with
  |some l,some k=>some (.func (.func f) l.toArray k.toArray)
  |_,_=>none:=rfl
theorem auy{b o l G:Nat}:dt 8 t (.slice (some ⟨b,o,none⟩) l G)=match t.I b with
 | some x=>if o+l*G<=x.cells.length then(match fD (fD (dt 7 t)) (ld G l (x.cells.drop o))with
   |some bI=>some (ad bI G)
   |none=>none)else none
 |none=>none:=JW
@[simp] theorem aSV{cs:Array Value}:et 8 t (.agg cs)=cs.toList.flatMap (et 7 t):=rfl
@[simp] theorem aTa{cs:Array Value}:et 8 t (.tuple cs)=cs.toList.flatMap (et 7 t):=rfl
@[simp] theorem aS2{f:Nat}{xs cs:Array Value}:et 8 t (.func (.func f) xs cs)=xs.toList.flatMap (et 7 t)++cs.toList.flatMap (et 7 t):=rfl
theorem aoC{b o l G:Nat}:et 8 t (.slice (some ⟨b,o,none⟩) l G)=b::(match t.I b with
 |some x=>x.cells.flatMap (et 7 t)
 |none=>[]):=rfl
@[simp] theorem aOc{cs:Array Value}:dt 7 t (.agg cs)=match fD (dt 6 t) cs.toList with
  |some l=>some (.agg l.toArray)
  |none=>none:=rfl
@[simp] theorem aOr{cs:Array Value}:dt 7 t (.tuple cs)=match fD (dt 6 t) cs.toList with
  |some l=>some (.tuple l.toArray)
  |none=>none:=rfl
@[simp] theorem aOj{f:Nat}{xs cs:Array Value}:dt 7 t (.func (.func f) xs cs)=match fD (dt 6 t) xs.toList,fD (dt 6 t) cs.toList with
  |some l,some k=>some (.func (.func f) l.toArray k.toArray)
  |_,_=>none:=rfl
@[simp] theorem aSU{cs:Array Value}:et 7 t (.agg cs)=cs.toList.flatMap (et 6 t):=rfl
@[simp] theorem aS9{cs:Array Value}:et 7 t (.tuple cs)=cs.toList.flatMap (et 6 t):=rfl
@[simp] theorem aS1{f:Nat}{xs cs:Array Value}:et 7 t (.func (.func f) xs cs)=xs.toList.flatMap (et 6 t)++cs.toList.flatMap (et 6 t):=rfl
@[simp] theorem aOb{cs:Array Value}:dt 6 t (.agg cs)=match fD (dt 5 t) cs.toList with
  |some l=>some (.agg l.toArray)
  |none=>none:=rfl
@[simp] theorem aOq{cs:Array Value}:dt 6 t (.tuple cs)=match fD (dt 5 t) cs.toList with
  |some l=>some (.tuple l.toArray)
  |none=>none:=rfl
@[simp] theorem aOi{f:Nat}{xs cs:Array Value}:dt 6 t (.func (.func f) xs cs)=match fD (dt 5 t) xs.toList,fD (dt 5 t) cs.toList with
  |some l,some k=>some (.func (.func f) l.toArray k.toArray)
  |_,_=>none:=rfl
@[simp] theorem aST{cs:Array Value}:et 6 t (.agg cs)=cs.toList.flatMap (et 5 t):=rfl
@[simp] theorem aS8{cs:Array Value}:et 6 t (.tuple cs)=cs.toList.flatMap (et 5 t):=rfl
@[simp] theorem aS0{f:Nat}{xs cs:Array Value}:et 6 t (.func (.func f) xs cs)=xs.toList.flatMap (et 5 t)++cs.toList.flatMap (et 5 t):=rfl
@[simp] theorem aOa{cs:Array Value}:dt 5 t (.agg cs)=match fD (dt 4 t) cs.toList with
  |some l=>some (.agg l.toArray)
  |none=>none:=rfl
@[simp] theorem aOp{cs:Array Value}:dt 5 t (.tuple cs)=match fD (dt 4 t) cs.toList with
  |some l=>some (.tuple l.toArray)
  |none=>none:=rfl
@[simp] theorem aOh{f:Nat}{xs cs:Array Value}:dt 5 t (.func (.func f) xs cs)=match fD (dt 4 t) xs.toList,fD (dt 4 t) cs.toList with
  |some l,some k=>some (.func (.func f) l.toArray k.toArray)
  |_,_=>none:=rfl
@[simp] theorem aSS{cs:Array Value}:et 5 t (.agg cs)=cs.toList.flatMap (et 4 t):=rfl
@[simp] theorem aS7{cs:Array Value}:et 5 t (.tuple cs)=cs.toList.flatMap (et 4 t):=rfl
@[simp] theorem aSZ{f:Nat}{xs cs:Array Value}:et 5 t (.func (.func f) xs cs)=xs.toList.flatMap (et 4 t)++cs.toList.flatMap (et 4 t):=rfl
@[simp] theorem aN9{cs:Array Value}:dt 4 t (.agg cs)=match fD (dt 3 t) cs.toList with
  |some l=>some (.agg l.toArray)
  |none=>none:=rfl
@[simp] theorem aOo{cs:Array Value}:dt 4 t (.tuple cs)=match fD (dt 3 t) cs.toList with
  |some l=>some (.tuple l.toArray)
  |none=>none:=rfl
@[simp] theorem aOg{f:Nat}{xs cs:Array Value}:dt 4 t (.func (.func f) xs cs)=match fD (dt 3 t) xs.toList,fD (dt 3 t) cs.toList with
  |some l,some k=>some (.func (.func f) l.toArray k.toArray)
  |_,_=>none:=rfl
@[simp] theorem aSR{cs:Array Value}:et 4 t (.agg cs)=cs.toList.flatMap (et 3 t):=rfl
@[simp] theorem aS6{cs:Array Value}:et 4 t (.tuple cs)=cs.toList.flatMap (et 3 t):=rfl
@[simp] theorem aSY{f:Nat}{xs cs:Array Value}:et 4 t (.func (.func f) xs cs)=xs.toList.flatMap (et 3 t)++cs.toList.flatMap (et 3 t):=rfl
@[simp] theorem aNz{G:Nat}{cs:List Value}:ld G 0 cs=[]:=rfl
@[simp] theorem aNA{G:Nat}{cs:List Value}:ld G 1 cs=[cs.take G]:=rfl
@[simp] theorem aNB{G:Nat}{cs:List Value}:ld G 2 cs=[cs.take G,(cs.drop G).take G]:=rfl
@[simp] theorem aNC{G:Nat}{cs:List Value}:ld G 3 cs=[cs.take G,(cs.drop G).take G,((cs.drop G).drop G).take G]:=rfl
@[simp] theorem aND{G:Nat}{cs:List Value}:ld G 4 cs=[cs.take G,(cs.drop G).take G,((cs.drop G).drop G).take G,(((cs.drop G).drop G).drop G).take G]:=rfl
@[simp] theorem aNE{G:Nat}{cs:List Value}:ld G 5 cs=[cs.take G,(cs.drop G).take G,((cs.drop G).drop G).take G,(((cs.drop G).drop G).drop G).take G,((((cs.drop G).drop G).drop G).drop G).take G]:=rfl
@[simp] theorem aRG:fJ.next=0:=rfl
@[simp] theorem aRF{o:Nat}:fJ.I o=none:=aav o
theorem vu{bI:List (List Value)}{n o l G:Nat}{w:Bool}(aH:t.I o=some ⟨bI.flatten,w⟩)(az:l=bI.length)(al: ∀r∈bI,r.length=G/\ ∀v∈r,hB v=true):dt (n+1) t (.slice (some ⟨o,0,none⟩) l G)=some (ad bI G):=by subst az;have bw: ∀r∈bI,r.length=G:= λr h=>(al r h).1;have D:fD (fD (dt n t)) bI=some bI:=MY λr h=>MY λv M=>DL ((al r h).2 v M);have ai:(bI.flatten).length=bI.length*G:=wO bw;simp[dt,hB,ei,lo,aH,O3 bw,D,ai]
theorem TA{cs:List Value}{n:Nat}(al: ∀v∈cs,hB v=true):cs.flatMap (et n t)=[]:=by rw[List.flatMap_eq_nil_iff];exact λv M=>Cz (al v M)
end
@[simp] theorem aTn{d a0:List Value}{l:List (List Value)}:(a0::l)[0]?.getD d=a0:=rfl
@[simp] theorem aTo{d a0 bt:List Value}{l:List (List Value)}:(a0::bt::l)[1]?.getD d=bt:=rfl
@[simp] theorem aTp{d a0 bt bR:List Value}{l:List (List Value)}:(a0::bt::bR::l)[2]?.getD d=bR:=rfl
attribute [simp] OI Js Cv JZ JY vw VU oW
open Go Go.RowKit
def x4(m:H):fU:= λb=>(m.I b).map (·.cells)
section
variable {P:Program} {u:fU} {m U:H}
theorem agm(m:H):sc (x4 m) m:= λb cs h=>by
 simp only[x4]at h;cases aH:m.I b with
 |none=>rw[aH]at h;cases h
 |some x=>rw[aH]at h;cases h;exact⟨x.own,rfl⟩
theorem VS{b:Nat}{cs:List Value}{w:Bool}(h:m.I b=some ⟨cs,w⟩):x4 m b=some cs:=by simp[x4,h]
theorem agn(h:sc u m):gS u (x4 m):= λb cs hb=>by obtain⟨w,aS⟩:=h b cs hb;exact VS aS
abbrev Ot(m:H)(v bX:Value):Prop:=cm (x4 m) kS v bX
abbrev I9(m:H)(vs y7:List Value):Prop:=bL (x4 m) kS vs y7
theorem aHQ{f:Nat}{ts:List Value}{r:Value}(h: ∀m bu,I9 m ts bu->ep P f bu m λdZ U=>(m.next<=U.next/\ ∀b,b<m.next->U.I b=m.I b)/\Ot U r dZ):bP P f ts r:= λu m bu dh aa=>by refine(h m bu (aa.bD (agn dh) (fE.refl _))).bD λdZ U bT=> ?_;obtain⟨⟨A,D⟩,ai⟩:=bT;exact⟨A,D,x4 U,λb cs hb=>by obtain⟨w,aS⟩:=dh b cs hb;exact VS (by rw[D b (aM aS)];exact aS),agm U,ai⟩
theorem bP.below{f:Nat}{ts bu:List Value}{r:Value}(h:bP P f ts r)(aa:I9 m ts bu):ep P f bu m λdZ U=>(m.next<=U.next/\ ∀b,b<m.next->U.I b=m.I b)/\Ot U r dZ:=by refine(h (x4 m) m bu (agm m) aa).bD λdZ U bT=> ?_;obtain⟨A,D,cy,ai,aT,bF⟩:=bT;exact⟨⟨A,D⟩,bF.bD (agn aT) (fE.refl _)⟩
theorem bL.mv{J:eU}{x:Value}{ys:List Value}(h:bL u J [x] ys): ∃y,ys=[y]/\cm u J x y:=by
 match ys,h with
 |[y],h=>exact⟨y,rfl,h.2 0 x y rfl rfl⟩
 |[],h=>simp[bL]at h
 |_::_::_,h=>simp[bL]at h
theorem bL.aHT{J:eU}{x y:Value}{jf:List Value}(h:bL u J [x,y] jf): ∃a b,jf=[a,b]/\cm u J x a/\cm u J y b:=by
 match jf,h with
 |[a,b],h=>exact⟨a,b,rfl,h.2 0 x a rfl rfl,h.2 1 y b rfl rfl⟩
 |[],h=>simp[bL]at h
 |[_],h=>simp[bL]at h
 |_::_::_::_,h=>simp[bL]at h
theorem bL.aHH{J:eU}{x y G:Value}{jf:List Value}(h:bL u J [x,y,G] jf): ∃a b c,jf=[a,b,c]/\cm u J x a/\cm u J y b/\cm u J G c:=by
 match jf,h with
 |[a,b,c],h=>exact⟨a,b,c,rfl,h.2 0 x a rfl rfl,h.2 1 y b rfl rfl,h.2 2 G c rfl rfl⟩
 |[],h=>simp[bL]at h
 |[_],h=>simp[bL]at h
 |[_,_],h=>simp[bL]at h
 |_::_::_::_::_,h=>simp[bL]at h
def vp:(s:fZ)->s.bU->List Value
 | .int k,n=>[.int k n]
 | .bool,b=>[.bool b]
 | .str,s=>[.string s]
 | .slice e,l=>[ad ((pw l).map (vp e)) e.cells]
 | .unit,_=>[]
 | .od a b,d=>vp a d.1++vp b d.2
theorem Pk: ∀(s:fZ) (d:s.bU),(vp s d).length=s.cells
 | .int _,_=>rfl
 | .bool,_=>rfl
 | .str,_=>rfl
 | .slice _,_=>rfl
 | .unit,_=>rfl
 | .od a b,d=>by simp[vp,Pk a,Pk b,fZ.cells]
theorem OG: ∀{s:fZ} {cs:List Value} {d:s.bU},sZ m s cs d->I9 m (vp s d) cs
 | .int k,cs,d,h=>by rw[h.1];exact bL.cons (.c7 rfl) bL.nil
 | .bool,cs,d,h=>by have:cs=[.bool d]:=h;rw[this];exact bL.cons (.c7 rfl) bL.nil
 | .str,cs,d,h=>by rw[h.1];exact bL.cons (.c7 rfl) bL.nil
 | .unit,cs,d,h=>by have:cs=[]:=h;rw[this];exact bL.nil
 | .od a b,cs,d,h=>by obtain⟨b6,cR,rfl,A,D⟩:=h;exact(OG A).pV (OG D)
 | .slice e,cs,l,h=>by
   simp only[vp];rcases h with⟨rfl,h⟩|⟨b,bI,rfl,D,ai,aT,bF⟩
   ·rw[h];exact bL.cons (.jH rfl) bL.nil
   ·refine bL.cons ?_ bL.nil;have bw: ∀r∈bI,r.length=e.cells:= λr al=>by
     obtain⟨i,W,rfl⟩:=lN al;exact(bF i _ _ (c1 W) (c1 (by omega))).len
    have dJ:bI.flatten.length=bI.length*e.cells:=wO bw;have:=cm.jG (u:=x4 m) (J:=kS) (v:=ad ((pw l).map (vp e)) e.cells) (b:=b) (off:=0) (G:=e.cells) (cs:=bI.flatten) (bI:=(pw l).map (vp e)) rfl (VS D) (by rw[dJ,aT,k8];omega) (λi r al=> ?_) λi j r x y al B Y=> ?_
    ·simpa using this
    ·rw[rh,ve]at al;obtain⟨x,_,rfl⟩:=al;exact Pk e x
    ·rw[rh,ve]at al;obtain⟨pq,g3,rfl⟩:=al;have W:=(cG.1 g3).1;have hK:i<bI.length:=(by rw[aT];exact W);have qP:=bF i _ _ (c1 hK) g3;refine(OG qP).2 j x y B ?_;have aX:=(cG.1 B).1;rw[Pk]at aX;have bo:=VQ bw (c1 hK);rw[<-bo,rf,if_pos aX,zd,<-Y,zh]
def Bc(s:fZ)(d:s.bU):Value:=if s.isAgg then .agg (vp s d).toArray else(vp s d).headD undef
theorem arX{s:fZ}{v:Value}{d:s.bU}(h:UK m s v d):Ot m (Bc s d) v:=by
 obtain⟨cs,A,rfl⟩:=h;have:=OG A;unfold Bc;split
 ·exact this.agg
 ·exact this.headD
inductive I8:List fZ->List Value->Prop
 |nil:I8 [] []
 |cons {s:fZ} {d:s.bU} {mX:List fZ} {vs:List Value} (ok:Fg s d) (F:I8 mX vs):I8 (s::mX) (Bc s d::vs)
theorem arW{mX:List fZ}{dp:List Value}(h:xQ m mX dp): ∃ts,I8 mX ts/\I9 m ts dp:=by
 induction h with
 |nil=>exact⟨[],.nil,bL.nil⟩
 | cons h F cf=>obtain⟨ts,A,D⟩:=cf;obtain⟨cs,ai,aT⟩:=h;exact⟨_,.cons ai.ok A,bL.cons (arX ⟨cs,ai,aT⟩) D⟩
theorem aai{f:Nat}{mX:List fZ}(h: ∀ts,I8 mX ts->bP P f ts (.bool true))(m:H)(dp:List Value)(aa:xQ m mX dp):ep P f dp m λr _=>r= .bool true:=by obtain⟨ts,A,D⟩:=arW aa;exact((h ts A).below D).bD λr U bT=>bT.2.tD
end
section
variable {P:Program} {ax:mG P} {t bj:H} {z bQ:aC} {c:aw} {Q:cM->aC->H->Prop}
theorem aqH(aH: ∀J u K m,eb J u t m->hp u J z K->eb J u bj m/\hp u J bQ K/\eQ t.next m.next J u t m J u bj m)(h:ec P c bQ bj Q):ec P c z t Q:= λav J u K m F b2=>by obtain⟨aE,a2,cj⟩:=aH J u K m F b2;refine(h av J u K m aE a2).bD λe aU bn bT=> ?_;obtain⟨cV,ea,c6,eC,A,D,ai,aT⟩:=bT;exact⟨cV,ea,c6,eC,A,D,ai,cj.trans (aT.wj cj.k5 (c8 _))⟩
theorem aqs{J:eU}{u:fU}{m:H}(F:eb J u t m){o j G:Nat}{cs:List Value}(aB:t.I o=some ⟨cs,true⟩)(aX:cs[j]?=some (.slice none 0 0)):
 eb J u (((t.b0 1).aO t.next (some ⟨[],true⟩)).aO o (some ⟨cs.set j (.slice (some ⟨t.next,0,none⟩) 0 G),true⟩)) m/\eQ t.next m.next J u t m J u (((t.b0 1).aO t.next (some ⟨[],true⟩)).aO o (some ⟨cs.set j (.slice (some ⟨t.next,0,none⟩) 0 G),true⟩)) m:=by
 refine⟨?_,?_⟩
 ·have ck:J t.next=none:=by
   cases aQ:J t.next with
   |none=>rfl
   |some b=>have:=(F.cQ _ _ aQ).1;omega
  have dm:=aM aB;have bG:o≠t.next:=by omega
  refine⟨λp x B=> ?_,λp es aQ=> ?_,F.jo,F.inj,λp b h=>⟨by have:=(F.cQ p b h).1;simp only[eJ,fp];omega,(F.cQ p b h).2⟩,λb ds hb=> ?_⟩
  ·by_cases Z:p=o
   ·subst Z;rw[cx (by simp;omega)]at B;cases B;rcases F.iU p _ aB with⟨b,ds,w,A,D,ai,aT⟩|⟨A,D⟩
    ·refine .inl ⟨b,ds,w,A,D,ai,?_⟩;obtain⟨y,Y,M⟩:=aT.I aX;have:=aT.set j (y:=y) (x:= .slice (some ⟨t.next,0,none⟩) 0 G) (by rw[M.hL rfl];exact .rZ);rw[show ds.set j y=ds from by
      apply ze;intro i;rw[AX];split
      ·next e=>subst e;rw[Y];simp;exact(cG.1 Y).1
      ·rfl]at this
     exact this
    ·simp only at D;subst D;simp at aX
   ·rw[a7 Z]at B;by_cases bo:p=t.next
    ·subst bo;rw[cx (by simp)]at B;cases B;exact .inr ⟨ck,rfl⟩
    ·rw[a7 bo,H.cJ]at B;exact F.iU p x B
  ·by_cases Z:p=o
   ·subst Z;obtain⟨aD,aJ⟩:=jb aQ;rw[cx (by simp;omega)]at aD;have:cs=[]:=(by simpa using aD);subst this;simp at aX
   ·obtain⟨aD,aJ⟩:=jb aQ;rw[a7 Z]at aD;by_cases bo:p=t.next
    ·subst bo;have ai:t.mp t.next=some es:=aJ
     rw[F.jo _ ck]at ai;cases ai
    ·rw[a7 bo,H.cJ]at aD;exact F.maps p es (kB aD aJ)
  ·obtain⟨A,D⟩:=F.bZ b ds hb;refine⟨A,λp x PG B=> ?_⟩;by_cases Z:p=o
   ·subst Z;have:=D p _ PG aB;cases this
   ·rw[a7 Z]at B;have bo:p≠t.next:= λe=>by subst e;rw[ck]at PG;cases PG
    rw[a7 bo,H.cJ]at B;exact D p x PG B
 ·have ck:J t.next=none:=by
   cases aQ:J t.next with
   |none=>rfl
   |some b=>have:=(F.cQ _ _ aQ).1;omega
  refine⟨fE.refl _,gS.refl _,λ_ _ h=> .inl h,λ_ _ h=> .inl h,by simp,c8 _,λ_ _ _=>rfl,λb hb=> λ⟨p,x,aD,aJ,cg⟩=> ?_,λb hb=> λ⟨p,x,aD,aJ⟩=> ?_⟩
  ·by_cases Z:p=o
   ·subst Z;exact⟨p,_,aD,aB,rfl⟩
   ·rw[a7 Z]at aJ;have bo:p≠t.next:= λe=>by subst e;rw[ck]at aD;cases aD
    rw[a7 bo,H.cJ]at aJ;exact⟨p,x,aD,aJ,cg⟩
  ·by_cases Z:p=o
   ·subst Z;exact⟨p,_,aD,aB⟩
   ·rw[a7 Z]at aJ;have bo:p≠t.next:= λe=>by subst e;rw[ck]at aD;cases aD
    rw[a7 bo,H.cJ]at aJ;exact⟨p,x,aD,aJ⟩
theorem FY{o j G:Nat}{cs:List Value}(aB:t.I o=some ⟨cs,true⟩)(aX:cs[j]?=some (.slice none 0 0))
 (h:ec P c z (((t.b0 1).aO t.next (some ⟨[],true⟩)).aO o (some ⟨cs.set j (.slice (some ⟨t.next,0,none⟩) 0 G),true⟩)) Q):ec P c z t Q:=
 aqH (λJ u K m F b2=>⟨(aqs F aB aX).1,b2,(aqs F aB aX).2⟩) h
theorem aHn{l:List (bx P)}{f:Nat}{ts:List Value}{bA uc:Value->Prop}(h:xH l f ts bA)(S: ∀r,bA r->uc r):xH l f ts uc:=by
 induction l with
 |nil=>exact h
 | cons s ax cf=>
   simp only[xH]at h⊢;split at h
   ·next e=>
    rw[if_pos e];cases a5:s.fn ts with
    |none=>rw[a5]at h;exact h
    |some r=>rw[a5]at h;exact S _ h
   ·next e=>rw[if_neg e];exact cf h
theorem apF{l:List (jg P)}{f:Nat}{ts:List Value}{t:H}{aR uf:Value->H->Prop}(h:wh l f ts t aR)(S: ∀r t,aR r t->uf r t):wh l f ts t uf:=by
 induction l with
 |nil=>exact h
 | cons s ax cf=>
   simp only[wh]at h⊢;split at h
   ·next e=>
    rw[if_pos e];cases a5:s.fn ts t with
    |none=>rw[a5]at h;exact h
    |some r=>rw[a5]at h;exact S _ _ h
   ·next e=>rw[if_neg e];exact cf h
theorem aff{f:Nat}{args:List Value}{L:List Nat}{aR uf:Value->H->Prop}(h:wG ax f args t L aR)(S: ∀r t,aR r t->uf r t):wG ax f args t L uf:=by
 unfold wG at h⊢;split at h
 ·next F=>
  rw[if_pos F];unfold yU at h⊢;split at h
  ·next ts bw=>exact aHn h λr h=>S _ _ h
  ·exact h
 ·next F=>
  rw[if_neg F];cases L with
  | nil=>
    simp only[Bh]at h⊢;split at h
    ·next e=>rw[if_pos e];exact apF h S
    ·next e=>rw[if_neg e];exact h.bD S
  | cons o l=>
    simp only[Bh]at h⊢;refine⟨h.1,?_⟩;have D:=h.2;split at D
    ·next e=>rw[if_pos e];exact apF D λr t bT=>S _ _ bT
    ·next e=>rw[if_neg e];exact D.bD λr t bT=>S _ _ bT
theorem Je{base:Nat}: ∀{ops:List cO} {z:aC} {t:H} {aR uf:aC->H->Prop},dk ax base ops z t aR->(∀z t,aR z t->uf z t)->dk ax base ops z t uf
 |[],_,_,_,_,h,S=>S _ _ h
 | o::ops,z,t,aR,uf,h,S=>by
   simp only[dk]at h⊢;split at h
   ·next aS=>
    rw[if_pos aS];obtain⟨aW,d,g,k,bd⟩:=o;cases k with
    |lA f bu=>exact aff h λr t h=>Je h S
    | m2 x bu=>
      simp only[kb,JA]at h⊢;split at h
      ·exact aff h λr t h=>Je h S
      ·exact h
    |mq=>exact h
    |_=>exact⟨h.1,h.2.1,Je h.2.2 S⟩
   ·next aS=>rw[if_neg aS];exact Je h S
theorem Dj: ∀{c:aw} {z:aC} {t:H} {Q A8:cM->aC->H->Prop},ix ax c z t Q->(∀e z t,Q e z t->A8 e z t)->ix ax c z t A8
 | .skip,_,_,_,_,h,bo=>bo _ _ _ h
 | .cH _,_,_,_,_,h,bo=>bo _ _ _ h
 | .e3,_,_,_,_,h,bo=>bo _ _ _ h
 | .kl _,_,_,_,_,h,bo=>Je h λz t h=>bo _ _ _ h
 | .uQ _ _ _,_,_,_,_,h,_=>h.elim
 | .ky a b,_,_,_,_,h,bo=>Dj (c:=a) h λe z t h=>by
   cases e with
   |eB=>exact Dj (c:=b) h bo
   |cH id=>exact bo _ _ _ h
   |e3=>exact bo _ _ _ h
 | .nx c a b,_,_,_,_,h,bo=>by
   refine⟨h.1,?_⟩;have D:=h.2;split at D
   ·next e=>rw[if_pos e];exact Dj (c:=a) D bo
   ·next e=>rw[if_neg e];exact Dj (c:=b) D bo
 | .block id c,_,_,_,_,h,bo=>Dj (c:=c) h λe z t h=>by
   cases e with
   |eB=>exact bo _ _ _ h
   |e3=>exact bo _ _ _ h
   | cH ki=>
     simp only at h⊢;split at h
     ·next e=>rw[if_pos e];exact bo _ _ _ h
     ·next e=>rw[if_neg e];exact bo _ _ _ h
 | .loop _,_,_,_,_,h,bo=>h.bD bo
theorem gR(E:Nat->aC->H->Prop)(n:Nat)(step: ∀i z t,i<n->E i z t-> ∀bM:aC->H->Prop,(∀K af,E (i+1) K af->bM K af)->ix ax c z t (rM bM Q))
 (My: ∀z t,E n z t->ix ax c z t (rM (λ_ _=>False) Q)): ∀(i:Nat) (z:aC) (t:H),i<=n->E i z t->ec P (.loop c) z t Q:=by
 have key: ∀(r i:Nat) (z:aC) (t:H),i+r=n->E i z t->ec P (.loop c) z t Q:=by
  intro r;induction r with
  | zero=>
    intro i z t W jc;have e:i=n:=(by omega);subst e;refine eF (ax:=ax) λbM a1=> ?_;have A:=My z t jc;refine Dj A λe z t h=> ?_;cases e with
    |eB=>exact h.elim
    |cH id=>exact h
    |e3=>exact h
  | succ r cf=>intro i z t W jc;exact eF (ax:=ax) λbM a1=>step i z t (by omega) jc bM λK af h=>a1 _ _ (cf (i+1) K af (by omega) h)
 exact λi z t W jc=>key (n-i) i z t (by omega) jc
end
section
variable {P:Program} {t:H}
open Classical in
theorem auo{J:eU}{u:fU}{t m:H}(F:eb J u t m){o p j G:Nat}{bI:List (List Value)}{cells:List Value}(aB:t.I o=some ⟨bI.flatten,true⟩)(al: ∀r∈bI,r.length=G/\ ∀v∈r,hB v=true)
 (Z:t.I p=some ⟨cells,true⟩) (aX:cells[j]?=some (.slice (some ⟨o,0,none⟩) bI.length G)) (bG:o≠p):
 ∃cy,gS u cy/\(∀b cs,cy b=some cs->u b=some cs\/J o=some b)/\eb J cy ((t.aO o none).aO p (some ⟨cells.set j (ad bI G),true⟩)) m:=by
 have lE:=aM aB;have avZ:=aM Z;have bw: ∀r∈bI,r.length=G:= λr h=>(al r h).1;refine⟨λb=>match u b with
  |some cs=>some cs
  |none=>if J o=some b then(m.I b).map (·.cells)else none,λb cs hb=>by simp only[hb],λb cs hb=> ?_,?_⟩
 ·simp only at hb;cases dh:u b with
  |some ds=>rw[dh]at hb;exact .inl hb
  | none=>
    rw[dh]at hb;simp only at hb;split at hb
    ·next h=>exact .inr h
    ·cases hb
 ·obtain⟨cy,n5⟩: ∃cy:fU,cy= λb=>match u b with
   |some cs=>some cs
   |none=>if J o=some b then(m.I b).map (·.cells)else none:=⟨_,rfl⟩
  rw[<-n5];have eV:gS u cy:= λb cs hb=>by rw[n5];simp only[hb]
  have z1: ∀b cs w,J o=some b->m.I b=some ⟨cs,w⟩->cy b=some cs:= λb cs w ck aH=>by
   rw[n5];simp only;cases mm:u b with
   |some ds=>obtain⟨⟨w',kE⟩,_⟩:=F.bZ b ds mm;rw[aH]at kE;cases kE;rfl
   |none=>simp only;rw[if_pos ck,aH];rfl
  have iy:((t.aO o none).aO p (some ⟨cells.set j (ad bI G),true⟩)).I p=some ⟨cells.set j (ad bI G),true⟩:=cx (by simpa using avZ);have bq:((t.aO o none).aO p (some ⟨cells.set j (ad bI G),true⟩)).I o=none:=(by rw[a7 bG,cx lE]);have jE: ∀q,q≠p->q≠o->((t.aO o none).aO p (some ⟨cells.set j (ad bI G),true⟩)).I q=t.I q:= λq A D=>by rw[a7 A,a7 D]
  refine⟨λq x B=> ?_,λq es aQ=> ?_,F.jo,F.inj,F.cQ,λb ds hb=> ?_⟩
  ·by_cases A:q=p
   ·subst A;rw[iy]at B;cases B;rcases F.iU q _ Z with⟨b,ds,w,aE,a2,cj,dy⟩|⟨aE,a2⟩
    ·refine .inl ⟨b,ds,w,aE,a2,cj,?_⟩;obtain⟨y,Y,M⟩:=dy.I aX;have tx:cm cy J (ad bI G) y:=by
      rcases M.l6 with⟨c,aD,_,rfl⟩|⟨_,_,cg,rfl⟩
      ·obtain⟨cs,w',bK,_,dV⟩:=F.m1 aD aB;have dJ:(bI.flatten).length=bI.length*G:=wO bw;refine .jG (off:=0) rfl (z1 c cs w' aD bK) (by rw[<-dV.1];simp only;omega) (λi r W=>bw r (fr W)) λi uN r bf y W a9 Y=> ?_;have qP:=VQ bw W;have zW:=(cG.1 a9).1;rw[bw r (fr W)]at zW;have bF:(bI.flatten)[i*G+uN]?=some bf:=by
        rw[<-qP,rf,if_pos zW,zd]at a9;exact a9
       have cW:=dV.2 (i*G+uN) bf y bF (by rw[<-Y];congr 1;omega);exact JD eV cW ((al r (fr W)).2 bf (fr a9))
      ·have:bI=[]:=pU cg;subst this;exact .jH rfl
     have dU:=(dy.bD eV (fE.refl _)).set j tx;rw[show ds.set j y=ds from by
      apply ze;intro i;rw[AX];split
      ·next e=>subst e;rw[Y];simp;exact(cG.1 Y).1
      ·rfl]at dU
     exact dU
    ·simp only at a2;subst a2;simp at aX
   ·by_cases D:q=o
    ·subst D;rw[bq]at B;cases B
    ·rw[jE q A D]at B;rcases F.iU q x B with⟨b,ds,w,aE,a2,cj,dy⟩|aE
     ·exact .inl ⟨b,ds,w,aE,a2,cj,dy.bD eV (fE.refl _)⟩
     ·exact .inr aE
  ·obtain⟨aD,aJ⟩:=jb aQ;by_cases A:q=p
   ·subst A;rw[iy]at aD;have:cells=[]:=(by simpa using aD);subst this;simp at aX
   ·by_cases D:q=o
    ·subst D;rw[bq]at aD;cases aD
    ·rw[jE q A D]at aD;obtain⟨b,db,bK,cz,dV⟩:=F.maps q es (kB aD aJ);exact⟨b,db,bK,cz,dV.bD eV (fE.refl _)⟩
  ·have zR:u b=some ds\/(J o=some b/\ ∃w,m.I b=some ⟨ds,w⟩):=by
    rw[n5]at hb;simp only at hb;cases mm:u b with
    |some x=>rw[mm]at hb;simp only at hb;exact .inl hb
    | none=>
      rw[mm]at hb;simp only at hb;split at hb
      ·next h=>
       cases aH:m.I b with
       |none=>rw[aH]at hb;cases hb
       |some x=>rw[aH]at hb;cases hb;exact .inr ⟨h,x.own,rfl⟩
      ·cases hb
   rcases zR with h|⟨h,w,cn⟩
   ·obtain⟨A,D⟩:=F.bZ b ds h;refine⟨A,λq x ck B=> ?_⟩;by_cases aD:q=p
    ·subst aD;have:=D q _ ck Z;cases this
    ·by_cases aJ:q=o
     ·subst aJ;rw[bq]at B;cases B
     ·rw[jE q aD aJ]at B;exact D q x ck B
   ·refine⟨⟨w,cn⟩,λq x ck B=> ?_⟩;have:q=o:=F.inj q o b ck h;subst this;rw[bq]at B;cases B
end
section
variable {P:Program} {t bj:H} {l:List Nat}
def pt(r dZ:Value):Prop:= ∀(u:fU) (J:eU) (v:Value),cm u J r v->cm u J dZ v
theorem pt.refl(r:Value):pt r r:= λ_ _ _ h=>h
theorem pt.nil{G:Nat}:pt (.slice none 0 0) (ad [] G):= λu J v h=>by rw[h.hL rfl];exact .jH rfl
def ug:List Value->List Value->Prop
 |[],[]=>True
 |x::xs,y::ys=>pt x y/\ug xs ys
 |_,_=>False
theorem ug.len: ∀{xs ys:List Value},ug xs ys->xs.length=ys.length
 |[],[],_=>rfl
 |x::xs,y::ys,h=>by simp[ug.len h.2]
 |[],_::_,h=>h.elim
 |_::_,[],h=>h.elim
theorem ug.I: ∀{xs ys:List Value},ug xs ys-> ∀(i:Nat) (x y:Value),xs[i]?=some x->ys[i]?=some y->pt x y
 |[],[],_,i,x,y,A,_=>by simp at A
 |x::xs,y::ys,h,0,a,b,A,D=>by simp at A D;subst A;subst D;exact h.1
 |x::xs,y::ys,h,i+1,a,b,A,D=>ug.I h.2 i a b (by simpa using A) (by simpa using D)
 |[],_::_,h,_,_,_,_,_=>h.elim
 |_::_,[],h,_,_,_,_,_=>h.elim
theorem ug.kR{xs ys jf:List Value}(h:ug xs ys){u:fU}{J:eU}(az:bL u J xs jf):bL u J ys jf:=by refine⟨by rw[<-h.len];exact az.1,λi y G Y bw=> ?_⟩;have W:=(cG.1 Y).1;have B:xs[i]?=some (xs[i]'(by rw[h.len];exact W)):=c1 _;exact h.I i _ y B Y u J G (az.2 i _ G B bw)
theorem pt.agg{xs ys:List Value}(h:ug xs ys):pt (.agg xs.toArray) (.agg ys.toArray):= λu J v M=>by obtain⟨jf,rfl,az⟩:=M.uI;have:=(h.kR (by simpa using az)).agg;simpa using this
theorem pt.tuple{xs ys:List Value}(h:ug xs ys):pt (.tuple xs.toArray) (.tuple ys.toArray):= λu J v M=>by obtain⟨jf,rfl,az⟩:=M.Er;have:=(h.kR (by simpa using az)).tuple;simpa using this
theorem bP.tX{f:Nat}{args:List Value}{r dZ:Value}(h:bP P f args r)(aS:pt r dZ):bP P f args dZ:= λu m bu dh aa=>(h u m bu dh aa).bD λx U bT=>by obtain⟨A,D,cy,ai,aT,bF⟩:=bT;exact⟨A,D,cy,ai,aT,aS cy _ _ bF⟩
end
end Go.DI
