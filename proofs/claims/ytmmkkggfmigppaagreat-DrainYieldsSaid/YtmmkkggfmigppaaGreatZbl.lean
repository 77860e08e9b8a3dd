/-
  A part of the proof, shortened by tools of ours.
-/
import Derived.Test.YtmmkkggfmigppaaGreatZbk
set_option linter.all false
set_option maxRecDepth 8000
set_option maxHeartbeats 16000000
namespace Go.DI
open Go Go.RowKit
theorem OW{a b:Nat}(h:a≠b):Nat.beq a b=false:=by
 cases hb:Nat.beq a b with
 |false=>rfl
 |true=>exact absurd (Nat.eq_of_beq_eq_true hb) h
inductive gn(dP:Type) where
 |nil
 |hC (v:Option dP) (l r:gn dP)
section
variable {dP:Type}
def gn.F:gn dP->Nat->Option dP
 | .nil,_=>none
 | .hC v l r,k=>bif Nat.beq k 0 then v else bif Nat.beq (k%2) 1 then l.F (k/2)else r.F (k/2-1)
def gn.set:Nat->gn dP->Nat->Option dP->gn dP
 |0,t,_,_=>t
 |n+1,.nil,k,x=>bif Nat.beq k 0 then .hC x .nil .nil else bif Nat.beq (k%2) 1 then .hC none (gn.set n .nil (k/2) x) .nil else .hC none .nil (gn.set n .nil (k/2-1) x)
 |n+1,.hC v l r,k,x=>bif Nat.beq k 0 then .hC x l r else bif Nat.beq (k%2) 1 then .hC v (gn.set n l (k/2) x) r else .hC v l (gn.set n r (k/2-1) x)
@[simp] theorem gn.aP3(k:Nat):(gn.nil:gn dP).F k=none:=rfl
theorem gn.Ej{v:Option dP}{l r:gn dP}{k:Nat}:(gn.hC v l r).F k=if k=0 then v else if k%2=1 then l.F (k/2)else r.F (k/2-1):=by
 show(bif Nat.beq k 0 then _ else _)=_;by_cases h:k=0
 ·simp[h]
 ·have A:Nat.beq k 0=false:=OW h;rw[A,if_neg h];show(bif Nat.beq (k%2) 1 then _ else _)=_;by_cases E:k%2=1
  ·simp[E]
  ·have ao:Nat.beq (k%2) 1=false:=OW E;rw[ao,if_neg E];rfl
theorem gn.xp: ∀{n:Nat} {t:gn dP} {k:Nat} {x:Option dP} {j:Nat},k+1<2^n->(gn.set n t k x).F j=if j=k then x else t.F j
 |0,t,k,x,j,h=>by simp at h
 | n+1,t,k,x,j,h=>by
   have ae:2^(n+1)=2*2^n:=(by rw[Nat.pow_succ];omega);have bw: ∀(v:Option dP) (l r:gn dP),(if k=0 then gn.hC x l r else if k%2=1 then .hC v (gn.set n l (k/2) x) r else .hC v l (gn.set n r (k/2-1) x)).F j=if j=k then x else(gn.hC v l r).F j:= λv l r=>by
    by_cases bX:k=0
    ·subst bX;rw[if_pos rfl,gn.Ej,gn.Ej];by_cases aV:j=0
     ·simp[aV]
     ·simp[aV]
    ·rw[if_neg bX];by_cases A:k%2=1
     ·rw[if_pos A,gn.Ej,gn.Ej];by_cases aV:j=0
      ·have:j≠k:=(by omega);simp[aV];omega
      ·rw[if_neg aV,if_neg aV];by_cases pT:j%2=1
       ·rw[if_pos pT,if_pos pT,gn.xp (by omega)];by_cases e:j=k
        ·rw[if_pos e,if_pos (by omega)]
        ·rw[if_neg e,if_neg (by omega)]
       ·rw[if_neg pT,if_neg pT,if_neg (by omega)]
     ·rw[if_neg A,gn.Ej,gn.Ej];by_cases aV:j=0
      ·simp[aV];omega
      ·rw[if_neg aV,if_neg aV];by_cases pT:j%2=1
       ·rw[if_pos pT,if_pos pT,if_neg (by omega)]
       ·rw[if_neg pT,if_neg pT,gn.xp (by omega)];by_cases e:j=k
        ·rw[if_pos e,if_pos (by omega)]
        ·rw[if_neg e,if_neg (by omega)]
   have agJ: ∀{pI:Type} (a b c:pI),(bif Nat.beq k 0 then a else bif Nat.beq (k%2) 1 then b else c)=if k=0 then a else if k%2=1 then b else c:= λa b c=>by
    by_cases bX:k=0
    ·simp[bX]
    ·have A:Nat.beq k 0=false:=OW bX;rw[A,if_neg bX];show(bif Nat.beq (k%2) 1 then _ else _)=_;by_cases E:k%2=1
     ·simp[E]
     ·have ao:Nat.beq (k%2) 1=false:=OW E;rw[ao,if_neg E];rfl
   cases t with
   | nil=>
     show(bif Nat.beq k 0 then gn.hC x .nil .nil else bif Nat.beq (k%2) 1 then .hC none (gn.set n .nil (k/2) x) .nil else .hC none .nil (gn.set n .nil (k/2-1) x)).F j=_;rw[agJ,bw none .nil .nil];by_cases e:j=k
     ·rw[if_pos e,if_pos e]
     ·rw[if_neg e,if_neg e,gn.Ej];simp
   | hC v l r=>show(bif Nat.beq k 0 then gn.hC x l r else bif Nat.beq (k%2) 1 then .hC v (gn.set n l (k/2) x) r else .hC v l (gn.set n r (k/2-1) x)).F j=_;rw[agJ,bw v l r]
end
abbrev j2:=gn Value
def mN(dt:j2):aD:= λk=>match dt.F k with|some v=>v|none=>undef
def Fv(k:Nat):Bool:=Nat.blt k 2000000
theorem CO{k:Nat}(h:Fv k=true):k+1<2^21:=by
 have:k<2000000:=by simpa[Fv,Nat.blt_eq]using h
 omega
def AZ(dt:j2)(d:Option Nat)(v:Value):Option j2:=match d with
 |none=>some dt
 |some k=>if Fv k then some (gn.set 21 dt k (some v))else none
theorem adW{dt mS:j2}{d:Option Nat}{v:Value}(h:AZ dt d v=some mS):mN mS=c0 (mN dt) d v:=by
 unfold AZ at h;cases d with
 |none=>cases h;rfl
 | some k=>
   simp only at h;split at h
   ·next O=>
    cases h;funext j;show(match(gn.set 21 dt k (some v)).F j with|some v=>v|none=>undef)=k3 (mN dt) k v j;rw[gn.xp (CO O)];unfold k3;by_cases e:j=k
    ·rw[if_pos e,if_pos e]
    ·rw[if_neg e,if_neg e];rfl
   ·cases h
def ER:List Value->Nat->j2->j2
 |[],_,dt=>dt
 |v::l,k,dt=>ER l (k+1) (gn.set 21 dt k (some v))
theorem ajj: ∀{l:List Value} {k:Nat} {dt:j2} {j:Nat},k+l.length<1000000->(ER l k dt).F j=if k<=j/\j<k+l.length then l[j-k]? else dt.F j
 | [],k,dt,j,h=>by rw[if_neg λE=>by simp at E;omega];rfl
 | v::l,k,dt,j,h=>by
   simp only[m8]at h;show(ER l (k+1) (gn.set 21 dt k (some v))).F j=_;rw[ajj (by omega),gn.xp (by omega)];by_cases e:j=k
   ·subst e;rw[if_neg (by omega),if_pos rfl,if_pos ⟨c8 _,by simp⟩];simp
   ·by_cases E:k+1<=j/\j<k+1+l.length
    ·rw[if_pos E,if_pos (by simp;omega)];have:j-k=(j-(k+1))+1:=(by omega);rw[this,Jn]
    ·rw[if_neg E,if_neg e,if_neg (by simp;omega)]
theorem aIn{args:List Value}(h:args.length<1000000):mN (ER args 0 .nil)=ij args:=by
 funext j;show(match(ER args 0 .nil).F j with|some v=>v|none=>undef)=args.getD j undef;rw[ajj (by omega)];by_cases E:j<args.length
 ·rw[if_pos ⟨gd _,by omega⟩];simp[c6 E]
 ·rw[if_neg (by omega)];simp[qD (by omega:args.length<=j)]
structure fj where
 next:Nat
 hc:gn en
 mp:gn (List (Value×Value))
def cX(W:fj):G:=⟨W.next,λb=>W.hc.F b,λb=>W.mp.F b⟩
def JB:fj:=⟨0,.nil,.nil⟩
def gA(W:fj):Prop:= ∀i,W.next<=i->W.hc.F i=none
theorem aoz:cX JB=fE:=rfl
theorem arU:gA JB:= λ_ _=>rfl
def GP(W:fj)(k:Nat):fj:=⟨W.next+k,W.hc,W.mp⟩
theorem aoA{W:fj}(h:gA W){k:Nat}:cX (GP W k)=(cX W).bU k:=by
 unfold cX GP G.bU;simp only[G.mk.injEq,and_true,true_and];funext i;by_cases Y:i<W.next
 ·rw[if_pos Y]
 ·rw[if_neg Y];exact h i (by omega)
theorem arV{W:fj}(h:gA W){k:Nat}:gA (GP W k):= λi Y=>h i (by simp[GP]at Y;omega)
def qw(W:fj)(b:Nat)(x:Option en):Option fj:=if Fv b&&Nat.blt b W.next then some ⟨W.next,gn.set 21 W.hc b x,W.mp⟩else none
theorem C3{W cJ:fj}{b:Nat}{x:Option en}(aQ:gA W)(h:qw W b x=some cJ):gA cJ/\cX cJ=(cX W).aK b x:=by
 unfold qw at h;split at h
 ·next O=>
  cases h;simp only[a7,Nat.blt_eq]at O;refine⟨λi Y=> ?_,?_⟩
  ·show(gn.set 21 W.hc b x).F i=none;rw[gn.xp (CO O.1),if_neg (by simp at Y;omega)];exact aQ i Y
  ·unfold cX G.aK;simp only[G.mk.injEq,and_true,true_and];funext i;rw[gn.xp (CO O.1)]
 ·cases h
def TK(W:fj)(b:Nat)(es:List (Value×Value)):Option fj:=if Fv b&&Nat.blt b W.next then some ⟨W.next,gn.set 21 W.hc b (some ⟨[],true⟩),gn.set 21 W.mp b (some es)⟩else none
theorem apK{W cJ:fj}{b:Nat}{es:List (Value×Value)}(aQ:gA W)(h:TK W b es=some cJ):gA cJ/\cX cJ=(cX W).hL b es:=by
 unfold TK at h;split at h
 ·next O=>
  cases h;simp only[a7,Nat.blt_eq]at O;refine⟨λi Y=> ?_,?_⟩
  ·show(gn.set 21 W.hc b (some ⟨[],true⟩)).F i=none;rw[gn.xp (CO O.1),if_neg (by simp at Y;omega)];exact aQ i Y
  ·unfold cX G.hL;simp only[G.mk.injEq,true_and];refine⟨?_,?_⟩
   ·funext i;rw[gn.xp (CO O.1)]
   ·funext i;rw[gn.xp (CO O.1)]
 ·cases h
def FF(k:an)(id:Nat)(z:aD)(W:fj):Option fj:=
 match k with
 | .nD I=>qw W id (some ⟨I,true⟩)
 | .oK x=>qw W id (some ⟨ab (S z x),true⟩)
 | .mv _ _ I ps=>qw W id (some ⟨ns I z ps,true⟩)
 | .store _ x v=>(match S z x with
   | .pointer (some a)=>(match W.hc.F a.block with|some y=>qw W a.block (some ⟨gV y.cells a.off (ab (S z v)),y.own⟩)|none=>none)
   |_=>none)
 | .qb x=>qw W id (some ⟨IA (w8 (S z x)),true⟩)
 | .ov _ _ zero l _=>qw W id (some ⟨(List.replicate (eZ (S z l)).toNat zero).flatten,true⟩)
 | .o8 _ _ zero _ l=>qw W id (some ⟨(List.replicate (eZ (S z l)).toNat zero).flatten,true⟩)
 | .hW zero x=>(match S z x with
   | .slice none _ _=>some W
   | .slice (some a) l _=>(match W.hc.F a.block with|some y=>qw W a.block (some ⟨gV y.cells a.off (List.replicate l zero).flatten,y.own⟩)|none=>none)
   |_=>none)
 | .app I _ x y=>if lj (S z y)=0 then some W else(match S z x with
   | .slice (some a) l _=>(match qw W a.block none with
     |some dh=>qw dh id (some ⟨fy (cX W) I (S z x)++lp (cX W) I (S z y),true⟩)
     |none=>none)
   | .slice none _ _=>qw W id (some ⟨lp (cX W) I (S z y),true⟩)
   |_=>none)
 | .re=>TK W id []
 | .po _ x k v=>TK W (y9 (S z x)) (lg (S z k) (S z v) (((cX W).fC (y9 (S z x))).getD []))
 |_=>some W
theorem aoB{W:fj}{b:Nat}{x:en}(aQ:gA W)(h:W.hc.F b=some x):(cX W).F b=some x:=by
 have:b<W.next:=Nat.lt_of_not_le λe=>by rw[aQ b e]at h;cases h
 show(if b<W.next then W.hc.F b else none)=_;rw[if_pos this,h]
theorem aom{k:an}{id:Nat}{z:aD}{W cJ:fj}(aQ:gA W)(h:FF k id z W=some cJ):gA cJ/\cX cJ=k.pn id z (cX W):=by
 have key: ∀{b:Nat} {x:Option en},qw W b x=some cJ->gA cJ/\cX cJ=(cX W).aK b x:= λh=>C3 aQ h;cases k with
 |nD I=>exact key h
 |oK x=>exact key h
 |mv a b I ps=>exact key h
 | store n x v=>
   simp only[FF]at h;show gA cJ/\cX cJ=pD (cX W) (S z x) (ab (S z v));split at h
   ·next a B=>
    split at h
    ·next y Z=>obtain⟨A,E⟩:=key h;refine⟨A,?_⟩;rw[E];unfold pD;rw[B];simp only[aoB aQ Z]
    ·cases h
   ·cases h
 |qb x=>exact key h
 |ov a b c d e=>exact key h
 |o8 a b c d e=>exact key h
 | hW zero x=>
   simp only[FF]at h;show gA cJ/\cX cJ=oe (cX W) zero (S z x);split at h
   ·next l c B=>cases h;rw[B];exact⟨aQ,rfl⟩
   ·next a l c B=>
    split at h
    ·next y Z=>obtain⟨A,E⟩:=key h;refine⟨A,?_⟩;rw[E];unfold oe;rw[B];simp only[aoB aQ Z]
    ·cases h
   ·cases h
 | app I fZ x y=>
   simp only[FF]at h;show gA cJ/\cX cJ=if lj (S z y)=0 then cX W else(hR (cX W) (S z x)).aK id (some ⟨fy (cX W) I (S z x)++lp (cX W) I (S z y),true⟩)
   split at h
   ·next bX=>cases h;rw[if_pos bX];exact⟨aQ,rfl⟩
   ·next bX=>
    rw[if_neg bX];split at h
    ·next a l c B=>
     split at h
     ·next dh A=>obtain⟨cr,aG⟩:=C3 aQ A;obtain⟨ea,aN⟩:=C3 cr h;refine⟨ea,?_⟩;rw[aN,aG,B];rfl
     ·cases h
    ·next l c B=>obtain⟨ea,aN⟩:=C3 aQ h;refine⟨ea,?_⟩;rw[aN,B];rfl
    ·cases h
 |re=>exact apK aQ h
 |po a x k v=>exact apK aQ h
 |_=>cases h;exact⟨aQ,rfl⟩
abbrev n7:=Nat->List Value->fj->Option (Value×fj)
def sy(W:fj):List Nat->Option fj
 |[]=>some W
 | o::l=>match qw W o none with
   |some dh=>sy dh l
   |none=>none
def S8(W dh:fj):List Nat->Option fj
 |[]=>some dh
 | o::l=>match qw dh o (W.hc.F o)with
   |some fS=>S8 W fS l
   |none=>none
def I0(W:fj):List Nat->Option fj
 |[]=>some W
 | o::l=>match W.hc.F o with
   | some x=>(match qw W o (some ⟨x.cells,false⟩)with
     |some dh=>I0 dh l
     |none=>none)
   |none=>I0 W l
def D3(W:fj):List Nat->Option fj
 |[]=>some W
 | o::l=>match W.mp.F o with
   |some _=>if Fv o then D3 ⟨W.next,W.hc,gn.set 21 W.mp o none⟩ l else none
   |none=>D3 W l
def FP(b5:n7)(f:Nat)(args:List Value)(W:fj):Option (Value×fj):=match Ef 9 (cX W) args with
 | some ts=>(match b5 f ts JB with
   | some (v,dh)=>(match dx 9 (cX dh) v with
     | some r=>if nf r then(match D3 W (args.flatMap (eC 9 (cX W)))with
      |some fS=>some (r,fS)
      |none=>none)
       else(match I0 W (args.flatMap (eC 9 (cX W)))with
        |some fS=>some (r,fS)
        |none=>none)
     |none=>none)
   |none=>none)
 |none=>none
def xc(b5:n7)(f:Nat)(args:List Value)(W:fj):List Nat->Option (Value×fj)
 |[]=>b5 f args W
 | L =>if L.all (λo=>match W.hc.F o with|some x=> !x.cells.isEmpty|none=>false)then
  (match sy W L with
  | some zS=>(match b5 f args zS with
    | some (r,dh)=>(match S8 W dh L with
      |some fS=>some (r,fS)
      |none=>none)
    |none=>FP b5 f args W)
  |none=>none)
   else FP b5 f args W
def FO(b5:n7)(base:Nat)(o:cS)(dt:j2)(W:fj):Option (j2×fj):=
 let z:=mN dt
 let j5 (x:Option (Value×fj)):Option (j2×fj):=match x with
  | some (r,cJ)=>(match AZ dt o.d r with
    |some mS=>some (mS,cJ)
    |none=>none)
  |none=>none
 match o.k with
 | .l2 f bz=>j5 (xc b5 f (bz.map (S z)) W (nr z (cX W) o.bc))
 | .nc x bz=>(match S z x with
   | .func (.func f) first ks=>j5 (xc b5 f (first.toList++bz.map (S z)++ks.toList) W (nr z (cX W) o.bc))
   |_=>none)
 | .mE bJ x bz=>(match S z x with
   | .iface t v=>(match bJ.find? (λr=>r.1==t)with
     |some (_,f,none)=>j5 (xc b5 f (v::bz.map (S z)) W (nr z (cX W) o.bc))
     |some (_,f,some (dE,n))=>if sv (cX W) v n&&(dE||decide (n=1))then j5 (xc b5 f (AP (cX W) dE n v::bz.map (S z)) W (nr z (cX W) o.bc))else none
     |none=>none)
   |_=>none)
 | k=>if k.js z (cX W)&&iZ z (cX W) o.bc then(match FF k (base+o.aY) z W with
   |some cJ=>j5 (some (k.jY (base+o.aY) z (cX W),cJ))
   |none=>none)else none
def zj(b5:n7)(base:Nat):List cS->j2->fj->Option (j2×fj)
 |[],dt,W=>some (dt,W)
 | o ::bK,dt,W=>if e9 (mN dt) o.g then(match FO b5 base o dt W with
  |some (mS,cJ)=>zj b5 base bK mS cJ
  |none=>none)
   else(match AZ dt o.d undef with
    |some mS=>zj b5 base bK mS W
    |none=>none)
def IK(ops:List cS)(W:fj):fj:=if ops.any (λo=>o.k.fD)then GP W ops.length else W
def S6(f:j2->fj->Option (cO×j2×fj)):Nat->j2->fj->Option (cO×j2×fj)
 |0,_,_=>none
 | n+1,dt,W=>match f dt W with
   |some (.eR,mS,cJ)=>S6 f n mS cJ
   |r=>r
def tq(b5:n7)(n:Nat):aB->j2->fj->Option (cO×j2×fj)
 | .skip,dt,W=>some (.eR,dt,W)
 | .kN ops,dt,W=>(match zj b5 W.next ops dt (IK ops W)with
   |some (mS,cJ)=>some (.eR,mS,cJ)
   |none=>none)
 | .ve _ _ _,_,_=>none
 | .kB a b,dt,W=>(match tq b5 n a dt W with
   |some (.eR,mS,cJ)=>tq b5 n b mS cJ
   |r=>r)
 | .nG c a b,dt,W=>(match S (mN dt) c with
   | .bool true=>tq b5 n a dt W
   | .bool false=>tq b5 n b dt W
   |_=>none)
 | .block id c,dt,W=>(match tq b5 n c dt W with
   |some (.cF kl,mS,cJ)=>if kl=id then some (.eR,mS,cJ)else some (.cF kl,mS,cJ)
   |r=>r)
 | .loop c,dt,W=>S6 (tq b5 n c) n dt W
 | .cF id,dt,W=>some (.cF id,dt,W)
 | .fi,dt,W=>some (.fi,dt,W)
def Pv(cH:List ln):Option (cO×j2×fj)->Option (Value×fj)
 |some (.cF _,_,_)=>none
 |some (_,dt,W)=>if mL (cX W) (mN dt) cH then some (m3 (cX W) (mN dt) cH,W)else none
 |none=>none
theorem aoC{W:fj}(aQ:gA W){b:Nat}:(cX W).F b=W.hc.F b:=by
 show(if b<W.next then W.hc.F b else none)=_;by_cases h:b<W.next
 ·rw[if_pos h]
 ·rw[if_neg h,aQ b (by omega)]
theorem VC: ∀{L:List Nat} {W zS:fj},gA W->sy W L=some zS->gA zS/\cX zS=lI (cX W) L
 | [],W,zS,aQ,h=>by cases h;refine⟨aQ,?_⟩;unfold lI;simp
 | o::l,W,zS,aQ,h=>by
   simp only[sy]at h;split at h
   ·next dh A=>
    obtain⟨cr,aG⟩:=C3 aQ A;obtain⟨ea,aN⟩:=VC cr h;refine⟨ea,?_⟩;rw[aN,aG];unfold lI G.aK;simp only[G.mk.injEq,true_and,and_true];funext b;by_cases A:b∈l
    ·rw[if_pos A,if_pos (by simp[A])]
    ·rw[if_neg A];by_cases E:b=o
     ·rw[if_pos E,if_pos (by simp[E])]
     ·rw[if_neg E,if_neg (by simp[A,E])]
   ·cases h
theorem aa3{W:fj}: ∀{L:List Nat} {dh fS:fj},gA dh->S8 W dh L=some fS->gA fS/\cX fS=lO (cX W) (cX dh) L
 | [],dh,fS,aQ,h=>by cases h;refine⟨aQ,?_⟩;unfold lO;simp
 | o::l,dh,fS,aQ,h=>by
   simp only[S8]at h;split at h
   ·next BC A=>
    obtain⟨cr,aG⟩:=C3 aQ A;obtain⟨ea,aN⟩:=aa3 cr h;refine⟨ea,?_⟩;rw[aN,aG];unfold lO G.aK;simp only[G.mk.injEq,true_and,and_true];funext b;by_cases A:b∈l
    ·rw[if_pos A,if_pos (by simp[A])]
    ·rw[if_neg A];by_cases E:b=o
     ·rw[if_pos E,if_pos (by simp[E]),E];rfl
     ·rw[if_neg E,if_neg (by simp[A,E])]
   ·cases h
theorem NO: ∀{L:List Nat} {W fS:fj},gA W->I0 W L=some fS->gA fS/\cX fS=uh (cX W) L
 |[],W,fS,aQ,h=>by cases h;exact⟨aQ,rfl⟩
 | o::l,W,fS,aQ,h=>by
   simp only[I0]at h;rw[Uu,aoC aQ];split at h
   ·next x B=>
    rw[B];simp only;split at h
    ·next dh A=>obtain⟨cr,aG⟩:=C3 aQ A;rw[<-aG];exact NO cr h
    ·cases h
   ·next B=>rw[B];exact NO aQ h
theorem Pf: ∀{L:List Nat} {W fS:fj},gA W->D3 W L=some fS->gA fS/\cX fS=hW (cX W) L
 |[],W,fS,aQ,h=>by cases h;exact⟨aQ,(aur _).symm⟩
 | o::l,W,fS,aQ,h=>by
   have av: ∀{cJ:fj},gA cJ->D3 cJ l=some fS->cJ.next=W.next->cJ.hc=W.hc->(∀b,b∉l->cJ.mp.F b=if b=o then none else W.mp.F b)->gA fS/\cX fS=hW (cX W) (o::l):= λ{cJ} kJ cw aj hb al=>by
    obtain⟨w,e⟩:=Pf kJ cw;refine⟨w,?_⟩;rw[e];unfold hW cX;simp only[G.mk.injEq,aj,hb,true_and];funext b;by_cases A:b∈l
    ·rw[if_pos A,if_pos (by simp[A])]
    ·rw[if_neg A,al b A];by_cases E:b=o
     ·rw[if_pos E,if_pos (by simp[E])]
     ·rw[if_neg E,if_neg (by simp[A,E])]
   simp only[D3]at h;split at h
   ·split at h
    ·next O=>exact av (cJ:=⟨W.next,W.hc,gn.set 21 W.mp o none⟩) aQ h rfl rfl λb _=>gn.xp (CO O)
    ·cases h
   ·next B=>
    refine av aQ h rfl rfl λb _=> ?_;by_cases E:b=o
    ·rw[if_pos E,E];exact B
    ·rw[if_neg E]
section
variable {P:Program} {J:e3} {u:fY} {t m:G} {z K:aD}
noncomputable def TD{f:Nat}{ts:List Value}{r:Value}(h:bP P f ts r):bF P:=by
 classical exact⟨f,λbz=>if bz=ts then some r else none,λbz eA e=>by
  by_cases aU:bz=ts
  ·rw[if_pos aU]at e;cases e;rw[aU];exact h
  ·rw[if_neg aU]at e;cases e⟩
theorem TE{f:Nat}{args ts:List Value}{r:Value}(h:bP P f ts r)(bb:Ef 9 t args=some ts){aR:Value->G->Prop}(dH:aR r (if nf r then hW t (args.flatMap (eC 9 t))else uh t (args.flatMap (eC 9 t)))):zp [TD h] f args t aR:=by unfold zp;rw[bb];simp only[ye,TD,if_true];exact dH
def uA(P:Program)(b5:n7):Prop:= ∀f args W r cJ,gA W->b5 f args W=some (r,cJ)->gA cJ/\fg P f args (cX W) λeA X=>eA=r/\X=cX cJ
theorem aFs{b5:n7}(cq:uA P b5){f:Nat}{args:List Value}{W cJ:fj}{r:Value}(aQ:gA W)(h:FP b5 f args W=some (r,cJ)):
 gA cJ/\ ∃ts,∃ae:bP P f ts r,zp [TD ae] f args (cX W) λeA X=>eA=r/\X=cX cJ:=by
 unfold FP at h;split at h
 ·next ts Lf=>
  split at h
  ·next v dh A=>
   obtain⟨cr,a9⟩:=cq _ _ _ _ _ arU A;split at h
   ·next eK ar=>
    have ae:bP P f ts eK:=dJ (by have:=a9;rw[aoz]at this;exact this.bt λeA X bV=>by rw[bV.1,bV.2];exact ar);split at h
    ·next dV=>
     split at h
     ·next fS E=>cases h;obtain⟨ea,aN⟩:=Pf aQ E;exact⟨ea,ts,ae,TE ae Lf ⟨rfl,by rw[if_pos dV,aN]⟩⟩
     ·cases h
    ·next dV=>
     split at h
     ·next fS E=>cases h;obtain⟨ea,aN⟩:=NO aQ E;exact⟨ea,ts,ae,TE ae Lf ⟨rfl,by rw[if_neg dV,aN]⟩⟩
     ·cases h
   ·cases h
  ·cases h
 ·cases h
theorem aud{b5:n7}(cq:uA P b5){f:Nat}{args bz:List Value}{W cJ:fj}{r:Value}{bc:List (Operand×Operand)}(aQ:gA W)(H:ep J u (cX W) m)(b4:hF u J z K)(hA:bc.all (λp=>di p.1&&di p.2)=true)(ag:bM u J args bz)
 (h:xc b5 f args W (nr z (cX W) bc)=some (r,cJ)):gA cJ/\
 eu P f bz m λeA U=>vd K bc m U/\ ∃cV cE,ep cV cE (cX cJ) U/\cu cE cV r eA/\e4 (cX W).next m.next J u (cX W) m cV cE (cX cJ) U:=by
 have pure: ∀{x:Value×fj},FP b5 f args W=some x->x=(r,cJ)->gA cJ/\eu P f bz m λeA U=>vd K bc m U/\ ∃cV cE,ep cV cE (cX cJ) U/\cu cE cV r eA/\e4 (cX W).next m.next J u (cX W) m cV cE (cX cJ) U:= λ{x} B e=>by subst e;obtain⟨w,ts,ae,q⟩:=aFs cq aQ B;refine⟨w,(acg H ag q).bt λeA U bV=> ?_⟩;obtain⟨A,cE,nX,X,⟨rfl,rfl⟩,ao,aS,bI⟩:=bV;exact⟨an2 H b4 hA A,J,cE,ao,aS,bI⟩
 cases jx:nr z (cX W) bc with
 | nil=>rw[jx]at h;simp only[xc]at h;obtain⟨w,q⟩:=cq _ _ _ _ _ aQ h;refine⟨w,(q J u bz m H ag).bt λeA U bV=> ?_⟩;obtain⟨cV,cE,nX,X,⟨rfl,rfl⟩,E,ao,aS⟩:=bV;exact⟨Tc H b4 hA aS.dg (by rw[jx];nofun),cV,cE,E,ao,aS⟩
 | cons o l=>
   rw[jx]at h;simp only[xc]at h;split at h
   ·next bx=>
    split at h
    ·next zS av=>
     obtain⟨aeA,Kd⟩:=VC aQ av;split at h
     ·next eK dh A=>
      split at h
      ·next fS E=>
       cases h;obtain⟨cr,a9⟩:=cq _ _ _ _ _ aeA A;obtain⟨ea,aN⟩:=aa3 cr E;refine⟨ea,?_⟩;rw[Kd]at a9;have Xa: ∀p∈o::l,∃x,(cX W).F p=some x/\x.cells≠[]:= λp ae=>by
        have:=ei.1 bx p ae;rw[aoC aQ];split at this
        ·next x B=>exact⟨x,B,λe=>by rw[e]at this;simp at this⟩
        ·cases this
       refine(ahi Xa a9 H ag).bt λeA U bV=> ?_;obtain⟨bB,cV,cE,nX,X,⟨rfl,rfl⟩,ao,aS,bI⟩:=bV;rw[<-aN]at ao bI;exact⟨Tc H b4 hA bI.dg (by rw[jx];exact bB),cV,cE,ao,aS,bI⟩
      ·cases h
     ·exact pure h rfl
    ·cases h
   ·exact pure h rfl
end
section
variable {P:Program}
def uB(ht hU:Nat)(J:e3)(u:fY)(t m:G)(iw:j2)(dh:fj)(k6:aD)(U:G):Prop:= ∃cV cE,ep cV cE (cX dh) U/\hF cE cV (mN iw) k6/\e4 ht hU J u t m cV cE (cX dh) U
theorem TF{b5:n7}(cq:uA P b5){base hi:Nat}: ∀{ops:List cS} {J:e3} {u:fY} {dt iw:j2} {W dh:fj} {m:G} {K:aD},ops.all M6=true->zf (ops.map (·.aY))=true->gA W->ep J u (cX W) m->hF u J (mN dt) K->BB J u (cX W) m base hi ops->base<=W.next->hi<=m.next->
 zj b5 base ops dt W=some (iw,dh)->gA dh/\fG P hi ops K m λk6 U=>uB base hi J u (cX W) m iw dh k6 U
 | [],J,u,dt,iw,W,dh,m,K,_,_,aQ,H,b4,_,_,_,h=>by cases h;refine⟨aQ,?_⟩;rw[aeN];exact⟨J,u,H,b4,e4.refl⟩
 | o::ops,J,u,dt,iw,W,dh,m,K,ax,eM,aQ,H,b4,kv,hb,q3,h=>by
   obtain⟨aY,d,g,k,bc⟩:=o;simp only[m9,a7]at ax;obtain⟨bx,Ez⟩:=nodup_cons eM;have yX:=ax.1;simp only[M6,a7]at yX;have skip: ∀{qK:j2},AZ dt d undef=some qK->zj b5 base ops qK W=some (iw,dh)->gA dh/\fG P hi ops (c0 K d undef) m λk6 U=>uB base hi J u (cX W) m iw dh k6 U:= λ{qK} ae h=>by refine TF cq ax.2 Ez aQ H ?_ (λo aC ag=>kv o (by simp[aC]) ag) hb q3 h;rw[adW ae];exact b4.aK cu.undef
   have AR: ∀{x:j2×fj},FO b5 base ⟨aY,d,g,k,bc⟩ dt W=some x->zj b5 base ops x.1 x.2=some (iw,dh)->gA dh/\fG P hi (⟨aY,d,none,k,bc⟩::ops) K m λk6 U=>uB base hi J u (cX W) m iw dh k6 U:= λ{x} B h=>by
    -- JQ a l2
    have after: ∀{f:Nat} {args bz:List Value} {y:j2×fj} {JD:Value->G->Prop},bM u J args bz->(match xc b5 f args W (nr (mN dt) (cX W) bc)with
     | some (r,cJ)=>(match AZ dt d r with
       |some mS=>some (mS,cJ)
       |none=>none)
     |none=>none)=some x->gA dh/\eu P f bz m (xd P hi d bc ops K m (λk6 U=>uB base hi J u (cX W) m iw dh k6 U)):= λ{f args bz y JD} ag av=>by
     split at av
     ·next r fS A=>
      split at av
      ·next qK E=>
       cases av;obtain⟨ea,q⟩:=aud cq aQ H b4 yX.2 ag A;have step: ∀{cW:e3} {eo:fY} {eA:Value} {bn:G},ep cW eo (cX fS) bn->cu eo cW r eA->e4 (cX W).next m.next J u (cX W) m cW eo (cX fS) bn->gA dh/\fG P hi ops (c0 K d eA) bn λk6 U=>uB base hi J u (cX W) m iw dh k6 U:= λ{cW eo eA bn} a5 ch dT=>by
        have EO:hF eo cW (mN qK) (c0 K d eA):=(by rw[adW E];exact(b4.bt dT.f dT.e).aK ch);have Et:BB cW eo (cX fS) bn base hi ops:= λo aC ag=>by
         have aj:=kv o (by simp[aC]) ag;refine⟨?_,λo' jk=> ?_,?_,qE aj.uj dT.lk,qE aj.tZ dT.lR⟩
         ·cases aU:cW (base+o.aY)with
          |none=>rfl
          | some b=>
            rcases dT.la _ _ aU with bI|⟨bI,_⟩
            ·rw[aj.e]at bI;cases bI
            ·have:=aj.uj;omega
         ·rcases dT.la _ _ jk with bI|⟨_,bI⟩
          ·exact aj.b _ bI
          ·have:=aj.tZ;omega
         ·cases aU:eo (hi+o.aY)with
          |none=>rfl
          | some cs=>
            rcases dT.fn _ _ aU with bI|bI|⟨o',_,bI,_⟩
            ·rw[aj.f]at bI;cases bI
            ·have:=aj.tZ;omega
            ·exact absurd bI (aj.b o')
        obtain⟨ko,cj⟩:=TF cq ax.2 Ez ea a5 EO Et (mR hb dT.lk) (mR q3 dT.lR) h;refine⟨ko,?_⟩;obtain⟨n,aT,cK,jl,gF,kg,bW,cA,fV⟩:=cj;exact⟨n,aT,cK,jl,gF,kg,bW,cA,(dT.wV hb q3).trans fV⟩
       have ayj:gA dh:=(by obtain⟨n,eA,U,_,_,cW,eo,a5,ch,dT⟩:=q;exact(step a5 ch dT).1);refine⟨ayj,q.bt λeA bn bV=> ?_⟩;obtain⟨O,cW,eo,a5,ch,dT⟩:=bV;exact⟨O,(step a5 ch dT).2⟩
      ·cases av
     ·cases av
    have ab4: ∀{k:an},k.lx=false->AU k=true->(k.fD=true->tk J u (cX W) m (base+aY) (hi+aY))->(if k.js (mN dt) (cX W)&&iZ (mN dt) (cX W) bc then(match FF k (base+aY) (mN dt) W with
     | some cJ=>(match some (k.jY (base+aY) (mN dt) (cX W),cJ)with
       | some (r,cJ)=>(match AZ dt d r with
         |some mS=>some (mS,cJ)
         |none=>none)
       |none=>none)
     |none=>none)else none)=some x->
     gA dh/\fG P hi (⟨aY,d,none,k,bc⟩::ops) K m λk6 U=>uB base hi J u (cX W) m iw dh k6 U:= λ{k} av O aj B=>by
     split at B
     ·next EC=>
      simp only[a7]at EC;split at B
      ·next fS dq=>
       simp only at B;split at B
       ·next qK b8=>
        cases B;obtain⟨ea,aN⟩:=aom aQ dq;obtain⟨A,cW,q⟩:=apa (ht:=base) (hU:=hi) (id:=base+aY) (mid:=hi+aY) H b4 av O EC.1 aj (by omega) (by omega);have EO:hF u cW (mN qK) (c0 K d (k.val (hi+aY) K m)):=(by rw[adW b8];exact(b4.bt q.b0.f q.b0.e).aK q.val);have Et:BB cW u (cX fS) (k.hr (hi+aY) K m) base hi ops:= λo aC ag=>by
         have aj:=kv o (by simp[aC]) ag;have B:=bx o aC;simp only at B;rw[aN];refine⟨by rw[q.Nf _ (by omega)];exact aj.e,λo' jk=> ?_,aj.f,qE aj.uj q.b0.lk,qE aj.tZ q.b0.lR⟩;by_cases e:o'=base+aY
         ·subst e;rcases q.self with bI|bI
          ·rw[bI]at jk;exact aj.b _ jk
          ·rw[bI]at jk;simp only[mP]at jk;omega
         ·rw[q.Nf _ e]at jk;exact aj.b _ jk
        have bg:=q.Uv;have kv:=q.b0;rw[<-aN]at bg kv;obtain⟨ko,cj⟩:=TF cq ax.2 Ez ea bg EO Et (mR hb kv.lk) (mR q3 kv.lR) h;refine⟨ko,?_⟩;rw[nA av];refine⟨A,agx H b4 yX.2 EC.2,?_⟩;obtain⟨n,aT,cK,jl,gF,kg,bW,cA,fV⟩:=cj;exact⟨n,aT,cK,jl,gF,kg,bW,cA,kv.trans fV⟩
       ·cases B
      ·cases B
     ·cases B
    have sH:=kv ⟨aY,d,g,k,bc⟩ (by simp);have xy:=yX.1;have b2:=xy;simp only[AU,a7]at b2;cases k with
    | l2 f bz=>rw[aeL];exact after (y:=x) (JD:= λ_ _=>True) (b4.B0 b2.1) B
    | nc x bz=>
      simp only[FO]at B;simp only[an.h0,m9,a7]at b2;split at B
      ·next f first ks Cp=>have M:=b4.S b2.1.1;rw[Cp]at M;obtain⟨ys,ds,e,hS,jn⟩:=M.ES;rw[aeM e];exact after (y:=⟨dt,W⟩) (JD:= λ_ _=>True) ((hS.p8 (b4.B0 b2.1.2)).p8 jn) B
      ·cases B
    | mE bJ x bz=>
      simp only[FO]at B;simp only[an.h0,m9,a7]at b2;rw[aJX];split at B
      ·next qC v Cp=>
       have M:=b4.S b2.1.1;rw[Cp]at M;obtain⟨bZ,e,AE⟩:=M.Lt;rw[e];unfold QD;split at B
       ·next a f bb=>simp only[bb];exact after (y:=⟨dt,W⟩) (JD:= λ_ _=>True) (bM.cons AE (b4.B0 b2.1.2)) B
       ·next a f dE n bb=>
        simp only[bb];split at B
        ·next av=>simp only[a7]at av;have A:=JF H AE av.1;obtain⟨w,q⟩:=after (y:=⟨dt,W⟩) (JD:= λ_ _=>True) (bM.cons (abm H AE av.1 av.2) (b4.B0 b2.1.2)) B;exact⟨w,by rw[A,av.2];rfl,q⟩
        ·cases B
       ·cases B
      ·cases B
    |_=>exact ab4 rfl xy sH B
   simp only[zj]at h;split at h
   ·next oU=>
    split at h
    ·next qK fS A=>
     cases g with
     |none=>exact AR A h
     | some g=>obtain⟨j,b⟩:=g;obtain⟨w,q⟩:=AR A h;refine⟨w,?_⟩;rw[US,aez b4,if_pos oU];exact q
    ·cases h
   ·next oU=>
    split at h
    ·next qK A=>
     cases g with
     |none=>exact absurd rfl oU
     | some g=>obtain⟨j,b⟩:=g;obtain⟨w,q⟩:=skip A h;refine⟨w,?_⟩;rw[US,aez b4,if_neg oU];exact q
    ·cases h
theorem ap3{ops:List cS}{W:fj}(aQ:gA W):gA (IK ops W)/\cX (IK ops W)=h9 ops (cX W):=by
 unfold IK h9;split
 ·exact⟨arV aQ,aoA aQ⟩
 ·exact⟨aQ,rfl⟩
theorem aGa{b5:n7}(cq:uA P b5){ops:List cS}(ax:pr (.kN ops)=true){J:e3}{u:fY}{dt iw:j2}{W dh:fj}{m:G}{K:aD}(aQ:gA W)(H:ep J u (cX W) m)(b4:hF u J (mN dt) K)(h:zj b5 W.next ops dt (IK ops W)=some (iw,dh)):
 gA dh/\fG P m.next ops K (h9 ops m) λk6 U=>uB W.next m.next J u (cX W) m iw dh k6 U:=by
 simp only[pr,a7]at ax;obtain⟨g6,rM⟩:=ap3 (ops:=ops) aQ;have mD:ep J u (h9 ops (cX W)) (h9 ops m):=by
  unfold h9;split
  ·exact OY H _
  ·exact H
 have v8:e4 W.next m.next J u (cX W) m J u (h9 ops (cX W)) (h9 ops m):=by
  unfold h9;split
  ·exact JT H _
  ·exact e4.refl
 have yO:BB J u (h9 ops (cX W)) (h9 ops m) W.next m.next ops:= λo aC ag=>by
  have KV:(ops.any λo=>o.k.fD)=true:=Jj.2 ⟨o,aC,ag⟩;have tI:o.aY<ops.length:=(by simpa using ei.1 ax.2 o aC);refine⟨?_,λo' jk=> ?_,?_,by simp[h9,KV,tI,cX],by simp[h9,KV,tI]⟩
  ·cases aU:J (W.next+o.aY)with
   |none=>rfl
   |some b=>have:=(H.cU _ _ aU).1;simp[cX]at this;omega
  ·have:=(H.cU _ _ jk).2;omega
  ·cases aU:u (m.next+o.aY)with
   |none=>rfl
   |some cs=>obtain⟨⟨w,A⟩,_⟩:=H.b0 _ _ aU;have:=aF A;omega
 have ht:W.next<=(IK ops W).next:=by have:=v8.lk;rw[<-rM]at this;exact this
 rw[<-rM]at mD v8 yO;obtain⟨cr,q⟩:=TF cq ax.1.1 ax.1.2 g6 mD b4 yO ht v8.lR h;refine⟨cr,?_⟩;obtain⟨n,aT,cK,jl,gF,kg,bW,cA,fV⟩:=q;exact⟨n,aT,cK,jl,gF,kg,bW,cA,v8.trans fV⟩
def U2(P:Program)(c:aB)(e:cO)(dt:j2)(W:fj)(iw:j2)(dh:fj):Prop:=gA dh/\ ∀(J:e3) (u:fY) (K:aD) (m:G),ep J u (cX W) m->hF u J (mN dt) K->fJ P c K m λdw k6 U=>dw=e/\uB W.next m.next J u (cX W) m iw dh k6 U
theorem uB.trans{ht hU N3 MY:Nat}{J cW:e3}{u eo:fY}{t m bn:G}{dh:fj}{qK:j2}{fS:fj}{c2:aD}{cK:G}(h:e4 ht hU J u t m cW eo (cX dh) bn)(cw:uB N3 MY cW eo (cX dh) bn qK fS c2 cK)(A:ht<=N3)(E:hU<=MY):uB ht hU J u t m qK fS c2 cK:=by obtain⟨gF,kg,a,b,c⟩:=cw;exact⟨gF,kg,a,b,h.trans (c.wV A E)⟩
theorem anS{c:aB}(av:pr c=true){f:j2->fj->Option (cO×j2×fj)}(bb: ∀{dt W e iw dh},gA W->f dt W=some (e,iw,dh)->U2 P c e dt W iw dh): ∀{n:Nat} {dt:j2} {W:fj} {e:cO} {iw:j2} {dh:fj},gA W->S6 f n dt W=some (e,iw,dh)->U2 P (.loop c) e dt W iw dh
 |0,dt,W,e,iw,dh,aQ,h=>by cases h
 | n+1,dt,W,e,iw,dh,aQ,h=>by
   simp only[S6]at h;split at h
   ·next qK fS A=>obtain⟨ea,q⟩:=bb aQ A;obtain⟨ko,cA⟩:=anS av bb ea h;refine⟨ko,λJ u K m H b4=> ?_⟩;refine jN λbO a1=> ?_;refine(q J u K m H b4).bt λdw aT bn bV=> ?_;obtain⟨rfl,cW,eo,aE,a5,ch⟩:=bV;refine a1 _ _ ((cA cW eo aT bn aE a5).bt λaN bY cK bV=> ?_);obtain⟨rfl,dT⟩:=bV;exact⟨rfl,uB.trans ch dT ch.lk ch.lR⟩
   ·next bx=>
    obtain⟨ea,q⟩:=bb aQ h;refine⟨ea,λJ u K m H b4=> ?_⟩;refine jN λbO a1=> ?_;refine(q J u K m H b4).bt λdw aT bn bV=> ?_;obtain⟨rfl,g⟩:=bV;cases dw with
    |eR=>exact absurd h (bx _ _)
    |cF id=>exact⟨rfl,g⟩
    |fi=>exact⟨rfl,g⟩
end
section
variable {P:Program}
theorem apE{b5:n7}{f:Nat}{args:List Value}{W cJ:fj}{r:Value}(aQ:gA W)(h:FP b5 f args W=some (r,cJ)):gA cJ:=by
 unfold FP at h
 repeat' split at h
 all_goals first|cases h|skip
 all_goals first|exact(Pf aQ (by assumption)).1|exact(NO aQ (by assumption)).1
theorem aue{b5:n7}(cq:uA P b5){f:Nat}{args:List Value}{W cJ:fj}{r:Value}{L:List Nat}(aQ:gA W)(h:xc b5 f args W L=some (r,cJ)):gA cJ:=by
 cases L with
 |nil=>exact(cq _ _ _ _ _ aQ h).1
 | cons o l=>
   simp only[xc]at h;split at h
   ·split at h
    ·next zS av=>
     split at h
     ·next eK dh A=>
      split at h
      ·next fS E=>cases h;exact(aa3 (cq _ _ _ _ _ (VC aQ av).1 A).1 E).1
      ·cases h
     ·exact apE aQ h
    ·cases h
   ·exact apE aQ h
theorem aEP{b5:n7}(cq:uA P b5){base:Nat}{o:cS}{dt:j2}{W:fj}{x:j2×fj}(aQ:gA W)(h:FO b5 base o dt W=some x):gA x.2:=by
 have j5: ∀{f:Nat} {args:List Value} {L:List Nat},(match xc b5 f args W L with
  | some (r,cJ)=>(match AZ dt o.d r with
    |some mS=>some (mS,cJ)
    |none=>none)
  |none=>none)=some x->gA x.2:= λ{f args L} h=>by
  split at h
  ·next r fS A=>
   split at h
   ·cases h;exact aue cq aQ A
   ·cases h
  ·cases h
 have plain: ∀{k:an},(if k.js (mN dt) (cX W)&&iZ (mN dt) (cX W) o.bc then(match FF k (base+o.aY) (mN dt) W with
  | some cJ=>(match some (k.jY (base+o.aY) (mN dt) (cX W),cJ)with
    | some (r,cJ)=>(match AZ dt o.d r with
      |some mS=>some (mS,cJ)
      |none=>none)
    |none=>none)
  |none=>none)else none)=some x->gA x.2:= λ{k} h=>by
  split at h
  ·split at h
   ·next fS dq=>
    simp only at h;split at h
    ·cases h;exact(aom aQ dq).1
    ·cases h
   ·cases h
  ·cases h
 obtain⟨aY,d,g,k,bc⟩:=o;cases k with
 |l2 f bz=>exact j5 h
 | nc y bz=>
   simp only[FO]at h;split at h
   ·exact j5 h
   ·cases h
 | mE bJ y bz=>
   simp only[FO]at h;split at h
   ·split at h
    ·exact j5 h
    ·split at h
     ·exact j5 h
     ·cases h
    ·cases h
   ·cases h
 |_=>exact plain h
theorem ab5{b5:n7}(cq:uA P b5){base:Nat}: ∀{ops:List cS} {dt iw:j2} {W dh:fj},gA W->zj b5 base ops dt W=some (iw,dh)->gA dh
 |[],dt,iw,W,dh,aQ,h=>by cases h;exact aQ
 | o::ops,dt,iw,W,dh,aQ,h=>by
   simp only[zj]at h;split at h
   ·split at h
    ·next qK fS A=>exact ab5 cq (aEP cq aQ A) h
    ·cases h
   ·split at h
    ·exact ab5 cq aQ h
    ·cases h
theorem z8{b5:n7}(cq:uA P b5){n:Nat}: ∀{c:aB} {dt iw:j2} {W dh:fj} {e:cO},pr c=true->gA W->tq b5 n c dt W=some (e,iw,dh)->U2 P c e dt W iw dh
 | .skip,dt,iw,W,dh,e,ax,aQ,h=>by cases h;exact⟨aQ,λJ u K m H b4=>by rw[aeK];exact⟨rfl,J,u,H,b4,e4.refl⟩⟩
 | .cF id,dt,iw,W,dh,e,ax,aQ,h=>by cases h;exact⟨aQ,λJ u K m H b4=>by rw[aeH];exact⟨rfl,J,u,H,b4,e4.refl⟩⟩
 | .fi,dt,iw,W,dh,e,ax,aQ,h=>by cases h;exact⟨aQ,λJ u K m H b4=>by rw[aeJ];exact⟨rfl,J,u,H,b4,e4.refl⟩⟩
 | .ve _ _ _,dt,iw,W,dh,e,ax,aQ,h=>by cases h
 | .kN ops,dt,iw,W,dh,e,ax,aQ,h=>by
   simp only[tq]at h;split at h
   ·next qK fS A=>cases h;exact⟨ab5 cq (ap3 aQ).1 A,λJ u K m H b4=>by rw[aeI];obtain⟨n,aT,cK,ar,q⟩:=(aGa cq ax aQ H b4 A).2;exact⟨n,aT,cK,ar,rfl,q⟩⟩
   ·cases h
 | .kB a b,dt,iw,W,dh,e,ax,aQ,h=>by
   simp only[pr,a7]at ax;simp only[tq]at h;split at h
   ·next qK fS A=>obtain⟨ea,q⟩:=z8 cq ax.1 aQ A;obtain⟨ko,cA⟩:=z8 cq ax.2 ea h;refine⟨ko,λJ u K m H b4=> ?_⟩;rw[UQ];refine(q J u K m H b4).bt λdw aT bn bV=> ?_;obtain⟨rfl,cW,eo,aE,a5,ch⟩:=bV;rw[N2];refine(cA cW eo aT bn aE a5).bt λaN bY cK bV=> ?_;obtain⟨rfl,dT⟩:=bV;exact⟨rfl,uB.trans ch dT ch.lk ch.lR⟩
   ·next bx=>
    obtain⟨ea,q⟩:=z8 cq ax.1 aQ h;refine⟨ea,λJ u K m H b4=> ?_⟩;rw[UQ];refine(q J u K m H b4).bt λdw aT bn bV=> ?_;obtain⟨rfl,g⟩:=bV;cases dw with
    |eR=>exact absurd h (bx _ _)
    |cF id=>exact⟨rfl,g⟩
    |fi=>exact⟨rfl,g⟩
 | .nG c a b,dt,iw,W,dh,e,ax,aQ,h=>by
   simp only[pr,a7]at ax;simp only[tq]at h;split at h
   ·next av=>obtain⟨ea,q⟩:=z8 cq ax.1.2 aQ h;refine⟨ea,λJ u K m H b4=> ?_⟩;have M:=(b4.S ax.1.1);rw[av]at M;rw[UP,M.tR];exact⟨rfl,q J u K m H b4⟩
   ·next av=>obtain⟨ea,q⟩:=z8 cq ax.2 aQ h;refine⟨ea,λJ u K m H b4=> ?_⟩;have M:=(b4.S ax.1.1);rw[av]at M;rw[UP,M.tR];exact⟨rfl,q J u K m H b4⟩
   ·cases h
 | .block id c,dt,iw,W,dh,e,ax,aQ,h=>by
   simp only[tq]at h;split at h
   ·next kl qK fS A=>
    obtain⟨ea,q⟩:=z8 (c:=c) cq ax aQ A;split at h
    ·next e2=>cases h;refine⟨ea,λJ u K m H b4=> ?_⟩;rw[Od];refine(q J u K m H b4).bt λdw aT bn bV=> ?_;obtain⟨rfl,g⟩:=bV;rw[GO,if_pos e2];exact⟨rfl,g⟩
    ·next e2=>cases h;refine⟨ea,λJ u K m H b4=> ?_⟩;rw[Od];refine(q J u K m H b4).bt λdw aT bn bV=> ?_;obtain⟨rfl,g⟩:=bV;rw[GO,if_neg e2];exact⟨rfl,g⟩
   ·next bx=>
    obtain⟨ea,q⟩:=z8 (c:=c) cq ax aQ h;refine⟨ea,λJ u K m H b4=> ?_⟩;rw[Od];refine(q J u K m H b4).bt λdw aT bn bV=> ?_;obtain⟨rfl,g⟩:=bV;cases dw with
    |cF kl=>exact absurd h (bx _ _ _)
    |eR=>exact⟨rfl,g⟩
    |fi=>exact⟨rfl,g⟩
 | .loop c,dt,iw,W,dh,e,ax,aQ,h=>by simp only[tq]at h;exact anS (c:=c) ax (λaQ h=>z8 cq ax aQ h) aQ h
def OJ(P:Program)(qA:Nat->Option ca):Prop:= ∀f Fn,qA f=some Fn->cm P f=some Fn/\pr Fn.body=true
def N0:List (Nat×ca)->gn ca
 |[]=> .nil
 |p::l=>gn.set 21 (N0 l) p.1 (some p.2)
def OI(P:Program):List (Nat×ca)->Prop
 |[]=>True
 |p::l=>((Fv p.1=true/\cm P p.1=some p.2)/\pr p.2.body=true)/\OI P l
theorem Ja: ∀{l:List (Nat×ca)},OI P l->OJ P (N0 l).F
 |[],_=> λf Fn h=>by cases h
 | p::l,h=> λf Fn bb=>by
   have e:(N0 (p::l)).F f=if f=p.1 then some p.2 else(N0 l).F f:=gn.xp (CO h.1.1.1)
   rw[e]at bb;split at bb
   ·next aU=>cases bb;rw[aU];exact⟨h.1.1.2,h.1.2⟩
   ·exact Ja h.2 f Fn bb
end
def um:Nat->Value->Value->Bool
 |0,_,_=>false
 | n+1,a,b=>match a,b with
   | .bool x,.bool y=>decide (x=y)
   | .int k x,.int fk y=>decide (k=fk)&&decide (x=y)
   | .string s,.string gY=>decide (s.data.toList=gY.data.toList)
   | .nilFunc,.nilFunc=>true
   | .nilIface,.nilIface=>true
   | .pointer none,.pointer none=>true
   | .slice none l I,.slice none c7 j7=>Nat.beq l c7&&Nat.beq I j7
   | .agg xs,.agg ys=>Ag (um n) xs.toList ys.toList
   | .tuple xs,.tuple ys=>Ag (um n) xs.toList ys.toList
   | .func (.yield k) xs cs,.func (.yield fk) ys ds=>Nat.beq k fk&&(Ag (um n) xs.toList ys.toList&&Ag (um n) cs.toList ds.toList)
   |_,_=>false
where
 Ag (f:Value->Value->Bool):List Value->List Value->Bool
 |[],[]=>true
 |x::l,y::k=>f x y&&Ag f l k
 |_,_=>false
theorem V0{f:Value->Value->Bool}(bb: ∀a b,f a b=true->a=b): ∀{l k:List Value},um.Ag f l k=true->l=k
 |[],[],_=>rfl
 |[],_::_,h=>by cases h
 |_::_,[],h=>by cases h
 | x::l,y::k,h=>by simp only[um.Ag,a7]at h;rw[bb x y h.1,V0 bb h.2]
theorem aew: ∀{n:Nat} (a b:Value),um n a b=true->a=b
 |0,_,_,h=>by cases h
 | n+1,a,b,h=>by
   have cj: ∀a b,um n a b=true->a=b:= λa b h=>aew a b h;have DW: ∀{xs ys:Array Value},um.Ag (um n) xs.toList ys.toList=true->xs=ys:= λ{xs ys} h=>DK.1 (V0 cj h);simp only[um]at h;split at h
   ·rw[of_decide_eq_true h]
   ·simp only[a7,eF]at h;rw[h.1,h.2]
   ·next s gY=>have:=of_decide_eq_true h;obtain⟨⟨l⟩⟩:=s;obtain⟨⟨c7⟩⟩:=gY;simp only at this;rw[this]
   ·rfl
   ·rfl
   ·rfl
   ·simp only[a7,Nat.beq_eq]at h;rw[h.1,h.2]
   ·rw[DW h]
   ·rw[DW h]
   ·simp only[a7,Nat.beq_eq]at h;rw[h.1,DW h.2.1,DW h.2.2]
   ·cases h
def yf(n:Nat)(l k:List Value):Bool:=um.Ag (um n) l k
theorem aJw{n:Nat}{l k:List Value}(h:yf n l k=true):l=k:=V0 (λa b h=>aew a b h) h
abbrev sr:=List (Nat×List Value×Value)
def Tu(f:Nat)(ts:List Value):sr->Option Value
 |[]=>none
 |p::l=>bif Nat.beq p.1 f&&yf 30 p.2.1 ts then some p.2.2 else Tu f ts l
def WK(f:Nat):sr->Bool
 |[]=>false
 |p::l=>Nat.beq p.1 f||WK f l
def yn(P:Program)(l:sr):Prop:= ∀p∈l,bP P p.1 p.2.1 p.2.2
theorem aoq{P:Program}{f:Nat}{ts:List Value}{r:Value}: ∀{l:sr},yn P l->Tu f ts l=some r->bP P f ts r
 |[],_,h=>by cases h
 | p::l,aA,h=>by
   simp only[Tu]at h;cases hb:Nat.beq p.1 f&&yf 30 p.2.1 ts with
   |false=>rw[hb]at h;exact aoq (λq bg=>aA q (by simp[bg])) h
   | true=>rw[hb]at h;simp only[cond_true,mP]at h;simp only[a7,Nat.beq_eq]at hb;rw[<-hb.1,<-aJw hb.2,<-h];exact aA p (by simp)
def abb(jq:sr)(f:Nat)(args:List Value)(W:fj):Option (Value×fj):=match Ef 9 (cX W) args with
 | some ts=>(match Tu f ts jq with
   | some r=>if nf r then(match D3 W (args.flatMap (eC 9 (cX W)))with
    |some fS=>some (r,fS)
    |none=>none)
    else(match I0 W (args.flatMap (eC 9 (cX W)))with
     |some fS=>some (r,fS)
     |none=>none)
   |none=>none)
 |none=>none
theorem aCZ{P:Program}{jq:sr}(rU:yn P jq){f:Nat}{args:List Value}{W cJ:fj}{r:Value}(aQ:gA W)(h:abb jq f args W=some (r,cJ)):gA cJ/\fg P f args (cX W) λeA X=>eA=r/\X=cX cJ:=by
 have mW: ∀{ts:List Value},∀ae:bP P f ts r,zp [TD ae] f args (cX W) (λeA X=>eA=r/\X=cX cJ)->fg P f args (cX W) λeA X=>eA=r/\X=cX cJ:= λ{ts} ae q J u bz m H ag=>by refine(acg H ag q).bt λeA U bV=> ?_;obtain⟨A,cE,nX,X,⟨rfl,rfl⟩,ao,aS,bI⟩:=bV;exact⟨J,cE,_,_,⟨rfl,rfl⟩,ao,aS,bI⟩
 unfold abb at h;split at h
 ·next ts Lf=>
  split at h
  ·next eK ar=>
   have ae:bP P f ts eK:=aoq rU ar;split at h
   ·next dV=>
    split at h
    ·next fS E=>cases h;obtain⟨ea,aN⟩:=Pf aQ E;exact⟨ea,mW ae (TE ae Lf ⟨rfl,by rw[if_pos dV,aN]⟩)⟩
    ·cases h
   ·next dV=>
    split at h
    ·next fS E=>cases h;obtain⟨ea,aN⟩:=NO aQ E;exact⟨ea,mW ae (TE ae Lf ⟨rfl,by rw[if_neg dV,aN]⟩)⟩
    ·cases h
  ·cases h
 ·cases h
def Kn(qA:Nat->Option ca)(jq:sr)(ix:n7)(n:Nat):Nat->n7
 |0=> λ_ _ _=>none
 | d+1=> λf args W=>match ix f args W with
   |some x=>some x
   | none=>bif WK f jq then abb jq f args W else match qA f with
     |some Fn=>if Nat.ble args.length Fn.da&&Nat.blt args.length 1000000 then Pv Fn.j5 (tq (Kn qA jq ix n d) n Fn.body (ER args 0 .nil) W)else none
     |none=>none
theorem ahn{P:Program}{qA:Nat->Option ca}(a8:OJ P qA){jq:sr}(rU:yn P jq){ix:n7}(hX:uA P ix){n:Nat}: ∀d,uA P (Kn qA jq ix n d)
 |0=> λf args W r cJ aQ h=>by cases h
 | d+1=> λf args W r cJ aQ h=>by
   simp only[Kn]at h;cases aU:ix f args W with
   |some x=>rw[aU]at h;cases h;exact hX _ _ _ _ _ aQ aU
   |none=>
   rw[aU]at h;simp only at h;cases hb:WK f jq with
   |true=>rw[hb]at h;exact aCZ rU aQ h
   |false=>
   rw[hb]at h;simp only[cond_false]at h;split at h
   ·next Fn bb=>
    obtain⟨df,ax⟩:=a8 f Fn bb;split at h
    ·next aA=>
     simp only[a7,Nat.ble_eq,Nat.blt_eq]at aA;cases av:tq (Kn qA jq ix n d) n Fn.body (ER args 0 .nil) W with
     |none=>rw[av]at h;cases h
     | some x=>
       obtain⟨e,dt,dh⟩:=x;rw[av]at h;obtain⟨w,q⟩:=z8 (ahn a8 rU hX d) ax aQ av;have mW:e≠ .cF 0->(∀id,e≠ .cF id)->mL (cX dh) (mN dt) Fn.j5=true->r=m3 (cX dh) (mN dt) Fn.j5->cJ=dh->gA cJ/\fg P f args (cX W) λeA X=>eA=r/\X=cX cJ:= λ_ bx ar aG aN=>by
        subst aG;subst aN;refine⟨w,λJ u bz m H ag=> ?_⟩;rw[nz df (by rw[<-ag.1];exact aA.1)];refine(q J u (ij bz) m H (by rw[aIn aA.2];exact hF.init ag)).bt λdw aT bn bV=> ?_;obtain⟨rfl,cW,eo,aE,a5,ch⟩:=bV;obtain⟨a,b⟩:=acE aE a5 ar;cases dw with
        |cF id=>exact absurd rfl (bx id)
        |eR=>exact⟨a,cW,eo,_,_,⟨rfl,rfl⟩,aE,b,ch⟩
        |fi=>exact⟨a,cW,eo,_,_,⟨rfl,rfl⟩,aE,b,ch⟩
       cases e with
       |cF id=>simp only[Pv]at h;cases h
       | eR=>
         simp only[Pv]at h;split at h
         ·next ar=>cases h;exact mW (by simp) (by simp) ar rfl rfl
         ·cases h
       | fi=>
         simp only[Pv]at h;split at h
         ·next ar=>cases h;exact mW (by simp) (by simp) ar rfl rfl
         ·cases h
    ·cases h
   ·cases h
def V1(qA:Nat->Option ca)(jq:sr)(ix:n7)(n d f:Nat)(args:List Value)(r:Value):Bool:=match Kn qA jq ix n d f args JB with
 | some (v,dh)=>(match dx 9 (cX dh) v with
   |some eK=>um 30 eK r
   |none=>false)
 |none=>false
theorem Kh{P:Program}{qA:Nat->Option ca}(a8:OJ P qA){jq:sr}(rU:yn P jq){ix:n7}(hX:uA P ix){n d f:Nat}{args:List Value}{r:Value}(h:V1 qA jq ix n d f args r=true):bP P f args r:=by
 unfold V1 at h;split at h
 ·next v dh dq=>
  obtain⟨w,q⟩:=ahn a8 rU hX d f args JB _ _ arU dq;rw[aoz]at q;split at h
  ·next eK ar=>have:=aew _ _ h;subst this;exact dJ (q.bt λeA X bV=>by rw[bV.1,bV.2];exact ar)
  ·cases h
 ·cases h
def aoZ:n7:= λ_ _ _=>none
theorem aED{P:Program}:uA P aoZ:= λ_ _ _ _ _ _ h=>by cases h
def ag7(qA:Nat->Option ca)(jq:sr)(n d f:Nat)(args:List Value)(r:Value):Bool:=V1 qA jq aoZ n d f args r
theorem avj{P:Program}{qA:Nat->Option ca}(a8:OJ P qA){jq:sr}(rU:yn P jq){n d f:Nat}{args:List Value}{r:Value}(h:ag7 qA jq n d f args r=true):bP P f args r:=Kh a8 rU aED h
theorem aor{P:Program}:yn P []:= λp ae=>by cases ae
theorem CT{P:Program}{p:Nat×List Value×Value}{l:sr}(h:bP P p.1 p.2.1 p.2.2)(aA:yn P l):yn P (p::l):= λq bg=>by
 rcases hv.1 bg with rfl|bg
 ·exact h
 ·exact aA q bg
end Go.DI
namespace Go.Proofs.YtmmkkggfmigppaaGreat
open Go Go.DI
section
set_option maxRecDepth 100000
def aBh:cy N 107:=⟨_,by conv=>lhs;reduce⟩
def ajp:aB:=aJ (a:=aBh.1.body) ⟨_,by conv=>lhs;reduce⟩
def QI:ca:=⟨21,[.hy 4 true 3,.bL 5],ajp⟩
theorem ajq:cm N 107=some QI:=by kernel_rfl
def aBv:cy N 138:=⟨_,by conv=>lhs;reduce⟩
def aj8:aB:=aJ (a:=aBv.1.body) ⟨_,by conv=>lhs;reduce⟩
def Rc:ca:=⟨22,[.bL 2],aj8⟩
theorem aj9:cm N 138=some Rc:=by kernel_rfl
def aBw:cy N 139:=⟨_,by conv=>lhs;reduce⟩
def aka:aB:=aJ (a:=aBw.1.body) ⟨_,by conv=>lhs;reduce⟩
def Rd:ca:=⟨6,[.bL 2],aka⟩
theorem akb:cm N 139=some Rd:=by kernel_rfl
def aBz:cy N 167:=⟨_,by conv=>lhs;reduce⟩
def akf:aB:=aJ (a:=aBz.1.body) ⟨_,by conv=>lhs;reduce⟩
def Rg:ca:=⟨51,[.hy 6 true 3],akf⟩
theorem akg:cm N 167=some Rg:=by kernel_rfl
def aBB:cy N 169:=⟨_,by conv=>lhs;reduce⟩
def akj:aB:=aJ (a:=aBB.1.body) ⟨_,by conv=>lhs;reduce⟩
def Ri:ca:=⟨12,[.bL 2],akj⟩
theorem akk:cm N 169=some Ri:=by kernel_rfl
def anv:cy N 173:=⟨_,by conv=>lhs;reduce⟩
def azq:aB:=aJ (a:=bj anv.1.body 75) ⟨_,by conv=>lhs;reduce⟩
def azo:aB:=aJ (a:= λx=>bk 75 x anv.1.body) ⟨_,by conv=>lhs;reduce⟩ azq
def akr:ca:=⟨30,[.hy 2 true 3,.bL 3],azo⟩
theorem azp:cm N 173=some akr:=by kernel_rfl
def aBF:cy N 174:=⟨_,by conv=>lhs;reduce⟩
def azr:aB:=aJ (a:=aBF.1.body) ⟨_,by conv=>lhs;reduce⟩
def aks:ca:=⟨21,[.hy 4 true 3,.bL 5],azr⟩
theorem azs:cm N 174=some aks:=by kernel_rfl
def aBG:cy N 175:=⟨_,by conv=>lhs;reduce⟩
def azt:aB:=aJ (a:=aBG.1.body) ⟨_,by conv=>lhs;reduce⟩
def akt:ca:=⟨54,[.bL 4,.bL 5],azt⟩
theorem azu:cm N 175=some akt:=by kernel_rfl
def anB:cy N 191:=⟨_,by conv=>lhs;reduce⟩
def azI:aB:=aJ (a:=bj anB.1.body 75) ⟨_,by conv=>lhs;reduce⟩
def azG:aB:=aJ (a:= λx=>bk 75 x anB.1.body) ⟨_,by conv=>lhs;reduce⟩ azI
def akK:ca:=⟨30,[.hy 2 true 3,.bL 3],azG⟩
theorem azH:cm N 191=some akK:=by kernel_rfl
def aBM:cy N 192:=⟨_,by conv=>lhs;reduce⟩
def azJ:aB:=aJ (a:=aBM.1.body) ⟨_,by conv=>lhs;reduce⟩
def akL:ca:=⟨9,[.bL 4],azJ⟩
theorem azK:cm N 192=some akL:=by kernel_rfl
def aBN:cy N 193:=⟨_,by conv=>lhs;reduce⟩
def azL:aB:=aJ (a:=aBN.1.body) ⟨_,by conv=>lhs;reduce⟩
def akM:ca:=⟨11,[.hy 2 true 3],azL⟩
theorem azM:cm N 193=some akM:=by kernel_rfl
def aBO:cy N 195:=⟨_,by conv=>lhs;reduce⟩
def akN:aB:=aJ (a:=aBO.1.body) ⟨_,by conv=>lhs;reduce⟩
def Rv:ca:=⟨53,[.bL 4],akN⟩
theorem akO:cm N 195=some Rv:=by kernel_rfl
def aBP:cy N 196:=⟨_,by conv=>lhs;reduce⟩
def akP:aB:=aJ (a:=aBP.1.body) ⟨_,by conv=>lhs;reduce⟩
def Rw:ca:=⟨15,[.hy 2 true 3,.bL 3],akP⟩
theorem akQ:cm N 196=some Rw:=by kernel_rfl
def aBR:cy N 199:=⟨_,by conv=>lhs;reduce⟩
def azP:aB:=aJ (a:=aBR.1.body) ⟨_,by conv=>lhs;reduce⟩
def akR:ca:=⟨9,[.bL 4],azP⟩
theorem azQ:cm N 199=some akR:=by kernel_rfl
def aBS:cy N 215:=⟨_,by conv=>lhs;reduce⟩
def akV:aB:=aJ (a:=aBS.1.body) ⟨_,by conv=>lhs;reduce⟩
def RE:ca:=⟨17,[.hy 2 true 3,.bL 3],akV⟩
theorem akW:cm N 215=some RE:=by kernel_rfl
def aBU:cy N 218:=⟨_,by conv=>lhs;reduce⟩
def azU:aB:=aJ (a:=aBU.1.body) ⟨_,by conv=>lhs;reduce⟩
def ak1:ca:=⟨87,[.hy 4 true 3,.bL 5],azU⟩
theorem azV:cm N 218=some ak1:=by kernel_rfl
def aBV:cy N 219:=⟨_,by conv=>lhs;reduce⟩
def ak2:aB:=aJ (a:=aBV.1.body) ⟨_,by conv=>lhs;reduce⟩
def RG:ca:=⟨53,[.hy 6 true 3,.bL 7],ak2⟩
theorem ak3:cm N 219=some RG:=by kernel_rfl
def aBW:cy N 220:=⟨_,by conv=>lhs;reduce⟩
def azW:aB:=aJ (a:=aBW.1.body) ⟨_,by conv=>lhs;reduce⟩
def ak6:ca:=⟨12,[.bL 2],azW⟩
theorem azX:cm N 220=some ak6:=by kernel_rfl
def aBX:cy N 221:=⟨_,by conv=>lhs;reduce⟩
def ak7:aB:=aJ (a:=aBX.1.body) ⟨_,by conv=>lhs;reduce⟩
def RH:ca:=⟨19,[.bL 2],ak7⟩
theorem ak8:cm N 221=some RH:=by kernel_rfl
def aBY:cy N 223:=⟨_,by conv=>lhs;reduce⟩
def azY:aB:=aJ (a:=aBY.1.body) ⟨_,by conv=>lhs;reduce⟩
def alb:ca:=⟨14,[.bL 4],azY⟩
theorem azZ:cm N 223=some alb:=by kernel_rfl
def aCa:cy N 239:=⟨_,by conv=>lhs;reduce⟩
def aAg:aB:=aJ (a:=aCa.1.body) ⟨_,by conv=>lhs;reduce⟩
def alq:ca:=⟨90,[.hy 4 true 3,.bL 5],aAg⟩
theorem aAh:cm N 239=some alq:=by kernel_rfl
def aCb:cy N 240:=⟨_,by conv=>lhs;reduce⟩
def alu:aB:=aJ (a:=aCb.1.body) ⟨_,by conv=>lhs;reduce⟩
def RP:ca:=⟨14,[.bL 4],alu⟩
theorem alv:cm N 240=some RP:=by kernel_rfl
def aCh:cy N 258:=⟨_,by conv=>lhs;reduce⟩
def aAA:aB:=aJ (a:=aCh.1.body) ⟨_,by conv=>lhs;reduce⟩
def alL:ca:=⟨8,[.hy 2 true 3,.bL 3],aAA⟩
theorem aAB:cm N 258=some alL:=by kernel_rfl
def aCm:cy N 275:=⟨_,by conv=>lhs;reduce⟩
def aAP:aB:=aJ (a:=aCm.1.body) ⟨_,by conv=>lhs;reduce⟩
def al2:ca:=⟨13,[.bL 2],aAP⟩
theorem aAQ:cm N 275=some al2:=by kernel_rfl
end
section
set_option maxRecDepth 100000
def aCs:cy N 66:=⟨_,by conv=>lhs;reduce⟩
def amL:aB:=aJ (a:=aCs.1.body) ⟨_,by conv=>lhs;reduce⟩
def ZA:ca:=⟨6,[.bL 2],amL⟩
theorem aA3:cm N 66=some ZA:=by kernel_rfl
def q8:cy N 87:=⟨_,by conv=>lhs;reduce⟩
def ZV:aB:=aJ (a:=bj q8.1.body 815) ⟨_,by conv=>lhs;reduce⟩
def SM:aB:=aJ (a:= λx=>bk 3 x (bj q8.1.body 303)) ⟨_,by conv=>lhs;reduce⟩ ZV
def SN:aB:=aJ (a:=bj q8.1.body 607) ⟨_,by conv=>lhs;reduce⟩
def SO:aB:=aJ (a:=bj q8.1.body 4863) ⟨_,by conv=>lhs;reduce⟩
def SP:aB:=aJ (a:=bj q8.1.body 9727) ⟨_,by conv=>lhs;reduce⟩
def SQ:aB:=aJ (a:=bj q8.1.body 1285442559) ⟨_,by conv=>lhs;reduce⟩
def SR:aB:=aJ (a:= λx=>bk 153 x (bj q8.1.body 10374143)) ⟨_,by conv=>lhs;reduce⟩ SQ
def SS:aB:=aJ (a:= λx=>bk 633 x (bj q8.1.body 19455)) ⟨_,by conv=>lhs;reduce⟩ SR
def SU:aB:=aJ (a:=bj q8.1.body 38911) ⟨_,by conv=>lhs;reduce⟩
def anq:aB:=aJ (a:=bj q8.1.body 8191) ⟨_,by conv=>lhs;reduce⟩
def anp:aB:=aJ (a:= λx y=>bk 3 y (bk 18 x (bj q8.1.body 4095))) ⟨_,by conv=>lhs;reduce⟩ SU anq
def ano:aB:=aJ (a:= λx y=>bk 3 y (bk 18 x (bj q8.1.body 2047))) ⟨_,by conv=>lhs;reduce⟩ SS anp
def ann:aB:=aJ (a:= λx y=>bk 3 y (bk 18 x (bj q8.1.body 1023))) ⟨_,by conv=>lhs;reduce⟩ SP ano
def ZU:aB:=aJ (a:= λx y=>bk 3 y (bk 18 x (bj q8.1.body 511))) ⟨_,by conv=>lhs;reduce⟩ SO ann
def SL:aB:=aJ (a:= λx=>bk 7 x (bj q8.1.body 127)) ⟨_,by conv=>lhs;reduce⟩ ZU
def anr:aB:=aJ (a:= λx y=>bk 3 y (bk 18 x (bj q8.1.body 63))) ⟨_,by conv=>lhs;reduce⟩ SN SL
def anm:aB:=aJ (a:= λx y=>bk 63 y (bk 303 x q8.1.body)) ⟨_,by conv=>lhs;reduce⟩ SM anr
def ZT:ca:=⟨397,[.bL 2],anm⟩
theorem aBc:cm N 87=some ZT:=by kernel_rfl
def aBs:cy N 134:=⟨_,by conv=>lhs;reduce⟩
def Yw:aB:=aJ (a:=aBs.1.body) ⟨_,by conv=>lhs;reduce⟩
def Ra:ca:=⟨15,[.bL 6],Yw⟩
theorem azc:cm N 134=some Ra:=by kernel_rfl
def aBt:cy N 135:=⟨_,by conv=>lhs;reduce⟩
def EU:aB:=aJ (a:=aBt.1.body) ⟨_,by conv=>lhs;reduce⟩
def Cw:ca:=⟨35,[.bL 12],EU⟩
theorem azd:cm N 135=some Cw:=by kernel_rfl
def aBu:cy N 136:=⟨_,by conv=>lhs;reduce⟩
def Rb:aB:=aJ (a:=aBu.1.body) ⟨_,by conv=>lhs;reduce⟩
def aze:ca:=⟨18,[.bL 4,.bL 5],Rb⟩
theorem azf:cm N 136=some aze:=by kernel_rfl
theorem atU{args:List Value}{m:G}{bu:Value->G->Prop}(h:args.length<=18):eu N 136 args m bu=fJ N Rb (ij args) m (m2 [.bL 4,.bL 5] bu):=nz azf h
def Ii:cy N 137:=⟨_,by conv=>lhs;reduce⟩
def Yy:aB:=aJ (a:=bj Ii.1.body 151) ⟨_,by conv=>lhs;reduce⟩
def Yz:aB:=aJ (a:=bj Ii.1.body 10036415) ⟨_,by conv=>lhs;reduce⟩
def YA:aB:=aJ (a:= λx=>bk 153 x (bj Ii.1.body 74943)) ⟨_,by conv=>lhs;reduce⟩ Yz
def YB:aB:=aJ (a:= λx=>bk 73 x (bj Ii.1.body 1215)) ⟨_,by conv=>lhs;reduce⟩ YA
def YC:aB:=aJ (a:=bj Ii.1.body 2431) ⟨_,by conv=>lhs;reduce⟩
def aj7:aB:=aJ (a:= λx y I=>bk 2431 I (bk 1215 y (bk 151 x Ii.1.body))) ⟨_,by conv=>lhs;reduce⟩ Yy YB YC
def Yx:ca:=⟨149,[.bL 2],aj7⟩
theorem azg:cm N 137=some Yx:=by kernel_rfl
def aBx:cy N 140:=⟨_,by conv=>lhs;reduce⟩
def akc:aB:=aJ (a:=aBx.1.body) ⟨_,by conv=>lhs;reduce⟩
def Re:ca:=⟨29,[.bL 2],akc⟩
theorem akd:cm N 140=some Re:=by kernel_rfl
def Z7:cy N 141:=⟨_,by conv=>lhs;reduce⟩
def Rf:aB:=aJ (a:=bj Z7.1.body 75) ⟨_,by conv=>lhs;reduce⟩
def Cx:aB:=aJ (a:=bj Z7.1.body 15) ⟨_,by conv=>lhs;reduce⟩
def LC:aB:=aJ (a:= λx y=>bk 15 y (bk 75 x Z7.1.body)) ⟨_,by conv=>lhs;reduce⟩ Rf Cx
def HH:ca:=⟨37,[.bL 8],LC⟩
theorem azh:cm N 141=some HH:=by kernel_rfl
def aBy:cy N 142:=⟨_,by conv=>lhs;reduce⟩
def LD:aB:=aJ (a:=aBy.1.body) ⟨_,by conv=>lhs;reduce⟩
def HI:ca:=⟨26,[.bL 8],LD⟩
theorem azi:cm N 142=some HI:=by kernel_rfl
def aae:cy N 189:=⟨_,by conv=>lhs;reduce⟩
def Rs:aB:=aJ (a:=bj aae.1.body 37) ⟨_,by conv=>lhs;reduce⟩
def LQ:aB:=aJ (a:=bj aae.1.body 7) ⟨_,by conv=>lhs;reduce⟩
def akH:aB:=aJ (a:= λx y=>bk 7 y (bk 37 x aae.1.body)) ⟨_,by conv=>lhs;reduce⟩ Rs LQ
def YL:ca:=⟨19,[.bL 4],akH⟩
theorem azE:cm N 189=some YL:=by kernel_rfl
def aaf:cy N 190:=⟨_,by conv=>lhs;reduce⟩
def LS:aB:=aJ (a:=bj aaf.1.body 75) ⟨_,by conv=>lhs;reduce⟩
def CA:aB:=aJ (a:=bj aaf.1.body 15) ⟨_,by conv=>lhs;reduce⟩
def Rt:aB:=aJ (a:= λx y=>bk 15 y (bk 75 x aaf.1.body)) ⟨_,by conv=>lhs;reduce⟩ LS CA
def HO:ca:=⟨21,[.bL 4],Rt⟩
theorem akJ:cm N 190=some HO:=by kernel_rfl
def aBQ:cy N 197:=⟨_,by conv=>lhs;reduce⟩
def HR:aB:=aJ (a:=aBQ.1.body) ⟨_,by conv=>lhs;reduce⟩
def EY:ca:=⟨25,[.bL 4],HR⟩
theorem azN:cm N 197=some EY:=by kernel_rfl
def aah:cy N 198:=⟨_,by conv=>lhs;reduce⟩
def Ry:aB:=aJ (a:=bj aah.1.body 75) ⟨_,by conv=>lhs;reduce⟩
def HS:aB:=aJ (a:=bj aah.1.body 15) ⟨_,by conv=>lhs;reduce⟩
def YO:aB:=aJ (a:= λx y=>bk 15 y (bk 75 x aah.1.body)) ⟨_,by conv=>lhs;reduce⟩ Ry HS
def Rx:ca:=⟨23,[.bL 4],YO⟩
theorem azO:cm N 198=some Rx:=by kernel_rfl
end
section
set_option maxRecDepth 100000
def aBL:cy N 19:=⟨_,by conv=>lhs;reduce⟩
def Rz:aB:=aJ (a:=aBL.1.body) ⟨_,by conv=>lhs;reduce⟩
def LR:ca:=⟨17,[.bL 4],Rz⟩
theorem azR:cm N 19=some LR:=by kernel_rfl
def aai:cy N 20:=⟨_,by conv=>lhs;reduce⟩
def RA:aB:=aJ (a:=bj aai.1.body 75) ⟨_,by conv=>lhs;reduce⟩
def LV:aB:=aJ (a:=bj aai.1.body 15) ⟨_,by conv=>lhs;reduce⟩
def YP:aB:=aJ (a:= λx y=>bk 15 y (bk 75 x aai.1.body)) ⟨_,by conv=>lhs;reduce⟩ RA LV
def LU:ca:=⟨26,[.bL 4],YP⟩
theorem akS:cm N 20=some LU:=by kernel_rfl
def SX:cy N 48:=⟨_,by conv=>lhs;reduce⟩
def Md:aB:=aJ (a:=bj SX.1.body 4868683) ⟨_,by conv=>lhs;reduce⟩
def H6:aB:=aJ (a:= λx=>bk 297 x (bj SX.1.body 19019)) ⟨_,by conv=>lhs;reduce⟩ Md
def Se:aB:=aJ (a:= λx=>bk 297 x (bj SX.1.body 75)) ⟨_,by conv=>lhs;reduce⟩ H6
def aml:aB:=aJ (a:= λx=>bk 75 x SX.1.body) ⟨_,by conv=>lhs;reduce⟩ Se
def Zp:ca:=⟨66,[.bL 4],aml⟩
theorem aAY:cm N 48=some Zp:=by kernel_rfl
def aCo:cy N 49:=⟨_,by conv=>lhs;reduce⟩
def E5:aB:=aJ (a:=aCo.1.body) ⟨_,by conv=>lhs;reduce⟩
def CD:ca:=⟨50,[.bL 4],E5⟩
theorem aAZ:cm N 49=some CD:=by kernel_rfl
def aCp:cy N 59:=⟨_,by conv=>lhs;reduce⟩
def amm:aB:=aJ (a:=aCp.1.body) ⟨_,by conv=>lhs;reduce⟩
def Sf:ca:=⟨14,[.hy 4 true 3],amm⟩
theorem amn:cm N 59=some Sf:=by kernel_rfl
def tT:cy N 60:=⟨_,by conv=>lhs;reduce⟩
def Me:aB:=aJ (a:=bj tT.1.body 428415) ⟨_,by conv=>lhs;reduce⟩
def E6:aB:=aJ (a:=bj tT.1.body 641407) ⟨_,by conv=>lhs;reduce⟩
def Zt:aB:=aJ (a:= λx=>bk 19 x (bj tT.1.body 51583)) ⟨_,by conv=>lhs;reduce⟩ E6
def H9:aB:=aJ (a:= λx y=>bk 12 y (bk 104 x (bj tT.1.body 6527))) ⟨_,by conv=>lhs;reduce⟩ Me Zt
def Sh:aB:=aJ (a:= λx=>bk 3 x (bj tT.1.body 2431)) ⟨_,by conv=>lhs;reduce⟩ H9
def Zv:aB:=aJ (a:=bj tT.1.body 106926847) ⟨_,by conv=>lhs;reduce⟩
def Mf:aB:=aJ (a:= λx=>bk 3 x (bj tT.1.body 39817983)) ⟨_,by conv=>lhs;reduce⟩ Zv
def Zu:aB:=aJ (a:= λx=>bk 4860 x (bj tT.1.body 13055)) ⟨_,by conv=>lhs;reduce⟩ Mf
def Mg:aB:=aJ (a:= λx=>bk 3 x (bj tT.1.body 4863)) ⟨_,by conv=>lhs;reduce⟩ Zu
def Si:aB:=aJ (a:=bj tT.1.body 9727) ⟨_,by conv=>lhs;reduce⟩
def amr:aB:=aJ (a:=bj tT.1.body 2047) ⟨_,by conv=>lhs;reduce⟩
def amq:aB:=aJ (a:= λx y=>bk 3 y (bk 18 x (bj tT.1.body 1023))) ⟨_,by conv=>lhs;reduce⟩ Si amr
def amp:aB:=aJ (a:= λx y=>bk 3 y (bk 18 x (bj tT.1.body 511))) ⟨_,by conv=>lhs;reduce⟩ Mg amq
def amo:aB:=aJ (a:= λx y=>bk 511 y (bk 2431 x tT.1.body)) ⟨_,by conv=>lhs;reduce⟩ Sh amp
def Zs:ca:=⟨206,[.hy 4 true 7],amo⟩
theorem aA0:cm N 60=some Zs:=by kernel_rfl
def anG:cy N 61:=⟨_,by conv=>lhs;reduce⟩
def Ia:aB:=aJ (a:=bj anG.1.body 75) ⟨_,by conv=>lhs;reduce⟩
def ams:aB:=aJ (a:= λx=>bk 75 x anG.1.body) ⟨_,by conv=>lhs;reduce⟩ Ia
def Zw:ca:=⟨35,[.bL 4],ams⟩
theorem aA1:cm N 61=some Zw:=by kernel_rfl
def aBg:cy N 101:=⟨_,by conv=>lhs;reduce⟩
def ajn:aB:=aJ (a:=aBg.1.body) ⟨_,by conv=>lhs;reduce⟩
def X7:ca:=⟨21,[.bL 4],ajn⟩
theorem ay3:cm N 101=some X7:=by kernel_rfl
def ZY:cy N 102:=⟨_,by conv=>lhs;reduce⟩
def QH:aB:=aJ (a:=bj ZY.1.body 37) ⟨_,by conv=>lhs;reduce⟩
def Lv:aB:=aJ (a:=bj ZY.1.body 7) ⟨_,by conv=>lhs;reduce⟩
def ajo:aB:=aJ (a:= λx y=>bk 7 y (bk 37 x ZY.1.body)) ⟨_,by conv=>lhs;reduce⟩ QH Lv
def X8:ca:=⟨18,[.bL 4],ajo⟩
theorem ay4:cm N 102=some X8:=by kernel_rfl
def aBi:cy N 108:=⟨_,by conv=>lhs;reduce⟩
def ajr:aB:=aJ (a:=aBi.1.body) ⟨_,by conv=>lhs;reduce⟩
def X9:ca:=⟨32,[.bL 8],ajr⟩
theorem ay5:cm N 108=some X9:=by kernel_rfl
def aBj:cy N 109:=⟨_,by conv=>lhs;reduce⟩
def ajs:aB:=aJ (a:=aBj.1.body) ⟨_,by conv=>lhs;reduce⟩
def Ya:ca:=⟨17,[.bL 4],ajs⟩
theorem ay6:cm N 109=some Ya:=by kernel_rfl
end
end Go.Proofs.YtmmkkggfmigppaaGreat
