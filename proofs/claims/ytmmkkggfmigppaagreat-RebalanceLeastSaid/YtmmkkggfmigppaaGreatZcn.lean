/- A part of the proof. -/
import Derived.Test.YtmmkkggfmigppaaGreatZcm
set_option linter.all false
set_option maxRecDepth 8000
set_option maxHeartbeats 16000000
namespace Go.DI
open Go Go.RowKit
variable{b k:Nat}{args:List Value}
theorem mW{a:Nat}(h:a≠b):Nat.beq a b=false:=by
 grind [Nat.eq_of_beq_eq_true]
inductive CK(I:Type) where
 |nil
 |Cy (v:Option I) (l r:CK I)
variable {I:Type}
def CK.W:CK I->Nat->Option I
 | .nil,_=>none
 | .Cy v l r,k=>bif Nat.beq k 0 then v else bif Nat.beq (k%2) 1 then l.W (k/2)else r.W (k/2-1)
def CK.set:Nat->CK I->Nat->Option I->CK I
 |0,t,_,_=>t
 |n+1,.nil,k,x=>bif Nat.beq k 0 then .Cy x .nil .nil else bif Nat.beq (k%2) 1 then .Cy none (CK.set n .nil (k/2) x) .nil else .Cy none .nil (CK.set n .nil (k/2-1) x)
 |n+1,.Cy v l r,k,x=>bif Nat.beq k 0 then .Cy x l r else bif Nat.beq (k%2) 1 then .Cy v (CK.set n l (k/2) x) r else .Cy v l (CK.set n r (k/2-1) x)
@[simp] theorem CK.aHX(k:Nat):(CK.nil:CK I).W k=none:=rfl
theorem CK.Po{v:Option I}{l r:CK I}:(CK.Cy v l r).W k=if k=0 then v else if k%2=1 then l.W (k/2)else r.W (k/2-1):=by
 show(bif Nat.beq k 0 then _ else _)=_
 grind [Nat.beq,mW]
theorem CK.Ma: ∀{n:Nat} {t:CK I} {k:Nat} {x:Option I} {j:Nat},k+1<2^n->(CK.set n t k x).W j=if j=k then x else t.W j
 |0,t,k,x,j,h=>by simp at h
 | n+1,t,k,x,j,h=>by
   have u:2^(n+1)=2*2^n:=(by rw[Nat.pow_succ];omega);have o: ∀(v:Option I) (l r:CK I),(if k=0 then CK.Cy x l r else if k%2=1 then .Cy v (CK.set n l (k/2) x) r else .Cy v l (CK.set n r (k/2-1) x)).W j=if j=k then x else(CK.Cy v l r).W j:= λv l r=>by
    by_cases g:k=0
    ·subst g;rw[if_pos rfl,CK.Po,CK.Po];by_cases d:j=0
     ·simp[d]
     ·simp[d]
    ·rw[if_neg g];by_cases i:k%2=1
     ·rw[if_pos i,CK.Po,CK.Po];by_cases d:j=0
      ·have:j≠k:=(by omega);simp[d];omega
      ·rw[if_neg d,if_neg d];by_cases f:j%2=1
       ·rw[if_pos f,if_pos f,CK.Ma (by omega)];by_cases e:j=k
        ·rw[if_pos e,if_pos (by omega)]
        ·rw[if_neg e,if_neg (by omega)]
       ·rw[if_neg f,if_neg f,if_neg (by omega)]
     ·rw[if_neg i,CK.Po,CK.Po];by_cases d:j=0
      ·simp[d];omega
      ·rw[if_neg d,if_neg d];by_cases f:j%2=1
       ·rw[if_pos f,if_pos f,if_neg (by omega)]
       ·rw[if_neg f,if_neg f,CK.Ma (by omega)];by_cases e:j=k
        ·rw[if_pos e,if_pos (by omega)]
        ·rw[if_neg e,if_neg (by omega)]
   have p: ∀{q:Type} (a b c:q),(bif Nat.beq k 0 then a else bif Nat.beq (k%2) 1 then b else c)=if k=0 then a else if k%2=1 then b else c:= λa b c=>by
    by_cases g:k=0
    ·simp[g]
    ·have i:Nat.beq k 0=false:=mW g;rw[i,if_neg g];show(bif Nat.beq (k%2) 1 then _ else _)=_;by_cases m:k%2=1
     ·simp[m]
     ·have s:Nat.beq (k%2) 1=false:=mW m;rw[s,if_neg m];rfl
   cases t with
   | nil=>
     show(bif Nat.beq k 0 then CK.Cy x .nil .nil else bif Nat.beq (k%2) 1 then .Cy none (CK.set n .nil (k/2) x) .nil else .Cy none .nil (CK.set n .nil (k/2-1) x)).W j=_;rw[p,o none .nil .nil];by_cases e:j=k
     ·rw[if_pos e,if_pos e]
     ·rw[if_neg e,if_neg e,CK.Po];simp
   | Cy v l r=>show(bif Nat.beq k 0 then CK.Cy x l r else bif Nat.beq (k%2) 1 then .Cy v (CK.set n l (k/2) x) r else .Cy v l (CK.set n r (k/2-1) x)).W j=_;rw[p,o v l r]
abbrev E9:=CK Value
def FP(S:E9):A6:= λk=>match S.W k with|some v=>v|none=>undef
def Pn(k:Nat):Bool:=Nat.blt k 2000000
theorem Qj(h:Pn k=true):k+1<2^21:=by
 grind [Pn,Nat.blt_eq]
def NS(S:E9)(d:Option Nat)(v:Value):Option E9:=match d with
 |none=>some S
 |some k=>if Pn k then some (CK.set 21 S k (some v))else none
theorem mI{S a:E9}{d:Option Nat}{v:Value}(h:NS S d v=some a):FP a=Af (FP S) d v:=by
 unfold NS at h;cases d with
 |none=>cases h;rfl
 | some k=>
   simp only at h;split at h
   ·next b=>
    cases h;funext j;show(match(CK.set 21 S k (some v)).W j with|some v=>v|none=>undef)=FT (FP S) k v j;rw[CK.Ma (Qj b)];unfold FT;by_cases e:j=k
    ·rw[if_pos e,if_pos e]
    ·rw[if_neg e,if_neg e];rfl
   ·cases h
def Q6:List Value->Nat->E9->E9
 |[],_,S=>S
 |v::l,k,S=>Q6 l (k+1) (CK.set 21 S k (some v))
theorem ug: ∀{l:List Value} {k:Nat} {S:E9} {j:Nat},k+l.length<1000000->(Q6 l k S).W j=if k<=j/\j<k+l.length then l[j-k]? else S.W j
 | [],k,S,j,h=>by rw[if_neg λa=>by simp at a;omega];rfl
 | v::l,k,S,j,h=>by
   simp only[Df]at h;show(Q6 l (k+1) (CK.set 21 S k (some v))).W j=_;rw[ug (by omega),CK.Ma (by omega)]
   grind
theorem a4p(h:args.length<1000000):FP (Q6 args 0 .nil)=Cp args:=by
 funext j;show(match(Q6 args 0 .nil).W j with|some v=>v|none=>undef)=args.getD j undef;rw[ug (by omega)];by_cases a:j<args.length
 ·simp_all
 ·simp_all
structure CH where
 next:Nat
 C1:CK Bw
 mp:CK (List (Value×Value))
def Ad(Z:CH):V:=⟨Z.next,λb=>Z.C1.W b,λb=>Z.mp.W b⟩
def Vv:CH:=⟨0,.nil,.nil⟩
def CN(Z:CH):Prop:= ∀i,Z.next<=i->Z.C1.W i=none
theorem tC:Ad Vv=D0:=rfl
theorem pB:CN Vv:= λ_ _=>rfl
def RZ(Z:CH)(k:Nat):CH:=⟨Z.next+k,Z.C1,Z.mp⟩
variable{Z cK:CH}{x:Option Bw}{es:List (Value×Value)}{f:Nat}{r:Value}{ts:List Value}{aF:Value->V->Prop}
theorem vU(h:CN Z):Ad (RZ Z k)=(Ad Z).AE k:=by
 unfold Ad RZ V.AE;simp only[V.mk.injEq,and_true,true_and];funext i;by_cases a:i<Z.next
 ·rw[if_pos a]
 ·rw[if_neg a];exact h i (by omega)
theorem tH(h:CN Z):CN (RZ Z k):= λi a=>h i (by simp[RZ]at a;omega)
def HX(Z:CH)(b:Nat)(x:Option Bw):Option CH:=if Pn b&&Nat.blt b Z.next then some ⟨Z.next,CK.set 21 Z.C1 b x,Z.mp⟩else none
theorem P2(d:CN Z)(h:HX Z b x=some cK):CN cK/\Ad cK=(Ad Z).A0 b x:=by
 unfold HX at h;split at h
 ·next a=>
  cases h;simp only[AB,Nat.blt_eq]at a;refine⟨λi c=> ?_,?_⟩
  ·show(CK.set 21 Z.C1 b x).W i=none;rw[CK.Ma (Qj a.1),if_neg (by simp at c;omega)];exact d i c
  ·unfold Ad V.A0
   grind [CK.Ma,Qj]
 ·cases h
def aM(Z:CH)(b:Nat)(es:List (Value×Value)):Option CH:=if Pn b&&Nat.blt b Z.next then some ⟨Z.next,CK.set 21 Z.C1 b (some ⟨[],true⟩),CK.set 21 Z.mp b (some es)⟩else none
theorem qx(d:CN Z)(h:aM Z b es=some cK):CN cK/\Ad cK=(Ad Z).Cf b es:=by
 unfold aM at h;split at h
 ·next a=>
  cases h;simp only[AB,Nat.blt_eq]at a;refine⟨λi c=> ?_,?_⟩
  ·show(CK.set 21 Z.C1 b (some ⟨[],true⟩)).W i=none;rw[CK.Ma (Qj a.1),if_neg (by simp at c;omega)];exact d i c
  ·unfold Ad V.Cf
   grind [CK.Ma,Qj]
 ·cases h
def Pu(k:K)(id:Nat)(A:A6)(Z:CH):Option CH:=
 match k with
 | .IX z=>HX Z id (some ⟨z,true⟩)
 | .JP x=>HX Z id (some ⟨H (O A x),true⟩)
 | .HG _ _ z ps=>HX Z id (some ⟨G5 z A ps,true⟩)
 | .store _ x v=>(match O A x with
   | .pointer (some a)=>(match Z.C1.W a.block with|some y=>HX Z a.block (some ⟨C3 y.cells a.off (H (O A v)),y.own⟩)|none=>none)
   |_=>none)
 | .MS x=>HX Z id (some ⟨SJ (Lb (O A x)),true⟩)
 | .IA _ _ zero l _=>HX Z id (some ⟨(List.replicate (Bh (O A l)).toNat zero).flatten,true⟩)
 | .KD _ _ zero _ l=>HX Z id (some ⟨(List.replicate (Bh (O A l)).toNat zero).flatten,true⟩)
 | .Cm zero x=>(match O A x with
   | .slice none _ _=>some Z
   | .slice (some a) l _=>(match Z.C1.W a.block with|some y=>HX Z a.block (some ⟨C3 y.cells a.off (List.replicate l zero).flatten,y.own⟩)|none=>none)
   |_=>none)
 | .app z _ x y=>if Dz (O A y)=0 then some Z else(match O A x with
   | .slice (some ⟨b,_,none⟩) l _=>(match HX Z b none with
     |some B=>HX B id (some ⟨C7 (Ad Z) z (O A x)++FA (Ad Z) z (O A y),true⟩)
     |none=>none)
   | .slice none _ _=>HX Z id (some ⟨FA (Ad Z) z (O A y),true⟩)
   |_=>none)
 | .LB=>aM Z id []
 | .Kn _ x k v=>aM Z (Mx (O A x)) (DM (O A k) (O A v) (((Ad Z).BL (Mx (O A x))).getD []))
 |_=>some Z
theorem sy{x:Bw}(a:CN Z)(h:Z.C1.W b=some x):(Ad Z).W b=some x:=by
 have:b<Z.next:=Nat.lt_of_not_le λe=>by rw[a b e]at h;cases h
 show(if b<Z.next then Z.C1.W b else none)=_;rw[if_pos this,h]
theorem zL{k:K}{id:Nat}{A:A6}{Z cK:CH}(f:CN Z)(h:Pu k id A Z=some cK):CN cK/\Ad cK=k.Gz id A (Ad Z):=by
 have key: ∀{b:Nat} {x:Option Bw},HX Z b x=some cK->CN cK/\Ad cK=(Ad Z).A0 b x:= λh=>P2 f h;cases k with
 |IX z=>exact key h
 |JP x=>exact key h
 |HG a b z ps=>exact key h
 | store n x v=>
   simp only[Pu]at h;show CN cK/\Ad cK=FJ (Ad Z) (O A x) (H (O A v))
   grind [FJ,sy]
 |MS x=>exact key h
 |IA a b c d e=>exact key h
 |KD a b c d e=>exact key h
 | Cm zero x=>
   simp only[Pu]at h;show CN cK/\Ad cK=Gj (Ad Z) zero (O A x)
   grind [Gj,sy]
 | app z r x y=>
   simp only[Pu]at h;show CN cK/\Ad cK=if Dz (O A y)=0 then Ad Z else if Dn (Ad Z) z (O A x) (Dz (O A y))then GA (Ad Z) z (O A x) (FA (Ad Z) z (O A y))else(Dx (Ad Z) (O A x)).A0 id (some ⟨C7 (Ad Z) z (O A x)++FA (Ad Z) z (O A y),true⟩)
   split at h
   ·simp_all
   ·next m=>
    rw[if_neg m];split at h
    ·next a0 s l c g=>
     rw[g,a3i];split at h
     ·next B o=>obtain⟨p,q⟩:=P2 f o;obtain⟨i,j⟩:=P2 p h;refine⟨i,?_⟩;rw[j,q,g];rfl
     ·cases h
    ·next l c g=>
     obtain⟨i,j⟩:=P2 f h
     simp_all
    ·cases h
 |LB=>exact qx f h
 |Kn a x k v=>exact qx f h
 |_=>cases h;exact⟨f,rfl⟩
abbrev KY:=Nat->List Value->CH->Option (Value×CH)
def aN(Z:CH):List Nat->Option CH
 |[]=>some Z
 | o::l=>match HX Z o none with
   |some B=>aN B l
   |none=>none
def Yz(Z B:CH):List Nat->Option CH
 |[]=>some B
 | o::l=>match HX B o (Z.C1.W o)with
   |some C=>Yz Z C l
   |none=>none
def Se(Z:CH):List Nat->Option CH
 |[]=>some Z
 | o::l=>match Z.C1.W o with
   | some x=>(match HX Z o (some ⟨x.cells,false⟩)with
     |some B=>Se B l
     |none=>none)
   |none=>Se Z l
def QI(Z:CH):List Nat->Option CH
 |[]=>some Z
 | o::l=>match Z.mp.W o with
   |some _=>if Pn o then QI ⟨Z.next,Z.C1,CK.set 21 Z.mp o none⟩ l else none
   |none=>QI Z l
def Q0(b4:KY)(f:Nat)(args:List Value)(Z:CH):Option (Value×CH):=match QY 9 (Ad Z) args with
 | some ts=>(match b4 f ts Vv with
   | some (v,B)=>(match Az 9 (Ad B) v with
     | some r=>if Fp r then(match QI Z (args.flatMap (As 9 (Ad Z)))with
      |some C=>some (r,C)
      |none=>none)
       else(match Se Z (args.flatMap (As 9 (Ad Z)))with
        |some C=>some (r,C)
        |none=>none)
     |none=>none)
   |none=>none)
 |none=>none
def Lf(b4:KY)(f:Nat)(args:List Value)(Z:CH):List Nat->Option (Value×CH)
 |[]=>b4 f args Z
 | L =>if L.all (λo=>match Z.C1.W o with|some x=> !x.cells.isEmpty|none=>false)then
  (match aN Z L with
  | some a=>(match b4 f args a with
    | some (r,B)=>(match Yz Z B L with
      |some C=>some (r,C)
      |none=>none)
    |none=>Q0 b4 f args Z)
  |none=>none)
   else Q0 b4 f args Z
def R3(b4:KY)(base:Nat)(o:Ap)(S:E9)(Z:CH):Option (E9×CH):=
 let A:=FP S
 let b (x:Option (Value×CH)):Option (E9×CH):=match x with
  | some (r,cK)=>(match NS S o.d r with
    |some e=>some (e,cK)
    |none=>none)
  |none=>none
 match o.k with
 | .KC f a=>b (Lf b4 f (a.map (O A)) Z (Fo A (Ad Z) o.Gc))
 | .Iw x a=>(match O A x with
   | .func (.func f) first g=>b (Lf b4 f (first.toList++a.map (O A)++g.toList) Z (Fo A (Ad Z) o.Gc))
   |_=>none)
 | .Ip b5 x a=>(match O A x with
   | .iface t v=>(match b5.find? (λr=>r.1==t)with
     |some (_,f,none)=>b (Lf b4 f (v::a.map (O A)) Z (Fo A (Ad Z) o.Gc))
     |some (_,f,some (c,n))=>if J6 (Ad Z) v n&&(c||decide (n=1))then b (Lf b4 f (Nw (Ad Z) c n v::a.map (O A)) Z (Fo A (Ad Z) o.Gc))else none
     |none=>none)
   |_=>none)
 | k=>if k.Dq A (Ad Z)&&Du A (Ad Z) o.Gc then(match Pu k (base+o.AO) A Z with
   |some cK=>b (some (k.E0 (base+o.AO) A (Ad Z),cK))
   |none=>none)else none
def MI(b4:KY)(base:Nat):List Ap->E9->CH->Option (E9×CH)
 |[],S,Z=>some (S,Z)
 | o ::b,S,Z=>if Bf (FP S) o.g then(match R3 b4 base o S Z with
  |some (a,cK)=>MI b4 base b a cK
  |none=>none)
   else(match NS S o.d undef with
    |some a=>MI b4 base b a Z
    |none=>none)
def Rx(ops:List Ap)(Z:CH):CH:=if ops.any (λo=>o.k.Bt)then RZ Z ops.length else Z
def cN(f:E9->CH->Option (BM×E9×CH)):Nat->E9->CH->Option (BM×E9×CH)
 |0,_,_=>none
 | n+1,S,Z=>match f S Z with
   |some (.Cx,a,cK)=>cN f n a cK
   |r=>r
def JR(b4:KY)(n:Nat):D->E9->CH->Option (BM×E9×CH)
 | .skip,S,Z=>some (.Cx,S,Z)
 | .FI ops,S,Z=>(match MI b4 Z.next ops S (Rx ops Z)with
   |some (d,cK)=>some (.Cx,d,cK)
   |none=>none)
 | .Ky _ _ _,_,_=>none
 | .Ez a b,S,Z=>(match JR b4 n a S Z with
   |some (.Cx,d,cK)=>JR b4 n b d cK
   |r=>r)
 | .Gh c a b,S,Z=>(match O (FP S) c with
   | .bool true=>JR b4 n a S Z
   | .bool false=>JR b4 n b S Z
   |_=>none)
 | .block id c,S,Z=>(match JR b4 n c S Z with
   |some (.Ai e,d,cK)=>if e=id then some (.Cx,d,cK)else some (.Ai e,d,cK)
   |r=>r)
 | .loop c,S,Z=>cN (JR b4 n c) n S Z
 | .Ai id,S,Z=>some (.Ai id,S,Z)
 | .DO,S,Z=>some (.DO,S,Z)
def YC(a:List Fy):Option (BM×E9×CH)->Option (Value×CH)
 |some (.Ai _,_,_)=>none
 |some (_,S,Z)=>if FM (Ad Z) (FP S) a then some (Fg (Ad Z) (FP S) a,Z)else none
 |none=>none
theorem wA(a:CN Z):(Ad Z).W b=Z.C1.W b:=by
 show(if b<Z.next then Z.C1.W b else none)=_;by_cases h:b<Z.next
 ·rw[if_pos h]
 ·rw[if_neg h,a b (by omega)]
theorem mN: ∀{L:List Nat} {Z a:CH},CN Z->aN Z L=some a->CN a/\Ad a=ER (Ad Z) L
 | [],Z,a,b,h=>by cases h;refine⟨b,?_⟩;unfold ER;simp
 | o::l,Z,a,b,h=>by
   simp only[aN]at h;split at h
   ·next B c=>
    obtain⟨d,e⟩:=P2 b c;obtain⟨f,g⟩:=mN d h;refine⟨f,?_⟩;rw[g,e];unfold ER V.A0
    grind
   ·cases h
theorem ka: ∀{L:List Nat} {B C:CH},CN B->Yz Z B L=some C->CN C/\Ad C=FU (Ad Z) (Ad B) L
 | [],B,C,a,h=>by cases h;refine⟨a,?_⟩;unfold FU;simp
 | o::l,B,C,a,h=>by
   simp only[Yz]at h;split at h
   ·next j c=>
    obtain⟨e,f⟩:=P2 a c;obtain⟨g,i⟩:=ka e h;refine⟨g,?_⟩;rw[i,f];unfold FU V.A0;simp only[V.mk.injEq,true_and,and_true];funext b;by_cases c:b∈l
    ·simp_all
    ·rw[if_neg c];by_cases d:b=o
     ·rw[if_pos d,if_pos (by simp[d]),d];rfl
     ·simp_all
   ·cases h
theorem X0: ∀{L:List Nat} {Z C:CH},CN Z->Se Z L=some C->CN C/\Ad C=Jb (Ad Z) L
 |[],Z,C,a,h=>by cases h;exact⟨a,rfl⟩
 | o::l,Z,C,a,h=>by
   simp only[Se]at h;rw[Z8,wA a];split at h
   ·next x b=>
    rw[b];simp only;split at h
    ·next B c=>obtain⟨d,e⟩:=P2 a c;rw[<-e];exact X0 d h
    ·cases h
   ·next b=>rw[b];exact X0 a h
theorem ZV: ∀{L:List Nat} {Z C:CH},CN Z->QI Z L=some C->CN C/\Ad C=Cm (Ad Z) L
 |[],Z,C,a,h=>by cases h;exact⟨a,(a0F _).symm⟩
 | o::l,Z,C,a,h=>by
   have c: ∀{cK:CH},CN cK->QI cK l=some C->cK.next=Z.next->cK.C1=Z.C1->(∀b,b∉l->cK.mp.W b=if b=o then none else Z.mp.W b)->CN C/\Ad C=Cm (Ad Z) (o::l):= λ{cK} d f i hb j=>by
    obtain⟨w,e⟩:=ZV d f;refine⟨w,?_⟩;rw[e];unfold Cm Ad
    grind
   simp only[QI]at h;split at h
   ·split at h
    ·next g=>exact c (cK:=⟨Z.next,Z.C1,CK.set 21 Z.mp o none⟩) a h rfl rfl λb _=>CK.Ma (Qj g)
    ·cases h
   ·grind
variable {P:Program} {J:C5} {u:Ca} {t m:V} {A N:A6}
noncomputable def a2(h:AL P f ts r):AK P:=by
 classical exact⟨f,λa=>if a=ts then some r else none,λa b e=>by
  simp_all⟩
theorem gq(h:AL P f ts r)(a:QY 9 t args=some ts)(b:aF r (if Fp r then Cm t (args.flatMap (As 9 t))else Jb t (args.flatMap (As 9 t)))):NM [a2 h] f args t aF:=by
 simp_all [a2]
def KI(P:Program)(b4:KY):Prop:= ∀f args Z r cK,CN Z->b4 f args Z=some (r,cK)->CN cK/\Bv P f args (Ad Z) λa b=>a=r/\b=Ad cK
variable{b4:KY}{ops:List Ap}{S E:E9}{B C:CH}{R:A6}{base n:Nat}{o:Ap}
theorem aBJ(i:KI P b4)(b:CN Z)(h:Q0 b4 f args Z=some (r,cK)):
 CN cK/\ ∃ts,∃c:AL P f ts r,NM [a2 c] f args (Ad Z) λd e=>d=r/\e=Ad cK:=by
 unfold Q0 at h;split at h
 ·next ts q=>
  split at h
  ·next v B j=>
   obtain⟨s,k⟩:=i _ _ _ _ _ pB j;split at h
   ·next l m=>
    have c:AL P f ts l:=BG (by have:=k;rw[tC]at this;exact this.AG λd e g=>by rw[g.1,g.2];exact m);split at h
    ·next n=>
     split at h
     ·next C a=>
      cases h;obtain⟨o,p⟩:=ZV b a
      grind [gq]
     ·cases h
    ·next n=>
     split at h
     ·next C a=>
      cases h;obtain⟨o,p⟩:=X0 b a
      grind [gq]
     ·cases h
   ·cases h
  ·cases h
 ·cases h
theorem aBP{b4:KY}(v:KI P b4){f:Nat}{args j:List Value}{Z cK:CH}{r:Value}{g:List (Operand×Operand)}(y:CN Z)(i:BI J u (Ad Z) m)(F:D5 u J A N)(G:g.all (λp=>An p.1&&An p.2)=true)(z:AJ u J args j)
 (h:Lf b4 f args Z (Fo A (Ad Z) g)=some (r,cK)):CN cK/\
 Aq P f j m λd c=>KO N g m c/\ ∃a b,BI a b (Ad cK) c/\AW b a r d/\Be (Ad Z).next m.next J u (Ad Z) m a b (Ad cK) c:=by
 have pure: ∀{x:Value×CH},Q0 b4 f args Z=some x->x=(r,cK)->CN cK/\Aq P f j m λd c=>KO N g m c/\ ∃a b,BI a b (Ad cK) c/\AW b a r d/\Be (Ad Z).next m.next J u (Ad Z) m a b (Ad cK) c:= λ{x} I e=>by
  subst e;obtain⟨w,ts,K,q⟩:=aBJ v y I;refine⟨w,(hc i z q).AG λd c k=> ?_⟩
  grind [pM]
 cases n:Fo A (Ad Z) g with
 | nil=>rw[n]at h;simp only[Lf]at h;obtain⟨w,q⟩:=v _ _ _ _ _ y h;refine⟨w,(q J u j m i z).AG λd c k=> ?_⟩;obtain⟨a,b,L,M,⟨rfl,rfl⟩,D,s,t⟩:=k;exact⟨bP i F G t.DW (by rw[n];nofun),a,b,D,s,t⟩
 | cons o l=>
   rw[n]at h;simp only[Lf]at h;split at h
   ·next A0=>
    split at h
    ·next A1 O=>
     obtain⟨Q,R⟩:=mN y O;split at h
     ·next A2 B S=>
      split at h
      ·next C D=>
       cases h;obtain⟨T,H⟩:=v _ _ _ _ _ Q S;obtain⟨U,V⟩:=ka T D;refine⟨U,?_⟩;rw[R]at H;have X: ∀p∈o::l,∃x,(Ad Z).W p=some x/\x.cells≠[]:= λp K=>by
        grind [wA]
       refine(ve X H i z).AG λd c k=> ?_;obtain⟨Y,a,b,L,M,⟨rfl,rfl⟩,s,t,E⟩:=k;rw[<-V]at s E;exact⟨bP i F G E.DW (by rw[n];exact Y),a,b,s,t,E⟩
      ·cases h
     ·exact pure h rfl
    ·cases h
   ·exact pure h rfl
variable {P:Program}
def Ki(d e:Nat)(J:C5)(u:Ca)(t m:V)(f:E9)(B:CH)(g:A6)(c:V):Prop:= ∃a b,BI a b (Ad B) c/\D5 b a (FP f) g/\Be d e J u t m a b (Ad B) c
theorem Yg{b4:KY}(A8:KI P b4){base i:Nat}: ∀{ops:List Ap} {J:C5} {u:Ca} {S F:E9} {Z B:CH} {m:V} {N:A6},ops.all Wm=true->MK (ops.map (·.AO))=true->CN Z->BI J u (Ad Z) m->D5 u J (FP S) N->Oo J u (Ad Z) m base i ops->base<=Z.next->i<=m.next->
 MI b4 base ops S Z=some (F,B)->CN B/\Bm P i ops N m λG A=>Ki base i J u (Ad Z) m F B G A
 | [],J,u,S,F,Z,B,m,N,_,_,A2,M,p,_,_,_,h=>by cases h;refine⟨A2,?_⟩;rw[kt];exact⟨J,u,M,p,Be.refl⟩
 | o::ops,J,u,S,F,Z,B,m,N,A3,An,A2,M,p,H,hb,A9,h=>by
   obtain⟨t,d,g,k,Q⟩:=o;simp only[Fz,AB]at A3;obtain⟨Ao,AE⟩:=nodup_cons An;have AD:=A3.1;simp only[Wm,AB]at AD;have skip: ∀{E:E9},NS S d undef=some E->MI b4 base ops E Z=some (F,B)->CN B/\Bm P i ops (Af N d undef) m λG A=>Ki base i J u (Ad Z) m F B G A:= λ{E} Ar h=>by refine Yg A8 A3.2 AE A2 M ?_ (λo U R=>H o (by simp[U]) R) hb A9 h;rw[mI Ar];exact p.A0 AW.undef
   have As: ∀{x:E9×CH},R3 b4 base ⟨t,d,g,k,Q⟩ S Z=some x->MI b4 base ops x.1 x.2=some (F,B)->CN B/\Bm P i (⟨t,d,none,k,Q⟩::ops) N m λG A=>Ki base i J u (Ad Z) m F B G A:= λ{x} c h=>by

    have after: ∀{f:Nat} {args W:List Value} {y:E9×CH} {L6:Value->V->Prop},AJ u J args W->(match Lf b4 f args Z (Fo (FP S) (Ad Z) Q)with
     | some (r,cK)=>(match NS S d r with
       |some AF=>some (AF,cK)
       |none=>none)
     |none=>none)=some x->CN B/\Aq P f W m (M9 P i d Q ops N m (λG A=>Ki base i J u (Ad Z) m F B G A)):= λ{f args W y L6} R z=>by
     split at z
     ·next r C T=>
      split at z
      ·next E At=>
       cases z;obtain⟨AH,q⟩:=aBP A8 A2 M p AD.2 R T;have step: ∀{D:C5} {I:Ca} {X:Value} {Y:V},BI D I (Ad C) Y->AW I D r X->Be (Ad Z).next m.next J u (Ad Z) m D I (Ad C) Y->CN B/\Bm P i ops (Af N d X) Y λG A=>Ki base i J u (Ad Z) m F B G A:= λ{D I X Y} A4 A5 s=>by
        have AK:D5 I D (FP E) (Af N d X):=(by rw[mI At];exact(p.AG s.f s.e).A0 A5);have AL:Oo D I (Ad C) Y base i ops:= λo U R=>by
         have j:=H o (by simp[U]) R;refine⟨?_,λo' A1=> ?_,?_,Eo j.Mt s.Gm,Eo j.LA s.Gt⟩
         ·cases AM:D (base+o.AO)with
          |none=>rfl
          | some b=>
            rcases s.MR _ _ AM with l|⟨l,_⟩
            ·rw[j.e]at l;cases l
            ·have:=j.Mt;omega
         ·rcases s.MR _ _ A1 with l|⟨_,l⟩
          ·exact j.b _ l
          ·have:=j.LA;omega
         ·cases AM:I (i+o.AO)with
          |none=>rfl
          | some cs=>
            rcases s.fn _ _ AM with l|l|⟨o',_,l,_⟩
            ·rw[j.f]at l;cases l
            ·have:=j.LA;omega
            ·exact absurd l (j.b o')
        obtain⟨AN,AP⟩:=Yg A8 A3.2 AE AH A4 AK AL (Dh hb s.Gm) (Dh A9 s.Gt) h;refine⟨AN,?_⟩;obtain⟨n,AQ,AR,AS,AT,AU,AV,AX,AY⟩:=AP;exact⟨n,AQ,AR,AS,AT,AU,AV,AX,(s.Kr hb A9).trans AY⟩
       have Au:CN B:=(by obtain⟨n,X,A,_,_,D,I,A4,A5,s⟩:=q;exact(step A4 A5 s).1);refine⟨Au,q.AG λX Y Av=> ?_⟩;obtain⟨Aa,D,I,A4,A5,s⟩:=Av;exact⟨Aa,(step A4 A5 s).2⟩
      ·cases z
     ·cases z
    have Aw: ∀{k:K},k.F0=false->OB k=true->(k.Bt=true->KB J u (Ad Z) m (base+t) (i+t))->(if k.Dq (FP S) (Ad Z)&&Du (FP S) (Ad Z) Q then(match Pu k (base+t) (FP S) Z with
     | some cK=>(match some (k.E0 (base+t) (FP S) (Ad Z),cK)with
       | some (r,cK)=>(match NS S d r with
         |some AF=>some (AF,cK)
         |none=>none)
       |none=>none)
     |none=>none)else none)=some x->
     CN B/\Bm P i (⟨t,d,none,k,Q⟩::ops) N m λG A=>Ki base i J u (Ad Z) m F B G A:= λ{k} z Aa j c=>by
     split at c
     ·next Ab=>
      simp only[AB]at Ab;split at c
      ·next C Ax=>
       simp only at c;split at c
       ·next E Ay=>
        cases c;obtain⟨AH,Ah⟩:=zL A2 Ax;obtain⟨T,D,q⟩:=wZ (h4:=base) (iv:=i) (id:=base+t) (mid:=i+t) M p z Aa Ab.1 j (by omega) (by omega);have AK:D5 u D (FP E) (Af N d (k.val (i+t) N m)):=(by rw[mI Ay];exact(p.AG q.AZ.f q.AZ.e).A0 q.val);have AL:Oo D u (Ad C) (k.Cl (i+t) N m) base i ops:= λo U R=>by
         have j:=H o (by simp[U]) R;have c:=Ao o U;simp only at c;rw[Ah];refine⟨by rw[q.eQ _ (by omega)];exact j.e,λo' A1=> ?_,j.f,Eo j.Mt q.AZ.Gm,Eo j.LA q.AZ.Gt⟩;by_cases e:o'=base+t
         ·subst e;rcases q.self with l|l
          ·rw[l]at A1;exact j.b _ A1
          ·grind
         ·rw[q.eQ _ e]at A1;exact j.b _ A1
        have Ak:=q.q4;have H:=q.AZ;rw[<-Ah]at Ak H;obtain⟨AN,AP⟩:=Yg A8 A3.2 AE AH Ak AK AL (Dh hb H.Gm) (Dh A9 H.Gt) h;refine⟨AN,?_⟩;rw[FR z];refine⟨T,tv M p AD.2 Ab.2,?_⟩;obtain⟨n,AQ,AR,AS,AT,AU,AV,AX,AY⟩:=AP;exact⟨n,AQ,AR,AS,AT,AU,AV,AX,H.trans AY⟩
       ·cases c
      ·cases c
     ·cases c
    have Az:=H ⟨t,d,g,k,Q⟩ (by simp);have Al:=AD.1;have L:=Al;simp only[OB,AB]at L;cases k with
    | KC f W=>rw[ks];exact after (y:=x) (L6:= λ_ _=>True) (p.PI L.1) c
    | Iw x W=>
      simp only[R3]at c;simp only[K.D6,Fz,AB]at L;split at c
      ·next f first B4 Ac=>have A7:=p.O L.1.1;rw[Ac]at A7;obtain⟨ys,ds,e,B0,B1⟩:=A7.QU;rw[k8 e];exact after (y:=⟨S,Z⟩) (L6:= λ_ _=>True) ((B0.Iu (p.PI L.1.2)).Iu B1) c
      ·cases c
    | Ip b5 x W=>
      simp only[R3]at c;simp only[K.D6,Fz,AB]at L;rw[a7l];split at c
      ·next B5 v Ac=>
       have A7:=p.O L.1.1;rw[Ac]at A7;obtain⟨B6,e,Ae⟩:=A7.V8;rw[e];unfold HK;split at c
       ·next a f Ag=>simp only[Ag];exact after (y:=⟨S,Z⟩) (L6:= λ_ _=>True) (AJ.cons Ae (p.PI L.1.2)) c
       ·next a f B7 n Ag=>
        simp only[Ag];split at c
        ·next z=>
         simp only[AB]at z;have T:=VF M Ae z.1;obtain⟨w,q⟩:=after (y:=⟨S,Z⟩) (L6:= λ_ _=>True) (AJ.cons (hI M Ae z.1 z.2) (p.PI L.1.2)) c
         simp_all
        ·cases c
       ·cases c
      ·cases c
    |_=>exact Aw rfl Al Az c
   simp only[MI]at h;split at h
   ·next Am=>
    split at h
    ·next E C T=>
     cases g with
     |none=>exact As T h
     | some g=>
       grind [dQ,jv]
    ·cases h
   ·next Am=>
    split at h
    ·next E T=>
     cases g with
     |none=>exact absurd rfl Am
     | some g=>
       grind [dQ,jv]
    ·cases h
theorem uV(a:CN Z):CN (Rx ops Z)/\Ad (Rx ops Z)=Cu ops (Ad Z):=by
 grind [Rx,Cu,tH,vU]
theorem a4u(s:KI P b4)(a:Gi (.FI ops)=true){J:C5}{u:Ca}{f:E9}{m:V}{N:A6}(t:CN Z)(c:BI J u (Ad Z) m)(v:D5 u J (FP S) N)(h:MI b4 Z.next ops S (Rx ops Z)=some (f,B)):
 CN B/\Bm P m.next ops N (Cu ops m) λx y=>Ki Z.next m.next J u (Ad Z) m f B x y:=by
 simp only[Gi,AB]at a;obtain⟨z,g⟩:=uV (ops:=ops) t;have i:BI J u (Cu ops (Ad Z)) (Cu ops m):=by
  grind [Cu,mP]
 have d:Be Z.next m.next J u (Ad Z) m J u (Cu ops (Ad Z)) (Cu ops m):=by
  unfold Cu;split
  ·exact az c _
  ·exact Be.refl
 have j:Oo J u (Cu ops (Ad Z)) (Cu ops m) Z.next m.next ops:= λo l A=>by
  have p:(ops.any λo=>o.k.Bt)=true:=List.any_eq_true.2 ⟨o,l,A⟩;have r:o.AO<ops.length:=(by simpa using BF.1 a.2 o l);refine⟨?_,λo' C=> ?_,?_,by simp[Cu,p,r,Ad],by simp[Cu,p,r]⟩
  ·cases e:J (Z.next+o.AO)with
   |none=>rfl
   |some b=>have:=(c.B7 _ _ e).1;simp[Ad]at this;omega
  ·have:=(c.B7 _ _ C).2;omega
  ·cases e:u (m.next+o.AO)with
   |none=>rfl
   |some cs=>obtain⟨⟨w,D⟩,_⟩:=c.AZ _ _ e;have:=F D;omega
 have E:Z.next<=(Rx ops Z).next:=by have:=d.Gm;rw[<-g]at this;exact this
 rw[<-g]at i d j;obtain⟨G,q⟩:=Yg s a.1.1 a.1.2 z i v j E d.Gt h;refine⟨G,?_⟩;obtain⟨n,H,I,K,L,M,O,Q,R⟩:=q;exact⟨n,H,I,K,L,M,O,Q,d.trans R⟩
def gh(P:Program)(c:D)(e:BM)(S:E9)(Z:CH)(a:E9)(B:CH):Prop:=CN B/\ ∀(J:C5) (u:Ca) (N:A6) (m:V),BI J u (Ad Z) m->D5 u J (FP S) N->BS P c N m λb d f=>b=e/\Ki Z.next m.next J u (Ad Z) m a B d f
theorem Ki.trans{d e f g:Nat}{J i:C5}{u j:Ca}{t m k:V}{l:V}(h:Be d e J u t m i j (Ad B) k)(n:Ki f g i j (Ad B) k E C R l)(o:d<=f)(p:e<=g):Ki d e J u t m E C R l:=by obtain⟨q,r,a,b,c⟩:=n;exact⟨q,r,a,b,h.trans (c.Kr o p)⟩
theorem uI{c:D}(v:Gi c=true){f:E9->CH->Option (BM×E9×CH)}(d: ∀{S Z e a B},CN Z->f S Z=some (e,a,B)->gh P c e S Z a B): ∀{n:Nat} {S:E9} {Z:CH} {e:BM} {a:E9} {B:CH},CN Z->cN f n S Z=some (e,a,B)->gh P (.loop c) e S Z a B
 |0,S,Z,e,a,B,i,h=>by cases h
 | n+1,S,Z,e,a,B,i,h=>by
   simp only[cN]at h;split at h
   ·next E C w=>obtain⟨j,q⟩:=d i w;obtain⟨x,y⟩:=uI v d j h;refine⟨x,λJ u N m k l=> ?_⟩;refine D7 λz p=> ?_;refine(q J u N m k l).AG λr s t b=> ?_;obtain⟨rfl,A,F,G,H,o⟩:=b;refine p _ _ ((y A F s t G H).AG λL M O b=> ?_);obtain⟨rfl,I⟩:=b;exact⟨rfl,Ki.trans o I o.Gm o.Gt⟩
   ·next K=>
    obtain⟨j,q⟩:=d i h;refine⟨j,λJ u N m k l=> ?_⟩;refine D7 λz p=> ?_;refine(q J u N m k l).AG λr s t b=> ?_;obtain⟨rfl,g⟩:=b;cases r with
    |Cx=>exact absurd h (K _ _)
    |Ai id=>exact⟨rfl,g⟩
    |DO=>exact⟨rfl,g⟩
variable {P:Program}
theorem vk(a:CN Z)(h:Q0 b4 f args Z=some (r,cK)):CN cK:=by
 unfold Q0 at h
 repeat' split at h
 all_goals first|cases h|skip
 all_goals first|exact(ZV a (by assumption)).1|exact(X0 a (by assumption)).1
theorem a7F{b4:KY}(b:KI P b4){f:Nat}{args:List Value}{Z cK:CH}{r:Value}{L:List Nat}(a:CN Z)(h:Lf b4 f args Z L=some (r,cK)):CN cK:=by
 cases L with
 |nil=>exact(b _ _ _ _ _ a h).1
 | cons o l=>
   simp only[Lf]at h;split at h
   ·split at h
    ·next g c=>
     split at h
     ·next i B d=>
      split at h
      ·next C e=>cases h;exact(ka (b _ _ _ _ _ (mN a c).1 d).1 e).1
      ·cases h
     ·exact vk a h
    ·cases h
   ·exact vk a h
theorem a1W(j:KI P b4){x:E9×CH}(e:CN Z)(h:R3 b4 base o S Z=some x):CN x.2:=by
 have a: ∀{f:Nat} {args:List Value} {L:List Nat},(match Lf b4 f args Z L with
  | some (r,cK)=>(match NS S o.d r with
    |some b=>some (b,cK)
    |none=>none)
  |none=>none)=some x->CN x.2:= λ{f args L} h=>by
  grind [a7F]
 have plain: ∀{k:K},(if k.Dq (FP S) (Ad Z)&&Du (FP S) (Ad Z) o.Gc then(match Pu k (base+o.AO) (FP S) Z with
  | some cK=>(match some (k.E0 (base+o.AO) (FP S) (Ad Z),cK)with
    | some (r,cK)=>(match NS S o.d r with
      |some b=>some (b,cK)
      |none=>none)
    |none=>none)
  |none=>none)else none)=some x->CN x.2:= λ{k} h=>by
  split at h
  ·split at h
   ·next C i=>
    simp only at h;split at h
    ·cases h;exact(zL e i).1
    ·cases h
   ·cases h
  ·cases h
 obtain⟨l,d,g,k,m⟩:=o;cases k with
 |KC f c=>exact a h
 | Iw y c=>
   simp only[R3]at h;split at h
   ·exact a h
   ·cases h
 | Ip b5 y c=>
   simp only[R3]at h;split at h
   ·split at h
    ·exact a h
    ·split at h
     ·exact a h
     ·cases h
    ·cases h
   ·cases h
 |_=>exact plain h
theorem nJ(b:KI P b4): ∀{ops:List Ap} {S c:E9} {Z B:CH},CN Z->MI b4 base ops S Z=some (c,B)->CN B
 |[],S,c,Z,B,a,h=>by cases h;exact a
 | o::ops,S,c,Z,B,a,h=>by
   simp only[MI]at h;split at h
   ·split at h
    ·next E C d=>exact nJ b (a1W b a d) h
    ·cases h
   ·split at h
    ·exact nJ b a h
    ·cases h
theorem Nz(o:KI P b4): ∀{c:D} {S l:E9} {Z B:CH} {e:BM},Gi c=true->CN Z->JR b4 n c S Z=some (e,l,B)->gh P c e S Z l B
 | .skip,S,l,Z,B,e,d,f,h=>by cases h;exact⟨f,λJ u N m j i=>by rw[iZ];exact⟨rfl,J,u,j,i,Be.refl⟩⟩
 | .Ai id,S,l,Z,B,e,d,f,h=>by cases h;exact⟨f,λJ u N m j i=>by rw[hB];exact⟨rfl,J,u,j,i,Be.refl⟩⟩
 | .DO,S,l,Z,B,e,d,f,h=>by cases h;exact⟨f,λJ u N m j i=>by rw[ho];exact⟨rfl,J,u,j,i,Be.refl⟩⟩
 | .Ky _ _ _,S,l,Z,B,e,d,f,h=>by cases h
 | .FI ops,S,l,Z,B,e,d,f,h=>by
   simp only[JR]at h;split at h
   ·next E C s=>cases h;exact⟨nJ o (uV f).1 s,λJ u N m j i=>by rw[gN];obtain⟨n,r,A,F,q⟩:=(a4u o d f j i s).2;exact⟨n,r,A,F,rfl,q⟩⟩
   ·cases h
 | .Ez a b,S,l,Z,B,e,d,f,h=>by
   simp only[Gi,AB]at d;simp only[JR]at h;split at h
   ·next E C s=>obtain⟨k,q⟩:=Nz o d.1 f s;obtain⟨G,H⟩:=Nz o d.2 k h;refine⟨G,λJ u N m j i=> ?_⟩;rw[bW];refine(q J u N m j i).AG λt r v p=> ?_;obtain⟨rfl,I,K,L,M,x⟩:=p;rw[Wn];refine(H I K r v L M).AG λU V A p=> ?_;obtain⟨rfl,Q⟩:=p;exact⟨rfl,Ki.trans x Q x.Gm x.Gt⟩
   ·next y=>
    obtain⟨k,q⟩:=Nz o d.1 f h;refine⟨k,λJ u N m j i=> ?_⟩;rw[bW];refine(q J u N m j i).AG λt r v p=> ?_;obtain⟨rfl,g⟩:=p;cases t with
    |Cx=>exact absurd h (y _ _)
    |Ai id=>exact⟨rfl,g⟩
    |DO=>exact⟨rfl,g⟩
 | .Gh c a b,S,l,Z,B,e,d,f,h=>by
   simp only[Gi,AB]at d;simp only[JR]at h;split at h
   ·next z=>
    obtain⟨k,q⟩:=Nz o d.1.2 f h;refine⟨k,λJ u N m j i=> ?_⟩;have w:=(i.O d.1.1);rw[z]at w;rw[dF,w.Jv]
    simp_all
   ·next z=>
    obtain⟨k,q⟩:=Nz o d.2 f h;refine⟨k,λJ u N m j i=> ?_⟩;have w:=(i.O d.1.1);rw[z]at w;rw[dF,w.Jv]
    simp_all
   ·cases h
 | .block id c,S,l,Z,B,e,d,f,h=>by
   simp only[JR]at h;split at h
   ·next R E C s=>
    obtain⟨k,q⟩:=Nz (c:=c) o d f s;split at h
    ·next T=>
     cases h;refine⟨k,λJ u N m j i=> ?_⟩;rw[UG];refine(q J u N m j i).AG λt r v p=> ?_
     simp_all
    ·next T=>
     cases h;refine⟨k,λJ u N m j i=> ?_⟩;rw[UG];refine(q J u N m j i).AG λt r v p=> ?_
     simp_all
   ·next y=>
    obtain⟨k,q⟩:=Nz (c:=c) o d f h;refine⟨k,λJ u N m j i=> ?_⟩;rw[UG];refine(q J u N m j i).AG λt r v p=> ?_;obtain⟨rfl,g⟩:=p;cases t with
    |Ai R=>exact absurd h (y _ _ _)
    |Cx=>exact⟨rfl,g⟩
    |DO=>exact⟨rfl,g⟩
 | .loop c,S,l,Z,B,e,d,f,h=>by simp only[JR]at h;exact uI (c:=c) d (λf h=>Nz o d f h) f h
def ez(P:Program)(G:Nat->Option AN):Prop:= ∀f Fn,G f=some Fn->AR P f=some Fn/\Gi Fn.body=true
def VW:List (Nat×AN)->CK AN
 |[]=> .nil
 |p::l=>CK.set 21 (VW l) p.1 (some p.2)
def ee(P:Program):List (Nat×AN)->Prop
 |[]=>True
 |p::l=>((Pn p.1=true/\AR P p.1=some p.2)/\Gi p.2.body=true)/\ee P l
theorem Le: ∀{l:List (Nat×AN)},ee P l->ez P (VW l).W
 |[],_=> λf Fn h=>by cases h
 | p::l,h=> λf Fn a=>by
   have e:(VW (p::l)).W f=if f=p.1 then some p.2 else(VW l).W f:=CK.Ma (Qj h.1.1.1)
   rw[e]at a;split at a
   ·next b=>cases a;rw[b];exact⟨h.1.1.2,h.1.2⟩
   ·exact Le h.2 f Fn a
def JJ:Nat->Value->Value->Bool
 |0,_,_=>false
 | n+1,a,b=>match a,b with
   | .bool x,.bool y=>decide (x=y)
   | .int k x,.int c y=>decide (k=c)&&decide (x=y)
   | .string s,.string d=>decide (s.data.toList=d.data.toList)
   | .nilFunc,.nilFunc=>true
   | .nilIface,.nilIface=>true
   | .pointer none,.pointer none=>true
   | .slice none l z,.slice none e g=>Nat.beq l e&&Nat.beq z g
   | .agg xs,.agg ys=>gO (JJ n) xs.toList ys.toList
   | .tuple xs,.tuple ys=>gO (JJ n) xs.toList ys.toList
   | .func (.yield k) xs cs,.func (.yield c) ys ds=>Nat.beq k c&&(gO (JJ n) xs.toList ys.toList&&gO (JJ n) cs.toList ds.toList)
   |_,_=>false
where
 gO (f:Value->Value->Bool):List Value->List Value->Bool
 |[],[]=>true
 |x::l,y::k=>f x y&&gO f l k
 |_,_=>false
theorem gg{f:Value->Value->Bool}(c: ∀a b,f a b=true->a=b): ∀{l k:List Value},JJ.gO f l k=true->l=k
 |[],[],_=>rfl
 |[],_::_,h=>by cases h
 |_::_,[],h=>by cases h
 | x::l,y::k,h=>by simp only[JJ.gO,AB]at h;rw[c x y h.1,gg c h.2]
theorem lM: ∀{n:Nat} (a b:Value),JJ n a b=true->a=b
 |0,_,_,h=>by cases h
 | n+1,a,b,h=>by
   have d: ∀a b,JJ n a b=true->a=b:= λa b h=>lM a b h;have c: ∀{xs ys:Array Value},JJ.gO (JJ n) xs.toList ys.toList=true->xs=ys:= λ{xs ys} h=>Array.toList_inj.1 (gg d h);simp only[JJ]at h;split at h
   ·simp_all
   ·simp_all
   ·next s e=>
    have:=of_decide_eq_true h;obtain⟨⟨l⟩⟩:=s;obtain⟨⟨f⟩⟩:=e
    simp_all
   ·rfl
   ·rfl
   ·rfl
   ·simp_all
   ·rw[c h]
   ·rw[c h]
   ·grind [Nat.beq_eq]
   ·cases h
def Lq(n:Nat)(l k:List Value):Bool:=JJ.gO (JJ n) l k
theorem a7P{l k:List Value}(h:Lq n l k=true):l=k:=gg (λa b h=>lM a b h) h
abbrev II:=List (Nat×List Value×Value)
def dt(f:Nat)(ts:List Value):II->Option Value
 |[]=>none
 |p::l=>bif Nat.beq p.1 f&&Lq 30 p.2.1 ts then some p.2.2 else dt f ts l
def g0(f:Nat):II->Bool
 |[]=>false
 |p::l=>Nat.beq p.1 f||g0 f l
def J0(P:Program)(l:II):Prop:= ∀p∈l,AL P p.1 p.2.1 p.2.2
theorem we{P:Program}{f:Nat}{ts:List Value}{r:Value}: ∀{l:II},J0 P l->dt f ts l=some r->AL P f ts r
 |[],_,h=>by cases h
 | p::l,a,h=>by
   simp only[dt]at h;cases hb:Nat.beq p.1 f&&Lq 30 p.2.1 ts with
   |false=>rw[hb]at h;exact we (λq b=>a q (by simp[b])) h
   | true=>rw[hb]at h;simp only[cond_true,GY]at h;simp only[AB,Nat.beq_eq]at hb;rw[<-hb.1,<-a7P hb.2,<-h];exact a p (by simp)
def gK(c0:II)(f:Nat)(args:List Value)(Z:CH):Option (Value×CH):=match QY 9 (Ad Z) args with
 | some ts=>(match dt f ts c0 with
   | some r=>if Fp r then(match QI Z (args.flatMap (As 9 (Ad Z)))with
    |some C=>some (r,C)
    |none=>none)
    else(match Se Z (args.flatMap (As 9 (Ad Z)))with
     |some C=>some (r,C)
     |none=>none)
   |none=>none)
 |none=>none
variable{c0 l:II}{d:Nat}{G:Nat->Option AN}{gl:KY}{p:Nat×List Value×Value}{b5:List (List Value)}
theorem a1F{P:Program}(d:J0 P c0)(k:CN Z)(h:gK c0 f args Z=some (r,cK)):CN cK/\Bv P f args (Ad Z) λa b=>a=r/\b=Ad cK:=by
 have l: ∀{ts:List Value},∀c:AL P f ts r,NM [a2 c] f args (Ad Z) (λa b=>a=r/\b=Ad cK)->Bv P f args (Ad Z) λa b=>a=r/\b=Ad cK:= λ{ts} c q J u n m e g=>by
  refine(hc e g q).AG λa o p=> ?_
  grind
 unfold gK at h;split at h
 ·next ts s=>
  split at h
  ·next i j=>
   have c:AL P f ts i:=we d j
   grind [ZV,gq,X0]
  ·cases h
 ·cases h
def WK(G:Nat->Option AN)(c0:II)(gl:KY)(n:Nat):Nat->KY
 |0=> λ_ _ _=>none
 | d+1=> λf args Z=>match gl f args Z with
   |some x=>some x
   | none=>bif g0 f c0 then gK c0 f args Z else match G f with
     |some Fn=>if Nat.ble args.length Fn.c6&&Nat.blt args.length 1000000 then YC Fn.N5 (JR (WK G c0 gl n d) n Fn.body (Q6 args 0 .nil) Z)else none
     |none=>none
theorem uq{P:Program}{G:Nat->Option AN}(l:ez P G){c0:II}(o:J0 P c0){gl:KY}(p:KI P gl){n:Nat}: ∀d,KI P (WK G c0 gl n d)
 |0=> λf args Z r cK c h=>by cases h
 | d+1=> λf args Z r cK c h=>by
   simp only[WK]at h;cases g:gl f args Z with
   |some x=>rw[g]at h;cases h;exact p _ _ _ _ _ c g
   |none=>
   rw[g]at h;simp only at h;cases hb:g0 f c0 with
   |true=>rw[hb]at h;exact a1F o c h
   |false=>
   rw[hb]at h;simp only[cond_false]at h;split at h
   ·next Fn z=>
    obtain⟨A,C⟩:=l f Fn z;split at h
    ·next i=>
     simp only[AB,Nat.ble_eq,Nat.blt_eq]at i;cases j:JR (WK G c0 gl n d) n Fn.body (Q6 args 0 .nil) Z with
     |none=>rw[j]at h;cases h
     | some x=>
       obtain⟨e,S,B⟩:=x;rw[j]at h;obtain⟨w,q⟩:=Nz (uq l o p d) C c j;have R:e≠ .Ai 0->(∀id,e≠ .Ai id)->FM (Ad B) (FP S) Fn.N5=true->r=Fg (Ad B) (FP S) Fn.N5->cK=B->CN cK/\Bv P f args (Ad Z) λD E=>D=r/\E=Ad cK:= λ_ F H I K=>by
        subst I;subst K;refine⟨w,λJ u L m M s=> ?_⟩;rw[EG A (by rw[<-s.1];exact i.1)];refine(q J u (Cp L) m M (by rw[a4p i.2];exact D5.init s)).AG λN T U O=> ?_;obtain⟨rfl,t,v,k,Q,y⟩:=O;obtain⟨a,b⟩:=ml k Q H;cases N with
        |Ai id=>exact absurd rfl (F id)
        |Cx=>exact⟨a,t,v,_,_,⟨rfl,rfl⟩,k,b,y⟩
        |DO=>exact⟨a,t,v,_,_,⟨rfl,rfl⟩,k,b,y⟩
       cases e with
       |Ai id=>simp only[YC]at h;cases h
       | Cx=>
         grind [YC]
       | DO=>
         grind [YC]
    ·cases h
   ·cases h
def gG(G:Nat->Option AN)(c0:II)(gl:KY)(n d f:Nat)(args:List Value)(r:Value):Bool:=match WK G c0 gl n d f args Vv with
 | some (v,B)=>(match Az 9 (Ad B) v with
   |some a=>JJ 30 a r
   |none=>false)
 |none=>false
theorem Mq{P:Program}(b:ez P G)(c:J0 P c0)(e:KI P gl)(h:gG G c0 gl n d f args r=true):AL P f args r:=by
 unfold gG at h;split at h
 ·next v B g=>
  obtain⟨w,q⟩:=uq b c e d f args Vv _ _ pB g;rw[tC]at q;split at h
  ·next j i=>have:=lM _ _ h;subst this;exact BG (q.AG λk l a=>by rw[a.1,a.2];exact i)
  ·cases h
 ·cases h
def yQ:KY:= λ_ _ _=>none
theorem a3m{P:Program}:KI P yQ:= λ_ _ _ _ _ _ h=>by cases h
def va(G:Nat->Option AN)(c0:II)(n d f:Nat)(args:List Value)(r:Value):Bool:=gG G c0 yQ n d f args r
theorem a3M{P:Program}(a:ez P G)(b:J0 P c0)(h:va G c0 n d f args r=true):AL P f args r:=Mq a b a3m h
theorem w1{P:Program}:J0 P []:= λp a=>by cases a
theorem Hy{P:Program}(h:AL P p.1 p.2.1 p.2.2)(b:J0 P l):J0 P (p::l):= λq a=>by
 rcases CM.1 a with rfl|a
 ·exact h
 ·exact b q a
variable {P:Program} {an:J9 P} {t:V} {A:A6} {c:D} {Q:BM->A6->V->Prop}
theorem LO{o p j z:Nat}{cells:List Value}(i:t.W o=some ⟨b5.flatten,true⟩)(w: ∀r∈b5,r.length=z/\ ∀v∈r,Co v=true)
 (B:t.W p=some ⟨cells,true⟩) (C:cells[j]?=some (.slice (some ⟨o,0,none⟩) b5.length z)) (D:o≠p) (h:BY P c A ((t.A0 o none).A0 p (some ⟨cells.set j (M b5 z),true⟩)) Q):BY P c A t Q:= λE J u N m F G=>by
 obtain⟨k,l,H,I⟩:=aDv F i w B C D;refine(h E J k N m I (G.AG l (CA.refl _))).AG λe A1 A2 K=> ?_;obtain⟨L,O,R,S,T,U,V,X⟩:=K;have n: ∀q x,((t.A0 o none).A0 p (some ⟨cells.set j (M b5 z),true⟩)).W q=some x-> ∃y,t.W q=some y/\(x.own=true->y.own=true):= λq x A4=>by
  grind [A3]
 have s:Be t.next m.next J u t m J k ((t.A0 o none).A0 p (some ⟨cells.set j (M b5 z),true⟩)) m:=by
  refine⟨CA.refl _,l,λ_ _ h=> .inl h,λb cs hb=> ?_,by simp,Ao _,λ_ _ _=>rfl,λb hb ⟨q,x,a,d,Y⟩=> ?_,λb hb ⟨q,x,a,d⟩=> ?_⟩
  ·rcases H b cs hb with f|f
   ·exact .inl f
   ·exact .inr (.inr ⟨o,_,f,i⟩)
  ·obtain⟨y,g,Z⟩:=n q x d;exact⟨q,y,a,g,Z Y⟩
  ·obtain⟨y,g,_⟩:=n q x d;exact⟨q,y,a,g⟩
 exact⟨L,O,R,S,T,U,V,s.trans (X.Kr s.Gm (Ao _))⟩
end Go.DI
