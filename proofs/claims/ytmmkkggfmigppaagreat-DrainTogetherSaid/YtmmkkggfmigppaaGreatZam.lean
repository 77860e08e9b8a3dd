/-
  A part of the proof, shortened by tools of ours.
-/
import Derived.Test.YtmmkkggfmigppaaGreatRows
import Derived.Test.YtmmkkggfmigppaaGreatZal
set_option linter.all false
set_option maxRecDepth 8000
set_option maxHeartbeats 16000000
namespace Go.DI
open Go Go.RowKit
section
variable {P:Program} {ax:mG P} {t:H} {z:aC} {c:aw} {Q:cM->aC->H->Prop}
theorem vc{o p j G:Nat}{bI:List (List Value)}{cells:List Value}(aB:t.I o=some ⟨bI.flatten,true⟩)(al: ∀r∈bI,r.length=G/\ ∀v∈r,hB v=true)
 (Z:t.I p=some ⟨cells,true⟩) (aX:cells[j]?=some (.slice (some ⟨o,0,none⟩) bI.length G)) (bG:o≠p) (h:ec P c z ((t.aO o none).aO p (some ⟨cells.set j (ad bI G),true⟩)) Q):ec P c z t Q:= λav J u K m F b2=>by
 obtain⟨ke,bK,cz,dV⟩:=auo F aB al Z aX bG;refine(h av J ke K m dV (b2.bD bK (fE.refl _))).bD λe aU bn bT=> ?_;obtain⟨cV,ea,c6,eC,A,D,ai,aT⟩:=bT;have fl: ∀q x,((t.aO o none).aO p (some ⟨cells.set j (ad bI G),true⟩)).I q=some x-> ∃y,t.I q=some y/\(x.own=true->y.own=true):= λq x B=>by
  by_cases aD:q=p
  ·subst aD;exact⟨_,Z,λ_=>rfl⟩
  ·by_cases aJ:q=o
   ·subst aJ;exact⟨_,aB,λ_=>rfl⟩
   ·rw[a7 aD,a7 aJ]at B;exact⟨x,B,λh=>h⟩
 have cj:eQ t.next m.next J u t m J ke ((t.aO o none).aO p (some ⟨cells.set j (ad bI G),true⟩)) m:=by
  refine⟨fE.refl _,bK,λ_ _ h=> .inl h,λb cs hb=> ?_,by simp,c8 _,λ_ _ _=>rfl,λb hb ⟨q,x,a8,bV,cv⟩=> ?_,λb hb ⟨q,x,a8,bV⟩=> ?_⟩
  ·rcases cz b cs hb with bF|bF
   ·exact .inl bF
   ·exact .inr (.inr ⟨o,_,bF,aB⟩)
  ·obtain⟨y,Y,KK⟩:=fl q x bV;exact⟨q,y,a8,Y,KK cv⟩
  ·obtain⟨y,Y,_⟩:=fl q x bV;exact⟨q,y,a8,Y⟩
 exact⟨cV,ea,c6,eC,A,D,ai,cj.trans (aT.wj cj.k5 (c8 _))⟩
def arb(E:aC->H->Prop)(z:aC)(t:H):Prop:= ∃(o p j G:Nat) (bI:List (List Value)) (cells:List Value),t.I o=some ⟨bI.flatten,true⟩/\(∀r∈bI,r.length=G/\ ∀v∈r,hB v=true)/\t.I p=some ⟨cells,true⟩/\
 cells[j]?=some (.slice (some ⟨o,0,none⟩) bI.length G)/\o≠p/\E z ((t.aO o none).aO p (some ⟨cells.set j (ad bI G),true⟩))
end
inductive nW(g:Nat->Nat->Prop):Value->Value->Prop
 |ha {v:Value} (h:hB v=true):nW g v v
 |bH {o o' off:Nat} (h:g o o'):nW g (.pointer (some ⟨o,off,none⟩)) (.pointer (some ⟨o',off,none⟩))
 |slice {o o' off l G:Nat} (h:g o o'):nW g (.slice (some ⟨o,off,none⟩) l G) (.slice (some ⟨o',off,none⟩) l G)
 |agg {xs ys:Array Value} (F:xs.size=ys.size) (h: ∀(i:Nat) (x y:Value),xs[i]?=some x->ys[i]?=some y->nW g x y):nW g (.agg xs) (.agg ys)
 |tuple {xs ys:Array Value} (F:xs.size=ys.size) (h: ∀(i:Nat) (x y:Value),xs[i]?=some x->ys[i]?=some y->nW g x y):nW g (.tuple xs) (.tuple ys)
def kp(g:Nat->Nat->Prop)(l k:List Value):Prop:=l.length=k.length/\ ∀(i:Nat) (x y:Value),l[i]?=some x->k[i]?=some y->nW g x y
theorem nW.og{g:Nat->Nat->Prop}{u:fU}{cV gB:eU}{v qk:Value}(h:nW g v qk)(aH: ∀o o',g o o'-> ∀b,cV o=some b->gB o'=some b): ∀{w:Value},cm u cV v w->cm u gB qk w:=by
 have Dn: ∀{xs ys jf:Array Value},xs.size=ys.size->(∀(i:Nat) (x y:Value),xs[i]?=some x->ys[i]?=some y-> ∀{w:Value},cm u cV x w->cm u gB y w)->bL u cV xs.toList jf.toList->ys.size=jf.size/\ ∀(i:Nat) (x y:Value),ys[i]?=some x->jf[i]?=some y->cm u gB x y:= λ{xs ys jf} F cf az=>by have A:xs.size=jf.size:=(by simpa using az.1);refine⟨F.symm.trans A,λi x y B Y=> ?_⟩;have W:i<xs.size:=(by rw[F];exact(xL.1 B).1);exact cf i xs[i] x (IZ W) B (az.2 i xs[i] y (by simp) (by simpa using Y))
 induction h with
 |ha ar=>exact λM=>(JD (gS.refl _) M ar).bD (gS.refl _) (fE.nil _)
 | bH h=>intro w M;obtain⟨b,aD,_,rfl⟩:=M.sv;exact .bH (aH _ _ h _ aD)
 | slice h=>
   intro w M;rcases M.l6 with⟨b,aD,_,rfl⟩|⟨aD,aJ,cg,rfl⟩
   ·exact .slice (aH _ _ h _ aD)
   ·simp only at aD;subst aD;subst cg;exact .rZ
 | agg F _ cf=>intro w M;obtain⟨jf,rfl,az⟩:=M.uI;obtain⟨a,b⟩:=Dn F (λi x y B Y {w}=>cf i x y B Y) az;exact .agg a b
 | tuple F _ cf=>intro w M;obtain⟨jf,rfl,az⟩:=M.Er;obtain⟨a,b⟩:=Dn F (λi x y B Y {w}=>cf i x y B Y) az;exact .tuple a b
theorem kp.og{g:Nat->Nat->Prop}{u:fU}{cV gB:eU}{l k:List Value}(h:kp g l k)(aH: ∀o o',g o o'-> ∀b,cV o=some b->gB o'=some b){w:List Value}(M:bL u cV l w):bL u gB k w:=by
 refine⟨h.1.symm.trans M.1,λi x y B Y=> ?_⟩;have W:i<l.length:=by rw[h.1];exact(cG.1 B).1
 exact(h.2 i l[i] x (c1 W) B).og aH (M.2 i l[i] y (c1 W) Y)
theorem kp.cells{g:Nat->Nat->Prop}{l:List Value}(h: ∀v∈l,hB v=true):kp g l l:=
 ⟨rfl,λi x y B Y=>by rw[B]at Y;cases Y;exact .ha (h x (fr B))⟩
theorem nW.U7{g:Nat->Nat->Prop}{l k:List Value}(h:kp g l k):nW g (.agg l.toArray) (.agg k.toArray):= .agg (by simpa using h.1) (by simpa using h.2)
theorem nW.aqc{g:Nat->Nat->Prop}{l k:List Value}(h:kp g l k):nW g (.tuple l.toArray) (.tuple k.toArray):= .tuple (by simpa using h.1) (by simpa using h.2)
theorem kp.nil{g:Nat->Nat->Prop}:kp g [] []:=⟨rfl,by intro i x y h;simp at h⟩
theorem kp.cons{g:Nat->Nat->Prop}{x y:Value}{l k:List Value}(h:nW g x y)(F:kp g l k):kp g (x::l) (y::k):=by
 refine⟨by simp[F.1],λi a b aa hb=> ?_⟩;cases i with
 |zero=>simp at aa hb;subst aa;subst hb;exact h
 |succ i=>exact F.2 i a b (by simpa using aa) (by simpa using hb)
def H4:Value->Bool
 | .agg cs=>cs.toList.all hB
 |v=>hB v
theorem aaU{g:Nat->Nat->Prop}{v:Value}(h:H4 v=true):nW g v v:=by
 unfold H4 at h;split at h
 ·next cs=>have:=nW.U7 (g:=g) (kp.cells (l:=cs.toList) λv M=>dP.1 h v M);simpa using this
 ·exact .ha h
def qb:Nat->List (List Value)->H->H
 |_,[],t=>t
 |i,c::l,t=>qb (i+1) l (t.aO i (some ⟨c,true⟩))
@[simp] theorem aSI{i:Nat}{t:H}:qb i [] t=t:=rfl
@[simp] theorem Nb{i:Nat}{t:H}{c:List Value}{l:List (List Value)}:qb i (c::l) t=qb (i+1) l (t.aO i (some ⟨c,true⟩)):=rfl
theorem aon: ∀{l:List (List Value)} {i:Nat} {t:H},(qb i l t).next=t.next
 |[],_,_=>rfl
 |c::l,i,t=>by rw[Nb,aon];rfl
theorem abi: ∀{l:List (List Value)} {i:Nat} {t:H},(qb i l t).mp=t.mp
 |[],_,_=>rfl
 |c::l,i,t=>by rw[Nb,abi];rfl
theorem abj: ∀{l:List (List Value)} {i b:Nat} {t:H},b<i->(qb i l t).I b=t.I b
 |[],_,_,_,_=>rfl
 |c::l,i,b,t,h=>by rw[Nb,abj (by omega),a7 (by omega)]
theorem aom: ∀{l:List (List Value)} {i j:Nat} {t:H} {c:List Value},i+l.length<=t.next->l[j]?=some c->(qb i l t).I (i+j)=some ⟨c,true⟩
 |[],_,_,_,_,_,h=>by simp at h
 | c::l,i,0,t,x,ae,h=>by simp at h;subst h;simp only[mC]at ae;rw[Nb,abj (by omega)];exact cx (by omega)
 | c::l,i,j+1,t,x,ae,h=>by simp only[mC]at ae;have:=aom (l:=l) (i:=i+1) (j:=j) (t:=t.aO i (some ⟨c,true⟩)) (c:=x) (by simp;omega) (by simpa using h);rw[Nb,<-this];congr 1;omega
section
variable {P:Program}
theorem adU{f n:Nat}{args:List Value}{r:Nat->Value}{bs:Nat->List (List Value)}(ae: ∀k,(bs k).length=n)(aa: ∀v∈args,H4 v=true)
 (gK:fc P f args fJ λv bj=> ∃xa:List Nat,xa.Nodup/\xa.length=n/\ ∀k,nW (λo o'=> ∃i:Nat,xa[i]?=some o/\o'=k+i) v (r k)/\ ∀(i:Nat) cs,(bs k)[i]?=some cs-> ∃o lX,xa[i]?=some o/\bj.I o=some ⟨lX,true⟩/\kp (λo o'=> ∃i:Nat,xa[i]?=some o/\o'=k+i) lX cs) (t:H):
 fc P f args t λv af=>v=r t.next/\af=qb t.next (bs t.next) (t.b0 n):= λJ u bu m F az=>by
 have Kj:bL u kS args bu:=⟨az.1,λi x y B Y=>(aaU (g:= λ_ _=>False) (aa x (fr B))).og (λ_ _ h=>h.elim) (az.2 i x y B Y)⟩;obtain⟨p,Z⟩: ∃p:H,p=⟨m.next,λb=>if(u b).isSome then m.hI b else none,m.mp⟩:=⟨_,rfl⟩;have q0:p.next=m.next:=by rw[Z]
 have M8:p.mp=m.mp:=by rw[Z]
 have oe: ∀b,p.I b=if(u b).isSome then m.I b else none:= λb=>by
  rw[Z];simp only[H.I];split
  ·rfl
  ·split<;>rfl
 have part:Di p m:=⟨q0,M8,λb x B=>by
  rw[oe]at B;split at B
  ·exact B
  ·cases B⟩
 have Ka:sc u p:= λb cs hb=>by obtain⟨w,aS⟩:=(F.bZ b cs hb).1;exact⟨w,by rw[oe,hb];exact aS⟩
 have KE:eb kS u fJ p:=ac1 Ka;refine(ep.frame part (gK kS u bu p KE Kj)).bD λdZ bn bT=> ?_;obtain⟨k2,⟨cV,ea,v,bj,⟨xa,eW,di,S⟩,D,ai,aT⟩,bN⟩:=bT;have vI:m.next<=bn.next:=bN.next
 have aSx:k2.next=bn.next:=bN.part.next
 obtain⟨al,hb⟩:=S t.next
 obtain⟨aN,b9⟩: ∃aN,aN=bs t.next:=⟨_,rfl⟩
 rw[<-b9]at hb⊢;have avb:aN.length=n:=by rw[b9];exact ae _
 obtain⟨gB,GC⟩: ∃gB:eU,gB= λo=>if o<t.next then J o else match xa[o-t.next]? with|some p=>cV p|none=>none:=⟨_,rfl⟩
 have ry: ∀o,o<t.next->gB o=J o:= λo h=>by rw[GC];simp only[if_pos h]
 have kZ: ∀o,¬o<t.next->gB o=match xa[o-t.next]? with|some p=>cV p|none=>none:= λo h=>by rw[GC];simp only[if_neg h]
 have VH: ∀i p,xa[i]?=some p->gB (t.next+i)=cV p:= λi p h=>by rw[kZ _ (by omega),show t.next+i-t.next=i by omega,h]
 have aH: ∀o o',(∃i:Nat,xa[i]?=some o/\o'=t.next+i)-> ∀b,cV o=some b->gB o'=some b:= λo o' ⟨i,A,D⟩ b hb=>by rw[D,VH i o A];exact hb
 have JI: ∀p b,cV p=some b->m.next<=b:= λp b h=>(aT.kZ p b h).elim (λh=>by cases h) (λh=>by have:=h.2;omega)
 have ej: ∀b cs,ea b=some cs->u b=some cs\/m.next<=b:= λb cs h=>by
  rcases aT.fn b cs h with h|h|⟨o,x,h,_⟩
  ·exact .inl h
  ·exact .inr (by omega)
  ·cases h
 have ant: ∀o,¬o<t.next->J o=none:= λo h=>by
  cases aQ:J o with
  |none=>rfl
  |some b=>exact absurd (F.cQ o b aQ).1 h
 have VD:fE J gB:= λo b h=>by rw[ry o (F.cQ o b h).1];exact h
 have rK: ∀b,b<m.next->bn.I b=m.I b:= λb hb=>by
  cases aH:p.I b with
  |none=>exact(bN.jd b hb aH).1
  |some x=>rw[part.I b x aH];exact bN.part.I b x (by rw[aT.dK b (by rw[q0];exact hb) λ⟨o,x,h,_⟩=>by cases h];exact aH)
 have new: ∀o b,¬o<t.next->gB o=some b-> ∃i p,o=t.next+i/\xa[i]?=some p/\cV p=some b:= λo b h aQ=>by
  rw[kZ o h]at aQ;split at aQ
  ·next p Z=>exact⟨o-t.next,p,by omega,Z,aQ⟩
  ·cases aQ
 have bq: ∀o,o<t.next->(qb t.next aN (t.b0 n)).I o=t.I o:= λo h=>by rw[abj h,cJ h]
 have H6:(qb t.next aN (t.b0 n)).next=t.next+n:=by rw[aon];rfl
 have hT: ∀o x,¬o<t.next->(qb t.next aN (t.b0 n)).I o=some x-> ∃i cs,o=t.next+i/\aN[i]?=some cs/\x=⟨cs,true⟩:= λo x h B=>by
  have A:=aM B;rw[H6]at A;have W:o-t.next<aN.length:=by omega
  have D:=aom (i:=t.next) (j:=o-t.next) (t:=t.b0 n) (l:=aN) (c:=aN[o-t.next]) (by rw[avb];simp[H.b0]) (c1 W);rw[show t.next+(o-t.next)=o by omega,B]at D;exact⟨o-t.next,_,by omega,c1 W,by cases D;rfl⟩
 refine⟨gB,ea,_,_,⟨rfl,rfl⟩,?_,al.og aH ai,?_⟩
 ·refine⟨λo x B=> ?_,λo es aQ=> ?_,λo aB=> ?_,λo o' b h cn=> ?_,λo b h=> ?_,λb cs h=>⟨by obtain⟨w,aS⟩:=(D.bZ b cs h).1;exact⟨w,bN.part.I b _ aS⟩,λo x ck B=> ?_⟩⟩
  ·by_cases aB:o<t.next
   ·rw[bq o aB]at B;rcases F.iU o x B with⟨b,cs,w,bt,bR,a3,a4⟩|⟨bt,bR⟩
    ·exact .inl ⟨b,cs,w,by rw[ry o aB];exact bt,by rw[rK b (F.cQ o b bt).2];exact bR,a3,a4.bD aT.f VD⟩
    ·exact .inr ⟨by rw[ry o aB];exact bt,bR⟩
   ·obtain⟨i,cs,rfl,ia,rfl⟩:=hT o x aB B;obtain⟨p,lX,a8,bV,cv⟩:=hb i cs ia;rcases D.iU p _ bV with⟨b,ds,w,bt,bR,a3,a4⟩|⟨bt,bR⟩
    ·exact .inl ⟨b,ds,w,by rw[VH i p a8];exact bt,bN.part.I b _ bR,λ_=>a3 rfl,cv.og aH a4⟩
    ·refine .inr ⟨by rw[VH i p a8];exact bt,?_⟩;simp only at bR;subst bR;exact pU cv.1.symm
  ·obtain⟨b6,cR⟩:=jb aQ;rw[abi]at cR;by_cases aB:o<t.next
   ·rw[bq o aB]at b6;obtain⟨b,db,bt,bR,a3⟩:=F.maps o es (kB b6 cR);obtain⟨fW,gI⟩:=jb bR;have DY:=(F.cQ o b bt).2;refine⟨b,db,by rw[ry o aB];exact bt,?_,a3.bD aT.f VD⟩;have mm:u b=none:=by
     cases dh:u b with
     |none=>rfl
     |some cs=>have:=(F.bZ b cs dh).2 o _ bt b6;cases this
    exact kB (by rw[rK b DY];exact fW) (by rw[(bN.jd b DY (by rw[oe,mm];rfl)).2.2];exact gI)
   ·have:=F.jo o (ant o aB);rw[show(t.b0 n).mp=t.mp from rfl,this]at cR;cases cR
  ·rw[abi];by_cases h:o<t.next
   ·exact F.jo o (by rw[<-ry o h];exact aB)
   ·exact F.jo o (ant o h)
  ·by_cases b6:o<t.next
   ·rw[ry o b6]at h;by_cases cR:o'<t.next
    ·rw[ry o' cR]at cn;exact F.inj o o' b h cn
    ·obtain⟨i,p,_,_,e⟩:=new o' b cR cn;have:=JI p b e;have:=(F.cQ o b h).2;omega
   ·obtain⟨i,p,aD,aJ,cg⟩:=new o b b6 h;by_cases cR:o'<t.next
    ·rw[ry o' cR]at cn;have:=JI p b cg;have:=(F.cQ o' b cn).2;omega
    ·obtain⟨dn,k2,eD,eS,gN⟩:=new o' b cR cn;have KA:=D.inj p k2 b cg gN;subst KA;have W:=(cG.1 aJ).1;obtain⟨hK,a2⟩:=cG.1 eS;have aE:=(cG.1 aJ).2;have:i=dn:=by
      rcases Nat.lt_trichotomy i dn with q|q|q
      ·exact absurd (aE.trans a2.symm) (za.1 eW i dn W hK q)
      ·exact q
      ·exact absurd (a2.trans aE.symm) (za.1 eW dn i hK W q)
     omega
  ·rw[H6];by_cases b6:o<t.next
   ·rw[ry o b6]at h;have:=F.cQ o b h;exact⟨by omega,by omega⟩
   ·obtain⟨i,p,aD,aJ,cg⟩:=new o b b6 h;have:=(cG.1 aJ).1;exact⟨by omega,by have:=(D.cQ p b cg).2;omega⟩
  ·by_cases b6:o<t.next
   ·rw[ry o b6]at ck;rw[bq o b6]at B;rcases ej b cs h with h|h
    ·exact(F.bZ b cs h).2 o x ck B
    ·have:=(F.cQ o b ck).2;omega
   ·obtain⟨i,p,aD,aJ,cg⟩:=new o b b6 ck;obtain⟨dn,c,eD,eS,gN⟩:=hT o x b6 B;have:dn=i:=(by omega);subst this;obtain⟨k2,lX,a8,bV,cv⟩:=hb dn c eS;rw[aJ]at a8;cases a8;have:=(D.bZ b cs h).2 p _ cg bV;cases this
 ·refine⟨VD,aT.f,λo b h=> ?_,λb cs h=>(ej b cs h).elim .inl λh=> .inr (.inl h),by rw[H6];omega,vI,λb hb _=>rK b hb,λb hb ⟨o,x,a8,bV,cv⟩=> ?_,λb hb ⟨o,x,a8,bV⟩=> ?_⟩
  ·by_cases b6:o<t.next
   ·rw[ry o b6]at h;exact .inl h
   ·obtain⟨i,p,aD,aJ,cg⟩:=new o b b6 h;exact .inr ⟨by omega,JI p b cg⟩
  ·by_cases b6:o<t.next
   ·rw[ry o b6]at a8;rw[bq o b6]at bV;exact⟨o,x,a8,bV,cv⟩
   ·obtain⟨i,p,aD,aJ,cg⟩:=new o b b6 a8;have:=JI p b cg;omega
  ·by_cases b6:o<t.next
   ·rw[ry o b6]at a8;rw[bq o b6]at bV;exact⟨o,x,a8,bV⟩
   ·obtain⟨i,p,aD,aJ,cg⟩:=new o b b6 a8;have:=JI p b cg;omega
end
section
variable {P:Program}
abbrev b7(o n G:Nat):Value:= .slice (some ⟨o,0,none⟩) n G
theorem UB{f n G:Nat}{args cells:List Value}(aa: ∀v∈args,H4 v=true)(ar: ∀v∈cells,hB v=true)
 (gK:fc P f args fJ λv bj=> ∃o,v=b7 o n G/\bj.I o=some ⟨cells,true⟩) (t:H):fc P f args t λv af=>v=b7 t.next n G/\af=(t.b0 1).aO t.next (some ⟨cells,true⟩):=
 adU (r:= λk=>b7 k n G) (bs:= λ_=>[cells]) (n:=1) (λ_=>rfl) aa (gK.bD λv bj ⟨o,M,aH⟩=>⟨[o],by simp,rfl,λk=>⟨by
  rw[M];exact .slice ⟨0,rfl,rfl⟩,λi cs ia=>by
   cases i with
   |zero=>simp at ia;subst ia;exact⟨o,cells,rfl,aH,kp.cells ar⟩
   |succ i=>simp at ia⟩⟩) t
theorem NZ{f n G:Nat}{args:List Value}{bI:List (List Value)}(ae:n=bI.length)(al: ∀r∈bI,r.length=G/\ ∀v∈r,hB v=true)
 (gK:fc P f args fJ λv bj=> ∃o,v=b7 o n G/\bj.I o=some ⟨bI.flatten,true⟩):bP P f args (ad bI G):=
 du (gK.bD λv t ⟨o,M,aH⟩=>by rw[M];exact vu (n:=8) aH ae al)
open Classical in
noncomputable def jg.JU(f:Nat)(ao:Type)(cD:ao->Prop)(enc:ao->List Value)(n G:ao->Nat)(cells:ao->List Value)
 (ok: ∀x,cD x-> ∀t,fc P f (enc x) t λv af=>v=b7 t.next (n x) (G x)/\af=(t.b0 1).aO t.next (some ⟨cells x,true⟩)):jg P:=
 ⟨f,λargs t=>if h: ∃x,cD x/\enc x=args then some (b7 t.next (n h.choose) (G h.choose),(t.b0 1).aO t.next (some ⟨cells h.choose,true⟩))else none,λargs t r af h bA iA=>by
  split at h
  ·next B=>cases h;have:=ok _ B.choose_spec.1 t;rw[B.choose_spec.2]at this;exact this.bD λv af ⟨a,b⟩=>by rw[a,b];exact iA
  ·cases h⟩
theorem jg.VR{f:Nat}{ao:Type}{cD:ao->Prop}{enc:ao->List Value}{n G:ao->Nat}{cells:ao->List Value}{ok: ∀x,cD x-> ∀t,fc P f (enc x) t λv af=>v=b7 t.next (n x) (G x)/\af=(t.b0 1).aO t.next (some ⟨cells x,true⟩)}{x:ao}{t:H}(Z:cD x)(W: ∀y,enc y=enc x->y=x):
 (jg.JU (P:=P) f ao cD enc n G cells ok).fn (enc x) t=some (b7 t.next (n x) (G x),(t.b0 1).aO t.next (some ⟨cells x,true⟩)):=by
 have g2: ∃y,cD y/\enc y=enc x:=⟨x,Z,rfl⟩;simp only[jg.JU,dif_pos g2];rw[W _ g2.choose_spec.2]
end
def iW{dF:Type}(n:Nat)(f:Nat->dF):List dF:=(List.range n).map f
section
variable {dF pr:Type} {n i:Nat} {f g:Nat->dF}
@[simp] theorem TB:(iW n f).length=n:=by simp[iW]
theorem vZ(h:i<n):(iW n f)[i]?=some (f i):=by simp[iW,h]
theorem sH(h: ∀j,j<n->f j=g j):iW n f=iW n g:=by unfold iW;exact Dc λj aX=>h j (om.1 aX)
theorem Fp{x:dF}:(iW n f).set i x=iW n (λj=>if j=i then x else f j):=by
 apply ze;intro j;rw[AX];by_cases aX:j<n
 ·by_cases e:i=j
  ·subst e;rw[if_pos rfl,if_pos (by simpa using aX),vZ aX,if_pos rfl]
  ·rw[if_neg e,vZ aX,vZ aX,if_neg λh=>e h.symm]
 ·have A: ∀(k:Nat->dF),(iW n k)[j]?=none:= λk=>re (by simp;omega);rw[A,A];split
  ·rw[if_neg (by simp;omega)]
  ·rfl
theorem Im{h:dF->pr}:(iW n f).map h=iW n λj=>h (f j):=by simp[iW]
theorem abI{x:dF}:List.replicate n x=iW n λ_=>x:=by
 apply ze;intro j;by_cases aX:j<n
 ·rw[vZ aX];simp[aX]
 ·rw[re (by simp;omega),re (by simp;omega)]
theorem abJ:iW (n+1) f=iW n f++[f n]:=by simp[iW,A2]
end
section
variable {P:Program}
open Classical in
theorem adV{f:Nat}{args cs lX:List Value}{r:Value}(bG:cs≠[])(av8:lX≠[])(ia: ∀v∈cs,hB v=true)(avw: ∀v∈lX,hB v=true)(aa: ∀v∈args,H4 v=true)
 (gK:fc P f (.pointer (some ⟨0,0,none⟩)::args) ((fJ.b0 1).aO 0 (some ⟨cs,true⟩)) λv bj=>dt 9 bj v=some r/\bj.I 0=some ⟨lX,true⟩/\0∉et 9 bj v) {t:H} {o:Nat} (aB:t.I o=some ⟨cs,true⟩):
 fc P f (.pointer (some ⟨o,0,none⟩)::args) t λv af=>v=r/\af=t.aO o (some ⟨lX,true⟩):= λJ u bu m F az=>by
 obtain⟨b,ds,aqx,ck,tq,ahC,yk⟩: ∃b ds w,J o=some b/\m.I b=some ⟨ds,w⟩/\(true=true->w=true)/\bL u J cs ds:=by
  rcases F.iU o _ aB with⟨b,ds,w,bt,bR,a3,a4⟩|⟨_,bR⟩
  ·exact⟨b,ds,w,bt,bR,a3,a4⟩
  ·exact absurd bR bG
 have awG:=ahC rfl;subst awG;have mm:u b=none:=by
  cases dh:u b with
  |none=>rfl
  |some c=>have:=(F.bZ b c dh).2 o _ ck aB;cases this
 obtain⟨p,Z⟩: ∃p:H,p=⟨m.next,λq=>if(u q).isSome\/q=b then m.hI q else none,m.mp⟩:=⟨_,rfl⟩;have q0:p.next=m.next:=by rw[Z]
 have oe: ∀q,p.I q=if(u q).isSome\/q=b then m.I q else none:= λq=>by
  rw[Z];simp only[H.I];split
  ·rfl
  ·split<;>rfl
 have part:Di p m:=⟨q0,by rw[Z],λq x B=>by
  rw[oe]at B;split at B
  ·exact B
  ·cases B⟩
 obtain⟨Df,J7⟩: ∃Df:eU,Df= λq=>if q=0 then some b else none:=⟨_,rfl⟩
 have Vz:Df 0=some b:=by rw[J7];rfl
 have hc: ∀q c,Df q=some c->q=0/\c=b:= λq c h=>by
  rw[J7]at h;simp only at h;split at h
  ·next e=>cases h;exact⟨e,rfl⟩
  ·cases h
 have PO:=aM tq;have aHy:((fJ.b0 1).aO 0 (some (eM.mk cs true))).I 0=some ⟨cs,true⟩:=cx (by simp[fJ]);have ap0: ∀q x,((fJ.b0 1).aO 0 (some (eM.mk cs true))).I q=some x->q=0/\x=⟨cs,true⟩:= λq x B=>by have:=aM B;simp[fJ]at this;subst this;rw[aHy]at B;cases B;exact⟨rfl,rfl⟩
 have afm: ∀{cV gB:eU} {ea:fU} {l k:List Value},(∀v∈l,hB v=true)->bL ea cV l k->bL ea gB l k:= λ{cV gB ea l k} ar h=>(kp.cells (g:= λ_ _=>False) ar).og (λ_ _ h=>h.elim) h;have KE:eb Df u ((fJ.b0 1).aO 0 (some ⟨cs,true⟩)) p:=by
  refine⟨λq x B=> ?_,λq es aQ=> ?_,λq _=>rfl,λq yV c h cn=>by rw[(hc q c h).1,(hc yV c cn).1],λq c h=> ?_,λc gz h=>⟨?_,λq x bo B=> ?_⟩⟩
  ·obtain⟨rfl,rfl⟩:=ap0 q x B;exact .inl ⟨b,ds,true,Vz,by rw[oe,if_pos (.inr rfl)];exact tq,λ_=>rfl,afm ia yk⟩
  ·obtain⟨_,e⟩:=ap0 q _ (jb aQ).1;simp only[eM.mk.injEq,and_true]at e;exact absurd e.symm bG
  ·obtain⟨rfl,rfl⟩:=hc q c h;exact⟨by simp[fJ],by rw[q0];exact PO⟩
  ·obtain⟨w,aS⟩:=(F.bZ c gz h).1;exact⟨w,by rw[oe,if_pos (.inl (by rw[h];rfl))];exact aS⟩
  ·obtain⟨rfl,rfl⟩:=hc q c bo;rw[mm]at h;cases h
 have Kj:bL u Df (.pointer (some ⟨0,0,none⟩)::args) bu:=by
  cases bu with
  |nil=>have:=az.1;simp at this
  | cons a zr=>have A:=az.2 0 _ a rfl rfl;obtain⟨c,bK,_,rfl⟩:=A.sv;simp only at bK;rw[ck]at bK;cases bK;refine bL.cons (.bH Vz) ⟨by simpa using az.1,λi x y B Y=> ?_⟩;exact(aaU (g:= λ_ _=>False) (aa x (fr B))).og (λ_ _ h=>h.elim) (az.2 (i+1) x y (by simpa using B) (by simpa using Y))
 refine(ep.frame part (gK Df u bu p KE Kj)).bD λdZ bn bT=> ?_;obtain⟨k2,⟨cV,ea,v,bj,⟨al,sn,aws⟩,D,ai,aT⟩,bN⟩:=bT;have vI:m.next<=bn.next:=bN.next
 have Pj:cV 0=some b:=aT.e 0 b Vz;have ej: ∀c gz,ea c=some gz->u c=some gz\/m.next<=c:= λc gz h=>by
  rcases aT.fn c gz h with bF|bF|⟨q,x,bF,_⟩
  ·exact .inl bF
  ·exact .inr (by omega)
  ·obtain⟨rfl,rfl⟩:=hc q c bF;have:=(D.bZ _ gz h).2 0 _ Pj sn;cases this
 have atP: ∀q c,cV q=some c->c=b\/m.next<=c:= λq c h=>by
  rcases aT.kZ q c h with bF|bF
  ·exact .inl (hc q c bF).2
  ·exact .inr (by have:=bF.2;omega)
 have rK: ∀c,c<m.next->c≠b->bn.I c=m.I c:= λc ar BD=>by
  cases aH:p.I c with
  |none=>exact(bN.jd c ar aH).1
  | some x=>rw[part.I c x aH];refine bN.part.I c x ?_;rw[aT.dK c (by rw[q0];exact ar) λ⟨q,x,bF,_⟩=>BD (hc q c bF).2];exact aH
 obtain⟨ke,J9⟩: ∃ke:fU,ke= λc=>match ea c with
  |some gz=>some gz
  |none=>if c≠b/\ ∃q,cV q=some c then(k2.I c).map (·.cells)else none:=⟨_,rfl⟩
 have VL:gS ea ke:= λc gz h=>by rw[J9];simp only[h]
 have eS: ∀c gz,ke c=some gz->ea c=some gz\/(m.next<=c/\ ∃w,k2.I c=some ⟨gz,w⟩):= λc gz h=>by
  rw[J9]at h;simp only at h;split at h
  ·next bF=>cases h;exact .inl bF
  ·split at h
   ·next bF=>
    obtain⟨BD,q,bo⟩:=bF;right;refine⟨(atP q c bo).resolve_left BD,?_⟩;cases aH:k2.I c with
    |none=>rw[aH]at h;cases h
    |some x=>rw[aH]at h;cases h;exact⟨x.own,rfl⟩
   ·cases h
 have aIm:cm ke kS r dZ:=Gz D VL 9 ai al λq bo fl c gz w ahG aH=>by
  rw[J9];simp only;cases V8:ea c with
  |some lB=>obtain⟨⟨w',kE⟩,_⟩:=D.bZ c lB V8;rw[aH]at kE;cases kE;rfl
  | none=>
    have BD:c≠b:= λe=>by subst e;have:=D.inj q 0 c ahG Pj;subst this;exact aws bo
    simp only;rw[if_pos ⟨BD,q,ahG⟩,aH];rfl
 obtain⟨zE,ct,rF,ahr⟩: ∃zE ct,k2.I b=some ⟨zE,ct⟩/\(ct=true/\bL ea cV lX zE):=by
  rcases D.iU 0 _ sn with⟨c,d,w,bt,bR,a3,a4⟩|⟨bt,_⟩
  ·rw[Pj]at bt;cases bt;exact⟨d,w,bR,a3 rfl,a4⟩
  ·rw[Pj]at bt;cases bt
 have bk:=aM aB;have a2: ∀q,q≠o->(t.aO o (some ⟨lX,true⟩)).I q=t.I q:= λq h=>a7 h;have agw:(t.aO o (some (eM.mk lX true))).I o=some ⟨lX,true⟩:=cx bk;have nb: ∀q c,J q=some c->q≠o->c≠b:= λq c h bo e=>bo (F.inj q o b (e▸h) ck);have VN:gS u ke:=aT.f.trans VL;refine⟨J,ke,_,_,⟨rfl,rfl⟩,?_,aIm.bD (gS.refl _) (fE.nil _),?_⟩
 ·refine⟨λq x B=> ?_,λq es aQ=> ?_,F.jo,F.inj,λq c h=>⟨(F.cQ q c h).1,by have:=(F.cQ q c h).2;omega⟩,λc gz h=>⟨?_,λq x bo B=> ?_⟩⟩
  ·by_cases bo:q=o
   ·subst bo;rw[agw]at B;cases B;exact .inl ⟨b,zE,ct,ck,bN.part.I b _ rF,λ_=>ahr.1,(afm avw ahr.2).bD VL (fE.refl _)⟩
   ·rw[a2 q bo]at B;rcases F.iU q x B with⟨c,d,w,bt,bR,a3,a4⟩|bt
    ·exact .inl ⟨c,d,w,bt,by rw[rK c (F.cQ q c bt).2 (nb q c bt bo)];exact bR,a3,a4.bD VN (fE.refl _)⟩
    ·exact .inr bt
  ·obtain⟨b6,cR⟩:=jb aQ;by_cases bo:q=o
   ·subst bo;rw[agw]at b6;simp only[mB,eM.mk.injEq,and_true]at b6;exact absurd b6 av8
   ·rw[a2 q bo]at b6;obtain⟨c,db,bt,bR,a3⟩:=F.maps q es (kB b6 cR);obtain⟨fW,gI⟩:=jb bR;have cu:=(F.cQ q c bt).2;have BD:=nb q c bt bo;have V8:u c=none:=by
     cases dh:u c with
     |none=>rfl
     |some d=>have:=(F.bZ c d dh).2 q _ bt b6;cases this
    refine⟨c,db,bt,?_,a3.bD VN (fE.refl _)⟩;exact kB (by rw[rK c cu BD];exact fW) (by rw[(bN.jd c cu (by rw[oe,V8,if_neg (by simp[BD])])).2.2];exact gI)
  ·rcases eS c gz h with bF|⟨bF,w,cW⟩
   ·obtain⟨w,aS⟩:=(D.bZ c gz bF).1;exact⟨w,bN.part.I c _ aS⟩
   ·exact⟨w,bN.part.I c _ cW⟩
  ·have dm:=(F.cQ q c bo).2;have dh:u c=some gz:=by
    rcases eS c gz h with bF|⟨bF,_⟩
    ·exact(ej c gz bF).resolve_right (by omega)
    ·omega
   by_cases tw:q=o
   ·subst tw;rw[ck]at bo;cases bo;rw[mm]at dh;cases dh
   ·rw[a2 q tw]at B;exact(F.bZ c gz dh).2 q x bo B
 ·refine⟨fE.refl _,VN,λ_ _ h=> .inl h,λc gz h=> ?_,c8 _,vI,λc ar aS=> ?_,λc ar ⟨q,x,a8,bV,cv⟩=> ?_,λc ar ⟨q,x,a8,bV⟩=> ?_⟩
  ·rcases eS c gz h with bF|⟨bF,_⟩
   ·rcases ej c gz bF with cW|cW
    ·exact .inl cW
    ·exact .inr (.inl cW)
   ·exact .inr (.inl bF)
  ·exact rK c ar λe=>aS ⟨o,_,e▸ck,aB,rfl⟩
  ·by_cases tw:q=o
   ·subst tw;exact⟨q,_,a8,aB,rfl⟩
   ·rw[a2 q tw]at bV;exact⟨q,x,a8,bV,cv⟩
  ·by_cases tw:q=o
   ·subst tw;exact⟨q,_,a8,aB⟩
   ·rw[a2 q tw]at bV;exact⟨q,x,a8,bV⟩
end
open Go
section
variable {P:Program} {t m U:H} {J:eU} {u:fU}
theorem aG9(F:eb J u t m){q:Nat}{cs:List Value}(bo:m.next<=q)(WW:q<U.next)(aH:U.I q=some ⟨cs,true⟩)(ae:m.next<=U.next)(S: ∀b,b<m.next->U.I b=m.I b/\U.mp b=m.mp b)(dJ:cs.all ei=true):
 eb (gv J t.next q) u ((t.b0 1).aO t.next (some ⟨cs,true⟩)) U/\eQ t.next m.next J u t m (gv J t.next q) u ((t.b0 1).aO t.next (some ⟨cs,true⟩)) U:=by
 have ck:J t.next=none:=by
  cases aQ:J t.next with
  |none=>rfl
  |some b=>have:=(F.cQ _ _ aQ).1;omega
 have sm: ∀{o b:Nat},gv J t.next q o=some b->(o=t.next/\b=q)\/(o≠t.next/\J o=some b):= λ{o b} h=>by
  simp only[gv]at h;split at h
  ·next e=>cases h;exact .inl ⟨e,rfl⟩
  ·next e=>exact .inr ⟨e,h⟩
 have qO: ∀{o:Nat},o≠t.next->((t.b0 1).aO t.next (some ⟨cs,true⟩)).I o=t.I o:= λaB=>by rw[a7 aB,H.cJ]
 have avN: ∀{b:Nat} {es:List (Value×Value)},b<m.next->m.fu b=some es->U.fu b=some es:= λ{b es} hb aQ=>by obtain⟨aD,aJ⟩:=jb aQ;exact kB (by rw[(S b hb).1,aD]) (by rw[(S b hb).2,aJ])
 refine⟨⟨λo x B=> ?_,λo es aQ=> ?_,λo h=> ?_,λo o' b h cn=> ?_,λo b h=> ?_,λb ds h=> ?_⟩,⟨fE.set ck,gS.refl _,λo b h=> ?_,λb ds h=> .inl h,by simp,ae,λb hb _=>(S b hb).1,λb hb=> λ⟨o,y,h,cn,sl⟩=> ?_,λb hb=> λ⟨o,y,h,cn⟩=> ?_⟩⟩
 ·by_cases aB:o=t.next
  ·subst aB;rw[cx (by simp)]at B;cases B;exact .inl ⟨q,cs,true,by simp[gv],aH,λ_=>rfl,bL.c7 dJ⟩
  ·rw[qO aB]at B;rcases F.iU o x B with⟨b,ds,w,A,D,ai,aT⟩|⟨A,D⟩
   ·exact .inl ⟨b,ds,w,by simp[gv,aB,A],by rw[(S b (F.cQ o b A).2).1,D],ai,aT.bD (gS.refl _) (fE.set ck)⟩
   ·exact .inr ⟨by simp[gv,aB,A],D⟩
 ·by_cases aB:o=t.next
  ·subst aB;have:=(jb aQ).2;rw[show((t.b0 1).aO t.next (some ⟨cs,true⟩)).mp=t.mp from rfl,F.jo _ ck]at this;cases this
  ·rw[vw aB]at aQ;obtain⟨aD,aJ⟩:=jb aQ;rw[H.cJ]at aD;obtain⟨b,db,A,D,ai⟩:=F.maps o es (kB aD aJ);exact⟨b,db,by simp[gv,aB,A],avN (F.cQ o b A).2 D,ai.bD (gS.refl _) (fE.set ck)⟩
 ·simp only[gv]at h;split at h
  ·cases h
  ·exact F.jo o h
 ·rcases sm h with⟨bt,bR⟩|⟨bt,bR⟩<;>rcases sm cn with⟨b6,cR⟩|⟨b6,cR⟩
  ·rw[bt,b6]
  ·have:=(F.cQ _ _ cR).2;omega
  ·have:=(F.cQ _ _ bR).2;omega
  ·exact F.inj o o' b bR cR
 ·rcases sm h with⟨bt,bR⟩|⟨bt,bR⟩
  ·subst bt;subst bR;exact⟨by simp,WW⟩
  ·have:=F.cQ o b bR;simp only[eJ,fp];omega
 ·obtain⟨⟨w,A⟩,D⟩:=F.bZ b ds h;have hb:=aM A;refine⟨⟨w,by rw[(S b hb).1,A]⟩,λo x aB B=> ?_⟩;rcases sm aB with⟨bt,bR⟩|⟨bt,bR⟩
  ·omega
  ·rw[qO bt]at B;exact D o x bR B
 ·rcases sm h with⟨bt,bR⟩|⟨bt,bR⟩
  ·exact .inr (by omega)
  ·exact .inl bR
 ·rcases sm h with⟨bt,bR⟩|⟨bt,bR⟩
  ·omega
  ·exact⟨o,y,bR,by rw[qO bt]at cn;exact cn,sl⟩
 ·rcases sm h with⟨bt,bR⟩|⟨bt,bR⟩
  ·omega
  ·exact⟨o,y,bR,by rw[qO bt]at cn;exact cn⟩
theorem aHa(F:eb J u t m)(ae:m.next<=U.next)(S: ∀b,b<m.next->U.I b=m.I b/\U.mp b=m.mp b):
 eb J u ((t.b0 1).aO t.next (some ⟨[],true⟩)) U/\eQ t.next m.next J u t m J u ((t.b0 1).aO t.next (some ⟨[],true⟩)) U:=by
 have ck:J t.next=none:=by
  cases aQ:J t.next with
  |none=>rfl
  |some b=>have:=(F.cQ _ _ aQ).1;omega
 have bG: ∀{o b:Nat},J o=some b->o≠t.next:= λh e=>by subst e;rw[ck]at h;cases h
 have qO: ∀{o:Nat},o≠t.next->((t.b0 1).aO t.next (some ⟨[],true⟩)).I o=t.I o:= λaB=>by rw[a7 aB,H.cJ]
 refine⟨⟨λo x B=> ?_,λo es aQ=> ?_,F.jo,F.inj,λo b h=> ?_,λb ds h=> ?_⟩,⟨fE.refl _,gS.refl _,λo b h=> .inl h,λb ds h=> .inl h,by simp,ae,λb hb _=>(S b hb).1,λb hb=> λ⟨o,y,h,cn,sl⟩=> ?_,λb hb=> λ⟨o,y,h,cn⟩=> ?_⟩⟩
 ·by_cases aB:o=t.next
  ·subst aB;rw[cx (by simp)]at B;cases B;exact .inr ⟨ck,rfl⟩
  ·rw[qO aB]at B;rcases F.iU o x B with⟨b,ds,w,A,D,ai,aT⟩|A
   ·exact .inl ⟨b,ds,w,A,by rw[(S b (F.cQ o b A).2).1,D],ai,aT⟩
   ·exact .inr A
 ·by_cases aB:o=t.next
  ·subst aB;have:=(jb aQ).2;rw[show((t.b0 1).aO t.next (some ⟨[],true⟩)).mp=t.mp from rfl,F.jo _ ck]at this;cases this
  ·rw[vw aB]at aQ;obtain⟨aD,aJ⟩:=jb aQ;rw[H.cJ]at aD;obtain⟨b,db,A,D,ai⟩:=F.maps o es (kB aD aJ);obtain⟨bK,cz⟩:=jb D;have hb:=(F.cQ o b A).2;exact⟨b,db,A,kB (by rw[(S b hb).1,bK]) (by rw[(S b hb).2,cz]),ai⟩
 ·have:=F.cQ o b h;simp only[eJ,fp];omega
 ·obtain⟨⟨w,A⟩,D⟩:=F.bZ b ds h;refine⟨⟨w,by rw[(S b (aM A)).1,A]⟩,λo x aB B=> ?_⟩;rw[qO (bG aB)]at B;exact D o x aB B
 ·exact⟨o,y,h,by rw[qO (bG h)]at cn;exact cn,sl⟩
 ·exact⟨o,y,h,by rw[qO (bG h)]at cn;exact cn⟩
theorem aIF{f n G:Nat}{args cs:List Value}(dJ:cs.all ei=true)
 (gK: ∀(J:eU) (u:fU) (dp:List Value) (m:H),eb J u t m->bL u J args dp->ep P f dp m λr U=>m.next<=U.next/\(∀b,b<m.next->U.I b=m.I b/\U.mp b=m.mp b)/\
  ((n=0/\cs=[]/\r= .slice none 0 0)\/ ∃q,m.next<=q/\q<U.next/\r= .slice (some ⟨q,0,none⟩) n G/\U.I q=some ⟨cs,true⟩)):
 fc P f args t λv af=>v=b7 t.next n G/\af=(t.b0 1).aO t.next (some ⟨cs,true⟩):= λJ u dp m F aa=>by
 refine(gK J u dp m F aa).bD λr U bT=> ?_;obtain⟨A,D,⟨ai,aT,bF⟩|⟨q,ai,aT,bF,cW⟩⟩:=bT
 ·subst ai;subst aT;subst bF;obtain⟨aE,a2⟩:=aHa F A D;exact⟨J,u,_,_,⟨rfl,rfl⟩,aE,.rZ,a2⟩
 ·obtain⟨aE,a2⟩:=aG9 F ai aT cW A D dJ;exact⟨_,u,_,_,⟨rfl,rfl⟩,aE,by rw[bF];exact .slice (by simp[gv]),a2⟩
end
end Go.DI
namespace Go
noncomputable abbrev N:=Go.Proofs.Tryz.prog
abbrev aZn:Value:= .slice none 0 0
abbrev aZm:Value:= .int .i64 0
end Go
namespace Go.Proofs.YtmmkkggfmigppaaGreat
open Go Go.DI
section
set_option maxRecDepth 100000
def aAx:cp N 168:=⟨_,by conv=>lhs;reduce⟩
def ai9:aw:=aF (a:=aAx.1.body) ⟨_,by conv=>lhs;reduce⟩
def QX:b8:=⟨10,[.bJ 2],ai9⟩
theorem aja:cd N 168=some QX:=by kernel_rfl
def ZE:cp N 194:=⟨_,by conv=>lhs;reduce⟩
def Ra:aw:=aF (a:=bg ZE.1.body 35) ⟨_,by conv=>lhs;reduce⟩
def Ho:aw:=aF (a:=bg ZE.1.body 15) ⟨_,by conv=>lhs;reduce⟩
def Yh:aw:=aF (a:= λx y=>bh 15 y (bh 35 x ZE.1.body)) ⟨_,by conv=>lhs;reduce⟩ Ra Ho
def Hn:b8:=⟨22,[.bJ 2],Yh⟩
theorem Yi:cd N 194=some Hn:=by kernel_rfl
def ZI:cp N 213:=⟨_,by conv=>lhs;reduce⟩
def Rj:aw:=aF (a:=bg ZI.1.body 71) ⟨_,by conv=>lhs;reduce⟩
def Ll:aw:=aF (a:=bg ZI.1.body 31) ⟨_,by conv=>lhs;reduce⟩
def ajM:aw:=aF (a:= λx y=>bh 31 y (bh 71 x ZI.1.body)) ⟨_,by conv=>lhs;reduce⟩ Rj Ll
def Ri:b8:=⟨32,[.bJ 4,.bJ 5],ajM⟩
theorem ajN:cd N 213=some Ri:=by kernel_rfl
def ZJ:cp N 216:=⟨_,by conv=>lhs;reduce⟩
def Lm:aw:=aF (a:=bg ZJ.1.body 303) ⟨_,by conv=>lhs;reduce⟩
def ajS:aw:=aF (a:=bg ZJ.1.body 63) ⟨_,by conv=>lhs;reduce⟩
def ajQ:aw:=aF (a:= λx y=>bh 63 y (bh 303 x ZJ.1.body)) ⟨_,by conv=>lhs;reduce⟩ Lm ajS
def Rl:b8:=⟨25,[.bJ 2],ajQ⟩
theorem ajR:cd N 216=some Rl:=by kernel_rfl
def aAR:cp N 217:=⟨_,by conv=>lhs;reduce⟩
def ayk:aw:=aF (a:=aAR.1.body) ⟨_,by conv=>lhs;reduce⟩
def ajT:b8:=⟨14,[.bJ 2],ayk⟩
theorem ayl:cd N 217=some ajT:=by kernel_rfl
def ZL:cp N 222:=⟨_,by conv=>lhs;reduce⟩
def Lo:aw:=aF (a:=bg ZL.1.body 151) ⟨_,by conv=>lhs;reduce⟩
def Hr:aw:=aF (a:=bg ZL.1.body 31) ⟨_,by conv=>lhs;reduce⟩
def aj2:aw:=aF (a:= λx y=>bh 31 y (bh 151 x ZL.1.body)) ⟨_,by conv=>lhs;reduce⟩ Lo Hr
def Ro:b8:=⟨46,[.bJ 4],aj2⟩
theorem aj3:cd N 222=some Ro:=by kernel_rfl
def ZQ:cp N 241:=⟨_,by conv=>lhs;reduce⟩
def Lq:aw:=aF (a:=bg ZQ.1.body 151) ⟨_,by conv=>lhs;reduce⟩
def Hu:aw:=aF (a:=bg ZQ.1.body 31) ⟨_,by conv=>lhs;reduce⟩
def akn:aw:=aF (a:= λx y=>bh 31 y (bh 151 x ZQ.1.body)) ⟨_,by conv=>lhs;reduce⟩ Lq Hu
def Rw:b8:=⟨45,[.bJ 4],akn⟩
theorem ako:cd N 241=some Rw:=by kernel_rfl
def aBa:cp N 246:=⟨_,by conv=>lhs;reduce⟩
def akp:aw:=aF (a:=aBa.1.body) ⟨_,by conv=>lhs;reduce⟩
def Rx:b8:=⟨7,[.bJ 2],akp⟩
theorem akq:cd N 246=some Rx:=by kernel_rfl
def B7:cp N 247:=⟨_,by conv=>lhs;reduce⟩
def YA:aw:=aF (a:=bg B7.1.body 2411) ⟨_,by conv=>lhs;reduce⟩
def Yz:aw:=aF (a:=bg B7.1.body 491) ⟨_,by conv=>lhs;reduce⟩
def ayL:aw:=aF (a:=bg B7.1.body 2331391) ⟨_,by conv=>lhs;reduce⟩
def ayM:aw:=aF (a:=bg B7.1.body 19895039) ⟨_,by conv=>lhs;reduce⟩
def ayN:aw:=aF (a:= λx y=>bh 4857 y (bh 569 x (bg B7.1.body 4863))) ⟨_,by conv=>lhs;reduce⟩ ayL ayM
def ayK:aw:=aF (a:= λx=>bh 607 x (bg B7.1.body 15)) ⟨_,by conv=>lhs;reduce⟩ ayN
def akr:aw:=aF (a:= λx y G=>bh 3 G (bh 122 y (bh 602 x (bg B7.1.body 7)))) ⟨_,by conv=>lhs;reduce⟩ YA Yz ayK
def Yx:aw:=aF (a:= λx=>bh 7 x B7.1.body) ⟨_,by conv=>lhs;reduce⟩ akr
def Hv:b8:=⟨198,[.bJ 4,.bJ 5],Yx⟩
theorem Yy:cd N 247=some Hv:=by kernel_rfl
def aml:cp N 248:=⟨_,by conv=>lhs;reduce⟩
def aku:aw:=aF (a:=bg aml.1.body 35) ⟨_,by conv=>lhs;reduce⟩
def aks:aw:=aF (a:= λx=>bh 35 x aml.1.body) ⟨_,by conv=>lhs;reduce⟩ aku
def Ry:b8:=⟨19,[.bJ 2],aks⟩
theorem akt:cd N 248=some Ry:=by kernel_rfl
def amm:cp N 249:=⟨_,by conv=>lhs;reduce⟩
def ayQ:aw:=aF (a:=bg amm.1.body 1215) ⟨_,by conv=>lhs;reduce⟩
def ayO:aw:=aF (a:= λx=>bh 1215 x amm.1.body) ⟨_,by conv=>lhs;reduce⟩ ayQ
def akv:b8:=⟨75,[.bJ 4,.bJ 5],ayO⟩
theorem ayP:cd N 249=some akv:=by kernel_rfl
def ZR:cp N 251:=⟨_,by conv=>lhs;reduce⟩
def RA:aw:=aF (a:=bg ZR.1.body 71) ⟨_,by conv=>lhs;reduce⟩
def Lt:aw:=aF (a:=bg ZR.1.body 31) ⟨_,by conv=>lhs;reduce⟩
def akw:aw:=aF (a:= λx y=>bh 31 y (bh 71 x ZR.1.body)) ⟨_,by conv=>lhs;reduce⟩ RA Lt
def Rz:b8:=⟨30,[.bJ 4,.bJ 5],akw⟩
theorem akx:cd N 251=some Rz:=by kernel_rfl
def aBb:cp N 253:=⟨_,by conv=>lhs;reduce⟩
def aky:aw:=aF (a:=aBb.1.body) ⟨_,by conv=>lhs;reduce⟩
def RB:b8:=⟨8,[.bJ 2],aky⟩
theorem akz:cd N 253=some RB:=by kernel_rfl
def ZS:cp N 254:=⟨_,by conv=>lhs;reduce⟩
def ayU:aw:=aF (a:=bg ZS.1.body 308015) ⟨_,by conv=>lhs;reduce⟩
def ayV:aw:=aF (a:= λx=>bh 1203 x (bg ZS.1.body 303)) ⟨_,by conv=>lhs;reduce⟩ ayU
def ayS:aw:=aF (a:= λx=>bh 303 x ZS.1.body) ⟨_,by conv=>lhs;reduce⟩ ayV
def akA:b8:=⟨84,[.bJ 4,.bJ 5],ayS⟩
theorem ayT:cd N 254=some akA:=by kernel_rfl
def aBe:cp N 257:=⟨_,by conv=>lhs;reduce⟩
def ay0:aw:=aF (a:=aBe.1.body) ⟨_,by conv=>lhs;reduce⟩
def akB:b8:=⟨21,[.bJ 4,.bJ 5],ay0⟩
theorem ay1:cd N 257=some akB:=by kernel_rfl
def aBg:cp N 260:=⟨_,by conv=>lhs;reduce⟩
def akH:aw:=aF (a:=aBg.1.body) ⟨_,by conv=>lhs;reduce⟩
def RF:b8:=⟨21,[.bJ 4,.bJ 5],akH⟩
theorem akI:cd N 260=some RF:=by kernel_rfl
def SA:cp N 268:=⟨_,by conv=>lhs;reduce⟩
def ay6:aw:=aF (a:=bg SA.1.body 19019) ⟨_,by conv=>lhs;reduce⟩
def akL:aw:=aF (a:= λx=>bh 297 x (bg SA.1.body 75)) ⟨_,by conv=>lhs;reduce⟩ ay6
def YF:aw:=aF (a:=bg SA.1.body 15) ⟨_,by conv=>lhs;reduce⟩
def akJ:aw:=aF (a:= λx y=>bh 15 y (bh 75 x SA.1.body)) ⟨_,by conv=>lhs;reduce⟩ akL YF
def RG:b8:=⟨68,[.bJ 4],akJ⟩
theorem akK:cd N 268=some RG:=by kernel_rfl
def aBi:cp N 271:=⟨_,by conv=>lhs;reduce⟩
def akO:aw:=aF (a:=aBi.1.body) ⟨_,by conv=>lhs;reduce⟩
def RH:b8:=⟨6,[.bJ 2],akO⟩
theorem akP:cd N 271=some RH:=by kernel_rfl
def aBj:cp N 272:=⟨_,by conv=>lhs;reduce⟩
def ay7:aw:=aF (a:=aBj.1.body) ⟨_,by conv=>lhs;reduce⟩
def akQ:b8:=⟨13,[.bJ 2,.bJ 3],ay7⟩
theorem ay8:cd N 272=some akQ:=by kernel_rfl
def EK:cp N 273:=⟨_,by conv=>lhs;reduce⟩
def aza:aw:=aF (a:=bg EK.1.body 143) ⟨_,by conv=>lhs;reduce⟩
def azb:aw:=aF (a:=bg EK.1.body 2303487) ⟨_,by conv=>lhs;reduce⟩
def azc:aw:=aF (a:= λx=>bh 281 x (bg EK.1.body 9727)) ⟨_,by conv=>lhs;reduce⟩ azb
def azd:aw:=aF (a:=bg EK.1.body 38911) ⟨_,by conv=>lhs;reduce⟩
def ay9:aw:=aF (a:= λx y G=>bh 4863 G (bh 1215 y (bh 17 x (bg EK.1.body 15)))) ⟨_,by conv=>lhs;reduce⟩ aza azc azd
def akR:aw:=aF (a:= λx=>bh 3 x (bg EK.1.body 7)) ⟨_,by conv=>lhs;reduce⟩ ay9
def YH:aw:=aF (a:= λx=>bh 7 x EK.1.body) ⟨_,by conv=>lhs;reduce⟩ akR
def Hy:b8:=⟨198,[.bJ 4,.bJ 5],YH⟩
theorem YI:cd N 273=some Hy:=by kernel_rfl
def amn:cp N 274:=⟨_,by conv=>lhs;reduce⟩
def azg:aw:=aF (a:=bg amn.1.body 151) ⟨_,by conv=>lhs;reduce⟩
def aze:aw:=aF (a:= λx=>bh 151 x amn.1.body) ⟨_,by conv=>lhs;reduce⟩ azg
def akS:b8:=⟨57,[.bJ 4],aze⟩
theorem azf:cd N 274=some akS:=by kernel_rfl
def ZT:cp N 278:=⟨_,by conv=>lhs;reduce⟩
def YJ:aw:=aF (a:=bg ZT.1.body 151) ⟨_,by conv=>lhs;reduce⟩
def RJ:aw:=aF (a:=bg ZT.1.body 31) ⟨_,by conv=>lhs;reduce⟩
def akU:aw:=aF (a:= λx y=>bh 31 y (bh 151 x ZT.1.body)) ⟨_,by conv=>lhs;reduce⟩ YJ RJ
def RI:b8:=⟨45,[.bJ 4,.bJ 5],akU⟩
theorem akV:cd N 278=some RI:=by kernel_rfl
end
abbrev bH(b:Nat):Value:= .pointer (some ⟨b,0,none⟩)
abbrev E(n:Int):Value:= .int .i64 n
abbrev ez(n:Int):Value:= .int .u32 n
structure fx(m U:H):Prop where
 next:m.next<=U.next
 I: ∀b,b<m.next->U.I b=m.I b
theorem fx.refl(m:H):fx m m:=⟨c8 _,λ_ _=>rfl⟩
theorem fC{l:List Value}{k:Nat}:(List.take 1 (List.drop k l)).head?=l[k]?:=by
 cases h:l.drop k with
 |nil=>rw[List.drop_eq_nil_iff]at h;rw[re h];rfl
 |cons x xs=>simp;rw[<-List.head?_drop,h];rfl
section
set_option maxRecDepth 100000
def amg:cp N 179:=⟨_,by conv=>lhs;reduce⟩
def La:aw:=aF (a:=bg amg.1.body 75) ⟨_,by conv=>lhs;reduce⟩
def Hi:aw:=aF (a:= λx=>bh 75 x amg.1.body) ⟨_,by conv=>lhs;reduce⟩ La
def axZ:b8:=⟨28,[.bJ 2],Hi⟩
theorem ax0:cd N 179=some axZ:=by kernel_rfl
theorem asH{args:List Value}{m:H}{bA:Value->H->Prop}(h:args.length<=28):ep N 179 args m bA=fG N Hi (ig args) m (nn [.bJ 2] bA):=nN ax0 h
def amj:cp N 188:=⟨_,by conv=>lhs;reduce⟩
def Lf:aw:=aF (a:=bg amj.1.body 75) ⟨_,by conv=>lhs;reduce⟩
def Hl:aw:=aF (a:= λx=>bh 75 x amj.1.body) ⟨_,by conv=>lhs;reduce⟩ Lf
def ax4:b8:=⟨29,[.bJ 2],Hl⟩
theorem ax5:cd N 188=some ax4:=by kernel_rfl
theorem asL{args:List Value}{m:H}{bA:Value->H->Prop}(h:args.length<=29):ep N 188 args m bA=fG N Hl (ig args) m (nn [.bJ 2] bA):=nN ax5 h
def aA1:cp N 231:=⟨_,by conv=>lhs;reduce⟩
def Yu:aw:=aF (a:=aA1.1.body) ⟨_,by conv=>lhs;reduce⟩
def ayA:b8:=⟨17,[.bJ 2],Yu⟩
theorem ayB:cd N 231=some ayA:=by kernel_rfl
theorem asM{args:List Value}{m:H}{bA:Value->H->Prop}(h:args.length<=17):ep N 231 args m bA=fG N Yu (ig args) m (nn [.bJ 2] bA):=nN ayB h
def aA2:cp N 232:=⟨_,by conv=>lhs;reduce⟩
def Ex:aw:=aF (a:=aA2.1.body) ⟨_,by conv=>lhs;reduce⟩
def ayC:b8:=⟨17,[.bJ 2],Ex⟩
theorem ayD:cd N 232=some ayC:=by kernel_rfl
theorem asN{args:List Value}{m:H}{bA:Value->H->Prop}(h:args.length<=17):ep N 232 args m bA=fG N Ex (ig args) m (nn [.bJ 2] bA):=nN ayD h
def aA6:cp N 237:=⟨_,by conv=>lhs;reduce⟩
def Yw:aw:=aF (a:=aA6.1.body) ⟨_,by conv=>lhs;reduce⟩
def ayE:b8:=⟨17,[.bJ 2],Yw⟩
theorem ayF:cd N 237=some ayE:=by kernel_rfl
theorem asR{args:List Value}{m:H}{bA:Value->H->Prop}(h:args.length<=17):ep N 237 args m bA=fG N Yw (ig args) m (nn [.bJ 2] bA):=nN ayF h
def aA7:cp N 238:=⟨_,by conv=>lhs;reduce⟩
def Ey:aw:=aF (a:=aA7.1.body) ⟨_,by conv=>lhs;reduce⟩
def ayG:b8:=⟨17,[.bJ 2],Ey⟩
theorem ayH:cd N 238=some ayG:=by kernel_rfl
theorem asS{args:List Value}{m:H}{bA:Value->H->Prop}(h:args.length<=17):ep N 238 args m bA=fG N Ey (ig args) m (nn [.bJ 2] bA):=nN ayH h
def aBc:cp N 255:=⟨_,by conv=>lhs;reduce⟩
def YB:aw:=aF (a:=aBc.1.body) ⟨_,by conv=>lhs;reduce⟩
def ayW:b8:=⟨9,[.bJ 2],YB⟩
theorem ayX:cd N 255=some ayW:=by kernel_rfl
theorem asT{args:List Value}{m:H}{bA:Value->H->Prop}(h:args.length<=9):ep N 255 args m bA=fG N YB (ig args) m (nn [.bJ 2] bA):=nN ayX h
def aBd:cp N 256:=⟨_,by conv=>lhs;reduce⟩
def YC:aw:=aF (a:=aBd.1.body) ⟨_,by conv=>lhs;reduce⟩
def ayY:b8:=⟨9,[.bJ 2],YC⟩
theorem ayZ:cd N 256=some ayY:=by kernel_rfl
theorem asU{args:List Value}{m:H}{bA:Value->H->Prop}(h:args.length<=9):ep N 256 args m bA=fG N YC (ig args) m (nn [.bJ 2] bA):=nN ayZ h
end
def qT(n:Int):Bool:=(decide (97<=n)&&decide (n<=122))||(decide (65<=n)&&decide (n<=90))
def xh(n:Int):Bool:=decide (48<=n)&&decide (n<=57)
def oa(n:Int):Bool:=qT n||xh n||decide (n=45)||decide (n=46)
def uZ(p:Int->Bool)(T:ByteArray):Nat->Nat->Nat
 |0,_=>0
 |n+1,i=>if p (vm T i)=true then uZ p T n (i+1)+1 else 0
def ev(T:ByteArray):Prop:=0<T.size/\T.size<=16/\qT (vm T 0)=true/\uZ oa T T.size 0=T.size
open Classical in
noncomputable def rN(T:ByteArray):Bool:=decide (ev T)
theorem Fc{T:ByteArray}(h:ev T):rN T=true:=by simp[rN,h]
theorem Cr{T:ByteArray}(h: ¬ev T):rN T=false:=by simp[rN,h]
theorem afX{T:ByteArray}(h:T.size=0):T=⟨#[]⟩:=by apply ByteArray.ext;exact Array.eq_empty_of_size_eq_zero h
theorem EZ(n:Int)(m:H)(bA:Value->H->Prop):ep N 231 [.int .u8 n] m bA=bA (.bool (qT n)) m:=by refine(qq.xt ?_).wp;rw[asM (by simp)];by_cases A:97<=n<;>by_cases D:n<=122<;>by_cases ai:65<=n<;>by_cases aT:n<=90<;>simp[Yu,qT,A,D,ai,aT]
theorem Pg(n:Int)(m:H)(bA:Value->H->Prop):ep N 255 [.int .u8 n] m bA=bA (.bool (xh n)) m:=by refine(qq.xt ?_).wp;rw[asT (by simp)];by_cases A:48<=n<;>by_cases D:n<=57<;>simp[YB,xh,A,D]
theorem aia(n:Int)(m:H)(bA:Value->H->Prop):ep N 232 [.int .u8 n] m bA=bA (.bool (oa n)) m:=by
 refine(qq.xt ?_).wp;rw[asN (by simp)];by_cases A:qT n=true
 ·simp[Ex,EZ,oa,A]
 by_cases D:xh n=true
 ·simp[Ex,EZ,Pg,oa,A,D]
 by_cases ai:n=45
 ·subst ai;simp[Ex,EZ,Pg,oa,qT,xh]
 by_cases aT:n=46
 ·subst aT;simp[Ex,EZ,Pg,oa,qT,xh]
 simp[Ex,EZ,Pg,oa,A,D,ai,aT]
theorem anu{T:ByteArray}(fO:T.size<=16){Q:cM->aC->H->Prop}: ∀(r i:Nat) (m:H) (z:aC),i+r=T.size->z 0= .string T->z 3=E i->
 (uZ oa T r i=r-> ∀K,Q (.cH 0) K m)->(uZ oa T r i≠r-> ∀K,K 2= .bool false->Q .e3 K m)->fG N (.loop La) z m Q
 | 0,i,m,z,W,bO,bW,a8,bV=>by refine j7 λbM a1=> ?_;have: ¬(i:Int)<T.size:=(by omega);simp[La,uR,bO,bW,this];exact a8 rfl _
 | r+1,i,m,z,W,bO,bW,a8,bV=>by
   refine j7 λbM a1=> ?_;have A:(i:Int)<T.size:=(by omega);have ct:=fz (n:=i) (by omega);by_cases hb:oa (vm T i)=true
   ·simp[La,uR,aia,bO,bW,A,hb,ct];refine a1 _ _ (anu fO r (i+1) _ _ (by omega) (by simp[bO]) (by simp) (λh=>a8 (by simp[uZ,hb,h])) (λh=>bV (by simp[uZ,hb];exact h)))
   ·have iG:oa (vm T i)=false:=(by simpa using hb);simp[La,uR,aia,bO,bW,A,iG];exact bV (by simp[uZ,iG]) _ (by simp)
theorem aC7(T:ByteArray)(m:H)(bA:Value->H->Prop):ep N 179 [.string T] m bA=bA (.bool (rN T)) m:=by
 refine(qq.xt ?_).wp;rw[asH (by simp)];by_cases bY:T.size=0
 ·have e:=afX bY;have PB:(T.size:Int)<1:=(by omega);have ae: ¬ev T:= λh=>by have:=h.1;omega
  simp[Hi,e];rw[<-e,Cr ae]
 ·have e: ¬T=⟨#[]⟩:= λh=>bY (by rw[h];rfl);have PB:(0:Int)<T.size:=(by omega);have PC: ¬(T.size:Int)<1:=(by omega);have Z:0<T.size:=(by omega);by_cases A:16<T.size
  ·have jP:(16:Int)<T.size:=(by omega);have ae: ¬ev T:= λh=>by have:=h.2.1;omega
   simp[Hi,uR,e,jP,Cr ae]
  ·have jP: ¬(16:Int)<T.size:=(by omega);by_cases D:qT (vm T 0)=true
   ·simp[Hi,uR,EZ,e,Z,jP,D];refine anu (T:=T) (by omega) T.size 0 _ _ (by omega) (by simp) (by simp) (λh K=> ?_) (λh K g=> ?_)
    ·simp[Fc ⟨by omega,by omega,D,h⟩]
    ·have ae: ¬ev T:= λcn=>h cn.2.2.2;simp[g,Cr ae]
   ·have ae: ¬ev T:= λcn=>D cn.2.2.1;have zM:qT (vm T 0)=false:=(by simpa using D);simp[Hi,uR,EZ,e,Z,jP,zM,Cr ae]
theorem Fo(n:Int)(m:H)(bA:Value->H->Prop):ep N 237 [.int .u8 n] m bA=bA (.bool (qT n)) m:=by refine(qq.xt ?_).wp;rw[asR (by simp)];by_cases A:97<=n<;>by_cases D:n<=122<;>by_cases ai:65<=n<;>by_cases aT:n<=90<;>simp[Yw,qT,A,D,ai,aT]
theorem Ty(n:Int)(m:H)(bA:Value->H->Prop):ep N 256 [.int .u8 n] m bA=bA (.bool (xh n)) m:=by refine(qq.xt ?_).wp;rw[asU (by simp)];by_cases A:48<=n<;>by_cases D:n<=57<;>simp[YC,xh,A,D]
theorem aoN(n:Int)(m:H)(bA:Value->H->Prop):ep N 238 [.int .u8 n] m bA=bA (.bool (oa n)) m:=by
 refine(qq.xt ?_).wp;rw[asS (by simp)];by_cases A:qT n=true
 ·simp[Ey,Fo,oa,A]
 by_cases D:xh n=true
 ·simp[Ey,Fo,Ty,oa,A,D]
 by_cases ai:n=45
 ·subst ai;simp[Ey,Fo,Ty,oa,qT,xh]
 by_cases aT:n=46
 ·subst aT;simp[Ey,Fo,Ty,oa,qT,xh]
 simp[Ey,Fo,Ty,oa,A,D,ai,aT]
theorem aoP{T:ByteArray}(fO:T.size<=16){Q:cM->aC->H->Prop}: ∀(r i:Nat) (m:H) (z:aC),i+r=T.size->z 0= .string T->z 3=E i->
 (uZ oa T r i=r-> ∀K,Q (.cH 0) K m)->(uZ oa T r i≠r-> ∀K,K 2= .bool false->Q .e3 K m)->fG N (.loop Lf) z m Q
 | 0,i,m,z,W,bO,bW,a8,bV=>by refine j7 λbM a1=> ?_;have: ¬(i:Int)<T.size:=(by omega);simp[Lf,uR,bO,bW,this];exact a8 rfl _
 | r+1,i,m,z,W,bO,bW,a8,bV=>by
   refine j7 λbM a1=> ?_;have A:(i:Int)<T.size:=(by omega);have ct:=fz (n:=i) (by omega);by_cases hb:oa (vm T i)=true
   ·simp[Lf,uR,aoN,bO,bW,A,hb,ct];refine a1 _ _ (aoP fO r (i+1) _ _ (by omega) (by simp[bO]) (by simp) (λh=>a8 (by simp[uZ,hb,h])) (λh=>bV (by simp[uZ,hb];exact h)))
   ·have iG:oa (vm T i)=false:=(by simpa using hb);simp[Lf,uR,aoN,bO,bW,A,iG];exact bV (by simp[uZ,iG]) _ (by simp)
theorem aoQ(T:ByteArray)(m:H)(bA:Value->H->Prop):ep N 188 [.string T] m bA=bA (.bool (rN T)) m:=by
 refine(qq.xt ?_).wp;rw[asL (by simp)];by_cases bY:T.size=0
 ·have e:=afX bY;have PB:(T.size:Int)<1:=(by omega);have ae: ¬ev T:= λh=>by have:=h.1;omega
  simp[Hl,uR,PB,Cr ae]
 ·have e: ¬T=⟨#[]⟩:= λh=>bY (by rw[h];rfl);have PB:(0:Int)<T.size:=(by omega);have PC: ¬(T.size:Int)<1:=(by omega);have Z:0<T.size:=(by omega);by_cases A:16<T.size
  ·have jP:(16:Int)<T.size:=(by omega);have ae: ¬ev T:= λh=>by have:=h.2.1;omega
   simp[Hl,uR,PC,jP,Cr ae]
  ·have jP: ¬(16:Int)<T.size:=(by omega);by_cases D:qT (vm T 0)=true
   ·simp[Hl,uR,Fo,PC,Z,jP,D];refine aoP (T:=T) (by omega) T.size 0 _ _ (by omega) (by simp) (by simp) (λh K=> ?_) (λh K g=> ?_)
    ·simp[Fc ⟨by omega,by omega,D,h⟩]
    ·have ae: ¬ev T:= λcn=>h cn.2.2.2;simp[g,Cr ae]
   ·have ae: ¬ev T:= λcn=>D cn.2.2.1;have zM:qT (vm T 0)=false:=(by simpa using D);simp[Hl,uR,Fo,PC,Z,jP,zM,Cr ae]
end Go.Proofs.YtmmkkggfmigppaaGreat
namespace Go.Big
structure cq where
 ku:Bool
 a:List Int
 b:List Int
 deriving DecidableEq
structure eQ where
 ku:Bool
 n:Int
 d:Int
 deriving DecidableEq
def eQ.nil:eQ:=⟨false,0,1⟩
def eQ.mv:eQ:=⟨false,1,1⟩
def eQ.ok(_:eQ):Bool:=true
def eQ.small(_:eQ):Bool:=true
def rQ(x y:eQ):Int:=if x.n*y.d<y.n*x.d then-1 else if y.n*x.d<x.n*y.d then 1 else 0
def cq.bZ(x:cq):eQ:=⟨x.ku,x.a.headD 0,x.b.headD 0⟩
def NQ:List cq:=[⟨false,[],[1]⟩,⟨false,[1],[1]⟩,⟨false,[1],[2]⟩,⟨false,[1],[1000]⟩,⟨false,[30],[1]⟩]
def cq.dq(x:cq):Prop:=x∈NQ
theorem apz{x:eQ}(_:x.small=true):x.ok=true:=rfl
theorem cq.h1{x:cq}(h:x.dq):0<=x.bZ.n:=by
 have: ∀y∈NQ,0<=y.bZ.n:=by decide
 exact this x h
theorem cq.ik{x:cq}(h:x.dq):0<=x.bZ.n:=cq.h1 h
end Go.Big
namespace Go.Proofs.YtmmkkggfmigppaaGreat
open Go Go.DI Go.Big
abbrev b5(l:List Int):Value:=ad (l.map λd=>[ez d]) 1
theorem Cj{dF pr:Type}{f:dF->pr}(h: ∀x y,f x=f y->x=y): ∀{l c5:List dF},l.map f=c5.map f↔l=c5
 |[],[]=>by simp
 |[],_::_=>by simp
 |_::_,[]=>by simp
 | x::l,y::c5=>by simp only[lO,ub,Cj h];exact⟨λ⟨a,b⟩=>⟨h _ _ a,b⟩,λ⟨a,b⟩=>⟨by rw[a],b⟩⟩
@[simp] theorem aRs{l c5:List Int}:(l.map λd=>[ez d])=(c5.map λd=>[ez d])↔l=c5:=Cj λx y h=>by simpa using h
def ew(x:cq):List Value:=[.bool x.ku,b5 x.a,b5 x.b]
theorem aEL{x y:cq}:ew x=ew y↔x=y:=by obtain⟨a,b,c⟩:=x;obtain⟨ed,cw,nw⟩:=y;simp[ew]
@[simp] theorem aSO{x:cq}:(ew x).length=3:=rfl
abbrev dL(x:cq):Value:= .agg (ew x).toArray
abbrev iP(l:List cq):Value:=ad (l.map ew) 3
@[simp] theorem aSP{l c5:List cq}:l.map ew=c5.map ew↔l=c5:=Cj λx y h=>aEL.1 h
theorem aCs{f:Nat}{ts:List Value}{r:Value}(h: ∀m dp,I9 m ts dp->ep N f dp m λdZ U=>fx m U/\Ot U r dZ):bP N f ts r:=
 aHQ λm dp aa=>(h m dp aa).bD λdZ U bT=>⟨⟨bT.1.next,bT.1.I⟩,bT.2⟩
theorem aC6{T:ByteArray}:bP N 179 [.string T] (.bool (rN T)):=aCs λm dp aa=>by obtain⟨v,rfl,h⟩:=aa.mv;rw[h.Ab,aC7];exact⟨fx.refl m,.c7 rfl⟩
end Go.Proofs.YtmmkkggfmigppaaGreat
