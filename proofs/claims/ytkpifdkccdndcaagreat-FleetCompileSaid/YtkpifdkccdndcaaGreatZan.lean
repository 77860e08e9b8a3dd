/-
  A part of the proof of the statement, in texts that tools of ours (wip/shrink.py, irpack.py, relax.py, minify.py, join.py, lay.py) have shortened.
-/
import Derived.Test.YtkpifdkccdndcaaGreatZag
import Derived.Test.YtkpifdkccdndcaaGreatZal
import Derived.Test.YtkpifdkccdndcaaGreatZam
set_option linter.all false
set_option maxRecDepth 8000
set_option maxHeartbeats 16000000
namespace Go.Big
def hu(l:List Bool)(i:Nat):Bool:=l.getD i false
theorem aeo{l:List Bool}{i:Nat}{b:Bool}(h:l[i]?=some b):hu l i=b:=by unfold hu;rw[List.getD_eq_getElem?_getD,h];rfl
theorem FJ{l:List Bool}{i:Nat}(h:i<l.length):l[i]?=some (hu l i):=by rw[aeo (List.getElem?_eq_getElem h),List.getElem?_eq_getElem h]
theorem asq{l:List Bool}{i j:Nat}{b:Bool}(h:i<l.length):hu (l.set i b) j=if j=i then b else hu l j:=by
  unfold hu;simp only[List.getD_eq_getElem?_getD,List.getElem?_set];by_cases cp:i=j
  · subst cp;simp[h]
  · rw[if_neg cp,if_neg (λe=>cp e.symm)]
def ot(cq:List Bool)(i:Nat):List Nat->List Bool->List Bool
  |[],R=>R
  |k::gG,R=>ot cq i gG (R.set i (hu R i||(hu cq k&&hu R k)))
def sl(Y:List Bool)(j5:List (List Bool))(n:Nat):List Nat->List Bool->List Bool
  |[],R=>R
  |i::qG,R=>sl Y j5 n qG (ot (j5.getD i []) i (List.range n) (R.set i (hu R i||hu Y i)))
def l4(Y:List Bool)(j5:List (List Bool))(n:Nat):Nat->List Bool
  |0=>List.replicate n false
  |k+1=>sl Y j5 n (List.range n) (l4 Y j5 n k)
def uW(R G:List Bool):Prop:=R.length=G.length/\ ∀i,hu R i=true->hu G i=true
theorem uW.refl(R:List Bool):uW R R:=⟨rfl,λ_ h=>h⟩
theorem uW.trans{R G T:List Bool}(h:uW R G)(ca:uW G T):uW R T:=⟨h.1.trans ca.1,λi aa=>ca.2 i (h.2 i aa)⟩
theorem akQ{R:List Bool}{i:Nat}{b:Bool}(h:hu R i=true->b=true):uW R (R.set i b):=by
  refine⟨by simp,λj cp=> ?_⟩;by_cases aa:i<R.length
  · rw[asq aa];split
    · rename_i e;subst e;exact h cp
    · exact cp
  · rw[List.set_eq_of_length_le (by omega)];exact cp
theorem Wi{cq:List Bool}{i:Nat}: ∀(gG:List Nat) (R:List Bool),uW R (ot cq i gG R)
  |[],R=>uW.refl R
  |k::gG,R=>(akQ (λh=>by rw[h];rfl)).trans (Wi gG _)
theorem Sv{Y:List Bool}{j5:List (List Bool)}{n:Nat}: ∀(qG:List Nat) (R:List Bool),uW R (sl Y j5 n qG R)
  |[],R=>uW.refl R
  |i::qG,R=>((akQ (λh=>by rw[h];rfl)).trans (Wi _ _)).trans (Sv qG _)
theorem afQ{cq:List Bool}{i:Nat}(gG:List Nat)(R:List Bool):(ot cq i gG R).length=R.length:=(Wi gG R).1.symm
theorem aBW{Y:List Bool}{j5:List (List Bool)}{n:Nat}(qG:List Nat)(R:List Bool):(sl Y j5 n qG R).length=R.length:=(Sv qG R).1.symm
theorem Er{Y:List Bool}{j5:List (List Bool)}{n:Nat}: ∀k,(l4 Y j5 n k).length=n
  |0=>by simp[l4]
  |k+1=>by rw[l4,aBW,Er k]
def rL(R:List Bool):Nat:=R.countP (λb=>b)
theorem aq8{R:List Bool}:rL R<=R.length:=List.countP_le_length
theorem ZP: ∀{R G:List Bool},uW R G->rL R<=rL G/\(rL R=rL G->R=G)
  | [],G,h=>by have:G=[]:=List.length_eq_zero_iff.1 h.1.symm;subst this;exact⟨Nat.le_refl _,λ_=>rfl⟩
  |r::R,[],h=>absurd h.1 (by simp)
  | r::R,s::G,h=>by
    have bB:r=true->s=true:=h.2 0;have z:uW R G:=⟨by have:=h.1;simpa using this,λi aa=>h.2 (i+1) aa⟩;obtain⟨a,b⟩:=ZP z;cases r with
    | false=>
      cases s with
      |false=>exact⟨by simpa[rL]using a,λe=>by rw[b (by simpa[rL]using e)]⟩
      |true=>exact⟨by simp[rL]at a⊢;omega,λe=>by simp[rL]at a e;omega⟩
    | true=>rw[bB rfl];exact⟨by simp[rL]at a⊢;omega,λe=>by rw[b (by simp[rL]at e⊢;omega)]⟩
theorem akx{Y:List Bool}{j5:List (List Bool)}{n:Nat}: ∀k,l4 Y j5 n (k+1)=l4 Y j5 n k\/k+1<=rL (l4 Y j5 n (k+1))
  | 0=>by
    have h:=ZP (Sv (Y:=Y) (j5:=j5) (n:=n) (List.range n) (l4 Y j5 n 0));by_cases e:rL (l4 Y j5 n 0)=rL (l4 Y j5 n 1)
    · exact .inl (h.2 e).symm
    · exact .inr (by have:=h.1;simp only[l4]at e this⊢;omega)
  | k+1=>by
    have h:=ZP (Sv (Y:=Y) (j5:=j5) (n:=n) (List.range n) (l4 Y j5 n (k+1)));rcases akx (Y:=Y) (j5:=j5) (n:=n) k with z|z
    · left;show sl Y j5 n (List.range n) (l4 Y j5 n (k+1))=sl Y j5 n (List.range n) (l4 Y j5 n k);rw[z]
    · by_cases e:rL (l4 Y j5 n (k+1))=rL (l4 Y j5 n (k+2))
      · exact .inl (h.2 e).symm
      · exact .inr (by have:=h.1;simp only[l4]at e this z⊢;omega)
theorem ayx{Y:List Bool}{j5:List (List Bool)}{n:Nat}:l4 Y j5 n (n+1)=l4 Y j5 n n:=by
  rcases akx (Y:=Y) (j5:=j5) (n:=n) n with h|h
  · exact h
  · have:=aq8 (R:=l4 Y j5 n (n+1));rw[Er]at this;omega
def IQ(Y:List Bool)(j5:List (List Bool))(n:Nat):Bool:=(l4 Y j5 n n).all λb=>b
def hE(l:List a6):List Bool:=l.map λx=>decide (0<x.n)
def a6.small(x:a6):Bool:=x.ok&&(!(ej x).bV&&(decide ((ej x).n<4294967296)&&decide ((ej x).d<4294967296)))
theorem vf{x:a6}(h:x.small=true):x.ok=true:=by simp[a6.small]at h;exact h.1
def p7(n i:Nat)(cq:List a6):Bool:=decide (cq.length=n)&&(cq.all a6.small&& !hu (hE cq) i)
def pr(n:Nat):Nat->List (List a6)->Bool
  |_,[]=>true
  |i,cq::l=>p7 n i cq&&pr n (i+1) l
theorem HJ{n:Nat}: ∀{l:List (List a6)} {i j:Nat} {cq:List a6},pr n i l=true->l[j]?=some cq->p7 n (i+j) cq=true
  |[],_,_,_,_,h=>by simp at h
  | r::l,i,0,cq,h,ca=>by simp at ca;subst ca;simp only[pr,Bool.and_eq_true]at h;exact h.1
  | r::l,i,j+1,cq,h,ca=>by simp only[pr,Bool.and_eq_true]at h;have:=HJ (j:=j) h.2 (by simpa using ca);rw[show i+(j+1)=i+1+j by omega];exact this
def mJ(s:List a6)(bb:List (List a6))(e:List a6):Bool:=
  decide (1<=s.length)&&decide (s.length<=4)&&decide (e.length=s.length)&&decide (bb.length=s.length)&&s.all a6.small&&e.all a6.small&&
  pr s.length 0 bb&&
  decide ((kl .nil s).1=0)&&decide (ju (kl .nil s).2 .ha=0)&&IQ (hE e) (bb.map hE) s.length
end Go.Big
namespace Go.Proofs.YtkpifdkccdndcaaGreat
open Go Go.DI Go.Big
theorem JX{m:B}{a b c:Int}(az:Value->B->Prop):bJ Tryz.prog 21 [S a,S b,S c] m az=az (.bool (decide (b<=a)&&decide (a<=c))) m:=by refine(ob.rp ?_).wp;rw[aqo (by simp)];by_cases k:b<=a<;>simp[Qc,Yh,k]
theorem Jf{a8:B}(k j:Nat):(a8.bs k).M (a8.next+j)=none:=by rw[B.gr,nP (by omega)]
section
variable {m:B} {l:List Nat} {v w:Value} {a b:Int} {x y:a6}
theorem MZ(h:iJ m v x):bJ Tryz.prog 24 [v] m λr N=>a0 m N/\r= .bool (decide (0<x.n)):=by
  rw[aqr (by simp)];obtain⟨p,n,c,eM,dM,eU,rfl,aE,L⟩:=h.gm;have Jr:= λk x=>A9 (aE.aD (((a0.refl m).bs k).au (i:=m.next) (x:=x) (by omega)));have e:decide (0<jj x.n)=decide (0<x.n):=by rw[decide_eq_decide];have:=LU (n:=x.n);omega
  simp(disch:=first|omega|(simp only[ae,ad,af];omega)) [Yl,aiI,Jr];refine⟨((a0.refl m).bs _).au (by omega),?_⟩;simpa using e
theorem Wh(h:iJ m v x):bJ Tryz.prog 23 [v] m λr N=>a0 m N/\r= .bool x.small:=by
  rw[aqq (by simp)];have bB:=h.gO;obtain⟨p,n,c,eM,dM,eU,rfl,aE,L⟩:=h.gm;simp(disch:=first|omega|(simp only[ae,ad,af];omega)) [Yk,aiH];obtain⟨a8,dN⟩: ∃a8,a8=((m.bs 2).au m.next (some ⟨[.bool x.bV,.slice p n c,.slice eM dM eU],true⟩)).bs 8:=⟨_,rfl⟩;rw[<-dN];have ed:a0 m a8:=by rw[dN];exact(((a0.refl m).bs 2).au (by omega)).bs 8
  have ak:a8.next=m.next+10:=by rw[dN];simp
  refine(amp (h.aD ed)).aD λr bz aq=> ?_;obtain⟨b5,q,rfl,bt⟩:=aq;have zV:=b5.next
  have cM:m.next+2+5<bz.next:=by omega
  obtain⟨dK,fY,cB,eO,dh,eQ,rfl⟩:=bt.gm;have jk:=ed.trans b5;have da:bz.M (m.next+2+5)=none:=b5.none (by omega) (by rw[dN,B.gr,nP (by simp)]);by_cases k:x.ok=true
  · rw[HG k bB]at bt⊢;obtain⟨jC,mA,oG⟩:=Bi k;have dt:=xw bB jC;have dJ:=yE (x:=x) jC;have X:=bt.MH dt.1 (show(ej x).n<aZ 512 by omega) (Int.le_of_lt dJ.1) (show(ej x).d<aZ 512 by omega);obtain⟨er,cQ,aU,jX,ev⟩:=X;simp only[Value.agg.injEq,Array.mk.injEq,List.cons.injEq,and_true,true_and]at aU;obtain⟨rfl,rfl⟩:=aU;have acQ:= λy az=>A9 (jX.sub (cx.au (x:=y) da)) az;have apE:= λy az=>A9 (ev.sub (cx.au (x:=y) da)) az;have aM:=aac (n:=(ej x).n);have a1:=aac (n:=(ej x).d);have an:= λy=>jk.au (i:=m.next+2+5) (x:=y) (by omega);cases w9:(ej x).bV with
    | true=>simp(disch:=first|omega|(simp only[ae,ad,af];omega)) [KT];exact⟨an _,by simp[a6.small,k,w9]⟩
    | false=>
      by_cases bp:jj (ej x).n<=32
      · simp(disch:=first|omega|(simp only[ae,ad,af];omega)) [KT,acQ,apE,bp];refine⟨an _,?_⟩;have bm:decide ((ej x).n<4294967296)=true:=(by simp;omega);have bU:decide (jj (ej x).d<=32)=decide ((ej x).d<4294967296):=decide_eq_decide.2 a1;simp only[a6.small,k,w9,bm,bU,Bool.not_false,Bool.true_and]
      · simp(disch:=first|omega|(simp only[ae,ad,af];omega)) [KT,acQ,bp];refine⟨an _,?_⟩;have bm:decide ((ej x).n<4294967296)=false:=(by simp;omega);simp only[a6.small,k,w9,bm,Bool.not_false,Bool.true_and,Bool.false_and]
  · rw[Ss k]at bt⊢;simp(disch:=first|omega|(simp only[ae,ad,af];omega)) [KT];refine⟨jk.au (by omega),?_⟩;simp[a6.small,k]
theorem ape{K:Nat}{p:a6->Bool}{eY:List a6}(X:iD.G m v eY)(gH:eY.length<1000000)(de: ∀N e x,x∈eY->iJ N e x->bJ Tryz.prog K [e] N λr EB=>a0 N EB/\r= .bool (p x)): ∀(dg:List a6) (i:Nat) (a8:B) (u:aL),eY.drop i=dg->i+dg.length=eY.length->a0 m a8->
    u 1= .func (.func K) #[] #[]->u 7=v->u 8=S eY.length->u 9=S i->
    ch Tryz.prog (.loop BZ) u a8 (sz 0 (s8 Tryz.prog z8 (ey [.bA 4] λr N=>a0 m N/\r= .bool (dg.all p)))):=by
  intro dg;induction dg with
  | nil=>intro i a8 u aR aa an aH cP b3 cg;refine eT λb9 a9=> ?_;have e:i=eY.length:=(by simpa using aa);subst e;simp[BZ,BW,BX,BY,z8,b3,cg];exact an
  | cons x dg cb=>
    intro i a8 u aR aa an aH cP b3 cg;refine eT λb9 a9=> ?_;have H:eY[i]?=some x:=(by rw[<-List.head?_drop,aR];rfl);have ng:eY.drop (i+1)=dg:=(by rw[<-List.tail_drop,aR];rfl);simp only[List.length_cons]at aa;obtain⟨z,D,Z,aw⟩:=X.len
    replace Z:kA 3 v=true:=Z
    have bK:(i:Int)<eY.length:=(by omega);have L:= λk=>X.aD ((cx.l9 an).trans (cx.bs a8 k));obtain⟨q,n,c,lW,dM,eU,bn,bF,ln⟩:=iD.fj (L 4) (cx.refl _) H;have bo:IntKind.i64.wrap ((i:Int)+1)=(i:Int)+1:=ct (by omega) (by omega);have dC:a0 m ((a8.bs 4).au (a8.next+2) (some ⟨[.bool x.bV,.slice q n c,.slice lW dM eU],true⟩)):=(an.bs 4).au (by have:=an.next;omega);have zP:=de ((a8.bs 4).au (a8.next+2) (some ⟨[.bool x.bV,.slice q n c,.slice lW dM eU],true⟩)) _ x (List.mem_of_getElem? H) ((ln.sub (cx.au (Jf 4 2))));cases k:p x with
    | true=>have bT:(x::dg).all p=dg.all p:=(by simp[k]);rw[bT]at a9⊢;simp(disch:=first|omega|(simp only[ae,ad,af];omega)) [BZ,BW,BX,BY,z8,aH,cP,b3,cg,bK,z,Z,bn,bF];refine zP.aD λr bz aq=> ?_;obtain⟨b5,rfl⟩:=aq;simp[k,cg,bo];exact a9 _ _ (cb (i+1) _ _ ng (by omega) (dC.trans b5) (by simp[aH]) (by simp[cP]) (by simp[b3]) (by simp))
    | false=>have bT:(x::dg).all p=false:=(by simp[k]);rw[bT];simp(disch:=first|omega|(simp only[ae,ad,af];omega)) [BZ,BW,BX,BY,z8,aH,cP,b3,cg,bK,z,Z,bn,bF];refine zP.aD λr bz aq=> ?_;obtain⟨b5,rfl⟩:=aq;simp[k];exact dC.trans b5
theorem TJ{K:Nat}{p:a6->Bool}{eY:List a6}(X:iD.G m v eY)(gH:eY.length<1000000)(de: ∀N e x,x∈eY->iJ N e x->bJ Tryz.prog K [e] N λr EB=>a0 N EB/\r= .bool (p x)):
    bJ Tryz.prog 22 [v,.func (.func K) #[] #[]] m λr N=>a0 m N/\r= .bool (eY.all p):=by
  rw[aqp (by simp)];obtain⟨z,D,Z,aw⟩:=X.len;simp[Qd,Yj,z,D];exact ape X gH de eY 0 m _ rfl (by simp) (a0.refl m) (by simp) (by simp) (by simp[]) (by simp)
theorem aa2(h:iJ m v x):bJ Tryz.prog 53 [v] m λr N=>a0 m N/\r= .bool x.small:=by
  rw[aqD (by simp)];have bB:=h.gO;obtain⟨p,n,c,eM,dM,eU,rfl,aE,L⟩:=h.gm;simp(disch:=first|omega|(simp only[ae,ad,af];omega)) [YU,ajm];obtain⟨a8,dN⟩: ∃a8,a8=((m.bs 2).au m.next (some ⟨[.bool x.bV,.slice p n c,.slice eM dM eU],true⟩)).bs 8:=⟨_,rfl⟩;rw[<-dN];have ed:a0 m a8:=by rw[dN];exact(((a0.refl m).bs 2).au (by omega)).bs 8
  have ak:a8.next=m.next+10:=by rw[dN];simp
  refine(amG (h.aD ed)).aD λr bz aq=> ?_;obtain⟨b5,q,rfl,bt⟩:=aq;have zV:=b5.next
  have cM:m.next+2+5<bz.next:=by omega
  obtain⟨dK,fY,cB,eO,dh,eQ,rfl⟩:=bt.gm;have jk:=ed.trans b5;have da:bz.M (m.next+2+5)=none:=b5.none (by omega) (by rw[dN,B.gr,nP (by simp)]);by_cases k:x.ok=true
  · rw[HG k bB]at bt⊢;obtain⟨jC,mA,oG⟩:=Bi k;have dt:=xw bB jC;have dJ:=yE (x:=x) jC;obtain⟨er,cQ,aU,jX,ev⟩:=bt;simp only[Value.agg.injEq,Array.mk.injEq,List.cons.injEq,and_true,true_and]at aU;obtain⟨rfl,rfl⟩:=aU;have aM:=vs (n:=(ej x).n) (k:=1) dt.1;have a1:=vs (n:=(ej x).d) (k:=1) (Int.le_of_lt dJ.1);have dK:aZ 1=4294967296:=(by simp[aZ]);rw[dK]at aM a1;obtain⟨dk,_⟩:=jX.len;obtain⟨dV,_⟩:=ev.len;simp only[ic]at dk dV;have an:= λy=>jk.au (i:=m.next+2+5) (x:=y) (by omega);cases w9:(ej x).bV with
    | true=>simp(disch:=first|omega|(simp only[ae,ad,af];omega)) [Lh];exact⟨an _,by simp[a6.small,k,w9]⟩
    | false=>
      by_cases bp:(fY:Int)<=1
      · simp(disch:=first|omega|(simp only[ae,ad,af];omega)) [Lh,bp];refine⟨an _,?_⟩;have bm:decide ((ej x).n<4294967296)=true:=(by simp;omega);have bU:decide ((ej x).d<4294967296)=decide ((dh:Int)<=1):=decide_eq_decide.2 (by rw[<-a1];show(bG (ej x).d).length<=1↔(dh:Int)<=1;rw[dV];omega);simp only[a6.small,k,w9,bm,bU,Bool.not_false,Bool.true_and]
      · simp(disch:=first|omega|(simp only[ae,ad,af];omega)) [Lh,bp];refine⟨an _,?_⟩;have bm:decide ((ej x).n<4294967296)=false:=by
          simp only[decide_eq_false_iff_not];rw[<-aM];intro ml;have iP:(fY:Int)=(bG (ej x).n).length:=dk;omega
        simp only[a6.small,k,w9,bm,Bool.not_false,Bool.true_and,Bool.false_and]
  · rw[Ss k]at bt⊢;simp(disch:=first|omega|(simp only[ae,ad,af];omega)) [Lh];refine⟨jk.au (by omega),?_⟩;simp[a6.small,k]
end
end Go.Proofs.YtkpifdkccdndcaaGreat
namespace Go.Proofs.YtkpifdkccdndcaaGreat
open Go Go.DI
def QP:U:= .E (.block 1 (.E (.I [A 0 24 0,A 1 25 3,bP 2 26 (.xh (F 24) (F 25)),cj 3 27 105 [F 26],iF 4 28 27]) (.bj (F 28) (.E (.I [dE 0 2 false]) (.a7)) (.skip)))) (.I [A 0 22 3,eB 1 23 22,A 2 3 23])
def K7:U:= .E (.E (.I [A 0 18 3,A 1 19 0,bP 2 20 (.v8 (F 19)),eX 3 21 18 20]) (.bj (F 21) (.skip) (.bI 0))) QP
def K6:U:= .E (.I [dE 0 2 true]) (.a7)
def K5:U:= .E (.E (.I [bQ 0 3 0]) (.block 0 (.loop K7))) K6
def K4:U:= .E (.E (.I [A 0 4 0,bP 1 5 (.v8 (F 4)),oO 2 6 5 1,A 3 7 6,fi 4 8 7 0,dz 5 9 7 false (.v8 (F 8)),oQ 6 10 7 9 16,dL 7 11 7 10,A 8 12 11,fi 9 13 12 0,dz 10 14 12 false (.xh (F 13) (.const (.int .i64 0))),ky 11 15 12 104 14,jR 12 16 12 15,dL 13 17 12 16]) (.bj (F 17) (.E (.I [dE 0 2 false]) (.a7)) (.skip))) K5
def GX:U:=
  .E (
  .I [
 dE 0 2 false]) K4
def axy:dn:=⟨29,[.bA 2],GX⟩
theorem axz:dj Tryz.prog 49=some axy:=by kernel_rfl
theorem aqC{args:List Value}{m:B}{az:Value->B->Prop}(h:args.length<=29):bJ Tryz.prog 49 args m az=ch Tryz.prog GX (eu args) m (ey [.bA 2] az):=fD axz h
def afZ:U:= .E (.I [A 0 3 0,eA 1 4 .geq (F 3) (.const (.int .u8 97)),A 2 5 4,hQ 3 6 5 0,Eu 4 7 5 6 122,e7 5 8 5 7,A 6 9 8,fi 7 10 9 0,dz 8 11 9 false (.gz .geq .hM (F 10) (.const (.int .u8 65))),fi 9 12 9 11,hQ 10 13 12 0,Eu 11 14 12 13 90,Hc 12 15 9 12 14,dL 13 16 9 15,A 14 2 16]) (.a7)
def Wk:U:=
  .E (
  .I [
 dE 0 2 false]) afZ
def avt:dn:=⟨17,[.bA 2],Wk⟩
theorem avu:dj Tryz.prog 104=some avt:=by kernel_rfl
theorem apK{args:List Value}{m:B}{az:Value->B->Prop}(h:args.length<=17):bJ Tryz.prog 104 args m az=ch Tryz.prog Wk (eu args) m (ey [.bA 2] az):=fD avu h
def Gm:U:= .E (.I [A 0 3 0,cj 1 4 104 [F 3],A 2 5 4,fi 3 6 5 0,ky 4 7 5 144 6,dL 5 8 5 7,A 6 9 8,fi 7 10 9 0,dz 8 11 9 false (.gz .eql .hM (F 10) (.const (.int .u8 45))),dL 9 12 9 11,A 10 13 12,fi 11 14 13 0,dz 12 15 13 false (.gz .eql .hM (F 14) (.const (.int .u8 46))),dL 13 16 13 15,A 14 2 16]) (.a7)
def D5:U:=
  .E (
  .I [
 dE 0 2 false]) Gm
def avv:dn:=⟨17,[.bA 2],D5⟩
theorem avw:dj Tryz.prog 105=some avv:=by kernel_rfl
theorem apL{args:List Value}{m:B}{az:Value->B->Prop}(h:args.length<=17):bJ Tryz.prog 105 args m az=ch Tryz.prog D5 (eu args) m (ey [.bA 2] az):=fD avw h
def O5:U:= .E (.block 1 (.E (.I [A 0 23 0,A 1 24 3,bP 2 25 (.xh (F 23) (F 24)),cj 3 26 148 [F 25],iF 4 27 26]) (.bj (F 27) (.E (.I [dE 0 2 false]) (.a7)) (.skip)))) (.I [A 0 21 3,eB 1 22 21,A 2 3 22])
def Kh:U:= .E (.E (.I [A 0 17 3,A 1 18 0,bP 2 19 (.v8 (F 18)),eX 3 20 17 19]) (.bj (F 20) (.skip) (.bI 0))) O5
def Kg:U:= .E (.I [dE 0 2 true]) (.a7)
def Kf:U:= .E (.E (.I [bQ 0 3 0]) (.block 0 (.loop Kh))) Kg
def Ke:U:= .E (.E (.I [A 0 4 0,eA 1 5 .eql (F 4) (.const (.string ⟨#[]⟩)),A 2 6 5,fi 3 7 6 0,dz 4 8 6 false (.v8 (F 7)),oQ 5 9 6 8 16,dL 6 10 6 9,A 7 11 10,fi 8 12 11 0,dz 9 13 11 false (.xh (F 12) (.const (.int .i64 0))),ky 10 14 11 147 13,jR 11 15 11 14,dL 12 16 11 15]) (.bj (F 16) (.E (.I [dE 0 2 false]) (.a7)) (.skip))) Kf
def Gs:U:=
  .E (
  .I [
 dE 0 2 false]) Ke
def avG:dn:=⟨28,[.bA 2],Gs⟩
theorem avH:dj Tryz.prog 112=some avG:=by kernel_rfl
theorem apO{args:List Value}{m:B}{az:Value->B->Prop}(h:args.length<=28):bJ Tryz.prog 112 args m az=ch Tryz.prog Gs (eu args) m (ey [.bA 2] az):=fD avH h
def ahk:U:= .E (.I [A 0 3 0,eA 1 4 .geq (F 3) (.const (.int .u8 48)),A 2 5 4,hQ 3 6 5 0,Eu 4 7 5 6 57,e7 5 8 5 7,A 6 2 8]) (.a7)
def Xe:U:=
  .E (
  .I [
 dE 0 2 false]) ahk
def awd:dn:=⟨9,[.bA 2],Xe⟩
theorem awe:dj Tryz.prog 144=some awd:=by kernel_rfl
theorem ap2{args:List Value}{m:B}{az:Value->B->Prop}(h:args.length<=9):bJ Tryz.prog 144 args m az=ch Tryz.prog Xe (eu args) m (ey [.bA 2] az):=fD awe h
def aht:U:= .E (.I [A 0 3 0,eA 1 4 .geq (F 3) (.const (.int .u8 97)),A 2 5 4,hQ 3 6 5 0,Eu 4 7 5 6 122,e7 5 8 5 7,A 6 9 8,fi 7 10 9 0,dz 8 11 9 false (.gz .geq .hM (F 10) (.const (.int .u8 65))),fi 9 12 9 11,hQ 10 13 12 0,Eu 11 14 12 13 90,Hc 12 15 9 12 14,dL 13 16 9 15,A 14 2 16]) (.a7)
def Xh:U:=
  .E (
  .I [
 dE 0 2 false]) aht
def awj:dn:=⟨17,[.bA 2],Xh⟩
theorem awk:dj Tryz.prog 147=some awj:=by kernel_rfl
theorem ap5{args:List Value}{m:B}{az:Value->B->Prop}(h:args.length<=17):bJ Tryz.prog 147 args m az=ch Tryz.prog Xh (eu args) m (ey [.bA 2] az):=fD awk h
def GB:U:= .E (.I [A 0 3 0,cj 1 4 147 [F 3],A 2 5 4,fi 3 6 5 0,ky 4 7 5 166 6,dL 5 8 5 7,A 6 9 8,fi 7 10 9 0,dz 8 11 9 false (.gz .eql .hM (F 10) (.const (.int .u8 45))),dL 9 12 9 11,A 10 13 12,fi 11 14 13 0,dz 12 15 13 false (.gz .eql .hM (F 14) (.const (.int .u8 46))),dL 13 16 13 15,A 14 2 16]) (.a7)
def Ed:U:=
  .E (
  .I [
 dE 0 2 false]) GB
def awl:dn:=⟨17,[.bA 2],Ed⟩
theorem awm:dj Tryz.prog 148=some awl:=by kernel_rfl
theorem ap6{args:List Value}{m:B}{az:Value->B->Prop}(h:args.length<=17):bJ Tryz.prog 148 args m az=ch Tryz.prog Ed (eu args) m (ey [.bA 2] az):=fD awm h
def aih:U:= .E (.I [A 0 3 0,eA 1 4 .geq (F 3) (.const (.int .u8 48)),A 2 5 4,hQ 3 6 5 0,Eu 4 7 5 6 57,e7 5 8 5 7,A 6 2 8]) (.a7)
def XI:U:=
  .E (
  .I [
 dE 0 2 false]) aih
def awF:dn:=⟨9,[.bA 2],XI⟩
theorem awG:dj Tryz.prog 166=some awF:=by kernel_rfl
theorem aqg{args:List Value}{m:B}{az:Value->B->Prop}(h:args.length<=9):bJ Tryz.prog 166 args m az=ch Tryz.prog XI (eu args) m (ey [.bA 2] az):=fD awG h
end Go.Proofs.YtkpifdkccdndcaaGreat
namespace Go.Proofs.YtkpifdkccdndcaaGreat
open Go Go.DI Go.Big
def sa(n:Int):Bool:=(decide (97<=n)&&decide (n<=122))||(decide (65<=n)&&decide (n<=90))
def xp(n:Int):Bool:=decide (48<=n)&&decide (n<=57)
def oN(n:Int):Bool:=sa n||xp n||decide (n=45)||decide (n=46)
def wi(p:Int->Bool)(T:ByteArray):Nat->Nat->Nat
  |0,_=>0
  |n+1,i=>if p (wI T i)=true then wi p T n (i+1)+1 else 0
theorem ayV{T:ByteArray}:ic (.string T)=T.size:=rfl
def dS(T:ByteArray):Prop:=0<T.size/\T.size<=16/\sa (wI T 0)=true/\wi oN T T.size 0=T.size
open Classical in
noncomputable def gP(T:ByteArray):Bool:=decide (dS T)
theorem aah{T:ByteArray}(h:dS T):gP T=true:=by simp[gP,h]
theorem Ci{T:ByteArray}(h: ¬dS T):gP T=false:=by simp[gP,h]
theorem adx{T:ByteArray}(h:T.size=0):T=⟨#[]⟩:=by apply ByteArray.ext;exact Array.eq_empty_of_size_eq_zero h
theorem Ez(n:Int)(m:B)(az:Value->B->Prop):bJ Tryz.prog 147 [.int .u8 n] m az=az (.bool (sa n)) m:=by refine(ob.rp ?_).wp;rw[ap5 (by simp)];by_cases z:97<=n<;>by_cases D:n<=122<;>by_cases Z:65<=n<;>by_cases aw:n<=90<;>simp[Xh,aht,sa,z,D,Z,aw]
theorem Nx(n:Int)(m:B)(az:Value->B->Prop):bJ Tryz.prog 166 [.int .u8 n] m az=az (.bool (xp n)) m:=by refine(ob.rp ?_).wp;rw[aqg (by simp)];by_cases z:48<=n<;>by_cases D:n<=57<;>simp[XI,aih,xp,z,D]
theorem afR(n:Int)(m:B)(az:Value->B->Prop):bJ Tryz.prog 148 [.int .u8 n] m az=az (.bool (oN n)) m:=by
  refine(ob.rp ?_).wp;rw[ap6 (by simp)];by_cases z:sa n=true
  · simp[Ed,GB,Ez,oN,z]
  by_cases D:xp n=true
  · simp[Ed,GB,Ez,Nx,oN,z,D]
  by_cases Z:n=45
  · subst Z;simp[Ed,GB,Ez,Nx,oN,sa,xp]
  by_cases aw:n=46
  · subst aw;simp[Ed,GB,Ez,Nx,oN,sa,xp]
  simp[Ed,GB,Ez,Nx,oN,z,D,Z,aw]
theorem alx{T:ByteArray}(iU:T.size<=16){Q:dr->aL->B->Prop}: ∀(r i:Nat) (m:B) (u:aL),i+r=T.size->u 0= .string T->u 3=S i->
    (wi oN T r i=r-> ∀ag,Q (.bI 0) ag m)->(wi oN T r i≠r-> ∀ag,ag 2= .bool false->Q .a7 ag m)->ch Tryz.prog (.loop Kh) u m Q
  | 0,i,m,u,aa,bl,bd,bm,bU=>by refine eT λb9 a9=> ?_;have: ¬(i:Int)<T.size:=(by omega);simp[Kh,O5,bl,bd,this];exact bm rfl _
  | r+1,i,m,u,aa,bl,bd,bm,bU=>by
    refine eT λb9 a9=> ?_;have z:(i:Int)<T.size:=(by omega);have cS:IntKind.i64.wrap ((i:Int)+1)=(i:Int)+1:=ct (by omega) (by omega);by_cases L:oN (wI T i)=true
    · simp[Kh,O5,afR,bl,bd,z,L,cS];refine a9 _ _ (alx iU r (i+1) _ _ (by omega) (by simp[bl]) (by simp) (λh=>bm (by simp[wi,L,h])) (λh=>bU (by simp[wi,L];exact h)))
    · have jD:oN (wI T i)=false:=(by simpa using L);simp[Kh,O5,afR,bl,bd,z,jD];exact bU (by simp[wi,jD]) _ (by simp)
theorem azM(T:ByteArray)(m:B)(az:Value->B->Prop):bJ Tryz.prog 112 [.string T] m az=az (.bool (gP T)) m:=by
  refine(ob.rp ?_).wp;rw[apO (by simp)];by_cases bB:T.size=0
  · have e:=adx bB;have NT:(T.size:Int)<1:=(by omega);have ak: ¬dS T:= λh=>by have:=h.1;omega
    simp[Gs,Ke,Kf,Kg,e];rw[<-e,Ci ak]
  · have e: ¬T=⟨#[]⟩:= λh=>bB (by rw[h];rfl);have NT:(0:Int)<T.size:=(by omega);have NU: ¬(T.size:Int)<1:=(by omega);have aq:0<T.size:=(by omega);by_cases z:16<T.size
    · have dQ:(16:Int)<T.size:=(by omega);have ak: ¬dS T:= λh=>by have:=h.2.1;omega
      simp[Gs,Ke,Kf,Kg,e,dQ,Ci ak]
    · have dQ: ¬(16:Int)<T.size:=(by omega);by_cases D:sa (wI T 0)=true
      · simp[Gs,Ke,Kf,Kg,Ez,e,aq,dQ,D];refine alx (T:=T) (by omega) T.size 0 _ _ (by omega) (by simp) (by simp) (λh ag=> ?_) (λh ag g=> ?_)
        · simp[aah ⟨by omega,by omega,D,h⟩]
        · have ak: ¬dS T:= λca=>h ca.2.2.2;simp[g,Ci ak]
      · have ak: ¬dS T:= λca=>D ca.2.2.1;have gx:sa (wI T 0)=false:=(by simpa using D);simp[Gs,Ke,Kf,Kg,Ez,e,aq,dQ,gx,Ci ak]
theorem ES(n:Int)(m:B)(az:Value->B->Prop):bJ Tryz.prog 104 [.int .u8 n] m az=az (.bool (sa n)) m:=by refine(ob.rp ?_).wp;rw[apK (by simp)];by_cases z:97<=n<;>by_cases D:n<=122<;>by_cases Z:65<=n<;>by_cases aw:n<=90<;>simp[Wk,afZ,sa,z,D,Z,aw]
theorem Sr(n:Int)(m:B)(az:Value->B->Prop):bJ Tryz.prog 144 [.int .u8 n] m az=az (.bool (xp n)) m:=by refine(ob.rp ?_).wp;rw[ap2 (by simp)];by_cases z:48<=n<;>by_cases D:n<=57<;>simp[Xe,ahk,xp,z,D]
theorem amu(n:Int)(m:B)(az:Value->B->Prop):bJ Tryz.prog 105 [.int .u8 n] m az=az (.bool (oN n)) m:=by
  refine(ob.rp ?_).wp;rw[apL (by simp)];by_cases z:sa n=true
  · simp[D5,Gm,ES,oN,z]
  by_cases D:xp n=true
  · simp[D5,Gm,ES,Sr,oN,z,D]
  by_cases Z:n=45
  · subst Z;simp[D5,Gm,ES,Sr,oN,sa,xp]
  by_cases aw:n=46
  · subst aw;simp[D5,Gm,ES,Sr,oN,sa,xp]
  simp[D5,Gm,ES,Sr,oN,z,D,Z,aw]
theorem amz{T:ByteArray}(iU:T.size<=16){Q:dr->aL->B->Prop}: ∀(r i:Nat) (m:B) (u:aL),i+r=T.size->u 0= .string T->u 3=S i->
    (wi oN T r i=r-> ∀ag,Q (.bI 0) ag m)->(wi oN T r i≠r-> ∀ag,ag 2= .bool false->Q .a7 ag m)->ch Tryz.prog (.loop K7) u m Q
  | 0,i,m,u,aa,bl,bd,bm,bU=>by refine eT λb9 a9=> ?_;have: ¬(i:Int)<T.size:=(by omega);simp[K7,QP,bl,bd,this];exact bm rfl _
  | r+1,i,m,u,aa,bl,bd,bm,bU=>by
    refine eT λb9 a9=> ?_;have z:(i:Int)<T.size:=(by omega);have cS:IntKind.i64.wrap ((i:Int)+1)=(i:Int)+1:=ct (by omega) (by omega);by_cases L:oN (wI T i)=true
    · simp[K7,QP,amu,bl,bd,z,L,cS];refine a9 _ _ (amz iU r (i+1) _ _ (by omega) (by simp[bl]) (by simp) (λh=>bm (by simp[wi,L,h])) (λh=>bU (by simp[wi,L];exact h)))
    · have jD:oN (wI T i)=false:=(by simpa using L);simp[K7,QP,amu,bl,bd,z,jD];exact bU (by simp[wi,jD]) _ (by simp)
theorem aBR(T:ByteArray)(m:B)(az:Value->B->Prop):bJ Tryz.prog 49 [.string T] m az=az (.bool (gP T)) m:=by
  refine(ob.rp ?_).wp;rw[aqC (by simp)];by_cases bB:T.size=0
  · have e:=adx bB;have NT:(T.size:Int)<1:=(by omega);have ak: ¬dS T:= λh=>by have:=h.1;omega
    simp[GX,K4,K5,K6,NT,Ci ak]
  · have e: ¬T=⟨#[]⟩:= λh=>bB (by rw[h];rfl);have NT:(0:Int)<T.size:=(by omega);have NU: ¬(T.size:Int)<1:=(by omega);have aq:0<T.size:=(by omega);by_cases z:16<T.size
    · have dQ:(16:Int)<T.size:=(by omega);have ak: ¬dS T:= λh=>by have:=h.2.1;omega
      simp[GX,K4,K5,K6,NU,dQ,Ci ak]
    · have dQ: ¬(16:Int)<T.size:=(by omega);by_cases D:sa (wI T 0)=true
      · simp[GX,K4,K5,K6,ES,NU,aq,dQ,D];refine amz (T:=T) (by omega) T.size 0 _ _ (by omega) (by simp) (by simp) (λh ag=> ?_) (λh ag g=> ?_)
        · simp[aah ⟨by omega,by omega,D,h⟩]
        · have ak: ¬dS T:= λca=>h ca.2.2.2;simp[g,Ci ak]
      · have ak: ¬dS T:= λca=>D ca.2.2.1;have gx:sa (wI T 0)=false:=(by simpa using D);simp[GX,K4,K5,K6,ES,NU,aq,dQ,gx,Ci ak]
end Go.Proofs.YtkpifdkccdndcaaGreat
namespace Go.Big
structure bh where
  bV:Bool
  a:List Int
  b:List Int
  deriving DecidableEq
def bh.bw(x:bh):a6:=⟨x.bV,val x.a,val x.b⟩
def bh.bM(x:bh):Prop:=dx x.a/\dx x.b/\x.a.length<35184372087809/\x.b.length<35184372087809
def qj(x:a6):bh:=⟨x.bV,bG x.n,bG x.d⟩
end Go.Big
namespace Go.Proofs.YtkpifdkccdndcaaGreat
open Go Go.DI Go.Big
abbrev e3(l:List Int):Value:=bE (l.map λd=>[cT d]) 1
theorem Hm{cK qV:Type}{f:cK->qV}(h: ∀x y,f x=f y->x=y): ∀{l e5:List cK},l.map f=e5.map f↔l=e5
  |[],[]=>by simp
  |[],_::_=>by simp
  |_::_,[]=>by simp
  | x::l,y::e5=>by simp only[List.map_cons,List.cons.injEq,Hm h];exact⟨λ⟨a,b⟩=>⟨h _ _ a,b⟩,λ⟨a,b⟩=>⟨by rw[a],b⟩⟩
@[simp] theorem aLe{l e5:List Int}:(l.map λd=>[cT d])=(e5.map λd=>[cT d])↔l=e5:=Hm λx y h=>by simpa using h
def eS(x:bh):List Value:=[.bool x.bV,e3 x.a,e3 x.b]
theorem aaI{x y:bh}:eS x=eS y↔x=y:=by obtain⟨a,b,c⟩:=x;obtain⟨er,cQ,eU⟩:=y;simp[eS]
@[simp] theorem aMM{x:bh}:(eS x).length=3:=rfl
abbrev eD(x:bh):Value:= .agg (eS x).toArray
abbrev fT(l:List bh):Value:=bE (l.map eS) 3
@[simp] theorem aMN{l e5:List bh}:l.map eS=e5.map eS↔l=e5:=Hm λx y h=>aaI.1 h
section
variable {m:B} {v:Value} {l:List Int} {x:bh}
theorem On(W:dx l)(h:uf m (e3 l) v):bC m v l:=by
  refine⟨W,?_⟩;obtain⟨bR,O,e,z⟩:=cw.afT h rfl;simp only[e3,Wg]at e;obtain⟨rfl,rfl⟩:=e;rcases z with⟨z,rfl⟩|⟨b,off,cs,rfl,de,aG,bY,aB⟩
  · exact .inl ⟨rfl,by simpa using z⟩
  · obtain⟨w,aO⟩:=NM m b cs de;refine .inr ⟨b,off,cs,w,by simp,aO,?_,by simpa using aG⟩;apply List.ext_getElem?;intro i;rw[List.getElem?_take];split
    · next aa=>have mD:off+l.length<=cs.length:=(by simpa using aG);have uB:(cs.drop off)[i]?=some cs[off+i]:=(by rw[List.getElem?_drop,List.getElem?_eq_getElem]);rw[uB,List.getElem?_map,List.getElem?_eq_getElem aa];have:=aB i 0 [cT l[i]] (cT l[i]) cs[off+i] (by simp[aa]) rfl (by rw[Nat.mul_one,Nat.add_zero,List.getElem?_eq_getElem]);rw[this.rg];rfl
    · next aa=>rw[List.getElem?_eq_none (by simp;omega)]
theorem Ms(h:bC m v l):uf m (e3 l) v:=by
  obtain⟨W,⟨rfl,rfl⟩|⟨b,o,cs,w,rfl,D,Z,aw⟩⟩:=h
  · exact .ki rfl
  · have:=cw.kd (K:=vw m) (Y:=oW) (v:=e3 l) (b:=b) (off:=o) (O:=1) (cs:=cs) (bR:=l.map λd=>[cT d]) rfl (I3 D) (by simpa using aw) (λi r aF=> ?_) λi j r x y aF H ah=> ?_
    · simpa using this
    · rw[List.getElem?_map,Option.map_eq_some_iff]at aF;obtain⟨x,_,rfl⟩:=aF;rfl
    · rw[List.getElem?_map,Option.map_eq_some_iff]at aF;obtain⟨d,aR,rfl⟩:=aF;have aa:=(List.getElem?_eq_some_iff.1 aR).1;cases j with
      |succ j=>simp at H
      | zero=>simp at H;subst H;have aX:(l.map cT)[i]?=some (cT d):=(by rw[List.getElem?_map,aR];rfl);rw[<-Z,List.getElem?_take,if_pos aa,List.getElem?_drop]at aX;rw[Nat.mul_one,Nat.add_zero,aX]at ah;cases ah;exact .c0 rfl
theorem tD(W:x.bM)(h:uf m (eD x) v):iJ m v x.bw:=by
  obtain⟨ys,rfl,aG⟩:=h.vQ;obtain⟨a,b,c,e,z,D,Z⟩:=b2.anx (x:= .bool x.bV) (y:=e3 x.a) (O:=e3 x.b) aG;have eW:ys= #[a,b,c]:=by rw[<-Array.toArray_toList (xs:=ys),e]
  subst eW;rw[z.tJ];exact⟨b,c,rfl,⟨x.a,On W.1 D,W.2.2.1,rfl⟩,⟨x.b,On W.2.1 Z,W.2.2.2,rfl⟩⟩
theorem ac4{y:a6}(h:je m v y):uf m (eD (qj y)) v:=by obtain⟨a,b,rfl,z,D⟩:=h;exact b2.agg (b2.cons (.c0 rfl) (b2.cons (Ms z) (b2.cons (Ms D) b2.nil)))
end
def abb:gS bh:=⟨3,λm cs x=> ∃a b,cs=[.bool x.bV,a,b]/\bC m a x.a/\bC m b x.b/\x.bM,λ_ _ _ ⟨_,_,h,_⟩=>by rw[h];rfl,λ_ _ _ _ J ⟨a,b,h,z,D,Z⟩=>⟨a,b,h,z.jc J,D.jc J,Z⟩⟩
theorem amW:A4 abb eS bh.bM where
  O _:=rfl
  sr m cs x W h:=by obtain⟨a,b,c,rfl,z,D,Z⟩:=b2.anx (x:= .bool x.bV) (y:=e3 x.a) (O:=e3 x.b) h;rw[z.tJ];exact⟨b,c,rfl,On W.1 D,On W.2.1 Z,W⟩
  fJ m cs x h:=by obtain⟨a,b,rfl,z,D,Z⟩:=h;exact b2.cons (.c0 rfl) (b2.cons (Ms z) (b2.cons (Ms D) b2.nil))
theorem amX{m:B}{v:Value}{l:List bh}(h:abb.G m v l):iD.G m v (l.map bh.bw):=h.sr bh.bw rfl λcs x _ H=>by obtain⟨a,b,rfl,z,D,Z⟩:=H;exact⟨a,b,rfl,⟨x.a,z,Z.2.2.1,rfl⟩,⟨x.b,D,Z.2.2.2,rfl⟩⟩
theorem VE{m:B}{v:Value}{l:List bh}(W: ∀x∈l,x.bM)(h:uf m (fT l) v):iD.G m v (l.map bh.bw):=amX (amW.ab1 W h)
theorem pX{f:Nat}{ts:List Value}{r:Value}(h: ∀m fm,CY m ts fm->bJ Tryz.prog f fm m λhb N=>a0 m N/\uf N r hb):eg Tryz.prog f ts r:=
  aDm λm fm aE=>(h m fm aE).aD λhb N cE=>⟨⟨cE.1.next,cE.1.M⟩,cE.2⟩
theorem aaS{m N:B}{p:Int×a6}{r:Value}(h:py m p r N):a0 m N/\uf N (.tuple #[eD (qj p.2),S p.1]) r:=by obtain⟨z,c,rfl,D⟩:=h;exact⟨z,b2.tuple (b2.cons (ac4 D) (b2.cons (.c0 rfl) b2.nil))⟩
theorem aBj{x:bh}(W:x.bM):eg Tryz.prog 86 [eD x] (.tuple #[eD (qj (rr x.bw).2),S (rr x.bw).1]):=pX λm fm aE=>by obtain⟨v,rfl,h⟩:=aE.ha;exact(amp (tD W h)).aD λr N h=>aaS h
theorem aDH{x:bh}(W:x.bM):eg Tryz.prog 91 [eD x] (.bool x.bw.ok):=pX λm fm aE=>by obtain⟨v,rfl,h⟩:=aE.ha;exact(HY (tD W h)).aD λr N ⟨z,D⟩=>⟨z,by rw[D];exact .c0 rfl⟩
theorem ar7{x y:bh}(H:x.bM)(ah:y.bM):eg Tryz.prog 27 [eD x,eD y] (if x.bw.ok&&y.bw.ok then .tuple #[S (ju x.bw y.bw),S 0]else .tuple #[S 0,S 1]):=pX λm fm aE=>by obtain⟨v,w,rfl,h,ca⟩:=aE.MG;refine(adK (tD H h) (tD ah ca)).aD λr N ⟨z,D⟩=>⟨z,?_⟩;rw[D];split<;>exact cw.pb rfl
theorem aAn:eg Tryz.prog 26 [S 1,S 1] (.tuple #[eD (qj .ha),S 0]):=pX λm fm aE=>by obtain⟨v,w,rfl,h,ca⟩:=aE.MG;rw[h.rg,ca.rg];exact alQ.aD λr N h=>aaS h
theorem azp{n:Int}(bB:0<=n)(ak:n<18446744073709551616):eg Tryz.prog 34 [br n] (e3 (bG n)):=pX λm fm aE=>by obtain⟨v,rfl,h⟩:=aE.ha;rw[h.rg];exact(R3 bB ak).aD λr N h=>⟨h.1,Ms h.2⟩
theorem azL{T:ByteArray}:eg Tryz.prog 112 [.string T] (.bool (gP T)):=pX λm fm aE=>by obtain⟨v,rfl,h⟩:=aE.ha;rw[h.z0,azM];exact⟨a0.refl m,.c0 rfl⟩
theorem aBY{x:bh}(W:x.bM):eg Tryz.prog 55 [eD x] (.tuple #[eD (qj (rr x.bw).2),S (rr x.bw).1]):=pX λm fm aE=>by obtain⟨v,rfl,h⟩:=aE.ha;exact(amG (tD W h)).aD λr N h=>aaS h
theorem aCm{x:bh}(W:x.bM):eg Tryz.prog 54 [eD x] (.bool x.bw.ok):=pX λm fm aE=>by obtain⟨v,rfl,h⟩:=aE.ha;exact(SC (tD W h)).aD λr N ⟨z,D⟩=>⟨z,by rw[D];exact .c0 rfl⟩
theorem aB0{x:bh}(H:x.bM)(l6:x.bw.ok=true):eg Tryz.prog 30 [eD x] (S (ju x.bw .nil)):=pX λm fm aE=>by obtain⟨v,rfl,h⟩:=aE.ha;exact(Sw (tD H h) l6).aD λr N ⟨z,D⟩=>⟨z,by rw[D];exact .c0 rfl⟩
theorem aBZ{x y:bh}(H:x.bM)(ah:y.bM)(l6:x.bw.ok=true)(nj:y.bw.ok=true):eg Tryz.prog 32 [eD x,eD y] (.bool (decide (ju x.bw y.bw=0))):=pX λm fm aE=>by obtain⟨v,w,rfl,h,ca⟩:=aE.MG;exact(amH (tD H h) (tD ah ca) l6 nj).aD λr N ⟨z,D⟩=>⟨z,by rw[D];exact .c0 rfl⟩
theorem aBG{x y:bh}(H:x.bM)(ah:y.bM)(l6:x.bw.ok=true)(nj:y.bw.ok=true):eg Tryz.prog 110 [eD x,eD y] (.bool (decide (ju x.bw y.bw<0))):=pX λm fm aE=>by obtain⟨v,w,rfl,h,ca⟩:=aE.MG;exact(aBH (tD H h) (tD ah ca) l6 nj).aD λr N ⟨z,D⟩=>⟨z,by rw[D];exact .c0 rfl⟩
theorem amv{n:Int}(bB: -9223372036854775808<=n)(z:n<=9223372036854775807):eg Tryz.prog 33 [S n] (eD (qj (xj n))):=pX λm fm aE=>by obtain⟨v,rfl,h⟩:=aE.ha;rw[h.rg];exact(Su bB z).aD λr N h=>⟨h.1,ac4 h.2⟩
theorem aBQ{T:ByteArray}:eg Tryz.prog 49 [.string T] (.bool (gP T)):=pX λm fm aE=>by obtain⟨v,rfl,h⟩:=aE.ha;rw[h.z0,aBR];exact⟨a0.refl m,.c0 rfl⟩
end Go.Proofs.YtkpifdkccdndcaaGreat
namespace Go.Proofs.YtkpifdkccdndcaaGreat
open Go Go.DI Go.Big
def ea(x:bh):bh:=qj (rr x.bw).2
noncomputable def SM:c8 Tryz.prog:= .fJ 86 bh bh.bM (λx=>[eD x]) (λx=> .tuple #[eD (ea x),S (rr x.bw).1]) λ_ W=>aBj W
@[simp] theorem aOV:SM.f=86:=rfl
@[simp] theorem aOW{n:Bool}{a b:List Int}(h:(bh.mk n a b).bM):SM.fn [.agg #[.bool n,e3 a,e3 b]]=some (.tuple #[eD (ea ⟨n,a,b⟩),S (rr (bh.mk n a b).bw).1]):=
  c8.gX (x:=bh.mk n a b) h λy ah=>by simpa[aaI]using ah
theorem aaJ{l:List bh}: ∀r∈l.map eS,r.length=3/\ ∀v∈r,j9 v=true:= λr aF=>by obtain⟨x,_,rfl⟩:=List.mem_map.1 aF;exact⟨rfl,λv X=>by simp[eS]at X;rcases X with rfl|rfl|rfl<;>rfl⟩
theorem amj{l:List bh}:(l.map eS).flatten.length=l.length*3:=by rw[tn (O:=3) λr aF=>(aaJ r aF).1,List.length_map]
theorem azh{eY:List bh}(W: ∀x∈eY,x.bM)(ak:eY.length<1000000){Q:dr->aL->B->Prop}: ∀(dg:List bh) (i:Nat) (ef:List bh) (o:Nat) (u:aL) (t:B),eY.drop i=dg->i+dg.length=eY.length->ef.length=i->
    t.M o=some ⟨(ef.map eS).flatten,true⟩->u 3= .slice (some ⟨o,0,none⟩) i 3->u 8=fT eY->u 9=S eY.length->u 10=S i->
    (∀ag aN o',aN.M o'=some ⟨((ef++dg.map ea).map eS).flatten,true⟩->ag 3= .slice (some ⟨o',0,none⟩) eY.length 3->Q (.bI 0) ag aN)->hs Tryz.prog (.loop Rk) u t Q:=by
  intro dg;induction dg with
  | nil=>intro i ef o u t aR aa aE aj bd b3 cg dP bf;refine su (aY:=⟨[SM],[]⟩) λb9 a9=> ?_;have e:i=eY.length:=(by simpa using aa);subst e;simp(disch:=first|omega|(simp only[ae,ad,af];omega)) [Rk,Zh,Zi,Zj,cg,dP];exact bf _ _ o (by simpa using aj) (by simp[bd])
  | cons x dg cb=>intro i ef o u t aR aa aE aj bd b3 cg dP bf;refine su (aY:=⟨[SM],[]⟩) λb9 a9=> ?_;have H:eY[i]?=some x:=(by rw[<-List.head?_drop,aR];rfl);have ng:eY.drop (i+1)=dg:=(by rw[<-List.tail_drop,aR];rfl);simp only[List.length_cons]at aa;have bK:(i:Int)<eY.length:=(by omega);have bo:IntKind.i64.wrap ((i:Int)+1)=(i:Int)+1:=ct (by omega) (by omega);have r5:x.bM:=W x (List.mem_of_getElem? H);have jE:i<eY.length:=(by omega);have oL:eY[i]=x:=(by rw[List.getElem?_eq_getElem jE]at H;exact Option.some.inj H);have h9:(ef.map eS).flatten.length=i*3:=(by rw[amj,aE]);have ZZ:=aT aj;have fV:(i+1)*56<=140737488355328/\i<=9223372036854775806:=(by omega);simp(disch:=first|omega|(simp only[ae,ad,af];omega)) [Rk,Zh,Zi,Zj,bd,b3,cg,dP,bK,bo,oL,aj,h9,eS,fV,-al,-ar,-ai,-ao,-List.map_map];refine a9 _ _ (cb (i+1) (ef++[ea x]) _ _ _ ng (by omega) (by simp[aE]) (by rw[bX (by simp),List.take_of_length_le (by omega)];simp[eS]) (by simp) (by simp[b3]) (by simp[cg]) (by simp) λag aN o' z D=>bf ag aN o' (by simpa using z) D)
theorem azi{eY:List bh}(W: ∀x∈eY,x.bM)(ak:eY.length<1000000):eg Tryz.prog 68 [fT eY] (fT (eY.map ea)):=by
  refine iA (g0 (aY:=⟨[],[]⟩) axU (by kernel_rfl) (by simp[Zg]) ?_);simp[Zg,ajV,ajW,ajX,ajY];refine Td (d:=3) (O:=3) (by simp) ?_;refine azh W ak eY 0 [] yJ.next _ _ rfl (by simp) rfl (by simp) (by simp) (by simp) (by simp) (by simp) λag aN o' z D=> ?_
  simp[D];exact FF (n:=8) (l:=eY.length) (bR:=(eY.map ea).map eS) z (by simp) aaJ
abbrev oa(b:Bool):Value:= .bool b
theorem gS.G.gm{cK:Type}{r:gS cK}{m:B}{v:Value}{l:List cK}(h:r.G m v l): ∃p n c,v= .slice p n c:=by rcases h with⟨rfl,_⟩|⟨b,o,cs,w,rfl,_⟩<;>exact⟨_,_,_,rfl⟩
theorem gS.G.LN{cK:Type}{r:gS (List cK)}{q:gS cK}(aF:r=q.tO){p m:B}{v:Value}{l:List (List cK)}(h:r.G p v l)(J:cx p m){i:Nat}{x:List cK}(H:l[i]?=some x):
    ∃w,gZ m (mP v 1 (i:Int)) 1=true/\lq m false 1 (mP v 1 (i:Int))=w/\q.G p w x:=by
  subst aF;obtain⟨b,o,cs,w,z,D,Z,aw⟩:=h.pC H;have aX:=J.M _ _ D;obtain⟨aJ,bk,xd⟩:=aw
  replace z:mP v 1 (i:Int)= .pointer (some ⟨b,o,none⟩):=z
  replace Z:o+1<=cs.length:=Z
  replace bk:(cs.drop o).take 1=[aJ]:=bk
  refine⟨aJ,?_,?_,xd⟩
  · rw[z];simp[aX];omega
  · rw[z];simp[aX,bk]
theorem yG{R:List Bool}{i:Nat}{b:Bool}:(R.map oa).set i (oa b)=(R.set i b).map oa:=by rw[List.map_set]
theorem FI{cq:List a6}{k:Nat}{x:a6}(h:cq[k]?=some x):hu (hE cq) k=decide (0<x.n):=aeo (by simp[hE,h])
theorem arT{m:B}{jd:Value}{cq:List a6}{n i ga cH:Nat}{C:fO}(dq:cH≠ga)(aF:iD.G m jd cq)(ak:cq.length=n)(l0:n<1000000)(aa:i<n)(nX:m.next<=ga){dK hN aau aav:Value}{Q:dr->aL->B->Prop}: ∀(r k:Nat) (R:List Bool) (a8:B) (u:aL),k+r=n->R.length=n->a0 m a8->a8.M ga=some ⟨R.map oa,true⟩->a8.M cH=some C->
    u 1=dK->u 3= .slice (some ⟨ga,0,none⟩) n 1->u 4=hN->u 5=S i->u 19=aau->u 20=aav->u 42=jd->u 43=S n->u 44=S k->
    (∀ag N,a0 m N->N.M ga=some ⟨(ot (hE cq) i (List.range' k r) R).map oa,true⟩->N.M cH=some C->ag 1=dK->ag 3= .slice (some ⟨ga,0,none⟩) n 1->ag 4=hN->ag 5=S i->ag 19=aau->ag 20=aav->Q (.bI 4) ag N)->
    ch Tryz.prog (.loop KU) u a8 Q:=by
  intro r;induction r with
  | zero=>intro k R a8 u W g9 an aj jr aH bd bL cv p9 m8 HK EV HL bf;refine eT λb9 a9=> ?_;have e:k=n:=(by omega);subst e;simp(disch:=first|omega|(simp only[ae,ad,af];omega)) [KU,Qk,Ql,EV,HL];exact bf _ _ an (by simpa[ot]using aj) jr (by simp[aH]) (by simp[bd]) (by simp[bL]) (by simp[cv]) (by simp[p9]) (by simp[m8])
  | succ r cb=>
    intro k R a8 u W g9 an aj jr aH bd bL cv p9 m8 HK EV HL bf;refine eT λb9 a9=> ?_;have H:cq[k]?=some (cq[k]'(by omega)):=List.getElem?_eq_getElem (by omega);obtain⟨x,tG⟩: ∃x,cq[k]?=some x:=⟨_,H⟩;obtain⟨z,D,Z,aw⟩:=aF.len
    replace Z:kA 3 jd=true:=Z
    rw[ak]at z;have cM:=aT aj;have BF:=aT jr;have bK:(k:Int)<n:=(by omega);have bm:(i:Int)<n:=(by omega);have L:= λj=>aF.aD ((cx.l9 an).trans (cx.bs a8 j));obtain⟨q,a,c,lW,er,eU,bn,bF,ln⟩:=iD.fj (L 6) (cx.refl _) tG;have bo:IntKind.i64.wrap ((k:Int)+1)=(k:Int)+1:=ct (by omega) (by omega);have tc:=FJ (l:=R) (i:=i) (by omega);have acn:=FJ (l:=R) (i:=k) (by omega);obtain⟨hx,nd⟩:=List.getElem?_eq_some_iff.1 tc;obtain⟨ay2,Uk⟩:=List.getElem?_eq_some_iff.1 acn;have jU:i+1<=n:=(by omega);have rC:k+1<=n:=(by omega);have vL:List.range' k (r+1)=k::List.range' (k+1) r:=rfl;have hY:=an.next
    cases sD:hu R i with
    | true=>have bT:ot (hE cq) i (List.range' k (r+1)) R=ot (hE cq) i (List.range' (k+1) r) (R.set i true):=(by rw[vL,ot,sD];rfl);rw[bT]at bf;rw[sD]at tc nd;simp(disch:=first|omega|(simp only[ae,ad,af];omega)) [KU,Qk,Ql,bd,cv,HK,EV,HL,bK,bm,z,Z,bn,bF,aj,g9,nd,jU,bo,ks];refine a9 _ _ (cb (k+1) (R.set i true) _ _ (by omega) (by simp[g9]) (((an.bs _).au (by omega)).au nX) (by rw[bX (by simp;omega)];exact congrArg (λc=>some (fO.mk c true)) yG) (by rw[dv dq,dv (by omega),gr BF,jr]) (by simp[aH]) (by simp[bd]) (by simp[bL]) (by simp[cv]) (by simp[p9]) (by simp[m8]) (by simp[HK]) (by simp[EV]) (by simp) bf)
    | false=>
      have bT:ot (hE cq) i (List.range' k (r+1)) R=ot (hE cq) i (List.range' (k+1) r) (R.set i (decide (0<x.n)&&hu R k)):=(by rw[vL,ot,sD,FI tG];rfl);rw[bT]at bf;rw[sD]at tc nd;simp(disch:=first|omega|(simp only[ae,ad,af];omega)) [KU,Qk,Ql,bd,cv,HK,EV,HL,bK,bm,z,Z,bn,bF,aj,g9,nd,jU,ks];obtain⟨bN,k5⟩: ∃bN,bN=(a8.bs 6).au (a8.next+3) (some ⟨[.bool x.bV,.slice q a c,.slice lW er eU],true⟩):=⟨_,rfl⟩;rw[<-k5];have eL:a0 a8 bN:=(by rw[k5];exact((a0.refl a8).bs 6).au (by omega));refine(MZ (ln.sub (by rw[k5];exact cx.au (Jf 6 3)))).aD λe6 bz fP=> ?_;obtain⟨b5,rfl⟩:=fP;have aC:=b5.some (eL.some aj);have pP:=aT aC;have jk:=(an.trans eL).trans b5;cases DT:decide (0<x.n)with
      | true=>rw[DT]at bf;simp(disch:=first|omega|(simp only[ae,ad,af];omega)) [bd,HL,bK,bm,aC,g9,Uk,jU,rC,bo,ks];refine a9 _ _ (cb (k+1) (R.set i (hu R k)) _ _ (by omega) (by simp[g9]) (jk.au nX) (by rw[bX pP];exact congrArg (λc=>some (fO.mk c true)) yG) (by rw[dv dq];exact b5.some (eL.some jr)) (by simp[aH]) (by simp[bd]) (by simp[bL]) (by simp[cv]) (by simp[p9]) (by simp[m8]) (by simp[HK]) (by simp[EV]) (by simp) (by simpa using bf))
      | false=>rw[DT]at bf;simp(disch:=first|omega|(simp only[ae,ad,af];omega)) [HL,bm,aC,g9,jU,bo];refine a9 _ _ (cb (k+1) (R.set i false) _ _ (by omega) (by simp[g9]) (jk.au nX) (by rw[bX pP];exact congrArg (λc=>some (fO.mk c true)) yG) (by rw[dv dq];exact b5.some (eL.some jr)) (by simp[aH]) (by simp[bd]) (by simp[bL]) (by simp[cv]) (by simp[p9]) (by simp[m8]) (by simp[HK]) (by simp[EV]) (by simp) (by simpa using bf))
def CZ(m:B)(v:Value)(s:List a6)(bb:List (List a6))(e:List a6):Prop:= ∃dS c2 jd la,v= .agg #[.string dS,c2,jd,la]/\iD.G m c2 s/\iD.tO.G m jd bb/\iD.G m la e
theorem arV{m:B}{dS:ByteArray}{c2 jd la:Value}{bb:List (List a6)}{e:List a6}{n ga cH:Nat}(aF:iD.tO.G m jd bb)(aU:iD.G m la e)(sL:bb.length=n)(vH:e.length=n)(qz: ∀(i:Nat) (cq:List a6),bb[i]?=some cq->cq.length=n)(l0:n<1000000)(nX:m.next<=ga)(mo:m.next<=cH)(dq:cH≠ga){hN:Value}{Q:dr->aL->B->Prop}: ∀(r i:Nat) (R:List Bool) (a8:B) (u:aL),i+r=n->R.length=n->a0 m a8->a8.M ga=some ⟨R.map oa,true⟩->a8.M cH=some ⟨[.string dS,c2,jd,la],true⟩->
    u 1=bZ cH->u 3= .slice (some ⟨ga,0,none⟩) n 1->u 4=hN->u 19=S n->u 20=S i->
    (∀ag N,a0 m N->N.M ga=some ⟨(sl (hE e) (bb.map hE) n (List.range' i r) R).map oa,true⟩->N.M cH=some ⟨[.string dS,c2,jd,la],true⟩->ag 1=bZ cH->ag 3= .slice (some ⟨ga,0,none⟩) n 1->ag 4=hN->Q (.bI 2) ag N)->
    ch Tryz.prog (.loop KV) u a8 Q:=by
  intro r;induction r with
  | zero=>intro i R a8 u W g9 an aj jr aH bd bL p9 m8 bf;refine eT λb9 a9=> ?_;have e:i=n:=(by omega);subst e;simp[KV,Qg,Qh,Qi,Qj,p9,m8];exact bf _ _ an (by simpa[sl]using aj) jr (by simp[aH]) (by simp[bd]) (by simp[bL])
  | succ r cb=>
    intro i R a8 u W g9 an aj jr aH bd bL p9 m8 bf;refine eT λb9 a9=> ?_;obtain⟨cq,tG⟩: ∃cq,bb[i]?=some cq:=⟨_,List.getElem?_eq_getElem (by omega)⟩;obtain⟨y,Gb⟩: ∃y,e[i]?=some y:=⟨_,List.getElem?_eq_getElem (by omega)⟩;have uJ:=qz i cq tG;obtain⟨z,D,Z,aw⟩:=aF.len
    replace Z:kA 1 jd=true:=Z
    rw[sL]at z;obtain⟨aC,a2,bS,fA⟩:=aU.len
    replace bS:kA 3 la=true:=bS
    rw[vH]at aC;have cM:=aT aj;have bK:(i:Int)<n:=(by omega);obtain⟨q,a,c,lW,er,eU,bn,bF,uM⟩:=iD.fj (aU.aD (cx.l9 an)) (cx.refl _) Gb;have bo:IntKind.i64.wrap ((i:Int)+1)=(i:Int)+1:=ct (by omega) (by omega);have tc:=FJ (l:=R) (i:=i) (by omega);obtain⟨hx,nd⟩:=List.getElem?_eq_some_iff.1 tc;have jU:i+1<=n:=(by omega);have vL:List.range' i (r+1)=i::List.range' (i+1) r:=rfl;have Vf:hu (hE e) i=decide (0<y.n):=FI Gb;have Vg:(bb.map hE).getD i []=hE cq:=(by rw[List.getD_eq_getElem?_getD,List.getElem?_map,tG];rfl);have bT:sl (hE e) (bb.map hE) n (List.range' i (r+1)) R=sl (hE e) (bb.map hE) n (List.range' (i+1) r) (ot (hE cq) i (List.range' 0 n) (R.set i (hu R i||decide (0<y.n)))):=by rw[vL,sl,Vf,Vg,List.range_eq_range']
    rw[bT]at bf
    -- lX b0 fJ lX amC,M9 lX first store
    have b0: ∀(b:Bool) (b4:B) (fb:aL),b=(hu R i||decide (0<y.n))->a0 m b4->b4.M ga=some ⟨(R.set i b).map oa,true⟩->b4.M cH=some ⟨[.string dS,c2,jd,la],true⟩->fb 1=bZ cH->fb 3= .slice (some ⟨ga,0,none⟩) n 1->fb 4=hN->fb 5=S i->fb 19=S n->fb 20=S i->
        ch Tryz.prog Qj fb b4 (sz 3 (s8 Tryz.prog (.I [⟨0,some 67,none,.gz .add .hM (.tmp 20) (.const (.int .i64 1)),[]⟩,⟨1,some 20,none,.pk (.tmp 67),[]⟩]) (xv b9 Q))):=by
      intro b b4 fb L dC qt vC ec vh AT qT abY aDd;obtain⟨w,dt,dJ,vN⟩:=gS.G.LN rfl aF (cx.l9 dC) tG;obtain⟨dk,dV,ew,f4⟩:=vN.len;rw[uJ]at dk;simp(disch:=omega) [Qj,ec,qT,vC,z,Z,bK,dt,dJ,dk,dV];refine arT (n:=n) (i:=i) dq vN uJ l0 (by omega) nX (dK:=bZ cH) (hN:=hN) (aau:=S n) (aav:=S i) n 0 (R.set i b) b4 _ (by omega) (by simp[g9]) dC qt vC (by simp[ec]) (by simp[vh]) (by simp[AT]) (by simp[qT]) (by simp[abY]) (by simp[aDd]) (by simp) (by simp) (by simp) λzi gI fs x4 Ds hr o1 qU za aDq aDr=> ?_;rw[L]at x4;simp(disch:=first|omega|(simp only[ae,ad,af];omega)) [aDr,bo];exact a9 _ _ (cb (i+1) _ gI _ (by omega) (by rw[afQ];simp[g9]) fs x4 Ds (by simp[hr]) (by simp[o1]) (by simp[qU]) (by simp[aDq]) (by simp) bf)
    cases sD:hu R i with
    | true=>rw[sD]at tc nd b0;simp(disch:=first|omega|(simp only[ae,ad,af];omega)) [KV,Qg,Qh,Qi,bd,p9,m8,bK,aj,g9,nd,jU,ks];exact b0 true _ _ (by simp) (an.au nX) (by rw[bX cM];exact congrArg (λc=>some (fO.mk c true)) yG) (by rw[dv dq,jr]) (by simp[aH]) (by simp[bd]) (by simp[bL]) (by simp) (by simp[p9]) (by simp[m8])
    | false=>rw[sD]at tc nd b0;simp(disch:=omega) [KV,Qg,Qh,Qi,aH,bd,p9,m8,bK,aj,jr,g9,nd,jU,aC,bS,bn,bF,ks];refine(MZ uM).aD λe6 bz fP=> ?_;obtain⟨b5,rfl⟩:=fP;have Jy:=b5.some aj;have pP:=aT Jy;simp[Jy,g9,jU,bK];exact b0 (decide (0<y.n)) _ _ (by simp) ((an.trans b5).au nX) (by rw[bX pP];exact congrArg (λc=>some (fO.mk c true)) yG) (by rw[dv dq];exact b5.some jr) (by simp[aH]) (by simp[bd]) (by simp[bL]) (by simp) (by simp[p9]) (by simp[m8])
theorem arU{m:B}{dS:ByteArray}{c2 jd la:Value}{bb:List (List a6)}{e:List a6}{n ga cH:Nat}(aF:iD.tO.G m jd bb)(aU:iD.G m la e)(sL:bb.length=n)(vH:e.length=n)(qz: ∀(i:Nat) (cq:List a6),bb[i]?=some cq->cq.length=n)(l0:n<1000000)(nX:m.next<=ga)(mo:m.next<=cH)(dq:cH≠ga){Q:dr->aL->B->Prop}: ∀(r k:Nat) (a8:B) (u:aL),k+r=n+1->a0 m a8->a8.M ga=some ⟨(l4 (hE e) (bb.map hE) n k).map oa,true⟩->a8.M cH=some ⟨[.string dS,c2,jd,la],true⟩->
    u 1=bZ cH->u 3= .slice (some ⟨ga,0,none⟩) n 1->u 4=S k->
    (∀ag N,a0 m N->N.M ga=some ⟨(l4 (hE e) (bb.map hE) n (n+1)).map oa,true⟩->ag 3= .slice (some ⟨ga,0,none⟩) n 1->Q (.bI 0) ag N)->
    ch Tryz.prog (.loop Qm) u a8 Q:=by
  intro r;induction r with
  | zero=>intro k a8 u W an aj jr aH bd bL bf;refine eT λb9 a9=> ?_;have e:k=n+1:=(by omega);subst e;have c: ¬((n:Int)+1<=n):=(by omega);simp[Qm,Yv,bd,bL,c];exact bf _ _ an aj (by simp[bd])
  | succ r cb=>intro k a8 u W an aj jr aH bd bL bf;refine eT λb9 a9=> ?_;have c:(k:Int)<=n:=(by omega);have bo:IntKind.i64.wrap ((k:Int)+1)=(k:Int)+1:=ct (by omega) (by omega);simp[Qm,Yv,bd,bL,c];refine arV (n:=n) (hN:=S k) aF aU sL vH qz l0 nX mo dq n 0 _ a8 _ (by omega) (Er k) an aj jr (by simp[aH]) (by simp[bd]) (by simp[bL]) (by simp) (by simp) λzi gI fs bS Ds hr o1 qU=> ?_;simp[qU,bo];exact a9 _ _ (cb (k+1) gI _ (by omega) fs (by rw[bS,l4,List.range_eq_range']) Ds (by simp[hr]) (by simp[o1]) (by simp) bf)
theorem afJ{m:B}{b:Bool}(az:Value->B->Prop):bJ Tryz.prog 96 [.bool b] m az=az (.bool b) m:=by refine(ob.rp ?_).wp;rw[aqR (by simp)];simp[ZA,akm]
theorem apg{m:B}{R:List Bool}{n ga:Nat}(g9:R.length=n)(ak:n<1000000)(aj:m.M ga=some ⟨R.map oa,true⟩): ∀(q0:List Bool) (i:Nat) (u:aL),R.drop i=q0->i+q0.length=n->
    u 1= .func (.func 96) #[] #[]->u 7= .slice (some ⟨ga,0,none⟩) n 1->u 8=S n->u 9=S i->
    ch Tryz.prog (.loop Lv) u m (sz 0 (s8 Tryz.prog Lu (ey [.bA 4] λr N=>N=m/\r= .bool (q0.all λb=>b)))):=by
  intro q0;induction q0 with
  | nil=>intro i u aR aa aH cP b3 cg;refine eT λb9 a9=> ?_;have e:i=n:=(by simpa using aa);subst e;simp(disch:=omega) [Lv,RB,RC,RD,Lu,b3,cg]
  | cons b q0 cb=>
    intro i u aR aa aH cP b3 cg;refine eT λb9 a9=> ?_;have H:R[i]?=some b:=(by rw[<-List.head?_drop,aR];rfl);have ng:R.drop (i+1)=q0:=(by rw[<-List.tail_drop,aR];rfl);simp only[List.length_cons]at aa;obtain⟨hx,nd⟩:=List.getElem?_eq_some_iff.1 H;have bK:(i:Int)<n:=(by omega);have jU:i+1<=n:=(by omega);have bo:IntKind.i64.wrap ((i:Int)+1)=(i:Int)+1:=ct (by omega) (by omega);cases b with
    | true=>have bT:((true::q0).all λb=>b)=q0.all λb=>b:=rfl;rw[bT]at a9⊢;simp(disch:=first|omega|(simp only[ae,ad,af];omega)) [Lv,RB,RC,RD,Lu,aH,cP,b3,cg,bK,aj,g9,nd,jU,ks,afJ,bo];exact a9 _ _ (cb (i+1) _ ng (by omega) (by simp[aH]) (by simp[cP]) (by simp[b3]) (by simp))
    | false=>simp(disch:=omega) [Lv,RB,RC,RD,Lu,aH,cP,b3,cg,bK,aj,g9,nd,jU,ks,afJ]
theorem aph{m:B}{R:List Bool}{n ga:Nat}(g9:R.length=n)(ak:n<1000000)(aj:m.M ga=some ⟨R.map oa,true⟩)(az:Value->B->Prop):
    bJ Tryz.prog 95 [.slice (some ⟨ga,0,none⟩) n 1,.func (.func 96) #[] #[]] m az=az (.bool (R.all λb=>b)) m:=by
  have:bJ Tryz.prog 95 [.slice (some ⟨ga,0,none⟩) n 1,.func (.func 96) #[] #[]] m λr N=>N=m/\r= .bool (R.all λb=>b):=by rw[aqQ (by simp)];simp[Zz,akl];exact apg g9 ak aj R 0 _ rfl (by simp[g9]) (by simp) (by simp) (by simp) (by simp)
  refine(ob.rp (this.aD λr N h=>⟨h.2,h.1⟩)).wp
theorem arW{m:B}{v:Value}{s e:List a6}{bb:List (List a6)}{n:Nat}(h:CZ m v s bb e)(sL:bb.length=n)(vH:e.length=n)(qz: ∀(i:Nat) (cq:List a6),bb[i]?=some cq->cq.length=n)(l0:n<1000000):
    bJ Tryz.prog 28 [v] m λr N=>a0 m N/\r= .bool (IQ (hE e) (bb.map hE) n):=by
  rw[aqv (by simp)];obtain⟨dS,c2,jd,la,rfl,J,aF,aU⟩:=h;obtain⟨aC,a2,bS,fA⟩:=aU.len;rw[vH]at aC;obtain⟨dK,fY,cB,rfl⟩:=gS.G.gm J;obtain⟨eO,dh,eQ,rfl⟩:=gS.G.gm aF;obtain⟨gk,kZ,ht,rfl⟩:=gS.G.gm aU;simp only[ic]at aC;have nz:kZ=n:=by omega
  subst nz;have fM:((kZ:Int))*1<=140737488355328:=by omega
  simp(disch:=first|omega|(simp only[ae,ad,af];omega)) [Yu,aiQ,aiS];refine⟨by omega,arU (m:=m) (dS:=dS) (ga:=m.next+2+3) (cH:=m.next) aF aU sL vH qz l0 (by omega) (by omega) (by omega) (kZ+1) 0 _ _ (by omega) ((((a0.refl m).bs 2).au (by omega)).bs 5|>.au (by omega)) (by rw[bX (by simp)];simp[l4]) (by rw[dv (by omega),gr (by simp),bX (by simp)]) (by simp) (by simp) (by simp) λag N o g bd=> ?_⟩;simp(disch:=first|omega|(simp only[ae,ad,af];omega)) [aiR,bd,aph (Er _) l0 g];exact⟨o,by rw[ayx];rfl⟩
theorem aDK{m:B}{dS:ByteArray}{c2 jd la:Value}{bb:List (List a6)}{n cH:Nat}(aF:iD.tO.G m jd bb)(sL:bb.length=n)(l0:n<1000000)(nX: ∀cq∈bb,cq.length<140737488355329)(mo:m.next<=cH){az:Value->B->Prop}(de: ∀N,a0 m N->pr n 0 bb=false->az (.bool false) N): ∀(dg:List (List a6)) (i:Nat) (a8:B) (u:aL),bb.drop i=dg->i+dg.length=n->(pr n i dg=pr n 0 bb)->a0 m a8->a8.M cH=some ⟨[.string dS,c2,jd,la],true⟩->
    u 1=bZ cH->u 3=S n->u 45=jd->u 46=S n->u 47=S i->
    (∀ag N,pr n 0 bb=true->a0 m N->N.M cH=some ⟨[.string dS,c2,jd,la],true⟩->ag 1=bZ cH->ag 3=S n->ch Tryz.prog B6 ag N (ey [.bA 2] az))->
    ch Tryz.prog (.loop Lx) u a8 (sz 0 (s8 Tryz.prog B6 (ey [.bA 2] az))):=by
  intro dg;induction dg with
  | nil=>intro i a8 u aR aa bT an jr aH bd Cr yX AO bf;refine eT λb9 a9=> ?_;have e:i=n:=(by simpa using aa);subst e;simp[Lx,RK,RL,RM,yX,AO];exact bf _ _ bT.symm an jr (by simp[aH]) (by simp[bd])
  | cons cq dg cb=>
    intro i a8 u aR aa bT an jr aH bd Cr yX AO bf;refine eT λb9 a9=> ?_;have H:bb[i]?=some cq:=(by rw[<-List.head?_drop,aR];rfl);have ng:bb.drop (i+1)=dg:=(by rw[<-List.tail_drop,aR];rfl);simp only[List.length_cons]at aa;obtain⟨z,D,Z,aw⟩:=aF.len
    replace Z:kA 1 jd=true:=Z
    rw[sL]at z;have bK:(i:Int)<n:=(by omega);have bo:IntKind.i64.wrap ((i:Int)+1)=(i:Int)+1:=ct (by omega) (by omega);obtain⟨w,dt,dJ,vN⟩:=gS.G.LN rfl aF (cx.l9 an) H;obtain⟨dk,dV,ew,f4⟩:=vN.len
    replace ew:kA 3 w=true:=ew
    have uJ:=nX cq (List.mem_of_getElem? H);simp only[pr]at bT;by_cases bp:cq.length=n
    · have LG:(cq.length:Int)=n:=(by omega);rw[LG]at dk;simp[Lx,RK,RL,RM,bd,Cr,yX,AO,bK,z,Z,dt,dJ,dk,dV];refine(TJ (p:=a6.small) (vN.aD (cx.l9 an)) (by omega) (λN e x _ X=>Wh X)).aD λe6 bz fP=> ?_;obtain⟨b5,rfl⟩:=fP;have jk:=an.trans b5;cases dc:cq.all a6.small with
      | false=>simp[];exact de _ jk (by rw[<-bT];simp[p7,dc])
      | true=>
        obtain⟨x,oL⟩: ∃x,cq[i]?=some x:=⟨_,List.getElem?_eq_getElem (by omega)⟩;obtain⟨q,a,c,lW,er,eU,bn,bF,ln⟩:=iD.fj (vN.aD (cx.l9 jk)) (cx.refl _) oL;simp[dk,ew,bK,bn,bF];refine(MZ ln).aD λfw b4 fh=> ?_;obtain⟨dC,rfl⟩:=fh;have ke:=jk.trans dC;have aj:=FI oL;cases eK:decide (0<x.n)with
        | true=>simp[];exact de _ ke (by rw[<-bT];simp[p7,aj,eK])
        | false=>have aA:p7 n i cq=true:=(by simp[p7,bp,dc,aj,eK]);rw[aA,Bool.true_and]at bT;simp[AO,bo];exact a9 _ _ (cb (i+1) b4 _ ng (by omega) bT ke ((b5.trans dC).some jr) (by simp[aH]) (by simp[bd]) (by simp[Cr]) (by simp[yX]) (by simp) bf)
    · have LG: ¬(cq.length:Int)=n:=(by omega);simp[Lx,RK,RL,RM,bd,Cr,yX,AO,bK,z,Z,dt,dJ,dk,dV,LG];exact de _ an (by rw[<-bT];simp[p7,bp])
end Go.Proofs.YtkpifdkccdndcaaGreat
namespace Go.Big
theorem ao5{x y:a6}(H:0<=x.n)(ah:0<=y.n)(h:(jg x y).1=0):(jg x y).2.ok=true:=by
  have L:=M1 H ah h;unfold jg at h L⊢;split at h
  · rename_i W;rw[if_pos W]at L⊢;simp only[Bool.and_eq_true]at W;obtain⟨IM,_,_⟩:=a6.nq.1 W.1;obtain⟨IP,_,_⟩:=a6.nq.1 W.2;obtain⟨gO,jC⟩:=acw H ah IM IP;unfold mw at h L⊢;split at h
    · rename_i aI;rw[if_pos aI]at L⊢;exact a6.nq.2 ⟨(yE (x:=lI x y) jC).1,L.2.2.2,L.2.1⟩
    · cases h
  · cases h
theorem E2: ∀(l:List a6) {s:a6},s.ok=true->0<=s.n->(∀x∈l,0<=x.n)->(kl s l).1=0->(kl s l).2.ok=true/\0<=(kl s l).2.n
  |[],s,h,bB,_,_=>⟨h,bB⟩
  | x::l,s,h,bB,aG,aU=>by
    simp only[kl]at aU⊢;split at aU
    · rename_i k;rw[if_pos k];have L:=M1 bB (aG x (by simp)) k;exact E2 l (ao5 bB (aG x (by simp)) k) L.1 (λy ah=>aG y (by simp[ah])) aU
    · rename_i k;exact absurd aU k
theorem HS: ∀(l:List a6) {s:a6},(kl s l).1≠0->(kl s l).2= .zero
  |[],s,h=>by simp[kl]at h
  | x::l,s,h=>by
    simp only[kl]at h⊢;split at h
    · rename_i k;rw[if_pos k];exact HS l h
    · rename_i k;rw[if_neg k]
end Go.Big
namespace Go.Proofs.YtkpifdkccdndcaaGreat
open Go Go.DI Go.Big
theorem iD.p1{m:B}{v:Value}{l:List a6}(h:iD.G m v l): ∀x∈l,0<=x.n:= λx H=>by obtain⟨i,aa,rfl⟩:=List.getElem_of_mem H;obtain⟨_,_,_,_,_,_,_,_,X⟩:=iD.fj h (cx.refl _) (List.getElem?_eq_getElem aa);exact X.gO
theorem CZ.azF{m N:B}{v:Value}{s e:List a6}{bb:List (List a6)}(h:CZ m v s bb e)(an:a0 m N):CZ N v s bb e:=by obtain⟨dS,c2,jd,la,bB,z,D,Z⟩:=h;exact⟨dS,c2,jd,la,bB,z.aD (cx.l9 an),D.aD (cx.l9 an),Z.aD (cx.l9 an)⟩
theorem aEF:a6.zero.ok=false:=by simp[a6.ok,a6.zero]
theorem aDM{m:B}{v:Value}{s e:List a6}{bb:List (List a6)}(h:CZ m v s bb e)(nY:s.length<1000000)(ato:e.length<1000000)(ym:bb.length<1000000)(nX: ∀cq∈bb,cq.length<140737488355329):
    bJ Tryz.prog 9 [v] m λr N=>a0 m N/\r= .bool (mJ s bb e):=by
  rw[aqK (by simp)];have kq:=h;obtain⟨dS,c2,jd,la,rfl,J,aF,aU⟩:=h;obtain⟨bn,bF,_,_⟩:=J.len;obtain⟨dt,dJ,_,_⟩:=aF.len;obtain⟨cB,eQ,_,_⟩:=aU.len;obtain⟨dK,fY,lx,rfl⟩:=gS.G.gm J;obtain⟨eO,dh,nM,rfl⟩:=gS.G.gm aF;obtain⟨gk,kZ,tb,rfl⟩:=gS.G.gm aU;simp only[ic]at bn dt cB;obtain rfl:fY=s.length:=by omega
  obtain rfl:dh=bb.length:=by omega
  obtain rfl:kZ=e.length:=by omega
  obtain⟨a8,dN⟩: ∃a8,a8=(m.bs 2).au m.next (some ⟨[.string dS,.slice dK s.length lx,.slice eO bb.length nM,.slice gk e.length tb],true⟩):=⟨_,rfl⟩
  have ed:a0 m a8:=by rw[dN];exact((a0.refl m).bs 2).au (by omega)
  have aj:a8.M m.next=some ⟨[.string dS,.slice dK s.length lx,.slice eO bb.length nM,.slice gk e.length tb],true⟩:=by rw[dN,bX (by simp)]
  by_cases bp:(1:Int)<=s.length
  · by_cases dc:(s.length:Int)<=4
    · by_cases eK:(e.length:Int)=s.length
      · by_cases kX:(bb.length:Int)=s.length
        · simp(disch:=first|omega|(simp only[ae,ad,af];omega)) [En,G6,G7,JX,bp,dc,eK,kX];have bm:1<=s.length:=(by omega);have bU:s.length<=4:=(by omega);have cn:e.length=s.length:=(by omega);have fa:bb.length=s.length:=(by omega);rw[<-dN];have ang:= λ(N:B) (v:Value) (x:a6) (h:iJ N v x)=>Wh h;have mH:=iD.p1 J;refine(TJ (p:=a6.small) (J.aD (cx.l9 ed)) nY (λN e x _ X=>ang N e x X)).aD λe6 bz fP=> ?_;obtain⟨b5,rfl⟩:=fP;have aC:=b5.some aj;have jk:=ed.trans b5;cases j2:s.all a6.small with
          | false=>simp(disch:=first|omega|(simp only[ae,ad,af];omega)) [];exact⟨jk,by simp[mJ,j2]⟩
          | true=>
            simp(disch:=first|omega|(simp only[ae,ad,af];omega)) [aC];refine(TJ (p:=a6.small) (aU.aD (cx.l9 jk)) ato (λN e x _ X=>ang N e x X)).aD λfw b4 fh=> ?_;obtain⟨dC,rfl⟩:=fh;have a2:=dC.some aC;have ke:=jk.trans dC;cases ni:e.all a6.small with
            | false=>simp(disch:=first|omega|(simp only[ae,ad,af];omega)) [];exact⟨ke,by simp[mJ,j2,ni]⟩
            | true=>
              simp(disch:=first|omega|(simp only[ae,ad,af];omega)) [G8,a2];refine aDK (m:=m) (n:=s.length) (dS:=dS) (cH:=m.next) aF fa nY nX (Nat.le_refl _) (az:= λr N=>a0 m N/\r= .bool (mJ s bb e)) (λN o aI=>⟨o,by simp[mJ,aI]⟩) bb 0 b4 _ rfl (by omega) rfl ke a2 (by simp) (by simp) (by simp) (by simp[kX]) (by simp) λag gI zY fs bS aH bd=> ?_;have uJ: ∀(i:Nat) (cq:List a6),bb[i]?=some cq->cq.length=s.length:= λi cq H=>by have:=HJ zY H;simp only[p7,Bool.and_eq_true,decide_eq_true_eq]at this;exact this.1
              have aA:mJ s bb e=(decide ((kl .nil s).1=0)&&decide (ju (kl .nil s).2 .ha=0)&&IQ (hE e) (bb.map hE) s.length):=(by simp[mJ,bm,bU,cn,fa,j2,ni,zY]);rw[aA];have Og:=aT bS;simp(disch:=first|omega|(simp only[ae,ad,af];omega)) [B6,aH,bS];have aQ:= λk=>(a0.refl gI).bs k;refine(asm ((J.aD (cx.l9 fs)).aD (cx.l9 (aQ _))) nY).aD λnr h0 ku=> ?_;obtain⟨g3,q,rfl,bt⟩:=ku;obtain⟨Y,bT⟩: ∃Y,Y=(kl .nil s).1:=⟨_,rfl⟩;obtain⟨Q,bf⟩: ∃Q,Q=(kl .nil s).2:=⟨_,rfl⟩;rw[<-bT,<-bf];rw[<-bf]at bt;obtain⟨hr,iM,o1,qU,za,AU,rfl⟩:=bt.gm;have Vz:=g3.next
              simp only[ad]at Vz;have da:h0.M (gI.next+6)=none:=g3.none (by simp) (Jf 9 6);have nG:=(fs.bs 9).trans g3;have fA:=((fs).trans ((aQ 9).trans g3));have UG:=((aQ 9).trans g3).some bS;have Vv:gI.next+6<h0.next:=by omega
              have at6:=fs.next
              simp(disch:=first|omega|(simp only[ae,ad,af];omega)) [];obtain⟨o6,wZ⟩: ∃o6,o6=h0.au (gI.next+6) (some ⟨[.bool Q.bV,.slice hr iM o1,.slice qU za AU],true⟩):=⟨_,rfl⟩;rw[<-wZ];have Se:a0 m o6:=(by rw[wZ];exact nG.au (by omega));have x6:o6.M (gI.next+6)=some ⟨[.bool Q.bV,.slice hr iM o1,.slice qU za AU],true⟩:=(by rw[wZ,bX Vv]);have oi:o6.M m.next=some ⟨[.string dS,.slice dK s.length lx,.slice eO bb.length nM,.slice gk e.length tb],true⟩:=by rw[wZ,dv (by have:=aT bS;omega)];exact UG
              have VK:je o6 (.agg #[.bool Q.bV,.slice hr iM o1,.slice qU za AU]) Q:=(by rw[wZ];exact bt.sub (cx.au da));simp(disch:=first|omega|(simp only[ae,ad,af];omega)) [G9];have aAg:=(a0.refl o6).bs 7;refine(alQ (m:=o6.bs 7)).aD λmL g2 ib=> ?_;obtain⟨gK,fZ,rfl,JM⟩:=ib;obtain⟨ua,vj,wz,E7,ab5,ab6,rfl⟩:=JM.gm;have VA:=gK.next
              simp only[ad]at VA;have atu:g2.M (o6.next+4)=none:=gK.none (by simp) (Jf 7 4);have aAd:=aAg.trans gK;have w7:o6.next+4<g2.next:=by omega
              simp(disch:=first|omega|(simp only[ae,ad,af];omega));obtain⟨Fo,Br⟩: ∃Fo,Fo=g2.au (o6.next+4) (some ⟨[.bool a6.ha.bV,.slice ua vj wz,.slice E7 ab5 ab6],true⟩):=⟨_,rfl⟩;rw[<-Br];have Sd:a0 o6 Fo:=(by rw[Br];exact aAd.au (by omega));have asG:=Sd.some x6;have asr:=Sd.some oi;have asE:Fo.M (o6.next+4)=some ⟨[.bool a6.ha.bV,.slice ua vj wz,.slice E7 ab5 ab6],true⟩:=(by rw[Br,bX w7]);have sJ:iJ Fo (.agg #[.bool a6.ha.bV,.slice ua vj wz,.slice E7 ab5 ab6]) .ha:=(by rw[Br];exact(JM.sub (cx.au atu)).Tb EJ (by decide));have aAf:=Se.trans Sd;have auu:iJ Fo (.agg #[.bool Q.bV,.slice hr iM o1,.slice qU za AU]) Q:=by
                refine(VK.aD Sd).MH ?_ ?_ ?_ ?_<;>by_cases qw:Y=0
                · rw[bf];exact(E2 s Ay (by decide) mH (by rw[<-bT];exact qw)).2
                · rw[bf,HS s (by rw[<-bT];exact qw)];decide
                · have:=(E2 s Ay (by decide) mH (by rw[<-bT];exact qw)).1;rw[<-bf]at this;exact(Bi this).2.2
                · rw[bf,HS s (by rw[<-bT];exact qw)];exact k8 512
                · have:=(E2 s Ay (by decide) mH (by rw[<-bT];exact qw)).1;rw[<-bf]at this;exact Int.le_of_lt (Bi this).1
                · rw[bf,HS s (by rw[<-bT];exact qw)];decide
                · have:=(E2 s Ay (by decide) mH (by rw[<-bT];exact qw)).1;rw[<-bf]at this;exact(Bi this).2.1
                · rw[bf,HS s (by rw[<-bT];exact qw)];exact k8 512
              simp(disch:=first|omega|(simp only[ae,ad,af];omega)) [Ha,asG,asE];refine(adK auu sJ).aD λxD ie nW=> ?_;obtain⟨ig,rfl⟩:=nW;have NO:=ig.some asr;have yO:=aAf.trans ig;by_cases qw:Y=0
              · have NY:Q.ok=true:=(by rw[bf];exact(E2 s Ay (by decide) mH (by rw[<-bT];exact qw)).1);by_cases oR:ju Q .ha=0
                · simp(disch:=first|omega|(simp only[ae,ad,af];omega)) [NY,EJ,oR,qw,aH,NO,B5];refine(arW (kq.azF yO) fa cn uJ (by omega)).aD λSq nF zW=> ?_;obtain⟨p3,rfl⟩:=zW;simp(disch:=first|omega|(simp only[ae,ad,af];omega));exact yO.trans p3
                · simp(disch:=first|omega|(simp only[ae,ad,af];omega)) [NY,EJ,oR,qw,B5];exact yO
              · have as9:Q= .zero:=(by rw[bf];exact HS s (by rw[<-bT];exact qw));have NY:Q.ok=false:=(by rw[as9];exact aEF);simp(disch:=first|omega|(simp only[ae,ad,af];omega)) [NY,qw,B5];exact yO
        · simp(disch:=first|omega|(simp only[ae,ad,af];omega)) [En,G6,G7,G8,B6,G9,Ha,B5,JX,bp,dc,eK,kX];rw[<-dN];exact⟨ed,by simp[mJ];omega⟩
      · simp(disch:=first|omega|(simp only[ae,ad,af];omega)) [En,G6,G7,G8,B6,G9,Ha,B5,JX,bp,dc,eK];rw[<-dN];exact⟨ed,by simp[mJ];omega⟩
    · simp(disch:=first|omega|(simp only[ae,ad,af];omega)) [En,G6,G7,G8,B6,G9,Ha,B5,JX,bp,dc];rw[<-dN];exact⟨ed,by simp[mJ];omega⟩
  · simp(disch:=first|omega|(simp only[ae,ad,af];omega)) [En,G6,G7,G8,B6,G9,Ha,B5,JX,bp];rw[<-dN];exact⟨ed,by simp[mJ];omega⟩
end Go.Proofs.YtkpifdkccdndcaaGreat
namespace Go.Big
theorem anf{x:a6}(h:x.small=true)(bB:0<=x.n):ju x .nil=if 0<x.n then 1 else 0:=by
  have ak:(ej x).bV=false:=by simp[a6.small]at h;exact h.2.1
  have e:x.n*a6.nil.d=x.n:=by show x.n*1=x.n;omega
  have a1:a6.nil.n*x.d=0:=by show 0*x.d=0;omega
  have cI:a6.nil.bV=false:=rfl;unfold ju;rw[e,a1,cI];have w9:(x.bV&&decide (x.n≠0))=false:=by
    by_cases bY:x.n=0
    · simp[bY]
    · have aq:decide (0<x.n)=true:=(by simp;omega);have:(ej x).bV=(x.bV&&decide (0<x.n)):=rfl;rw[this,aq,Bool.and_true]at ak;simp[ak]
  simp only[w9,Bool.false_and,Bool.false_eq_true,if_false];unfold h8;by_cases aq:0<x.n
  · rw[if_neg (by omega),if_pos aq]
  · rw[if_neg (by omega),if_neg aq]
theorem am8{x:a6}(h:x.small=true)(bB:0<=x.n):(0<ju x .nil)=(0<x.n):=by rw[anf h bB];apply propext;split<;>simp_all
theorem aCP{x:a6}(h:x.small=true)(bB:0<=x.n):(ju x .nil=0)= ¬(0<x.n):=by rw[anf h bB];apply propext;split<;>simp_all
end Go.Big
namespace Go.Proofs.YtkpifdkccdndcaaGreat
open Go Go.DI Go.Big
theorem aB3{m:B}{v:Value}{eY:List a6}{n:Nat}(X:iD.G m v eY)(ak:eY.length=n)(gH:n<1000000): ∀(dg:List a6) (i:Nat) (a8:B) (u:aL),eY.drop i=dg->i+dg.length=n->a0 m a8->
    u 0=v->u 1=S n->u 5=S i->
    ch Tryz.prog (.loop KW) u a8 (sz 0 (s8 Tryz.prog GI (ey [.bA 4] λr N=>a0 m N/\r= .bool (dg.all a6.small)))):=by
  intro dg;induction dg with
  | nil=>intro i a8 u aR aa an bl aH cv;refine eT λb9 a9=> ?_;have e:i=n:=(by simpa using aa);subst e;simp[KW,Qo,GI,aH,cv];exact an
  | cons x dg cb=>
    intro i a8 u aR aa an bl aH cv;refine eT λb9 a9=> ?_;have H:eY[i]?=some x:=(by rw[<-List.head?_drop,aR];rfl);have ng:eY.drop (i+1)=dg:=(by rw[<-List.tail_drop,aR];rfl);simp only[List.length_cons]at aa;obtain⟨z,D,Z,aw⟩:=X.len
    replace Z:kA 3 v=true:=Z
    rw[ak]at z;have bK:(i:Int)<n:=(by omega);obtain⟨q,a,c,lW,er,eU,bn,bF,ln⟩:=iD.fj (X.aD (cx.l9 an)) (cx.refl _) H;have bo:IntKind.i64.wrap ((i:Int)+1)=(i:Int)+1:=ct (by omega) (by omega);cases k:x.small with
    | true=>have bT:(x::dg).all a6.small=dg.all a6.small:=(by simp[k]);rw[bT]at a9⊢;simp[KW,Qo,GI,bl,aH,cv,bK,z,Z,bn,bF];refine(aa2 ln).aD λr bz aq=> ?_;obtain⟨b5,rfl⟩:=aq;simp[k,cv,bo];exact a9 _ _ (cb (i+1) _ _ ng (by omega) (an.trans b5) (by simp[bl]) (by simp[aH]) (by simp))
    | false=>have bT:(x::dg).all a6.small=false:=(by simp[k]);rw[bT];simp[KW,Qo,GI,bl,aH,cv,bK,z,Z,bn,bF];refine(aa2 ln).aD λr bz aq=> ?_;obtain⟨b5,rfl⟩:=aq;simp[k];exact an.trans b5
theorem Sx{m:B}{v:Value}{eY:List a6}{n:Nat}(X:iD.G m v eY)(gH:n<1000000):bJ Tryz.prog 29 [v,S n] m λr N=>a0 m N/\r= .bool (decide (eY.length=n)&&eY.all a6.small):=by
  rw[aqw (by simp)];obtain⟨z,D,Z,aw⟩:=X.len;by_cases k:(eY.length:Int)=n
  · have gN:eY.length=n:=(by omega);rw[k]at z;simp[Qn,Yw,Yx,z,D];have:=aB3 X gN gH eY 0 m (qc (qc (qc (qc (qc (qc (eu [v,S n]) 4 (oa false)) 6 v) 7 (S n)) 8 (S n)) 9 (oa false)) 5 (S 0)) rfl (by simp[gN]) (a0.refl m) (by simp) (by simp) (by simp);simpa[gN]using this
  · have gN: ¬eY.length=n:=(by omega);simp[Qn,Yw,Yx,GI,z,D,k];exact⟨a0.refl m,by simp[gN]⟩
theorem aBm{m:B}{dS:ByteArray}{c2 jd la:Value}{bb:List (List a6)}{cq:List a6}{n i ga cH:Nat}(dq:cH≠ga)(aF:iD.tO.G m jd bb)(sL:bb.length=n)(auS:bb[i]?=some cq)(ak:cq.length=n)(fH:cq.all a6.small=true)(l0:n<1000000)(aa:i<n)(nX:m.next<=ga){sf:Value}{Q:dr->aL->B->Prop}: ∀(r k:Nat) (R:List Bool) (a8:B) (u:aL),k+r=n->R.length=n->a0 m a8->a8.M ga=some ⟨R.map oa,true⟩->a8.M cH=some ⟨[.string dS,c2,jd,la],true⟩->
    u 1=bZ cH->u 3=S n->u 7= .slice (some ⟨ga,0,none⟩) n 1->u 8=sf->u 9=S i->u 10=S k->
    (∀ag N,a0 m N->N.M ga=some ⟨(ot (hE cq) i (List.range' k r) R).map oa,true⟩->N.M cH=some ⟨[.string dS,c2,jd,la],true⟩->ag 1=bZ cH->ag 3=S n->ag 7= .slice (some ⟨ga,0,none⟩) n 1->ag 8=sf->ag 9=S i->Q (.bI 6) ag N)->
    ch Tryz.prog (.loop Kb) u a8 Q:=by
  intro r;induction r with
  | zero=>intro k R a8 u W g9 an aj jr aH bd cP b3 cg dP bf;refine eT λb9 a9=> ?_;have e:k=n:=(by omega);subst e;simp[Kb,OV,bd,dP];exact bf _ _ an (by simpa[ot]using aj) jr (by simp[aH]) (by simp[bd]) (by simp[cP]) (by simp[b3]) (by simp[cg])
  | succ r cb=>
    intro k R a8 u W g9 an aj jr aH bd cP b3 cg dP bf;refine eT λb9 a9=> ?_;obtain⟨x,tG⟩: ∃x,cq[k]?=some x:=⟨_,List.getElem?_eq_getElem (by omega)⟩;have xe:x.small=true:=List.all_eq_true.1 fH x (List.mem_of_getElem? tG);obtain⟨z,D,Z,aw⟩:=aF.len
    replace Z:kA 1 jd=true:=Z
    rw[sL]at z;have cM:=aT aj;have BF:=aT jr;have bK:(k:Int)<n:=(by omega);have bm:(i:Int)<n:=(by omega);obtain⟨w,dt,dJ,vN⟩:=gS.G.LN rfl aF (cx.l9 an) auS;obtain⟨dk,dV,ew,f4⟩:=vN.len
    replace ew:kA 3 w=true:=ew
    rw[ak]at dk;obtain⟨q,a,c,lW,er,eU,bn,bF,ln⟩:=iD.fj (vN.aD (cx.l9 an)) (cx.refl _) tG;have cl:=ln.gO;have bo:IntKind.i64.wrap ((k:Int)+1)=(k:Int)+1:=ct (by omega) (by omega);have tc:=FJ (l:=R) (i:=i) (by omega);have acn:=FJ (l:=R) (i:=k) (by omega);obtain⟨hx,nd⟩:=List.getElem?_eq_some_iff.1 tc;obtain⟨ay2,Uk⟩:=List.getElem?_eq_some_iff.1 acn;have jU:i+1<=n:=(by omega);have rC:k+1<=n:=(by omega);have vL:List.range' k (r+1)=k::List.range' (k+1) r:=rfl;have hY:=an.next
    cases sD:hu R i with
    | true=>have bT:ot (hE cq) i (List.range' k (r+1)) R=ot (hE cq) i (List.range' (k+1) r) (R.set i true):=(by rw[vL,ot,sD];rfl);rw[bT]at bf;rw[sD]at tc nd;simp(disch:=first|omega|(simp only[ae,ad,af];omega)) [Kb,OV,bd,cP,cg,dP,bK,bm,aj,g9,nd,jU,bo,ks];refine a9 _ _ (cb (k+1) (R.set i true) _ _ (by omega) (by simp[g9]) (an.au nX) (by rw[bX cM];exact congrArg (λc=>some (fO.mk c true)) yG) (by rw[dv dq,jr]) (by simp[aH]) (by simp[bd]) (by simp[cP]) (by simp[b3]) (by simp[cg]) (by simp) bf)
    | false=>
      have bT:ot (hE cq) i (List.range' k (r+1)) R=ot (hE cq) i (List.range' (k+1) r) (R.set i (decide (0<x.n)&&hu R k)):=(by rw[vL,ot,sD,FI tG];rfl);rw[bT]at bf;rw[sD]at tc nd;simp(disch:=first|omega|(simp only[ae,ad,af];omega)) [Kb,OV,aH,bd,cP,cg,dP,bK,bm,z,Z,dt,dJ,dk,ew,bn,bF,aj,jr,g9,nd,jU,ks];refine(Sw ln (vf xe)).aD λe6 bz fP=> ?_;obtain⟨b5,rfl⟩:=fP;have aC:=b5.some aj;have zM:=b5.some jr;have pP:=aT aC;have jk:=an.trans b5;have aY:=am8 xe cl;by_cases DT:0<x.n
      · have aR:decide (0<x.n)=true:=(by simp[DT]);rw[aR]at bf;simp(disch:=first|omega|(simp only[ae,ad,af];omega)) [cP,dP,bK,bm,aC,g9,Uk,jU,rC,bo,aY,DT,ks];refine a9 _ _ (cb (k+1) (R.set i (hu R k)) _ _ (by omega) (by simp[g9]) (jk.au nX) (by rw[bX pP];exact congrArg (λc=>some (fO.mk c true)) yG) (by rw[dv dq];exact zM) (by simp[aH]) (by simp[bd]) (by simp[cP]) (by simp[b3]) (by simp[cg]) (by simp) (by simpa using bf))
      · have aR:decide (0<x.n)=false:=(by simp[DT]);rw[aR]at bf;simp[dP,bm,aC,g9,jU,bo,aY,DT];refine a9 _ _ (cb (k+1) (R.set i false) _ _ (by omega) (by simp[g9]) (jk.au nX) (by rw[bX pP];exact congrArg (λc=>some (fO.mk c true)) yG) (by rw[dv dq];exact zM) (by simp[aH]) (by simp[bd]) (by simp[cP]) (by simp[b3]) (by simp[cg]) (by simp) (by simpa using bf))
end Go.Proofs.YtkpifdkccdndcaaGreat
namespace Go.Proofs.YtkpifdkccdndcaaGreat
open Go Go.DI Go.Big
theorem aBo{m:B}{dS:ByteArray}{c2 jd la:Value}{bb:List (List a6)}{e:List a6}{n ga cH:Nat}(aF:iD.tO.G m jd bb)(aU:iD.G m la e)(sL:bb.length=n)(vH:e.length=n)(qz: ∀(i:Nat) (cq:List a6),bb[i]?=some cq->cq.length=n/\cq.all a6.small=true)(F0:e.all a6.small=true)(l0:n<1000000)(nX:m.next<=ga)(mo:m.next<=cH)(dq:cH≠ga){sf:Value}{Q:dr->aL->B->Prop}: ∀(r i:Nat) (R:List Bool) (a8:B) (u:aL),i+r=n->R.length=n->a0 m a8->a8.M ga=some ⟨R.map oa,true⟩->a8.M cH=some ⟨[.string dS,c2,jd,la],true⟩->
    u 1=bZ cH->u 3=S n->u 7= .slice (some ⟨ga,0,none⟩) n 1->u 8=sf->u 9=S i->
    (∀ag N,a0 m N->N.M ga=some ⟨(sl (hE e) (bb.map hE) n (List.range' i r) R).map oa,true⟩->N.M cH=some ⟨[.string dS,c2,jd,la],true⟩->ag 1=bZ cH->ag 3=S n->ag 7= .slice (some ⟨ga,0,none⟩) n 1->ag 8=sf->Q (.bI 4) ag N)->
    ch Tryz.prog (.loop Kc) u a8 Q:=by
  intro r;induction r with
  | zero=>intro i R a8 u W g9 an aj jr aH bd cP b3 cg bf;refine eT λb9 a9=> ?_;have e:i=n:=(by omega);subst e;simp[Kc,OT,OU,bd,cg];exact bf _ _ an (by simpa[sl]using aj) jr (by simp[aH]) (by simp[bd]) (by simp[cP]) (by simp[b3])
  | succ r cb=>
    intro i R a8 u W g9 an aj jr aH bd cP b3 cg bf;refine eT λb9 a9=> ?_;obtain⟨cq,tG⟩: ∃cq,bb[i]?=some cq:=⟨_,List.getElem?_eq_getElem (by omega)⟩;obtain⟨y,Gb⟩: ∃y,e[i]?=some y:=⟨_,List.getElem?_eq_getElem (by omega)⟩;have afG:y.small=true:=List.all_eq_true.1 F0 y (List.mem_of_getElem? Gb);obtain⟨uJ,BL⟩:=qz i cq tG;obtain⟨aC,a2,bS,fA⟩:=aU.len
    replace bS:kA 3 la=true:=bS
    rw[vH]at aC;have cM:=aT aj;have BF:=aT jr;have bK:(i:Int)<n:=(by omega);obtain⟨q,a,c,lW,er,eU,bn,bF,uM⟩:=iD.fj (aU.aD (cx.l9 an)) (cx.refl _) Gb;have o3:=uM.gO;have bo:IntKind.i64.wrap ((i:Int)+1)=(i:Int)+1:=ct (by omega) (by omega);have tc:=FJ (l:=R) (i:=i) (by omega);obtain⟨hx,nd⟩:=List.getElem?_eq_some_iff.1 tc;have jU:i+1<=n:=(by omega);have vL:List.range' i (r+1)=i::List.range' (i+1) r:=rfl;have Vf:hu (hE e) i=decide (0<y.n):=FI Gb;have Vg:(bb.map hE).getD i []=hE cq:=(by rw[List.getD_eq_getElem?_getD,List.getElem?_map,tG];rfl);have bT:sl (hE e) (bb.map hE) n (List.range' i (r+1)) R=sl (hE e) (bb.map hE) n (List.range' (i+1) r) (ot (hE cq) i (List.range' 0 n) (R.set i (hu R i||decide (0<y.n)))):=by rw[vL,sl,Vf,Vg,List.range_eq_range']
    rw[bT]at bf
    have b0: ∀(b:Bool) (b4:B) (fb:aL),b=(hu R i||decide (0<y.n))->a0 m b4->b4.M ga=some ⟨(R.set i b).map oa,true⟩->b4.M cH=some ⟨[.string dS,c2,jd,la],true⟩->fb 1=bZ cH->fb 3=S n->fb 7= .slice (some ⟨ga,0,none⟩) n 1->fb 8=sf->fb 9=S i->
        ch Tryz.prog OU fb b4 (sz 5 (s8 Tryz.prog (.I [⟨0,some 91,none,.pk (.tmp 9),[]⟩,⟨1,some 92,none,.gz .add .hM (.tmp 91) (.const (.int .i64 1)),[]⟩,⟨2,some 9,none,.pk (.tmp 92),[]⟩]) (xv b9 Q))):=by
      intro b b4 fb L dC qt vC ec vh E3 MC MD;simp[OU];refine aBm (n:=n) (i:=i) (bb:=bb) dq aF sL tG uJ BL l0 (by omega) nX (sf:=sf) n 0 (R.set i b) b4 _ (by omega) (by simp[g9]) dC qt vC (by simp[ec]) (by simp[vh]) (by simp[E3]) (by simp[MC]) (by simp[MD]) (by simp) λzi gI fs x4 Ds hr o1 S6 u8 aDs=> ?_;rw[L]at x4;simp(disch:=first|omega|(simp only[ae,ad,af];omega)) [aDs,bo];exact a9 _ _ (cb (i+1) _ gI _ (by omega) (by rw[afQ];simp[g9]) fs x4 Ds (by simp[hr]) (by simp[o1]) (by simp[S6]) (by simp[u8]) (by simp) bf)
    cases sD:hu R i with
    | true=>rw[sD]at tc nd b0;simp(disch:=first|omega|(simp only[ae,ad,af];omega)) [Kc,OT,bd,cP,cg,bK,aj,g9,nd,jU,ks];exact b0 true _ _ (by simp) (an.au nX) (by rw[bX cM];exact congrArg (λc=>some (fO.mk c true)) yG) (by rw[dv dq,jr]) (by simp[aH]) (by simp[bd]) (by simp[cP]) (by simp[b3]) (by simp[cg])
    | false=>rw[sD]at tc nd b0;simp(disch:=omega) [Kc,OT,aH,bd,cP,cg,bK,aj,jr,g9,nd,jU,aC,bS,bn,bF,ks];refine(Sw uM (vf afG)).aD λe6 bz fP=> ?_;obtain⟨b5,rfl⟩:=fP;have Jy:=b5.some aj;have pP:=aT Jy;have aY:=am8 afG o3;simp[Jy,g9,jU,bK,aY];exact b0 (decide (0<y.n)) _ _ (by simp) ((an.trans b5).au nX) (by rw[bX pP];exact congrArg (λc=>some (fO.mk c true)) yG) (by rw[dv dq];exact b5.some jr) (by simp[aH]) (by simp[bd]) (by simp[cP]) (by simp[b3]) (by simp[cg])
theorem aBn{m:B}{dS:ByteArray}{c2 jd la:Value}{bb:List (List a6)}{e:List a6}{n ga cH:Nat}(aF:iD.tO.G m jd bb)(aU:iD.G m la e)(sL:bb.length=n)(vH:e.length=n)(qz: ∀(i:Nat) (cq:List a6),bb[i]?=some cq->cq.length=n/\cq.all a6.small=true)(F0:e.all a6.small=true)(l0:n<1000000)(nX:m.next<=ga)(mo:m.next<=cH)(dq:cH≠ga){Q:dr->aL->B->Prop}: ∀(r k:Nat) (a8:B) (u:aL),k+r=n->a0 m a8->a8.M ga=some ⟨(l4 (hE e) (bb.map hE) n k).map oa,true⟩->a8.M cH=some ⟨[.string dS,c2,jd,la],true⟩->
    u 1=bZ cH->u 3=S n->u 7= .slice (some ⟨ga,0,none⟩) n 1->u 8=S k->
    (∀ag N,a0 m N->N.M ga=some ⟨(l4 (hE e) (bb.map hE) n n).map oa,true⟩->ag 3=S n->ag 7= .slice (some ⟨ga,0,none⟩) n 1->Q (.bI 2) ag N)->
    ch Tryz.prog (.loop O4) u a8 Q:=by
  intro r;induction r with
  | zero=>intro k a8 u W an aj jr aH bd cP b3 bf;refine eT λb9 a9=> ?_;have e:k=n:=(by omega);subst e;simp[O4,Wv,bd,b3];exact bf _ _ an aj (by simp[bd]) (by simp[cP])
  | succ r cb=>intro k a8 u W an aj jr aH bd cP b3 bf;refine eT λb9 a9=> ?_;have c:(k:Int)<n:=(by omega);have bo:IntKind.i64.wrap ((k:Int)+1)=(k:Int)+1:=ct (by omega) (by omega);simp[O4,Wv,bd,b3,c];refine aBo (n:=n) (sf:=S k) aF aU sL vH qz F0 l0 nX mo dq n 0 _ a8 _ (by omega) (Er k) an aj jr (by simp[aH]) (by simp[bd]) (by simp[cP]) (by simp[b3]) (by simp) λzi gI fs bS Ds hr o1 S6 u8=> ?_;simp[u8,bo];exact a9 _ _ (cb (k+1) gI _ (by omega) fs (by rw[bS,l4,List.range_eq_range']) Ds (by simp[hr]) (by simp[o1]) (by simp[S6]) (by simp) bf)
theorem aBa{m:B}{R:List Bool}{n ga:Nat}(g9:R.length=n)(ak:n<1000000)(aj:m.M ga=some ⟨R.map oa,true⟩){az:Value->B->Prop}: ∀(q0:List Bool) (i:Nat) (u:aL),R.drop i=q0->i+q0.length=n->
    u 3=S n->u 7= .slice (some ⟨ga,0,none⟩) n 1->u 11=S i->az (.bool (q0.all λb=>b)) m->
    ch Tryz.prog (.loop Kd) u m (sz 8 (s8 Tryz.prog BT (ey [.bA 2] az))):=by
  intro q0;induction q0 with
  | nil=>intro i u aR aa bd cP fx j1;refine eT λb9 a9=> ?_;have e:i=n:=(by simpa using aa);subst e;simp[Kd,OX,BT,bd,fx];exact j1
  | cons b q0 cb=>
    intro i u aR aa bd cP fx j1;refine eT λb9 a9=> ?_;have H:R[i]?=some b:=(by rw[<-List.head?_drop,aR];rfl);have ng:R.drop (i+1)=q0:=(by rw[<-List.tail_drop,aR];rfl);simp only[List.length_cons]at aa;obtain⟨hx,nd⟩:=List.getElem?_eq_some_iff.1 H;have bK:(i:Int)<n:=(by omega);have jU:i+1<=n:=(by omega);have bo:IntKind.i64.wrap ((i:Int)+1)=(i:Int)+1:=ct (by omega) (by omega);cases b with
    | true=>simp(disch:=first|omega|(simp only[ae,ad,af];omega)) [Kd,OX,BT,bd,cP,fx,bK,aj,g9,nd,jU,ks,bo];exact a9 _ _ (cb (i+1) _ ng (by omega) (by simp[bd]) (by simp[cP]) (by simp) (by simpa using j1))
    | false=>simp(disch:=omega) [Kd,OX,BT,bd,cP,fx,bK,aj,g9,nd,jU,ks];simpa using j1
end Go.Proofs.YtkpifdkccdndcaaGreat
