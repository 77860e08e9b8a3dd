/-
  A part of the proof, shortened by tools of ours.
-/
import Derived.Test.YtmmkkggfmigppaaGreatRows
import Derived.Test.YtmmkkggfmigppaaGreatZbj
set_option linter.all false
set_option maxRecDepth 8000
set_option maxHeartbeats 16000000
namespace Go.DI
open Go Go.RowKit
inductive oa(g:Nat->Nat->Prop):Value->Value->Prop
 |hy {v:Value} (h:hH v=true):oa g v v
 |bC {o o' off:Nat} (h:g o o'):oa g (.pointer (some ⟨o,off,none⟩)) (.pointer (some ⟨o',off,none⟩))
 |slice {o o' off l I:Nat} (h:g o o'):oa g (.slice (some ⟨o,off,none⟩) l I) (.slice (some ⟨o',off,none⟩) l I)
 |agg {xs ys:Array Value} (H:xs.size=ys.size) (h: ∀(i:Nat) (x y:Value),xs[i]?=some x->ys[i]?=some y->oa g x y):oa g (.agg xs) (.agg ys)
 |tuple {xs ys:Array Value} (H:xs.size=ys.size) (h: ∀(i:Nat) (x y:Value),xs[i]?=some x->ys[i]?=some y->oa g x y):oa g (.tuple xs) (.tuple ys)
def kq(g:Nat->Nat->Prop)(l k:List Value):Prop:=l.length=k.length/\ ∀(i:Nat) (x y:Value),l[i]?=some x->k[i]?=some y->oa g x y
theorem oa.ow{g:Nat->Nat->Prop}{u:fY}{cW gF:e3}{v vG:Value}(h:oa g v vG)(aH: ∀o o',g o o'-> ∀b,cW o=some b->gF o'=some b): ∀{w:Value},cu u cW v w->cu u gF vG w:=by
 have DW: ∀{xs ys jf:Array Value},xs.size=ys.size->(∀(i:Nat) (x y:Value),xs[i]?=some x->ys[i]?=some y-> ∀{w:Value},cu u cW x w->cu u gF y w)->bM u cW xs.toList jf.toList->ys.size=jf.size/\ ∀(i:Nat) (x y:Value),ys[i]?=some x->jf[i]?=some y->cu u gF x y:= λ{xs ys jf} H cj aA=>by have A:xs.size=jf.size:=(by simpa using aA.1);refine⟨H.symm.trans A,λi x y B Z=> ?_⟩;have Y:i<xs.size:=(by rw[H];exact(yg.1 B).1);exact cj i xs[i] x (Jm Y) B (aA.2 i xs[i] y (by simp) (by simpa using Z))
 induction h with
 |hy av=>exact λM=>(J1 (g7.refl _) M av).bt (g7.refl _) (fN.nil _)
 | bC h=>intro w M;obtain⟨b,aG,_,rfl⟩:=M.sO;exact .bC (aH _ _ h _ aG)
 | slice h=>
   intro w M;rcases M.lv with⟨b,aG,_,rfl⟩|⟨aG,aN,ct,rfl⟩
   ·exact .slice (aH _ _ h _ aG)
   ·simp only at aG;subst aG;subst ct;exact .sb
 | agg H _ cj=>intro w M;obtain⟨jf,rfl,aA⟩:=M.tQ;obtain⟨a,b⟩:=DW H (λi x y B Z {w}=>cj i x y B Z) aA;exact .agg a b
 | tuple H _ cj=>intro w M;obtain⟨jf,rfl,aA⟩:=M.ET;obtain⟨a,b⟩:=DW H (λi x y B Z {w}=>cj i x y B Z) aA;exact .tuple a b
theorem kq.ow{g:Nat->Nat->Prop}{u:fY}{cW gF:e3}{l k:List Value}(h:kq g l k)(aH: ∀o o',g o o'-> ∀b,cW o=some b->gF o'=some b){w:List Value}(M:bM u cW l w):bM u gF k w:=by
 refine⟨h.1.symm.trans M.1,λi x y B Z=> ?_⟩;have Y:i<l.length:=by rw[h.1];exact(cN.1 B).1
 exact(h.2 i l[i] x (c6 Y) B).ow aH (M.2 i l[i] y (c6 Y) Z)
theorem kq.cells{g:Nat->Nat->Prop}{l:List Value}(h: ∀v∈l,hH v=true):kq g l l:=
 ⟨rfl,λi x y B Z=>by rw[B]at Z;cases Z;exact .hy (h x (fX B))⟩
theorem oa.Vi{g:Nat->Nat->Prop}{l k:List Value}(h:kq g l k):oa g (.agg l.toArray) (.agg k.toArray):= .agg (by simpa using h.1) (by simpa using h.2)
theorem oa.arx{g:Nat->Nat->Prop}{l k:List Value}(h:kq g l k):oa g (.tuple l.toArray) (.tuple k.toArray):= .tuple (by simpa using h.1) (by simpa using h.2)
theorem kq.nil{g:Nat->Nat->Prop}:kq g [] []:=⟨rfl,by intro i x y h;simp at h⟩
theorem kq.cons{g:Nat->Nat->Prop}{x y:Value}{l k:List Value}(h:oa g x y)(H:kq g l k):kq g (x::l) (y::k):=by
 refine⟨by simp[H.1],λi a b ag hb=> ?_⟩;cases i with
 |zero=>simp at ag hb;subst ag;subst hb;exact h
 |succ i=>exact H.2 i a b (by simpa using ag) (by simpa using hb)
def Iw:Value->Bool
 | .agg cs=>cs.toList.all hH
 |v=>hH v
theorem abW{g:Nat->Nat->Prop}{v:Value}(h:Iw v=true):oa g v v:=by
 unfold Iw at h;split at h
 ·next cs=>have:=oa.Vi (g:=g) (kq.cells (l:=cs.toList) λv M=>ei.1 h v M);simpa using this
 ·exact .hy h
def qv:Nat->List (List Value)->G->G
 |_,[],t=>t
 |i,c::l,t=>qv (i+1) l (t.aK i (some ⟨c,true⟩))
@[simp] theorem aUv{i:Nat}{t:G}:qv i [] t=t:=rfl
@[simp] theorem Nn{i:Nat}{t:G}{c:List Value}{l:List (List Value)}:qv i (c::l) t=qv (i+1) l (t.aK i (some ⟨c,true⟩)):=rfl
theorem apI: ∀{l:List (List Value)} {i:Nat} {t:G},(qv i l t).next=t.next
 |[],_,_=>rfl
 |c::l,i,t=>by rw[Nn,apI];rfl
theorem ack: ∀{l:List (List Value)} {i:Nat} {t:G},(qv i l t).mp=t.mp
 |[],_,_=>rfl
 |c::l,i,t=>by rw[Nn,ack];rfl
theorem acm: ∀{l:List (List Value)} {i b:Nat} {t:G},b<i->(qv i l t).F b=t.F b
 |[],_,_,_,_=>rfl
 |c::l,i,b,t,h=>by rw[Nn,acm (by omega),aX (by omega)]
theorem apH: ∀{l:List (List Value)} {i j:Nat} {t:G} {c:List Value},i+l.length<=t.next->l[j]?=some c->(qv i l t).F (i+j)=some ⟨c,true⟩
 |[],_,_,_,_,_,h=>by simp at h
 | c::l,i,0,t,x,aj,h=>by simp at h;subst h;simp only[m8]at aj;rw[Nn,acm (by omega)];exact cb (by omega)
 | c::l,i,j+1,t,x,aj,h=>by simp only[m8]at aj;have:=apH (l:=l) (i:=i+1) (j:=j) (t:=t.aK i (some ⟨c,true⟩)) (c:=x) (by simp;omega) (by simpa using h);rw[Nn,<-this];congr 1;omega
section
variable {P:Program}
theorem aeO{f n:Nat}{args:List Value}{r:Nat->Value}{bs:Nat->List (List Value)}(aj: ∀k,(bs k).length=n)(ag: ∀v∈args,Iw v=true)
 (g1:fg P f args fE λv bd=> ∃xI:List Nat,xI.Nodup/\xI.length=n/\ ∀k,oa (λo o'=> ∃i:Nat,xI[i]?=some o/\o'=k+i) v (r k)/\ ∀(i:Nat) cs,(bs k)[i]?=some cs-> ∃o l3,xI[i]?=some o/\bd.F o=some ⟨l3,true⟩/\kq (λo o'=> ∃i:Nat,xI[i]?=some o/\o'=k+i) l3 cs) (t:G):
 fg P f args t λv X=>v=r t.next/\X=qv t.next (bs t.next) (t.bU n):= λJ u bz m H aA=>by
 have KU:bM u kY args bz:=⟨aA.1,λi x y B Z=>(abW (g:= λ_ _=>False) (ag x (fX B))).ow (λ_ _ h=>h.elim) (aA.2 i x y B Z)⟩;obtain⟨p,ae⟩: ∃p:G,p=⟨m.next,λb=>if(u b).isSome then m.hc b else none,m.mp⟩:=⟨_,rfl⟩;have pv:p.next=m.next:=by rw[ae]
 have Nk:p.mp=m.mp:=by rw[ae]
 have mf: ∀b,p.F b=if(u b).isSome then m.F b else none:= λb=>by
  rw[ae];simp only[G.F];split
  ·rfl
  ·split<;>rfl
 have part:BE p m:=⟨pv,Nk,λb x B=>by
  rw[mf]at B;split at B
  ·exact B
  ·cases B⟩
 have KG:sq u p:= λb cs hb=>by obtain⟨w,aQ⟩:=(H.b0 b cs hb).1;exact⟨w,by rw[mf,hb];exact aQ⟩
 have Ld:ep kY u fE p:=adZ KG;refine(eu.frame part (g1 kY u bz p Ld KU)).bt λeA bn bV=> ?_;obtain⟨jV,⟨cW,eo,v,bd,⟨xI,eM,dc,O⟩,E,ao,aS⟩,bK⟩:=bV;have wj:m.next<=bn.next:=bK.next
 have aUk:jV.next=bn.next:=bK.part.next
 obtain⟨ar,hb⟩:=O t.next
 obtain⟨aP,cd⟩: ∃aP,aP=bs t.next:=⟨_,rfl⟩
 rw[<-cd]at hb⊢;have awD:aP.length=n:=by rw[cd];exact aj _
 obtain⟨gF,B6⟩: ∃gF:e3,gF= λo=>if o<t.next then J o else match xI[o-t.next]? with|some p=>cW p|none=>none:=⟨_,rfl⟩
 have rL: ∀o,o<t.next->gF o=J o:= λo h=>by rw[B6];simp only[if_pos h]
 have la: ∀o,¬o<t.next->gF o=match xI[o-t.next]? with|some p=>cW p|none=>none:= λo h=>by rw[B6];simp only[if_neg h]
 have VZ: ∀i p,xI[i]?=some p->gF (t.next+i)=cW p:= λi p h=>by rw[la _ (by omega),show t.next+i-t.next=i by omega,h]
 have aH: ∀o o',(∃i:Nat,xI[i]?=some o/\o'=t.next+i)-> ∀b,cW o=some b->gF o'=some b:= λo o' ⟨i,A,E⟩ b hb=>by rw[E,VZ i o A];exact hb
 have J8: ∀p b,cW p=some b->m.next<=b:= λp b h=>(aS.la p b h).elim (λh=>by cases h) (λh=>by have:=h.2;omega)
 have cY: ∀b cs,eo b=some cs->u b=some cs\/m.next<=b:= λb cs h=>by
  rcases aS.fn b cs h with h|h|⟨o,x,h,_⟩
  ·exact .inl h
  ·exact .inr (by omega)
  ·cases h
 have aoN: ∀o,¬o<t.next->J o=none:= λo h=>by
  cases aU:J o with
  |none=>rfl
  |some b=>exact absurd (H.cU o b aU).1 h
 have VV:fN J gF:= λo b h=>by rw[rL o (H.cU o b h).1];exact h
 have pk: ∀b,b<m.next->bn.F b=m.F b:= λb hb=>by
  cases aH:p.F b with
  |none=>exact(bK.jd b hb aH).1
  |some x=>rw[part.F b x aH];exact bK.part.F b x (by rw[aS.dg b (by rw[pv];exact hb) λ⟨o,x,h,_⟩=>by cases h];exact aH)
 have new: ∀o b,¬o<t.next->gF o=some b-> ∃i p,o=t.next+i/\xI[i]?=some p/\cW p=some b:= λo b h aU=>by
  rw[la o h]at aU;split at aU
  ·next p ae=>exact⟨o-t.next,p,by omega,ae,aU⟩
  ·cases aU
 have bw: ∀o,o<t.next->(qv t.next aP (t.bU n)).F o=t.F o:= λo h=>by rw[acm h,cl h]
 have Iy:(qv t.next aP (t.bU n)).next=t.next+n:=by rw[apI];rfl
 have e0: ∀o x,¬o<t.next->(qv t.next aP (t.bU n)).F o=some x-> ∃i cs,o=t.next+i/\aP[i]?=some cs/\x=⟨cs,true⟩:= λo x h B=>by
  have A:=aF B;rw[Iy]at A;have Y:o-t.next<aP.length:=by omega
  have E:=apH (i:=t.next) (j:=o-t.next) (t:=t.bU n) (l:=aP) (c:=aP[o-t.next]) (by rw[awD];simp[G.bU]) (c6 Y);rw[show t.next+(o-t.next)=o by omega,B]at E;exact⟨o-t.next,_,by omega,c6 Y,by cases E;rfl⟩
 refine⟨gF,eo,_,_,⟨rfl,rfl⟩,?_,ar.ow aH ao,?_⟩
 ·refine⟨λo x B=> ?_,λo es aU=> ?_,λo aC=> ?_,λo o' b h cw=> ?_,λo b h=> ?_,λb cs h=>⟨by obtain⟨w,aQ⟩:=(E.b0 b cs h).1;exact⟨w,bK.part.F b _ aQ⟩,λo x cp B=> ?_⟩⟩
  ·by_cases aC:o<t.next
   ·rw[bw o aC]at B;rcases H.jc o x B with⟨b,cs,w,br,bQ,a3,a4⟩|⟨br,bQ⟩
    ·exact .inl ⟨b,cs,w,by rw[rL o aC];exact br,by rw[pk b (H.cU o b br).2];exact bQ,a3,a4.bt aS.f VV⟩
    ·exact .inr ⟨by rw[rL o aC];exact br,bQ⟩
   ·obtain⟨i,cs,rfl,iu,rfl⟩:=e0 o x aC B;obtain⟨p,l3,a9,bW,cA⟩:=hb i cs iu;rcases E.jc p _ bW with⟨b,ds,w,br,bQ,a3,a4⟩|⟨br,bQ⟩
    ·exact .inl ⟨b,ds,w,by rw[VZ i p a9];exact br,bK.part.F b _ bQ,λ_=>a3 rfl,cA.ow aH a4⟩
    ·refine .inr ⟨by rw[VZ i p a9];exact br,?_⟩;simp only at bQ;subst bQ;exact n2 cA.1.symm
  ·obtain⟨ck,c9⟩:=ji aU;rw[ack]at c9;by_cases aC:o<t.next
   ·rw[bw o aC]at ck;obtain⟨b,de,br,bQ,a3⟩:=H.maps o es (kT ck c9);obtain⟨gI,hz⟩:=ji bQ;have rQ:=(H.cU o b br).2;refine⟨b,de,by rw[rL o aC];exact br,?_,a3.bt aS.f VV⟩;have mz:u b=none:=by
     cases df:u b with
     |none=>rfl
     |some cs=>have:=(H.b0 b cs df).2 o _ br ck;cases this
    exact kT (by rw[pk b rQ];exact gI) (by rw[(bK.jd b rQ (by rw[mf,mz];rfl)).2.2];exact hz)
   ·have:=H.jA o (aoN o aC);rw[show(t.bU n).mp=t.mp from rfl,this]at c9;cases c9
  ·rw[ack];by_cases h:o<t.next
   ·exact H.jA o (by rw[<-rL o h];exact aC)
   ·exact H.jA o (aoN o h)
  ·by_cases ck:o<t.next
   ·rw[rL o ck]at h;by_cases c9:o'<t.next
    ·rw[rL o' c9]at cw;exact H.inj o o' b h cw
    ·obtain⟨i,p,_,_,e⟩:=new o' b c9 cw;have:=J8 p b e;have:=(H.cU o b h).2;omega
   ·obtain⟨i,p,aG,aN,ct⟩:=new o b ck h;by_cases c9:o'<t.next
    ·rw[rL o' c9]at cw;have:=J8 p b ct;have:=(H.cU o' b cw).2;omega
    ·obtain⟨du,jV,ej,eD,gg⟩:=new o' b c9 cw;have K9:=E.inj p jV b ct gg;subst K9;have Y:=(cN.1 aN).1;obtain⟨ih,a5⟩:=cN.1 eD;have aE:=(cN.1 aN).2;have:i=du:=by
      rcases Nat.lt_trichotomy i du with q|q|q
      ·exact absurd (aE.trans a5.symm) (zI.1 eM i du Y ih q)
      ·exact q
      ·exact absurd (a5.trans aE.symm) (zI.1 eM du i ih Y q)
     omega
  ·rw[Iy];by_cases ck:o<t.next
   ·rw[rL o ck]at h;have:=H.cU o b h;exact⟨by omega,by omega⟩
   ·obtain⟨i,p,aG,aN,ct⟩:=new o b ck h;have:=(cN.1 aN).1;exact⟨by omega,by have:=(E.cU p b ct).2;omega⟩
  ·by_cases ck:o<t.next
   ·rw[rL o ck]at cp;rw[bw o ck]at B;rcases cY b cs h with h|h
    ·exact(H.b0 b cs h).2 o x cp B
    ·have:=(H.cU o b cp).2;omega
   ·obtain⟨i,p,aG,aN,ct⟩:=new o b ck cp;obtain⟨du,c,ej,eD,gg⟩:=e0 o x ck B;have:du=i:=(by omega);subst this;obtain⟨jV,l3,a9,bW,cA⟩:=hb du c eD;rw[aN]at a9;cases a9;have:=(E.b0 b cs h).2 p _ ct bW;cases this
 ·refine⟨VV,aS.f,λo b h=> ?_,λb cs h=>(cY b cs h).elim .inl λh=> .inr (.inl h),by rw[Iy];omega,wj,λb hb _=>pk b hb,λb hb ⟨o,x,a9,bW,cA⟩=> ?_,λb hb ⟨o,x,a9,bW⟩=> ?_⟩
  ·by_cases ck:o<t.next
   ·rw[rL o ck]at h;exact .inl h
   ·obtain⟨i,p,aG,aN,ct⟩:=new o b ck h;exact .inr ⟨by omega,J8 p b ct⟩
  ·by_cases ck:o<t.next
   ·rw[rL o ck]at a9;rw[bw o ck]at bW;exact⟨o,x,a9,bW,cA⟩
   ·obtain⟨i,p,aG,aN,ct⟩:=new o b ck a9;have:=J8 p b ct;omega
  ·by_cases ck:o<t.next
   ·rw[rL o ck]at a9;rw[bw o ck]at bW;exact⟨o,x,a9,bW⟩
   ·obtain⟨i,p,aG,aN,ct⟩:=new o b ck a9;have:=J8 p b ct;omega
end
section
variable {P:Program}
abbrev bN(o n I:Nat):Value:= .slice (some ⟨o,0,none⟩) n I
theorem Of{f n I:Nat}{args cells:List Value}(ag: ∀v∈args,Iw v=true)(av: ∀v∈cells,hH v=true)
 (g1:fg P f args fE λv bd=> ∃o,v=bN o n I/\bd.F o=some ⟨cells,true⟩) (t:G):fg P f args t λv X=>v=bN t.next n I/\X=(t.bU 1).aK t.next (some ⟨cells,true⟩):=
 aeO (r:= λk=>bN k n I) (bs:= λ_=>[cells]) (n:=1) (λ_=>rfl) ag (g1.bt λv bd ⟨o,M,aH⟩=>⟨[o],by simp,rfl,λk=>⟨by
  rw[M];exact .slice ⟨0,rfl,rfl⟩,λi cs iu=>by
   cases i with
   |zero=>simp at iu;subst iu;exact⟨o,cells,rfl,aH,kq.cells av⟩
   |succ i=>simp at iu⟩⟩) t
theorem N4{f n I:Nat}{args:List Value}{bJ:List (List Value)}(aj:n=bJ.length)(ar: ∀r∈bJ,r.length=I/\ ∀v∈r,hH v=true)
 (g1:fg P f args fE λv bd=> ∃o,v=bN o n I/\bd.F o=some ⟨bJ.flatten,true⟩):bP P f args (ai bJ I):=
 dJ (g1.bt λv t ⟨o,M,aH⟩=>by rw[M];exact uS (n:=8) aH aj ar)
open Classical in
noncomputable def jg.Kl(f:Nat)(af:Type)(cI:af->Prop)(enc:af->List Value)(n I:af->Nat)(cells:af->List Value)
 (ok: ∀x,cI x-> ∀t,fg P f (enc x) t λv X=>v=bN t.next (n x) (I x)/\X=(t.bU 1).aK t.next (some ⟨cells x,true⟩)):jg P:=
 ⟨f,λargs t=>if h: ∃x,cI x/\enc x=args then some (bN t.next (n h.choose) (I h.choose),(t.bU 1).aK t.next (some ⟨cells h.choose,true⟩))else none,λargs t r X h bu iF=>by
  split at h
  ·next B=>cases h;have:=ok _ B.choose_spec.1 t;rw[B.choose_spec.2]at this;exact this.bt λv X ⟨a,b⟩=>by rw[a,b];exact iF
  ·cases h⟩
theorem jg.Wb{f:Nat}{af:Type}{cI:af->Prop}{enc:af->List Value}{n I:af->Nat}{cells:af->List Value}{ok: ∀x,cI x-> ∀t,fg P f (enc x) t λv X=>v=bN t.next (n x) (I x)/\X=(t.bU 1).aK t.next (some ⟨cells x,true⟩)}{x:af}{t:G}(ae:cI x)(Y: ∀y,enc y=enc x->y=x):
 (jg.Kl (P:=P) f af cI enc n I cells ok).fn (enc x) t=some (bN t.next (n x) (I x),(t.bU 1).aK t.next (some ⟨cells x,true⟩)):=by
 have hX: ∃y,cI y/\enc y=enc x:=⟨x,ae,rfl⟩;simp only[jg.Kl,dif_pos hX];rw[Y _ hX.choose_spec.2]
end
def fc{dP:Type}(n:Nat)(f:Nat->dP):List dP:=(List.range n).map f
section
variable {dP pI:Type} {n i:Nat} {f g:Nat->dP}
@[simp] theorem r7:(fc n f).length=n:=by simp[fc]
theorem rl(h:i<n):(fc n f)[i]?=some (f i):=by simp[fc,h]
theorem rk(h: ∀j,j<n->f j=g j):fc n f=fc n g:=by unfold fc;exact DJ λj aV=>h j (pH.1 aV)
theorem A3{x:dP}:(fc n f).set i x=fc n (λj=>if j=i then x else f j):=by
 apply yi;intro j;rw[Bu];by_cases aV:j<n
 ·by_cases e:i=j
  ·subst e;rw[if_pos rfl,if_pos (by simpa using aV),rl aV,if_pos rfl]
  ·rw[if_neg e,rl aV,rl aV,if_neg λh=>e h.symm]
 ·have A: ∀(k:Nat->dP),(fc n k)[j]?=none:= λk=>qD (by simp;omega);rw[A,A];split
  ·rw[if_neg (by simp;omega)]
  ·rfl
theorem C8{h:dP->pI}:(fc n f).map h=fc n λj=>h (f j):=by simp[fc]
theorem TR{x:dP}:List.replicate n x=fc n λ_=>x:=by
 apply yi;intro j;by_cases aV:j<n
 ·rw[rl aV];simp[aV]
 ·rw[qD (by simp;omega),qD (by simp;omega)]
theorem FW:fc (n+1) f=fc n f++[f n]:=by simp[fc,By]
end
section
variable {P:Program}
open Classical in
theorem aeQ{f:Nat}{args cs l3:List Value}{r:Value}(bx:cs≠[])(Xd:l3≠[])(iu: ∀v∈cs,hH v=true)(aw8: ∀v∈l3,hH v=true)(ag: ∀v∈args,Iw v=true)
 (g1:fg P f (.pointer (some ⟨0,0,none⟩)::args) ((fE.bU 1).aK 0 (some ⟨cs,true⟩)) λv bd=>dx 9 bd v=some r/\bd.F 0=some ⟨l3,true⟩/\0∉eC 9 bd v) {t:G} {o:Nat} (aC:t.F o=some ⟨cs,true⟩):
 fg P f (.pointer (some ⟨o,0,none⟩)::args) t λv X=>v=r/\X=t.aK o (some ⟨l3,true⟩):= λJ u bz m H aA=>by
 obtain⟨b,ds,arT,cp,q3,aiD,yT⟩: ∃b ds w,J o=some b/\m.F b=some ⟨ds,w⟩/\(true=true->w=true)/\bM u J cs ds:=by
  rcases H.jc o _ aC with⟨b,ds,w,br,bQ,a3,a4⟩|⟨_,bQ⟩
  ·exact⟨b,ds,w,br,bQ,a3,a4⟩
  ·exact absurd bQ bx
 have ayi:=aiD rfl;subst ayi;have mz:u b=none:=by
  cases df:u b with
  |none=>rfl
  |some c=>have:=(H.b0 b c df).2 o _ cp aC;cases this
 obtain⟨p,ae⟩: ∃p:G,p=⟨m.next,λq=>if(u q).isSome\/q=b then m.hc q else none,m.mp⟩:=⟨_,rfl⟩;have pv:p.next=m.next:=by rw[ae]
 have mf: ∀q,p.F q=if(u q).isSome\/q=b then m.F q else none:= λq=>by
  rw[ae];simp only[G.F];split
  ·rfl
  ·split<;>rfl
 have part:BE p m:=⟨pv,by rw[ae],λq x B=>by
  rw[mf]at B;split at B
  ·exact B
  ·cases B⟩
 obtain⟨DP,KD⟩: ∃DP:e3,DP= λq=>if q=0 then some b else none:=⟨_,rfl⟩
 have VP:DP 0=some b:=by rw[KD];rfl
 have ho: ∀q c,DP q=some c->q=0/\c=b:= λq c h=>by
  rw[KD]at h;simp only at h;split at h
  ·next e=>cases h;exact⟨e,rfl⟩
  ·cases h
 have vZ:=aF q3;have aIP:((fE.bU 1).aK 0 (some (en.mk cs true))).F 0=some ⟨cs,true⟩:=cb (by simp[fE]);have ari: ∀q x,((fE.bU 1).aK 0 (some (en.mk cs true))).F q=some x->q=0/\x=⟨cs,true⟩:= λq x B=>by have:=aF B;simp[fE]at this;subst this;rw[aIP]at B;cases B;exact⟨rfl,rfl⟩
 have agm: ∀{cW gF:e3} {eo:fY} {l k:List Value},(∀v∈l,hH v=true)->bM eo cW l k->bM eo gF l k:= λ{cW gF eo l k} av h=>(kq.cells (g:= λ_ _=>False) av).ow (λ_ _ h=>h.elim) h;have Ld:ep DP u ((fE.bU 1).aK 0 (some ⟨cs,true⟩)) p:=by
  refine⟨λq x B=> ?_,λq es aU=> ?_,λq _=>rfl,λq zq c h cw=>by rw[(ho q c h).1,(ho zq c cw).1],λq c h=> ?_,λc gB h=>⟨?_,λq x bg B=> ?_⟩⟩
  ·obtain⟨rfl,rfl⟩:=ari q x B;exact .inl ⟨b,ds,true,VP,by rw[mf,if_pos (.inr rfl)];exact q3,λ_=>rfl,agm iu yT⟩
  ·obtain⟨_,e⟩:=ari q _ (ji aU).1;simp only[en.mk.injEq,and_true]at e;exact absurd e.symm bx
  ·obtain⟨rfl,rfl⟩:=ho q c h;exact⟨by simp[fE],by rw[pv];exact vZ⟩
  ·obtain⟨w,aQ⟩:=(H.b0 c gB h).1;exact⟨w,by rw[mf,if_pos (.inl (by rw[h];rfl))];exact aQ⟩
  ·obtain⟨rfl,rfl⟩:=ho q c bg;rw[mz]at h;cases h
 have KU:bM u DP (.pointer (some ⟨0,0,none⟩)::args) bz:=by
  cases bz with
  |nil=>have:=aA.1;simp at this
  | cons a z1=>have A:=aA.2 0 _ a rfl rfl;obtain⟨c,bB,_,rfl⟩:=A.sO;simp only at bB;rw[cp]at bB;cases bB;refine bM.cons (.bC VP) ⟨by simpa using aA.1,λi x y B Z=> ?_⟩;exact(abW (g:= λ_ _=>False) (ag x (fX B))).ow (λ_ _ h=>h.elim) (aA.2 (i+1) x y (by simpa using B) (by simpa using Z))
 refine(eu.frame part (g1 DP u bz p Ld KU)).bt λeA bn bV=> ?_;obtain⟨jV,⟨cW,eo,v,bd,⟨ar,qi,Xw⟩,E,ao,aS⟩,bK⟩:=bV;have wj:m.next<=bn.next:=bK.next
 have Pt:cW 0=some b:=aS.e 0 b VP;have cY: ∀c gB,eo c=some gB->u c=some gB\/m.next<=c:= λc gB h=>by
  rcases aS.fn c gB h with bI|bI|⟨q,x,bI,_⟩
  ·exact .inl bI
  ·exact .inr (by omega)
  ·obtain⟨rfl,rfl⟩:=ho q c bI;have:=(E.b0 _ gB h).2 0 _ Pt qi;cases this
 have au6: ∀q c,cW q=some c->c=b\/m.next<=c:= λq c h=>by
  rcases aS.la q c h with bI|bI
  ·exact .inl (ho q c bI).2
  ·exact .inr (by have:=bI.2;omega)
 have pk: ∀c,c<m.next->c≠b->bn.F c=m.F c:= λc av Cd=>by
  cases aH:p.F c with
  |none=>exact(bK.jd c av aH).1
  | some x=>rw[part.F c x aH];refine bK.part.F c x ?_;rw[aS.dg c (by rw[pv];exact av) λ⟨q,x,bI,_⟩=>Cd (ho q c bI).2];exact aH
 obtain⟨kg,KF⟩: ∃kg:fY,kg= λc=>match eo c with
  |some gB=>some gB
  |none=>if c≠b/\ ∃q,cW q=some c then(jV.F c).map (·.cells)else none:=⟨_,rfl⟩
 have V3:g7 eo kg:= λc gB h=>by rw[KF];simp only[h]
 have eD: ∀c gB,kg c=some gB->eo c=some gB\/(m.next<=c/\ ∃w,jV.F c=some ⟨gB,w⟩):= λc gB h=>by
  rw[KF]at h;simp only at h;split at h
  ·next bI=>cases h;exact .inl bI
  ·split at h
   ·next bI=>
    obtain⟨Cd,q,bg⟩:=bI;right;refine⟨(au6 q c bg).resolve_left Cd,?_⟩;cases aH:jV.F c with
    |none=>rw[aH]at h;cases h
    |some x=>rw[aH]at h;cases h;exact⟨x.own,rfl⟩
   ·cases h
 have aJE:cu kg kY r eA:=G4 E V3 9 ao ar λq bg fw c gB w aiI aH=>by
  rw[KF];simp only;cases Ww:eo c with
  |some qc=>obtain⟨⟨w',kJ⟩,_⟩:=E.b0 c qc Ww;rw[aH]at kJ;cases kJ;rfl
  | none=>
    have Cd:c≠b:= λe=>by subst e;have:=E.inj q 0 c aiI Pt;subst this;exact Xw bg
    simp only;rw[if_pos ⟨Cd,q,aiI⟩,aH];rfl
 obtain⟨BX,cr,pe,ais⟩: ∃BX cr,jV.F b=some ⟨BX,cr⟩/\(cr=true/\bM eo cW l3 BX):=by
  rcases E.jc 0 _ qi with⟨c,d,w,br,bQ,a3,a4⟩|⟨br,_⟩
  ·rw[Pt]at br;cases br;exact⟨d,w,bQ,a3 rfl,a4⟩
  ·rw[Pt]at br;cases br
 have bh:=aF aC;have a5: ∀q,q≠o->(t.aK o (some ⟨l3,true⟩)).F q=t.F q:= λq h=>aX h;have ahv:(t.aK o (some (en.mk l3 true))).F o=some ⟨l3,true⟩:=cb bh;have nb: ∀q c,J q=some c->q≠o->c≠b:= λq c h bg e=>bg (H.inj q o b (e▸h) cp);have V5:g7 u kg:=aS.f.trans V3;refine⟨J,kg,_,_,⟨rfl,rfl⟩,?_,aJE.bt (g7.refl _) (fN.nil _),?_⟩
 ·refine⟨λq x B=> ?_,λq es aU=> ?_,H.jA,H.inj,λq c h=>⟨(H.cU q c h).1,by have:=(H.cU q c h).2;omega⟩,λc gB h=>⟨?_,λq x bg B=> ?_⟩⟩
  ·by_cases bg:q=o
   ·subst bg;rw[ahv]at B;cases B;exact .inl ⟨b,BX,cr,cp,bK.part.F b _ pe,λ_=>ais.1,(agm aw8 ais.2).bt V3 (fN.refl _)⟩
   ·rw[a5 q bg]at B;rcases H.jc q x B with⟨c,d,w,br,bQ,a3,a4⟩|br
    ·exact .inl ⟨c,d,w,br,by rw[pk c (H.cU q c br).2 (nb q c br bg)];exact bQ,a3,a4.bt V5 (fN.refl _)⟩
    ·exact .inr br
  ·obtain⟨ck,c9⟩:=ji aU;by_cases bg:q=o
   ·subst bg;rw[ahv]at ck;simp only[mP,en.mk.injEq,and_true]at ck;exact absurd ck Xd
   ·rw[a5 q bg]at ck;obtain⟨c,de,br,bQ,a3⟩:=H.maps q es (kT ck c9);obtain⟨gI,hz⟩:=ji bQ;have cq:=(H.cU q c br).2;have Cd:=nb q c br bg;have Ww:u c=none:=by
     cases df:u c with
     |none=>rfl
     |some d=>have:=(H.b0 c d df).2 q _ br ck;cases this
    refine⟨c,de,br,?_,a3.bt V5 (fN.refl _)⟩;exact kT (by rw[pk c cq Cd];exact gI) (by rw[(bK.jd c cq (by rw[mf,Ww,if_neg (by simp[Cd])])).2.2];exact hz)
  ·rcases eD c gB h with bI|⟨bI,w,cZ⟩
   ·obtain⟨w,aQ⟩:=(E.b0 c gB bI).1;exact⟨w,bK.part.F c _ aQ⟩
   ·exact⟨w,bK.part.F c _ cZ⟩
  ·have dA:=(H.cU q c bg).2;have df:u c=some gB:=by
    rcases eD c gB h with bI|⟨bI,_⟩
    ·exact(cY c gB bI).resolve_right (by omega)
    ·omega
   by_cases tL:q=o
   ·subst tL;rw[cp]at bg;cases bg;rw[mz]at df;cases df
   ·rw[a5 q tL]at B;exact(H.b0 c gB df).2 q x bg B
 ·refine⟨fN.refl _,V5,λ_ _ h=> .inl h,λc gB h=> ?_,c8 _,wj,λc av aQ=> ?_,λc av ⟨q,x,a9,bW,cA⟩=> ?_,λc av ⟨q,x,a9,bW⟩=> ?_⟩
  ·rcases eD c gB h with bI|⟨bI,_⟩
   ·rcases cY c gB bI with cZ|cZ
    ·exact .inl cZ
    ·exact .inr (.inl cZ)
   ·exact .inr (.inl bI)
  ·exact pk c av λe=>aQ ⟨o,_,e▸cp,aC,rfl⟩
  ·by_cases tL:q=o
   ·subst tL;exact⟨q,_,a9,aC,rfl⟩
   ·rw[a5 q tL]at bW;exact⟨q,x,a9,bW,cA⟩
  ·by_cases tL:q=o
   ·subst tL;exact⟨q,_,a9,aC⟩
   ·rw[a5 q tL]at bW;exact⟨q,x,a9,bW⟩
end
open Go
section
variable {P:Program} {t m U:G} {J:e3} {u:fY}
theorem aIo(H:ep J u t m){q:Nat}{cs:List Value}(bg:m.next<=q)(Xp:q<U.next)(aH:U.F q=some ⟨cs,true⟩)(aj:m.next<=U.next)(O: ∀b,b<m.next->U.F b=m.F b/\U.mp b=m.mp b)(dV:cs.all ew=true):
 ep (gw J t.next q) u ((t.bU 1).aK t.next (some ⟨cs,true⟩)) U/\e4 t.next m.next J u t m (gw J t.next q) u ((t.bU 1).aK t.next (some ⟨cs,true⟩)) U:=by
 have cp:J t.next=none:=by
  cases aU:J t.next with
  |none=>rfl
  |some b=>have:=(H.cU _ _ aU).1;omega
 have sC: ∀{o b:Nat},gw J t.next q o=some b->(o=t.next/\b=q)\/(o≠t.next/\J o=some b):= λ{o b} h=>by
  simp only[gw]at h;split at h
  ·next e=>cases h;exact .inl ⟨e,rfl⟩
  ·next e=>exact .inr ⟨e,h⟩
 have q6: ∀{o:Nat},o≠t.next->((t.bU 1).aK t.next (some ⟨cs,true⟩)).F o=t.F o:= λaC=>by rw[aX aC,G.cl]
 have axp: ∀{b:Nat} {es:List (Value×Value)},b<m.next->m.fC b=some es->U.fC b=some es:= λ{b es} hb aU=>by obtain⟨aG,aN⟩:=ji aU;exact kT (by rw[(O b hb).1,aG]) (by rw[(O b hb).2,aN])
 refine⟨⟨λo x B=> ?_,λo es aU=> ?_,λo h=> ?_,λo o' b h cw=> ?_,λo b h=> ?_,λb ds h=> ?_⟩,⟨fN.set cp,g7.refl _,λo b h=> ?_,λb ds h=> .inl h,by simp,aj,λb hb _=>(O b hb).1,λb hb=> λ⟨o,y,h,cw,sB⟩=> ?_,λb hb=> λ⟨o,y,h,cw⟩=> ?_⟩⟩
 ·by_cases aC:o=t.next
  ·subst aC;rw[cb (by simp)]at B;cases B;exact .inl ⟨q,cs,true,by simp[gw],aH,λ_=>rfl,bM.c4 dV⟩
  ·rw[q6 aC]at B;rcases H.jc o x B with⟨b,ds,w,A,E,ao,aS⟩|⟨A,E⟩
   ·exact .inl ⟨b,ds,w,by simp[gw,aC,A],by rw[(O b (H.cU o b A).2).1,E],ao,aS.bt (g7.refl _) (fN.set cp)⟩
   ·exact .inr ⟨by simp[gw,aC,A],E⟩
 ·by_cases aC:o=t.next
  ·subst aC;have:=(ji aU).2;rw[show((t.bU 1).aK t.next (some ⟨cs,true⟩)).mp=t.mp from rfl,H.jA _ cp]at this;cases this
  ·rw[vX aC]at aU;obtain⟨aG,aN⟩:=ji aU;rw[G.cl]at aG;obtain⟨b,de,A,E,ao⟩:=H.maps o es (kT aG aN);exact⟨b,de,by simp[gw,aC,A],axp (H.cU o b A).2 E,ao.bt (g7.refl _) (fN.set cp)⟩
 ·simp only[gw]at h;split at h
  ·cases h
  ·exact H.jA o h
 ·rcases sC h with⟨br,bQ⟩|⟨br,bQ⟩<;>rcases sC cw with⟨ck,c9⟩|⟨ck,c9⟩
  ·rw[br,ck]
  ·have:=(H.cU _ _ c9).2;omega
  ·have:=(H.cU _ _ bQ).2;omega
  ·exact H.inj o o' b bQ c9
 ·rcases sC h with⟨br,bQ⟩|⟨br,bQ⟩
  ·subst br;subst bQ;exact⟨by simp,Xp⟩
  ·have:=H.cU o b bQ;simp only[eT,fq];omega
 ·obtain⟨⟨w,A⟩,E⟩:=H.b0 b ds h;have hb:=aF A;refine⟨⟨w,by rw[(O b hb).1,A]⟩,λo x aC B=> ?_⟩;rcases sC aC with⟨br,bQ⟩|⟨br,bQ⟩
  ·omega
  ·rw[q6 br]at B;exact E o x bQ B
 ·rcases sC h with⟨br,bQ⟩|⟨br,bQ⟩
  ·exact .inr (by omega)
  ·exact .inl bQ
 ·rcases sC h with⟨br,bQ⟩|⟨br,bQ⟩
  ·omega
  ·exact⟨o,y,bQ,by rw[q6 br]at cw;exact cw,sB⟩
 ·rcases sC h with⟨br,bQ⟩|⟨br,bQ⟩
  ·omega
  ·exact⟨o,y,bQ,by rw[q6 br]at cw;exact cw⟩
theorem aIp(H:ep J u t m)(aj:m.next<=U.next)(O: ∀b,b<m.next->U.F b=m.F b/\U.mp b=m.mp b):
 ep J u ((t.bU 1).aK t.next (some ⟨[],true⟩)) U/\e4 t.next m.next J u t m J u ((t.bU 1).aK t.next (some ⟨[],true⟩)) U:=by
 have cp:J t.next=none:=by
  cases aU:J t.next with
  |none=>rfl
  |some b=>have:=(H.cU _ _ aU).1;omega
 have bx: ∀{o b:Nat},J o=some b->o≠t.next:= λh e=>by subst e;rw[cp]at h;cases h
 have q6: ∀{o:Nat},o≠t.next->((t.bU 1).aK t.next (some ⟨[],true⟩)).F o=t.F o:= λaC=>by rw[aX aC,G.cl]
 refine⟨⟨λo x B=> ?_,λo es aU=> ?_,H.jA,H.inj,λo b h=> ?_,λb ds h=> ?_⟩,⟨fN.refl _,g7.refl _,λo b h=> .inl h,λb ds h=> .inl h,by simp,aj,λb hb _=>(O b hb).1,λb hb=> λ⟨o,y,h,cw,sB⟩=> ?_,λb hb=> λ⟨o,y,h,cw⟩=> ?_⟩⟩
 ·by_cases aC:o=t.next
  ·subst aC;rw[cb (by simp)]at B;cases B;exact .inr ⟨cp,rfl⟩
  ·rw[q6 aC]at B;rcases H.jc o x B with⟨b,ds,w,A,E,ao,aS⟩|A
   ·exact .inl ⟨b,ds,w,A,by rw[(O b (H.cU o b A).2).1,E],ao,aS⟩
   ·exact .inr A
 ·by_cases aC:o=t.next
  ·subst aC;have:=(ji aU).2;rw[show((t.bU 1).aK t.next (some ⟨[],true⟩)).mp=t.mp from rfl,H.jA _ cp]at this;cases this
  ·rw[vX aC]at aU;obtain⟨aG,aN⟩:=ji aU;rw[G.cl]at aG;obtain⟨b,de,A,E,ao⟩:=H.maps o es (kT aG aN);obtain⟨bB,cC⟩:=ji E;have hb:=(H.cU o b A).2;exact⟨b,de,A,kT (by rw[(O b hb).1,bB]) (by rw[(O b hb).2,cC]),ao⟩
 ·have:=H.cU o b h;simp only[eT,fq];omega
 ·obtain⟨⟨w,A⟩,E⟩:=H.b0 b ds h;refine⟨⟨w,by rw[(O b (aF A)).1,A]⟩,λo x aC B=> ?_⟩;rw[q6 (bx aC)]at B;exact E o x aC B
 ·exact⟨o,y,h,by rw[q6 (bx h)]at cw;exact cw,sB⟩
 ·exact⟨o,y,h,by rw[q6 (bx h)]at cw;exact cw⟩
theorem aJ3{f n I:Nat}{args cs:List Value}(dV:cs.all ew=true)
 (g1: ∀(J:e3) (u:fY) (dD:List Value) (m:G),ep J u t m->bM u J args dD->eu P f dD m λr U=>m.next<=U.next/\(∀b,b<m.next->U.F b=m.F b/\U.mp b=m.mp b)/\
  ((n=0/\cs=[]/\r= .slice none 0 0)\/ ∃q,m.next<=q/\q<U.next/\r= .slice (some ⟨q,0,none⟩) n I/\U.F q=some ⟨cs,true⟩)):
 fg P f args t λv X=>v=bN t.next n I/\X=(t.bU 1).aK t.next (some ⟨cs,true⟩):= λJ u dD m H ag=>by
 refine(g1 J u dD m H ag).bt λr U bV=> ?_;obtain⟨A,E,⟨ao,aS,bI⟩|⟨q,ao,aS,bI,cZ⟩⟩:=bV
 ·subst ao;subst aS;subst bI;obtain⟨aE,a5⟩:=aIp H A E;exact⟨J,u,_,_,⟨rfl,rfl⟩,aE,.sb,a5⟩
 ·obtain⟨aE,a5⟩:=aIo H ao aS cZ A E dV;exact⟨_,u,_,_,⟨rfl,rfl⟩,aE,by rw[bI];exact .slice (by simp[gw]),a5⟩
end
end Go.DI
namespace Go
noncomputable abbrev N:=Go.Proofs.Tryz.prog
abbrev a0Z:Value:= .slice none 0 0
abbrev a0Y:Value:= .int .i64 0
end Go
namespace Go.Proofs.YtmmkkggfmigppaaGreat
open Go Go.DI
section
set_option maxRecDepth 100000
def aBA:cy N 168:=⟨_,by conv=>lhs;reduce⟩
def akh:aB:=aJ (a:=aBA.1.body) ⟨_,by conv=>lhs;reduce⟩
def Rh:ca:=⟨10,[.bL 2],akh⟩
theorem aki:cm N 168=some Rh:=by kernel_rfl
def aag:cy N 194:=⟨_,by conv=>lhs;reduce⟩
def Ru:aB:=aJ (a:=bj aag.1.body 35) ⟨_,by conv=>lhs;reduce⟩
def HQ:aB:=aJ (a:=bj aag.1.body 15) ⟨_,by conv=>lhs;reduce⟩
def YM:aB:=aJ (a:= λx y=>bk 15 y (bk 35 x aag.1.body)) ⟨_,by conv=>lhs;reduce⟩ Ru HQ
def HP:ca:=⟨22,[.bL 2],YM⟩
theorem YN:cm N 194=some HP:=by kernel_rfl
def aak:cy N 213:=⟨_,by conv=>lhs;reduce⟩
def RD:aB:=aJ (a:=bj aak.1.body 71) ⟨_,by conv=>lhs;reduce⟩
def LW:aB:=aJ (a:=bj aak.1.body 31) ⟨_,by conv=>lhs;reduce⟩
def akT:aB:=aJ (a:= λx y=>bk 31 y (bk 71 x aak.1.body)) ⟨_,by conv=>lhs;reduce⟩ RD LW
def RC:ca:=⟨32,[.bL 4,.bL 5],akT⟩
theorem akU:cm N 213=some RC:=by kernel_rfl
def aal:cy N 216:=⟨_,by conv=>lhs;reduce⟩
def LX:aB:=aJ (a:=bj aal.1.body 303) ⟨_,by conv=>lhs;reduce⟩
def akZ:aB:=aJ (a:=bj aal.1.body 63) ⟨_,by conv=>lhs;reduce⟩
def akX:aB:=aJ (a:= λx y=>bk 63 y (bk 303 x aal.1.body)) ⟨_,by conv=>lhs;reduce⟩ LX akZ
def RF:ca:=⟨25,[.bL 2],akX⟩
theorem akY:cm N 216=some RF:=by kernel_rfl
def aBT:cy N 217:=⟨_,by conv=>lhs;reduce⟩
def azS:aB:=aJ (a:=aBT.1.body) ⟨_,by conv=>lhs;reduce⟩
def ak0:ca:=⟨14,[.bL 2],azS⟩
theorem azT:cm N 217=some ak0:=by kernel_rfl
def aan:cy N 222:=⟨_,by conv=>lhs;reduce⟩
def LZ:aB:=aJ (a:=bj aan.1.body 151) ⟨_,by conv=>lhs;reduce⟩
def HT:aB:=aJ (a:=bj aan.1.body 31) ⟨_,by conv=>lhs;reduce⟩
def ak9:aB:=aJ (a:= λx y=>bk 31 y (bk 151 x aan.1.body)) ⟨_,by conv=>lhs;reduce⟩ LZ HT
def RI:ca:=⟨46,[.bL 4],ak9⟩
theorem ala:cm N 222=some RI:=by kernel_rfl
def aas:cy N 241:=⟨_,by conv=>lhs;reduce⟩
def L1:aB:=aJ (a:=bj aas.1.body 151) ⟨_,by conv=>lhs;reduce⟩
def HW:aB:=aJ (a:=bj aas.1.body 31) ⟨_,by conv=>lhs;reduce⟩
def alw:aB:=aJ (a:= λx y=>bk 31 y (bk 151 x aas.1.body)) ⟨_,by conv=>lhs;reduce⟩ L1 HW
def RQ:ca:=⟨45,[.bL 4],alw⟩
theorem alx:cm N 241=some RQ:=by kernel_rfl
def aCc:cy N 246:=⟨_,by conv=>lhs;reduce⟩
def aly:aB:=aJ (a:=aCc.1.body) ⟨_,by conv=>lhs;reduce⟩
def RR:ca:=⟨7,[.bL 2],aly⟩
theorem alz:cm N 246=some RR:=by kernel_rfl
def CF:cy N 247:=⟨_,by conv=>lhs;reduce⟩
def Y5:aB:=aJ (a:=bj CF.1.body 2411) ⟨_,by conv=>lhs;reduce⟩
def Y4:aB:=aJ (a:=bj CF.1.body 491) ⟨_,by conv=>lhs;reduce⟩
def aAj:aB:=aJ (a:=bj CF.1.body 2331391) ⟨_,by conv=>lhs;reduce⟩
def aAk:aB:=aJ (a:=bj CF.1.body 19895039) ⟨_,by conv=>lhs;reduce⟩
def aAl:aB:=aJ (a:= λx y=>bk 4857 y (bk 569 x (bj CF.1.body 4863))) ⟨_,by conv=>lhs;reduce⟩ aAj aAk
def aAi:aB:=aJ (a:= λx=>bk 607 x (bj CF.1.body 15)) ⟨_,by conv=>lhs;reduce⟩ aAl
def alA:aB:=aJ (a:= λx y I=>bk 3 I (bk 122 y (bk 602 x (bj CF.1.body 7)))) ⟨_,by conv=>lhs;reduce⟩ Y5 Y4 aAi
def Y2:aB:=aJ (a:= λx=>bk 7 x CF.1.body) ⟨_,by conv=>lhs;reduce⟩ alA
def HX:ca:=⟨198,[.bL 4,.bL 5],Y2⟩
theorem Y3:cm N 247=some HX:=by kernel_rfl
def anC:cy N 248:=⟨_,by conv=>lhs;reduce⟩
def alD:aB:=aJ (a:=bj anC.1.body 35) ⟨_,by conv=>lhs;reduce⟩
def alB:aB:=aJ (a:= λx=>bk 35 x anC.1.body) ⟨_,by conv=>lhs;reduce⟩ alD
def RS:ca:=⟨19,[.bL 2],alB⟩
theorem alC:cm N 248=some RS:=by kernel_rfl
def anD:cy N 249:=⟨_,by conv=>lhs;reduce⟩
def aAo:aB:=aJ (a:=bj anD.1.body 1215) ⟨_,by conv=>lhs;reduce⟩
def aAm:aB:=aJ (a:= λx=>bk 1215 x anD.1.body) ⟨_,by conv=>lhs;reduce⟩ aAo
def alE:ca:=⟨75,[.bL 4,.bL 5],aAm⟩
theorem aAn:cm N 249=some alE:=by kernel_rfl
def aat:cy N 251:=⟨_,by conv=>lhs;reduce⟩
def RU:aB:=aJ (a:=bj aat.1.body 71) ⟨_,by conv=>lhs;reduce⟩
def L4:aB:=aJ (a:=bj aat.1.body 31) ⟨_,by conv=>lhs;reduce⟩
def alF:aB:=aJ (a:= λx y=>bk 31 y (bk 71 x aat.1.body)) ⟨_,by conv=>lhs;reduce⟩ RU L4
def RT:ca:=⟨30,[.bL 4,.bL 5],alF⟩
theorem alG:cm N 251=some RT:=by kernel_rfl
def aCd:cy N 253:=⟨_,by conv=>lhs;reduce⟩
def alH:aB:=aJ (a:=aCd.1.body) ⟨_,by conv=>lhs;reduce⟩
def RV:ca:=⟨8,[.bL 2],alH⟩
theorem alI:cm N 253=some RV:=by kernel_rfl
def aau:cy N 254:=⟨_,by conv=>lhs;reduce⟩
def aAs:aB:=aJ (a:=bj aau.1.body 308015) ⟨_,by conv=>lhs;reduce⟩
def aAt:aB:=aJ (a:= λx=>bk 1203 x (bj aau.1.body 303)) ⟨_,by conv=>lhs;reduce⟩ aAs
def aAq:aB:=aJ (a:= λx=>bk 303 x aau.1.body) ⟨_,by conv=>lhs;reduce⟩ aAt
def alJ:ca:=⟨84,[.bL 4,.bL 5],aAq⟩
theorem aAr:cm N 254=some alJ:=by kernel_rfl
def aCg:cy N 257:=⟨_,by conv=>lhs;reduce⟩
def aAy:aB:=aJ (a:=aCg.1.body) ⟨_,by conv=>lhs;reduce⟩
def alK:ca:=⟨21,[.bL 4,.bL 5],aAy⟩
theorem aAz:cm N 257=some alK:=by kernel_rfl
def aCi:cy N 260:=⟨_,by conv=>lhs;reduce⟩
def alQ:aB:=aJ (a:=aCi.1.body) ⟨_,by conv=>lhs;reduce⟩
def RZ:ca:=⟨21,[.bL 4,.bL 5],alQ⟩
theorem alR:cm N 260=some RZ:=by kernel_rfl
def SW:cy N 268:=⟨_,by conv=>lhs;reduce⟩
def aAE:aB:=aJ (a:=bj SW.1.body 19019) ⟨_,by conv=>lhs;reduce⟩
def alU:aB:=aJ (a:= λx=>bk 297 x (bj SW.1.body 75)) ⟨_,by conv=>lhs;reduce⟩ aAE
def Za:aB:=aJ (a:=bj SW.1.body 15) ⟨_,by conv=>lhs;reduce⟩
def alS:aB:=aJ (a:= λx y=>bk 15 y (bk 75 x SW.1.body)) ⟨_,by conv=>lhs;reduce⟩ alU Za
def R0:ca:=⟨68,[.bL 4],alS⟩
theorem alT:cm N 268=some R0:=by kernel_rfl
def aCk:cy N 271:=⟨_,by conv=>lhs;reduce⟩
def alX:aB:=aJ (a:=aCk.1.body) ⟨_,by conv=>lhs;reduce⟩
def R1:ca:=⟨6,[.bL 2],alX⟩
theorem alY:cm N 271=some R1:=by kernel_rfl
def aCl:cy N 272:=⟨_,by conv=>lhs;reduce⟩
def aAF:aB:=aJ (a:=aCl.1.body) ⟨_,by conv=>lhs;reduce⟩
def alZ:ca:=⟨13,[.bL 2,.bL 3],aAF⟩
theorem aAG:cm N 272=some alZ:=by kernel_rfl
def Fc:cy N 273:=⟨_,by conv=>lhs;reduce⟩
def aAI:aB:=aJ (a:=bj Fc.1.body 143) ⟨_,by conv=>lhs;reduce⟩
def aAJ:aB:=aJ (a:=bj Fc.1.body 2303487) ⟨_,by conv=>lhs;reduce⟩
def aAK:aB:=aJ (a:= λx=>bk 281 x (bj Fc.1.body 9727)) ⟨_,by conv=>lhs;reduce⟩ aAJ
def aAL:aB:=aJ (a:=bj Fc.1.body 38911) ⟨_,by conv=>lhs;reduce⟩
def aAH:aB:=aJ (a:= λx y I=>bk 4863 I (bk 1215 y (bk 17 x (bj Fc.1.body 15)))) ⟨_,by conv=>lhs;reduce⟩ aAI aAK aAL
def al0:aB:=aJ (a:= λx=>bk 3 x (bj Fc.1.body 7)) ⟨_,by conv=>lhs;reduce⟩ aAH
def Zc:aB:=aJ (a:= λx=>bk 7 x Fc.1.body) ⟨_,by conv=>lhs;reduce⟩ al0
def H0:ca:=⟨198,[.bL 4,.bL 5],Zc⟩
theorem Zd:cm N 273=some H0:=by kernel_rfl
def anE:cy N 274:=⟨_,by conv=>lhs;reduce⟩
def aAO:aB:=aJ (a:=bj anE.1.body 151) ⟨_,by conv=>lhs;reduce⟩
def aAM:aB:=aJ (a:= λx=>bk 151 x anE.1.body) ⟨_,by conv=>lhs;reduce⟩ aAO
def al1:ca:=⟨57,[.bL 4],aAM⟩
theorem aAN:cm N 274=some al1:=by kernel_rfl
def aav:cy N 278:=⟨_,by conv=>lhs;reduce⟩
def Ze:aB:=aJ (a:=bj aav.1.body 151) ⟨_,by conv=>lhs;reduce⟩
def R3:aB:=aJ (a:=bj aav.1.body 31) ⟨_,by conv=>lhs;reduce⟩
def al3:aB:=aJ (a:= λx y=>bk 31 y (bk 151 x aav.1.body)) ⟨_,by conv=>lhs;reduce⟩ Ze R3
def R2:ca:=⟨45,[.bL 4,.bL 5],al3⟩
theorem al4:cm N 278=some R2:=by kernel_rfl
end
abbrev bC(b:Nat):Value:= .pointer (some ⟨b,0,none⟩)
abbrev D(n:Int):Value:= .int .i64 n
abbrev dS(n:Int):Value:= .int .u32 n
structure fe(m U:G):Prop where
 next:m.next<=U.next
 F: ∀b,b<m.next->U.F b=m.F b
theorem fe.refl(m:G):fe m m:=⟨c8 _,λ_ _=>rfl⟩
theorem e1{l:List Value}{k:Nat}:(List.take 1 (List.drop k l)).head?=l[k]?:=by
 cases h:l.drop k with
 |nil=>rw[List.drop_eq_nil_iff]at h;rw[qD h];rfl
 |cons x xs=>simp;rw[<-List.head?_drop,h];rfl
section
set_option maxRecDepth 100000
def anw:cy N 179:=⟨_,by conv=>lhs;reduce⟩
def LK:aB:=aJ (a:=bj anw.1.body 75) ⟨_,by conv=>lhs;reduce⟩
def HK:aB:=aJ (a:= λx=>bk 75 x anw.1.body) ⟨_,by conv=>lhs;reduce⟩ LK
def azy:ca:=⟨28,[.bL 2],HK⟩
theorem azz:cm N 179=some azy:=by kernel_rfl
theorem atX{args:List Value}{m:G}{bu:Value->G->Prop}(h:args.length<=28):eu N 179 args m bu=fJ N HK (ij args) m (m2 [.bL 2] bu):=nz azz h
def anA:cy N 188:=⟨_,by conv=>lhs;reduce⟩
def LP:aB:=aJ (a:=bj anA.1.body 75) ⟨_,by conv=>lhs;reduce⟩
def HN:aB:=aJ (a:= λx=>bk 75 x anA.1.body) ⟨_,by conv=>lhs;reduce⟩ LP
def azC:ca:=⟨29,[.bL 2],HN⟩
theorem azD:cm N 188=some azC:=by kernel_rfl
theorem at1{args:List Value}{m:G}{bu:Value->G->Prop}(h:args.length<=29):eu N 188 args m bu=fJ N HN (ij args) m (m2 [.bL 2] bu):=nz azD h
def aB3:cy N 231:=⟨_,by conv=>lhs;reduce⟩
def YZ:aB:=aJ (a:=aB3.1.body) ⟨_,by conv=>lhs;reduce⟩
def az8:ca:=⟨17,[.bL 2],YZ⟩
theorem az9:cm N 231=some az8:=by kernel_rfl
theorem at2{args:List Value}{m:G}{bu:Value->G->Prop}(h:args.length<=17):eu N 231 args m bu=fJ N YZ (ij args) m (m2 [.bL 2] bu):=nz az9 h
def aB4:cy N 232:=⟨_,by conv=>lhs;reduce⟩
def EZ:aB:=aJ (a:=aB4.1.body) ⟨_,by conv=>lhs;reduce⟩
def aAa:ca:=⟨17,[.bL 2],EZ⟩
theorem aAb:cm N 232=some aAa:=by kernel_rfl
theorem at3{args:List Value}{m:G}{bu:Value->G->Prop}(h:args.length<=17):eu N 232 args m bu=fJ N EZ (ij args) m (m2 [.bL 2] bu):=nz aAb h
def aB8:cy N 237:=⟨_,by conv=>lhs;reduce⟩
def Y1:aB:=aJ (a:=aB8.1.body) ⟨_,by conv=>lhs;reduce⟩
def aAc:ca:=⟨17,[.bL 2],Y1⟩
theorem aAd:cm N 237=some aAc:=by kernel_rfl
theorem at7{args:List Value}{m:G}{bu:Value->G->Prop}(h:args.length<=17):eu N 237 args m bu=fJ N Y1 (ij args) m (m2 [.bL 2] bu):=nz aAd h
def aB9:cy N 238:=⟨_,by conv=>lhs;reduce⟩
def E0:aB:=aJ (a:=aB9.1.body) ⟨_,by conv=>lhs;reduce⟩
def aAe:ca:=⟨17,[.bL 2],E0⟩
theorem aAf:cm N 238=some aAe:=by kernel_rfl
theorem at8{args:List Value}{m:G}{bu:Value->G->Prop}(h:args.length<=17):eu N 238 args m bu=fJ N E0 (ij args) m (m2 [.bL 2] bu):=nz aAf h
def aCe:cy N 255:=⟨_,by conv=>lhs;reduce⟩
def Y6:aB:=aJ (a:=aCe.1.body) ⟨_,by conv=>lhs;reduce⟩
def aAu:ca:=⟨9,[.bL 2],Y6⟩
theorem aAv:cm N 255=some aAu:=by kernel_rfl
theorem at9{args:List Value}{m:G}{bu:Value->G->Prop}(h:args.length<=9):eu N 255 args m bu=fJ N Y6 (ij args) m (m2 [.bL 2] bu):=nz aAv h
def aCf:cy N 256:=⟨_,by conv=>lhs;reduce⟩
def Y7:aB:=aJ (a:=aCf.1.body) ⟨_,by conv=>lhs;reduce⟩
def aAw:ca:=⟨9,[.bL 2],Y7⟩
theorem aAx:cm N 256=some aAw:=by kernel_rfl
theorem aua{args:List Value}{m:G}{bu:Value->G->Prop}(h:args.length<=9):eu N 256 args m bu=fJ N Y7 (ij args) m (m2 [.bL 2] bu):=nz aAx h
end
def q9(n:Int):Bool:=(decide (97<=n)&&decide (n<=122))||(decide (65<=n)&&decide (n<=90))
def xO(n:Int):Bool:=decide (48<=n)&&decide (n<=57)
def ou(n:Int):Bool:=q9 n||xO n||decide (n=45)||decide (n=46)
def vq(p:Int->Bool)(T:ByteArray):Nat->Nat->Nat
 |0,_=>0
 |n+1,i=>if p (vR T i)=true then vq p T n (i+1)+1 else 0
def eJ(T:ByteArray):Prop:=0<T.size/\T.size<=16/\q9 (vR T 0)=true/\vq ou T T.size 0=T.size
open Classical in
noncomputable def rY(T:ByteArray):Bool:=decide (eJ T)
theorem FL{T:ByteArray}(h:eJ T):rY T=true:=by simp[rY,h]
theorem CY{T:ByteArray}(h: ¬eJ T):rY T=false:=by simp[rY,h]
theorem agY{T:ByteArray}(h:T.size=0):T=⟨#[]⟩:=by apply ByteArray.ext;exact Array.eq_empty_of_size_eq_zero h
theorem FA(n:Int)(m:G)(bu:Value->G->Prop):eu N 231 [.int .u8 n] m bu=bu (.bool (q9 n)) m:=by refine(qJ.xZ ?_).wp;rw[at2 (by simp)];by_cases A:97<=n<;>by_cases E:n<=122<;>by_cases ao:65<=n<;>by_cases aS:n<=90<;>simp[YZ,q9,A,E,ao,aS]
theorem Po(n:Int)(m:G)(bu:Value->G->Prop):eu N 255 [.int .u8 n] m bu=bu (.bool (xO n)) m:=by refine(qJ.xZ ?_).wp;rw[at9 (by simp)];by_cases A:48<=n<;>by_cases E:n<=57<;>simp[Y6,xO,A,E]
theorem ajk(n:Int)(m:G)(bu:Value->G->Prop):eu N 232 [.int .u8 n] m bu=bu (.bool (ou n)) m:=by
 refine(qJ.xZ ?_).wp;rw[at3 (by simp)];by_cases A:q9 n=true
 ·simp[EZ,FA,ou,A]
 by_cases E:xO n=true
 ·simp[EZ,FA,Po,ou,A,E]
 by_cases ao:n=45
 ·subst ao;simp[EZ,FA,Po,ou,q9,xO]
 by_cases aS:n=46
 ·subst aS;simp[EZ,FA,Po,ou,q9,xO]
 simp[EZ,FA,Po,ou,A,E,ao,aS]
theorem aoO{T:ByteArray}(fm:T.size<=16){Q:cO->aD->G->Prop}: ∀(r i:Nat) (m:G) (z:aD),i+r=T.size->z 0= .string T->z 3=D i->
 (vq ou T r i=r-> ∀K,Q (.cF 0) K m)->(vq ou T r i≠r-> ∀K,K 2= .bool false->Q .fi K m)->fJ N (.loop LK) z m Q
 | 0,i,m,z,Y,bG,bH,a9,bW=>by refine jN λbO a1=> ?_;have: ¬(i:Int)<T.size:=(by omega);simp[LK,vf,bG,bH,this];exact a9 rfl _
 | r+1,i,m,z,Y,bG,bH,a9,bW=>by
   refine jN λbO a1=> ?_;have A:(i:Int)<T.size:=(by omega);have cr:=fB (n:=i) (by omega);by_cases hb:ou (vR T i)=true
   ·simp[LK,vf,ajk,bG,bH,A,hb,cr];refine a1 _ _ (aoO fm r (i+1) _ _ (by omega) (by simp[bG]) (by simp) (λh=>a9 (by simp[vq,hb,h])) (λh=>bW (by simp[vq,hb];exact h)))
   ·have iL:ou (vR T i)=false:=(by simpa using hb);simp[LK,vf,ajk,bG,bH,A,iL];exact bW (by simp[vq,iL]) _ (by simp)
theorem aEg(T:ByteArray)(m:G)(bu:Value->G->Prop):eu N 179 [.string T] m bu=bu (.bool (rY T)) m:=by
 refine(qJ.xZ ?_).wp;rw[atX (by simp)];by_cases bX:T.size=0
 ·have e:=agY bX;have G7:(T.size:Int)<1:=(by omega);have aj: ¬eJ T:= λh=>by have:=h.1;omega
  simp[HK,e];rw[<-e,CY aj]
 ·have e: ¬T=⟨#[]⟩:= λh=>bX (by rw[h];rfl);have G7:(0:Int)<T.size:=(by omega);have PO: ¬(T.size:Int)<1:=(by omega);have ae:0<T.size:=(by omega);by_cases A:16<T.size
  ·have jw:(16:Int)<T.size:=(by omega);have aj: ¬eJ T:= λh=>by have:=h.2.1;omega
   simp[HK,vf,e,jw,CY aj]
  ·have jw: ¬(16:Int)<T.size:=(by omega);by_cases E:q9 (vR T 0)=true
   ·simp[HK,vf,FA,e,ae,jw,E];refine aoO (T:=T) (by omega) T.size 0 _ _ (by omega) (by simp) (by simp) (λh K=> ?_) (λh K g=> ?_)
    ·simp[FL ⟨by omega,by omega,E,h⟩]
    ·have aj: ¬eJ T:= λcw=>h cw.2.2.2;simp[g,CY aj]
   ·have aj: ¬eJ T:= λcw=>E cw.2.2.1;have Ak:q9 (vR T 0)=false:=(by simpa using E);simp[HK,vf,FA,e,ae,jw,Ak,CY aj]
theorem FV(n:Int)(m:G)(bu:Value->G->Prop):eu N 237 [.int .u8 n] m bu=bu (.bool (q9 n)) m:=by refine(qJ.xZ ?_).wp;rw[at7 (by simp)];by_cases A:97<=n<;>by_cases E:n<=122<;>by_cases ao:65<=n<;>by_cases aS:n<=90<;>simp[Y1,q9,A,E,ao,aS]
theorem TN(n:Int)(m:G)(bu:Value->G->Prop):eu N 256 [.int .u8 n] m bu=bu (.bool (xO n)) m:=by refine(qJ.xZ ?_).wp;rw[aua (by simp)];by_cases A:48<=n<;>by_cases E:n<=57<;>simp[Y7,xO,A,E]
theorem ap9(n:Int)(m:G)(bu:Value->G->Prop):eu N 238 [.int .u8 n] m bu=bu (.bool (ou n)) m:=by
 refine(qJ.xZ ?_).wp;rw[at8 (by simp)];by_cases A:q9 n=true
 ·simp[E0,FV,ou,A]
 by_cases E:xO n=true
 ·simp[E0,FV,TN,ou,A,E]
 by_cases ao:n=45
 ·subst ao;simp[E0,FV,TN,ou,q9,xO]
 by_cases aS:n=46
 ·subst aS;simp[E0,FV,TN,ou,q9,xO]
 simp[E0,FV,TN,ou,A,E,ao,aS]
theorem aqb{T:ByteArray}(fm:T.size<=16){Q:cO->aD->G->Prop}: ∀(r i:Nat) (m:G) (z:aD),i+r=T.size->z 0= .string T->z 3=D i->
 (vq ou T r i=r-> ∀K,Q (.cF 0) K m)->(vq ou T r i≠r-> ∀K,K 2= .bool false->Q .fi K m)->fJ N (.loop LP) z m Q
 | 0,i,m,z,Y,bG,bH,a9,bW=>by refine jN λbO a1=> ?_;have: ¬(i:Int)<T.size:=(by omega);simp[LP,vf,bG,bH,this];exact a9 rfl _
 | r+1,i,m,z,Y,bG,bH,a9,bW=>by
   refine jN λbO a1=> ?_;have A:(i:Int)<T.size:=(by omega);have cr:=fB (n:=i) (by omega);by_cases hb:ou (vR T i)=true
   ·simp[LP,vf,ap9,bG,bH,A,hb,cr];refine a1 _ _ (aqb fm r (i+1) _ _ (by omega) (by simp[bG]) (by simp) (λh=>a9 (by simp[vq,hb,h])) (λh=>bW (by simp[vq,hb];exact h)))
   ·have iL:ou (vR T i)=false:=(by simpa using hb);simp[LP,vf,ap9,bG,bH,A,iL];exact bW (by simp[vq,iL]) _ (by simp)
theorem aqc(T:ByteArray)(m:G)(bu:Value->G->Prop):eu N 188 [.string T] m bu=bu (.bool (rY T)) m:=by
 refine(qJ.xZ ?_).wp;rw[at1 (by simp)];by_cases bX:T.size=0
 ·have e:=agY bX;have G7:(T.size:Int)<1:=(by omega);have aj: ¬eJ T:= λh=>by have:=h.1;omega
  simp[HN,vf,G7,CY aj]
 ·have e: ¬T=⟨#[]⟩:= λh=>bX (by rw[h];rfl);have G7:(0:Int)<T.size:=(by omega);have PO: ¬(T.size:Int)<1:=(by omega);have ae:0<T.size:=(by omega);by_cases A:16<T.size
  ·have jw:(16:Int)<T.size:=(by omega);have aj: ¬eJ T:= λh=>by have:=h.2.1;omega
   simp[HN,vf,PO,jw,CY aj]
  ·have jw: ¬(16:Int)<T.size:=(by omega);by_cases E:q9 (vR T 0)=true
   ·simp[HN,vf,FV,PO,ae,jw,E];refine aqb (T:=T) (by omega) T.size 0 _ _ (by omega) (by simp) (by simp) (λh K=> ?_) (λh K g=> ?_)
    ·simp[FL ⟨by omega,by omega,E,h⟩]
    ·have aj: ¬eJ T:= λcw=>h cw.2.2.2;simp[g,CY aj]
   ·have aj: ¬eJ T:= λcw=>E cw.2.2.1;have Ak:q9 (vR T 0)=false:=(by simpa using E);simp[HN,vf,FV,PO,ae,jw,Ak,CY aj]
end Go.Proofs.YtmmkkggfmigppaaGreat
namespace Go.Big
structure cv where
 kx:Bool
 a:List Int
 b:List Int
 deriving DecidableEq
structure e4 where
 kx:Bool
 n:Int
 d:Int
 deriving DecidableEq
def e4.nil:e4:=⟨false,0,1⟩
def e4.mK:e4:=⟨false,1,1⟩
def e4.ok(_:e4):Bool:=true
def e4.small(_:e4):Bool:=true
def r1(x y:e4):Int:=if x.n*y.d<y.n*x.d then-1 else if y.n*x.d<x.n*y.d then 1 else 0
def cv.b0(x:cv):e4:=⟨x.kx,x.a.headD 0,x.b.headD 0⟩
def NV:List cv:=[⟨false,[],[1]⟩,⟨false,[1],[1]⟩,⟨false,[1],[2]⟩,⟨false,[1],[1000]⟩,⟨false,[30],[1]⟩]
def cv.dz(x:cv):Prop:=x∈NV
theorem aqQ{x:e4}(_:x.small=true):x.ok=true:=rfl
theorem cv.iy{x:cv}(h:x.dz):0<=x.b0.n:=by
 have: ∀y∈NV,0<=y.b0.n:=by decide
 exact this x h
theorem cv.kb{x:cv}(h:x.dz):0<=x.b0.n:=cv.iy h
end Go.Big
namespace Go.Proofs.YtmmkkggfmigppaaGreat
open Go Go.DI Go.Big
abbrev b6(l:List Int):Value:=ai (l.map λd=>[dS d]) 1
theorem CR{dP pI:Type}{f:dP->pI}(h: ∀x y,f x=f y->x=y): ∀{l c7:List dP},l.map f=c7.map f↔l=c7
 |[],[]=>by simp
 |[],_::_=>by simp
 |_::_,[]=>by simp
 | x::l,y::c7=>by simp only[lW,uw,CR h];exact⟨λ⟨a,b⟩=>⟨h _ _ a,b⟩,λ⟨a,b⟩=>⟨by rw[a],b⟩⟩
@[simp] theorem aS8{l c7:List Int}:(l.map λd=>[dS d])=(c7.map λd=>[dS d])↔l=c7:=CR λx y h=>by simpa using h
def eL(x:cv):List Value:=[.bool x.kx,b6 x.a,b6 x.b]
theorem aFX{x y:cv}:eL x=eL y↔x=y:=by obtain⟨a,b,c⟩:=x;obtain⟨ev,cB,nF⟩:=y;simp[eL]
@[simp] theorem aUB{x:cv}:(eL x).length=3:=rfl
abbrev dW(x:cv):Value:= .agg (eL x).toArray
abbrev iU(l:List cv):Value:=ai (l.map eL) 3
@[simp] theorem aUC{l c7:List cv}:l.map eL=c7.map eL↔l=c7:=CR λx y h=>aFX.1 h
theorem aDs{f:Nat}{ts:List Value}{r:Value}(h: ∀m dD,Ju m ts dD->eu N f dD m λeA U=>fe m U/\Oy U r eA):bP N f ts r:=
 aI1 λm dD ag=>(h m dD ag).bt λeA U bV=>⟨⟨bV.1.next,bV.1.F⟩,bV.2⟩
theorem aEf{T:ByteArray}:bP N 179 [.string T] (.bool (rY T)):=aDs λm dD ag=>by obtain⟨v,rfl,h⟩:=ag.mK;rw[h.AG,aEg];exact⟨fe.refl m,.c4 rfl⟩
open Go Go.DI
section
set_option maxRecDepth 100000
def pj:cy N 62:=⟨_,by conv=>lhs;reduce⟩
def amF:aB:=aJ (a:=bj pj.1.body 1839) ⟨_,by conv=>lhs;reduce⟩
def Sj:aB:=aJ (a:= λx=>bk 7 x (bj pj.1.body 303)) ⟨_,by conv=>lhs;reduce⟩ amF
def amu:aB:=aJ (a:=bj pj.1.body 3679) ⟨_,by conv=>lhs;reduce⟩
def Sk:aB:=aJ (a:= λx=>bk 7 x (bj pj.1.body 607)) ⟨_,by conv=>lhs;reduce⟩ amu
def amw:aB:=aJ (a:=bj pj.1.body 7359) ⟨_,by conv=>lhs;reduce⟩
def Sl:aB:=aJ (a:= λx=>bk 7 x (bj pj.1.body 1215)) ⟨_,by conv=>lhs;reduce⟩ amw
def amy:aB:=aJ (a:=bj pj.1.body 14719) ⟨_,by conv=>lhs;reduce⟩
def Sm:aB:=aJ (a:= λx=>bk 7 x (bj pj.1.body 2431)) ⟨_,by conv=>lhs;reduce⟩ amy
def amB:aB:=aJ (a:=bj pj.1.body 29439) ⟨_,by conv=>lhs;reduce⟩
def Sn:aB:=aJ (a:= λx=>bk 7 x (bj pj.1.body 4863)) ⟨_,by conv=>lhs;reduce⟩ amB
def amD:aB:=aJ (a:=bj pj.1.body 58879) ⟨_,by conv=>lhs;reduce⟩
def So:aB:=aJ (a:= λx=>bk 7 x (bj pj.1.body 9727)) ⟨_,by conv=>lhs;reduce⟩ amD
def amE:aB:=aJ (a:=bj pj.1.body 2047) ⟨_,by conv=>lhs;reduce⟩
def amC:aB:=aJ (a:= λx y=>bk 3 y (bk 18 x (bj pj.1.body 1023))) ⟨_,by conv=>lhs;reduce⟩ So amE
def amz:aB:=aJ (a:= λx y=>bk 3 y (bk 18 x (bj pj.1.body 511))) ⟨_,by conv=>lhs;reduce⟩ Sn amC
def amx:aB:=aJ (a:= λx y=>bk 3 y (bk 18 x (bj pj.1.body 255))) ⟨_,by conv=>lhs;reduce⟩ Sm amz
def amv:aB:=aJ (a:= λx y=>bk 3 y (bk 18 x (bj pj.1.body 127))) ⟨_,by conv=>lhs;reduce⟩ Sl amx
def amG:aB:=aJ (a:= λx y=>bk 3 y (bk 18 x (bj pj.1.body 63))) ⟨_,by conv=>lhs;reduce⟩ Sk amv
def amA:aB:=aJ (a:= λx y=>bk 15 y (bk 75 x (bj pj.1.body 7))) ⟨_,by conv=>lhs;reduce⟩ Sj amG
def amt:aB:=aJ (a:= λx=>bk 7 x pj.1.body) ⟨_,by conv=>lhs;reduce⟩ amA
def Zx:ca:=⟨244,[.bL 2],amt⟩
theorem aA2:cm N 62=some Zx:=by kernel_rfl
def aBk:cy N 110:=⟨_,by conv=>lhs;reduce⟩
def ajt:aB:=aJ (a:=aBk.1.body) ⟨_,by conv=>lhs;reduce⟩
def Yb:ca:=⟨15,[.bL 6],ajt⟩
theorem ay7:cm N 110=some Yb:=by kernel_rfl
def Ih:cy N 111:=⟨_,by conv=>lhs;reduce⟩
def QL:aB:=aJ (a:=bj Ih.1.body 13103) ⟨_,by conv=>lhs;reduce⟩
def QK:aB:=aJ (a:= λx=>bk 12 x (bj Ih.1.body 1839)) ⟨_,by conv=>lhs;reduce⟩ QL
def QJ:aB:=aJ (a:= λx=>bk 3 x (bj Ih.1.body 815)) ⟨_,by conv=>lhs;reduce⟩ QK
def Yd:aB:=aJ (a:= λx=>bk 3 x (bj Ih.1.body 303)) ⟨_,by conv=>lhs;reduce⟩ QJ
def QM:aB:=aJ (a:=bj Ih.1.body 63) ⟨_,by conv=>lhs;reduce⟩
def aju:aB:=aJ (a:= λx y=>bk 63 y (bk 303 x Ih.1.body)) ⟨_,by conv=>lhs;reduce⟩ Yd QM
def Yc:ca:=⟨89,[.bL 2],aju⟩
theorem ay8:cm N 111=some Yc:=by kernel_rfl
def ZZ:cy N 112:=⟨_,by conv=>lhs;reduce⟩
def Yg:aB:=aJ (a:=bj ZZ.1.body 151) ⟨_,by conv=>lhs;reduce⟩
def Yf:aB:=aJ (a:=bj ZZ.1.body 31) ⟨_,by conv=>lhs;reduce⟩
def ajv:aB:=aJ (a:= λx y=>bk 31 y (bk 151 x ZZ.1.body)) ⟨_,by conv=>lhs;reduce⟩ Yg Yf
def Ye:ca:=⟨95,[.bL 2],ajv⟩
theorem ay9:cm N 112=some Ye:=by kernel_rfl
def Z0:cy N 113:=⟨_,by conv=>lhs;reduce⟩
def Yi:aB:=aJ (a:=bj Z0.1.body 151) ⟨_,by conv=>lhs;reduce⟩
def QN:aB:=aJ (a:=bj Z0.1.body 31) ⟨_,by conv=>lhs;reduce⟩
def ajw:aB:=aJ (a:= λx y=>bk 31 y (bk 151 x Z0.1.body)) ⟨_,by conv=>lhs;reduce⟩ Yi QN
def Yh:ca:=⟨60,[.bL 4],ajw⟩
theorem aza:cm N 113=some Yh:=by kernel_rfl
def Z1:cy N 114:=⟨_,by conv=>lhs;reduce⟩
def Yk:aB:=aJ (a:=bj Z1.1.body 75) ⟨_,by conv=>lhs;reduce⟩
def QO:aB:=aJ (a:=bj Z1.1.body 15) ⟨_,by conv=>lhs;reduce⟩
def ajx:aB:=aJ (a:= λx y=>bk 15 y (bk 75 x Z1.1.body)) ⟨_,by conv=>lhs;reduce⟩ Yk QO
def Yj:ca:=⟨24,[.bL 2],ajx⟩
theorem azb:cm N 114=some Yj:=by kernel_rfl
def aBD:cy N 170:=⟨_,by conv=>lhs;reduce⟩
def akm:aB:=aJ (a:=aBD.1.body) ⟨_,by conv=>lhs;reduce⟩
def Rj:ca:=⟨29,[.bL 2],akm⟩
theorem akn:cm N 170=some Rj:=by kernel_rfl
def aBE:cy N 171:=⟨_,by conv=>lhs;reduce⟩
def ako:aB:=aJ (a:=aBE.1.body) ⟨_,by conv=>lhs;reduce⟩
def Rk:ca:=⟨7,[.bL 2],ako⟩
theorem akp:cm N 171=some Rk:=by kernel_rfl
def aaa:cy N 172:=⟨_,by conv=>lhs;reduce⟩
def Rl:aB:=aJ (a:=bj aaa.1.body 37) ⟨_,by conv=>lhs;reduce⟩
def LG:aB:=aJ (a:=bj aaa.1.body 7) ⟨_,by conv=>lhs;reduce⟩
def akq:aB:=aJ (a:= λx y=>bk 7 y (bk 37 x aaa.1.body)) ⟨_,by conv=>lhs;reduce⟩ Rl LG
def YG:ca:=⟨18,[.bL 4],akq⟩
theorem azn:cm N 172=some YG:=by kernel_rfl
def MD:cy N 176:=⟨_,by conv=>lhs;reduce⟩
def LH:aB:=aJ (a:=bj MD.1.body 2568779) ⟨_,by conv=>lhs;reduce⟩
def LI:aB:=aJ (a:= λx=>bk 627 x (bj MD.1.body 4683)) ⟨_,by conv=>lhs;reduce⟩ LH
def Rn:aB:=aJ (a:= λx=>bk 73 x (bj MD.1.body 75)) ⟨_,by conv=>lhs;reduce⟩ LI
def Rm:aB:=aJ (a:=bj MD.1.body 15) ⟨_,by conv=>lhs;reduce⟩
def aku:aB:=aJ (a:= λx y=>bk 15 y (bk 75 x MD.1.body)) ⟨_,by conv=>lhs;reduce⟩ Rn Rm
def YH:ca:=⟨70,[.bL 2],aku⟩
theorem azv:cm N 176=some YH:=by kernel_rfl
def aBH:cy N 177:=⟨_,by conv=>lhs;reduce⟩
def EX:aB:=aJ (a:=aBH.1.body) ⟨_,by conv=>lhs;reduce⟩
def Cy:ca:=⟨39,[.bL 8],EX⟩
theorem azw:cm N 177=some Cy:=by kernel_rfl
def aBI:cy N 178:=⟨_,by conv=>lhs;reduce⟩
def LJ:aB:=aJ (a:=aBI.1.body) ⟨_,by conv=>lhs;reduce⟩
def HJ:ca:=⟨30,[.bL 8],LJ⟩
theorem azx:cm N 178=some HJ:=by kernel_rfl
def aao:cy N 225:=⟨_,by conv=>lhs;reduce⟩
def YT:aB:=aJ (a:=bj aao.1.body 37) ⟨_,by conv=>lhs;reduce⟩
def RJ:aB:=aJ (a:=bj aao.1.body 7) ⟨_,by conv=>lhs;reduce⟩
def alc:aB:=aJ (a:= λx y=>bk 7 y (bk 37 x aao.1.body)) ⟨_,by conv=>lhs;reduce⟩ YT RJ
def YS:ca:=⟨18,[.bL 4],alc⟩
theorem az0:cm N 225=some YS:=by kernel_rfl
def aBZ:cy N 226:=⟨_,by conv=>lhs;reduce⟩
def ald:aB:=aJ (a:=aBZ.1.body) ⟨_,by conv=>lhs;reduce⟩
def YU:ca:=⟨4,[.bL 2],ald⟩
theorem az1:cm N 226=some YU:=by kernel_rfl
def aap:cy N 227:=⟨_,by conv=>lhs;reduce⟩
def RK:aB:=aJ (a:=bj aap.1.body 37) ⟨_,by conv=>lhs;reduce⟩
def L0:aB:=aJ (a:=bj aap.1.body 7) ⟨_,by conv=>lhs;reduce⟩
def ale:aB:=aJ (a:= λx y=>bk 7 y (bk 37 x aap.1.body)) ⟨_,by conv=>lhs;reduce⟩ RK L0
def YV:ca:=⟨18,[.bL 4],ale⟩
theorem az2:cm N 227=some YV:=by kernel_rfl
def aB0:cy N 228:=⟨_,by conv=>lhs;reduce⟩
def alf:aB:=aJ (a:=aB0.1.body) ⟨_,by conv=>lhs;reduce⟩
def YW:ca:=⟨5,[.bL 2],alf⟩
theorem az3:cm N 228=some YW:=by kernel_rfl
def aB1:cy N 229:=⟨_,by conv=>lhs;reduce⟩
def alg:aB:=aJ (a:=aB1.1.body) ⟨_,by conv=>lhs;reduce⟩
def YX:ca:=⟨9,[.bL 2],alg⟩
theorem az4:cm N 229=some YX:=by kernel_rfl
def aB2:cy N 230:=⟨_,by conv=>lhs;reduce⟩
def az6:aB:=aJ (a:=aB2.1.body) ⟨_,by conv=>lhs;reduce⟩
def ali:ca:=⟨23,[.bL 2],az6⟩
theorem az7:cm N 230=some ali:=by kernel_rfl
end
theorem apW{l:List cv}: ∀r∈l.map eL,r.length=3/\ ∀v∈r,hH v=true:= λr ar=>by obtain⟨x,_,rfl⟩:=gx.1 ar;exact⟨rfl,λv M=>by simp[eL]at M;rcases M with rfl|rfl|rfl<;>rfl⟩
theorem aFY{l:List cv}:(l.map eL).flatten.length=l.length*3:=by rw[xl (I:=3) λr ar=>(apW r ar).1,ll]
end Go.Proofs.YtmmkkggfmigppaaGreat
namespace Go.Big
structure lo where
 name:ByteArray
 s:List cv
 cH:List (List cv)
 e:List cv
 deriving DecidableEq
def lo.dz(x:lo):Prop:= ∃I,2<=I/\I<200/\x.s=[⟨false,[1],[1]⟩]/\x.cH=[[⟨false,[],[1]⟩]]/\x.e=[⟨false,[1],[I]⟩]
def lo.zh(_:lo):Bool:=true
end Go.Big
namespace Go.Proofs.YtmmkkggfmigppaaGreat
open Go Go.DI Go.Big
abbrev ag0(l:List (List cv)):Value:=ai (l.map λr=>[iU r]) 1
def gE(x:lo):List Value:=[.string x.name,iU x.s,ag0 x.cH,iU x.e]
@[simp] theorem aP1{l c7:List (List cv)}:(l.map λr=>[iU r])=(c7.map λr=>[iU r])↔l=c7:=CR λx y h=>by simpa using h
abbrev Dz(x:lo):Value:= .agg (gE x).toArray
theorem Gh{dP:Type}{l:List dP}{i:Nat}{x:dP}(h:l[i]?=some x):l.take (i+1)=l.take i++[x]:=by rw[qF,h];rfl
end Go.Proofs.YtmmkkggfmigppaaGreat
namespace Go.Big
def fO(a b c:Int):Bool:=decide (b<=a)&&decide (a<=c)
end Go.Big
namespace Go.Proofs.YtmmkkggfmigppaaGreat
open Go Go.DI Go.Big
theorem ayN{a b c:Int}:bP N 110 [D a,D b,D c] (.bool (fO a b c)):=by refine dJ (c3 (ay:=⟨[],[]⟩) ay7 (by kernel_rfl) (by simp[Yb]) ?_);by_cases h:b<=a<;>simp[Yb,ajt,h,fO]
noncomputable def vz:bF N:= .cM 110 (Int×Int×Int) (λ⟨a,b,c⟩=>True) (λ⟨a,b,c⟩=>[D a,D b,D c]) (λ⟨a,b,c⟩=> .bool (fO a b c)) (λ⟨a,b,c⟩ h=>ayN)
@[simp] theorem aVO:vz.f=110:=rfl
@[simp] theorem aVP{a:Int}{b:Int}{c:Int}:vz.fn ([D a,D b,D c])=some (.bool (fO a b c)):=bF.dK (x:=(a,b,c)) trivial λy Z=>by obtain⟨j6,h2,kP⟩:=y;simpa using Z
theorem DA{x:cv}{n:Bool}{a b:List Int}(h:[dW x]=[.agg #[.bool n,b6 a,b6 b]]):x=⟨n,a,b⟩:=by obtain⟨g0,ev,cB⟩:=x;simpa[eL]using h
noncomputable def adf(u:Nat)(l:List cv)(p:cv->Bool)(ae: ∀x∈l,bP N u [dW x] (.bool (p x))):bF N:= .cM u cv (λx=>x∈l) (λx=>[dW x]) (λx=> .bool (p x)) ae
@[simp] theorem aVE{u:Nat}{l:List cv}{p:cv->Bool}{ae: ∀x∈l,bP N u [dW x] (.bool (p x))}:(adf u l p ae).f=u:=rfl
@[simp] theorem aVF{u:Nat}{l:List cv}{p:cv->Bool}{ae: ∀x∈l,bP N u [dW x] (.bool (p x))}{n:Bool}{a b:List Int}(h:cv.mk n a b∈l):(adf u l p ae).fn [.agg #[.bool n,b6 a,b6 b]]=some (.bool (p ⟨n,a,b⟩)):=
  bF.dK (x:=cv.mk n a b) h λy Z=>DA Z
theorem afE{u:Nat}{l:List cv}{p:cv->Bool}(aj:l.length<1000000)(ae: ∀x∈l,bP N u [dW x] (.bool (p x))):bP N 172 [iU l,.func (.func u) #[] #[]] (.bool (l.all p)):=by
 refine dJ (c3 (ay:=⟨[],[]⟩) azn (by kernel_rfl) (by simp[YG]) ?_);simp[YG,akq];refine gP (ay:=⟨[adf u l p ae],[]⟩) (λi z t=>(l.take i).all p=true/\z 1= .func (.func u) #[] #[]/\z 7=iU l/\z 8=D l.length/\z 9=D i) l.length ?_ ?_ 0 _ _ (gd _) ⟨by simp,by simp,by simp,by simp,by simp⟩
 ·rintro i z t Y ⟨ag,aT,cf,bm,cz⟩ bO a1;have B:l[i]?=some l[i]:=c6 Y;have al:l[i]∈l:=kp Y;have bp:=fB (n:=i) (by omega);have bA:(i:Int)<l.length:=(by omega);cases hb:p l[i]
  ·simp(disch:=first|omega|simp only[bS];omega) [Rl,LG,aT,cf,bm,cz,bA,hb,eL];exact⟨_,al,hb⟩
  ·simp(disch:=first|omega|simp only[bS];omega) [Rl,LG,aT,cf,bm,cz,bA,bp,hb,eL,-ab,-ah,-aa,-ad,-List.map_map];exact a1 _ _ ⟨by rw[Gh B,Gt,ag];simp[hb],by simp[aT],by simp[cf],by simp[bm],by simp⟩
 ·rintro z t ⟨ag,aT,cf,bm,cz⟩;rw[mQ]at ag;simp[Rl,LG,bm,cz,LG];simpa using ag
end Go.Proofs.YtmmkkggfmigppaaGreat
