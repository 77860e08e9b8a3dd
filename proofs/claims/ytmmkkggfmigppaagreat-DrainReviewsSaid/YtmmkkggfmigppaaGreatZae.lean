/-
  A part of the proof, shortened by tools of ours.
-/
import Derived.Test.YtmmkkggfmigppaaGreatZad
set_option linter.all false
set_option maxRecDepth 8000
set_option maxHeartbeats 16000000
namespace Go.DI
open Go Go.RowKit
section
variable {P:Program} {w:World} {o:Oper} {a:Act} {ag:Ren} {dc:Nat} {z:aC} {m:H} {aN:Nat} {ops:Array Oper} {b4:Callee} {base:Nat}
def zk(P:Program)(ops:Array Oper)(dc:Nat)(cA:cO)(o:Oper):Prop:=
 ops[cA.aW]?=some o/\Bf P o=some cA.k/\OT ops o=some cA.g/\o.dst=cA.d/\cA.d.all (λd=>decide (d<dc))=true
theorem aqw{g:Option (Nat×Bool)}(aH:OT ops o=some g)(F:g7 ag dc z a):Region.wanted o (yielded ops a.tmps)=eX z g:=by
 unfold OT at aH;split at aH
 ·rename_i h;cases aH;simp[Region.wanted,h,eX]
 ·rename_i j b h;split at aH
  ·rename_i t ba;cases aH;have al:=F.og t;simp only[Region.wanted,h,eX,yielded,ba,Option.bind_some];rw[Array.getD_eq_getD_getElem?]at al;cases M:a.tmps[t]? with
   | none=>
     rw[M]at al;simp only[Option.getD_none]at al;cases a9:z t<;>try rfl
     rw[a9]at al;have:=al.tD;simp[undef]at this
   | some v=>
     rw[M]at al;simp only[A0]at al;cases a9:z t
     case bool c=>rw[a9]at al;rw[al.tD];simp
     all_goals
      rw[a9]at al;cases v
      case bool c=>cases al
      all_goals rfl
  ·cases aH
theorem To{k:ah}(h:k.ok z m=true):k.ln=false:=by cases k<;>first|rfl|(simp[ah.ok]at h)
theorem apO{cA:cO}{K:aC}{U:H}(cu:sa P aN b4)(ar:zk P ops dc cA o)(F:g7 ag dc z a)(ab:dv aN ag m w)(b9:aN<=w.heap.size)(eP:cA.k.fv=true->base+cA.aW<m.next)(al:cA.k.fv=true->ag (base+cA.aW)=none)
 (jm:iq b4 base cA z m=some (K,U)) {aR:Act->World->Prop} {Q:Exit->Act->World->Prop}
 (dz: ∀ed w' cT,gH ag cT->(∀b,b<m.next->b≠base+cA.aW->cT b=ag b)->g7 cT dc K ed->dv aN cT U w'->Below aN w w'->aR ed w'):wpOp P ops Q cA.aW aR a w:=by
 obtain⟨A,D,ai,aT,bF⟩:=ar;unfold wpOp;simp only[A];rw[aqw ai F];unfold iq at jm;by_cases aS:eX z cA.g=true
 ·rw[if_pos aS]at jm⊢;refine .inl ?_;unfold Oper.wp;cases gP:cA.k.fF z m with
  | some ml=>
    obtain⟨f,args⟩:=ml;rw[gP]at jm;simp only at jm;cases a5:b4 f args m with
    |none=>rw[a5]at jm;cases jm
    | some IT=>obtain⟨v,cI⟩:=IT;rw[a5]at jm;simp only[mB,wq]at jm;obtain⟨rfl,rfl⟩:=jm;obtain⟨aE,a2,cj,_,dy⟩:=cu f args m v cI a5;obtain⟨lV,aD,aJ⟩:=asY (w:=w) D F ab gP aE;rw[aD,Oper.upon_enter];refine(dy ag w lV aJ ab b9).mono λe w' bT=> ?_;obtain⟨bX,cT,rfl,a8,bV,cv,fQ,g0⟩:=bT;rw[aT];exact dz _ _ cT a8 (λb hb _=>bV b hb) ((F.bD a8).aO bF cv) fQ g0
  | none=>
    rw[gP]at jm;simp only at jm;split at jm
    ·rename_i av;simp only[mB,wq]at jm;obtain⟨rfl,rfl⟩:=jm;obtain⟨bX,w',cT,y,a8,bV,cv,fQ,g0⟩:=aDF D (To av) F ab b9 eP al av;have S:=dz (a.put cA.d bX) w' cT a8 (λb _ hb=>bV b hb) ((F.bD a8).aO bF cv) fQ g0;rcases y with y|⟨y,rfl⟩
     ·rw[y,Oper.upon_value,aT];exact S
     ·rw[y,Oper.upon_skip,aT];exact S
    ·cases jm
 ·rw[if_neg aS]at jm⊢;simp only[mB,wq]at jm;obtain⟨rfl,rfl⟩:=jm;rw[aT];exact dz _ _ ag (gH.refl ag) (λ_ _ _=>rfl) (F.aO bF (dM.undef ag)) ab (Below.refl _ _)
theorem IH{cA:cO}{K:aC}{U:H}(cu:sa P aN b4)(jm:iq b4 base cA z m=some (K,U)):m.next<=U.next:=by
 unfold iq at jm;split at jm
 ·split at jm
  ·split at jm
   ·rename_i a5;cases jm;exact(cu _ _ _ _ _ a5).2.1
   ·cases jm
  ·split at jm
   ·cases jm;cases cA.k<;>simp only[ah.hd]<;>try exact c8 _
    ·unfold pn;split<;>try exact c8 _
     split<;>exact c8 _
    ·split
     ·exact c8 _
     ·unfold hC;split<;>exact c8 _
    ·unfold n1;split<;>try exact c8 _
     split<;>exact c8 _
   ·cases jm
 ·cases jm;exact c8 _
theorem Px{b cw:Nat}{x:Option eM}(h:m.I b=none)(bG:b≠cw):(m.aO cw x).I b=none:=by rw[H.mK,if_neg bG];exact h
theorem agC{b cw:Nat}{es:List (Value×Value)}(h:m.I b=none)(bG:b≠cw):(m.hv cw es).I b=none:=by unfold H.I H.hv at*;simp only[if_neg bG];exact h
theorem Uj{cA:cO}{K:aC}{U:H}(cu:sa P aN b4)(jm:iq b4 base cA z m=some (K,U)){b:Nat}(hb:b<m.next)(bG:b≠base+cA.aW)(aH:m.I b=none):U.I b=none:=by
 unfold iq at jm;split at jm
 ·split at jm
  ·split at jm
   ·rename_i a5;cases jm;exact(cu _ _ _ _ _ a5).2.2.1 b hb aH
   ·cases jm
  ·split at jm
   ·rename_i av;cases jm;cases S:cA.k<;>simp only[ah.hd]<;>try exact aH
    all_goals try exact Px aH bG
    all_goals try exact agC aH bG
    ·unfold pn;split
     ·rename_i eu;split
      ·rename_i x B;exact Px aH (λe=>by rw[e,B]at aH;cases aH)
      ·exact aH
     ·exact aH
    ·split
     ·exact aH
     ·refine Px ?_ bG;unfold hC;split
      ·rw[H.mK];split
       ·split<;>rfl
       ·exact aH
      ·exact aH
    ·unfold n1;split
     ·rename_i eu _ _ _;split
      ·rename_i x B;exact Px aH (λe=>by rw[e,B]at aH;cases aH)
      ·exact aH
     ·exact aH
    ·rename_i bd x k v;rw[S]at av;simp only[ah.ok]at av;cases a9:O z x<;>simp only[a9]at av<;>try cases av
     rename_i p;cases p with
     |none=>simp at av
     | some eO=>
       simp only at av;cases ahh:m.fu eO with
       |none=>simp[ahh]at av
       | some es=>have iQ:=(H.x5 ahh).1;exact agC aH (λe=>by have dd:b=eO:=e;rw[dd,iQ]at aH;cases aH)
   ·cases jm
 ·cases jm;exact aH
theorem sI{cA:cO}{L:List cO}{s:aC×H}(h:k3 b4 base (cA::L) z m=some s): ∃bQ bn,iq b4 base cA z m=some (bQ,bn)/\qz cA z m bn/\k3 b4 base L bQ bn=some s:=by
 unfold k3 at h;split at h
 ·rename_i bQ bn A;split at h
  ·rename_i hj;exact⟨bQ,bn,A,hj,h⟩
  ·cases h
 ·cases h
theorem AD{cA:cO}{L:List cO}{s:aC×H}{bQ:aC}{bn:H}(A:iq b4 base cA z m=some (bQ,bn))(D:qz cA z m bn)(ai:k3 b4 base L bQ bn=some s):k3 b4 base (cA::L) z m=some s:=by unfold k3;rw[A];simp only[if_pos D,ai]
theorem Nl(cu:sa P aN b4): ∀(L:List cO) (z:aC) (m:H) (s:aC×H),k3 b4 base L z m=some s->m.next<=s.2.next
 |[],z,m,s,h=>by simp[k3]at h;subst h;exact c8 _
 | cA::L,z,m,s,h=>by obtain⟨bQ,bn,A,_,ai⟩:=sI h;exact mD (IH cu A) (Nl cu L _ _ _ ai)
theorem abW(cu:sa P aN b4){b:Nat}(hb:b<base): ∀(L:List cO) (z:aC) (m:H) (s:aC×H),base<=m.next->k3 b4 base L z m=some s->m.I b=none->s.2.I b=none
 |[],z,m,s,_,h,aH=>by simp[k3]at h;subst h;exact aH
 | cA::L,z,m,s,ae,h,aH=>by obtain⟨bQ,bn,A,_,ai⟩:=sI h;exact abW cu hb L _ _ _ (mD ae (IH cu A)) ai (Uj cu A (by omega) (by omega) aH)
theorem aa5(cu:sa P aN b4){Q:Exit->Act->World->Prop}{T:List Nat}: ∀(L:List cO) (z:aC) (m:H) (a:Act) (w:World) (ag:Ren) (K:aC) (U:H),
 (∀cA∈L,∃o,zk P ops dc cA o)->(L.map (·.aW)).Nodup->g7 ag dc z a->dv aN ag m w->aN<=w.heap.size->(∀cA∈L,cA.k.fv=true->base+cA.aW<m.next/\ag (base+cA.aW)=none)->k3 b4 base L z m=some (K,U)->
 (∀ed w' cT,gH ag cT->(∀b,b<m.next->(∀cA∈L,b≠base+cA.aW)->cT b=ag b)->g7 cT dc K ed->dv aN cT U w'->Below aN w w'->wpOps P ops Q T ed w')->wpOps P ops Q (L.map (·.aW)++T) a w
 | [],z,m,a,w,ag,K,U,_,_,F,ab,_,_,h,bb=>by simp only[k3,mB,wq]at h;obtain⟨rfl,rfl⟩:=h;exact bb a w ag (gH.refl ag) (λ_ _ _=>rfl) F ab (Below.refl _ _)
 | cA::L,z,m,a,w,ag,K,U,zS,eW,F,ab,b9,eP,h,bb=>by
   obtain⟨bQ,bn,A,_,ai⟩:=sI h;obtain⟨o,aB⟩:=zS cA (by simp);simp only[lO,A1]at eW;rw[lO,tZ,wpOps_cons];have kO:=IH cu A;refine apO cu aB F ab b9 (λh=>(eP cA (by simp) h).1) (λh=>(eP cA (by simp) h).2) A λed w' cT a8 bV cv fQ g0=> ?_;refine aa5 cu L bQ bn ed w' cT K U (λi W=>zS i (by simp[W])) eW.2 cv fQ (mD b9 g0.size) (λi W fl=> ?_) ai λbR dW ot ef e2 hF j5 yP=> ?_
   ·have:=eP i (by simp[W]) fl;refine⟨by omega,?_⟩;rw[bV _ this.1 (λe=>eW.1 (gG.2 ⟨i,W,by omega⟩))];exact this.2
   ·exact bb bR dW ot (a8.trans ef) (λb hb bG=>(e2 b (by omega) (λi W=>bG i (by simp[W]))).trans (bV b hb (bG cA (by simp)))) hF j5 (g0.trans yP)
theorem aCa{cA:cO}(ar:zk P ops dc cA o)(F:g7 ag dc z a)(ab:dv aN ag m w)(b9:aN<=w.heap.size)(eP:base+cA.aW<m.next)(al:ag (base+cA.aW)=none)(az:o5 cA z m=true)
 {aR:Act->World->Prop} {Q:Exit->Act->World->Prop}
 (dz: ∀ed w' cT,gH ag cT->(∀b,b≠base+cA.aW->cT b=ag b)->g7 cT dc (cZ z cA.d (cA.k.val (base+cA.aW) z m)) ed->dv aN cT (cA.k.hd (base+cA.aW) z m) w'->dv w'.heap.size cT (pH m) w'->Below aN w w'->aR ed w'):wpOp P ops Q cA.aW aR a w:=by
 obtain⟨A,D,ai,aT,bF⟩:=ar;obtain⟨aW,d,g,k,bd⟩:=cA;simp only at A D ai aT bF eP al dz⊢;simp only[o5,a6,Da]at az;obtain⟨⟨aH,ba⟩,av⟩:=az;subst aH;unfold wpOp;simp only[A];rw[aqw ai F,if_pos (show eX z none=true from rfl)];refine .inl ?_;unfold Oper.wp;split at ba
 ·rename_i G bytes x y;obtain⟨bX,w',cT,aJg,a8,bV,cv,fQ,g0,mS⟩:=ar2 D F ab b9 eP al av;have a5:dv w'.heap.size cT (pH m) w':=by
   have jv: ∀b x,(pH m).I b=some x-> ∃bf,m.I b=some bf/\x=G7 bf:=by
    intro b x hb;unfold H.I at hb⊢;change (if b<m.next then _ else _)=_ at hb;split at hb
    ·rename_i dm;rw[if_pos dm];simp only[pH,ve]at hb;obtain⟨bf,aE,a2⟩:=hb;exact⟨bf,aE,a2.symm⟩
    ·cases hb
   have ae:((ah.app G bytes x y).hd (base+aW) z m).next=m.next:=by
    simp only[ah.hd];split
    ·rfl
    ·unfold hC;split<;>rfl
   refine⟨λb l hb=>by have:=fQ.lf b l hb;rw[ae]at this;exact this,fQ.l4,λb x hb=> ?_,λb x cw hy l c5 hb j2=> ?_,λb es hb=>(by cases hb),λb es hb=> ?_,λb x l hb j2=>(by obtain⟨bf,_,rfl⟩:=jv b x hb;cases j2)⟩
   ·obtain⟨bf,aE,rfl⟩:=jv b x hb;obtain⟨l,aD,aJ,cg,_⟩:=ab.l8 b bf aE;refine⟨l,a8 b l aD,aJ,λi v M=> ?_,λh=>by cases h⟩;obtain⟨jj,bX,l0,oB⟩:=cg i v M;exact⟨jj,bX,by rw[mS ba b bf l aE aD i (cG.1 M).1];exact l0,oB.bD a8⟩
   ·obtain⟨bf,_,rfl⟩:=jv b x hb;cases j2
   ·obtain⟨aE,_⟩:=H.x5 hb;obtain⟨bf,_,a2⟩:=jv b _ aE;simp[G7]at a2
  have S:=dz (a.put d bX) w' cT a8 bV ((F.bD a8).aO bF cv) fQ a5 g0;rcases aJg with y|⟨y,rfl⟩
  ·rw[y,Oper.upon_value,aT];exact S
  ·rw[y,Oper.upon_skip,aT];exact S
 ·cases ba
theorem aB8{s0:Nat}{ot:Ren}{bn cI:H}{ct dW:World}(b9:s0=ct.heap.size)(A:dv aN ag bn ct)(D:dv s0 ot cI dW)(eV:gH ag ot)(ae:bn.next<=cI.next)(hb:Below s0 ct dW):dv aN ot (bn.b0 (cI.next-bn.next)) dW:=by
 subst b9;have ar: ∀b l,ag b=some l->dW.heap[l.c]?=ct.heap[l.c]?:= λb l h=>hb.block _ (A.l4 b l h);have a9: ∀b l c5,ag b=some l->ot b=some c5->c5=l:= λb l c5 h cn=>by have:=eV b l h;rw[cn]at this;cases this;rfl
 refine⟨λb l h=>by have:=D.lf b l h;rw[H.qy];omega,D.l4,λb x B=> ?_,λb x cw hy l c5 B aB hk bG az ib=> ?_,λb es h=> ?_,λb es h=> ?_,λb x l B aB az=> ?_⟩
 ·rw[H.cJ]at B;obtain⟨l,aD,aJ,cg,gA⟩:=A.l8 b x B;have vz: ∀i,dW.cell? ⟨l.c,l.o+i,none⟩=ct.cell? ⟨l.c,l.o+i,none⟩:= λi=>by simp only[World.cell?,ar b l aD]
  have kt: ∀i,dW.frozen? ⟨l.c,l.o+i,none⟩=ct.frozen? ⟨l.c,l.o+i,none⟩:= λi=>by simp only[World.frozen?,ar b l aD]
  refine⟨l,eV b l aD,aJ,λi v M=> ?_,λaB=>⟨(gA aB).1,λi W=>by rw[vz,kt];exact(gA aB).2 i W⟩⟩;obtain⟨jj,bX,l0,oB⟩:=cg i v M;exact⟨jj,bX,by rw[vz];exact l0,oB.bD eV⟩
 ·rw[H.cJ]at B hk;obtain⟨k,aD,_⟩:=A.l8 b x B;obtain⟨e7,Ph,_⟩:=A.l8 cw hy hk;rw[a9 b k l aD az,a9 cw e7 c5 Ph ib];exact A.rA b x cw hy k e7 B aB hk bG aD Ph
 ·obtain⟨l,e⟩:=A.xn b es h;exact⟨l,eV b l e⟩
 ·obtain⟨aE,a2⟩:=H.x5 h;rw[H.cJ]at aE;obtain⟨l,db,bd,aD,aJ,cg,gA⟩:=A.maps b es (H.kB aE a2);exact⟨l,db,bd,eV b l aD,aJ,by rw[ar b l aD];exact cg,gA.bD eV⟩
 ·rw[H.cJ]at B;obtain⟨k,aD,_⟩:=A.l8 b x B;rw[a9 b k l aD az];exact(A.tK b x k B aB aD).Ct (ar b k aD)
theorem anX(cu:sa P aN b4){Q:Exit->Act->World->Prop}(L:List cO)(z:aC)(m:H)(a:Act)(w:World)(ag:Ren)(K:aC)(U:H)
 (A: ∀cA∈L,∃o,zk P ops dc cA o) (D:(L.map (·.aW)).Nodup) (F:g7 ag dc z a) (ab:dv aN ag m w) (b9:aN<=w.heap.size) (ai: ∀cA∈L,cA.k.fv=true->base+cA.aW<m.next/\ag (base+cA.aW)=none) (aT:k3 b4 base L z m=some (K,U))
 (bb: ∀ed w' cT,gH ag cT->(∀b,b<base->b<m.next->cT b=ag b)->g7 cT dc K ed->dv aN cT U w'->Below aN w w'->Q .normal ed w'):wpOps P ops Q (L.map (·.aW)) a w:=by
 have:=aa5 (T:=[]) (Q:=Q) cu L z m a w ag K U A D F ab b9 ai aT λed w' cT a8 bV cv fQ g0=>bb ed w' cT a8 (λb hb tj=>bV b tj λcA _=>by omega) cv fQ g0
 rwa [r8]at this
end
def ah.gW(k:ah)(id:Nat)(z:aC)(m:H):List (Nat×Option eM):=
 match k with
 | .nu G=>[(id,some ⟨G,true⟩)]
 | .oy x=>[(id,some ⟨an (O z x),true⟩)]
 | .mh _ _ G ps=>[(id,some ⟨nj G z ps,true⟩)]
 | .store _ x v=>match O z x with
   | .pointer (some a)=>(match m.I a.block with|some b=>[(a.block,some ⟨gE b.cells a.off (an (O z v)),b.own⟩)]|none=>[])
   |_=>[]
 | .pX x=>[(id,some ⟨H7 (wB (O z x)),true⟩)]
 | .oc _ _ zero l _=>[(id,some ⟨(List.replicate (eN (O z l)).toNat zero).flatten,true⟩)]
 | .oV _ _ zero _ l=>[(id,some ⟨(List.replicate (eN (O z l)).toNat zero).flatten,true⟩)]
 | .app G _ x y=>if fR (O z y)=0 then[]else(match O z x with| .slice (some a) _ _=>[(a.block,none)]|_=>[])++[(id,some ⟨fq m G (O z x)++fq m G (O z y),true⟩)]
 |_=>[]
def jt(m:H)(l:List (Nat×Option eM)):H:=l.foldl (λm p=>m.aO p.1 p.2) m
section
variable {P:Program} {z c6:aC} {m cI:H} {aN:Nat} {b4:Callee} {base id:Nat} {k:ah}
theorem am5(D8:k.yz=false):k.hd id z m=jt m (k.gW id z m):=by
 cases k<;>simp only[ah.yz,Bool.true_eq_false]at D8<;>simp only[ah.hd,ah.gW,jt,List.foldl_nil,zg]
 ·rename_i n x v;generalize O z x=bf;cases bf<;>try rfl
  rename_i p;cases p with
  |none=>rfl
  | some eu=>simp only[pn];cases m.I eu.block<;>rfl
 ·rename_i G fS x y;split
  ·rfl
  ·generalize O z x=bf;cases bf<;>try rfl
   rename_i p l c;cases p<;>rfl
theorem IV: ∀p∈k.gW id z m,(k.fv=true/\p.1=id/\ak (k.val id z m)=some id)\/ ∃x∈k.oP,ak (O z x)=some p.1:=by
 intro p Z;cases k<;>simp only[ah.gW,kJ,rg]at Z
 case nu=>subst Z;exact .inl ⟨rfl,rfl,rfl⟩
 case oy=>subst Z;exact .inl ⟨rfl,rfl,rfl⟩
 case mh=>subst Z;exact .inl ⟨rfl,rfl,rfl⟩
 case pX=>subst Z;exact .inl ⟨rfl,rfl,rfl⟩
 case oc=>subst Z;exact .inl ⟨rfl,rfl,rfl⟩
 case oV=>subst Z;exact .inl ⟨rfl,rfl,rfl⟩
 case store n x v=>
  split at Z
  ·rename_i eu h;split at Z
   ·simp only[rg]at Z;subst Z;exact .inr ⟨x,by simp[ah.oP],by simp[h,ak]⟩
   ·cases Z
  ·cases Z
 case app G fS x y=>
  split at Z
  ·cases Z
  ·rename_i ae;rcases js.1 Z with h|h
   ·split at h
    ·rename_i eu l c B;simp only[rg]at h;subst h;exact .inr ⟨x,by simp[ah.oP],by simp[B,ak]⟩
    ·cases h
   ·simp only[rg]at h;subst h;exact .inl ⟨rfl,rfl,by simp[ah.val,ae,ak]⟩
theorem VW: ∀(l:List (Nat×Option eM)) (m:H) (b:Nat),(∀p∈l,p.1≠b)->(jt m l).I b=m.I b
 |[],_,_,_=>rfl
 | p::l,m,b,h=>by show(jt (m.aO p.1 p.2) l).I b=_;rw[VW l _ b (λq bo=>h q (by simp[bo])),H.mK,if_neg (Ne.symm (h p (by simp)))]
theorem aoq{a b:Nat}{x y:Option eM}(h:a≠b):(m.aO a x).aO b y=(m.aO b y).aO a x:=by
 unfold H.aO;simp only[H.mk.injEq,true_and,and_true];funext i;by_cases A:i=b
 ·subst A;simp[Ne.symm h]
 ·simp[A]
theorem aeM: ∀(l:List (Nat×Option eM)) (m:H) (b:Nat) (x:Option eM),(∀p∈l,p.1≠b)->jt (m.aO b x) l=(jt m l).aO b x
 |[],_,_,_,_=>rfl
 | p::l,m,b,x,h=>by show jt ((m.aO b x).aO p.1 p.2) l=(jt (m.aO p.1 p.2) l).aO b x;rw[aoq (Ne.symm (h p (by simp))),aeM l _ b x (λq bo=>h q (by simp[bo]))]
theorem aeL: ∀(l r:List (Nat×Option eM)) (m:H),(∀p∈l,∀q∈r,p.1≠q.1)->jt (jt m l) r=jt (jt m r) l
 |[],_,_,_=>rfl
 | p::l,r,m,h=>by show jt (jt (m.aO p.1 p.2) l) r=jt ((jt m r).aO p.1 p.2) l;rw[aeL l r _ (λk2 m8=>h k2 (by simp[m8])),aeM r m p.1 p.2 (λq bo=>Ne.symm (h p (by simp) q bo))]
theorem Vk{b:Nat}(h:m.I b=cI.I b)(off n:Nat):gM m b off n=gM cI b off n:=by unfold gM;rw[h]
theorem Pb(D8:k.yz=false)(h: ∀x∈k.nm,∀b,ak (O z x)=some b->m.I b=cI.I b):k.ok z m=k.ok z cI/\k.val id z m=k.val id z cI/\k.gW id z m=k.gW id z cI:=by
 cases k<;>simp only[ah.yz,Bool.true_eq_false]at D8<;>try exact⟨rfl,rfl,rfl⟩
 case g4 dr n x=>
  have A:=h x (by simp[ah.nm]);cases M:O z x<;>simp only[ah.ok,ah.val,ah.gW,M,gT,lH,and_self];rename_i p;cases p with
  |none=>simp
  | some eu=>have D:=A eu.block (by simp[M,ak]);simp only[D,Vk D,and_self]
 case sN G n x=>
  have A:=h x (by simp[ah.nm]);cases M:O z x<;>simp only[ah.ok,ah.val,ah.gW,M,gT,and_self];rename_i p;cases p with
  |none=>simp
  | some eu=>have D:=A eu.block (by simp[M,ak]);simp only[D,and_self]
 case store n x v=>
  have A:=h x (by simp[ah.nm]);cases M:O z x<;>simp only[ah.ok,ah.val,ah.gW,M,gT,rq,true_and,and_self];rename_i p;cases p with
  |none=>simp
  | some eu=>have D:=A eu.block (by simp[M,ak]);simp only[D,and_self]
 case py x=>
  have A:=h x (by simp[ah.nm]);cases M:O z x<;>simp only[ah.ok,ah.val,ah.gW,M,fw,fq,and_self];rename_i p l c;cases p with
  |none=>simp
  | some eu=>have D:=A eu.block (by simp[M,ak]);simp only[D,Vk D,and_self]
 case app G fS x y=>
  have A:=h x (by simp[ah.nm]);have jP:=h y (by simp[ah.nm]);have s: ∀v:Value,(∀b,ak v=some b->m.I b=cI.I b)->fw m G v=fw cI G v/\iJ m v=iJ cI v/\fq m G v=fq cI G v:=by
   intro v M;cases v<;>simp only[fw,iJ,fq,and_self];rename_i p l c;cases p with
   |none=>simp
   | some eu=>have D:=M eu.block (by simp[ak]);simp only[D,Vk D,and_self]
  obtain⟨bt,bR,a3⟩:=s _ A;obtain⟨er,_,g8⟩:=s _ jP;simp only[ah.ok,ah.val,ah.gW,bt,bR,a3,er,g8,and_self]
theorem aDB(h:k.ok z m=true): ∀x∈k.nm++k.oP,∀b,ak (O z x)=some b->(m.I b).isSome=true:=by
 have aa: ∀(v:Value) n,gT m v n=true-> ∀b,ak v=some b->(m.I b).isSome=true:=by intro v n M b hb;obtain⟨cw,off,x,rfl,B,_⟩:=OH M;simp only[ak,mB]at hb;subst hb;rw[B];rfl
 have F: ∀(v:Value) G,fw m G v=true-> ∀b,ak v=some b->(m.I b).isSome=true:=by
  intro v G M b hb;rcases y4 M with rfl|⟨cw,off,len,x,rfl,B,_⟩
  ·simp[ak]at hb
  ·simp only[ak,mB]at hb;subst hb;rw[B];rfl
 intro x B b hb;cases k<;>simp only[ah.nm,ah.oP,r8,kJ]at B
 case g4 dr n y=>simp only[rg]at B;subst B;simp only[ah.ok,a6]at h;exact aa _ _ h.1 b hb
 case sN G n y=>simp only[rg]at B;subst B;simp only[ah.ok,a6]at h;exact aa _ _ h.1 b hb
 case store n y v=>simp at B;subst B;simp only[ah.ok,a6]at h;exact aa _ _ h.1.1.1 b hb
 case py y=>simp only[rg]at B;subst B;simp only[ah.ok,a6]at h;exact F _ _ h.1 b hb
 case hJ G y=>simp at B;subst B;simp only[ah.ok,a6]at h;exact F _ _ h.1.1 b hb
 case app G fS y v=>
  simp only[ah.ok,a6]at h;simp at B;rcases B with rfl|rfl|rfl
  ·exact F _ _ h.1.1.1.1.1 b hb
  ·exact F _ _ h.1.1.1.2 b hb
  ·exact F _ _ h.1.1.1.1.1 b hb
theorem Bn{x:Operand}(h: ∀t,x= .tmp t->z t=c6 t):O z x=O c6 x:=by cases x<;>first|rfl|exact h _ rfl
theorem Tu: ∀(ps:List (Nat×Nat×Operand)) (cs:List Value),(∀p∈ps,O z p.2.2=O c6 p.2.2)->rS cs z ps=rS cs c6 ps/\nj cs z ps=nj cs c6 ps
 |[],_,_=>⟨rfl,rfl⟩
 | (a8,bV,cv)::ps,cs,h=>by have bY:O z cv=O c6 cv:=h (a8,bV,cv) (by simp);have A:=(Tu ps cs λp Z=>h p (by simp[Z])).1;have D:=(Tu ps (gE cs a8 (an (O c6 cv))) λp Z=>h p (by simp[Z])).2;simp only[rS,mZ,nj,bY]at A⊢;exact⟨by rw[A],D⟩
theorem MZ{l:Option Operand}{d:Int}(h: ∀x∈l.toList,O z x=O c6 x):pN z l=pN c6 l/\hf z l d=hf c6 l d:=by
 cases l with
 |none=>exact⟨rfl,rfl⟩
 |some x=>have:=h x (by simp);simp[pN,hf,this]
theorem zz(h: ∀x∈k.hO,O z x=O c6 x):k.ok z m=k.ok c6 m/\k.val id z m=k.val id c6 m/\k.gW id z m=k.gW id c6 m/\k.fF z m=k.fF c6 m:=by
 cases k<;>simp only[ah.hO,hi,kJ,or_false,forall_eq_or_imp,forall_eq,js]at h
 case vl G ps=>obtain⟨A,D⟩:=Tu ps G λp Z=>h _ (gG.2 ⟨p,Z,rfl⟩);simp only[ah.ok,ah.val,ah.gW,ah.fF,A,D,and_self]
 case mh G n cs ps=>obtain⟨A,D⟩:=Tu ps cs λp Z=>h _ (gG.2 ⟨p,Z,rfl⟩);simp only[ah.ok,ah.val,ah.gW,ah.fF,A,D,and_self]
 case FK x l r=>have A:= λd=>MZ (l:=l) (d:=d) λy Y=>h.2 y (.inl Y);have D:= λd=>MZ (l:=r) (d:=d) λy Y=>h.2 y (.inr Y);simp only[ah.ok,ah.val,ah.gW,ah.fF,h.1,(A 0).1,(D 0).1,λd=>(A d).2,λd=>(D d).2,and_self]
 case wg G x l r=>have A:= λd=>MZ (l:=l) (d:=d) λy Y=>h.2 y (.inl Y);have D:= λd=>MZ (l:=r) (d:=d) λy Y=>h.2 y (.inr Y);simp only[ah.ok,ah.val,ah.gW,ah.fF,h.1,(A 0).1,(D 0).1,λd=>(A d).2,λd=>(D d).2,and_self]
 case AN G x l r fK=>have A:= λd=>MZ (l:=l) (d:=d) λy Y=>h.2.2.2 y Y;simp only[ah.ok,ah.val,ah.gW,ah.fF,h.1,h.2.1,h.2.2.1,(A 0).1,λd=>(A d).2,and_self]
 case yF fK x xs=>
  have A: ∀(l:List Operand),(∀y∈l,O z y=O c6 y)->(l.all λy=>fe (O z y))=(l.all λy=>fe (O c6 y))/\
   ∀dN,l.foldl (λdN y=>if fK then pK dN (O z y)else pM dN (O z y)) dN=l.foldl (λdN y=>if fK then pK dN (O c6 y)else pM dN (O c6 y)) dN:=by
   intro l;induction l with
   |nil=>intro _;exact⟨rfl,λ_=>rfl⟩
   | cons y l cf=>intro az;obtain⟨aE,a2⟩:=cf λG bw=>az G (by simp[bw]);have:=az y (by simp);exact⟨by simp only[mZ,this,aE],λdN=>by simp only[zg,this,a2]⟩
  obtain⟨aE,a2⟩:=A xs h.2;simp only[ah.ok,ah.val,ah.gW,ah.fF,h.1,aE,a2,and_self]
 case yG fn xs ys=>have A:xs.map (O z)=xs.map (O c6):=Dc λy Y=>h y (.inl Y);have D:ys.map (O z)=ys.map (O c6):=Dc λy Y=>h y (.inr Y);simp only[ah.ok,ah.val,ah.gW,ah.fF,A,D,and_self]
 case lA f bu=>have A:bu.map (O z)=bu.map (O c6):=Dc h;simp only[ah.ok,ah.val,ah.gW,ah.fF,A,and_self]
 case m2 x bu=>have A:bu.map (O z)=bu.map (O c6):=Dc h.2;simp only[ah.ok,ah.val,ah.gW,ah.fF,A,h.1,and_self]
 case mq bI x bu=>have A:bu.map (O z)=bu.map (O c6):=Dc h.2;simp only[ah.ok,ah.val,ah.gW,ah.fF,A,h.1,and_self]
 all_goals simp only[ah.ok,ah.val,ah.gW,ah.fF,h,and_self]
end
namespace UP
theorem aBz{z:aC}{m:H}{k:ah}(h:k.ln=false):k.fF z m=none:=by cases k<;>first|rfl|(simp[ah.ln]at h)
theorem aBE{f:aC->H->Option (cM×aC×H)}{j:Nat}{z:aC}{m:H}{r:cM×aC×H}(h:kP f (j+1) z m=some r):
 (∃bQ bn,f z m=some (.eB,bQ,bn)/\kP f j bQ bn=some r)\/(f z m=some r/\r.1≠ .eB):=by
 simp only[kP]at h;split at h
 ·rename_i bQ bn A;exact .inl ⟨bQ,bn,A,h⟩
 ·rename_i bG;refine .inr ⟨h,λD=> ?_⟩;obtain⟨ek,gm,kT⟩:=r;cases D;exact bG _ _ h
structure fh(id:Nat)(x:Option eM)(m X:H):Prop where
 eq:X=m.aO id x
 cQ:id<m.next
 fL:m.I id=none
section
variable {id:Nat} {x:Option eM} {m X:H}
theorem fh.next(J:fh id x m X):X.next=m.next:=by rw[J.eq];rfl
theorem fh.mp(J:fh id x m X):X.mp=m.mp:=by rw[J.eq];rfl
theorem fh.fg(J:fh id x m X){b:Nat}{y:eM}(h:m.I b=some y):b≠id:= λaV=>by subst aV;rw[J.fL]at h;cases h
theorem fh.VX(J:fh id x m X){b:Nat}(h:b≠id):X.I b=m.I b:=by rw[J.eq,H.mK,if_neg h]
theorem fh.I(J:fh id x m X){b:Nat}{y:eM}(h:m.I b=some y):X.I b=some y:=by rw[J.VX (J.fg h),h]
theorem fh.fu(J:fh id x m X){b:Nat}{e:List (Value×Value)}(h:m.fu b=some e):X.fu b=some e:=by
 unfold H.fu at h⊢;cases aH:m.I b with
 |none=>rw[aH]at h;cases h
 |some y=>rw[aH]at h;rw[J.I aH,J.mp];exact h
theorem fh.VV(J:fh id x m X){b:Nat}{e:List (Value×Value)}(h:m.fu b=some e):b≠id:=by
 unfold H.fu at h;cases aH:m.I b with
 |none=>rw[aH]at h;cases h
 |some y=>exact J.fg aH
theorem fh.aO(J:fh id x m X){b:Nat}(hb:b≠id)(y:Option eM):fh id x (m.aO b y) (X.aO b y) where
 eq:=by rw[J.eq];exact aoq (by omega)
 cQ:=J.cQ
 fL:=by rw[H.mK,if_neg (by omega)];exact J.fL
theorem fh.hv(J:fh id x m X){b:Nat}(hb:b≠id)(e:List (Value×Value)):fh id x (m.hv b e) (X.hv b e) where
 eq:=by
  rw[J.eq];simp only[H.hv,H.aO,H.mk.injEq,true_and,and_true];funext i;by_cases A:i=b
  ·subst A;simp[hb]
  ·simp[A]
 cQ:=J.cQ
 fL:=by have:=J.fL;simp only[H.I,H.hv,show¬id=b by omega,if_false]at this⊢;exact this
theorem fh.b0(J:fh id x m X)(k:Nat):fh id x (m.b0 k) (X.b0 k) where
 eq:=by
  rw[J.eq];simp only[H.b0,H.aO,H.mk.injEq,true_and,and_true];funext i;by_cases A:i=id
  ·subst A;simp[J.cQ]
  ·simp[A]
 cQ:=by have:=J.cQ;show id<m.next+k;omega
 fL:=by rw[H.cJ];exact J.fL
theorem fh.gT(J:fh id x m X){v:Value}{n:Nat}(h:gT m v n=true):gT X v n=true:=by
 unfold DI.gT at h⊢;split at h
 ·rename_i a;simp only[a6]at h⊢;refine⟨h.1,?_⟩;cases aH:m.I a.block with
  |none=>rw[aH]at h;simp at h
  |some x=>rw[aH]at h;rw[J.I aH];exact h.2
 ·cases h
theorem fh.rq(J:fh id x m X){v:Value}(h:rq m v=true):rq X v=true:=by
 unfold DI.rq at h⊢;split at h
 ·rename_i a;cases aH:m.I a.block with
  |none=>rw[aH]at h;cases h
  |some x=>rw[aH]at h;rw[J.I aH];exact h
 ·cases h
theorem fh.lH(J:fh id x m X){v:Value}{n:Nat}{dr:Bool}(h:DI.gT m v n=true):lH X dr n v=lH m dr n v:=by
 unfold DI.gT at h;split at h
 ·rename_i a;simp only[a6]at h;cases aH:m.I a.block with
  |none=>rw[aH]at h;simp at h
  |some x=>simp only[DI.lH,gM,aH,J.I aH]
 ·cases h
theorem fh.pn(J:fh id x m X){v:Value}{n:Nat}{cs:List Value}(h:DI.gT m v n=true):fh id x (pn m v cs) (pn X v cs):=by
 unfold DI.gT at h;split at h
 ·rename_i a;simp only[a6]at h;cases aH:m.I a.block with
  |none=>rw[aH]at h;simp at h
  |some x=>simp only[DI.pn,aH,J.I aH];exact J.aO (J.fg aH) _
 ·cases h
theorem fh.fw(J:fh id x m X){v:Value}{G:Nat}(h:fw m G v=true):fw X G v=true:=by
 unfold DI.fw at h⊢;split at h
 ·exact h
 ·rename_i a l c;simp only[a6]at h⊢;refine⟨h.1,?_⟩;cases aH:m.I a.block with
  |none=>rw[aH]at h;simp at h
  |some x=>rw[aH]at h;rw[J.I aH];exact h.2
 ·cases h
theorem fh.iJ(J:fh id x m X){v:Value}(h:iJ m v=true):iJ X v=true:=by
 unfold DI.iJ at h⊢;split at h
 ·rfl
 ·rename_i a l c;cases aH:m.I a.block with
  |none=>rw[aH]at h;cases h
  |some x=>rw[aH]at h;rw[J.I aH];exact h
 ·cases h
theorem fh.fq(J:fh id x m X){v:Value}{G:Nat}(h:DI.fw m G v=true):fq X G v=fq m G v:=by
 unfold DI.fw at h;split at h
 ·rfl
 ·rename_i a l c;simp only[a6]at h;cases aH:m.I a.block with
  |none=>rw[aH]at h;simp at h
  |some x=>simp only[DI.fq,gM,aH,J.I aH]
 ·cases h
theorem fh.hC(J:fh id x m X){v:Value}{G:Nat}(h:DI.fw m G v=true):fh id x (hC m v) (hC X v):=by
 unfold DI.fw at h;split at h
 ·exact J
 ·rename_i a l c;simp only[a6]at h;cases aH:m.I a.block with
  |none=>rw[aH]at h;simp at h
  |some x=>exact J.aO (J.fg aH) _
 ·cases h
theorem fh.n1(J:fh id x m X){v:Value}{G:Nat}{cs:List Value}(h:DI.fw m G v=true):fh id x (n1 m cs v) (n1 X cs v):=by
 unfold DI.fw at h;split at h
 ·exact J
 ·rename_i a l c;simp only[a6]at h;cases aH:m.I a.block with
  |none=>rw[aH]at h;simp at h
  |some x=>simp only[DI.n1,aH,J.I aH];exact J.aO (J.fg aH) _
 ·cases h
theorem fh.lI(J:fh id x m X){v:Value}{es:List (Value×Value)}(h:lI m v=some es):lI X v=some es:=by
 unfold DI.lI at h⊢;split at h
 ·exact h
 ·exact J.fu h
 ·cases h
theorem MV(J:fh id x m X){k:ah}{z:aC}(h:k.ok z m=true):k.ok z X=true:=by
 cases k with
 |sN G n y=>simp only[ah.ok,a6]at h⊢;exact⟨J.gT h.1,h.2⟩
 |g4 dr n y=>simp only[ah.ok,a6]at h⊢;exact⟨J.gT h.1,h.2⟩
 |store n x v=>simp only[ah.ok,a6]at h⊢;exact⟨⟨⟨J.gT h.1.1.1,J.rq h.1.1.2⟩,h.1.2⟩,h.2⟩
 |py x=>simp only[ah.ok,a6]at h⊢;exact⟨J.fw h.1,by rw[J.fq h.1];exact h.2⟩
 |app G bytes x y=>simp only[ah.ok,a6]at h⊢;exact⟨⟨⟨⟨⟨J.fw h.1.1.1.1.1,J.iJ h.1.1.1.1.2⟩,J.fw h.1.1.1.2⟩,h.1.1.2⟩,h.1.2⟩,h.2⟩
 |hJ G x=>simp only[ah.ok,a6]at h⊢;exact⟨⟨J.fw h.1.1,J.iJ h.1.2⟩,h.2⟩
 | qX bd G o x e0=>
   simp only[ah.ok]at h⊢;cases ab:DI.lI m (O z x)with
   |none=>rw[ab]at h;cases h
   |some es=>rw[ab]at h;rw[J.lI ab];exact h
 | o7 bd x e0 v=>
   simp only[ah.ok]at h⊢;split at h
   ·rename_i pq b hb;cases ab:m.fu b with
    |none=>rw[ab]at h;cases h
    |some es=>rw[ab]at h;rw[J.fu ab];exact h
   ·cases h
 |_=>exact h
theorem N2(J:fh id x m X){k:ah}{z:aC}{H2:Nat}(h:k.ok z m=true):k.val H2 z X=k.val H2 z m:=by
 cases k with
 |g4 dr n y=>simp only[ah.ok,a6]at h;exact J.lH h.1
 |py x=>simp only[ah.ok,a6]at h;simp only[ah.val,J.fq h.1]
 | qX bd G o x e0=>
   simp only[ah.ok]at h;cases ab:DI.lI m (O z x)with
   |none=>rw[ab]at h;cases h
   |some es=>simp only[ah.val,ab,J.lI ab]
 |_=>rfl
theorem MM(J:fh id x m X){k:ah}{z:aC}{H2:Nat}(eP:H2≠id)(h:k.ok z m=true):fh id x (k.hd H2 z m) (k.hd H2 z X):=by
 cases k with
 |nu G=>exact J.aO eP _
 |oy x=>exact J.aO eP _
 |mh a b c d=>exact J.aO eP _
 |pX x=>exact J.aO eP _
 |oV a b c d e=>exact J.aO eP _
 |hJ G x=>simp only[ah.ok,a6]at h;exact J.n1 h.1.1
 |oc a b c d e=>exact J.aO eP _
 |store n x v=>simp only[ah.ok,a6]at h;exact J.pn h.1.1.1
 | app G bytes x y=>
   simp only[ah.ok,a6]at h;simp only[ah.hd];split
   ·exact J
   ·rw[J.fq h.1.1.1.1.1,J.fq h.1.1.1.2];exact(J.hC h.1.1.1.1.1).aO eP _
 |qW=>exact J.hv eP _
 | o7 bd x e0 v=>
   simp only[ah.ok]at h;split at h
   ·rename_i pq b hb;cases ab:m.fu b with
    |none=>rw[ab]at h;cases h
    |some es=>simp only[ah.hd,hb,yE,ab,J.fu ab];exact J.hv (J.VV ab) _
   ·cases h
 |_=>exact J
theorem OY(J:fh id x m X){k:ah}{z:aC}{ml:Nat×List Value}(h:k.fF z m=some ml):k.fF z X=some ml:=by
 cases k with
 | mq bI x args=>
   simp only[ah.fF]at h⊢;split at h
   ·split at h
    ·exact h
    ·split at h
     ·rename_i ar;simp only[a6]at ar;rw[if_pos (by simp only[a6];exact⟨J.gT ar.1,ar.2⟩),J.lH ar.1];exact h
     ·cases h
    ·cases h
   ·cases h
 |_=>exact h
theorem Vi{m X:H}{k:ah}{z:aC}(h:k.fF z m=none)(av:k.ok z m=true):k.fF z X=none:=by
 refine aBz ?_;cases k with
 |lA f a=>simp[ah.ok]at av
 |m2 f a=>simp[ah.ok]at av
 |mq f a b=>simp[ah.ok]at av
 |_=>rfl
def OB(id:Nat)(x:Option eM)(b4:Callee):Prop:= ∀f a m r U,b4 f a m=some (r,U)-> ∀X,fh id x m X-> ∃cF,b4 f a X=some (r,cF)/\fh id x U cF
theorem Z7{U cF:H}(J:fh id x m X)(cU:fh id x U cF){z:aC}{bd:List (Operand×Operand)}(h:uP z bd m U):uP z bd X cF:= λp Z b hb=>by
 by_cases aV:b=id
 ·subst aV;rw[J.eq,cU.eq,H.mK,H.mK,if_pos rfl,if_pos rfl,if_pos J.cQ,if_pos cU.cQ]
 ·rw[J.VX aV,cU.VX aV];exact h p Z b hb
theorem ac5{b4:Callee}(cu:OB id x b4)(J:fh id x m X){base:Nat}(hb:id<base){o:cO}{z K:aC}{U:H}(h:iq b4 base o z m=some (K,U))(S:qz o z m U):
 ∃cF,iq b4 base o z X=some (K,cF)/\fh id x U cF/\qz o z X cF:=by
 unfold iq at h⊢;unfold qz at S⊢;by_cases aS:eX z o.g=true
 ·rw[if_pos aS]at h⊢
  replace S:=S aS
  cases ar:o.k.fF z m with
  | none=>
    rw[ar]at h S;simp only at h S;split at h
    ·rename_i av;cases h;simp only[Vi ar av];rw[if_pos (MV J av),N2 J av];exact⟨_,rfl,MM J (by omega) av,λ_=>S⟩
    ·cases h
  | some ml=>
    obtain⟨f,args⟩:=ml;rw[ar]at h S;simp only at h S;cases a5:b4 f args m with
    |none=>rw[a5]at h;cases h
    | some IT=>obtain⟨v,bn⟩:=IT;rw[a5]at h;cases h;obtain⟨cF,A,cU⟩:=cu _ _ _ _ _ a5 X J;simp only[OY J ar,A];exact⟨_,rfl,cU,λ_=>Z7 J cU S⟩
 ·rw[if_neg aS]at h⊢;cases h;exact⟨X,rfl,J,λh=>absurd h aS⟩
theorem Au{b4:Callee}(cu:OB id x b4){base:Nat}(hb:id<base): ∀{L:List cO} {z K:aC} {m U X:H},fh id x m X->k3 b4 base L z m=some (K,U)-> ∃cF,k3 b4 base L z X=some (K,cF)/\fh id x U cF
 |[],_,_,_,_,X,J,h=>by cases h;exact⟨X,rfl,J⟩
 | _::_,_,_,_,_,X,J,h=>by obtain⟨bQ,bn,A,D,ai⟩:=sI h;obtain⟨de,aE,cV,a2⟩:=ac5 cu J hb A D;obtain⟨fN,cj,gB⟩:=Au cu hb cV ai;exact⟨fN,AD aE a2 cj,gB⟩
theorem L6{f:aC->H->Option (cM×aC×H)}(a5: ∀z m e K U,f z m=some (e,K,U)-> ∀X,fh id x m X-> ∃cF,f z X=some (e,K,cF)/\fh id x U cF):
 ∀{n:Nat} {z:aC} {m:H} {e:cM} {K:aC} {U X:H},kP f n z m=some (e,K,U)->fh id x m X-> ∃cF,kP f n z X=some (e,K,cF)/\fh id x U cF
 |0,_,_,_,_,_,_,h,_=>by simp[kP]at h
 | n+1,z,m,e,K,U,X,h,J=>by
   rcases aBE h with⟨bQ,bn,A,D⟩|⟨A,D⟩
   ·obtain⟨de,aE,cV⟩:=a5 _ _ _ _ _ A X J;obtain⟨fN,a2,gB⟩:=L6 a5 D cV;exact⟨fN,by simp only[kP,aE];exact a2,gB⟩
   ·obtain⟨de,aE,cV⟩:=a5 _ _ _ _ _ A X J;refine⟨de,?_,cV⟩;simp only[kP,aE];cases e with
    |eB=>exact absurd rfl D
    |cH id=>rfl
    |e3=>rfl
theorem fh.pH(J:fh id x m X):fh id (x.map G7) (pH m) (pH X) where
 eq:=by
  rw[J.eq];simp only[DI.pH,H.aO,H.mk.injEq,true_and,and_true];funext b;by_cases h:b=id
  ·subst h;simp
  ·simp[h]
 cQ:=J.cQ
 fL:=by have:=J.fL;unfold H.I at this⊢;have h:=J.cQ;rw[if_pos h]at this;show(if id<m.next then _ else _)=_;rw[if_pos h];simp only[DI.pH,this,Option.map_none]
theorem fh.sQ(J:fh id x m X){G:Nat}{v:Value}(h:sQ G m v=true):sQ G X v=true:=by
 unfold DI.sQ at h⊢;split at h
 ·rename_i a l c;cases aH:m.I a.block with
  |none=>rw[aH]at h;cases h
  |some x=>rw[aH]at h;rw[J.I aH];exact h
 ·rfl
theorem fh.o5(J:fh id x m X){o:cO}{z:aC}(h:o5 o z m=true):o5 o z X=true:=by
 unfold DI.o5 at h⊢;simp only[a6]at h⊢;refine⟨⟨h.1.1,?_⟩,MV J h.2⟩;have:=h.1.2;split at this
 ·exact J.sQ this
 ·cases this
theorem pC{b4:Callee}(cu: ∀x,OB id x b4){n:Nat}: ∀{c:aw} {z K:aC} {m U X:H} {e:cM},eR b4 n c z m=some (e,K,U)->fh id x m X-> ∃cF,eR b4 n c z X=some (e,K,cF)/\fh id x U cF
 | .skip,_,_,_,_,X,_,h,J=>by cases h;exact⟨X,rfl,J⟩
 | .kl ops,z,K,m,U,X,e,h,J=>by
   simp only[eR]at h⊢;split at h
   ·rename_i bQ bn al;cases h;have cU:fh id x (hV ops m) (hV ops X):=by
     unfold hV;split
     ·exact J.b0 _
     ·exact J
    obtain⟨cF,g,gB⟩:=Au (cu x) (base:=m.next) J.cQ cU al;refine⟨cF,?_,gB⟩;rw[J.next,g]
   ·cases h
 | .uQ cD o bN,z,K,m,U,X,e,h,J=>by
   simp only[eR]at h⊢;split at h
   ·rename_i bQ bn A;split at h
    ·rename_i av;split at h
     ·rename_i c6 cI D;cases h;obtain⟨de,aE,cV⟩:=Au (cu x) (base:=m.next) J.cQ (J.b0 _) A;have S:o.k.ok bQ bn=true:=(by unfold DI.o5 at av;simp only[a6]at av;exact av.2);obtain⟨fN,a2,gB⟩:=Au (cu _) (base:=m.next) J.cQ cV.pH D;rw[J.next,aE];simp only[cV.o5 av,if_true,N2 cV S,a2,gB.next,cV.next];exact⟨_,rfl,(MM cV (by have:=J.cQ;omega) S).b0 _⟩
     ·cases h
    ·cases h
   ·cases h
 | .ky a b,z,K,m,U,X,e,h,J=>by
   simp only[eR]at h⊢;split at h
   ·rename_i bQ bn A;obtain⟨de,aE,cV⟩:=pC cu A J;obtain⟨fN,a2,gB⟩:=pC cu h cV;exact⟨fN,by rw[aE];exact a2,gB⟩
   ·rename_i bG;obtain⟨de,aE,cV⟩:=pC cu h J;refine⟨de,?_,cV⟩;rw[aE];cases e with
    |eB=>exact absurd h (bG _ _)
    |cH id=>rfl
    |e3=>rfl
 | .nx x a b,z,K,m,U,X,e,h,J=>by
   simp only[eR]at h⊢;split at h
   ·rename_i A;rw[if_pos A];split at h
    ·rename_i D;rw[if_pos D];exact pC cu h J
    ·rename_i D;rw[if_neg D];exact pC cu h J
   ·cases h
 | .block id c,z,K,m,U,X,e,h,J=>by
   simp only[eR]at h⊢;split at h
   ·rename_i A;obtain⟨de,aE,cV⟩:=pC cu A J;rw[aE];simp only;split at h
    ·rename_i eP;cases h;exact⟨de,by rw[if_pos eP],cV⟩
    ·rename_i eP;cases h;exact⟨de,by rw[if_neg eP],cV⟩
   ·rename_i bG;obtain⟨de,aE,cV⟩:=pC cu h J;refine⟨de,?_,cV⟩;rw[aE];cases e with
    |eB=>rfl
    |cH id=>exact absurd h (bG _ _ _)
    |e3=>rfl
 | .loop c,z,K,m,U,X,e,h,J=>by simp only[eR]at h⊢;exact L6 (f:=eR b4 n c) (λz m e K U A X J=>pC cu A J) h J
 | .cH id,_,_,_,_,X,_,h,J=>by cases h;exact⟨X,rfl,J⟩
 | .e3,_,_,_,_,X,_,h,J=>by cases h;exact⟨X,rfl,J⟩
theorem Fl(J:fh id x m X){z:aC}{r:lP}(h:rW m z r=true):rW X z r=true/\sG X z r=sG m z r:=by
 cases r with
 |bJ t=>exact⟨rfl,rfl⟩
 | ha t dr n=>simp only[rW,a6]at h⊢;exact⟨⟨J.gT h.1,h.2⟩,J.lH h.1⟩
theorem abA(J:fh id x m X){z:aC}{cC:List lP}(h:mw m z cC=true):mw X z cC=true/\mU X z cC=mU m z cC:=by
 have al: ∀r∈cC,rW m z r=true:=by simpa[mw]using h
 refine⟨by simp only[mw,dP];exact λr ab=>(Fl J (al r ab)).1,?_⟩;unfold mU;split
 ·exact(Fl J (al _ (by simp))).2
 ·rw[Dc λr ab=>(Fl J (al r ab)).2]
theorem Xx(J:fh id x m X){args:List Value}{r:Value}{U:H}(h:tB args m=some (r,U)): ∃cF,tB args X=some (r,cF)/\fh id x U cF:=by
 obtain⟨s,i,y,rfl,av,rfl,rfl⟩:=KQ h;simp only[tC,a6]at av;obtain⟨a,b,c,d,e⟩:=av;have w1:tC X s i y=true:=by simp only[tC,a6];exact⟨J.fw a,J.iJ b,J.fw c,J.iJ d,e⟩
 have ae: ∀k,k=m.next->k≠id:= λk S=>by have:=J.cQ;omega
 refine⟨((hC X s).b0 1).aO m.next (some ⟨fq m 1 y++fq m 1 s,true⟩),?_,((J.hC a).b0 1).aO (ae _ rfl) _⟩;simp only[tB,w1,if_true,xc,uH,J.next,J.fq a,J.fq c]
theorem Jz{P:Program}: ∀n x,OB id x (kL P n)
 |0,_=> λf a m r U h=>by simp[kL]at h
 | n+1,x=> λf a m r U h X J=>by
   simp only[kL]at h⊢;split at h
   ·rename_i u dh;split at h
    ·rename_i eV;rw[if_pos eV];split at h
     ·cases h
     ·rename_i e K bn bG g2;obtain⟨de,aE,cV⟩:=pC (Jz n) g2 J;split at h
      ·rename_i al;cases h;obtain⟨a2,cj⟩:=abA cV al;rw[aE];refine⟨de,?_,cV⟩;cases e with
       |eB=>simp only[a2,cj,if_true]
       |e3=>simp only[a2,cj,if_true]
       |cH id=>exact absurd rfl (bG id)
      ·cases h
     ·cases h
    ·cases h
   ·split at h
    ·rename_i jc;rw[if_pos jc];exact Xx J h
    ·cases h
end
end UP
end Go.DI
