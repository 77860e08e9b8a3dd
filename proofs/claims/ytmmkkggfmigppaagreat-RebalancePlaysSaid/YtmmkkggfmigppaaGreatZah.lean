/-
  A part of the proof of the statement, in texts that tools of ours (wip/shrink.py, irpack.py, relax.py, minify.py, join.py, lay.py) have shortened.
-/
import Derived.Test.YtmmkkggfmigppaaGreatRows
import Derived.Test.YtmmkkggfmigppaaGreatZag
set_option linter.all false
set_option maxRecDepth 8000
set_option maxHeartbeats 16000000
namespace Go.DI
open Go Go.RowKit
def uT(m:W):fQ:= λb=>(m.X b).map (·.cells)
section
variable {P:Program} {u:fQ} {m aq:W}
theorem Yo(m:W):uJ (uT m) m:= λb cs h=>by
  simp only[uT]at h;cases aP:m.X b with
  |none=>rw[aP]at h;cases h
  |some x=>rw[aP]at h;cases h;exact⟨x.own,rfl⟩
theorem Qk{b:Nat}{cs:List Value}{w:Bool}(h:m.X b=some ⟨cs,w⟩):uT m b=some cs:=by simp[uT,h]
theorem Yp(h:uJ u m):hp u (uT m):= λb cs hb=>by obtain⟨w,a3⟩:=h b cs hb;exact Qk a3
abbrev JD(m:W)(v bx:Value):Prop:=b5 (uT m) lr v bx
abbrev E3(m:W)(cz zw:List Value):Prop:=bo (uT m) lr cz zw
theorem aEp{f:Nat}{ts:List Value}{r:Value}(h: ∀m bY,E3 m ts bY->gp P f bY m λdL aq=>(m.next<=aq.next/\ ∀b,b<m.next->aq.X b=m.X b)/\JD aq r dL):bH P f ts r:= λu m bY dx aA=>by refine(h m bY (aA.b8 (Yp dx) (fY.refl _))).b8 λdL aq aQ=> ?_;obtain⟨⟨E,I⟩,av⟩:=aQ;exact⟨E,I,uT aq,λb cs hb=>by obtain⟨w,a3⟩:=dx b cs hb;exact Qk (by rw[I b (a6 a3)];exact a3),Yo aq,av⟩
theorem bH.below{f:Nat}{ts bY:List Value}{r:Value}(h:bH P f ts r)(aA:E3 m ts bY):gp P f bY m λdL aq=>(m.next<=aq.next/\ ∀b,b<m.next->aq.X b=m.X b)/\JD aq r dL:=by refine(h (uT m) m bY (Yo m) aA).b8 λdL aq aQ=> ?_;obtain⟨E,I,cP,av,aH,br⟩:=aQ;exact⟨⟨E,I⟩,br.b8 (Yp aH) (fY.refl _)⟩
theorem bo.nJ{M:eM}{x:Value}{ys:List Value}(h:bo u M [x] ys): ∃y,ys=[y]/\b5 u M x y:=by
  match ys,h with
  |[y],h=>exact⟨y,rfl,h.2 0 x y rfl rfl⟩
  |[],h=>simp[bo]at h
  |_::_::_,h=>simp[bo]at h
theorem bo.aEs{M:eM}{x y:Value}{lz:List Value}(h:bo u M [x,y] lz): ∃a b,lz=[a,b]/\b5 u M x a/\b5 u M y b:=by
  match lz,h with
  |[a,b],h=>exact⟨a,b,rfl,h.2 0 x a rfl rfl,h.2 1 y b rfl rfl⟩
  |[],h=>simp[bo]at h
  |[_],h=>simp[bo]at h
  |_::_::_::_,h=>simp[bo]at h
theorem bo.aEo{M:eM}{x y J:Value}{lz:List Value}(h:bo u M [x,y,J] lz): ∃a b c,lz=[a,b,c]/\b5 u M x a/\b5 u M y b/\b5 u M J c:=by
  match lz,h with
  |[a,b,c],h=>exact⟨a,b,c,rfl,h.2 0 x a rfl rfl,h.2 1 y b rfl rfl,h.2 2 J c rfl rfl⟩
  |[],h=>simp[bo]at h
  |[_],h=>simp[bo]at h
  |[_,_],h=>simp[bo]at h
  |_::_::_::_::_,h=>simp[bo]at h
def sl:(s:fh)->s.cO->List Value
  | .int k,n=>[.int k n]
  | .bool,b=>[.bool b]
  | .str,s=>[.string s]
  | .slice e,l=>[aj ((ow l).map (sl e)) e.cells]
  | .unit,_=>[]
  | .lQ a b,d=>sl a d.1++sl b d.2
theorem Kp: ∀(s:fh) (d:s.cO),(sl s d).length=s.cells
  | .int _,_=>rfl
  | .bool,_=>rfl
  | .str,_=>rfl
  | .slice _,_=>rfl
  | .unit,_=>rfl
  | .lQ a b,d=>by simp[sl,Kp a,Kp b,fh.cells]
theorem JO: ∀{s:fh} {cs:List Value} {d:s.cO},o0 m s cs d->E3 m (sl s d) cs
  | .int k,cs,d,h=>by rw[h.1];exact bo.cons (.cH rfl) bo.nil
  | .bool,cs,d,h=>by have:cs=[.bool d]:=h;rw[this];exact bo.cons (.cH rfl) bo.nil
  | .str,cs,d,h=>by rw[h.1];exact bo.cons (.cH rfl) bo.nil
  | .unit,cs,d,h=>by have:cs=[]:=h;rw[this];exact bo.nil
  | .lQ a b,cs,d,h=>by obtain⟨bO,cA,rfl,E,I⟩:=h;exact(JO E).o6 (JO I)
  | .slice e,cs,l,h=>by
    simp only[sl];rcases h with⟨rfl,h⟩|⟨b,bh,rfl,I,av,aH,br⟩
    · rw[h];exact bo.cons (.hR rfl) bo.nil
    · refine bo.cons ?_ bo.nil;have bK: ∀r∈bh,r.length=e.cells:= λr aw=>by
        obtain⟨i,ai,rfl⟩:=j4 aw;exact(br i _ _ (cD ai) (cD (by omega))).len
      have e1:bh.flatten.length=bh.length*e.cells:=sq bK;have:=b5.iu (u:=uT m) (M:=lr) (v:=aj ((ow l).map (sl e)) e.cells) (b:=b) (off:=0) (J:=e.cells) (cs:=bh.flatten) (bh:=(ow l).map (sl e)) rfl (Qk I) (by rw[e1,aH,j5];omega) (λi r aw=> ?_) λi j r x y aw G af=> ?_
      · simpa using this
      · rw[oZ,rh]at aw;obtain⟨x,_,rfl⟩:=aw;exact Kp e x
      · rw[oZ,rh]at aw;obtain⟨ch,fM,rfl⟩:=aw;have ai:=(dO.1 fM).1;have gW:i<bh.length:=(by rw[aH];exact ai);have mh:=br i _ _ (cD gW) fM;refine(JO mh).2 j x y G ?_;have bj:=(dO.1 G).1;rw[Kp]at bj;have bd:=Qf bK (cD gW);rw[<-bd,vT,if_pos bj,zE,<-af,Nat.zero_add]
def Cf(s:fh)(d:s.cO):Value:=if s.isAgg then .agg (sl s d).toArray else(sl s d).headD undef
theorem ajB{s:fh}{v:Value}{d:s.cO}(h:vX m s v d):JD m (Cf s d) v:=by
  obtain⟨cs,E,rfl⟩:=h;have:=JO E;unfold Cf;split
  · exact this.agg
  · exact this.headD
inductive E1:List fh->List Value->Prop
  |nil:E1 [] []
  |cons {s:fh} {d:s.cO} {k9:List fh} {cz:List Value} (ok:Bx s d) (K:E1 k9 cz):E1 (s::k9) (Cf s d::cz)
theorem ajA{k9:List fh}{fb:List Value}(h:s9 m k9 fb): ∃ts,E1 k9 ts/\E3 m ts fb:=by
  induction h with
  |nil=>exact⟨[],.nil,bo.nil⟩
  | cons h K cx=>obtain⟨ts,E,I⟩:=cx;obtain⟨cs,av,aH⟩:=h;exact⟨_,.cons av.ok E,bo.cons (ajB ⟨cs,av,aH⟩) I⟩
theorem az3{f:Nat}{k9:List fh}(h: ∀ts,E1 k9 ts->bH P f ts (.bool true))(m:W)(fb:List Value)(aA:s9 m k9 fb):gp P f fb m λr _=>r= .bool true:=by obtain⟨ts,E,I⟩:=ajA aA;exact((h ts E).below I).b8 λr aq aQ=>aQ.2.qT
end
section
variable {P:Program} {aC:ov P} {t bD:W} {A bQ:aR} {c:H} {Q:dA->aR->W->Prop}
theorem aE1(aP: ∀M u ak m,ec M u t m->g4 u M A ak->ec M u bD m/\g4 u M bQ ak/\eN t.next m.next M u t m M u bD m)(h:fZ P c bQ bD Q):fZ P c A t Q:= λau M u ak m K bI=>by obtain⟨aK,bb,c0⟩:=aP M u ak m K bI;refine(h au M u ak m aK bb).b8 λe ba bk aQ=> ?_;obtain⟨cC,dz,dt,iW,E,I,av,aH⟩:=aQ;exact⟨cC,dz,dt,iW,E,I,av,c0.trans (aH.zx c0.jP (ey _))⟩
theorem aio{M:eM}{u:fQ}{m:W}(K:ec M u t m){o j J:Nat}{cs:List Value}(aE:t.X o=some ⟨cs,true⟩)(bj:cs[j]?=some (.slice none 0 0)):
    ec M u (((t.cf 1).a0 t.next (some ⟨[],true⟩)).a0 o (some ⟨cs.set j (.slice (some ⟨t.next,0,none⟩) 0 J),true⟩)) m/\eN t.next m.next M u t m M u (((t.cf 1).a0 t.next (some ⟨[],true⟩)).a0 o (some ⟨cs.set j (.slice (some ⟨t.next,0,none⟩) 0 J),true⟩)) m:=by
  refine⟨?_,?_⟩
  · have bZ:M t.next=none:=by
      cases bn:M t.next with
      |none=>rfl
      |some b=>have:=(K.cV _ _ bn).1;omega
    have ev:=a6 aE;have cJ:o≠t.next:=by omega
    refine⟨λp x G=> ?_,λp bc bn=> ?_,K.iD,K.inj,λp b h=>⟨by have:=(K.cV p b h).1;simp only[mr,y3];omega,(K.cV p b h).2⟩,λb ds hb=> ?_⟩
    · by_cases ab:p=o
      · subst ab;rw[eD (by simp;omega)]at G;cases G;rcases K.ij p _ aE with⟨b,ds,w,E,I,av,aH⟩|⟨E,I⟩
        · refine .inl ⟨b,ds,w,E,I,av,?_⟩;obtain⟨y,af,ad⟩:=aH.X bj;have:=aH.set j (y:=y) (x:= .slice (some ⟨t.next,0,none⟩) 0 J) (by rw[ad.h7 rfl];exact .pD);rw[show ds.set j y=ds from by
            apply EY;intro i;rw[s5];split
            · next e=>subst e;rw[af];simp;exact(dO.1 af).1
            · rfl]at this
          exact this
        · simp only at I;subst I;simp at bj
      · rw[bR ab]at G;by_cases bd:p=t.next
        · subst bd;rw[eD (by simp)]at G;cases G;exact .inr ⟨bZ,rfl⟩
        · rw[bR bd,W.e0]at G;exact K.ij p x G
    · by_cases ab:p=o
      · subst ab;obtain⟨aJ,aU⟩:=iz bn;rw[eD (by simp;omega)]at aJ;have:cs=[]:=(by simpa using aJ);subst this;simp at bj
      · obtain⟨aJ,aU⟩:=iz bn;rw[bR ab]at aJ;by_cases bd:p=t.next
        · subst bd;have av:t.mp t.next=some bc:=aU
          rw[K.iD _ bZ]at av;cases av
        · rw[bR bd,W.e0]at aJ;exact K.maps p bc (kq aJ aU)
    · obtain⟨E,I⟩:=K.bF b ds hb;refine⟨E,λp x KK G=> ?_⟩;by_cases ab:p=o
      · subst ab;have:=I p _ KK aE;cases this
      · rw[bR ab]at G;have bd:p≠t.next:= λe=>by subst e;rw[bZ]at KK;cases KK
        rw[bR bd,W.e0]at G;exact I p x KK G
  · have bZ:M t.next=none:=by
      cases bn:M t.next with
      |none=>rfl
      |some b=>have:=(K.cV _ _ bn).1;omega
    refine⟨fY.refl _,hp.refl _,λ_ _ h=> .inl h,λ_ _ h=> .inl h,by simp,ey _,λ_ _ _=>rfl,λb hb=> λ⟨p,x,aJ,aU,cu⟩=> ?_,λb hb=> λ⟨p,x,aJ,aU⟩=> ?_⟩
    · by_cases ab:p=o
      · subst ab;exact⟨p,_,aJ,aE,rfl⟩
      · rw[bR ab]at aU;have bd:p≠t.next:= λe=>by subst e;rw[bZ]at aJ;cases aJ
        rw[bR bd,W.e0]at aU;exact⟨p,x,aJ,aU,cu⟩
    · by_cases ab:p=o
      · subst ab;exact⟨p,_,aJ,aE⟩
      · rw[bR ab]at aU;have bd:p≠t.next:= λe=>by subst e;rw[bZ]at aJ;cases aJ
        rw[bR bd,W.e0]at aU;exact⟨p,x,aJ,aU⟩
theorem O2{o j J:Nat}{cs:List Value}(aE:t.X o=some ⟨cs,true⟩)(bj:cs[j]?=some (.slice none 0 0))
    (h:fZ P c A (((t.cf 1).a0 t.next (some ⟨[],true⟩)).a0 o (some ⟨cs.set j (.slice (some ⟨t.next,0,none⟩) 0 J),true⟩)) Q):fZ P c A t Q:=
  aE1 (λM u ak m K bI=>⟨(aio K aE bj).1,bI,(aio K aE bj).2⟩) h
theorem aD8{l:List (bC P)}{f:Nat}{ts:List Value}{cj mP:Value->Prop}(h:uu l f ts cj)(aa: ∀r,cj r->mP r):uu l f ts mP:=by
  induction l with
  |nil=>exact h
  | cons s aC cx=>
    simp only[uu]at h⊢;split at h
    · next e=>
      rw[if_pos e];cases aT:s.fn ts with
      |none=>rw[aT]at h;exact h
      |some r=>rw[aT]at h;exact aa _ h
    · next e=>rw[if_neg e];exact cx h
theorem ahU{l:List (ie P)}{f:Nat}{ts:List Value}{t:W}{aW v3:Value->W->Prop}(h:sT l f ts t aW)(aa: ∀r t,aW r t->v3 r t):sT l f ts t v3:=by
  induction l with
  |nil=>exact h
  | cons s aC cx=>
    simp only[sT]at h⊢;split at h
    · next e=>
      rw[if_pos e];cases aT:s.fn ts t with
      |none=>rw[aT]at h;exact h
      |some r=>rw[aT]at h;exact aa _ _ h
    · next e=>rw[if_neg e];exact cx h
theorem Xz{f:Nat}{args:List Value}{L:List Nat}{aW v3:Value->W->Prop}(h:tk aC f args t L aW)(aa: ∀r t,aW r t->v3 r t):tk aC f args t L v3:=by
  unfold tk at h⊢;split at h
  · next K=>
    rw[if_pos K];unfold vD at h⊢;split at h
    · next ts bK=>exact aD8 h λr h=>aa _ _ h
    · exact h
  · next K=>
    rw[if_neg K];cases L with
    | nil=>
      simp only[xY]at h⊢;split at h
      · next e=>rw[if_pos e];exact ahU h aa
      · next e=>rw[if_neg e];exact h.b8 aa
    | cons o l=>
      simp only[xY]at h⊢;refine⟨h.1,?_⟩;have I:=h.2;split at I
      · next e=>rw[if_pos e];exact ahU I λr t aQ=>aa _ _ aQ
      · next e=>rw[if_neg e];exact I.b8 λr t aQ=>aa _ _ aQ
theorem Fb{base:Nat}: ∀{ops:List bp} {A:aR} {t:W} {aW v3:aR->W->Prop},dv aC base ops A t aW->(∀A t,aW A t->v3 A t)->dv aC base ops A t v3
  |[],_,_,_,_,h,aa=>aa _ _ h
  | o::ops,A,t,aW,v3,h,aa=>by
    simp only[dv]at h⊢;split at h
    · next a3=>
      rw[if_pos a3];obtain⟨aS,d,g,k,a9⟩:=o;cases k with
      |dY f bY=>exact Xz h λr t h=>Fb h aa
      | iN x bY=>
        simp only[j1,Fv]at h⊢;split at h
        · exact Xz h λr t h=>Fb h aa
        · exact h
      |iR=>exact h
      |_=>exact⟨h.1,h.2.1,Fb h.2.2 aa⟩
    · next a3=>rw[if_neg a3];exact Fb h aa
theorem Cc: ∀{c:H} {A:aR} {t:W} {Q xT:dA->aR->W->Prop},jn aC c A t Q->(∀e A t,Q e A t->xT e A t)->jn aC c A t xT
  | .skip,_,_,_,_,h,bd=>bd _ _ _ h
  | .a7 _,_,_,_,_,h,bd=>bd _ _ _ h
  | .aF,_,_,_,_,h,bd=>bd _ _ _ h
  | .D _,_,_,_,_,h,bd=>Fb h λA t h=>bd _ _ _ h
  | .q0 _ _ _,_,_,_,_,h,_=>h.elim
  | .B a b,_,_,_,_,h,bd=>Cc (c:=a) h λe A t h=>by
    cases e with
    |ew=>exact Cc (c:=b) h bd
    |a7 id=>exact bd _ _ _ h
    |aF=>exact bd _ _ _ h
  | .aM c a b,_,_,_,_,h,bd=>by
    refine⟨h.1,?_⟩;have I:=h.2;split at I
    · next e=>rw[if_pos e];exact Cc (c:=a) I bd
    · next e=>rw[if_neg e];exact Cc (c:=b) I bd
  | .block id c,_,_,_,_,h,bd=>Cc (c:=c) h λe A t h=>by
    cases e with
    |ew=>exact bd _ _ _ h
    |aF=>exact bd _ _ _ h
    | a7 jg=>
      simp only at h⊢;split at h
      · next e=>rw[if_pos e];exact bd _ _ _ h
      · next e=>rw[if_neg e];exact bd _ _ _ h
  | .loop _,_,_,_,_,h,bd=>h.b8 bd
theorem h9(Y:Nat->aR->W->Prop)(n:Nat)(step: ∀i A t,i<n->Y i A t-> ∀cS:aR->W->Prop,(∀ak aI,Y (i+1) ak aI->cS ak aI)->jn aC c A t (Be cS Q))
    (azX: ∀A t,Y n A t->jn aC c A t (Be (λ_ _=>False) Q)): ∀(i:Nat) (A:aR) (t:W),i<=n->Y i A t->fZ P (.loop c) A t Q:=by
  have key: ∀(r i:Nat) (A:aR) (t:W),i+r=n->Y i A t->fZ P (.loop c) A t Q:=by
    intro r;induction r with
    | zero=>
      intro i A t ai FZ;have e:i=n:=(by omega);subst e;refine eE (aC:=aC) λcS bm=> ?_;have E:=azX A t FZ;refine Cc E λe A t h=> ?_;cases e with
      |ew=>exact h.elim
      |a7 id=>exact h
      |aF=>exact h
    | succ r cx=>intro i A t ai FZ;exact eE (aC:=aC) λcS bm=>step i A t (by omega) FZ cS λak aI h=>bm _ _ (cx (i+1) ak aI (by omega) h)
  exact λi A t ai FZ=>key (n-i) i A t (by omega) FZ
end
section
variable {P:Program} {t:W}
open Classical in
theorem Ym{M:eM}{u:fQ}{t m:W}(K:ec M u t m){o p j J:Nat}{bh:List (List Value)}{cells:List Value}(aE:t.X o=some ⟨bh.flatten,true⟩)(aw: ∀r∈bh,r.length=J/\ ∀v∈r,ha v=true)
    (ab:t.X p=some ⟨cells,true⟩) (bj:cells[j]?=some (.slice (some ⟨o,0,none⟩) bh.length J)) (cJ:o≠p):
    ∃cP,hp u cP/\(∀b cs,cP b=some cs->u b=some cs\/M o=some b)/\ec M cP ((t.a0 o none).a0 p (some ⟨cells.set j (aj bh J),true⟩)) m:=by
  have qQ:=a6 aE;have ama:=a6 ab;have bK: ∀r∈bh,r.length=J:= λr h=>(aw r h).1;refine⟨λb=>match u b with
    |some cs=>some cs
    |none=>if M o=some b then(m.X b).map (·.cells)else none,λb cs hb=>by simp only[hb],λb cs hb=> ?_,?_⟩
  · simp only at hb;cases dx:u b with
    |some ds=>rw[dx]at hb;exact .inl hb
    | none=>
      rw[dx]at hb;simp only at hb;split at hb
      · next h=>exact .inr h
      · cases hb
  · obtain⟨cP,pc⟩: ∃cP:fQ,cP= λb=>match u b with
      |some cs=>some cs
      |none=>if M o=some b then(m.X b).map (·.cells)else none:=⟨_,rfl⟩
    rw[<-pc];have fR:hp u cP:= λb cs hb=>by rw[pc];simp only[hb]
    have amt: ∀b cs w,M o=some b->m.X b=some ⟨cs,w⟩->cP b=some cs:= λb cs w bZ aP=>by
      rw[pc];simp only;cases oC:u b with
      |some ds=>obtain⟨⟨c3,n4⟩,_⟩:=K.bF b ds oC;rw[aP]at n4;cases n4;rfl
      |none=>simp only;rw[if_pos bZ,aP];rfl
    have rB:((t.a0 o none).a0 p (some ⟨cells.set j (aj bh J),true⟩)).X p=some ⟨cells.set j (aj bh J),true⟩:=eD (by simpa using ama);have bU:((t.a0 o none).a0 p (some ⟨cells.set j (aj bh J),true⟩)).X o=none:=(by rw[bR cJ,eD qQ]);have mg: ∀q,q≠p->q≠o->((t.a0 o none).a0 p (some ⟨cells.set j (aj bh J),true⟩)).X q=t.X q:= λq E I=>by rw[bR E,bR I]
    refine⟨λq x G=> ?_,λq bc bn=> ?_,K.iD,K.inj,K.cV,λb ds hb=> ?_⟩
    · by_cases E:q=p
      · subst E;rw[rB]at G;cases G;rcases K.ij q _ ab with⟨b,ds,w,aK,bb,c0,ea⟩|⟨aK,bb⟩
        · refine .inl ⟨b,ds,w,aK,bb,c0,?_⟩;obtain⟨y,af,ad⟩:=ea.X bj;have rL:b5 cP M (aj bh J) y:=by
            rcases ad.m1 with⟨c,aJ,_,rfl⟩|⟨_,_,cu,rfl⟩
            · obtain⟨cs,c3,en,_,jw⟩:=K.qC aJ aE;have e1:(bh.flatten).length=bh.length*J:=sq bK;refine .iu (off:=0) rfl (amt c cs c3 aJ en) (by rw[<-jw.1];simp only;omega) (λi r ai=>bK r (gJ ai)) λi afY r bt y ai a2 af=> ?_;have mh:=Qf bK ai;have Y4:=(dO.1 a2).1;rw[bK r (gJ ai)]at Y4;have br:(bh.flatten)[i*J+afY]?=some bt:=by
                rw[<-mh,vT,if_pos Y4,zE]at a2;exact a2
              have cW:=jw.2 (i*J+afY) bt y br (by rw[<-af];congr 1;omega);exact J7 fR cW ((aw r (gJ ai)).2 bt (gJ a2))
            · have:bh=[]:=B2 cu;subst this;exact .hR rfl
          have fu:=(ea.b8 fR (fY.refl _)).set j rL;rw[show ds.set j y=ds from by
            apply EY;intro i;rw[s5];split
            · next e=>subst e;rw[af];simp;exact(dO.1 af).1
            · rfl]at fu
          exact fu
        · simp only at bb;subst bb;simp at bj
      · by_cases I:q=o
        · subst I;rw[bU]at G;cases G
        · rw[mg q E I]at G;rcases K.ij q x G with⟨b,ds,w,aK,bb,c0,ea⟩|aK
          · exact .inl ⟨b,ds,w,aK,bb,c0,ea.b8 fR (fY.refl _)⟩
          · exact .inr aK
    · obtain⟨aJ,aU⟩:=iz bn;by_cases E:q=p
      · subst E;rw[rB]at aJ;have:cells=[]:=(by simpa using aJ);subst this;simp at bj
      · by_cases I:q=o
        · subst I;rw[bU]at aJ;cases aJ
        · rw[mg q E I]at aJ;obtain⟨b,de,en,hd,jw⟩:=K.maps q bc (kq aJ aU);exact⟨b,de,en,hd,jw.b8 fR (fY.refl _)⟩
    · have CF:u b=some ds\/(M o=some b/\ ∃w,m.X b=some ⟨ds,w⟩):=by
        rw[pc]at hb;simp only at hb;cases oC:u b with
        |some x=>rw[oC]at hb;simp only at hb;exact .inl hb
        | none=>
          rw[oC]at hb;simp only at hb;split at hb
          · next h=>
            cases aP:m.X b with
            |none=>rw[aP]at hb;cases hb
            |some x=>rw[aP]at hb;cases hb;exact .inr ⟨h,x.own,rfl⟩
          · cases hb
      rcases CF with h|⟨h,w,bS⟩
      · obtain⟨E,I⟩:=K.bF b ds h;refine⟨E,λq x bZ G=> ?_⟩;by_cases aJ:q=p
        · subst aJ;have:=I q _ bZ ab;cases this
        · by_cases aU:q=o
          · subst aU;rw[bU]at G;cases G
          · rw[mg q aJ aU]at G;exact I q x bZ G
      · refine⟨⟨w,bS⟩,λq x bZ G=> ?_⟩;have:q=o:=K.inj q o b bZ h;subst this;rw[bU]at G;cases G
theorem fi.freeze{f:Nat}{args:List Value}{cj mP:Value->W->Prop}(h:fi P f args t cj)(aD: ∀r aI,cj r aI->mP r aI\/ ∃o p j J bh cells,aI.X o=some ⟨bh.flatten,true⟩/\(∀r∈bh,r.length=J/\ ∀v∈r,ha v=true)/\aI.X p=some ⟨cells,true⟩/\
    cells[j]?=some (.slice (some ⟨o,0,none⟩) bh.length J)/\o≠p/\mP r ((aI.a0 o none).a0 p (some ⟨cells.set j (aj bh J),true⟩))):fi P f args t mP:= λM u bY m K aA=>(h M u bY m K aA).b8 λdL bk aQ=>by
  obtain⟨cC,dz,r,bD,E,I,av,aH⟩:=aQ;rcases aD r bD E with jF|⟨o,p,j,J,bh,cells,aK,bb,c0,ea,e9,fo⟩
  · exact⟨cC,dz,r,bD,jF,I,av,aH⟩
  obtain⟨ji,en,hd,jw⟩:=Ym I aK bb c0 ea e9;refine⟨cC,ji,r,_,fo,jw,av.b8 en (fY.refl _),aH.e,aH.f.trans en,aH.kb,λb cs hb=> ?_,aH.jP,aH.jZ,aH.jx,λb hb ⟨q,x,a8,bE,b7⟩=>aH.nT b hb ?_,λb hb ⟨q,x,a8,bE⟩=>aH.nn b hb ?_⟩
  · rcases hd b cs hb with br|br
    · exact aH.fn b cs br
    · by_cases cW:b<m.next
      · exact .inr (.inr (aH.nn b cW ⟨o,_,br,aK⟩))
      · exact .inr (.inl (by omega))
  · by_cases aJ:q=p
    · subst aJ;exact⟨q,_,a8,c0,rfl⟩
    · by_cases aU:q=o
      · subst aU;exact⟨q,_,a8,aK,rfl⟩
      · rw[bR aJ,bR aU]at bE;exact⟨q,x,a8,bE,b7⟩
  · by_cases aJ:q=p
    · subst aJ;exact⟨q,_,a8,c0⟩
    · by_cases aU:q=o
      · subst aU;exact⟨q,_,a8,aK⟩
      · rw[bR aJ,bR aU]at bE;exact⟨q,x,a8,bE⟩
end
open Go
structure WO(bD aI:W):Prop where
  next:aI.next=bD.next
  X: ∀b x,bD.X b=some x->aI.X b=some x
  map: ∀b bc,bD.eS b=some bc->aI.eS b=some bc
section
variable {P:Program} {t bD:W} {l:List Nat}
theorem fi.frame{f:Nat}{args:List Value}{cj:Value->W->Prop}(aB: ∀o∈l,∃x,t.X o=some x/\x.cells≠[])(h:fi P f args (iY t l) cj):
    fi P f args t λr aI=> ∃bD,cj r bD/\WO bD (iY aI l)/\t.next<=aI.next/\ ∀o∈l,aI.X o=t.X o:= λM u bY m K aA=>by
  have Aq:ec M u (iY t l) m:=⟨λo x G=>K.ij o x (qF G).2,λo bc bn=>by have hb:=(qF (iz bn).1).1;rw[PT hb]at bn;exact K.maps o bc bn,K.iD,K.inj,K.cV,λb cs hb=>⟨(K.bF b cs hb).1,λo x bZ G=>(K.bF b cs hb).2 o x bZ (qF G).2⟩⟩;refine(h M u bY m Aq aA).b8 λdL bk aQ=> ?_;obtain⟨cC,dz,r,bD,E,I,av,aH⟩:=aQ;have az:t.next<=bD.next:=aH.jP
  have hq: ∀o∈l,∃x b cs w,t.X o=some x/\x.cells≠[]/\M o=some b/\m.X b=some ⟨cs,w⟩/\(x.own=true->w=true)/\bo u M x.cells cs:= λo aE=>by
    obtain⟨x,G,ar⟩:=aB o aE;rcases K.ij o x G with⟨b,cs,w,bu,bN,cn,eW⟩|⟨_,bN⟩
    · exact⟨x,b,cs,w,G,ar,bu,bN,cn,eW⟩
    · exact absurd bN ar
  have Bp: ∀o∈l,∀b,M o=some b-> ¬B8 M (iY t l) b:= λo aE b hb ⟨p,x,ab,G⟩=>by have:=K.inj p o b ab hb;subst this;rw[PS aE]at G;cases G
  have Qg: ∀o∈l,bD.X o=none:= λo aE=>by
    obtain⟨x,b,cs,w,bu,bN,cn,eW,fU,h4⟩:=hq o aE;cases aP:bD.X o with
    |none=>rfl
    |some y=>exact absurd (aH.nn b (K.cV o b cn).2 ⟨o,y,aH.e o b cn,aP⟩) (Bp o aE b cn)
  have sx: ∀o∈l,(kK t bD l).X o=t.X o:= λo aE=>by obtain⟨x,b,cs,w,bu,_⟩:=hq o aE;exact afZ aE az (a6 bu)
  have amN:WO bD (iY (kK t bD l) l):=⟨rfl,λb x hb=>by
      have:b∉l:= λax=>by rw[Qg b ax]at hb;cases hb
      rw[Kj this,vp this];exact hb,λb bc hb=>by
      have:b∉l:= λax=>by have:=(iz hb).1;rw[Qg b ax]at this;cases this
      rw[PT this,TS this];exact hb⟩
  refine⟨cC,dz,r,kK t bD l,⟨bD,E,amN,az,sx⟩,?_,av,?_⟩
  · refine⟨λo x G=> ?_,λo bc bn=> ?_,I.iD,I.inj,I.cV,λb cs hb=>⟨(I.bF b cs hb).1,λo x bZ G=> ?_⟩⟩
    · by_cases aE:o∈l
      · rw[sx o aE]at G;obtain⟨y,b,cs,w,bu,bN,cn,eW,fU,h4⟩:=hq o aE;rw[bu]at G;cases G;exact .inl ⟨b,cs,w,aH.e o b cn,by rw[aH.jx b (K.cV o b cn).2 λ⟨p,J,a8,bE,_⟩=>Bp o aE b cn ⟨p,J,a8,bE⟩];exact eW,fU,h4.b8 aH.f aH.e⟩
      · rw[vp aE]at G;exact I.ij o x G
    · by_cases aE:o∈l
      · have:=(iz bn).1;rw[sx o aE]at this;obtain⟨y,af,ar⟩:=aB o aE;rw[af]at this;cases this;exact absurd rfl ar
      · rw[TS aE]at bn;exact I.maps o bc bn
    · by_cases aE:o∈l
      · rw[sx o aE]at G;obtain⟨y,cd,lC,w,bu,bN,cn,eW,fU,h4⟩:=hq o aE;have fH:=aH.e o cd cn;rw[bZ]at fH;cases fH;rcases aH.fn b cs hb with q|q|q
        · exact(K.bF b cs q).2 o x cn G
        · have:=(K.cV o b cn).2;omega
        · exact absurd q (Bp o aE b cn)
      · rw[vp aE]at G;exact(I.bF b cs hb).2 o x bZ G
  · refine⟨aH.e,aH.f,aH.kb,λb cs hb=> ?_,az,aH.jZ,λb hb a3=>aH.jx b hb λ⟨p,J,a8,bE,b7⟩=>a3 ⟨p,J,a8,(qF bE).2,b7⟩,λb hb ⟨o,x,a8,bE,b7⟩=> ?_,λb hb ⟨o,x,a8,bE⟩=> ?_⟩
    · rcases aH.fn b cs hb with q|q|⟨p,J,a8,bE⟩
      · exact .inl q
      · exact .inr (.inl q)
      · exact .inr (.inr ⟨p,J,a8,(qF bE).2⟩)
    · by_cases aE:o∈l
      · obtain⟨y,cd,lC,w,bu,bN,cn,_⟩:=hq o aE;have fH:=aH.e o cd cn;rw[a8]at fH;cases fH;rw[sx o aE]at bE;exact⟨o,x,cn,bE,b7⟩
      · rw[vp aE]at bE;obtain⟨p,J,fs,g7,jl⟩:=aH.nT b hb ⟨o,x,a8,bE,b7⟩;exact⟨p,J,fs,(qF g7).2,jl⟩
    · by_cases aE:o∈l
      · obtain⟨y,cd,lC,w,bu,bN,cn,_⟩:=hq o aE;have fH:=aH.e o cd cn;rw[a8]at fH;cases fH;rw[sx o aE]at bE;exact⟨o,x,cn,bE⟩
      · rw[vp aE]at bE;obtain⟨p,J,fs,g7⟩:=aH.nn b hb ⟨o,x,a8,bE⟩;exact⟨p,J,fs,(qF g7).2⟩
def uK(r dL:Value):Prop:= ∀(u:fQ) (M:eM) (v:Value),b5 u M r v->b5 u M dL v
theorem uK.refl(r:Value):uK r r:= λ_ _ _ h=>h
theorem uK.nil{J:Nat}:uK (.slice none 0 0) (aj [] J):= λu M v h=>by rw[h.h7 rfl];exact .hR rfl
def te:List Value->List Value->Prop
  |[],[]=>True
  |x::xs,y::ys=>uK x y/\te xs ys
  |_,_=>False
theorem te.len: ∀{xs ys:List Value},te xs ys->xs.length=ys.length
  |[],[],_=>rfl
  |x::xs,y::ys,h=>by simp[te.len h.2]
  |[],_::_,h=>h.elim
  |_::_,[],h=>h.elim
theorem te.X: ∀{xs ys:List Value},te xs ys-> ∀(i:Nat) (x y:Value),xs[i]?=some x->ys[i]?=some y->uK x y
  |[],[],_,i,x,y,E,_=>by simp at E
  |x::xs,y::ys,h,0,a,b,E,I=>by simp at E I;subst E;subst I;exact h.1
  |x::xs,y::ys,h,i+1,a,b,E,I=>te.X h.2 i a b (by simpa using E) (by simpa using I)
  |[],_::_,h,_,_,_,_,_=>h.elim
  |_::_,[],h,_,_,_,_,_=>h.elim
theorem te.tZ{xs ys lz:List Value}(h:te xs ys){u:fQ}{M:eM}(aB:bo u M xs lz):bo u M ys lz:=by refine⟨by rw[<-h.len];exact aB.1,λi y J af bK=> ?_⟩;have ai:=(dO.1 af).1;have G:xs[i]?=some (xs[i]'(by rw[h.len];exact ai)):=cD _;exact h.X i _ y G af u M J (aB.2 i _ J G bK)
theorem uK.agg{xs ys:List Value}(h:te xs ys):uK (.agg xs.toArray) (.agg ys.toArray):= λu M v ad=>by obtain⟨lz,rfl,aB⟩:=ad.rN;have:=(h.tZ (by simpa using aB)).agg;simpa using this
theorem uK.tuple{xs ys:List Value}(h:te xs ys):uK (.tuple xs.toArray) (.tuple ys.toArray):= λu M v ad=>by obtain⟨lz,rfl,aB⟩:=ad.Ax;have:=(h.tZ (by simpa using aB)).tuple;simpa using this
end
section
variable {P:Program} {aC:ov P} {t:W} {A:aR} {c:H} {Q:dA->aR->W->Prop}
theorem sZ{o p j J:Nat}{bh:List (List Value)}{cells:List Value}(aE:t.X o=some ⟨bh.flatten,true⟩)(aw: ∀r∈bh,r.length=J/\ ∀v∈r,ha v=true)
    (ab:t.X p=some ⟨cells,true⟩) (bj:cells[j]?=some (.slice (some ⟨o,0,none⟩) bh.length J)) (cJ:o≠p) (h:fZ P c A ((t.a0 o none).a0 p (some ⟨cells.set j (aj bh J),true⟩)) Q):fZ P c A t Q:= λau M u ak m K bI=>by
  obtain⟨ji,en,hd,jw⟩:=Ym K aE aw ab bj cJ;refine(h au M ji ak m jw (bI.b8 en (fY.refl _))).b8 λe ba bk aQ=> ?_;obtain⟨cC,dz,dt,iW,E,I,av,aH⟩:=aQ;have fv: ∀q x,((t.a0 o none).a0 p (some ⟨cells.set j (aj bh J),true⟩)).X q=some x-> ∃y,t.X q=some y/\(x.own=true->y.own=true):= λq x G=>by
    by_cases aJ:q=p
    · subst aJ;exact⟨_,ab,λ_=>rfl⟩
    · by_cases aU:q=o
      · subst aU;exact⟨_,aE,λ_=>rfl⟩
      · rw[bR aJ,bR aU]at G;exact⟨x,G,λh=>h⟩
  have c0:eN t.next m.next M u t m M ji ((t.a0 o none).a0 p (some ⟨cells.set j (aj bh J),true⟩)) m:=by
    refine⟨fY.refl _,en,λ_ _ h=> .inl h,λb cs hb=> ?_,by simp,ey _,λ_ _ _=>rfl,λb hb ⟨q,x,a8,bE,b7⟩=> ?_,λb hb ⟨q,x,a8,bE⟩=> ?_⟩
    · rcases hd b cs hb with br|br
      · exact .inl br
      · exact .inr (.inr ⟨o,_,br,aE⟩)
    · obtain⟨y,af,Gs⟩:=fv q x bE;exact⟨q,y,a8,af,Gs b7⟩
    · obtain⟨y,af,_⟩:=fv q x bE;exact⟨q,y,a8,af⟩
  exact⟨cC,dz,dt,iW,E,I,av,c0.trans (aH.zx c0.jP (ey _))⟩
end
inductive o3(g:Nat->Nat->Prop):Value->Value->Prop
  |im {v:Value} (h:ha v=true):o3 g v v
  |cw {o o' off:Nat} (h:g o o'):o3 g (.pointer (some ⟨o,off,none⟩)) (.pointer (some ⟨o',off,none⟩))
  |slice {o o' off l J:Nat} (h:g o o'):o3 g (.slice (some ⟨o,off,none⟩) l J) (.slice (some ⟨o',off,none⟩) l J)
  |agg {xs ys:Array Value} (K:xs.size=ys.size) (h: ∀(i:Nat) (x y:Value),xs[i]?=some x->ys[i]?=some y->o3 g x y):o3 g (.agg xs) (.agg ys)
  |tuple {xs ys:Array Value} (K:xs.size=ys.size) (h: ∀(i:Nat) (x y:Value),xs[i]?=some x->ys[i]?=some y->o3 g x y):o3 g (.tuple xs) (.tuple ys)
def pN(g:Nat->Nat->Prop)(l k:List Value):Prop:=l.length=k.length/\ ∀(i:Nat) (x y:Value),l[i]?=some x->k[i]?=some y->o3 g x y
theorem o3.mL{g:Nat->Nat->Prop}{u:fQ}{cC fP:eM}{v vQ:Value}(h:o3 g v vQ)(aP: ∀o o',g o o'-> ∀b,cC o=some b->fP o'=some b): ∀{w:Value},b5 u cC v w->b5 u fP vQ w:=by
  have iX: ∀{xs ys lz:Array Value},xs.size=ys.size->(∀(i:Nat) (x y:Value),xs[i]?=some x->ys[i]?=some y-> ∀{w:Value},b5 u cC x w->b5 u fP y w)->bo u cC xs.toList lz.toList->ys.size=lz.size/\ ∀(i:Nat) (x y:Value),ys[i]?=some x->lz[i]?=some y->b5 u fP x y:= λ{xs ys lz} K cx aB=>by have E:xs.size=lz.size:=(by simpa using aB.1);refine⟨K.symm.trans E,λi x y G af=> ?_⟩;have ai:i<xs.size:=(by rw[K];exact(uC.1 G).1);exact cx i xs[i] x (zA ai) G (aB.2 i xs[i] y (by simp) (by simpa using af))
  induction h with
  |im ar=>exact λad=>(J7 (hp.refl _) ad ar).b8 (hp.refl _) (fY.nil _)
  | cw h=>intro w ad;obtain⟨b,aJ,_,rfl⟩:=ad.p9;exact .cw (aP _ _ h _ aJ)
  | slice h=>
    intro w ad;rcases ad.m1 with⟨b,aJ,_,rfl⟩|⟨aJ,aU,cu,rfl⟩
    · exact .slice (aP _ _ h _ aJ)
    · simp only at aJ;subst aJ;subst cu;exact .pD
  | agg K _ cx=>intro w ad;obtain⟨lz,rfl,aB⟩:=ad.rN;obtain⟨a,b⟩:=iX K (λi x y G af {w}=>cx i x y G af) aB;exact .agg a b
  | tuple K _ cx=>intro w ad;obtain⟨lz,rfl,aB⟩:=ad.Ax;obtain⟨a,b⟩:=iX K (λi x y G af {w}=>cx i x y G af) aB;exact .tuple a b
theorem pN.mL{g:Nat->Nat->Prop}{u:fQ}{cC fP:eM}{l k:List Value}(h:pN g l k)(aP: ∀o o',g o o'-> ∀b,cC o=some b->fP o'=some b){w:List Value}(ad:bo u cC l w):bo u fP k w:=by
  refine⟨h.1.symm.trans ad.1,λi x y G af=> ?_⟩;have ai:i<l.length:=by rw[h.1];exact(dO.1 G).1
  exact(h.2 i l[i] x (cD ai) G).mL aP (ad.2 i l[i] y (cD ai) af)
theorem pN.cells{g:Nat->Nat->Prop}{l:List Value}(h: ∀v∈l,ha v=true):pN g l l:=
  ⟨rfl,λi x y G af=>by rw[G]at af;cases af;exact .im (h x (gJ G))⟩
theorem o3.ajE{g:Nat->Nat->Prop}{l k:List Value}(h:pN g l k):o3 g (.agg l.toArray) (.agg k.toArray):= .agg (by simpa using h.1) (by simpa using h.2)
theorem pN.nil{g:Nat->Nat->Prop}:pN g [] []:=⟨rfl,by intro i x y h;simp at h⟩
theorem pN.cons{g:Nat->Nat->Prop}{x y:Value}{l k:List Value}(h:o3 g x y)(K:pN g l k):pN g (x::l) (y::k):=by
  refine⟨by simp[K.1],λi a b aA hb=> ?_⟩;cases i with
  |zero=>simp at aA hb;subst aA;subst hb;exact h
  |succ i=>exact K.2 i a b (by simpa using aA) (by simpa using hb)
def Il:Value->Bool
  | .agg cs=>cs.toList.all ha
  |v=>ha v
theorem agL{g:Nat->Nat->Prop}{v:Value}(h:Il v=true):o3 g v v:=by
  unfold Il at h;split at h
  · next cs=>have:=o3.ajE (g:=g) (pN.cells (l:=cs.toList) λv ad=>eQ.1 h v ad);simpa using this
  · exact .im h
def hD:Nat->List (List Value)->W->W
  |_,[],t=>t
  |i,c::l,t=>hD (i+1) l (t.a0 i (some ⟨c,true⟩))
@[simp] theorem aBN{i:Nat}{t:W}:hD i [] t=t:=rfl
@[simp] theorem xh{i:Nat}{t:W}{c:List Value}{l:List (List Value)}:hD i (c::l) t=hD (i+1) l (t.a0 i (some ⟨c,true⟩)):=rfl
theorem BB: ∀{l:List (List Value)} {i:Nat} {t:W},(hD i l t).next=t.next
  |[],_,_=>rfl
  |c::l,i,t=>by rw[xh,BB];rfl
theorem IB: ∀{l:List (List Value)} {i:Nat} {t:W},(hD i l t).mp=t.mp
  |[],_,_=>rfl
  |c::l,i,t=>by rw[xh,IB];rfl
theorem BC: ∀{l:List (List Value)} {i b:Nat} {t:W},b<i->(hD i l t).X b=t.X b
  |[],_,_,_,_=>rfl
  |c::l,i,b,t,h=>by rw[xh,BC (by omega),bR (by omega)]
theorem NZ: ∀{l:List (List Value)} {i j:Nat} {t:W} {c:List Value},i+l.length<=t.next->l[j]?=some c->(hD i l t).X (i+j)=some ⟨c,true⟩
  |[],_,_,_,_,_,h=>by simp at h
  | c::l,i,0,t,x,az,h=>by simp at h;subst h;simp only[pI]at az;rw[xh,BC (by omega)];exact eD (by omega)
  | c::l,i,j+1,t,x,az,h=>by simp only[pI]at az;have:=NZ (l:=l) (i:=i+1) (j:=j) (t:=t.a0 i (some ⟨c,true⟩)) (c:=x) (by simp;omega) (by simpa using h);rw[xh,<-this];congr 1;omega
section
variable {P:Program}
theorem aiB{f n:Nat}{args:List Value}{r:Nat->Value}{bs:Nat->List (List Value)}(az: ∀k,(bs k).length=n)(aA: ∀v∈args,Il v=true)
    (j6:fi P f args g0 λv bD=> ∃tK:List Nat,tK.Nodup/\tK.length=n/\ ∀k,o3 (λo o'=> ∃i:Nat,tK[i]?=some o/\o'=k+i) v (r k)/\ ∀(i:Nat) cs,(bs k)[i]?=some cs-> ∃o kG,tK[i]?=some o/\bD.X o=some ⟨kG,true⟩/\pN (λo o'=> ∃i:Nat,tK[i]?=some o/\o'=k+i) kG cs) (t:W):
    fi P f args t λv aI=>v=r t.next/\aI=hD t.next (bs t.next) (t.cf n):= λM u bY m K aB=>by
  have QI:bo u lr args bY:=⟨aB.1,λi x y G af=>(agL (g:= λ_ _=>False) (aA x (gJ G))).mL (λ_ _ h=>h.elim) (aB.2 i x y G af)⟩;obtain⟨p,ab⟩: ∃p:W,p=⟨m.next,λb=>if(u b).isSome then m.gV b else none,m.mp⟩:=⟨_,rfl⟩;have vB:p.next=m.next:=by rw[ab]
  have Ux:p.mp=m.mp:=by rw[ab]
  have rX: ∀b,p.X b=if(u b).isSome then m.X b else none:= λb=>by
    rw[ab];simp only[W.X];split
    · rfl
    · split<;>rfl
  have part:wa p m:=⟨vB,Ux,λb x G=>by
    rw[rX]at G;split at G
    · exact G
    · cases G⟩
  have QE:uJ u p:= λb cs hb=>by obtain⟨w,a3⟩:=(K.bF b cs hb).1;exact⟨w,by rw[rX,hb];exact a3⟩
  have Aq:ec lr u g0 p:=ahL QE;refine(gp.frame part (j6 lr u bY p Aq QI)).b8 λdL bk aQ=> ?_;obtain⟨lP,⟨cC,dz,v,bD,⟨tK,js,eA,aa⟩,I,av,aH⟩,b4⟩:=aQ;have CK:m.next<=bk.next:=b4.next
  have aNu:lP.next=bk.next:=b4.part.next
  obtain⟨aw,hb⟩:=aa t.next
  obtain⟨aV,cT⟩: ∃aV,aV=bs t.next:=⟨_,rfl⟩
  rw[<-cT]at hb⊢;have alz:aV.length=n:=by rw[cT];exact az _
  obtain⟨fP,KJ⟩: ∃fP:eM,fP= λo=>if o<t.next then M o else match tK[o-t.next]? with|some p=>cC p|none=>none:=⟨_,rfl⟩
  have o9: ∀o,o<t.next->fP o=M o:= λo h=>by rw[KJ];simp only[if_pos h]
  have kb: ∀o,¬o<t.next->fP o=match tK[o-t.next]? with|some p=>cC p|none=>none:= λo h=>by rw[KJ];simp only[if_neg h]
  have P6: ∀i p,tK[i]?=some p->fP (t.next+i)=cC p:= λi p h=>by rw[kb _ (by omega),show t.next+i-t.next=i by omega,h]
  have aP: ∀o o',(∃i:Nat,tK[i]?=some o/\o'=t.next+i)-> ∀b,cC o=some b->fP o'=some b:= λo o' ⟨i,E,I⟩ b hb=>by rw[I,P6 i o E];exact hb
  have FB: ∀p b,cC p=some b->m.next<=b:= λp b h=>(aH.kb p b h).elim (λh=>by cases h) (λh=>by have:=h.2;omega)
  have sr: ∀b cs,dz b=some cs->u b=some cs\/m.next<=b:= λb cs h=>by
    rcases aH.fn b cs h with h|h|⟨o,x,h,_⟩
    · exact .inl h
    · exact .inr (by omega)
    · cases h
  have agH: ∀o,¬o<t.next->M o=none:= λo h=>by
    cases bn:M o with
    |none=>rfl
    |some b=>exact absurd (K.cV o b bn).1 h
  have P1:fY M fP:= λo b h=>by rw[o9 o (K.cV o b h).1];exact h
  have Ba: ∀b,b<m.next->bk.X b=m.X b:= λb hb=>by
    cases aP:p.X b with
    |none=>exact(b4.ky b hb aP).1
    |some x=>rw[part.X b x aP];exact b4.part.X b x (by rw[aH.jx b (by rw[vB];exact hb) λ⟨o,x,h,_⟩=>by cases h];exact aP)
  have new: ∀o b,¬o<t.next->fP o=some b-> ∃i p,o=t.next+i/\tK[i]?=some p/\cC p=some b:= λo b h bn=>by
    rw[kb o h]at bn;split at bn
    · next p ab=>exact⟨o-t.next,p,by omega,ab,bn⟩
    · cases bn
  have bU: ∀o,o<t.next->(hD t.next aV (t.cf n)).X o=t.X o:= λo h=>by rw[BC h,e0 h]
  have Ef:(hD t.next aV (t.cf n)).next=t.next+n:=by rw[BB];rfl
  have YB: ∀o x,¬o<t.next->(hD t.next aV (t.cf n)).X o=some x-> ∃i cs,o=t.next+i/\aV[i]?=some cs/\x=⟨cs,true⟩:= λo x h G=>by
    have E:=a6 G;rw[Ef]at E;have ai:o-t.next<aV.length:=by omega
    have I:=NZ (i:=t.next) (j:=o-t.next) (t:=t.cf n) (l:=aV) (c:=aV[o-t.next]) (by rw[alz];simp[W.cf]) (cD ai);rw[show t.next+(o-t.next)=o by omega,G]at I;exact⟨o-t.next,_,by omega,cD ai,by cases I;rfl⟩
  refine⟨fP,dz,_,_,⟨rfl,rfl⟩,?_,aw.mL aP av,?_⟩
  · refine⟨λo x G=> ?_,λo bc bn=> ?_,λo aE=> ?_,λo o' b h bS=> ?_,λo b h=> ?_,λb cs h=>⟨by obtain⟨w,a3⟩:=(I.bF b cs h).1;exact⟨w,b4.part.X b _ a3⟩,λo x bZ G=> ?_⟩⟩
    · by_cases aE:o<t.next
      · rw[bU o aE]at G;rcases K.ij o x G with⟨b,cs,w,bu,bN,cn,eW⟩|⟨bu,bN⟩
        · exact .inl ⟨b,cs,w,by rw[o9 o aE];exact bu,by rw[Ba b (K.cV o b bu).2];exact bN,cn,eW.b8 aH.f P1⟩
        · exact .inr ⟨by rw[o9 o aE];exact bu,bN⟩
      · obtain⟨i,cs,rfl,jq,rfl⟩:=YB o x aE G;obtain⟨p,kG,a8,bE,b7⟩:=hb i cs jq;rcases I.ij p _ bE with⟨b,ds,w,bu,bN,cn,eW⟩|⟨bu,bN⟩
        · exact .inl ⟨b,ds,w,by rw[P6 i p a8];exact bu,b4.part.X b _ bN,λ_=>cn rfl,b7.mL aP eW⟩
        · refine .inr ⟨by rw[P6 i p a8];exact bu,?_⟩;simp only at bN;subst bN;exact B2 b7.1.symm
    · obtain⟨bO,cA⟩:=iz bn;rw[IB]at cA;by_cases aE:o<t.next
      · rw[bU o aE]at bO;obtain⟨b,de,bu,bN,cn⟩:=K.maps o bc (kq bO cA);obtain⟨g5,gN⟩:=iz bN;have CE:=(K.cV o b bu).2;refine⟨b,de,by rw[o9 o aE];exact bu,?_,cn.b8 aH.f P1⟩;have oC:u b=none:=by
          cases dx:u b with
          |none=>rfl
          |some cs=>have:=(K.bF b cs dx).2 o _ bu bO;cases this
        exact kq (by rw[Ba b CE];exact g5) (by rw[(b4.ky b CE (by rw[rX,oC];rfl)).2.2];exact gN)
      · have:=K.iD o (agH o aE);rw[show(t.cf n).mp=t.mp from rfl,this]at cA;cases cA
    · rw[IB];by_cases h:o<t.next
      · exact K.iD o (by rw[<-o9 o h];exact aE)
      · exact K.iD o (agH o h)
    · by_cases bO:o<t.next
      · rw[o9 o bO]at h;by_cases cA:o'<t.next
        · rw[o9 o' cA]at bS;exact K.inj o o' b h bS
        · obtain⟨i,p,_,_,e⟩:=new o' b cA bS;have:=FB p b e;have:=(K.cV o b h).2;omega
      · obtain⟨i,p,aJ,aU,cu⟩:=new o b bO h;by_cases cA:o'<t.next
        · rw[o9 o' cA]at bS;have:=FB p b cu;have:=(K.cV o' b bS).2;omega
        · obtain⟨cU,lP,dj,dw,h6⟩:=new o' b cA bS;have jH:=I.inj p lP b cu h6;subst jH;have ai:=(dO.1 aU).1;obtain⟨gW,bb⟩:=dO.1 dw;have aK:=(dO.1 aU).2;have:i=cU:=by
            rcases Nat.lt_trichotomy i cU with q|q|q
            · exact absurd (aK.trans bb.symm) (B3.1 js i cU ai gW q)
            · exact q
            · exact absurd (bb.trans aK.symm) (B3.1 js cU i gW ai q)
          omega
    · rw[Ef];by_cases bO:o<t.next
      · rw[o9 o bO]at h;have:=K.cV o b h;exact⟨by omega,by omega⟩
      · obtain⟨i,p,aJ,aU,cu⟩:=new o b bO h;have:=(dO.1 aU).1;exact⟨by omega,by have:=(I.cV p b cu).2;omega⟩
    · by_cases bO:o<t.next
      · rw[o9 o bO]at bZ;rw[bU o bO]at G;rcases sr b cs h with h|h
        · exact(K.bF b cs h).2 o x bZ G
        · have:=(K.cV o b bZ).2;omega
      · obtain⟨i,p,aJ,aU,cu⟩:=new o b bO bZ;obtain⟨cU,c,dj,dw,h6⟩:=YB o x bO G;have:cU=i:=(by omega);subst this;obtain⟨lP,kG,a8,bE,b7⟩:=hb cU c dw;rw[aU]at a8;cases a8;have:=(I.bF b cs h).2 p _ cu bE;cases this
  · refine⟨P1,aH.f,λo b h=> ?_,λb cs h=>(sr b cs h).elim .inl λh=> .inr (.inl h),by rw[Ef];omega,CK,λb hb _=>Ba b hb,λb hb ⟨o,x,a8,bE,b7⟩=> ?_,λb hb ⟨o,x,a8,bE⟩=> ?_⟩
    · by_cases bO:o<t.next
      · rw[o9 o bO]at h;exact .inl h
      · obtain⟨i,p,aJ,aU,cu⟩:=new o b bO h;exact .inr ⟨by omega,FB p b cu⟩
    · by_cases bO:o<t.next
      · rw[o9 o bO]at a8;rw[bU o bO]at bE;exact⟨o,x,a8,bE,b7⟩
      · obtain⟨i,p,aJ,aU,cu⟩:=new o b bO a8;have:=FB p b cu;omega
    · by_cases bO:o<t.next
      · rw[o9 o bO]at a8;rw[bU o bO]at bE;exact⟨o,x,a8,bE⟩
      · obtain⟨i,p,aJ,aU,cu⟩:=new o b bO a8;have:=FB p b cu;omega
end
section
variable {P:Program}
abbrev dm(o n J:Nat):Value:= .slice (some ⟨o,0,none⟩) n J
theorem Wp{f n J:Nat}{args cells:List Value}(aA: ∀v∈args,Il v=true)(ar: ∀v∈cells,ha v=true)
    (j6:fi P f args g0 λv bD=> ∃o,v=dm o n J/\bD.X o=some ⟨cells,true⟩) (t:W):fi P f args t λv aI=>v=dm t.next n J/\aI=(t.cf 1).a0 t.next (some ⟨cells,true⟩):=
  aiB (r:= λk=>dm k n J) (bs:= λ_=>[cells]) (n:=1) (λ_=>rfl) aA (j6.b8 λv bD ⟨o,ad,aP⟩=>⟨[o],by simp,rfl,λk=>⟨by
    rw[ad];exact .slice ⟨0,rfl,rfl⟩,λi cs jq=>by
      cases i with
      |zero=>simp at jq;subst jq;exact⟨o,cells,rfl,aP,pN.cells ar⟩
      |succ i=>simp at jq⟩⟩) t
theorem VY{f n J:Nat}{args:List Value}{bh:List (List Value)}(az:n=bh.length)(aw: ∀r∈bh,r.length=J/\ ∀v∈r,ha v=true)
    (j6:fi P f args g0 λv bD=> ∃o,v=dm o n J/\bD.X o=some ⟨bh.flatten,true⟩):bH P f args (aj bh J):=
  ei (j6.b8 λv t ⟨o,ad,aP⟩=>by rw[ad];exact ss (n:=8) aP az aw)
open Classical in
noncomputable def ie.FH(f:Nat)(eo:Type)(bX:eo->Prop)(enc:eo->List Value)(n J:eo->Nat)(cells:eo->List Value)
    (ok: ∀x,bX x-> ∀t,fi P f (enc x) t λv aI=>v=dm t.next (n x) (J x)/\aI=(t.cf 1).a0 t.next (some ⟨cells x,true⟩)):ie P:=
  ⟨f,λargs t=>if h: ∃x,bX x/\enc x=args then some (dm t.next (n h.choose) (J h.choose),(t.cf 1).a0 t.next (some ⟨cells h.choose,true⟩))else none,λargs t r aI h cj iB=>by
    split at h
    · next G=>cases h;have:=ok _ G.choose_spec.1 t;rw[G.choose_spec.2]at this;exact this.b8 λv aI ⟨a,b⟩=>by rw[a,b];exact iB
    · cases h⟩
theorem ie.Qh{f:Nat}{eo:Type}{bX:eo->Prop}{enc:eo->List Value}{n J:eo->Nat}{cells:eo->List Value}{ok: ∀x,bX x-> ∀t,fi P f (enc x) t λv aI=>v=dm t.next (n x) (J x)/\aI=(t.cf 1).a0 t.next (some ⟨cells x,true⟩)}{x:eo}{t:W}(ab:bX x)(ai: ∀y,enc y=enc x->y=x):
    (ie.FH (P:=P) f eo bX enc n J cells ok).fn (enc x) t=some (dm t.next (n x) (J x),(t.cf 1).a0 t.next (some ⟨cells x,true⟩)):=by
  have gP: ∃y,bX y/\enc y=enc x:=⟨x,ab,rfl⟩;simp only[ie.FH,dif_pos gP];rw[ai _ gP.choose_spec.2]
end
def iV{c4:Type}(n:Nat)(f:Nat->c4):List c4:=(List.range n).map f
section
variable {c4 lb:Type} {n i:Nat} {f g:Nat->c4}
@[simp] theorem N4:(iV n f).length=n:=by simp[iV]
theorem na(h:i<n):(iV n f)[i]?=some (f i):=by simp[iV,h]
theorem oO(h: ∀j,j<n->f j=g j):iV n f=iV n g:=by unfold iV;exact zD λj bj=>h j (ou.1 bj)
theorem zc{x:c4}:(iV n f).set i x=iV n (λj=>if j=i then x else f j):=by
  apply EY;intro j;rw[s5];by_cases bj:j<n
  · by_cases e:i=j
    · subst e;rw[if_pos rfl,if_pos (by simpa using bj),na bj,if_pos rfl]
    · rw[if_neg e,na bj,na bj,if_neg λh=>e h.symm]
  · have E: ∀(k:Nat->c4),(iV n k)[j]?=none:= λk=>qv (by simp;omega);rw[E,E];split
    · rw[if_neg (by simp;omega)]
    · rfl
theorem IG{h:c4->lb}:(iV n f).map h=iV n λj=>h (f j):=by simp[iV]
theorem N5{x:c4}:List.replicate n x=iV n λ_=>x:=by
  apply EY;intro j;by_cases bj:j<n
  · rw[na bj];simp[bj]
  · rw[qv (by simp;omega),qv (by simp;omega)]
theorem aCi{x:c4}(h:x∈iV n f): ∃j,j<n/\x=f j:=by simp only[iV,hn,ou]at h;obtain⟨j,a,b⟩:=h;exact⟨j,a,b.symm⟩
theorem N6:iV (n+1) f=iV n f++[f n]:=by simp[iV,List.range_succ]
end
section
variable {P:Program}
open Classical in
theorem O3{f:Nat}{args cs kG:List Value}{r:Value}(cJ:cs≠[])(amn:kG≠[])(jq: ∀v∈cs,ha v=true)(alR: ∀v∈kG,ha v=true)(aA: ∀v∈args,Il v=true)
    (j6:fi P f (.pointer (some ⟨0,0,none⟩)::args) ((g0.cf 1).a0 0 (some ⟨cs,true⟩)) λv bD=>dI 9 bD v=some r/\bD.X 0=some ⟨kG,true⟩/\0∉ed 9 bD v) {t:W} {o:Nat} (aE:t.X o=some ⟨cs,true⟩):
    fi P f (.pointer (some ⟨o,0,none⟩)::args) t λv aI=>v=r/\aI=t.a0 o (some ⟨kG,true⟩):= λM u bY m K aB=>by
  obtain⟨b,ds,air,bZ,sD,amw,Y8⟩: ∃b ds w,M o=some b/\m.X b=some ⟨ds,w⟩/\(true=true->w=true)/\bo u M cs ds:=by
    rcases K.ij o _ aE with⟨b,ds,w,bu,bN,cn,eW⟩|⟨_,bN⟩
    · exact⟨b,ds,w,bu,bN,cn,eW⟩
    · exact absurd bN cJ
  have amV:=amw rfl;subst amV;have oC:u b=none:=by
    cases dx:u b with
    |none=>rfl
    |some c=>have:=(K.bF b c dx).2 o _ bZ aE;cases this
  obtain⟨p,ab⟩: ∃p:W,p=⟨m.next,λq=>if(u q).isSome\/q=b then m.gV q else none,m.mp⟩:=⟨_,rfl⟩;have vB:p.next=m.next:=by rw[ab]
  have rX: ∀q,p.X q=if(u q).isSome\/q=b then m.X q else none:= λq=>by
    rw[ab];simp only[W.X];split
    · rfl
    · split<;>rfl
  have part:wa p m:=⟨vB,by rw[ab],λq x G=>by
    rw[rX]at G;split at G
    · exact G
    · cases G⟩
  obtain⟨zK,YF⟩: ∃zK:eM,zK= λq=>if q=0 then some b else none:=⟨_,rfl⟩
  have PX:zK 0=some b:=by rw[YF];rfl
  have hV: ∀q c,zK q=some c->q=0/\c=b:= λq c h=>by
    rw[YF]at h;simp only at h;split at h
    · next e=>cases h;exact⟨e,rfl⟩
    · cases h
  have KO:=a6 sD;have aEe:((g0.cf 1).a0 0 (some (fB.mk cs true))).X 0=some ⟨cs,true⟩:=eD (by simp[g0]);have ah1: ∀q x,((g0.cf 1).a0 0 (some (fB.mk cs true))).X q=some x->q=0/\x=⟨cs,true⟩:= λq x G=>by have:=a6 G;simp[g0]at this;subst this;rw[aEe]at G;cases G;exact⟨rfl,rfl⟩
  have XE: ∀{cC fP:eM} {dz:fQ} {l k:List Value},(∀v∈l,ha v=true)->bo dz cC l k->bo dz fP l k:= λ{cC fP dz l k} ar h=>(pN.cells (g:= λ_ _=>False) ar).mL (λ_ _ h=>h.elim) h;have Aq:ec zK u ((g0.cf 1).a0 0 (some ⟨cs,true⟩)) p:=by
    refine⟨λq x G=> ?_,λq bc bn=> ?_,λq _=>rfl,λq N1 c h bS=>by rw[(hV q c h).1,(hV N1 c bS).1],λq c h=> ?_,λc fL h=>⟨?_,λq x bd G=> ?_⟩⟩
    · obtain⟨rfl,rfl⟩:=ah1 q x G;exact .inl ⟨b,ds,true,PX,by rw[rX,if_pos (.inr rfl)];exact sD,λ_=>rfl,XE jq Y8⟩
    · obtain⟨_,e⟩:=ah1 q _ (iz bn).1;simp only[fB.mk.injEq,and_true]at e;exact absurd e.symm cJ
    · obtain⟨rfl,rfl⟩:=hV q c h;exact⟨by simp[g0],by rw[vB];exact KO⟩
    · obtain⟨w,a3⟩:=(K.bF c fL h).1;exact⟨w,by rw[rX,if_pos (.inl (by rw[h];rfl))];exact a3⟩
    · obtain⟨rfl,rfl⟩:=hV q c bd;rw[oC]at h;cases h
  have QI:bo u zK (.pointer (some ⟨0,0,none⟩)::args) bY:=by
    cases bY with
    |nil=>have:=aB.1;simp at this
    | cons a Cg=>have E:=aB.2 0 _ a rfl rfl;obtain⟨c,en,_,rfl⟩:=E.p9;simp only at en;rw[bZ]at en;cases en;refine bo.cons (.cw PX) ⟨by simpa using aB.1,λi x y G af=> ?_⟩;exact(agL (g:= λ_ _=>False) (aA x (gJ G))).mL (λ_ _ h=>h.elim) (aB.2 (i+1) x y (by simpa using G) (by simpa using af))
  refine(gp.frame part (j6 zK u bY p Aq QI)).b8 λdL bk aQ=> ?_;obtain⟨lP,⟨cC,dz,v,bD,⟨aw,tC,amH⟩,I,av,aH⟩,b4⟩:=aQ;have CK:m.next<=bk.next:=b4.next
  have Kn:cC 0=some b:=aH.e 0 b PX;have sr: ∀c fL,dz c=some fL->u c=some fL\/m.next<=c:= λc fL h=>by
    rcases aH.fn c fL h with br|br|⟨q,x,br,_⟩
    · exact .inl br
    · exact .inr (by omega)
    · obtain⟨rfl,rfl⟩:=hV q c br;have:=(I.bF _ fL h).2 0 _ Kn tC;cases this
  have akR: ∀q c,cC q=some c->c=b\/m.next<=c:= λq c h=>by
    rcases aH.kb q c h with br|br
    · exact .inl (hV q c br).2
    · exact .inr (by have:=br.2;omega)
  have Ba: ∀c,c<m.next->c≠b->bk.X c=m.X c:= λc ar yd=>by
    cases aP:p.X c with
    |none=>exact(b4.ky c ar aP).1
    | some x=>rw[part.X c x aP];refine b4.part.X c x ?_;rw[aH.jx c (by rw[vB];exact ar) λ⟨q,x,br,_⟩=>yd (hV q c br).2];exact aP
  obtain⟨ji,QB⟩: ∃ji:fQ,ji= λc=>match dz c with
    |some fL=>some fL
    |none=>if c≠b/\ ∃q,cC q=some c then(lP.X c).map (·.cells)else none:=⟨_,rfl⟩
  have Qc:hp dz ji:= λc fL h=>by rw[QB];simp only[h]
  have dw: ∀c fL,ji c=some fL->dz c=some fL\/(m.next<=c/\ ∃w,lP.X c=some ⟨fL,w⟩):= λc fL h=>by
    rw[QB]at h;simp only at h;split at h
    · next br=>cases h;exact .inl br
    · split at h
      · next br=>
        obtain⟨yd,q,bd⟩:=br;right;refine⟨(akR q c bd).resolve_left yd,?_⟩;cases aP:lP.X c with
        |none=>rw[aP]at h;cases h
        |some x=>rw[aP]at h;cases h;exact⟨x.own,rfl⟩
      · cases h
  have aEO:b5 ji lr r dL:=FJ I Qc 9 av aw λq bd fv c fL w Zl aP=>by
    rw[QB];simp only;cases QD:dz c with
    |some ns=>obtain⟨⟨c3,n4⟩,_⟩:=I.bF c ns QD;rw[aP]at n4;cases n4;rfl
    | none=>
      have yd:c≠b:= λe=>by subst e;have:=I.inj q 0 c Zl Kn;subst this;exact amH bd
      simp only;rw[if_pos ⟨yd,q,Zl⟩,aP];rfl
  obtain⟨zS,c8,p5,Y9⟩: ∃zS c8,lP.X b=some ⟨zS,c8⟩/\(c8=true/\bo dz cC kG zS):=by
    rcases I.ij 0 _ tC with⟨c,d,w,bu,bN,cn,eW⟩|⟨bu,_⟩
    · rw[Kn]at bu;cases bu;exact⟨d,w,bN,cn rfl,eW⟩
    · rw[Kn]at bu;cases bu
  have cB:=a6 aE;have bb: ∀q,q≠o->(t.a0 o (some ⟨kG,true⟩)).X q=t.X q:= λq h=>bR h;have Yv:(t.a0 o (some (fB.mk kG true))).X o=some ⟨kG,true⟩:=eD cB;have Bq: ∀q c,M q=some c->q≠o->c≠b:= λq c h bd e=>bd (K.inj q o b (e▸h) bZ);have Qd:hp u ji:=aH.f.trans Qc;refine⟨M,ji,_,_,⟨rfl,rfl⟩,?_,aEO.b8 (hp.refl _) (fY.nil _),?_⟩
  · refine⟨λq x G=> ?_,λq bc bn=> ?_,K.iD,K.inj,λq c h=>⟨(K.cV q c h).1,by have:=(K.cV q c h).2;omega⟩,λc fL h=>⟨?_,λq x bd G=> ?_⟩⟩
    · by_cases bd:q=o
      · subst bd;rw[Yv]at G;cases G;exact .inl ⟨b,zS,c8,bZ,b4.part.X b _ p5,λ_=>Y9.1,(XE alR Y9.2).b8 Qc (fY.refl _)⟩
      · rw[bb q bd]at G;rcases K.ij q x G with⟨c,d,w,bu,bN,cn,eW⟩|bu
        · exact .inl ⟨c,d,w,bu,by rw[Ba c (K.cV q c bu).2 (Bq q c bu bd)];exact bN,cn,eW.b8 Qd (fY.refl _)⟩
        · exact .inr bu
    · obtain⟨bO,cA⟩:=iz bn;by_cases bd:q=o
      · subst bd;rw[Yv]at bO;simp only[lV,fB.mk.injEq,and_true]at bO;exact absurd bO amn
      · rw[bb q bd]at bO;obtain⟨c,de,bu,bN,cn⟩:=K.maps q bc (kq bO cA);obtain⟨g5,gN⟩:=iz bN;have ca:=(K.cV q c bu).2;have yd:=Bq q c bu bd;have QD:u c=none:=by
          cases dx:u c with
          |none=>rfl
          |some d=>have:=(K.bF c d dx).2 q _ bu bO;cases this
        refine⟨c,de,bu,?_,cn.b8 Qd (fY.refl _)⟩;exact kq (by rw[Ba c ca yd];exact g5) (by rw[(b4.ky c ca (by rw[rX,QD,if_neg (by simp[yd])])).2.2];exact gN)
    · rcases dw c fL h with br|⟨br,w,cW⟩
      · obtain⟨w,a3⟩:=(I.bF c fL br).1;exact⟨w,b4.part.X c _ a3⟩
      · exact⟨w,b4.part.X c _ cW⟩
    · have ev:=(K.cV q c bd).2;have dx:u c=some fL:=by
        rcases dw c fL h with br|⟨br,_⟩
        · exact(sr c fL br).resolve_right (by omega)
        · omega
      by_cases yn:q=o
      · subst yn;rw[bZ]at bd;cases bd;rw[oC]at dx;cases dx
      · rw[bb q yn]at G;exact(K.bF c fL dx).2 q x bd G
  · refine⟨fY.refl _,Qd,λ_ _ h=> .inl h,λc fL h=> ?_,ey _,CK,λc ar a3=> ?_,λc ar ⟨q,x,a8,bE,b7⟩=> ?_,λc ar ⟨q,x,a8,bE⟩=> ?_⟩
    · rcases dw c fL h with br|⟨br,_⟩
      · rcases sr c fL br with cW|cW
        · exact .inl cW
        · exact .inr (.inl cW)
      · exact .inr (.inl br)
    · exact Ba c ar λe=>a3 ⟨o,_,e▸bZ,aE,rfl⟩
    · by_cases yn:q=o
      · subst yn;exact⟨q,_,a8,aE,rfl⟩
      · rw[bb q yn]at bE;exact⟨q,x,a8,bE,b7⟩
    · by_cases yn:q=o
      · subst yn;exact⟨q,_,a8,aE⟩
      · rw[bb q yn]at bE;exact⟨q,x,a8,bE⟩
end
section
variable {P:Program} {t m aq:W} {M:eM} {u:fQ}
theorem aDW(K:ec M u t m){q:Nat}{cs:List Value}(bd:m.next<=q)(amC:q<aq.next)(aP:aq.X q=some ⟨cs,true⟩)(az:m.next<=aq.next)(aa: ∀b,b<m.next->aq.X b=m.X b/\aq.mp b=m.mp b)(e1:cs.all dZ=true):
    ec (hi M t.next q) u ((t.cf 1).a0 t.next (some ⟨cs,true⟩)) aq/\eN t.next m.next M u t m (hi M t.next q) u ((t.cf 1).a0 t.next (some ⟨cs,true⟩)) aq:=by
  have bZ:M t.next=none:=by
    cases bn:M t.next with
    |none=>rfl
    |some b=>have:=(K.cV _ _ bn).1;omega
  have z6: ∀{o b:Nat},hi M t.next q o=some b->(o=t.next/\b=q)\/(o≠t.next/\M o=some b):= λ{o b} h=>by
    simp only[hi]at h;split at h
    · next e=>cases h;exact .inl ⟨e,rfl⟩
    · next e=>exact .inr ⟨e,h⟩
  have sF: ∀{o:Nat},o≠t.next->((t.cf 1).a0 t.next (some ⟨cs,true⟩)).X o=t.X o:= λaE=>by rw[bR aE,W.e0]
  have al0: ∀{b:Nat} {bc:List (Value×Value)},b<m.next->m.eS b=some bc->aq.eS b=some bc:= λ{b bc} hb bn=>by obtain⟨aJ,aU⟩:=iz bn;exact kq (by rw[(aa b hb).1,aJ]) (by rw[(aa b hb).2,aU])
  refine⟨⟨λo x G=> ?_,λo bc bn=> ?_,λo h=> ?_,λo o' b h bS=> ?_,λo b h=> ?_,λb ds h=> ?_⟩,⟨fY.set bZ,hp.refl _,λo b h=> ?_,λb ds h=> .inl h,by simp,az,λb hb _=>(aa b hb).1,λb hb=> λ⟨o,y,h,bS,rC⟩=> ?_,λb hb=> λ⟨o,y,h,bS⟩=> ?_⟩⟩
  · by_cases aE:o=t.next
    · subst aE;rw[eD (by simp)]at G;cases G;exact .inl ⟨q,cs,true,by simp[hi],aP,λ_=>rfl,bo.cH e1⟩
    · rw[sF aE]at G;rcases K.ij o x G with⟨b,ds,w,E,I,av,aH⟩|⟨E,I⟩
      · exact .inl ⟨b,ds,w,by simp[hi,aE,E],by rw[(aa b (K.cV o b E).2).1,I],av,aH.b8 (hp.refl _) (fY.set bZ)⟩
      · exact .inr ⟨by simp[hi,aE,E],I⟩
  · by_cases aE:o=t.next
    · subst aE;have:=(iz bn).2;rw[show((t.cf 1).a0 t.next (some ⟨cs,true⟩)).mp=t.mp from rfl,K.iD _ bZ]at this;cases this
    · rw[tv aE]at bn;obtain⟨aJ,aU⟩:=iz bn;rw[W.e0]at aJ;obtain⟨b,de,E,I,av⟩:=K.maps o bc (kq aJ aU);exact⟨b,de,by simp[hi,aE,E],al0 (K.cV o b E).2 I,av.b8 (hp.refl _) (fY.set bZ)⟩
  · simp only[hi]at h;split at h
    · cases h
    · exact K.iD o h
  · rcases z6 h with⟨bu,bN⟩|⟨bu,bN⟩<;>rcases z6 bS with⟨bO,cA⟩|⟨bO,cA⟩
    · rw[bu,bO]
    · have:=(K.cV _ _ cA).2;omega
    · have:=(K.cV _ _ bN).2;omega
    · exact K.inj o o' b bN cA
  · rcases z6 h with⟨bu,bN⟩|⟨bu,bN⟩
    · subst bu;subst bN;exact⟨by simp,amC⟩
    · have:=K.cV o b bN;simp only[mr,y3];omega
  · obtain⟨⟨w,E⟩,I⟩:=K.bF b ds h;have hb:=a6 E;refine⟨⟨w,by rw[(aa b hb).1,E]⟩,λo x aE G=> ?_⟩;rcases z6 aE with⟨bu,bN⟩|⟨bu,bN⟩
    · omega
    · rw[sF bu]at G;exact I o x bN G
  · rcases z6 h with⟨bu,bN⟩|⟨bu,bN⟩
    · exact .inr (by omega)
    · exact .inl bN
  · rcases z6 h with⟨bu,bN⟩|⟨bu,bN⟩
    · omega
    · exact⟨o,y,bN,by rw[sF bu]at bS;exact bS,rC⟩
  · rcases z6 h with⟨bu,bN⟩|⟨bu,bN⟩
    · omega
    · exact⟨o,y,bN,by rw[sF bu]at bS;exact bS⟩
theorem aDX(K:ec M u t m)(az:m.next<=aq.next)(aa: ∀b,b<m.next->aq.X b=m.X b/\aq.mp b=m.mp b):
    ec M u ((t.cf 1).a0 t.next (some ⟨[],true⟩)) aq/\eN t.next m.next M u t m M u ((t.cf 1).a0 t.next (some ⟨[],true⟩)) aq:=by
  have bZ:M t.next=none:=by
    cases bn:M t.next with
    |none=>rfl
    |some b=>have:=(K.cV _ _ bn).1;omega
  have cJ: ∀{o b:Nat},M o=some b->o≠t.next:= λh e=>by subst e;rw[bZ]at h;cases h
  have sF: ∀{o:Nat},o≠t.next->((t.cf 1).a0 t.next (some ⟨[],true⟩)).X o=t.X o:= λaE=>by rw[bR aE,W.e0]
  refine⟨⟨λo x G=> ?_,λo bc bn=> ?_,K.iD,K.inj,λo b h=> ?_,λb ds h=> ?_⟩,⟨fY.refl _,hp.refl _,λo b h=> .inl h,λb ds h=> .inl h,by simp,az,λb hb _=>(aa b hb).1,λb hb=> λ⟨o,y,h,bS,rC⟩=> ?_,λb hb=> λ⟨o,y,h,bS⟩=> ?_⟩⟩
  · by_cases aE:o=t.next
    · subst aE;rw[eD (by simp)]at G;cases G;exact .inr ⟨bZ,rfl⟩
    · rw[sF aE]at G;rcases K.ij o x G with⟨b,ds,w,E,I,av,aH⟩|E
      · exact .inl ⟨b,ds,w,E,by rw[(aa b (K.cV o b E).2).1,I],av,aH⟩
      · exact .inr E
  · by_cases aE:o=t.next
    · subst aE;have:=(iz bn).2;rw[show((t.cf 1).a0 t.next (some ⟨[],true⟩)).mp=t.mp from rfl,K.iD _ bZ]at this;cases this
    · rw[tv aE]at bn;obtain⟨aJ,aU⟩:=iz bn;rw[W.e0]at aJ;obtain⟨b,de,E,I,av⟩:=K.maps o bc (kq aJ aU);obtain⟨en,hd⟩:=iz I;have hb:=(K.cV o b E).2;exact⟨b,de,E,kq (by rw[(aa b hb).1,en]) (by rw[(aa b hb).2,hd]),av⟩
  · have:=K.cV o b h;simp only[mr,y3];omega
  · obtain⟨⟨w,E⟩,I⟩:=K.bF b ds h;refine⟨⟨w,by rw[(aa b (a6 E)).1,E]⟩,λo x aE G=> ?_⟩;rw[sF (cJ aE)]at G;exact I o x aE G
  · exact⟨o,y,h,by rw[sF (cJ h)]at bS;exact bS,rC⟩
  · exact⟨o,y,h,by rw[sF (cJ h)]at bS;exact bS⟩
theorem aE2{f n J:Nat}{args cs:List Value}(e1:cs.all dZ=true)
    (j6: ∀(M:eM) (u:fQ) (fb:List Value) (m:W),ec M u t m->bo u M args fb->gp P f fb m λr aq=>m.next<=aq.next/\(∀b,b<m.next->aq.X b=m.X b/\aq.mp b=m.mp b)/\
      ((n=0/\cs=[]/\r= .slice none 0 0)\/ ∃q,m.next<=q/\q<aq.next/\r= .slice (some ⟨q,0,none⟩) n J/\aq.X q=some ⟨cs,true⟩)):
    fi P f args t λv aI=>v=dm t.next n J/\aI=(t.cf 1).a0 t.next (some ⟨cs,true⟩):= λM u fb m K aA=>by
  refine(j6 M u fb m K aA).b8 λr aq aQ=> ?_;obtain⟨E,I,⟨av,aH,br⟩|⟨q,av,aH,br,cW⟩⟩:=aQ
  · subst av;subst aH;subst br;obtain⟨aK,bb⟩:=aDX K E I;exact⟨M,u,_,_,⟨rfl,rfl⟩,aK,.pD,bb⟩
  · obtain⟨aK,bb⟩:=aDW K av aH cW E I e1;exact⟨_,u,_,_,⟨rfl,rfl⟩,aK,by rw[br];exact .slice (by simp[hi]),bb⟩
end
end Go.DI
namespace Go
noncomputable abbrev al:=Go.Proofs.Tryz.prog
abbrev aX:Value:= .slice none 0 0
abbrev aG:Value:= .int .i64 0
end Go
namespace Go.Proofs.YtmmkkggfmigppaaGreat
open Go Go.DI
def abn:H:= .B (.D [z 0 3 0,n9 1 4 3,z 2 5 0,yZ 3 6 5 32,n9 4 7 6,a4 5 8 (.gM 1 2 [.int .u32 0,.int .u32 0] [(0,1,F 4),(1,1,F 7)]),b0 6 9 194 [F 8],z 7 2 9]) (.aF)
def abl:H:=
  .B (
  .D [
 dV 0 2]) abn
def Lz:bM:=⟨10,[.bw 2],abl⟩
theorem abm:bW al 168=some Lz:=by kernel_rfl
def LQ:H:= .B (.B (.D [z 0 6 3,jX 1 7 6 0,z 2 8 7,dg 3 9 8 0,dg 4 10 8 3,rS 5 11 8 10,ml 6 12 8 1 9 11,dQ 7 13 8 12,cQ 8 14 8 true (.e8 .eql .fW (F 13) (.const (.int .u32 0))),cR 9 15 8 14]) (.aM (F 15) (.skip) (.a7 0))) (.block 1 (.D [z 0 16 3,h0 1 17 16 1,z 2 3 17]))
def Dg:H:= .B (.D [z 0 18 0,z 1 19 3,qY 2 20 1 18 19,D4 3 21 4 20,z 4 2 21]) (.aF)
def So:H:= .B (.block 0 (.loop LQ)) Dg
def Sn:H:= .B (.D [z 0 4 0,bq 1 5 4,z 2 3 5]) So
def Sl:H:=
  .B (
  .D [
 dV 0 2]) Sn
def Df:bM:=⟨22,[.bw 2],Sl⟩
theorem Sm:bW al 194=some Df:=by kernel_rfl
def L3:H:= .B (.B (.D [z 0 20 7,bq 1 21 20,jX 2 22 21 0]) (.aM (F 22) (.skip) (.a7 0))) (.block 1 (.B (.D [z 0 24 6,z 1 25 7,db 2 26 247 24 25,z 3 23 26,b3 4 27 0 23,b3 5 28 1 23,z 6 8 27,z 7 9 28]) (.D [z 0 29 7,z 1 30 9,z 2 6 29,z 3 7 30])))
def Ht:H:= .B (.D [z 0 31 6,z 1 4 31,a5 2 5 0]) (.aF)
def acy:H:= .B (.block 0 (.loop L3)) Ht
def acx:H:= .B (.D [z 0 16 0,b0 1 17 194 [F 16],z 2 18 1,b0 3 19 194 [F 18],z 4 6 17,z 5 7 19]) acy
def acw:H:= .B (.B (.D [z 0 10 0,b0 1 11 246 [F 10],z 2 12 11,du 3 13 12 1,jv 4 14 12 246 13,c6 5 15 12 14]) (.aM (F 15) (.B (.D [dV 0 4,a5 1 5 2]) (.aF)) (.skip))) acx
def acu:H:=
  .B (
  .D [
 dV 0 4,
 a5 1 5 0]) acw
def L2:bM:=⟨32,[.bw 4,.bw 5],acu⟩
theorem acv:bW al 213=some L2:=by kernel_rfl
def L6:H:= .B (.block 1 (.D [z 0 22 4,cI 1 23 22,z 2 4 23])) (.D [z 0 20 5,yZ 1 21 20 1,z 2 5 21])
def Hu:H:= .B (.B (.D [z 0 18 5,df 1 19 .gtr (F 18) (.const (.int .u32 0))]) (.aM (F 19) (.skip) (.a7 0))) L6
def acJ:H:= .B (.D [z 0 24 4,z 1 2 24]) (.aF)
def acI:H:= .B (.B (.D [z 0 13 0,z 1 14 3,h0 2 15 14 1,aY 3 16 1 13 15,ao 4 17 16,z 5 5 17]) (.block 0 (.loop Hu))) acJ
def acH:H:= .B (.D [z 0 10 3,h0 1 11 10 1,df 2 12 .mul (F 11) (.const (.int .i64 32)),z 3 4 12]) acI
def acG:H:= .B (.B (.D [z 0 8 3,kI 1 9 8 0]) (.aM (F 9) (.B (.D [a5 0 2 0]) (.aF)) (.skip))) acH
def acF:H:= .B (.D [z 0 6 0,b0 1 7 248 [F 6],z 2 3 7]) acG
def acD:H:=
  .B (
  .D [
 a5 0 2 0]) acF
def L5:bM:=⟨25,[.bw 2],acD⟩
theorem acE:bW al 216=some L5:=by kernel_rfl
def as7:H:= .B (.D [z 0 10 3,z 1 11 3,b0 2 12 248 [F 11],qY 3 13 1 10 12,z 4 2 13]) (.aF)
def as6:H:= .B (.D [z 0 4 0,n9 1 5 4,z 2 6 0,yZ 3 7 6 32,n9 4 8 7,a4 5 9 (.gM 1 2 [.int .u32 0,.int .u32 0] [(0,1,F 5),(1,1,F 8)]),z 6 3 9]) as7
def as4:H:=
  .B (
  .D [
 dV 0 2]) as6
def acK:bM:=⟨14,[.bw 2],as4⟩
theorem as5:bW al 217=some acK:=by kernel_rfl
def Dk:H:= .B (.block 2 (.block 3 (.B (.D [z 0 27 0,z 1 28 7,aY 2 29 1 27 28,ao 3 30 29,z 4 31 1,z 5 32 7,aY 6 33 1 31 32,ao 7 34 33,cY 8 35 30 34,z 9 26 35]) (.aM (F 26) (.B (.D [a5 0 4 (-1)]) (.aF)) (.B (.D [z 0 37 0,z 1 38 7,aY 2 39 1 37 38,ao 3 40 39,z 4 41 1,z 5 42 7,aY 6 43 1 41 42,ao 7 44 43,df 8 45 .gtr (F 40) (F 44),z 9 36 45]) (.aM (F 36) (.B (.D [a5 0 4 1]) (.aF)) (.skip))))))) (.D [z 0 24 7,h0 1 25 24 1,z 2 7 25])
def Hv:H:= .B (.B (.D [z 0 22 7,lL 1 23 22 0]) (.aM (F 23) (.skip) (.a7 1))) Dk
def Dl:H:= .B (.D [a5 0 4 0]) (.aF)
def ac1:H:= .B (.B (.D [z 0 20 5,h0 1 21 20 1,z 2 7 21]) (.block 1 (.loop Hv))) Dl
def ac0:H:= .B (.block 0 (.B (.D [z 0 13 5,z 1 14 6,cY 2 15 13 14,z 3 12 15]) (.aM (F 12) (.B (.D [a5 0 4 (-1)]) (.aF)) (.B (.D [z 0 17 5,z 1 18 6,df 2 19 .gtr (F 17) (F 18),z 3 16 19]) (.aM (F 16) (.B (.D [a5 0 4 1]) (.aF)) (.skip)))))) ac1
def acZ:H:= .B (.D [z 0 8 0,b0 1 9 248 [F 8],z 2 10 1,b0 3 11 248 [F 10],z 4 5 9,z 5 6 11]) ac0
def acX:H:=
  .B (
  .D [
 a5 0 4 0]) acZ
def L9:bM:=⟨46,[.bw 4],acX⟩
theorem acY:bW al 222=some L9:=by kernel_rfl
def adu:H:= .B (.D [a5 0 4 1]) (.aF)
def Dq:H:= .B (.D [z 0 36 0,z 1 37 5,aY 2 38 1 36 37,ao 3 39 38,z 4 40 1,z 5 41 5,aY 6 42 1 40 41,ao 7 43 42,df 8 44 .gtr (F 39) (F 43)]) (.aM (F 44) (.B (.D [a5 0 4 1]) (.aF)) (.skip))
def Dp:H:= .B (.block 1 (.B (.B (.D [z 0 27 0,z 1 28 5,aY 2 29 1 27 28,ao 3 30 29,z 4 31 1,z 5 32 5,aY 6 33 1 31 32,ao 7 34 33,cY 8 35 30 34]) (.aM (F 35) (.B (.D [a5 0 4 (-1)]) (.aF)) (.skip))) Dq)) (.D [z 0 25 5,h0 1 26 25 1,z 2 5 26])
def HA:H:= .B (.B (.D [z 0 23 5,lL 1 24 23 0]) (.aM (F 24) (.skip) (.a7 0))) Dp
def Dr:H:= .B (.D [a5 0 4 0]) (.aF)
def adv:H:= .B (.B (.D [z 0 20 0,bq 1 21 20,h0 2 22 21 1,z 3 5 22]) (.block 0 (.loop HA))) Dr
def adt:H:= .B (.B (.D [z 0 10 0,bq 1 11 10,z 2 12 1,bq 3 13 12,nF 4 14 11 13]) (.aM (F 14) (.B (.B (.D [z 0 15 0,bq 1 16 15,z 2 17 1,bq 3 18 17,cY 4 19 16 18]) (.aM (F 19) (.B (.D [a5 0 4 (-1)]) (.aF)) (.skip))) adu) (.skip))) adv
def ads:H:= .B (.D [z 0 6 0,b0 1 7 194 [F 6],z 2 8 1,b0 3 9 194 [F 8],z 4 0 7,z 5 1 9]) adt
def adq:H:=
  .B (
  .D [
 a5 0 4 0]) ads
def Mg:bM:=⟨45,[.bw 4],adq⟩
theorem adr:bW al 241=some Mg:=by kernel_rfl
def adB:H:= .B (.D [z 0 3 0,b0 1 4 194 [F 3],bq 2 5 4,jX 3 6 5 512,z 4 2 6]) (.aF)
def adz:H:=
  .B (
  .D [
 cr 0 2 false]) adB
def Mh:bM:=⟨7,[.bw 2],adz⟩
theorem adA:bW al 246=some Mh:=by kernel_rfl
def Mj:H:= .B (.D [z 0 47 6,z 1 48 8,z 2 49 9,z 3 50 1,yX 4 51 1 50,ao 5 52 51,jK 6 53 52,df 7 54 .quo (F 49) (F 53),n9 8 55 54,aY 9 56 1 47 48,bz 10 1 56 55]) (.D [z 0 57 9,z 1 58 1,yX 2 59 1 58,ao 3 60 59,jK 4 61 60,df 5 62 .rem (F 57) (F 61),z 6 7 62])
def Mi:H:= .B (.block 1 (.B (.D [z 0 39 7,df 1 40 .shl (F 39) (.const (.int .u64 32)),z 2 41 0,z 3 42 8,aY 4 43 1 41 42,ao 5 44 43,jK 6 45 44,df 7 46 .or (F 40) (F 45),z 8 9 46]) Mj)) (.D [z 0 37 8,h0 1 38 37 1,z 2 8 38])
def SJ:H:= .B (.B (.D [z 0 35 8,lL 1 36 35 0]) (.aM (F 36) (.skip) (.a7 0))) Mi
def SI:H:= .B (.D [z 0 63 6,b0 1 64 194 [F 63],z 2 65 7,b0 3 66 168 [F 65],z 4 4 64,z 5 5 66]) (.aF)
def adE:H:= .B (.B (.D [z 0 32 0,bq 1 33 32,h0 2 34 33 1,z 3 8 34]) (.block 0 (.loop SJ))) SI
def adD:H:= .B (.D [vm 0 7 0]) adE
def avm:H:= .B (.B (.D [z 0 132 12,z 1 133 17,z 4 136 11,z 5 137 15,z 6 138 15,z 7 139 12,bq 8 140 139,hc 9 141 138 140,cI 10 142 141,a4 11 143 (.nO 1 (F 136) (some (F 137)) (some (F 142))),b0 2 134 168 [F 133],db 3 135 268 132 134,D4 12 144 4 143,db 13 145 241 135 144,jX 14 146 145 0]) (.aM (F 146) (.skip) (.a7 4))) (.block 5 (.D [z 0 147 17,df 1 148 .sub (F 147) (.const (.int .u64 1)),z 2 17 148]))
def avi:H:= .B (.D [z 0 174 19,z 1 175 18,bq 2 176 175,cY 3 177 174 176]) (.aM (F 177) (.D [z 0 178 11,z 1 179 15,z 2 180 19,hc 3 181 179 180,z 4 182 18,z 5 183 19,aY 6 184 1 182 183,ao 7 185 184,aY 8 186 1 178 181,bz 9 1 186 185]) (.skip))
def avh:H:= .B (.block 7 (.B (.D [z 0 169 11,z 1 170 15,z 2 171 19,hc 3 172 170 171,aY 4 173 1 169 172,rM 5 (.store 1 (F 173) (.const (.int .u32 0)))]) avi)) (.D [z 0 167 19,cI 1 168 167,z 2 19 168])
def avn:H:= .B (.B (.D [z 0 163 19,z 1 164 12,bq 2 165 164,df 3 166 .leq (F 163) (F 165)]) (.aM (F 166) (.skip) (.a7 6))) avh
def avg:H:= .B (.B (.D [a5 0 19 0]) (.block 6 (.loop avn))) (.D [z 0 187 14,z 1 188 15,z 2 189 17,n9 3 190 189,aY 4 191 1 187 188,bz 5 1 191 190])
def avf:H:= .B (.D [z 0 149 11,z 1 150 15,z 2 151 15,z 3 152 12,bq 4 153 152,hc 5 154 151 153,cI 6 155 154,a4 7 156 (.nO 1 (F 149) (some (F 150)) (some (F 155))),D4 8 157 4 156,z 9 158 12,z 10 159 17,b0 11 160 168 [F 159],db 12 161 268 158 160,db 13 162 269 157 161,z 14 18 162]) avg
def ave:H:= .B (.block 4 (.loop avm)) avf
def avd:H:= .B (.B (.D [z 0 130 17,df 1 131 .gtr (F 130) (.const (.int .u64 4294967295))]) (.aM (F 131) (.D [vm 0 17 4294967295]) (.skip))) ave
def avc:H:= .B (.D [z 0 127 16,z 1 128 13,df 2 129 .quo (F 127) (F 128),z 3 17 129]) avd
def avb:H:= .B (.block 3 (.B (.D [z 0 108 11,z 1 109 15,z 2 110 12,bq 3 111 110,hc 4 112 109 111,aY 5 113 1 108 112,ao 6 114 113,jK 7 115 114,df 8 116 .shl (F 115) (.const (.int .u64 32)),z 9 117 11,z 10 118 15,z 11 119 12,bq 12 120 119,hc 13 121 118 120,h0 14 122 121 1,aY 15 123 1 117 122,ao 16 124 123,jK 17 125 124,df 18 126 .or (F 116) (F 125),z 19 16 126]) avc)) (.D [z 0 106 15,h0 1 107 106 1,z 2 15 107])
def avo:H:= .B (.B (.D [z 0 104 15,lL 1 105 104 0]) (.aM (F 105) (.skip) (.a7 2))) avb
def avj:H:= .B (.D [z 0 192 14,b0 1 193 194 [F 192],z 2 194 11,b0 3 195 194 [F 194],z 4 196 10,db 5 197 270 195 196,z 6 4 193,z 7 5 197]) (.aF)
def ava:H:= .B (.B (.D [z 0 101 14,bq 1 102 101,h0 2 103 102 1,z 3 15 103]) (.block 2 (.loop avo))) avj
def au9:H:= .B (.D [z 0 95 11,bq 1 96 95,z 2 97 12,bq 3 98 97,df 4 99 .sub (F 96) (F 98),w1 5 100 99 99,z 6 14 100]) ava
def au8:H:= .B (.D [z 0 88 12,z 1 89 12,bq 2 90 89,h0 3 91 90 1,aY 4 92 1 88 91,ao 5 93 92,jK 6 94 93,z 7 13 94]) au9
def au7:H:= .B (.D [z 0 81 11,z 1 82 0,z 2 83 10,db 3 84 267 82 83,bq 4 85 84,cI 5 86 85,qY 6 87 1 81 86,z 7 11 87]) au8
def avl:H:= .B (.D [z 0 73 0,z 1 74 10,db 2 75 267 73 74,a4 3 76 (.gM 1 2 [.int .u32 0,.int .u32 0] [(0,1,.const (.int .u32 0)),(1,1,.const (.int .u32 0))]),iC 4 77 1 4 75 76,z 5 78 1,z 6 79 10,db 7 80 267 78 79,z 8 11 77,z 9 12 80]) au7
def avk:H:= .B (.D [z 0 67 1,bq 1 68 67,df 2 69 .mul (.const (.int .i64 32)) (F 68),z 3 70 1,b0 4 71 266 [F 70],df 5 72 .sub (F 69) (F 71),z 6 10 72]) avl
def adC:H:= .B (.B (.D [z 0 26 1,bq 1 27 26,kI 2 28 27 1]) (.aM (F 28) (.B (.D [z 0 29 0,bq 1 30 29,w1 2 31 30 30,z 3 6 31]) adD) (.skip))) avk
def SH:H:= .B (.B (.D [z 0 20 0,z 1 21 1,db 2 22 241 20 21,kt 3 23 22 0]) (.aM (F 23) (.B (.D [z 0 24 0,b0 1 25 194 [F 24],dV 2 4,z 3 5 25]) (.aF)) (.skip))) adC
def SF:H:=
  .B (
  .D [
 dV 0 4,
 dV 1 5]) SH
def Ds:bM:=⟨198,[.bw 4,.bw 5],SF⟩
theorem SG:bW al 247=some Ds:=by kernel_rfl
def adK:H:= .B (.B (.D [z 0 6 3,jX 1 7 6 0,z 2 8 7,dg 3 9 8 0,dg 4 10 8 3,rS 5 11 8 10,ml 6 12 8 1 9 11,dQ 7 13 8 12,cQ 8 14 8 true (.e8 .eql .fW (F 13) (.const (.int .u32 0))),cR 9 15 8 14]) (.aM (F 15) (.skip) (.a7 0))) (.block 1 (.D [z 0 16 3,h0 1 17 16 1,z 2 3 17]))
def adJ:H:= .B (.D [z 0 18 3,z 1 2 18]) (.aF)
def adI:H:= .B (.block 0 (.loop adK)) adJ
def adH:H:= .B (.D [z 0 4 0,bq 1 5 4,z 2 3 5]) adI
def adF:H:=
  .B (
  .D [
 a5 0 2 0]) adH
def Mk:bM:=⟨19,[.bw 2],adF⟩
theorem adG:bW al 248=some Mk:=by kernel_rfl
def avt:H:= .B (.D [z 0 57 6,z 1 58 8,z 2 59 7,n9 3 60 59,aY 4 61 1 57 58,bz 5 1 61 60]) (.D [z 0 62 7,yZ 1 63 62 32,z 2 7 63])
def avs:H:= .B (.B (.D [z 0 46 8,z 1 47 1,bq 2 48 47,cY 3 49 46 48]) (.aM (F 49) (.D [z 0 50 7,z 1 51 1,z 2 52 8,aY 3 53 1 51 52,ao 4 54 53,jK 5 55 54,hc 6 56 50 55,z 7 7 56]) (.skip))) avt
def avD:H:= .B (.D [z 0 39 7,z 1 40 0,z 2 41 8,aY 3 42 1 40 41,ao 4 43 42,jK 5 44 43,hc 6 45 39 44,z 7 7 45]) avs
def avC:H:= .B (.block 1 (.B (.D [z 0 38 36,z 1 8 38]) avD)) (.D [cI 0 64 36,z 1 36 64])
def avB:H:= .B (.aM (F 37) (.skip) (.a7 0)) avC
def avE:H:= .B (.D [cY 0 37 36 35]) avB
def avv:H:= .B (.D [z 0 71 6,b0 1 72 272 [F 71],b3 2 73 0 72,b3 3 74 1 72,z 4 4 73,z 5 5 74]) (.aF)
def avu:H:= .B (.D [z 0 65 6,z 1 66 0,bq 2 67 66,z 3 68 7,n9 4 69 68,aY 5 70 1 65 67,bz 6 1 70 69]) avv
def avA:H:= .B (.B (.D [z 0 34 0,bq 1 35 34,a5 2 36 0]) (.block 0 (.loop avE))) avu
def avz:H:= .B (.D [vm 0 7 0]) avA
def avy:H:= .B (.D [z 0 30 0,bq 1 31 30,cI 2 32 31,w1 3 33 32 32,z 4 6 33]) avz
def avx:H:= .B (.B (.D [z 0 23 0,bq 1 24 23,z 2 25 1,bq 3 26 25,cY 4 27 24 26]) (.aM (F 27) (.D [z 0 28 1,z 1 29 0,z 2 0 28,z 3 1 29]) (.skip))) avy
def avw:H:= .B (.D [z 0 15 0,z 1 16 0,z 4 19 1,z 5 20 1,b0 2 17 248 [F 16],qY 3 18 1 15 17,b0 6 21 248 [F 20],qY 7 22 1 19 21,z 8 0 18,z 9 1 22]) avx
def avr:H:= .B (.B (.D [z 0 9 0,b0 1 10 271 [F 9],z 2 11 10,du 3 12 11 1,jv 4 13 11 271 12,c6 5 14 11 13]) (.aM (F 14) (.B (.D [dV 0 4,a5 1 5 2]) (.aF)) (.skip))) avw
def avp:H:=
  .B (
  .D [
 dV 0 4,
 a5 1 5 0]) avr
def adL:bM:=⟨75,[.bw 4,.bw 5],avp⟩
theorem avq:bW al 249=some adL:=by kernel_rfl
def Mm:H:= .B (.B (.D [z 0 18 1,bq 1 19 18,jX 2 20 19 0]) (.aM (F 20) (.skip) (.a7 0))) (.block 1 (.B (.D [z 0 22 0,z 1 23 1,db 2 24 273 22 23,z 3 21 24,b3 4 25 0 21,b3 5 26 1 21,z 6 6 25,z 7 7 26]) (.D [z 0 27 1,z 1 28 7,z 2 0 27,z 3 1 28])))
def HB:H:= .B (.D [z 0 29 0,z 1 4 29,a5 2 5 0]) (.aF)
def adQ:H:= .B (.block 0 (.loop Mm)) HB
def adP:H:= .B (.D [z 0 14 0,b0 1 15 253 [F 14],z 2 16 1,b0 3 17 253 [F 16],z 4 0 15,z 5 1 17]) adQ
def adO:H:= .B (.B (.D [z 0 8 0,b0 1 9 271 [F 8],z 2 10 9,du 3 11 10 1,jv 4 12 10 271 11,c6 5 13 10 12]) (.aM (F 13) (.B (.D [dV 0 4,a5 1 5 2]) (.aF)) (.skip))) adP
def adM:H:=
  .B (
  .D [
 dV 0 4,
 a5 1 5 0]) adO
def Ml:bM:=⟨30,[.bw 4,.bw 5],adM⟩
theorem adN:bW al 251=some Ml:=by kernel_rfl
def adT:H:= .B (.D [z 0 3 0,z 1 4 0,b0 2 5 248 [F 4],qY 3 6 1 3 5,D4 4 7 4 6,z 5 2 7]) (.aF)
def adR:H:=
  .B (
  .D [
 dV 0 2]) adT
def Mn:bM:=⟨8,[.bw 2],adR⟩
theorem adS:bW al 253=some Mn:=by kernel_rfl
def avK:H:= .B (.D [z 0 61 6,z 1 62 7,z 2 63 10,hc 3 64 62 63,z 4 65 9,n9 5 66 65,aY 6 67 1 61 64,bz 7 1 67 66]) (.D [z 0 68 9,yZ 1 69 68 32,z 2 9 69])
def avJ:H:= .B (.D [z 0 46 9,z 1 47 8,jK 2 48 47,z 3 49 11,jK 4 50 49,df 5 51 .mul (F 48) (F 50),z 6 52 6,z 7 53 7,z 8 54 10,hc 9 55 53 54,aY 10 56 1 52 55,ao 11 57 56,jK 12 58 57,hc 13 59 51 58,hc 14 60 46 59,z 15 9 60]) avK
def avI:H:= .B (.block 3 (.B (.D [z 0 43 41,aY 1 44 1 39 41,ao 2 45 44,z 3 10 43,z 4 11 45]) avJ)) (.D [cI 0 70 41,z 1 41 70])
def avT:H:= .B (.aM (F 42) (.skip) (.a7 2)) avI
def avU:H:= .B (.D [cY 0 42 41 40]) avT
def avS:H:= .B (.B (.D [z 0 39 1,bq 1 40 39,a5 2 41 0]) (.block 2 (.loop avU))) (.D [z 0 71 6,z 1 72 7,z 2 73 1,bq 3 74 73,hc 4 75 72 74,z 5 76 9,n9 6 77 76,aY 7 78 1 71 75,bz 8 1 78 77])
def avR:H:= .B (.D [vm 0 9 0]) avS
def avQ:H:= .B (.block 1 (.B (.D [z 0 36 34,aY 1 37 1 32 34,ao 2 38 37,z 3 7 36,z 4 8 38]) avR)) (.D [cI 0 79 34,z 1 34 79])
def avP:H:= .B (.aM (F 35) (.skip) (.a7 0)) avQ
def avV:H:= .B (.D [cY 0 35 34 33]) avP
def avL:H:= .B (.D [z 0 80 6,b0 1 81 272 [F 80],b3 2 82 0 81,b3 3 83 1 81,z 4 4 82,z 5 5 83]) (.aF)
def avO:H:= .B (.B (.D [z 0 32 0,bq 1 33 32,a5 2 34 0]) (.block 0 (.loop avV))) avL
def avN:H:= .B (.D [z 0 26 0,bq 1 27 26,z 2 28 1,bq 3 29 28,hc 4 30 27 29,w1 5 31 30 30,z 6 6 31]) avO
def avM:H:= .B (.D [z 0 18 0,z 1 19 0,z 4 22 1,z 5 23 1,b0 2 20 248 [F 19],qY 3 21 1 18 20,b0 6 24 248 [F 23],qY 7 25 1 22 24,z 8 0 21,z 9 1 25]) avN
def avH:H:= .B (.B (.D [z 0 12 0,b0 1 13 271 [F 12],z 2 14 13,du 3 15 14 1,jv 4 16 14 271 15,c6 5 17 14 16]) (.aM (F 17) (.B (.D [dV 0 4,a5 1 5 2]) (.aF)) (.skip))) avM
def avF:H:=
  .B (
  .D [
 dV 0 4,
 a5 1 5 0]) avH
def adU:bM:=⟨84,[.bw 4,.bw 5],avF⟩
theorem avG:bW al 254=some adU:=by kernel_rfl
def av5:H:= .B (.D [z 0 20 6,z 1 4 20,a5 2 5 0]) (.aF)
def av4:H:= .B (.B (.D [z 0 18 6,b0 1 19 246 [F 18]]) (.aM (F 19) (.B (.D [dV 0 4,a5 1 5 2]) (.aF)) (.skip))) av5
def av3:H:= .B (.D [z 0 13 0,b0 1 14 194 [F 13],z 2 15 1,b0 3 16 194 [F 15],db 4 17 274 14 16,z 5 6 17]) av4
def av2:H:= .B (.B (.D [z 0 7 0,b0 1 8 246 [F 7],z 2 9 8,du 3 10 9 1,jv 4 11 9 246 10,c6 5 12 9 11]) (.aM (F 12) (.B (.D [dV 0 4,a5 1 5 2]) (.aF)) (.skip))) av3
def av0:H:=
  .B (
  .D [
 dV 0 4,
 a5 1 5 0]) av2
def adX:bM:=⟨21,[.bw 4,.bw 5],av0⟩
theorem av1:bW al 257=some adX:=by kernel_rfl
def ad4:H:= .B (.D [z 0 20 6,z 1 4 20,a5 2 5 0]) (.aF)
def ad3:H:= .B (.B (.D [z 0 18 6,b0 1 19 246 [F 18]]) (.aM (F 19) (.B (.D [dV 0 4,a5 1 5 2]) (.aF)) (.skip))) ad4
def ad2:H:= .B (.D [z 0 13 0,b0 1 14 194 [F 13],z 2 15 1,b0 3 16 194 [F 15],db 4 17 268 14 16,z 5 6 17]) ad3
def ad1:H:= .B (.B (.D [z 0 7 0,b0 1 8 246 [F 7],z 2 9 8,du 3 10 9 1,jv 4 11 9 246 10,c6 5 12 9 11]) (.aM (F 12) (.B (.D [dV 0 4,a5 1 5 2]) (.aF)) (.skip))) ad2
def adZ:H:=
  .B (
  .D [
 dV 0 4,
 a5 1 5 0]) ad1
def Mo:bM:=⟨21,[.bw 4,.bw 5],adZ⟩
theorem ad0:bW al 260=some Mo:=by kernel_rfl
def aws:H:= .B (.D [z 0 49 5,z 1 50 6,z 2 51 8,hc 3 52 50 51,z 4 53 9,n9 5 54 53,aY 6 55 1 49 52,bz 7 1 55 54]) (.D [z 0 56 9,yZ 1 57 56 32,z 2 7 57])
def awr:H:= .B (.block 3 (.B (.D [z 0 28 0,z 1 29 6,aY 2 30 1 28 29,ao 3 31 30,jK 4 32 31,z 5 33 1,z 6 34 8,aY 7 35 1 33 34,ao 8 36 35,jK 9 37 36,df 10 38 .mul (F 32) (F 37),z 11 39 5,z 12 40 6,z 13 41 8,hc 14 42 40 41,aY 15 43 1 39 42,ao 16 44 43,jK 17 45 44,hc 18 46 38 45,z 19 47 7,hc 20 48 46 47,z 21 9 48]) aws)) (.D [z 0 26 8,cI 1 27 26,z 2 8 27])
def awt:H:= .B (.B (.D [z 0 22 8,z 1 23 1,bq 2 24 23,cY 3 25 22 24]) (.aM (F 25) (.skip) (.a7 2))) awr
def SN:H:= .B (.B (.D [a5 0 8 0]) (.block 2 (.loop awt))) (.D [z 0 58 5,z 1 59 6,z 2 60 1,bq 3 61 60,hc 4 62 59 61,z 5 63 7,n9 6 64 63,aY 7 65 1 58 62,bz 8 1 65 64])
def SM:H:= .B (.block 1 (.B (.D [vm 0 7 0]) SN)) (.D [z 0 20 6,cI 1 21 20,z 2 6 21])
def aed:H:= .B (.B (.D [z 0 16 6,z 1 17 0,bq 2 18 17,cY 3 19 16 18]) (.aM (F 19) (.skip) (.a7 0))) SM
def SO:H:= .B (.D [z 0 66 5,b0 1 67 194 [F 66],z 2 4 67]) (.aF)
def aec:H:= .B (.B (.D [a5 0 6 0]) (.block 0 (.loop aed))) SO
def aeb:H:= .B (.D [z 0 10 0,bq 1 11 10,z 2 12 1,bq 3 13 12,hc 4 14 11 13,w1 5 15 14 14,z 6 5 15]) aec
def ad9:H:=
  .B (
  .D [
 dV 0 4]) aeb
def Mp:bM:=⟨68,[.bw 4],ad9⟩
theorem aea:bW al 268=some Mp:=by kernel_rfl
def aeg:H:= .B (.D [z 0 3 0,b0 1 4 248 [F 3],jX 2 5 4 512,z 3 2 5]) (.aF)
def aee:H:=
  .B (
  .D [
 cr 0 2 false]) aeg
def Mq:bM:=⟨6,[.bw 2],aee⟩
theorem aef:bW al 271=some Mq:=by kernel_rfl
def awy:H:= .B (.D [z 0 9 0,z 1 10 4,z 2 11 4,a4 3 12 (.vK 1 (F 9) none (F 10) (F 11)),z 4 2 12,a5 5 3 0]) (.aF)
def awx:H:= .B (.B (.D [z 0 7 4,jX 1 8 7 512]) (.aM (F 8) (.B (.D [dV 0 2,a5 1 3 2]) (.aF)) (.skip))) awy
def aww:H:= .B (.D [z 0 5 0,b0 1 6 248 [F 5],z 2 4 6]) awx
def awu:H:=
  .B (
  .D [
 dV 0 2,
 a5 1 3 0]) aww
def aeh:bM:=⟨13,[.bw 2,.bw 3],awu⟩
theorem awv:bW al 272=some aeh:=by kernel_rfl
def aej:H:= .B (.D [z 0 38 6,z 1 39 7,jK 2 40 39,b0 3 41 217 [F 40],z 4 4 38,z 5 5 41]) (.aF)
def awR:H:= .B (.B (.D [z 0 42 1,z 1 43 1,bq 2 44 43,h0 3 45 44 1,aY 4 46 1 42 45,ao 5 47 46,z 6 48 8,df 7 49 .shl (F 47) (F 48),df 8 50 .lss (F 49) (.const (.int .u32 2147483648))]) (.aM (F 50) (.skip) (.a7 0))) (.block 1 (.D [z 0 51 8,df 1 52 .add (F 51) (.const (.int .u64 1)),z 2 8 52]))
def awE:H:= .B (.D [z 0 135 18,df 1 136 .geq (F 135) (.const (.int .u64 4294967296))]) (.aM (F 136) (.a7 4) (.skip))
def awD:H:= .B (.D [z 0 132 18,z 1 133 13,hc 2 134 132 133,z 3 18 134]) awE
def awS:H:= .B (.B (.D [z 0 111 17,df 1 112 .geq (F 111) (.const (.int .u64 4294967296)),z 2 113 112,du 3 114 113 17,du 4 115 113 14,cQ 5 116 113 false (.e8 .mul .fW (F 114) (F 115)),du 6 117 113 18,cQ 7 118 113 false (.e8 .shl .fW (F 117) (.const (.int .u64 32))),du 8 119 113 9,du 9 120 113 15,du 10 121 113 11,cQ 11 122 113 false (.e8 .add .fW (F 120) (F 121)),cQ 12 123 113 false (.e8 .sub .fW (F 122) (.const (.int .i64 2))),n7 13 124 113 1 119 123,dM 14 125 113 124,cQ 15 126 113 false (.si .u64 (F 125)),cQ 16 127 113 false (.e8 .or .fW (F 118) (F 126)),cQ 17 128 113 false (.e8 .gtr .fW (F 116) (F 127)),c6 18 129 113 128]) (.aM (F 129) (.skip) (.a7 4))) (.block 5 (.B (.D [z 0 130 17,df 1 131 .sub (F 130) (.const (.int .u64 1)),z 2 17 131]) awD))
def awF:H:= .B (.B (.D [z 0 137 9,z 1 138 15,z 2 139 15,z 3 140 11,hc 4 141 139 140,cI 5 142 141,a4 6 143 (.nO 1 (F 137) (some (F 138)) (some (F 142))),z 7 144 10,z 8 145 17,b0 9 146 280 [F 143,F 144,F 145]]) (.aM (F 146) (.B (.D [z 0 147 17,df 1 148 .sub (F 147) (.const (.int .u64 1)),z 2 17 148]) (.D [z 0 149 9,z 1 150 15,z 2 151 15,z 3 152 11,hc 4 153 151 152,cI 5 154 153,a4 6 155 (.nO 1 (F 149) (some (F 150)) (some (F 154))),z 7 156 10,db 8 157 281 155 156])) (.skip))) (.D [z 0 158 12,z 1 159 15,z 2 160 17,n9 3 161 160,aY 4 162 1 158 159,bz 5 1 162 161])
def awC:H:= .B (.block 4 (.loop awS)) awF
def awB:H:= .B (.D [z 0 105 16,z 1 106 13,df 2 107 .quo (F 105) (F 106),z 3 108 16,z 4 109 13,df 5 110 .rem (F 108) (F 109),z 6 17 107,z 7 18 110]) awC
def awA:H:= .B (.block 3 (.B (.D [z 0 88 9,z 1 89 15,z 2 90 11,hc 3 91 89 90,aY 4 92 1 88 91,ao 5 93 92,jK 6 94 93,df 7 95 .shl (F 94) (.const (.int .u64 32)),z 8 96 9,z 9 97 15,z 10 98 11,hc 11 99 97 98,h0 12 100 99 1,aY 13 101 1 96 100,ao 14 102 101,jK 15 103 102,df 16 104 .or (F 95) (F 103),z 17 16 104]) awB)) (.D [z 0 86 15,h0 1 87 86 1,z 2 15 87])
def awT:H:= .B (.B (.D [z 0 84 15,lL 1 85 84 0]) (.aM (F 85) (.skip) (.a7 2))) awA
def awJ:H:= .B (.block 7 (.B (.D [z 0 169 167,z 1 20 169]) (.D [z 0 170 19,z 1 171 20,z 2 172 9,z 3 173 20,cI 4 174 173,aY 5 175 1 172 174,ao 6 176 175,jK 7 177 176,df 8 178 .shl (F 177) (.const (.int .u64 32)),z 9 179 9,z 10 180 20,aY 11 181 1 179 180,ao 12 182 181,jK 13 183 182,df 14 184 .or (F 178) (F 183),z 15 185 8,df 16 186 .shr (F 184) (F 185),n9 17 187 186,aY 18 188 1 170 171,bz 19 1 188 187]))) (.D [cI 0 189 167,z 1 167 189])
def awI:H:= .B (.aM (F 168) (.skip) (.a7 6)) awJ
def awU:H:= .B (.D [cY 0 168 167 166]) awI
def awK:H:= .B (.D [z 0 190 12,z 1 191 12,z 4 194 19,z 5 195 19,b0 2 192 248 [F 191],qY 3 193 1 190 192,b0 6 196 248 [F 195],qY 7 197 1 194 196,z 8 4 193,z 9 5 197]) (.aF)
def awH:H:= .B (.B (.D [z 0 165 19,bq 1 166 165,a5 2 167 0]) (.block 6 (.loop awU))) awK
def awG:H:= .B (.D [z 0 163 11,w1 1 164 163 163,z 2 19 164]) awH
def awz:H:= .B (.B (.D [z 0 81 12,bq 1 82 81,h0 2 83 82 1,z 3 15 83]) (.block 2 (.loop awT))) awG
def awQ:H:= .B (.D [z 0 69 10,z 1 70 11,h0 2 71 70 1,aY 3 72 1 69 71,ao 4 73 72,jK 5 74 73,z 6 75 10,z 7 76 11,h0 8 77 76 2,aY 9 78 1 75 77,ao 10 79 78,jK 11 80 79,z 12 13 74,z 13 14 80]) awz
def awP:H:= .B (.D [z 0 64 9,bq 1 65 64,z 2 66 11,df 3 67 .sub (F 65) (F 66),w1 4 68 67 67,z 5 12 68]) awQ
def awO:H:= .B (.D [z 0 62 10,bq 1 63 62,z 2 11 63]) awP
def awN:H:= .B (.D [z 0 53 0,z 1 54 8,z 3 56 1,z 4 57 8,z 6 59 1,bq 7 60 59,db 2 55 279 53 54,db 5 58 279 56 57,qY 8 61 1 58 60,z 9 9 55,z 10 10 61]) awO
def awM:H:= .B (.block 0 (.loop awR)) awN
def awL:H:= .B (.D [vm 0 8 0]) awM
def aei:H:= .B (.B (.D [z 0 27 1,bq 1 28 27,kI 2 29 28 1]) (.aM (F 29) (.B (.D [z 0 31 0,z 1 32 1,yX 2 33 1 32,ao 3 34 33,db 4 35 278 31 34,z 5 30 35,b3 6 36 0 30,b3 7 37 1 30,z 8 6 36,z 9 7 37]) aej) (.skip))) awL
def SR:H:= .B (.B (.D [z 0 21 0,z 1 22 1,db 2 23 222 21 22,kt 3 24 23 0]) (.aM (F 24) (.B (.D [z 0 25 0,b0 1 26 253 [F 25],dV 2 4,z 3 5 26]) (.aF)) (.skip))) aei
def SP:H:=
  .B (
  .D [
 dV 0 4,
 dV 1 5]) SR
def Dt:bM:=⟨198,[.bw 4,.bw 5],SP⟩
theorem SQ:bW al 273=some Dt:=by kernel_rfl
def aw3:H:= .B (.D [z 0 48 5,z 1 49 8,n9 2 50 49,a4 3 51 (.gM 1 1 [.int .u32 0] [(0,1,F 50)]),iC 4 52 1 4 48 51,z 5 5 52]) (.D [z 0 53 8,yZ 1 54 53 32,z 2 6 54])
def aw2:H:= .B (.B (.D [z 0 37 7,z 1 38 1,bq 2 39 38,cY 3 40 37 39]) (.aM (F 40) (.D [z 0 41 8,z 1 42 1,z 2 43 7,aY 3 44 1 42 43,ao 4 45 44,jK 5 46 45,hc 6 47 41 46,z 7 8 47]) (.skip))) aw3
def aw1:H:= .B (.B (.D [z 0 26 7,z 1 27 0,bq 2 28 27,cY 3 29 26 28]) (.aM (F 29) (.D [z 0 30 8,z 1 31 0,z 2 32 7,aY 3 33 1 31 32,ao 4 34 33,jK 5 35 34,hc 6 36 30 35,z 7 8 36]) (.skip))) aw2
def aw0:H:= .B (.block 1 (.B (.D [z 0 25 6,z 1 8 25]) aw1)) (.D [z 0 23 7,cI 1 24 23,z 2 7 24])
def aw5:H:= .B (.B (.D [z 0 9 7,z 1 10 0,bq 2 11 10,cY 3 12 9 11,z 4 13 12,du 5 14 13 7,du 6 15 13 1,iT 7 16 13 15,cQ 8 17 13 false (.e8 .lss .fW (F 14) (F 16)),c6 9 18 13 17,z 10 19 18,du 11 20 19 6,cQ 12 21 19 false (.e8 .gtr .fW (F 20) (.const (.int .u64 0))),c6 13 22 19 21]) (.aM (F 22) (.skip) (.a7 0))) aw0
def aw4:H:= .B (.D [z 0 55 5,b0 1 56 194 [F 55],z 2 4 56]) (.aF)
def awZ:H:= .B (.B (.D [a5 0 7 0]) (.block 0 (.loop aw5))) aw4
def awY:H:= .B (.D [vm 0 6 0]) awZ
def awX:H:= .B (.D [dV 0 5]) awY
def awV:H:=
  .B (
  .D [
 dV 0 4]) awX
def aek:bM:=⟨57,[.bw 4],awV⟩
theorem awW:bW al 274=some aek:=by kernel_rfl
def Mt:H:= .B (.D [z 0 27 6,z 1 28 8,z 2 29 7,z 3 30 1,jK 4 31 30,df 5 32 .quo (F 29) (F 31),n9 6 33 32,aY 7 34 1 27 28,bz 8 1 34 33]) (.D [z 0 35 7,z 1 36 1,jK 2 37 36,df 3 38 .rem (F 35) (F 37),z 4 7 38])
def Ms:H:= .B (.block 1 (.B (.D [z 0 19 7,df 1 20 .shl (F 19) (.const (.int .u64 32)),z 2 21 0,z 3 22 8,aY 4 23 1 21 22,ao 5 24 23,jK 6 25 24,df 7 26 .or (F 20) (F 25),z 8 7 26]) Mt)) (.D [z 0 17 8,h0 1 18 17 1,z 2 8 18])
def SS:H:= .B (.B (.D [z 0 15 8,lL 1 16 15 0]) (.aM (F 16) (.skip) (.a7 0))) Ms
def Mu:H:= .B (.D [z 0 39 6,z 1 40 6,b0 2 41 248 [F 40],qY 3 42 1 39 41,z 4 43 7,n9 5 44 43,z 6 4 42,z 7 5 44]) (.aF)
def aes:H:= .B (.B (.D [z 0 12 0,bq 1 13 12,h0 2 14 13 1,z 3 8 14]) (.block 0 (.loop SS))) Mu
def aer:H:= .B (.D [vm 0 7 0]) aes
def aeq:H:= .B (.D [z 0 9 0,bq 1 10 9,w1 2 11 10 10,z 3 6 11]) aer
def aeo:H:=
  .B (
  .D [
 dV 0 4,
 a4 1 5 (.mq (.const (.int .u32 0)))]) aeq
def Mr:bM:=⟨45,[.bw 4,.bw 5],aeo⟩
theorem aep:bW al 278=some Mr:=by kernel_rfl
abbrev cw(b:Nat):Value:= .pointer (some ⟨b,0,none⟩)
abbrev Y(n:Int):Value:= .int .i64 n
abbrev eV(n:Int):Value:= .int .u32 n
structure JG(m aq:W):Prop where
  next:m.next<=aq.next
  X: ∀b,b<m.next->aq.X b=m.X b
theorem JG.refl(m:W):JG m m:=⟨ey _,λ_ _=>rfl⟩
theorem F4{l:List Value}{k:Nat}:(List.take 1 (List.drop k l)).head?=l[k]?:=by
  cases h:l.drop k with
  |nil=>rw[List.drop_eq_nil_iff]at h;rw[qv h];rfl
  |cons x xs=>simp;rw[<-List.head?_drop,h];rfl
end Go.Proofs.YtmmkkggfmigppaaGreat
