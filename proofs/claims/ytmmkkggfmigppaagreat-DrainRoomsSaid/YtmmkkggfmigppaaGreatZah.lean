/-
  A part of the proof of the statement, in texts that tools of ours (wip/shrink.py, irpack.py, relax.py, minify.py, join.py, lay.py) have shortened.
-/
import Derived.Test.YtmmkkggfmigppaaGreatRows
import Derived.Test.YtmmkkggfmigppaaGreatZag
set_option linter.all false
set_option maxRecDepth 8000
set_option maxHeartbeats 16000000
namespace Go.DI
open Go Go.RowKit
def tZ(m:W):fz:= λb=>(m.X b).map (·.cells)
section
variable {P:Program} {u:fz} {m an:W}
theorem WA(m:W):tO (tZ m) m:= λb cs h=>by
  simp only[tZ]at h;cases aF:m.X b with
  |none=>rw[aF]at h;cases h
  |some x=>rw[aF]at h;cases h;exact⟨x.own,rfl⟩
theorem OW{b:Nat}{cs:List Value}{w:Bool}(h:m.X b=some ⟨cs,w⟩):tZ m b=some cs:=by simp[tZ,h]
theorem WB(h:tO u m):gV u (tZ m):= λb cs hb=>by obtain⟨w,aZ⟩:=h b cs hb;exact OW aZ
abbrev IQ(m:W)(v bu:Value):Prop:=bV (tZ m) kT v bu
abbrev D5(m:W)(cj yA:List Value):Prop:=bj (tZ m) kT cj yA
theorem ayL{f:Nat}{ts:List Value}{r:Value}(h: ∀m bz,D5 m ts bz->gd P f bz m λdV an=>(m.next<=an.next/\ ∀b,b<m.next->an.X b=m.X b)/\IQ an r dV):bK P f ts r:= λu m bz dv ax=>by refine(h m bz (ax.b6 (WB dv) (fy.refl _))).b6 λdV an aH=> ?_;obtain⟨⟨D,H⟩,aq⟩:=aH;exact⟨D,H,tZ an,λb cs hb=>by obtain⟨w,aZ⟩:=dv b cs hb;exact OW (by rw[H b (bn aZ)];exact aZ),WA an,aq⟩
theorem bK.below{f:Nat}{ts bz:List Value}{r:Value}(h:bK P f ts r)(ax:D5 m ts bz):gd P f bz m λdV an=>(m.next<=an.next/\ ∀b,b<m.next->an.X b=m.X b)/\IQ an r dV:=by refine(h (tZ m) m bz (WA m) ax).b6 λdV an aH=> ?_;obtain⟨D,H,cr,aq,aE,bq⟩:=aH;exact⟨⟨D,H⟩,bq.b6 (WB aE) (fy.refl _)⟩
theorem bj.ni{K:eC}{x:Value}{ys:List Value}(h:bj u K [x] ys): ∃y,ys=[y]/\bV u K x y:=by
  match ys,h with
  |[y],h=>exact⟨y,rfl,h.2 0 x y rfl rfl⟩
  |[],h=>simp[bj]at h
  |_::_::_,h=>simp[bj]at h
theorem bj.ayO{K:eC}{x y:Value}{j6:List Value}(h:bj u K [x,y] j6): ∃a b,j6=[a,b]/\bV u K x a/\bV u K y b:=by
  match j6,h with
  |[a,b],h=>exact⟨a,b,rfl,h.2 0 x a rfl rfl,h.2 1 y b rfl rfl⟩
  |[],h=>simp[bj]at h
  |[_],h=>simp[bj]at h
  |_::_::_::_,h=>simp[bj]at h
theorem bj.ayJ{K:eC}{x y I:Value}{j6:List Value}(h:bj u K [x,y,I] j6): ∃a b c,j6=[a,b,c]/\bV u K x a/\bV u K y b/\bV u K I c:=by
  match j6,h with
  |[a,b,c],h=>exact⟨a,b,c,rfl,h.2 0 x a rfl rfl,h.2 1 y b rfl rfl,h.2 2 I c rfl rfl⟩
  |[],h=>simp[bj]at h
  |[_],h=>simp[bj]at h
  |[_,_],h=>simp[bj]at h
  |_::_::_::_::_,h=>simp[bj]at h
def sD:(s:fr)->s.cL->List Value
  | .int k,n=>[.int k n]
  | .bool,b=>[.bool b]
  | .str,s=>[.string s]
  | .slice e,l=>[aw ((pb l).map (sD e)) e.cells]
  | .unit,_=>[]
  | .nk a b,d=>sD a d.1++sD b d.2
theorem JC: ∀(s:fr) (d:s.cL),(sD s d).length=s.cells
  | .int _,_=>rfl
  | .bool,_=>rfl
  | .str,_=>rfl
  | .slice _,_=>rfl
  | .unit,_=>rfl
  | .nk a b,d=>by simp[sD,JC a,JC b,fr.cells]
theorem I4: ∀{s:fr} {cs:List Value} {d:s.cL},pT m s cs d->D5 m (sD s d) cs
  | .int k,cs,d,h=>by rw[h.1];exact bj.cons (.cy rfl) bj.nil
  | .bool,cs,d,h=>by have:cs=[.bool d]:=h;rw[this];exact bj.cons (.cy rfl) bj.nil
  | .str,cs,d,h=>by rw[h.1];exact bj.cons (.cy rfl) bj.nil
  | .unit,cs,d,h=>by have:cs=[]:=h;rw[this];exact bj.nil
  | .nk a b,cs,d,h=>by obtain⟨ch,c6,rfl,D,H⟩:=h;exact(I4 D).oq (I4 H)
  | .slice e,cs,l,h=>by
    simp only[sD];rcases h with⟨rfl,h⟩|⟨b,a8,rfl,H,aq,aE,bq⟩
    · rw[h];exact bj.cons (.hf rfl) bj.nil
    · refine bj.cons ?_ bj.nil;have bD: ∀r∈a8,r.length=e.cells:= λr az=>by
        obtain⟨i,ak,rfl⟩:=mq az;exact(bq i _ _ (dD ak) (dD (by omega))).len
      have fC:a8.flatten.length=a8.length*e.cells:=rG bD;have:=bV.hT (u:=tZ m) (K:=kT) (v:=aw ((pb l).map (sD e)) e.cells) (b:=b) (off:=0) (I:=e.cells) (cs:=a8.flatten) (a8:=(pb l).map (sD e)) rfl (OW H) (by rw[fC,aE,jg];omega) (λi r az=> ?_) λi j r x y az G ag=> ?_
      · simpa using this
      · rw[qy,rn]at az;obtain⟨x,_,rfl⟩:=az;exact JC e x
      · rw[qy,rn]at az;obtain⟨ck,fJ,rfl⟩:=az;have ak:=(eB.1 fJ).1;have hH:i<a8.length:=(by rw[aE];exact ak);have qX:=bq i _ _ (dD hH) fJ;refine(I4 qX).2 j x y G ?_;have b1:=(eB.1 G).1;rw[JC]at b1;have bc:=JJ bD (dD hH);rw[<-bc,tI,if_pos b1,wP,<-ag,Nat.zero_add]
def I7(s:fr)(d:s.cL):Value:=if s.isAgg then .agg (sD s d).toArray else(sD s d).headD undef
theorem agZ{s:fr}{v:Value}{d:s.cL}(h:u6 m s v d):IQ m (I7 s d) v:=by
  obtain⟨cs,D,rfl⟩:=h;have:=I4 D;unfold I7;split
  · exact this.agg
  · exact this.headD
inductive D3:List fr->List Value->Prop
  |nil:D3 [] []
  |cons {s:fr} {d:s.cL} {kC:List fr} {cj:List Value} (ok:Aw s d) (M:D3 kC cj):D3 (s::kC) (I7 s d::cj)
theorem agY{kC:List fr}{e2:List Value}(h:sq m kC e2): ∃ts,D3 kC ts/\D5 m ts e2:=by
  induction h with
  |nil=>exact⟨[],.nil,bj.nil⟩
  | cons h M cc=>obtain⟨ts,D,H⟩:=cc;obtain⟨cs,aq,aE⟩:=h;exact⟨_,.cons aq.ok D,bj.cons (agZ ⟨cs,aq,aE⟩) H⟩
theorem auv{f:Nat}{kC:List fr}(h: ∀ts,D3 kC ts->bK P f ts (.bool true))(m:W)(e2:List Value)(ax:sq m kC e2):gd P f e2 m λr _=>r= .bool true:=by obtain⟨ts,D,H⟩:=agY ax;exact((h ts D).below H).b6 λr an aH=>aH.2.qd
end
section
variable {P:Program} {aB:nw P} {t bF:W} {z bI:aM} {c:J} {Q:du->aM->W->Prop}
theorem azs(aF: ∀K u ae m,dN K u t m->gF u K z ae->dN K u bF m/\gF u K bI ae/\eD t.next m.next K u t m K u bF m)(h:fl P c bI bF Q):fl P c z t Q:= λao K u ae m M bB=>by obtain⟨aQ,a7,cD⟩:=aF K u ae m M bB;refine(h ao K u ae m aQ a7).b6 λe bl bg aH=> ?_;obtain⟨cq,dt,dj,iH,D,H,aq,aE⟩:=aH;exact⟨cq,dt,dj,iH,D,H,aq,cD.trans (aE.uX cD.je (dW _))⟩
theorem afN{K:eC}{u:fz}{m:W}(M:dN K u t m){o j I:Nat}{cs:List Value}(aC:t.X o=some ⟨cs,true⟩)(b1:cs[j]?=some (.slice none 0 0)):
    dN K u (((t.dp 1).a0 t.next (some ⟨[],true⟩)).a0 o (some ⟨cs.set j (.slice (some ⟨t.next,0,none⟩) 0 I),true⟩)) m/\eD t.next m.next K u t m K u (((t.dp 1).a0 t.next (some ⟨[],true⟩)).a0 o (some ⟨cs.set j (.slice (some ⟨t.next,0,none⟩) 0 I),true⟩)) m:=by
  refine⟨?_,?_⟩
  · have bQ:K t.next=none:=by
      cases bb:K t.next with
      |none=>rfl
      |some b=>have:=(M.c2 _ _ bb).1;omega
    have ek:=bn aC;have cW:o≠t.next:=by omega
    refine⟨λp x G=> ?_,λp a9 bb=> ?_,M.h3,M.inj,λp b h=>⟨by have:=(M.c2 p b h).1;simp only[mg,Aq];omega,(M.c2 p b h).2⟩,λb ds hb=> ?_⟩
    · by_cases ai:p=o
      · subst ai;rw[ej (by simp;omega)]at G;cases G;rcases M.hK p _ aC with⟨b,ds,w,D,H,aq,aE⟩|⟨D,H⟩
        · refine .inl ⟨b,ds,w,D,H,aq,?_⟩;obtain⟨y,ag,ad⟩:=aE.X b1;have:=aE.set j (y:=y) (x:= .slice (some ⟨t.next,0,none⟩) 0 I) (by rw[ad.hC rfl];exact .oU);rw[show ds.set j y=ds from by
            apply Be;intro i;rw[u2];split
            · next e=>subst e;rw[ag];simp;exact(eB.1 ag).1
            · rfl]at this
          exact this
        · simp only at H;subst H;simp at b1
      · rw[bW ai]at G;by_cases bc:p=t.next
        · subst bc;rw[ej (by simp)]at G;cases G;exact .inr ⟨bQ,rfl⟩
        · rw[bW bc,W.e6]at G;exact M.hK p x G
    · by_cases ai:p=o
      · subst ai;obtain⟨aK,aR⟩:=hR bb;rw[ej (by simp;omega)]at aK;have:cs=[]:=(by simpa using aK);subst this;simp at b1
      · obtain⟨aK,aR⟩:=hR bb;rw[bW ai]at aK;by_cases bc:p=t.next
        · subst bc;have aq:t.mp t.next=some a9:=aR
          rw[M.h3 _ bQ]at aq;cases aq
        · rw[bW bc,W.e6]at aK;exact M.maps p a9 (jM aK aR)
    · obtain⟨D,H⟩:=M.bA b ds hb;refine⟨D,λp x JV G=> ?_⟩;by_cases ai:p=o
      · subst ai;have:=H p _ JV aC;cases this
      · rw[bW ai]at G;have bc:p≠t.next:= λe=>by subst e;rw[bQ]at JV;cases JV
        rw[bW bc,W.e6]at G;exact H p x JV G
  · have bQ:K t.next=none:=by
      cases bb:K t.next with
      |none=>rfl
      |some b=>have:=(M.c2 _ _ bb).1;omega
    refine⟨fy.refl _,gV.refl _,λ_ _ h=> .inl h,λ_ _ h=> .inl h,by simp,dW _,λ_ _ _=>rfl,λb hb=> λ⟨p,x,aK,aR,cB⟩=> ?_,λb hb=> λ⟨p,x,aK,aR⟩=> ?_⟩
    · by_cases ai:p=o
      · subst ai;exact⟨p,_,aK,aC,rfl⟩
      · rw[bW ai]at aR;have bc:p≠t.next:= λe=>by subst e;rw[bQ]at aK;cases aK
        rw[bW bc,W.e6]at aR;exact⟨p,x,aK,aR,cB⟩
    · by_cases ai:p=o
      · subst ai;exact⟨p,_,aK,aC⟩
      · rw[bW ai]at aR;have bc:p≠t.next:= λe=>by subst e;rw[bQ]at aK;cases aK
        rw[bW bc,W.e6]at aR;exact⟨p,x,aK,aR⟩
theorem NS{o j I:Nat}{cs:List Value}(aC:t.X o=some ⟨cs,true⟩)(b1:cs[j]?=some (.slice none 0 0))
    (h:fl P c z (((t.dp 1).a0 t.next (some ⟨[],true⟩)).a0 o (some ⟨cs.set j (.slice (some ⟨t.next,0,none⟩) 0 I),true⟩)) Q):fl P c z t Q:=
  azs (λK u ae m M bB=>⟨(afN M aC b1).1,bB,(afN M aC b1).2⟩) h
theorem ayt{l:List (bE P)}{f:Nat}{ts:List Value}{cd mr:Value->Prop}(h:tw l f ts cd)(aa: ∀r,cd r->mr r):tw l f ts mr:=by
  induction l with
  |nil=>exact h
  | cons s aB cc=>
    simp only[tw]at h⊢;split at h
    · next e=>
      rw[if_pos e];cases a6:s.fn ts with
      |none=>rw[a6]at h;exact h
      |some r=>rw[a6]at h;exact aa _ h
    · next e=>rw[if_neg e];exact cc h
theorem afe{l:List (iQ P)}{f:Nat}{ts:List Value}{t:W}{aT vb:Value->W->Prop}(h:sd l f ts t aT)(aa: ∀r t,aT r t->vb r t):sd l f ts t vb:=by
  induction l with
  |nil=>exact h
  | cons s aB cc=>
    simp only[sd]at h⊢;split at h
    · next e=>
      rw[if_pos e];cases a6:s.fn ts t with
      |none=>rw[a6]at h;exact h
      |some r=>rw[a6]at h;exact aa _ _ h
    · next e=>rw[if_neg e];exact cc h
theorem VK{f:Nat}{args:List Value}{L:List Nat}{aT vb:Value->W->Prop}(h:sA aB f args t L aT)(aa: ∀r t,aT r t->vb r t):sA aB f args t L vb:=by
  unfold sA at h⊢;split at h
  · next M=>
    rw[if_pos M];unfold uM at h⊢;split at h
    · next ts bD=>exact ayt h λr h=>aa _ _ h
    · exact h
  · next M=>
    rw[if_neg M];cases L with
    | nil=>
      simp only[w5]at h⊢;split at h
      · next e=>rw[if_pos e];exact afe h aa
      · next e=>rw[if_neg e];exact h.b6 aa
    | cons o l=>
      simp only[w5]at h⊢;refine⟨h.1,?_⟩;have H:=h.2;split at H
      · next e=>rw[if_pos e];exact afe H λr t aH=>aa _ _ aH
      · next e=>rw[if_neg e];exact H.b6 λr t aH=>aa _ _ aH
theorem Ee{base:Nat}: ∀{ops:List bp} {z:aM} {t:W} {aT vb:aM->W->Prop},c8 aB base ops z t aT->(∀z t,aT z t->vb z t)->c8 aB base ops z t vb
  |[],_,_,_,_,h,aa=>aa _ _ h
  | o::ops,z,t,aT,vb,h,aa=>by
    simp only[c8]at h⊢;split at h
    · next aZ=>
      rw[if_pos aZ];obtain⟨aN,d,g,k,a4⟩:=o;cases k with
      |dm f bz=>exact VK h λr t h=>Ee h aa
      | iy x bz=>
        simp only[iN,EA]at h⊢;split at h
        · exact VK h λr t h=>Ee h aa
        · exact h
      |kv=>exact h
      |_=>exact⟨h.1,h.2.1,Ee h.2.2 aa⟩
    · next aZ=>rw[if_neg aZ];exact Ee h aa
theorem Bn: ∀{c:J} {z:aM} {t:W} {Q w0:du->aM->W->Prop},iR aB c z t Q->(∀e z t,Q e z t->w0 e z t)->iR aB c z t w0
  | .skip,_,_,_,_,h,bc=>bc _ _ _ h
  | .bh _,_,_,_,_,h,bc=>bc _ _ _ h
  | .aI,_,_,_,_,h,bc=>bc _ _ _ h
  | .F _,_,_,_,_,h,bc=>Ee h λz t h=>bc _ _ _ h
  | .qh _ _ _,_,_,_,_,h,_=>h.elim
  | .B a b,_,_,_,_,h,bc=>Bn (c:=a) h λe z t h=>by
    cases e with
    |er=>exact Bn (c:=b) h bc
    |bh id=>exact bc _ _ _ h
    |aI=>exact bc _ _ _ h
  | .aV c a b,_,_,_,_,h,bc=>by
    refine⟨h.1,?_⟩;have H:=h.2;split at H
    · next e=>rw[if_pos e];exact Bn (c:=a) H bc
    · next e=>rw[if_neg e];exact Bn (c:=b) H bc
  | .block id c,_,_,_,_,h,bc=>Bn (c:=c) h λe z t h=>by
    cases e with
    |er=>exact bc _ _ _ h
    |aI=>exact bc _ _ _ h
    | bh iB=>
      simp only at h⊢;split at h
      · next e=>rw[if_pos e];exact bc _ _ _ h
      · next e=>rw[if_neg e];exact bc _ _ _ h
  | .loop _,_,_,_,_,h,bc=>h.b6 bc
theorem h4(Z:Nat->aM->W->Prop)(n:Nat)(step: ∀i z t,i<n->Z i z t-> ∀cx:aM->W->Prop,(∀ae aJ,Z (i+1) ae aJ->cx ae aJ)->iR aB c z t (x4 cx Q))
    (Sn: ∀z t,Z n z t->iR aB c z t (x4 (λ_ _=>False) Q)): ∀(i:Nat) (z:aM) (t:W),i<=n->Z i z t->fl P (.loop c) z t Q:=by
  have key: ∀(r i:Nat) (z:aM) (t:W),i+r=n->Z i z t->fl P (.loop c) z t Q:=by
    intro r;induction r with
    | zero=>
      intro i z t ak sK;have e:i=n:=(by omega);subst e;refine eu (aB:=aB) λcx bk=> ?_;have D:=Sn z t sK;refine Bn D λe z t h=> ?_;cases e with
      |er=>exact h.elim
      |bh id=>exact h
      |aI=>exact h
    | succ r cc=>intro i z t ak sK;exact eu (aB:=aB) λcx bk=>step i z t (by omega) sK cx λae aJ h=>bk _ _ (cc (i+1) ae aJ (by omega) h)
  exact λi z t ak sK=>key (n-i) i z t (by omega) sK
end
section
variable {P:Program} {t:W}
open Classical in
theorem Wy{K:eC}{u:fz}{t m:W}(M:dN K u t m){o p j I:Nat}{a8:List (List Value)}{cells:List Value}(aC:t.X o=some ⟨a8.flatten,true⟩)(az: ∀r∈a8,r.length=I/\ ∀v∈r,gN v=true)
    (ai:t.X p=some ⟨cells,true⟩) (b1:cells[j]?=some (.slice (some ⟨o,0,none⟩) a8.length I)) (cW:o≠p):
    ∃cr,gV u cr/\(∀b cs,cr b=some cs->u b=some cs\/K o=some b)/\dN K cr ((t.a0 o none).a0 p (some ⟨cells.set j (aw a8 I),true⟩)) m:=by
  have oz:=bn aC;have ajw:=bn ai;have bD: ∀r∈a8,r.length=I:= λr h=>(az r h).1;refine⟨λb=>match u b with
    |some cs=>some cs
    |none=>if K o=some b then(m.X b).map (·.cells)else none,λb cs hb=>by simp only[hb],λb cs hb=> ?_,?_⟩
  · simp only at hb;cases dv:u b with
    |some ds=>rw[dv]at hb;exact .inl hb
    | none=>
      rw[dv]at hb;simp only at hb;split at hb
      · next h=>exact .inr h
      · cases hb
  · obtain⟨cr,mA⟩: ∃cr:fz,cr= λb=>match u b with
      |some cs=>some cs
      |none=>if K o=some b then(m.X b).map (·.cells)else none:=⟨_,rfl⟩
    rw[<-mA];have e7:gV u cr:= λb cs hb=>by rw[mA];simp only[hb]
    have PH: ∀b cs w,K o=some b->m.X b=some ⟨cs,w⟩->cr b=some cs:= λb cs w bQ aF=>by
      rw[mA];simp only;cases lM:u b with
      |some ds=>obtain⟨⟨cN,mb⟩,_⟩:=M.bA b ds lM;rw[aF]at mb;cases mb;rfl
      |none=>simp only;rw[if_pos bQ,aF];rfl
    have qN:((t.a0 o none).a0 p (some ⟨cells.set j (aw a8 I),true⟩)).X p=some ⟨cells.set j (aw a8 I),true⟩:=ej (by simpa using ajw);have bd:((t.a0 o none).a0 p (some ⟨cells.set j (aw a8 I),true⟩)).X o=none:=(by rw[bW cW,ej oz]);have nY: ∀q,q≠p->q≠o->((t.a0 o none).a0 p (some ⟨cells.set j (aw a8 I),true⟩)).X q=t.X q:= λq D H=>by rw[bW D,bW H]
    refine⟨λq x G=> ?_,λq a9 bb=> ?_,M.h3,M.inj,M.c2,λb ds hb=> ?_⟩
    · by_cases D:q=p
      · subst D;rw[qN]at G;cases G;rcases M.hK q _ ai with⟨b,ds,w,aQ,a7,cD,dI⟩|⟨aQ,a7⟩
        · refine .inl ⟨b,ds,w,aQ,a7,cD,?_⟩;obtain⟨y,ag,ad⟩:=dI.X b1;have qY:bV cr K (aw a8 I) y:=by
            rcases ad.mc with⟨c,aK,_,rfl⟩|⟨_,_,cB,rfl⟩
            · obtain⟨cs,cN,ec,_,hU⟩:=M.pc aK aC;have fC:(a8.flatten).length=a8.length*I:=rG bD;refine .hT (off:=0) rfl (PH c cs cN aK ec) (by rw[<-hU.1];simp only;omega) (λi r ak=>bD r (hF ak)) λi Hl r bo y ak aS ag=> ?_;have qX:=JJ bD ak;have Fg:=(eB.1 aS).1;rw[bD r (hF ak)]at Fg;have bq:(a8.flatten)[i*I+Hl]?=some bo:=by
                rw[<-qX,tI,if_pos Fg,wP]at aS;exact aS
              have cP:=hU.2 (i*I+Hl) bo y bq (by rw[<-ag];congr 1;omega);exact EC e7 cP ((az r (hF ak)).2 bo (hF aS))
            · have:a8=[]:=yE cB;subst this;exact .hf rfl
          have fB:=(dI.b6 e7 (fy.refl _)).set j qY;rw[show ds.set j y=ds from by
            apply Be;intro i;rw[u2];split
            · next e=>subst e;rw[ag];simp;exact(eB.1 ag).1
            · rfl]at fB
          exact fB
        · simp only at a7;subst a7;simp at b1
      · by_cases H:q=o
        · subst H;rw[bd]at G;cases G
        · rw[nY q D H]at G;rcases M.hK q x G with⟨b,ds,w,aQ,a7,cD,dI⟩|aQ
          · exact .inl ⟨b,ds,w,aQ,a7,cD,dI.b6 e7 (fy.refl _)⟩
          · exact .inr aQ
    · obtain⟨aK,aR⟩:=hR bb;by_cases D:q=p
      · subst D;rw[qN]at aK;have:cells=[]:=(by simpa using aK);subst this;simp at b1
      · by_cases H:q=o
        · subst H;rw[bd]at aK;cases aK
        · rw[nY q D H]at aK;obtain⟨b,c1,ec,gY,hU⟩:=M.maps q a9 (jM aK aR);exact⟨b,c1,ec,gY,hU.b6 e7 (fy.refl _)⟩
    · have vy:u b=some ds\/(K o=some b/\ ∃w,m.X b=some ⟨ds,w⟩):=by
        rw[mA]at hb;simp only at hb;cases lM:u b with
        |some x=>rw[lM]at hb;simp only at hb;exact .inl hb
        | none=>
          rw[lM]at hb;simp only at hb;split at hb
          · next h=>
            cases aF:m.X b with
            |none=>rw[aF]at hb;cases hb
            |some x=>rw[aF]at hb;cases hb;exact .inr ⟨h,x.own,rfl⟩
          · cases hb
      rcases vy with h|⟨h,w,bN⟩
      · obtain⟨D,H⟩:=M.bA b ds h;refine⟨D,λq x bQ G=> ?_⟩;by_cases aK:q=p
        · subst aK;have:=H q _ bQ ai;cases this
        · by_cases aR:q=o
          · subst aR;rw[bd]at G;cases G
          · rw[nY q aK aR]at G;exact H q x bQ G
      · refine⟨⟨w,bN⟩,λq x bQ G=> ?_⟩;have:q=o:=M.inj q o b bQ h;subst this;rw[bd]at G;cases G
theorem fA.freeze{f:Nat}{args:List Value}{cd mr:Value->W->Prop}(h:fA P f args t cd)(ay: ∀r aJ,cd r aJ->mr r aJ\/ ∃o p j I a8 cells,aJ.X o=some ⟨a8.flatten,true⟩/\(∀r∈a8,r.length=I/\ ∀v∈r,gN v=true)/\aJ.X p=some ⟨cells,true⟩/\
    cells[j]?=some (.slice (some ⟨o,0,none⟩) a8.length I)/\o≠p/\mr r ((aJ.a0 o none).a0 p (some ⟨cells.set j (aw a8 I),true⟩))):fA P f args t mr:= λK u bz m M ax=>(h K u bz m M ax).b6 λdV bg aH=>by
  obtain⟨cq,dt,r,bF,D,H,aq,aE⟩:=aH;rcases ay r bF D with jj|⟨o,p,j,I,a8,cells,aQ,a7,cD,dI,gi,fj⟩
  · exact⟨cq,dt,r,bF,jj,H,aq,aE⟩
  obtain⟨ig,ec,gY,hU⟩:=Wy H aQ a7 cD dI gi;refine⟨cq,ig,r,_,fj,hU,aq.b6 ec (fy.refl _),aE.e,aE.f.trans ec,aE.iJ,λb cs hb=> ?_,aE.je,aE.jE,aE.la,λb hb ⟨q,x,a3,br,bX⟩=>aE.nu b hb ?_,λb hb ⟨q,x,a3,br⟩=>aE.mX b hb ?_⟩
  · rcases gY b cs hb with bq|bq
    · exact aE.fn b cs bq
    · by_cases cP:b<m.next
      · exact .inr (.inr (aE.mX b cP ⟨o,_,bq,aQ⟩))
      · exact .inr (.inl (by omega))
  · by_cases aK:q=p
    · subst aK;exact⟨q,_,a3,cD,rfl⟩
    · by_cases aR:q=o
      · subst aR;exact⟨q,_,a3,aQ,rfl⟩
      · rw[bW aK,bW aR]at br;exact⟨q,x,a3,br,bX⟩
  · by_cases aK:q=p
    · subst aK;exact⟨q,_,a3,cD⟩
    · by_cases aR:q=o
      · subst aR;exact⟨q,_,a3,aQ⟩
      · rw[bW aK,bW aR]at br;exact⟨q,x,a3,br⟩
end
open Go
structure U5(bF aJ:W):Prop where
  next:aJ.next=bF.next
  X: ∀b x,bF.X b=some x->aJ.X b=some x
  map: ∀b a9,bF.eK b=some a9->aJ.eK b=some a9
section
variable {P:Program} {t bF:W} {l:List Nat}
theorem fA.frame{f:Nat}{args:List Value}{cd:Value->W->Prop}(aD: ∀o∈l,∃x,t.X o=some x/\x.cells≠[])(h:fA P f args (kc t l) cd):
    fA P f args t λr aJ=> ∃bF,cd r bF/\U5 bF (kc aJ l)/\t.next<=aJ.next/\ ∀o∈l,aJ.X o=t.X o:= λK u bz m M ax=>by
  have zs:dN K u (kc t l) m:=⟨λo x G=>M.hK o x (p3 G).2,λo a9 bb=>by have hb:=(p3 (hR bb).1).1;rw[OB hb]at bb;exact M.maps o a9 bb,M.h3,M.inj,M.c2,λb cs hb=>⟨(M.bA b cs hb).1,λo x bQ G=>(M.bA b cs hb).2 o x bQ (p3 G).2⟩⟩;refine(h K u bz m zs ax).b6 λdV bg aH=> ?_;obtain⟨cq,dt,r,bF,D,H,aq,aE⟩:=aH;have au:t.next<=bF.next:=aE.je
  have g2: ∀o∈l,∃x b cs w,t.X o=some x/\x.cells≠[]/\K o=some b/\m.X b=some ⟨cs,w⟩/\(x.own=true->w=true)/\bj u K x.cells cs:= λo aC=>by
    obtain⟨x,G,ar⟩:=aD o aC;rcases M.hK o x G with⟨b,cs,w,bw,bJ,cb,eI⟩|⟨_,bJ⟩
    · exact⟨x,b,cs,w,G,ar,bw,bJ,cb,eI⟩
    · exact absurd bJ ar
  have Ao: ∀o∈l,∀b,K o=some b-> ¬Bh K (kc t l) b:= λo aC b hb ⟨p,x,ai,G⟩=>by have:=M.inj p o b ai hb;subst this;rw[OA aC]at G;cases G
  have OT: ∀o∈l,bF.X o=none:= λo aC=>by
    obtain⟨x,b,cs,w,bw,bJ,cb,eI,fm,hy⟩:=g2 o aC;cases aF:bF.X o with
    |none=>rfl
    |some y=>exact absurd (aE.mX b (M.c2 o b cb).2 ⟨o,y,aE.e o b cb,aF⟩) (Ao o aC b cb)
  have rK: ∀o∈l,(lP t bF l).X o=t.X o:= λo aC=>by obtain⟨x,b,cs,w,bw,_⟩:=g2 o aC;exact adk aC au (bn bw)
  have aj6:U5 bF (kc (lP t bF l) l):=⟨rfl,λb x hb=>by
      have:b∉l:= λav=>by rw[OT b av]at hb;cases hb
      rw[Jx this,uy this];exact hb,λb a9 hb=>by
      have:b∉l:= λav=>by have:=(hR hb).1;rw[OT b av]at this;cases this
      rw[OB this,Sf this];exact hb⟩
  refine⟨cq,dt,r,lP t bF l,⟨bF,D,aj6,au,rK⟩,?_,aq,?_⟩
  · refine⟨λo x G=> ?_,λo a9 bb=> ?_,H.h3,H.inj,H.c2,λb cs hb=>⟨(H.bA b cs hb).1,λo x bQ G=> ?_⟩⟩
    · by_cases aC:o∈l
      · rw[rK o aC]at G;obtain⟨y,b,cs,w,bw,bJ,cb,eI,fm,hy⟩:=g2 o aC;rw[bw]at G;cases G;exact .inl ⟨b,cs,w,aE.e o b cb,by rw[aE.la b (M.c2 o b cb).2 λ⟨p,I,a3,br,_⟩=>Ao o aC b cb ⟨p,I,a3,br⟩];exact eI,fm,hy.b6 aE.f aE.e⟩
      · rw[uy aC]at G;exact H.hK o x G
    · by_cases aC:o∈l
      · have:=(hR bb).1;rw[rK o aC]at this;obtain⟨y,ag,ar⟩:=aD o aC;rw[ag]at this;cases this;exact absurd rfl ar
      · rw[Sf aC]at bb;exact H.maps o a9 bb
    · by_cases aC:o∈l
      · rw[rK o aC]at G;obtain⟨y,ca,k6,w,bw,bJ,cb,eI,fm,hy⟩:=g2 o aC;have fN:=aE.e o ca cb;rw[bQ]at fN;cases fN;rcases aE.fn b cs hb with q|q|q
        · exact(M.bA b cs q).2 o x cb G
        · have:=(M.c2 o b cb).2;omega
        · exact absurd q (Ao o aC b cb)
      · rw[uy aC]at G;exact(H.bA b cs hb).2 o x bQ G
  · refine⟨aE.e,aE.f,aE.iJ,λb cs hb=> ?_,au,aE.jE,λb hb aZ=>aE.la b hb λ⟨p,I,a3,br,bX⟩=>aZ ⟨p,I,a3,(p3 br).2,bX⟩,λb hb ⟨o,x,a3,br,bX⟩=> ?_,λb hb ⟨o,x,a3,br⟩=> ?_⟩
    · rcases aE.fn b cs hb with q|q|⟨p,I,a3,br⟩
      · exact .inl q
      · exact .inr (.inl q)
      · exact .inr (.inr ⟨p,I,a3,(p3 br).2⟩)
    · by_cases aC:o∈l
      · obtain⟨y,ca,k6,w,bw,bJ,cb,_⟩:=g2 o aC;have fN:=aE.e o ca cb;rw[a3]at fN;cases fN;rw[rK o aC]at br;exact⟨o,x,cb,br,bX⟩
      · rw[uy aC]at br;obtain⟨p,I,fL,g8,jt⟩:=aE.nu b hb ⟨o,x,a3,br,bX⟩;exact⟨p,I,fL,(p3 g8).2,jt⟩
    · by_cases aC:o∈l
      · obtain⟨y,ca,k6,w,bw,bJ,cb,_⟩:=g2 o aC;have fN:=aE.e o ca cb;rw[a3]at fN;cases fN;rw[rK o aC]at br;exact⟨o,x,cb,br⟩
      · rw[uy aC]at br;obtain⟨p,I,fL,g8⟩:=aE.mX b hb ⟨o,x,a3,br⟩;exact⟨p,I,fL,(p3 g8).2⟩
def tS(r dV:Value):Prop:= ∀(u:fz) (K:eC) (v:Value),bV u K r v->bV u K dV v
theorem tS.refl(r:Value):tS r r:= λ_ _ _ h=>h
theorem tS.nil{I:Nat}:tS (.slice none 0 0) (aw [] I):= λu K v h=>by rw[h.hC rfl];exact .hf rfl
def sv:List Value->List Value->Prop
  |[],[]=>True
  |x::xs,y::ys=>tS x y/\sv xs ys
  |_,_=>False
theorem sv.len: ∀{xs ys:List Value},sv xs ys->xs.length=ys.length
  |[],[],_=>rfl
  |x::xs,y::ys,h=>by simp[sv.len h.2]
  |[],_::_,h=>h.elim
  |_::_,[],h=>h.elim
theorem sv.X: ∀{xs ys:List Value},sv xs ys-> ∀(i:Nat) (x y:Value),xs[i]?=some x->ys[i]?=some y->tS x y
  |[],[],_,i,x,y,D,_=>by simp at D
  |x::xs,y::ys,h,0,a,b,D,H=>by simp at D H;subst D;subst H;exact h.1
  |x::xs,y::ys,h,i+1,a,b,D,H=>sv.X h.2 i a b (by simpa using D) (by simpa using H)
  |[],_::_,h,_,_,_,_,_=>h.elim
  |_::_,[],h,_,_,_,_,_=>h.elim
theorem sv.ta{xs ys j6:List Value}(h:sv xs ys){u:fz}{K:eC}(aD:bj u K xs j6):bj u K ys j6:=by refine⟨by rw[<-h.len];exact aD.1,λi y I ag bD=> ?_⟩;have ak:=(eB.1 ag).1;have G:xs[i]?=some (xs[i]'(by rw[h.len];exact ak)):=dD _;exact h.X i _ y G ag u K I (aD.2 i _ I G bD)
theorem tS.agg{xs ys:List Value}(h:sv xs ys):tS (.agg xs.toArray) (.agg ys.toArray):= λu K v ad=>by obtain⟨j6,rfl,aD⟩:=ad.q0;have:=(h.ta (by simpa using aD)).agg;simpa using this
theorem tS.tuple{xs ys:List Value}(h:sv xs ys):tS (.tuple xs.toArray) (.tuple ys.toArray):= λu K v ad=>by obtain⟨j6,rfl,aD⟩:=ad.zA;have:=(h.ta (by simpa using aD)).tuple;simpa using this
end
section
variable {P:Program} {aB:nw P} {t:W} {z:aM} {c:J} {Q:du->aM->W->Prop}
theorem sj{o p j I:Nat}{a8:List (List Value)}{cells:List Value}(aC:t.X o=some ⟨a8.flatten,true⟩)(az: ∀r∈a8,r.length=I/\ ∀v∈r,gN v=true)
    (ai:t.X p=some ⟨cells,true⟩) (b1:cells[j]?=some (.slice (some ⟨o,0,none⟩) a8.length I)) (cW:o≠p) (h:fl P c z ((t.a0 o none).a0 p (some ⟨cells.set j (aw a8 I),true⟩)) Q):fl P c z t Q:= λao K u ae m M bB=>by
  obtain⟨ig,ec,gY,hU⟩:=Wy M aC az ai b1 cW;refine(h ao K ig ae m hU (bB.b6 ec (fy.refl _))).b6 λe bl bg aH=> ?_;obtain⟨cq,dt,dj,iH,D,H,aq,aE⟩:=aH;have fc: ∀q x,((t.a0 o none).a0 p (some ⟨cells.set j (aw a8 I),true⟩)).X q=some x-> ∃y,t.X q=some y/\(x.own=true->y.own=true):= λq x G=>by
    by_cases aK:q=p
    · subst aK;exact⟨_,ai,λ_=>rfl⟩
    · by_cases aR:q=o
      · subst aR;exact⟨_,aC,λ_=>rfl⟩
      · rw[bW aK,bW aR]at G;exact⟨x,G,λh=>h⟩
  have cD:eD t.next m.next K u t m K ig ((t.a0 o none).a0 p (some ⟨cells.set j (aw a8 I),true⟩)) m:=by
    refine⟨fy.refl _,ec,λ_ _ h=> .inl h,λb cs hb=> ?_,by simp,dW _,λ_ _ _=>rfl,λb hb ⟨q,x,a3,br,bX⟩=> ?_,λb hb ⟨q,x,a3,br⟩=> ?_⟩
    · rcases gY b cs hb with bq|bq
      · exact .inl bq
      · exact .inr (.inr ⟨o,_,bq,aC⟩)
    · obtain⟨y,ag,Fz⟩:=fc q x br;exact⟨q,y,a3,ag,Fz bX⟩
    · obtain⟨y,ag,_⟩:=fc q x br;exact⟨q,y,a3,ag⟩
  exact⟨cq,dt,dj,iH,D,H,aq,cD.trans (aE.uX cD.je (dW _))⟩
end
inductive om(g:Nat->Nat->Prop):Value->Value->Prop
  |hZ {v:Value} (h:gN v=true):om g v v
  |cF {o o' off:Nat} (h:g o o'):om g (.pointer (some ⟨o,off,none⟩)) (.pointer (some ⟨o',off,none⟩))
  |slice {o o' off l I:Nat} (h:g o o'):om g (.slice (some ⟨o,off,none⟩) l I) (.slice (some ⟨o',off,none⟩) l I)
  |agg {xs ys:Array Value} (M:xs.size=ys.size) (h: ∀(i:Nat) (x y:Value),xs[i]?=some x->ys[i]?=some y->om g x y):om g (.agg xs) (.agg ys)
  |tuple {xs ys:Array Value} (M:xs.size=ys.size) (h: ∀(i:Nat) (x y:Value),xs[i]?=some x->ys[i]?=some y->om g x y):om g (.tuple xs) (.tuple ys)
def pW(g:Nat->Nat->Prop)(l k:List Value):Prop:=l.length=k.length/\ ∀(i:Nat) (x y:Value),l[i]?=some x->k[i]?=some y->om g x y
theorem om.ml{g:Nat->Nat->Prop}{u:fz}{cq fM:eC}{v uW:Value}(h:om g v uW)(aF: ∀o o',g o o'-> ∀b,cq o=some b->fM o'=some b): ∀{w:Value},bV u cq v w->bV u fM uW w:=by
  have im: ∀{xs ys j6:Array Value},xs.size=ys.size->(∀(i:Nat) (x y:Value),xs[i]?=some x->ys[i]?=some y-> ∀{w:Value},bV u cq x w->bV u fM y w)->bj u cq xs.toList j6.toList->ys.size=j6.size/\ ∀(i:Nat) (x y:Value),ys[i]?=some x->j6[i]?=some y->bV u fM x y:= λ{xs ys j6} M cc aD=>by have D:xs.size=j6.size:=(by simpa using aD.1);refine⟨M.symm.trans D,λi x y G ag=> ?_⟩;have ak:i<xs.size:=(by rw[M];exact(tG.1 G).1);exact cc i xs[i] x (yF ak) G (aD.2 i xs[i] y (by simp) (by simpa using ag))
  induction h with
  |hZ ar=>exact λad=>(EC (gV.refl _) ad ar).b6 (gV.refl _) (fy.nil _)
  | cF h=>intro w ad;obtain⟨b,aK,_,rfl⟩:=ad.pv;exact .cF (aF _ _ h _ aK)
  | slice h=>
    intro w ad;rcases ad.mc with⟨b,aK,_,rfl⟩|⟨aK,aR,cB,rfl⟩
    · exact .slice (aF _ _ h _ aK)
    · simp only at aK;subst aK;subst cB;exact .oU
  | agg M _ cc=>intro w ad;obtain⟨j6,rfl,aD⟩:=ad.q0;obtain⟨a,b⟩:=im M (λi x y G ag {w}=>cc i x y G ag) aD;exact .agg a b
  | tuple M _ cc=>intro w ad;obtain⟨j6,rfl,aD⟩:=ad.zA;obtain⟨a,b⟩:=im M (λi x y G ag {w}=>cc i x y G ag) aD;exact .tuple a b
theorem pW.ml{g:Nat->Nat->Prop}{u:fz}{cq fM:eC}{l k:List Value}(h:pW g l k)(aF: ∀o o',g o o'-> ∀b,cq o=some b->fM o'=some b){w:List Value}(ad:bj u cq l w):bj u fM k w:=by
  refine⟨h.1.symm.trans ad.1,λi x y G ag=> ?_⟩;have ak:i<l.length:=by rw[h.1];exact(eB.1 G).1
  exact(h.2 i l[i] x (dD ak) G).ml aF (ad.2 i l[i] y (dD ak) ag)
theorem pW.cells{g:Nat->Nat->Prop}{l:List Value}(h: ∀v∈l,gN v=true):pW g l l:=
  ⟨rfl,λi x y G ag=>by rw[G]at ag;cases ag;exact .hZ (h x (hF G))⟩
theorem om.ag2{g:Nat->Nat->Prop}{l k:List Value}(h:pW g l k):om g (.agg l.toArray) (.agg k.toArray):= .agg (by simpa using h.1) (by simpa using h.2)
theorem pW.nil{g:Nat->Nat->Prop}:pW g [] []:=⟨rfl,by intro i x y h;simp at h⟩
theorem pW.cons{g:Nat->Nat->Prop}{x y:Value}{l k:List Value}(h:om g x y)(M:pW g l k):pW g (x::l) (y::k):=by
  refine⟨by simp[M.1],λi a b ax hb=> ?_⟩;cases i with
  |zero=>simp at ax hb;subst ax;subst hb;exact h
  |succ i=>exact M.2 i a b (by simpa using ax) (by simpa using hb)
def Hx:Value->Bool
  | .agg cs=>cs.toList.all gN
  |v=>gN v
theorem ad5{g:Nat->Nat->Prop}{v:Value}(h:Hx v=true):om g v v:=by
  unfold Hx at h;split at h
  · next cs=>have:=om.ag2 (g:=g) (pW.cells (l:=cs.toList) λv ad=>eQ.1 h v ad);simpa using this
  · exact .hZ h
def r7:Nat->List (List Value)->W->W
  |_,[],t=>t
  |i,c::l,t=>r7 (i+1) l (t.a0 i (some ⟨c,true⟩))
@[simp] theorem aHU{i:Nat}{t:W}:r7 i [] t=t:=rfl
@[simp] theorem HN{i:Nat}{t:W}{c:List Value}{l:List (List Value)}:r7 i (c::l) t=r7 (i+1) l (t.a0 i (some ⟨c,true⟩)):=rfl
theorem aex: ∀{l:List (List Value)} {i:Nat} {t:W},(r7 i l t).next=t.next
  |[],_,_=>rfl
  |c::l,i,t=>by rw[HN,aex];rfl
theorem SZ: ∀{l:List (List Value)} {i:Nat} {t:W},(r7 i l t).mp=t.mp
  |[],_,_=>rfl
  |c::l,i,t=>by rw[HN,SZ];rfl
theorem S0: ∀{l:List (List Value)} {i b:Nat} {t:W},b<i->(r7 i l t).X b=t.X b
  |[],_,_,_,_=>rfl
  |c::l,i,b,t,h=>by rw[HN,S0 (by omega),bW (by omega)]
theorem aew: ∀{l:List (List Value)} {i j:Nat} {t:W} {c:List Value},i+l.length<=t.next->l[j]?=some c->(r7 i l t).X (i+j)=some ⟨c,true⟩
  |[],_,_,_,_,_,h=>by simp at h
  | c::l,i,0,t,x,au,h=>by simp at h;subst h;simp only[pS]at au;rw[HN,S0 (by omega)];exact ej (by omega)
  | c::l,i,j+1,t,x,au,h=>by simp only[pS]at au;have:=aew (l:=l) (i:=i+1) (j:=j) (t:=t.a0 i (some ⟨c,true⟩)) (c:=x) (by simp;omega) (by simpa using h);rw[HN,<-this];congr 1;omega
section
variable {P:Program}
theorem azt{f n:Nat}{args:List Value}{r:Nat->Value}{bs:Nat->List (List Value)}(au: ∀k,(bs k).length=n)(ax: ∀v∈args,Hx v=true)
    (j7:fA P f args g6 λv bF=> ∃sV:List Nat,sV.Nodup/\sV.length=n/\ ∀k,om (λo o'=> ∃i:Nat,sV[i]?=some o/\o'=k+i) v (r k)/\ ∀(i:Nat) cs,(bs k)[i]?=some cs-> ∃o kb,sV[i]?=some o/\bF.X o=some ⟨kb,true⟩/\pW (λo o'=> ∃i:Nat,sV[i]?=some o/\o'=k+i) kb cs) (t:W):
    fA P f args t λv aJ=>v=r t.next/\aJ=r7 t.next (bs t.next) (t.dp n):= λK u bz m M aD=>by
  have Pj:bj u kT args bz:=⟨aD.1,λi x y G ag=>(ad5 (g:= λ_ _=>False) (ax x (hF G))).ml (λ_ _ h=>h.elim) (aD.2 i x y G ag)⟩;obtain⟨p,ai⟩: ∃p:W,p=⟨m.next,λb=>if(u b).isSome then m.ix b else none,m.mp⟩:=⟨_,rfl⟩;have uK:p.next=m.next:=by rw[ai]
  have SW:p.mp=m.mp:=by rw[ai]
  have q7: ∀b,p.X b=if(u b).isSome then m.X b else none:= λb=>by
    rw[ai];simp only[W.X];split
    · rfl
    · split<;>rfl
  have part:vf p m:=⟨uK,SW,λb x G=>by
    rw[q7]at G;split at G
    · exact G
    · cases G⟩
  have Pg:tO u p:= λb cs hb=>by obtain⟨w,aZ⟩:=(M.bA b cs hb).1;exact⟨w,by rw[q7,hb];exact aZ⟩
  have zs:dN kT u g6 p:=ae4 Pg;refine(gd.frame part (j7 kT u bz p zs Pj)).b6 λdV bg aH=> ?_;obtain⟨lD,⟨cq,dt,v,bF,⟨sV,hS,eS,aa⟩,H,aq,aE⟩,bR⟩:=aH;have xt:m.next<=bg.next:=bR.next
  have aHI:lD.next=bg.next:=bR.part.next
  obtain⟨az,hb⟩:=aa t.next
  obtain⟨aX,cK⟩: ∃aX,aX=bs t.next:=⟨_,rfl⟩
  rw[<-cK]at hb⊢;have aiU:aX.length=n:=by rw[cK];exact au _
  obtain⟨fM,JU⟩: ∃fM:eC,fM= λo=>if o<t.next then K o else match sV[o-t.next]? with|some p=>cq p|none=>none:=⟨_,rfl⟩
  have ov: ∀o,o<t.next->fM o=K o:= λo h=>by rw[JU];simp only[if_pos h]
  have iJ: ∀o,¬o<t.next->fM o=match sV[o-t.next]? with|some p=>cq p|none=>none:= λo h=>by rw[JU];simp only[if_neg h]
  have OM: ∀i p,sV[i]?=some p->fM (t.next+i)=cq p:= λi p h=>by rw[iJ _ (by omega),show t.next+i-t.next=i by omega,h]
  have aF: ∀o o',(∃i:Nat,sV[i]?=some o/\o'=t.next+i)-> ∀b,cq o=some b->fM o'=some b:= λo o' ⟨i,D,H⟩ b hb=>by rw[H,OM i o D];exact hb
  have EH: ∀p b,cq p=some b->m.next<=b:= λp b h=>(aE.iJ p b h).elim (λh=>by cases h) (λh=>by have:=h.2;omega)
  have rH: ∀b cs,dt b=some cs->u b=some cs\/m.next<=b:= λb cs h=>by
    rcases aE.fn b cs h with h|h|⟨o,x,h,_⟩
    · exact .inl h
    · exact .inr (by omega)
    · cases h
  have ad1: ∀o,¬o<t.next->K o=none:= λo h=>by
    cases bb:K o with
    |none=>rfl
    |some b=>exact absurd (M.c2 o b bb).1 h
  have OI:fy K fM:= λo b h=>by rw[ov o (M.c2 o b h).1];exact h
  have Af: ∀b,b<m.next->bg.X b=m.X b:= λb hb=>by
    cases aF:p.X b with
    |none=>exact(bR.uG b hb aF).1
    |some x=>rw[part.X b x aF];exact bR.part.X b x (by rw[aE.la b (by rw[uK];exact hb) λ⟨o,x,h,_⟩=>by cases h];exact aF)
  have new: ∀o b,¬o<t.next->fM o=some b-> ∃i p,o=t.next+i/\sV[i]?=some p/\cq p=some b:= λo b h bb=>by
    rw[iJ o h]at bb;split at bb
    · next p ai=>exact⟨o-t.next,p,by omega,ai,bb⟩
    · cases bb
  have bd: ∀o,o<t.next->(r7 t.next aX (t.dp n)).X o=t.X o:= λo h=>by rw[S0 h,e6 h]
  have Di:(r7 t.next aX (t.dp n)).next=t.next+n:=by rw[aex];rfl
  have WR: ∀o x,¬o<t.next->(r7 t.next aX (t.dp n)).X o=some x-> ∃i cs,o=t.next+i/\aX[i]?=some cs/\x=⟨cs,true⟩:= λo x h G=>by
    have D:=bn G;rw[Di]at D;have ak:o-t.next<aX.length:=by omega
    have H:=aew (i:=t.next) (j:=o-t.next) (t:=t.dp n) (l:=aX) (c:=aX[o-t.next]) (by rw[aiU];simp[W.dp]) (dD ak);rw[show t.next+(o-t.next)=o by omega,G]at H;exact⟨o-t.next,_,by omega,dD ak,by cases H;rfl⟩
  refine⟨fM,dt,_,_,⟨rfl,rfl⟩,?_,az.ml aF aq,?_⟩
  · refine⟨λo x G=> ?_,λo a9 bb=> ?_,λo aC=> ?_,λo o' b h bN=> ?_,λo b h=> ?_,λb cs h=>⟨by obtain⟨w,aZ⟩:=(H.bA b cs h).1;exact⟨w,bR.part.X b _ aZ⟩,λo x bQ G=> ?_⟩⟩
    · by_cases aC:o<t.next
      · rw[bd o aC]at G;rcases M.hK o x G with⟨b,cs,w,bw,bJ,cb,eI⟩|⟨bw,bJ⟩
        · exact .inl ⟨b,cs,w,by rw[ov o aC];exact bw,by rw[Af b (M.c2 o b bw).2];exact bJ,cb,eI.b6 aE.f OI⟩
        · exact .inr ⟨by rw[ov o aC];exact bw,bJ⟩
      · obtain⟨i,cs,rfl,iL,rfl⟩:=WR o x aC G;obtain⟨p,kb,a3,br,bX⟩:=hb i cs iL;rcases H.hK p _ br with⟨b,ds,w,bw,bJ,cb,eI⟩|⟨bw,bJ⟩
        · exact .inl ⟨b,ds,w,by rw[OM i p a3];exact bw,bR.part.X b _ bJ,λ_=>cb rfl,bX.ml aF eI⟩
        · refine .inr ⟨by rw[OM i p a3];exact bw,?_⟩;simp only at bJ;subst bJ;exact yE bX.1.symm
    · obtain⟨ch,c6⟩:=hR bb;rw[SZ]at c6;by_cases aC:o<t.next
      · rw[bd o aC]at ch;obtain⟨b,c1,bw,bJ,cb⟩:=M.maps o a9 (jM ch c6);obtain⟨hP,hd⟩:=hR bJ;have y7:=(M.c2 o b bw).2;refine⟨b,c1,by rw[ov o aC];exact bw,?_,cb.b6 aE.f OI⟩;have lM:u b=none:=by
          cases dv:u b with
          |none=>rfl
          |some cs=>have:=(M.bA b cs dv).2 o _ bw ch;cases this
        exact jM (by rw[Af b y7];exact hP) (by rw[(bR.uG b y7 (by rw[q7,lM];rfl)).2.2];exact hd)
      · have:=M.h3 o (ad1 o aC);rw[show(t.dp n).mp=t.mp from rfl,this]at c6;cases c6
    · rw[SZ];by_cases h:o<t.next
      · exact M.h3 o (by rw[<-ov o h];exact aC)
      · exact M.h3 o (ad1 o h)
    · by_cases ch:o<t.next
      · rw[ov o ch]at h;by_cases c6:o'<t.next
        · rw[ov o' c6]at bN;exact M.inj o o' b h bN
        · obtain⟨i,p,_,_,e⟩:=new o' b c6 bN;have:=EH p b e;have:=(M.c2 o b h).2;omega
      · obtain⟨i,p,aK,aR,cB⟩:=new o b ch h;by_cases c6:o'<t.next
        · rw[ov o' c6]at bN;have:=EH p b cB;have:=(M.c2 o' b bN).2;omega
        · obtain⟨dc,lD,db,dx,f3⟩:=new o' b c6 bN;have ajV:=H.inj p lD b cB f3;subst ajV;have ak:=(eB.1 aR).1;obtain⟨hH,a7⟩:=eB.1 dx;have aQ:=(eB.1 aR).2;have:i=dc:=by
            rcases Nat.lt_trichotomy i dc with q|q|q
            · exact absurd (aQ.trans a7.symm) (A7.1 hS i dc ak hH q)
            · exact q
            · exact absurd (a7.trans aQ.symm) (A7.1 hS dc i hH ak q)
          omega
    · rw[Di];by_cases ch:o<t.next
      · rw[ov o ch]at h;have:=M.c2 o b h;exact⟨by omega,by omega⟩
      · obtain⟨i,p,aK,aR,cB⟩:=new o b ch h;have:=(eB.1 aR).1;exact⟨by omega,by have:=(H.c2 p b cB).2;omega⟩
    · by_cases ch:o<t.next
      · rw[ov o ch]at bQ;rw[bd o ch]at G;rcases rH b cs h with h|h
        · exact(M.bA b cs h).2 o x bQ G
        · have:=(M.c2 o b bQ).2;omega
      · obtain⟨i,p,aK,aR,cB⟩:=new o b ch bQ;obtain⟨dc,c,db,dx,f3⟩:=WR o x ch G;have:dc=i:=(by omega);subst this;obtain⟨lD,kb,a3,br,bX⟩:=hb dc c dx;rw[aR]at a3;cases a3;have:=(H.bA b cs h).2 p _ cB br;cases this
  · refine⟨OI,aE.f,λo b h=> ?_,λb cs h=>(rH b cs h).elim .inl λh=> .inr (.inl h),by rw[Di];omega,xt,λb hb _=>Af b hb,λb hb ⟨o,x,a3,br,bX⟩=> ?_,λb hb ⟨o,x,a3,br⟩=> ?_⟩
    · by_cases ch:o<t.next
      · rw[ov o ch]at h;exact .inl h
      · obtain⟨i,p,aK,aR,cB⟩:=new o b ch h;exact .inr ⟨by omega,EH p b cB⟩
    · by_cases ch:o<t.next
      · rw[ov o ch]at a3;rw[bd o ch]at br;exact⟨o,x,a3,br,bX⟩
      · obtain⟨i,p,aK,aR,cB⟩:=new o b ch a3;have:=EH p b cB;omega
    · by_cases ch:o<t.next
      · rw[ov o ch]at a3;rw[bd o ch]at br;exact⟨o,x,a3,br⟩
      · obtain⟨i,p,aK,aR,cB⟩:=new o b ch a3;have:=EH p b cB;omega
end
section
variable {P:Program}
abbrev ee(o n I:Nat):Value:= .slice (some ⟨o,0,none⟩) n I
theorem NT{f n I:Nat}{args cells:List Value}(ax: ∀v∈args,Hx v=true)(ar: ∀v∈cells,gN v=true)
    (j7:fA P f args g6 λv bF=> ∃o,v=ee o n I/\bF.X o=some ⟨cells,true⟩) (t:W):fA P f args t λv aJ=>v=ee t.next n I/\aJ=(t.dp 1).a0 t.next (some ⟨cells,true⟩):=
  azt (r:= λk=>ee k n I) (bs:= λ_=>[cells]) (n:=1) (λ_=>rfl) ax (j7.b6 λv bF ⟨o,ad,aF⟩=>⟨[o],by simp,rfl,λk=>⟨by
    rw[ad];exact .slice ⟨0,rfl,rfl⟩,λi cs iL=>by
      cases i with
      |zero=>simp at iL;subst iL;exact⟨o,cells,rfl,aF,pW.cells ar⟩
      |succ i=>simp at iL⟩⟩) t
theorem Uc{f n I:Nat}{args:List Value}{a8:List (List Value)}(au:n=a8.length)(az: ∀r∈a8,r.length=I/\ ∀v∈r,gN v=true)
    (j7:fA P f args g6 λv bF=> ∃o,v=ee o n I/\bF.X o=some ⟨a8.flatten,true⟩):bK P f args (aw a8 I):=
  et (j7.b6 λv t ⟨o,ad,aF⟩=>by rw[ad];exact sG (n:=8) aF au az)
open Classical in
noncomputable def iQ.EO(f:Nat)(cf:Type)(bP:cf->Prop)(enc:cf->List Value)(n I:cf->Nat)(cells:cf->List Value)
    (ok: ∀x,bP x-> ∀t,fA P f (enc x) t λv aJ=>v=ee t.next (n x) (I x)/\aJ=(t.dp 1).a0 t.next (some ⟨cells x,true⟩)):iQ P:=
  ⟨f,λargs t=>if h: ∃x,bP x/\enc x=args then some (ee t.next (n h.choose) (I h.choose),(t.dp 1).a0 t.next (some ⟨cells h.choose,true⟩))else none,λargs t r aJ h cd jB=>by
    split at h
    · next G=>cases h;have:=ok _ G.choose_spec.1 t;rw[G.choose_spec.2]at this;exact this.b6 λv aJ ⟨a,b⟩=>by rw[a,b];exact jB
    · cases h⟩
theorem iQ.OU{f:Nat}{cf:Type}{bP:cf->Prop}{enc:cf->List Value}{n I:cf->Nat}{cells:cf->List Value}{ok: ∀x,bP x-> ∀t,fA P f (enc x) t λv aJ=>v=ee t.next (n x) (I x)/\aJ=(t.dp 1).a0 t.next (some ⟨cells x,true⟩)}{x:cf}{t:W}(ai:bP x)(ak: ∀y,enc y=enc x->y=x):
    (iQ.EO (P:=P) f cf bP enc n I cells ok).fn (enc x) t=some (ee t.next (n x) (I x),(t.dp 1).a0 t.next (some ⟨cells x,true⟩)):=by
  have gQ: ∃y,bP y/\enc y=enc x:=⟨x,ai,rfl⟩;simp only[iQ.EO,dif_pos gQ];rw[ak _ gQ.choose_spec.2]
end
def jd{c4:Type}(n:Nat)(f:Nat->c4):List c4:=(List.range n).map f
section
variable {c4 kF:Type} {n i:Nat} {f g:Nat->c4}
@[simp] theorem awJ:(jd n f).length=n:=by simp[jd]
theorem HR(h:i<n):(jd n f)[i]?=some (f i):=by simp[jd,h]
theorem r8(h: ∀j,j<n->f j=g j):jd n f=jd n g:=by unfold jd;exact yH λj b1=>h j (qz.1 b1)
theorem MY{x:c4}:(jd n f).set i x=jd n (λj=>if j=i then x else f j):=by
  apply Be;intro j;rw[u2];by_cases b1:j<n
  · by_cases e:i=j
    · subst e;rw[if_pos rfl,if_pos (by simpa using b1),HR b1,if_pos rfl]
    · rw[if_neg e,HR b1,HR b1,if_neg λh=>e h.symm]
  · have D: ∀(k:Nat->c4),(jd n k)[j]?=none:= λk=>pP (by simp;omega);rw[D,D];split
    · rw[if_neg (by simp;omega)]
    · rfl
theorem Dp{h:c4->kF}:(jd n f).map h=jd n λj=>h (f j):=by simp[jd]
theorem awK{x:c4}:List.replicate n x=jd n λ_=>x:=by
  apply Be;intro j;by_cases b1:j<n
  · rw[HR b1];simp[b1]
  · rw[pP (by simp;omega),pP (by simp;omega)]
theorem Tb:jd (n+1) f=jd n f++[f n]:=by simp[jd,List.range_succ]
end
section
variable {P:Program}
open Classical in
theorem UE{f:Nat}{args cs kb:List Value}{r:Value}(cW:cs≠[])(ajI:kb≠[])(iL: ∀v∈cs,gN v=true)(ajd: ∀v∈kb,gN v=true)(ax: ∀v∈args,Hx v=true)
    (j7:fA P f (.pointer (some ⟨0,0,none⟩)::args) ((g6.dp 1).a0 0 (some ⟨cs,true⟩)) λv bF=>dO 9 bF v=some r/\bF.X 0=some ⟨kb,true⟩/\0∉ed 9 bF v) {t:W} {o:Nat} (aC:t.X o=some ⟨cs,true⟩):
    fA P f (.pointer (some ⟨o,0,none⟩)::args) t λv aJ=>v=r/\aJ=t.a0 o (some ⟨kb,true⟩):= λK u bz m M aD=>by
  obtain⟨b,ds,afQ,bQ,rS,ajP,Xm⟩: ∃b ds w,K o=some b/\m.X b=some ⟨ds,w⟩/\(true=true->w=true)/\bj u K cs ds:=by
    rcases M.hK o _ aC with⟨b,ds,w,bw,bJ,cb,eI⟩|⟨_,bJ⟩
    · exact⟨b,ds,w,bw,bJ,cb,eI⟩
    · exact absurd bJ cW
  have akg:=ajP rfl;subst akg;have lM:u b=none:=by
    cases dv:u b with
    |none=>rfl
    |some c=>have:=(M.bA b c dv).2 o _ bQ aC;cases this
  obtain⟨p,ai⟩: ∃p:W,p=⟨m.next,λq=>if(u q).isSome\/q=b then m.ix q else none,m.mp⟩:=⟨_,rfl⟩;have uK:p.next=m.next:=by rw[ai]
  have q7: ∀q,p.X q=if(u q).isSome\/q=b then m.X q else none:= λq=>by
    rw[ai];simp only[W.X];split
    · rfl
    · split<;>rfl
  have part:vf p m:=⟨uK,by rw[ai],λq x G=>by
    rw[q7]at G;split at G
    · exact G
    · cases G⟩
  obtain⟨yL,WV⟩: ∃yL:eC,yL= λq=>if q=0 then some b else none:=⟨_,rfl⟩
  have OE:yL 0=some b:=by rw[WV];rfl
  have h5: ∀q c,yL q=some c->q=0/\c=b:= λq c h=>by
    rw[WV]at h;simp only at h;split at h
    · next e=>cases h;exact⟨e,rfl⟩
    · cases h
  have JZ:=bn rS;have ayz:((g6.dp 1).a0 0 (some (fq.mk cs true))).X 0=some ⟨cs,true⟩:=ej (by simp[g6]);have afr: ∀q x,((g6.dp 1).a0 0 (some (fq.mk cs true))).X q=some x->q=0/\x=⟨cs,true⟩:= λq x G=>by have:=bn G;simp[g6]at this;subst this;rw[ayz]at G;cases G;exact⟨rfl,rfl⟩
  have VP: ∀{cq fM:eC} {dt:fz} {l k:List Value},(∀v∈l,gN v=true)->bj dt cq l k->bj dt fM l k:= λ{cq fM dt l k} ar h=>(pW.cells (g:= λ_ _=>False) ar).ml (λ_ _ h=>h.elim) h;have zs:dN yL u ((g6.dp 1).a0 0 (some ⟨cs,true⟩)) p:=by
    refine⟨λq x G=> ?_,λq a9 bb=> ?_,λq _=>rfl,λq MU c h bN=>by rw[(h5 q c h).1,(h5 MU c bN).1],λq c h=> ?_,λc fH h=>⟨?_,λq x bc G=> ?_⟩⟩
    · obtain⟨rfl,rfl⟩:=afr q x G;exact .inl ⟨b,ds,true,OE,by rw[q7,if_pos (.inr rfl)];exact rS,λ_=>rfl,VP iL Xm⟩
    · obtain⟨_,e⟩:=afr q _ (hR bb).1;simp only[fq.mk.injEq,and_true]at e;exact absurd e.symm cW
    · obtain⟨rfl,rfl⟩:=h5 q c h;exact⟨by simp[g6],by rw[uK];exact JZ⟩
    · obtain⟨w,aZ⟩:=(M.bA c fH h).1;exact⟨w,by rw[q7,if_pos (.inl (by rw[h];rfl))];exact aZ⟩
    · obtain⟨rfl,rfl⟩:=h5 q c bc;rw[lM]at h;cases h
  have Pj:bj u yL (.pointer (some ⟨0,0,none⟩)::args) bz:=by
    cases bz with
    |nil=>have:=aD.1;simp at this
    | cons a Bq=>have D:=aD.2 0 _ a rfl rfl;obtain⟨c,ec,_,rfl⟩:=D.pv;simp only at ec;rw[bQ]at ec;cases ec;refine bj.cons (.cF OE) ⟨by simpa using aD.1,λi x y G ag=> ?_⟩;exact(ad5 (g:= λ_ _=>False) (ax x (hF G))).ml (λ_ _ h=>h.elim) (aD.2 (i+1) x y (by simpa using G) (by simpa using ag))
  refine(gd.frame part (j7 yL u bz p zs Pj)).b6 λdV bg aH=> ?_;obtain⟨lD,⟨cq,dt,v,bF,⟨az,sO,aj1⟩,H,aq,aE⟩,bR⟩:=aH;have xt:m.next<=bg.next:=bR.next
  have JB:cq 0=some b:=aE.e 0 b OE;have rH: ∀c fH,dt c=some fH->u c=some fH\/m.next<=c:= λc fH h=>by
    rcases aE.fn c fH h with bq|bq|⟨q,x,bq,_⟩
    · exact .inl bq
    · exact .inr (by omega)
    · obtain⟨rfl,rfl⟩:=h5 q c bq;have:=(H.bA _ fH h).2 0 _ JB sO;cases this
  have aia: ∀q c,cq q=some c->c=b\/m.next<=c:= λq c h=>by
    rcases aE.iJ q c h with bq|bq
    · exact .inl (h5 q c bq).2
    · exact .inr (by have:=bq.2;omega)
  have Af: ∀c,c<m.next->c≠b->bg.X c=m.X c:= λc ar xk=>by
    cases aF:p.X c with
    |none=>exact(bR.uG c ar aF).1
    | some x=>rw[part.X c x aF];refine bR.part.X c x ?_;rw[aE.la c (by rw[uK];exact ar) λ⟨q,x,bq,_⟩=>xk (h5 q c bq).2];exact aF
  obtain⟨ig,Pd⟩: ∃ig:fz,ig= λc=>match dt c with
    |some fH=>some fH
    |none=>if c≠b/\ ∃q,cq q=some c then(lD.X c).map (·.cells)else none:=⟨_,rfl⟩
  have OQ:gV dt ig:= λc fH h=>by rw[Pd];simp only[h]
  have dx: ∀c fH,ig c=some fH->dt c=some fH\/(m.next<=c/\ ∃w,lD.X c=some ⟨fH,w⟩):= λc fH h=>by
    rw[Pd]at h;simp only at h;split at h
    · next bq=>cases h;exact .inl bq
    · split at h
      · next bq=>
        obtain⟨xk,q,bc⟩:=bq;right;refine⟨(aia q c bc).resolve_left xk,?_⟩;cases aF:lD.X c with
        |none=>rw[aF]at h;cases h
        |some x=>rw[aF]at h;cases h;exact⟨x.own,rfl⟩
      · cases h
  have azc:bV ig kT r dV:=ER H OQ 9 aq az λq bc fc c fH w Xz aF=>by
    rw[Pd];simp only;cases Pf:dt c with
    |some ot=>obtain⟨⟨cN,mb⟩,_⟩:=H.bA c ot Pf;rw[aF]at mb;cases mb;rfl
    | none=>
      have xk:c≠b:= λe=>by subst e;have:=H.inj q 0 c Xz JB;subst this;exact aj1 bc
      simp only;rw[if_pos ⟨xk,q,Xz⟩,aF];rfl
  obtain⟨yS,c3,po,Xn⟩: ∃yS c3,lD.X b=some ⟨yS,c3⟩/\(c3=true/\bj dt cq kb yS):=by
    rcases H.hK 0 _ sO with⟨c,d,w,bw,bJ,cb,eI⟩|⟨bw,_⟩
    · rw[JB]at bw;cases bw;exact⟨d,w,bJ,cb rfl,eI⟩
    · rw[JB]at bw;cases bw
  have cp:=bn aC;have a7: ∀q,q≠o->(t.a0 o (some ⟨kb,true⟩)).X q=t.X q:= λq h=>bW h;have WK:(t.a0 o (some (fq.mk kb true))).X o=some ⟨kb,true⟩:=ej cp;have MH: ∀q c,K q=some c->q≠o->c≠b:= λq c h bc e=>bc (M.inj q o b (e▸h) bQ);have OR:gV u ig:=aE.f.trans OQ;refine⟨K,ig,_,_,⟨rfl,rfl⟩,?_,azc.b6 (gV.refl _) (fy.nil _),?_⟩
  · refine⟨λq x G=> ?_,λq a9 bb=> ?_,M.h3,M.inj,λq c h=>⟨(M.c2 q c h).1,by have:=(M.c2 q c h).2;omega⟩,λc fH h=>⟨?_,λq x bc G=> ?_⟩⟩
    · by_cases bc:q=o
      · subst bc;rw[WK]at G;cases G;exact .inl ⟨b,yS,c3,bQ,bR.part.X b _ po,λ_=>Xn.1,(VP ajd Xn.2).b6 OQ (fy.refl _)⟩
      · rw[a7 q bc]at G;rcases M.hK q x G with⟨c,d,w,bw,bJ,cb,eI⟩|bw
        · exact .inl ⟨c,d,w,bw,by rw[Af c (M.c2 q c bw).2 (MH q c bw bc)];exact bJ,cb,eI.b6 OR (fy.refl _)⟩
        · exact .inr bw
    · obtain⟨ch,c6⟩:=hR bb;by_cases bc:q=o
      · subst bc;rw[WK]at ch;simp only[ll,fq.mk.injEq,and_true]at ch;exact absurd ch ajI
      · rw[a7 q bc]at ch;obtain⟨c,c1,bw,bJ,cb⟩:=M.maps q a9 (jM ch c6);obtain⟨hP,hd⟩:=hR bJ;have b0:=(M.c2 q c bw).2;have xk:=MH q c bw bc;have Pf:u c=none:=by
          cases dv:u c with
          |none=>rfl
          |some d=>have:=(M.bA c d dv).2 q _ bw ch;cases this
        refine⟨c,c1,bw,?_,cb.b6 OR (fy.refl _)⟩;exact jM (by rw[Af c b0 xk];exact hP) (by rw[(bR.uG c b0 (by rw[q7,Pf,if_neg (by simp[xk])])).2.2];exact hd)
    · rcases dx c fH h with bq|⟨bq,w,cP⟩
      · obtain⟨w,aZ⟩:=(H.bA c fH bq).1;exact⟨w,bR.part.X c _ aZ⟩
      · exact⟨w,bR.part.X c _ cP⟩
    · have ek:=(M.c2 q c bc).2;have dv:u c=some fH:=by
        rcases dx c fH h with bq|⟨bq,_⟩
        · exact(rH c fH bq).resolve_right (by omega)
        · omega
      by_cases xv:q=o
      · subst xv;rw[bQ]at bc;cases bc;rw[lM]at dv;cases dv
      · rw[a7 q xv]at G;exact(M.bA c fH dv).2 q x bc G
  · refine⟨fy.refl _,OR,λ_ _ h=> .inl h,λc fH h=> ?_,dW _,xt,λc ar aZ=> ?_,λc ar ⟨q,x,a3,br,bX⟩=> ?_,λc ar ⟨q,x,a3,br⟩=> ?_⟩
    · rcases dx c fH h with bq|⟨bq,_⟩
      · rcases rH c fH bq with cP|cP
        · exact .inl cP
        · exact .inr (.inl cP)
      · exact .inr (.inl bq)
    · exact Af c ar λe=>aZ ⟨o,_,e▸bQ,aC,rfl⟩
    · by_cases xv:q=o
      · subst xv;exact⟨q,_,a3,aC,rfl⟩
      · rw[a7 q xv]at br;exact⟨q,x,a3,br,bX⟩
    · by_cases xv:q=o
      · subst xv;exact⟨q,_,a3,aC⟩
      · rw[a7 q xv]at br;exact⟨q,x,a3,br⟩
end
section
variable {P:Program} {t m an:W} {K:eC} {u:fz}
theorem ayj(M:dN K u t m){q:Nat}{cs:List Value}(bc:m.next<=q)(ajW:q<an.next)(aF:an.X q=some ⟨cs,true⟩)(au:m.next<=an.next)(aa: ∀b,b<m.next->an.X b=m.X b/\an.mp b=m.mp b)(fC:cs.all dQ=true):
    dN (gS K t.next q) u ((t.dp 1).a0 t.next (some ⟨cs,true⟩)) an/\eD t.next m.next K u t m (gS K t.next q) u ((t.dp 1).a0 t.next (some ⟨cs,true⟩)) an:=by
  have bQ:K t.next=none:=by
    cases bb:K t.next with
    |none=>rfl
    |some b=>have:=(M.c2 _ _ bb).1;omega
  have y5: ∀{o b:Nat},gS K t.next q o=some b->(o=t.next/\b=q)\/(o≠t.next/\K o=some b):= λ{o b} h=>by
    simp only[gS]at h;split at h
    · next e=>cases h;exact .inl ⟨e,rfl⟩
    · next e=>exact .inr ⟨e,h⟩
  have rU: ∀{o:Nat},o≠t.next->((t.dp 1).a0 t.next (some ⟨cs,true⟩)).X o=t.X o:= λaC=>by rw[bW aC,W.e6]
  have ajp: ∀{b:Nat} {a9:List (Value×Value)},b<m.next->m.eK b=some a9->an.eK b=some a9:= λ{b a9} hb bb=>by obtain⟨aK,aR⟩:=hR bb;exact jM (by rw[(aa b hb).1,aK]) (by rw[(aa b hb).2,aR])
  refine⟨⟨λo x G=> ?_,λo a9 bb=> ?_,λo h=> ?_,λo o' b h bN=> ?_,λo b h=> ?_,λb ds h=> ?_⟩,⟨fy.set bQ,gV.refl _,λo b h=> ?_,λb ds h=> .inl h,by simp,au,λb hb _=>(aa b hb).1,λb hb=> λ⟨o,y,h,bN,qO⟩=> ?_,λb hb=> λ⟨o,y,h,bN⟩=> ?_⟩⟩
  · by_cases aC:o=t.next
    · subst aC;rw[ej (by simp)]at G;cases G;exact .inl ⟨q,cs,true,by simp[gS],aF,λ_=>rfl,bj.cy fC⟩
    · rw[rU aC]at G;rcases M.hK o x G with⟨b,ds,w,D,H,aq,aE⟩|⟨D,H⟩
      · exact .inl ⟨b,ds,w,by simp[gS,aC,D],by rw[(aa b (M.c2 o b D).2).1,H],aq,aE.b6 (gV.refl _) (fy.set bQ)⟩
      · exact .inr ⟨by simp[gS,aC,D],H⟩
  · by_cases aC:o=t.next
    · subst aC;have:=(hR bb).2;rw[show((t.dp 1).a0 t.next (some ⟨cs,true⟩)).mp=t.mp from rfl,M.h3 _ bQ]at this;cases this
    · rw[sH aC]at bb;obtain⟨aK,aR⟩:=hR bb;rw[W.e6]at aK;obtain⟨b,c1,D,H,aq⟩:=M.maps o a9 (jM aK aR);exact⟨b,c1,by simp[gS,aC,D],ajp (M.c2 o b D).2 H,aq.b6 (gV.refl _) (fy.set bQ)⟩
  · simp only[gS]at h;split at h
    · cases h
    · exact M.h3 o h
  · rcases y5 h with⟨bw,bJ⟩|⟨bw,bJ⟩<;>rcases y5 bN with⟨ch,c6⟩|⟨ch,c6⟩
    · rw[bw,ch]
    · have:=(M.c2 _ _ c6).2;omega
    · have:=(M.c2 _ _ bJ).2;omega
    · exact M.inj o o' b bJ c6
  · rcases y5 h with⟨bw,bJ⟩|⟨bw,bJ⟩
    · subst bw;subst bJ;exact⟨by simp,ajW⟩
    · have:=M.c2 o b bJ;simp only[mg,Aq];omega
  · obtain⟨⟨w,D⟩,H⟩:=M.bA b ds h;have hb:=bn D;refine⟨⟨w,by rw[(aa b hb).1,D]⟩,λo x aC G=> ?_⟩;rcases y5 aC with⟨bw,bJ⟩|⟨bw,bJ⟩
    · omega
    · rw[rU bw]at G;exact H o x bJ G
  · rcases y5 h with⟨bw,bJ⟩|⟨bw,bJ⟩
    · exact .inr (by omega)
    · exact .inl bJ
  · rcases y5 h with⟨bw,bJ⟩|⟨bw,bJ⟩
    · omega
    · exact⟨o,y,bJ,by rw[rU bw]at bN;exact bN,qO⟩
  · rcases y5 h with⟨bw,bJ⟩|⟨bw,bJ⟩
    · omega
    · exact⟨o,y,bJ,by rw[rU bw]at bN;exact bN⟩
theorem ayk(M:dN K u t m)(au:m.next<=an.next)(aa: ∀b,b<m.next->an.X b=m.X b/\an.mp b=m.mp b):
    dN K u ((t.dp 1).a0 t.next (some ⟨[],true⟩)) an/\eD t.next m.next K u t m K u ((t.dp 1).a0 t.next (some ⟨[],true⟩)) an:=by
  have bQ:K t.next=none:=by
    cases bb:K t.next with
    |none=>rfl
    |some b=>have:=(M.c2 _ _ bb).1;omega
  have cW: ∀{o b:Nat},K o=some b->o≠t.next:= λh e=>by subst e;rw[bQ]at h;cases h
  have rU: ∀{o:Nat},o≠t.next->((t.dp 1).a0 t.next (some ⟨[],true⟩)).X o=t.X o:= λaC=>by rw[bW aC,W.e6]
  refine⟨⟨λo x G=> ?_,λo a9 bb=> ?_,M.h3,M.inj,λo b h=> ?_,λb ds h=> ?_⟩,⟨fy.refl _,gV.refl _,λo b h=> .inl h,λb ds h=> .inl h,by simp,au,λb hb _=>(aa b hb).1,λb hb=> λ⟨o,y,h,bN,qO⟩=> ?_,λb hb=> λ⟨o,y,h,bN⟩=> ?_⟩⟩
  · by_cases aC:o=t.next
    · subst aC;rw[ej (by simp)]at G;cases G;exact .inr ⟨bQ,rfl⟩
    · rw[rU aC]at G;rcases M.hK o x G with⟨b,ds,w,D,H,aq,aE⟩|D
      · exact .inl ⟨b,ds,w,D,by rw[(aa b (M.c2 o b D).2).1,H],aq,aE⟩
      · exact .inr D
  · by_cases aC:o=t.next
    · subst aC;have:=(hR bb).2;rw[show((t.dp 1).a0 t.next (some ⟨[],true⟩)).mp=t.mp from rfl,M.h3 _ bQ]at this;cases this
    · rw[sH aC]at bb;obtain⟨aK,aR⟩:=hR bb;rw[W.e6]at aK;obtain⟨b,c1,D,H,aq⟩:=M.maps o a9 (jM aK aR);obtain⟨ec,gY⟩:=hR H;have hb:=(M.c2 o b D).2;exact⟨b,c1,D,jM (by rw[(aa b hb).1,ec]) (by rw[(aa b hb).2,gY]),aq⟩
  · have:=M.c2 o b h;simp only[mg,Aq];omega
  · obtain⟨⟨w,D⟩,H⟩:=M.bA b ds h;refine⟨⟨w,by rw[(aa b (bn D)).1,D]⟩,λo x aC G=> ?_⟩;rw[rU (cW aC)]at G;exact H o x aC G
  · exact⟨o,y,h,by rw[rU (cW h)]at bN;exact bN,qO⟩
  · exact⟨o,y,h,by rw[rU (cW h)]at bN;exact bN⟩
theorem azu{f n I:Nat}{args cs:List Value}(fC:cs.all dQ=true)
    (j7: ∀(K:eC) (u:fz) (e2:List Value) (m:W),dN K u t m->bj u K args e2->gd P f e2 m λr an=>m.next<=an.next/\(∀b,b<m.next->an.X b=m.X b/\an.mp b=m.mp b)/\
      ((n=0/\cs=[]/\r= .slice none 0 0)\/ ∃q,m.next<=q/\q<an.next/\r= .slice (some ⟨q,0,none⟩) n I/\an.X q=some ⟨cs,true⟩)):
    fA P f args t λv aJ=>v=ee t.next n I/\aJ=(t.dp 1).a0 t.next (some ⟨cs,true⟩):= λK u e2 m M ax=>by
  refine(j7 K u e2 m M ax).b6 λr an aH=> ?_;obtain⟨D,H,⟨aq,aE,bq⟩|⟨q,aq,aE,bq,cP⟩⟩:=aH
  · subst aq;subst aE;subst bq;obtain⟨aQ,a7⟩:=ayk M D H;exact⟨K,u,_,_,⟨rfl,rfl⟩,aQ,.oU,a7⟩
  · obtain⟨aQ,a7⟩:=ayj M aq aE cP D H fC;exact⟨_,u,_,_,⟨rfl,rfl⟩,aQ,by rw[bq];exact .slice (by simp[gS]),a7⟩
end
end Go.DI
namespace Go
noncomputable abbrev al:=Go.Proofs.Tryz.prog
abbrev aG:Value:= .slice none 0 0
abbrev aP:Value:= .int .i64 0
end Go
namespace Go.Proofs.YtmmkkggfmigppaaGreat
open Go Go.DI
def Zf:J:= .B (.F [A 0 3 0,nE 1 4 3,A 2 5 0,x2 3 6 5 32,nE 4 7 6,a2 5 8 (.fR 1 2 [.int .u32 0,.int .u32 0] [(0,1,E 4),(1,1,E 7)]),b7 6 9 194 [E 8],A 7 2 9]) (.aI)
def Zd:J:=
  .B (
  .F [
 eN 0 2]) Zf
def Kw:bU:=⟨10,[.bL 2],Zd⟩
theorem Ze:b3 al 168=some Kw:=by kernel_rfl
def KL:J:= .B (.B (.F [A 0 6 3,kO 1 7 6 0,A 2 8 7,e0 3 9 8 0,e0 4 10 8 3,q3 5 11 8 10,pz 6 12 8 1 9 11,ep 7 13 8 12,cw 8 14 8 true (.fg .eql .gl (E 13) (.const (.int .u32 0))),di 9 15 8 14]) (.aV (E 15) (.skip) (.bh 0))) (.block 1 (.F [A 0 16 3,h6 1 17 16 1,A 2 3 17]))
def Ci:J:= .B (.F [A 0 18 0,A 1 19 3,n4 2 20 18 19,a2 3 21 (.app 1 4 (.const (aG)) (E 20)),A 4 2 21]) (.aI)
def QV:J:= .B (.block 0 (.loop KL)) Ci
def QU:J:= .B (.F [A 0 4 0,bO 1 5 4,A 2 3 5]) QV
def QS:J:=
  .B (
  .F [
 eN 0 2]) QU
def Ch:bU:=⟨22,[.bL 2],QS⟩
theorem QT:b3 al 194=some Ch:=by kernel_rfl
def KX:J:= .B (.B (.F [A 0 20 7,bO 1 21 20,kO 2 22 21 0]) (.aV (E 22) (.skip) (.bh 0))) (.block 1 (.B (.F [A 0 24 6,A 1 25 7,dr 2 26 247 24 25,A 3 23 26,cE 4 27 0 23,cE 5 28 1 23,A 6 8 27,A 7 9 28]) (.F [A 0 29 7,A 1 30 9,A 2 6 29,A 3 7 30])))
def Gy:J:= .B (.F [A 0 31 6,A 1 4 31,ba 2 5 0]) (.aI)
def aab:J:= .B (.block 0 (.loop KX)) Gy
def aaa:J:= .B (.F [A 0 16 0,b7 1 17 194 [E 16],A 2 18 1,b7 3 19 194 [E 18],A 4 6 17,A 5 7 19]) aab
def Z9:J:= .B (.B (.F [A 0 10 0,b7 1 11 246 [E 10],A 2 12 11,dG 3 13 12 1,jD 4 14 12 246 13,cZ 5 15 12 14]) (.aV (E 15) (.B (.F [eN 0 4,ba 1 5 2]) (.aI)) (.skip))) aaa
def Z7:J:=
  .B (
  .F [
 eN 0 4,
 ba 1 5 0]) Z9
def KW:bU:=⟨32,[.bL 4,.bL 5],Z7⟩
theorem Z8:b3 al 213=some KW:=by kernel_rfl
def K0:J:= .B (.block 1 (.F [A 0 22 4,da 1 23 22,A 2 4 23])) (.F [A 0 20 5,x2 1 21 20 1,A 2 5 21])
def Gz:J:= .B (.B (.F [A 0 18 5,c9 1 19 .gtr (E 18) (.const (.int .u32 0))]) (.aV (E 19) (.skip) (.bh 0))) K0
def aam:J:= .B (.F [A 0 24 4,A 1 2 24]) (.aI)
def aal:J:= .B (.B (.F [A 0 13 0,A 1 14 3,h6 2 15 14 1,bH 3 16 1 13 15,aA 4 17 16,A 5 5 17]) (.block 0 (.loop Gz))) aam
def aak:J:= .B (.F [A 0 10 3,h6 1 11 10 1,c9 2 12 .mul (E 11) (.const (.int .i64 32)),A 3 4 12]) aal
def aaj:J:= .B (.B (.F [A 0 8 3,jC 1 9 8 0]) (.aV (E 9) (.B (.F [ba 0 2 0]) (.aI)) (.skip))) aak
def aai:J:= .B (.F [A 0 6 0,b7 1 7 248 [E 6],A 2 3 7]) aaj
def aag:J:=
  .B (
  .F [
 ba 0 2 0]) aai
def KZ:bU:=⟨25,[.bL 2],aag⟩
theorem aah:b3 al 216=some KZ:=by kernel_rfl
def aoy:J:= .B (.F [A 0 10 3,A 1 11 3,b7 2 12 248 [E 11],n4 3 13 10 12,A 4 2 13]) (.aI)
def aox:J:= .B (.F [A 0 4 0,nE 1 5 4,A 2 6 0,x2 3 7 6 32,nE 4 8 7,a2 5 9 (.fR 1 2 [.int .u32 0,.int .u32 0] [(0,1,E 5),(1,1,E 8)]),A 6 3 9]) aoy
def aov:J:=
  .B (
  .F [
 eN 0 2]) aox
def aan:bU:=⟨14,[.bL 2],aov⟩
theorem aow:b3 al 217=some aan:=by kernel_rfl
def Cr:J:= .B (.block 2 (.block 3 (.B (.F [A 0 27 0,A 1 28 7,bH 2 29 1 27 28,aA 3 30 29,A 4 31 1,A 5 32 7,bH 6 33 1 31 32,aA 7 34 33,dq 8 35 30 34,A 9 26 35]) (.aV (E 26) (.B (.F [ba 0 4 (-1)]) (.aI)) (.B (.F [A 0 37 0,A 1 38 7,bH 2 39 1 37 38,aA 3 40 39,A 4 41 1,A 5 42 7,bH 6 43 1 41 42,aA 7 44 43,c9 8 45 .gtr (E 40) (E 44),A 9 36 45]) (.aV (E 36) (.B (.F [ba 0 4 1]) (.aI)) (.skip))))))) (.F [A 0 24 7,h6 1 25 24 1,A 2 7 25])
def GB:J:= .B (.B (.F [A 0 22 7,oG 1 23 22 0]) (.aV (E 23) (.skip) (.bh 1))) Cr
def Cs:J:= .B (.F [ba 0 4 0]) (.aI)
def aaE:J:= .B (.B (.F [A 0 20 5,h6 1 21 20 1,A 2 7 21]) (.block 1 (.loop GB))) Cs
def aaD:J:= .B (.block 0 (.B (.F [A 0 13 5,A 1 14 6,dq 2 15 13 14,A 3 12 15]) (.aV (E 12) (.B (.F [ba 0 4 (-1)]) (.aI)) (.B (.F [A 0 17 5,A 1 18 6,c9 2 19 .gtr (E 17) (E 18),A 3 16 19]) (.aV (E 16) (.B (.F [ba 0 4 1]) (.aI)) (.skip)))))) aaE
def aaC:J:= .B (.F [A 0 8 0,b7 1 9 248 [E 8],A 2 10 1,b7 3 11 248 [E 10],A 4 5 9,A 5 6 11]) aaD
def aaA:J:=
  .B (
  .F [
 ba 0 4 0]) aaC
def K3:bU:=⟨46,[.bL 4],aaA⟩
theorem aaB:b3 al 222=some K3:=by kernel_rfl
def aba:J:= .B (.F [ba 0 4 1]) (.aI)
def Cz:J:= .B (.F [A 0 36 0,A 1 37 5,bH 2 38 1 36 37,aA 3 39 38,A 4 40 1,A 5 41 5,bH 6 42 1 40 41,aA 7 43 42,c9 8 44 .gtr (E 39) (E 43)]) (.aV (E 44) (.B (.F [ba 0 4 1]) (.aI)) (.skip))
def Cy:J:= .B (.block 1 (.B (.B (.F [A 0 27 0,A 1 28 5,bH 2 29 1 27 28,aA 3 30 29,A 4 31 1,A 5 32 5,bH 6 33 1 31 32,aA 7 34 33,dq 8 35 30 34]) (.aV (E 35) (.B (.F [ba 0 4 (-1)]) (.aI)) (.skip))) Cz)) (.F [A 0 25 5,h6 1 26 25 1,A 2 5 26])
def GH:J:= .B (.B (.F [A 0 23 5,oG 1 24 23 0]) (.aV (E 24) (.skip) (.bh 0))) Cy
def CA:J:= .B (.F [ba 0 4 0]) (.aI)
def abb:J:= .B (.B (.F [A 0 20 0,bO 1 21 20,h6 2 22 21 1,A 3 5 22]) (.block 0 (.loop GH))) CA
def aa9:J:= .B (.B (.F [A 0 10 0,bO 1 11 10,A 2 12 1,bO 3 13 12,c9 4 14 .neq (E 11) (E 13)]) (.aV (E 14) (.B (.B (.F [A 0 15 0,bO 1 16 15,A 2 17 1,bO 3 18 17,dq 4 19 16 18]) (.aV (E 19) (.B (.F [ba 0 4 (-1)]) (.aI)) (.skip))) aba) (.skip))) abb
def aa8:J:= .B (.F [A 0 6 0,b7 1 7 194 [E 6],A 2 8 1,b7 3 9 194 [E 8],A 4 0 7,A 5 1 9]) aa9
def aa6:J:=
  .B (
  .F [
 ba 0 4 0]) aa8
def Ld:bU:=⟨45,[.bL 4],aa6⟩
theorem aa7:b3 al 241=some Ld:=by kernel_rfl
def abe:J:= .B (.F [A 0 3 0,b7 1 4 194 [E 3],bO 2 5 4,kO 3 6 5 512,A 4 2 6]) (.aI)
def abc:J:=
  .B (
  .F [
 cu 0 2 false]) abe
def Le:bU:=⟨7,[.bL 2],abc⟩
theorem abd:b3 al 246=some Le:=by kernel_rfl
def Lg:J:= .B (.F [A 0 47 6,A 1 48 8,A 2 49 9,A 3 50 1,x0 4 51 1 50,aA 5 52 51,jn 6 53 52,c9 7 54 .quo (E 49) (E 53),nE 8 55 54,bH 9 56 1 47 48,b4 10 1 56 55]) (.F [A 0 57 9,A 1 58 1,x0 2 59 1 58,aA 3 60 59,jn 4 61 60,c9 5 62 .rem (E 57) (E 61),A 6 7 62])
def Lf:J:= .B (.block 1 (.B (.F [A 0 39 7,c9 1 40 .shl (E 39) (.const (.int .u64 32)),A 2 41 0,A 3 42 8,bH 4 43 1 41 42,aA 5 44 43,jn 6 45 44,c9 7 46 .or (E 40) (E 45),A 8 9 46]) Lg)) (.F [A 0 37 8,h6 1 38 37 1,A 2 8 38])
def Ru:J:= .B (.B (.F [A 0 35 8,oG 1 36 35 0]) (.aV (E 36) (.skip) (.bh 0))) Lf
def Rt:J:= .B (.F [A 0 63 6,b7 1 64 194 [E 63],A 2 65 7,b7 3 66 168 [E 65],A 4 4 64,A 5 5 66]) (.aI)
def abh:J:= .B (.B (.F [A 0 32 0,bO 1 33 32,h6 2 34 33 1,A 3 8 34]) (.block 0 (.loop Ru))) Rt
def abg:J:= .B (.F [uw 0 7 0]) abh
def apL:J:= .B (.B (.F [A 0 132 12,A 1 133 17,A 4 136 11,A 5 137 15,A 6 138 15,A 7 139 12,bO 8 140 139,gI 9 141 138 140,da 10 142 141,a2 11 143 (.mQ 1 (E 136) (some (E 137)) (some (E 142))),b7 2 134 168 [E 133],dr 3 135 268 132 134,a2 12 144 (.app 1 4 (.const (aG)) (E 143)),dr 13 145 241 135 144,kO 14 146 145 0]) (.aV (E 146) (.skip) (.bh 4))) (.block 5 (.F [A 0 147 17,c9 1 148 .sub (E 147) (.const (.int .u64 1)),A 2 17 148]))
def apH:J:= .B (.F [A 0 174 19,A 1 175 18,bO 2 176 175,dq 3 177 174 176]) (.aV (E 177) (.F [A 0 178 11,A 1 179 15,A 2 180 19,gI 3 181 179 180,A 4 182 18,A 5 183 19,bH 6 184 1 182 183,aA 7 185 184,bH 8 186 1 178 181,b4 9 1 186 185]) (.skip))
def apG:J:= .B (.block 7 (.B (.F [A 0 169 11,A 1 170 15,A 2 171 19,gI 3 172 170 171,bH 4 173 1 169 172,pt 5 (.store 1 (E 173) (.const (.int .u32 0)))]) apH)) (.F [A 0 167 19,da 1 168 167,A 2 19 168])
def apM:J:= .B (.B (.F [A 0 163 19,A 1 164 12,bO 2 165 164,c9 3 166 .leq (E 163) (E 165)]) (.aV (E 166) (.skip) (.bh 6))) apG
def apF:J:= .B (.B (.F [ba 0 19 0]) (.block 6 (.loop apM))) (.F [A 0 187 14,A 1 188 15,A 2 189 17,nE 3 190 189,bH 4 191 1 187 188,b4 5 1 191 190])
def apE:J:= .B (.F [A 0 149 11,A 1 150 15,A 2 151 15,A 3 152 12,bO 4 153 152,gI 5 154 151 153,da 6 155 154,a2 7 156 (.mQ 1 (E 149) (some (E 150)) (some (E 155))),a2 8 157 (.app 1 4 (.const (aG)) (E 156)),A 9 158 12,A 10 159 17,b7 11 160 168 [E 159],dr 12 161 268 158 160,dr 13 162 269 157 161,A 14 18 162]) apF
def apD:J:= .B (.block 4 (.loop apL)) apE
def apC:J:= .B (.B (.F [A 0 130 17,c9 1 131 .gtr (E 130) (.const (.int .u64 4294967295))]) (.aV (E 131) (.F [uw 0 17 4294967295]) (.skip))) apD
def apB:J:= .B (.F [A 0 127 16,A 1 128 13,c9 2 129 .quo (E 127) (E 128),A 3 17 129]) apC
def apA:J:= .B (.block 3 (.B (.F [A 0 108 11,A 1 109 15,A 2 110 12,bO 3 111 110,gI 4 112 109 111,bH 5 113 1 108 112,aA 6 114 113,jn 7 115 114,c9 8 116 .shl (E 115) (.const (.int .u64 32)),A 9 117 11,A 10 118 15,A 11 119 12,bO 12 120 119,gI 13 121 118 120,h6 14 122 121 1,bH 15 123 1 117 122,aA 16 124 123,jn 17 125 124,c9 18 126 .or (E 116) (E 125),A 19 16 126]) apB)) (.F [A 0 106 15,h6 1 107 106 1,A 2 15 107])
def apN:J:= .B (.B (.F [A 0 104 15,oG 1 105 104 0]) (.aV (E 105) (.skip) (.bh 2))) apA
def apI:J:= .B (.F [A 0 192 14,b7 1 193 194 [E 192],A 2 194 11,b7 3 195 194 [E 194],A 4 196 10,dr 5 197 270 195 196,A 6 4 193,A 7 5 197]) (.aI)
def apz:J:= .B (.B (.F [A 0 101 14,bO 1 102 101,h6 2 103 102 1,A 3 15 103]) (.block 2 (.loop apN))) apI
def apy:J:= .B (.F [A 0 95 11,bO 1 96 95,A 2 97 12,bO 3 98 97,c9 4 99 .sub (E 96) (E 98),v3 5 100 99 99,A 6 14 100]) apz
def apx:J:= .B (.F [A 0 88 12,A 1 89 12,bO 2 90 89,h6 3 91 90 1,bH 4 92 1 88 91,aA 5 93 92,jn 6 94 93,A 7 13 94]) apy
def apw:J:= .B (.F [A 0 81 11,A 1 82 0,A 2 83 10,dr 3 84 267 82 83,bO 4 85 84,da 5 86 85,n4 6 87 81 86,A 7 11 87]) apx
def apK:J:= .B (.F [A 0 73 0,A 1 74 10,dr 2 75 267 73 74,a2 3 76 (.fR 1 2 [.int .u32 0,.int .u32 0] [(0,1,.const (.int .u32 0)),(1,1,.const (.int .u32 0))]),iC 4 77 1 4 75 76,A 5 78 1,A 6 79 10,dr 7 80 267 78 79,A 8 11 77,A 9 12 80]) apw
def apJ:J:= .B (.F [A 0 67 1,bO 1 68 67,c9 2 69 .mul (.const (.int .i64 32)) (E 68),A 3 70 1,b7 4 71 266 [E 70],c9 5 72 .sub (E 69) (E 71),A 6 10 72]) apK
def abf:J:= .B (.B (.F [A 0 26 1,bO 1 27 26,jC 2 28 27 1]) (.aV (E 28) (.B (.F [A 0 29 0,bO 1 30 29,v3 2 31 30 30,A 3 6 31]) abg) (.skip))) apJ
def Rs:J:= .B (.B (.F [A 0 20 0,A 1 21 1,dr 2 22 241 20 21,lz 3 23 22 0]) (.aV (E 23) (.B (.F [A 0 24 0,b7 1 25 194 [E 24],eN 2 4,A 3 5 25]) (.aI)) (.skip))) abf
def Rq:J:=
  .B (
  .F [
 eN 0 4,
 eN 1 5]) Rs
def CB:bU:=⟨198,[.bL 4,.bL 5],Rq⟩
theorem Rr:b3 al 247=some CB:=by kernel_rfl
def abn:J:= .B (.B (.F [A 0 6 3,kO 1 7 6 0,A 2 8 7,e0 3 9 8 0,e0 4 10 8 3,q3 5 11 8 10,pz 6 12 8 1 9 11,ep 7 13 8 12,cw 8 14 8 true (.fg .eql .gl (E 13) (.const (.int .u32 0))),di 9 15 8 14]) (.aV (E 15) (.skip) (.bh 0))) (.block 1 (.F [A 0 16 3,h6 1 17 16 1,A 2 3 17]))
def abm:J:= .B (.F [A 0 18 3,A 1 2 18]) (.aI)
def abl:J:= .B (.block 0 (.loop abn)) abm
def abk:J:= .B (.F [A 0 4 0,bO 1 5 4,A 2 3 5]) abl
def abi:J:=
  .B (
  .F [
 ba 0 2 0]) abk
def Lh:bU:=⟨19,[.bL 2],abi⟩
theorem abj:b3 al 248=some Lh:=by kernel_rfl
def apS:J:= .B (.F [A 0 57 6,A 1 58 8,A 2 59 7,nE 3 60 59,bH 4 61 1 57 58,b4 5 1 61 60]) (.F [A 0 62 7,x2 1 63 62 32,A 2 7 63])
def apR:J:= .B (.B (.F [A 0 46 8,A 1 47 1,bO 2 48 47,dq 3 49 46 48]) (.aV (E 49) (.F [A 0 50 7,A 1 51 1,A 2 52 8,bH 3 53 1 51 52,aA 4 54 53,jn 5 55 54,gI 6 56 50 55,A 7 7 56]) (.skip))) apS
def ap2:J:= .B (.F [A 0 39 7,A 1 40 0,A 2 41 8,bH 3 42 1 40 41,aA 4 43 42,jn 5 44 43,gI 6 45 39 44,A 7 7 45]) apR
def ap1:J:= .B (.block 1 (.B (.F [A 0 38 36,A 1 8 38]) ap2)) (.F [da 0 64 36,A 1 36 64])
def ap0:J:= .B (.aV (E 37) (.skip) (.bh 0)) ap1
def ap3:J:= .B (.F [dq 0 37 36 35]) ap0
def apU:J:= .B (.F [A 0 71 6,b7 1 72 272 [E 71],cE 2 73 0 72,cE 3 74 1 72,A 4 4 73,A 5 5 74]) (.aI)
def apT:J:= .B (.F [A 0 65 6,A 1 66 0,bO 2 67 66,A 3 68 7,nE 4 69 68,bH 5 70 1 65 67,b4 6 1 70 69]) apU
def apZ:J:= .B (.B (.F [A 0 34 0,bO 1 35 34,ba 2 36 0]) (.block 0 (.loop ap3))) apT
def apY:J:= .B (.F [uw 0 7 0]) apZ
def apX:J:= .B (.F [A 0 30 0,bO 1 31 30,da 2 32 31,v3 3 33 32 32,A 4 6 33]) apY
def apW:J:= .B (.B (.F [A 0 23 0,bO 1 24 23,A 2 25 1,bO 3 26 25,dq 4 27 24 26]) (.aV (E 27) (.F [A 0 28 1,A 1 29 0,A 2 0 28,A 3 1 29]) (.skip))) apX
def apV:J:= .B (.F [A 0 15 0,A 1 16 0,A 4 19 1,A 5 20 1,b7 2 17 248 [E 16],n4 3 18 15 17,b7 6 21 248 [E 20],n4 7 22 19 21,A 8 0 18,A 9 1 22]) apW
def apQ:J:= .B (.B (.F [A 0 9 0,b7 1 10 271 [E 9],A 2 11 10,dG 3 12 11 1,jD 4 13 11 271 12,cZ 5 14 11 13]) (.aV (E 14) (.B (.F [eN 0 4,ba 1 5 2]) (.aI)) (.skip))) apV
def apO:J:=
  .B (
  .F [
 eN 0 4,
 ba 1 5 0]) apQ
def abo:bU:=⟨75,[.bL 4,.bL 5],apO⟩
theorem apP:b3 al 249=some abo:=by kernel_rfl
def Lj:J:= .B (.B (.F [A 0 18 1,bO 1 19 18,kO 2 20 19 0]) (.aV (E 20) (.skip) (.bh 0))) (.block 1 (.B (.F [A 0 22 0,A 1 23 1,dr 2 24 273 22 23,A 3 21 24,cE 4 25 0 21,cE 5 26 1 21,A 6 6 25,A 7 7 26]) (.F [A 0 27 1,A 1 28 7,A 2 0 27,A 3 1 28])))
def GO:J:= .B (.F [A 0 29 0,A 1 4 29,ba 2 5 0]) (.aI)
def abv:J:= .B (.block 0 (.loop Lj)) GO
def abu:J:= .B (.F [A 0 14 0,b7 1 15 253 [E 14],A 2 16 1,b7 3 17 253 [E 16],A 4 0 15,A 5 1 17]) abv
def abt:J:= .B (.B (.F [A 0 8 0,b7 1 9 271 [E 8],A 2 10 9,dG 3 11 10 1,jD 4 12 10 271 11,cZ 5 13 10 12]) (.aV (E 13) (.B (.F [eN 0 4,ba 1 5 2]) (.aI)) (.skip))) abu
def abq:J:=
  .B (
  .F [
 eN 0 4,
 ba 1 5 0]) abt
def Li:bU:=⟨30,[.bL 4,.bL 5],abq⟩
theorem abr:b3 al 251=some Li:=by kernel_rfl
def aby:J:= .B (.F [A 0 3 0,A 1 4 0,b7 2 5 248 [E 4],n4 3 6 3 5,a2 4 7 (.app 1 4 (.const (aG)) (E 6)),A 5 2 7]) (.aI)
def abw:J:=
  .B (
  .F [
 eN 0 2]) aby
def Lk:bU:=⟨8,[.bL 2],abw⟩
theorem abx:b3 al 253=some Lk:=by kernel_rfl
def aqa:J:= .B (.F [A 0 61 6,A 1 62 7,A 2 63 10,gI 3 64 62 63,A 4 65 9,nE 5 66 65,bH 6 67 1 61 64,b4 7 1 67 66]) (.F [A 0 68 9,x2 1 69 68 32,A 2 9 69])
def ap9:J:= .B (.F [A 0 46 9,A 1 47 8,jn 2 48 47,A 3 49 11,jn 4 50 49,c9 5 51 .mul (E 48) (E 50),A 6 52 6,A 7 53 7,A 8 54 10,gI 9 55 53 54,bH 10 56 1 52 55,aA 11 57 56,jn 12 58 57,gI 13 59 51 58,gI 14 60 46 59,A 15 9 60]) aqa
def ap8:J:= .B (.block 3 (.B (.F [A 0 43 41,bH 1 44 1 39 41,aA 2 45 44,A 3 10 43,A 4 11 45]) ap9)) (.F [da 0 70 41,A 1 41 70])
def aqj:J:= .B (.aV (E 42) (.skip) (.bh 2)) ap8
def aqk:J:= .B (.F [dq 0 42 41 40]) aqj
def aqi:J:= .B (.B (.F [A 0 39 1,bO 1 40 39,ba 2 41 0]) (.block 2 (.loop aqk))) (.F [A 0 71 6,A 1 72 7,A 2 73 1,bO 3 74 73,gI 4 75 72 74,A 5 76 9,nE 6 77 76,bH 7 78 1 71 75,b4 8 1 78 77])
def aqh:J:= .B (.F [uw 0 9 0]) aqi
def aqg:J:= .B (.block 1 (.B (.F [A 0 36 34,bH 1 37 1 32 34,aA 2 38 37,A 3 7 36,A 4 8 38]) aqh)) (.F [da 0 79 34,A 1 34 79])
def aqf:J:= .B (.aV (E 35) (.skip) (.bh 0)) aqg
def aql:J:= .B (.F [dq 0 35 34 33]) aqf
def aqb:J:= .B (.F [A 0 80 6,b7 1 81 272 [E 80],cE 2 82 0 81,cE 3 83 1 81,A 4 4 82,A 5 5 83]) (.aI)
def aqe:J:= .B (.B (.F [A 0 32 0,bO 1 33 32,ba 2 34 0]) (.block 0 (.loop aql))) aqb
def aqd:J:= .B (.F [A 0 26 0,bO 1 27 26,A 2 28 1,bO 3 29 28,gI 4 30 27 29,v3 5 31 30 30,A 6 6 31]) aqe
def aqc:J:= .B (.F [A 0 18 0,A 1 19 0,A 4 22 1,A 5 23 1,b7 2 20 248 [E 19],n4 3 21 18 20,b7 6 24 248 [E 23],n4 7 25 22 24,A 8 0 21,A 9 1 25]) aqd
def ap7:J:= .B (.B (.F [A 0 12 0,b7 1 13 271 [E 12],A 2 14 13,dG 3 15 14 1,jD 4 16 14 271 15,cZ 5 17 14 16]) (.aV (E 17) (.B (.F [eN 0 4,ba 1 5 2]) (.aI)) (.skip))) aqc
def ap5:J:=
  .B (
  .F [
 eN 0 4,
 ba 1 5 0]) ap7
def abz:bU:=⟨84,[.bL 4,.bL 5],ap5⟩
theorem ap6:b3 al 254=some abz:=by kernel_rfl
def aqv:J:= .B (.F [A 0 20 6,A 1 4 20,ba 2 5 0]) (.aI)
def aqu:J:= .B (.B (.F [A 0 18 6,b7 1 19 246 [E 18]]) (.aV (E 19) (.B (.F [eN 0 4,ba 1 5 2]) (.aI)) (.skip))) aqv
def aqt:J:= .B (.F [A 0 13 0,b7 1 14 194 [E 13],A 2 15 1,b7 3 16 194 [E 15],dr 4 17 274 14 16,A 5 6 17]) aqu
def aqs:J:= .B (.B (.F [A 0 7 0,b7 1 8 246 [E 7],A 2 9 8,dG 3 10 9 1,jD 4 11 9 246 10,cZ 5 12 9 11]) (.aV (E 12) (.B (.F [eN 0 4,ba 1 5 2]) (.aI)) (.skip))) aqt
def aqq:J:=
  .B (
  .F [
 eN 0 4,
 ba 1 5 0]) aqs
def abC:bU:=⟨21,[.bL 4,.bL 5],aqq⟩
theorem aqr:b3 al 257=some abC:=by kernel_rfl
def abJ:J:= .B (.F [A 0 20 6,A 1 4 20,ba 2 5 0]) (.aI)
def abI:J:= .B (.B (.F [A 0 18 6,b7 1 19 246 [E 18]]) (.aV (E 19) (.B (.F [eN 0 4,ba 1 5 2]) (.aI)) (.skip))) abJ
def abH:J:= .B (.F [A 0 13 0,b7 1 14 194 [E 13],A 2 15 1,b7 3 16 194 [E 15],dr 4 17 268 14 16,A 5 6 17]) abI
def abG:J:= .B (.B (.F [A 0 7 0,b7 1 8 246 [E 7],A 2 9 8,dG 3 10 9 1,jD 4 11 9 246 10,cZ 5 12 9 11]) (.aV (E 12) (.B (.F [eN 0 4,ba 1 5 2]) (.aI)) (.skip))) abH
def abE:J:=
  .B (
  .F [
 eN 0 4,
 ba 1 5 0]) abG
def Ll:bU:=⟨21,[.bL 4,.bL 5],abE⟩
theorem abF:b3 al 260=some Ll:=by kernel_rfl
def aqO:J:= .B (.F [A 0 49 5,A 1 50 6,A 2 51 8,gI 3 52 50 51,A 4 53 9,nE 5 54 53,bH 6 55 1 49 52,b4 7 1 55 54]) (.F [A 0 56 9,x2 1 57 56 32,A 2 7 57])
def aqN:J:= .B (.block 3 (.B (.F [A 0 28 0,A 1 29 6,bH 2 30 1 28 29,aA 3 31 30,jn 4 32 31,A 5 33 1,A 6 34 8,bH 7 35 1 33 34,aA 8 36 35,jn 9 37 36,c9 10 38 .mul (E 32) (E 37),A 11 39 5,A 12 40 6,A 13 41 8,gI 14 42 40 41,bH 15 43 1 39 42,aA 16 44 43,jn 17 45 44,gI 18 46 38 45,A 19 47 7,gI 20 48 46 47,A 21 9 48]) aqO)) (.F [A 0 26 8,da 1 27 26,A 2 8 27])
def aqP:J:= .B (.B (.F [A 0 22 8,A 1 23 1,bO 2 24 23,dq 3 25 22 24]) (.aV (E 25) (.skip) (.bh 2))) aqN
def Ry:J:= .B (.B (.F [ba 0 8 0]) (.block 2 (.loop aqP))) (.F [A 0 58 5,A 1 59 6,A 2 60 1,bO 3 61 60,gI 4 62 59 61,A 5 63 7,nE 6 64 63,bH 7 65 1 58 62,b4 8 1 65 64])
def Rx:J:= .B (.block 1 (.B (.F [uw 0 7 0]) Ry)) (.F [A 0 20 6,da 1 21 20,A 2 6 21])
def abO:J:= .B (.B (.F [A 0 16 6,A 1 17 0,bO 2 18 17,dq 3 19 16 18]) (.aV (E 19) (.skip) (.bh 0))) Rx
def Rz:J:= .B (.F [A 0 66 5,b7 1 67 194 [E 66],A 2 4 67]) (.aI)
def abN:J:= .B (.B (.F [ba 0 6 0]) (.block 0 (.loop abO))) Rz
def abM:J:= .B (.F [A 0 10 0,bO 1 11 10,A 2 12 1,bO 3 13 12,gI 4 14 11 13,v3 5 15 14 14,A 6 5 15]) abN
def abK:J:=
  .B (
  .F [
 eN 0 4]) abM
def Lm:bU:=⟨68,[.bL 4],abK⟩
theorem abL:b3 al 268=some Lm:=by kernel_rfl
def abS:J:= .B (.F [A 0 3 0,b7 1 4 248 [E 3],kO 2 5 4 512,A 3 2 5]) (.aI)
def abQ:J:=
  .B (
  .F [
 cu 0 2 false]) abS
def Ln:bU:=⟨6,[.bL 2],abQ⟩
theorem abR:b3 al 271=some Ln:=by kernel_rfl
def aqU:J:= .B (.F [A 0 9 0,A 1 10 4,A 2 11 4,a2 3 12 (.uS 1 (E 9) none (E 10) (E 11)),A 4 2 12,ba 5 3 0]) (.aI)
def aqT:J:= .B (.B (.F [A 0 7 4,kO 1 8 7 512]) (.aV (E 8) (.B (.F [eN 0 2,ba 1 3 2]) (.aI)) (.skip))) aqU
def aqS:J:= .B (.F [A 0 5 0,b7 1 6 248 [E 5],A 2 4 6]) aqT
def aqQ:J:=
  .B (
  .F [
 eN 0 2,
 ba 1 3 0]) aqS
def abT:bU:=⟨13,[.bL 2,.bL 3],aqQ⟩
theorem aqR:b3 al 272=some abT:=by kernel_rfl
def abV:J:= .B (.F [A 0 38 6,A 1 39 7,jn 2 40 39,b7 3 41 217 [E 40],A 4 4 38,A 5 5 41]) (.aI)
def ard:J:= .B (.B (.F [A 0 42 1,A 1 43 1,bO 2 44 43,h6 3 45 44 1,bH 4 46 1 42 45,aA 5 47 46,A 6 48 8,c9 7 49 .shl (E 47) (E 48),c9 8 50 .lss (E 49) (.const (.int .u32 2147483648))]) (.aV (E 50) (.skip) (.bh 0))) (.block 1 (.F [A 0 51 8,c9 1 52 .add (E 51) (.const (.int .u64 1)),A 2 8 52]))
def aq0:J:= .B (.F [A 0 135 18,c9 1 136 .geq (E 135) (.const (.int .u64 4294967296))]) (.aV (E 136) (.bh 4) (.skip))
def aqZ:J:= .B (.F [A 0 132 18,A 1 133 13,gI 2 134 132 133,A 3 18 134]) aq0
def are:J:= .B (.B (.F [A 0 111 17,c9 1 112 .geq (E 111) (.const (.int .u64 4294967296)),A 2 113 112,dG 3 114 113 17,dG 4 115 113 14,cw 5 116 113 false (.fg .mul .gl (E 114) (E 115)),dG 6 117 113 18,cw 7 118 113 false (.fg .shl .gl (E 117) (.const (.int .u64 32))),dG 8 119 113 9,dG 9 120 113 15,dG 10 121 113 11,cw 11 122 113 false (.fg .add .gl (E 120) (E 121)),cw 12 123 113 false (.fg .sub .gl (E 122) (.const (.int .i64 2))),py 13 124 113 1 119 123,dZ 14 125 113 124,cw 15 126 113 false (.rz .u64 (E 125)),cw 16 127 113 false (.fg .or .gl (E 118) (E 126)),cw 17 128 113 false (.fg .gtr .gl (E 116) (E 127)),cZ 18 129 113 128]) (.aV (E 129) (.skip) (.bh 4))) (.block 5 (.B (.F [A 0 130 17,c9 1 131 .sub (E 130) (.const (.int .u64 1)),A 2 17 131]) aqZ))
def aq1:J:= .B (.B (.F [A 0 137 9,A 1 138 15,A 2 139 15,A 3 140 11,gI 4 141 139 140,da 5 142 141,a2 6 143 (.mQ 1 (E 137) (some (E 138)) (some (E 142))),A 7 144 10,A 8 145 17,b7 9 146 280 [E 143,E 144,E 145]]) (.aV (E 146) (.B (.F [A 0 147 17,c9 1 148 .sub (E 147) (.const (.int .u64 1)),A 2 17 148]) (.F [A 0 149 9,A 1 150 15,A 2 151 15,A 3 152 11,gI 4 153 151 152,da 5 154 153,a2 6 155 (.mQ 1 (E 149) (some (E 150)) (some (E 154))),A 7 156 10,dr 8 157 281 155 156])) (.skip))) (.F [A 0 158 12,A 1 159 15,A 2 160 17,nE 3 161 160,bH 4 162 1 158 159,b4 5 1 162 161])
def aqY:J:= .B (.block 4 (.loop are)) aq1
def aqX:J:= .B (.F [A 0 105 16,A 1 106 13,c9 2 107 .quo (E 105) (E 106),A 3 108 16,A 4 109 13,c9 5 110 .rem (E 108) (E 109),A 6 17 107,A 7 18 110]) aqY
def aqW:J:= .B (.block 3 (.B (.F [A 0 88 9,A 1 89 15,A 2 90 11,gI 3 91 89 90,bH 4 92 1 88 91,aA 5 93 92,jn 6 94 93,c9 7 95 .shl (E 94) (.const (.int .u64 32)),A 8 96 9,A 9 97 15,A 10 98 11,gI 11 99 97 98,h6 12 100 99 1,bH 13 101 1 96 100,aA 14 102 101,jn 15 103 102,c9 16 104 .or (E 95) (E 103),A 17 16 104]) aqX)) (.F [A 0 86 15,h6 1 87 86 1,A 2 15 87])
def arf:J:= .B (.B (.F [A 0 84 15,oG 1 85 84 0]) (.aV (E 85) (.skip) (.bh 2))) aqW
def aq5:J:= .B (.block 7 (.B (.F [A 0 169 167,A 1 20 169]) (.F [A 0 170 19,A 1 171 20,A 2 172 9,A 3 173 20,da 4 174 173,bH 5 175 1 172 174,aA 6 176 175,jn 7 177 176,c9 8 178 .shl (E 177) (.const (.int .u64 32)),A 9 179 9,A 10 180 20,bH 11 181 1 179 180,aA 12 182 181,jn 13 183 182,c9 14 184 .or (E 178) (E 183),A 15 185 8,c9 16 186 .shr (E 184) (E 185),nE 17 187 186,bH 18 188 1 170 171,b4 19 1 188 187]))) (.F [da 0 189 167,A 1 167 189])
def aq4:J:= .B (.aV (E 168) (.skip) (.bh 6)) aq5
def arh:J:= .B (.F [dq 0 168 167 166]) aq4
def aq6:J:= .B (.F [A 0 190 12,A 1 191 12,A 4 194 19,A 5 195 19,b7 2 192 248 [E 191],n4 3 193 190 192,b7 6 196 248 [E 195],n4 7 197 194 196,A 8 4 193,A 9 5 197]) (.aI)
def aq3:J:= .B (.B (.F [A 0 165 19,bO 1 166 165,ba 2 167 0]) (.block 6 (.loop arh))) aq6
def aq2:J:= .B (.F [A 0 163 11,v3 1 164 163 163,A 2 19 164]) aq3
def aqV:J:= .B (.B (.F [A 0 81 12,bO 1 82 81,h6 2 83 82 1,A 3 15 83]) (.block 2 (.loop arf))) aq2
def arc:J:= .B (.F [A 0 69 10,A 1 70 11,h6 2 71 70 1,bH 3 72 1 69 71,aA 4 73 72,jn 5 74 73,A 6 75 10,A 7 76 11,h6 8 77 76 2,bH 9 78 1 75 77,aA 10 79 78,jn 11 80 79,A 12 13 74,A 13 14 80]) aqV
def arb:J:= .B (.F [A 0 64 9,bO 1 65 64,A 2 66 11,c9 3 67 .sub (E 65) (E 66),v3 4 68 67 67,A 5 12 68]) arc
def ara:J:= .B (.F [A 0 62 10,bO 1 63 62,A 2 11 63]) arb
def aq9:J:= .B (.F [A 0 53 0,A 1 54 8,A 3 56 1,A 4 57 8,A 6 59 1,bO 7 60 59,dr 2 55 279 53 54,dr 5 58 279 56 57,n4 8 61 58 60,A 9 9 55,A 10 10 61]) ara
def aq8:J:= .B (.block 0 (.loop ard)) aq9
def aq7:J:= .B (.F [uw 0 8 0]) aq8
def abU:J:= .B (.B (.F [A 0 27 1,bO 1 28 27,jC 2 29 28 1]) (.aV (E 29) (.B (.F [A 0 31 0,A 1 32 1,x0 2 33 1 32,aA 3 34 33,dr 4 35 278 31 34,A 5 30 35,cE 6 36 0 30,cE 7 37 1 30,A 8 6 36,A 9 7 37]) abV) (.skip))) aq7
def RC:J:= .B (.B (.F [A 0 21 0,A 1 22 1,dr 2 23 222 21 22,lz 3 24 23 0]) (.aV (E 24) (.B (.F [A 0 25 0,b7 1 26 253 [E 25],eN 2 4,A 3 5 26]) (.aI)) (.skip))) abU
def RA:J:=
  .B (
  .F [
 eN 0 4,
 eN 1 5]) RC
def CC:bU:=⟨198,[.bL 4,.bL 5],RA⟩
theorem RB:b3 al 273=some CC:=by kernel_rfl
def ars:J:= .B (.F [A 0 48 5,A 1 49 8,nE 2 50 49,a2 3 51 (.fR 1 1 [.int .u32 0] [(0,1,E 50)]),iC 4 52 1 4 48 51,A 5 5 52]) (.F [A 0 53 8,x2 1 54 53 32,A 2 6 54])
def arq:J:= .B (.B (.F [A 0 37 7,A 1 38 1,bO 2 39 38,dq 3 40 37 39]) (.aV (E 40) (.F [A 0 41 8,A 1 42 1,A 2 43 7,bH 3 44 1 42 43,aA 4 45 44,jn 5 46 45,gI 6 47 41 46,A 7 8 47]) (.skip))) ars
def arp:J:= .B (.B (.F [A 0 26 7,A 1 27 0,bO 2 28 27,dq 3 29 26 28]) (.aV (E 29) (.F [A 0 30 8,A 1 31 0,A 2 32 7,bH 3 33 1 31 32,aA 4 34 33,jn 5 35 34,gI 6 36 30 35,A 7 8 36]) (.skip))) arq
def aro:J:= .B (.block 1 (.B (.F [A 0 25 6,A 1 8 25]) arp)) (.F [A 0 23 7,da 1 24 23,A 2 7 24])
def aru:J:= .B (.B (.F [A 0 9 7,A 1 10 0,bO 2 11 10,dq 3 12 9 11,A 4 13 12,dG 5 14 13 7,dG 6 15 13 1,iM 7 16 13 15,cw 8 17 13 false (.fg .lss .gl (E 14) (E 16)),cZ 9 18 13 17,A 10 19 18,dG 11 20 19 6,cw 12 21 19 false (.fg .gtr .gl (E 20) (.const (.int .u64 0))),cZ 13 22 19 21]) (.aV (E 22) (.skip) (.bh 0))) aro
def art:J:= .B (.F [A 0 55 5,b7 1 56 194 [E 55],A 2 4 56]) (.aI)
def arn:J:= .B (.B (.F [ba 0 7 0]) (.block 0 (.loop aru))) art
def arl:J:= .B (.F [uw 0 6 0]) arn
def ark:J:= .B (.F [eN 0 5]) arl
def ari:J:=
  .B (
  .F [
 eN 0 4]) ark
def abW:bU:=⟨57,[.bL 4],ari⟩
theorem arj:b3 al 274=some abW:=by kernel_rfl
def Lq:J:= .B (.F [A 0 27 6,A 1 28 8,A 2 29 7,A 3 30 1,jn 4 31 30,c9 5 32 .quo (E 29) (E 31),nE 6 33 32,bH 7 34 1 27 28,b4 8 1 34 33]) (.F [A 0 35 7,A 1 36 1,jn 2 37 36,c9 3 38 .rem (E 35) (E 37),A 4 7 38])
def Lp:J:= .B (.block 1 (.B (.F [A 0 19 7,c9 1 20 .shl (E 19) (.const (.int .u64 32)),A 2 21 0,A 3 22 8,bH 4 23 1 21 22,aA 5 24 23,jn 6 25 24,c9 7 26 .or (E 20) (E 25),A 8 7 26]) Lq)) (.F [A 0 17 8,h6 1 18 17 1,A 2 8 18])
def RD:J:= .B (.B (.F [A 0 15 8,oG 1 16 15 0]) (.aV (E 16) (.skip) (.bh 0))) Lp
def Lr:J:= .B (.F [A 0 39 6,A 1 40 6,b7 2 41 248 [E 40],n4 3 42 39 41,A 4 43 7,nE 5 44 43,A 6 4 42,A 7 5 44]) (.aI)
def ab2:J:= .B (.B (.F [A 0 12 0,bO 1 13 12,h6 2 14 13 1,A 3 8 14]) (.block 0 (.loop RD))) Lr
def ab1:J:= .B (.F [uw 0 7 0]) ab2
def ab0:J:= .B (.F [A 0 9 0,bO 1 10 9,v3 2 11 10 10,A 3 6 11]) ab1
def abY:J:=
  .B (
  .F [
 eN 0 4,
 a2 1 5 (.nf (.const (.int .u32 0)))]) ab0
def Lo:bU:=⟨45,[.bL 4,.bL 5],abY⟩
theorem abZ:b3 al 278=some Lo:=by kernel_rfl
abbrev cF(b:Nat):Value:= .pointer (some ⟨b,0,none⟩)
abbrev Z(n:Int):Value:= .int .i64 n
abbrev eP(n:Int):Value:= .int .u32 n
structure IV(m an:W):Prop where
  next:m.next<=an.next
  X: ∀b,b<m.next->an.X b=m.X b
theorem IV.refl(m:W):IV m m:=⟨dW _,λ_ _=>rfl⟩
theorem BM{l:List Value}{k:Nat}:(List.take 1 (List.drop k l)).head?=l[k]?:=by
  cases h:l.drop k with
  |nil=>rw[List.drop_eq_nil_iff]at h;rw[pP h];rfl
  |cons x xs=>simp;rw[<-List.head?_drop,h];rfl
end Go.Proofs.YtmmkkggfmigppaaGreat
