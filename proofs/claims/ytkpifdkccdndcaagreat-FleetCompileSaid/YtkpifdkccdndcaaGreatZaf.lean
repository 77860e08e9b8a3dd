/-
  A part of the proof of the statement, in texts that tools of ours (wip/shrink.py, irpack.py, relax.py, minify.py, join.py, lay.py) have shortened.
-/
import Derived.Test.YtkpifdkccdndcaaGreatZae
set_option linter.all false
set_option maxRecDepth 8000
set_option maxHeartbeats 16000000
namespace Go.DI
open Go Go.RowKit
section
variable {K:jA} {Y:hj} {u ag:aL} {t m:B} {v bW:Value}
theorem vP(h:fg v=true):jQ v=false/\oM v=false/\l3 v=false:=by cases v<;>simp_all [fg,jQ,oM,l3]
theorem b2.headD{xs ys:List Value}(h:b2 K Y xs ys):cw K Y (xs.headD undef) (ys.headD undef):=by
  cases xs with
  | nil=>cases ys with
    |nil=>exact cw.undef
    |cons y ys=>simp[b2]at h
  | cons x xs=>cases ys with
    |nil=>simp[b2]at h
    |cons y ys=>exact h.2 0 x y rfl rfl
theorem b2.adQ: ∀{bR xE:List (List Value)},bR.length=xE.length->(∀(i:Nat) r hb,bR[i]?=some r->xE[i]?=some hb->b2 K Y r hb)->b2 K Y bR.flatten xE.flatten
  |[],[],_,_=>b2.nil
  |[],_::_,h,_=>by simp at h
  |_::_,[],h,_=>by simp at h
  | r::bR,hb::xE,h,cE=>by rw[List.flatten_cons,List.flatten_cons];exact(cE 0 r hb rfl rfl).th (b2.adQ (by simpa using h) λi a b aE L=>cE (i+1) a b (by simpa using aE) (by simpa using L))
theorem b2.cq{cq cs:List Value}{off k n:Nat}(aG:off+cq.length<=cs.length)(aB: ∀(j:Nat) x y,cq[j]?=some x->cs[off+j]?=some y->cw K oW x y)(W:k+n<=cq.length):
    b2 K Y ((cq.drop k).take n) ((cs.drop (off+k)).take n):=by
  refine⟨by simp;omega,λi x y H ah=> ?_⟩;rw[List.getElem?_take]at H ah;split at H
  · rename_i aa;rw[if_pos aa]at ah;rw[List.getElem?_drop]at H ah;exact(aB (k+i) x y H (by rw[<-Nat.add_assoc];exact ah)).aD (kn.refl _) (iv.nil _)
  · cases H
theorem gM.pC(J:gM Y K t m){o b:Nat}{x:fO}(bT:Y o=some b)(H:t.M o=some x): ∃cs w,m.M b=some ⟨cs,w⟩/\(x.own=true->w=true)/\b2 K Y x.cells cs:=by
  rcases J.m7 o x H with⟨cQ,cs,w,z,D,Z,aw⟩|⟨z,_⟩
  · rw[bT]at z;cases z;exact⟨cs,w,D,Z,aw⟩
  · rw[bT]at z;cases z
theorem M4(J:gM Y K t m)(X:cw K Y v bW){n:Nat}(h:tg t v n=true):gZ m bW n=true:=by
  unfold tg at h;split at h
  · rename_i aa;obtain⟨cq,k,b,off,cs,rfl,rfl,de,aG,aB⟩:=X.afU aa;obtain⟨⟨w,aO⟩,_⟩:=J.bw b cs de;simp at h;simp[aO];omega
  · rename_i sH;unfold gZ at h;split at h
    · next a=>
      obtain⟨b,bT,mr,rfl⟩:=X.vR;simp only[Bool.and_eq_true]at h;cases aj:t.M a.block with
      |none=>rw[aj]at h;simp at h
      | some x=>rw[aj]at h;obtain⟨cs,w,z,_,Z⟩:=J.pC bT aj;simp at h;simp[z];have:=Z.1;omega
    · cases h
theorem akY(J:gM Y K t m)(X:cw K Y v bW){n:Nat}{ep:Bool}(h:tg t v n=true)(z:(ep||decide (n=1))=true):cw K Y (Cc t ep n v) (lq m ep n bW):=by
  unfold tg at h;unfold Cc;split at h
  · rename_i aa;rw[if_pos aa];obtain⟨cq,k,b,off,cs,rfl,rfl,de,aG,aB⟩:=X.afU aa;obtain⟨⟨w,aO⟩,_⟩:=J.bw b cs de;simp at h;simp only[ay5,ac1,aO,afO,al3];cases ep with
    |true=>exact(b2.cq aG aB h).agg
    |false=>simp at z;subst z;exact(b2.cq aG aB h).headD
  · rename_i aa;rw[if_neg aa];unfold gZ at h;split at h
    · next a=>
      obtain⟨b,bT,mr,rfl⟩:=X.vR;simp only[Bool.and_eq_true]at h;cases aj:t.M a.block with
      |none=>rw[aj]at h;simp at h
      | some x=>
        obtain⟨cs,w,D,_,Z⟩:=J.pC bT aj;simp only[lq,ka,D];rw[aj];cases ep with
        |true=>exact((Z.drop _).take _).agg
        |false=>exact((Z.drop _).take _).headD
    · cases h
theorem amb(X:cw K Y v bW)(h:sj v=true):s5 bW=true:=by
  cases X with
  |c0 z=>obtain⟨_,D,_⟩:=vP z;simpa[sj,D]using h
  |bZ h=>rfl
  |fL e=>rfl
  |kd e=>subst e;simp[sj,s5,bE,oM]at h
  |ki e=>subst e;simp[sj,s5,bE,oM]at h
  |_=>simp[sj,s5,oM]at h
theorem ama(X:cw K Y v bW)(h:sj v=true)(n:Nat):cw K Y (yT v n) (yS bW n):=by
  cases X with
  | c0 z=>
    obtain⟨_,D,_⟩:=vP z;simp only[sj,D,Bool.false_or,s5]at h;split at h
    · simp[fg]at z
    · cases h
  |bZ bT=>simp only[yT,oM,yS,Bool.false_eq_true,if_false];exact .bZ bT
  |fL e de aG aB=>subst e;simp only[yT,ayt,if_true,al3,afO,yS,Nat.add_assoc];exact .fL rfl de aG aB
  |kd e=>subst e;simp[sj,s5,bE,oM]at h
  |ki e=>subst e;simp[sj,s5,bE,oM]at h
  |_=>simp[sj,s5,oM]at h
theorem RW(X:cw K Y v bW):l7 v=ic bW:=by
  cases X with
  |c0 h=>simp[l7,(vP h).1]
  |kd e=>subst e;simp[l7,ic]
  |ki e=>subst e;simp[l7,ic]
  |fL e=>subst e;simp[l7,ic,fL,jQ]
  |_=>rfl
theorem SV(X:cw K Y v bW):nJ v=hA bW:=by
  cases X with
  |c0 h=>simp[nJ,(vP h).1]
  |kd e=>subst e;simp[nJ,hA]
  |ki e=>subst e;simp[nJ,hA]
  |fL e=>subst e;simp[nJ,hA,fL,jQ]
  |_=>rfl
theorem ayu(X:cw K Y v bW)(h:B8 v=true):yy bW=true:=by
  cases X with
  |c0 z=>simpa[B8,(vP z).1]using h
  |kd e=>rfl
  |ki e=>rfl
  |fL e=>subst e;simp[B8,fL,jQ,yy]at h
  |_=>simpa[B8,jQ,yy]using h
theorem Mr(X:cw K Y v bW){O:Nat}(h:nt O v=true):kA O bW=true:=by
  cases X with
  |c0 z=>simpa[nt,(vP z).1]using h
  |kd e=>subst e;simpa[nt]using h
  |ki e=>rfl
  |fL e=>subst e;simp[nt,fL,jQ,kA]at h
  |tX=>rfl
  |slice=>simpa[nt,jQ]using h
  |_=>simp[nt,jQ,kA]at h
theorem anc(X:cw K Y v bW){O l h:Nat}(aq:nt O v=true)(z:l<=h)(D:h<=nJ v):cw K Y (ve v O l h) (n8 bW O l h):=by
  cases X with
  | c0 aI=>
    simp only[ve,(vP aI).1,Bool.false_eq_true,if_false];unfold n8;split
    · simp[fg]at aI
    · exact .c0 rfl
  | kd e de aG bY aB=>
    rename_i b off mS cs bR;subst e;have Gd:mS=O:=(by simpa[nt]using aq);subst Gd;have gx:h<=bR.length:=(by simpa[nJ]using D);simp only[ve,RN,if_true,OM,n8];have gH:((bR.take h).drop l).length=h-l:=(by simp;omega);have aK:h*mS<=bR.length*mS:=Nat.mul_le_mul_right _ gx;have bt:l*mS+(h-l)*mS=h*mS:=(by rw[<-Nat.add_mul];congr 1;omega);rw[<-gH];refine .kd rfl de (by rw[gH];omega) (λi r aF=> ?_) λi j r x y aF H ah=> ?_
    · rw[List.getElem?_drop,List.getElem?_take]at aF;split at aF
      · exact bY _ _ aF
      · cases aF
    · rw[List.getElem?_drop,List.getElem?_take]at aF;split at aF
      · refine aB _ j r x y aF H ?_;rw[<-ah];congr 1;rw[Nat.add_mul];omega
      · cases aF
  | ki e=>subst e;simp only[ve,RN,if_true,OM,n8];simp;exact .ki rfl
  |fL e=>subst e;simp[nt,fL,jQ,kA]at aq
  | tX=>have:h=0:=(by simpa[nJ,jQ,hA]using D);subst this;have:l=0:=(by omega);subst this;simp only[ve,jQ,n8,Bool.false_eq_true,if_false,Nat.zero_mul,Nat.add_zero,Nat.sub_self];exact .tX
  |slice bT=>simp only[ve,jQ,n8,Bool.false_eq_true,if_false];exact .slice bT
  |_=>simp[nt,jQ,kA]at aq
theorem aCS(X:cw K Y v bW){O:Nat}{i:Int}(aq:nt O v=true)(bB:0<=i)(z:i<l7 v):cw K Y (Cy v O i) (mP bW O i):=by
  obtain⟨n,rfl⟩:=Int.eq_ofNat_of_zero_le bB;cases X with
  | c0 aI=>
    simp only[l7,(vP aI).1,Bool.false_eq_true,if_false]at z;simp only[nt,(vP aI).1,Bool.false_eq_true,if_false]at aq;unfold kA at aq;split at aq
    · simp[ic]at z;simp at aq;omega
    · simp[fg]at aI
    · cases aq
  | kd e de aG bY aB=>rename_i b off mS cs bR;subst e;have Gd:mS=O:=(by simpa[nt]using aq);subst Gd;have D:n<bR.length:=(by simpa[l7]using z);simp only[Cy,RN,if_true,OM,mP,Int.toNat_natCast];rw[List.getD_eq_getElem?_getD,List.getElem?_eq_getElem D,Option.getD_some];have aF:=List.getElem?_eq_getElem D;have yh:=bY _ _ aF;have:(n+1)*mS<=bR.length*mS:=Nat.mul_le_mul_right _ D;rw[Nat.add_mul]at this;exact .fL (off:=off+n*mS) (k:=0) rfl de (by omega) λj x y H ah=>aB n j _ x y aF H ah
  |ki e=>subst e;simp[l7]at z;omega
  |fL e=>subst e;simp[nt,fL,jQ,kA]at aq
  |tX=>simp[l7,jQ,ic]at z;omega
  |slice bT=>simp only[Cy,jQ,mP,Bool.false_eq_true,if_false];exact .bZ bT
  |_=>simp[nt,jQ,kA]at aq
theorem abN(J:gM Y K t m)(X:cw K Y v bW){O:Nat}(h:qb t O v=true):ik m O bW=true:=by
  cases X with
  | c0 aI=>
    simp only[qb,(vP aI).1,Bool.false_eq_true,if_false]at h;unfold ik at h;split at h
    · simpa[ik]using h
    · simp[fg]at aI
    · cases h
  | kd e de aG bY aB=>subst e;have:=(by simpa[qb]using h);subst this;obtain⟨⟨w,aO⟩,_⟩:=J.bw _ _ de;simp[aO,aG]
  |ki e=>rfl
  |fL e=>subst e;simp[qb,fL,jQ,ik]at h
  |tX=>rfl
  | slice bT=>
    rename_i o b off l mS;simp only[qb,jQ,Bool.false_eq_true,if_false,ane,Bool.and_eq_true]at h⊢;refine⟨h.1,?_⟩;cases aj:t.M o with
    |none=>rw[aj]at h;simp at h
    | some x=>rw[aj]at h;obtain⟨cs,w,z,_,Z⟩:=J.pC bT aj;have:=Z.1;simp[z]at h⊢;omega
  |_=>simp[qb,jQ,ik]at h
theorem T3(J:gM Y K t m)(X:cw K Y v bW){O:Nat}(h:qb t O v=true):b2 K Y (tj t O v) (hO m O bW):=by
  cases X with
  | c0 aI=>
    simp only[qb,(vP aI).1,Bool.false_eq_true,if_false]at h;unfold ik at h;split at h
    · exact b2.nil
    · simp[fg]at aI
    · cases h
  | kd e de aG bY aB=>rename_i b off mS cs bR;subst e;have:=(by simpa[qb]using h);subst this;obtain⟨⟨w,aO⟩,_⟩:=J.bw _ _ de;simp only[tj,RN,if_true,OM,aCU,ac1,aO];obtain⟨xE,aM,a1,cI⟩:=aa1 bR.length off aG;rw[<-a1];refine b2.adQ aM.symm λi r hb aF vL=> ?_;have aa:=(List.getElem?_eq_some_iff.1 aF).1;rw[cI i aa]at vL;cases vL;have aI9:=bY _ _ aF;have:(i+1)*mS<=bR.length*mS:=Nat.mul_le_mul_right _ aa;rw[Nat.add_mul]at this;have:=b2.cq (K:=K) (Y:=Y) (cq:=r) (cs:=cs) (off:=off+i*mS) (k:=0) (n:=mS) (by omega) (λj x y H ah=>aB i j r x y aF H ah) (by omega);rw[List.drop_zero,List.take_of_length_le (by omega)]at this;exact this
  |ki e=>subst e;simp[tj,hO];exact b2.nil
  |fL e=>subst e;simp[qb,fL,jQ,ik]at h
  | tX=>
    simp only[tj,jQ,Bool.false_eq_true,if_false,hO,ka];split
    · simp;exact b2.nil
    · exact b2.nil
  | slice bT=>
    rename_i o b off l mS;simp only[qb,jQ,Bool.false_eq_true,if_false,ane,Bool.and_eq_true]at h;simp only[tj,jQ,Bool.false_eq_true,if_false,hO,ka];cases aj:t.M o with
    |none=>rw[aj]at h;simp at h
    | some x=>obtain⟨cs,w,z,_,Z⟩:=J.pC bT aj;simp only[z];exact(Z.drop _).take _
  |_=>simp[qb,jQ,ik]at h
theorem aCV(J:gM Y K t m)(X:cw K Y v bW)(h:nK t v=true):nK m bW=true:=by
  unfold nK at h;split at h
  · rename_i l c;cases X with
    |c0 aI=>rfl
    |kd e=>simp[bE]at e
    |ki e=>simp[bE]at e
    |fL e=>simp[fL]at e
  · rename_i a l c;rcases X.r6 with⟨b,bT,_,rfl⟩|⟨_,_,_,rfl⟩
    · cases aj:t.M a.block with
      |none=>rw[aj]at h;cases h
      | some x=>rw[aj]at h;obtain⟨cs,w,z,D,Z⟩:=J.pC bT aj;simp[z,D h]
    · rfl
  · cases h
theorem azs(J:gM Y K t m)(X:cw K Y v bW){bg:List (Value×Value)}(h:mv t v=some bg): ∃ei,mv m bW=some ei/\sv K Y bg ei:=by
  unfold mv at h;split at h
  · cases h;have:bW= .map none:=X.lo rfl;subst this;exact⟨[],rfl,rfl,λi e eW a=>by simp at a⟩
  · obtain⟨b,ei,z,D,Z⟩:=J.kz _ _ h;obtain⟨cQ,aw,rfl⟩:=X.JY;rw[z]at aw;cases aw;exact⟨ei,D,Z⟩
  · cases h
theorem akv(X:cw K Y v bW){bx:mx}(h:pj bx v=true):bW=v:=by
  cases bx<;>cases v<;>simp[pj]at h
  · exact X.rg
  · exact X.z0
theorem akF{bx:mx}{bg ei:List (Value×Value)}(aU:sv K Y bg ei)(X:cw K Y v bW)(h:eh bx v bg=true):eh bx bW ei=true/\bW=v/\ ∀(i:Nat) e eW,bg[i]?=some e->ei[i]?=some eW->eW.1=e.1:=by
  simp only[eh,Bool.and_eq_true,List.all_eq_true]at h⊢;have aM:=akv X h.1;subst aM;have W: ∀(i:Nat) e eW,bg[i]?=some e->ei[i]?=some eW->eW.1=e.1:= λi e eW a b=>akv (aU.2 i e eW a b).1 (h.2 e (List.mem_of_getElem? a));refine⟨⟨h.1,λeW aK=> ?_⟩,rfl,W⟩;obtain⟨i,aa,rfl⟩:=List.getElem_of_mem aK;have jE:i<bg.length:=by rw[aU.1];exact aa
  rw[W i _ _ (List.getElem?_eq_getElem jE) (List.getElem?_eq_getElem aa)];exact h.2 _ (List.getElem_mem jE)
theorem ale{k:Value}: ∀{bg ei:List (Value×Value)},sv K Y bg ei->(∀(i:Nat) e eW,bg[i]?=some e->ei[i]?=some eW->eW.1=e.1)->(cF k bg=none/\cF k ei=none)\/ ∃a b,cF k bg=some a/\cF k ei=some b/\cw K Y a b
  |[],[],_,_=> .inl ⟨rfl,rfl⟩
  |[],_::_,h,_=>by simp[sv]at h
  |_::_,[],h,_=>by simp[sv]at h
  | e::bg,eW::ei,h,W=>by
    have bB:=W 0 e eW rfl rfl;simp only[cF,bB];split
    · exact .inr ⟨_,_,rfl,rfl,(h.2 0 e eW rfl rfl).2⟩
    · exact ale ⟨by simpa using h.1,λi a b aE L=>h.2 (i+1) a b (by simpa using aE) (by simpa using L)⟩ λi a b aE L=>W (i+1) a b (by simpa using aE) (by simpa using L)
theorem alp{k v bW:Value}(JE:cw K Y k k)(X:cw K Y v bW): ∀{bg ei:List (Value×Value)},sv K Y bg ei->(∀(i:Nat) e eW,bg[i]?=some e->ei[i]?=some eW->eW.1=e.1)->sv K Y (dW k v bg) (dW k bW ei)
  | [],[],_,_=>⟨rfl,λi a b aE L=>by
      cases i with
      |zero=>simp[dW]at aE L;subst aE;subst L;exact⟨JE,X⟩
      |succ i=>simp[dW]at aE⟩
  |[],_::_,h,_=>by simp[sv]at h
  |_::_,[],h,_=>by simp[sv]at h
  | e::bg,eW::ei,h,W=>by
    have bB:=W 0 e eW rfl rfl;have bH:sv K Y bg ei:=⟨by simpa using h.1,λi a b aE L=>h.2 (i+1) a b (by simpa using aE) (by simpa using L)⟩;simp only[dW,bB];split
    · refine⟨by simpa using h.1,λi a b aE L=> ?_⟩;cases i with
      |zero=>simp at aE L;subst aE;subst L;exact⟨JE,X⟩
      |succ i=>exact bH.2 i a b (by simpa using aE) (by simpa using L)
    · have:=alp JE X bH λi a b aE L=>W (i+1) a b (by simpa using aE) (by simpa using L);refine⟨by simpa using this.1,λi a b aE L=> ?_⟩;cases i with
      |zero=>simp at aE L;subst aE;subst L;exact h.2 0 e eW rfl rfl
      |succ i=>exact this.2 i a b (by simpa using aE) (by simpa using L)
end
section
variable {K:jA} {Y:hj} {u ag:aL} {t m:B} {v bW:Value}
theorem L4(cm:jB K Y u ag){x:Option Operand}(H: ∀o,x=some o->dZ o=true)(h:p5 u x=true)(d:Int):p5 ag x=true/\hJ ag x d=hJ u x d:=by
  cases x with
  |none=>exact⟨rfl,rfl⟩
  | some o=>have e:=tL (cm.ab (H o rfl)) h;simp only[p5,hJ,e]at h⊢;exact⟨h,trivial⟩
theorem al4(cm:jB K Y u ag){cs oF:List Value}(aG:cs.length=oF.length){dX:List (Nat×Nat×Operand)}(aE: ∀p∈dX,dZ p.2.2=true)(h:sh cs u dX=true):sh oF ag dX=true:=by simp only[sh,List.all_eq_true]at h⊢;intro p aq;have:=h p aq;obtain⟨off,n,x⟩:=p;simp only[Bool.and_eq_true,decide_eq_true_eq]at this⊢;have X:=cm.ab (aE _ aq);exact⟨⟨X.ar this.1.1,by rw[<-X.al.1];exact this.1.2⟩,by rw[<-aG];exact this.2⟩
theorem aaw(cm:jB K Y u ag): ∀{dX:List (Nat×Nat×Operand)} {cs oF:List Value},b2 K Y cs oF->(∀p∈dX,dZ p.2.2=true)->b2 K Y (n3 cs u dX) (n3 oF ag dX)
  |[],_,_,h,_=>h
  | (off,n,x)::dX,_,_,h,aE=>by simp only[n3];exact aaw cm (h.kE off (cm.ab (aE (off,n,x) (by simp))).al) λp aq=>aE p (by simp[aq])
theorem cw.SO{v:Value}(h:fg v=true\/v=Go.undef):cw K Y v v:=by
  rcases h with h|rfl
  · exact .c0 h
  · exact cw.undef
theorem ava(op:BinOp)(k:IntKind)(a b:Int):fg (Gh op k a b)=true:=by cases op<;>rfl
theorem aC5(op:BinOp)(a b:ByteArray):fg (CG op a b)=true\/CG op a b=Go.undef:=by cases op<;>first|exact .inl rfl|exact .inr rfl
theorem apr(op:BinOp)(x y:Value):fg (nc op x y)=true\/nc op x y=Go.undef:=by
  unfold nc;split
  · exact .inl (ava _ _ _ _)
  · exact aC5 _ _ _
  · split
    · exact .inl rfl
    · exact .inl rfl
    · exact .inr rfl
theorem am2(X:cw K Y v bW)(h:oc v=true):bW=v\/(∃a er,v= .pointer (some a)/\bW= .pointer (some er))\/(∃a er l O,v= .slice (some a) l O/\bW= .slice (some er) l O)\/
    (∃f xs cs ys b1,v= .func (.func f) xs cs/\bW= .func (.func f) ys b1)\/(∃a b,v= .map a/\bW= .map b)\/(∃a b,v= .agg a/\bW= .agg b)\/(∃a b,v= .tuple a/\bW= .tuple b)\/ ∃t a b,v= .iface t a/\bW= .iface t b:=by
  cases X with
  |c0=>exact .inl rfl
  |bZ=>exact .inr (.inl ⟨_,_,rfl,rfl⟩)
  |slice=>exact .inr (.inr (.inl ⟨_,_,_,_,rfl,rfl⟩))
  |tX=>simp[oc,l3]at h
  |map=>exact .inr (.inr (.inr (.inr (.inl ⟨_,_,rfl,rfl⟩))))
  |agg=>exact .inr (.inr (.inr (.inr (.inr (.inl ⟨_,_,rfl,rfl⟩)))))
  |tuple=>exact .inr (.inr (.inr (.inr (.inr (.inr (.inl ⟨_,_,rfl,rfl⟩))))))
  |func=>exact .inr (.inr (.inr (.inl ⟨_,_,_,_,_,rfl,rfl⟩)))
  |iface=>exact .inr (.inr (.inr (.inr (.inr (.inr (.inr ⟨_,_,_,rfl,rfl⟩))))))
  |kd e=>subst e;simp[oc]at h
  |ki e=>subst e;simp[oc]at h
  |fL e=>subst e;simp[oc]at h
theorem acJ{x y:Value}{op:BinOp}{c:wG}(h:(fU x&&fU y)=false)(D:(nh x&&nh y)=false):uj op c x y=(match op with| .eql| .neq=>wO c x y|_=>false):=by
  unfold uj;split
  · simp[fU]at h
  · simp[nh]at D
  · rfl
theorem acK{x y:Value}{op:BinOp}(h:(fU x&&fU y)=false)(D:(nh x&&nh y)=false):nc op x y=(match op with| .eql=> .bool (q4 x y)| .neq=> .bool (!q4 x y)|_=>Go.undef):=by
  unfold nc;split
  · simp[fU]at h
  · simp[nh]at D
  · rfl
theorem aks(X:cw K Y v bW)(h:oc v=true):fU bW=fU v/\nh bW=nh v:=by rcases am2 X h with rfl|⟨a,er,rfl,rfl⟩|⟨a,er,l,O,rfl,rfl⟩|⟨f,xs,cs,ys,b1,rfl,rfl⟩|⟨a,b,rfl,rfl⟩|⟨a,b,rfl,rfl⟩|⟨a,b,rfl,rfl⟩|⟨t,a,b,rfl,rfl⟩<;>exact⟨rfl,rfl⟩
def HT:Value->Value
  | .pointer (some _)=> .pointer (some ⟨0,0,none⟩)
  | .slice (some _) _ _=> .slice (some ⟨0,0,none⟩) 0 0
  | .func _ _ _=> .func (.func 0) #[] #[]
  | .map _=> .map none
  | .agg _=> .agg #[]
  | .tuple _=> .tuple #[]
  | .iface _ _=> .iface 0 .nilIface
  |v=>v
theorem adC(c:wG)(x y:Value):wO c (HT x) (HT y)=wO c x y:=by cases c<;>cases x<;>cases y<;>first|rfl|(cases‹Option Addr› <;>first|rfl|(cases‹Option Addr› <;>rfl))
theorem adD(x y:Value):q4 (HT x) (HT y)=q4 x y:=by cases x<;>cases y<;>first|rfl|(cases‹Option Addr› <;>first|rfl|(cases‹Option Addr› <;>rfl))
theorem SZ(X:cw K Y v bW)(h:oc v=true):HT bW=HT v:=by rcases am2 X h with rfl|⟨a,er,rfl,rfl⟩|⟨a,er,l,O,rfl,rfl⟩|⟨f,xs,cs,ys,b1,rfl,rfl⟩|⟨a,b,rfl,rfl⟩|⟨a,b,rfl,rfl⟩|⟨a,b,rfl,rfl⟩|⟨t,a,b,rfl,rfl⟩<;>rfl
theorem adE{x y kC zg:Value}{c:wG}(H:cw K Y x kC)(ah:cw K Y y zg)(z:oc x=true)(D:oc y=true)(h:wO c x y=true):wO c kC zg=true/\q4 kC zg=q4 x y:=by rw[<-adC,SZ H z,SZ ah D,adC,<-adD kC zg,SZ H z,SZ ah D,adD];exact⟨h,rfl⟩
theorem aps{x y kC zg:Value}{op:BinOp}{c:wG}(H:cw K Y x kC)(ah:cw K Y y zg)(z:oc x=true)(D:oc y=true)(h:uj op c x y=true):uj op c kC zg=true/\nc op kC zg=nc op x y:=by
  obtain⟨re,aH⟩:=aks H z;obtain⟨sQ,bD⟩:=aks ah D;by_cases aa:(fU x&&fU y)=true
  · simp only[Bool.and_eq_true]at aa;rw[tL H aa.1,tL ah aa.2];exact⟨h,rfl⟩
  · by_cases J:(nh x&&nh y)=true
    · simp only[Bool.and_eq_true]at J;rw[Ep H J.1,Ep ah J.2];exact⟨h,rfl⟩
    · simp only[Bool.not_eq_true]at aa J;rw[acJ aa J]at h;rw[acJ (by rw[re,sQ];exact aa) (by rw[aH,bD];exact J),acK aa J,acK (by rw[re,sQ];exact aa) (by rw[aH,bD];exact J)];cases op<;>simp only[Bool.false_eq_true]at h⊢
      · obtain⟨a,b⟩:=adE H ah z D h;rw[b];exact⟨a,rfl⟩
      · obtain⟨a,b⟩:=adE H ah z D h;rw[b];exact⟨a,rfl⟩
theorem akU: ∀{gG:List rE} {as lY Ii Is:List Value},kb gG as lY=true->b2 K Y as Ii->b2 K Y lY Is->Ii=as/\Is=lY
  | [],[],[],Ii,Is,_,z,D=>by have aM:Ii=[]:=List.eq_nil_of_length_eq_zero (by rw[<-z.1];rfl);have a1:Is=[]:=List.eq_nil_of_length_eq_zero (by rw[<-D.1];rfl);exact⟨aM,a1⟩
  |k::gG,a::as,b::lY,[],_,_,z,_=>by simp[b2]at z
  |k::gG,a::as,b::lY,_::_,[],_,_,D=>by simp[b2]at D
  | k::gG,a::as,b::lY,er::Ii,cQ::Is,h,z,D=>by simp only[kb,Bool.and_eq_true]at h;obtain⟨aM,a1⟩:=akU h.2 ⟨by simpa using z.1,λi x y H ah=>z.2 (i+1) x y (by simpa using H) (by simpa using ah)⟩ ⟨by simpa using D.1,λi x y H ah=>D.2 (i+1) x y (by simpa using H) (by simpa using ah)⟩;have aE:=z.2 0 a er rfl rfl;have L:=D.2 0 b cQ rfl rfl;have W:=h.1;have cI:er=a:=(by cases k<;>cases a<;>cases b<;>simp[Bc]at W<;>exact aE.lo rfl);have fe:cQ=b:=(by cases k<;>cases a<;>cases b<;>simp[Bc]at W<;>exact L.lo rfl);rw[aM,a1,cI,fe];exact⟨rfl,rfl⟩
  |[],_::_,_,_,_,h,_,_=>by simp[kb]at h
  |[],[],_::_,_,_,h,_,_=>by simp[kb]at h
  |_::_,[],_,_,_,h,_,_=>by simp[kb]at h
  |_::_,_::_,[],_,_,h,_,_=>by simp[kb]at h
theorem alj(cm:jB K Y u ag)(fC:Bool): ∀(xs:List Operand) (ef:Value),xs.all dZ=true->(xs.all λy=>fU (ab u y))=true->fU ef=true->
    (xs.foldl (λef y=>if fC then qL ef (ab ag y)else qM ef (ab ag y)) ef=xs.foldl (λef y=>if fC then qL ef (ab u y)else qM ef (ab u y)) ef)/\fU (xs.foldl (λef y=>if fC then qL ef (ab u y)else qM ef (ab u y)) ef)=true
  |[],ef,_,_,h=>⟨rfl,h⟩
  | y::xs,ef,aE,aa,h=>by simp only[List.all_cons,Bool.and_eq_true]at aE aa;have e:=tL (cm.ab aE.1) aa.1;simp only[List.foldl_cons,e];refine alj cm fC xs _ aE.2 aa.2 ?_;have z:=aa.1;cases ef<;>simp[fU]at h;cases ah:ab u y<;>simp[ah,fU]at z;split<;>rfl
theorem asa(h:fU v=true):fg v=true:=by cases v<;>simp[fU]at h<;>rfl
def av.aaF:av->Bool
  | .eR _| .o7 _| .iT _ _ _ _| .rN _| .nk _ _ _ _ _| .app _ _ _ _| .oS| .store _ _ _| .pl _ _ _ _| .eI _ _| .lZ _ _| .qB _ _ _=>false
  |_=>true
theorem aA1{k:av}(h:k.aaF=true){id l1:Nat}:k.yK id u t=t/\k.kk l1 ag m=m:=by cases k<;>first|exact⟨rfl,rfl⟩|cases h
theorem aA2(J:gM Y K t m)(cm:jB K Y u ag){k:av}(bt:k.aaF=true)(an:EI k=true)(aA:k.lu u t=true)(id l1:Nat):k.ok ag m=true/\cw K Y (k.lE id u t) (k.val l1 ag m):=by
  simp only[EI,Bool.and_eq_true]at an;obtain⟨aE,bY⟩:=an;cases k with
  |pk x=>simp[av.iY]at aE;exact⟨rfl,cm.ab aE⟩
  | s4 c a b=>
    simp[av.iY]at aE;have e:=akr (cm.ab aE.1) aA;refine⟨by simp only[av.ok,e];exact aA,?_⟩;simp only[av.lE,av.val,e];split
    · exact cm.ab aE.2.1
    · exact cm.ab aE.2.2
  | Az x=>
    simp[av.iY]at aE;have X:=cm.ab aE;refine⟨?_,X⟩;simp only[av.lu,av.ok]at aA⊢;generalize ab u x=a at X aA;generalize ab ag x=er at X;cases X with
    |c0=>exact aA
    |_=>rfl
  | gT O dX=>have nR: ∀p∈dX,dZ p.2.2=true:= λp aq=>List.all_eq_true.1 aE _ (by simp only[av.iY];exact List.mem_map_of_mem aq);have aG:=b2.c0 (K:=K) (Y:=Y) bY;exact⟨al4 cm rfl nR aA,(aaw cm aG nR).agg⟩
  | fj ep n x=>simp[av.iY]at aE;simp only[av.lu,Bool.and_eq_true]at aA;refine⟨?_,akY J (cm.ab aE) aA.1 aA.2⟩;simp only[av.ok,Bool.and_eq_true];exact⟨M4 J (cm.ab aE) aA.1,aA.2⟩
  | gz op c x y=>simp[av.iY]at aE;simp only[av.lu,Bool.and_eq_true]at aA;obtain⟨z,D⟩:=aps (cm.ab aE.1) (cm.ab aE.2) aA.1.1 aA.1.2 aA.2;refine⟨z,?_⟩;simp only[av.lE,av.val,D];exact cw.SO (apr _ _ _)
  | rQ bV gG x y=>simp[av.iY]at aE;simp only[av.lu,av.ok,Bool.and_eq_true]at aA;have H:=cm.ab aE.1;have ah:=cm.ab aE.2;simp only[av.ok,av.lE,av.val];cases hZ:ab u x<;>simp[hZ,tK]at aA;cases tH:ab u y<;>simp[tH]at aA;rw[hZ]at H;rw[tH]at ah;obtain⟨xs,aM,fM⟩:=H.vQ;obtain⟨ys,a1,dg⟩:=ah.vQ;obtain⟨cI,fe⟩:=akU aA fM dg;simp only[aM,a1,al,cI,fe,tK,Bool.true_and];exact⟨aA,.c0 rfl⟩
  | nv op x=>
    simp[av.iY]at aE;have X:=cm.ab aE;simp only[av.lu,av.ok,av.lE,av.val]at aA⊢;cases hZ:ab u x with
    |int k n=>rw[hZ]at X aA;rw[X.rg];exact⟨aA,by cases op<;>first|exact .c0 rfl|exact cw.undef⟩
    |bool b=>rw[hZ]at X aA;rw[X.tJ];exact⟨aA,by cases op<;>first|exact .c0 rfl|exact cw.undef⟩
    |_=>rw[hZ]at aA;cases op<;>simp[AV]at aA
  | xV k x=>simp[av.iY]at aE;have e:=tL (cm.ab aE) aA;simp only[av.ok,av.lE,av.val,e];exact⟨aA,.c0 rfl⟩
  | Ft x=>simp[av.iY]at aE;have e:=Ep (cm.ab aE) aA;simp only[av.ok,av.lE,av.val,e];refine⟨aA,?_⟩;simp only[av.lu,av.ok]at aA;cases H:ab u x<;>simp[H,nh]at aA;exact .c0 rfl
  | qk x=>
    simp[av.iY]at aE;have X:=cm.ab aE;simp only[av.lu,Bool.and_eq_true]at aA;have aG:=T3 J X aA.1;have e:hO m 1 (ab ag x)=tj t 1 (ab u x):=by
      apply List.ext_getElem
      · exact aG.1.symm
      · intro i z D;have cE:=aG.2 i _ _ (List.getElem?_eq_getElem D) (List.getElem?_eq_getElem z);have bk:=List.all_eq_true.1 aA.2 _ (List.getElem_mem D);generalize(tj t 1 (ab u x))[i]=a at cE bk;cases a<;>simp[Hb]at bk;exact cE.rg
    simp only[av.ok,av.lE,av.val,e,Bool.and_eq_true];exact⟨⟨abN J X aA.1,aA.2⟩,.c0 rfl⟩
  | EZ x cZ aa=>simp[av.iY]at aE;have et: ∀o,cZ=some o->dZ o=true:= λo h=>aE.2.1 o h;have ye: ∀o,aa=some o->dZ o=true:= λo h=>aE.2.2 o h;simp only[av.lu,av.ok,Bool.and_eq_true,decide_eq_true_eq]at aA;obtain⟨⟨⟨⟨⟨z,D⟩,Z⟩,aw⟩,aX⟩,cC⟩:=aA;have e:=Ep (cm.ab aE.1) z;obtain⟨aM,a1⟩:=L4 cm et D 0;obtain⟨cI,fe⟩:=L4 cm ye Z (ic (ab u x));simp only[av.ok,av.lE,av.val,e,aM,a1,cI,fe,Bool.and_eq_true,decide_eq_true_eq];exact⟨⟨⟨⟨⟨⟨z,trivial⟩,trivial⟩,aw⟩,aX⟩,cC⟩,.c0 rfl⟩
  | pv O x cZ aa=>
    simp[av.iY]at aE;have et: ∀o,cZ=some o->dZ o=true:= λo h=>aE.2.1 o h;have ye: ∀o,aa=some o->dZ o=true:= λo h=>aE.2.2 o h;simp only[av.lu,Bool.and_eq_true,decide_eq_true_eq]at aA;obtain⟨⟨⟨⟨⟨z,D⟩,Z⟩,aw⟩,aX⟩,cC⟩:=aA;have X:=cm.ab aE.1;have eF:=RW X;obtain⟨aM,a1⟩:=L4 cm et D 0;obtain⟨cI,fe⟩:=L4 cm ye Z (l7 (ab u x));simp only[av.ok,av.lE,av.val,<-eF,aM,a1,cI,fe,Bool.and_eq_true,decide_eq_true_eq];refine⟨⟨⟨⟨⟨⟨Mr X z,trivial⟩,trivial⟩,aw⟩,aX⟩,cC⟩,anc X z (by omega) ?_⟩;have:l7 (ab u x)=nJ (ab u x):=by
      have dQ:=Mr X z;rw[eF,SV X];unfold kA at dQ;split at dQ
      · simp at dQ;next bt=>rw[bt];simp[ic,hA]
      · next bt=>rw[bt];simp[ic,hA]
      · cases dQ
    omega
  | wq O x cZ aa fC=>
    simp[av.iY]at aE;have et: ∀o,cZ=some o->dZ o=true:= λo h=>aE.2.2.2 o (by simp[h]);simp only[av.lu,Bool.and_eq_true,decide_eq_true_eq]at aA;obtain⟨⟨⟨⟨⟨⟨⟨z,D⟩,Z⟩,aw⟩,aX⟩,cC⟩,gn⟩,iP⟩:=aA;have X:=cm.ab aE.1;have eF:=RW X;obtain⟨aM,a1⟩:=L4 cm et D 0;have cI:=tL (cm.ab aE.2.1) Z;have fe:=tL (cm.ab aE.2.2.1) aw;simp only[av.ok,av.lE,av.val,<-eF,aM,a1,cI,fe,Bool.and_eq_true,decide_eq_true_eq];refine⟨⟨⟨⟨⟨⟨⟨⟨Mr X z,trivial⟩,Z⟩,aw⟩,aX⟩,cC⟩,gn⟩,iP⟩,anc X z (by omega) ?_⟩;have:l7 (ab u x)=nJ (ab u x):=by
      have dQ:=Mr X z;rw[eF,SV X];unfold kA at dQ;split at dQ
      · simp at dQ;next bt=>rw[bt];simp[ic,hA]
      · next bt=>rw[bt];simp[ic,hA]
      · cases dQ
    omega
  | sq O n x=>
    simp[av.iY]at aE;have X:=cm.ab aE;simp only[av.lu,av.ok,Bool.and_eq_true]at aA;simp only[av.ok,av.lE,av.val,Bool.and_eq_true];have sH:oM (ab u x)=false:=by cases H:ab u x<;>simp[H,gZ]at aA<;>rfl
    have bH:tg t (ab u x) (n*O)=true:=(by rw[tg,sH];exact aA.1);refine⟨⟨M4 J X bH,aA.2⟩,?_⟩;cases H:ab u x<;>simp[H,gZ]at aA
    next a=>
      cases a with
      |none=>simp at aA
      | some a=>rw[H]at X;obtain⟨b,z,D,Z⟩:=X.vR;rw[Z];simp only[Ih];exact .slice z
  |ur off x=>simp[av.iY]at aE;exact⟨amb (cm.ab aE) aA,ama (cm.ab aE) aA off⟩
  | field ep off n x=>
    simp[av.iY]at aE;have X:=cm.ab aE;simp only[av.lu,av.ok,Bool.and_eq_true]at aA;simp only[av.ok,av.lE,av.val,Bool.and_eq_true];cases H:ab u x<;>simp[H,IX]at aA;rw[H]at X;obtain⟨ys,e,aG⟩:=X.vQ;have:=aG.1;simp at this;rw[e];refine⟨⟨by simp[IX];omega,by simpa using aA.2⟩,?_⟩;simp only[NF];split
    · exact((aG.drop _).take _).agg
    · next w0=>rename_i cs;have z:n=1:=(by simpa[w0]using aA.2);have aa:off<cs.toList.length:=(by simp;omega);obtain⟨y,ah,VY⟩:=aG.M (List.getElem?_eq_getElem aa);rw[List.getD_eq_getElem?_getD,List.getD_eq_getElem?_getD,List.getElem?_eq_getElem aa,ah];exact VY
  | pg O x i=>simp[av.iY]at aE;simp only[av.lu,Bool.and_eq_true,decide_eq_true_eq]at aA;obtain⟨⟨⟨z,D⟩,Z⟩,aw⟩:=aA;have X:=cm.ab aE.1;have e:=tL (cm.ab aE.2) D;simp only[av.ok,av.lE,av.val,e,<-RW X,Bool.and_eq_true,decide_eq_true_eq];exact⟨⟨⟨⟨Mr X z,D⟩,Z⟩,aw⟩,aCS X z Z aw⟩
  | ph O n x i=>simp[av.iY]at aE;simp only[av.lu,Bool.and_eq_true,decide_eq_true_eq]at aA;obtain⟨⟨⟨z,D⟩,Z⟩,aw⟩:=aA;have X:=cm.ab aE.1;have e:=tL (cm.ab aE.2) D;simp only[av.ok,av.lE,av.val,e,Bool.and_eq_true,decide_eq_true_eq];exact⟨⟨⟨⟨amb X z,D⟩,Z⟩,aw⟩,ama X z _⟩
  | xh x i=>simp[av.iY]at aE;simp only[av.lu,av.ok,Bool.and_eq_true,decide_eq_true_eq]at aA;obtain⟨⟨⟨z,D⟩,Z⟩,aw⟩:=aA;have e:=tL (cm.ab aE.2) D;have aM:=Ep (cm.ab aE.1) z;simp only[av.ok,av.lE,av.val,e,aM,Bool.and_eq_true,decide_eq_true_eq];exact⟨⟨⟨⟨z,D⟩,Z⟩,aw⟩,.c0 rfl⟩
  | ext i x=>simp[av.iY]at aE;have X:=cm.ab aE;simp only[av.lu,av.ok]at aA;simp only[av.ok,av.lE,av.val];cases H:ab u x<;>simp[H,E4]at aA;rename_i c2;rw[H]at X;obtain⟨ys,e,aG⟩:=X.Gj;have:=aG.1;simp at this;rw[e];have aa:i<c2.toList.length:=(by simpa using aA);obtain⟨y,ah,VY⟩:=aG.M (List.getElem?_eq_getElem aa);refine⟨by simp[E4];omega,?_⟩;simp only[CJ];rw[List.getD_eq_getElem?_getD,List.getD_eq_getElem?_getD,List.getElem?_eq_getElem aa,ah];exact VY
  | v8 x=>simp[av.iY]at aE;have aM:=Ep (cm.ab aE) aA;simp only[av.ok,av.lE,av.val,aM];exact⟨aA,.c0 rfl⟩
  | uX x=>simp[av.iY]at aE;have X:=cm.ab aE;refine⟨ayu X aA,?_⟩;simp only[av.lE,av.val,RW X];exact .c0 rfl
  | xy fC x xs=>simp[av.iY]at aE;simp only[av.lu,av.ok,Bool.and_eq_true]at aA;have e:=tL (cm.ab aE.1) aA.1;have xe:xs.all dZ=true:=(by simpa using aE.2);obtain⟨z,D⟩:=alj cm fC xs (ab u x) xe aA.2 aA.1;simp only[av.ok,av.lE,av.val,e,z,Bool.and_eq_true];refine⟨⟨aA.1,?_⟩,.c0 (asa D)⟩;simp only[List.all_eq_true]at aA xe⊢;intro y ah;rw[tL (cm.ab (xe y ah)) (aA.2 y ah)];exact aA.2 y ah
  | tP fn first lT=>
    simp only[av.lu]at aA;simp only[av.iY,List.all_append,Bool.and_eq_true]at aE;refine⟨rfl,?_⟩;simp only[av.lE,av.val];cases fn with
    | func f=>have z:=cm.NC aE.1;have D:=cm.NC aE.2;exact .func (by simpa using z.1) (by simpa using z.2) (by simpa using D.1) (by simpa using D.2)
    |_=>cases aA
  |Hn tY x=>simp[av.iY]at aE;exact⟨rfl,.iface (cm.ab aE)⟩
  | HU tY x=>simp[av.iY]at aE;have X:=cm.ab aE;simp only[av.lu,av.ok]at aA;simp only[av.ok,av.lE,av.val];cases H:ab u x<;>simp[H,JW]at aA;rw[H]at X;obtain⟨y,e,z⟩:=X.OO;rw[e];exact⟨by simpa[JW]using aA,z⟩
  | pY bx O o x gu=>
    simp[av.iY]at aE;simp only[av.lu,av.ok]at aA;simp only[av.ok,av.lE,av.val];cases aK:mv t (ab u x)with
    |none=>rw[aK]at aA;cases aA
    | some bg=>
      rw[aK]at aA;simp only at aA;obtain⟨ei,z,D⟩:=azs J (cm.ab aE.1) aK;obtain⟨Z,aw,aX⟩:=akF D (cm.ab aE.2) aA;rw[z,aw];rw[aw]at Z;refine⟨Z,?_⟩;simp only[Option.bind_some];have Gd:cw K Y O O:= .c0 bY;rcases ale (k:=ab u gu) D aX with⟨aM,a1⟩|⟨a,b,aM,a1,cI⟩
      · rw[aM,a1];split
        · exact(b2.cons Gd (b2.cons (.c0 rfl) b2.nil)).tuple
        · exact Gd
      · rw[aM,a1];split
        · exact(b2.cons cI (b2.cons (.c0 rfl) b2.nil)).tuple
        · exact cI
  |_=>cases bt
end
def k3(Y:hj)(id mid:Nat):hj:= λo=>if o=id then some mid else Y o
section
variable {K:jA} {Y:hj} {u ag:aL} {t m:B} {v bW:Value} {id mid iH ir:Nat}
theorem iv.set(h:Y id=none):iv Y (k3 Y id mid):= λo b L=>by
  unfold k3;split
  · next e=>subst e;rw[h]at L;cases L
  · exact L
structure ug(Y:hj)(K:jA)(t m:B)(id mid:Nat):Prop where
  e:Y id=none
  b: ∀o,Y o≠some mid
  f:K mid=none
  y9:id<t.next
  Av:mid<m.next
theorem ug.eZ(ak:ug Y K t m id mid){o b:Nat}(h:Y o=some b):b≠mid:= λe=>by subst e;exact ak.b o h
theorem gM.eZ(J:gM Y K t m){p o c b:Nat}(h:Y p=some c)(ca:Y o=some b)(ak:p≠o):c≠b:= λe=>by subst e;exact ak (J.inj p o c h ca)
theorem hv{m:B}{b:Nat}{bg:List (Value×Value)}(h:m.c6 b=some bg):m.M b=some ⟨[],true⟩/\m.mp b=some bg:=by
  unfold B.c6 at h;cases aj:m.M b with
  |none=>rw[aj]at h;cases h
  | some x=>
    obtain⟨cs,w⟩:=x;rw[aj]at h;cases cs with
    | nil=>cases w with
      |true=>exact⟨rfl,h⟩
      |false=>cases h
    |cons c cs=>cases h
theorem qv{m:B}{b:Nat}{bg:List (Value×Value)}(h:m.M b=some ⟨[],true⟩)(ca:m.mp b=some bg):m.c6 b=some bg:=by unfold B.c6;rw[h];exact ca
theorem aaf(J:gM Y K t m)(ak:ug Y K t m id mid){cs oF:List Value}(aB:b2 K Y cs oF):gM (k3 Y id mid) K (t.au id (some ⟨cs,true⟩)) (m.au mid (some ⟨oF,true⟩)) where
  m7 o x H:=by
    by_cases an:o=id
    · subst an;rw[bX ak.y9]at H;cases H;exact .inl ⟨mid,oF,true,by simp[k3],bX ak.Av,λ_=>rfl,aB.aD (kn.refl _) (iv.set ak.e)⟩
    · rw[dv an]at H;rcases J.m7 o x H with⟨b,b1,w,z,D,Z,aw⟩|⟨z,D⟩
      · exact .inl ⟨b,b1,w,by simp[k3,an,z],by rw[dv (ak.eZ z),D],Z,aw.aD (kn.refl _) (iv.set ak.e)⟩
      · exact .inr ⟨by simp[k3,an,z],D⟩
  kz o bg aU:=by
    by_cases an:o=id
    · subst an;have:=(hv aU).2;rw[show(t.au o (some ⟨cs,true⟩)).mp=t.mp from rfl,J.nm o ak.e]at this;cases this
    · rw[rX an]at aU;obtain⟨b,ei,z,D,Z⟩:=J.kz o bg aU;exact⟨b,ei,by simp[k3,an,z],by rw[rX (ak.eZ z),D],Z.aD (kn.refl _) (iv.set ak.e)⟩
  nm o h:=by
    simp only[k3]at h;split at h
    · cases h
    · exact J.nm o h
  inj o o' b h ca:=by
    simp only[k3]at h ca;split at h
    · cases h;split at ca
      · next a b=>rw[a,b]
      · exact absurd ca (ak.b o')
    · split at ca
      · cases ca;exact absurd h (ak.b o)
      · exact J.inj o o' b h ca
  cW o b h:=by
    simp only[k3]at h;split at h
    · next e=>cases h;subst e;exact⟨ak.y9,ak.Av⟩
    · exact J.cW o b h
  bw b b1 h:=by
    have L:b≠mid:= λe=>by subst e;rw[ak.f]at h;cases h
    obtain⟨⟨w,z⟩,D⟩:=J.bw b b1 h;refine⟨⟨w,by rw[dv L,z]⟩,λo x an H=> ?_⟩;simp only[k3]at an;split at an
    · cases an;exact absurd rfl L
    · next dq=>rw[dv dq]at H;exact D o x an H
theorem azT(ak:ug Y K t m id mid)(z:iH<=id)(D:ir<=mid){x:Option fO}{y:Option fO}:a6 iH ir Y K t m (k3 Y id mid) K (t.au id x) (m.au mid y) where
  e:=iv.set ak.e
  f:=kn.refl _
  nf o b h:=by
    simp only[k3]at h;split at h
    · next e=>cases h;subst e;exact .inr ⟨z,D⟩
    · exact .inl h
  fn b cs h:= .inl h
  n9:=Nat.le_refl _
  oT:=Nat.le_refl _
  sd b L _:=dv (by omega)
  ss b L:= λ⟨o,y,h,ca,zN⟩=>by
    simp only[k3]at h;split at h
    · cases h;omega
    · next dq=>exact⟨o,y,h,by rw[dv dq]at ca;exact ca,zN⟩
  rI b L:= λ⟨o,y,h,ca⟩=>by
    simp only[k3]at h;split at h
    · cases h;omega
    · next dq=>exact⟨o,y,h,by rw[dv dq]at ca;exact ca⟩
theorem azR(J:gM Y K t m)(ak:ug Y K t m id mid){bg ei:List (Value×Value)}(aB:sv K Y bg ei):gM (k3 Y id mid) K (t.hq id bg) (m.hq mid ei) where
  m7 o x H:=by
    by_cases an:o=id
    · subst an;rw[Du ak.y9]at H;cases H;exact .inl ⟨mid,[],true,by simp[k3],Du ak.Av,λ_=>rfl,b2.nil⟩
    · rw[oI an]at H;rcases J.m7 o x H with⟨b,b1,w,z,D,Z,aw⟩|⟨z,D⟩
      · exact .inl ⟨b,b1,w,by simp[k3,an,z],by rw[oI (ak.eZ z),D],Z,aw.aD (kn.refl _) (iv.set ak.e)⟩
      · exact .inr ⟨by simp[k3,an,z],D⟩
  kz o gA aU:=by
    by_cases an:o=id
    · subst an;rw[Je ak.y9]at aU;cases aU;exact⟨mid,ei,by simp[k3],Je ak.Av,aB.aD (kn.refl _) (iv.set ak.e)⟩
    · rw[Jd an]at aU;obtain⟨b,ei,z,D,Z⟩:=J.kz o gA aU;exact⟨b,ei,by simp[k3,an,z],by rw[Jd (ak.eZ z),D],Z.aD (kn.refl _) (iv.set ak.e)⟩
  nm o h:=by
    simp only[k3]at h;split at h
    · cases h
    · next dq=>show(if o=id then some bg else t.mp o)=none;rw[if_neg dq];exact J.nm o h
  inj:=(aaf J ak (cs:=[]) (oF:=[]) b2.nil).inj
  cW:=(aaf J ak (cs:=[]) (oF:=[]) b2.nil).cW
  bw b b1 h:=by
    have L:b≠mid:= λe=>by subst e;rw[ak.f]at h;cases h
    obtain⟨⟨w,z⟩,D⟩:=J.bw b b1 h;refine⟨⟨w,by rw[oI L,z]⟩,λo x an H=> ?_⟩;simp only[k3]at an;split at an
    · cases an;exact absurd rfl L
    · next dq=>rw[oI dq]at H;exact D o x an H
theorem azQ(ak:ug Y K t m id mid)(z:iH<=id)(D:ir<=mid){bg ei:List (Value×Value)}:a6 iH ir Y K t m (k3 Y id mid) K (t.hq id bg) (m.hq mid ei) where
  e:=iv.set ak.e
  f:=kn.refl _
  nf o b h:=by
    simp only[k3]at h;split at h
    · next e=>cases h;subst e;exact .inr ⟨z,D⟩
    · exact .inl h
  fn b cs h:= .inl h
  n9:=Nat.le_refl _
  oT:=Nat.le_refl _
  sd b L _:=oI (by omega)
  ss b L:= λ⟨o,y,h,ca,zN⟩=>by
    simp only[k3]at h;split at h
    · cases h;omega
    · next dq=>exact⟨o,y,h,by rw[oI dq]at ca;exact ca,zN⟩
  rI b L:= λ⟨o,y,h,ca⟩=>by
    simp only[k3]at h;split at h
    · cases h;omega
    · next dq=>exact⟨o,y,h,by rw[oI dq]at ca;exact ca⟩
theorem aDz(J:gM Y K t m){o b:Nat}{x:fO}{oF:List Value}{w:Bool}(bT:Y o=some b)(H:t.M o=some x)(aO:x.own=true)(L:m.M b=some ⟨oF,w⟩)
    {b1 zB:List Value} (aG:b1.length=x.cells.length) (aB:b2 K Y b1 zB) (afC:w=true):gM Y K (t.au o (some ⟨b1,true⟩)) (m.au b (some ⟨zB,w⟩)) where
  m7 p y ah:=by
    have cM:=J.cW o b bT;by_cases an:p=o
    · subst an;rw[bX cM.1]at ah;cases ah;exact .inl ⟨b,zB,w,bT,bX cM.2,λ_=>afC,aB⟩
    · rw[dv an]at ah;rcases J.m7 p y ah with⟨c,b1,w,z,D,Z,aw⟩|z
      · exact .inl ⟨c,b1,w,z,by rw[dv (J.eZ z bT an),D],Z,aw⟩
      · exact .inr z
  kz p bg aU:=by
    have cM:=J.cW o b bT;by_cases an:p=o
    · subst an;obtain⟨z,D⟩:=hv aU;rw[bX cM.1]at z;have aR:b1=[]:=(by simpa using z);subst aR;have jh:x.cells=[]:=List.eq_nil_of_length_eq_zero aG.symm;have:t.c6 p=some bg:=qv (by rw[H];obtain⟨a,b⟩:=x;simp at jh aO;simp[jh,aO]) D;obtain⟨cQ,ei,aC,a2,bS⟩:=J.kz p bg this;rw[bT]at aC;cases aC;have ng:zB=[]:=List.eq_nil_of_length_eq_zero (by rw[<-aB.1];rfl);refine⟨b,ei,bT,?_,bS⟩;subst ng;subst afC;exact qv (bX cM.2) (hv a2).2
    · rw[rX an]at aU;obtain⟨c,ei,z,D,Z⟩:=J.kz p bg aU;exact⟨c,ei,z,by rw[rX (J.eZ z bT an),D],Z⟩
  nm:=J.nm
  inj:=J.inj
  cW:=J.cW
  bw c bg h:=by
    obtain⟨⟨e1,z⟩,D⟩:=J.bw c bg h;have aB:c≠b:= λe=>by subst e;have:=D o x bT H;rw[aO]at this;cases this
    refine⟨⟨e1,by rw[dv aB,z]⟩,λp y aq ah=> ?_⟩;have:p≠o:= λe=>by subst e;rw[bT]at aq;cases aq;exact aB rfl
    rw[dv this]at ah;exact D p y aq ah
theorem anQ(J:gM Y K t m){o b:Nat}{x:fO}(bT:Y o=some b)(H:t.M o=some x)(aO:x.own=true){y O:Option fO}:a6 iH ir Y K t m Y K (t.au o y) (m.au b O) where
  e:=iv.refl _
  f:=kn.refl _
  nf o b h:= .inl h
  fn b cs h:= .inl h
  n9:=Nat.le_refl _
  oT:=Nat.le_refl _
  sd c aB ak:=dv (λe=>ak (by subst e;exact⟨o,x,bT,H,aO⟩))
  ss c aB:= λ⟨p,aJ,h,ca,zN⟩=>by
    by_cases aq:p=o
    · subst aq;rw[bT]at h;cases h;exact⟨p,x,bT,H,aO⟩
    · rw[dv aq]at ca;exact⟨p,aJ,h,ca,zN⟩
  rI c aB:= λ⟨p,aJ,h,ca⟩=>by
    by_cases aq:p=o
    · subst aq;rw[bT]at h;cases h;exact⟨p,x,bT,H⟩
    · rw[dv aq]at ca;exact⟨p,aJ,h,ca⟩
theorem ary(J:gM Y K t m){o:Nat}:gM Y K (t.au o none) m where
  m7 p y ah:=by
    by_cases an:p=o
    · subst an;by_cases cM:p<t.next
      · rw[bX cM]at ah;cases ah
      · have z:(t.au p none).M p=none:=nP (by simp;omega);rw[z]at ah;cases ah
    · rw[dv an]at ah;exact J.m7 p y ah
  kz p bg aU:=by
    by_cases an:p=o
    · subst an;have:=(hv aU).1;by_cases cM:p<t.next
      · rw[bX cM]at this;cases this
      · have z:(t.au p none).M p=none:=nP (by simp;omega);rw[z]at this;cases this
    · rw[rX an]at aU;exact J.kz p bg aU
  nm:=J.nm
  inj:=J.inj
  cW:=J.cW
  bw c bg h:=by
    obtain⟨z,D⟩:=J.bw c bg h;refine⟨z,λp y aq ah=> ?_⟩;by_cases an:p=o
    · subst an;by_cases cM:p<t.next
      · rw[bX cM]at ah;cases ah
      · have z:(t.au p none).M p=none:=nP (by simp;omega);rw[z]at ah;cases ah
    · rw[dv an]at ah;exact D p y aq ah
theorem arw{o:Nat}:a6 iH ir Y K t m Y K (t.au o none) m where
  e:=iv.refl _
  f:=kn.refl _
  nf o b h:= .inl h
  fn b cs h:= .inl h
  n9:=Nat.le_refl _
  oT:=Nat.le_refl _
  sd c aB ak:=rfl
  ss c aB:= λ⟨p,aJ,h,ca,zN⟩=>by
    by_cases aq:p=o
    · subst aq;by_cases cM:p<t.next
      · rw[bX cM]at ca;cases ca
      · have z:(t.au p none).M p=none:=nP (by simp;omega);rw[z]at ca;cases ca
    · rw[dv aq]at ca;exact⟨p,aJ,h,ca,zN⟩
  rI c aB:= λ⟨p,aJ,h,ca⟩=>by
    by_cases aq:p=o
    · subst aq;by_cases cM:p<t.next
      · rw[bX cM]at ca;cases ca
      · have z:(t.au p none).M p=none:=nP (by simp;omega);rw[z]at ca;cases ca
    · rw[dv aq]at ca;exact⟨p,aJ,h,ca⟩
theorem ayF(J:gM Y K t m){o b:Nat}{x:fO}(bT:Y o=some b)(H:t.M o=some x)(aO:x.own=true):gM Y K (t.au o none) (m.au b none) where
  m7 p y ah:=by
    have cM:=J.cW o b bT;by_cases an:p=o
    · subst an;rw[bX cM.1]at ah;cases ah
    · rw[dv an]at ah;rcases J.m7 p y ah with⟨c,b1,w,z,D,Z,aw⟩|z
      · exact .inl ⟨c,b1,w,z,by rw[dv (J.eZ z bT an),D],Z,aw⟩
      · exact .inr z
  kz p bg aU:=by
    have cM:=J.cW o b bT;by_cases an:p=o
    · subst an;have:=(hv aU).1;rw[bX cM.1]at this;cases this
    · rw[rX an]at aU;obtain⟨c,ei,z,D,Z⟩:=J.kz p bg aU;exact⟨c,ei,z,by rw[rX (J.eZ z bT an),D],Z⟩
  nm:=J.nm
  inj:=J.inj
  cW:=J.cW
  bw c bg h:=by
    obtain⟨⟨e1,z⟩,D⟩:=J.bw c bg h;have aB:c≠b:= λe=>by subst e;have:=D o x bT H;rw[aO]at this;cases this
    refine⟨⟨e1,by rw[dv aB,z]⟩,λp y aq ah=> ?_⟩;have:p≠o:= λe=>by subst e;rw[bT]at aq;cases aq;exact aB rfl
    rw[dv this]at ah;exact D p y aq ah
theorem aAj(s:ByteArray):b2 K Y (Cj s) (Cj s):=b2.c0 (by simp only[Cj,List.all_map,List.all_eq_true];intro b _;rfl)
structure uh(iH ir id mid:Nat)(Y:hj)(K:jA)(t m aN N:B)(v bW:Value)(ee:hj):Prop where
  am9:gM ee K aN N
  val:cw K ee v bW
  bw:a6 iH ir Y K t m ee K aN N
  aat: ∀o,o≠id->ee o=Y o
  self:ee id=Y id\/ee id=some mid
theorem uh.new(J:gM Y K t m)(ak:ug Y K t m id mid)(z:iH<=id)(D:ir<=mid){cs oF:List Value}(aB:b2 K Y cs oF){v bW:Value}(X:cw K (k3 Y id mid) v bW):
    ∃ee,uh iH ir id mid Y K t m (t.au id (some ⟨cs,true⟩)) (m.au mid (some ⟨oF,true⟩)) v bW ee:=
  ⟨k3 Y id mid,aaf J ak aB,X,azT ak z D,λo an=>by simp[k3,an],.inr (by simp[k3])⟩
theorem uh.SO(J:gM Y K t m){v bW:Value}(X:cw K Y v bW): ∃ee,uh iH ir id mid Y K t m t m v bW ee:=⟨Y,J,X,a6.refl,λ_ _=>rfl,.inl rfl⟩
theorem aAp(J:gM Y K t m)(cm:jB K Y u ag){k:av}(aB:k.mu=false)(an:EI k=true)(aA:k.lu u t=true)(ak:k.gF=true->ug Y K t m id mid)(z:iH<=id)(D:ir<=mid):
    k.ok ag m=true/\ ∃ee,uh iH ir id mid Y K t m (k.yK id u t) (k.kk mid ag m) (k.lE id u t) (k.val mid ag m) ee:=by
  by_cases bt:k.aaF=true
  · obtain⟨a,b⟩:=aA2 J cm bt an aA id mid;obtain⟨aM,a1⟩:=aA1 (u:=u) (ag:=ag) (t:=t) (m:=m) bt (id:=id) (l1:=mid);refine⟨a,?_⟩;rw[aM,a1];exact uh.SO J b
  · simp only[EI,Bool.and_eq_true]at an;obtain⟨aE,bY⟩:=an;have BN:k3 Y id mid id=some mid:=(by simp[k3]);cases k with
    |eR O=>exact⟨rfl,uh.new J (ak rfl) z D (b2.c0 bY) (.bZ BN)⟩
    | o7 x=>simp[av.iY]at aE;exact⟨(cm.ab aE).ar aA,uh.new J (ak rfl) z D (cm.ab aE).al (.bZ BN)⟩
    | iT a n O dX=>have nR: ∀p∈dX,dZ p.2.2=true:= λp aq=>List.all_eq_true.1 aE _ (by simp only[av.iY];exact List.mem_map_of_mem aq);exact⟨al4 cm rfl nR aA,uh.new J (ak rfl) z D (aaw cm (b2.c0 bY) nR) (.slice BN)⟩
    | rN x=>simp[av.iY]at aE;simp only[av.lu,av.ok,Bool.and_eq_true]at aA;have e:=Ep (cm.ab aE) aA.1;simp only[av.ok,av.lE,av.val,av.yK,av.kk,e,Bool.and_eq_true];exact⟨aA,uh.new J (ak rfl) z D (aAj _) (.slice BN)⟩
    | nk O bytes zero l c=>simp[av.iY]at aE;have JK:=aA;simp only[av.lu,av.ok,Bool.and_eq_true]at aA;have aM:=tL (cm.ab aE.1) aA.1.1.1.1.1.1;have a1:=tL (cm.ab aE.2) aA.1.1.1.1.1.2;simp only[av.ok,av.lE,av.val,av.yK,av.kk,aM,a1,Bool.and_eq_true];exact⟨aA,uh.new J (ak rfl) z D (b2.flatten (b2.c0 bY)) (.slice BN)⟩
    | oS=>have:=ak rfl;exact⟨rfl,k3 Y id mid,azR J this ⟨rfl,λi e eW a=>by simp at a⟩,.map BN,azQ this z D,λo an=>by simp[k3,an],.inr BN⟩
    | store n x v=>
      simp[av.iY]at aE;have H:=cm.ab aE.1;have X:=cm.ab aE.2;simp only[av.lu,av.ok,Bool.and_eq_true,decide_eq_true_eq]at aA;obtain⟨⟨⟨aC,a2⟩,bS⟩,fA⟩:=aA;have sH:oM (ab u x)=false:=by cases hZ:ab u x<;>simp[hZ,gZ]at aC<;>rfl
      have nz:=M4 J H (n:=n) (by rw[tg,sH];exact aC);simp only[av.ok,av.lE,av.val,av.yK,av.kk,Bool.and_eq_true,decide_eq_true_eq];cases hZ:ab u x with
      | pointer p=>
        cases p with
        |none=>simp[hZ,gZ]at aC
        | some a=>
          rw[hZ]at H aC a2;obtain⟨b,aM,a1,cI⟩:=H.vR;obtain⟨TF,acD,acG⟩:=a;simp only at aM a1 cI;subst a1;cases aj:t.M TF with
          |none=>simp[aj]at aC
          | some y=>
            simp only[apc,aj,decide_eq_true_eq]at aC;simp only[acy,aj]at a2;obtain⟨cs,w,bm,bU,cn⟩:=J.pC aM aj;have aO:=bU a2;subst aO;rw[cI]at nz⊢;simp only[aC4,aj,bm,acy,a2];refine⟨⟨⟨⟨nz,trivial⟩,X.ar bS⟩,by rw[<-X.al.1];exact fA⟩,Y,?_,cw.undef,anQ J aM aj a2,λ_ _=>rfl,.inl rfl⟩;exact aDz J aM aj a2 bm (by
              have: ∀(c2:List Value) (cs:List Value) (o:Nat),(kE cs o c2).length=cs.length:=by
                intro c2;induction c2 with
                |nil=>intro cs o;rfl
                |cons v c2 cb=>intro cs o;simp only[kE,cb,List.length_set]
              exact this _ _ _) (cn.kE _ X.al) rfl
      |_=>simp[hZ,gZ]at aC
    | app O bytes x y=>
      simp[av.iY]at aE;have H:=cm.ab aE.1;have ah:=cm.ab aE.2;simp only[av.lu,Bool.and_eq_true,decide_eq_true_eq]at aA;obtain⟨⟨⟨⟨⟨aC,a2⟩,bS⟩,fA⟩,kp⟩,oh⟩:=aA;have sH:jQ (ab u x)=false:=by cases hZ:ab u x<;>simp[hZ,ik]at aC<;>rfl
      have ael:qb t O (ab u x)=true:=(by rw[qb,sH];exact aC);have nz:=abN J H ael;have qt:=aCV J H a2;have x4:=abN J ah bS;have Un:=SV ah;have Um:hA (ab u x)=hA (ab ag x):=(by rw[<-SV H,nJ,sH];rfl);have iO:b2 K Y (hO t O (ab u x)) (hO m O (ab ag x)):=(by have:=T3 J H ael;rw[tj,sH]at this;exact this);have Nt:=T3 J ah bS;simp only[av.ok,av.lE,av.val,av.yK,av.kk,Bool.and_eq_true,decide_eq_true_eq];refine⟨⟨⟨⟨⟨⟨nz,qt⟩,x4⟩,fA⟩,by rw[<-Um,<-Un];exact kp⟩,by rw[<-Um,<-Un];exact oh⟩,?_⟩;rw[<-Un,<-Um];split
      · exact uh.SO J H
      · have uG:=ak rfl;have key: ∃ec bz,n0 t (ab u x)=ec/\n0 m (ab ag x)=bz/\gM Y K ec bz/\a6 iH ir Y K t m Y K ec bz/\ec.next=t.next/\bz.next=m.next:=by
          refine⟨_,_,rfl,rfl,?_⟩;unfold ik at aC;split at aC
          · next hZ=>rw[hZ]at H⊢;have:ab ag x=_:=H.lo (by simpa[fg]using aC);rw[this];exact⟨J,a6.refl,rfl,rfl⟩
          · next a l c hZ=>
            rw[hZ]at H a2⊢;rcases H.r6 with⟨b,aM,a1,cI⟩|⟨aM,a1,cI,fe⟩
            · rw[cI];cases aj:t.M a.block with
              |none=>simp[nK,aj]at a2
              | some y=>simp only[nK,aj]at a2;exact⟨ayF J aM aj a2,anQ J aM aj a2,rfl,rfl⟩
            · rw[fe];exact⟨ary J,arw,rfl,rfl⟩
          · cases aC
        obtain⟨ec,bz,aM,a1,nY,aeP,arM,arN⟩:=key;rw[aM,a1];have aua:ug Y K ec bz id mid:=⟨uG.e,uG.b,uG.f,by rw[arM];exact uG.y9,by rw[arN];exact uG.Av⟩;obtain⟨ee,q⟩:=uh.new (iH:=iH) (ir:=ir) nY aua z D (iO.th Nt) (v:= .slice (some ⟨id,0,none⟩) (hA (ab u x)+nJ (ab u y)) O) (bW:= .slice (some ⟨mid,0,none⟩) (hA (ab u x)+nJ (ab u y)) O) (.slice BN);exact⟨ee,q.am9,q.val,aeP.trans q.bw,q.aat,q.self⟩
    | pl bx x gu v=>
      simp[av.iY]at aE;have H:=cm.ab aE.1;have W:=cm.ab aE.2.1;have X:=cm.ab aE.2.2;simp only[av.lu,av.ok]at aA;split at aA
      · next b hZ=>
        cases aK:t.c6 b with
        |none=>simp[aK]at aA
        | some bg=>
          simp only[aK,Bool.and_eq_true]at aA;obtain⟨c,ei,bm,bU,cn⟩:=J.kz b bg aK;rw[hZ]at H;obtain⟨eU,fa,fZ⟩:=H.JY;rw[bm]at fa;cases fa;obtain⟨e6,fw,iZ⟩:=akF cn W aA.1;simp only[av.ok,av.lE,av.val,av.yK,av.kk,hZ,fZ,Cd,aK,bU,Option.getD_some,Bool.and_eq_true];refine⟨⟨e6,X.ao aA.2⟩,Y,?_,cw.undef,?_,λ_ _=>rfl,.inl rfl⟩
          · rw[fw];have JE:cw K Y (ab u gu) (ab u gu):=(by rw[fw]at W;exact W);have BG:=alp JE X cn iZ;have cM:=J.cW b c bm;refine⟨λp y ah=> ?_,λp gA aq=> ?_,λp aq=> ?_,J.inj,J.cW,λd b1 aR=> ?_⟩
            · by_cases DM:p=b
              · subst DM;rw[Du cM.1]at ah;cases ah;exact .inl ⟨c,[],true,bm,Du cM.2,λ_=>rfl,b2.nil⟩
              · rw[oI DM]at ah;rcases J.m7 p y ah with⟨eU,b1,w,z,D,Z,aw⟩|z
                · exact .inl ⟨eU,b1,w,z,by rw[oI (J.eZ z bm DM),D],Z,aw⟩
                · exact .inr z
            · by_cases DM:p=b
              · subst DM;rw[Je cM.1]at aq;cases aq;exact⟨c,_,bm,Je cM.2,BG⟩
              · rw[Jd DM]at aq;obtain⟨eU,ei,z,D,Z⟩:=J.kz p gA aq;exact⟨eU,ei,z,by rw[Jd (J.eZ z bm DM),D],Z⟩
            · have dq:p≠b:= λe=>by subst e;rw[bm]at aq;cases aq
              show(if p=b then _ else t.mp p)=none;rw[if_neg dq];exact J.nm p aq
            · obtain⟨⟨e1,aC⟩,a2⟩:=J.bw d b1 aR;have aj:=(hv aK).1;have aeM:d≠c:= λe=>by subst e;have:=a2 b _ bm aj;cases this
              refine⟨⟨e1,by rw[oI aeM,aC]⟩,λp y aq ah=> ?_⟩;have:p≠b:= λe=>by subst e;rw[bm]at aq;cases aq;exact aeM rfl
              rw[oI this]at ah;exact a2 p y aq ah
          · have aj:=(hv aK).1;refine⟨iv.refl _,kn.refl _,λ_ _ h=> .inl h,λ_ _ h=> .inl h,Nat.le_refl _,Nat.le_refl _,λd aR aO=> ?_,λd aR=> λ⟨p,aJ,h,ca,zN⟩=> ?_,λd aR=> λ⟨p,aJ,h,ca⟩=> ?_⟩
            · exact oI (λe=>aO (by subst e;exact⟨b,_,bm,aj,rfl⟩))
            · by_cases aq:p=b
              · subst aq;rw[bm]at h;cases h;exact⟨p,_,bm,aj,rfl⟩
              · rw[oI aq]at ca;exact⟨p,aJ,h,ca,zN⟩
            · by_cases aq:p=b
              · subst aq;rw[bm]at h;cases h;exact⟨p,_,bm,aj⟩
              · rw[oI aq]at ca;exact⟨p,aJ,h,ca⟩
      · cases aA
    |eI=>cases aB
    |lZ=>cases aB
    |qB=>cases aB
    |_=>exact absurd rfl bt
theorem aq2(J:gM Y K t m)(cm:jB K Y u ag){bx:List (Operand×Operand)}(aE:bx.all (λp=>dZ p.1&&dZ p.2)=true)(h:lg u t bx=true):mh ag bx=true:=by
  simp only[mh,lg,List.all_eq_true]at h aE⊢;intro p aq;have z:=h p aq;have D:=aE p aq;obtain⟨x,y⟩:=p;simp only[Bool.and_eq_true]at D;simp only at z⊢;have H:=cm.ab D.1;have ah:=cm.ab D.2;generalize ab u x=a at H z;generalize ab ag x=er at H;generalize ab u y=b at ah z;generalize ab ag y=cQ at ah;have akD: ∀{a er:Value},cw K Y a er->l3 a=true-> ∀c,ai er=some c-> ∃cs,K c=some cs:= λaE ah c aB=>by
    cases aE with
    |c0 h=>have:=(vP h).2.2;rw[this]at ah;cases ah
    |kd e de=>simp[ai]at aB;subst aB;exact⟨_,de⟩
    |ki=>simp[ai]at aB
    |fL e de=>simp[ai]at aB;subst aB;exact⟨_,de⟩
    |_=>simp[l3]at ah
  have RS: ∀{a er:Value},cw K Y a er->l3 a=false-> ∀c,ai er=some c-> ∃o,ai a=some o/\Y o=some c:= λaE ah c aB=>by
    cases aE with
    | c0 h=>rename_i a;unfold ai at aB;split at aB<;>simp[fg]at h aB
    |bZ bT=>simp[ai]at aB;subst aB;exact⟨_,rfl,bT⟩
    |slice bT=>simp[ai]at aB;subst aB;exact⟨_,rfl,bT⟩
    |map bT=>simp[ai]at aB;subst aB;exact⟨_,rfl,bT⟩
    |kd e=>subst e;simp at ah
    |ki e=>subst e;simp at ah
    |fL e=>subst e;simp at ah
    |_=>simp[ai]at aB
  have akB: ∀{c:Nat} {cs:List Value} {b:Value} {o:Nat},K c=some cs->ai b=some o->Ir t b=true->Y o=some c->False:= λ{c cs b o} de L an bT=>by
    simp only[Ir,L,HC]at an;cases aj:t.M o with
    |none=>simp[aj]at an
    | some x=>simp only[aj]at an;have:=(J.bw c cs de).2 o x bT aj;rw[an]at this;cases this
  cases nR:ai er with
  |none=>rfl
  | some c=>
    cases jD:ai cQ with
    |none=>rfl
    | some d=>
      simp only;unfold M6 at z;split at z
      · next Tj=>simp only[Bool.and_eq_true,Bool.not_eq_true']at z;obtain⟨cs,dk⟩:=akD H Tj c nR;obtain⟨o,dV,ew⟩:=RS ah z.1 d jD;simp only[bne_iff_ne,ne_eq];intro e;subst e;exact akB dk dV z.2 ew
      · next Tj=>
        split at z
        · next CT=>obtain⟨cs,dk⟩:=akD ah CT d jD;obtain⟨o,dV,ew⟩:=RS H (by simpa using Tj) c nR;simp only[bne_iff_ne,ne_eq];intro e;subst e;exact akB dk dV z ew
        · next CT=>obtain⟨o,dV,ew⟩:=RS H (by simpa using Tj) c nR;obtain⟨o',IV,IW⟩:=RS ah (by simpa using CT) d jD;rw[dV,IV]at z;simp only[bne_iff_ne,ne_eq]at z⊢;intro e;subst e;exact z (J.inj o o' c ew IW)
end
def ih{cK qV:Type}(f:cK->Option qV):List cK->Option (List qV)
  |[]=>some []
  | x::xs=>match f x with
    | some y=>(match ih f xs with
      |some ys=>some (y::ys)
      |none=>none)
    |none=>none
theorem HA{cK qV:Type}{f:cK->Option qV}: ∀{l:List cK} {e5:List qV},ih f l=some e5->e5.length=l.length/\ ∀(i:Nat) (y:qV),e5[i]?=some y-> ∃x,l[i]?=some x/\f x=some y
  |[],e5,h=>by cases h;exact⟨rfl,λi y h=>by simp at h⟩
  | x::xs,e5,h=>by
    simp only[ih]at h;cases aI:f x with
    |none=>simp[aI]at h
    | some y=>
      cases aF:ih f xs with
      |none=>simp[aI,aF]at h
      | some ys=>
        simp only[aI,aF,Option.some.injEq]at h;subst h;obtain⟨z,D⟩:=HA aF;refine⟨by simp[z],λi O bY=> ?_⟩;cases i with
        |zero=>simp at bY;subst bY;exact⟨x,rfl,aI⟩
        |succ i=>exact D i O (by simpa using bY)
theorem L5{cK:Type}{f:cK->Option cK}: ∀{l:List cK},(∀x∈l,f x=some x)->ih f l=some l
  |[],_=>rfl
  | x::xs,h=>by have cb:ih f xs=some xs:=L5 λy ah=>h y (List.mem_cons_of_mem _ ah);simp only[ih,h x (by simp),cb]
def oe(O:Nat):Nat->List Value->List (List Value)
  |0,_=>[]
  |n+1,cs=>cs.take O::oe O n (cs.drop O)
theorem ac6(O:Nat): ∀(n:Nat) (cs:List Value),(oe O n cs).length=n
  |0,_=>rfl
  |n+1,cs=>by simp[oe,ac6 O n]
theorem ac5{O:Nat}: ∀{n:Nat} {cs:List Value} {i:Nat} {r:List Value},(oe O n cs)[i]?=some r->i<n/\r=(cs.drop (i*O)).take O
  |0,cs,i,r,h=>by simp[oe]at h
  | n+1,cs,i,r,h=>by
    cases i with
    |zero=>simp[oe]at h;subst h;simp
    | succ i=>simp only[oe,List.getElem?_cons_succ]at h;obtain⟨z,D⟩:=ac5 h;refine⟨by omega,?_⟩;rw[D,List.drop_drop,Nat.add_mul];congr 2;omega
theorem T4{O:Nat}: ∀{bR:List (List Value)},(∀r∈bR,r.length=O)->oe O bR.length bR.flatten=bR
  |[],_=>rfl
  | r::bR,h=>by have z:=h r (by simp);simp only[List.length_cons,oe,List.flatten_cons];rw[<-z,List.take_left,List.drop_left,z,T4 λx H=>h x (by simp[H])]
def j9(v:Value):Bool:=fg v||l3 v
def eJ:Nat->B->Value->Option Value
  |0,_,v=>if j9 v then some v else none
  | n+1,t,v=>if j9 v then some v else match v with
    | .slice (some a) l O=>match t.M a.block with
      | some x=>if a.spot.isNone&&decide (a.off+l*O<=x.cells.length)then
          (match ih (ih (eJ n t)) (oe O l (x.cells.drop a.off))with
            |some bR=>some (bE bR O)
            |none=>none)else none
      |none=>none
    | .agg cs=>match ih (eJ n t) cs.toList with
      |some l=>some (.agg l.toArray)
      |none=>none
    | .tuple cs=>match ih (eJ n t) cs.toList with
      |some l=>some (.tuple l.toArray)
      |none=>none
    | .func (.func f) xs cs=>match ih (eJ n t) xs.toList,ih (eJ n t) cs.toList with
      |some l,some k=>some (.func (.func f) l.toArray k.toArray)
      |_,_=>none
    |_=>none
def fR:Nat->B->Value->List Nat
  |0,_,_=>[]
  | n+1,t,v=>if j9 v then[]else match v with
    | .slice (some a) _ _=>a.block::(match t.M a.block with
      |some x=>x.cells.flatMap (fR n t)
      |none=>[])
    | .agg cs=>cs.toList.flatMap (fR n t)
    | .tuple cs=>cs.toList.flatMap (fR n t)
    | .func _ xs cs=>xs.toList.flatMap (fR n t)++cs.toList.flatMap (fR n t)
    |_=>[]
theorem T0{K gR:jA}{Y:hj}(de:kn K gR){v bW:Value}(X:cw K Y v bW)(aB:j9 v=true):cw gR oW v bW:=by
  cases X with
  |c0 h=>exact .c0 h
  |kd e z D Z aw=>exact .kd e (de _ _ z) D Z λi j r x y a b c=>(aw i j r x y a b c).aD de (iv.refl _)
  |ki e=>exact .ki e
  |fL e z D Z=>exact .fL e (de _ _ z) D λj x y a b=>(Z j x y a b).aD de (iv.refl _)
  |_=>simp[j9,fg,l3]at aB
theorem NK{K gR:jA}{Y:hj}{t m:B}(J:gM Y K t m)(de:kn K gR): ∀(n:Nat) {v bW r:Value},cw K Y v bW->eJ n t v=some r->(∀o∈fR n t v,(t.M o).isSome=true-> ∀b cs w,Y o=some b->m.M b=some ⟨cs,w⟩->gR b=some cs)->cw gR oW r bW
  | 0,v,bW,r,X,h,_=>by
    simp only[eJ]at h;split at h
    · next aB=>cases h;exact T0 de X aB
    · cases h
  | n+1,v,bW,r,X,h,aF=>by
    simp only[eJ]at h;simp only[fR]at aF;split at h
    · next aB=>cases h;exact T0 de X aB
    · next aB=>
      rw[if_neg aB]at aF;have R2: ∀{xs ys eY:List Value},b2 K Y xs ys->ih (eJ n t) xs=some eY->(∀o∈xs.flatMap (fR n t),(t.M o).isSome=true-> ∀b cs w,Y o=some b->m.M b=some ⟨cs,w⟩->gR b=some cs)->b2 gR oW eY ys:= λaG an cE=>by obtain⟨z,D⟩:=HA an;refine⟨by rw[z,aG.1],λi x y H ah=> ?_⟩;obtain⟨cl,hZ,aU⟩:=D i x H;exact NK J de n (aG.2 i cl y hZ ah) aU λo an=>cE o (List.mem_flatMap.2 ⟨cl,List.mem_of_getElem? hZ,an⟩)
      split at h
      · next a l O=>
        cases aj:t.M a.block with
        |none=>simp[aj]at h
        | some x=>
          simp only[aj]at h aF;split at h
          · next L=>
            simp only[Bool.and_eq_true,decide_eq_true_eq]at L;cases zY:ih (ih (eJ n t)) (oe O l (x.cells.drop a.off))with
            |none=>simp[zY]at h
            | some bR=>
              simp only[zY,Option.some.injEq]at h;subst h;obtain⟨aC,a2⟩:=HA zY;rw[ac6]at aC;rcases X.r6 with⟨b,aM,a1,rfl⟩|⟨aM,a1,cI,rfl⟩
              · obtain⟨cs,w,bm,bU,cn⟩:=J.pC aM aj;have nS:=aF a.block (by simp) (by rw[aj];rfl) b cs w aM bm;rw[<-aC];have qz: ∀(i:Nat) r,bR[i]?=some r->i<l/\ ∃po,po=(x.cells.drop (a.off+i*O)).take O/\ih (eJ n t) po=some r:= λi r aa=>by
                  obtain⟨po,bp,dc⟩:=a2 i r aa;obtain⟨eK,kX⟩:=ac5 bp;exact⟨eK,po,by rw[kX,List.drop_drop],dc⟩
                refine .kd rfl nS (by rw[aC,<-cn.1];exact L.2) (λi r aa=> ?_) λi j r aJ y aa cp ah=> ?_
                · obtain⟨eK,po,kX,j2⟩:=qz i r aa;rw[(HA j2).1,kX];simp;have:(i+1)*O<=l*O:=Nat.mul_le_mul_right _ eK;rw[Nat.add_mul]at this;omega
                · obtain⟨eK,po,kX,j2⟩:=qz i r aa;obtain⟨jy,ni,oR⟩:=(HA j2).2 j aJ cp;rw[kX,List.getElem?_take]at ni;split at ni
                  · rw[List.getElem?_drop]at ni;refine NK J de n (cn.2 _ jy y ni ah) oR λo an=>aF o ?_;exact List.mem_cons_of_mem _ (List.mem_flatMap.2 ⟨jy,List.mem_of_getElem? ni,an⟩)
                  · cases ni
              · subst cI;have:bR=[]:=List.eq_nil_of_length_eq_zero aC;subst this;exact .ki rfl
          · cases h
      · next cs=>
        cases an:ih (eJ n t) cs.toList with
        |none=>simp[an]at h
        | some l=>simp only[an,Option.some.injEq]at h;subst h;obtain⟨ys,rfl,aG⟩:=X.vQ;have:=(R2 aG an aF).agg;simpa using this
      · next cs=>
        cases an:ih (eJ n t) cs.toList with
        |none=>simp[an]at h
        | some l=>simp only[an,Option.some.injEq]at h;subst h;obtain⟨ys,rfl,aG⟩:=X.Gj;have:=(R2 aG an aF).tuple;simpa using this
      · next f xs cs=>
        cases an:ih (eJ n t) xs.toList with
        |none=>simp[an]at h
        | some l=>
          cases sI:ih (eJ n t) cs.toList with
          |none=>simp[an,sI]at h
          | some k=>simp only[an,sI,Option.some.injEq]at h;subst h;obtain⟨ys,b1,rfl,aG,W⟩:=X.Gi;have z:=R2 aG an λo h=>aF o (List.mem_append.2 (.inl h));have D:=R2 W sI λo h=>aF o (List.mem_append.2 (.inr h));exact .func (by simpa using z.1) (by simpa using z.2) (by simpa using D.1) (by simpa using D.2)
      · cases h
def NL(n:Nat)(t:B)(args:List Value):Option (List Value):=ih (eJ n t) args
def wo(t:B):List Nat->B
  |[]=>t
  |o::l=>wo (match t.M o with|some x=>t.au o (some ⟨x.cells,false⟩)|none=>t) l
def vr(t:B)(l:List Nat):B:=⟨t.next,t.mV,λo=>if o∈l then none else t.mp o⟩
@[simp] theorem aHM(t:B):vr t []=t:=by simp[vr]
@[simp] theorem aHL(t:B)(l:List Nat)(o:Nat):(vr t l).M o=t.M o:=rfl
@[simp] theorem ba(t:B)(l:List Nat):(vr t l).next=t.next:=rfl
@[simp] theorem aPm(t:B):wo t []=t:=rfl
@[simp] theorem abJ(t:B)(o:Nat)(l:List Nat):wo t (o::l)=wo (match t.M o with|some x=>t.au o (some ⟨x.cells,false⟩)|none=>t) l:=rfl
theorem abL: ∀(l:List Nat) (t:B),(wo t l).next=t.next
  |[],t=>rfl
  | o::l,t=>by rw[abJ,abL l];split<;>rfl
theorem HM: ∀(l:List Nat) (t:B) (p:Nat) (x:fO),(wo t l).M p=some x-> ∃y,t.M p=some y/\x.cells=y.cells/\(x.own=true->y.own=true)/\(p∈l->x.own=false)
  |[],t,p,x,h=>⟨x,h,rfl,λh=>h,λh=>by simp at h⟩
  | o::l,t,p,x,h=>by
    rw[abJ]at h;obtain⟨y,z,D,Z,aw⟩:=HM l _ p x h;cases aj:t.M o with
    | none=>
      rw[aj]at z;refine⟨y,z,D,Z,λaq=> ?_⟩;rcases List.mem_cons.1 aq with rfl|aq
      · simp only at z;rw[aj]at z;cases z
      · exact aw aq
    | some O=>
      rw[aj]at z;simp only at z;by_cases VJ:p=o
      · subst VJ;rw[bX (aT aj)]at z;cases z;have aI:x.own=false:=by
          cases H:x.own with
          |false=>rfl
          |true=>have:=Z H;cases this
        exact⟨O,aj,D,(λH=>by rw[aI]at H;cases H),λ_=>aI⟩
      · rw[dv VJ]at z;exact⟨y,z,D,Z,λaq=>aw ((List.mem_cons.1 aq).resolve_left VJ)⟩
theorem abK: ∀(l:List Nat) (t:B),(wo t l).mp=t.mp
  |[],t=>rfl
  | o::l,t=>by rw[abJ,abK l];split<;>rfl
section
variable (P:Program)
def zn(K:jA)(m:B):Prop:= ∀b cs,K b=some cs-> ∃w,m.M b=some ⟨cs,w⟩
def eg(f:Nat)(args:List Value)(r:Value):Prop:= ∀(K:jA) (m:B) (as:List Value),zn K m->b2 K oW args as->
  bJ P f as m λhb N=>m.next<=N.next/\(∀b,b<m.next->N.M b=m.M b)/\ ∃dI,kn K dI/\zn dI N/\cw dI oW r hb
def hn(f:Nat)(args:List Value)(t:B)(az:Value->B->Prop):Prop:= ∀(Y:hj) (K:jA) (as:List Value) (m:B),gM Y K t m->b2 K Y args as->
  bJ P f as m λhb N=> ∃ee dI r aN,az r aN/\gM ee dI aN N/\cw dI ee r hb/\a6 t.next m.next Y K t m ee dI aN N
def hs(c:U)(u:aL)(t:B)(Q:dr->aL->B->Prop):Prop:=wb c=true-> ∀(Y:hj) (K:jA) (ag:aL) (m:B),gM Y K t m->jB K Y u ag->
  ch P c ag m λe vn N=> ∃ee dI c7 aN,Q e c7 aN/\gM ee dI aN N/\jB dI ee c7 vn/\a6 t.next m.next Y K t m ee dI aN N
structure c8 where
  f:Nat
  fn:List Value->Option Value
  ok: ∀args r,fn args=some r->eg P f args r
structure qf where
  f:Nat
  fn:List Value->B->Option (Value×B)
  ok: ∀args t r aN,fn args t=some (r,aN)-> ∀az:Value->B->Prop,az r aN->hn P f args t az
structure pB where
  p:List (c8 P)
  i:List (qf P)
variable {P}
def FT:List (qf P)->Nat->Bool
  |[],_=>false
  |s::l,f=>s.f==f||FT l f
def y4:List (qf P)->Nat->List Value->B->(Value->B->Prop)->Prop
  |[],_,_,_,_=>False
  | s::l,f,args,t,aV=>if s.f=f then(match s.fn args t with
    |some (r,aN)=>aV r aN
    |none=>False)else y4 l f args t aV
def FU:List (c8 P)->Nat->Bool
  |[],_=>false
  |s::l,f=>s.f==f||FU l f
def y5:List (c8 P)->Nat->List Value->(Value->Prop)->Prop
  |[],_,_,_=>False
  | s::l,f,args,az=>if s.f=f then(match s.fn args with
    |some r=>az r
    |none=>False)else y5 l f args az
def HE(aY:List (c8 P))(f:Nat)(args:List Value)(t:B)(aV:Value->B->Prop):Prop:=match NL 9 t args with
  |some ts=>y5 aY f ts λr=>aV r (if pb r then vr t (args.flatMap (fR 9 t))else wo t (args.flatMap (fR 9 t)))
  |none=>False
def wJ(aY:pB P)(f:Nat)(args:List Value)(t:B)(v5:Bool)(aV:Value->B->Prop):Prop:=
  if FU aY.p f then HE aY.p f args t aV else v5=true/\if FT aY.i f then y4 aY.i f args t aV else hn P f args t aV
def Ix(aY:pB P)(v:Value)(args:List Value)(t:B)(v5:Bool)(aV:Value->B->Prop):Prop:=match v with
  | .func (.func f) first lT=>wJ aY f (first.toList++args++lT.toList) t v5 aV
  |_=>False
def lV(aY:pB P)(base:Nat)(o:b6)(u:aL)(t:B)(aV:aL->B->Prop):Prop:=match o.k with
  | .eI f as=>wJ aY f (as.map (ab u)) t (yB u t o.bx) λr aN=>aV (dA u o.d r) aN
  | .lZ x as=>Ix aY (ab u x) (as.map (ab u)) t (yB u t o.bx) λr aN=>aV (dA u o.d r) aN
  | .qB _ _ _=>False
  |k=>k.lu u t=true/\lg u t o.bx=true/\aV (dA u o.d (k.lE (base+o.bc) u t)) (k.yK (base+o.bc) u t)
def eo(aY:pB P)(base:Nat):List b6->aL->B->(aL->B->Prop)->Prop
  |[],u,t,aV=>aV u t
  |o::b0,u,t,aV=>if fN u o.g=true then lV aY base o u t (λu t=>eo aY base b0 u t aV)else eo aY base b0 (dA u o.d undef) t aV
def j6(aY:pB P):U->aL->B->(dr->aL->B->Prop)->Prop
  | .skip,u,t,Q=>Q .gv u t
  | .I ops,u,t,Q=>eo aY t.next ops u (k2 ops t) (Q .gv)
  | .E a b,u,t,Q=>j6 aY a u t λe u t=>match e with
    | .gv=>j6 aY b u t Q
    |e=>Q e u t
  | .bj c a b,u,t,Q=>vT (ab u c)=true/\if xR (ab u c)=true then j6 aY a u t Q else j6 aY b u t Q
  | .block id c,u,t,Q=>j6 aY c u t λe u t=>match e with
    | .bI l1=>if l1=id then Q .gv u t else Q (.bI l1) u t
    |e=>Q e u t
  | .loop c,u,t,Q=>hs P (.loop c) u t Q
  | .bI id,u,t,Q=>Q (.bI id) u t
  | .a7,u,t,Q=>Q .a7 u t
end
section
variable {P:Program} {K:jA} {Y:hj} {t m:B}
theorem aCX{l:List (qf P)}{f:Nat}{args:List Value}{t:B}{aV:Value->B->Prop}(h:y4 l f args t aV):hn P f args t aV:=by
  induction l with
  |nil=>exact h.elim
  | cons s l cb=>
    simp only[y4]at h;split at h
    · next e=>
      cases aI:s.fn args t with
      |none=>rw[aI]at h;exact h.elim
      |some Sy=>obtain⟨r,aN⟩:=Sy;rw[aI]at h;have:=s.ok args t r aN aI aV h;rw[e]at this;exact this
    · exact cb h
theorem eg.aDA{f:Nat}{ts as:List Value}{r:Value}(h:eg P f ts r)(de:zn K m)(aE:b2 K oW ts as):bJ P f as m λhb N=>m.next<=N.next/\(∀b,b<m.next->N.M b=m.M b/\(K b=none->N.mp b=m.mp b))/\
    ∃dI,kn K dI/\zn dI N/\(∀b cs,dI b=some cs->K b=some cs\/m.next<=b)/\cw dI oW r hb:=by
  obtain⟨p,aq⟩: ∃p:B,p=⟨m.next,λb=>if(K b).isSome then m.mV b else none,m.mp⟩:=⟨_,rfl⟩;have aay:p.next=m.next:=by rw[aq]
  have aAJ:p.mp=m.mp:=by rw[aq]
  have Sk: ∀b,p.M b=if(K b).isSome then m.M b else none:= λb=>by
    rw[aq];simp only[B.M];split
    · rfl
    · split<;>rfl
  have part:qi p m:=⟨aay,aAJ,λb x H=>by
    rw[Sk]at H;split at H
    · exact H
    · cases H⟩
  have asZ:zn K p:= λb cs L=>by obtain⟨w,aO⟩:=de b cs L;exact⟨w,by rw[Sk,L];exact aO⟩
  refine(bJ.frame part (h K p as asZ aE)).aD λhb N cE=> ?_;obtain⟨eM,⟨z,D,dI,Z,aw,aX⟩,b0⟩:=cE;refine⟨b0.next,λb L=>⟨?_,λak=>(b0.L7 b L (by rw[Sk,ak];rfl)).2.2⟩,dI,Z,λb cs L=> ?_,λb cs L=> ?_,aX⟩
  · cases aj:p.M b with
    |none=>exact(b0.L7 b L aj).1
    |some x=>rw[part.M b x aj];exact b0.part.M b x (by rw[D b (by rw[aay];exact L),aj])
  · obtain⟨w,aO⟩:=aw b cs L;exact⟨w,b0.part.M b _ aO⟩
  · by_cases cM:b<m.next
    · left;obtain⟨w,aO⟩:=aw b cs L;cases aj:p.M b with
      |none=>rw[(b0.L7 b cM aj).2.1]at aO;cases aO
      | some x=>
        rw[D b (by rw[aay];exact cM)]at aO;rw[Sk]at aO;split at aO
        · next J=>
          cases aeQ:K b with
          |none=>rw[aeQ]at J;cases J
          | some oF=>obtain⟨e1,uL⟩:=de b oF aeQ;rw[uL]at aO;cases aO;rfl
        · cases aO
    · exact .inr (by omega)
theorem asb{v bW:Value}(h:cw K Y v bW)(aI:pb v=true):bW=v:=by
  unfold pb at aI;split at aI
  · obtain⟨ys,rfl,aG⟩:=h.vQ;rename_i cs;have:ys.toList=cs.toList:=by
      apply List.ext_getElem
      · exact aG.1.symm
      · intro i z D;exact(aG.2 i _ _ (List.getElem?_eq_getElem D) (List.getElem?_eq_getElem z)).lo (List.all_eq_true.1 aI _ (List.getElem_mem D))
    rw[<-Array.toArray_toList (xs:=ys),this]
  · obtain⟨ys,rfl,aG⟩:=h.Gj;rename_i cs;have:ys.toList=cs.toList:=by
      apply List.ext_getElem
      · exact aG.1.symm
      · intro i z D;exact(aG.2 i _ _ (List.getElem?_eq_getElem D) (List.getElem?_eq_getElem z)).lo (List.all_eq_true.1 aI _ (List.getElem_mem D))
    rw[<-Array.toArray_toList (xs:=ys),this]
  · exact h.lo aI
open Classical in
theorem aAU(J:gM Y K t m){aY:List (c8 P)}{f:Nat}{args as:List Value}(aE:b2 K Y args as){aV:Value->B->Prop}(h:HE aY f args t aV):
    bJ P f as m λhb N=>(∀b,b<m.next->N.M b=m.M b)/\ ∃dI r aN,aV r aN/\gM Y dI aN N/\cw dI Y r hb/\a6 t.next m.next Y K t m Y dI aN N:=by
  unfold HE at h;cases bY:NL 9 t args with
  |none=>rw[bY]at h;exact h.elim
  | some ts=>
    rw[bY]at h;simp only at h;obtain⟨l,aG⟩: ∃l,l=args.flatMap (fR 9 t):=⟨_,rfl⟩;rw[<-aG]at h;have nC: ∃r,eg P f ts r/\aV r (if pb r then vr t l else wo t l):=by
      clear bY aG;induction aY with
      |nil=>exact h.elim
      | cons s aY cb=>
        simp only[y5]at h;split at h
        · next e=>
          cases aI:s.fn ts with
          |none=>rw[aI]at h;exact h.elim
          |some r=>rw[aI]at h;exact⟨r,by have:=s.ok ts r aI;rw[e]at this;exact this,h⟩
        · exact cb h
    obtain⟨r,aF,lJ⟩:=nC;obtain⟨gR,Jl⟩: ∃gR:jA,gR= λb=>match K b with
      |some cs=>some cs
      |none=>if∃o,o∈l/\Y o=some b/\(t.M o).isSome=true then(m.M b).map (·.cells)else none:=⟨_,rfl⟩
    have dk:kn K gR:= λb cs L=>by rw[Jl];simp[L]
    have dV: ∀b cs,gR b=some cs->K b=some cs\/(∃o,o∈l/\Y o=some b):= λb cs L=>by
      rw[Jl]at L;simp only at L;split at L
      · next z=>rw[z];exact .inl L
      · split at L
        · next z=>obtain⟨o,bp,dc,_⟩:=z;exact .inr ⟨o,bp,dc⟩
        · cases L
    have jo: ∀b cs,gR b=some cs->K b=some cs\/H6 Y t b:= λb cs L=>by
      rw[Jl]at L;simp only at L;split at L
      · next z=>rw[z];exact .inl L
      · split at L
        · next z=>obtain⟨o,_,dc,eK⟩:=z;obtain⟨x,H⟩:=Option.isSome_iff_exists.1 eK;exact .inr ⟨o,x,dc,H⟩
        · cases L
    have ew:zn gR m:= λb cs L=>by
      rw[Jl]at L;simp only at L;split at L
      · next z=>cases L;exact(J.bw b _ z).1
      · split at L
        · cases aj:m.M b with
          |none=>rw[aj]at L;cases L
          |some x=>rw[aj]at L;cases L;exact⟨x.own,rfl⟩
        · cases L
    have f4: ∀o∈l,(t.M o).isSome=true-> ∀b cs w,Y o=some b->m.M b=some ⟨cs,w⟩->gR b=some cs:= λo an iE b cs w bT aj=>by
      rw[Jl];simp only;cases vF:K b with
      |some b1=>obtain⟨⟨e1,uL⟩,_⟩:=J.bw b b1 vF;rw[aj]at uL;cases uL;rfl
      |none=>simp only;rw[if_pos ⟨o,an,bT,iE⟩,aj];rfl
    have atf:b2 gR oW ts as:=(by obtain⟨z,D⟩:=HA bY;refine⟨by rw[z,aE.1],λi x y H ah=> ?_⟩;obtain⟨cl,hZ,aU⟩:=D i x H;exact NK J dk 9 (aE.2 i cl y hZ ah) aU λo an=>f4 o (by rw[aG];exact List.mem_flatMap.2 ⟨cl,List.mem_of_getElem? hZ,an⟩));refine(aF.aDA ew atf).aD λhb N cE=> ?_;obtain⟨aC,a2,dI,bS,fA,kp,oh⟩:=cE;refine⟨λb L=>(a2 b L).1,?_⟩;by_cases oK:pb r=true
    · rw[if_pos oK]at lJ;refine⟨K,r,_,lJ,?_,by rw[asb oh oK];exact cw.pb oK,?_⟩
      · refine⟨λo x H=> ?_,λo bg aU=> ?_,λo an=> ?_,J.inj,λo b h=>⟨(J.cW o b h).1,Nat.lt_of_lt_of_le (J.cW o b h).2 aC⟩,λb cs L=> ?_⟩
        · rcases J.m7 o x H with⟨b,cs,w,z,D,Z,aw⟩|z
          · exact .inl ⟨b,cs,w,z,by rw[(a2 b (J.cW o b z).2).1,D],Z,aw⟩
          · exact .inr z
        · obtain⟨aM,a1⟩:=hv aU;have DL:o∉l:= λaK=>by simp[vr,aK]at a1
          have cI:t.mp o=some bg:=(by simpa[vr,DL]using a1);obtain⟨b,ei,z,D,Z⟩:=J.kz o bg (qv aM cI);refine⟨b,ei,z,?_,Z⟩;obtain⟨aw,aX⟩:=hv D;have L:=(J.cW o b z).2;have vF:gR b=none:=by
            cases bt:gR b with
            |none=>rfl
            | some cs=>
              rcases dV b cs bt with cC|⟨o',cC,gn⟩
              · have:=(J.bw b cs cC).2 o _ z aM;cases this
              · rw[J.inj o' o b gn z]at cC;exact absurd cC DL
          exact qv (by rw[(a2 b L).1];exact aw) (by rw[(a2 b L).2 vF];exact aX)
        · show(if o∈l then none else t.mp o)=none;rw[J.nm o an];simp
        · obtain⟨⟨w,z⟩,D⟩:=J.bw b cs L;exact⟨⟨w,by rw[(a2 b (aT z)).1,z]⟩,D⟩
      · exact⟨iv.refl _,kn.refl _,λ_ _ h=> .inl h,λ_ _ h=> .inl h,Nat.le_refl _,aC,λb L _=>(a2 b L).1,λb L aO=>aO,λb L aO=>aO⟩
    · rw[if_neg oK]at lJ;have UX:=dk.trans bS;refine⟨dI,r,_,lJ,?_,oh.aD (kn.refl _) (iv.nil _),?_⟩
      · refine⟨λo x H=> ?_,λo bg aU=> ?_,λo an=> ?_,J.inj,λo b h=>⟨by rw[abL];exact(J.cW o b h).1,Nat.lt_of_lt_of_le (J.cW o b h).2 aC⟩,λb cs L=> ?_⟩
        · obtain⟨y,ah,aM,a1,_⟩:=HM l t o x H;rcases J.m7 o y ah with⟨b,cs,w,z,D,Z,aw⟩|⟨z,D⟩
          · exact .inl ⟨b,cs,w,z,by rw[(a2 b (J.cW o b z).2).1,D],λh=>Z (a1 h),by rw[aM];exact aw.aD UX (iv.refl _)⟩
          · exact .inr ⟨z,by rw[aM,D]⟩
        · obtain⟨aM,a1⟩:=hv aU;obtain⟨y,ah,cI,fe,mi⟩:=HM l t o _ aM;have DL:o∉l:= λaK=>by have:=mi aK;cases this
          have oq:y=⟨[],true⟩:=(by obtain⟨a,b⟩:=y;simp at cI fe;simp[cI,fe]);subst oq;rw[abK]at a1;obtain⟨b,ei,z,D,Z⟩:=J.kz o bg (qv ah a1);refine⟨b,ei,z,?_,Z.aD UX (iv.refl _)⟩;obtain⟨aw,aX⟩:=hv D;have L:=(J.cW o b z).2;have vF:gR b=none:=by
            cases bt:gR b with
            |none=>rfl
            | some cs=>
              rcases dV b cs bt with cC|⟨o',cC,gn⟩
              · have:=(J.bw b cs cC).2 o _ z ah;cases this
              · rw[J.inj o' o b gn z]at cC;exact absurd cC DL
          exact qv (by rw[(a2 b L).1];exact aw) (by rw[(a2 b L).2 vF];exact aX)
        · rw[abK];exact J.nm o an
        · refine⟨fA b cs L,λo x bT H=> ?_⟩;obtain⟨y,ah,aM,a1,cI⟩:=HM l t o x H;have jD:=(J.cW o b bT).2;rcases kp b cs L with cC|cC
          · rcases dV b cs cC with gn|⟨o',gn,iP⟩
            · have ml:=(J.bw b cs gn).2 o y bT ah;cases hZ:x.own with
              |false=>rfl
              |true=>rw[a1 hZ]at ml;cases ml
            · rw[J.inj o' o b iP bT]at gn;exact cI gn
          · omega
      · refine⟨iv.refl _,UX,λ_ _ h=> .inl h,λb cs L=> ?_,by rw[abL];exact Nat.le_refl _,aC,λb L _=>(a2 b L).1,λb L aO=> ?_,λb L aO=> ?_⟩
        · rcases kp b cs L with cC|cC
          · rcases jo b cs cC with gn|gn
            · exact .inl gn
            · exact .inr (.inr gn)
          · exact .inr (.inl cC)
        · obtain⟨o,x,z,D,Z⟩:=aO;obtain⟨y,ah,aM,a1,cI⟩:=HM l t o x D;exact⟨o,y,z,ah,a1 Z⟩
        · obtain⟨o,x,z,D⟩:=aO;obtain⟨y,ah,aM,a1,cI⟩:=HM l t o x D;exact⟨o,y,z,ah⟩
end
end Go.DI
