/-
  A part of the proof of the statement, in texts that tools of ours (wip/shrink.py, irpack.py, relax.py, minify.py, join.py, lay.py) have shortened.
-/
import Derived.Test.YtkpifdkccdndcaaGreatZae
set_option linter.all false
set_option maxRecDepth 8000
set_option maxHeartbeats 16000000
namespace Go.DI
open Go Go.RowKit
section
variable {z:iS} {W:gZ} {u ae:aM} {t m:E} {v b2:Value}
theorem wO(h:fy v=true):jL v=false/\pd v=false/\lW v=false:=by cases v<;>simp_all [fy,jL,pd,lW]
theorem b5.headD{xs ys:List Value}(h:b5 z W xs ys):cQ z W (xs.headD undef) (ys.headD undef):=by
  cases xs with
  | nil=>cases ys with
    |nil=>exact cQ.undef
    |cons y ys=>simp[b5]at h
  | cons x xs=>cases ys with
    |nil=>simp[b5]at h
    |cons y ys=>exact h.2 0 x y rfl rfl
theorem b5.aiJ: ∀{bW yu:List (List Value)},bW.length=yu.length->(∀(i:Nat) r hy,bW[i]?=some r->yu[i]?=some hy->b5 z W r hy)->b5 z W bW.flatten yu.flatten
  |[],[],_,_=>b5.nil
  |[],_::_,h,_=>by simp at h
  |_::_,[],h,_=>by simp at h
  | r::bW,hy::yu,h,a6=>by rw[u7,u7];exact(a6 0 r hy rfl rfl).uq (b5.aiJ (by simpa using h) λi a b aC K=>a6 (i+1) a b (by simpa using aC) (by simpa using K))
theorem b5.cS{cS cs:List Value}{off k n:Nat}(aE:off+cS.length<=cs.length)(aK: ∀(j:Nat) x y,cS[j]?=some x->cs[off+j]?=some y->cQ z oi x y)(aa:k+n<=cS.length):
    b5 z W ((cS.drop k).take n) ((cs.drop (off+k)).take n):=by
  refine⟨by simp;omega,λi x y F ab=> ?_⟩;rw[se]at F ab;split at F
  · rename_i ag;rw[if_pos ag]at ab;rw[rv]at F ab;exact(aK (k+i) x y F (by rw[<-u9];exact ab)).aD (j0.refl _) (h7.nil _)
  · cases F
theorem gx.qb(M:gx W z t m){o b:Nat}{x:fV}(b8:W o=some b)(F:t.U o=some x): ∃cs w,m.U b=some ⟨cs,w⟩/\(x.own=true->w=true)/\b5 z W x.cells cs:=by
  rcases M.lu o x F with⟨b7,cs,w,B,H,af,aL⟩|⟨B,_⟩
  · rw[b8]at B;cases B;exact⟨cs,w,H,af,aL⟩
  · rw[b8]at B;cases B
theorem PT(M:gx W z t m)(S:cQ z W v b2){n:Nat}(h:uo t v n=true):g8 m b2 n=true:=by
  unfold uo at h;split at h
  · rename_i ag;obtain⟨cS,k,b,off,cs,rfl,rfl,dD,aE,aK⟩:=S.akG ag;obtain⟨⟨w,aS⟩,_⟩:=M.bG b cs dD;simp at h;simp[aS];omega
  · rename_i rP;unfold g8 at h;split at h
    · next a=>
      obtain⟨b,b8,nK,rfl⟩:=S.wQ;simp only[bK]at h;cases aq:t.U a.block with
      |none=>rw[aq]at h;simp at h
      | some x=>rw[aq]at h;obtain⟨cs,w,B,_,af⟩:=M.qb b8 aq;simp at h;simp[B];have:=af.1;omega
    · cases h
theorem apW(M:gx W z t m)(S:cQ z W v b2){n:Nat}{df:Bool}(h:uo t v n=true)(B:(df||decide (n=1))=true):cQ z W (DM t df n v) (k4 m df n b2):=by
  unfold uo at h;unfold DM;split at h
  · rename_i ag;rw[if_pos ag];obtain⟨cS,k,b,off,cs,rfl,rfl,dD,aE,aK⟩:=S.akG ag;obtain⟨⟨w,aS⟩,_⟩:=M.bG b cs dD;simp at h;simp only[aG0,ahY,aS,aky,aqQ];cases df with
    |true=>exact(b5.cS aE aK h).agg
    |false=>simp at B;subst B;exact(b5.cS aE aK h).headD
  · rename_i ag;rw[if_neg ag];unfold g8 at h;split at h
    · next a=>
      obtain⟨b,b8,nK,rfl⟩:=S.wQ;simp only[bK]at h;cases aq:t.U a.block with
      |none=>rw[aq]at h;simp at h
      | some x=>
        obtain⟨cs,w,H,_,af⟩:=M.qb b8 aq;simp only[k4,jI,H];rw[aq];cases df with
        |true=>exact((af.drop _).take _).agg
        |false=>exact((af.drop _).take _).headD
    · cases h
theorem aqX(S:cQ z W v b2)(h:sQ v=true):tS b2=true:=by
  cases S with
  |dc B=>obtain⟨_,H,_⟩:=wO B;simpa[sQ,H]using h
  |cb h=>rfl
  |gb e=>rfl
  |jX e=>subst e;simp[sQ,tS,aQ,pd]at h
  |jK e=>subst e;simp[sQ,tS,aQ,pd]at h
  |_=>simp[sQ,tS,pd]at h
theorem aqW(S:cQ z W v b2)(h:sQ v=true)(n:Nat):cQ z W (z3 v n) (z2 b2 n):=by
  cases S with
  | dc B=>
    obtain⟨_,H,_⟩:=wO B;simp only[sQ,H,Bool.false_or,tS]at h;split at h
    · simp[fy]at B
    · cases h
  |cb b8=>simp only[z3,pd,z2,lv,if_false];exact .cb b8
  |gb e dD aE aK=>subst e;simp only[z3,aGi,if_true,aqQ,aky,z2,u9];exact .gb rfl dD aE aK
  |jX e=>subst e;simp[sQ,tS,aQ,pd]at h
  |jK e=>subst e;simp[sQ,tS,aQ,pd]at h
  |_=>simp[sQ,tS,pd]at h
theorem UJ(S:cQ z W v b2):l0 v=ib b2:=by
  cases S with
  |dc h=>simp[l0,(wO h).1]
  |jX e=>subst e;simp[l0,ib]
  |jK e=>subst e;simp[l0,ib]
  |gb e=>subst e;simp[l0,ib,gb,jL]
  |_=>rfl
theorem VQ(S:cQ z W v b2):m5 v=hL b2:=by
  cases S with
  |dc h=>simp[m5,(wO h).1]
  |jX e=>subst e;simp[m5,hL]
  |jK e=>subst e;simp[m5,hL]
  |gb e=>subst e;simp[m5,hL,gb,jL]
  |_=>rfl
theorem aGj(S:cQ z W v b2)(h:DH v=true):zD b2=true:=by
  cases S with
  |dc B=>simpa[DH,(wO B).1]using h
  |jX e=>rfl
  |jK e=>rfl
  |gb e=>subst e;simp[DH,gb,jL,zD]at h
  |_=>simpa[DH,jL,zD]using h
theorem O8(S:cQ z W v b2){O:Nat}(h:nw O v=true):kr O b2=true:=by
  cases S with
  |dc B=>simpa[nw,(wO B).1]using h
  |jX e=>subst e;simpa[nw]using h
  |jK e=>rfl
  |gb e=>subst e;simp[nw,gb,jL,kr]at h
  |tX=>rfl
  |slice=>simpa[nw,jL]using h
  |_=>simp[nw,jL,kr]at h
theorem arX(S:cQ z W v b2){O l h:Nat}(Y:nw O v=true)(B:l<=h)(H:h<=m5 v):cQ z W (v7 v O l h) (ou b2 O l h):=by
  cases S with
  | dc bs=>
    simp only[v7,(wO bs).1,lv,if_false];unfold ou;split
    · simp[fy]at bs
    · exact .dc rfl
  | jX e dD aE cl aK=>
    rename_i b off iR cs bW;subst e;have Im:iR=O:=(by simpa[nw]using Y);subst Im;have gB:h<=bW.length:=(by simpa[m5]using H);simp only[v7,Uz,if_true,Rs,ou];have fN:((bW.take h).drop l).length=h-l:=(by simp;omega);have aN:h*iR<=bW.length*iR:=s6 _ gB;have bz:l*iR+(h-l)*iR=h*iR:=(by rw[<-mN];congr 1;omega);rw[<-fN];refine .jX rfl dD (by rw[fN];omega) (λi r aH=> ?_) λi j r x y aH F ab=> ?_
    · rw[rv,se]at aH;split at aH
      · exact cl _ _ aH
      · cases aH
    · rw[rv,se]at aH;split at aH
      · refine aK _ j r x y aH F ?_;rw[<-ab];congr 1;rw[mN];omega
      · cases aH
  | jK e=>subst e;simp only[v7,Uz,if_true,Rs,ou];simp;exact .jK rfl
  |gb e=>subst e;simp[nw,gb,jL,kr]at Y
  | tX=>have:h=0:=(by simpa[m5,jL,hL]using H);subst this;have:l=0:=(by omega);subst this;simp only[v7,jL,ou,lv,if_false,Nat.zero_mul,Nat.add_zero,Nat.sub_self];exact .tX
  |slice b8=>simp only[v7,jL,ou,lv,if_false];exact .slice b8
  |_=>simp[nw,jL,kr]at Y
theorem aLq(S:cQ z W v b2){O:Nat}{i:Int}(Y:nw O v=true)(bH:0<=i)(B:i<l0 v):cQ z W (Ec v O i) (mH b2 O i):=by
  obtain⟨n,rfl⟩:=xp bH;cases S with
  | dc bs=>
    simp only[l0,(wO bs).1,lv,if_false]at B;simp only[nw,(wO bs).1,lv,if_false]at Y;unfold kr at Y;split at Y
    · simp[ib]at B;simp at Y;omega
    · simp[fy]at bs
    · cases Y
  | jX e dD aE cl aK=>rename_i b off iR cs bW;subst e;have Im:iR=O:=(by simpa[nw]using Y);subst Im;have H:n<bW.length:=(by simpa[l0]using B);simp only[Ec,Uz,if_true,Rs,mH,u6];rw[mr,c0 H,Hf];have aH:=c0 H;have pa:=cl _ _ aH;have:(n+1)*iR<=bW.length*iR:=s6 _ H;rw[mN]at this;exact .gb (off:=off+n*iR) (k:=0) rfl dD (by omega) λj x y F ab=>aK n j _ x y aH F ab
  |jK e=>subst e;simp[l0]at B;omega
  |gb e=>subst e;simp[nw,gb,jL,kr]at Y
  |tX=>simp[l0,jL,ib]at B;omega
  |slice b8=>simp only[Ec,jL,mH,lv,if_false];exact .cb b8
  |_=>simp[nw,jL,kr]at Y
theorem agE(M:gx W z t m)(S:cQ z W v b2){O:Nat}(h:pq t O v=true):ig m O b2=true:=by
  cases S with
  | dc bs=>
    simp only[pq,(wO bs).1,lv,if_false]at h;unfold ig at h;split at h
    · simpa[ig]using h
    · simp[fy]at bs
    · cases h
  | jX e dD aE cl aK=>subst e;have:=(by simpa[pq]using h);subst this;obtain⟨⟨w,aS⟩,_⟩:=M.bG _ _ dD;simp[aS,aE]
  |jK e=>rfl
  |gb e=>subst e;simp[pq,gb,jL,ig]at h
  |tX=>rfl
  | slice b8=>
    rename_i o b off l iR;simp only[pq,jL,lv,if_false,arZ,bK]at h⊢;refine⟨h.1,?_⟩;cases aq:t.U o with
    |none=>rw[aq]at h;simp at h
    | some x=>rw[aq]at h;obtain⟨cs,w,B,_,af⟩:=M.qb b8 aq;have:=af.1;simp[B]at h⊢;omega
  |_=>simp[pq,jL,ig]at h
theorem W8(M:gx W z t m)(S:cQ z W v b2){O:Nat}(h:pq t O v=true):b5 z W (sl t O v) (hX m O b2):=by
  cases S with
  | dc bs=>
    simp only[pq,(wO bs).1,lv,if_false]at h;unfold ig at h;split at h
    · exact b5.nil
    · simp[fy]at bs
    · cases h
  | jX e dD aE cl aK=>rename_i b off iR cs bW;subst e;have:=(by simpa[pq]using h);subst this;obtain⟨⟨w,aS⟩,_⟩:=M.bG _ _ dD;simp only[sl,Uz,if_true,Rs,aLt,ahY,aS];obtain⟨yu,aX,bg,dU⟩:=afj bW.length off aE;rw[<-bg];refine b5.aiJ aX.symm λi r hy aH wL=> ?_;have ag:=(dg.1 aH).1;rw[dU i ag]at wL;cases wL;have aRS:=cl _ _ aH;have:(i+1)*iR<=bW.length*iR:=s6 _ ag;rw[mN]at this;have:=b5.cS (z:=z) (W:=W) (cS:=r) (cs:=cs) (off:=off+i*iR) (k:=0) (n:=iR) (by omega) (λj x y F ab=>aK i j r x y aH F ab) (by omega);rw[yI,fw (by omega)]at this;exact this
  |jK e=>subst e;simp[sl,hX];exact b5.nil
  |gb e=>subst e;simp[pq,gb,jL,ig]at h
  | tX=>
    simp only[sl,jL,lv,if_false,hX,jI];split
    · simp;exact b5.nil
    · exact b5.nil
  | slice b8=>
    rename_i o b off l iR;simp only[pq,jL,lv,if_false,arZ,bK]at h;simp only[sl,jL,lv,if_false,hX,jI];cases aq:t.U o with
    |none=>rw[aq]at h;simp at h
    | some x=>obtain⟨cs,w,B,_,af⟩:=M.qb b8 aq;simp only[B];exact(af.drop _).take _
  |_=>simp[pq,jL,ig]at h
theorem aLu(M:gx W z t m)(S:cQ z W v b2)(h:nX t v=true):nX m b2=true:=by
  unfold nX at h;split at h
  · rename_i l c;cases S with
    |dc bs=>rfl
    |jX e=>simp[aQ]at e
    |jK e=>simp[aQ]at e
    |gb e=>simp[gb]at e
  · rename_i a l c;rcases S.rU with⟨b,b8,_,rfl⟩|⟨_,_,_,rfl⟩
    · cases aq:t.U a.block with
      |none=>rw[aq]at h;cases h
      | some x=>rw[aq]at h;obtain⟨cs,w,B,H,af⟩:=M.qb b8 aq;simp[B,H h]
    · rfl
  · cases h
theorem aHo(M:gx W z t m)(S:cQ z W v b2){bJ:List (Value×Value)}(h:ml t v=some bJ): ∃eE,ml m b2=some eE/\tb z W bJ eE:=by
  unfold ml at h;split at h
  · cases h;have:b2= .map none:=S.kx rfl;subst this;exact⟨[],rfl,rfl,λi e eD a=>by simp at a⟩
  · obtain⟨b,eE,B,H,af⟩:=M.jB _ _ h;obtain⟨b7,aL,rfl⟩:=S.Mu;rw[B]at aL;cases aL;exact⟨eE,H,af⟩
  · cases h
theorem apk(S:cQ z W v b2){bI:mu}(h:q4 bI v=true):b2=v:=by
  cases bI<;>cases v<;>simp[q4]at h
  · exact S.qs
  · exact S.zp
theorem apw{bI:mu}{bJ eE:List (Value×Value)}(a2:tb z W bJ eE)(S:cQ z W v b2)(h:mD bI v bJ=true):mD bI b2 eE=true/\b2=v/\ ∀(i:Nat) e eD,bJ[i]?=some e->eE[i]?=some eD->eD.1=e.1:=by
  simp only[mD,bK,hJ]at h⊢;have aX:=apk S h.1;subst aX;have aa: ∀(i:Nat) e eD,bJ[i]?=some e->eE[i]?=some eD->eD.1=e.1:= λi e eD a b=>apk (a2.2 i e eD a b).1 (h.2 e (fT a));refine⟨⟨h.1,λeD aN=> ?_⟩,rfl,aa⟩;obtain⟨i,ag,rfl⟩:=s7 aN;have jJ:i<bJ.length:=by rw[a2.1];exact ag
  rw[aa i _ _ (c0 jJ) (c0 ag)];exact h.2 _ (qM jJ)
theorem ap8{k:Value}: ∀{bJ eE:List (Value×Value)},tb z W bJ eE->(∀(i:Nat) e eD,bJ[i]?=some e->eE[i]?=some eD->eD.1=e.1)->(jY k bJ=none/\jY k eE=none)\/ ∃a b,jY k bJ=some a/\jY k eE=some b/\cQ z W a b
  |[],[],_,_=> .inl ⟨rfl,rfl⟩
  |[],_::_,h,_=>by simp[tb]at h
  |_::_,[],h,_=>by simp[tb]at h
  | e::bJ,eD::eE,h,aa=>by
    have bH:=aa 0 e eD rfl rfl;simp only[jY,bH];split
    · exact .inr ⟨_,_,rfl,rfl,(h.2 0 e eD rfl rfl).2⟩
    · exact ap8 ⟨by simpa using h.1,λi a b aC K=>h.2 (i+1) a b (by simpa using aC) (by simpa using K)⟩ λi a b aC K=>aa (i+1) a b (by simpa using aC) (by simpa using K)
theorem aqi{k v b2:Value}(L3:cQ z W k k)(S:cQ z W v b2): ∀{bJ eE:List (Value×Value)},tb z W bJ eE->(∀(i:Nat) e eD,bJ[i]?=some e->eE[i]?=some eD->eD.1=e.1)->tb z W (m2 k v bJ) (m2 k b2 eE)
  | [],[],_,_=>⟨rfl,λi a b aC K=>by
      cases i with
      |zero=>simp[m2]at aC K;subst aC;subst K;exact⟨L3,S⟩
      |succ i=>simp[m2]at aC⟩
  |[],_::_,h,_=>by simp[tb]at h
  |_::_,[],h,_=>by simp[tb]at h
  | e::bJ,eD::eE,h,aa=>by
    have bH:=aa 0 e eD rfl rfl;have bm:tb z W bJ eE:=⟨by simpa using h.1,λi a b aC K=>h.2 (i+1) a b (by simpa using aC) (by simpa using K)⟩;simp only[m2,bH];split
    · refine⟨by simpa using h.1,λi a b aC K=> ?_⟩;cases i with
      |zero=>simp at aC K;subst aC;subst K;exact⟨L3,S⟩
      |succ i=>exact bm.2 i a b (by simpa using aC) (by simpa using K)
    · have:=aqi L3 S bm λi a b aC K=>aa (i+1) a b (by simpa using aC) (by simpa using K);refine⟨by simpa using this.1,λi a b aC K=> ?_⟩;cases i with
      |zero=>simp at aC K;subst aC;subst K;exact h.2 0 e eD rfl rfl
      |succ i=>exact this.2 i a b (by simpa using aC) (by simpa using K)
end
section
variable {z:iS} {W:gZ} {u ae:aM} {t m:E} {v b2:Value}
theorem OB(cL:jH z W u ae){x:Option Operand}(F: ∀o,x=some o->er o=true)(h:qF u x=true)(d:Int):qF ae x=true/\hT ae x d=hT u x d:=by
  cases x with
  |none=>exact⟨rfl,rfl⟩
  | some o=>have e:=uP (cL.ad (F o rfl)) h;simp only[qF,hT,e]at h⊢;exact⟨h,trivial⟩
theorem aqR(cL:jH z W u ae){cs o3:List Value}(aE:cs.length=o3.length){en:List (Nat×Nat×Operand)}(aC: ∀p∈en,er p.2.2=true)(h:sP cs u en=true):sP o3 ae en=true:=by simp only[sP,hJ]at h⊢;intro p Y;have:=h p Y;obtain⟨off,n,x⟩:=p;simp only[bK,fU]at this⊢;have S:=cL.ad (aC _ Y);exact⟨⟨S.aB this.1.1,by rw[<-S.ao.1];exact this.1.2⟩,by rw[<-aE];exact this.2⟩
theorem aeN(cL:jH z W u ae): ∀{en:List (Nat×Nat×Operand)} {cs o3:List Value},b5 z W cs o3->(∀p∈en,er p.2.2=true)->b5 z W (oo cs u en) (oo o3 ae en)
  |[],_,_,h,_=>h
  | (off,n,x)::en,_,_,h,aC=>by simp only[oo];exact aeN cL (h.ku off (cL.ad (aC (off,n,x) (by simp))).ao) λp Y=>aC p (by simp[Y])
theorem cQ.VJ{v:Value}(h:fy v=true\/v=Go.undef):cQ z W v v:=by
  rcases h with h|rfl
  · exact .dc h
  · exact cQ.undef
theorem aAp(op:BinOp)(k:IntKind)(a b:Int):fy (It op k a b)=true:=by cases op<;>rfl
theorem aLE(op:BinOp)(a b:ByteArray):fy (Eh op a b)=true\/Eh op a b=Go.undef:=by cases op<;>first|exact .inl rfl|exact .inr rfl
theorem auE(op:BinOp)(x y:Value):fy (ng op x y)=true\/ng op x y=Go.undef:=by
  unfold ng;split
  · exact .inl (aAp _ _ _ _)
  · exact aLE _ _ _
  · split
    · exact .inl rfl
    · exact .inl rfl
    · exact .inr rfl
theorem arN(S:cQ z W v b2)(h:oD v=true):b2=v\/(∃a cI,v= .pointer (some a)/\b2= .pointer (some cI))\/(∃a cI l O,v= .slice (some a) l O/\b2= .slice (some cI) l O)\/
    (∃f xs cs ys ds,v= .func (.func f) xs cs/\b2= .func (.func f) ys ds)\/(∃a b,v= .map a/\b2= .map b)\/(∃a b,v= .agg a/\b2= .agg b)\/(∃a b,v= .tuple a/\b2= .tuple b)\/ ∃t a b,v= .iface t a/\b2= .iface t b:=by
  cases S with
  |dc=>exact .inl rfl
  |cb=>exact .inr (.inl ⟨_,_,rfl,rfl⟩)
  |slice=>exact .inr (.inr (.inl ⟨_,_,_,_,rfl,rfl⟩))
  |tX=>simp[oD,lW]at h
  |map=>exact .inr (.inr (.inr (.inr (.inl ⟨_,_,rfl,rfl⟩))))
  |agg=>exact .inr (.inr (.inr (.inr (.inr (.inl ⟨_,_,rfl,rfl⟩)))))
  |tuple=>exact .inr (.inr (.inr (.inr (.inr (.inr (.inl ⟨_,_,rfl,rfl⟩))))))
  |func=>exact .inr (.inr (.inr (.inl ⟨_,_,_,_,_,rfl,rfl⟩)))
  |iface=>exact .inr (.inr (.inr (.inr (.inr (.inr (.inr ⟨_,_,_,rfl,rfl⟩))))))
  |jX e=>subst e;simp[oD]at h
  |jK e=>subst e;simp[oD]at h
  |gb e=>subst e;simp[oD]at h
theorem ahG{x y:Value}{op:BinOp}{c:xB}(h:(gi x&&gi y)=false)(H:(nq x&&nq y)=false):vg op c x y=(match op with| .eql| .neq=>xJ c x y|_=>false):=by
  unfold vg;split
  · simp[gi]at h
  · simp[nq]at H
  · rfl
theorem ahH{x y:Value}{op:BinOp}(h:(gi x&&gi y)=false)(H:(nq x&&nq y)=false):ng op x y=(match op with| .eql=> .bool (rI x y)| .neq=> .bool (!rI x y)|_=>Go.undef):=by
  unfold ng;split
  · simp[gi]at h
  · simp[nq]at H
  · rfl
theorem aph(S:cQ z W v b2)(h:oD v=true):gi b2=gi v/\nq b2=nq v:=by rcases arN S h with rfl|⟨a,cI,rfl,rfl⟩|⟨a,cI,l,O,rfl,rfl⟩|⟨f,xs,cs,ys,ds,rfl,rfl⟩|⟨a,b,rfl,rfl⟩|⟨a,b,rfl,rfl⟩|⟨a,b,rfl,rfl⟩|⟨t,a,b,rfl,rfl⟩<;>exact⟨rfl,rfl⟩
def Ka:Value->Value
  | .pointer (some _)=> .pointer (some ⟨0,0,none⟩)
  | .slice (some _) _ _=> .slice (some ⟨0,0,none⟩) 0 0
  | .func _ _ _=> .func (.func 0) #[] #[]
  | .map _=> .map none
  | .agg _=> .agg #[]
  | .tuple _=> .tuple #[]
  | .iface _ _=> .iface 0 .nilIface
  |v=>v
theorem aiB(c:xB)(x y:Value):xJ c (Ka x) (Ka y)=xJ c x y:=by cases c<;>cases x<;>cases y<;>first|rfl|(cases‹Option Addr› <;>first|rfl|(cases‹Option Addr› <;>rfl))
theorem aiC(x y:Value):rI (Ka x) (Ka y)=rI x y:=by cases x<;>cases y<;>first|rfl|(cases‹Option Addr› <;>first|rfl|(cases‹Option Addr› <;>rfl))
theorem VW(S:cQ z W v b2)(h:oD v=true):Ka b2=Ka v:=by rcases arN S h with rfl|⟨a,cI,rfl,rfl⟩|⟨a,cI,l,O,rfl,rfl⟩|⟨f,xs,cs,ys,ds,rfl,rfl⟩|⟨a,b,rfl,rfl⟩|⟨a,b,rfl,rfl⟩|⟨a,b,rfl,rfl⟩|⟨t,a,b,rfl,rfl⟩<;>rfl
theorem aiD{x y hY oX:Value}{c:xB}(F:cQ z W x hY)(ab:cQ z W y oX)(B:oD x=true)(H:oD y=true)(h:xJ c x y=true):xJ c hY oX=true/\rI hY oX=rI x y:=by rw[<-aiB,VW F B,VW ab H,aiB,<-aiC hY oX,VW F B,VW ab H,aiC];exact⟨h,rfl⟩
theorem auF{x y hY oX:Value}{op:BinOp}{c:xB}(F:cQ z W x hY)(ab:cQ z W y oX)(B:oD x=true)(H:oD y=true)(h:vg op c x y=true):vg op c hY oX=true/\ng op hY oX=ng op x y:=by
  obtain⟨rS,aw⟩:=aph F B;obtain⟨tF,bR⟩:=aph ab H;by_cases ag:(gi x&&gi y)=true
  · simp only[bK]at ag;rw[uP F ag.1,uP ab ag.2];exact⟨h,rfl⟩
  · by_cases M:(nq x&&nq y)=true
    · simp only[bK]at M;rw[Gk F M.1,Gk ab M.2];exact⟨h,rfl⟩
    · simp only[Bool.not_eq_true]at ag M;rw[ahG ag M]at h;rw[ahG (by rw[rS,tF];exact ag) (by rw[aw,bR];exact M),ahH ag M,ahH (by rw[rS,tF];exact ag) (by rw[aw,bR];exact M)];cases op<;>simp only[lv]at h⊢
      · obtain⟨a,b⟩:=aiD F ab B H h;rw[b];exact⟨a,rfl⟩
      · obtain⟨a,b⟩:=aiD F ab B H h;rw[b];exact⟨a,rfl⟩
theorem apR: ∀{gQ:List sg} {a1i lR KK KP:List Value},g9 gQ a1i lR=true->b5 z W a1i KK->b5 z W lR KP->KK=a1i/\KP=lR
  | [],[],[],KK,KP,_,B,H=>by have aX:KK=[]:=Hj (by rw[<-B.1];rfl);have bg:KP=[]:=Hj (by rw[<-H.1];rfl);exact⟨aX,bg⟩
  |k::gQ,a::a1i,b::lR,[],_,_,B,_=>by simp[b5]at B
  |k::gQ,a::a1i,b::lR,_::_,[],_,_,H=>by simp[b5]at H
  | k::gQ,a::a1i,b::lR,cI::KK,b7::KP,h,B,H=>by simp only[g9,bK]at h;obtain⟨aX,bg⟩:=apR h.2 ⟨by simpa using B.1,λi x y F ab=>B.2 (i+1) x y (by simpa using F) (by simpa using ab)⟩ ⟨by simpa using H.1,λi x y F ab=>H.2 (i+1) x y (by simpa using F) (by simpa using ab)⟩;have aC:=B.2 0 a cI rfl rfl;have K:=H.2 0 b b7 rfl rfl;have aa:=h.1;have dU:cI=a:=(by cases k<;>cases a<;>cases b<;>simp[Cw]at aa<;>exact aC.kx rfl);have ha:b7=b:=(by cases k<;>cases a<;>cases b<;>simp[Cw]at aa<;>exact K.kx rfl);rw[aX,bg,dU,ha];exact⟨rfl,rfl⟩
  |[],_::_,_,_,_,h,_,_=>by simp[g9]at h
  |[],[],_::_,_,_,h,_,_=>by simp[g9]at h
  |_::_,[],_,_,_,h,_,_=>by simp[g9]at h
  |_::_,_::_,[],_,_,h,_,_=>by simp[g9]at h
theorem aqc(cL:jH z W u ae)(fQ:Bool): ∀(xs:List Operand) (eF:Value),xs.all er=true->(xs.all λy=>gi (ad u y))=true->gi eF=true->
    (xs.foldl (λeF y=>if fQ then ra eF (ad ae y)else rb eF (ad ae y)) eF=xs.foldl (λeF y=>if fQ then ra eF (ad u y)else rb eF (ad u y)) eF)/\gi (xs.foldl (λeF y=>if fQ then ra eF (ad u y)else rb eF (ad u y)) eF)=true
  |[],eF,_,_,h=>⟨rfl,h⟩
  | y::xs,eF,aC,ag,h=>by simp only[uh,bK]at aC ag;have e:=uP (cL.ad aC.1) ag.1;simp only[qN,e];refine aqc cL fQ xs _ aC.2 ag.2 ?_;have B:=ag.1;cases eF<;>simp[gi]at h;cases ab:ad u y<;>simp[ab,gi]at B;split<;>rfl
theorem axm(h:gi v=true):fy v=true:=by cases v<;>simp[gi]at h<;>rfl
def al.aeX:al->Bool
  | .eC _| .pK _| .jx _ _ _ _| .sn _| .nN _ _ _ _ _| .app _ _ _ _| .pj| .store _ _ _| .p0 _ _ _ _| .gl _ _| .ln _ _| .q2 _ _ _=>false
  |_=>true
theorem aI1{k:al}(h:k.aeX=true){id lV:Nat}:k.zU id u t=t/\k.iH lV ae m=m:=by cases k<;>first|exact⟨rfl,rfl⟩|cases h
theorem aI2(M:gx W z t m)(cL:jH z W u ae){k:al}(bz:k.aeX=true)(ah:GK k=true)(aA:k.k5 u t=true)(id lV:Nat):k.ok ae m=true/\cQ z W (k.ll id u t) (k.val lV ae m):=by
  simp only[GK,bK]at ah;obtain⟨aC,cl⟩:=ah;cases k with
  |pk x=>simp[al.jg]at aC;exact⟨rfl,cL.ad aC⟩
  | tR c a b=>
    simp[al.jg]at aC;have e:=apg (cL.ad aC.1) aA;refine⟨by simp only[al.ok,e];exact aA,?_⟩;simp only[al.ll,al.val,e];split
    · exact cL.ad aC.2.1
    · exact cL.ad aC.2.2
  | DV x=>
    simp[al.jg]at aC;have S:=cL.ad aC;refine⟨?_,S⟩;simp only[al.k5,al.ok]at aA⊢;generalize ad u x=a at S aA;generalize ad ae x=cI at S;cases S with
    |dc=>exact aA
    |_=>rfl
  | hg O en=>have n8: ∀p∈en,er p.2.2=true:= λp Y=>hJ.1 aC _ (by simp only[al.jg];exact List.mem_map_of_mem Y);have aE:=b5.dc (z:=z) (W:=W) cl;exact⟨aqR cL rfl n8 aA,(aeN cL aE n8).agg⟩
  | fu df n x=>simp[al.jg]at aC;simp only[al.k5,bK]at aA;refine⟨?_,apW M (cL.ad aC) aA.1 aA.2⟩;simp only[al.ok,bK];exact⟨PT M (cL.ad aC) aA.1,aA.2⟩
  | gL op c x y=>simp[al.jg]at aC;simp only[al.k5,bK]at aA;obtain⟨B,H⟩:=auF (cL.ad aC.1) (cL.ad aC.2) aA.1.1 aA.1.2 aA.2;refine⟨B,?_⟩;simp only[al.ll,al.val,H];exact cQ.VJ (auE _ _ _)
  | pL bQ gQ x y=>simp[al.jg]at aC;simp only[al.k5,al.ok,bK]at aA;have F:=cL.ad aC.1;have ab:=cL.ad aC.2;simp only[al.ok,al.ll,al.val];cases gP:ad u x<;>simp[gP,uO]at aA;cases zo:ad u y<;>simp[zo]at aA;rw[gP]at F;rw[zo]at ab;obtain⟨xs,aX,fP⟩:=F.wP;obtain⟨ys,bg,dX⟩:=ab.wP;obtain⟨dU,ha⟩:=apR aA fP dX;simp only[aX,bg,ao,dU,ha,uO,oY];exact⟨aA,.dc rfl⟩
  | oU op x=>
    simp[al.jg]at aC;have S:=cL.ad aC;simp only[al.k5,al.ok,al.ll,al.val]at aA⊢;cases gP:ad u x with
    |int k n=>rw[gP]at S aA;rw[S.qs];exact⟨aA,by cases op<;>first|exact .dc rfl|exact cQ.undef⟩
    |bool b=>rw[gP]at S aA;rw[S.uN];exact⟨aA,by cases op<;>first|exact .dc rfl|exact cQ.undef⟩
    |_=>rw[gP]at aA;cases op<;>simp[Ca]at aA
  | yY k x=>simp[al.jg]at aC;have e:=uP (cL.ad aC) aA;simp only[al.ok,al.ll,al.val,e];exact⟨aA,.dc rfl⟩
  | Hv x=>simp[al.jg]at aC;have e:=Gk (cL.ad aC) aA;simp only[al.ok,al.ll,al.val,e];refine⟨aA,?_⟩;simp only[al.k5,al.ok]at aA;cases F:ad u x<;>simp[F,nq]at aA;exact .dc rfl
  | qR x=>
    simp[al.jg]at aC;have S:=cL.ad aC;simp only[al.k5,bK]at aA;have aE:=W8 M S aA.1;have e:hX m 1 (ad ae x)=sl t 1 (ad u x):=by
      apply List.ext_getElem
      · exact aE.1.symm
      · intro i B H;have a6:=aE.2 i _ _ (c0 H) (c0 B);have ar:=hJ.1 aA.2 _ (qM H);generalize(sl t 1 (ad u x))[i]=a at a6 ar;cases a<;>simp[Jv]at ar;exact a6.qs
    simp only[al.ok,al.ll,al.val,e,bK];exact⟨⟨agE M S aA.1,aA.2⟩,.dc rfl⟩
  | G2 x cK ag=>simp[al.jg]at aC;have eQ: ∀o,cK=some o->er o=true:= λo h=>aC.2.1 o h;have zh: ∀o,ag=some o->er o=true:= λo h=>aC.2.2 o h;simp only[al.k5,al.ok,bK,fU]at aA;obtain⟨⟨⟨⟨⟨B,H⟩,af⟩,aL⟩,cm⟩,dK⟩:=aA;have e:=Gk (cL.ad aC.1) B;obtain⟨aX,bg⟩:=OB cL eQ H 0;obtain⟨dU,ha⟩:=OB cL zh af (ib (ad u x));simp only[al.ok,al.ll,al.val,e,aX,bg,dU,ha,bK,fU];exact⟨⟨⟨⟨⟨⟨B,trivial⟩,trivial⟩,aL⟩,cm⟩,dK⟩,.dc rfl⟩
  | qI O x cK ag=>
    simp[al.jg]at aC;have eQ: ∀o,cK=some o->er o=true:= λo h=>aC.2.1 o h;have zh: ∀o,ag=some o->er o=true:= λo h=>aC.2.2 o h;simp only[al.k5,bK,fU]at aA;obtain⟨⟨⟨⟨⟨B,H⟩,af⟩,aL⟩,cm⟩,dK⟩:=aA;have S:=cL.ad aC.1;have xH:=UJ S;obtain⟨aX,bg⟩:=OB cL eQ H 0;obtain⟨dU,ha⟩:=OB cL zh af (l0 (ad u x));simp only[al.ok,al.ll,al.val,<-xH,aX,bg,dU,ha,bK,fU];refine⟨⟨⟨⟨⟨⟨O8 S B,trivial⟩,trivial⟩,aL⟩,cm⟩,dK⟩,arX S B (by omega) ?_⟩;have:l0 (ad u x)=m5 (ad u x):=by
      have eh:=O8 S B;rw[xH,VQ S];unfold kr at eh;split at eh
      · simp at eh;next bz=>rw[bz];simp[ib,hL]
      · next bz=>rw[bz];simp[ib,hL]
      · cases eh
    omega
  | xg O x cK ag fQ=>
    simp[al.jg]at aC;have eQ: ∀o,cK=some o->er o=true:= λo h=>aC.2.2.2 o (by simp[h]);simp only[al.k5,bK,fU]at aA;obtain⟨⟨⟨⟨⟨⟨⟨B,H⟩,af⟩,aL⟩,cm⟩,dK⟩,hh⟩,iV⟩:=aA;have S:=cL.ad aC.1;have xH:=UJ S;obtain⟨aX,bg⟩:=OB cL eQ H 0;have dU:=uP (cL.ad aC.2.1) af;have ha:=uP (cL.ad aC.2.2.1) aL;simp only[al.ok,al.ll,al.val,<-xH,aX,bg,dU,ha,bK,fU];refine⟨⟨⟨⟨⟨⟨⟨⟨O8 S B,trivial⟩,af⟩,aL⟩,cm⟩,dK⟩,hh⟩,iV⟩,arX S B (by omega) ?_⟩;have:l0 (ad u x)=m5 (ad u x):=by
      have eh:=O8 S B;rw[xH,VQ S];unfold kr at eh;split at eh
      · simp at eh;next bz=>rw[bz];simp[ib,hL]
      · next bz=>rw[bz];simp[ib,hL]
      · cases eh
    omega
  | sY O n x=>
    simp[al.jg]at aC;have S:=cL.ad aC;simp only[al.k5,al.ok,bK]at aA;simp only[al.ok,al.ll,al.val,bK];have rP:pd (ad u x)=false:=by cases F:ad u x<;>simp[F,g8]at aA<;>rfl
    have bm:uo t (ad u x) (n*O)=true:=(by rw[uo,rP];exact aA.1);refine⟨⟨PT M S bm,aA.2⟩,?_⟩;cases F:ad u x<;>simp[F,g8]at aA
    next a=>
      cases a with
      |none=>simp at aA
      | some a=>rw[F]at S;obtain⟨b,B,H,af⟩:=S.wQ;rw[af];simp only[KJ];exact .slice B
  |vq off x=>simp[al.jg]at aC;exact⟨aqX (cL.ad aC) aA,aqW (cL.ad aC) aA off⟩
  | field df off n x=>
    simp[al.jg]at aC;have S:=cL.ad aC;simp only[al.k5,al.ok,bK]at aA;simp only[al.ok,al.ll,al.val,bK];cases F:ad u x<;>simp[F,Lf]at aA;rw[F]at S;obtain⟨ys,e,aE⟩:=S.wP;have:=aE.1;simp at this;rw[e];refine⟨⟨by simp[Lf];omega,by simpa using aA.2⟩,?_⟩;simp only[Qw];split
    · exact((aE.drop _).take _).agg
    · next xS=>rename_i cs;have B:n=1:=(by simpa[xS]using aA.2);have ag:off<cs.toList.length:=(by simp;omega);obtain⟨y,ab,Y0⟩:=aE.U (c0 ag);rw[mr,mr,c0 ag,ab];exact Y0
  | sC O x i=>simp[al.jg]at aC;simp only[al.k5,bK,fU]at aA;obtain⟨⟨⟨B,H⟩,af⟩,aL⟩:=aA;have S:=cL.ad aC.1;have e:=uP (cL.ad aC.2) H;simp only[al.ok,al.ll,al.val,e,<-UJ S,bK,fU];exact⟨⟨⟨⟨O8 S B,H⟩,af⟩,aL⟩,aLq S B af aL⟩
  | wN O n x i=>simp[al.jg]at aC;simp only[al.k5,bK,fU]at aA;obtain⟨⟨⟨B,H⟩,af⟩,aL⟩:=aA;have S:=cL.ad aC.1;have e:=uP (cL.ad aC.2) H;simp only[al.ok,al.ll,al.val,e,bK,fU];exact⟨⟨⟨⟨aqX S B,H⟩,af⟩,aL⟩,aqW S B _⟩
  | x5 x i=>simp[al.jg]at aC;simp only[al.k5,al.ok,bK,fU]at aA;obtain⟨⟨⟨B,H⟩,af⟩,aL⟩:=aA;have e:=uP (cL.ad aC.2) H;have aX:=Gk (cL.ad aC.1) B;simp only[al.ok,al.ll,al.val,e,aX,bK,fU];exact⟨⟨⟨⟨B,H⟩,af⟩,aL⟩,.dc rfl⟩
  | ext i x=>simp[al.jg]at aC;have S:=cL.ad aC;simp only[al.k5,al.ok]at aA;simp only[al.ok,al.ll,al.val];cases F:ad u x<;>simp[F,G7]at aA;rename_i dh;rw[F]at S;obtain⟨ys,e,aE⟩:=S.Iv;have:=aE.1;simp at this;rw[e];have ag:i<dh.toList.length:=(by simpa using aA);obtain⟨y,ab,Y0⟩:=aE.U (c0 ag);refine⟨by simp[G7];omega,?_⟩;simp only[Ej];rw[mr,mr,c0 ag,ab];exact Y0
  | w3 x=>simp[al.jg]at aC;have aX:=Gk (cL.ad aC) aA;simp only[al.ok,al.ll,al.val,aX];exact⟨aA,.dc rfl⟩
  | vO x=>simp[al.jg]at aC;have S:=cL.ad aC;refine⟨aGj S aA,?_⟩;simp only[al.ll,al.val,UJ S];exact .dc rfl
  | yo fQ x xs=>simp[al.jg]at aC;simp only[al.k5,al.ok,bK]at aA;have e:=uP (cL.ad aC.1) aA.1;have x3:xs.all er=true:=(by simpa using aC.2);obtain⟨B,H⟩:=aqc cL fQ xs (ad u x) x3 aA.2 aA.1;simp only[al.ok,al.ll,al.val,e,B,bK];refine⟨⟨aA.1,?_⟩,.dc (axm H)⟩;simp only[hJ]at aA x3⊢;intro y ab;rw[uP (cL.ad (x3 y ab)) (aA.2 y ab)];exact aA.2 y ab
  | uR fn first lB=>
    simp only[al.k5]at aA;simp only[al.jg,xt,bK]at aC;refine⟨rfl,?_⟩;simp only[al.ll,al.val];cases fn with
    | func f=>have B:=cL.Qu aC.1;have H:=cL.Qu aC.2;exact .func (by simpa using B.1) (by simpa using B.2) (by simpa using H.1) (by simpa using H.2)
    |_=>cases aA
  |JE s0 x=>simp[al.jg]at aC;exact⟨rfl,.iface (cL.ad aC)⟩
  | Kb s0 x=>simp[al.jg]at aC;have S:=cL.ad aC;simp only[al.k5,al.ok]at aA;simp only[al.ok,al.ll,al.val];cases F:ad u x<;>simp[F,Mr]at aA;rw[F]at S;obtain⟨y,e,B⟩:=S.Ru;rw[e];exact⟨by simpa[Mr]using aA,B⟩
  | pY bI O o x gJ=>
    simp[al.jg]at aC;simp only[al.k5,al.ok]at aA;simp only[al.ok,al.ll,al.val];cases aN:ml t (ad u x)with
    |none=>rw[aN]at aA;cases aA
    | some bJ=>
      rw[aN]at aA;simp only at aA;obtain⟨eE,B,H⟩:=aHo M (cL.ad aC.1) aN;obtain⟨af,aL,cm⟩:=apw H (cL.ad aC.2) aA;rw[B,aL];rw[aL]at af;refine⟨af,?_⟩;simp only[Option.bind_some];have Im:cQ z W O O:= .dc cl;rcases ap8 (k:=ad u gJ) H cm with⟨aX,bg⟩|⟨a,b,aX,bg,dU⟩
      · rw[aX,bg];split
        · exact(b5.cons Im (b5.cons (.dc rfl) b5.nil)).tuple
        · exact Im
      · rw[aX,bg];split
        · exact(b5.cons dU (b5.cons (.dc rfl) b5.nil)).tuple
        · exact dU
  |_=>cases bz
end
def ke(W:gZ)(id mid:Nat):gZ:= λo=>if o=id then some mid else W o
section
variable {z:iS} {W:gZ} {u ae:aM} {t m:E} {v b2:Value} {id mid hl hV:Nat}
theorem h7.set(h:W id=none):h7 W (ke W id mid):= λo b K=>by
  unfold ke;split
  · next e=>subst e;rw[h]at K;cases K
  · exact K
structure uk(W:gZ)(z:iS)(t m:E)(id mid:Nat):Prop where
  e:W id=none
  b: ∀o,W o≠some mid
  f:z mid=none
  yA:id<t.next
  zV:mid<m.next
theorem uk.rZ(av:uk W z t m id mid){o b:Nat}(h:W o=some b):b≠mid:= λe=>by subst e;exact av.b o h
theorem gx.rZ(M:gx W z t m){p o c b:Nat}(h:W p=some c)(b6:W o=some b)(av:p≠o):c≠b:= λe=>by subst e;exact av (M.inj p o c h b6)
theorem j6{m:E}{b:Nat}{bJ:List (Value×Value)}(h:m.fg b=some bJ):m.U b=some ⟨[],true⟩/\m.mp b=some bJ:=by
  unfold E.fg at h;cases aq:m.U b with
  |none=>rw[aq]at h;cases h
  | some x=>
    obtain⟨cs,w⟩:=x;rw[aq]at h;cases cs with
    | nil=>cases w with
      |true=>exact⟨rfl,h⟩
      |false=>cases h
    |cons c cs=>cases h
theorem o7{m:E}{b:Nat}{bJ:List (Value×Value)}(h:m.U b=some ⟨[],true⟩)(b6:m.mp b=some bJ):m.fg b=some bJ:=by unfold E.fg;rw[h];exact b6
theorem U1(M:gx W z t m)(av:uk W z t m id mid){cs o3:List Value}(aK:b5 z W cs o3):gx (ke W id mid) z (t.an id (some ⟨cs,true⟩)) (m.an mid (some ⟨o3,true⟩)) where
  lu o x F:=by
    by_cases ah:o=id
    · subst ah;rw[cW av.yA]at F;cases F;exact .inl ⟨mid,o3,true,by simp[ke],cW av.zV,λ_=>rfl,aK.aD (j0.refl _) (h7.set av.e)⟩
    · rw[dC ah]at F;rcases M.lu o x F with⟨b,ds,w,B,H,af,aL⟩|⟨B,H⟩
      · exact .inl ⟨b,ds,w,by simp[ke,ah,B],by rw[dC (av.rZ B),H],af,aL.aD (j0.refl _) (h7.set av.e)⟩
      · exact .inr ⟨by simp[ke,ah,B],H⟩
  jB o bJ a2:=by
    by_cases ah:o=id
    · subst ah;have:=(j6 a2).2;rw[show(t.an o (some ⟨cs,true⟩)).mp=t.mp from rfl,M.lI o av.e]at this;cases this
    · rw[xP ah]at a2;obtain⟨b,eE,B,H,af⟩:=M.jB o bJ a2;exact⟨b,eE,by simp[ke,ah,B],by rw[xP (av.rZ B),H],af.aD (j0.refl _) (h7.set av.e)⟩
  lI o h:=by
    simp only[ke]at h;split at h
    · cases h
    · exact M.lI o h
  inj o o' b h b6:=by
    simp only[ke]at h b6;split at h
    · cases h;split at b6
      · next a b=>rw[a,b]
      · exact absurd b6 (av.b o')
    · split at b6
      · cases b6;exact absurd h (av.b o)
      · exact M.inj o o' b h b6
  fa o b h:=by
    simp only[ke]at h;split at h
    · next e=>cases h;subst e;exact⟨av.yA,av.zV⟩
    · exact M.fa o b h
  bG b ds h:=by
    have K:b≠mid:= λe=>by subst e;rw[av.f]at h;cases h
    obtain⟨⟨w,B⟩,H⟩:=M.bG b ds h;refine⟨⟨w,by rw[dC K,B]⟩,λo x ah F=> ?_⟩;simp only[ke]at ah;split at ah
    · cases ah;exact absurd rfl K
    · next dE=>rw[dC dE]at F;exact H o x ah F
theorem aqp(av:uk W z t m id mid)(B:hl<=id)(H:hV<=mid){x:Option fV}{y:Option fV}:bp hl hV W z t m (ke W id mid) z (t.an id x) (m.an mid y) where
  e:=h7.set av.e
  f:=j0.refl _
  mR o b h:=by
    simp only[ke]at h;split at h
    · next e=>cases h;subst e;exact .inr ⟨B,H⟩
    · exact .inl h
  fn b cs h:= .inl h
  ov:=eB _
  oS:=eB _
  rW b K _:=dC (by omega)
  ud b K:= λ⟨o,y,h,b6,AZ⟩=>by
    simp only[ke]at h;split at h
    · cases h;omega
    · next dE=>exact⟨o,y,h,by rw[dC dE]at b6;exact b6,AZ⟩
  rC b K:= λ⟨o,y,h,b6⟩=>by
    simp only[ke]at h;split at h
    · cases h;omega
    · next dE=>exact⟨o,y,h,by rw[dC dE]at b6;exact b6⟩
theorem aHL(M:gx W z t m)(av:uk W z t m id mid){bJ eE:List (Value×Value)}(aK:tb z W bJ eE):gx (ke W id mid) z (t.hx id bJ) (m.hx mid eE) where
  lu o x F:=by
    by_cases ah:o=id
    · subst ah;rw[Fh av.yA]at F;cases F;exact .inl ⟨mid,[],true,by simp[ke],Fh av.zV,λ_=>rfl,b5.nil⟩
    · rw[o8 ah]at F;rcases M.lu o x F with⟨b,ds,w,B,H,af,aL⟩|⟨B,H⟩
      · exact .inl ⟨b,ds,w,by simp[ke,ah,B],by rw[o8 (av.rZ B),H],af,aL.aD (j0.refl _) (h7.set av.e)⟩
      · exact .inr ⟨by simp[ke,ah,B],H⟩
  jB o gH a2:=by
    by_cases ah:o=id
    · subst ah;rw[LC av.yA]at a2;cases a2;exact⟨mid,eE,by simp[ke],LC av.zV,aK.aD (j0.refl _) (h7.set av.e)⟩
    · rw[LB ah]at a2;obtain⟨b,eE,B,H,af⟩:=M.jB o gH a2;exact⟨b,eE,by simp[ke,ah,B],by rw[LB (av.rZ B),H],af.aD (j0.refl _) (h7.set av.e)⟩
  lI o h:=by
    simp only[ke]at h;split at h
    · cases h
    · next dE=>show(if o=id then some bJ else t.mp o)=none;rw[if_neg dE];exact M.lI o h
  inj:=(U1 M av (cs:=[]) (o3:=[]) b5.nil).inj
  fa:=(U1 M av (cs:=[]) (o3:=[]) b5.nil).fa
  bG b ds h:=by
    have K:b≠mid:= λe=>by subst e;rw[av.f]at h;cases h
    obtain⟨⟨w,B⟩,H⟩:=M.bG b ds h;refine⟨⟨w,by rw[o8 K,B]⟩,λo x ah F=> ?_⟩;simp only[ke]at ah;split at ah
    · cases ah;exact absurd rfl K
    · next dE=>rw[o8 dE]at F;exact H o x ah F
theorem aHK(av:uk W z t m id mid)(B:hl<=id)(H:hV<=mid){bJ eE:List (Value×Value)}:bp hl hV W z t m (ke W id mid) z (t.hx id bJ) (m.hx mid eE) where
  e:=h7.set av.e
  f:=j0.refl _
  mR o b h:=by
    simp only[ke]at h;split at h
    · next e=>cases h;subst e;exact .inr ⟨B,H⟩
    · exact .inl h
  fn b cs h:= .inl h
  ov:=eB _
  oS:=eB _
  rW b K _:=o8 (by omega)
  ud b K:= λ⟨o,y,h,b6,AZ⟩=>by
    simp only[ke]at h;split at h
    · cases h;omega
    · next dE=>exact⟨o,y,h,by rw[o8 dE]at b6;exact b6,AZ⟩
  rC b K:= λ⟨o,y,h,b6⟩=>by
    simp only[ke]at h;split at h
    · cases h;omega
    · next dE=>exact⟨o,y,h,by rw[o8 dE]at b6;exact b6⟩
theorem aMg(M:gx W z t m){o b:Nat}{x:fV}{o3:List Value}{w:Bool}(b8:W o=some b)(F:t.U o=some x)(aS:x.own=true)(K:m.U b=some ⟨o3,w⟩)
    {ds AK:List Value} (aE:ds.length=x.cells.length) (aK:b5 z W ds AK) (akp:w=true):gx W z (t.an o (some ⟨ds,true⟩)) (m.an b (some ⟨AK,w⟩)) where
  lu p y ab:=by
    have cg:=M.fa o b b8;by_cases ah:p=o
    · subst ah;rw[cW cg.1]at ab;cases ab;exact .inl ⟨b,AK,w,b8,cW cg.2,λ_=>akp,aK⟩
    · rw[dC ah]at ab;rcases M.lu p y ab with⟨c,ds,w,B,H,af,aL⟩|B
      · exact .inl ⟨c,ds,w,B,by rw[dC (M.rZ B b8 ah),H],af,aL⟩
      · exact .inr B
  jB p bJ a2:=by
    have cg:=M.fa o b b8;by_cases ah:p=o
    · subst ah;obtain⟨B,H⟩:=j6 a2;rw[cW cg.1]at B;have ay:ds=[]:=(by simpa using B);subst ay;have fe:x.cells=[]:=Hj aE.symm;have:t.fg p=some bJ:=o7 (by rw[F];obtain⟨a,b⟩:=x;simp at fe aS;simp[fe,aS]) H;obtain⟨b7,eE,aj,ba,cD⟩:=M.jB p bJ this;rw[b8]at aj;cases aj;have nm:AK=[]:=Hj (by rw[<-aK.1];rfl);refine⟨b,eE,b8,?_,cD⟩;subst nm;subst akp;exact o7 (cW cg.2) (j6 ba).2
    · rw[xP ah]at a2;obtain⟨c,eE,B,H,af⟩:=M.jB p bJ a2;exact⟨c,eE,B,by rw[xP (M.rZ B b8 ah),H],af⟩
  lI:=M.lI
  inj:=M.inj
  fa:=M.fa
  bG c bJ h:=by
    obtain⟨⟨ee,B⟩,H⟩:=M.bG c bJ h;have aK:c≠b:= λe=>by subst e;have:=H o x b8 F;rw[aS]at this;cases this
    refine⟨⟨ee,by rw[dC aK,B]⟩,λp y Y ab=> ?_⟩;have:p≠o:= λe=>by subst e;rw[b8]at Y;cases Y;exact aK rfl
    rw[dC this]at ab;exact H p y Y ab
theorem ag0(M:gx W z t m){o b:Nat}{x:fV}(b8:W o=some b)(F:t.U o=some x)(aS:x.own=true){y O:Option fV}:bp hl hV W z t m W z (t.an o y) (m.an b O) where
  e:=h7.refl _
  f:=j0.refl _
  mR o b h:= .inl h
  fn b cs h:= .inl h
  ov:=eB _
  oS:=eB _
  rW c aK av:=dC (λe=>av (by subst e;exact⟨o,x,b8,F,aS⟩))
  ud c aK:= λ⟨p,aG,h,b6,AZ⟩=>by
    by_cases Y:p=o
    · subst Y;rw[b8]at h;cases h;exact⟨p,x,b8,F,aS⟩
    · rw[dC Y]at b6;exact⟨p,aG,h,b6,AZ⟩
  rC c aK:= λ⟨p,aG,h,b6⟩=>by
    by_cases Y:p=o
    · subst Y;rw[b8]at h;cases h;exact⟨p,x,b8,F⟩
    · rw[dC Y]at b6;exact⟨p,aG,h,b6⟩
theorem ait(M:gx W z t m){o:Nat}:gx W z (t.an o none) m where
  lu p y ab:=by
    by_cases ah:p=o
    · subst ah;by_cases cg:p<t.next
      · rw[cW cg]at ab;cases ab
      · have B:(t.an p none).U p=none:=n6 (by simp;omega);rw[B]at ab;cases ab
    · rw[dC ah]at ab;exact M.lu p y ab
  jB p bJ a2:=by
    by_cases ah:p=o
    · subst ah;have:=(j6 a2).1;by_cases cg:p<t.next
      · rw[cW cg]at this;cases this
      · have B:(t.an p none).U p=none:=n6 (by simp;omega);rw[B]at this;cases this
    · rw[xP ah]at a2;exact M.jB p bJ a2
  lI:=M.lI
  inj:=M.inj
  fa:=M.fa
  bG c bJ h:=by
    obtain⟨B,H⟩:=M.bG c bJ h;refine⟨B,λp y Y ab=> ?_⟩;by_cases ah:p=o
    · subst ah;by_cases cg:p<t.next
      · rw[cW cg]at ab;cases ab
      · have B:(t.an p none).U p=none:=n6 (by simp;omega);rw[B]at ab;cases ab
    · rw[dC ah]at ab;exact H p y Y ab
theorem aiq{o:Nat}:bp hl hV W z t m W z (t.an o none) m where
  e:=h7.refl _
  f:=j0.refl _
  mR o b h:= .inl h
  fn b cs h:= .inl h
  ov:=eB _
  oS:=eB _
  rW c aK av:=rfl
  ud c aK:= λ⟨p,aG,h,b6,AZ⟩=>by
    by_cases Y:p=o
    · subst Y;by_cases cg:p<t.next
      · rw[cW cg]at b6;cases b6
      · have B:(t.an p none).U p=none:=n6 (by simp;omega);rw[B]at b6;cases b6
    · rw[dC Y]at b6;exact⟨p,aG,h,b6,AZ⟩
  rC c aK:= λ⟨p,aG,h,b6⟩=>by
    by_cases Y:p=o
    · subst Y;by_cases cg:p<t.next
      · rw[cW cg]at b6;cases b6
      · have B:(t.an p none).U p=none:=n6 (by simp;omega);rw[B]at b6;cases b6
    · rw[dC Y]at b6;exact⟨p,aG,h,b6⟩
theorem apz(M:gx W z t m){o b:Nat}{x:fV}(b8:W o=some b)(F:t.U o=some x)(aS:x.own=true):gx W z (t.an o none) (m.an b none) where
  lu p y ab:=by
    have cg:=M.fa o b b8;by_cases ah:p=o
    · subst ah;rw[cW cg.1]at ab;cases ab
    · rw[dC ah]at ab;rcases M.lu p y ab with⟨c,ds,w,B,H,af,aL⟩|B
      · exact .inl ⟨c,ds,w,B,by rw[dC (M.rZ B b8 ah),H],af,aL⟩
      · exact .inr B
  jB p bJ a2:=by
    have cg:=M.fa o b b8;by_cases ah:p=o
    · subst ah;have:=(j6 a2).1;rw[cW cg.1]at this;cases this
    · rw[xP ah]at a2;obtain⟨c,eE,B,H,af⟩:=M.jB p bJ a2;exact⟨c,eE,B,by rw[xP (M.rZ B b8 ah),H],af⟩
  lI:=M.lI
  inj:=M.inj
  fa:=M.fa
  bG c bJ h:=by
    obtain⟨⟨ee,B⟩,H⟩:=M.bG c bJ h;have aK:c≠b:= λe=>by subst e;have:=H o x b8 F;rw[aS]at this;cases this
    refine⟨⟨ee,by rw[dC aK,B]⟩,λp y Y ab=> ?_⟩;have:p≠o:= λe=>by subst e;rw[b8]at Y;cases Y;exact aK rfl
    rw[dC this]at ab;exact H p y Y ab
theorem aH7(s:ByteArray):b5 z W (DY s) (DY s):=b5.dc (by simp only[DY,List.all_map,hJ];intro b _;rfl)
structure vd(hl hV id mid:Nat)(W:gZ)(z:iS)(t m bu N:E)(v b2:Value)(ej:gZ):Prop where
  arT:gx ej z bu N
  val:cQ z ej v b2
  bG:bp hl hV W z t m ej z bu N
  aeE: ∀o,o≠id->ej o=W o
  self:ej id=W id\/ej id=some mid
theorem vd.new(M:gx W z t m)(av:uk W z t m id mid)(B:hl<=id)(H:hV<=mid){cs o3:List Value}(aK:b5 z W cs o3){v b2:Value}(S:cQ z (ke W id mid) v b2):
    ∃ej,vd hl hV id mid W z t m (t.an id (some ⟨cs,true⟩)) (m.an mid (some ⟨o3,true⟩)) v b2 ej:=
  ⟨ke W id mid,U1 M av aK,S,aqp av B H,λo ah=>by simp[ke,ah],.inr (by simp[ke])⟩
theorem vd.VJ(M:gx W z t m){v b2:Value}(S:cQ z W v b2): ∃ej,vd hl hV id mid W z t m t m v b2 ej:=⟨W,M,S,bp.refl,λ_ _=>rfl,.inl rfl⟩
theorem aIc(M:gx W z t m)(cL:jH z W u ae){k:al}(aK:k.mj=false)(ah:GK k=true)(aA:k.k5 u t=true)(av:k.gF=true->uk W z t m id mid)(B:hl<=id)(H:hV<=mid):
    k.ok ae m=true/\ ∃ej,vd hl hV id mid W z t m (k.zU id u t) (k.iH mid ae m) (k.ll id u t) (k.val mid ae m) ej:=by
  by_cases bz:k.aeX=true
  · obtain⟨a,b⟩:=aI2 M cL bz ah aA id mid;obtain⟨aX,bg⟩:=aI1 (u:=u) (ae:=ae) (t:=t) (m:=m) bz (id:=id) (lV:=mid);refine⟨a,?_⟩;rw[aX,bg];exact vd.VJ M b
  · simp only[GK,bK]at ah;obtain⟨aC,cl⟩:=ah;have C5:ke W id mid id=some mid:=(by simp[ke]);cases k with
    |eC O=>exact⟨rfl,vd.new M (av rfl) B H (b5.dc cl) (.cb C5)⟩
    | pK x=>simp[al.jg]at aC;exact⟨(cL.ad aC).aB aA,vd.new M (av rfl) B H (cL.ad aC).ao (.cb C5)⟩
    | jx a n O en=>have n8: ∀p∈en,er p.2.2=true:= λp Y=>hJ.1 aC _ (by simp only[al.jg];exact List.mem_map_of_mem Y);exact⟨aqR cL rfl n8 aA,vd.new M (av rfl) B H (aeN cL (b5.dc cl) n8) (.slice C5)⟩
    | sn x=>simp[al.jg]at aC;simp only[al.k5,al.ok,bK]at aA;have e:=Gk (cL.ad aC) aA.1;simp only[al.ok,al.ll,al.val,al.zU,al.iH,e,bK];exact⟨aA,vd.new M (av rfl) B H (aH7 _) (.slice C5)⟩
    | nN O bytes zero l c=>simp[al.jg]at aC;have Mb:=aA;simp only[al.k5,al.ok,bK]at aA;have aX:=uP (cL.ad aC.1) aA.1.1.1.1.1.1;have bg:=uP (cL.ad aC.2) aA.1.1.1.1.1.2;simp only[al.ok,al.ll,al.val,al.zU,al.iH,aX,bg,bK];exact⟨aA,vd.new M (av rfl) B H (b5.flatten (b5.dc cl)) (.slice C5)⟩
    | pj=>have:=av rfl;exact⟨rfl,ke W id mid,aHL M this ⟨rfl,λi e eD a=>by simp at a⟩,.map C5,aHK this B H,λo ah=>by simp[ke,ah],.inr C5⟩
    | store n x v=>
      simp[al.jg]at aC;have F:=cL.ad aC.1;have S:=cL.ad aC.2;simp only[al.k5,al.ok,bK,fU]at aA;obtain⟨⟨⟨aj,ba⟩,cD⟩,fs⟩:=aA;have rP:pd (ad u x)=false:=by cases gP:ad u x<;>simp[gP,g8]at aj<;>rfl
      have lD:=PT M F (n:=n) (by rw[uo,rP];exact aj);simp only[al.ok,al.ll,al.val,al.zU,al.iH,bK,fU];cases gP:ad u x with
      | pointer p=>
        cases p with
        |none=>simp[gP,g8]at aj
        | some a=>
          rw[gP]at F aj ba;obtain⟨b,aX,bg,dU⟩:=F.wQ;obtain⟨lP,ahA,ahD⟩:=a;simp only at aX bg dU;subst bg;cases aq:t.U lP with
          |none=>simp[aq]at aj
          | some y=>
            simp only[aui,aq,fU]at aj;simp only[ahw,aq]at ba;obtain⟨cs,w,bC,cq,cZ⟩:=M.qb aX aq;have aS:=cq ba;subst aS;rw[dU]at lD⊢;simp only[aLD,aq,bC,ahw,ba];refine⟨⟨⟨⟨lD,trivial⟩,S.aB cD⟩,by rw[<-S.ao.1];exact fs⟩,W,?_,cQ.undef,ag0 M aX aq ba,λ_ _=>rfl,.inl rfl⟩;exact aMg M aX aq ba bC (by
              have: ∀(dh:List Value) (cs:List Value) (o:Nat),(ku cs o dh).length=cs.length:=by
                intro dh;induction dh with
                |nil=>intro cs o;rfl
                |cons v dh cB=>intro cs o;simp only[ku,cB,List.length_set]
              exact this _ _ _) (cZ.ku _ S.ao) rfl
      |_=>simp[gP,g8]at aj
    | app O bytes x y=>
      simp[al.jg]at aC;have F:=cL.ad aC.1;have ab:=cL.ad aC.2;simp only[al.k5,bK,fU]at aA;obtain⟨⟨⟨⟨⟨aj,ba⟩,cD⟩,fs⟩,iU⟩,mc⟩:=aA;have rP:jL (ad u x)=false:=by cases gP:ad u x<;>simp[gP,ig]at aj<;>rfl
      have aiY:pq t O (ad u x)=true:=(by rw[pq,rP];exact aj);have lD:=agE M F aiY;have qW:=aLu M F ba;have y7:=agE M ab cD;have Xs:=VQ ab;have Xr:hL (ad u x)=hL (ad ae x):=(by rw[<-VQ F,m5,rP];rfl);have EW:b5 z W (hX t O (ad u x)) (hX m O (ad ae x)):=(by have:=W8 M F aiY;rw[sl,rP]at this;exact this);have Hy:=W8 M ab cD;simp only[al.ok,al.ll,al.val,al.zU,al.iH,bK,fU];refine⟨⟨⟨⟨⟨⟨lD,qW⟩,y7⟩,fs⟩,by rw[<-Xr,<-Xs];exact iU⟩,by rw[<-Xr,<-Xs];exact mc⟩,?_⟩;rw[<-Xs,<-Xr];split
      · exact vd.VJ M F
      · have sy:=av rfl;have key: ∃eu bo,mY t (ad u x)=eu/\mY m (ad ae x)=bo/\gx W z eu bo/\bp hl hV W z t m W z eu bo/\eu.next=t.next/\bo.next=m.next:=by
          refine⟨_,_,rfl,rfl,?_⟩;unfold ig at aj;split at aj
          · next gP=>rw[gP]at F⊢;have:ad ae x=_:=F.kx (by simpa[fy]using aj);rw[this];exact⟨M,bp.refl,rfl,rfl⟩
          · next a l c gP=>
            rw[gP]at F ba⊢;rcases F.rU with⟨b,aX,bg,dU⟩|⟨aX,bg,dU,ha⟩
            · rw[dU];cases aq:t.U a.block with
              |none=>simp[nX,aq]at ba
              | some y=>simp only[nX,aq]at ba;exact⟨apz M aX aq ba,ag0 M aX aq ba,rfl,rfl⟩
            · rw[ha];exact⟨ait M,aiq,rfl,rfl⟩
          · cases aj
        obtain⟨eu,bo,aX,bg,nn,ayO,awR,awS⟩:=key;rw[aX,bg];have azt:uk W z eu bo id mid:=⟨sy.e,sy.b,sy.f,by rw[awR];exact sy.yA,by rw[awS];exact sy.zV⟩;obtain⟨ej,q⟩:=vd.new (hl:=hl) (hV:=hV) nn azt B H (EW.uq Hy) (v:= .slice (some ⟨id,0,none⟩) (hL (ad u x)+m5 (ad u y)) O) (b2:= .slice (some ⟨mid,0,none⟩) (hL (ad u x)+m5 (ad u y)) O) (.slice C5);exact⟨ej,q.arT,q.val,ayO.trans q.bG,q.aeE,q.self⟩
    | p0 bI x gJ v=>
      simp[al.jg]at aC;have F:=cL.ad aC.1;have aa:=cL.ad aC.2.1;have S:=cL.ad aC.2.2;simp only[al.k5,al.ok]at aA;split at aA
      · next b gP=>
        cases aN:t.fg b with
        |none=>simp[aN]at aA
        | some bJ=>
          simp only[aN,bK]at aA;obtain⟨c,eE,bC,cq,cZ⟩:=M.jB b bJ aN;rw[gP]at F;obtain⟨eH,fR,gA⟩:=F.Mu;rw[bC]at fR;cases fR;obtain⟨eT,fk,hB⟩:=apw cZ aa aA.1;simp only[al.ok,al.ll,al.val,al.zU,al.iH,gP,gA,DN,aN,cq,Hf,bK];refine⟨⟨eT,S.au aA.2⟩,W,?_,cQ.undef,?_,λ_ _=>rfl,.inl rfl⟩
          · rw[fk];have L3:cQ z W (ad u gJ) (ad u gJ):=(by rw[fk]at aa;exact aa);have azk:=aqi L3 S cZ hB;have cg:=M.fa b c bC;refine⟨λp y ab=> ?_,λp gH Y=> ?_,λp Y=> ?_,M.inj,M.fa,λd ds ay=> ?_⟩
            · by_cases FD:p=b
              · subst FD;rw[Fh cg.1]at ab;cases ab;exact .inl ⟨c,[],true,bC,Fh cg.2,λ_=>rfl,b5.nil⟩
              · rw[o8 FD]at ab;rcases M.lu p y ab with⟨eH,ds,w,B,H,af,aL⟩|B
                · exact .inl ⟨eH,ds,w,B,by rw[o8 (M.rZ B bC FD),H],af,aL⟩
                · exact .inr B
            · by_cases FD:p=b
              · subst FD;rw[LC cg.1]at Y;cases Y;exact⟨c,_,bC,LC cg.2,azk⟩
              · rw[LB FD]at Y;obtain⟨eH,eE,B,H,af⟩:=M.jB p gH Y;exact⟨eH,eE,B,by rw[LB (M.rZ B bC FD),H],af⟩
            · have dE:p≠b:= λe=>by subst e;rw[bC]at Y;cases Y
              show(if p=b then _ else t.mp p)=none;rw[if_neg dE];exact M.lI p Y
            · obtain⟨⟨ee,aj⟩,ba⟩:=M.bG d ds ay;have aq:=(j6 aN).1;have ajv:d≠c:= λe=>by subst e;have:=ba b _ bC aq;cases this
              refine⟨⟨ee,by rw[o8 ajv,aj]⟩,λp y Y ab=> ?_⟩;have:p≠b:= λe=>by subst e;rw[bC]at Y;cases Y;exact ajv rfl
              rw[o8 this]at ab;exact ba p y Y ab
          · have aq:=(j6 aN).1;refine⟨h7.refl _,j0.refl _,λ_ _ h=> .inl h,λ_ _ h=> .inl h,eB _,eB _,λd ay aS=> ?_,λd ay=> λ⟨p,aG,h,b6,AZ⟩=> ?_,λd ay=> λ⟨p,aG,h,b6⟩=> ?_⟩
            · exact o8 (λe=>aS (by subst e;exact⟨b,_,bC,aq,rfl⟩))
            · by_cases Y:p=b
              · subst Y;rw[bC]at h;cases h;exact⟨p,_,bC,aq,rfl⟩
              · rw[o8 Y]at b6;exact⟨p,aG,h,b6,AZ⟩
            · by_cases Y:p=b
              · subst Y;rw[bC]at h;cases h;exact⟨p,_,bC,aq⟩
              · rw[o8 Y]at b6;exact⟨p,aG,h,b6⟩
      · cases aA
    |gl=>cases aK
    |ln=>cases aK
    |q2=>cases aK
    |_=>exact absurd rfl bz
theorem awd(M:gx W z t m)(cL:jH z W u ae){bI:List (Operand×Operand)}(aC:bI.all (λp=>er p.1&&er p.2)=true)(h:kY u t bI=true):mb ae bI=true:=by
  simp only[mb,kY,hJ]at h aC⊢;intro p Y;have B:=h p Y;have H:=aC p Y;obtain⟨x,y⟩:=p;simp only[bK]at H;simp only at B⊢;have F:=cL.ad H.1;have ab:=cL.ad H.2;generalize ad u x=a at F B;generalize ad ae x=cI at F;generalize ad u y=b at ab B;generalize ad ae y=b7 at ab;have apu: ∀{a cI:Value},cQ z W a cI->lW a=true-> ∀c,ai cI=some c-> ∃cs,z c=some cs:= λaC ab c aK=>by
    cases aC with
    |dc h=>have:=(wO h).2.2;rw[this]at ab;cases ab
    |jX e dD=>simp[ai]at aK;subst aK;exact⟨_,dD⟩
    |jK=>simp[ai]at aK
    |gb e dD=>simp[ai]at aK;subst aK;exact⟨_,dD⟩
    |_=>simp[lW]at ab
  have UF: ∀{a cI:Value},cQ z W a cI->lW a=false-> ∀c,ai cI=some c-> ∃o,ai a=some o/\W o=some c:= λaC ab c aK=>by
    cases aC with
    | dc h=>rename_i a;unfold ai at aK;split at aK<;>simp[fy]at h aK
    |cb b8=>simp[ai]at aK;subst aK;exact⟨_,rfl,b8⟩
    |slice b8=>simp[ai]at aK;subst aK;exact⟨_,rfl,b8⟩
    |map b8=>simp[ai]at aK;subst aK;exact⟨_,rfl,b8⟩
    |jX e=>subst e;simp at ab
    |jK e=>subst e;simp at ab
    |gb e=>subst e;simp at ab
    |_=>simp[ai]at aK
  have apt: ∀{c:Nat} {cs:List Value} {b:Value} {o:Nat},z c=some cs->ai b=some o->KO t b=true->W o=some c->False:= λ{c cs b o} dD K ah b8=>by
    simp only[KO,K,JQ]at ah;cases aq:t.U o with
    |none=>simp[aq]at ah
    | some x=>simp only[aq]at ah;have:=(M.bG c cs dD).2 o x b8 aq;rw[ah]at this;cases this
  cases n8:ai cI with
  |none=>rfl
  | some c=>
    cases hi:ai b7 with
    |none=>rfl
    | some d=>
      simp only;unfold PX at B;split at B
      · next Eo=>simp only[bK,Ak]at B;obtain⟨cs,ck⟩:=apu F Eo c n8;obtain⟨o,cE,eo⟩:=UF ab B.1 d hi;simp only[bne_iff_ne,ne_eq];intro e;subst e;exact apt ck cE B.2 eo
      · next Eo=>
        split at B
        · next xo=>obtain⟨cs,ck⟩:=apu ab xo d hi;obtain⟨o,cE,eo⟩:=UF F (by simpa using Eo) c n8;simp only[bne_iff_ne,ne_eq];intro e;subst e;exact apt ck cE B eo
        · next xo=>obtain⟨o,cE,eo⟩:=UF F (by simpa using Eo) c n8;obtain⟨o',xK,Le⟩:=UF ab (by simpa using xo) d hi;rw[cE,xK]at B;simp only[bne_iff_ne,ne_eq]at B⊢;intro e;subst e;exact B (M.inj o o' c eo Le)
end
def gV{α p7:Type}(f:α->Option p7):List α->Option (List p7)
  |[]=>some []
  | x::xs=>match f x with
    | some y=>(match gV f xs with
      |some ys=>some (y::ys)
      |none=>none)
    |none=>none
theorem JP{α p7:Type}{f:α->Option p7}: ∀{l:List α} {eZ:List p7},gV f l=some eZ->eZ.length=l.length/\ ∀(i:Nat) (y:p7),eZ[i]?=some y-> ∃x,l[i]?=some x/\f x=some y
  |[],eZ,h=>by cases h;exact⟨rfl,λi y h=>by simp at h⟩
  | x::xs,eZ,h=>by
    simp only[gV]at h;cases bs:f x with
    |none=>simp[bs]at h
    | some y=>
      cases aH:gV f xs with
      |none=>simp[bs,aH]at h
      | some ys=>
        simp only[bs,aH,nA]at h;subst h;obtain⟨B,H⟩:=JP aH;refine⟨by simp[B],λi O cl=> ?_⟩;cases i with
        |zero=>simp at cl;subst cl;exact⟨x,rfl,bs⟩
        |succ i=>exact H i O (by simpa using cl)
theorem GM{α:Type}{f:α->Option α}: ∀{l:List α},(∀x∈l,f x=some x)->gV f l=some l
  |[],_=>rfl
  | x::xs,h=>by have cB:gV f xs=some xs:=GM λy ab=>h y (Pv _ ab);simp only[gV,h x (by simp),cB]
def n5(O:Nat):Nat->List Value->List (List Value)
  |0,_=>[]
  |n+1,cs=>cs.take O::n5 O n (cs.drop O)
theorem ah4(O:Nat): ∀(n:Nat) (cs:List Value),(n5 O n cs).length=n
  |0,_=>rfl
  |n+1,cs=>by simp[n5,ah4 O n]
theorem ah3{O:Nat}: ∀{n:Nat} {cs:List Value} {i:Nat} {r:List Value},(n5 O n cs)[i]?=some r->i<n/\r=(cs.drop (i*O)).take O
  |0,cs,i,r,h=>by simp[n5]at h
  | n+1,cs,i,r,h=>by
    cases i with
    |zero=>simp[n5]at h;subst h;simp
    | succ i=>simp only[n5,Ps]at h;obtain⟨B,H⟩:=ah3 h;refine⟨by omega,?_⟩;rw[H,s9,mN];congr 2;omega
theorem W9{O:Nat}: ∀{bW:List (List Value)},(∀r∈bW,r.length=O)->n5 O bW.length bW.flatten=bW
  |[],_=>rfl
  | r::bW,h=>by have B:=h r (by simp);simp only[nB,n5,u7];rw[<-B,List.take_left,List.drop_left,B,W9 λx F=>h x (by simp[F])]
def il(v:Value):Bool:=fy v||lW v
def eg:Nat->E->Value->Option Value
  |0,_,v=>if il v then some v else none
  | n+1,t,v=>if il v then some v else match v with
    | .slice (some a) l O=>match t.U a.block with
      | some x=>if a.spot.isNone&&decide (a.off+l*O<=x.cells.length)then
          (match gV (gV (eg n t)) (n5 O l (x.cells.drop a.off))with
            |some bW=>some (aQ bW O)
            |none=>none)else none
      |none=>none
    | .agg cs=>match gV (eg n t) cs.toList with
      |some l=>some (.agg l.toArray)
      |none=>none
    | .tuple cs=>match gV (eg n t) cs.toList with
      |some l=>some (.tuple l.toArray)
      |none=>none
    | .func (.func f) xs cs=>match gV (eg n t) xs.toList,gV (eg n t) cs.toList with
      |some l,some k=>some (.func (.func f) l.toArray k.toArray)
      |_,_=>none
    |_=>none
def gd:Nat->E->Value->List Nat
  |0,_,_=>[]
  | n+1,t,v=>if il v then[]else match v with
    | .slice (some a) _ _=>a.block::(match t.U a.block with
      |some x=>x.cells.flatMap (gd n t)
      |none=>[])
    | .agg cs=>cs.toList.flatMap (gd n t)
    | .tuple cs=>cs.toList.flatMap (gd n t)
    | .func _ xs cs=>xs.toList.flatMap (gd n t)++cs.toList.flatMap (gd n t)
    |_=>[]
theorem W5{z gS:iS}{W:gZ}(dD:j0 z gS){v b2:Value}(S:cQ z W v b2)(aK:il v=true):cQ gS oi v b2:=by
  cases S with
  |dc h=>exact .dc h
  |jX e B H af aL=>exact .jX e (dD _ _ B) H af λi j r x y a b c=>(aL i j r x y a b c).aD dD (h7.refl _)
  |jK e=>exact .jK e
  |gb e B H af=>exact .gb e (dD _ _ B) H λj x y a b=>(af j x y a b).aD dD (h7.refl _)
  |_=>simp[il,fy,lW]at aK
theorem QE{z gS:iS}{W:gZ}{t m:E}(M:gx W z t m)(dD:j0 z gS): ∀(n:Nat) {v b2 r:Value},cQ z W v b2->eg n t v=some r->(∀o∈gd n t v,(t.U o).isSome=true-> ∀b cs w,W o=some b->m.U b=some ⟨cs,w⟩->gS b=some cs)->cQ gS oi r b2
  | 0,v,b2,r,S,h,_=>by
    simp only[eg]at h;split at h
    · next aK=>cases h;exact W5 dD S aK
    · cases h
  | n+1,v,b2,r,S,h,aH=>by
    simp only[eg]at h;simp only[gd]at aH;split at h
    · next aK=>cases h;exact W5 dD S aK
    · next aK=>
      rw[if_neg aK]at aH;have UM: ∀{xs ys bN:List Value},b5 z W xs ys->gV (eg n t) xs=some bN->(∀o∈xs.flatMap (gd n t),(t.U o).isSome=true-> ∀b cs w,W o=some b->m.U b=some ⟨cs,w⟩->gS b=some cs)->b5 gS oi bN ys:= λaE ah a6=>by obtain⟨B,H⟩:=JP ah;refine⟨by rw[B,aE.1],λi x y F ab=> ?_⟩;obtain⟨cr,gP,a2⟩:=H i x F;exact QE M dD n (aE.2 i cr y gP ab) a2 λo ah=>a6 o (Al.2 ⟨cr,fT gP,ah⟩)
      split at h
      · next a l O=>
        cases aq:t.U a.block with
        |none=>simp[aq]at h
        | some x=>
          simp only[aq]at h aH;split at h
          · next K=>
            simp only[bK,fU]at K;cases A6:gV (gV (eg n t)) (n5 O l (x.cells.drop a.off))with
            |none=>simp[A6]at h
            | some bW=>
              simp only[A6,nA]at h;subst h;obtain⟨aj,ba⟩:=JP A6;rw[ah4]at aj;rcases S.rU with⟨b,aX,bg,rfl⟩|⟨aX,bg,dU,rfl⟩
              · obtain⟨cs,w,bC,cq,cZ⟩:=M.qb aX aq;have uD:=aH a.block (by simp) (by rw[aq];rfl) b cs w aX bC;rw[<-aj];have sA: ∀(i:Nat) r,bW[i]?=some r->i<l/\ ∃p2,p2=(x.cells.drop (a.off+i*O)).take O/\gV (eg n t) p2=some r:= λi r ag=>by
                  obtain⟨p2,bM,dL⟩:=ba i r ag;obtain⟨fp,ns⟩:=ah3 bM;exact⟨fp,p2,by rw[ns,s9],dL⟩
                refine .jX rfl uD (by rw[aj,<-cZ.1];exact K.2) (λi r ag=> ?_) λi j r aG y ag c6 ab=> ?_
                · obtain⟨fp,p2,ns,mX⟩:=sA i r ag;rw[(JP mX).1,ns];simp;have:(i+1)*O<=l*O:=s6 _ fp;rw[mN]at this;omega
                · obtain⟨fp,p2,ns,mX⟩:=sA i r ag;obtain⟨kg,pg,qv⟩:=(JP mX).2 j aG c6;rw[ns,se]at pg;split at pg
                  · rw[rv]at pg;refine QE M dD n (cZ.2 _ kg y pg ab) qv λo ah=>aH o ?_;exact Pv _ (Al.2 ⟨kg,fT pg,ah⟩)
                  · cases pg
              · subst dU;have:bW=[]:=Hj aj;subst this;exact .jK rfl
          · cases h
      · next cs=>
        cases ah:gV (eg n t) cs.toList with
        |none=>simp[ah]at h
        | some l=>simp only[ah,nA]at h;subst h;obtain⟨ys,rfl,aE⟩:=S.wP;have:=(UM aE ah aH).agg;simpa using this
      · next cs=>
        cases ah:gV (eg n t) cs.toList with
        |none=>simp[ah]at h
        | some l=>simp only[ah,nA]at h;subst h;obtain⟨ys,rfl,aE⟩:=S.Iv;have:=(UM aE ah aH).tuple;simpa using this
      · next f xs cs=>
        cases ah:gV (eg n t) xs.toList with
        |none=>simp[ah]at h
        | some l=>
          cases tz:gV (eg n t) cs.toList with
          |none=>simp[ah,tz]at h
          | some k=>simp only[ah,tz,nA]at h;subst h;obtain⟨ys,ds,rfl,aE,aa⟩:=S.Iu;have B:=UM aE ah λo h=>aH o (mM.2 (.inl h));have H:=UM aa tz λo h=>aH o (mM.2 (.inr h));exact .func (by simpa using B.1) (by simpa using B.2) (by simpa using H.1) (by simpa using H.2)
      · cases h
def Lj(n:Nat)(t:E)(args:List Value):Option (List Value):=gV (eg n t) args
def xf(t:E):List Nat->E
  |[]=>t
  |o::l=>xf (match t.U o with|some x=>t.an o (some ⟨x.cells,false⟩)|none=>t) l
def vi(t:E)(l:List Nat):E:=⟨t.next,t.mw,λo=>if o∈l then none else t.mp o⟩
@[simp] theorem awf(t:E):vi t []=t:=by simp[vi]
@[simp] theorem aQw(t:E)(l:List Nat)(o:Nat):(vi t l).U o=t.U o:=rfl
@[simp] theorem aQx(t:E)(l:List Nat):(vi t l).next=t.next:=rfl
theorem aF:(∀(m:E) (b:Nat) (x:Option fV),(m.an b x).next=m.next)/\(∀(m:E) (k:Nat),(m.bx k).next=m.next+k)/\(∀(m:E) (b:Nat) (bJ:List (Value×Value)),(m.hx b bJ).next=m.next)/\ ∀(t:E) (l:List Nat),(vi t l).next=t.next:=⟨λ_ _ _=>rfl,λ_ _=>rfl,λ_ _ _=>rfl,λ_ _=>rfl⟩
@[simp] theorem aYW(t:E):xf t []=t:=rfl
@[simp] theorem agB(t:E)(o:Nat)(l:List Nat):xf t (o::l)=xf (match t.U o with|some x=>t.an o (some ⟨x.cells,false⟩)|none=>t) l:=rfl
theorem agD: ∀(l:List Nat) (t:E),(xf t l).next=t.next
  |[],t=>rfl
  | o::l,t=>by rw[agB,agD l];split<;>rfl
theorem J1: ∀(l:List Nat) (t:E) (p:Nat) (x:fV),(xf t l).U p=some x-> ∃y,t.U p=some y/\x.cells=y.cells/\(x.own=true->y.own=true)/\(p∈l->x.own=false)
  |[],t,p,x,h=>⟨x,h,rfl,λh=>h,λh=>by simp at h⟩
  | o::l,t,p,x,h=>by
    rw[agB]at h;obtain⟨y,B,H,af,aL⟩:=J1 l _ p x h;cases aq:t.U o with
    | none=>
      rw[aq]at B;refine⟨y,B,H,af,λY=> ?_⟩;rcases oz.1 Y with rfl|Y
      · simp only at B;rw[aq]at B;cases B
      · exact aL Y
    | some O=>
      rw[aq]at B;simp only at B;by_cases YN:p=o
      · subst YN;rw[cW (aO aq)]at B;cases B;have bs:x.own=false:=by
          cases F:x.own with
          |false=>rfl
          |true=>have:=af F;cases this
        exact⟨O,aq,H,(λF=>by rw[bs]at F;cases F),λ_=>bs⟩
      · rw[dC YN]at B;exact⟨y,B,H,af,λY=>aL ((oz.1 Y).resolve_left YN)⟩
theorem agC: ∀(l:List Nat) (t:E),(xf t l).mp=t.mp
  |[],t=>rfl
  | o::l,t=>by rw[agB,agC l];split<;>rfl
section
variable (P:Program)
def Au(z:iS)(m:E):Prop:= ∀b cs,z b=some cs-> ∃w,m.U b=some ⟨cs,w⟩
def c4(f:Nat)(args:List Value)(r:Value):Prop:= ∀(z:iS) (m:E) (a1i:List Value),Au z m->b5 z oi args a1i->
  bU P f a1i m λhy N=>m.next<=N.next/\(∀b,b<m.next->N.U b=m.U b)/\ ∃dH,j0 z dH/\Au dH N/\cQ dH oi r hy
def iE(f:Nat)(args:List Value)(t:E)(aI:Value->E->Prop):Prop:= ∀(W:gZ) (z:iS) (a1i:List Value) (m:E),gx W z t m->b5 z W args a1i->
  bU P f a1i m λhy N=> ∃ej dH r bu,aI r bu/\gx ej dH bu N/\cQ dH ej r hy/\bp t.next m.next W z t m ej dH bu N
def gD(c:J)(u:aM)(t:E)(Q:dp->aM->E->Prop):Prop:=w6 c=true-> ∀(W:gZ) (z:iS) (ae:aM) (m:E),gx W z t m->jH z W u ae->
  cH P c ae m λe wk N=> ∃ej dH cC bu,Q e cC bu/\gx ej dH bu N/\jH dH ej cC wk/\bp t.next m.next W z t m ej dH bu N
structure cf where
  f:Nat
  fn:List Value->Option Value
  ok: ∀args r,fn args=some r->c4 P f args r
structure ly where
  f:Nat
  fn:List Value->E->Option (Value×E)
  ok: ∀args t r bu,fn args t=some (r,bu)-> ∀aI:Value->E->Prop,aI r bu->iE P f args t aI
structure si where
  p:List (cf P)
  i:List (ly P)
variable {P}
def HV:List (ly P)->Nat->Bool
  |[],_=>false
  |s::l,f=>s.f==f||HV l f
def Aa:List (ly P)->Nat->List Value->E->(Value->E->Prop)->Prop
  |[],_,_,_,_=>False
  | s::l,f,args,t,aU=>if s.f=f then(match s.fn args t with
    |some (r,bu)=>aU r bu
    |none=>False)else Aa l f args t aU
def HW:List (cf P)->Nat->Bool
  |[],_=>false
  |s::l,f=>s.f==f||HW l f
def yx:List (cf P)->Nat->List Value->(Value->Prop)->Prop
  |[],_,_,_=>False
  | s::l,f,args,aI=>if s.f=f then(match s.fn args with
    |some r=>aI r
    |none=>False)else yx l f args aI
def D2(a0:List (cf P))(f:Nat)(args:List Value)(t:E)(aU:Value->E->Prop):Prop:=match Lj 9 t args with
  |some ts=>yx a0 f ts λr=>aU r (if o6 r then vi t (args.flatMap (gd 9 t))else xf t (args.flatMap (gd 9 t)))
  |none=>False
def xF(a0:si P)(f:Nat)(args:List Value)(t:E)(wZ:Bool)(aU:Value->E->Prop):Prop:=
  if HW a0.p f then D2 a0.p f args t aU else wZ=true/\if HV a0.i f then Aa a0.i f args t aU else iE P f args t aU
def KW(a0:si P)(v:Value)(args:List Value)(t:E)(wZ:Bool)(aU:Value->E->Prop):Prop:=match v with
  | .func (.func f) first lB=>xF a0 f (first.toList++args++lB.toList) t wZ aU
  |_=>False
def lJ(a0:si P)(base:Nat)(o:cd)(u:aM)(t:E)(aU:aM->E->Prop):Prop:=match o.k with
  | .gl f a1i=>xF a0 f (a1i.map (ad u)) t (zJ u t o.bI) λr bu=>aU (dO u o.d r) bu
  | .ln x a1i=>KW a0 (ad u x) (a1i.map (ad u)) t (zJ u t o.bI) λr bu=>aU (dO u o.d r) bu
  | .q2 _ _ _=>False
  |k=>k.k5 u t=true/\kY u t o.bI=true/\aU (dO u o.d (k.ll (base+o.bb) u t)) (k.zU (base+o.bb) u t)
def eN(a0:si P)(base:Nat):List cd->aM->E->(aM->E->Prop)->Prop
  |[],u,t,aU=>aU u t
  |o::b4,u,t,aU=>if fY u o.g=true then lJ a0 base o u t (λu t=>eN a0 base b4 u t aU)else eN a0 base b4 (dO u o.d undef) t aU
def lb(a0:si P):J->aM->E->(dp->aM->E->Prop)->Prop
  | .skip,u,t,Q=>Q .gu u t
  | .G ops,u,t,Q=>eN a0 t.next ops u (kK ops t) (Q .gu)
  | .w1 _ _ _,_,_,_=>False
  | .D a b,u,t,Q=>lb a0 a u t λe u t=>match e with
    | .gu=>lb a0 b u t Q
    |e=>Q e u t
  | .a8 c a b,u,t,Q=>wU (ad u c)=true/\if yT (ad u c)=true then lb a0 a u t Q else lb a0 b u t Q
  | .block id c,u,t,Q=>lb a0 c u t λe u t=>match e with
    | .bw lV=>if lV=id then Q .gu u t else Q (.bw lV) u t
    |e=>Q e u t
  | .loop c,u,t,Q=>gD P (.loop c) u t Q
  | .bw id,u,t,Q=>Q (.bw id) u t
  | .aT,u,t,Q=>Q .aT u t
end
section
variable {P:Program} {z:iS} {W:gZ} {t m:E}
theorem aLx{l:List (ly P)}{f:Nat}{args:List Value}{t:E}{aU:Value->E->Prop}(h:Aa l f args t aU):iE P f args t aU:=by
  induction l with
  |nil=>exact h.elim
  | cons s l cB=>
    simp only[Aa]at h;split at h
    · next e=>
      cases bs:s.fn args t with
      |none=>rw[bs]at h;exact h.elim
      |some aKg=>obtain⟨r,bu⟩:=aKg;rw[bs]at h;have:=s.ok args t r bu bs aU h;rw[e]at this;exact this
    · exact cB h
theorem c4.aMh{f:Nat}{ts a1i:List Value}{r:Value}(h:c4 P f ts r)(dD:Au z m)(aC:b5 z oi ts a1i):bU P f a1i m λhy N=>m.next<=N.next/\(∀b,b<m.next->N.U b=m.U b/\(z b=none->N.mp b=m.mp b))/\
    ∃dH,j0 z dH/\Au dH N/\(∀b cs,dH b=some cs->z b=some cs\/m.next<=b)/\cQ dH oi r hy:=by
  obtain⟨p,Y⟩: ∃p:E,p=⟨m.next,λb=>if(z b).isSome then m.mw b else none,m.mp⟩:=⟨_,rfl⟩;have aeQ:p.next=m.next:=by rw[Y]
  have aIA:p.mp=m.mp:=by rw[Y]
  have Vf: ∀b,p.U b=if(z b).isSome then m.U b else none:= λb=>by
    rw[Y];simp only[E.U];split
    · rfl
    · split<;>rfl
  have part:qO p m:=⟨aeQ,aIA,λb x F=>by
    rw[Vf]at F;split at F
    · exact F
    · cases F⟩
  have ayk:Au z p:= λb cs K=>by obtain⟨w,aS⟩:=dD b cs K;exact⟨w,by rw[Vf,K];exact aS⟩
  refine(bU.frame part (h z p a1i ayk aC)).aD λhy N a6=> ?_;obtain⟨fb,⟨B,H,dH,af,aL,cm⟩,b4⟩:=a6;refine⟨b4.next,λb K=>⟨?_,λav=>(b4.OD b K (by rw[Vf,av];rfl)).2.2⟩,dH,af,λb cs K=> ?_,λb cs K=> ?_,cm⟩
  · cases aq:p.U b with
    |none=>exact(b4.OD b K aq).1
    |some x=>rw[part.U b x aq];exact b4.part.U b x (by rw[H b (by rw[aeQ];exact K),aq])
  · obtain⟨w,aS⟩:=aL b cs K;exact⟨w,b4.part.U b _ aS⟩
  · by_cases cg:b<m.next
    · left;obtain⟨w,aS⟩:=aL b cs K;cases aq:p.U b with
      |none=>rw[(b4.OD b cg aq).2.1]at aS;cases aS
      | some x=>
        rw[H b (by rw[aeQ];exact cg)]at aS;rw[Vf]at aS;split at aS
        · next M=>
          cases ajz:z b with
          |none=>rw[ajz]at M;cases M
          | some o3=>obtain⟨ee,vA⟩:=dD b o3 ajz;rw[vA]at aS;cases aS;rfl
        · cases aS
    · exact .inr (by omega)
theorem axn{v b2:Value}(h:cQ z W v b2)(bs:o6 v=true):b2=v:=by
  unfold o6 at bs;split at bs
  · obtain⟨ys,rfl,aE⟩:=h.wP;rename_i cs;have:ys.toList=cs.toList:=by
      apply List.ext_getElem
      · exact aE.1.symm
      · intro i B H;exact(aE.2 i _ _ (c0 H) (c0 B)).kx (hJ.1 bs _ (qM H))
    rw[<-wh (xs:=ys),this]
  · obtain⟨ys,rfl,aE⟩:=h.Iv;rename_i cs;have:ys.toList=cs.toList:=by
      apply List.ext_getElem
      · exact aE.1.symm
      · intro i B H;exact(aE.2 i _ _ (c0 H) (c0 B)).kx (hJ.1 bs _ (qM H))
    rw[<-wh (xs:=ys),this]
  · exact h.kx bs
open Classical in
theorem aqY(M:gx W z t m){a0:List (cf P)}{f:Nat}{args a1i:List Value}(aC:b5 z W args a1i){aU:Value->E->Prop}(h:D2 a0 f args t aU):
    bU P f a1i m λhy N=>(∀b,b<m.next->N.U b=m.U b)/\ ∃dH r bu,aU r bu/\gx W dH bu N/\cQ dH W r hy/\bp t.next m.next W z t m W dH bu N:=by
  unfold D2 at h;cases cl:Lj 9 t args with
  |none=>rw[cl]at h;exact h.elim
  | some ts=>
    rw[cl]at h;simp only at h;obtain⟨l,aE⟩: ∃l,l=args.flatMap (gd 9 t):=⟨_,rfl⟩;rw[<-aE]at h;have nH: ∃r,c4 P f ts r/\aU r (if o6 r then vi t l else xf t l):=by
      clear cl aE;induction a0 with
      |nil=>exact h.elim
      | cons s a0 cB=>
        simp only[yx]at h;split at h
        · next e=>
          cases bs:s.fn ts with
          |none=>rw[bs]at h;exact h.elim
          |some r=>rw[bs]at h;exact⟨r,by have:=s.ok ts r bs;rw[e]at this;exact this,h⟩
        · exact cB h
    obtain⟨r,aH,jb⟩:=nH;obtain⟨gS,LN⟩: ∃gS:iS,gS= λb=>match z b with
      |some cs=>some cs
      |none=>if∃o,o∈l/\W o=some b/\(t.U o).isSome=true then(m.U b).map (·.cells)else none:=⟨_,rfl⟩
    have ck:j0 z gS:= λb cs K=>by rw[LN];simp[K]
    have cE: ∀b cs,gS b=some cs->z b=some cs\/(∃o,o∈l/\W o=some b):= λb cs K=>by
      rw[LN]at K;simp only at K;split at K
      · next B=>rw[B];exact .inl K
      · split at K
        · next B=>obtain⟨o,bM,dL,_⟩:=B;exact .inr ⟨o,bM,dL⟩
        · cases K
    have f5: ∀b cs,gS b=some cs->z b=some cs\/Kt W t b:= λb cs K=>by
      rw[LN]at K;simp only at K;split at K
      · next B=>rw[B];exact .inl K
      · split at K
        · next B=>obtain⟨o,_,dL,fp⟩:=B;obtain⟨x,F⟩:=Pz.1 fp;exact .inr ⟨o,x,dL,F⟩
        · cases K
    have eo:Au gS m:= λb cs K=>by
      rw[LN]at K;simp only at K;split at K
      · next B=>cases K;exact(M.bG b _ B).1
      · split at K
        · cases aq:m.U b with
          |none=>rw[aq]at K;cases K
          |some x=>rw[aq]at K;cases K;exact⟨x.own,rfl⟩
        · cases K
    have e8: ∀o∈l,(t.U o).isSome=true-> ∀b cs w,W o=some b->m.U b=some ⟨cs,w⟩->gS b=some cs:= λo ah gO b cs w b8 aq=>by
      rw[LN];simp only;cases wC:z b with
      |some ds=>obtain⟨⟨ee,vA⟩,_⟩:=M.bG b ds wC;rw[aq]at vA;cases vA;rfl
      |none=>simp only;rw[if_pos ⟨o,ah,b8,gO⟩,aq];rfl
    have ayA:b5 gS oi ts a1i:=(by obtain⟨B,H⟩:=JP cl;refine⟨by rw[B,aC.1],λi x y F ab=> ?_⟩;obtain⟨cr,gP,a2⟩:=H i x F;exact QE M ck 9 (aC.2 i cr y gP ab) a2 λo ah=>e8 o (by rw[aE];exact Al.2 ⟨cr,fT gP,ah⟩));refine(aH.aMh eo ayA).aD λhy N a6=> ?_;obtain⟨aj,ba,dH,cD,fs,iU,mc⟩:=a6;refine⟨λb K=>(ba b K).1,?_⟩;by_cases lU:o6 r=true
    · rw[if_pos lU]at jb;refine⟨z,r,_,jb,?_,by rw[axn mc lU];exact cQ.o6 lU,?_⟩
      · refine⟨λo x F=> ?_,λo bJ a2=> ?_,λo ah=> ?_,M.inj,λo b h=>⟨(M.fa o b h).1,nz (M.fa o b h).2 aj⟩,λb cs K=> ?_⟩
        · rcases M.lu o x F with⟨b,cs,w,B,H,af,aL⟩|B
          · exact .inl ⟨b,cs,w,B,by rw[(ba b (M.fa o b B).2).1,H],af,aL⟩
          · exact .inr B
        · obtain⟨aX,bg⟩:=j6 a2;have FC:o∉l:= λaN=>by simp[vi,aN]at bg
          have dU:t.mp o=some bJ:=(by simpa[vi,FC]using bg);obtain⟨b,eE,B,H,af⟩:=M.jB o bJ (o7 aX dU);refine⟨b,eE,B,?_,af⟩;obtain⟨aL,cm⟩:=j6 H;have K:=(M.fa o b B).2;have wC:gS b=none:=by
            cases bz:gS b with
            |none=>rfl
            | some cs=>
              rcases cE b cs bz with dK|⟨o',dK,hh⟩
              · have:=(M.bG b cs dK).2 o _ B aX;cases this
              · rw[M.inj o' o b hh B]at dK;exact absurd dK FC
          exact o7 (by rw[(ba b K).1];exact aL) (by rw[(ba b K).2 wC];exact cm)
        · show(if o∈l then none else t.mp o)=none;rw[M.lI o ah];simp
        · obtain⟨⟨w,B⟩,H⟩:=M.bG b cs K;exact⟨⟨w,by rw[(ba b (aO B)).1,B]⟩,H⟩
      · exact⟨h7.refl _,j0.refl _,λ_ _ h=> .inl h,λ_ _ h=> .inl h,eB _,aj,λb K _=>(ba b K).1,λb K aS=>aS,λb K aS=>aS⟩
    · rw[if_neg lU]at jb;have XT:=ck.trans cD;refine⟨dH,r,_,jb,?_,mc.aD (j0.refl _) (h7.nil _),?_⟩
      · refine⟨λo x F=> ?_,λo bJ a2=> ?_,λo ah=> ?_,M.inj,λo b h=>⟨by rw[agD];exact(M.fa o b h).1,nz (M.fa o b h).2 aj⟩,λb cs K=> ?_⟩
        · obtain⟨y,ab,aX,bg,_⟩:=J1 l t o x F;rcases M.lu o y ab with⟨b,cs,w,B,H,af,aL⟩|⟨B,H⟩
          · exact .inl ⟨b,cs,w,B,by rw[(ba b (M.fa o b B).2).1,H],λh=>af (bg h),by rw[aX];exact aL.aD XT (h7.refl _)⟩
          · exact .inr ⟨B,by rw[aX,H]⟩
        · obtain⟨aX,bg⟩:=j6 a2;obtain⟨y,ab,dU,ha,kF⟩:=J1 l t o _ aX;have FC:o∉l:= λaN=>by have:=kF aN;cases this
          have qo:y=⟨[],true⟩:=(by obtain⟨a,b⟩:=y;simp at dU ha;simp[dU,ha]);subst qo;rw[agC]at bg;obtain⟨b,eE,B,H,af⟩:=M.jB o bJ (o7 ab bg);refine⟨b,eE,B,?_,af.aD XT (h7.refl _)⟩;obtain⟨aL,cm⟩:=j6 H;have K:=(M.fa o b B).2;have wC:gS b=none:=by
            cases bz:gS b with
            |none=>rfl
            | some cs=>
              rcases cE b cs bz with dK|⟨o',dK,hh⟩
              · have:=(M.bG b cs dK).2 o _ B ab;cases this
              · rw[M.inj o' o b hh B]at dK;exact absurd dK FC
          exact o7 (by rw[(ba b K).1];exact aL) (by rw[(ba b K).2 wC];exact cm)
        · rw[agC];exact M.lI o ah
        · refine⟨fs b cs K,λo x b8 F=> ?_⟩;obtain⟨y,ab,aX,bg,dU⟩:=J1 l t o x F;have hi:=(M.fa o b b8).2;rcases iU b cs K with dK|dK
          · rcases cE b cs dK with hh|⟨o',hh,iV⟩
            · have mf:=(M.bG b cs hh).2 o y b8 ab;cases gP:x.own with
              |false=>rfl
              |true=>rw[bg gP]at mf;cases mf
            · rw[M.inj o' o b iV b8]at hh;exact dU hh
          · omega
      · refine⟨h7.refl _,XT,λ_ _ h=> .inl h,λb cs K=> ?_,by rw[agD];exact eB _,aj,λb K _=>(ba b K).1,λb K aS=> ?_,λb K aS=> ?_⟩
        · rcases iU b cs K with dK|dK
          · rcases f5 b cs dK with hh|hh
            · exact .inl hh
            · exact .inr (.inr hh)
          · exact .inr (.inl dK)
        · obtain⟨o,x,B,H,af⟩:=aS;obtain⟨y,ab,aX,bg,dU⟩:=J1 l t o x H;exact⟨o,y,B,ab,bg af⟩
        · obtain⟨o,x,B,H⟩:=aS;obtain⟨y,ab,aX,bg,dU⟩:=J1 l t o x H;exact⟨o,y,B,ab⟩
end
end Go.DI
