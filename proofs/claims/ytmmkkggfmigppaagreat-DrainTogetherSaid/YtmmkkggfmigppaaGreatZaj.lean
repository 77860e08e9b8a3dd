/-
  A part of the proof, shortened by tools of ours.
-/
import Derived.Test.YtmmkkggfmigppaaGreatZai
set_option linter.all false
set_option maxRecDepth 8000
set_option maxHeartbeats 16000000
namespace Go.DI
open Go Go.RowKit
section
variable {u:fU} {J:eU} {z K:aC} {t m:H} {v bX:Value}
theorem vS(h:ei v=true):iB v=false/\oI v=false/\lo v=false:=by cases v<;>simp_all [ei,iB,oI,lo]
theorem bL.headD{xs ys:List Value}(h:bL u J xs ys):cm u J (xs.headD undef) (ys.headD undef):=by
 cases xs with
 | nil=>cases ys with
   |nil=>exact cm.undef
   |cons y ys=>simp[bL]at h
 | cons x xs=>cases ys with
   |nil=>simp[bL]at h
   |cons y ys=>exact h.2 0 x y rfl rfl
theorem bL.agc: ∀{bI CC:List (List Value)},bI.length=CC.length->(∀(i:Nat) r dZ,bI[i]?=some r->CC[i]?=some dZ->bL u J r dZ)->bL u J bI.flatten CC.flatten
 |[],[],_,_=>bL.nil
 |[],_::_,h,_=>by simp at h
 |_::_,[],h,_=>by simp at h
 | r::bI,dZ::CC,h,bT=>by rw[sX,sX];exact(bT 0 r dZ rfl rfl).pV (bL.agc (by simpa using h) λi a b aa hb=>bT (i+1) a b (by simpa using aa) (by simpa using hb))
theorem bL.c3{c3 cs:List Value}{off k n:Nat}(az:off+c3.length<=cs.length)(ar: ∀(j:Nat) x y,c3[j]?=some x->cs[off+j]?=some y->cm u kS x y)(S:k+n<=c3.length):
 bL u J ((c3.drop k).take n) ((cs.drop (off+k)).take n):=by
 refine⟨by simp;omega,λi x y B Y=> ?_⟩;rw[rf]at B Y;split at B
 ·rename_i W;rw[if_pos W]at Y;rw[zd]at B Y;exact(ar (k+i) x y B (by rw[<-nS];exact Y)).bD (gS.refl _) (fE.nil _)
 ·cases B
theorem eb.m1(F:eb J u t m){o b:Nat}{x:eM}(ck:J o=some b)(B:t.I o=some x): ∃cs w,m.I b=some ⟨cs,w⟩/\(x.own=true->w=true)/\bL u J x.cells cs:=by
 rcases F.iU o x B with⟨cw,cs,w,A,D,ai,aT⟩|⟨A,_⟩
 ·rw[ck]at A;cases A;exact⟨cs,w,D,ai,aT⟩
 ·rw[ck]at A;cases A
theorem Jg(F:eb J u t m)(M:cm u J v bX){n:Nat}(h:sg t v n=true):gT m bX n=true:=by
 unfold sg at h;split at h
 ·rename_i W;obtain⟨c3,k,b,off,cs,rfl,rfl,dh,az,ar⟩:=M.aic W;obtain⟨⟨w,aS⟩,_⟩:=F.bZ b cs dh;simp at h;simp[aS];omega
 ·rename_i pF;unfold gT at h;split at h
  ·next a=>
   obtain⟨b,ck,gZ,rfl⟩:=M.sv;simp only[a6]at h;cases aH:t.I a.block with
   |none=>rw[aH]at h;simp at h
   | some x=>rw[aH]at h;obtain⟨cs,w,A,_,ai⟩:=F.m1 ck aH;simp at h;simp[A];have:=ai.1;omega
  ·cases h
theorem aan(F:eb J u t m)(M:cm u J v bX){n:Nat}{dr:Bool}(h:sg t v n=true)(A:(dr||decide (n=1))=true):cm u J (Ao t dr n v) (lH m dr n bX):=by
 unfold sg at h;unfold Ao;split at h
 ·rename_i W;rw[if_pos W];obtain⟨c3,k,b,off,cs,rfl,rfl,dh,az,ar⟩:=M.aic W;obtain⟨⟨w,aS⟩,_⟩:=F.bZ b cs dh;simp at h;simp only[aCA,afl,aS,ah6,an2];cases dr with
  |true=>exact(bL.c3 az ar h).agg
  |false=>simp at A;subst A;exact(bL.c3 az ar h).headD
 ·rename_i W;rw[if_neg W];unfold gT at h;split at h
  ·next a=>
   obtain⟨b,ck,gZ,rfl⟩:=M.sv;simp only[a6]at h;cases aH:t.I a.block with
   |none=>rw[aH]at h;simp at h
   | some x=>
     obtain⟨cs,w,D,_,ai⟩:=F.m1 ck aH;simp only[lH,gM,D];rw[aH];cases dr with
     |true=>exact((ai.drop _).take _).agg
     |false=>exact((ai.drop _).take _).headD
  ·cases h
theorem aoi(M:cm u J v bX)(h:rT v=true):sD bX=true:=by
 cases M with
 |c7 A=>obtain⟨_,D,_⟩:=vS A;simpa[rT,D]using h
 |bH h=>rfl
 |fi e=>rfl
 |jG e=>subst e;simp[rT,sD,ad,oI]at h
 |jH e=>subst e;simp[rT,sD,ad,oI]at h
 |_=>simp[rT,sD,oI]at h
theorem aoh(M:cm u J v bX)(h:rT v=true)(n:Nat):cm u J (yT v n) (yS bX n):=by
 cases M with
 | c7 A=>
   obtain⟨_,D,_⟩:=vS A;simp only[rT,D,Bool.false_or,sD]at h;split at h
   ·simp[ei]at A
   ·cases h
 |bH ck=>simp only[yT,oI,yS,je,if_false];exact .bH ck
 |fi e dh az ar=>subst e;simp only[yT,aBA,if_true,an2,ah6,yS,nS];exact .fi rfl dh az ar
 |jG e=>subst e;simp[rT,sD,ad,oI]at h
 |jH e=>subst e;simp[rT,sD,ad,oI]at h
 |_=>simp[rT,sD,oI]at h
theorem S0(M:cm u J v bX):lp v=fm bX:=by
 cases M with
 |c7 h=>simp[lp,(vS h).1]
 |jG e=>subst e;simp[lp,fm]
 |jH e=>subst e;simp[lp,fm]
 |fi e=>subst e;simp[lp,fm,fi,iB]
 |_=>rfl
theorem ID(M:cm u J v bX):k4 v=fR bX:=by
 cases M with
 |c7 h=>simp[k4,(vS h).1]
 |jG e=>subst e;simp[k4,fR]
 |jH e=>subst e;simp[k4,fR]
 |fi e=>subst e;simp[k4,fR,fi,iB]
 |_=>rfl
theorem aBB(M:cm u J v bX)(h:Cd v=true):iC bX=true:=by
 cases M with
 |c7 A=>simpa[Cd,(vS A).1]using h
 |jG e=>rfl
 |jH e=>rfl
 |fi e=>subst e;simp[Cd,fi,iB,iC]at h
 |_=>simpa[Cd,iB,iC]using h
theorem NM(M:cm u J v bX){G:Nat}(h:mW G v=true):pl G bX=true:=by
 cases M with
 |c7 A=>simpa[mW,(vS A).1]using h
 |jG e=>subst e;simpa[mW]using h
 |jH e=>rfl
 |fi e=>subst e;simp[mW,fi,iB,pl]at h
 |rZ=>rfl
 |slice=>simpa[mW,iB]using h
 |_=>simp[mW,iB,pl]at h
theorem apw(M:cm u J v bX){G l h:Nat}(Z:mW G v=true)(A:l<=h)(D:h<=k4 v):cm u J (u7 v G l h) (rY bX G l h):=by
 cases M with
 | c7 a5=>
   simp only[u7,(vS a5).1,je,if_false];unfold rY;split
   ·simp[ei]at a5
   ·exact .c7 rfl
 | jG e dh az bw ar=>
   rename_i b off j8 cs bI;subst e;have El:j8=G:=(by simpa[mW]using Z);subst El;have zM:h<=bI.length:=(by simpa[k4]using D);simp only[u7,SI,if_true,Qk,rY];have di:((bI.take h).drop l).length=h-l:=(by simp;omega);have ab:h*j8<=bI.length*j8:=zc _ zM;have bo:l*j8+(h-l)*j8=h*j8:=(by rw[<-oo];congr 1;omega);rw[<-di];refine .jG rfl dh (by rw[di];omega) (λi r al=> ?_) λi j r x y al B Y=> ?_
   ·rw[zd,rf]at al;split at al
    ·exact bw _ _ al
    ·cases al
   ·rw[zd,rf]at al;split at al
    ·refine ar _ j r x y al B ?_;rw[<-Y];congr 1;rw[oo];omega
    ·cases al
 | jH e=>subst e;simp only[u7,SI,if_true,Qk,rY];simp;exact .jH rfl
 |fi e=>subst e;simp[mW,fi,iB,pl]at Z
 | rZ=>have:h=0:=(by simpa[k4,iB,fR]using D);subst this;have:l=0:=(by omega);subst this;simp only[u7,iB,rY,je,if_false,Nat.zero_mul,wu,Nat.sub_self];exact .rZ
 |slice ck=>simp only[u7,iB,rY,je,if_false];exact .slice ck
 |_=>simp[mW,iB,pl]at Z
theorem aHd(M:cm u J v bX){G:Nat}{i:Int}(Z:mW G v=true)(bY:0<=i)(A:i<lp v):cm u J (CQ v G i) (CP bX G i):=by
 obtain⟨n,rfl⟩:=jX bY;cases M with
 | c7 a5=>
   simp only[lp,(vS a5).1,je,if_false]at A;simp only[mW,(vS a5).1,je,if_false]at Z;unfold pl at Z;split at Z
   ·simp[fm]at A;simp at Z;omega
   ·simp[ei]at a5
   ·cases Z
 | jG e dh az bw ar=>rename_i b off j8 cs bI;subst e;have El:j8=G:=(by simpa[mW]using Z);subst El;have D:n<bI.length:=(by simpa[lp]using A);simp only[CQ,SI,if_true,Qk,CP,ns];rw[nQ,c1 D,A0];have al:=c1 D;have vD:=bw _ _ al;have:(n+1)*j8<=bI.length*j8:=zc _ D;rw[oo]at this;exact .fi (off:=off+n*j8) (k:=0) rfl dh (by omega) λj x y B Y=>ar n j _ x y al B Y
 |jH e=>subst e;simp[lp]at A;omega
 |fi e=>subst e;simp[mW,fi,iB,pl]at Z
 |rZ=>simp[lp,iB,fm]at A;omega
 |slice ck=>simp only[CQ,iB,CP,je,if_false];exact .bH ck
 |_=>simp[mW,iB,pl]at Z
theorem FJ(F:eb J u t m)(M:cm u J v bX){G:Nat}(h:kz t G v=true):fw m G bX=true:=by
 cases M with
 | c7 a5=>
   simp only[kz,(vS a5).1,je,if_false]at h;unfold fw at h;split at h
   ·simpa[fw]using h
   ·simp[ei]at a5
   ·cases h
 | jG e dh az bw ar=>subst e;have:=(by simpa[kz]using h);subst this;obtain⟨⟨w,aS⟩,_⟩:=F.bZ _ _ dh;simp[aS,az]
 |jH e=>rfl
 |fi e=>subst e;simp[kz,fi,iB,fw]at h
 |rZ=>rfl
 | slice ck=>
   rename_i o b off l j8;simp only[kz,iB,je,if_false,apx,a6]at h⊢;refine⟨h.1,?_⟩;cases aH:t.I o with
   |none=>rw[aH]at h;simp at h
   | some x=>rw[aH]at h;obtain⟨cs,w,A,_,ai⟩:=F.m1 ck aH;have:=ai.1;simp[A]at h⊢;omega
 |_=>simp[kz,iB,fw]at h
theorem Gp(F:eb J u t m)(M:cm u J v bX){G:Nat}(h:kz t G v=true):bL u J (lb t G v) (fq m G bX):=by
 cases M with
 | c7 a5=>
   simp only[kz,(vS a5).1,je,if_false]at h;unfold fw at h;split at h
   ·exact bL.nil
   ·simp[ei]at a5
   ·cases h
 | jG e dh az bw ar=>rename_i b off j8 cs bI;subst e;have:=(by simpa[kz]using h);subst this;obtain⟨⟨w,aS⟩,_⟩:=F.bZ _ _ dh;simp only[lb,SI,if_true,Qk,aHg,afl,aS];obtain⟨CC,aD,aJ,cg⟩:=aoW bI.length off az;rw[<-aJ];refine bL.agc aD.symm λi r dZ al GW=> ?_;have W:=(cG.1 al).1;rw[cg i W]at GW;cases GW;have yk:=bw _ _ al;have:(i+1)*j8<=bI.length*j8:=zc _ W;rw[oo]at this;have:=bL.c3 (u:=u) (J:=J) (c3:=r) (cs:=cs) (off:=off+i*j8) (k:=0) (n:=j8) (by omega) (λj x y B Y=>ar i j r x y al B Y) (by omega);rw[oj,h7 (by omega)]at this;exact this
 |jH e=>subst e;simp[lb,fq];exact bL.nil
 |fi e=>subst e;simp[kz,fi,iB,fw]at h
 | rZ=>
   simp only[lb,iB,je,if_false,fq,gM];split
   ·simp;exact bL.nil
   ·exact bL.nil
 | slice ck=>
   rename_i o b off l j8;simp only[kz,iB,je,if_false,apx,a6]at h;simp only[lb,iB,je,if_false,fq,gM];cases aH:t.I o with
   |none=>rw[aH]at h;simp at h
   | some x=>obtain⟨cs,w,A,_,ai⟩:=F.m1 ck aH;simp only[A];exact(ai.drop _).take _
 |_=>simp[kz,iB,fw]at h
theorem Uf(F:eb J u t m)(M:cm u J v bX)(h:iJ t v=true):iJ m bX=true:=by
 unfold iJ at h;split at h
 ·rename_i l c;cases M with
  |c7 a5=>rfl
  |jG e=>simp[ad]at e
  |jH e=>simp[ad]at e
  |fi e=>simp[fi]at e
 ·rename_i a l c;rcases M.l6 with⟨b,ck,_,rfl⟩|⟨_,_,_,rfl⟩
  ·cases aH:t.I a.block with
   |none=>rw[aH]at h;cases h
   | some x=>rw[aH]at h;obtain⟨cs,w,A,D,ai⟩:=F.m1 ck aH;simp[A,D h]
  ·rfl
 ·cases h
theorem aCR(F:eb J u t m)(M:cm u J v bX){es:List (Value×Value)}(h:lI t v=some es): ∃db,lI m bX=some db/\sb u J es db:=by
 unfold lI at h;split at h
 ·cases h;have:bX= .map none:=M.hL rfl;subst this;exact⟨[],rfl,rfl,λi e dd a=>by simp at a⟩
 ·obtain⟨b,db,A,D,ai⟩:=F.maps _ _ h;obtain⟨cw,aT,rfl⟩:=M.KU;rw[A]at aT;cases aT;exact⟨db,D,ai⟩
 ·cases h
theorem amx(M:cm u J v bX){bd:lQ}(h:pJ bd v=true):bX=v:=by
 cases bd<;>cases v<;>simp[pJ]at h
 ·exact M.tE
 ·exact M.Ab
theorem amM{bd:lQ}{es db:List (Value×Value)}(aQ:sb u J es db)(M:cm u J v bX)(h:ob bd v es=true):ob bd bX db=true/\bX=v/\ ∀(i:Nat) e dd,es[i]?=some e->db[i]?=some dd->dd.1=e.1:=by
 simp only[ob,a6,dP]at h⊢;have aD:=amx M h.1;subst aD;have S: ∀(i:Nat) e dd,es[i]?=some e->db[i]?=some dd->dd.1=e.1:= λi e dd a b=>amx (aQ.2 i e dd a b).1 (h.2 e (fr a));refine⟨⟨h.1,λdd ab=> ?_⟩,rfl,S⟩;obtain⟨i,W,rfl⟩:=lN ab;have hK:i<es.length:=by rw[aQ.1];exact W
 rw[S i _ _ (c1 hK) (c1 W)];exact h.2 _ (kd hK)
theorem ana{k:Value}: ∀{es db:List (Value×Value)},sb u J es db->(∀(i:Nat) e dd,es[i]?=some e->db[i]?=some dd->dd.1=e.1)->(jR k es=none/\jR k db=none)\/ ∃a b,jR k es=some a/\jR k db=some b/\cm u J a b
 |[],[],_,_=> .inl ⟨rfl,rfl⟩
 |[],_::_,h,_=>by simp[sb]at h
 |_::_,[],h,_=>by simp[sb]at h
 | e::es,dd::db,h,S=>by
   have bY:=S 0 e dd rfl rfl;simp only[jR,bY];split
   ·exact .inr ⟨_,_,rfl,rfl,(h.2 0 e dd rfl rfl).2⟩
   ·exact ana ⟨by simpa using h.1,λi a b aa hb=>h.2 (i+1) a b (by simpa using aa) (by simpa using hb)⟩ λi a b aa hb=>S (i+1) a b (by simpa using aa) (by simpa using hb)
theorem anp{k v bX:Value}(zX:cm u J k k)(M:cm u J v bX): ∀{es db:List (Value×Value)},sb u J es db->(∀(i:Nat) e dd,es[i]?=some e->db[i]?=some dd->dd.1=e.1)->sb u J (lK k v es) (lK k bX db)
 | [],[],_,_=>⟨rfl,λi a b aa hb=>by
  cases i with
  |zero=>simp[lK]at aa hb;subst aa;subst hb;exact⟨zX,M⟩
  |succ i=>simp[lK]at aa⟩
 |[],_::_,h,_=>by simp[sb]at h
 |_::_,[],h,_=>by simp[sb]at h
 | e::es,dd::db,h,S=>by
   have bY:=S 0 e dd rfl rfl;have ba:sb u J es db:=⟨by simpa using h.1,λi a b aa hb=>h.2 (i+1) a b (by simpa using aa) (by simpa using hb)⟩;simp only[lK,bY];split
   ·refine⟨by simpa using h.1,λi a b aa hb=> ?_⟩;cases i with
    |zero=>simp at aa hb;subst aa;subst hb;exact⟨zX,M⟩
    |succ i=>exact ba.2 i a b (by simpa using aa) (by simpa using hb)
   ·have:=anp zX M ba λi a b aa hb=>S (i+1) a b (by simpa using aa) (by simpa using hb);refine⟨by simpa using this.1,λi a b aa hb=> ?_⟩;cases i with
    |zero=>simp at aa hb;subst aa;subst hb;exact h.2 0 e dd rfl rfl
    |succ i=>exact this.2 i a b (by simpa using aa) (by simpa using hb)
end
section
variable {u:fU} {J:eU} {z K:aC} {t m:H} {v bX:Value}
theorem MX(b2:hp u J z K){x:Option Operand}(B: ∀o,x=some o->df o=true)(h:pN z x=true)(d:Int):pN K x=true/\hf K x d=hf z x d:=by
 cases x with
 |none=>exact⟨rfl,rfl⟩
 | some o=>have e:=sw (b2.O (B o rfl)) h;simp only[pN,hf,e]at h⊢;exact⟨h,trivial⟩
theorem an3(b2:hp u J z K){cs ny:List Value}(az:cs.length=ny.length){ps:List (Nat×Nat×Operand)}(aa: ∀p∈ps,df p.2.2=true)(h:rS cs z ps=true):rS ny K ps=true:=by simp only[rS,dP]at h⊢;intro p Z;have:=h p Z;obtain⟨off,n,x⟩:=p;simp only[a6,ey]at this⊢;have M:=b2.O (aa _ Z);exact⟨⟨M.au this.1.1,by rw[<-M.an.1];exact this.1.2⟩,by rw[<-az];exact this.2⟩
theorem aa8(b2:hp u J z K): ∀{ps:List (Nat×Nat×Operand)} {cs ny:List Value},bL u J cs ny->(∀p∈ps,df p.2.2=true)->bL u J (nj cs z ps) (nj ny K ps)
 |[],_,_,h,_=>h
 | (off,n,x)::ps,_,_,h,aa=>by simp only[nj];exact aa8 b2 (h.gE off (b2.O (aa (off,n,x) (by simp))).an) λp Z=>aa p (by simp[Z])
theorem cm.xG{v:Value}(h:ei v=true\/v=Go.undef):cm u J v v:=by
 rcases h with h|rfl
 ·exact .c7 h
 ·exact cm.undef
theorem axn(op:BinOp)(k:IntKind)(a b:Int):ei (Ha op k a b)=true:=by cases op<;>rfl
theorem aHw(op:BinOp)(a b:ByteArray):ei (CU op a b)=true\/CU op a b=Go.undef:=by cases op<;>first|exact .inl rfl|exact .inr rfl
theorem asl(op:BinOp)(x y:Value):ei (mJ op x y)=true\/mJ op x y=Go.undef:=by
 unfold mJ;split
 ·exact .inl (axn _ _ _ _)
 ·exact aHw _ _ _
 ·split
  ·exact .inl rfl
  ·exact .inl rfl
  ·exact .inr rfl
theorem apm(M:cm u J v bX)(h:nZ v=true):bX=v\/(∃a ed,v= .pointer (some a)/\bX= .pointer (some ed))\/(∃a ed l G,v= .slice (some a) l G/\bX= .slice (some ed) l G)\/
 (∃f xs cs ys ds,v= .func (.func f) xs cs/\bX= .func (.func f) ys ds)\/(∃a b,v= .map a/\bX= .map b)\/(∃a b,v= .agg a/\bX= .agg b)\/(∃a b,v= .tuple a/\bX= .tuple b)\/ ∃t a b,v= .iface t a/\bX= .iface t b:=by
 cases M with
 |c7=>exact .inl rfl
 |bH=>exact .inr (.inl ⟨_,_,rfl,rfl⟩)
 |slice=>exact .inr (.inr (.inl ⟨_,_,_,_,rfl,rfl⟩))
 |rZ=>simp[nZ,lo]at h
 |map=>exact .inr (.inr (.inr (.inr (.inl ⟨_,_,rfl,rfl⟩))))
 |agg=>exact .inr (.inr (.inr (.inr (.inr (.inl ⟨_,_,rfl,rfl⟩)))))
 |tuple=>exact .inr (.inr (.inr (.inr (.inr (.inr (.inl ⟨_,_,rfl,rfl⟩))))))
 |func=>exact .inr (.inr (.inr (.inl ⟨_,_,_,_,_,rfl,rfl⟩)))
 |iface=>exact .inr (.inr (.inr (.inr (.inr (.inr (.inr ⟨_,_,_,rfl,rfl⟩))))))
 |jG e=>subst e;simp[nZ]at h
 |jH e=>subst e;simp[nZ]at h
 |fi e=>subst e;simp[nZ]at h
theorem ae8{x y:Value}{op:BinOp}{c:wz}(h:(fe x&&fe y)=false)(D:(mQ x&&mQ y)=false):um op c x y=(match op with| .eql| .neq=>wN c x y|_=>false):=by
 unfold um;split
 ·simp[fe]at h
 ·simp[mQ]at D
 ·rfl
theorem ae9{x y:Value}{op:BinOp}(h:(fe x&&fe y)=false)(D:(mQ x&&mQ y)=false):mJ op x y=(match op with| .eql=> .bool (qA x y)| .neq=> .bool (!qA x y)|_=>Go.undef):=by
 unfold mJ;split
 ·simp[fe]at h
 ·simp[mQ]at D
 ·rfl
theorem amu(M:cm u J v bX)(h:nZ v=true):fe bX=fe v/\mQ bX=mQ v:=by rcases apm M h with rfl|⟨a,ed,rfl,rfl⟩|⟨a,ed,l,G,rfl,rfl⟩|⟨f,xs,cs,ys,ds,rfl,rfl⟩|⟨a,b,rfl,rfl⟩|⟨a,b,rfl,rfl⟩|⟨a,b,rfl,rfl⟩|⟨t,a,b,rfl,rfl⟩<;>exact⟨rfl,rfl⟩
def IP:Value->Value
 | .pointer (some _)=> .pointer (some ⟨0,0,none⟩)
 | .slice (some _) _ _=> .slice (some ⟨0,0,none⟩) 0 0
 | .func _ _ _=> .func (.func 0) #[] #[]
 | .map _=> .map none
 | .agg _=> .agg #[]
 | .tuple _=> .tuple #[]
 | .iface _ _=> .iface 0 .nilIface
 |v=>v
theorem af3(c:wz)(x y:Value):wN c (IP x) (IP y)=wN c x y:=by cases c<;>cases x<;>cases y<;>first|rfl|(cases‹Option Addr› <;>first|rfl|(cases‹Option Addr› <;>rfl))
theorem af4(x y:Value):qA (IP x) (IP y)=qA x y:=by cases x<;>cases y<;>first|rfl|(cases‹Option Addr› <;>first|rfl|(cases‹Option Addr› <;>rfl))
theorem Uo(M:cm u J v bX)(h:nZ v=true):IP bX=IP v:=by rcases apm M h with rfl|⟨a,ed,rfl,rfl⟩|⟨a,ed,l,G,rfl,rfl⟩|⟨f,xs,cs,ys,ds,rfl,rfl⟩|⟨a,b,rfl,rfl⟩|⟨a,b,rfl,rfl⟩|⟨a,b,rfl,rfl⟩|⟨t,a,b,rfl,rfl⟩<;>rfl
theorem af5{x y hy sU:Value}{c:wz}(B:cm u J x hy)(Y:cm u J y sU)(A:nZ x=true)(D:nZ y=true)(h:wN c x y=true):wN c hy sU=true/\qA hy sU=qA x y:=by rw[<-af3,Uo B A,Uo Y D,af3,<-af4 hy sU,Uo B A,Uo Y D,af4];exact⟨h,rfl⟩
theorem asm{x y hy sU:Value}{op:BinOp}{c:wz}(B:cm u J x hy)(Y:cm u J y sU)(A:nZ x=true)(D:nZ y=true)(h:um op c x y=true):um op c hy sU=true/\mJ op hy sU=mJ op x y:=by
 obtain⟨kF,aU⟩:=amu B A;obtain⟨nG,bS⟩:=amu Y D;by_cases W:(fe x&&fe y)=true
 ·simp only[a6]at W;rw[sw B W.1,sw Y W.2];exact⟨h,rfl⟩
 ·by_cases F:(mQ x&&mQ y)=true
  ·simp only[a6]at F;rw[EN B F.1,EN Y F.2];exact⟨h,rfl⟩
  ·simp only[Bool.not_eq_true]at W F;rw[ae8 W F]at h;rw[ae8 (by rw[kF,nG];exact W) (by rw[aU,bS];exact F),ae9 W F,ae9 (by rw[kF,nG];exact W) (by rw[aU,bS];exact F)];cases op<;>simp only[je]at h⊢
   ·obtain⟨a,b⟩:=af5 B Y A D h;rw[b];exact⟨a,rfl⟩
   ·obtain⟨a,b⟩:=af5 B Y A D h;rw[b];exact⟨a,rfl⟩
theorem amS: ∀{fI:List r9} {bu bs zr Jt:List Value},jD fI bu bs=true->bL u J bu zr->bL u J bs Jt->zr=bu/\Jt=bs
 | [],[],[],zr,Jt,_,A,D=>by have aD:zr=[]:=pU (by rw[<-A.1];rfl);have aJ:Jt=[]:=pU (by rw[<-D.1];rfl);exact⟨aD,aJ⟩
 |k::fI,a::bu,b::bs,[],_,_,A,_=>by simp[bL]at A
 |k::fI,a::bu,b::bs,_::_,[],_,_,D=>by simp[bL]at D
 | k::fI,a::bu,b::bs,ed::zr,cw::Jt,h,A,D=>by simp only[jD,a6]at h;obtain⟨aD,aJ⟩:=amS h.2 ⟨by simpa using A.1,λi x y B Y=>A.2 (i+1) x y (by simpa using B) (by simpa using Y)⟩ ⟨by simpa using D.1,λi x y B Y=>D.2 (i+1) x y (by simpa using B) (by simpa using Y)⟩;have aa:=A.2 0 a ed rfl rfl;have hb:=D.2 0 b cw rfl rfl;have S:=h.1;have cg:ed=a:=(by cases k<;>cases a<;>cases b<;>simp[Bi]at S<;>exact aa.hL rfl);have gA:cw=b:=(by cases k<;>cases a<;>cases b<;>simp[Bi]at S<;>exact hb.hL rfl);rw[aD,aJ,cg,gA];exact⟨rfl,rfl⟩
 |[],_::_,_,_,_,h,_,_=>by simp[jD]at h
 |[],[],_::_,_,_,h,_,_=>by simp[jD]at h
 |_::_,[],_,_,_,h,_,_=>by simp[jD]at h
 |_::_,_::_,[],_,_,h,_,_=>by simp[jD]at h
theorem ank(b2:hp u J z K)(fK:Bool): ∀(xs:List Operand) (dN:Value),xs.all df=true->(xs.all λy=>fe (O z y))=true->fe dN=true->
 (xs.foldl (λdN y=>if fK then pK dN (O K y)else pM dN (O K y)) dN=xs.foldl (λdN y=>if fK then pK dN (O z y)else pM dN (O z y)) dN)/\fe (xs.foldl (λdN y=>if fK then pK dN (O z y)else pM dN (O z y)) dN)=true
 |[],dN,_,_,h=>⟨rfl,h⟩
 | y::xs,dN,aa,W,h=>by simp only[mZ,a6]at aa W;have e:=sw (b2.O aa.1) W.1;simp only[zg,e];refine ank b2 fK xs _ aa.2 W.2 ?_;have A:=W.1;cases dN<;>simp[fe]at h;cases Y:O z y<;>simp[Y,fe]at A;split<;>rfl
theorem at9(h:fe v=true):ei v=true:=by cases v<;>simp[fe]at h<;>rfl
def ah.abr:ah->Bool
 | .nu _| .oy _| .mh _ _ _ _| .pX _| .oc _ _ _ _ _| .app _ _ _ _| .oV _ _ _ _ _| .hJ _ _| .qW| .store _ _ _| .o7 _ _ _ _| .lA _ _| .m2 _ _| .mq _ _ _=>false
 |_=>true
theorem aEC{k:ah}(h:k.abr=true){id ki:Nat}:k.o6 id z t=t/\k.hd ki K m=m:=by cases k<;>first|exact⟨rfl,rfl⟩|cases h
theorem aED(F:eb J u t m)(b2:hp u J z K){k:ah}(bo:k.abr=true)(aB:At k=true)(av:k.jq z t=true)(id ki:Nat):k.ok K m=true/\cm u J (k.jW id z t) (k.val ki K m):=by
 simp only[At,a6]at aB;obtain⟨aa,bw⟩:=aB;cases k with
 |hs x=>simp[ah.hO]at aa;exact⟨rfl,b2.O aa⟩
 | uV c a b=>
   simp[ah.hO]at aa;have e:=ams (b2.O aa.1) av;refine⟨by simp only[ah.ok,e];exact av,?_⟩;simp only[ah.jW,ah.val,e];split
   ·exact b2.O aa.2.1
   ·exact b2.O aa.2.2
 | uT x=>
   simp[ah.hO]at aa;have M:=b2.O aa;refine⟨?_,M⟩;simp only[ah.jq,ah.ok]at av⊢;generalize O z x=a at M av;generalize O K x=ed at M;cases M with
   |c7=>exact av
   |_=>rfl
 | vl G ps=>have kD: ∀p∈ps,df p.2.2=true:= λp Z=>dP.1 aa _ (by simp only[ah.hO];exact List.mem_map_of_mem Z);have az:=bL.c7 (u:=u) (J:=J) bw;exact⟨an3 b2 rfl kD av,(aa8 b2 az kD).agg⟩
 | g4 dr n x=>simp[ah.hO]at aa;simp only[ah.jq,a6]at av;refine⟨?_,aan F (b2.O aa) av.1 av.2⟩;simp only[ah.ok,a6];exact⟨Jg F (b2.O aa) av.1,av.2⟩
 | nY op c x y=>simp[ah.hO]at aa;simp only[ah.jq,a6]at av;obtain⟨A,D⟩:=asm (b2.O aa.1) (b2.O aa.2) av.1.1 av.1.2 av.2;refine⟨A,?_⟩;simp only[ah.jW,ah.val,D];exact cm.xG (asl _ _ _)
 | zG ku fI x y=>simp[ah.hO]at aa;simp only[ah.jq,ah.ok,a6]at av;have B:=b2.O aa.1;have Y:=b2.O aa.2;simp only[ah.ok,ah.jW,ah.val];cases g3:O z x<;>simp[g3,vT]at av;cases KJ:O z y<;>simp[KJ]at av;rw[g3]at B;rw[KJ]at Y;obtain⟨xs,aD,hZ⟩:=B.uI;obtain⟨ys,aJ,jw⟩:=Y.uI;obtain⟨cg,gA⟩:=amS av hZ jw;simp only[aD,aJ,an,cg,gA,vT,C9];exact⟨av,.c7 rfl⟩
 | y5 op x=>
   simp[ah.hO]at aa;have M:=b2.O aa;simp only[ah.jq,ah.ok,ah.jW,ah.val]at av⊢;cases g3:O z x with
   |int k n=>rw[g3]at M av;rw[M.tE];exact⟨av,by cases op<;>first|exact .c7 rfl|exact cm.undef⟩
   |bool b=>rw[g3]at M av;rw[M.tD];exact⟨av,by cases op<;>first|exact .c7 rfl|exact cm.undef⟩
   |_=>rw[g3]at av;cases op<;>simp[AO]at av
 | Dx k x=>simp[ah.hO]at aa;have e:=sw (b2.O aa) av;simp only[ah.ok,ah.jW,ah.val,e];exact⟨av,.c7 rfl⟩
 | Gu x=>simp[ah.hO]at aa;have e:=EN (b2.O aa) av;simp only[ah.ok,ah.jW,ah.val,e];refine⟨av,?_⟩;simp only[ah.jq,ah.ok]at av;cases B:O z x<;>simp[B,mQ]at av;exact .c7 rfl
 | py x=>
   simp[ah.hO]at aa;have M:=b2.O aa;simp only[ah.jq,a6]at av;have az:=Gp F M av.1;have e:fq m 1 (O K x)=lb t 1 (O z x):=by
    apply AZ
    ·exact az.1.symm
    ·intro i A D;have bT:=az.2 i _ _ (c1 D) (c1 A);have a9:=dP.1 av.2 _ (kd D);generalize(lb t 1 (O z x))[i]=a at bT a9;cases a<;>simp[EO]at a9;exact bT.tE
   simp only[ah.ok,ah.jW,ah.val,e,a6];exact⟨⟨FJ F M av.1,av.2⟩,.c7 rfl⟩
 | FK x bk W=>simp[ah.hO]at aa;have lE: ∀o,bk=some o->df o=true:= λo h=>aa.2.1 o h;have yf: ∀o,W=some o->df o=true:= λo h=>aa.2.2 o h;simp only[ah.jq,ah.ok,a6,ey]at av;obtain⟨⟨⟨⟨⟨A,D⟩,ai⟩,aT⟩,bF⟩,cW⟩:=av;have e:=EN (b2.O aa.1) A;obtain⟨aD,aJ⟩:=MX b2 lE D 0;obtain⟨cg,gA⟩:=MX b2 yf ai (fm (O z x));simp only[ah.ok,ah.jW,ah.val,e,aD,aJ,cg,gA,a6,ey];exact⟨⟨⟨⟨⟨⟨A,trivial⟩,trivial⟩,aT⟩,bF⟩,cW⟩,.c7 rfl⟩
 | wg G x bk W=>
   simp[ah.hO]at aa;have lE: ∀o,bk=some o->df o=true:= λo h=>aa.2.1 o h;have yf: ∀o,W=some o->df o=true:= λo h=>aa.2.2 o h;simp only[ah.jq,a6,ey]at av;obtain⟨⟨⟨⟨⟨A,D⟩,ai⟩,aT⟩,bF⟩,cW⟩:=av;have M:=b2.O aa.1;have wK:=S0 M;obtain⟨aD,aJ⟩:=MX b2 lE D 0;obtain⟨cg,gA⟩:=MX b2 yf ai (lp (O z x));simp only[ah.ok,ah.jW,ah.val,<-wK,aD,aJ,cg,gA,a6,ey];refine⟨⟨⟨⟨⟨⟨NM M A,trivial⟩,trivial⟩,aT⟩,bF⟩,cW⟩,apw M A (by omega) ?_⟩;have:lp (O z x)=k4 (O z x):=by
    have jP:=NM M A;rw[wK,ID M];unfold pl at jP;split at jP
    ·simp at jP;next bo=>rw[bo];simp[fm,fR]
    ·next bo=>rw[bo];simp[fm,fR]
    ·cases jP
   omega
 | AN G x bk W fK=>
   simp[ah.hO]at aa;have lE: ∀o,bk=some o->df o=true:= λo h=>aa.2.2.2 o (by simp[h]);simp only[ah.jq,a6,ey]at av;obtain⟨⟨⟨⟨⟨⟨⟨A,D⟩,ai⟩,aT⟩,bF⟩,cW⟩,dU⟩,g1⟩:=av;have M:=b2.O aa.1;have wK:=S0 M;obtain⟨aD,aJ⟩:=MX b2 lE D 0;have cg:=sw (b2.O aa.2.1) ai;have gA:=sw (b2.O aa.2.2.1) aT;simp only[ah.ok,ah.jW,ah.val,<-wK,aD,aJ,cg,gA,a6,ey];refine⟨⟨⟨⟨⟨⟨⟨⟨NM M A,trivial⟩,ai⟩,aT⟩,bF⟩,cW⟩,dU⟩,g1⟩,apw M A (by omega) ?_⟩;have:lp (O z x)=k4 (O z x):=by
    have jP:=NM M A;rw[wK,ID M];unfold pl at jP;split at jP
    ·simp at jP;next bo=>rw[bo];simp[fm,fR]
    ·next bo=>rw[bo];simp[fm,fR]
    ·cases jP
   omega
 | sN G n x=>
   simp[ah.hO]at aa;have M:=b2.O aa;simp only[ah.jq,ah.ok,a6]at av;simp only[ah.ok,ah.jW,ah.val,a6];have pF:oI (O z x)=false:=by cases B:O z x<;>simp[B,gT]at av<;>rfl
   have ba:sg t (O z x) (n*G)=true:=(by rw[sg,pF];exact av.1);refine⟨⟨Jg F M ba,av.2⟩,?_⟩;cases B:O z x<;>simp[B,gT]at av
   next a=>
    cases a with
    |none=>simp at av
    | some a=>rw[B]at M;obtain⟨b,A,D,ai⟩:=M.sv;rw[ai];simp only[Jl];exact .slice A
 |ks off x=>simp[ah.hO]at aa;exact⟨aoi (b2.O aa) av,aoh (b2.O aa) av off⟩
 | field dr off n x=>
   simp[ah.hO]at aa;have M:=b2.O aa;simp only[ah.jq,ah.ok,a6]at av;simp only[ah.ok,ah.jW,ah.val,a6];cases B:O z x<;>simp[B,JS]at av;rw[B]at M;obtain⟨ys,e,az⟩:=M.uI;have:=az.1;simp at this;rw[e];refine⟨⟨by simp[JS];omega,by simpa using av.2⟩,?_⟩;simp only[Pp];split
   ·exact((az.drop _).take _).agg
   ·next wT=>rename_i cs;have A:n=1:=(by simpa[wT]using av.2);have W:off<cs.toList.length:=(by simp;omega);obtain⟨y,Y,Xb⟩:=az.I (c1 W);rw[nQ,nQ,c1 W,Y];exact Xb
 | mP G x i=>simp[ah.hO]at aa;simp only[ah.jq,a6,ey]at av;obtain⟨⟨⟨A,D⟩,ai⟩,aT⟩:=av;have M:=b2.O aa.1;have e:=sw (b2.O aa.2) D;simp only[ah.ok,ah.jW,ah.val,e,<-S0 M,a6,ey];exact⟨⟨⟨⟨NM M A,D⟩,ai⟩,aT⟩,aHd M A ai aT⟩
 | Aa G n x i=>simp[ah.hO]at aa;simp only[ah.jq,a6,ey]at av;obtain⟨⟨⟨A,D⟩,ai⟩,aT⟩:=av;have M:=b2.O aa.1;have e:=sw (b2.O aa.2) D;simp only[ah.ok,ah.jW,ah.val,e,a6,ey];exact⟨⟨⟨⟨aoi M A,D⟩,ai⟩,aT⟩,aoh M A _⟩
 | En x i=>simp[ah.hO]at aa;simp only[ah.jq,ah.ok,a6,ey]at av;obtain⟨⟨⟨A,D⟩,ai⟩,aT⟩:=av;have e:=sw (b2.O aa.2) D;have aD:=EN (b2.O aa.1) A;simp only[ah.ok,ah.jW,ah.val,e,aD,a6,ey];exact⟨⟨⟨⟨A,D⟩,ai⟩,aT⟩,.c7 rfl⟩
 | ext i x=>simp[ah.hO]at aa;have M:=b2.O aa;simp only[ah.jq,ah.ok]at av;simp only[ah.ok,ah.jW,ah.val];cases B:O z x<;>simp[B,FP]at av;rename_i vs;rw[B]at M;obtain⟨ys,e,az⟩:=M.Er;have:=az.1;simp at this;rw[e];have W:i<vs.toList.length:=(by simpa using av);obtain⟨y,Y,Xb⟩:=az.I (c1 W);refine⟨by simp[FP];omega,?_⟩;simp only[CY];rw[nQ,nQ,c1 W,Y];exact Xb
 | EY x=>simp[ah.hO]at aa;have aD:=EN (b2.O aa) av;simp only[ah.ok,ah.jW,ah.val,aD];exact⟨av,.c7 rfl⟩
 | uS x=>simp[ah.hO]at aa;have M:=b2.O aa;refine⟨aBB M av,?_⟩;simp only[ah.jW,ah.val,S0 M];exact .c7 rfl
 | Dt x=>simp[ah.hO]at aa;have M:=b2.O aa;simp only[ah.jq,ah.ok]at av⊢;rw[SK av]at M;rw[M.hL rfl];exact⟨rfl,.c7 rfl⟩
 | yF fK x xs=>simp[ah.hO]at aa;simp only[ah.jq,ah.ok,a6]at av;have e:=sw (b2.O aa.1) av.1;have Xk:xs.all df=true:=(by simpa using aa.2);obtain⟨A,D⟩:=ank b2 fK xs (O z x) Xk av.2 av.1;simp only[ah.ok,ah.jW,ah.val,e,A,a6];refine⟨⟨av.1,?_⟩,.c7 (at9 D)⟩;simp only[dP]at av Xk⊢;intro y Y;rw[sw (b2.O (Xk y Y)) (av.2 y Y)];exact av.2 y Y
 | yG fn first kr=>
   simp only[ah.jq]at av;simp only[ah.hO,F3,a6]at aa;refine⟨rfl,?_⟩;simp only[ah.jW,ah.val];cases fn with
   | func f=>have A:=b2.Bo aa.1;have D:=b2.Bo aa.2;exact .func (by simpa using A.1) (by simpa using A.2) (by simpa using D.1) (by simpa using D.2)
   |_=>cases av
 |E6 qj x=>simp[ah.hO]at aa;exact⟨rfl,.iface (b2.O aa)⟩
 | IS qj x=>simp[ah.hO]at aa;have M:=b2.O aa;simp only[ah.jq,ah.ok]at av;simp only[ah.ok,ah.jW,ah.val];cases B:O z x<;>simp[B,KO]at av;rw[B]at M;obtain⟨y,e,A⟩:=M.KT;rw[e];exact⟨by simpa[KO]using av,A⟩
 | qX bd G o x e0=>
   simp[ah.hO]at aa;simp only[ah.jq,ah.ok]at av;simp only[ah.ok,ah.jW,ah.val];cases ab:lI t (O z x)with
   |none=>rw[ab]at av;cases av
   | some es=>
     rw[ab]at av;simp only at av;obtain⟨db,A,D⟩:=aCR F (b2.O aa.1) ab;obtain⟨ai,aT,bF⟩:=amM D (b2.O aa.2) av;rw[A,aT];rw[aT]at ai;refine⟨ai,?_⟩;simp only[Option.bind_some];have El:cm u J G G:= .c7 bw;rcases ana (k:=O z e0) D bF with⟨aD,aJ⟩|⟨a,b,aD,aJ,cg⟩
     ·rw[aD,aJ];split
      ·exact(bL.cons El (bL.cons (.c7 rfl) bL.nil)).tuple
      ·exact El
     ·rw[aD,aJ];split
      ·exact(bL.cons cg (bL.cons (.c7 rfl) bL.nil)).tuple
      ·exact cg
 |_=>cases bo
end
def gv(J:eU)(id mid:Nat):eU:= λo=>if o=id then some mid else J o
section
variable {u:fU} {J:eU} {z K:aC} {t m:H} {v bX:Value} {id mid hn hE:Nat}
theorem fE.set(h:J id=none):fE J (gv J id mid):= λo b hb=>by
 unfold gv;split
 ·next e=>subst e;rw[h]at hb;cases hb
 ·exact hb
structure s6(J:eU)(u:fU)(t m:H)(id mid:Nat):Prop where
 e:J id=none
 b: ∀o,J o≠some mid
 f:u mid=none
 r2:id<t.next
 tL:mid<m.next
theorem s6.hl(ae:s6 J u t m id mid){o b:Nat}(h:J o=some b):b≠mid:= λe=>by subst e;exact ae.b o h
theorem eb.hl(F:eb J u t m){p o c b:Nat}(h:J p=some c)(cn:J o=some b)(ae:p≠o):c≠b:= λe=>by subst e;exact ae (F.inj p o c h cn)
theorem jb{m:H}{b:Nat}{es:List (Value×Value)}(h:m.fu b=some es):m.I b=some ⟨[],true⟩/\m.mp b=some es:=by
 unfold H.fu at h;cases aH:m.I b with
 |none=>rw[aH]at h;cases h
 | some x=>
   obtain⟨cs,w⟩:=x;rw[aH]at h;cases cs with
   | nil=>cases w with
     |true=>exact⟨rfl,h⟩
     |false=>cases h
   |cons c cs=>cases h
theorem kB{m:H}{b:Nat}{es:List (Value×Value)}(h:m.I b=some ⟨[],true⟩)(cn:m.mp b=some es):m.fu b=some es:=by unfold H.fu;rw[h];exact cn
theorem Th(F:eb J u t m)(ae:s6 J u t m id mid){cs ny:List Value}(ar:bL u J cs ny):eb (gv J id mid) u (t.aO id (some ⟨cs,true⟩)) (m.aO mid (some ⟨ny,true⟩)) where
 iU o x B:=by
  by_cases aB:o=id
  ·subst aB;rw[cx ae.r2]at B;cases B;exact .inl ⟨mid,ny,true,by simp[gv],cx ae.tL,λ_=>rfl,ar.bD (gS.refl _) (fE.set ae.e)⟩
  ·rw[a7 aB]at B;rcases F.iU o x B with⟨b,ds,w,A,D,ai,aT⟩|⟨A,D⟩
   ·exact .inl ⟨b,ds,w,by simp[gv,aB,A],by rw[a7 (ae.hl A),D],ai,aT.bD (gS.refl _) (fE.set ae.e)⟩
   ·exact .inr ⟨by simp[gv,aB,A],D⟩
 maps o es aQ:=by
  by_cases aB:o=id
  ·subst aB;have:=(jb aQ).2;rw[show(t.aO o (some ⟨cs,true⟩)).mp=t.mp from rfl,F.jo o ae.e]at this;cases this
  ·rw[vw aB]at aQ;obtain⟨b,db,A,D,ai⟩:=F.maps o es aQ;exact⟨b,db,by simp[gv,aB,A],by rw[vw (ae.hl A),D],ai.bD (gS.refl _) (fE.set ae.e)⟩
 jo o h:=by
  simp only[gv]at h;split at h
  ·cases h
  ·exact F.jo o h
 inj o o' b h cn:=by
  simp only[gv]at h cn;split at h
  ·cases h;split at cn
   ·next a b=>rw[a,b]
   ·exact absurd cn (ae.b o')
  ·split at cn
   ·cases cn;exact absurd h (ae.b o)
   ·exact F.inj o o' b h cn
 cQ o b h:=by
  simp only[gv]at h;split at h
  ·next e=>cases h;subst e;exact⟨ae.r2,ae.tL⟩
  ·exact F.cQ o b h
 bZ b ds h:=by
  have hb:b≠mid:= λe=>by subst e;rw[ae.f]at h;cases h
  obtain⟨⟨w,A⟩,D⟩:=F.bZ b ds h;refine⟨⟨w,by rw[a7 hb,A]⟩,λo x aB B=> ?_⟩;simp only[gv]at aB;split at aB
  ·cases aB;exact absurd rfl hb
  ·next bG=>rw[a7 bG]at B;exact D o x aB B
theorem anA(ae:s6 J u t m id mid)(A:hn<=id)(D:hE<=mid){x:Option eM}{y:Option eM}:eQ hn hE J u t m (gv J id mid) u (t.aO id x) (m.aO mid y) where
 e:=fE.set ae.e
 f:=gS.refl _
 kZ o b h:=by
  simp only[gv]at h;split at h
  ·next e=>cases h;subst e;exact .inr ⟨A,D⟩
  ·exact .inl h
 fn b cs h:= .inl h
 k5:=c8 _
 lJ:=c8 _
 dK b hb _:=a7 (by omega)
 r5 b hb:= λ⟨o,y,h,cn,sl⟩=>by
  simp only[gv]at h;split at h
  ·cases h;omega
  ·next bG=>exact⟨o,y,h,by rw[a7 bG]at cn;exact cn,sl⟩
 s9 b hb:= λ⟨o,y,h,cn⟩=>by
  simp only[gv]at h;split at h
  ·cases h;omega
  ·next bG=>exact⟨o,y,h,by rw[a7 bG]at cn;exact cn⟩
theorem aDi(F:eb J u t m)(ae:s6 J u t m id mid){es db:List (Value×Value)}(ar:sb u J es db):eb (gv J id mid) u (t.hv id es) (m.hv mid db) where
 iU o x B:=by
  by_cases aB:o=id
  ·subst aB;rw[J1 ae.r2]at B;cases B;exact .inl ⟨mid,[],true,by simp[gv],J1 ae.tL,λ_=>rfl,bL.nil⟩
  ·rw[oW aB]at B;rcases F.iU o x B with⟨b,ds,w,A,D,ai,aT⟩|⟨A,D⟩
   ·exact .inl ⟨b,ds,w,by simp[gv,aB,A],by rw[oW (ae.hl A),D],ai,aT.bD (gS.refl _) (fE.set ae.e)⟩
   ·exact .inr ⟨by simp[gv,aB,A],D⟩
 maps o fs aQ:=by
  by_cases aB:o=id
  ·subst aB;rw[JZ ae.r2]at aQ;cases aQ;exact⟨mid,db,by simp[gv],JZ ae.tL,ar.bD (gS.refl _) (fE.set ae.e)⟩
  ·rw[JY aB]at aQ;obtain⟨b,db,A,D,ai⟩:=F.maps o fs aQ;exact⟨b,db,by simp[gv,aB,A],by rw[JY (ae.hl A),D],ai.bD (gS.refl _) (fE.set ae.e)⟩
 jo o h:=by
  simp only[gv]at h;split at h
  ·cases h
  ·next bG=>show(if o=id then some es else t.mp o)=none;rw[if_neg bG];exact F.jo o h
 inj:=(Th F ae (cs:=[]) (ny:=[]) bL.nil).inj
 cQ:=(Th F ae (cs:=[]) (ny:=[]) bL.nil).cQ
 bZ b ds h:=by
  have hb:b≠mid:= λe=>by subst e;rw[ae.f]at h;cases h
  obtain⟨⟨w,A⟩,D⟩:=F.bZ b ds h;refine⟨⟨w,by rw[oW hb,A]⟩,λo x aB B=> ?_⟩;simp only[gv]at aB;split at aB
  ·cases aB;exact absurd rfl hb
  ·next bG=>rw[oW bG]at B;exact D o x aB B
theorem aDh(ae:s6 J u t m id mid)(A:hn<=id)(D:hE<=mid){es db:List (Value×Value)}:eQ hn hE J u t m (gv J id mid) u (t.hv id es) (m.hv mid db) where
 e:=fE.set ae.e
 f:=gS.refl _
 kZ o b h:=by
  simp only[gv]at h;split at h
  ·next e=>cases h;subst e;exact .inr ⟨A,D⟩
  ·exact .inl h
 fn b cs h:= .inl h
 k5:=c8 _
 lJ:=c8 _
 dK b hb _:=oW (by omega)
 r5 b hb:= λ⟨o,y,h,cn,sl⟩=>by
  simp only[gv]at h;split at h
  ·cases h;omega
  ·next bG=>exact⟨o,y,h,by rw[oW bG]at cn;exact cn,sl⟩
 s9 b hb:= λ⟨o,y,h,cn⟩=>by
  simp only[gv]at h;split at h
  ·cases h;omega
  ·next bG=>exact⟨o,y,h,by rw[oW bG]at cn;exact cn⟩
theorem aqj(F:eb J u t m){o b:Nat}{x:eM}{ny:List Value}{w:Bool}(ck:J o=some b)(B:t.I o=some x)(aS:x.own=true)(hb:m.I b=some ⟨ny,w⟩)
 {ds gz:List Value} (az:ds.length=x.cells.length) (ar:bL u J ds gz) (ahZ:w=true):eb J u (t.aO o (some ⟨ds,true⟩)) (m.aO b (some ⟨gz,w⟩)) where
 iU p y Y:=by
  have dm:=F.cQ o b ck;by_cases aB:p=o
  ·subst aB;rw[cx dm.1]at Y;cases Y;exact .inl ⟨b,gz,w,ck,cx dm.2,λ_=>ahZ,ar⟩
  ·rw[a7 aB]at Y;rcases F.iU p y Y with⟨c,ds,w,A,D,ai,aT⟩|A
   ·exact .inl ⟨c,ds,w,A,by rw[a7 (F.hl A ck aB),D],ai,aT⟩
   ·exact .inr A
 maps p es aQ:=by
  have dm:=F.cQ o b ck;by_cases aB:p=o
  ·subst aB;obtain⟨A,D⟩:=jb aQ;rw[cx dm.1]at A;have aV:ds=[]:=(by simpa using A);subst aV;have ia:x.cells=[]:=pU az.symm;have:t.fu p=some es:=kB (by rw[B];obtain⟨a,b⟩:=x;simp at ia aS;simp[ia,aS]) D;obtain⟨cw,db,aE,a2,cj⟩:=F.maps p es this;rw[ck]at aE;cases aE;have uz:gz=[]:=pU (by rw[<-ar.1];rfl);refine⟨b,db,ck,?_,cj⟩;subst uz;subst ahZ;exact kB (cx dm.2) (jb a2).2
  ·rw[vw aB]at aQ;obtain⟨c,db,A,D,ai⟩:=F.maps p es aQ;exact⟨c,db,A,by rw[vw (F.hl A ck aB),D],ai⟩
 jo:=F.jo
 inj:=F.inj
 cQ:=F.cQ
 bZ c es h:=by
  obtain⟨⟨w',A⟩,D⟩:=F.bZ c es h;have ar:c≠b:= λe=>by subst e;have:=D o x ck B;rw[aS]at this;cases this
  refine⟨⟨w',by rw[a7 ar,A]⟩,λp y Z Y=> ?_⟩;have:p≠o:= λe=>by subst e;rw[ck]at Z;cases Z;exact ar rfl
  rw[a7 this]at Y;exact D p y Z Y
theorem N1(F:eb J u t m){o b:Nat}{x:eM}(ck:J o=some b)(B:t.I o=some x)(aS:x.own=true){y G:Option eM}:eQ hn hE J u t m J u (t.aO o y) (m.aO b G) where
 e:=fE.refl _
 f:=gS.refl _
 kZ o b h:= .inl h
 fn b cs h:= .inl h
 k5:=c8 _
 lJ:=c8 _
 dK c ar ae:=a7 (λe=>ae (by subst e;exact⟨o,x,ck,B,aS⟩))
 r5 c ar:= λ⟨p,bf,h,cn,sl⟩=>by
  by_cases Z:p=o
  ·subst Z;rw[ck]at h;cases h;exact⟨p,x,ck,B,aS⟩
  ·rw[a7 Z]at cn;exact⟨p,bf,h,cn,sl⟩
 s9 c ar:= λ⟨p,bf,h,cn⟩=>by
  by_cases Z:p=o
  ·subst Z;rw[ck]at h;cases h;exact⟨p,x,ck,B⟩
  ·rw[a7 Z]at cn;exact⟨p,bf,h,cn⟩
theorem Vx(F:eb J u t m){o:Nat}:eb J u (t.aO o none) m where
 iU p y Y:=by
  by_cases aB:p=o
  ·subst aB;by_cases dm:p<t.next
   ·rw[cx dm]at Y;cases Y
   ·have A:(t.aO p none).I p=none:=J0 (by simp;omega);rw[A]at Y;cases Y
  ·rw[a7 aB]at Y;exact F.iU p y Y
 maps p es aQ:=by
  by_cases aB:p=o
  ·subst aB;have:=(jb aQ).1;by_cases dm:p<t.next
   ·rw[cx dm]at this;cases this
   ·have A:(t.aO p none).I p=none:=J0 (by simp;omega);rw[A]at this;cases this
  ·rw[vw aB]at aQ;exact F.maps p es aQ
 jo:=F.jo
 inj:=F.inj
 cQ:=F.cQ
 bZ c es h:=by
  obtain⟨A,D⟩:=F.bZ c es h;refine⟨A,λp y Z Y=> ?_⟩;by_cases aB:p=o
  ·subst aB;by_cases dm:p<t.next
   ·rw[cx dm]at Y;cases Y
   ·have A:(t.aO p none).I p=none:=J0 (by simp;omega);rw[A]at Y;cases Y
  ·rw[a7 aB]at Y;exact D p y Z Y
theorem Vw{o:Nat}:eQ hn hE J u t m J u (t.aO o none) m where
 e:=fE.refl _
 f:=gS.refl _
 kZ o b h:= .inl h
 fn b cs h:= .inl h
 k5:=c8 _
 lJ:=c8 _
 dK c ar ae:=rfl
 r5 c ar:= λ⟨p,bf,h,cn,sl⟩=>by
  by_cases Z:p=o
  ·subst Z;by_cases dm:p<t.next
   ·rw[cx dm]at cn;cases cn
   ·have A:(t.aO p none).I p=none:=J0 (by simp;omega);rw[A]at cn;cases cn
  ·rw[a7 Z]at cn;exact⟨p,bf,h,cn,sl⟩
 s9 c ar:= λ⟨p,bf,h,cn⟩=>by
  by_cases Z:p=o
  ·subst Z;by_cases dm:p<t.next
   ·rw[cx dm]at cn;cases cn
   ·have A:(t.aO p none).I p=none:=J0 (by simp;omega);rw[A]at cn;cases cn
  ·rw[a7 Z]at cn;exact⟨p,bf,h,cn⟩
theorem Z8(F:eb J u t m){o b:Nat}{x:eM}(ck:J o=some b)(B:t.I o=some x)(aS:x.own=true):eb J u (t.aO o none) (m.aO b none) where
 iU p y Y:=by
  have dm:=F.cQ o b ck;by_cases aB:p=o
  ·subst aB;rw[cx dm.1]at Y;cases Y
  ·rw[a7 aB]at Y;rcases F.iU p y Y with⟨c,ds,w,A,D,ai,aT⟩|A
   ·exact .inl ⟨c,ds,w,A,by rw[a7 (F.hl A ck aB),D],ai,aT⟩
   ·exact .inr A
 maps p es aQ:=by
  have dm:=F.cQ o b ck;by_cases aB:p=o
  ·subst aB;have:=(jb aQ).1;rw[cx dm.1]at this;cases this
  ·rw[vw aB]at aQ;obtain⟨c,db,A,D,ai⟩:=F.maps p es aQ;exact⟨c,db,A,by rw[vw (F.hl A ck aB),D],ai⟩
 jo:=F.jo
 inj:=F.inj
 cQ:=F.cQ
 bZ c es h:=by
  obtain⟨⟨w',A⟩,D⟩:=F.bZ c es h;have ar:c≠b:= λe=>by subst e;have:=D o x ck B;rw[aS]at this;cases this
  refine⟨⟨w',by rw[a7 ar,A]⟩,λp y Z Y=> ?_⟩;have:p≠o:= λe=>by subst e;rw[ck]at Z;cases Z;exact ar rfl
  rw[a7 this]at Y;exact D p y Z Y
theorem aDy(s:ByteArray):bL u J (H7 s) (H7 s):=bL.c7 (by simp only[H7,List.all_map,dP];intro b _;rfl)
structure qn(hn hE id mid:Nat)(J:eU)(u:fU)(t m af U:H)(v bX:Value)(cU:eU):Prop where
 T9:eb cU u af U
 val:cm u cU v bX
 bZ:eQ hn hE J u t m cU u af U
 M3: ∀o,o≠id->cU o=J o
 self:cU id=J id\/cU id=some mid
theorem qn.new(F:eb J u t m)(ae:s6 J u t m id mid)(A:hn<=id)(D:hE<=mid){cs ny:List Value}(ar:bL u J cs ny){v bX:Value}(M:cm u (gv J id mid) v bX):
 ∃cU,qn hn hE id mid J u t m (t.aO id (some ⟨cs,true⟩)) (m.aO mid (some ⟨ny,true⟩)) v bX cU:=
 ⟨gv J id mid,Th F ae ar,M,anA ae A D,λo aB=>by simp[gv,aB],.inr (by simp[gv])⟩
theorem qn.xG(F:eb J u t m){v bX:Value}(M:cm u J v bX): ∃cU,qn hn hE id mid J u t m t m v bX cU:=⟨J,F,M,eQ.refl,λ_ _=>rfl,.inl rfl⟩
theorem anQ(F:eb J u t m)(b2:hp u J z K){k:ah}(ar:k.ln=false)(aB:At k=true)(av:k.jq z t=true)(ae:k.fv=true->s6 J u t m id mid)(A:hn<=id)(D:hE<=mid):
 k.ok K m=true/\ ∃cU,qn hn hE id mid J u t m (k.o6 id z t) (k.hd mid K m) (k.jW id z t) (k.val mid K m) cU:=by
 by_cases bo:k.abr=true
 ·obtain⟨a,b⟩:=aED F b2 bo aB av id mid;obtain⟨aD,aJ⟩:=aEC (z:=z) (K:=K) (t:=t) (m:=m) bo (id:=id) (ki:=mid);refine⟨a,?_⟩;rw[aD,aJ];exact qn.xG F b
 ·simp only[At,a6]at aB;obtain⟨aa,bw⟩:=aB;have z8:gv J id mid id=some mid:=(by simp[gv]);cases k with
  |nu G=>exact⟨rfl,qn.new F (ae rfl) A D (bL.c7 bw) (.bH z8)⟩
  | oy x=>simp[ah.hO]at aa;exact⟨(b2.O aa).au av,qn.new F (ae rfl) A D (b2.O aa).an (.bH z8)⟩
  | mh a n G ps=>have kD: ∀p∈ps,df p.2.2=true:= λp Z=>dP.1 aa _ (by simp only[ah.hO];exact List.mem_map_of_mem Z);exact⟨an3 b2 rfl kD av,qn.new F (ae rfl) A D (aa8 b2 (bL.c7 bw) kD) (.slice z8)⟩
  | pX x=>simp[ah.hO]at aa;simp only[ah.jq,ah.ok,a6]at av;have e:=EN (b2.O aa) av.1;simp only[ah.ok,ah.jW,ah.val,ah.o6,ah.hd,e,a6];exact⟨av,qn.new F (ae rfl) A D (aDy _) (.slice z8)⟩
  | oc G bytes zero l c=>simp[ah.hO]at aa;have w1:=av;simp only[ah.jq,ah.ok,a6]at av;have aD:=sw (b2.O aa.1) av.1.1.1.1.1.1;have aJ:=sw (b2.O aa.2) av.1.1.1.1.1.2;simp only[ah.ok,ah.jW,ah.val,ah.o6,ah.hd,aD,aJ,a6];exact⟨av,qn.new F (ae rfl) A D (bL.flatten (bL.c7 bw)) (.slice z8)⟩
  | oV G bytes zero x n=>simp[ah.hO]at aa;simp only[ah.jq,ah.ok,a6]at av;have aD:=sw (b2.O aa.2) av.1.1.1.1.2;have B:=b2.O aa.1;have hc:=SK av.1.1.1.1.1;rw[hc]at B;have aJ:=(B.hL rfl).trans hc.symm;simp only[ah.ok,ah.jW,ah.val,ah.o6,ah.hd,aD,aJ,a6];exact⟨av,qn.new F (ae rfl) A D (bL.flatten (bL.c7 bw)) (.slice z8)⟩
  | hJ zero x=>
    simp[ah.hO]at aa;have B:=b2.O aa;simp only[ah.jq,ah.ok,a6,ey]at av;obtain⟨⟨aE,a2⟩,cj⟩:=av;have pF:iB (O z x)=false:=by cases g3:O z x<;>simp[g3,fw]at aE<;>rfl
    have Bs:=FJ F B (G:=zero.length) (by rw[kz,pF];exact aE);have wR:=Uf F B a2;simp only[ah.ok,ah.jW,ah.val,ah.o6,ah.hd,a6,ey];refine⟨⟨⟨Bs,wR⟩,cj⟩,?_⟩;cases g3:O z x with
    | slice p l c=>
      rw[g3]at B aE a2;cases p with
      | none=>have hc:=B.hL (by simpa[fw,ei]using aE);rw[hc];exact qn.xG F cm.undef
      | some eu=>
        obtain⟨jC,hq,OK⟩:=eu;cases aH:t.I jC with
        |none=>simp[fw,aH]at aE
        | some y=>
          have j2:y.own=true:=(by simpa[iJ,aH]using a2);have l2:n1 t zero (.slice (some ⟨jC,hq,OK⟩) l c)=t.aO jC (some ⟨gE y.cells hq (List.replicate l zero).flatten,y.own⟩):=(by simp only[n1,aH]);rcases B.l6 with⟨b,aD,aJ,cg⟩|⟨aD,aJ,cg,gA⟩
          ·simp only at aD aJ cg;subst aJ;obtain⟨cs,w,a8,bV,cv⟩:=F.m1 aD aH;have aS:=bV j2;subst aS;rw[l2,cg];simp only[n1,a8,j2];refine⟨J,?_,cm.undef,N1 F aD aH j2,λ_ _=>rfl,.inl rfl⟩;exact aqj F aD aH j2 a8 (by
            have: ∀(vs:List Value) (cs:List Value) (o:Nat),(gE cs o vs).length=cs.length:=by
             intro vs;induction vs with
             |nil=>intro cs o;rfl
             |cons v vs cf=>intro cs o;simp only[gE,cf,List.length_set]
            exact this _ _ _) (cv.gE _ (bL.flatten (bL.c7 bw))) rfl
          ·simp only at aD aJ cg;subst cg;have jj:t.aO jC (some ⟨gE y.cells hq (List.replicate 0 zero).flatten,y.own⟩)=t:=aor aH;rw[l2,jj,gA];exact qn.xG F cm.undef
    |_=>simp[g3,fw]at aE
  | qW=>have:=ae rfl;exact⟨rfl,gv J id mid,aDi F this ⟨rfl,λi e dd a=>by simp at a⟩,.map z8,aDh this A D,λo aB=>by simp[gv,aB],.inr z8⟩
  | store n x v=>
    simp[ah.hO]at aa;have B:=b2.O aa.1;have M:=b2.O aa.2;simp only[ah.jq,ah.ok,a6,ey]at av;obtain⟨⟨⟨aE,a2⟩,cj⟩,dy⟩:=av;have pF:oI (O z x)=false:=by cases g3:O z x<;>simp[g3,gT]at aE<;>rfl
    have Bs:=Jg F B (n:=n) (by rw[sg,pF];exact aE);simp only[ah.ok,ah.jW,ah.val,ah.o6,ah.hd,a6,ey];cases g3:O z x with
    | pointer p=>
      cases p with
      |none=>simp[g3,gT]at aE
      | some a=>
        rw[g3]at B aE a2;obtain⟨b,aD,aJ,cg⟩:=B.sv;obtain⟨jC,hq,OK⟩:=a;simp only at aD aJ cg;subst aJ;cases aH:t.I jC with
        |none=>simp[aH]at aE
        | some y=>
          simp only[arY,aH,ey]at aE;simp only[aeE,aH]at a2;obtain⟨cs,w,a8,bV,cv⟩:=F.m1 aD aH;have aS:=bV a2;subst aS;rw[cg]at Bs⊢;simp only[aHv,aH,a8,aeE,a2];refine⟨⟨⟨⟨Bs,trivial⟩,M.au cj⟩,by rw[<-M.an.1];exact dy⟩,J,?_,cm.undef,N1 F aD aH a2,λ_ _=>rfl,.inl rfl⟩;exact aqj F aD aH a2 a8 (by
           have: ∀(vs:List Value) (cs:List Value) (o:Nat),(gE cs o vs).length=cs.length:=by
            intro vs;induction vs with
            |nil=>intro cs o;rfl
            |cons v vs cf=>intro cs o;simp only[gE,cf,List.length_set]
           exact this _ _ _) (cv.gE _ M.an) rfl
    |_=>simp[g3,gT]at aE
  | app G bytes x y=>
    simp[ah.hO]at aa;have B:=b2.O aa.1;have Y:=b2.O aa.2;simp only[ah.jq,a6,ey]at av;obtain⟨⟨⟨⟨⟨aE,a2⟩,cj⟩,dy⟩,fB⟩,fb⟩:=av;have pF:iB (O z x)=false:=by cases g3:O z x<;>simp[g3,fw]at aE<;>rfl
    have agv:kz t G (O z x)=true:=(by rw[kz,pF];exact aE);have Bs:=FJ F B agv;have wR:=Uf F B a2;have auQ:=FJ F Y cj;have VG:=ID Y;have VF:fR (O z x)=fR (O K x):=(by rw[<-ID B,k4,pF];rfl);have te:bL u J (fq t G (O z x)) (fq m G (O K x)):=(by have:=Gp F B agv;rw[lb,pF]at this;exact this);have zA:=Gp F Y cj;simp only[ah.ok,ah.jW,ah.val,ah.o6,ah.hd,a6,ey];refine⟨⟨⟨⟨⟨⟨Bs,wR⟩,auQ⟩,dy⟩,by rw[<-VF,<-VG];exact fB⟩,by rw[<-VF,<-VG];exact fb⟩,?_⟩;rw[<-VG,<-VF];split
    ·exact qn.xG F B
    ·have qN:=ae rfl;have key: ∃bj bn,hC t (O z x)=bj/\hC m (O K x)=bn/\eb J u bj bn/\eQ hn hE J u t m J u bj bn/\bj.next=t.next/\bn.next=m.next:=by
      refine⟨_,_,rfl,rfl,?_⟩;unfold fw at aE;split at aE
      ·next g3=>rw[g3]at B⊢;have:O K x=_:=B.hL (by simpa[ei]using aE);rw[this];exact⟨F,eQ.refl,rfl,rfl⟩
      ·next a l c g3=>
       rw[g3]at B a2⊢;rcases B.l6 with⟨b,aD,aJ,cg⟩|⟨aD,aJ,cg,gA⟩
       ·rw[cg];cases aH:t.I a.block with
        |none=>simp[iJ,aH]at a2
        | some y=>simp only[iJ,aH]at a2;exact⟨Z8 F aD aH a2,N1 F aD aH a2,rfl,rfl⟩
       ·rw[gA];exact⟨Vx F,Vw,rfl,rfl⟩
      ·cases aE
     obtain⟨bj,bn,aD,aJ,uD,tl,at1,at2⟩:=key;rw[aD,aJ];have awa:s6 J u bj bn id mid:=⟨qN.e,qN.b,qN.f,by rw[at1];exact qN.r2,by rw[at2];exact qN.tL⟩;obtain⟨cU,q⟩:=qn.new (hn:=hn) (hE:=hE) uD awa A D (te.pV zA) (v:= .slice (some ⟨id,0,none⟩) (fR (O z x)+k4 (O z y)) G) (bX:= .slice (some ⟨mid,0,none⟩) (fR (O z x)+k4 (O z y)) G) (.slice z8);exact⟨cU,q.T9,q.val,tl.trans q.bZ,q.M3,q.self⟩
  | o7 bd x e0 v=>
    simp[ah.hO]at aa;have B:=b2.O aa.1;have S:=b2.O aa.2.1;have M:=b2.O aa.2.2;simp only[ah.jq,ah.ok]at av;split at av
    ·next b g3=>
     cases ab:t.fu b with
     |none=>simp[ab]at av
     | some es=>
       simp only[ab,a6]at av;obtain⟨c,db,a8,bV,cv⟩:=F.maps b es ab;rw[g3]at B;obtain⟨nw,fQ,g0⟩:=B.KU;rw[a8]at fQ;cases fQ;obtain⟨ek,gm,kT⟩:=amM cv S av.1;simp only[ah.ok,ah.jW,ah.val,ah.o6,ah.hd,g3,g0,yE,ab,bV,A0,a6];refine⟨⟨ek,M.aq av.2⟩,J,?_,cm.undef,?_,λ_ _=>rfl,.inl rfl⟩
       ·rw[gm];have zX:cm u J (O z e0) (O z e0):=(by rw[gm]at S;exact S);have av5:=anp zX M cv kT;have dm:=F.cQ b c a8;refine⟨λp y Y=> ?_,λp fs Z=> ?_,λp Z=> ?_,F.inj,F.cQ,λd ds aV=> ?_⟩
        ·by_cases vN:p=b
         ·subst vN;rw[J1 dm.1]at Y;cases Y;exact .inl ⟨c,[],true,a8,J1 dm.2,λ_=>rfl,bL.nil⟩
         ·rw[oW vN]at Y;rcases F.iU p y Y with⟨nw,ds,w,A,D,ai,aT⟩|A
          ·exact .inl ⟨nw,ds,w,A,by rw[oW (F.hl A a8 vN),D],ai,aT⟩
          ·exact .inr A
        ·by_cases vN:p=b
         ·subst vN;rw[JZ dm.1]at Z;cases Z;exact⟨c,_,a8,JZ dm.2,av5⟩
         ·rw[JY vN]at Z;obtain⟨nw,db,A,D,ai⟩:=F.maps p fs Z;exact⟨nw,db,A,by rw[JY (F.hl A a8 vN),D],ai⟩
        ·have bG:p≠b:= λe=>by subst e;rw[a8]at Z;cases Z
         show(if p=b then _ else t.mp p)=none;rw[if_neg bG];exact F.jo p Z
        ·obtain⟨⟨w',aE⟩,a2⟩:=F.bZ d ds aV;have aH:=(jb ab).1;have ag7:d≠c:= λe=>by subst e;have:=a2 b _ a8 aH;cases this
         refine⟨⟨w',by rw[oW ag7,aE]⟩,λp y Z Y=> ?_⟩;have:p≠b:= λe=>by subst e;rw[a8]at Z;cases Z;exact ag7 rfl
         rw[oW this]at Y;exact a2 p y Z Y
       ·have aH:=(jb ab).1;refine⟨fE.refl _,gS.refl _,λ_ _ h=> .inl h,λ_ _ h=> .inl h,c8 _,c8 _,λd aV aS=> ?_,λd aV=> λ⟨p,bf,h,cn,sl⟩=> ?_,λd aV=> λ⟨p,bf,h,cn⟩=> ?_⟩
        ·exact oW (λe=>aS (by subst e;exact⟨b,_,a8,aH,rfl⟩))
        ·by_cases Z:p=b
         ·subst Z;rw[a8]at h;cases h;exact⟨p,_,a8,aH,rfl⟩
         ·rw[oW Z]at cn;exact⟨p,bf,h,cn,sl⟩
        ·by_cases Z:p=b
         ·subst Z;rw[a8]at h;cases h;exact⟨p,_,a8,aH⟩
         ·rw[oW Z]at cn;exact⟨p,bf,h,cn⟩
    ·cases av
  |lA=>cases ar
  |m2=>cases ar
  |mq=>cases ar
  |_=>exact absurd rfl bo
theorem afx(F:eb J u t m)(b2:hp u J z K){bd:List (Operand×Operand)}(aa:bd.all (λp=>df p.1&&df p.2)=true)(h:iY z t bd=true):iX K bd=true:=by
 simp only[iX,iY,dP]at h aa⊢;intro p Z;have A:=h p Z;have D:=aa p Z;obtain⟨x,y⟩:=p;simp only[a6]at D;simp only at A⊢;have B:=b2.O D.1;have Y:=b2.O D.2;generalize O z x=a at B A;generalize O K x=ed at B;generalize O z y=b at Y A;generalize O K y=cw at Y;have amG: ∀{a ed:Value},cm u J a ed->lo a=true-> ∀c,ak ed=some c-> ∃cs,u c=some cs:= λaa Y c ar=>by
  cases aa with
  |c7 h=>have:=(vS h).2.2;rw[this]at Y;cases Y
  |jG e dh=>simp[ak]at ar;subst ar;exact⟨_,dh⟩
  |jH=>simp[ak]at ar
  |fi e dh=>simp[ak]at ar;subst ar;exact⟨_,dh⟩
  |_=>simp[lo]at Y
 have SS: ∀{a ed:Value},cm u J a ed->lo a=false-> ∀c,ak ed=some c-> ∃o,ak a=some o/\J o=some c:= λaa Y c ar=>by
  cases aa with
  | c7 h=>rename_i a;unfold ak at ar;split at ar<;>simp[ei]at h ar
  |bH ck=>simp[ak]at ar;subst ar;exact⟨_,rfl,ck⟩
  |slice ck=>simp[ak]at ar;subst ar;exact⟨_,rfl,ck⟩
  |map ck=>simp[ak]at ar;subst ar;exact⟨_,rfl,ck⟩
  |jG e=>subst e;simp at Y
  |jH e=>subst e;simp at Y
  |fi e=>subst e;simp at Y
  |_=>simp[ak]at ar
 have amF: ∀{c:Nat} {cs:List Value} {b:Value} {o:Nat},u c=some cs->ak b=some o->Js t b=true->J o=some c->False:= λ{c cs b o} dh hb aB ck=>by
  simp only[Js,hb,Cv]at aB;cases aH:t.I o with
  |none=>simp[aH]at aB
  | some x=>simp only[aH]at aB;have:=(F.bZ c cs dh).2 o x ck aH;rw[aB]at this;cases this
 cases kD:ak ed with
 |none=>rfl
 | some c=>
   cases iG:ak cw with
   |none=>rfl
   | some d=>
     simp only;unfold OI at A;split at A
     ·next C5=>simp only[a6,r7]at A;obtain⟨cs,eD⟩:=amG B C5 c kD;obtain⟨o,eS,gN⟩:=SS Y A.1 d iG;simp only[bne_iff_ne,ne_eq];intro e;subst e;exact amF eD eS A.2 gN
     ·next C5=>
      split at A
      ·next lu=>obtain⟨cs,eD⟩:=amG Y lu d iG;obtain⟨o,eS,gN⟩:=SS B (by simpa using C5) c kD;simp only[bne_iff_ne,ne_eq];intro e;subst e;exact amF eD eS A gN
      ·next lu=>obtain⟨o,eS,gN⟩:=SS B (by simpa using C5) c kD;obtain⟨o',VM,at7⟩:=SS Y (by simpa using lu) d iG;rw[eS,VM]at A;simp only[bne_iff_ne,ne_eq]at A⊢;intro e;subst e;exact A (F.inj o o' c gN at7)
end
end Go.DI
