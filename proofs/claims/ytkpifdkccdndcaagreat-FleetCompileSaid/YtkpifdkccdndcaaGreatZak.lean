/-
  A part of the proof of the statement, in texts that tools of ours (wip/shrink.py, irpack.py, relax.py, minify.py, join.py, lay.py) have shortened.
-/
import Derived.Test.YtkpifdkccdndcaaGreatZaj
set_option linter.all false
set_option maxRecDepth 8000
set_option maxHeartbeats 16000000
namespace Go.Proofs.YtkpifdkccdndcaaGreat
open Go Go.DI Go.Big
section
variable {m:B} {v w:Value} {a b:Int}
theorem yC{l:List Int}{n:Int}(h:dx l)(e:val l=n)(ak:n<aZ 512):cJ l<=512:=(AA h 512).2 (by rw[e];exact ak)
theorem dw.fJ{l:List Int}(h:bC m v l)(L:Big l):dw m v (val l):=⟨l,h,L,rfl⟩
theorem dw.bG(h:bC m v (bG a))(bB:0<=a)(z:a<aZ 512):dw m v a:=h.dS bB z (by decide)
theorem aDn(X:dw m v a):bJ Tryz.prog 131 [v] m λr N=>a0 m N/\bC N r (bG a):=by obtain⟨l,z,D,rfl⟩:=X;exact S3 z D
theorem A9(X:dw m v a)(az:Value->B->Prop):bJ Tryz.prog 87 [v] m az=az (S (jj a)) m:=by obtain⟨l,z,D,rfl⟩:=X;exact apu z D az
theorem ade(X:dw m v a)(aO:dw m w b)(az:Value->B->Prop):bJ Tryz.prog 92 [v,w] m az=az (S (h8 a b)) m:=by obtain⟨l,z,D,rfl⟩:=X;obtain⟨k,aC,a2,rfl⟩:=aO;exact IE z aC D a2 az
theorem ao9(X:dw m v a)(aO:dw m w b)(h:a+b<aZ 512):bJ Tryz.prog 127 [v,w] m (vp m (a+b)):=by have aE:=X.p1;have L:=aO.p1;obtain⟨l,z,D,rfl⟩:=X;obtain⟨k,aC,a2,rfl⟩:=aO;exact apb z aC D a2 (yC z.1 rfl (by omega)) (yC aC.1 rfl (by omega)) h
theorem aC6(X:dw m v a)(aO:dw m w b)(h:a<aZ 512)(fG:b<=a):bJ Tryz.prog 128 [v,w] m (vp m (a-b)):=by obtain⟨l,z,D,rfl⟩:=X;obtain⟨k,aC,a2,rfl⟩:=aO;exact aC8 z aC D a2 (yC z.1 rfl h) fG
theorem azH(X:dw m v a)(aO:dw m w b)(z:a<aZ 512)(D:b<aZ 512)(h:a*b<aZ 512):bJ Tryz.prog 132 [v,w] m (vp m (a*b)):=by obtain⟨l,dk,dV,rfl⟩:=X;obtain⟨k,aC,a2,rfl⟩:=aO;exact azI dk aC dV a2 (yC dk.1 rfl z) (yC aC.1 rfl D) h
theorem arq(X:dw m v a)(aO:dw m w b)(z:a<aZ 512)(D:b<aZ 512)(h:b≠0):bJ Tryz.prog 130 [v,w] m (Tn m a b):=by obtain⟨l,dk,dV,rfl⟩:=X;obtain⟨k,aC,a2,rfl⟩:=aO;exact ars dk aC dV a2 (yC dk.1 rfl z) (yC aC.1 rfl D) h
theorem asy(X:dw m v a)(aO:dw m w b)(z:a<aZ 512)(D:b<aZ 512):bJ Tryz.prog 129 [v,w] m (vp m (kc a b)):=by obtain⟨l,dk,dV,rfl⟩:=X;obtain⟨k,aC,a2,rfl⟩:=aO;exact asz dk aC dV a2 (yC dk.1 rfl z) (yC aC.1 rfl D)
end
def iJ(m:B)(v:Value)(x:a6):Prop:= ∃a b,v= .agg #[.bool x.bV,a,b]/\dw m a x.n/\dw m b x.d
def je(m:B)(v:Value)(x:a6):Prop:= ∃a b,v= .agg #[.bool x.bV,a,b]/\bC m a (bG x.n)/\bC m b (bG x.d)
def py(m:B)(p:Int×a6)(r:Value)(N:B):Prop:=a0 m N/\ ∃c,r= .tuple #[c,S p.1]/\je N c p.2
section
variable {m N:B} {v w:Value} {x y:a6}
theorem iJ.aD(h:iJ m v x)(an:a0 m N):iJ N v x:=by obtain⟨a,b,z,D,Z⟩:=h;exact⟨a,b,z,D.aD an,Z.aD an⟩
theorem je.aD(h:je m v x)(an:a0 m N):je N v x:=by obtain⟨a,b,z,D,Z⟩:=h;exact⟨a,b,z,D.aD an,Z.aD an⟩
theorem je.MH(h:je m v x)(bB:0<=x.n)(z:x.n<aZ 512)(D:0<=x.d)(Z:x.d<aZ 512):iJ m v x:=by obtain⟨a,b,e,f,g⟩:=h;exact⟨a,b,e,dw.bG f bB z,dw.bG g D Z⟩
theorem je.zero:je m (.agg #[.bool false,.slice none 0 0,.slice none 0 0]) .zero:=by have e:bG 0=[]:=rO (by omega);exact⟨_,_,rfl,by rw[show a6.zero.n=0 from rfl,e];exact bC.nil,by rw[show a6.zero.d=0 from rfl,e];exact bC.nil⟩
theorem iJ.gO(h:iJ m v x):0<=x.n:=by obtain⟨a,b,z,D,Z⟩:=h;exact D.p1
theorem iJ.jC(h:iJ m v x):0<=x.d:=by obtain⟨a,b,z,D,Z⟩:=h;exact Z.p1
end
theorem yU:aZ 128<aZ 512:=by
  rw[show 512=128+384 by rfl,AH];have z:=k8 128;have D:2<=aZ 384:=by have:=k8 383;show 2<=4294967296*aZ 383;omega
  have:aZ 128*2<=aZ 128*aZ 384:=Int.mul_le_mul_of_nonneg_left D (by omega);omega
theorem Sm:aZ 256+aZ 256<=aZ 512:=by
  rw[show 512=256+256 by rfl,AH];have z:=k8 256;have D:2<=aZ 256:=by have:=k8 255;show 2<=4294967296*aZ 255;omega
  have:aZ 256*2<=aZ 256*aZ 256:=Int.mul_le_mul_of_nonneg_left D (by omega);omega
section
variable {m:B} {v w:Value} {a b:Int}
theorem sm(X:dw m v a):bJ Tryz.prog 106 [v] m (A6 m a):=by obtain⟨l,z,D,rfl⟩:=X;exact tV z D
theorem wh(X:dw m v a)(h:a<aZ 512):bJ Tryz.prog 161 [v] m λr N=>a0 m N/\r= .bool false:=by obtain⟨l,z,D,rfl⟩:=X;refine(aBD z D).aD λr N aq=>⟨aq.1,?_⟩;have:=yC z.1 rfl h;rw[aq.2];simp;omega
theorem Me(X:dw m v a)(aO:dw m w b):bJ Tryz.prog 134 [v,w] m λr N=>a0 m N/\r=S (h8 a b):=by obtain⟨l,z,D,rfl⟩:=X;obtain⟨k,aC,a2,rfl⟩:=aO;exact aaK z aC D a2
theorem A6.dS{r:Value}{N:B}(h:A6 m a r N)(bB:0<=a)(z:a<aZ 512):dw N r a:=dw.bG h.2 bB z
end
theorem zA{n:Int}(bB:0<=n)(h:n<aZ 512):(bG n).length<=512:=q2 bB h
theorem aBd{m:B}{Q:dr->aL->B->Prop}: ∀(r:Nat) (k t:Int) (u:aL),t<=r->0<=t->t<4294967296->0<=k->k+r<10000000000000000->u 3=S k->u 4=cT t->
    (∀ag,ag 3=S (k+jj t)->Q (.bI 0) ag m)->ch Tryz.prog (.loop P9) u m Q:=by
  intro r;induction r with
  | zero=>intro k t u aF bB z cy bp bd bL bf;refine eT λb9 a9=> ?_;obtain rfl:t=0:=(by omega);simp[P9,X9,bL];exact bf _ (by simp[bd,Ch])
  | succ r cb=>
    intro k t u aF bB z cy bp bd bL bf;by_cases bH:t=0
    · exact cb k t u (by omega) bB z cy (by omega) bd bL bf
    · refine eT λb9 a9=> ?_;have cB:0<t:=(by omega);have bo:IntKind.i64.wrap (k+1)=k+1:=ct (by omega) (by omega);have cS:t.tdiv 2=t/2:=Int.tdiv_eq_ediv_of_nonneg bB;have fz:IntKind.u32.wrap (t/2)=t/2:=(by rw[iu];omega);simp[P9,X9,bd,bL,cB,bo,cS,fz];exact a9 _ _ (cb (k+1) (t/2) _ (by omega) (by omega) (by omega) (by omega) (by omega) (by simp) (by simp) λag h=>bf ag (by rw[h,Hq cB];congr 1;omega))
theorem aBe{m:B}{v:Value}{n:Int}(X:dw m v n)(ak:n<aZ 512):bJ Tryz.prog 173 [v] m λr N=>a0 m N/\r=S (jj n):=by
  rw[aqm (by simp)];simp[X8,aiA,aiB,aiC,aiD,aiE];have bB:=X.p1;refine(sm X).aD λr bz aq=> ?_;obtain⟨z,D,Z,aw⟩:=aq.2.len;have aG:=zA bB ak;by_cases bp:(bG n).length=0
  · have bY:n=0:=by
      have:=iB bB;rw[List.length_eq_zero_iff.1 bp]at this;simpa[val]using this.symm
    subst bY;simp[z,D,bp];exact⟨aq.1,by rw[Ch (by omega)]⟩
  · obtain⟨k,W⟩: ∃k,(bG n).length=k+1:=⟨(bG n).length-1,by omega⟩;have bn:=aq.2.j7 (i:=k) (by omega);have bF:=aq.2.fj (i:=k) (by omega);have g:=hX aq.2.1 k;have g1: ¬(k:Int)+1=0:=(by omega);have eQ:(k:Int)<(k:Int)+1:=(by omega);have bo:IntKind.i64.wrap (k:Int)=k:=ct (by omega) (by omega);have cS:IntKind.i64.wrap (32*(k:Int))=32*(k:Int):=ct (by omega) (by omega);rw[W]at z;simp only[Int.natCast_add,Int.cast_ofNat_Int]at z;simp[g1,eQ,z,D,Z,bn,bF,bo,cS];refine aBd (ay (bG n) k).toNat (32*(k:Int)) (ay (bG n) k) _ (by omega) g.1 g.2 (by omega) (by omega) (by simp) (by simp) λag h=> ?_;have e:=aae (a:=bG n) (n:=k) aq.2.1 (by rw[(oE n).2,W]);rw[iB bB]at e;simp[h];exact⟨aq.1,by rw[e];omega⟩
theorem aA8{m:B}{v w:Value}{a b:Int}(X:dw m v a)(aO:dw m w b)(h:a+b<aZ 512):bJ Tryz.prog 135 [v,w] m (vp m (a+b)):=by rw[apX (by simp)];have dF:=X.p1;have mU:=aO.p1;simp[WY,agP,agQ,agR,agS];refine(wh X (by omega)).aD λe6 bz fP=> ?_;obtain⟨b5,rfl⟩:=fP;simp;refine(wh (aO.aD b5) (by omega)).aD λfw b4 fh=> ?_;obtain⟨dC,rfl⟩:=fh;have kg:=b5.trans dC;simp;refine(sm (X.aD kg)).aD λiZ gI js=> ?_;simp;refine(sm (aO.aD (kg.trans js.1))).aD λnr h0 ku=> ?_;simp;have cc:=zA dF (by omega);have iV:=zA mU (by omega);refine(aAI (js.2.aD ku.1) ku.2 (by omega) (by omega)).aD λmL g2 ib=> ?_;rw[iB dF,iB mU]at ib;simp;refine(wh (ib.dS (by omega) h) h).aD λxD ie nW=> ?_;obtain⟨ig,rfl⟩:=nW;simp;exact⟨(((kg.trans js.1).trans ku.1).trans ib.1).trans ig,_,rfl,ib.2.aD ig⟩
theorem aBP{m:B}{v w:Value}{a b:Int}(X:dw m v a)(aO:dw m w b)(aE:a<aZ 512)(L:b<aZ 512)(h:a*b<aZ 512):bJ Tryz.prog 160 [v,w] m (vp m (a*b)):=by rw[aqa (by simp)];have dF:=X.p1;have mU:=aO.p1;simp[XA,ahR,ahS,ahT,ahU];refine(wh X (by omega)).aD λe6 bz fP=> ?_;obtain⟨b5,rfl⟩:=fP;simp;refine(wh (aO.aD b5) (by omega)).aD λfw b4 fh=> ?_;obtain⟨dC,rfl⟩:=fh;have kg:=b5.trans dC;simp;refine(sm (X.aD kg)).aD λiZ gI js=> ?_;simp;refine(sm (aO.aD (kg.trans js.1))).aD λnr h0 ku=> ?_;simp;have cc:=zA dF (by omega);have iV:=zA mU (by omega);refine(Sz (js.2.aD ku.1) ku.2 (by omega) (by omega)).aD λmL g2 ib=> ?_;rw[iB dF,iB mU]at ib;simp;refine(wh (ib.dS (Int.mul_nonneg dF mU) h) h).aD λxD ie nW=> ?_;obtain⟨ig,rfl⟩:=nW;simp;exact⟨(((kg.trans js.1).trans ku.1).trans ib.1).trans ig,_,rfl,ib.2.aD ig⟩
theorem aB5{m:B}{v w:Value}{a b:Int}(X:dw m v a)(aO:dw m w b)(aE:a<aZ 512)(fG:b<=a):bJ Tryz.prog 137 [v,w] m (vp m (a-b)):=by
  rw[apZ (by simp)];have dF:=X.p1;have mU:=aO.p1;simp[W0,agV,agW,agX];refine(wh X (by omega)).aD λe6 bz fP=> ?_;obtain⟨b5,rfl⟩:=fP;simp;refine(wh (aO.aD b5) (by omega)).aD λfw b4 fh=> ?_;obtain⟨dC,rfl⟩:=fh;have kg:=b5.trans dC;have cB: ¬h8 a b<0:=by unfold h8;rw[if_neg (by omega)];split<;>omega
  simp;refine(Me (X.aD kg) (aO.aD kg)).aD λiZ gI js=> ?_;obtain⟨fs,rfl⟩:=js;have kg:=kg.trans fs;simp[cB];refine(sm (X.aD kg)).aD λiZ gI js=> ?_;simp;refine(sm (aO.aD (kg.trans js.1))).aD λnr h0 ku=> ?_;simp;have cc:=zA dF (by omega);have iV:=zA mU (by omega);have LL:(bG b).length<=(bG a).length:=by
    by_cases h:(bG b).length<=(bG a).length
    · exact h
    · have:=kS.Hi (oE a).1 (oE b) (by omega);rw[iB dF,iB mU]at this;omega
  refine(Z6 (js.2.aD ku.1) ku.2 (by omega) LL (by rw[iB dF,iB mU];exact fG)).aD λmL g2 ib=> ?_;rw[iB dF,iB mU]at ib;simp;exact⟨((kg.trans js.1).trans ku.1).trans ib.1,_,rfl,ib.2⟩
end Go.Proofs.YtkpifdkccdndcaaGreat
namespace Go.Big
theorem azO{t:Int}(bB:1<=t)(z:t<4294967296):1<=jj t/\jj t<=32:=by have a:=aac (n:=t);have b:=LU (n:=t);omega
theorem asM{cT cr g dU t P cZ e9:Int}(x8:0<P)(x9:cT=t*P+cZ)(et:cZ<P)(kr:cr=dU*P+e9)(r4:0<=e9)(bH:0<dU)(rZ:0<=g)(h:g*cr<=cT):g<=t/dU:=by
  have z:g*(dU*P)<=g*cr:=Int.mul_le_mul_of_nonneg_left (by omega) rZ;have D:g*dU*P<(t+1)*P:=by have:(t+1)*P=t*P+P:=(by grind);have:g*dU*P=g*(dU*P):=(by grind);omega
  have Z:g*dU<t+1:=Int.lt_of_mul_lt_mul_right D (by omega);exact(Int.le_ediv_iff_mul_le bH).2 (by omega)
theorem pA.first{cf cr:Int}{n aV:Nat}{a:List Int}(jX:val a=cf)(aE:dx a)(lJ:a.length+1=aV+n)(ak:0<n)(kr:aZ (n-1)<=cr):pA cf cr n (a++[0]) (List.replicate aV 0) aV:=by
  have bY:dx [0]:= λx H=>by simp at H;subst H;omega
  refine⟨aE.app bY,dx.vm _,by simp;omega,λi x aa H=> ?_,?_,?_⟩
  · have:=(List.getElem?_eq_some_iff.1 H).1;simp at this;omega
  · have e:((a++[0]).drop aV).take n=a.drop aV++[0]:=by
      rw[List.take_of_length_le (by simp;omega),List.drop_append_of_le_length (by omega)]
    rw[e,ub];have b:=il (aE.drop aV);rw[List.length_drop,show a.length-aV=n-1 by omega]at b;simp only[val];omega
  · rw[List.drop_of_length_le (by simp),ub,jX];simp[val]
theorem S8(l:List Int)(k:Nat):val (l++List.replicate k 0)=val l:=by rw[ub,Ta];simp
theorem azG{cA c4 G:Int}(dB:0<G):cA*G/(c4*G)=cA/c4/\cA*G%(c4*G)/G=cA%c4:=by refine⟨Int.mul_ediv_mul_of_pos_left _ _ dB,?_⟩;rw[Int.mul_comm cA,Int.mul_comm c4,Int.mul_emod_mul_of_pos _ _ dB,Int.mul_ediv_cancel_left _ (by omega)]
end Go.Big
namespace Go.Proofs.YtkpifdkccdndcaaGreat
open Go Go.DI Go.Big
theorem a0.none{m N:B}(h:a0 m N){b:Nat}(L:b<m.next)(ak:m.M b=none):N.M b=none:=by rw[h.M b L,ak]
theorem Bk{P:Program}{f:Nat}{args:List Value}{p m:B}{km:Value->B->Prop}(aq:qi p m)(h:bJ P f args p λr eM=>a0 p eM/\km r eM):
    bJ P f args m λr N=>a0 m N/\ ∃eM,qi eM N/\a0 p eM/\km r eM/\ ∀b,b<m.next->p.M b=none->eM.M b=none:=by
  refine(bJ.frame aq h).aD λr N bt=> ?_;obtain⟨eM,⟨an,aF⟩,R⟩:=bt;refine⟨⟨R.next,λb L=> ?_⟩,eM,R.part,an,aF,λb L ak=>(R.L7 b L ak).2.1⟩;cases aj:p.M b with
  |none=>exact(R.L7 b L aj).1
  |some x=>rw[R.part.M _ _ (an.some aj),aq.M _ _ aj]
theorem bC.jc{m N:B}{v:Value}{l:List Int}(h:bC m v l)(J:cx m N):bC N v l:=by
  obtain⟨W,h|⟨b,o,cs,w,z,D,Z,aw⟩⟩:=h
  · exact⟨W,.inl h⟩
  · exact⟨W,.inr ⟨b,o,cs,w,z,J.M _ _ D,Z,aw⟩⟩
def B.qJ(m:B)(b:Nat):B:=m.au b none
theorem qi.qJ(m:B)(b:Nat):qi (B.qJ m b) m:=⟨rfl,rfl,λc x h=>by
  by_cases aB:c=b
  · subst aB;simp[B.qJ,B.M,B.au]at h
  · rwa [B.qJ,dv aB]at h⟩
theorem ZR{m:B}{b:Nat}:(B.qJ m b).M b=none:=by simp[B.qJ,B.M,B.au]
theorem ayX{m:B}{b c:Nat}(h:c≠b):(B.qJ m b).M c=m.M c:=by rw[B.qJ,dv h]
theorem bC.mV{m:B}{v:Value}{l:List Int}{b:Nat}(h:bC m v l)(L:m.M b=none):ai v≠some b:=by
  obtain⟨W,⟨rfl,_⟩|⟨c,o,cs,w,rfl,D,Z,aw⟩⟩:=h
  · simp[ai]
  · simp only[ai,ne_eq,Option.some.injEq];intro e;subst e;rw[L]at D;cases D
theorem bC.qJ{m:B}{v:Value}{l:List Int}{b:Nat}(h:bC m v l)(L:ai v≠some b):bC (B.qJ m b) v l:=by
  obtain⟨W,h|⟨c,o,cs,w,rfl,D,Z,aw⟩⟩:=h
  · exact⟨W,.inl h⟩
  · refine⟨W,.inr ⟨c,o,cs,w,rfl,?_,Z,aw⟩⟩;rw[ayX (λe=>L (by simp[ai,e])),D]
theorem amI{dd:B}{v w:Value}{a:List Int}{d:Int}(X:bC dd v a)(aO:bC dd w [d])(aR:0<d/\d<4294967296)(aE:Big a){aQ:Nat}(jF:dd.next<=aQ){Q:dr->aL->B->Prop}: ∀(n:Nat) (c:Int) (o:List Int) (m:B) (u:aL),
    n<=a.length->a0 dd m->m.M aQ=some ⟨o.map cT,true⟩->dx o->o.length=a.length->0<=c->c<d->val (a.drop n)=val (o.drop n)*d+c->
    u 0=v->u 1=w->u 6= .slice (some ⟨aQ,0,none⟩) a.length 1->u 7=br c->u 8=S ((n:Int)-1)->
    (∀ag N o c,a0 dd N->N.M aQ=some ⟨o.map cT,true⟩->dx o->o.length=a.length->0<=c->c<d->val a=val o*d+c->
      ag 6= .slice (some ⟨aQ,0,none⟩) a.length 1->ag 7=br c->Q (.bI 0) ag N)->ch Tryz.prog (.loop P2) u m Q
  | 0,c,o,m,u,ak,an,aj,aA,et,g1,cB,aU,bl,aH,db,cP,b3,bf=>by refine eT λb9 a9=> ?_;simp[P2,XG,XH,b3];exact bf _ _ o c an aj aA et g1 cB (by simpa using aU) (by simp[db]) (by simp[cP])
  | n+1,c,o,m,u,ak,an,aj,aA,et,g1,cB,aU,bl,aH,db,cP,b3,bf=>by
    refine eT λb9 a9=> ?_;have gb:=X.aD an;have iS:=aO.aD an;obtain⟨z,D,Z,aw⟩:=gb.len;obtain⟨dQ,gx,hh,lA⟩:=iS.len
    replace dQ:ic w=1:=dQ
    have bn:=gb.j7 (i:=n) (by omega);have bF:=gb.fj (i:=n) (by omega);have dt:=iS.j7 (i:=0) (by simp);have dJ:=iS.fj (i:=0) (by simp);rw[show ay [d] 0=d from rfl]at dJ;have acP:= λx=>(aO.aD (an.au (x:=x) jF)).j7 (i:=0) (by simp);have TS:= λx=>(aO.aD (an.au (x:=x) jF)).fj (i:=0) (by simp);rw[show ay [d] 0=d from rfl]at TS;simp only[Int.cast_ofNat_Int]at dt dJ acP TS;have gh:=hX X.1 n;have bK:(n:Int)<a.length:=(by omega);have bU:n<a.length:=(by omega);have cn:n+1<=a.length:=(by omega);obtain⟨t,bH⟩: ∃t,t=c*4294967296+ay a n:=⟨_,rfl⟩;have cd:0<=t:=(by omega);have y9:t<d*4294967296:=(by omega);have jC:0<=t/d:=Int.ediv_nonneg cd (by omega);have mA:t/d<4294967296:=Int.ediv_lt_of_lt_mul (by omega) (by rw[Int.mul_comm];exact y9);have gi:=Int.emod_nonneg t (show d≠0 by omega);have aM:=Int.emod_lt_of_pos t aR.1;have bo:IntKind.i64.wrap ((n:Int)-1)=(n:Int)-1:=ct (by omega) (by omega);have cS:IntKind.u64.wrap (ay a n)=ay a n:=e0 (by omega) (by omega);have fz:IntKind.u64.wrap (c*4294967296)=c*4294967296:=e0 (by omega) (by omega);have hT:IntKind.u64.wrap ↑((c*4294967296%2^IntKind.u64.bits).toNat|||(ay a n%2^IntKind.u64.bits).toNat)=t:=(by rw[AF (s:=32) (by decide) g1 gh.1 gh.2 (by omega),bH]);have hK:IntKind.u64.wrap d=d:=e0 (by omega) (by omega);have iI:IntKind.u64.wrap (t.tdiv d)=t/d:=(by rw[Int.tdiv_eq_ediv_of_nonneg cd];exact e0 jC (by omega));have mR:t.tmod d=t%d:=Int.tmod_eq_emod_of_nonneg cd;have md:IntKind.u32.wrap (t/d)=t/d:=(by rw[iu];omega);have vl: ¬d=0:=(by omega);have cM:=aT aj;simp[P2,XG,XH,bl,aH,db,cP,b3,z,Z,dQ,hh,bK,cn,bn,bF,dt,dJ,acP,TS,bo,cS,fz,hT,hK,iI,mR,md,vl,aj,et];refine a9 _ _ (amI X aO aR aE jF n (t%d) (o.set n (t/d)) _ _ (by omega) (an.au jF) (by rw[bX cM,m9]) (aA.set n (by omega)) (by simp[et]) gi aM (am7 aR.1 aU bH (by omega)) (by simp[bl]) (by simp[aH]) (by simp[db]) (by simp) (by simp) bf)
end Go.Proofs.YtkpifdkccdndcaaGreat
namespace Go.Proofs.YtkpifdkccdndcaaGreat
open Go Go.DI Go.Big
def B.du(m:B)(l:List Nat):B:=⟨m.next,λb=>if b∈l then none else m.mV b,m.mp⟩
section
variable {m N:B} {l:List Nat} {b:Nat} {x:Option fO}
theorem Fu(h:b∈l):(B.du m l).M b=none:=by simp[B.du,B.M,h]
theorem zx(h:b∉l):(B.du m l).M b=m.M b:=by simp[B.du,B.M,h]
theorem qi.du(m:B)(l:List Nat):qi (B.du m l) m:=⟨rfl,rfl,λc y h=>by
  by_cases aB:c∈l
  · rw[Fu aB]at h;cases h
  · rwa [zx aB]at h⟩
theorem zy(h:b∈l):B.du (m.au b x) l=B.du m l:=by
  simp only[B.du,B.au,B.mk.injEq,true_and,and_true];funext i;by_cases aa:i∈l
  · simp[aa]
  · simp[aa,show i≠b from λe=>aa (e▸h)]
theorem cx.xX(an:a0 m N)(aG: ∀c∈l,m.next<=c):cx m (B.du N l):=⟨an.next,λc y h=>by rw[zx (λaB=>by have:=aG c aB;have:=aT h;omega)];exact an.some h⟩
theorem cx.kU(an:a0 m N):cx (B.du m l) (B.du N l):=⟨an.next,λc y h=>by
  by_cases aB:c∈l
  · rw[Fu aB]at h;cases h
  · rw[zx aB]at h⊢;exact an.some h⟩
theorem cx.du(m:B)(l:List Nat):cx (B.du m l) m:=(qi.du m l).sub
theorem cx.l9(an:a0 m N):cx m N:=⟨an.next,λ_ _ h=>an.some h⟩
theorem od{P:Program}{f:Nat}{args:List Value}{km:Value->B->Prop}(auY: ∀r a c,cx a c->km r a->km r c)(aG: ∀c∈l,c<m.next)(h:bJ P f args (B.du m l) λr eM=>a0 (B.du m l) eM/\km r eM):
    bJ P f args m λr N=>a0 m N/\km r (B.du N l):=by
  refine(Bk (qi.du m l) h).aD λr N aq=> ?_;obtain⟨an,eM,al9,op,aF,ak⟩:=aq;refine⟨an,auY r eM _ ⟨Nat.le_of_eq al9.next,λc y aB=> ?_⟩ aF⟩;rw[zx (λeb=>by rw[ak c (aG c eb) (Fu eb)]at aB;cases aB)];exact al9.M c y aB
end
theorem dw.sub{m N:B}{v:Value}{n:Int}(h:dw m v n)(J:cx m N):dw N v n:=by obtain⟨l,z,D,Z⟩:=h;exact⟨l,z.jc J,D,Z⟩
theorem iJ.sub{m N:B}{v:Value}{x:a6}(h:iJ m v x)(J:cx m N):iJ N v x:=by obtain⟨a,b,z,D,Z⟩:=h;exact⟨a,b,z,D.sub J,Z.sub J⟩
theorem je.sub{m N:B}{v:Value}{x:a6}(h:je m v x)(J:cx m N):je N v x:=by obtain⟨a,b,z,D,Z⟩:=h;exact⟨a,b,z,D.jc J,Z.jc J⟩
section
variable {m:B} {l:List Nat} {v w:Value} {a b:Int}
theorem bC.gm{m:B}{v:Value}{l:List Int}(h:bC m v l): ∃p n c,v= .slice p n c:=by obtain⟨_,⟨rfl,_⟩|⟨b,o,cs,w,rfl,_⟩⟩:=h<;>exact⟨_,_,_,rfl⟩
theorem dw.gm{m:B}{v:Value}{n:Int}(h:dw m v n): ∃p n c,v= .slice p n c:=by obtain⟨l,z,_⟩:=h;exact z.gm
def sw(n:Int)(r:Value)(m:B):Prop:= ∃v,r= .tuple #[v,S 0]/\bC m v (bG n)
theorem sw.sub{n:Int}: ∀r a c,cx a c->sw n r a->sw n r c:= λ_ _ _ J ⟨v,z,D⟩=>⟨v,z,D.jc J⟩
theorem S2(aG: ∀c∈l,c<m.next)(X:dw (B.du m l) v a):bJ Tryz.prog 131 [v] m λr N=>a0 m N/\bC (B.du N l) r (bG a):=
  od (λ_ _ _ J h=>h.jc J) aG (aDn X)
theorem ao7(aG: ∀c∈l,c<m.next)(X:dw (B.du m l) v a)(aO:dw (B.du m l) w b)(h:a+b<aZ 512):bJ Tryz.prog 127 [v,w] m λr N=>a0 m N/\sw (a+b) r (B.du N l):=
  od sw.sub aG (ao9 X aO h)
theorem anl(aG: ∀c∈l,c<m.next)(X:dw (B.du m l) v a)(aO:dw (B.du m l) w b)(h:a<aZ 512)(fG:b<=a):bJ Tryz.prog 128 [v,w] m λr N=>a0 m N/\sw (a-b) r (B.du N l):=
  od sw.sub aG (aC6 X aO h fG)
def A2(x y:Int)(r:Value)(m:B):Prop:= ∃q s,r= .tuple #[q,s,S 0]/\bC m q (bG (x/y))/\bC m s (bG (x%y))
theorem A2.sub{x y:Int}: ∀r a c,cx a c->A2 x y r a->A2 x y r c:= λ_ _ _ J ⟨q,s,z,D,Z⟩=>⟨q,s,z,D.jc J,Z.jc J⟩
theorem adn(aG: ∀c∈l,c<m.next)(X:dw (B.du m l) v a)(aO:dw (B.du m l) w b)(z:a<aZ 512)(D:b<aZ 512)(h:b≠0):bJ Tryz.prog 130 [v,w] m λr N=>a0 m N/\A2 a b r (B.du N l):=
  od A2.sub aG (arq X aO z D h)
theorem asw(aG: ∀c∈l,c<m.next)(X:dw (B.du m l) v a)(aO:dw (B.du m l) w b)(z:a<aZ 512)(D:b<aZ 512):bJ Tryz.prog 129 [v,w] m λr N=>a0 m N/\sw (kc a b) r (B.du N l):=
  od sw.sub aG (asy X aO z D)
theorem zs(X:dw (B.du m l) v a)(az:Value->B->Prop):bJ Tryz.prog 87 [v] m az=az (S (jj a)) m:=A9 (X.sub (cx.du m l)) az
theorem aq7(X:dw (B.du m l) v a)(aO:dw (B.du m l) w b)(az:Value->B->Prop):bJ Tryz.prog 92 [v,w] m az=az (S (h8 a b)) m:=ade (X.sub (cx.du m l)) (aO.sub (cx.du m l)) az
end
def ue(p:Int×a6)(r:Value)(m:B):Prop:= ∃c,r= .tuple #[c,S p.1]/\je m c p.2
theorem ue.sub{p:Int×a6}: ∀r a c,cx a c->ue p r a->ue p r c:= λ_ _ _ J ⟨q,z,D⟩=>⟨q,z,D.sub J⟩
theorem kf{m:B}{b:Nat}(h:b<m.next): ∀c∈[b],c<m.next:= λc aB=>by simp at aB;omega
theorem Ck{m:B}{b:Nat}(h:m.next<=b): ∀c∈[b],m.next<=c:= λc aB=>by simp at aB;omega
theorem xT{P:Program}{base:Nat}{d:Option Nat}{bx:List (Operand×Operand)}{b0:List b6}{u:aL}{m N:B}{aV:aL->B->Prop}{r:Value}
    (an:a0 m N) (L: ∀p∈bx,∀b,ai (ab u p.1)=some b->b<m.next) (h:gY P base b0 (dA u d r) N aV):zu P base d bx b0 u m aV r N:=
  ⟨λp aq b H=>an.M b (L p aq b H),h⟩
abbrev eJ:List Value:=[.bool false,.slice none 0 0,.slice none 0 0]
theorem aze{m:B}{bV:Bool}{v w:Value}{n d:Int}(X:dw m v n)(aO:dw m w d)(ak:n<aZ 512)(aR:0<d)(uz:d<aZ 512):
    bJ Tryz.prog 89 [.bool bV,v,w] m (py m (mw (ej ⟨bV,n,d⟩))):=by
  rw[aqJ (by simp)];have gO:=X.p1;obtain⟨gL,oJ⟩: ∃gL,gL=kc n d:=⟨_,rfl⟩;have aoy:0<gL:=by rw[oJ];exact x5 aR
  have aoz:gL<=d:=by rw[oJ];exact aep aR
  obtain⟨q,bt⟩: ∃q,q=n/gL:=⟨_,rfl⟩;obtain⟨e,aU⟩: ∃e,e=d/gL:=⟨_,rfl⟩;have bK:0<=q:=by rw[bt];exact Int.ediv_nonneg gO (by omega)
  have bm:q<=n:=by rw[bt];exact Int.ediv_le_self _ gO
  have gi:0<e:=by rw[aU,oJ];exact II (x5 aR) aR (NP (by omega))
  have aM:e<=d:=by rw[aU];exact Int.ediv_le_self _ (by omega)
  have aAY:0<q↔0<n:=by refine⟨λh=>by omega,λh=> ?_⟩;rw[bt,oJ];exact II (x5 aR) h (UH gO)
  have JH:ej ⟨bV,n,d⟩=⟨bV&&decide (0<q),q,e⟩:=by simp only[ej,<-oJ,<-bt,<-aU];rw[decide_eq_decide.2 aAY]
  rw[JH];have ua:jj q<=4096↔q<aZ 128:=Sb;have vj:jj e<=4096↔e<aZ 128:=Sb;obtain⟨cH,mo⟩: ∃cH,cH=m.next:=⟨_,rfl⟩
  -- M9 lX aHR
  have tail: ∀(a8:B) (x y:Value) (u:aL),a0 m a8->cH<a8.next->a8.M cH=some ⟨eJ,true⟩->dw (B.du a8 [cH]) x q->dw (B.du a8 [cH]) y e->u 0= .bool bV->u 1=x->u 2=y->u 6=bZ cH->
      ch Tryz.prog G2 u a8 (ey [.h7 6 true 3,.bA 7] (py m (mw ⟨bV&&decide (0<q),q,e⟩))):=by
    intro a8 x y u an cM aj H ah bl aH bD db;by_cases bp:4096<jj q
    · have aI: ¬a6.vv ⟨bV&&decide (0<q),q,e⟩=true:= λh=>by have:q<aZ 128:=(a6.FB.1 h).1;omega
      simp(disch:=first|omega|(simp only[ae,ad,af];omega)) [G2,Lq,aH,db,zs H,bp,aj];simp only[mw,aI];exact⟨an.au (by omega),_,rfl,je.zero⟩
    by_cases dc:4096<jj e
    · have aI: ¬a6.vv ⟨bV&&decide (0<q),q,e⟩=true:= λh=>by have:e<aZ 128:=(a6.FB.1 h).2;omega
      simp(disch:=first|omega|(simp only[ae,ad,af];omega)) [G2,Lq,aH,bD,db,zs H,zs ah,bp,dc,aj];simp only[mw,aI];exact⟨an.au (by omega),_,rfl,je.zero⟩
    have aI:a6.vv ⟨bV&&decide (0<q),q,e⟩=true:=a6.FB.2 ⟨ua.1 (by omega),vj.1 (by omega)⟩;simp only[mw,aI,if_true];have aG:=kf cM;have eK:decide (0<jj q)=decide (0<q):=(by rw[decide_eq_decide];have:=LU (n:=q);omega);have nO: ∀(c:Bool) (c7:aL) (bz b4:B) (e6 fw:Value),c=(bV&&decide (0<q))->a0 a8 bz->bC (B.du bz [cH]) e6 (bG q)->a0 bz b4->bC (B.du b4 [cH]) fw (bG e)->py m (0,⟨bV&&decide (0<q),q,e⟩) (.tuple #[.agg #[.bool c,e6,fw],S 0]) (b4.au cH (some ⟨[.bool c,e6,fw],true⟩)):=by
      intro c c7 bz b4 e6 fw aB b5 z dC D;subst aB;have J:cx (B.du b4 [cH]) (b4.au cH (some ⟨[.bool (bV&&decide (0<q)),e6,fw],true⟩)):=by rw[<-zy (m:=b4) (b:=cH) (x:=some ⟨[.bool (bV&&decide (0<q)),e6,fw],true⟩) (by simp)];exact cx.du _ _
      exact⟨((an.trans b5).trans dC).au (by omega),_,rfl,_,_,rfl,(z.jc (cx.kU dC)).jc J,D.jc J⟩
    cases BI:bV with
    | false=>rw[BI]at bl nO;simp[G2,Lq,bl,aH,bD,zs H,zs ah,bp,dc];refine(S2 aG H).aD λe6 bz fP=> ?_;simp[bD];refine(S2 (kf (Nat.lt_of_lt_of_le cM fP.1.next)) (ah.sub (cx.kU fP.1))).aD λfw b4 fh=> ?_;have qx:=fh.1.some (fP.1.some aj);obtain⟨aAB,na,apH,rfl⟩:=fP.2.gm;obtain⟨aAE,sX,aqX,rfl⟩:=fh.2.gm;have:=aT qx;simp(disch:=omega) [db,qx];exact nO false u bz b4 _ _ (by simp) fP.1 fP.2 fh.1 fh.2
    | true=>rw[BI]at bl nO;simp[G2,Lq,bl,aH,bD,zs H,zs ah,bp,dc];refine(S2 aG H).aD λe6 bz fP=> ?_;simp[bD];refine(S2 (kf (Nat.lt_of_lt_of_le cM fP.1.next)) (ah.sub (cx.kU fP.1))).aD λfw b4 fh=> ?_;have qx:=fh.1.some (fP.1.some aj);obtain⟨aAB,na,apH,rfl⟩:=fP.2.gm;obtain⟨aAE,sX,aqX,rfl⟩:=fh.2.gm;have:=aT qx;simp(disch:=omega) [db,qx];exact nO (decide (0<jj q)) u bz b4 _ _ (by simp[eK]) fP.1 fP.2 fh.1 fh.2
  simp[Zv,aka,akb];obtain⟨a8,dN⟩: ∃a8,a8=(m.bs 2).au m.next (some ⟨eJ,true⟩):=⟨_,rfl⟩
  rw[<-dN,<-mo];have ed:a0 m a8:=by rw[dN];exact((a0.refl m).bs 2).au (by omega)
  have cM:cH<a8.next:=by rw[dN,mo];simp
  have aj:a8.M cH=some ⟨eJ,true⟩:=by rw[dN,mo];exact bX (by simp)
  have rz:= λ{N:B} (o:a0 m N)=>cx.xX (l:=[cH]) o (Ck (by omega));refine(asw (kf cM) (X.sub (rz ed)) (aO.sub (rz ed)) ak uz).aD λe6 bz fP=> ?_;obtain⟨b5,g,rfl,r0⟩:=fP;rw[<-oJ]at r0;have jk:=ed.trans b5;have NN:=dw.bG r0 (by omega) (by omega);by_cases RT:1<jj gL
  · simp[zs NN,RT];refine(adn (kf (Nat.lt_of_lt_of_le cM b5.next)) (X.sub (rz jk)) NN ak (by omega) (by omega)).aD λfw b4 fh=> ?_;obtain⟨dC,lW,oz,rfl,F8,_⟩:=fh;rw[<-bt]at F8;simp;have ke:=jk.trans dC;have alK:=b5.trans dC;refine(adn (kf (Nat.lt_of_lt_of_le cM alK.next)) (aO.sub (rz ke)) (NN.sub (cx.kU dC)) uz (by omega) (by omega)).aD λiZ gI js=> ?_;obtain⟨fs,eW,aNt,rfl,BA,_⟩:=js;rw[<-aU]at BA;simp;have alL:=alK.trans fs;exact tail gI lW eW _ (ke.trans fs) (Nat.lt_of_lt_of_le cM alL.next) (alL.some aj) ((dw.bG F8 bK (by omega)).sub (cx.kU fs)) (dw.bG BA (by omega) (by omega)) (by simp) (by simp) (by simp) (by simp[mo])
  · have aoA:gL=1:=(by have:=azN (n:=gL);omega);rw[aoA,Int.ediv_one]at bt aU;simp[zs NN,RT];exact tail bz v w _ jk (Nat.lt_of_lt_of_le cM b5.next) (b5.some aj) (by rw[bt];exact X.sub (rz jk)) (by rw[aU];exact aO.sub (rz jk)) (by simp) (by simp) (by simp) (by simp[mo])
theorem ZY{m:B}{l:List Nat}{bV:Bool}{v w:Value}{n d:Int}(aG: ∀c∈l,c<m.next)(X:dw (B.du m l) v n)(aO:dw (B.du m l) w d)(ak:n<aZ 512)(aR:0<d)(uz:d<aZ 512):
    bJ Tryz.prog 89 [.bool bV,v,w] m λr N=>a0 m N/\ue (mw (ej ⟨bV,n,d⟩)) r (B.du N l):=
  od ue.sub aG (aze X aO ak aR uz)
theorem rR{m b4:B}{cH:Nat}{p:Int×a6}{cl cN di:Value}(an:a0 m b4)(mo:m.next<=cH)(aB:je (B.du b4 [cH]) (.agg #[cl,cN,di]) p.2):py m p (.tuple #[.agg #[cl,cN,di],S p.1]) (b4.au cH (some ⟨[cl,cN,di],true⟩)):=by refine⟨an.au mo,_,rfl,aB.sub ?_⟩;rw[<-zy (m:=b4) (b:=cH) (l:=[cH]) (x:=some ⟨[cl,cN,di],true⟩) (by simp)];exact cx.du _ _
theorem je.gm{m:B}{v:Value}{x:a6}(h:je m v x): ∃p n c eM dM eU,v= .agg #[.bool x.bV,.slice p n c,.slice eM dM eU]:=by obtain⟨a,b,rfl,z,D⟩:=h;obtain⟨p,n,c,rfl⟩:=z.gm;obtain⟨eM,dM,eU,rfl⟩:=D.gm;exact⟨_,_,_,_,_,_,rfl⟩
theorem iJ.gm{m:B}{v:Value}{x:a6}(h:iJ m v x): ∃p n c eM dM eU,v= .agg #[.bool x.bV,.slice p n c,.slice eM dM eU]/\dw m (.slice p n c) x.n/\dw m (.slice eM dM eU) x.d:=by obtain⟨a,b,rfl,z,D⟩:=h;obtain⟨p,n,c,rfl⟩:=z.gm;obtain⟨eM,dM,eU,rfl⟩:=D.gm;exact⟨_,_,_,_,_,_,rfl,z,D⟩
section
variable {m:B} {l:List Nat} {v w:Value} {a b:Int} {x y:a6}
theorem ab0(X:dw m v a)(aO:dw m w b)(z:a<aZ 512)(D:b<aZ 512)(h:a*b<aZ 512):bJ Tryz.prog 93 [v,w] m λr N=>a0 m N/\bC N r (bG (a*b)):=by rw[aqO (by simp)];simp[Zx,aki,akj];refine(azH X aO z D h).aD λr N aq=> ?_;obtain⟨an,v,rfl,J⟩:=aq;simp;exact⟨an,J⟩
theorem abZ(aG: ∀c∈l,c<m.next)(X:dw (B.du m l) v a)(aO:dw (B.du m l) w b)(z:a<aZ 512)(D:b<aZ 512)(h:a*b<aZ 512):bJ Tryz.prog 93 [v,w] m λr N=>a0 m N/\bC (B.du N l) r (bG (a*b)):=
  od (λ_ _ _ J h=>h.jc J) aG (ab0 X aO z D h)
theorem Tm(h:iJ m v x):bJ Tryz.prog 94 [v] m λr N=>a0 m N/\r= .bool (decide (x.n=0)):=by rw[aqP (by simp)];obtain⟨p,n,c,eM,dM,eU,rfl,aE,L⟩:=h.gm;have ux:= λk j x=>A9 (aE.aD (((a0.refl m).bs k).au (i:=m.next+j) (x:=x) (by omega)));have Jr:= λk x=>A9 (aE.aD (((a0.refl m).bs k).au (i:=m.next) (x:=x) (by omega)));simp(disch:=first|omega|(simp only[ae,ad,af];omega)) [Zy,akk,Jr];refine⟨((a0.refl m).bs _).au (by omega),?_⟩;have z:=LU (n:=x.n);have D:=aad x.n;have Z:=h.gO;omega
theorem HY(h:iJ m v x):bJ Tryz.prog 91 [v] m λr N=>a0 m N/\r= .bool x.ok:=by
  rw[aqM (by simp)];obtain⟨p,n,c,eM,dM,eU,rfl,aE,L⟩:=h.gm;have Jr:= λk x=>A9 (aE.aD (((a0.refl m).bs k).au (i:=m.next) (x:=x) (by omega)));have U7:= λk x=>A9 (L.aD (((a0.refl m).bs k).au (i:=m.next) (x:=x) (by omega)));have aM:=Sb (n:=x.d);have a1:=Sb (n:=x.n);have cI:=LU (n:=x.d);have an:= λk x=>(((a0.refl m).bs k).au (i:=m.next) (x:=x) (by omega));by_cases bp:0<jj x.d
  · by_cases dc:jj x.d<=4096
    · simp(disch:=first|omega|(simp only[ae,ad,af];omega)) [Lr,Rv,Rw,Jr,U7,bp,dc];refine⟨an _ _,?_⟩;simp only[a6.ok];have:decide (jj x.n<=4096)=decide (x.n<aZ 128):=decide_eq_decide.2 a1;rw[this];have z:decide (0<x.d)=true:=(by simp;omega);have D:decide (x.d<aZ 128)=true:=(by simp;omega);rw[z,D,Bool.true_and,Bool.true_and]
    · simp(disch:=first|omega|(simp only[ae,ad,af];omega)) [Lr,Rv,Rw,U7,bp,dc];refine⟨an _ _,?_⟩;simp[a6.ok];omega
  · simp(disch:=first|omega|(simp only[ae,ad,af];omega)) [Lr,Rv,Rw,U7,bp];refine⟨an _ _,?_⟩;simp[a6.ok];omega
theorem Bi(H:x.ok=true):0<x.d/\x.d<aZ 512/\x.n<aZ 512:=by obtain⟨z,D,Z⟩:=a6.nq.1 H;have:=yU;omega
theorem amp(h:iJ m v x):bJ Tryz.prog 86 [v] m (py m (rr x)):=by
  rw[aqG (by simp)];obtain⟨p,n,c,eM,dM,eU,rfl,aE,L⟩:=h.gm;have bB:=h.gO;simp(disch:=first|omega|(simp only[ae,ad,af];omega)) [Zm,aj7,aj8];obtain⟨a8,dN⟩: ∃a8,a8=((m.bs 3).au m.next (some ⟨[.bool x.bV,.slice p n c,.slice eM dM eU],true⟩)).au (m.next+1) (some ⟨eJ,true⟩):=⟨_,rfl⟩;rw[<-dN];have ed:a0 m a8:=by rw[dN];exact(((a0.refl m).bs 3).au (by omega)).au (by omega)
  have cM:m.next+1<a8.next:=by rw[dN];simp
  have rZ:a8.M m.next=some ⟨[.bool x.bV,.slice p n c,.slice eM dM eU],true⟩:=by rw[dN,dv (by omega),bX (by simp)]
  have r0:a8.M (m.next+1)=some ⟨eJ,true⟩:=by rw[dN,bX (by simp)]
  refine(HY (h.aD ed)).aD λr bz aq=> ?_;obtain⟨b5,rfl⟩:=aq;have a4:=b5.some rZ;have aC:=b5.some r0;have pP:=aT aC;by_cases k:x.ok=true
  · simp[k,a4];have rz:=cx.xX (l:=[m.next+1]) (ed.trans b5) (Ck (by omega));obtain⟨jC,mA,oG⟩:=Bi k;refine(ZY (kf pP) (aE.sub rz) (L.sub rz) oG jC mA).aD λfw b4 fh=> ?_;obtain⟨dC,q,rfl,bt⟩:=fh;have I4:=dC.some aC;have zT:=aT I4;obtain⟨dK,fY,cB,eO,dh,eQ,rfl⟩:=bt.gm;simp(disch:=omega) [I4];rw[HG k bB];have e:mw (ej ⟨x.bV,x.n,x.d⟩)=(0,ej x):=(by have:=HG k bB;rw[rr,if_pos k]at this;exact this);rw[e]at bt⊢;exact rR ((ed.trans b5).trans dC) (by omega) bt
  · simp(disch:=omega) [k,aC];rw[Ss k];exact rR (ed.trans b5) (by omega) je.zero
theorem adK(H:iJ m v x)(ah:iJ m w y):bJ Tryz.prog 27 [v,w] m λr N=>a0 m N/\r=if x.ok&&y.ok then .tuple #[S (ju x y),S 0]else .tuple #[S 0,S 1]:=by
  rw[aqu (by simp)];obtain⟨p,n,c,eM,dM,eU,rfl,aE,L⟩:=H.gm;obtain⟨aJ,k,e,k9,gN,eW,rfl,nR,jD⟩:=ah.gm;have cl:=H.gO;have o3:=ah.gO;simp(disch:=first|omega|(simp only[ae,ad,af];omega)) [Ys,aiN,aiO];obtain⟨a8,dN⟩: ∃a8,a8=((m.bs 4).au m.next (some ⟨[.bool x.bV,.slice p n c,.slice eM dM eU],true⟩)).au (m.next+1) (some ⟨[.bool y.bV,.slice aJ k e,.slice k9 gN eW],true⟩):=⟨_,rfl⟩;rw[<-dN];have ed:a0 m a8:=by rw[dN];exact(((a0.refl m).bs 4).au (by omega)).au (by omega)
  have rZ:a8.M m.next=some ⟨[.bool x.bV,.slice p n c,.slice eM dM eU],true⟩:=by rw[dN,dv (by omega),bX (by simp)]
  have r0:a8.M (m.next+1)=some ⟨[.bool y.bV,.slice aJ k e,.slice k9 gN eW],true⟩:=by rw[dN,bX (by simp)]
  refine(HY (H.aD ed)).aD λr bz aq=> ?_;obtain⟨b5,rfl⟩:=aq;have a4:=b5.some rZ;have aC:=b5.some r0;by_cases l6:x.ok=true
  · simp[l6,aC];refine(HY ((ah.aD ed).aD b5)).aD λr b4 aq=> ?_;obtain⟨dC,rfl⟩:=aq;have a4:=dC.some a4;have aC:=dC.some aC;have ke:=(ed.trans b5).trans dC;by_cases nj:y.ok=true
    · simp[nj,a4,aC];obtain⟨Fx,zC,EG⟩:=a6.nq.1 l6;obtain⟨Fy,zD,EH⟩:=a6.nq.1 nj;have Ic:=yU;have Tv:=Sm;have Tw:=k8 256;have At:=sV cl (by omega) EG zD;have Au:=sV o3 (by omega) EH zC;simp only[Nat.reduceAdd]at At Au;refine(ab0 (aE.aD ke) (jD.aD ke) (by omega) (by omega) (by omega)).aD λiZ gI js=> ?_;obtain⟨fs,Z⟩:=js;have asp:=fs.some a4;have nz:=fs.some aC;have nE:=aT a4;have nV:=aT aC;refine xT fs (λp aq b L=>by simp at aq;rcases aq with rfl|rfl<;>simp[ai]at L<;>omega) ?_;simp[];have rq:=ke.trans fs;refine(ab0 (nR.aD rq) (L.aD rq) (by omega) (by omega) (by omega)).aD λnr h0 ku=> ?_;obtain⟨g3,aw⟩:=ku;have Dm:=g3.some asp;have x2:=g3.some nz;have nG:=rq.trans g3;have aI6:=aT Dm;have aI7:=aT x2;have xP:0<=x.n*y.d:=Int.mul_nonneg cl (by omega);have xQ:0<=y.n*x.d:=Int.mul_nonneg o3 (by omega);have Iz:= λaz=>ade (dw.bG (Z.aD g3) xP (by omega)) (dw.bG aw xQ (by omega)) az;obtain⟨C,x7⟩: ∃C,C=h8 (x.n*y.d) (y.n*x.d):=⟨_,rfl⟩;rw[<-x7]at Iz;have aov:IntKind.i64.wrap (-C)= -C:=by
        have: -1<=C/\C<=1:=(by rw[x7];unfold h8;split<;>(try split)<;>omega);exact ct (by omega) (by omega)
      have nO: ∀(cf bu:Bool) (u:aL) (N:B),a0 m N->u 6=S C->u 7= .bool cf->u 8= .bool bu->ch Tryz.prog Yt u N (ey [.bA 4,.bA 5] λr N=>a0 m N/\r= .tuple #[S (if cf then(if bu then-C else-1)else if bu then 1 else C),S 0]):=(by intro cf bu u N o db cP b3;cases cf<;>cases bu<;>simp[Yt,aiP,db,cP,b3,aov]<;>exact o);have aAe:ju x y=if(x.bV&&decide (x.n≠0))then(if(y.bV&&decide (y.n≠0))then-C else-1)else if(y.bV&&decide (y.n≠0))then 1 else C:=by unfold ju;rw[x7,aq6 (x.n*y.d)]
      rw[aAe];simp[Iz];have sU: ∀u:aL,u 6=S C->u 2=bZ m.next->u 3=bZ (m.next+1)->ch Tryz.prog GH u h0 (ey [.bA 4,.bA 5] λr N=>a0 m N/\r= .tuple #[S (if(x.bV&&decide (x.n≠0))then(if(y.bV&&decide (y.n≠0))then-C else-1)else if(y.bV&&decide (y.n≠0))then 1 else C),S 0]):=by
        intro u tU eO gk;cases hY:x.bV with
        | false=>
          rw[hY]at Dm;cases uI:y.bV with
          | false=>rw[uI]at x2;simp[GH,eO,gk,Dm,x2];simpa using nO false false _ h0 nG (by simp[tU]) (by simp) (by simp)
          | true=>rw[uI]at x2;simp[GH,eO,gk,Dm,x2];have DV:=ah.aD nG;rw[uI]at DV;refine(Tm DV).aD λmL g2 ib=> ?_;obtain⟨gK,rfl⟩:=ib;simp;simpa using nO false (!decide (y.n=0)) _ g2 (nG.trans gK) (by simp[tU]) (by simp) (by simp)
        | true=>
          rw[hY]at Dm;have DS:=H.aD nG;rw[hY]at DS;cases uI:y.bV with
          | false=>rw[uI]at x2;simp[GH,eO,gk,Dm,x2];refine(Tm DS).aD λmL g2 ib=> ?_;obtain⟨gK,rfl⟩:=ib;refine xT gK (λp aq b L=>by simp at aq;rcases aq with rfl;simp[ai]at L;omega) ?_;simp;simpa using nO (!decide (x.n=0)) false _ g2 (nG.trans gK) (by simp[tU]) (by simp) (by simp)
          | true=>rw[uI]at x2;simp[GH,eO,gk,Dm,x2];refine(Tm DS).aD λmL g2 ib=> ?_;obtain⟨gK,rfl⟩:=ib;refine xT gK (λp aq b L=>by simp at aq;rcases aq with rfl;simp[ai]at L;omega) ?_;have kp:=gK.some x2;simp[gk,kp];have DV:=(ah.aD nG).aD gK;rw[uI]at DV;refine(Tm DV).aD λxD ie nW=> ?_;obtain⟨ig,rfl⟩:=nW;simp;simpa using nO (!decide (x.n=0)) (!decide (y.n=0)) _ ie ((nG.trans gK).trans ig) (by simp[tU]) (by simp) (by simp)
      simp only[Bool.and_eq_true,decide_eq_true_eq,ne_eq]at sU;exact sU _ (by simp) (by simp) (by simp)
    · simp[nj];exact ke
  · simp[l6];exact ed.trans b5
end
section
variable {m:B} {l:List Nat} {v w:Value} {a b:Int} {x y:a6}
theorem ar3(H:iJ m v x)(ah:iJ m w y):bJ Tryz.prog 88 [v,w] m (py m (jg x y)):=by
  rw[aqI (by simp)];obtain⟨p,n,c,eM,dM,eU,rfl,aE,L⟩:=H.gm;obtain⟨aJ,k,e,k9,gN,eW,rfl,nR,jD⟩:=ah.gm;have cl:=H.gO;have o3:=ah.gO;simp(disch:=first|omega|(simp only[ae,ad,af];omega)) [Zt,aj9];obtain⟨cH,mo⟩: ∃cH,cH=m.next+2:=⟨_,rfl⟩
  obtain⟨a8,dN⟩: ∃a8,a8=(((m.bs 4).au m.next (some ⟨[.bool x.bV,.slice p n c,.slice eM dM eU],true⟩)).au (m.next+1) (some ⟨[.bool y.bV,.slice aJ k e,.slice k9 gN eW],true⟩)).au (m.next+2) (some ⟨eJ,true⟩):=⟨_,rfl⟩;rw[<-dN,<-mo];have ed:a0 m a8:=by rw[dN];exact((((a0.refl m).bs 4).au (by omega)).au (by omega)).au (by omega)
  have rZ:a8.M m.next=some ⟨[.bool x.bV,.slice p n c,.slice eM dM eU],true⟩:=by rw[dN,dv (by omega),dv (by omega),bX (by simp)]
  have r0:a8.M (m.next+1)=some ⟨[.bool y.bV,.slice aJ k e,.slice k9 gN eW],true⟩:=by rw[dN,dv (by omega),bX (by simp)]
  have qx:a8.M cH=some ⟨eJ,true⟩:=by rw[dN,mo,bX (by simp)]
  refine(HY (H.aD ed)).aD λr bz aq=> ?_;obtain⟨b5,rfl⟩:=aq;have a4:=b5.some rZ;have aC:=b5.some r0;have a2:=b5.some qx;have pP:=aT a2;have jk:=ed.trans b5;by_cases l6:x.ok=true
  · simp[l6,aC];refine(HY (ah.aD jk)).aD λr b4 aq=> ?_;obtain⟨dC,rfl⟩:=aq
    replace a4:=dC.some a4
    replace aC:=dC.some aC
    replace a2:=dC.some a2
    have zT:=aT a2;have ke:=jk.trans dC;by_cases nj:y.ok=true
    · simp[nj];obtain⟨Fx,zC,EG⟩:=a6.nq.1 l6;obtain⟨Fy,zD,EH⟩:=a6.nq.1 nj;have Ic:=yU;have Tv:=Sm;have Tw:=k8 256;have At:=sV cl (by omega) EG zD;have Au:=sV o3 (by omega) EH zC;have LO:=sV (by omega) (by omega) zC zD;simp only[Nat.reduceAdd]at At Au LO;have xP:0<=x.n*y.d:=Int.mul_nonneg cl (by omega);have xQ:0<=y.n*x.d:=Int.mul_nonneg o3 (by omega);have CW:0<x.d*y.d:=Int.mul_pos Fx Fy;obtain⟨cf,jX⟩: ∃cf,cf=x.n*y.d:=⟨_,rfl⟩;obtain⟨bu,ev⟩: ∃bu,bu=y.n*x.d:=⟨_,rfl⟩;obtain⟨aW,mm⟩: ∃aW,aW=x.d*y.d:=⟨_,rfl⟩;have sU: ∀(u:aL),u 2=bZ m.next->u 3=bZ (m.next+1)->u 4=bZ cH->ch Tryz.prog Zu u b4 (ey [.h7 4 true 3,.bA 5] (py m (mw (ej (lI x y))))):=by
        intro u bD bd bL;simp[Zu,bD,bd,a4,aC];have pD:= λ{N:B} (o:a0 m N)=>cx.xX (l:=[cH]) o (Ck (by omega));refine(abZ (kf zT) (aE.sub (pD ke)) (jD.sub (pD ke)) (by omega) (by omega) (by omega)).aD λiZ gI js=> ?_;obtain⟨fs,Z⟩:=js;have nE:=aT a4;have nV:=aT aC;refine xT fs (λp aq b L=>by simp at aq;rcases aq with rfl|rfl|rfl|rfl<;>simp[ai]at L<;>omega) ?_;have rq:=ke.trans fs;have Dn:=fs.some a4;have Dq:=fs.some aC;have I5:=fs.some a2;simp[];refine(abZ (kf (aT I5)) (nR.sub (pD rq)) (L.sub (pD rq)) (by omega) (by omega) (by omega)).aD λnr h0 ku=> ?_;obtain⟨g3,aw⟩:=ku;have atM:=aT Dn;have atN:=aT Dq;refine xT g3 (λp aq b L=>by simp at aq;rcases aq with rfl|rfl<;>simp[ai]at L<;>omega) ?_;have nG:=rq.trans g3;have zI:=g3.some Dn;have zJ:=g3.some Dq;have I6:=g3.some I5;simp[];refine(abZ (kf (aT I6)) (L.sub (pD nG)) (jD.sub (pD nG)) (by omega) (by omega) (by omega)).aD λmL g2 ib=> ?_;obtain⟨gK,aX⟩:=ib;have L1:=nG.trans gK;have vx:=gK.some zI;have x3:=gK.some zJ;have zK:=gK.some I6;have w7:=aT zK;rw[<-jX]at Z At xP;rw[<-ev]at aw Au xQ;rw[<-mm]at aX LO CW;have qY:dw (B.du g2 [cH]) iZ cf:=dw.bG ((Z.jc (cx.kU g3)).jc (cx.kU gK)) xP (by omega);have qZ:dw (B.du g2 [cH]) nr bu:=dw.bG (aw.jc (cx.kU gK)) xQ (by omega);have Tr:dw (B.du g2 [cH]) mL aW:=dw.bG aX (by omega) (by omega);simp[]
        -- lX result
        have nO: ∀(rl:Bool) (G:Int) (bb:Value) (ie:B) {Q:Value->B->Prop},a0 g2 ie->bC (B.du ie [cH]) bb (bG G)->0<=G->G<aZ 512->
            (∀nF dt dK fY cB eO dh eQ,a0 ie nF->py m (mw (ej ⟨rl,G,aW⟩)) (.tuple #[.agg #[.bool dt,.slice dK fY cB,.slice eO dh eQ],S (mw (ej ⟨rl,G,aW⟩)).1]) (nF.au cH (some ⟨[.bool dt,.slice dK fY cB,.slice eO dh eQ],true⟩))->Q (.tuple #[.agg #[.bool dt,.slice dK fY cB,.slice eO dh eQ],S (mw (ej ⟨rl,G,aW⟩)).1]) nF)->bJ Tryz.prog 89 [.bool rl,bb,mL] ie Q:=by
          intro rl G bb ie Q ig J lG hD bf;refine(ZY (kf (Nat.lt_of_lt_of_le w7 ig.next)) (dw.bG J lG hD) (Tr.sub (cx.kU ig)) hD CW (by omega)).aD λSq nF zW=> ?_;obtain⟨p3,q,rfl,bt⟩:=zW;obtain⟨dK,fY,cB,eO,dh,eQ,rfl⟩:=bt.gm;exact bf nF _ dK fY cB eO dh eQ p3 (rR ((L1.trans ig).trans p3) (by omega) bt)
        by_cases sT:x.bV=y.bV
        · have bT:lI x y=⟨x.bV,cf+bu,aW⟩:=(by simp[lI,sT,jX,ev,mm]);rw[bT];simp[Rp,Rq,Rr,Rs,Rt,Ru,bD,bd,vx,x3,sT];refine(ao7 (kf w7) qY qZ (by omega)).aD λxD ie nW=> ?_;obtain⟨ig,bb,rfl,J⟩:=nW;have Dp:=ig.some vx;have wT:=ig.some zK;simp[bD,Dp,sT];refine nO y.bV (cf+bu) bb ie ig J (by omega) (by omega) λnF dt dK fY cB eO dh eQ p3 aF=> ?_;have q8:=p3.some wT;have ae2:=aT q8;simp(disch:=omega) [bL,q8];exact aF
        · have LJ:(x.bV==y.bV)=false:=(by simpa using sT);have Iz:= λaz=>aq7 qY qZ az;by_cases uV:bu<=cf
          · have bp:0<=h8 cf bu:=(by unfold h8;rw[if_neg (by omega)];split<;>omega);have bT:lI x y=⟨x.bV,cf-bu,aW⟩:=(by simp only[lI,sT,if_false,<-jX,<-ev,<-mm,uV,if_true]);rw[bT];simp[Rp,Rq,Rr,Rs,Rt,Ru,bD,bd,vx,x3,LJ,Iz,bp];refine(anl (kf w7) qY qZ (by omega) uV).aD λxD ie nW=> ?_;obtain⟨ig,bb,rfl,J⟩:=nW;have Dp:=ig.some vx;have wT:=ig.some zK;simp[bD,Dp];refine nO x.bV (cf-bu) bb ie ig J (by omega) (by omega) λnF dt dK fY cB eO dh eQ p3 aF=> ?_;have q8:=p3.some wT;have ae2:=aT q8;simp(disch:=omega) [bL,q8];exact aF
          · have bp: ¬0<=h8 cf bu:=(by rw[zv (by omega)];omega);have bT:lI x y=⟨y.bV,bu-cf,aW⟩:=(by simp only[lI,sT,if_false,<-jX,<-ev,<-mm,uV]);rw[bT];simp[Rp,Rq,Rr,Rs,Rt,Ru,bD,bd,vx,x3,LJ,Iz,bp];refine(anl (kf w7) qZ qY (by omega) (by omega)).aD λxD ie nW=> ?_;obtain⟨ig,bb,rfl,J⟩:=nW;have UD:=ig.some x3;have wT:=ig.some zK;simp[bd,UD];refine nO y.bV (bu-cf) bb ie ig J (by omega) (by omega) λnF dt dK fY cB eO dh eQ p3 aF=> ?_;have q8:=p3.some wT;have ae2:=aT q8;simp(disch:=omega) [bL,q8];exact aF
      have e:jg x y=mw (ej (lI x y)):=(by simp[jg,l6,nj]);rw[e];exact sU _ (by simp) (by simp) (by simp)
    · have e:jg x y=(1,.zero):=(by simp[jg,nj]);rw[e];simp(disch:=omega) [nj,a2];exact rR ke (by omega) je.zero
  · have e:jg x y=(1,.zero):=(by simp[jg,l6]);rw[e];simp(disch:=omega) [l6,a2];exact rR jk (by omega) je.zero
end
end Go.Proofs.YtkpifdkccdndcaaGreat
namespace Go.Big
theorem acw{x y:a6}(H:0<=x.n)(ah:0<=y.n)(IM:0<x.d)(IP:0<y.d):0<=(lI x y).n/\0<(lI x y).d:=by
  have a:=Int.mul_nonneg H (show 0<=y.d by omega);have b:=Int.mul_nonneg ah (show 0<=x.d by omega);have c:=Int.mul_pos IM IP;unfold lI;split
  · exact⟨by show 0<=x.n*y.d+y.n*x.d;omega,c⟩
  · split
    · exact⟨by show 0<=x.n*y.d-y.n*x.d;omega,c⟩
    · exact⟨by show 0<=y.n*x.d-x.n*y.d;omega,c⟩
theorem M1{x y:a6}(H:0<=x.n)(ah:0<=y.n)(h:(jg x y).1=0):0<=(jg x y).2.n/\(jg x y).2.n<aZ 128/\0<=(jg x y).2.d/\(jg x y).2.d<aZ 128:=by
  unfold jg at h⊢;split at h
  · rename_i W;rw[if_pos W];simp only[Bool.and_eq_true]at W;obtain⟨IM,_,_⟩:=a6.nq.1 W.1;obtain⟨IP,_,_⟩:=a6.nq.1 W.2;obtain⟨gO,jC⟩:=acw H ah IM IP;unfold mw at h⊢;split at h
    · rename_i aI;rw[if_pos aI];have:=a6.FB.1 aI;have a:=xw gO jC;have b:=yE (x:=lI x y) jC;exact⟨a.1,this.1,Int.le_of_lt b.1,this.2⟩
    · cases h
  · cases h
end Go.Big
namespace Go.Proofs.YtkpifdkccdndcaaGreat
open Go Go.DI Go.Big
theorem cx.T9{m:B}{l:List Nat}{b:Nat}{x:Option fO}(h:m.M b=none):cx (B.du m l) (B.du (m.au b x) l):=⟨Nat.le_refl _,λc y aB=>by
  by_cases eb:c∈l
  · rw[Fu eb]at aB;cases aB
  · rw[zx eb]at aB⊢;rw[dv (λe=>by subst e;rw[h]at aB;cases aB),aB]⟩
def iD:gS a6:=⟨3,λm cs x=> ∃a b,cs=[.bool x.bV,a,b]/\dw m a x.n/\dw m b x.d,λ_ _ _ ⟨_,_,h,_⟩=>by rw[h];rfl,λ_ _ _ _ J ⟨a,b,h,z,D⟩=>⟨a,b,h,z.sub J,D.sub J⟩⟩
theorem gS.G.fj{cK:Type}{r:gS cK}{p m:B}{v:Value}{l:List cK}(h:r.G p v l)(J:cx p m){i:Nat}{x:cK}(H:l[i]?=some x):
    ∃cq,gZ m (mP v r.O (i:Int)) r.O=true/\lq m true r.O (mP v r.O (i:Int))= .agg cq.toArray/\r.R p cq x:=by
  obtain⟨b,o,cs,w,z,D,Z,aw⟩:=h.pC H;have aX:=J.M _ _ D;refine⟨_,?_,?_,aw⟩
  · rw[z];simp[aX];omega
  · rw[z];simp[aX]
theorem iD.fj{p m:B}{v:Value}{l:List a6}(h:iD.G p v l)(J:cx p m){i:Nat}{x:a6}(H:l[i]?=some x):
    ∃q n c lW dM eU,gZ m (mP v 3 (i:Int)) 3=true/\lq m true 3 (mP v 3 (i:Int))= .agg #[.bool x.bV,.slice q n c,.slice lW dM eU]/\iJ p (.agg #[.bool x.bV,.slice q n c,.slice lW dM eU]) x:=by
  obtain⟨cq,z,D,a,b,rfl,Z,aw⟩:=gS.G.fj h J H;obtain⟨q,n,c,rfl⟩:=Z.gm;obtain⟨lW,dM,eU,rfl⟩:=aw.gm;exact⟨q,n,c,lW,dM,eU,z,D,_,_,rfl,Z,aw⟩
theorem ar2{m:B}{l:List Nat}{v w:Value}{x y:a6}(aG: ∀c∈l,c<m.next)(H:iJ (B.du m l) v x)(ah:iJ (B.du m l) w y):bJ Tryz.prog 88 [v,w] m λr N=>a0 m N/\ue (jg x y) r (B.du N l):=
  od ue.sub aG (ar3 H ah)
theorem anF{m:B}{b c:Nat}(h:b<m.next)(ca:c<m.next): ∀d∈[b,c],d<m.next:= λd aR=>by simp at aR;omega
theorem anE{m:B}{b c:Nat}(h:m.next<=b)(ca:m.next<=c): ∀d∈[b,c],m.next<=d:= λd aR=>by simp at aR;omega
theorem asl{m:B}{v:Value}{l:List a6}(X:iD.G m v l)(gH:l.length<1000000){cH ho:Nat}(aB:m.next<=cH)(pN:m.next<=ho)(dq:cH≠ho): ∀(dg:List a6) (i:Nat) (s:a6) (a8:B) (u:aL) (a b:Value),l.drop i=dg->i+dg.length=l.length->a0 m a8->
    a8.M cH=some ⟨eJ,true⟩->a8.M ho=some ⟨[.bool s.bV,a,b],true⟩->je (B.du a8 [cH,ho]) (.agg #[.bool s.bV,a,b]) s->0<=s.n->s.n<aZ 128->0<=s.d->s.d<aZ 128->
    u 2=bZ cH->u 4=bZ ho->u 11=v->u 12=S l.length->u 13=S i->
    ch Tryz.prog (.loop Qf) u a8 (sz 0 (s8 Tryz.prog Qe (ey [.h7 2 true 3,.bA 3] (py m (kl s dg))))):=by
  intro dg;induction dg with
  | nil=>intro i s a8 u a b aR aa an aj uA J gO fY jC mA bD bL fx hg gw;refine eT λb9 a9=> ?_;have e:i=l.length:=(by simpa using aa);subst e;obtain⟨dK,bp,cB,eO,dc,eQ,aI⟩:=J.gm;simp only[Value.agg.injEq,Array.mk.injEq,List.cons.injEq,and_true]at aI;obtain⟨_,rfl,rfl⟩:=aI;have nV:=aT aj;have yh:=aT uA;simp(disch:=first|omega|(simp only[ae,ad,af];omega)) [Qf,Yn,Yo,Yp,Yq,Qe,bD,bL,hg,gw,aj,uA];refine⟨an.au aB,_,rfl,J.sub ?_⟩;rw[<-zy (m:=a8) (b:=cH) (l:=[cH,ho]) (x:=some ⟨[.bool s.bV,.slice dK bp cB,.slice eO dc eQ],true⟩) (by simp)];exact cx.du _ _
  | cons x dg cb=>
    intro i s a8 u a b aR aa an aj uA J gO fY jC mA bD bL fx hg gw;refine eT λb9 a9=> ?_;have H:l[i]?=some x:=(by rw[<-List.head?_drop,aR];rfl);have ng:l.drop (i+1)=dg:=(by rw[<-List.tail_drop,aR];rfl);simp only[List.length_cons]at aa;have Ic:=yU;obtain⟨dK,bp,cB,eO,dc,eQ,aI⟩:=J.gm;simp only[Value.agg.injEq,Array.mk.injEq,List.cons.injEq,and_true]at aI;obtain⟨_,rfl,rfl⟩:=aI;have nV:=aT aj;have yh:=aT uA;have hY:=an.next
    have sO:=X.aD (cx.xX (l:=[cH,ho]) an (anE aB pN));obtain⟨z,D,Z,aw⟩:=X.len
    replace Z:kA 3 v=true:=Z
    have bK:(i:Int)<l.length:=(by omega);obtain⟨q,n,c,lW,dM,eU,bn,bF,ln⟩:=iD.fj sO (cx.du a8 [cH,ho]) H;have TD:= λk=>show gZ (a8.bs k) (mP v 3 (i:Int)) 3=true by obtain⟨_,_,_,_,_,_,a,_⟩:=iD.fj sO ((cx.du a8 [cH,ho]).trans (cx.bs a8 k)) H;exact a
    have TE:= λk=>show lq (a8.bs k) true 3 (mP v 3 (i:Int))= .agg #[.bool x.bV,.slice q n c,.slice lW dM eU] by obtain⟨b,o,cs,w,aM,a1,cI,fe⟩:=(X.aD (cx.l9 an)).pC H;have mi:=(cx.bs a8 k).M _ _ a1;rw[<-bF,show iD.O=3 from rfl]at*;rw[aM];simp[a1,mi]
    have bo:IntKind.i64.wrap ((i:Int)+1)=(i:Int)+1:=ct (by omega) (by omega);simp(disch:=first|omega|(simp only[ae,ad,af];omega)) [Qf,Yn,Yo,Yp,Yq,Qe,bL,fx,hg,gw,bK,z,Z,TD,TE,uA];obtain⟨bN,k5⟩: ∃bN,bN=((a8.bs 4).au (a8.next+2) (some ⟨[.bool x.bV,.slice q n c,.slice lW dM eU],true⟩)).bs 9:=⟨_,rfl⟩;rw[<-k5];have eL:a0 a8 bN:=(by rw[k5];exact(((a0.refl a8).bs 4).au (by omega)).bs 9);have as5:bN.next=a8.next+13:=by rw[k5];simp
    have qu:=eL.some aj;have I9:=eL.some uA;refine(ar2 (anF (aT qu) (aT I9)) ((J.MH gO (by omega) jC (by omega)).sub (cx.kU eL)) (ln.sub (cx.kU eL))).aD λr g2 ib=> ?_;obtain⟨gK,hb,rfl,aF⟩:=ib;obtain⟨gk,eK,ht,mK,j2,ly,rfl⟩:=aF.gm;have kp:=gK.some qu;have I8:=gK.some I9;have w7:=aT kp;have Vu:=aT I8;have da:g2.M (a8.next+4+6)=none:=gK.none (by omega) (by rw[k5,B.gr,nP (by simp)]);have VA:=gK.next
    have atr:a8.next+4+6<g2.next:=by omega
    have cl:=ln.gO;by_cases k:(jg s x).1=0
    · obtain⟨gi,aM,a1,cI⟩:=M1 gO cl k;have bT:kl s (x::dg)=kl (jg s x).2 dg:=(by rw[kl,if_pos k]);rw[bT]at a9⊢;have azP:ho≠a8.next+4+6:=by omega
      have LV:cH≠a8.next+4+6:=by omega
      simp(disch:=first|omega|(simp only[ae,ad,af];omega)) [bL,gw,k,I8,bo];obtain⟨mV,zO⟩: ∃mV:Option fO,mV=some ⟨[.bool (jg s x).2.bV,.slice gk eK ht,.slice mK j2 ly],true⟩:=⟨_,rfl⟩;rw[<-zO];refine a9 _ _ (cb (i+1) (jg s x).2 ((g2.au (a8.next+4+6) mV).au ho mV) _ (.slice gk eK ht) (.slice mK j2 ly) ng (by omega) ((((an.trans eL).trans gK).au (i:=a8.next+4+6) (by omega)).au pN) (by rw[dv dq,dv LV,kp]) (by rw[bX (by simpa using Vu),zO]) ?_ gi aM a1 cI (by simp[bD]) (by simp[bL]) (by simp[fx]) (by simp[hg]) (by simp));rw[zy (by simp)];exact aF.sub (cx.T9 da)
    · have bT:kl s (x::dg)=((jg s x).1,.zero):=(by rw[kl,if_neg k]);rw[bT];have LV:cH≠a8.next+4+6:=by omega
      simp(disch:=first|omega|(simp only[ae,ad,af];omega)) [bD,k,kp];exact⟨((((an.trans eL).trans gK).au (i:=a8.next+4+6) (by omega)).au aB),_,rfl,je.zero⟩
theorem asm{m:B}{v:Value}{l:List a6}(X:iD.G m v l)(gH:l.length<1000000):bJ Tryz.prog 25 [v] m (py m (kl .nil l)):=by
  rw[aqs (by simp)];simp(disch:=first|omega|(simp only[ae,ad,af];omega)) [Ym,aiJ,aiK];obtain⟨a8,dN⟩: ∃a8,a8=((m.bs 2).au m.next (some ⟨eJ,true⟩)).bs 4:=⟨_,rfl⟩;rw[<-dN];have ed:a0 m a8:=by rw[dN];exact(((a0.refl m).bs 2).au (by omega)).bs 4
  have aj:a8.M m.next=some ⟨eJ,true⟩:=by rw[dN,B.gr,bX (by simp)]
  have ak:a8.next=m.next+6:=by rw[dN];simp
  have Vc:a8.M (m.next+2+2)=none:=by rw[dN,B.gr,nP (by simp)]
  have vJ:bJ Tryz.prog 34 [br 1] a8 λr N=>a0 a8 N/\bC (B.du N [m.next]) r (bG 1):=od (λ_ _ _ J h=>h.jc J) (kf (aT aj)) (R3 (by omega) (by omega));refine vJ.aD λr bz aq=> ?_;obtain⟨b5,z⟩:=aq;have aC:=b5.some aj;have pP:=aT aC;have zV:=b5.next
  have da:bz.M (m.next+2+2)=none:=b5.none (by omega) Vc;have N9:m.next+2+2<bz.next:=by omega
  obtain⟨fM,dg,pW,Hh⟩:=X.len;obtain⟨p,n,c,rfl⟩:=z.gm;simp(disch:=first|omega|(simp only[ae,ad,af];omega)) [fM,dg];refine asl X gH (cH:=m.next) (ho:=m.next+2+2) (by omega) (by omega) (by omega) l 0 a6.nil (bz.au (m.next+2+2) (some ⟨[.bool false,.slice none 0 0,.slice p n c],true⟩)) _ (.slice none 0 0) (.slice p n c) rfl (by simp) ((ed.trans b5).au (i:=m.next+2+2) (by omega)) (by rw[dv (by omega),aC]) (by rw[bX N9];rfl) ?_ (by decide) (k8 _) (by decide) ?_ (by simp) (by simp) (by simp) (by simp[]) (by simp)
  · refine⟨_,_,rfl,?_,?_⟩
    · rw[show a6.nil.n=0 from rfl,rO (by omega)];exact bC.nil
    · have:bC (B.du bz [m.next,m.next+2+2]) (.slice p n c) (bG 1):=by
        refine z.jc ⟨Nat.le_refl _,λb y L=> ?_⟩;have nS:b∉[m.next]:= λnT=>by rw[Fu nT]at L;cases L
        rw[zx nS]at L;rw[zx,L];intro nT;simp at nT nS;rcases nT with h|h
        · exact nS h
        · rw[h,da]at L;cases L
      rw[zy (by simp)];exact this
  · show(1:Int)<aZ 128;have:=k8 127;show 1<4294967296*aZ 127;omega
end Go.Proofs.YtkpifdkccdndcaaGreat
namespace Go.Proofs.YtkpifdkccdndcaaGreat
open Go Go.DI Go.Big
theorem bC.aAV{m:B}{v:Value}{l:List Int}(h:bC m v l){b:Nat}{x:Option fO}(L:m.M b=none):bC (m.au b x) v l:=h.jc (cx.au L)
theorem aq5{a b:Int}(h: ¬b<a): ¬0<h8 a b:=by
  by_cases ca:a<b
  · rw[zv ca];omega
  · rw[T5 (by omega)];omega
theorem aBC{dd:B}{x y:Value}{K e9:List Int}{cr cX:Int}{n bq j:Nat}(H:bC dd x K)(ah:bC dd y e9)(kr:val e9=cr)(ak:e9.length=n)(hF:K.length=bq)(cp:j+n+1<=bq)(aIN:bq<300000)(Jo:0<cr)(k6:cX=val ((K.drop j).take (n+1))){pw wx wy:Value}{Q:dr->aL->B->Prop}:
    ∀(r:Nat) (g:Int) (m:B) (u:aL),g<=r->0<=g->g<4294967296->cX<(g+1)*cr->a0 dd m->u 10=pw->u 11=x->u 12=y->u 13=wx->u 14=wy->u 15=S j->u 17=br g->
    (∀ag N g,0<=g->g<4294967296->cX<(g+1)*cr->g*cr<=cX->a0 dd N->ag 10=pw->ag 11=x->ag 12=y->ag 13=wx->ag 14=wy->ag 15=S j->ag 17=br g->Q (.bI 4) ag N)->
    ch Tryz.prog (.loop GC) u m Q:=by
  intro r;induction r with
  | zero=>intro g m u aF a4 aC aj an dP fx hg gw hz iR j4 bf;exact ds g m u a4 aC aj an dP fx hg gw hz iR j4 bf λh=>by have:g=0:=(by omega);subst this;have aO:=(il ((H.1.drop j).take (n+1))).1;omega
  | succ r cb=>
    intro g m u aF a4 aC aj an dP fx hg gw hz iR j4 bf;exact ds g m u a4 aC aj an dP fx hg gw hz iR j4 bf λh ag N z D Z aw aX cC gn iP ml=>by
      have r0:1<=g:=by
        by_cases bY:1<=g
        · exact bY
        · have bY:g=0:=(by omega);subst bY;have aO:=(il ((H.1.drop j).take (n+1))).1;omega
      exact cb (g-1) N ag (by omega) (by omega) (by omega) (by rw[show g-1+1=g by omega];exact h) D Z aw aX cC gn iP ml bf
where
  ds (g:Int) (m:B) (u:aL) (a4:0<=g) (aC:g<4294967296) (aj:cX<(g+1)*cr) (an:a0 dd m) (dP:u 10=pw) (fx:u 11=x) (hg:u 12=y) (gw:u 13=wx) (hz:u 14=wy) (iR:u 15=S j) (j4:u 17=br g)
    (bf: ∀ag N g,0<=g->g<4294967296->cX<(g+1)*cr->g*cr<=cX->a0 dd N->ag 10=pw->ag 11=x->ag 12=y->ag 13=wx->ag 14=wy->ag 15=S j->ag 17=br g->Q (.bI 4) ag N)
    (x7:cX<g*cr-> ∀ag N,True->a0 dd N->ag 10=pw->ag 11=x->ag 12=y->ag 13=wx->ag 14=wy->ag 15=S j->ag 17=br (g-1)->ch Tryz.prog (.loop GC) ag N Q):
    ch Tryz.prog (.loop GC) u m Q:=by
    refine eT λb9 a9=> ?_;obtain⟨z,D,Z,aw⟩:=(H.aD an).len;obtain⟨dQ,gx,hh,lA⟩:=(ah.aD an).len;rw[ak]at dQ lA;rw[hF]at z aw;obtain⟨e,aU⟩: ∃e,e=j+n+1:=⟨_,rfl⟩;have bo:IntKind.i64.wrap ((j:Int)+(n:Int))=(j:Int)+n:=ct (by omega) (by omega);have cS:IntKind.i64.wrap ((j:Int)+(n:Int)+1)=(e:Int):=(by rw[ct (by omega) (by omega)];omega);have bm:(j:Int)<=e:=(by omega);have bU:(e:Int)<=bq:=(by omega);simp[GC,fx,hg,iR,j4,z,Z,dQ,gx,bo,cS,bm,bU];have jF:=an.bs 15;have hY:=an.next
    refine(Mh a4 (by omega)).aD λe6 bz fP=> ?_;simp;have b5:=jF.trans fP.1;have akT:(bG g).length<=1:=q2 a4 (by simp only[aZ];omega);refine(Sz (ah.aD b5) fP.2 (by omega) (by omega)).aD λfw b4 fh=> ?_;rw[kr,iB a4]at fh;have dC:=b5.trans fh.1;have J:=(H.aD dC).sub (k:=j) (n:=e) (by omega) (by omega);obtain⟨cB,eQ⟩:=J.cells;have ht:=J.len.2.2.2;have aG:((K.take e).drop j).length=n+1:=(by simp;omega);rw[aG]at ht;have fV:((n:Int)+1)*4<=140737488355328:=(by omega);have lP:(n+1)*4<=140737488355328:=(by omega);have m3:n+1<=9223372036854775807:=(by omega);simp[cB,eQ,ht,lP,m3];have da:b4.M (m.next+12)=none:=by
      refine fh.1.none ?_ (fP.1.none ?_ ?_)
      · have:=fP.1.next;simp at this;omega
      · simp
      · rw[B.gr,nP (by omega)]
    have e4:m.next+12<b4.next:=by have:=fP.1.next;have:=fh.1.next;simp at*;omega
    have adv:(K.take e).drop j=(K.drop j).take (n+1):=(by rw[List.drop_take];congr 1;omega);have arD:List.drop j (List.take e (List.map cT K))=((K.drop j).take (n+1)).map cT:=(by rw[<-adv,List.map_drop,List.map_take]);rw[arD];have ae0:dx ((K.drop j).take (n+1)):=(H.1.drop j).take _;have Ol:bC (b4.au (m.next+12) (some ⟨((K.drop j).take (n+1)).map cT,true⟩)) (.slice (some ⟨m.next+12,0,none⟩) (n+1) 1) ((K.drop j).take (n+1)):=bC.se ae0 (bX e4) (by rw[<-adv,aG]);have ak3:(bG (cr*g)).length<=n+1:=(by refine q2 (Int.mul_nonneg (by omega) a4) ?_;have b:=il ah.1;rw[kr,ak]at b;have:=sV (a:=cr) (b:=g) (i:=n) (j:=1) (by omega) a4 b.2 (by simp only[aZ];omega);exact this);refine(aaK (fh.2.aAV da) Ol (by omega) (by simp;omega)).aD λiZ gI js=> ?_;obtain⟨fs,rfl⟩:=js;rw[iB (Int.mul_nonneg (by omega) a4),<-k6];have kg:a0 dd gI:=(dC.au (by omega)).trans fs;by_cases k:cX<g*cr
    · have c:0<h8 (cr*g) cX:=(by rw[ID (by rw[Int.mul_comm];exact k)];omega);have fz:IntKind.u64.wrap (g-1)=g-1:=by
        refine e0 ?_ (by omega);by_cases bY:1<=g
        · omega
        · have bY:g=0:=(by omega);subst bY;have aO:=(il ae0).1;omega
      simp[c,j4,fz];exact a9 _ _ (x7 k _ _ trivial kg (by simp[dP]) (by simp[fx]) (by simp[hg]) (by simp[gw]) (by simp[hz]) (by simp[iR]) (by simp))
    · have c: ¬0<h8 (cr*g) cX:=aq5 (by rw[Int.mul_comm];exact k);simp[c];exact bf _ _ g a4 aC aj (by omega) kg (by simp[dP]) (by simp[fx]) (by simp[hg]) (by simp[gw]) (by simp[hz]) (by simp[iR]) (by simp[j4])
theorem jV.Be{dd m:B}{v:Value}{l:List Int}{id:Nat}(et:dd.next<=id)(e4:id<m.next){MI:Value}{a8:B}
    (X:MI=if l.length=0 then .slice none 0 0 else .slice (some ⟨id,0,none⟩) l.length 1) (aK:a8=if l.length=0 then m else m.au id (some ⟨l.map cT,true⟩)):jV dd a8 MI l:=by
  subst X aK;by_cases bB:l.length=0
  · rw[if_pos bB,if_pos bB];exact .inl ⟨rfl,List.length_eq_zero_iff.1 bB⟩
  · rw[if_neg bB,if_neg bB];exact .inr ⟨id,et,rfl,bX e4⟩
theorem jV.base{dd bz m:B}{v:Value}{l:List Int}(h:jV bz m v l)(ak:dd.next<=bz.next):jV dd m v l:=by
  rcases h with h|⟨b,L,z,D⟩
  · exact .inl h
  · exact .inr ⟨b,by omega,z,D⟩
theorem aB6{m:B}{v:Value}{l:List Int}(X:bC m v l)(aG:Big l):bJ Tryz.prog 106 [v] m λr N=>a0 m N/\jV m N r (bG (val l)):=by rw[acU (by simp)];have L:= λk=>X.aD ((a0.refl m).bs k);obtain⟨z,D,Z,aw⟩:=X.len;have ak:=kN l;have J:= λk=>(L k).bG;have aB:= λk=>(J k).cells;have fv:= λk=>(J k).len;have e:=tS X.1;simp[OP,Wl,Wm,Wn,z,D];refine aa3 X aG l.length _ (Nat.le_refl _) (kN l) (by simp) (by simp[]) λag bK cn=> ?_;simp[bK,cn,z,Z,ak,(fv 5).2.2.2,(aB 5).1,(aB 5).2,e];exact⟨by omega,a0.Be,jV.Be (m:=m.bs 5) (v:=v) (id:=m.next+3) (by omega) (by simp) (by rw[e]) (by rw[e])⟩
theorem aCl{m:B}{v:Value}{a:List Int}{s:Nat}{G:Int}(dB:G=(2:Int)^s)(J:s<32)(nB:1<=G/\G<=2147483648)(X:bC m v a)(aE:a.length<900000):
    bJ Tryz.prog 174 [v,S s] m λr N=>a0 m N/\jV m N r (bG (val a*G)):=by
  rw[acV (by simp)];obtain⟨z,D,Z,aw⟩:=X.len;by_cases cy:a.length=0
  · obtain rfl:a=[]:=List.length_eq_zero_iff.1 cy;simp[GD,KO,KP,KQ,KR,KS,z,D];refine⟨a0.refl m,?_⟩;rw[show val []*G=0 by simp[val],rO (by omega)];exact .inl ⟨rfl,rfl⟩
  · have hK:(s:Int).tdiv 32=0:=(by rw[Int.tdiv_eq_ediv_of_nonneg (by omega)];omega);have bp: ¬(a.length:Int)=0:=(by omega);have dc: ¬a=[]:= λh=>cy (by simp[h]);have iI:IntKind.i64.wrap 0=0:=(by decide);simp[GD,KO,KP,KQ,KR,KS,z,D,hK,iI,cy];refine aa9 dB J nB X (by omega) a.length 0 (m.next+2) 0 [] _ _ (by omega) (((a0.refl m).bs _).au (by omega)) (by omega) (by rw[bX (by simp)];rfl) (by simp[dx]) rfl (by omega) (by omega) (by simp[val]) (by simp) (by simp) (by simp) (by simp) (by simp) λag N o c aQ dk dV ew f4 jo mB nN uq fZ ij=> ?_;have cM:=aT ew;have hY:=dk.next
    have fV:((o.length:Int)+1)*4<=140737488355328:=(by omega);have lP:(o.length+1)*4<=140737488355328:=(by omega);have m3:o.length+1<=9223372036854775807:=(by omega);have atU:o.length=(o.map cT).length:=(by simp);simp(disch:=first|omega|(simp only[ae,ad,af];omega)) [fZ,ij,ew,iu,lP,m3];have DP: ∀{a8:B} {b:Nat},a8.M b=some ⟨List.take o.length (o.map cT)++[cT (c%4294967296)],true⟩->bC a8 (.slice (some ⟨b,0,none⟩) (o.length+1) 1) (o++[c%4294967296]):= λ{a8 b} h=>bC.se (AE f4 (by omega)) (by rw[h,List.take_of_length_le (by simp),R4]) (by simp);refine(aB6 (DP (bX (by simp))) (by simp;omega)).aD λr b4 aq=> ?_;simp;have e:val (o++[c%4294967296])=val a*G:=(by rw[ub,show c%4294967296=c by omega,jo];simp only[val];rw[<-uq];grind);rw[e]at aq;exact⟨((((dk.bs _).au (by omega)).au (by omega)).au (by omega)).trans aq.1,aq.2.base (by simp;omega)⟩
theorem aAW{cf cX C:List Int}{i:Nat}{O y:Int}{T:List Int}(h:cf.length+cX.length=i):((cf++cX++O::C)++T).set i y=(cf++(cX++[y])++C)++T:=by
  have e:cf++cX++O::C++T=(cf++cX)++O::(C++T):=by simp
  rw[e,List.set_append_right _ _ (by simp;omega)];simp[show i-(cf.length+cX.length)=0 by omega]
theorem aaM{bz:B}{y aba:Value}{R e9 K T:List Int}{hl n bq j:Nat}(ah:bC bz y e9)(Bv:ai y≠some hl)(aF:bC bz aba R)(N2:ai aba≠some hl)(ak:e9.length=n)(de:K.length=bq)(cp:j+n+1<=bq)(hF:bq<300000){cX:List Int}(k6:cX=R++List.replicate (n+1-R.length) 0)(g9:R.length<=n+1)
    {pw wx wy HW:Value} {Q:dr->aL->B->Prop}: ∀(r k:Nat) (m:B) (u:aL),k+r=n+1->ld hl bz m->m.M hl=some ⟨((K.take j++cX.take k++K.drop (j+k))++T).map cT,true⟩->
    u 10=pw->u 11= .slice (some ⟨hl,0,none⟩) bq 1->u 12=y->u 13=wx->u 14=wy->u 15=S j->u 17=HW->u 18=aba->u 19=S k->
    (∀ag N,ld hl bz N->N.M hl=some ⟨((K.take j++cX++K.drop (j+n+1))++T).map cT,true⟩->ag 10=pw->ag 11= .slice (some ⟨hl,0,none⟩) bq 1->ag 12=y->ag 13=wx->ag 14=wy->ag 15=S j->ag 17=HW->Q (.bI 6) ag N)->
    ch Tryz.prog (.loop KM) u m Q
  | 0,k,m,u,W,an,aj,dP,fx,hg,gw,hz,iR,j4,p8,p9,bf=>by refine eT λb9 a9=> ?_;have e:k=n+1:=(by omega);subst e;obtain⟨z,D,Z,aw⟩:=(ah.pZ Bv an).len;rw[ak]at z;have c: ¬((n:Int)+1<=n):=(by omega);have ayM:cX.length=n+1:=(by rw[k6];simp;omega);simp(disch:=first|omega|(simp only[ae,ad,af];omega)) [KM,P0,P1,hg,p9,z,D,c];rw[List.take_of_length_le (l:=cX) (by omega)]at aj;exact bf _ _ an aj (by simp[dP]) (by simp[fx]) (by simp[hg]) (by simp[gw]) (by simp[hz]) (by simp[iR]) (by simp[j4])
  | r+1,k,m,u,W,an,aj,dP,fx,hg,gw,hz,iR,j4,p8,p9,bf=>by
    refine eT λb9 a9=> ?_;obtain⟨z,D,Z,aw⟩:=(ah.pZ Bv an).len;obtain⟨aC,a2,bS,fA⟩:=(aF.pZ N2 an).len;rw[ak]at z;have ayM:cX.length=n+1:=(by rw[k6];simp;omega);have cM:=aT aj;obtain⟨e,aU⟩: ∃e,e=j+k:=⟨_,rfl⟩;obtain⟨gL,oJ⟩: ∃gL,gL=(K.take j++cX.take k++K.drop (j+k))++T:=⟨_,rfl⟩;rw[<-oJ]at aj;have UY:bq<=gL.length:=(by rw[oJ];simp;omega);have c:(k:Int)<=n:=(by omega);have bo:IntKind.i64.wrap ((j:Int)+(k:Int))=(e:Int):=(by rw[ct (by omega) (by omega)];omega);have cS:IntKind.i64.wrap ((k:Int)+1)=(k:Int)+1:=ct (by omega) (by omega);have bm:(e:Int)<bq:=(by omega);have bU:e+1<=gL.length:=(by omega);have cn:e<gL.length:=(by omega);have OB: ∀v,gL.set e v=(K.take j++(cX.take k++[v])++K.drop (j+(k+1)))++T:= λv=>by
      rw[oJ,show K.drop (j+k)=ay K (j+k)::K.drop (j+(k+1))from ?_]
      · exact aAW (by simp;omega)
      · rw[List.drop_eq_getElem_cons (by omega),lU (List.getElem?_eq_getElem (by omega))];rfl
    have BO:cX.take (k+1)=cX.take k++[ay cX k]:=(by rw[List.take_add_one,List.getElem?_eq_getElem (by omega),lU (List.getElem?_eq_getElem (by omega))];rfl);have cb:= λb4 fb=>aaM ah Bv aF N2 ak de cp hF k6 g9 (pw:=pw) (wx:=wx) (wy:=wy) (HW:=HW) (Q:=Q) (T:=T) r (k+1) b4 fb (by omega);have aK: ∀v,(gL.map cT).set e (cT v)=(gL.set e v).map cT:= λv=>m9;by_cases akC:(k:Int)<R.length
    · have vM:= λx=>(aF.pZ N2 (an.au (x:=x))).j7 (i:=k) (by omega);have auv:= λx=>(aF.pZ N2 (an.au (x:=x))).fj (i:=k) (by omega);have Vi:ay cX k=ay R k:=by
        rw[k6];unfold ay;simp only[List.getD_eq_getElem?_getD];rw[List.getElem?_append_left (by omega)]
      simp(disch:=first|omega|(simp only[ae,ad,af];omega)) [KM,P0,P1,fx,hg,iR,p8,p9,z,D,c,bo,cS,bm,bU,aj,aC,a2,bS,akC,vM,auv];exact a9 _ _ (cb _ _ (an.au) (by rw[bX (by simpa using cM),aK,OB,BO,Vi]) (by simp[dP]) (by simp[fx]) (by simp[hg]) (by simp[gw]) (by simp[hz]) (by simp[iR]) (by simp[j4]) (by simp[p8]) (by simp) bf)
    · have Vi:ay cX k=0:=by
        rw[k6];unfold ay;simp only[List.getD_eq_getElem?_getD];rw[List.getElem?_append_right (by omega),List.getElem?_replicate];split<;>rfl
      simp(disch:=first|omega|(simp only[ae,ad,af];omega)) [KM,P0,P1,fx,hg,iR,p8,p9,z,D,c,bo,cS,bm,bU,aj,aC,a2,akC];exact a9 _ _ (cb _ _ (an.au) (by rw[bX (by simpa using cM),aK,OB,BO,Vi]) (by simp[dP]) (by simp[fx]) (by simp[hg]) (by simp[gw]) (by simp[hz]) (by simp[iR]) (by simp[j4]) (by simp[p8]) (by simp) bf)
theorem aaP{ov:B}{y:Value}{e9 T:List Int}{hl jT n bq aV:Nat}{cf cr dU:Int}(ak:e9.length=n)(qy:2<=n)(kr:val e9=cr)(Dz:Go.Big.kS e9)(hF:bq<200000)(sN:dU=ay e9 (n-1))(OI:hl≠jT)(hZ:ov.next<=hl)(DN:ov.next<=jT)(ux:ai y≠some hl)(Dw:ai y≠some jT)
    {pw:Value} {Q:dr->aL->B->Prop}: ∀(j:Nat) (aJ jl:List Int) (m:B) (u:aL),j<=aV->a0 ov m->m.M hl=some ⟨(aJ++T).map cT,true⟩->m.M jT=some ⟨jl.map cT,true⟩->bC m y e9->pA cf cr n aJ jl j->jl.length=aV->aJ.length=bq->
    u 10=pw->u 11= .slice (some ⟨hl,0,none⟩) bq 1->u 12=y->u 13=br dU->u 14= .slice (some ⟨jT,0,none⟩) aV 1->u 15=S ((j:Int)-1)->
    (∀ag N aJ jl,a0 ov N->N.M hl=some ⟨(aJ++T).map cT,true⟩->N.M jT=some ⟨jl.map cT,true⟩->pA cf cr n aJ jl 0->jl.length=aV->aJ.length=bq->ag 10=pw->ag 11= .slice (some ⟨hl,0,none⟩) bq 1->ag 14= .slice (some ⟨jT,0,none⟩) aV 1->Q (.bI 2) ag N)->
    ch Tryz.prog (.loop KN) u m Q
  | 0,aJ,jl,m,u,atI,an,vI,yd,ah,kq,Ow,yn,dP,fx,hg,gw,hz,iR,bf=>by refine eT λb9 a9=> ?_;simp(disch:=first|omega|(simp only[ae,ad,af];omega)) [KN,PU,PV,PW,PX,PY,PZ,iR];exact bf _ _ aJ jl an vI yd kq Ow yn (by simp[dP]) (by simp[fx]) (by simp[hz])
  | j+1,aJ,jl,m,u,atI,an,vI,yd,ah,kq,Ow,yn,dP,fx,hg,gw,hz,iR,bf=>by
    refine eT λb9 a9=> ?_;have gH:=kq.len;obtain⟨dQ,gx,hh,lA⟩:=ah.len;rw[ak]at dQ lA;have aJe:=aT vI;have ae4:=aT yd;have hY:=an.next
    -- lX aAb
    have U3:=il Dz.1;rw[kr,ak]at U3;have FQ:0<cr:=(by have:=Dz.al6 (λh=>by rw[h]at ak;simp at ak;omega);omega);have aI4:=hX Dz.1 (n-1);have aJn:1<=dU:=(by have:=Dz.dU (n:=n-1) (x:=ay e9 (n-1)) (by omega) (by rw[lU (List.getElem?_eq_getElem (by omega)),List.getElem?_eq_getElem (by omega)]);omega);have VV:=kq.ab4;obtain⟨cX,k6⟩: ∃cX,cX=val ((aJ.drop j).take (n+1)):=⟨_,rfl⟩;rw[<-k6]at VV;obtain⟨ec,JO⟩: ∃ec,ec=ay aJ (j+n):=⟨_,rfl⟩;obtain⟨cd,VR⟩: ∃cd,cd=ay aJ (j+n-1):=⟨_,rfl⟩;have dt:=hX kq.p4 (j+n);have mU:=hX kq.p4 (j+n-1);rw[<-JO]at dt;rw[<-VR]at mU;obtain⟨t,bH⟩: ∃t,t=ec*4294967296+cd:=⟨_,rfl⟩;have Vs:((aJ.drop j).take (n+1)).length=(n-1)+2:=(by simp;omega);have ate:cX=t*aZ (n-1)+val (((aJ.drop j).take (n+1)).take (n-1)):=(by rw[k6,anB Vs,Dt (by omega),Dt (by omega),FK,FK,show j+(n-1+1)=j+n by omega,show j+(n-1)=j+n-1 by omega,<-JO,<-VR,bH]);have Om:dx ((aJ.drop j).take (n+1)):=(kq.p4.drop j).take _;have et:=il (Om.take (n-1));rw[List.length_take,Vs,Nat.min_eq_left (by omega)]at et;have aeE:=MF (l:=e9) (n:=n-1) (by omega);rw[kr,<-sN]at aeE;have r4:=il (Dz.1.take (n-1));have afl:=k8 (n-1);have aAZ:0<=cX/cr:=Int.ediv_nonneg VV.1 (by omega);have aA0:cX/cr*cr<=cX:=(by have:=Int.ediv_mul_le cX (show cr≠0 by omega);omega);have aMI:cX<(cX/cr+1)*cr:=(by have:=Int.lt_ediv_add_one_mul_self cX FQ;exact this);have aMJ:cX/cr<=t/dU:=asM afl ate et.2 aeE r4.1 (by omega) aAZ aA0;have aMK:cX/cr<4294967296:=Int.ediv_lt_of_lt_mul FQ (by rw[Int.mul_comm];exact VV.2);have tt:0<=t:=(by omega);have aPV:t<18446744073709551616:=(by omega);have aDf:0<=t/dU:=Int.ediv_nonneg tt (by omega);have aPN:t/dU<=t:=Int.ediv_le_self _ tt
    -- lX ach
    obtain⟨e,aU⟩: ∃e,e=j+n+1:=⟨_,rfl⟩;obtain⟨nf,vH⟩: ∃nf,nf=j+n:=⟨_,rfl⟩;obtain⟨zE,w3⟩: ∃zE,zE=j+n-1:=⟨_,rfl⟩;have cl:IntKind.i64.wrap ((j:Int)+(n:Int))=(nf:Int):=(by rw[ct (by omega) (by omega)];omega);have cN:IntKind.i64.wrap ((nf:Int)+1)=(e:Int):=(by rw[ct (by omega) (by omega)];omega);have di:IntKind.i64.wrap ((nf:Int)-1)=(zE:Int):=(by rw[ct (by omega) (by omega)];omega);have e2:IntKind.i64.wrap ((j:Int)-1)=(j:Int)-1:=ct (by omega) (by omega);have aDt:(aJ++T).length=aJ.length+T.length:=(by simp);have o3:(nf:Int)<bq:=(by omega);have jU:(zE:Int)<bq:=(by omega);have rC:nf+1<=(aJ++T).length:=(by omega);have zh:zE+1<=(aJ++T).length:=(by omega);have lx:(aJ++T)[nf]?=some ec:=(by rw[List.getElem?_append_left (by omega),List.getElem?_eq_getElem (by omega),JO,<-vH,lU (List.getElem?_eq_getElem (by omega))]);have vl:(aJ++T)[zE]?=some cd:=(by rw[List.getElem?_append_left (by omega),List.getElem?_eq_getElem (by omega),VR,<-w3,lU (List.getElem?_eq_getElem (by omega))]);obtain⟨nV,xg⟩:=List.getElem?_eq_some_iff.1 lx;obtain⟨nE,tH⟩:=List.getElem?_eq_some_iff.1 vl;have cS:IntKind.u64.wrap ec=ec:=e0 (by omega) (by omega);have bo:IntKind.u64.wrap cd=cd:=e0 (by omega) (by omega);have fz:IntKind.u64.wrap (ec*4294967296)=ec*4294967296:=e0 (by omega) (by omega);have hT:IntKind.u64.wrap ↑((ec*4294967296%2^IntKind.u64.bits).toNat|||(cd%2^IntKind.u64.bits).toNat)=t:=(by rw[AF (s:=32) (by decide) dt.1 mU.1 mU.2 (by omega),bH]);have hK:IntKind.u64.wrap (t.tdiv dU)=t/dU:=(by rw[Int.tdiv_eq_ediv_of_nonneg tt];exact e0 aDf (by omega));have iI: ¬dU=0:=(by omega);obtain⟨dI,nA⟩: ∃dI,dI=aJ++T:=⟨_,rfl⟩;rw[<-nA]at lx vl rC zh vI;have uE:dI.length=aJ.length+T.length:=(by rw[nA];exact aDt);obtain⟨nV,xg⟩:=List.getElem?_eq_some_iff.1 lx;obtain⟨nE,tH⟩:=List.getElem?_eq_some_iff.1 vl;have CR:nf+1<=aJ.length+T.length:=(by omega);have CS:zE+1<=aJ.length+T.length:=by omega
    -- lX b0 fJ lX amC,for a first aez
    have b0: ∀(g:Int) (c7:aL) {Ty:dr->aL->B->Prop},0<=g->g<4294967296->cX/cr<=g->c7 10=pw->c7 11= .slice (some ⟨hl,0,none⟩) bq 1->c7 12=y->c7 13=br dU->c7 14= .slice (some ⟨jT,0,none⟩) aV 1->c7 15=S j->c7 17=br g->
        (∀ag N g,0<=g->g<4294967296->cX<(g+1)*cr->g*cr<=cX->a0 m N->ag 10=pw->ag 11= .slice (some ⟨hl,0,none⟩) bq 1->ag 12=y->ag 13=br dU->ag 14= .slice (some ⟨jT,0,none⟩) aV 1->ag 15=S j->ag 17=br g->Ty (.bI 4) ag N)->ch Tryz.prog (.loop GC) c7 m Ty:=by
      intro g c7 Ty a4 aC aj amh aaG aaH aA3 aA4 aA5 aA6 pJ;have xe:bC m (.slice (some ⟨hl,0,none⟩) bq 1) aJ:=by refine⟨kq.p4,.inr ⟨hl,0,_,true,by rw[yn],vI,?_,by simp;omega⟩⟩;rw[nA,List.drop_zero,List.map_append,List.take_left' (by simp)]
      have atv:cX<(g+1)*cr:=(by have:(cX/cr+1)*cr<=(g+1)*cr:=Int.mul_le_mul_of_nonneg_right (by omega) (by omega);omega);exact aBC (n:=n) (bq:=bq) (j:=j) xe ah kr ak yn (by omega) (by omega) FQ k6 g.toNat g m c7 (by omega) a4 aC atv (a0.refl m) amh aaG aaH aA3 aA4 aA5 aA6 pJ
    obtain⟨x,H⟩: ∃x,x=Value.slice (some ⟨hl,0,none⟩) bq 1:=⟨_,rfl⟩;have FP: ∀g:Int,0<=g->0<=cr*g:= λg h=>Int.mul_nonneg (by omega) h;obtain⟨aW,mm⟩: ∃aW,aW=(aJ.drop j).take (n+1):=⟨_,rfl⟩;rw[<-mm]at k6 Om;have aeB:aW.length=n+1:=(by rw[mm,Vs];omega);have Uj:((aJ.take e).drop j).map cT=aW.map cT:=(by rw[mm,List.drop_take];congr 2;omega);have aHZ:List.drop j (List.take e (List.map cT aJ))=aW.map cT:=(by rw[<-Uj,List.map_drop,List.map_take]);have bm:(j:Int)<=e:=(by omega);have bU:(e:Int)<=bq:=(by omega);have uV:t/dU>4294967295\/ ¬t/dU>4294967295:=(by omega);rcases uV with k|k
    · simp(disch:=first|omega|(simp only[ae,ad,af];omega)) [KN,PU,PV,PW,PX,PY,PZ,fx,hg,gw,iR,dQ,gx,cl,di,o3,jU,xg,tH,uE,CR,CS,bo,cS,fz,hT,hK,iI,k,vI,ks];refine b0 4294967295 _ (by omega) (by omega) (by omega) (by simp[dP]) (by simp[fx]) (by simp[hg]) (by simp[gw]) (by simp[hz]) (by simp[iR]) (by simp) λag bz g a4 aC Jb rV pR Cl tT Cm L8 EL wc we=> ?_;rw[<-H]at tT;have Vj:=pR.some vI;have JS:bC bz x aJ:=by
        rw[H];refine⟨kq.p4,.inr ⟨hl,0,_,true,by rw[yn],Vj,?_,by simp;omega⟩⟩;rw[nA,List.drop_zero,List.map_append,List.take_left' (by simp)]
      have afe:=pR.next
      have V8:= λk=>JS.aD ((a0.refl bz).bs k);obtain⟨dk,dV,ew,f4⟩:=JS.len;rw[yn]at dk f4;have DQ:=(V8 15).sub (k:=j) (n:=e) (by omega) (by omega);obtain⟨cB,eQ⟩:=DQ.cells;have ht:=DQ.len.2.2.2;rw[Uj]at eQ;have aG:((aJ.take e).drop j).length=n+1:=(by simp;omega);rw[aG]at ht;have fV:((n:Int)+1)*4<=140737488355328:=(by omega);have lP:(n+1)*4<=140737488355328:=(by omega);have m3:n+1<=9223372036854775807:=(by omega);obtain⟨re,sQ,Wc,OK⟩:=(ah.aD pR).len;rw[ak]at re OK;simp(disch:=omega) [tT,Cm,wc,we,dk,ew,re,sQ,cl,cN,bm,bU,cB,eQ,ht,lP,m3];obtain⟨b4,yj⟩: ∃b4,b4=(bz.bs 15).au (bz.next+8) (some ⟨aW.map cT,true⟩):=⟨_,rfl⟩;rw[<-yj];have dC:a0 bz b4:=(by rw[yj];exact((a0.refl bz).bs 15).au (by omega));have FY:bC b4 (.slice (some ⟨bz.next+8,0,none⟩) (n+1) 1) aW:=(by rw[yj];exact bC.se Om (bX (by simp)) aeB.symm);have U5:ai (.slice (some ⟨bz.next+8,0,none⟩) (n+1) 1)≠some hl:=(by simp[ai];omega);have V6:hl<b4.next:=by have:=dC.next;omega
      refine(Bk (km:= λr eM=>bC eM r (bG g)) (qi.qJ b4 hl) (Mh a4 (by omega))).aD λe6 gI js=> ?_;obtain⟨fs,gk,aaz,L2,xc,aai⟩:=js;have kZ:=aai hl V6 ZR;simp(disch:=omega);have akT:(bG g).length<=1:=q2 a4 (by simp only[aZ];omega);have Wa:bC gk y e9:=(((ah.aD pR).aD dC).qJ ux).aD L2;refine(Bk (km:= λr eM=>bC eM r (bG (cr*g))) aaz (by have:=Sz Wa xc (by omega) (by omega);rw[kr,iB a4]at this;exact this)).aD λfw h0 ku=> ?_;obtain⟨g3,hN,Ma,Sh,tE,LY⟩:=ku;have p0:=LY hl (by have:=fs.next;omega) kZ;simp(disch:=first|omega|(simp only[ae,ad,af];omega));have ak3:(bG (cr*g)).length<=n+1:=q2 (FP g a4) (sV (i:=n) (j:=1) (by omega) a4 U3.2 (by simp only[aZ];omega));refine(Bk (km:= λr eM=>bC eM r (bG (cX-cr*g))) Ma (by have:=Z6 (((FY.qJ U5).aD L2).aD Sh) tE (by omega) (by omega) (by rw[iB (FP g a4),<-k6,Int.mul_comm];exact rV);rw[iB (FP g a4),<-k6]at this;exact this)).aD λiZ g2 ib=> ?_;obtain⟨gK,mK,aaA,aAo,uK,aaj⟩:=ib;have sW:=aaj hl (by have:=fs.next;have:=g3.next;omega) p0;have kg:a0 m g2:=(((pR.trans dC).trans fs).trans g3).trans gK;have F3:=kg.some vI;have Ja:g*cr=cr*g:=Int.mul_comm _ _;have C1:0<=cX-cr*g:=(by omega);have atw:(g+1)*cr=cr*g+cr:=(by rw[Int.add_mul,Int.one_mul,Ja]);have TA:cX-cr*g<cr:=(by omega);have ZM:(bG (cX-cr*g)).length<=n+1:=(by have:=q2 (k:=n) C1 (by omega);omega);obtain⟨sy,tu⟩: ∃sy,sy=bG (cX-cr*g)++List.replicate (n+1-(bG (cX-cr*g)).length) 0:=⟨_,rfl⟩;have ZN:sy.length=n+1:=(by rw[tu];simp;omega);simp(disch:=first|omega|(simp only[ae,ad,af];omega)) [];have Vk:g2.M hl=some ⟨((aJ.take j++sy.take 0++aJ.drop (j+0))++T).map cT,true⟩:=(by rw[F3,nA];simp[List.take_append_drop]);refine aaM (bz:=g2) (pw:=pw) (wx:=br dU) (wy:= .slice (some ⟨jT,0,none⟩) aV 1) (HW:=br g) (K:=aJ) (T:=T) (hl:=hl) (n:=n) (bq:=bq) (j:=j) (e9:=e9) (ah.aD kg) ux (uK.jc aaA.sub) (uK.mV sW) ak yn (by omega) (by omega) tu ZM (n+1) 0 g2 _ (by omega) (ld.refl _ _) Vk (by simp[Cl]) (by simp[tT,H]) (by simp[Cm]) (by simp[L8]) (by simp[EL]) (by simp[wc]) (by simp[we]) (by simp) (by simp) λFg ie EK Ve y7 abU MA abV MB abW abX=> ?_;have Jz:=kg.some yd;have DD:ie.M jT=some ⟨jl.map cT,true⟩:=(by rw[EK.M jT (aT Jz) (by omega),Jz]);have Vw:=aT DD;have ua:IntKind.u32.wrap g=g:=(by rw[iu];omega);have vj:(j:Int)<aV:=(by omega);have wz:j+1<=jl.length:=(by omega);have E7:j<jl.length:=(by omega);simp(disch:=first|omega|(simp only[ae,ad,af];omega)) [MB,abW,abX,e2,ua,vj,wz,DD];have c1:=kq.step (w:=sy) (g:=g) (by omega) ZN (by rw[tu];exact(oE _).1.app (dx.vm _)) ⟨a4,aC⟩ (by rw[tu,S8,iB C1,<-mm,<-k6,Ja]) (by rw[tu,S8,iB C1];exact TA) (by omega);have mF:(aJ.take j++sy++aJ.drop (j+n+1)).length=bq:=(by simp;omega);refine a9 _ _ (aaP ak qy kr Dz hF sN OI hZ DN ux Dw j (aJ.take j++sy++aJ.drop (j+n+1)) (jl.set j g) _ _ (by omega) ((a0.LZ (an.trans kg) EK hZ).au DN) (by rw[dv OI,Ve]) (by rw[bX Vw,m9]) ((((ah.aD kg).pZ ux EK)).pZ Dw (ld.au (ld.refl jT ie))) c1 (by simp[Ow]) mF (by simp[y7]) (by simp[abU]) (by simp[MA]) (by simp[abV]) (by simp[MB]) (by simp) bf)
    · simp(disch:=first|omega|(simp only[ae,ad,af];omega)) [KN,PU,PV,PW,PX,PY,PZ,fx,hg,gw,iR,dQ,gx,cl,di,o3,jU,xg,tH,uE,CR,CS,bo,cS,fz,hT,hK,iI,k,vI,ks];refine b0 (t/dU) _ (by omega) (by omega) (by omega) (by simp[dP]) (by simp[fx]) (by simp[hg]) (by simp[gw]) (by simp[hz]) (by simp[iR]) (by simp) λag bz g a4 aC Jb rV pR Cl tT Cm L8 EL wc we=> ?_;rw[<-H]at tT;have Vj:=pR.some vI;have JS:bC bz x aJ:=by
        rw[H];refine⟨kq.p4,.inr ⟨hl,0,_,true,by rw[yn],Vj,?_,by simp;omega⟩⟩;rw[nA,List.drop_zero,List.map_append,List.take_left' (by simp)]
      have afe:=pR.next
      have V8:= λk=>JS.aD ((a0.refl bz).bs k);obtain⟨dk,dV,ew,f4⟩:=JS.len;rw[yn]at dk f4;have DQ:=(V8 15).sub (k:=j) (n:=e) (by omega) (by omega);obtain⟨cB,eQ⟩:=DQ.cells;have ht:=DQ.len.2.2.2;rw[Uj]at eQ;have aG:((aJ.take e).drop j).length=n+1:=(by simp;omega);rw[aG]at ht;have fV:((n:Int)+1)*4<=140737488355328:=(by omega);have lP:(n+1)*4<=140737488355328:=(by omega);have m3:n+1<=9223372036854775807:=(by omega);obtain⟨re,sQ,Wc,OK⟩:=(ah.aD pR).len;rw[ak]at re OK;simp(disch:=omega) [tT,Cm,wc,we,dk,ew,re,sQ,cl,cN,bm,bU,cB,eQ,ht,lP,m3];obtain⟨b4,yj⟩: ∃b4,b4=(bz.bs 15).au (bz.next+8) (some ⟨aW.map cT,true⟩):=⟨_,rfl⟩;rw[<-yj];have dC:a0 bz b4:=(by rw[yj];exact((a0.refl bz).bs 15).au (by omega));have FY:bC b4 (.slice (some ⟨bz.next+8,0,none⟩) (n+1) 1) aW:=(by rw[yj];exact bC.se Om (bX (by simp)) aeB.symm);have U5:ai (.slice (some ⟨bz.next+8,0,none⟩) (n+1) 1)≠some hl:=(by simp[ai];omega);have V6:hl<b4.next:=by have:=dC.next;omega
      refine(Bk (km:= λr eM=>bC eM r (bG g)) (qi.qJ b4 hl) (Mh a4 (by omega))).aD λe6 gI js=> ?_;obtain⟨fs,gk,aaz,L2,xc,aai⟩:=js;have kZ:=aai hl V6 ZR;simp(disch:=omega);have akT:(bG g).length<=1:=q2 a4 (by simp only[aZ];omega);have Wa:bC gk y e9:=(((ah.aD pR).aD dC).qJ ux).aD L2;refine(Bk (km:= λr eM=>bC eM r (bG (cr*g))) aaz (by have:=Sz Wa xc (by omega) (by omega);rw[kr,iB a4]at this;exact this)).aD λfw h0 ku=> ?_;obtain⟨g3,hN,Ma,Sh,tE,LY⟩:=ku;have p0:=LY hl (by have:=fs.next;omega) kZ;simp(disch:=omega);have ak3:(bG (cr*g)).length<=n+1:=q2 (FP g a4) (sV (i:=n) (j:=1) (by omega) a4 U3.2 (by simp only[aZ];omega));refine(Bk (km:= λr eM=>bC eM r (bG (cX-cr*g))) Ma (by have:=Z6 (((FY.qJ U5).aD L2).aD Sh) tE (by omega) (by omega) (by rw[iB (FP g a4),<-k6,Int.mul_comm];exact rV);rw[iB (FP g a4),<-k6]at this;exact this)).aD λiZ g2 ib=> ?_;obtain⟨gK,mK,aaA,aAo,uK,aaj⟩:=ib;have sW:=aaj hl (by have:=fs.next;have:=g3.next;omega) p0;have kg:a0 m g2:=(((pR.trans dC).trans fs).trans g3).trans gK;have F3:=kg.some vI;have Ja:g*cr=cr*g:=Int.mul_comm _ _;have C1:0<=cX-cr*g:=(by omega);have atw:(g+1)*cr=cr*g+cr:=(by rw[Int.add_mul,Int.one_mul,Ja]);have TA:cX-cr*g<cr:=(by omega);have ZM:(bG (cX-cr*g)).length<=n+1:=(by have:=q2 (k:=n) C1 (by omega);omega);obtain⟨sy,tu⟩: ∃sy,sy=bG (cX-cr*g)++List.replicate (n+1-(bG (cX-cr*g)).length) 0:=⟨_,rfl⟩;have ZN:sy.length=n+1:=(by rw[tu];simp;omega);simp(disch:=omega) [];have Vk:g2.M hl=some ⟨((aJ.take j++sy.take 0++aJ.drop (j+0))++T).map cT,true⟩:=(by rw[F3,nA];simp[List.take_append_drop]);refine aaM (bz:=g2) (pw:=pw) (wx:=br dU) (wy:= .slice (some ⟨jT,0,none⟩) aV 1) (HW:=br g) (K:=aJ) (T:=T) (hl:=hl) (n:=n) (bq:=bq) (j:=j) (e9:=e9) (ah.aD kg) ux (uK.jc aaA.sub) (uK.mV sW) ak yn (by omega) (by omega) tu ZM (n+1) 0 g2 _ (by omega) (ld.refl _ _) Vk (by simp[Cl]) (by simp[tT,H]) (by simp[Cm]) (by simp[L8]) (by simp[EL]) (by simp[wc]) (by simp[we]) (by simp) (by simp) λFg ie EK Ve y7 abU MA abV MB abW abX=> ?_;have Jz:=kg.some yd;have DD:ie.M jT=some ⟨jl.map cT,true⟩:=(by rw[EK.M jT (aT Jz) (by omega),Jz]);have Vw:=aT DD;have ua:IntKind.u32.wrap g=g:=(by rw[iu];omega);have vj:(j:Int)<aV:=(by omega);have wz:j+1<=jl.length:=(by omega);have E7:j<jl.length:=(by omega);simp(disch:=omega) [MB,abW,abX,e2,ua,vj,wz,DD];have c1:=kq.step (w:=sy) (g:=g) (by omega) ZN (by rw[tu];exact(oE _).1.app (dx.vm _)) ⟨a4,aC⟩ (by rw[tu,S8,iB C1,<-mm,<-k6,Ja]) (by rw[tu,S8,iB C1];exact TA) (by omega);have mF:(aJ.take j++sy++aJ.drop (j+n+1)).length=bq:=(by simp;omega);refine a9 _ _ (aaP ak qy kr Dz hF sN OI hZ DN ux Dw j (aJ.take j++sy++aJ.drop (j+n+1)) (jl.set j g) _ _ (by omega) ((a0.LZ (an.trans kg) EK hZ).au DN) (by rw[dv OI,Ve]) (by rw[bX Vw,m9]) ((((ah.aD kg).pZ ux EK)).pZ Dw (ld.au (ld.refl jT ie))) c1 (by simp[Ow]) mF (by simp[y7]) (by simp[abU]) (by simp[MA]) (by simp[abV]) (by simp[MB]) (by simp) bf)
end Go.Proofs.YtkpifdkccdndcaaGreat
