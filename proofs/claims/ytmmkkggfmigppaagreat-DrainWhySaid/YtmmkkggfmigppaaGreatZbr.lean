/-
  A part of the proof, shortened by tools of ours.
-/
import Derived.Test.YtmmkkggfmigppaaGreatZbq
set_option linter.all false
set_option maxRecDepth 8000
set_option maxHeartbeats 16000000
namespace Go.Proofs.YtmmkkggfmigppaaGreat
open Go Go.DI Go.Big
structure OA(u:aL)(dQ:Int):Prop where
 ext:1<=u.ext/\u.ext<=2
 e7: ∃I,100<=I/\I<200/\u.e7=[xT I]
 Tw: ∃a b c d,(3<=a/\a<=4)/\(8<=b/\b<=16)/\(1<=c/\c<=3)/\(4<=d/\d<=12)/\u.cx=xW a b c d
 aO:ti u.aO
 fp:u.aO.length<=21
 aZ:ss u.aO u.aZ
 hj:1<=u.aZ.length/\u.aZ.length<=9
 AT:1<=u.dv.length/\u.dv.length<=2
 dv:GG u.dv u.dv.length
 iH:1<=u.a2.length/\(u.a2.length:Int)<=if dQ<1 then 1 else dQ
 a2:GH u.a2 u.a2.length u.dv.length
def pn(l:List Int)(i:Nat):G:=(fE.bU 1).aK 0 (some ⟨[bq l,D i],true⟩)
theorem avs{l:List Int}(aA:l.length<=140737488355328){i:Nat}(Y:i<500000){dQ:Int}(cc:dQ<=100): ∃u du,OA u dQ/\du<=i+200/\fg N 60 [bC 0,D dQ] (pn l i) λv X=>DI.dx 9 X v=some (.agg (aI u).toArray)/\X.F 0=some ⟨[bq l,D du],true⟩/\0∉DI.eC 9 X v:=by
 have nX:=mJ (l:=l) (i:=i) (n:=2) (by decide);have eK:=mJ (l:=l) (i:=i+1) (n:=100) (by decide);have gp:=mJ (l:=l) (i:=i+2) (n:=2) (by decide);have kZ:=mJ (l:=l) (i:=i+3) (n:=9) (by decide);have ri:=mJ (l:=l) (i:=i+4) (n:=3) (by decide);have A0:=mJ (l:=l) (i:=i+5) (n:=9) (by decide);have acw:=mJ (l:=l) (i:=i+6) (n:=3) (by decide);obtain⟨J,cp⟩: ∃x,1+fQ l i 2=x:=⟨_,rfl⟩;obtain⟨I,bE⟩: ∃x,100+fQ l (i+1) 100=x:=⟨_,rfl⟩;obtain⟨a,ag⟩: ∃x,3+fQ l (i+2) 2=x:=⟨_,rfl⟩;obtain⟨b,hb⟩: ∃x,8+fQ l (i+3) 9=x:=⟨_,rfl⟩;obtain⟨c,av⟩: ∃x,1+fQ l (i+4) 3=x:=⟨_,rfl⟩;obtain⟨d,aW⟩: ∃x,4+fQ l (i+5) 9=x:=⟨_,rfl⟩;obtain⟨W,dq⟩:=j0 (show 0<=3+fQ l (i+6) 3 by omega);have aJJ:IntKind.i64.wrap (1+fQ l i 2)=J:=by rw[db (by omega) (by omega)];exact cp
 have aJ6:IntKind.i64.wrap (100+fQ l (i+1) 100)=I:=by rw[db (by omega) (by omega)];exact bE
 have aJN:IntKind.i64.wrap (3+fQ l (i+2) 2)=a:=by rw[db (by omega) (by omega)];exact ag
 have arT:IntKind.i64.wrap (8+fQ l (i+3) 9)=b:=by rw[db (by omega) (by omega)];exact hb
 have aeA:IntKind.i64.wrap (1+fQ l (i+4) 3)=c:=by rw[db (by omega) (by omega)];exact av
 have Oc:IntKind.i64.wrap (4+fQ l (i+5) 9)=d:=by rw[db (by omega) (by omega)];exact aW
 have aJK:IntKind.i64.wrap (3+fQ l (i+6) 3)=(W:Int):=by rw[db (by omega) (by omega)];exact dq
 have rm:ti [⟨⟨#[]⟩,0,-1,0,gi 0 1⟩]:=⟨rfl,λk x O B=>by have:=(cN.1 B).1;simp at this;omega⟩;obtain⟨ds,cH,kK,bn,cK,rb,aoh,aoi,MU⟩:=aDU (l:=l) aA (J:=J) (gy:=ai ([xT I].map gE) 4) (gz:=ai ((xW a b c d).map gN) 4) (jD:=xY) (hV:=xY) (W:=W) (by omega) W 0 (i+7) [⟨⟨#[]⟩,0,-1,0,gi 0 1⟩] [] 0 0 (by omega) rm (λk x B=>by simp at B) (by simp) (by simp) (by omega) (.inl rfl);have aUz:=mJ (l:=l) (i:=kK) (n:=2) (by decide);obtain⟨zT,awJ⟩:=j0 (show 0<=1+fQ l kK 2 by omega);have aJL:IntKind.i64.wrap (1+fQ l kK 2)=(zT:Int):=by rw[db (by omega) (by omega)];exact awJ
 obtain⟨ps,nT,dC,fK,iz,ky⟩:=aFb (l:=l) aA (J:=J) (gy:=ai ([xT I].map gE) 4) (gz:=ai ((xW a b c d).map gN) 4) (n8:=ai (ds.map e6) 7) (n9:=ai (cH.map fH) 3) (hV:=xY) (aq:=zT) (by omega) zT (kK+1) [] (by simp) (λk x B=>by simp at B) (by omega);have aUA:0<=fQ l nT dQ/\fQ l nT dQ<if dQ<1 then 1 else dQ:=by
  by_cases Vt:dQ<1
  ·rw[if_pos Vt];have:fQ l nT dQ=0:=abD Vt;omega
  ·rw[if_neg Vt];exact mJ (by omega)
 have vn:(if dQ<1 then 1 else dQ)<=100:=by split<;>omega
 obtain⟨yo,awK⟩:=j0 (show 0<=1+fQ l nT dQ by omega);have aJM:IntKind.i64.wrap (1+fQ l nT dQ)=(yo:Int):=by rw[db (by omega) (by omega)];exact awK
 obtain⟨vs,i3,wT,vG,v3,v4⟩:=aJA (l:=l) aA (J:=J) (gy:=ai ([xT I].map gE) 4) (gz:=ai ((xW a b c d).map gN) 4) (n8:=ai (ds.map e6) 7) (n9:=ai (cH.map fH) 3) (ps:=ps) (by omega) (aq:=yo) (by omega) yo (nT+1) [] (by simp) (λk x B=>by simp at B) (by omega);have B6:1<=J/\J<=2:=by omega
 refine⟨⟨J,[xT I],xW a b c d,ds,cH,ps,vs⟩,i3,⟨B6,⟨I,by omega,by omega,rfl⟩,⟨a,b,c,d,by omega,by omega,by omega,by omega,rfl⟩,bn,by simp only;omega,cK,⟨rb.2 (by omega),rb.1⟩,by simp only;omega,by simp only[fK];exact dC,by simp only;omega,by simp only[vG];exact wT⟩,by omega,?_⟩;refine c3 (ay:=⟨[oA,Bb],[kL]⟩) aA0 (by kernel_rfl) (by simp[Zs]) ?_;have aYO:oG 1 1:=by unfold oG;omega
 have aYN:=aqR;have aYR:oG 1 I:=by unfold oG;omega
 have dR:((i:Int)+1+1).toNat=i+2:=by omega
 have t3:((i:Int)+1+1+1).toNat=i+3:=by omega
 have t4:((i:Int)+1+1+1+1).toNat=i+4:=by omega
 have nx:((i:Int)+1+1+1+1+1).toNat=i+5:=by omega
 have sd:((i:Int)+1+1+1+1+1+1).toNat=i+6:=by omega
 simp(disch:=first|omega|simp only[bS];omega) [Zs,amo,pn,nn,dR,t3,t4,nx,sd,aJJ,aJ6,aJN,arT,aeA,Oc,aJK,eL,-ab,-ah,-aa,-ad,-List.map_map];refine aI2 (l:=l) (i:=i+7) (J:=J) (I:=I) (a:=a) (b:=b) (c:=c) (d:=d) ⟨by simp(disch:=first|omega|simp only[bS];omega) [-ab,-ah,-aa,-ad,-List.map_map];omega,by simp(disch:=first|omega|simp only[bS];omega) [CX,-ab,-ah,-aa,-ad,-List.map_map],by simp(disch:=first|omega|simp only[bS];omega) [-ab,-ah,-aa,-ad,-List.map_map],by simp(disch:=first|omega|simp only[bS];omega) [eL,-ab,-ah,-aa,-ad,-List.map_map],by simp(disch:=first|omega|simp only[bS];omega) [eL,-ab,-ah,-aa,-ad,-List.map_map],by simp(disch:=first|omega|simp only[bS];omega) [-ab,-ah,-aa,-ad,-List.map_map],by simp(disch:=first|omega|simp only[bS];omega) [eL,-ab,-ah,-aa,-ad,-List.map_map],by simp(disch:=first|omega|simp only[bS];omega) [F2,-ab,-ah,-aa,-ad,-List.map_map],by simp(disch:=first|omega|simp only[bS];omega) [NC,NG,-ab,-ah,-aa,-ad,-List.map_map],by simp(disch:=first|omega|simp only[bS];omega) [e6,-ab,-ah,-aa,-ad,-List.map_map]⟩ (by simp) λbd A=> ?_;refine MU _ bd _ (by simp) (by simp) (by simp) (by simp) (by simp) (by simp) A λc2 aY0 iE rS=> ?_;have afa:c2 0=bC 0:=(iE 0 (by decide)).trans (by simp);have aKH:c2 1=D dQ:=(iE 1 (by decide)).trans (by simp);have aKI:c2 4=bC 1:=(iE 4 (by decide)).trans (by simp);have asq:c2 5=bC 6:=(iE 5 (by decide)).trans (by simp);clear iE;have Xs:=rS;obtain⟨jU,or,axC⟩:=rS;have a5:=axC.aM;have jn:=aF a5;simp(disch:=first|omega|simp only[bS];omega) [amp,afa,a5,nn,aJL];refine aFc (mo.at Xs (du:=kK+1) (by omega)) λaIQ ao=> ?_;refine ky _ aIQ _ (by simp[afa]) (by simp[asq]) (by simp) ao λvK aY1 Le axD=> ?_;have afb:vK 0=bC 0:=(Le 0 (by decide)).trans (by simp[afa]);have aKJ:vK 1=D dQ:=(Le 1 (by decide)).trans (by simp[aKH]);have aKK:vK 4=bC 1:=(Le 4 (by decide)).trans (by simp[aKI]);have asr:vK 5=bC 6:=(Le 5 (by decide)).trans (by simp[asq]);clear Le;obtain⟨op,⟨aM,aE,ft,ig,iy,ed,sU⟩⟩:=axD;have abd:=aF aM;simp(disch:=first|omega|simp only[bS];omega) [amq,afb,aKJ,aM,nn,aJM];refine aJB (l:=l) (i:=nT+1) (J:=J) (gy:=ai ([xT I].map gE) 4) (gz:=ai ((xW a b c d).map gN) 4) (n8:=ai (ds.map e6) 7) (n9:=ai (cH.map fH) 3) (ps:=ps) ⟨op,⟨by simp(disch:=first|omega|simp only[bS];omega),by simp(disch:=first|omega|simp only[bS];omega) [aE],by simp(disch:=first|omega|simp only[bS];omega) [ft],by simp(disch:=first|omega|simp only[bS];omega) [ig],iy,ed,sU⟩⟩ λaIR aS=> ?_;refine v4 _ aIR _ (by simp[afb]) (by simp[asr]) (by simp) aS λafe aY2 Qr axE=> ?_;have a0X:afe 0=bC 0:=(Qr 0 (by decide)).trans (by simp[afb]);have aKO:afe 4=bC 1:=(Qr 4 (by decide)).trans (by simp[aKK]);have aKP:afe 5=bC 6:=(Qr 5 (by decide)).trans (by simp[asr]);clear Qr;obtain⟨ub,⟨aM,aE,ft,pR,iy,ed,sU⟩⟩:=axE;have dN:=aF aM;have hS:=aF aE;have xS:=aF ft;have gb:=aF pR;have Wl: ∀tt:G,tt.F ub=some ⟨(vs.map gD).flatten,true⟩->DI.dx 8 tt (bN ub vs.length 2)=some (ai (vs.map gD) 2):= λtt h=>uS (n:=7) h (by simp) arR;simp(disch:=first|omega|simp only[bS];omega) [amr,aKO,aKP,aE,ft,CX];refine⟨?_,aM,?_⟩
 ·rw[Wl _ (by rw[aX ed];exact pR)];simp[aI]
 ·rw[apZ,aX ed,pR];simp only[hv,wY,Gz];rintro(e|⟨v,⟨r,mY,M⟩,B⟩)
  ·exact iy e.symm
  ·rw[DI.C6 ((arR r mY).2 v M)]at B;cases B
theorem aow:(gi 0 1).dz:=by unfold cv.dz;decide
theorem aD1:(gi 1 2).dz:=by unfold cv.dz;decide
theorem aD2:(gi 1 1000).dz:=by unfold cv.dz;decide
theorem aD3:(gi 30 1).dz:=by unfold cv.dz;decide
theorem aEz(c:Nat)(av:c=100\/c=110\/c=112\/c=118): ∀n:Fin 60,eJ (lS c n.val):=by rcases av with rfl|rfl|rfl|rfl<;>(unfold eJ;decide+kernel)
theorem abT:eJ F2/\eJ NC/\eJ NG:=by unfold eJ;decide+kernel
theorem aEy{c nF:Nat}(av:c<256)(qh:nF<256){n g0:Nat}(aj:n<60)(Cm:g0<60)(h:lS c n=lS nF g0):c=nF/\n=g0:=by simp only[lS,ByteArray.mk.injEq]at h;have bX:=congrArg (λa:Array UInt8=>(a.toList.map UInt8.toNat)) h;simp at bX;omega
theorem aep{l:List ByteArray}{c f:Nat->Nat}(h: ∀(i:Nat) x,l[i]?=some x->x=lS (c i) (f i)/\(c i=100\/c i=110\/c i=112\/c i=118)/\f i<60)(inj: ∀i j,i<j->j<l.length-> ¬(c i=c j/\f i=f j)):kD l=true:=by
 unfold kD;rw[a7,ei];refine⟨λx B=> ?_,decide_eq_true (zI.2 λi j Y aV yQ e=> ?_)⟩
 ·obtain⟨i,Y,rfl⟩:=n4 B;obtain⟨a,b,d⟩:=h i _ (c6 Y);rw[a];exact FL (aEz (c i) b ⟨f i,d⟩)
 ·obtain⟨a,b,d⟩:=h i _ (c6 Y);obtain⟨ev,cB,qc⟩:=h j _ (c6 aV);rw[a,ev]at e;exact inj i j yQ aV (aEy (by omega) (by omega) d qc e)
theorem aJh{a b:ByteArray}(ag:eJ a)(hb:eJ b)(h:a≠b):kD [a,b]=true:=by unfold kD;simp[FL ag,FL hb,h]
theorem aJg{a:ByteArray}(ag:eJ a):kD [a]=true:=by unfold kD;simp[FL ag]
theorem pX{x a b:Int}(A:a<=x)(E:x<=b):fO x a b=true:=u5.2 ⟨A,E⟩
theorem aFU:rj (gi 1 2)=true/\(gi 1 1000).b0.small=true/\qp (gi 1 1000).b0=true/\(gi 30 1).b0.small=true:=by decide
theorem aE9{x:h3}{n:Nat}(h:OF x n):uo x 2=true/\h3.gl x:=by
 obtain⟨eJ,⟨bB,cC⟩,⟨bn,cK⟩,⟨a9,bW⟩,⟨iP,cD,ia,aYm,aYn,aIm,aqH⟩,ik,⟨R,c1,py⟩,qB,ni⟩:=h;obtain⟨eK,kZ,ri,A0⟩:=aFU;constructor
 ·unfold uo;simp only[a7];refine⟨?_,?_,?_,?_,?_⟩
  ·unfold mI;simp only[a7,eF];exact⟨pX bB (by omega),pX bn (by omega),by omega,pX a9 bW,iP,pX (by omega) (by omega),pX (by omega) (by omega),pX (by omega) (by omega),pX (by omega) (by omega),pX (by omega) (by omega)⟩
  ·rcases ik with e|e<;>rw[e]<;>rfl
  ·unfold sY;simp only[a7,eF,ei];rw[py,qB,ni];refine⟨?_,λy Z=> ?_,kZ,ri,A0⟩
   ·rw[Jo,c1]
   ·rw[List.eq_of_mem_replicate Z];exact eK
  ·rcases ik with e|e<;>rw[e]<;>decide
  ·rcases ik with e|e<;>rw[e]<;>decide
 ·refine⟨⟨λy Z=> ?_,?_⟩,by rw[qB];exact aD2,by rw[ni];exact aD3,by rcases ik with e|e<;>rw[e]<;>decide⟩
  ·rw[py]at Z;rw[List.eq_of_mem_replicate Z];exact aD1
  ·rw[py,Jo];have:R<=2:=(by split at c1<;>omega);omega
theorem aDV{ds:List hE}(h:ti ds):uQ ds=true:=by
 have H:(gi 0 1).b0.small=true/\ ¬0<(gi 0 1).b0.n:=by decide
 have ar:=h.rm;cases aW:ds with
 |nil=>rw[aW]at ar;cases ar
 | cons R l=>
   rw[aW]at ar;simp at ar;unfold uQ;simp only[a7,ei,pH];constructor
   ·rw[ar];simp[A5,H.1,H.2]
   ·intro i Y;rw[c6 Y];obtain⟨br,bQ,a3,⟨q,eH,eN⟩,fz,jh,l0,oI,BH⟩:=h.lq (i+1) l[i] (by omega) (by rw[aW,Jn];exact c6 Y);rw[aW]at eH;simp only[Ac,a7];refine⟨pX bQ (by omega),?_,pX fz jh,pX l0 oI,by rw[BH];exact H.1⟩;unfold MS;rw[eH];exact decide_eq_true eN
theorem abu{u:aL}{dQ:Int}(h:OA u dQ)(cc:dQ<=12):cL u:=by
 obtain⟨ext,⟨I,je,kf,e7⟩,⟨a,b,c,d,ag,hb,av,yN,Tw⟩,aO,fp,aZ,hj,AT,dv,iH,a2⟩:=h;have kH:u.a2.length<=12:=by have:=iH.2;split at this<;>omega
 have rT:u.cx.length=2:=by rw[Tw];rfl
 have Ck:u.e7.length=1:=by rw[e7];rfl
 have aQp:=aO.x2;have bE:oG 1 I:=by unfold oG;omega
 have IF: ∀x∈u.dv,uo x 2=true/\h3.gl x:= λx B=>by obtain⟨i,Y,rfl⟩:=n4 B;exact aE9 (dv i _ (c6 Y))
 have Cq:o2 u=true:=by
  unfold o2;simp only[a7,eF];refine⟨pX ext.1 (by omega),by omega,by omega,by omega,by omega,by omega,kH,aDV aO,?_,?_,?_,?_,?_,?_,?_,?_,?_,?_⟩
  ·rw[e7];rfl
  ·rw[Tw,Ck];simp only[xW,m9,List.all_nil,Bool.and_true,a7,CU];exact⟨⟨pX (by omega) (by omega),pX (by omega) (by omega),by decide⟩,pX (by omega) (by omega),pX (by omega) (by omega),by decide⟩
  ·rw[ei];intro x B;obtain⟨i,Y,rfl⟩:=n4 B;obtain⟨br,bQ,a3,m,e,f⟩:=aZ i _ (c6 Y);have:=f.cU;unfold BU;simp only[a7];refine⟨pX bQ (by omega),pX (by omega) (by omega),?_⟩;obtain⟨q,eH,eN⟩:=f;unfold MW;rw[e,nB,eH];exact decide_eq_true eN
  ·rw[ei,rT];exact λx B=>(IF x B).1
  ·rw[ei];intro x B;obtain⟨i,Y,rfl⟩:=n4 B;obtain⟨br,bQ,a3⟩:=a2 i _ (c6 Y);exact pX bQ (by omega)
  ·rw[e7];exact aJg abT.1
  ·rw[Tw];exact aJh abT.2.1 abT.2.2 (show NC≠NG by decide)
  ·refine aep (c:= λi=>if i<u.aO.length-1 then 110 else 100) (f:= λi=>if i<u.aO.length-1 then i+1 else i-(u.aO.length-1)) (λi x B=> ?_) (λi j yQ aV=> ?_)
   ·by_cases VA:i<u.aO.length-1
    ·rw[Bs (by simp;exact VA),sk,List.getElem?_tail]at B;simp only[if_pos VA];obtain⟨uP,aG,aN⟩:=vI.1 B;rw[<-aN];exact⟨(aO.lq (i+1) uP (by omega) aG).1,by simp,by omega⟩
    ·rw[Br (by simp;omega)]at B;simp only[ll,List.length_tail,sk]at B;simp only[if_neg VA];obtain⟨uP,aG,aN⟩:=vI.1 B;rw[<-aN];have aA:=(cN.1 aG).1;exact⟨(aZ _ uP aG).1,by simp,by omega⟩
   ·split<;>split<;>omega
  ·refine aep (c:= λ_=>112) (f:= λi=>u.dv.length-i) (λi x B=> ?_) (λi j yQ aV=> ?_)
   ·rw[sk]at B;obtain⟨uP,aG,aN⟩:=vI.1 B;rw[<-aN];exact⟨(dv i uP aG).eJ,by simp,by omega⟩
   ·simp at aV;omega
  ·refine aep (c:= λ_=>118) (f:= λi=>u.a2.length-i) (λi x B=> ?_) (λi j yQ aV=> ?_)
   ·rw[sk]at B;obtain⟨uP,aG,aN⟩:=vI.1 B;rw[<-aN];exact⟨(a2 i uP aG).1,by simp,by omega⟩
   ·simp at aV;omega
 refine⟨aEO Cq,⟨λx B=> ?_,λx B=> ?_,λx B=>(IF x B).2,by omega,by omega,by omega,by omega,by omega,by omega⟩⟩
 ·rw[e7]at B;simp at B;subst B;exact⟨I,by omega,kf,rfl,rfl,rfl⟩
 ·obtain⟨i,Y,rfl⟩:=n4 B;cases i with
  | zero=>have:=aO.rm;rw[c6 Y]at this;rw[DM this];exact aow
  | succ i=>rw[(aO.lq (i+1) _ (by omega) (c6 Y)).2.2.2.2.2.2.2.2];exact aow
theorem asC{u:aL}(h:gf u){v:Nat}(M:v<u.a2.length):bP N 101 [.agg (aI u).toArray,D v] (D (ku u v)):=by
 refine dJ (c3 (ay:=⟨[],[]⟩) ay3 (by kernel_rfl) (by simp[X7]) ?_);obtain⟨x,p,q,B,ae,hg,bg,bb,A,E,ao⟩:=Wa h M;have cQ:=(cN.1 B).2;have EE:=(cN.1 bg).2;have bA:(v:Int)<u.a2.length:=by omega
 have a9:(p:Int)<u.dv.length:=by omega
 have bp:IntKind.i64.wrap (q.k+q.m)=q.k+q.m:=db (by omega) (by omega);rw[bb];simp(disch:=first|omega|simp only[DI.aw];omega) [X7,ajn,aI,gD,dU,bA,a9,cQ,ae,EE,bp]
noncomputable def Bc(u:aL)(h:gf u):bF N:= .cM 101 Nat (λv=>v<u.a2.length) (λv=>[.agg (aI u).toArray,D v]) (λv=>D (ku u v)) λv M=>asC h M
@[simp] theorem aV0{u:aL}{h:gf u}:(Bc u h).f=101:=rfl
@[simp] theorem aV1{u:aL}{h:gf u}{v:Nat}(M:v<u.a2.length):(Bc u h).fn [.agg #[D u.ext,ai (u.e7.map gE) 4,ai (u.cx.map gN) 4,ai (u.aO.map e6) 7,ai (u.aZ.map fH) 3,ai (u.dv.map dU) 17,ai (u.a2.map gD) 2],D v]=some (D (ku u v)):=bF.dK (x:=v) M λy Z=>by simp at Z⊢;omega
theorem aD0{l:List Int}{x:Int}(aA:l.length<=1000000):bP N 102 [bq l,D x] (.bool (decide (x∈l))):=by
 refine dJ (c3 (ay:=⟨[],[]⟩) ay4 (by kernel_rfl) (by simp[X8]) ?_);simp[X8,ajo];refine gP (ay:=⟨[],[]⟩) (λi z t=>(∀j (aV:j<l.length),j<i-> ¬l[j]=x)/\z 0=bq l/\z 1=D x/\z 5=D i) l.length ?_ ?_ 0 _ _ (gd _) ⟨λj aV h=>absurd h (DL _),by simp,by simp,by simp⟩
 ·rintro i z t Y ⟨mA,bG,aT,bD⟩ bO a1;obtain⟨y,B⟩:=gM Y;have cQ:=(cN.1 B).2;have bA:(i:Int)<l.length:=(by omega);have bp:=fB (n:=i) (by omega);by_cases c:y=x
  ·have e:x∈l:=(by rw[<-c,<-cQ];exact kp Y);simp(disch:=omega) [QH,Lv,bG,aT,bD,bA,cQ,eq_true c,e]
  ·simp(disch:=first|omega|simp only[DI.aw];omega) [QH,Lv,bG,aT,bD,bA,cQ,c,bp,-ab,-ah,-aa,-ad,-List.map_map];refine a1 _ _ ⟨λj aV W0=> ?_,by simp[bG],by simp[aT],by simp⟩;by_cases e:j=i
   ·subst e;rw[cQ];exact c
   ·exact mA j aV (by omega)
 ·rintro z t ⟨mA,bG,aT,bD⟩;have e:x∉l:= λal=>by
   obtain⟨j,aV,e⟩:=n4 al;exact mA j aV aV e
  simp[QH,Lv,Lv,bG,bD,e]
noncomputable def wK:bF N:= .cM 102 (List Int×Int) (λx=>x.1.length<=1000000) (λx=>[bq x.1,D x.2]) (λx=> .bool (decide (x.2∈x.1))) λ_ h=>aD0 h
@[simp] theorem aVY:wK.f=102:=rfl
@[simp] theorem aVZ{l:List Int}{x:Int}(h:l.length<=1000000):wK.fn [ai (l.map λx=>[D x]) 1,D x]=some (.bool (decide (x∈l))):=bF.dK (x:=(l,x)) h λ⟨j6,h2⟩ Z=>by simpa using Z
def asM(t X:G):Prop:=X.next=t.next/\ ∀b,X.F b=t.F b
def Uy:List Nat:=[0,1,3,4,5,6,7,8]
theorem aDb{u:aL}(hI:u.aZ.length<=24){c5:List Int}(sK:c5.length<=1000): ∀(r k d:Nat),k+r=u.aZ.length->d<u.aZ.length-> ∃qc:Nat,qc<u.aZ.length/\ ∀(z:aD) (t:G) (Q:cO->aD->G->Prop) (cP or:Nat),z 3=bC cP->z 7=bN or c5.length 1->z 9=D d->z 10=D k->t.F cP=some ⟨aI u,true⟩->t.F or=some ⟨c5.map D,true⟩->
 (∀K X,(∀s∈Uy,K s=z s)->K 9=D qc->asM t X->Q (.cF 4) K X)->ee N (.loop Md) z t Q:=by
 intro r;induction r with
 | zero=>intro k d O aW;refine⟨d,aW,λz t Q cP or bH cf cz ey dy bw a6=> ?_⟩;refine eS (ay:=⟨[wK],[kL]⟩) λbO a1=> ?_;have jo:=aF dy;have c: ¬(k:Int)<u.aZ.length:=(by omega);have ck: ¬k<u.aZ.length:=(by omega);simp(disch:=first|omega|simp only[DI.aw];omega) [Md,bH,ey,dy,aI,c,-ab,-ah,-aa,-ad,-List.map_map];refine a6 _ _ (λs H=>by simp only[Uy,hv,kQ,or_false]at H;rcases H with rfl|rfl|rfl|rfl|rfl|rfl|rfl|rfl<;>simp) (by simp[cz]) ⟨rfl,λ_=>rfl⟩
 | succ r cj=>
   intro k d O aW;have G6: ∀(t:G) (or:Nat),t.F or=some ⟨c5.map D,true⟩->DI.dx 9 t (bN or c5.length 1)=some (bq c5):= λt or h=>uS (n:=8) (by rw[mc];exact h) (by simp) u7;have c:(k:Int)<u.aZ.length:=(by omega);have ck:k<u.aZ.length:=(by omega);have ax2:c5.length<=1000000:=(by omega);by_cases GW:(d:Int)∈c5
   case neg=>refine⟨d,aW,λz t Q cP or bH cf cz ey dy bw a6=> ?_⟩;refine eS (ay:=⟨[wK],[kL]⟩) λbO a1=> ?_;have jo:=aF dy;have bE:=G6 t or bw;simp(disch:=first|omega|simp only[DI.aw];omega) [Md,bH,cf,cz,ey,dy,aI,c,bE,GW,-ab,-ah,-aa,-ad,-List.map_map];refine a6 _ _ (λs H=>by simp only[Uy,hv,kQ,or_false]at H;rcases H with rfl|rfl|rfl|rfl|rfl|rfl|rfl|rfl<;>simp) (by simp[cz]) ⟨by simp,λ_=>by simp⟩
   have cr:=fB (n:=d) (by omega);have ea:=fB (n:=k) (by omega);obtain⟨hz,yM⟩: ∃hz:Nat,((d:Int)+1).tmod u.aZ.length=hz/\hz<u.aZ.length:=(by have A:=Int.tmod_lt_of_pos ((d:Int)+1) (show(0:Int)<u.aZ.length by omega);have E:=Int.tmod_nonneg (a:=(d:Int)+1) (u.aZ.length:Int) (by omega);obtain⟨x,B⟩:=j0 E;exact⟨x,B,by omega⟩);obtain⟨qc,br,bQ⟩:=cj (k+1) hz (by omega) yM.2;refine⟨qc,br,λz t Q cP or bH cf cz ey dy bw a6=> ?_⟩;refine eS (ay:=⟨[wK],[kL]⟩) λbO a1=> ?_;have jo:=aF dy;have bE:=G6 t or bw;have aN:=yM.1;have zg: ¬u.aZ.length=0:=(by omega);simp(disch:=first|omega|simp only[DI.aw];omega) [Md,bH,cf,cz,ey,dy,aI,c,bE,GW,cr,ea,aN,zg,-ab,-ah,-aa,-ad,-List.map_map];refine a1 _ _ (bQ _ _ Q cP or (by simp[bH]) (by simp[cf]) (by simp) (by simp) (by simpa[aI]using dy) (by simpa using bw) λK X H jj ga=>a6 K X (λs gJ=>(H s gJ).trans ?_) jj ⟨by rw[ga.1];simp,λb=>by rw[ga.2 b];simp⟩);simp only[Uy,hv,kQ,or_false]at gJ;rcases gJ with rfl|rfl|rfl|rfl|rfl|rfl|rfl|rfl<;>simp
def NT:List Nat:=[0,3,4,5,6]
def OB(u:aL)(c5:List Int):Prop:= ∀y∈c5,-1<=y/\y<u.aZ.length
theorem aDc{l:List Int}(aA:l.length<=140737488355328){u:aL}(h:cL u)(hI:1<=u.aZ.length){v:Nat}(M:v<u.a2.length): ∀(r:Nat) (c5:List Int) (i:Nat),(c5.length:Int)+r=ku u v->OB u c5->i+2*r+10<1000000->
 ∃ (x3:List Int) (du:Nat),(x3.length:Int)=ku u v/\OB u x3/\du<=i+2*r/\ ∀(z:aD) (t:G) (Q:cO->aD->G->Prop) (or:Nat) (aR:List Nat),z 0=bC 0->z 3=bC 1->z 6=D v->z 7=bN or c5.length 1->z 8=D c5.length->
   t.F 0=some ⟨[bq l,D i],true⟩->t.F 1=some ⟨aI u,true⟩->t.F or=some ⟨c5.map D,true⟩->or≠0->or≠1->(∀b∈aR,b≠0/\b≠or/\b<t.next)->
   (∀K X Nc,(∀s∈NT,K s=z s)->K 7=bN Nc x3.length 1->X.F 0=some ⟨[bq l,D du],true⟩->X.F 1=some ⟨aI u,true⟩->X.F Nc=some ⟨x3.map D,true⟩->Nc≠0->Nc≠1->(∀b∈aR,b≠Nc/\X.F b=t.F b)->t.next<=X.next->Q (.cF 2) K X)->ee N (.loop H6) z t Q:=by
 have kv:=G2 h.ok M;have axN:=h.ok.hj;have aQK:(u.aZ.length:Int)<=1000000:=by omega
 intro r;induction r with
 | zero=>intro c5 i ar ax Y;refine⟨c5,i,by omega,ax,by omega,λz t Q or aR bG bH bo cf bm aM dy bw iy ed dH a6=> ?_⟩;refine eS (ay:=⟨[wK,Bc u h.ok],[kL]⟩) λbO a1=> ?_;have jo:=aF dy;have c: ¬(c5.length:Int)<ku u v:=(by omega);simp(disch:=first|omega|simp only[DI.aw];omega) [H6,bH,bo,bm,dy,aI,c,-ab,-ah,-aa,-ad,-List.map_map];exact a6 _ _ or (λs H=>by simp only[NT,hv,kQ,or_false]at H;rcases H with rfl|rfl|rfl|rfl|rfl<;>simp) (by simp[cf]) aM dy bw iy ed (λb hb=>⟨(dH b hb).2.1,rfl⟩) (c8 _)
 | succ r cj=>
   intro c5 i ar ax Y;have G6: ∀(t:G) (or:Nat),t.F or=some ⟨c5.map D,true⟩->DI.dx 9 t (bN or c5.length 1)=some (bq c5):= λt or h=>uS (n:=8) (by rw[mc];exact h) (by simp) u7;have c:(c5.length:Int)<ku u v:=(by omega);have ax2:c5.length<=1000000:=(by omega);have nX:=mJ (l:=l) (i:=i) (n:=(u.aZ.length:Int)) (by omega);obtain⟨b1,ir⟩:=j0 nX.1;have aW:fQ l i (u.aZ.length:Int)=(b1:Int):=ir;obtain⟨qc,sE,oP⟩:=aDb h.ok.hj (c5:=c5) (by omega) u.aZ.length 0 b1 (by omega) (by omega);have Gi:((i:Int)+1).toNat=i+1:=(by omega);by_cases GW:(qc:Int)∈c5
   ·skip
    obtain⟨x3,du,eH,eN,ha,hn⟩:=cj (c5++[-1]) (i+1) (by simp;omega) (λy Z=>by
     simp only[jP,rz]at Z;rcases Z with Z|rfl
     ·exact ax y Z
     ·omega) (by omega)
    refine⟨x3,du,eH,eN,by omega,λz t Q or aR bG bH bo cf bm aM dy bw iy ed dH a6=> ?_⟩;refine eS (ay:=⟨[wK,Bc u h.ok],[kL]⟩) λbO a1=> ?_;have dN:=aF aM;have jo:=aF dy;have jS:=aF bw;have xX: ¬0=or:= λe=>iy e.symm;have Ir: ¬1=or:= λe=>ed e.symm;simp(disch:=first|omega|simp only[DI.aw];omega) [H6,bG,bH,bo,bm,dy,aI,aM,c,nn,aW,-ab,-ah,-aa,-ad,-List.map_map];refine oP _ _ _ 1 or (by simp[bH]) (by simp[cf]) (by simp) (by simp) (by simp(disch:=first|omega|simp only[DI.aw];omega) [dy,aI,-ab,-ah,-aa,-ad,-List.map_map]) (by simp(disch:=first|omega|simp only[DI.aw];omega) [bw,-ab,-ah,-aa,-ad,-List.map_map]) λbT bd H K1 ga=> ?_;have z0:bT 0=bC 0:=(H 0 (by decide)).trans (by simp[bG]);have z3:bT 3=bC 1:=(H 3 (by decide)).trans (by simp[bH]);have z4:bT 4=z 4:=(H 4 (by decide)).trans (by simp);have rv:bT 5=z 5:=(H 5 (by decide)).trans (by simp);have tb:bT 6=D v:=(H 6 (by decide)).trans (by simp[bo]);have Gs:bT 7=bN or c5.length 1:=(H 7 (by decide)).trans (by simp[cf]);have DE:bT 8=D c5.length:=(H 8 (by decide)).trans (by simp[bm]);have ho:bd.F 0=some ⟨[bq l,D ((i:Int)+1)],true⟩:=(ga.2 0).trans (by simp(disch:=first|omega|simp only[DI.aw];omega) [-ab,-ah,-aa,-ad,-List.map_map]);have aG:bd.F 1=some ⟨aI u,true⟩:=(ga.2 1).trans (by simp(disch:=first|omega|simp only[DI.aw];omega) [dy,aI,-ab,-ah,-aa,-ad,-List.map_map]);have rM:bd.F or=some ⟨c5.map D,true⟩:=(ga.2 or).trans (by simp(disch:=first|omega|simp only[DI.aw];omega) [bw,-ab,-ah,-aa,-ad,-List.map_map]);have Ae: ∀b∈aR,bd.F b=t.F b:= λb hb=>(ga.2 b).trans (by rw[aX (dH b hb).1]);have la:bd.next=t.next:=ga.1.trans (by simp)
    clear H ga;have bE:=G6 bd or rM;have ek:=aF ho;have bn:=aF aG;have abF:=aF rM;have eQ:(c5.length+1)*8<=140737488355328/\c5.length<=9223372036854775806:=(by omega);have cr:IntKind.i64.wrap ((c5.length:Int)+1)=(c5.length:Int)+1:=db (by omega) (by omega);simp(disch:=first|omega|simp only[DI.aw];omega) [Gs,DE,K1,rM,bE,GW,eQ,cr,-ab,-ah,-aa,-ad,-List.map_map];refine a1 _ _ (hn _ _ Q (bd.next+3) aR (by simp[z0]) (by simp[z3]) (by simp[tb]) (by simp) (by simp) ?_ ?_ ?_ (by omega) (by omega) (λb hb=> ?_) λc2 dR AW iE eg bA a9 Nq qs dC yG tK=>a6 c2 dR AW (λs gJ=>(iE s gJ).trans ?_) eg bA a9 Nq qs dC (λb hb=>⟨(yG b hb).1,(yG b hb).2.trans ?_⟩) (by simp at tK;omega))
    ·simp(disch:=first|omega|simp only[DI.aw];omega) [ho,-ab,-ah,-aa,-ad,-List.map_map]
    ·simp(disch:=first|omega|simp only[DI.aw];omega) [aG,aI,-ab,-ah,-aa,-ad,-List.map_map]
    ·simp(disch:=first|omega|simp only[DI.aw];omega) [-ab,-ah,-aa,-ad,-List.map_map];exact hx (by simp)
    ·obtain⟨a9,bW,cA⟩:=dH b hb;exact⟨a9,by omega,by simp;omega⟩
    ·simp only[NT,hv,kQ,or_false]at gJ;rcases gJ with rfl|rfl|rfl|rfl|rfl<;>simp[z0,z3,z4,rv,tb,bG,bH,bo]
    ·obtain⟨a9,bW,cA⟩:=dH b hb;have fV:b<bd.next:=by omega
     have g9: ¬b=bd.next+2:=by omega
     have mg: ¬b=bd.next+3:=by omega
     simp(disch:=first|omega|simp only[DI.aw];omega) [Ae b hb,-ab,-ah,-aa,-ad,-List.map_map]
   by_cases J7:fQ l (i+1) 12=0
   ·skip
    obtain⟨x3,du,eH,eN,ha,hn⟩:=cj (c5++[-1]) (i+2) (by simp;omega) (λy Z=>by
     simp only[jP,rz]at Z;rcases Z with Z|rfl
     ·exact ax y Z
     ·omega) (by omega)
    refine⟨x3,du,eH,eN,by omega,λz t Q or aR bG bH bo cf bm aM dy bw iy ed dH a6=> ?_⟩;refine eS (ay:=⟨[wK,Bc u h.ok],[kL]⟩) λbO a1=> ?_;have dN:=aF aM;have jo:=aF dy;have jS:=aF bw;have xX: ¬0=or:= λe=>iy e.symm;have Ir: ¬1=or:= λe=>ed e.symm;simp(disch:=first|omega|simp only[DI.aw];omega) [H6,bG,bH,bo,bm,dy,aI,aM,c,nn,aW,-ab,-ah,-aa,-ad,-List.map_map];refine oP _ _ _ 1 or (by simp[bH]) (by simp[cf]) (by simp) (by simp) (by simp(disch:=first|omega|simp only[DI.aw];omega) [dy,aI,-ab,-ah,-aa,-ad,-List.map_map]) (by simp(disch:=first|omega|simp only[DI.aw];omega) [bw,-ab,-ah,-aa,-ad,-List.map_map]) λbT bd H K1 ga=> ?_;have z0:bT 0=bC 0:=(H 0 (by decide)).trans (by simp[bG]);have z3:bT 3=bC 1:=(H 3 (by decide)).trans (by simp[bH]);have z4:bT 4=z 4:=(H 4 (by decide)).trans (by simp);have rv:bT 5=z 5:=(H 5 (by decide)).trans (by simp);have tb:bT 6=D v:=(H 6 (by decide)).trans (by simp[bo]);have Gs:bT 7=bN or c5.length 1:=(H 7 (by decide)).trans (by simp[cf]);have DE:bT 8=D c5.length:=(H 8 (by decide)).trans (by simp[bm]);have ho:bd.F 0=some ⟨[bq l,D ((i:Int)+1)],true⟩:=(ga.2 0).trans (by simp(disch:=first|omega|simp only[DI.aw];omega) [-ab,-ah,-aa,-ad,-List.map_map]);have aG:bd.F 1=some ⟨aI u,true⟩:=(ga.2 1).trans (by simp(disch:=first|omega|simp only[DI.aw];omega) [dy,aI,-ab,-ah,-aa,-ad,-List.map_map]);have rM:bd.F or=some ⟨c5.map D,true⟩:=(ga.2 or).trans (by simp(disch:=first|omega|simp only[DI.aw];omega) [bw,-ab,-ah,-aa,-ad,-List.map_map]);have Ae: ∀b∈aR,bd.F b=t.F b:= λb hb=>(ga.2 b).trans (by rw[aX (dH b hb).1]);have la:bd.next=t.next:=ga.1.trans (by simp)
    clear H ga;have bE:=G6 bd or rM;have ek:=aF ho;have bn:=aF aG;have abF:=aF rM;have eQ:(c5.length+1)*8<=140737488355328/\c5.length<=9223372036854775806:=(by omega);have cr:IntKind.i64.wrap ((c5.length:Int)+1)=(c5.length:Int)+1:=db (by omega) (by omega);simp(disch:=first|omega|simp only[DI.aw];omega) [z0,Gs,DE,K1,ho,rM,bE,GW,J7,nn,eQ,cr,Gi,-ab,-ah,-aa,-ad,-List.map_map];refine a1 _ _ (hn _ _ Q (bd.next+3) aR (by simp[z0]) (by simp[z3]) (by simp[tb]) (by simp) (by simp) ?_ ?_ ?_ (by omega) (by omega) (λb hb=> ?_) λc2 dR AW iE eg bA a9 Nq qs dC yG tK=>a6 c2 dR AW (λs gJ=>(iE s gJ).trans ?_) eg bA a9 Nq qs dC (λb hb=>⟨(yG b hb).1,(yG b hb).2.trans ?_⟩) (by simp at tK;omega))
    ·simp(disch:=first|omega|simp only[DI.aw];omega) [-ab,-ah,-aa,-ad,-List.map_map];omega
    ·simp(disch:=first|omega|simp only[DI.aw];omega) [aG,aI,-ab,-ah,-aa,-ad,-List.map_map]
    ·simp(disch:=first|omega|simp only[DI.aw];omega) [-ab,-ah,-aa,-ad,-List.map_map];exact hx (by simp)
    ·obtain⟨a9,bW,cA⟩:=dH b hb;exact⟨a9,by omega,by simp;omega⟩
    ·simp only[NT,hv,kQ,or_false]at gJ;rcases gJ with rfl|rfl|rfl|rfl|rfl<;>simp[z0,z3,z4,rv,tb,bG,bH,bo]
    ·obtain⟨a9,bW,cA⟩:=dH b hb;have fV:b<bd.next:=by omega
     have g9: ¬b=bd.next+2:=by omega
     have mg: ¬b=bd.next+3:=by omega
     simp(disch:=first|omega|simp only[DI.aw];omega) [Ae b hb,-ab,-ah,-aa,-ad,-List.map_map]
   ·skip
    obtain⟨x3,du,eH,eN,ha,hn⟩:=cj (c5++[(qc:Int)]) (i+2) (by simp;omega) (λy Z=>by
     simp only[jP,rz]at Z;rcases Z with Z|rfl
     ·exact ax y Z
     ·omega) (by omega)
    refine⟨x3,du,eH,eN,by omega,λz t Q or aR bG bH bo cf bm aM dy bw iy ed dH a6=> ?_⟩;refine eS (ay:=⟨[wK,Bc u h.ok],[kL]⟩) λbO a1=> ?_;have dN:=aF aM;have jo:=aF dy;have jS:=aF bw;have xX: ¬0=or:= λe=>iy e.symm;have Ir: ¬1=or:= λe=>ed e.symm;simp(disch:=first|omega|simp only[DI.aw];omega) [H6,bG,bH,bo,bm,dy,aI,aM,c,nn,aW,-ab,-ah,-aa,-ad,-List.map_map];refine oP _ _ _ 1 or (by simp[bH]) (by simp[cf]) (by simp) (by simp) (by simp(disch:=first|omega|simp only[DI.aw];omega) [dy,aI,-ab,-ah,-aa,-ad,-List.map_map]) (by simp(disch:=first|omega|simp only[DI.aw];omega) [bw,-ab,-ah,-aa,-ad,-List.map_map]) λbT bd H K1 ga=> ?_;have z0:bT 0=bC 0:=(H 0 (by decide)).trans (by simp[bG]);have z3:bT 3=bC 1:=(H 3 (by decide)).trans (by simp[bH]);have z4:bT 4=z 4:=(H 4 (by decide)).trans (by simp);have rv:bT 5=z 5:=(H 5 (by decide)).trans (by simp);have tb:bT 6=D v:=(H 6 (by decide)).trans (by simp[bo]);have Gs:bT 7=bN or c5.length 1:=(H 7 (by decide)).trans (by simp[cf]);have DE:bT 8=D c5.length:=(H 8 (by decide)).trans (by simp[bm]);have ho:bd.F 0=some ⟨[bq l,D ((i:Int)+1)],true⟩:=(ga.2 0).trans (by simp(disch:=first|omega|simp only[DI.aw];omega) [-ab,-ah,-aa,-ad,-List.map_map]);have aG:bd.F 1=some ⟨aI u,true⟩:=(ga.2 1).trans (by simp(disch:=first|omega|simp only[DI.aw];omega) [dy,aI,-ab,-ah,-aa,-ad,-List.map_map]);have rM:bd.F or=some ⟨c5.map D,true⟩:=(ga.2 or).trans (by simp(disch:=first|omega|simp only[DI.aw];omega) [bw,-ab,-ah,-aa,-ad,-List.map_map]);have Ae: ∀b∈aR,bd.F b=t.F b:= λb hb=>(ga.2 b).trans (by rw[aX (dH b hb).1]);have la:bd.next=t.next:=ga.1.trans (by simp)
    clear H ga;have bE:=G6 bd or rM;have ek:=aF ho;have bn:=aF aG;have abF:=aF rM;have eQ:(c5.length+1)*8<=140737488355328/\c5.length<=9223372036854775806:=(by omega);have cr:IntKind.i64.wrap ((c5.length:Int)+1)=(c5.length:Int)+1:=db (by omega) (by omega);simp(disch:=first|omega|simp only[DI.aw];omega) [z0,Gs,DE,K1,ho,rM,bE,GW,J7,nn,eQ,cr,Gi,-ab,-ah,-aa,-ad,-List.map_map];refine a1 _ _ (hn _ _ Q (bd.next+3) aR (by simp[z0]) (by simp[z3]) (by simp[tb]) (by simp) (by simp) ?_ ?_ ?_ (by omega) (by omega) (λb hb=> ?_) λc2 dR AW iE eg bA a9 Nq qs dC yG tK=>a6 c2 dR AW (λs gJ=>(iE s gJ).trans ?_) eg bA a9 Nq qs dC (λb hb=>⟨(yG b hb).1,(yG b hb).2.trans ?_⟩) (by simp at tK;omega))
    ·simp(disch:=first|omega|simp only[DI.aw];omega) [-ab,-ah,-aa,-ad,-List.map_map];omega
    ·simp(disch:=first|omega|simp only[DI.aw];omega) [aG,aI,-ab,-ah,-aa,-ad,-List.map_map]
    ·simp(disch:=first|omega|simp only[DI.aw];omega) [-ab,-ah,-aa,-ad,-List.map_map];exact hx (by simp)
    ·obtain⟨a9,bW,cA⟩:=dH b hb;exact⟨a9,by omega,by simp;omega⟩
    ·simp only[NT,hv,kQ,or_false]at gJ;rcases gJ with rfl|rfl|rfl|rfl|rfl<;>simp[z0,z3,z4,rv,tb,bG,bH,bo]
    ·obtain⟨a9,bW,cA⟩:=dH b hb;have fV:b<bd.next:=by omega
     have g9: ¬b=bd.next+2:=by omega
     have mg: ¬b=bd.next+3:=by omega
     simp(disch:=first|omega|simp only[DI.aw];omega) [Ae b hb,-ab,-ah,-aa,-ad,-List.map_map]
def BD(u:aL)(L:List (List Int)):Prop:= ∀(w:Nat) (r:List Int),L[w]?=some r->(r.length:Int)=ku u w/\OB u r
theorem BD.add{u:aL}{L:List (List Int)}{r:List Int}(h:BD u L)(A:(r.length:Int)=ku u L.length)(E:OB u r):BD u (L++[r]):= λw x B=>by
 by_cases c:w<L.length
 ·rw[Bs c]at B;exact h w x B
 ·have aA:=(cN.1 B).1;simp only[iD,m8,yj]at aA;have e:w=L.length:=(by omega);subst e;rw[Br (c8 _)]at B;simp at B;subst B;exact⟨A,E⟩
theorem aHr{L:List (List Int)}:(L.map oz).flatten.length=L.length:=by rw[xl (I:=1) λr ar=>by obtain⟨x,_,rfl⟩:=gx.1 ar;rfl,ll,Nat.mul_one]
theorem aqx{L:List (List Int)}: ∀r∈L.map oz,r.length=1/\ ∀v∈r,hH v=true:= λr ar=>by obtain⟨x,_,rfl⟩:=gx.1 ar;exact⟨rfl,λv M=>by simp[oz]at M;subst M;rfl⟩
theorem aDd{l:List Int}(aA:l.length<=140737488355328){u:aL}(h:cL u)(hI:1<=u.aZ.length): ∀(r:Nat) (L:List (List Int)) (i:Nat),L.length+r=u.a2.length->BD u L->i+20*r+100<1000000->
 ∃ (GC:List (List Int)) (du:Nat),GC.length=u.a2.length/\BD u GC/\du<=i+20*r/\ ∀(z:aD) (t:G) (Q:cO->aD->G->Prop) (r0:Nat),z 0=bC 0->z 3=bC 1->z 5=bN r0 L.length 1->z 6=D L.length->
   t.F 0=some ⟨[bq l,D i],true⟩->t.F 1=some ⟨aI u,true⟩->t.F r0=some ⟨(L.map oz).flatten,true⟩->r0≠0->r0≠1->
   (∀K X ab3,K 5=bN ab3 GC.length 1->X.F 0=some ⟨[bq l,D du],true⟩->X.F ab3=some ⟨(GC.map oz).flatten,true⟩->ab3≠0->Q (.cF 0) K X)->ee N (.loop Se) z t Q:=by
 have kH:=h.ok.iH;intro r;induction r with
 | zero=>intro L i ar ax Y;refine⟨L,i,by omega,ax,by omega,λz t Q r0 bG bH bD bo aM dy bw iy ed a6=> ?_⟩;refine eS (ay:=⟨[wK,Bc u h.ok],[kL]⟩) λbO a1=> ?_;have jo:=aF dy;have c: ¬(L.length:Int)<u.a2.length:=(by omega);have ck: ¬L.length<u.a2.length:=(by omega);simp[Se,bH,bo,dy,aI,c];exact a6 _ _ r0 (by simp[bD]) aM bw iy
 | succ r cj=>
   intro L i ar ax Y;have M:L.length<u.a2.length:=(by omega);have kv:=G2 h.ok M;obtain⟨c5,kK,br,bQ,a3,a4⟩:=aDc (l:=l) aA h hI M (ku u L.length).toNat [] i (by simp;omega) (λy Z=>by simp at Z) (by omega);obtain⟨GC,du,eH,eN,ha,hn⟩:=cj (L++[c5]) kK (by simp;omega) (ax.add br bQ) (by omega);refine⟨GC,du,eH,eN,by omega,λz t Q r0 bG bH bD bo aM dy bw iy ed a6=> ?_⟩;refine eS (ay:=⟨[wK,Bc u h.ok],[kL]⟩) λbO a1=> ?_;have dN:=aF aM;have jo:=aF dy;have bh:=aF bw;have c:(L.length:Int)<u.a2.length:=(by omega);simp[Se,bH,bo,dy,aI,c];refine a4 _ _ _ t.next [r0] (by simp[bG]) (by simp[bH]) (by simp[bo]) (by simp) (by simp) ?_ ?_ ?_ (by omega) (by omega) (λb hb=> ?_) λbT bd or H eg ahp ahD eP xX Ir dH aj=> ?_
   ·simp(disch:=omega) [aM]
   ·simp(disch:=omega) [dy,aI]
   ·simp(disch:=first|omega|simp only[DI.aw];omega)
   ·simp only[hv,kQ,or_false]at hb;subst hb;exact⟨iy,by omega,by simp;omega⟩
   have z0:bT 0=bC 0:=(H 0 (by decide)).trans (by simp[bG]);have z3:bT 3=bC 1:=(H 3 (by decide)).trans (by simp[bH]);have rv:bT 5=bN r0 L.length 1:=(H 5 (by decide)).trans (by simp[bD]);have tb:bT 6=D L.length:=(H 6 (by decide)).trans (by simp[bo]);have rL:bd.F r0=some ⟨(L.map oz).flatten,true⟩:=(dH r0 (by simp)).2.trans (by simp(disch:=omega) [bw]);have ek:=aF ahp;have bn:=aF ahD;have jq:=aF rL;have abF:=aF eP;have dV:=aHr (L:=L);have ni:or=r0->False:= λe=>(dH r0 (by simp)).1 e.symm;clear H dH aj;have cr:IntKind.i64.wrap ((L.length:Int)+1)=(L.length:Int)+1:=db (by omega) (by omega);have ar: ∀x,(L++[c5]).map oz=x->(L.map oz).flatten++[bq c5]=x.flatten:= λx B=>by subst B;simp[oz]
   have a8:List.take L.length (L.map oz).flatten=(L.map oz).flatten:=hx (by omega);have dB: ¬or=r0:= λe=>by subst e;exact(ni rfl).elim
   simp(disch:=first|omega|simp only[DI.aw];omega) [rv,tb,eg,rL,dV,cr,a8];refine⟨by omega,a1 _ _ (vH (o:=or) (p:=bd.next+3) (j:=L.length) (I:=1) (bJ:=c5.map λx=>[D x]) (cells:=(L.map oz).flatten++[bN or c5.length 1]) ?_ u7 ?_ ?_ (by omega) (hn _ _ Q (bd.next+3) (by simp[z0]) (by simp[z3]) ?_ ?_ ?_ ?_ ?_ (by omega) (by omega) a6))⟩
   ·rw[aX (by omega),aX dB,aX (by omega),G.cl,mc];exact eP
   ·rw[cb (by simp)]
   ·rw[Br (by omega)];simp[dV]
   ·simp
   ·simp
   ·rw[aX (by omega),aX (by omega),aX (by omega),aX (by omega),aX (by omega),G.cl];exact ahp
   ·rw[aX (by omega),aX (by omega),aX (by omega),aX (by omega),aX (by omega),G.cl];exact ahD
   ·rw[cb (by simp),List.set_append_right _ _ (by omega)];simp[dV,oz]
theorem TP{t:G}{o l I:Nat}{bJ:List (List Value)}(h:t.F o=some ⟨bJ.flatten,true⟩)(ar: ∀r∈bJ,r.length=I/\ ∀v∈r,hH v=true)(bx:o≠0):0∉DI.eC 9 t (bN o l I):=by
 rw[zs,h];simp only[hv,wY,Gz];rintro(e|⟨v,⟨r,mY,M⟩,B⟩)
 ·exact bx e.symm
 ·rw[DI.C6 ((ar r mY).2 v M)]at B;cases B
theorem aDf{l:List Int}(aA:l.length<=140737488355328){i:Nat}(Y:i<600000){u:aL}(h:cL u)(hI:1<=u.aZ.length): ∃L du,L.length=u.a2.length/\BD u L/\du<=i+20*u.a2.length/\fg N 48 [bC 0,.agg (aI u).toArray] (pn l i) λv X=>DI.dx 9 X v=some (pP L)/\X.F 0=some ⟨[bq l,D du],true⟩/\0∉eC 9 X v:=by
 have kH:=h.ok.iH;obtain⟨L,du,eH,eN,ha,hn⟩:=aDd (l:=l) aA h hI u.a2.length [] i (by simp) (λw r ar=>by simp at ar) (by omega);refine⟨L,du,eH,eN,ha,?_⟩;refine c3 (ay:=⟨[wK,Bc u h.ok],[kL]⟩) aAY (by kernel_rfl) (by simp[Zp]) ?_;simp[Zp,aml,pn];refine ur (d:=5) (I:=1) (by simp) ?_;refine hn _ _ _ 3 (by simp) (by simp) (by simp[fE]) (by simp) ?_ ?_ ?_ (by decide) (by decide) λbT bd r0 bD aM aE iy=> ?_
 ·rw[aX (by simp[fE]),cl (by simp[fE]),aX (by decide),cl (by simp[fE]),cb (by simp[fE])]
 ·rw[aX (by simp[fE]),cl (by simp[fE]),cb (by simp[fE])]
 ·rw[show((((fE.bU 1).aK 0 (some {cells:=[bq l,D i],own:=true})).bU 2).aK 1 (some {cells:=aI u,own:=true})).next=3 from rfl];exact cb (by simp[fE])
 simp[bD];refine⟨?_,aM,TP aE aqx iy⟩;have:=uS (n:=8) (t:=bd) (l:=L.length) aE (by simp) aqx;exact this
def zV(aP:Int)(R:List Int):Prop:= ∀y∈R,0<=y/\y<=aP
theorem zV.set{aP:Int}{R:List Int}(h:zV aP R){k:Nat}{y:Int}(Z:0<=y/\y<=aP):zV aP (R.set k y):= λx B=>by
 rcases Gu B with q|q
 ·exact h x q
 ·rw[q];exact Z
theorem aGA{l:List Int}(aA:l.length<=140737488355328){n:Nat}(aj:n<=1000){aP:Int}(cd:0<=aP/\aP<=900000): ∀(r k:Nat) (R:List Int) (i:Nat),k+r=n->R.length=n->zV aP R->i+2*r+10<1000000->
 ∃ (iv:List Int) (du:Nat),iv.length=n/\zV aP iv/\du<=i+2*r/\ ∀(z:aD) (t:G) (Q:cO->aD->G->Prop) (eY:Nat),z 0=bC 0->z 5=bN eY n 1->z 6=D k->
   t.F 0=some ⟨[bq l,D i],true⟩->t.F eY=some ⟨R.map D,true⟩->eY≠0->
   (∀K X,K 5=bN eY n 1->X.F 0=some ⟨[bq l,D du],true⟩->X.F eY=some ⟨iv.map D,true⟩->Q (.cF 0) K X)->ee N (.loop Ia) z t Q:=by
 intro r;induction r with
 | zero=>intro k R i O c1 ax Y;refine⟨R,i,c1,ax,by omega,λz t Q eY bG bD bo aM eP iy a6=> ?_⟩;refine eS (ay:=⟨[],[kL]⟩) λbO a1=> ?_;have c: ¬(k:Int)<n:=(by omega);simp(disch:=first|omega|simp only[DI.aw];omega) [Ia,bD,bo,c,-ab,-ah,-aa,-ad,-List.map_map];exact a6 _ _ (by simp[bD]) aM eP
 | succ r cj=>
   intro k R i O c1 ax Y;have He:k<R.length:=(by omega);obtain⟨x,B⟩:=gM He;have cQ:=(cN.1 B).2;have aQT:=ax x (by rw[<-cQ];exact kp He);have c:(k:Int)<n:=(by omega);have cr:=fB (n:=k) (by omega);have ea:IntKind.i64.wrap (x+1)=x+1:=db (by omega) (by omega);have Gi:((i:Int)+1).toNat=i+1:=(by omega);have W6:((R.map D).drop k).take 1=[D x]:=by rw[pG (by simp;omega)];simp[cQ]
   by_cases jv:fQ l i 9=0
   ·obtain⟨iv,du,eH,eN,ha,hn⟩:=cj (k+1) (R.set k 0) (i+1) (by omega) (by simp[c1]) (ax.set (by omega)) (by omega);refine⟨iv,du,eH,eN,by omega,λz t Q eY bG bD bo aM eP iy a6=> ?_⟩;refine eS (ay:=⟨[],[kL]⟩) λbO a1=> ?_;have dN:=aF aM;have jS:=aF eP;have xX: ¬0=eY:= λe=>iy e.symm;have dc:(R.map D).length=n:=(by simp[c1]);simp(disch:=first|omega|simp only[DI.aw];omega) [Ia,bG,bD,bo,aM,eP,c,jv,cr,nn,dc,-ab,-ah,-aa,-ad,-List.map_map];refine⟨by omega,a1 _ _ (hn _ _ Q eY (by simp[bG]) (by simp[bD]) (by simp) ?_ ?_ iy a6)⟩
    ·rw[aX xX,cb (by omega)];simp
    ·rw[cb (by simp;omega),List.map_set]
   ·by_cases ck:fQ l i 9=1
    ·have eK:=mJ (l:=l) (i:=i+1) (n:=x+1) (by omega);obtain⟨iv,du,eH,eN,ha,hn⟩:=cj (k+1) (R.set k (fQ l (i+1) (x+1))) (i+2) (by omega) (by simp[c1]) (ax.set (by omega)) (by omega);refine⟨iv,du,eH,eN,by omega,λz t Q eY bG bD bo aM eP iy a6=> ?_⟩;refine eS (ay:=⟨[],[kL]⟩) λbO a1=> ?_;have dN:=aF aM;have jS:=aF eP;have xX: ¬0=eY:= λe=>iy e.symm;have dc:(R.map D).length=n:=(by simp[c1]);simp(disch:=first|omega|simp only[DI.aw];omega) [Ia,bG,bD,bo,aM,eP,c,ck,cr,ea,Gi,nn,dc,W6,-ab,-ah,-aa,-ad,-List.map_map];refine⟨by omega,a1 _ _ (hn _ _ Q eY (by simp[bG]) (by simp[bD]) (by simp) ?_ ?_ iy a6)⟩
     ·rw[aX xX,cb (by omega)];simp;omega
     ·rw[cb (by simp;omega),List.map_set]
    ·obtain⟨iv,du,eH,eN,ha,hn⟩:=cj (k+1) R (i+1) (by omega) c1 ax (by omega);refine⟨iv,du,eH,eN,by omega,λz t Q eY bG bD bo aM eP iy a6=> ?_⟩;refine eS (ay:=⟨[],[kL]⟩) λbO a1=> ?_;have dN:=aF aM;have jS:=aF eP;have xX: ¬0=eY:= λe=>iy e.symm;have dc:(R.map D).length=n:=(by simp[c1]);simp(disch:=first|omega|simp only[DI.aw];omega) [Ia,bG,bD,bo,aM,c,jv,ck,cr,nn,-ab,-ah,-aa,-ad,-List.map_map];refine a1 _ _ (hn _ _ Q eY (by simp[bG]) (by simp[bD]) (by simp) ?_ ?_ iy a6)
     ·rw[cb (by omega)];simp
     ·rw[aX iy];exact eP
theorem aGK{u:aL}(h:cL u)(aQL:1<=u.aZ.length):fg N 52 [.agg (aI u).toArray,.slice none 0 0] fE λv bd=> ∃o,v=bN o u.aZ.length 1/\bd.F o=some ⟨(kd u []).map D,true⟩:=by
 refine c3 (ay:=⟨[Df u h.gl],[]⟩) Zr (by kernel_rfl) (by simp[H7]) ?_;have M:=h.ok.zE;have hI:=h.ok.hj;simp(disch:=first|omega|simp only[DI.aw];omega) [H7,Zq,aI,-ab,-ah,-aa,-ad,-List.map_map];refine ur (d:=5) (I:=1) (by simp) ?_;refine gP (ay:=⟨[Df u h.gl],[]⟩) (λi z t=>t.F 0=some ⟨aI u,true⟩/\(∃o,o≠0/\z 5=bN o i 1/\t.F o=some ⟨fc i (λj=>D (iO u [] j)),true⟩)/\z 1= .slice none 0 0/\z 2=bC 0/\z 6=D i) u.aZ.length ?_ ?_ 0 _ _ (gd _) ⟨by simp(disch:=first|omega|simp only[DI.aw];omega) [aI,-ab,-ah,-aa,-ad,-List.map_map],⟨2,by decide,by simp,by simp(disch:=first|omega|simp only[DI.aw];omega) [fc,-ab,-ah,-aa,-ad,-List.map_map]⟩,by simp,by simp,by simp⟩
 ·rintro i z t Y ⟨aM,⟨o,aC,bD,bw⟩,aT,bY,bo⟩ bO a1;obtain⟨x,B⟩:=gM Y;have cQ:=(cN.1 B).2;obtain⟨br,bQ,a3,a4,fz⟩:=h.ok.tw i x B;obtain⟨m,al⟩:=j0 br;have rT:m<u.cx.length:=(by omega);obtain⟨y,Z⟩:=gM rT;have ot:=(cN.1 Z).2;have hX:qe u i=y.ext:=(by simp only[qe,B,al,nB,Z]);have hb:=h.ok.Iq m y Z;have bA:(i:Int)<u.aZ.length:=(by omega);have a9:(m:Int)<u.cx.length:=(by omega);have q0:i+1<=u.aZ.length:=Y;have bp:=fB (n:=i) (by omega);have dN:=aF aM;have bh:=aF bw;have eQ:(i+1)*8<=140737488355328/\i<=9223372036854775806:=(by omega);have mY: ¬(0:Int)=u.aZ.length:=(by omega);have wv: ¬u.aZ.length=0:=(by omega);have Qo: ¬0=u.aZ.length:=(by omega);have aiK: ¬u.aZ=[]:= λe=>by rw[e]at wv;exact wv rfl
  have Az:iO u [] i=y.ext:=(by unfold iO;rw[if_neg (by simp;omega),hX]);simp(disch:=first|omega|simp only[DI.aw];omega) [H8,aI,fH,gN,aT,bY,bD,bo,aM,bw,bA,a9,bp,cQ,al,ot,mY,eQ,-ab,-ah,-aa,-ad,-List.map_map];refine a1 _ _ ⟨by simp(disch:=first|omega|simp only[DI.aw];omega) [aM,aI,-ab,-ah,-aa,-ad,-List.map_map],⟨t.next+3,by omega,by simp,?_⟩,by simp[aT],by simp[bY],by simp⟩;rw[cb (by simp),hx (by simp),FW,Az]
 ·rintro z t ⟨aM,⟨o,aC,bD,bw⟩,aT,bY,bo⟩;have dN:=aF aM;simp(disch:=first|omega|simp only[DI.aw];omega) [H8,aI,aM,bY,bD,bo,-ab,-ah,-aa,-ad,-List.map_map];rw[bw,A4,C8]
noncomputable def XY(u:aL)(h:cL u)(aj:1<=u.aZ.length):jg N:= .Kl 52 Unit (λ_=>True) (λ_=>[.agg (aI u).toArray,.slice none 0 0]) (λ_=>u.aZ.length) (λ_=>1) (λ_=>(kd u []).map D) λ_ _=>Of (λv M=>by simp at M;rcases M with rfl|rfl<;>rfl) X5 (aGK h aj)
@[simp] theorem aRb{u:aL}{h:cL u}{aj:1<=u.aZ.length}:(XY u h aj).f=52:=rfl
@[simp] theorem aRc{u:aL}{h:cL u}{aj:1<=u.aZ.length}{t:G}:(XY u h aj).fn [.agg #[D u.ext,ai (u.e7.map gE) 4,ai (u.cx.map gN) 4,ai (u.aO.map e6) 7,ai (u.aZ.map fH) 3,ai (u.dv.map dU) 17,ai (u.a2.map gD) 2],.slice none 0 0] t=some (.slice (some ⟨t.next,0,none⟩) u.aZ.length 1,(t.bU 1).aK t.next (some ⟨(kd u []).map D,true⟩)):=jg.Wb (x:=()) trivial λy Z=>rfl
theorem aGz{u:aL}(h:cL u):zV 16 (kd u []):= λy Z=>by
 unfold kd at Z;obtain⟨d,aW,rfl⟩:=gx.1 Z;have v7:d<u.aZ.length:=pH.1 aW;have aiK: ¬([]:List Int).length=u.aZ.length:=by simp;omega
 simp only[if_neg aiK];obtain⟨x,B⟩:=gM v7;obtain⟨br,bQ,a3,a4,fz⟩:=h.ok.tw d x B;obtain⟨m,al⟩:=j0 br;have rT:m<u.cx.length:=by omega
 obtain⟨y,Z⟩:=gM rT;have hX:qe u d=y.ext:=by simp only[qe,B,al,nB,Z]
 have hb:=h.ok.Iq m y Z;omega
theorem aGy{u:aL}:(kd u []).length=u.aZ.length:=by unfold kd;simp
theorem aGC{l:List Int}(aA:l.length<=140737488355328){i:Nat}(Y:i<600000){u:aL}(h:cL u)(hI:1<=u.aZ.length): ∃R du,R.length=u.aZ.length/\zV 16 R/\du<=i+2*u.aZ.length/\fg N 61 [bC 0,.agg (aI u).toArray] (pn l i) λv X=>DI.dx 9 X v=some (bq R)/\X.F 0=some ⟨[bq l,D du],true⟩/\0∉DI.eC 9 X v:=by
 have axN:=h.ok.hj;obtain⟨R,du,eH,eN,ha,hn⟩:=aGA (l:=l) aA (n:=u.aZ.length) (by omega) (aP:=16) (by omega) u.aZ.length 0 (kd u []) i (by omega) aGy (aGz h) (by omega);refine⟨R,du,eH,eN,ha,?_⟩;refine c3 (ay:=⟨[],[kL,XY u h hI]⟩) aA1 (by kernel_rfl) (by simp[Zw]) ?_;simp(disch:=first|omega|simp only[DI.aw];omega) [Zw,ams,pn,aI,-ab,-ah,-aa,-ad,-List.map_map];refine hn _ _ _ 3 (by simp) (by simp) (by simp) ?_ ?_ (by decide) λbT bd bD aM aE=> ?_
 ·rw[aX (by decide),cl (by simp[fE]),aX (by decide),cl (by simp[fE]),cb (by simp[fE])]
 ·exact cb (by simp[fE])
 simp(disch:=first|omega|simp only[DI.aw];omega) [bD,-ab,-ah,-aa,-ad,-List.map_map];have e:(R.map D)=(R.map λx=>[D x]).flatten:=mc.symm;rw[e]at aE;refine⟨?_,aM,TP aE u7 (by decide)⟩;have:=uS (n:=8) (t:=bd) (l:=u.aZ.length) aE (by simp[eH]) u7;exact this
open Classical in
noncomputable def Fj(f:Nat)(args cs l3:List Value)(r:Value)(ok: ∀(t:G) (o:Nat),t.F o=some ⟨cs,true⟩->fg N f (.pointer (some ⟨o,0,none⟩)::args) t λv X=>v=r/\X=t.aK o (some ⟨l3,true⟩)):jg N:=
 ⟨f,λeb t=>if h: ∃o,Value.pointer (some ⟨o,0,none⟩)::args=eb/\t.F o=some ⟨cs,true⟩then some (r,t.aK h.choose (some ⟨l3,true⟩))else none,λeb t eA X h bu iF=>by
  split at h
  ·next B=>cases h;have:=ok t _ B.choose_spec.2;rw[B.choose_spec.1]at this;exact this.bt λv X ⟨a,b⟩=>by rw[a,b];exact iF
  ·cases h⟩
theorem aCE{f:Nat}{args cs l3:List Value}{r:Value}{ok: ∀(t:G) (o:Nat),t.F o=some ⟨cs,true⟩->fg N f (.pointer (some ⟨o,0,none⟩)::args) t λv X=>v=r/\X=t.aK o (some ⟨l3,true⟩)}{t:G}{o:Nat}(h:t.F o=some ⟨cs,true⟩):
 (Fj f args cs l3 r ok).fn (.pointer (some ⟨o,0,none⟩)::args) t=some (r,t.aK o (some ⟨l3,true⟩)):=by
 have hX: ∃q,Value.pointer (some ⟨q,0,none⟩)::args=Value.pointer (some ⟨o,0,none⟩)::args/\t.F q=some ⟨cs,true⟩:=⟨o,rfl,h⟩;have e:hX.choose=o:=by have:=hX.choose_spec.1;simpa using this
 simp only[Fj,dif_pos hX];rw[e]
theorem Jc{l:List Int}{i:Nat}: ∀v∈[bq l,D i],hH v=true:= λv M=>by simp at M;rcases M with rfl|rfl<;>rfl
theorem avr{l:List Int}(aA:l.length<=140737488355328){i:Nat}(Y:i<500000){dQ:Int}(cc:dQ<=100): ∃u du,OA u dQ/\du<=i+200/\ ∀(t:G) (o:Nat),t.F o=some ⟨[bq l,D i],true⟩->fg N 60 [bC o,D dQ] t λv X=>v= .agg (aI u).toArray/\X=t.aK o (some ⟨[bq l,D du],true⟩):=by obtain⟨u,du,a,b,c⟩:=avs aA Y cc;exact⟨u,du,a,b,λt o aC=>aeQ (by simp) (by simp) Jc Jc (λv M=>by simp at M;subst M;rfl) c aC⟩
theorem aDe{l:List Int}(aA:l.length<=140737488355328){i:Nat}(Y:i<600000){u:aL}(h:cL u)(hI:1<=u.aZ.length): ∃L du,L.length=u.a2.length/\BD u L/\du<=i+20*u.a2.length/\ ∀(t:G) (o:Nat),t.F o=some ⟨[bq l,D i],true⟩->fg N 48 [bC o,.agg (aI u).toArray] t λv X=>v=pP L/\X=t.aK o (some ⟨[bq l,D du],true⟩):=by obtain⟨L,du,a,b,cB,c⟩:=aDf aA Y h hI;exact⟨L,du,a,b,cB,λt o aC=>aeQ (by simp) (by simp) Jc Jc (λv M=>by simp at M;subst M;rfl) c aC⟩
theorem aGB{l:List Int}(aA:l.length<=140737488355328){i:Nat}(Y:i<600000){u:aL}(h:cL u)(hI:1<=u.aZ.length): ∃R du,R.length=u.aZ.length/\zV 16 R/\du<=i+2*u.aZ.length/\ ∀(t:G) (o:Nat),t.F o=some ⟨[bq l,D i],true⟩->fg N 61 [bC o,.agg (aI u).toArray] t λv X=>v=bq R/\X=t.aK o (some ⟨[bq l,D du],true⟩):=by obtain⟨R,du,a,b,cB,c⟩:=aGC aA Y h hI;exact⟨R,du,a,b,cB,λt o aC=>aeQ (by simp) (by simp) Jc Jc (λv M=>by simp at M;subst M;rfl) c aC⟩
open Go Go.DI
section
set_option maxRecDepth 100000
def aBJ:cy N 18:=⟨_,by conv=>lhs;reduce⟩
def akI:aB:=aJ (a:=aBJ.1.body) ⟨_,by conv=>lhs;reduce⟩
def YI:ca:=⟨22,[.hy 2 true 9,.bL 3],akI⟩
theorem azF:cm N 18=some YI:=by kernel_rfl
end
@[simp] theorem aSu{f:Nat}{args cs l3:List Value}{r:Value}{ok: ∀(t:G) (o:Nat),t.F o=some ⟨cs,true⟩->fg N f (.pointer (some ⟨o,0,none⟩)::args) t λv X=>v=r/\X=t.aK o (some ⟨l3,true⟩)}:(Fj f args cs l3 r ok).f=f:=rfl
theorem aes{f:Nat}{args cs l3:List Value}{r:Value}{ok: ∀(t:G) (o:Nat),t.F o=some ⟨cs,true⟩->fg N f (.pointer (some ⟨o,0,none⟩)::args) t λv X=>v=r/\X=t.aK o (some ⟨l3,true⟩)}{t:G}{o:Nat}(h:t.F o=some ⟨cs,true⟩){k:Value->G->Prop}(O:k r (t.aK o (some ⟨l3,true⟩))):
 aer ((Fj f args cs l3 r ok).fn (.pointer (some ⟨o,0,none⟩)::args) t) k:=by
 rw[aCE h];exact O
def afj(m:G)(v:Value)(l:List Int):Prop:=(v= .slice none 0 0/\l=[])\/ ∃b o cs w,v= .slice (some ⟨b,o,none⟩) l.length 1/\m.F b=some ⟨cs,w⟩/\(cs.drop o).take l.length=l.map D/\o+l.length<=cs.length
theorem aup{m:G}{bf:Value}{l:List Int}(ba:afj m bf l)(aA:l.length<=1000000):eu N 71 [bf] m λr U=>m.next<=U.next/\(∀b,b<m.next->U.F b=m.F b/\U.mp b=m.mp b)/\
 ((l.length=0/\l.map D=[]/\r= .slice none 0 0)\/ ∃q,m.next<=q/\q<U.next/\r= .slice (some ⟨q,0,none⟩) l.length 1/\U.F q=some ⟨l.map D,true⟩):=by
 rcases ba with⟨rfl,rfl⟩|⟨b,o,cs,w,rfl,E,ao,aS⟩
 ·rw[age (by simp)];simp[Mo]
 ·have dA:=G.aF E;rw[age (by simp)];by_cases bX:l.length=0
  ·obtain rfl:=si.1 bX;simp(disch:=first|omega|simp only[bS];omega) [Mo,E];refine⟨by simpa using aS,λcB iL=>⟨by simp(disch:=first|omega|simp only[bS];omega),rfl⟩,⟨m.next,by omega,by omega,rfl,by simp(disch:=first|omega|simp only[bS];omega)⟩⟩
  ·simp(disch:=first|omega|simp only[bS];omega) [Mo,E,bX];refine⟨⟨⟨aS,by omega⟩,by omega⟩,λcB iL=>⟨by simp(disch:=first|omega|simp only[bS];omega),rfl⟩,m.next+2,by omega,by omega,rfl,by simp(disch:=first|omega|simp only[bS];omega) [ao]⟩
def lZ(t:G)(v:Value)(l:List Int):Prop:=kC t 1 v=true/\lp t 1 v=l.map D
theorem ayZ: ∀{l:List Int} {u:fY} {J:e3} {ys:List Value},bM u J (l.map D) ys->ys=l.map D:= λ{l u J ys} h=>by
 apply yi;intro i;cases B:(l.map D)[i]? with
 | none=>have:=List.getElem?_eq_none_iff.1 B;rw[qD (by rw[<-h.1];exact this)]
 | some x=>have Y:=(cN.1 B).1;obtain⟨y,Z⟩: ∃y,ys[i]?=some y:=⟨_,c6 (by rw[<-h.1];exact Y)⟩;have M:=h.2 i x y B Z;rw[sk,vI]at B;obtain⟨n,_,rfl⟩:=B;rw[Z,M.tS]
theorem lZ.at{J:e3}{u:fY}{t m:G}{v bf:Value}{l:List Int}(h:lZ t v l)(H:ep J u t m)(M:cu u J v bf):afj m bf l:=by
 have A:=Gb H M h.1;have E:=GS H M h.1;rw[h.2]at E;have ao:=ayZ E;rcases zB A with rfl|⟨b,off,len,x,rfl,B,eW⟩
 ·refine .inl ⟨rfl,?_⟩;have:=congrArg List.length ao;simp[fy]at this;exact si.1 this.symm
 ·have av:fy m 1 (.slice (some ⟨b,off,none⟩) len 1)=(x.cells.drop off).take len:=(by simp[fy,gW,B]);rw[av]at ao;have dc:len=l.length:=by
   have:=congrArg List.length ao;rw[te,Jl,ll]at this;omega
  subst dc;exact .inr ⟨b,off,x.cells,x.own,rfl,B,ao,by omega⟩
theorem lZ.inj{t:G}{v:Value}{l c7:List Int}(h:lZ t v l)(cw:lZ t v c7):l=c7:=by have:=h.2.symm.trans cw.2;exact List.map_inj_right (λa b e=>by simpa using e)|>.1 this
theorem lZ.enc{t:G}{l:List Int}:lZ t (bq l) l:=⟨by simp[kC],by
 have: ∀l:List Int,(l.map λd=>[D d]).flatten=l.map D:= λl=>by
  induction l with
  |nil=>rfl
  |cons x l cj=>simp[cj]
 simp[lp,this]⟩
theorem lZ.nil{t:G}:lZ t (.slice none 0 0) []:=⟨rfl,rfl⟩
theorem lZ.own{t:G}{o off n:Nat}{cs:List Value}{w:Bool}{l:List Int}(h:t.F o=some ⟨cs,w⟩)(aj:off+n<=cs.length)(aA:(cs.drop off).take n=l.map D):lZ t (.slice (some ⟨o,off,none⟩) n 1) l:=
 ⟨by simp[kC,iG,fF,h,aj],by simp[lp,iG,fy,gW,h,aA]⟩
theorem agA{t:G}{v:Value}{l:List Int}(h:lZ t v l)(aA:l.length<=1000000):fg N 71 [v] t λr X=>r=bN t.next l.length 1/\X=(t.bU 1).aK t.next (some ⟨l.map D,true⟩):=
 aJ3 (by simp[ew]) λJ u dD m H ag=>by obtain⟨bf,rfl,M⟩:=ag.mK;exact aup (h.at H M) aA
open Classical in
noncomputable def xg(v:Value)(t:G):Option (Value×G):=if h: ∃l,lZ t v l/\l.length<=1000000 then some (bN t.next h.choose.length 1,(t.bU 1).aK t.next (some ⟨h.choose.map D,true⟩))else none
theorem Pe{v:Value}{t:G}{l:List Int}(h:lZ t v l)(aA:l.length<=1000000):xg v t=some (bN t.next l.length 1,(t.bU 1).aK t.next (some ⟨l.map D,true⟩)):=by have B: ∃l,lZ t v l/\l.length<=1000000:=⟨l,h,aA⟩;have e:B.choose=l:=B.choose_spec.1.inj h;unfold xg;rw[dif_pos B,e]
noncomputable def Hx:jg N:= .cM 71 Value (λv=>[v]) (λv t=>xg v t) λv t r X h bu iF=>by
 simp only[xg]at h;split at h
 ·next B=>cases h;exact(agA B.choose_spec.1 B.choose_spec.2).bt λr X ⟨a,b⟩=>by rw[a,b];exact iF
 ·cases h
@[simp] theorem aQW:Hx.f=71:=rfl
@[simp] theorem aQX{v:Value}{t:G}:Hx.fn [v] t=xg v t:=jg.dK (x:=v) (t:=t) λy Z=>by simp at Z;rw[Z]
def Ls(l:List Value):Option (List Int):=match l with
 |[]=>some []
 | .int .i64 n::l=>(match Ls l with
   |some k=>some (n::k)
   |none=>none)
 |_=>none
theorem ajl: ∀{cs:List Value} {l:List Int},Ls cs=some l->cs=l.map D
 |[],l,h=>by cases h;rfl
 | .int .i64 n::cs,l,h=>by
   simp only[Ls]at h;cases O:Ls cs with
   |none=>rw[O]at h;cases h
   |some k=>rw[O]at h;cases h;rw[ajl O];rfl
def agy(k:Nat):n7:= λf args W=>bif Nat.beq f k then(match args with
 | [v]=>if kC (cX W) 1 v then(match Ls (lp (cX W) 1 v)with
   | some l=>if Nat.ble l.length 1000000 then(match qw (GP W 1) W.next (some ⟨l.map D,true⟩)with
     |some dh=>some (bN W.next l.length 1,dh)
     |none=>none)else none
   |none=>none)else none
 |_=>none)else none
theorem Pd:uA N (agy 71):= λf args W r cJ aQ h=>by
 unfold agy at h;cases hb:Nat.beq f 71 with
 |false=>rw[hb]at h;cases h
 | true=>
   rw[hb]at h;simp only[cond_true]at h;obtain rfl:=Nat.eq_of_beq_eq_true hb;split at h
   ·next v=>
    split at h
    ·next ax=>
     split at h
     ·next l aA=>
      split at h
      ·next aj=>
       split at h
       ·next dh dq=>cases h;obtain⟨cr,aG⟩:=C3 (arV aQ) dq;rw[aoA aQ]at aG;refine⟨cr,?_⟩;rw[aG];exact agA ⟨ax,ajl aA⟩ (by simpa using aj)
       ·cases h
      ·cases h
     ·cases h
    ·cases h
   ·cases h
theorem api{dP pI:Type}{f:dP->Option pI}: ∀{l:List dP} {c7:List pI},c7.length=l.length->(∀(i:Nat) (x:dP) (y:pI),l[i]?=some x->c7[i]?=some y->f x=some y)->fR f l=some c7
 |[],[],_,_=>rfl
 |[],_::_,h,_=>by simp at h
 |_::_,[],h,_=>by simp at h
 | x::l,y::c7,aA,h=>by rw[aET,h 0 x y rfl rfl];simp only;rw[api (by simpa using aA) λi a b ag hb=>h (i+1) a b (by simpa using ag) (by simpa using hb)]
def Uz(ps:List Nat)(L:List (List Int))(j:Nat):Value:=bN (ps.getD j 0) (L.getD j []).length 1
theorem ad0{ps:List Nat}{L:List (List Int)}{j p:Nat}{r:List Int}(ae:ps[j]?=some p)(ar:L[j]?=some r):Uz ps L j=bN p r.length 1:=by simp only[Uz,m7,ae,ar,Bw]
def zd(ps:List Nat)(L:List (List Int)):List Value:=fc L.length (Uz ps L)
structure pJ(t:G)(o:Nat)(ps:List Nat)(L:List (List Int)):Prop where
 len:ps.length=L.length
 fp:ps.Nodup
 dB:o∉ps
 jd:t.F o=some ⟨zd ps L,true⟩
 c5: ∀(i p:Nat) r,ps[i]?=some p->L[i]?=some r->t.F p=some ⟨r.map D,true⟩
theorem pJ.bt{t X:G}{o:Nat}{ps:List Nat}{L:List (List Int)}(h:pJ t o ps L)(A:X.F o=t.F o)(E: ∀p∈ps,X.F p=t.F p):pJ X o ps L:=
 ⟨h.len,h.fp,h.dB,by rw[A];exact h.jd,λi p r ae ar=>by rw[E p (fX ae)];exact h.c5 i p r ae ar⟩
end Go.Proofs.YtmmkkggfmigppaaGreat
namespace Go.DI
open Go Go.RowKit
section
variable {P:Program} {ay:mq P} {t:G} {z:aD} {c:aB} {Q:cO->aD->G->Prop}
theorem avD{J:e3}{u:fY}{m:G}{K:aD}(H:ep J u t m)(b4:hF u J z K){o d I:Nat}{bJ:List (List Value)}(aC:t.F o=some ⟨bJ.flatten,true⟩)(ar: ∀r∈bJ,r.length=I/\ ∀v∈r,hH v=true)(aW:z d= .slice (some ⟨o,0,none⟩) bJ.length I):
 ∃cE,g7 u cE/\(∀b cs,cE b=some cs->u b=some cs\/J o=some b)/\ep J cE (t.aK o none) m/\hF cE J (k3 z d (ai bJ I)) K:=by
 have lM:=aF aC;have bE: ∀r∈bJ,r.length=I:= λr h=>(ar r h).1;obtain⟨cE,oh⟩: ∃cE:fY,cE= λb=>match u b with
  |some cs=>some cs
  |none=>if J o=some b then(m.F b).map (·.cells)else none:=⟨_,rfl⟩
 have eW:g7 u cE:= λb cs hb=>by rw[oh];simp only[hb]
 have Ay: ∀b cs w,J o=some b->m.F b=some ⟨cs,w⟩->cE b=some cs:= λb cs w cp aH=>by
  rw[oh];simp only;cases mz:u b with
  |some ds=>obtain⟨⟨w',kJ⟩,_⟩:=H.b0 b ds mz;rw[aH]at kJ;cases kJ;rfl
  |none=>simp only;rw[if_pos cp,aH];rfl
 have bw:(t.aK o none).F o=none:=cb lM;have hP: ∀q,q≠o->(t.aK o none).F q=t.F q:= λq h=>aX h;have Ap: ∀b ds,cE b=some ds->u b=some ds\/(J o=some b/\ ∃w,m.F b=some ⟨ds,w⟩):= λb ds hb=>by
  rw[oh]at hb;simp only at hb;cases mz:u b with
  |some x=>rw[mz]at hb;simp only at hb;exact .inl hb
  | none=>
    rw[mz]at hb;simp only at hb;split at hb
    ·next h=>
     cases aH:m.F b with
     |none=>rw[aH]at hb;cases hb
     |some x=>rw[aH]at hb;cases hb;exact .inr ⟨h,x.own,rfl⟩
    ·cases hb
 refine⟨cE,eW,λb cs hb=> ?_,⟨λq x B=> ?_,λq es aU=> ?_,H.jA,H.inj,H.cU,λb ds hb=> ?_⟩,λi=> ?_⟩
 ·rcases Ap b cs hb with h|⟨h,_⟩
  ·exact .inl h
  ·exact .inr h
 ·by_cases E:q=o
  ·subst E;rw[bw]at B;cases B
  ·rw[hP q E]at B;rcases H.jc q x B with⟨b,ds,w,aE,a5,ch,dT⟩|aE
   ·exact .inl ⟨b,ds,w,aE,a5,ch,dT.bt eW (fN.refl _)⟩
   ·exact .inr aE
 ·obtain⟨aG,aN⟩:=ji aU;by_cases E:q=o
  ·subst E;rw[bw]at aG;cases aG
  ·rw[hP q E]at aG;obtain⟨b,de,bB,cC,dO⟩:=H.maps q es (kT aG aN);exact⟨b,de,bB,cC,dO.bt eW (fN.refl _)⟩
 ·rcases Ap b ds hb with h|⟨h,w,aQ⟩
  ·obtain⟨A,E⟩:=H.b0 b ds h;refine⟨A,λq x bg B=> ?_⟩;by_cases e:q=o
   ·subst e;rw[bw]at B;cases B
   ·rw[hP q e]at B;exact E q x bg B
  ·refine⟨⟨w,aQ⟩,λq x bg B=> ?_⟩;have e:=H.inj q o b bg h;subst e;rw[bw]at B;cases B
 ·have M:=b4 i;by_cases e:i=d
  ·subst e;rw[show k3 z i (ai bJ I) i=ai bJ I from by simp[k3]];rw[aW]at M;generalize K i=bZ at M⊢;rcases M.lv with⟨b,aG,_,rfl⟩|⟨_,_,ct,rfl⟩
   ·obtain⟨cs,w',bB,_,dO⟩:=H.mu aG aC;have dV:(bJ.flatten).length=bJ.length*I:=xl bE;refine .jH (off:=0) rfl (Ay b cs w' aG bB) (by rw[<-dO.1];simp only;omega) (λi r Y=>bE r (fX Y)) λi vb r bf y Y ba Z=> ?_;have sK:=V9 bE Y;have Au:=(cN.1 ba).1;rw[bE r (fX Y)]at Au;have bI:(bJ.flatten)[i*I+vb]?=some bf:=by
     rw[<-sK,ry,if_pos Au,zL]at ba;exact ba
    have cZ:=dO.2 (i*I+vb) bf y bI (by rw[<-Z];congr 1;omega);exact J1 eW cZ ((ar r (fX Y)).2 bf (fX ba))
   ·have:bJ=[]:=n2 ct;subst this;exact .jI rfl
  ·rw[show k3 z d (ai bJ I) i=z i from by simp[k3,e]];exact M.bt eW (fN.refl _)
theorem aJ1{o d I:Nat}{bJ:List (List Value)}(aC:t.F o=some ⟨bJ.flatten,true⟩)(ar: ∀r∈bJ,r.length=I/\ ∀v∈r,hH v=true)(aW:z d= .slice (some ⟨o,0,none⟩) bJ.length I)(h:ee P c (k3 z d (ai bJ I)) (t.aK o none) Q):ee P c z t Q:= λax J u K m H b4=>by
 obtain⟨kg,bB,cC,dO,gu⟩:=avD H b4 aC ar aW;refine(h ax J kg K m dO gu).bt λe aT bn bV=> ?_;obtain⟨cW,eo,c2,dR,A,E,ao,aS⟩:=bV;have fw: ∀q x,(t.aK o none).F q=some x->t.F q=some x:= λq x B=>by
  by_cases aN:q=o
  ·subst aN;rw[cb (aF aC)]at B;cases B
  ·rw[aX aN]at B;exact B
 have ch:e4 t.next m.next J u t m J kg (t.aK o none) m:=by
  refine⟨fN.refl _,bB,λ_ _ h=> .inl h,λb cs hb=> ?_,by simp,c8 _,λ_ _ _=>rfl,λb hb ⟨q,x,a9,bW,cA⟩=>⟨q,x,a9,fw q x bW,cA⟩,λb hb ⟨q,x,a9,bW⟩=>⟨q,x,a9,fw q x bW⟩⟩;rcases cC b cs hb with bI|bI
  ·exact .inl bI
  ·exact .inr (.inr ⟨o,_,bI,aC⟩)
 exact⟨cW,eo,c2,dR,A,E,ao,ch.trans (aS.wV ch.lk (c8 _))⟩
theorem aJ0(D:Nat->aD->G->Prop)(n:Nat)(step: ∀i z t,i<n->D i z t-> ∀bO:aD->G->Prop,(∀K X,D (i+1) K X->bO K X)->iK ay c z t (sS bO Q))
 (ML: ∀z t,D n z t->ee P (.loop c) z t Q): ∀(i:Nat) (z:aD) (t:G),i<=n->D i z t->ee P (.loop c) z t Q:=by
 have key: ∀(r i:Nat) (z:aD) (t:G),i+r=n->D i z t->ee P (.loop c) z t Q:=by
  intro r;induction r with
  | zero=>intro i z t Y ja;have e:i=n:=(by omega);subst e;exact ML z t ja
  | succ r cj=>intro i z t Y ja;exact eS (ay:=ay) λbO a1=>step i z t (by omega) ja bO λK X a=>a1 _ _ (cj (i+1) K X (by omega) a)
 exact λi z t Y ja=>key (n-i) i z t (by omega) ja
end
end Go.DI
