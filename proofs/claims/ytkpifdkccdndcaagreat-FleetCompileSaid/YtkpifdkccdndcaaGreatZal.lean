/-
  A part of the proof of the statement, in texts that tools of ours (wip/shrink.py, irpack.py, relax.py, minify.py, join.py, lay.py) have shortened.
-/
import Derived.Test.YtkpifdkccdndcaaGreatZak
set_option linter.all false
set_option maxRecDepth 8000
set_option maxHeartbeats 16000000
namespace Go.Proofs.YtkpifdkccdndcaaGreat
open Go Go.DI Go.Big
theorem azq{l:List Int}:l.map cT++[cT 0,cT 0]=((l++[0])++[0]).map cT:=by simp
theorem amm{m:B}{v w:Value}{cA c4:Int}(X:bC m v (bG cA))(aO:bC m w (bG c4))(mn:0<=cA)(nQ:0<c4)(Bt:cA<aZ 512)(ya:c4<aZ 512):
    bJ Tryz.prog 165 [v,w] m (acp m cA c4):=by
  rw[aqf (by simp)];have uY:=zA mn Bt;have qK:=zA (by omega) ya;have E9:=iB mn;have zd:=iB (show 0<=c4 by omega);have at9:bG c4≠[]:= λh=>by rw[h]at zd;simp[val]at zd;omega
  have aLs:1<=(bG c4).length:=by have:=List.length_pos_iff.2 at9;omega
  obtain⟨z,D,Z,aw⟩:=X.len;obtain⟨dQ,gx,hh,lA⟩:=aO.len;simp[XF,ah4,ah9,aib,aic,aid,aie,aif,ah5,ah6,ah7,ah8,aia];refine(aaK X aO (by omega) (by omega)).aD λpo dd VG=> ?_;obtain⟨eN,rfl⟩:=VG;rw[E9,zd];by_cases bp:cA<c4
  · have cB:h8 cA c4<0:=(by rw[zv bp];omega);simp[cB];refine(tV (X.aD eN) (by omega)).aD λr N aq=> ?_;rw[E9]at aq;simp;refine⟨eN.trans aq.1,_,_,rfl,?_,?_⟩
    · rw[Int.ediv_eq_zero_of_lt mn bp,rO (by omega)];exact bC.nil
    · rw[Int.emod_eq_of_lt mn bp];exact aq.2
  have cB: ¬h8 cA c4<0:=by unfold h8;rw[if_neg bp];split<;>omega
  have at8:bG cA≠[]:= λh=>by rw[h]at E9;simp[val]at E9;omega
  have aLr:1<=(bG cA).length:=by have:=List.length_pos_iff.2 at8;omega
  by_cases dc:(bG c4).length=1
  · obtain⟨d,aR⟩: ∃d,bG c4=[d]:=List.length_eq_one_iff.1 dc;have uz:=(oE c4).1 d (by simp[aR]);have lF:d=c4:=(by rw[aR]at zd;simpa[val]using zd);have Ak:((bG c4).length:Int)=1:=(by omega);have bo:IntKind.i64.wrap (((bG cA).length:Int)-1)=((bG cA).length:Int)-1:=ct (by omega) (by omega);simp[cB,z,D,dQ,gx,Ak,bo];obtain⟨bq,hF⟩: ∃bq,bq=(bG cA).length:=⟨_,rfl⟩;rw[<-hF];have k5:a0 dd ((dd.bs 4).au (dd.next+2) (some ⟨List.replicate bq (.int .u32 0),true⟩)):=((a0.refl dd).bs 4).au (by omega);have hY:=eN.next
    refine⟨by omega,amI (X.aD eN) (by rw[<-aR];exact aO.aD eN) ⟨by omega,uz.2⟩ (by omega) (aQ:=dd.next+2) (by omega) bq 0 (List.replicate bq 0) _ _ (by omega) k5 (by rw[bX (by simp)];simp) (dx.vm _) (by simp[hF]) (by omega) (by omega) (by rw[List.drop_of_length_le (by omega),List.drop_of_length_le (by simp)];simp[val]) (by simp) (by simp) (by simp[hF]) (by simp) (by simp) λag N o c dk dV ew f4 jo mB nN ij wg=> ?_⟩;rw[E9,lF]at nN;obtain⟨aM,a1⟩:=Df nN jo (by omega);have J:bC N (.slice (some ⟨dd.next+2,0,none⟩) (bG cA).length 1) o:=bC.se ew dV f4.symm;simp[ij];refine(tV J (by omega)).aD λe6 bz fP=> ?_;rw[<-aM]at fP;simp[wg];refine(Mh jo (by omega)).aD λfw b4 fh=> ?_;rw[<-a1]at fh;simp;exact⟨((eN.trans dk).trans fP.1).trans fh.1,_,_,rfl,fP.2.aD fh.1,fh.2⟩
  · obtain⟨gO,w8⟩: ∃gO,(bG c4).length=gO+2:=⟨(bG c4).length-2,by omega⟩;have Ak: ¬((bG c4).length:Int)=1:=(by omega);have N4:=oE c4
    -- lX shift
    have asH:=hX N4.1 (gO+1);have asI:1<=ay (bG c4) (gO+1):=(by have:=N4.dU (n:=gO+1) (x:=ay (bG c4) (gO+1)) (by omega) (by rw[lU (List.getElem?_eq_getElem (by omega)),List.getElem?_eq_getElem (by omega)]);omega);have l0:=aae N4.1 (n:=gO+1) (by rw[N4.2,w8]);rw[zd]at l0;have aud:=azO asI asH.2;obtain⟨s,J⟩: ∃s:Nat,(s:Int)=32*((bG c4).length:Int)-jj c4:=⟨(32*((bG c4).length:Int)-jj c4).toNat,by rw[l0,w8];omega⟩;have Oz:s<32:=(by rw[l0,w8]at J;omega);obtain⟨G,dB⟩: ∃G:Int,G=2^s:=⟨_,rfl⟩;obtain⟨To,as3⟩: ∃To:Int,To=2^(32-s):=⟨_,rfl⟩;have pK:G*To=4294967296:=(by rw[dB,as3,<-Int.pow_add,show s+(32-s)=32 by omega];decide);have aaC: ∀k:Nat,(1:Int)<=2^k:= λk=>by have iP:=Nat.two_pow_pos k;have ml:((2^k:Nat):Int)=(2:Int)^k:=(by simp);omega
    have nB:1<=G/\G<=2147483648:=(by refine⟨by rw[dB];exact aaC s,?_⟩;have gn:(2:Int)^(32-s)=2*2^(31-s):=(by rw[show 32-s=(31-s)+1 by omega,Int.pow_succ,Int.mul_comm]);have cC:G*(2:Int)^(31-s)=2147483648:=(by rw[dB,<-Int.pow_add,show s+(31-s)=31 by omega];decide);have aX:=aaC (31-s);have aw:G*1<=G*2^(31-s):=Int.mul_le_mul_of_nonneg_left aX (by rw[dB];have:=aaC s;omega);omega);have bo:IntKind.i64.wrap (32*((bG c4).length:Int))=32*((bG c4).length:Int):=ct (by omega) (by omega);have cS:IntKind.i64.wrap (32*((bG c4).length:Int)-jj c4)=(s:Int):=(by rw[<-J];exact ct (by omega) (by omega));simp[cB,dQ,gx,Ak,bo];refine(aBe (dw.bG (aO.aD eN) (by omega) ya) ya).aD λe6 bz fP=> ?_;obtain⟨b5,rfl⟩:=fP;have Hy:=eN.trans b5;have afe:=Hy.next
    simp[cS]
    -- x
    have Jk:0<=cA*G:=Int.mul_nonneg mn (by omega);have Jo:0<c4*G:=Int.mul_pos nQ (by omega);have asV:cA*G<aZ 513:=sV (i:=512) (j:=1) mn (by omega) Bt (by simp only[aZ];omega);have atb:c4*G<aZ 513:=sV (i:=512) (j:=1) (by omega) (by omega) ya (by simp only[aZ];omega);have akK:=q2 Jk asV;have ayK:=q2 (by omega) atb;have ab7:=iB Jk;have anT:=iB (show 0<=c4*G by omega);have aIR:c4*G<=cA*G:=Int.mul_le_mul_of_nonneg_right (by omega) (by omega);have akL:(bG (c4*G)).length<=(bG (cA*G)).length:=by
      by_cases h:(bG (c4*G)).length<=(bG (cA*G)).length
      · exact h
      · have:=kS.Hi (oE (cA*G)).1 (oE (c4*G)) (by omega);omega
    have ayL:(bG c4).length<=(bG (c4*G)).length:=by
      by_cases h:(bG c4).length<=(bG (c4*G)).length
      · exact h
      · have:=kS.Hi (oE (c4*G)).1 (oE c4) (by omega);have ml:c4*1<=c4*G:=Int.mul_le_mul_of_nonneg_left nB.1 (by omega);omega
    obtain⟨qg,FO⟩: ∃qg,(bG (cA*G)).length=qg:=⟨_,rfl⟩;obtain⟨n,ak⟩: ∃n,(bG (c4*G)).length=n:=⟨_,rfl⟩;rw[FO]at akK akL;rw[ak]at ayK akL ayL;have nS:= λk=>(a0.refl bz).bs k;have anN:=aCl (a:=bG cA) dB Oz nB ((X.aD Hy).aD (nS 10)) (by omega);rw[E9]at anN;refine anN.aD λSA b4 fh=> ?_;obtain⟨dC,auw⟩:=fh;have auy: ∃b,(bz.bs 10).next<=b/\SA= .slice (some ⟨b,0,none⟩) qg 1/\b4.M b=some ⟨(bG (cA*G)).map cT,true⟩:=by
      rw[<-FO];rcases auw with⟨_,h⟩|h
      · exfalso;rw[h]at ab7;simp[val]at ab7;omega
      · exact h
    obtain⟨fy,OC,rfl,pd⟩:=auy;have atV:=aT pd;have qy:=dC.next
    simp only[ad]at OC qy;have aII:((bG (cA*G)).map cT).length=qg:=(by simp[FO]);have fV:((qg:Int)+2)*4<=140737488355328:=(by omega);have lP:(qg+2)*4<=140737488355328:=(by omega);have m3:qg+2<=9223372036854775807:=(by omega);have hB:List.take qg ((bG (cA*G)).map cT)=(bG (cA*G)).map cT:=List.take_of_length_le (by omega);simp(disch:=omega) [pd,FO,lP,m3,hB];obtain⟨hl,yo⟩: ∃hl,hl=bz.next+4:=⟨_,rfl⟩
    obtain⟨Ib,Dv⟩: ∃Ib,Ib=((b4.au (bz.next+3) (some ⟨[.int .u32 0,.int .u32 0],true⟩)).au fy none).au (bz.next+4) (some ⟨(bG (cA*G)).map cT++[.int .u32 0,.int .u32 0],true⟩):=⟨_,rfl⟩;rw[<-Dv,<-yo];have alM:a0 bz Ib:=(by rw[Dv];exact((((nS 10).trans dC).au (by omega)).au (by omega)).au (by omega));have aeW:Ib.M hl=some ⟨((bG (cA*G)++[0])++[0]).map cT,true⟩:=(by rw[<-azq,Dv,yo];exact bX (by simp;omega));have atW:=aT aeW;have auM:ai w≠some hl:=(aO.aD Hy).mV (nP (by omega));refine(Bk (km:= λr eM=>bC eM r (bG (c4*G))) (qi.qJ Ib hl) (by have:=amV (a:=bG c4) dB Oz nB (((aO.aD Hy).aD alM).qJ auM) (by omega);rw[zd]at this;exact this)).aD λu5 h0 ku=> ?_;obtain⟨g3,hN,Ma,Sh,tE,LY⟩:=ku;have p0:=LY hl atW ZR;have DW:ai u5≠some hl:=tE.mV p0;have DV:bC h0 u5 (bG (c4*G)):=tE.jc Ma.sub;have atE:=g3.some aeW;simp;have alR:a0 m h0:=(Hy.trans alM).trans g3
    -- aky length
    refine(amV (a:=bG cA) dB Oz nB (X.aD alR) (by omega)).aD λmL g2 ib=> ?_;rw[E9]at ib;obtain⟨gK,uK⟩:=ib;obtain⟨aC,a2,bS,fA⟩:=uK.len;rw[FO]at aC;have Ga:=DV.aD gK;have F3:=gK.some atE;have aJf:=aT F3;obtain⟨re,sQ,Wc,OK⟩:=Ga.len;rw[ak]at re;obtain⟨fY,zV⟩: ∃fY,n=fY+1:=⟨n-1,by omega⟩;obtain⟨aV,lJ⟩: ∃aV,aV=qg+1-n:=⟨_,rfl⟩;have jy:IntKind.i64.wrap ((qg:Int)+1)=(qg:Int)+1:=ct (by omega) (by omega);have hr:IntKind.i64.wrap ((n:Int)-1)=(fY:Int):=(by rw[ct (by omega) (by omega)];omega);have iM:IntKind.i64.wrap ((qg:Int)+1-(n:Int))=(aV:Int):=(by rw[ct (by omega) (by omega)];omega);have o1:IntKind.i64.wrap ((aV:Int)-1)=(aV:Int)-1:=ct (by omega) (by omega);have uU:(fY:Int)<n:=(by omega);have Ah:(qg:Int)+1<=(qg:Int)+2:=(by omega);have bn:=Ga.j7 (i:=fY) (by omega);have bF:=Ga.fj (i:=fY) (by omega);have aHe:=hX Ga.1 fY;have qU:IntKind.u64.wrap (ay (bG (c4*G)) fY)=ay (bG (c4*G)) fY:=e0 (by omega) (by omega);have Ai:((qg:Int)+1).toNat=qg+1:=(by omega);simp[aC,a2,re,sQ,Wc,jy,hr,iM,o1,qU,uU,Ah,Ai,bn,bF];obtain⟨jT,aus⟩: ∃jT,jT=g2.next+5:=⟨_,rfl⟩
    have alS:=alR.trans gK;have aJk:=alS.next
    have k5:a0 g2 ((g2.bs 7).au jT (some ⟨List.replicate aV (.int .u32 0),true⟩)):=((a0.refl g2).bs 7).au (by omega);rw[<-aus];have aut:ai u5≠some jT:=Ga.mV (nP (by omega));have hZ:=Hy.next
    refine⟨by omega,⟨by omega,by omega⟩,aaP (ov:=m) (e9:=bG (c4*G)) (T:=[0]) (hl:=hl) (jT:=jT) (n:=n) (bq:=qg+1) (aV:=aV) (cf:=cA*G) (cr:=c4*G) (pw:=S s) ak (by omega) anT (oE _) (by omega) (by rw[show n-1=fY by omega]) (by omega) (by omega) (by omega) DW aut aV (bG (cA*G)++[0]) (List.replicate aV 0) _ _ (Nat.le_refl _) (alS.trans k5) (by rw[dv (by omega),gr (by omega)];exact F3) (by rw[bX (by simp;omega)];simp) (Ga.aD k5)
      (pA.first ab7 (oE _).1 (by omega) (by omega) (by have:=(oE (c4*G)).cZ (n:=fY) (by omega);rw[anT]at this;rw[show n-1=fY by omega];exact this)) (by simp) (by simp[FO]) (by simp) (by simp) (by simp) (by simp) (by simp) (by simp) λag nF aJ jl dk dV ew f4 jo mB Cl tT EL=> ?_⟩
    obtain⟨mA,oG,zz⟩:=f4.done Jo;obtain⟨aM,a1⟩:=azG (cA:=cA) (c4:=c4) (G:=G) (by omega);have aur:bC nF (.slice (some ⟨jT,0,none⟩) aV 1) jl:=bC.se f4.aao ew jo.symm;have auR:bC nF (.slice (some ⟨hl,0,none⟩) (qg+1) 1) aJ:=(by refine⟨f4.p4,.inr ⟨hl,0,_,true,by rw[mB],dV,?_,by simp⟩⟩;rw[List.drop_zero,List.map_append,List.take_left' (by simp)]);simp[EL];refine(tV aur (by omega)).aD λMd xx yl=> ?_;rw[<-mA,aM]at yl;simp[tT];refine(tV (auR.aD yl.1) (by omega)).aD λami aLu Oq=> ?_;rw[zz,<-oG]at Oq;have aeC:0<=cA*G%(c4*G):=Int.emod_nonneg _ (by omega);have aIO:cA*G%(c4*G)<c4*G:=Int.emod_lt_of_pos _ Jo;simp[Cl];refine(aBh dB Oz nB pK Oq.2 (by have:=q2 aeC (show cA*G%(c4*G)<aZ 513 by omega);omega)).aD λamh aLt Oo=> ?_;rw[iB aeC,a1]at Oo;simp;exact⟨((dk.trans yl.1).trans Oq.1).trans Oo.1,_,_,rfl,(yl.2.aD Oq.1).aD Oo.1,Oo.2⟩
theorem aBg{m:B}{v w:Value}{cA c4:Int}(X:dw m v cA)(aO:dw m w c4)(Bt:cA<aZ 512)(ya:c4<aZ 512)(nQ:0<c4):bJ Tryz.prog 146 [v,w] m (Tn m cA c4):=by
  rw[ap4 (by simp)];have mn:=X.p1;simp[Xg,ahp,ahq,ahr,ahs];refine(wh X Bt).aD λe6 bz fP=> ?_;obtain⟨b5,rfl⟩:=fP;simp;refine(wh (aO.aD b5) ya).aD λfw b4 fh=> ?_;obtain⟨dC,rfl⟩:=fh;have kg:=b5.trans dC;simp;refine(sm (aO.aD kg)).aD λiZ gI js=> ?_;obtain⟨fs,xc⟩:=js;obtain⟨z,D,Z,aw⟩:=xc.len;have zd:=iB (show 0<=c4 by omega);have dq:bG c4≠[]:= λh=>by rw[h]at zd;simp[val]at zd;omega
  have bp: ¬((bG c4).length:Int)=0:=by have:=List.length_pos_iff.2 dq;omega
  simp[z,D,dq];refine(sm (X.aD (kg.trans fs))).aD λnr h0 ku=> ?_;obtain⟨g3,tE⟩:=ku;simp;refine(sm (aO.aD ((kg.trans fs).trans g3))).aD λmL g2 ib=> ?_;obtain⟨gK,uK⟩:=ib;simp;refine(amm (tE.aD gK) uK mn nQ Bt ya).aD λxD ie nW=> ?_;obtain⟨ig,q,s,rfl,bt,J⟩:=nW;simp;exact⟨((((kg.trans fs).trans g3).trans gK).trans ig),q,s,rfl,bt,J⟩
theorem aBA{dd:B}{Q:dr->aL->B->Prop}: ∀(r:Nat) (cA c4:Int) (v w:Value) (m:B) (u:aL),c4<=r->0<=cA->0<=c4->cA<aZ 512->c4<aZ 512->a0 dd m->bC m v (bG cA)->bC m w (bG c4)->u 6=v->u 7=w->
    (∀ag N bW,a0 dd N->bC N bW (bG (kc cA c4))->ag 6=bW->Q (.bI 0) ag N)->ch Tryz.prog (.loop Pw) u m Q:=by
  intro r;induction r with
  | zero=>intro cA c4 v w m u aF mn nQ Ex An an X aO bl aH bf;refine eT λb9 a9=> ?_;obtain rfl:c4=0:=(by omega);obtain⟨z,D,Z,aw⟩:=aO.len;rw[rO (by omega)]at z;simp only[List.length_nil]at z;simp[Pw,aH,z,D];exact bf _ _ v an (by rw[aer mn];exact X) (by simp[bl])
  | succ r cb=>
    intro cA c4 v w m u aF mn nQ Ex An an X aO bl aH bf;by_cases bB:c4=0
    · exact cb cA c4 v w m u (by omega) mn nQ Ex An an X aO bl aH bf
    · refine eT λb9 a9=> ?_;obtain⟨z,D,Z,aw⟩:=aO.len;have dq:bG c4≠[]:= λh=>by have:=iB nQ;rw[h]at this;simp[val]at this;omega
      have aq:=List.length_pos_iff.2 dq;have xa:(0:Int)<((bG c4).length:Int):=(by omega);simp[Pw,bl,aH,z,D,aq];refine(amm X aO mn (by omega) Ex An).aD λfw b4 fh=> ?_;obtain⟨sI,q,s,rfl,bt,J⟩:=fh;simp[aH];have gi:=Int.emod_nonneg cA (show c4≠0 by omega);have aM:=Int.emod_lt_of_pos cA (show 0<c4 by omega);refine a9 _ _ (cb c4 (cA%c4) w s b4 _ (by omega) nQ gi An (by omega) (an.trans sI) (aO.aD sI) J (by simp) (by simp) λag N bW dk dV ew=> ?_);exact bf ag N bW dk (by rw[aeq mn (by omega)];exact dV) ew
theorem aBB{m:B}{v w:Value}{cA c4:Int}(X:dw m v cA)(aO:dw m w c4)(Bt:cA<aZ 512)(ya:c4<aZ 512):
    bJ Tryz.prog 145 [v,w] m (vp m (kc cA c4)):=by
  rw[ap3 (by simp)];have mn:=X.p1;have nQ:=aO.p1;simp[Xf,ahl,ahm,ahn,aho];refine(wh X Bt).aD λe6 bz fP=> ?_;obtain⟨b5,rfl⟩:=fP;simp;refine(wh (aO.aD b5) ya).aD λfw b4 fh=> ?_;obtain⟨dC,rfl⟩:=fh;have kg:=b5.trans dC;simp;refine(sm (X.aD kg)).aD λiZ gI js=> ?_;obtain⟨fs,xc⟩:=js;simp;refine(sm (aO.aD (kg.trans fs))).aD λnr h0 ku=> ?_;obtain⟨g3,tE⟩:=ku;simp;refine aBA (dd:=m) c4.toNat cA c4 iZ nr h0 _ (by omega) mn nQ Bt ya ((kg.trans fs).trans g3) (xc.aD g3) tE (by simp) (by simp) λag N bW dk dV ew=> ?_;simp[ew];exact⟨dk,bW,rfl,dV⟩
end Go.Proofs.YtkpifdkccdndcaaGreat
namespace Go.Big
theorem asv{d:Int}(h:0<=d):kc 0 d=d:=by simp[kc];omega
theorem ak0{bV:Bool}{d:Int}(h:0<d):ej ⟨bV,0,d⟩= .nil:=by simp only[ej,asv (Int.le_of_lt h),a6.nil];rw[Int.ediv_self (by omega)];simp
theorem AI:(1:Int)<aZ 128:=by have:=k8 127;show 1<4294967296*aZ 127;omega
theorem azb:mw (ej ⟨false,1,1⟩)=(0,.ha):=by
  have e:ej ⟨false,1,1⟩= .ha:=by decide
  have aI:a6.ha.vv=true:=a6.FB.2 ⟨AI,AI⟩;rw[e,mw,if_pos aI]
theorem adm:bG 1=[1]:=by rw[Uc (by omega),rO (by omega)];rfl
theorem vs{n:Int}{k:Nat}(bB:0<=n):(bG n).length<=k↔n<aZ k:=by have:=AA (oE n).1 k;rw[(oE n).2,iB bB]at this;exact this
end Go.Big
namespace Go.Proofs.YtkpifdkccdndcaaGreat
open Go Go.DI Go.Big
theorem ao4{m:B}{n:Int}(bB:0<=n)(z:n<=9223372036854775807):bJ Tryz.prog 90 [S n] m λr N=>a0 m N/\bC N r (bG n):=by
  rw[aqL (by simp)];have k: ¬n<0:=by omega
  have w:IntKind.u64.wrap n=n:=e0 (by omega) (by omega);simp[Zw,akg,akh,k,w];refine(R3 bB (by omega)).aD λr N aq=> ?_;simp;exact aq
theorem Hx:(1:Int)<aZ 512:=by have:=AI;have:=yU;omega
theorem alQ{m:B}:bJ Tryz.prog 26 [S 1,S 1] m (py m (0,.ha)):=by
  rw[aqt (by simp)];simp[Yr,aiL,aiM];obtain⟨a8,dN⟩: ∃a8,a8=(m.bs 2).au m.next (some ⟨eJ,true⟩):=⟨_,rfl⟩
  rw[<-dN];have ed:a0 m a8:=by rw[dN];exact((a0.refl m).bs 2).au (by omega)
  have aj:a8.M m.next=some ⟨eJ,true⟩:=by rw[dN,bX (by simp)]
  have ac:= λ{N:B} (cM:m.next<N.next)=>od (l:=[m.next]) (km:= λr p=>bC p r (bG 1)) (λ_ _ _ J h=>h.jc J) (kf cM) (ao4 (m:=B.du N [m.next]) (n:=1) (by omega) (by omega));refine(ac (aT aj)).aD λe6 bz fP=> ?_;obtain⟨b5,z⟩:=fP;have aC:=b5.some aj;simp;refine(ac (aT aC)).aD λfw b4 fh=> ?_;obtain⟨dC,D⟩:=fh;have a2:=dC.some aC;simp;refine(ZY (bV:=false) (kf (aT a2)) (dw.bG (z.jc (cx.kU dC)) (by omega) Hx) (dw.bG D (by omega) Hx) Hx (by omega) Hx).aD λiZ gI js=> ?_;rw[azb]at js;obtain⟨fs,q,rfl,bt⟩:=js;have bS:=fs.some a2;have JI:=aT bS;obtain⟨dK,fY,cB,eO,dh,eQ,rfl⟩:=bt.gm;simp(disch:=omega) [bS];exact rR (((ed.trans b5).trans dC).trans fs) (by omega) bt
section
variable {m:B} {l:List Nat} {v w:Value} {a b:Int} {x y:a6}
theorem amN(aG: ∀c∈l,c<m.next)(X:dw (B.du m l) v a):bJ Tryz.prog 106 [v] m λr N=>a0 m N/\bC (B.du N l) r (bG a):=
  od (λ_ _ _ J h=>h.jc J) aG (sm X)
theorem aBz(aG: ∀c∈l,c<m.next)(X:dw (B.du m l) v a)(aO:dw (B.du m l) w b)(z:a<aZ 512)(D:b<aZ 512):bJ Tryz.prog 145 [v,w] m λr N=>a0 m N/\sw (kc a b) r (B.du N l):=
  od sw.sub aG (aBB X aO z D)
theorem aaO(aG: ∀c∈l,c<m.next)(X:dw (B.du m l) v a)(aO:dw (B.du m l) w b)(z:a<aZ 512)(D:b<aZ 512)(h:0<b):bJ Tryz.prog 146 [v,w] m λr N=>a0 m N/\A2 a b r (B.du N l):=
  od A2.sub aG (aBg X aO z D h)
theorem aA7(aG: ∀c∈l,c<m.next)(X:dw (B.du m l) v a)(aO:dw (B.du m l) w b)(h:a+b<aZ 512):bJ Tryz.prog 135 [v,w] m λr N=>a0 m N/\sw (a+b) r (B.du N l):=
  od sw.sub aG (aA8 X aO h)
theorem amK(aG: ∀c∈l,c<m.next)(X:dw (B.du m l) v a)(aO:dw (B.du m l) w b)(h:a<aZ 512)(fG:b<=a):bJ Tryz.prog 137 [v,w] m λr N=>a0 m N/\sw (a-b) r (B.du N l):=
  od sw.sub aG (aB5 X aO h fG)
def A1(m:B)(x:a6)(r:Value)(N:B):Prop:=a0 m N/\je N r x
theorem adj{m b4:B}{cH:Nat}{x:a6}{cl cN di:Value}(an:a0 m b4)(mo:m.next<=cH)(aB:je (B.du b4 [cH]) (.agg #[cl,cN,di]) x):A1 m x (.agg #[cl,cN,di]) (b4.au cH (some ⟨[cl,cN,di],true⟩)):=by refine⟨an.au mo,aB.sub ?_⟩;rw[<-zy (m:=b4) (b:=cH) (l:=[cH]) (x:=some ⟨[cl,cN,di],true⟩) (by simp)];exact cx.du _ _
theorem aBI{bV:Bool}{n d:Int}(X:dw m v n)(aO:dw m w d)(ak:n<aZ 512)(aR:0<d)(uz:d<aZ 512):
    bJ Tryz.prog 107 [.bool bV,v,w] m (A1 m (ej ⟨bV,n,d⟩)):=by
  rw[apM (by simp)];have gO:=X.p1;obtain⟨cH,mo⟩: ∃cH,cH=m.next:=⟨_,rfl⟩
  simp[Wo,af0];obtain⟨a8,dN⟩: ∃a8,a8=(m.bs 1).au m.next (some ⟨eJ,true⟩):=⟨_,rfl⟩
  rw[<-dN,<-mo];have ed:a0 m a8:=by rw[dN];exact((a0.refl m).bs 1).au (by omega)
  have aj:a8.M cH=some ⟨eJ,true⟩:=by rw[dN,mo,bX (by simp)]
  have rz:= λ{N:B} (o:a0 m N)=>cx.xX (l:=[cH]) o (Ck (by omega));refine(amN (kf (aT aj)) (X.sub (rz ed))).aD λe6 bz fP=> ?_;obtain⟨b5,z⟩:=fP;have aC:=b5.some aj;simp;refine(amN (kf (aT aC)) (aO.sub (rz (ed.trans b5)))).aD λfw b4 fh=> ?_;obtain⟨dC,D⟩:=fh;have a2:=dC.some aC;have zT:=aT a2;have ke:=(ed.trans b5).trans dC;have dQ:=z.jc (cx.kU (l:=[cH]) dC);obtain⟨aM,a1,cI,fe⟩:=(dQ.jc (cx.du _ _)).len;have nV:=vs (n:=n) (k:=0) gO;by_cases cy:n=0
  · have O:(bG n).length=0:=(by subst cy;rw[rO (by omega)];rfl);rw[O]at aM;have H:ej ⟨bV,n,d⟩= .nil:=(by subst cy;exact ak0 aR);rw[H];have eZ:cH≠b4.next:=by omega
    simp(disch:=first|omega|(simp only[ae,ad,af];omega)) [Wp,Wq,Gn,J7,aM,a1,a2];have J:bC ((((b4.bs 3).au b4.next (some ⟨[cT 1],true⟩))).au cH (some ⟨[.bool false,.slice none 0 0,.slice (some ⟨b4.next,0,none⟩) 1 1],true⟩)) (.slice (some ⟨b4.next,0,none⟩) 1 1) [1]:=by refine bC.se (λx H=>by simp at H;omega) (w:=true) ?_ rfl;rw[dv (by omega),bX (by simp)];rfl
    refine⟨(((ke.bs 3).au (by have:=ke.next;omega)).au (by omega)),_,_,rfl,?_,?_⟩
    · rw[show a6.nil.n=0 from rfl,rO (by omega)];exact bC.nil
    · rw[show a6.nil.d=1 from rfl,adm];exact J
  · have O:1<=(bG n).length:=by
      have: ¬n<aZ 0:=(by simp[aZ];omega);omega
    have lx: ¬((bG n).length:Int)=0:=(by omega);have nM: ¬bG n=[]:= λh=>by rw[h]at O;simp at O
    obtain⟨gL,oJ⟩: ∃gL,gL=kc n d:=⟨_,rfl⟩;have aoy:0<gL:=(by rw[oJ];exact x5 aR);have aoz:gL<=d:=(by rw[oJ];exact aep aR);have bK:0<=n/gL:=Int.ediv_nonneg gO (by omega);have bm:n/gL<=n:=Int.ediv_le_self _ gO;have gi:0<d/gL:=(by rw[oJ];exact II (x5 aR) aR (NP (by omega)));have aHY:d/gL<=d:=Int.ediv_le_self _ (by omega);have JH:ej ⟨bV,n,d⟩=⟨bV,n/gL,d/gL⟩:=(by simp only[ej,<-oJ];have:decide (0<n)=true:=(by simp;omega);rw[this,Bool.and_true]);rw[JH];have Tp:=dw.bG dQ gO ak;have MR:=dw.bG D (by omega) uz;simp[Wp,Wq,aM,a1,nM];refine(aBz (kf zT) Tp MR ak uz).aD λiZ gI js=> ?_;obtain⟨fs,g,rfl,BD⟩:=js;rw[<-oJ]at BD;have bS:=fs.some a2;have JI:=aT bS;have rq:=ke.trans fs;obtain⟨dk,dV,ew,f4⟩:=(BD.jc (cx.du _ _)).len;have Ts:=dw.bG BD (by omega) (by omega);have aKY:=vs (n:=gL) (k:=1) (by omega);have aKX:=vs (n:=gL) (k:=0) (by omega);have dK:aZ 1=4294967296:=(by simp[aZ]);have kP:aZ 0=1:=by simp[aZ]
    -- lX end
    have tail: ∀(Cf:B) (x y:Value) (u:aL),a0 gI Cf->bC (B.du Cf [cH]) x (bG (n/gL))->bC (B.du Cf [cH]) y (bG (d/gL))->u 0= .bool bV->u 1=x->u 2=y->u 6=bZ cH->
        ch Tryz.prog J7 u Cf (ey [.h7 6 true 3] (A1 m ⟨bV,n/gL,d/gL⟩)):=by
      intro Cf x y u o H ah bl aH bD db;have aet:=o.some bS;have aJa:=aT aet;obtain⟨p,a,c,rfl⟩:=H.gm;obtain⟨eM,er,eU,rfl⟩:=ah.gm;simp(disch:=omega) [J7,bl,aH,bD,db,aet];exact adj (rq.trans o) (by omega) ⟨_,_,rfl,H,ah⟩
    by_cases RT:1<gL
    · have aro: ∀(u:aL),u 0= .bool bV->u 1=e6->u 2=fw->u 6=bZ cH->u 7=g->ch Tryz.prog Gn u gI (s8 Tryz.prog J7 (ey [.h7 6 true 3] (A1 m ⟨bV,n/gL,d/gL⟩))):=by
        intro u bl aH bD db cP;have ach:bJ Tryz.prog 146 [e6,g] gI λr N=>a0 gI N/\A2 n gL r (B.du N [cH]):=aaO (kf JI) (Tp.sub (cx.kU fs)) Ts ak (by omega) (by omega);by_cases akG:1<(bG gL).length
        · have akH:(1:Int)<(bG gL).length:=(by omega);simp[Gn,aH,cP,dk,dV,akH];refine ach.aD λnr h0 ku=> ?_;obtain⟨g3,q,t,rfl,bt,_⟩:=ku;simp[bD,cP];refine(aaO (kf (Nat.lt_of_lt_of_le JI g3.next)) ((MR.sub (cx.kU fs)).sub (cx.kU g3)) (Ts.sub (cx.kU g3)) uz (by omega) (by omega)).aD λmL g2 ib=> ?_;obtain⟨gK,lW,aN,rfl,F8,_⟩:=ib;simp[];exact tail g2 q lW _ (g3.trans gK) (bt.jc (cx.kU gK)) F8 (by simp[bl]) (by simp) (by simp) (by simp[db])
        · have akH: ¬(1:Int)<(bG gL).length:=(by omega);have fM:(bG gL).length=1:=(by omega);have bn:=(BD.jc (cx.du gI [cH])).j7 (i:=0) (by omega);have bF:=(BD.jc (cx.du gI [cH])).fj (i:=0) (by omega);have VW:ay (bG gL) 0=gL:=by
            obtain⟨O,bY⟩:=List.length_eq_one_iff.1 fM;have:=iB (show 0<=gL by omega);rw[bY]at this⊢;have ml:O=gL:=(by simpa[val]using this);exact ml
          rw[VW]at bF;rw[fM]at dk;simp only[Int.cast_ofNat_Int]at bn bF dk;simp[Gn,aH,cP,dk,dV,ew,bn,bF,RT];refine ach.aD λnr h0 ku=> ?_;obtain⟨g3,q,t,rfl,bt,_⟩:=ku;simp[bD,cP];refine(aaO (kf (Nat.lt_of_lt_of_le JI g3.next)) ((MR.sub (cx.kU fs)).sub (cx.kU g3)) (Ts.sub (cx.kU g3)) uz (by omega) (by omega)).aD λmL g2 ib=> ?_;obtain⟨gK,lW,aN,rfl,F8,_⟩:=ib;simp[];exact tail g2 q lW _ (g3.trans gK) (bt.jc (cx.kU gK)) F8 (by simp[bl]) (by simp) (by simp) (by simp[db])
      simp;exact aro _ (by simp) (by simp) (by simp) (by simp[mo]) (by simp)
    · obtain rfl:gL=1:=(by omega);rw[adm]at BD dk;have bn:=(BD.jc (cx.du gI [cH])).j7 (i:=0) (by simp);have bF:=(BD.jc (cx.du gI [cH])).fj (i:=0) (by simp);rw[show ay [1] 0=1 from rfl]at bF
      replace dk:ic g=1:=dk
      simp only[Int.cast_ofNat_Int]at bn bF;rw[Int.ediv_one,Int.ediv_one]at*;simp[Gn,dk,dV,ew,bn,bF];exact tail gI e6 fw _ (a0.refl gI) (dQ.jc (cx.kU fs)) (D.jc (cx.kU fs)) (by simp) (by simp) (by simp) (by simp[mo])
end
end Go.Proofs.YtkpifdkccdndcaaGreat
namespace Go.Proofs.YtkpifdkccdndcaaGreat
open Go Go.DI Go.Big
theorem A1.sub{x:a6}: ∀(r:Value) (a c:B),cx a c->je a r x->je c r x:= λ_ _ _ J h=>h.sub J
theorem aaY{m:B}{l:List Nat}{bV:Bool}{v w:Value}{n d:Int}(aG: ∀c∈l,c<m.next)(X:dw (B.du m l) v n)(aO:dw (B.du m l) w d)(ak:n<aZ 512)(aR:0<d)(uz:d<aZ 512):
    bJ Tryz.prog 107 [.bool bV,v,w] m λr N=>a0 m N/\je (B.du N l) r (ej ⟨bV,n,d⟩):=
  od A1.sub aG (aBI X aO ak aR uz)
section
variable {m:B} {l:List Nat} {v w:Value} {a b:Int} {x y:a6}
theorem aaX(X:dw m v a)(aO:dw m w b)(z:a<aZ 512)(D:b<aZ 512)(h:a*b<aZ 512):bJ Tryz.prog 133 [v,w] m λr N=>a0 m N/\bC N r (bG (a*b)):=by rw[apV (by simp)];simp[WW,agI,agJ];refine(aBP X aO z D h).aD λr N aq=> ?_;obtain⟨an,v,rfl,J⟩:=aq;simp;exact⟨an,J⟩
theorem aaW(aG: ∀c∈l,c<m.next)(X:dw (B.du m l) v a)(aO:dw (B.du m l) w b)(z:a<aZ 512)(D:b<aZ 512)(h:a*b<aZ 512):bJ Tryz.prog 133 [v,w] m λr N=>a0 m N/\bC (B.du N l) r (bG (a*b)):=
  od (λ_ _ _ J h=>h.jc J) aG (aaX X aO z D h)
theorem SC(h:iJ m v x):bJ Tryz.prog 54 [v] m λr N=>a0 m N/\r= .bool x.ok:=by
  rw[aqE (by simp)];obtain⟨p,n,c,eM,dM,eU,rfl,aE,L⟩:=h.gm;have gO:=h.gO;have jC:=h.jC;simp(disch:=first|omega|(simp only[ae,ad,af];omega)) [YV,ajn];obtain⟨a8,dN⟩: ∃a8,a8=(m.bs 2).au m.next (some ⟨[.bool x.bV,.slice p n c,.slice eM dM eU],true⟩):=⟨_,rfl⟩
  rw[<-dN];have ed:a0 m a8:=by rw[dN];exact((a0.refl m).bs 2).au (by omega)
  have aj:a8.M m.next=some ⟨[.bool x.bV,.slice p n c,.slice eM dM eU],true⟩:=by rw[dN,bX (by simp)]
  have fM:=vs (n:=x.d) (k:=128) jC;have dg:=vs (n:=x.n) (k:=128) gO;have cY:=vs (n:=x.d) (k:=0) jC;have kP:aZ 0=1:=by simp[aZ]
  refine(sm (L.aD ed)).aD λe6 bz fP=> ?_;obtain⟨b5,z⟩:=fP;obtain⟨aM,a1,_,_⟩:=z.len;have aC:=b5.some aj;by_cases bp:0<(bG x.d).length
  · have LG:(0:Int)<(bG x.d).length:=(by omega);have aKJ:0<(bG x.d).length/\True:=⟨bp,trivial⟩;simp[aM,a1,bp,aC];refine(sm (L.aD (ed.trans b5))).aD λfw b4 fh=> ?_;obtain⟨dC,D⟩:=fh;obtain⟨dk,dV,_,_⟩:=D.len;have a2:=dC.some aC;have ke:=(ed.trans b5).trans dC;by_cases dc:(bG x.d).length<=128
    · have Ak:((bG x.d).length:Int)<=128:=(by omega);simp[dk,dV,Ak,a2];refine(sm (aE.aD ke)).aD λiZ gI js=> ?_;obtain⟨fs,Z⟩:=js;obtain⟨bm,bU,_,_⟩:=Z.len;simp[bm,bU];refine⟨ke.trans fs,?_⟩;have bn:decide (0<x.d)=true:=(by simp;omega);have bF:decide (x.d<aZ 128)=true:=(by simp;omega);simp only[a6.ok,bn,bF,Bool.true_and];by_cases eK:x.n<aZ 128
      · have:((bG x.n).length:Int)<=128:=(by omega);simp[eK];omega
      · have: ¬((bG x.n).length:Int)<=128:=(by omega);simp[eK];omega
    · have Ak: ¬((bG x.d).length:Int)<=128:=(by omega);simp[dk,dV,Ak];refine⟨ke,?_⟩;simp[a6.ok];omega
  · have LG: ¬(0:Int)<(bG x.d).length:=(by omega);have O:(bG x.d).length=0:=(by omega);rw[O]at aM;simp[aM,a1];refine⟨ed.trans b5,?_⟩;simp[a6.ok];omega
theorem amG(h:iJ m v x):bJ Tryz.prog 55 [v] m (py m (rr x)):=by
  rw[aqF (by simp)];obtain⟨p,n,c,eM,dM,eU,rfl,aE,L⟩:=h.gm;have bB:=h.gO;simp(disch:=first|omega|(simp only[ae,ad,af];omega)) [YW,ajo,ajp];obtain⟨a8,dN⟩: ∃a8,a8=((m.bs 3).au m.next (some ⟨[.bool x.bV,.slice p n c,.slice eM dM eU],true⟩)).au (m.next+1) (some ⟨eJ,true⟩):=⟨_,rfl⟩;rw[<-dN];have ed:a0 m a8:=by rw[dN];exact(((a0.refl m).bs 3).au (by omega)).au (by omega)
  have cM:m.next+1<a8.next:=by rw[dN];simp
  have rZ:a8.M m.next=some ⟨[.bool x.bV,.slice p n c,.slice eM dM eU],true⟩:=by rw[dN,dv (by omega),bX (by simp)]
  have r0:a8.M (m.next+1)=some ⟨eJ,true⟩:=by rw[dN,bX (by simp)]
  refine(SC (h.aD ed)).aD λr bz aq=> ?_;obtain⟨b5,rfl⟩:=aq;have a4:=b5.some rZ;have aC:=b5.some r0;have pP:=aT aC;by_cases k:x.ok=true
  · simp[k,a4];have rz:=cx.xX (l:=[m.next+1]) (ed.trans b5) (Ck (by omega));obtain⟨jC,mA,oG⟩:=Bi k;refine(aaY (kf pP) (aE.sub rz) (L.sub rz) oG jC mA).aD λfw b4 fh=> ?_;obtain⟨dC,bt⟩:=fh;have I4:=dC.some aC;have zT:=aT I4;obtain⟨dK,fY,cB,eO,dh,eQ,rfl⟩:=bt.gm;simp(disch:=omega) [I4];rw[HG k bB];exact rR (p:=(0,ej x)) ((ed.trans b5).trans dC) (by omega) bt
  · simp(disch:=omega) [k,aC];rw[Ss k];exact rR (ed.trans b5) (by omega) je.zero
end
section
variable {m:B} {l:List Nat} {v w:Value} {a b:Int} {x y:a6}
theorem aa0(H:iJ m v x)(ah:iJ m w y)(l6:x.ok=true)(nj:y.ok=true):bJ Tryz.prog 97 [v,w] m λr N=>a0 m N/\r=S (ju x y):=by
  rw[aqS (by simp)];obtain⟨p,n,c,eM,dM,eU,rfl,aE,L⟩:=H.gm;obtain⟨aJ,k,e,k9,gN,eW,rfl,nR,jD⟩:=ah.gm;have cl:=H.gO;have o3:=ah.gO;obtain⟨Fx,zC,EG⟩:=a6.nq.1 l6;obtain⟨Fy,zD,EH⟩:=a6.nq.1 nj;have Ic:=yU;have Tv:=Sm;have Tw:=k8 256;have At:=sV cl (by omega) EG zD;have Au:=sV o3 (by omega) EH zC;simp only[Nat.reduceAdd]at At Au;have xP:0<=x.n*y.d:=Int.mul_nonneg cl (by omega);have xQ:0<=y.n*x.d:=Int.mul_nonneg o3 (by omega);simp(disch:=first|omega|(simp only[ae,ad,af];omega)) [ZB,akn];obtain⟨a8,dN⟩: ∃a8,a8=((m.bs 3).au m.next (some ⟨[.bool x.bV,.slice p n c,.slice eM dM eU],true⟩)).au (m.next+1) (some ⟨[.bool y.bV,.slice aJ k e,.slice k9 gN eW],true⟩):=⟨_,rfl⟩;rw[<-dN];have ed:a0 m a8:=by rw[dN];exact(((a0.refl m).bs 3).au (by omega)).au (by omega)
  have a4:a8.M m.next=some ⟨[.bool x.bV,.slice p n c,.slice eM dM eU],true⟩:=by rw[dN,dv (by omega),bX (by simp)]
  have aC:a8.M (m.next+1)=some ⟨[.bool y.bV,.slice aJ k e,.slice k9 gN eW],true⟩:=by rw[dN,bX (by simp)]
  refine(aaX (aE.aD ed) (jD.aD ed) (by omega) (by omega) (by omega)).aD λiZ gI js=> ?_;obtain⟨fs,Z⟩:=js;have Dn:=fs.some a4;have Dq:=fs.some aC;have nE:=aT a4;have nV:=aT aC;refine xT fs (λp aq b L=>by simp at aq;rcases aq with rfl|rfl<;>simp[ai]at L<;>omega) ?_;simp[];have rq:=ed.trans fs;refine(aaX (nR.aD rq) (L.aD rq) (by omega) (by omega) (by omega)).aD λnr h0 ku=> ?_;obtain⟨g3,aw⟩:=ku;have zI:=g3.some Dn;have zJ:=g3.some Dq;have nG:=rq.trans g3;have hh:=Z.aD g3;obtain⟨dk,dV,_,_⟩:=hh.len;obtain⟨IU,IV,_,_⟩:=aw.len;simp;have qY:=dw.bG hh xP (by omega);have qZ:=dw.bG aw xQ (by omega);have akK:=vs (n:=x.n*y.d) (k:=0) xP;have aKW:=vs (n:=y.n*x.d) (k:=0) xQ;have kP:aZ 0=1:=by simp[aZ]
  have aos:0<x.n*y.d↔x.n≠0:=by refine⟨λh bB=>by rw[bB]at h;simp at h,λh=>Int.mul_pos (by omega) Fy⟩
  have aot:0<y.n*x.d↔y.n≠0:=by refine⟨λh bB=>by rw[bB]at h;simp at h,λh=>Int.mul_pos (by omega) Fx⟩
  have aHO:decide ((0:Int)<(bG (x.n*y.d)).length)=decide (x.n≠0):=by rw[decide_eq_decide,<-aos];omega
  have aHP:decide ((0:Int)<(bG (y.n*x.d)).length)=decide (y.n≠0):=by rw[decide_eq_decide,<-aot];omega
  have al1:(0<(bG (x.n*y.d)).length)= ¬x.n=0:=by apply propext;rw[<-ne_eq,<-aos];omega
  have al2:(0<(bG (y.n*x.d)).length)= ¬y.n=0:=by apply propext;rw[<-ne_eq,<-aot];omega
  have nO: ∀(cf bu:Bool) (u:aL),u 5=iZ->u 6=nr->u 7= .bool cf->u 8= .bool bu->ch Tryz.prog G5 u h0 (ey [.bA 4] λr N=>a0 m N/\r=S (if cf then(if bu then h8 (y.n*x.d) (x.n*y.d)else-1)else if bu then 1 else h8 (x.n*y.d) (y.n*x.d))):=by
    intro cf bu u cv db cP b3;cases cf<;>cases bu
    · simp[G5,Lw,cv,db,cP,b3];refine(Me qY qZ).aD λmL g2 ib=> ?_;simp;exact⟨nG.trans ib.1,ib.2⟩
    · simp[G5,Lw,cP,b3];exact nG
    · simp[G5,Lw,cP,b3];exact nG
    · simp[G5,Lw,cv,db,cP,b3];refine(Me qZ qY).aD λmL g2 ib=> ?_;simp;exact⟨nG.trans ib.1,ib.2⟩
  have sU: ∀u:aL,u 5=iZ->u 6=nr->u 2=bZ m.next->u 3=bZ (m.next+1)->ch Tryz.prog G4 u h0 (ey [.bA 4] λr N=>a0 m N/\r=S (ju x y)):=by
    intro u cv db bD bd;unfold ju;cases hY:x.bV<;>cases uI:y.bV<;>rw[hY]at zI<;>rw[uI]at zJ
    · simp[G4,bD,bd,zI,zJ];simpa using nO false false _ (by simp[cv]) (by simp[db]) (by simp) (by simp)
    · simp[G4,bD,bd,db,zI,zJ,IU,IV,al2];simpa using nO false (!decide (y.n=0)) _ (by simp[cv]) (by simp[db]) (by simp) (by simp)
    · simp[G4,bD,bd,cv,zI,zJ,dk,dV,al1];simpa using nO (!decide (x.n=0)) false _ (by simp[cv]) (by simp[db]) (by simp) (by simp)
    · simp[G4,bD,bd,cv,db,zI,zJ,dk,dV,IU,IV,al1,al2];simpa using nO (!decide (x.n=0)) (!decide (y.n=0)) _ (by simp[cv]) (by simp[db]) (by simp) (by simp)
  exact sU _ (by simp) (by simp) (by simp) (by simp)
theorem aBv(h:je m v x)(gO:0<=x.n)(jC:0<=x.d):bJ Tryz.prog 136 [v] m (py m (mw x)):=by
  rw[apY (by simp)];obtain⟨p,n,c,eM,dM,eU,rfl⟩:=h.gm;obtain⟨er,cQ,X,aE,L⟩:=h;simp only[Value.agg.injEq,Array.mk.injEq,List.cons.injEq,and_true,true_and]at X;obtain⟨rfl,rfl⟩:=X;obtain⟨dk,dV,_,_⟩:=aE.len;obtain⟨aC,a2,_,_⟩:=L.len;have fM:=vs (n:=x.n) (k:=128) gO;have dg:=vs (n:=x.d) (k:=128) jC;simp(disch:=first|omega|(simp only[ae,ad,af];omega)) [WZ,agT,agU];obtain⟨a8,dN⟩: ∃a8,a8=((m.bs 3).au m.next (some ⟨[.bool x.bV,.slice p n c,.slice eM dM eU],true⟩)).au (m.next+1) (some ⟨eJ,true⟩):=⟨_,rfl⟩;rw[<-dN];have ed:a0 m a8:=by rw[dN];exact(((a0.refl m).bs 3).au (by omega)).au (by omega)
  have rZ:a8.M m.next=some ⟨[.bool x.bV,.slice p n c,.slice eM dM eU],true⟩:=by rw[dN,dv (by omega),bX (by simp)]
  have r0:a8.M (m.next+1)=some ⟨eJ,true⟩:=by rw[dN,bX (by simp)]
  have cM:=aT r0;have atP:bJ Tryz.prog 163 [.agg #[.bool x.bV,.slice p n c,.slice eM dM eU]] a8 λr N=>a0 a8 N/\r= .bool (!x.vv):=by
    rw[aqd (by simp)];have an:= λk O=>(((a0.refl a8).bs k).au (i:=a8.next) (x:=O) (by omega));simp only[ic]at dk aC;by_cases bp:(128:Int)<(n:Int)
    · simp(disch:=first|omega|(simp only[ae,ad,af];omega)) [PT,XD,bp];refine⟨an _ _,?_⟩;simp[a6.vv];omega
    · simp(disch:=first|omega|(simp only[ae,ad,af];omega)) [PT,XD,bp];refine⟨an _ _,?_⟩;have:decide (x.n<aZ 128)=true:=(by simp;omega);simp only[a6.vv,this,Bool.true_and];by_cases dc:x.d<aZ 128
      · simp[dc];omega
      · simp[dc];omega
  refine atP.aD λr bz aq=> ?_;obtain⟨b5,rfl⟩:=aq;have a4:=b5.some rZ;have nz:=b5.some r0;have pP:=aT nz;by_cases k:x.vv=true
  · have e:mw x=(0,x):=(by simp[mw,k]);rw[e];simp(disch:=omega) [k,a4,nz];exact rR (p:=(0,x)) (ed.trans b5) (by omega) ⟨_,_,rfl,aE.jc (cx.xX (ed.trans b5) (Ck (by omega))),L.jc (cx.xX (ed.trans b5) (Ck (by omega)))⟩
  · have e:mw x=(2,.zero):=(by simp[mw,k]);rw[e];simp(disch:=omega) [k,nz];exact rR (p:=(2,.zero)) (ed.trans b5) (by omega) je.zero
theorem aaV(aG: ∀c∈l,c<m.next)(h:je (B.du m l) v x)(gO:0<=x.n)(jC:0<=x.d):bJ Tryz.prog 136 [v] m λr N=>a0 m N/\ue (mw x) r (B.du N l):=
  od ue.sub aG (aBv h gO jC)
theorem aA9(H:iJ m v x)(ah:iJ m w y):bJ Tryz.prog 98 [v,w] m (py m (jg x y)):=by
  rw[aqT (by simp)];obtain⟨p,n,c,eM,dM,eU,rfl,aE,L⟩:=H.gm;obtain⟨aJ,k,e,k9,gN,eW,rfl,nR,jD⟩:=ah.gm;have cl:=H.gO;have o3:=ah.gO;simp(disch:=first|omega|(simp only[ae,ad,af];omega)) [ZC,ako];obtain⟨cH,mo⟩: ∃cH,cH=m.next+2:=⟨_,rfl⟩
  obtain⟨a8,dN⟩: ∃a8,a8=(((m.bs 4).au m.next (some ⟨[.bool x.bV,.slice p n c,.slice eM dM eU],true⟩)).au (m.next+1) (some ⟨[.bool y.bV,.slice aJ k e,.slice k9 gN eW],true⟩)).au (m.next+2) (some ⟨eJ,true⟩):=⟨_,rfl⟩;rw[<-dN,<-mo];have ed:a0 m a8:=by rw[dN];exact((((a0.refl m).bs 4).au (by omega)).au (by omega)).au (by omega)
  have rZ:a8.M m.next=some ⟨[.bool x.bV,.slice p n c,.slice eM dM eU],true⟩:=by rw[dN,dv (by omega),dv (by omega),bX (by simp)]
  have r0:a8.M (m.next+1)=some ⟨[.bool y.bV,.slice aJ k e,.slice k9 gN eW],true⟩:=by rw[dN,dv (by omega),bX (by simp)]
  have qx:a8.M cH=some ⟨eJ,true⟩:=by rw[dN,mo,bX (by simp)]
  refine(SC (H.aD ed)).aD λr bz aq=> ?_;obtain⟨b5,rfl⟩:=aq;have a4:=b5.some rZ;have aC:=b5.some r0;have a2:=b5.some qx;have pP:=aT a2;have jk:=ed.trans b5;by_cases l6:x.ok=true
  · simp[l6,aC];refine(SC (ah.aD jk)).aD λr b4 aq=> ?_;obtain⟨dC,rfl⟩:=aq
    replace a4:=dC.some a4
    replace aC:=dC.some aC
    replace a2:=dC.some a2
    have zT:=aT a2;have ke:=jk.trans dC;by_cases nj:y.ok=true
    · simp[nj];obtain⟨Fx,zC,EG⟩:=a6.nq.1 l6;obtain⟨Fy,zD,EH⟩:=a6.nq.1 nj;have Ic:=yU;have Tv:=Sm;have Tw:=k8 256;have At:=sV cl (by omega) EG zD;have Au:=sV o3 (by omega) EH zC;have LO:=sV (by omega) (by omega) zC zD;simp only[Nat.reduceAdd]at At Au LO;have xP:0<=x.n*y.d:=Int.mul_nonneg cl (by omega);have xQ:0<=y.n*x.d:=Int.mul_nonneg o3 (by omega);have CW:0<x.d*y.d:=Int.mul_pos Fx Fy;obtain⟨cf,jX⟩: ∃cf,cf=x.n*y.d:=⟨_,rfl⟩;obtain⟨bu,ev⟩: ∃bu,bu=y.n*x.d:=⟨_,rfl⟩;obtain⟨aW,mm⟩: ∃aW,aW=x.d*y.d:=⟨_,rfl⟩;have sU: ∀(u:aL),u 2=bZ m.next->u 3=bZ (m.next+1)->u 4=bZ cH->ch Tryz.prog ZD u b4 (ey [.h7 4 true 3,.bA 5] (py m (mw (ej (lI x y))))):=by
        intro u bD bd bL;simp[ZD,bD,bd,a4,aC];have pD:= λ{N:B} (o:a0 m N)=>cx.xX (l:=[cH]) o (Ck (by omega));refine(aaW (kf zT) (aE.sub (pD ke)) (jD.sub (pD ke)) (by omega) (by omega) (by omega)).aD λiZ gI js=> ?_;obtain⟨fs,Z⟩:=js;have nE:=aT a4;have nV:=aT aC;refine xT fs (λp aq b L=>by simp at aq;rcases aq with rfl|rfl|rfl|rfl<;>simp[ai]at L<;>omega) ?_;have rq:=ke.trans fs;have Dn:=fs.some a4;have Dq:=fs.some aC;have I5:=fs.some a2;simp[];refine(aaW (kf (aT I5)) (nR.sub (pD rq)) (L.sub (pD rq)) (by omega) (by omega) (by omega)).aD λnr h0 ku=> ?_;obtain⟨g3,aw⟩:=ku;have atM:=aT Dn;have atN:=aT Dq;refine xT g3 (λp aq b L=>by simp at aq;rcases aq with rfl|rfl<;>simp[ai]at L<;>omega) ?_;have nG:=rq.trans g3;have zI:=g3.some Dn;have zJ:=g3.some Dq;have I6:=g3.some I5;simp[];refine(aaW (kf (aT I6)) (L.sub (pD nG)) (jD.sub (pD nG)) (by omega) (by omega) (by omega)).aD λmL g2 ib=> ?_;obtain⟨gK,aX⟩:=ib;have L1:=nG.trans gK;have vx:=gK.some zI;have x3:=gK.some zJ;have zK:=gK.some I6;have w7:=aT zK;rw[<-jX]at Z At xP;rw[<-ev]at aw Au xQ;rw[<-mm]at aX LO CW;have qY:dw (B.du g2 [cH]) iZ cf:=dw.bG ((Z.jc (cx.kU g3)).jc (cx.kU gK)) xP (by omega);have qZ:dw (B.du g2 [cH]) nr bu:=dw.bG (aw.jc (cx.kU gK)) xQ (by omega);have Tr:dw (B.du g2 [cH]) mL aW:=dw.bG aX (by omega) (by omega);simp[]
        -- lX result
        have low: ∀(rl:Bool) (G:Int) (bb:Value) (ie:B),a0 g2 ie->bC (B.du ie [cH]) bb (bG G)->0<=G->G<aZ 512->
            (bJ Tryz.prog 107 [.bool rl,bb,mL] ie λr N=>a0 ie N/\je (B.du N [cH]) r (ej ⟨rl,G,aW⟩))/\0<=(ej ⟨rl,G,aW⟩).n/\0<=(ej ⟨rl,G,aW⟩).d:=by
          intro rl G bb ie ig J lG hD;exact⟨aaY (kf (Nat.lt_of_lt_of_le w7 ig.next)) (dw.bG J lG hD) (Tr.sub (cx.kU ig)) hD CW (by omega),(xw (x:=⟨rl,G,aW⟩) lG CW).1,Int.le_of_lt (yE (x:=⟨rl,G,aW⟩) CW).1⟩
        by_cases sT:x.bV=y.bV
        · have bT:lI x y=⟨x.bV,cf+bu,aW⟩:=(by simp[lI,sT,jX,ev,mm]);rw[bT];simp[RE,RF,RG,RH,RI,RJ,bD,bd,vx,x3,sT];refine(aA7 (kf w7) qY qZ (by omega)).aD λxD ie nW=> ?_;obtain⟨ig,bb,rfl,J⟩:=nW;have Dp:=ig.some vx;have wT:=ig.some zK;simp[bD,Dp,sT];obtain⟨iW,gO,jC⟩:=low y.bV (cf+bu) bb ie ig J (by omega) (by omega);refine iW.aD λSq nF zW=> ?_;obtain⟨p3,bt⟩:=zW;have q8:=p3.some wT;simp[];refine(aaV (kf (aT q8)) bt gO jC).aD λMd xx yl=> ?_;obtain⟨yN,EN,rfl,BJ⟩:=yl;obtain⟨dK,fY,cB,eO,dh,eQ,rfl⟩:=BJ.gm;have Bl:=yN.some q8;have ae3:=aT Bl;simp(disch:=omega) [bL,Bl];exact rR (((L1.trans ig).trans p3).trans yN) (by omega) BJ
        · have LJ:(x.bV==y.bV)=false:=(by simpa using sT);by_cases uV:bu<=cf
          · have bp:0<=h8 cf bu:=(by unfold h8;rw[if_neg (by omega)];split<;>omega);have bT:lI x y=⟨x.bV,cf-bu,aW⟩:=(by simp only[lI,sT,if_false,<-jX,<-ev,<-mm,uV,if_true]);rw[bT];simp[RE,RF,RG,RH,RI,RJ,bD,bd,vx,x3,LJ];refine(Me (qY.sub (cx.du _ _)) (qZ.sub (cx.du _ _))).aD λEP azy VH=> ?_;obtain⟨s3,rfl⟩:=VH;have I7:=s3.some zK;have aej:=s3.some vx;have aek:=s3.some x3;have qY:=qY.sub (cx.kU (l:=[cH]) s3);have qZ:=qZ.sub (cx.kU (l:=[cH]) s3);have BF:=aT I7;simp[bp];refine(amK (kf BF) qY qZ (by omega) uV).aD λxD ie nW=> ?_;obtain⟨ig,bb,rfl,J⟩:=nW;have Dp:=ig.some aej;have wT:=ig.some I7;simp[bD,Dp];obtain⟨iW,gO,jC⟩:=low x.bV (cf-bu) bb ie (s3.trans ig) J (by omega) (by omega);refine iW.aD λSq nF zW=> ?_;obtain⟨p3,bt⟩:=zW;have q8:=p3.some wT;simp[];refine(aaV (kf (aT q8)) bt gO jC).aD λMd xx yl=> ?_;obtain⟨yN,EN,rfl,BJ⟩:=yl;obtain⟨dK,fY,cB,eO,dh,eQ,rfl⟩:=BJ.gm;have Bl:=yN.some q8;have ae3:=aT Bl;simp(disch:=omega) [bL,Bl];exact rR ((((L1.trans s3).trans ig).trans p3).trans yN) (by omega) BJ
          · have bp: ¬0<=h8 cf bu:=(by rw[zv (by omega)];omega);have bT:lI x y=⟨y.bV,bu-cf,aW⟩:=(by simp only[lI,sT,if_false,<-jX,<-ev,<-mm,uV]);rw[bT];simp[RE,RF,RG,RH,RI,RJ,bD,bd,vx,x3,LJ];refine(Me (qY.sub (cx.du _ _)) (qZ.sub (cx.du _ _))).aD λEP azy VH=> ?_;obtain⟨s3,rfl⟩:=VH;have I7:=s3.some zK;have aej:=s3.some vx;have aek:=s3.some x3;have qY:=qY.sub (cx.kU (l:=[cH]) s3);have qZ:=qZ.sub (cx.kU (l:=[cH]) s3);have BF:=aT I7;simp[bp];refine(amK (kf BF) qZ qY (by omega) (by omega)).aD λxD ie nW=> ?_;obtain⟨ig,bb,rfl,J⟩:=nW;have UD:=ig.some aek;have wT:=ig.some I7;simp[bd,UD];obtain⟨iW,gO,jC⟩:=low y.bV (bu-cf) bb ie (s3.trans ig) J (by omega) (by omega);refine iW.aD λSq nF zW=> ?_;obtain⟨p3,bt⟩:=zW;have q8:=p3.some wT;simp[];refine(aaV (kf (aT q8)) bt gO jC).aD λMd xx yl=> ?_;obtain⟨yN,EN,rfl,BJ⟩:=yl;obtain⟨dK,fY,cB,eO,dh,eQ,rfl⟩:=BJ.gm;have Bl:=yN.some q8;have ae3:=aT Bl;simp(disch:=omega) [bL,Bl];exact rR ((((L1.trans s3).trans ig).trans p3).trans yN) (by omega) BJ
      have e:jg x y=mw (ej (lI x y)):=(by simp[jg,l6,nj]);rw[e];exact sU _ (by simp) (by simp) (by simp)
    · have e:jg x y=(1,.zero):=(by simp[jg,nj]);rw[e];simp(disch:=omega) [nj,a2];exact rR ke (by omega) je.zero
  · have e:jg x y=(1,.zero):=(by simp[jg,l6]);rw[e];simp(disch:=omega) [l6,a2];exact rR jk (by omega) je.zero
end
end Go.Proofs.YtkpifdkccdndcaaGreat
namespace Go.Big
def xj(n:Int):a6:=⟨decide (n<0),n.natAbs,1⟩
theorem asu(n:Int):kc n 1=1:=by simp[kc]
theorem aza(n:Int):ej ⟨decide (n<0),n.natAbs,1⟩=xj n:=by
  simp only[ej,asu,Int.ediv_one,xj];congr 1;by_cases h:n<0
  · simp[h];omega
  · simp[h]
theorem Ay:a6.nil.ok=true:=by have:=AI;have:=k8 128;exact a6.nq.2 ⟨by decide,AI,by show(0:Int)<aZ 128;omega⟩
theorem EJ:a6.ha.ok=true:=a6.nq.2 ⟨by decide,AI,AI⟩
end Go.Big
namespace Go.Proofs.YtkpifdkccdndcaaGreat
open Go Go.DI Go.Big
section
variable {m:B} {l:List Nat} {v w:Value} {a b:Int} {x y:a6}
theorem amJ{n:Int}(bB: -9223372036854775808<=n)(z:n<=9223372036854775807)(az:Value->B->Prop):bJ Tryz.prog 139 [S n] m az=az (br n.natAbs) m:=by
  refine(ob.rp ?_).wp;rw[ap1 (by simp)];by_cases k:n<0
  · have bo:IntKind.i64.wrap (n+1)=n+1:=ct (by omega) (by omega);have cS:IntKind.i64.wrap (-(n+1))= -(n+1):=ct (by omega) (by omega);have aQR:IntKind.i64.wrap (0-(n+1))= -(n+1):=(by rw[ct (by omega) (by omega)];omega);have fz:IntKind.u64.wrap (-(n+1))= -(n+1):=e0 (by omega) (by omega);have hT:IntKind.u64.wrap (-(n+1)+1)=n.natAbs:=(by rw[e0 (by omega) (by omega)];omega);simp[Pt,W2,W3,k,bo,cS,fz,hT]
  · have w:IntKind.u64.wrap n=n.natAbs:=(by rw[e0 (by omega) (by omega)];omega);simp[Pt,W2,W3,k,w]
theorem amx{n:Int}(aG: ∀c∈l,c<m.next)(bB:0<=n)(z:n<18446744073709551616):bJ Tryz.prog 138 [br n] m λr N=>a0 m N/\bC (B.du N l) r (bG n):=
  od (λ_ _ _ J h=>h.jc J) aG (Mh bB z)
theorem anI{n:Int}(h:n<18446744073709551616):n<aZ 512:=by
  have z:aZ 2=18446744073709551616:=by simp[aZ]
  have D:=amf (show 2<=512 by omega);omega
theorem aBw{n:Int}(bB: -9223372036854775808<=n)(z:n<=9223372036854775807):bJ Tryz.prog 99 [S n,S 1] m (py m (0,xj n)):=by
  rw[aqU (by simp)];have J:= λN az=>amJ (m:=N) (n:=n) bB z az;have nY:= λN az=>amJ (m:=N) (n:=1) (by omega) (by omega) az;simp only[Int.natAbs_one,Int.cast_ofNat_Int]at nY;simp[ZE,akp,akq,J];obtain⟨a8,dN⟩: ∃a8,a8=(m.bs 2).au m.next (some ⟨eJ,true⟩):=⟨_,rfl⟩
  rw[<-dN];have ed:a0 m a8:=by rw[dN];exact((a0.refl m).bs 2).au (by omega)
  have aj:a8.M m.next=some ⟨eJ,true⟩:=by rw[dN,bX (by simp)]
  refine(amx (l:=[m.next]) (kf (aT aj)) (by omega) (by omega)).aD λe6 bz fP=> ?_;obtain⟨b5,z⟩:=fP;have aC:=b5.some aj;simp[nY];refine(amx (l:=[m.next]) (n:=1) (kf (aT aC)) (by omega) (by omega)).aD λfw b4 fh=> ?_;obtain⟨dC,D⟩:=fh;have a2:=dC.some aC;simp;have nO: ∀rl:Bool,rl=decide (n<0)->bJ Tryz.prog 107 [.bool rl,e6,fw] b4 λr N=>a0 b4 N/\je (B.du N [m.next]) r (xj n):=by intro rl w9;subst w9;have:=aaY (bV:=decide (n<0)) (kf (aT a2)) (dw.bG (z.jc (cx.kU dC)) (by omega) (anI (by omega))) (dw.bG D (by omega) Hx) (anI (by omega)) (by omega) Hx;rw[aza]at this;exact this
  refine(nO _ (by by_cases k:n<0<;>simp[k])).aD λiZ gI js=> ?_;obtain⟨fs,bt⟩:=js;have bS:=fs.some a2;have JI:=aT bS;obtain⟨dK,fY,cB,eO,dh,eQ,rfl⟩:=bt.gm;simp(disch:=omega) [bS];exact rR (p:=(0,xj n)) (((ed.trans b5).trans dC).trans fs) (by omega) bt
theorem Su{n:Int}(bB: -9223372036854775808<=n)(z:n<=9223372036854775807):bJ Tryz.prog 33 [S n] m (A1 m (xj n)):=by
  rw[aqA (by simp)];simp[YD,aiX,aiY];obtain⟨a8,dN⟩: ∃a8,a8=((m.bs 1).au m.next (some ⟨eJ,true⟩)).bs 8:=⟨_,rfl⟩;rw[<-dN];have ed:a0 m a8:=by rw[dN];exact(((a0.refl m).bs 1).au (by omega)).bs 8
  have aj:a8.M m.next=some ⟨eJ,true⟩:=by rw[dN,B.gr,bX (by simp)]
  have zP:bJ Tryz.prog 99 [S n,S 1] a8 λr N=>a0 a8 N/\ue (0,xj n) r (B.du N [m.next]):=od ue.sub (kf (aT aj)) (aBw bB z);refine zP.aD λe6 bz fP=> ?_;obtain⟨b5,q,rfl,bt⟩:=fP;have aC:=b5.some aj;have pP:=aT aC;obtain⟨dK,fY,cB,eO,dh,eQ,rfl⟩:=bt.gm;have zV:=b5.next
  have bO:a8.next=m.next+9:=by rw[dN];simp
  have j2:m.next+1+5<bz.next:=by omega
  have eZ:m.next≠m.next+1+5:=by omega
  simp(disch:=first|omega|(simp only[ae,ad,af];omega)) [aC];have da:bz.M (m.next+1+5)=none:=b5.none (by omega) (by rw[dN,B.gr,nP (by simp)]);exact adj ((ed.trans b5).au (by omega)) (Nat.le_refl _) (bt.sub (cx.T9 da))
theorem afS:xj 0= .nil:=rfl
theorem avb:xj 1= .ha:=rfl
theorem je.Tb{m:B}{v:Value}{x:a6}(h:je m v x)(W:x.ok=true)(bB:0<=x.n):iJ m v x:=by obtain⟨z,D,Z⟩:=Bi W;exact h.MH bB Z (by omega) D
theorem Sw(H:iJ m v x)(l6:x.ok=true):bJ Tryz.prog 30 [v] m λr N=>a0 m N/\r=S (ju x .nil):=by
  rw[aqx (by simp)];obtain⟨p,n,c,eM,dM,eU,rfl,_,_⟩:=H.gm;simp(disch:=first|omega|(simp only[ae,ad,af];omega)) [Yy,aiT];obtain⟨a8,dN⟩: ∃a8,a8=(m.bs 2).au m.next (some ⟨[.bool x.bV,.slice p n c,.slice eM dM eU],true⟩):=⟨_,rfl⟩
  rw[<-dN];have ed:a0 m a8:=by rw[dN];exact((a0.refl m).bs 2).au (by omega)
  have aj:a8.M m.next=some ⟨[.bool x.bV,.slice p n c,.slice eM dM eU],true⟩:=by rw[dN,bX (by simp)]
  have cM:=aT aj;refine(Su (n:=0) (by omega) (by omega)).aD λe6 bz fP=> ?_;obtain⟨b5,bt⟩:=fP;rw[afS]at bt;refine xT b5 (λp aq b L=>by simp at aq;rcases aq with rfl;simp[ai]at L;omega) ?_;simp;refine(aa0 ((H.aD ed).aD b5) (bt.Tb Ay (by decide)) l6 Ay).aD λfw b4 fh=> ?_;obtain⟨dC,rfl⟩:=fh;simp;exact(ed.trans b5).trans dC
theorem amH(H:iJ m v x)(ah:iJ m w y)(l6:x.ok=true)(nj:y.ok=true):bJ Tryz.prog 32 [v,w] m λr N=>a0 m N/\r= .bool (decide (ju x y=0)):=by
  rw[aqz (by simp)];obtain⟨p,n,c,eM,dM,eU,rfl,_,_⟩:=H.gm;obtain⟨q,k,d,lW,gN,Dd,rfl,_,_⟩:=ah.gm;simp(disch:=first|omega|(simp only[ae,ad,af];omega)) [YC,aiW];obtain⟨a8,dN⟩: ∃a8,a8=((m.bs 3).au m.next (some ⟨[.bool x.bV,.slice p n c,.slice eM dM eU],true⟩)).au (m.next+1) (some ⟨[.bool y.bV,.slice q k d,.slice lW gN Dd],true⟩):=⟨_,rfl⟩;rw[<-dN];have ed:a0 m a8:=by rw[dN];exact(((a0.refl m).bs 3).au (by omega)).au (by omega)
  refine(aa0 (H.aD ed) (ah.aD ed) l6 nj).aD λfw b4 fh=> ?_;obtain⟨dC,rfl⟩:=fh;simp;exact ed.trans dC
theorem aBH(H:iJ m v x)(ah:iJ m w y)(l6:x.ok=true)(nj:y.ok=true):bJ Tryz.prog 110 [v,w] m λr N=>a0 m N/\r= .bool (decide (ju x y<0)):=by
  rw[apN (by simp)];obtain⟨p,n,c,eM,dM,eU,rfl,_,_⟩:=H.gm;obtain⟨q,k,d,lW,gN,Dd,rfl,_,_⟩:=ah.gm;simp(disch:=first|omega|(simp only[ae,ad,af];omega)) [Ww,af1];obtain⟨a8,dN⟩: ∃a8,a8=((m.bs 3).au m.next (some ⟨[.bool x.bV,.slice p n c,.slice eM dM eU],true⟩)).au (m.next+1) (some ⟨[.bool y.bV,.slice q k d,.slice lW gN Dd],true⟩):=⟨_,rfl⟩;rw[<-dN];have ed:a0 m a8:=by rw[dN];exact(((a0.refl m).bs 3).au (by omega)).au (by omega)
  refine(aa0 (H.aD ed) (ah.aD ed) l6 nj).aD λfw b4 fh=> ?_;obtain⟨dC,rfl⟩:=fh;simp;exact ed.trans dC
theorem aBu{m:B}{l:List Nat}{v w:Value}{x y:a6}(aG: ∀c∈l,c<m.next)(H:iJ (B.du m l) v x)(ah:iJ (B.du m l) w y):bJ Tryz.prog 98 [v,w] m λr N=>a0 m N/\ue (jg x y) r (B.du N l):=
  od ue.sub aG (aA9 H ah)
end
end Go.Proofs.YtkpifdkccdndcaaGreat
namespace Go.Proofs.YtkpifdkccdndcaaGreat
open Go Go.DI Go.Big
theorem aBx{m:B}{v:Value}{l:List a6}(X:iD.G m v l)(gH:l.length<1000000){cH ho:Nat}(aB:m.next<=cH)(pN:m.next<=ho)(dq:cH≠ho): ∀(dg:List a6) (i:Nat) (s:a6) (a8:B) (u:aL) (a b:Value),l.drop i=dg->i+dg.length=l.length->a0 m a8->
    a8.M cH=some ⟨eJ,true⟩->a8.M ho=some ⟨[.bool s.bV,a,b],true⟩->je (B.du a8 [cH,ho]) (.agg #[.bool s.bV,a,b]) s->0<=s.n->s.n<aZ 128->0<=s.d->s.d<aZ 128->
    u 2=bZ cH->u 4=bZ ho->u 0=v->u 5=S i->
    ch Tryz.prog (.loop Qq) u a8 (sz 0 (s8 Tryz.prog Qp (ey [.h7 2 true 3,.bA 3] (py m (kl s dg))))):=by
  intro dg;induction dg with
  | nil=>intro i s a8 u a b aR aa an aj uA J gO fY jC mA bD bL bl cv;refine eT λb9 a9=> ?_;have e:i=l.length:=(by simpa using aa);subst e;obtain⟨dK,bp,cB,eO,dc,eQ,aI⟩:=J.gm;simp only[Value.agg.injEq,Array.mk.injEq,List.cons.injEq,and_true]at aI;obtain⟨_,rfl,rfl⟩:=aI;have nV:=aT aj;have yh:=aT uA;obtain⟨z,D,_,_⟩:=(X.aD (cx.l9 an)).len;simp(disch:=first|omega|(simp only[ae,ad,af];omega)) [Qq,YA,YB,Qp,bD,bL,bl,cv,z,D,aj,uA];refine⟨an.au aB,_,rfl,J.sub ?_⟩;rw[<-zy (m:=a8) (b:=cH) (l:=[cH,ho]) (x:=some ⟨[.bool s.bV,.slice dK bp cB,.slice eO dc eQ],true⟩) (by simp)];exact cx.du _ _
  | cons x dg cb=>
    intro i s a8 u a b aR aa an aj uA J gO fY jC mA bD bL bl cv;refine eT λb9 a9=> ?_;have H:l[i]?=some x:=(by rw[<-List.head?_drop,aR];rfl);have ng:l.drop (i+1)=dg:=(by rw[<-List.tail_drop,aR];rfl);simp only[List.length_cons]at aa;have Ic:=yU;obtain⟨dK,bp,cB,eO,dc,eQ,aI⟩:=J.gm;simp only[Value.agg.injEq,Array.mk.injEq,List.cons.injEq,and_true]at aI;obtain⟨_,rfl,rfl⟩:=aI;have nV:=aT aj;have yh:=aT uA;have hY:=an.next
    have sO:=X.aD (cx.xX (l:=[cH,ho]) an (anE aB pN));obtain⟨z,D,Z,aw⟩:=X.len
    replace Z:kA 3 v=true:=Z
    have bK:(i:Int)<l.length:=(by omega);obtain⟨q,n,c,lW,dM,eU,bn,bF,ln⟩:=iD.fj sO (cx.du a8 [cH,ho]) H;have TD:= λk=>show gZ (a8.bs k) (mP v 3 (i:Int)) 3=true by obtain⟨_,_,_,_,_,_,a,_⟩:=iD.fj sO ((cx.du a8 [cH,ho]).trans (cx.bs a8 k)) H;exact a
    have TE:= λk=>show lq (a8.bs k) true 3 (mP v 3 (i:Int))= .agg #[.bool x.bV,.slice q n c,.slice lW dM eU] by obtain⟨b,o,cs,w,aM,a1,cI,fe⟩:=(X.aD (cx.l9 an)).pC H;have mi:=(cx.bs a8 k).M _ _ a1;rw[<-bF,show iD.O=3 from rfl]at*;rw[aM];simp[a1,mi]
    have bo:IntKind.i64.wrap ((i:Int)+1)=(i:Int)+1:=ct (by omega) (by omega);simp(disch:=omega) [Qq,YA,YB,Qp,bL,bl,cv,bK,z,D,Z,TD,TE,uA];obtain⟨bN,k5⟩: ∃bN,bN=a8.bs 12:=⟨_,rfl⟩;rw[<-k5];have eL:a0 a8 bN:=(by rw[k5];exact(a0.refl a8).bs 12);have as5:bN.next=a8.next+12:=by rw[k5];simp
    have qu:=eL.some aj;have I9:=eL.some uA;refine(aBu (anF (aT qu) (aT I9)) ((J.MH gO (by omega) jC (by omega)).sub (cx.kU eL)) (ln.sub (cx.kU eL))).aD λr g2 ib=> ?_;obtain⟨gK,hb,rfl,aF⟩:=ib;obtain⟨gk,eK,ht,mK,j2,ly,rfl⟩:=aF.gm;have kp:=gK.some qu;have I8:=gK.some I9;have w7:=aT kp;have Vu:=aT I8;have da:g2.M (a8.next+9)=none:=gK.none (by omega) (by rw[k5,B.gr,nP (by simp)]);have VA:=gK.next
    have atr:a8.next+9<g2.next:=by omega
    have cl:=ln.gO;by_cases k:(jg s x).1=0
    · obtain⟨gi,aM,a1,cI⟩:=M1 gO cl k;have bT:kl s (x::dg)=kl (jg s x).2 dg:=(by rw[kl,if_pos k]);rw[bT]at a9⊢;have azP:ho≠a8.next+9:=by omega
      have LV:cH≠a8.next+9:=by omega
      simp(disch:=omega) [bL,cv,k,I8,bo];obtain⟨mV,zO⟩: ∃mV:Option fO,mV=some ⟨[.bool (jg s x).2.bV,.slice gk eK ht,.slice mK j2 ly],true⟩:=⟨_,rfl⟩;rw[<-zO];refine a9 _ _ (cb (i+1) (jg s x).2 ((g2.au (a8.next+9) mV).au ho mV) _ (.slice gk eK ht) (.slice mK j2 ly) ng (by omega) ((((an.trans eL).trans gK).au (i:=a8.next+9) (by omega)).au pN) (by rw[dv dq,dv LV,kp]) (by rw[bX (by simpa using Vu),zO]) ?_ gi aM a1 cI (by simp[bD]) (by simp[bL]) (by simp[bl]) (by simp));rw[zy (by simp)];exact aF.sub (cx.T9 da)
    · have bT:kl s (x::dg)=((jg s x).1,.zero):=(by rw[kl,if_neg k]);rw[bT];have LV:cH≠a8.next+9:=by omega
      simp(disch:=first|omega|(simp only[ae,ad,af];omega)) [bD,k,kp];exact⟨((((an.trans eL).trans gK).au (i:=a8.next+9) (by omega)).au aB),_,rfl,je.zero⟩
theorem aBy{m:B}{v:Value}{l:List a6}(X:iD.G m v l)(gH:l.length<1000000):bJ Tryz.prog 31 [v] m (py m (kl .nil l)):=by
  rw[aqy (by simp)];simp(disch:=omega) [Yz,aiU,aiV];obtain⟨a8,dN⟩: ∃a8,a8=((m.bs 2).au m.next (some ⟨eJ,true⟩)).bs 3:=⟨_,rfl⟩;rw[<-dN];have ed:a0 m a8:=by rw[dN];exact(((a0.refl m).bs 2).au (by omega)).bs 3
  have aj:a8.M m.next=some ⟨eJ,true⟩:=by rw[dN,B.gr,bX (by simp)]
  have ak:a8.next=m.next+5:=by rw[dN];simp
  have Vc:a8.M (m.next+2+1)=none:=by rw[dN,B.gr,nP (by simp)]
  have vJ:bJ Tryz.prog 33 [S 0] a8 λr N=>a0 a8 N/\je (B.du N [m.next]) r .nil:=od A1.sub (kf (aT aj)) (by have:=Su (m:=B.du a8 [m.next]) (n:=0) (by omega) (by omega);rw[afS]at this;exact this);refine vJ.aD λr bz aq=> ?_;obtain⟨b5,z⟩:=aq;have aC:=b5.some aj;have pP:=aT aC;have zV:=b5.next
  have da:bz.M (m.next+2+1)=none:=b5.none (by omega) Vc;have N9:m.next+2+1<bz.next:=by omega
  obtain⟨fM,dg,pW,Hh⟩:=X.len;obtain⟨p,n,c,eM,dM,eU,rfl⟩:=z.gm;simp(disch:=first|omega|(simp only[ae,ad,af];omega)) [];refine aBx X gH (cH:=m.next) (ho:=m.next+2+1) (by omega) (by omega) (by omega) l 0 a6.nil (bz.au (m.next+2+1) (some ⟨[.bool a6.nil.bV,.slice p n c,.slice eM dM eU],true⟩)) _ (.slice p n c) (.slice eM dM eU) rfl (by simp) ((ed.trans b5).au (i:=m.next+2+1) (by omega)) (by rw[dv (by omega),aC]) (by rw[bX N9]) ?_ (by decide) (k8 _) (by decide) AI (by simp) (by simp) (by simp) (by simp);rw[zy (by simp)];refine z.sub ⟨Nat.le_refl _,λb y L=> ?_⟩;have nS:b∉[m.next]:= λnT=>by rw[Fu nT]at L;cases L
  rw[zx nS]at L;rw[zx,L];intro nT;simp at nT nS;rcases nT with h|h
  · exact nS h
  · rw[h,da]at L;cases L
end Go.Proofs.YtkpifdkccdndcaaGreat
