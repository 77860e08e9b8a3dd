/-
  A part of the proof of the statement, in texts that tools of ours (wip/shrink.py, irpack.py, relax.py, minify.py, join.py, lay.py) have shortened.
-/
import Derived.Test.YtkpifdkccdndcaaGreatZai
set_option linter.all false
set_option maxRecDepth 8000
set_option maxHeartbeats 16000000
namespace Go.Proofs.YtkpifdkccdndcaaGreat
open Go Go.DI Go.Big
theorem ta{u cO:aL}{k n:Nat}{v:Value}(W:k<=n)(h: ∀t,t<k->u t=cO t): ∀t,t<k->qc u n v t=cO t:= λt bH=>by rw[aDy,if_neg (by omega)];exact h t bH
theorem aCK{m:B}{w:Value}{b:List Int}{n:Nat}(aO:bC m w b)(aG:b.length=n+1)(L:Big b)(H:1<=ay b n){cO:aL}{Q:dr->aL->B->Prop}: ∀(r s:Nat) (G:Int) (u:aL),
    s+r=31->G=(2:Int)^s->1<=G->G*2^r=2147483648->ay b n*G<4294967296->u 1=w->u 8=br s->(∀t,t<8->u t=cO t)->
    (∀ag (s:Nat) (G aV:Int),s<32->G=(2:Int)^s->1<=G/\G<=2147483648->G*aV=4294967296->2147483648<=ay b n*G->ay b n*G<4294967296->ag 8=br s->(∀t,t<8->ag t=cO t)->Q (.bI 0) ag m)->ch Tryz.prog (.loop KK) u m Q:=by
  intro r;induction r with
  | zero=>
    intro s G u J dB z D Z aH b3 cm bf;refine eT λb9 a9=> ?_;obtain⟨aC,a2,bS,fA⟩:=aO.len;have bo:IntKind.i64.wrap ((n:Int)+1-1)=(n:Int):=(by rw[ct (by omega) (by omega)];omega);have Tc:IntKind.i64.wrap (n:Int)=(n:Int):=ct (by omega) (by omega);have bn:=aO.j7 (i:=n) (by omega);have bF:=aO.fj (i:=n) (by omega);rw[aG]at aC;have aIP:G=2147483648:=(by omega);have ir:min s 32=s:=(by omega);have fz:IntKind.u32.wrap (ay b n*G)=ay b n*G:=(by rw[iu];have:0<=ay b n*G:=Int.mul_nonneg (by omega) (by omega);omega);have bp: ¬ay b n*G<2147483648:=by have:=Int.mul_le_mul_of_nonneg_right H (show 0<=G by omega);omega
    have bm:(n:Int)<(n:Int)+1:=(by omega);have e:(2:Int)^s=G:=dB.symm;simp[KK,aH,b3,aC,a2,bS,Tc,bn,bF,e,ir,fz,bp,bm];exact bf _ s G 2 (by omega) dB ⟨z,by omega⟩ (by omega) (by omega) Z (by simp[b3]) (by(repeat refine ta (by decide) ?_);exact cm)
  | succ r cb=>
    intro s G u J dB z D Z aH b3 cm bf;refine eT λb9 a9=> ?_;obtain⟨aC,a2,bS,fA⟩:=aO.len;have bo:IntKind.i64.wrap ((n:Int)+1-1)=(n:Int):=(by rw[ct (by omega) (by omega)];omega);have Tc:IntKind.i64.wrap (n:Int)=(n:Int):=ct (by omega) (by omega);have bn:=aO.j7 (i:=n) (by omega);have bF:=aO.fj (i:=n) (by omega);rw[aG]at aC;have ir:min s 32=s:=(by omega);have bB:0<=ay b n*G:=Int.mul_nonneg (by omega) (by omega);have fz:IntKind.u32.wrap (ay b n*G)=ay b n*G:=(by rw[iu];omega);have bm:(n:Int)<(n:Int)+1:=(by omega);have e:(2:Int)^s=G:=dB.symm;have a1:G*(2*2^r)=2147483648:=(by rw[<-D,Int.pow_succ,Int.mul_comm 2]);have iP:=Nat.two_pow_pos r;have ml:((2^r:Nat):Int)=(2:Int)^r:=(by simp);have eO:(1:Int)<=2^r:=(by omega);have hT:IntKind.u64.wrap ((s:Int)+1)=(s:Int)+1:=e0 (by omega) (by omega);by_cases bp:ay b n*G<2147483648
    · simp[KK,aH,b3,aC,a2,bS,Tc,bn,bF,e,ir,fz,bp,bm,hT];refine a9 _ _ (cb (s+1) (G*2) _ (by omega) (by rw[dB,Int.pow_succ]) (by omega) (by rw[Int.mul_assoc];exact a1) (by rw[<-Int.mul_assoc];omega) (by simp[aH]) (by simp) (by(repeat refine ta (by decide) ?_);exact cm) bf)
    · simp[KK,aH,b3,aC,a2,bS,Tc,bn,bF,e,ir,fz,bp,bm];have fG:G<=2147483648:=by
        have:G*1<=G*(2*2^r):=Int.mul_le_mul_of_nonneg_left (by omega) (by omega);omega
      exact bf _ s G (2*(2*2^r)) (by omega) dB ⟨z,fG⟩ (by rw[Int.mul_left_comm,a1];rfl) (by omega) Z (by simp[b3]) (by(repeat refine ta (by decide) ?_);exact cm)
theorem asK{m:B}{fy n j cy bq:Nat}{K:List Int}{dU next P e9 iM hr jy nu cr xO:Int}(aj:m.M fy=some ⟨K.map cT,true⟩)(uE:K.length=bq)(hF:bq<80000000000000)(W:cy+2=j+n)(bY:K[cy]?=some jy)
    (x8:0<P) (r4:0<=e9) (OF:e9<P) (kr:cr=(dU*4294967296+next)*P+e9) (x9:xO=((iM*4294967296+hr)*4294967296+jy)*P+nu) (mF:0<=nu) (VU:nu<P)
    (bH:2147483648<=dU/\dU<4294967296) (ak:0<=next/\next<4294967296) (vO:0<=jy/\jy<4294967296) (auG:0<=hr/\hr<4294967296) (xd:0<=iM) (ata:xO<cr*4294967296) {cO:aL} {Q:dr->aL->B->Prop}: ∀(r:Nat) (g b0:Int) (u:aL),
    g<=r->r<100000000000->0<=g->b0=iM*4294967296+hr-g*dU->0<=b0->b0<4294967296->xO<(g+1)*cr->
    u 9= .slice (some ⟨fy,0,none⟩) bq 1->u 11=S n->u 13=br dU->u 14=br next->u 15=S j->u 17=br g->u 18=br b0->(∀t,t<17->u t=cO t)->
    (∀ag g,0<=g->g<4294967296->(g-1)*cr<=xO->xO<(g+1)*cr->ag 17=br g->(∀t,t<17->ag t=cO t)->Q (.bI 4) ag m)->ch Tryz.prog (.loop z7) u m Q:=by
  have aJo:=aDl x8 OF kr x9 mF ak.2 vO.1 auG.1 ata;have FQ:0<cr:=by have:0<=(dU*4294967296+next-1)*P:=Int.mul_nonneg (by omega) (by omega);have:(dU*4294967296+next)*P=(dU*4294967296+next-1)*P+P:=(by grind);omega
  have aIQ:0<=xO:=by have:0<=((iM*4294967296+hr)*4294967296+jy)*P:=Int.mul_nonneg (by omega) (by omega);omega
  -- after a step Ud
  have Ud: ∀g:Int,1<=g->0<=iM*4294967296+hr-(g-1)*dU->4294967296<=iM*4294967296+hr-(g-1)*dU->g-1<4294967296/\(g-1-1)*cr<=xO:=by
    intro g aC _ aF;have cB:g-1<4294967296:=by
      by_cases h:g-1<4294967296
      · exact h
      · have:4294967296*dU<=(g-1)*dU:=Int.mul_le_mul_of_nonneg_right (by omega) (by omega);omega
    refine⟨cB,aeA x8 r4 OF kr x9 mF (by omega) cB (by omega) ak.1 ?_⟩;have:(g-1)*next<=4294967295*4294967295:=Int.mul_le_mul (by omega) (by omega) ak.1 (by omega)
    omega
  intro r;induction r with
  | zero=>intro g b0 u aF _ a4 F9 po e6 cM cg fx gw hz iR j4 p8 cm bf;refine eT λb9 a9=> ?_;have e:g=0:=(by omega);subst e;obtain⟨pf,pT⟩:=List.getElem?_eq_some_iff.1 bY;have cS:IntKind.i64.wrap ((j:Int)+(n:Int))=(cy:Int)+2:=(by rw[ct (by omega) (by omega)];omega);have fz:IntKind.i64.wrap (cy:Int)=(cy:Int):=ct (by omega) (by omega);have hT:IntKind.u64.wrap jy=jy:=e0 (by omega) (by omega);have hK:IntKind.u64.wrap (b0*4294967296)=b0*4294967296:=e0 (by omega) (by omega);obtain⟨t,VS⟩: ∃t,t=b0*4294967296+jy:=⟨_,rfl⟩;have iI:IntKind.u64.wrap ↑((b0*4294967296%2^IntKind.u64.bits).toNat|||(jy%2^IntKind.u64.bits).toNat)=t:=(by rw[AF (s:=32) (by decide) po vO.1 vO.2 (by omega)];omega);have mR:IntKind.u64.wrap (0:Int)=0:=rfl;have bm:(cy:Int)<bq:=(by omega);have bU:cy+1<=bq:=(by omega);have cn:cy<bq:=(by omega);have bp: ¬(4294967296:Int)<=0:=(by omega);have dc: ¬t<0:=(by omega);simp(disch:=first|omega|(simp only[ae,ad,af];omega)) [z7,Ee,Ef,cg,fx,hz,iR,j4,p8,aj,uE,pT,cS,fz,hT,hK,iI,mR,bm,bU,bp,dc,ks];exact bf _ 0 (by omega) (by omega) (by rw[show((0:Int)-1)*cr= -cr by omega];omega) cM (by simp[j4]) (by(repeat refine ta (by decide) ?_);exact cm)
  | succ r cb=>
    intro g b0 u aF vM a4 F9 po e6 cM cg fx gw hz iR j4 p8 cm bf;refine eT λb9 a9=> ?_;obtain⟨pf,pT⟩:=List.getElem?_eq_some_iff.1 bY;have cS:IntKind.i64.wrap ((j:Int)+(n:Int))=(cy:Int)+2:=(by rw[ct (by omega) (by omega)];omega);have fz:IntKind.i64.wrap (cy:Int)=(cy:Int):=ct (by omega) (by omega);have hT:IntKind.u64.wrap jy=jy:=e0 (by omega) (by omega);have hK:IntKind.u64.wrap (b0*4294967296)=b0*4294967296:=e0 (by omega) (by omega);obtain⟨t,VS⟩: ∃t,t=b0*4294967296+jy:=⟨_,rfl⟩;have iI:IntKind.u64.wrap ↑((b0*4294967296%2^IntKind.u64.bits).toNat|||(jy%2^IntKind.u64.bits).toNat)=t:=(by rw[AF (s:=32) (by decide) po vO.1 vO.2 (by omega)];omega);have bm:(cy:Int)<bq:=(by omega);have bU:cy+1<=bq:=(by omega);have cn:cy<bq:=by omega
    -- lX step Ud,aQW aky aNb
    have Sc:1<=g->xO<g*cr-> ∀ag:aL,ag 9= .slice (some ⟨fy,0,none⟩) bq 1->ag 11=S n->ag 13=br dU->ag 14=br next->ag 15=S j->ag 17=br (g-1)->ag 18=br (b0+dU)->(∀t,t<17->ag t=cO t)->
        (4294967296<=b0+dU->Q (.bI 4) ag m)/\(¬4294967296<=b0+dU->ch Tryz.prog (.loop z7) ag m Q):=by
      intro aC qx ag HD tT L8 EL wc we aAx u1;have aM:b0+dU=iM*4294967296+hr-(g-1)*dU:=(by rw[F9];grind);have a1:g-1+1=g:=(by omega);refine⟨λh=> ?_,λh=> ?_⟩
      · obtain⟨cB,eQ⟩:=Ud g aC (by omega) (by omega);exact bf ag (g-1) (by omega) cB eQ (by rw[a1];exact qx) we u1
      · exact cb (g-1) (b0+dU) ag (by omega) (by omega) (by omega) aM (by omega) (by omega) (by rw[a1];exact qx) HD tT L8 EL wc we aAx u1 bf
    have md:IntKind.u64.wrap (b0+dU)=b0+dU:=e0 (by omega) (by omega);by_cases bp:4294967296<=g
    · have oB:IntKind.u64.wrap (g-1)=g-1:=e0 (by omega) (by omega);have qx:xO<g*cr:=by
        have:4294967296*cr<=g*cr:=Int.mul_le_mul_of_nonneg_right bp (by omega);omega
      by_cases eK:4294967296<=b0+dU
      · simp(disch:=first|omega|(simp only[ae,ad,af];omega)) [z7,Ee,Ef,gw,j4,p8,md,oB,bp,eK];exact(Sc (by omega) qx _ (by simp[cg]) (by simp[fx]) (by simp[gw]) (by simp[hz]) (by simp[iR]) (by simp) (by simp) (by(repeat refine ta (by decide) ?_);exact cm)).1 eK
      · simp(disch:=first|omega|(simp only[ae,ad,af];omega)) [z7,Ee,Ef,gw,j4,p8,md,oB,bp,eK];exact a9 _ _ ((Sc (by omega) qx _ (by simp[cg]) (by simp[fx]) (by simp[gw]) (by simp[hz]) (by simp[iR]) (by simp) (by simp) (by(repeat refine ta (by decide) ?_);exact cm)).2 eK)
    · have aq:=Sl (x:=g) (y:=next) (by omega) ak;have mR:IntKind.u64.wrap (g*next)=g*next:=e0 (by omega) (by omega)
      by_cases dc:t<g*next
      · have aC:1<=g:=by
          by_cases h:1<=g
          · exact h
          · have:g=0:=(by omega);subst this;simp at dc;omega
        have oB:IntKind.u64.wrap (g-1)=g-1:=e0 (by omega) (by omega);have qx:xO<g*cr:=asJ x8 r4 kr x9 VU a4 (by rw[<-F9,<-VS];exact dc);by_cases eK:4294967296<=b0+dU
        · simp(disch:=first|omega|(simp only[ae,ad,af];omega)) [z7,Ee,Ef,cg,fx,gw,hz,iR,j4,p8,aj,uE,pT,cS,fz,hT,hK,iI,mR,md,oB,bm,bU,bp,dc,eK,ks];exact(Sc (by omega) qx _ (by simp[cg]) (by simp[fx]) (by simp[gw]) (by simp[hz]) (by simp[iR]) (by simp) (by simp) (by(repeat refine ta (by decide) ?_);exact cm)).1 eK
        · simp(disch:=first|omega|(simp only[ae,ad,af];omega)) [z7,Ee,Ef,cg,fx,gw,hz,iR,j4,p8,aj,uE,pT,cS,fz,hT,hK,iI,mR,md,oB,bm,bU,bp,dc,eK,ks];exact a9 _ _ ((Sc (by omega) qx _ (by simp[cg]) (by simp[fx]) (by simp[gw]) (by simp[hz]) (by simp[iR]) (by simp) (by simp) (by(repeat refine ta (by decide) ?_);exact cm)).2 eK)
      · simp(disch:=omega) [z7,Ee,Ef,cg,fx,hz,iR,j4,p8,aj,uE,pT,cS,fz,hT,hK,iI,mR,bm,bU,bp,dc,ks];exact bf _ g (by omega) (by omega) (aeA x8 r4 OF kr x9 mF a4 (by omega) (by omega) ak.1 (by rw[<-F9,<-VS];omega)) cM (by simp[j4]) (by(repeat refine ta (by decide) ?_);exact cm)
theorem a0.LZ{fy:Nat}{ov m N:B}(h:a0 ov m)(H:ld fy m N)(bk:ov.next<=fy):a0 ov N:=⟨Nat.le_trans h.next H.next,λb L=>by rw[H.M b (Nat.lt_of_lt_of_le L h.next) (by omega),h.M b L]⟩
theorem aDu{cf cr:Int}{n:Nat}{K jl:List Int}{j:Nat}(h:pA cf cr n K jl (j+1))(cp:j+1<=jl.length):K=K.take j++(K.drop j).take (n+1)++K.drop (j+n+1)/\(K.take j).length=j/\((K.drop j).take (n+1)).length=n+1:=by have aG:=h.len;refine⟨?_,by simp;omega,by simp;omega⟩;rw[List.append_assoc,show j+n+1=j+(n+1) by omega,<-List.drop_drop,List.take_append_drop,List.take_append_drop]
theorem arp{ov:B}{v:Value}{e9:List Int}{fy jT s n dh bq aV:Nat}{dU next cf cr:Int}(ak:n=dh+2)(r4:e9.length=n)(ae6:n<35184372087809)(aIH:aV<35184372087809)(aIM:bq=aV+n)(kr:cr=val e9)(sN:dU=ay e9 (dh+1))(ae8:next=ay e9 dh)(bH:2147483648<=dU)
    (FW:ai v≠some fy) (Dw:ai v≠some jT) (OE:fy≠jT) (vO:ov.next<=fy) (DN:ov.next<=jT) {cO:aL}
    (Tk:cO 8=br s) (Tl:cO 9= .slice (some ⟨fy,0,none⟩) bq 1) (aEA:cO 10=v) (aEB:cO 11=S n) (aEC:cO 12= .slice (some ⟨jT,0,none⟩) aV 1) (aED:cO 13=br dU) (aEE:cO 14=br next) {Q:dr->aL->B->Prop}: ∀(LF:Nat) (K jl:List Int) (m:B) (u:aL),
    LF<=aV->a0 ov m->m.M fy=some ⟨K.map cT,true⟩->m.M jT=some ⟨jl.map cT,true⟩->bC m v e9->pA cf cr n K jl LF->jl.length=aV->u 15=S ((LF:Int)-1)->(∀t,t<15->u t=cO t)->
    (∀ag N K jl,a0 ov N->N.M fy=some ⟨K.map cT,true⟩->N.M jT=some ⟨jl.map cT,true⟩->pA cf cr n K jl 0->jl.length=aV->(∀t,t<15->ag t=cO t)->Q (.bI 2) ag N)->ch Tryz.prog (.loop KL) u m Q:=by
  intro LF;induction LF with
  | zero=>intro K jl m u cp an pd yd X tB BK iR cm bf;refine eT λb9 a9=> ?_;simp(disch:=first|omega|(simp only[ae,ad,af];omega)) [KL,Xu,Xv,Xw,Xx,iR];exact bf _ _ K jl an pd yd tB BK (by(repeat refine ta (by decide) ?_);exact cm)
  | succ j cb=>
    intro K jl m u cp an pd yd X tB BK iR cm bf;refine eT λb9 a9=> ?_;have b3:=(cm 8 (by omega)).trans Tk;have cg:=(cm 9 (by omega)).trans Tl;have dP:=(cm 10 (by omega)).trans aEA;have fx:=(cm 11 (by omega)).trans aEB;have hg:=(cm 12 (by omega)).trans aEC;have gw:=(cm 13 (by omega)).trans aED;have hz:=(cm 14 (by omega)).trans aEE;obtain⟨cy,F4⟩: ∃cy,cy=j+dh:=⟨_,rfl⟩;have uE:K.length=bq:=(by have:=tB.len;omega);have mU:=hX tB.p4 cy;have dt:=hX tB.p4 (cy+1);have dJ:=hX tB.p4 (cy+2);have H5: ∀i,i<bq->K[i]?=some (ay K i):= λi aa=>by rw[lU (List.getElem?_eq_getElem (by omega)),List.getElem?_eq_getElem (by omega)]
    have zZ:=H5 cy (by omega);have JU:=H5 (cy+1) (by omega);have pT:=H5 (cy+2) (by omega);obtain⟨nV,xg⟩:=List.getElem?_eq_some_iff.1 JU;obtain⟨yh,DU⟩:=List.getElem?_eq_some_iff.1 pT;have cS:IntKind.i64.wrap ((j:Int)+(n:Int))=(cy:Int)+2:=(by rw[ct (by omega) (by omega)];omega);have fz:IntKind.i64.wrap ((cy:Int)+2-1)=(cy:Int)+1:=(by rw[ct (by omega) (by omega)];omega);have hT:IntKind.u64.wrap (ay K (cy+2))=ay K (cy+2):=e0 (by omega) (by omega);have hK:IntKind.u64.wrap (ay K (cy+1))=ay K (cy+1):=e0 (by omega) (by omega);have iI:IntKind.u64.wrap (ay K (cy+2)*4294967296)=ay K (cy+2)*4294967296:=e0 (by omega) (by omega);obtain⟨kD,Jm⟩: ∃kD,kD=ay K (cy+2)*4294967296+ay K (cy+1):=⟨_,rfl⟩;have mR:IntKind.u64.wrap ↑((ay K (cy+2)*4294967296%2^IntKind.u64.bits).toNat|||(ay K (cy+1)%2^IntKind.u64.bits).toNat)=kD:=(by rw[AF (s:=32) (by decide) dJ.1 dt.1 dt.2 (by omega)];omega);have tt:=hX X.1 (dh+1);have iH:=hX X.1 dh;rw[<-sN]at tt;rw[<-ae8]at iH;have a4:0<=kD/dU:=Int.ediv_nonneg (by omega) (by omega);have aC:kD/dU<18446744073709551616:=Int.lt_of_le_of_lt (Int.ediv_le_self _ (by omega)) (by omega);have a2:kD/dU<8589934592:=Int.ediv_lt_of_lt_mul (by omega) (by omega);have po:=Int.emod_nonneg kD (show dU≠0 by omega);have e6:=Int.emod_lt_of_pos kD (show 0<dU by omega);have aNs:=Int.emod_add_mul_ediv kD dU;have md:IntKind.u64.wrap (kD.tdiv dU)=kD/dU:=(by rw[Int.tdiv_eq_ediv_of_nonneg (by omega)];exact e0 a4 aC);have oB:kD.tmod dU=kD%dU:=Int.tmod_eq_emod_of_nonneg (by omega);have bm:(cy:Int)+2<bq:=(by omega);have bU:cy+2<bq:=(by omega);have cn:cy+2+1<=bq:=(by omega);have fa:(cy:Int)+1<bq:=(by omega);have fZ:cy+1<bq:=(by omega);have ij:cy+1+1<=bq:=(by omega);have wg:(0:Int)<=(cy:Int)+2:=(by omega);have EN:(0:Int)<=(cy:Int)+1:=(by omega);have Sp:((cy:Int)+2).toNat=cy+2:=(by omega);have aaD:((cy:Int)+1).toNat=cy+1:=(by omega);have aDp: ¬dU=0:=(by omega);simp(disch:=first|omega|(simp only[ae,ad,af];omega)) [KL,Xu,Xv,Xw,Xx,cg,fx,gw,iR,pd,uE,xg,DU,cS,fz,hT,hK,iI,mR,md,oB,bm,cn,fa,ij,wg,EN,Sp,aaD,aDp,ks];obtain⟨cX,k6⟩: ∃cX,cX=(K.drop j).take (n+1):=⟨_,rfl⟩;obtain⟨mr,jX,tu⟩:=aDu tB (by omega);rw[<-k6]at mr tu;have Jb: ∀i,i<=n->ay cX i=ay K (j+i):= λi aa=>by rw[k6,Dt (by omega),FK]
    have alN:dx cX:=(by rw[k6];exact(tB.p4.drop j).take _);have U1:=aDk (aJ:=cX) (n:=dh) (by omega);rw[Jb _ (by omega),Jb _ (by omega),Jb _ (by omega),show j+(dh+2)=cy+2 by omega,show j+(dh+1)=cy+1 by omega,<-F4]at U1;have U2:=anB (v:=e9) (n:=dh) (by omega);rw[<-sN,<-ae8,<-kr]at U2;have Na:=il (X.1.take dh);rw[List.length_take,Nat.min_eq_left (by omega)]at Na;have Nc:=il (alN.take dh);rw[List.length_take,Nat.min_eq_left (by omega)]at Nc;obtain⟨anK,anL⟩:=tB.ab4;rw[<-k6]at anK anL;have uy:kD/dU*dU=dU*(kD/dU):=Int.mul_comm _ _;refine asK (n:=n) (j:=j) (bq:=bq) pd uE (by omega) (show cy+2=j+n by omega) zZ (k8 dh) Na.1 Na.2 U2 U1 Nc.1 Nc.2 ⟨bH,tt.2⟩ iH mU dt dJ.1 anL (kD/dU).toNat (kD/dU) (kD%dU) _ (by omega) (by omega) a4 (by omega) po (by omega) (by rw[Jm];exact asL (k8 dh) Na.1 U2 U1 Nc.2 (by omega) iH.1 mU.2 (by omega)) (by simp[cg]) (by simp[fx]) (by simp[gw]) (by simp[hz]) (by simp[iR]) (by simp) (by simp) (λ_ _=>rfl) λc7 g bn bF dp eH we u1=> ?_;have sf:=(u1 8 (by omega)).trans (show _=br s by simp[b3]);have HD:=(u1 9 (by omega)).trans (show _= .slice (some ⟨fy,0,none⟩) bq 1 by simp[cg]);have Cl:=(u1 10 (by omega)).trans (show _=v by simp[dP]);have tT:=(u1 11 (by omega)).trans (show _=S n by simp[fx]);have Cm:=(u1 12 (by omega)).trans (show _= .slice (some ⟨jT,0,none⟩) aV 1 by simp[hg]);have wc:=(u1 15 (by omega)).trans (show _=S j by simp[iR]);have Ge: ∀t,t<15->c7 t=cO t:= λt bH=>(u1 t (by omega)).trans ((by(repeat refine ta (by decide) ?_);exact cm: ∀t,t<15->_=cO t) t bH);obtain⟨e,aU⟩: ∃e,e=j+n+1:=⟨_,rfl⟩;have cN:IntKind.i64.wrap ((cy:Int)+2+1)=(e:Int):=(by rw[ct (by omega) (by omega)];omega);have di:(j:Int)<=e:=(by omega);have e2:(e:Int)<=bq:=(by omega);have hV:e-j=n+1:=(by omega);have Jo:0<cr:=(by have:=tB.low;have:=(il ((tB.p4.drop (j+1)).take n)).1;omega);have FQ:cr<aZ n:=(by have:=(il X.1).2;rw[r4]at this;omega);simp(disch:=omega) [HD,Cl,tT,wc,we,cS,cN,di,e2,hV];refine(aDa X FW r4 ae6 ⟨bn,bF⟩ jX alN tu pd mr).aD λr N aq=> ?_;obtain⟨k,W,rfl,F7,w,dI,dV,ew,f4,jo,mB⟩:=aq;have cM:=aT yd;have Oa:N.M jT=some ⟨jl.map cT,true⟩:=(by rw[F7.M jT cM (Ne.symm OE),yd]);have apA:=il f4;rw[jo]at apA;have o3:IntKind.i64.wrap ((j:Int)+1-1)=(j:Int):=(by rw[ct (by omega) (by omega)];omega);have aon:IntKind.i64.wrap ((j:Int)-1)=(j:Int)-1:=ct (by omega) (by omega);have jU:(j:Int)<aV:=(by omega);have rC:j<aV:=(by omega);have zh:j+1<=aV:=by omega
    -- lX end fJ a amC
    have nO: ∀(g:Int) (w dI:List Int) (N:B) (ag:aL),0<=g->g<4294967296->a0 ov N->N.M fy=some ⟨dI.map cT,true⟩->dI=K.take j++w++K.drop (j+n+1)->N.M jT=some ⟨(jl.set j g).map cT,true⟩->bC N v e9->dx w->w.length=n+1->val w=val cX-g*cr->val w<cr->ag 15=S ((j:Int)-1)->(∀t,t<15->ag t=cO t)->ch Tryz.prog (.loop KL) ag N Q:=(by intro g w dI N ag g1 cB aq9 are apF ard arf Dc df arh aq4 apD ari;refine cb dI (jl.set j g) N ag (by omega) aq9 are ard arf ?_ (by simp[BK]) apD ari bf;rw[apF];exact tB.step (by omega) df Dc ⟨g1,cB⟩ (by rw[<-k6];exact arh) aq4 (by omega));rcases W with rfl|rfl
    · -- lX aez qG right
      simp only[Int.zero_mul,Int.add_zero]at mB;have lx:IntKind.u32.wrap g=g:=(by rw[iu];omega);simp(disch:=omega) [Cm,wc,we,aon,jU,zh,lx,Oa,BK];have aM:(g+1)*cr=g*cr+cr:=(by grind);have atS:=aT Oa;refine a9 _ _ (nO g w dI _ _ bn bF ((an.LZ F7 vO).au DN) (by rw[dv OE,dV]) ew (by rw[bX atS,m9]) ((X.pZ FW F7).pZ Dw (ld.refl jT _).au) f4 jo (by rw[mB,kr]) (by rw[mB,<-kr];omega) (by simp) (by(repeat refine ta (by decide) ?_);exact Ge))
    · -- lX aez qG ha aPU aIw
      simp only[Int.one_mul]at mB;have aI3:1<=g:=by
        by_cases h:1<=g
        · exact h
        · have:g=0:=(by omega);subst this;simp at mB;omega
      have vl:IntKind.u64.wrap (g-1)=g-1:=e0 (by omega) (by omega);have lx:IntKind.u32.wrap (g-1)=g-1:=(by rw[iu];omega);simp(disch:=omega) [HD,Cl,tT,wc,we,cS,cN,di,e2,hV,vl];refine(aBq (X.pZ FW F7) FW r4 ae6 jX f4 jo dV ew).aD λfw b4 fh=> ?_;obtain⟨dc,r2,VF,anX,lR,iG,vh,AT,qT,xI⟩:=fh;have aeT:b4.M jT=some ⟨jl.map cT,true⟩:=(by rw[VF.M jT (aT Oa) (Ne.symm OE),Oa]);have zT:=aT aeT;simp(disch:=omega) [Cm,wc,aon,jU,zh,lx,aeT,BK];have TP:=il AT;rw[qT]at TP;have JH:val cX<g*cr:=(by rw[<-kr]at mB;omega);have sF:val anX=val cX-(g-1)*cr:=by have atc:cr<=aZ (n+1):=(by have:=Mc (show n<=n+1 by omega);omega);refine art (P:=aZ (n+1)) (k:=dc) Jo atc anK dp JH r2 ?_ TP.1 TP.2;rw[xI,mB,<-kr];rcases r2 with rfl|rfl<;>omega
      have aM:(g-1)*cr=g*cr-cr:=(by grind);refine a9 _ _ (nO (g-1) anX lR _ _ (by omega) (by omega) (((an.LZ F7 vO).LZ VF vO).au DN) (by rw[dv OE,iG]) vh (by rw[bX zT,m9]) (((X.pZ FW F7).pZ FW VF).pZ Dw (ld.refl jT _).au) AT qT sF (by omega) (by simp) (by(repeat refine ta (by decide) ?_);exact Ge))
theorem adp{ov:B}{fy ga s n bq:Nat}{K:List Int}{G aV:Int}(dB:G=(2:Int)^s)(J:s<32)(nB:1<=G/\G<=2147483648)(pK:G*aV=4294967296)(de:dx K)(uE:K.length=bq)(at7:n+1<=bq)(hF:bq<80000000000000)(afv:fy≠ga)(afo:ov.next<=ga)(vO:ov.next<=fy){cO:aL}
    (Tk:cO 8=br s) (Tl:cO 9= .slice (some ⟨fy,0,none⟩) bq 1) (aor:cO 19= .slice (some ⟨ga,0,none⟩) n 1) {Z7:B} {Q:dr->aL->B->Prop}: ∀(r i:Nat) (o:List Int) (m:B) (u:aL),
    i+r=n->ld ga Z7 m->a0 ov m->m.M fy=some ⟨K.map cT,true⟩->m.M ga=some ⟨o.map cT,true⟩->dx o->o.length=n->G*val (o.take i)=val (K.take i)-ay K 0%G+(ay K i%G)*aZ i->
    u 166=S n->u 167=S i->(∀t,t<20->u t=cO t)->
    (∀ag N o,ld ga Z7 N->a0 ov N->N.M ga=some ⟨o.map cT,true⟩->dx o->o.length=n->G*val o=val (K.take n)-ay K 0%G+(ay K n%G)*aZ n->(∀t,t<20->ag t=cO t)->Q (.bI 6) ag N)->ch Tryz.prog (.loop PS) u m Q
  | 0,i,o,m,u,aa,H,an,pd,Ob,aA,et,aU,SD,abc,cm,bf=>by refine eT λb9 a9=> ?_;have e:i=n:=(by omega);subst e;simp[PS,Xy,Xz,SD,abc];rw[List.take_of_length_le (l:=o) (by omega)]at aU;exact bf _ _ o H an Ob aA et aU (by(repeat refine ta (by decide) ?_);exact cm)
  | r+1,i,o,m,u,aa,H,an,pd,Ob,aA,et,aU,SD,abc,cm,bf=>by
    refine eT λb9 a9=> ?_;have b3:=(cm 8 (by omega)).trans Tk;have cg:=(cm 9 (by omega)).trans Tl;have p9:=(cm 19 (by omega)).trans aor;have mU:=hX de i;have dt:=hX de (i+1);have H5: ∀i,i<bq->K[i]?=some (ay K i):= λi aa=>by rw[lU (List.getElem?_eq_getElem (by omega)),List.getElem?_eq_getElem (by omega)]
    have zZ:=H5 i (by omega);have JU:=H5 (i+1) (by omega);obtain⟨nE,tH⟩:=List.getElem?_eq_some_iff.1 zZ;obtain⟨nV,xg⟩:=List.getElem?_eq_some_iff.1 JU;have bo:IntKind.i64.wrap ((i:Int)+1)=(i:Int)+1:=ct (by omega) (by omega);have cS:IntKind.u64.wrap (ay K i)=ay K i:=e0 (by omega) (by omega);have fz:IntKind.u64.wrap (ay K (i+1))=ay K (i+1):=e0 (by omega) (by omega);have hT:IntKind.u64.wrap (ay K (i+1)*4294967296)=ay K (i+1)*4294967296:=e0 (by omega) (by omega);obtain⟨t,bH⟩: ∃t,t=ay K (i+1)*4294967296+ay K i:=⟨_,rfl⟩;have hK:IntKind.u64.wrap ↑((ay K (i+1)*4294967296%2^IntKind.u64.bits).toNat|||(ay K i%2^IntKind.u64.bits).toNat)=t:=(by rw[AF (s:=32) (by decide) dt.1 mU.1 mU.2 (by omega)];omega);have ir:min s 64=s:=(by omega);have e:(2:Int)^s=G:=dB.symm;have iI:t.fdiv G=t/G:=Int.fdiv_eq_ediv_of_nonneg t (by omega);have bm:(i:Int)<bq:=(by omega);have bU:i<bq:=(by omega);have cn:i+1<=bq:=(by omega);have fa:(i:Int)+1<bq:=(by omega);have fZ:i+1<bq:=(by omega);have ij:i+1+1<=bq:=(by omega);have wg:(0:Int)<=(i:Int)+1:=(by omega);have EN:((i:Int)+1).toNat=i+1:=(by omega);have Sp:(i:Int)<n:=(by omega);have aaD:i<n:=(by omega);have aaE:i+1<=n:=(by omega);have cM:=aT Ob;simp(disch:=first|omega|(simp only[ae,ad,af];omega)) [PS,Xy,Xz,b3,cg,p9,SD,abc,pd,Ob,uE,et,tH,xg,bo,cS,fz,hT,hK,iI,ir,e,bm,cn,fa,ij,wg,EN,Sp,aaE,ks,iu];refine a9 _ _ (adp dB J nB pK de uE at7 hF afv afo vO Tk Tl aor r (i+1) (o.set i ((t/G)%4294967296)) _ _ (by omega) H.au (an.au afo) (by rw[dv afv,pd]) (by rw[bX cM,m9]) (aA.set i (by omega)) (by simp[et]) ?_ (by simp[SD]) (by simp) (by(repeat refine ta (by decide) ?_);exact cm) bf);rw[bH];exact adq (by omega) pK aU (by omega) de
def acp(m:B)(x y:Int)(r:Value)(N:B):Prop:=a0 m N/\ ∃q s,r= .tuple #[q,s]/\bC N q (bG (x/y))/\bC N s (bG (x%y))
theorem ado{m:B}{v w:Value}{a b:List Int}(X:bC m v a)(aO:bC m w b)(aE:Go.Big.kS a)(L:Go.Big.kS b)(r3:Big a)(tA:Big b)(dq:b≠[]):
    bJ Tryz.prog 159 [v,w] m (acp m (val a) (val b)):=by
  rw[ap9 (by simp)];obtain⟨z,D,Z,aw⟩:=X.len;obtain⟨dQ,gx,hh,lA⟩:=aO.len;have anU:=(il aE.1).1;have HZ:=L.al6 dq;have nS:1<=b.length:=by have:=List.length_pos_iff.2 dq;omega
  by_cases bp:val a<val b
  · have cB:h8 (val a) (val b)<0:=(by rw[zv bp];omega);simp[KJ,PE,PI,PK,PL,PM,PN,PO,PQ,PR,PF,PG,PH,PJ,IE X aO r3 tA,cB];refine(S3 X r3).aD λr N aq=> ?_;simp;refine⟨aq.1,_,_,rfl,?_,?_⟩
    · rw[Int.ediv_eq_zero_of_lt anU bp,rO (by omega)];exact bC.nil
    · rw[Int.emod_eq_of_lt anU bp];exact aq.2
  have cB: ¬h8 (val a) (val b)<0:=by unfold h8;rw[if_neg bp];split<;>omega
  by_cases dc:b.length=1
  · obtain⟨d,rfl⟩: ∃d,b=[d]:=List.length_eq_one_iff.1 dc;have aR:=L.1 d (by simp);have lF:val [d]=d:=(by simp[val]);rw[lF]at HZ bp;have bn:=aO.j7 (i:=0) (by simp);have bF:=aO.fj (i:=0) (by simp);rw[show ay [d] 0=d from rfl]at bF;simp only[Int.cast_ofNat_Int]at bn bF;simp only[List.length_cons,List.length_nil]at dQ;simp[KJ,PE,PI,PK,PL,PM,PN,PO,PQ,PR,PF,PG,PH,PJ,IE X aO r3 tA,cB,dQ,gx,hh,bn,bF];refine(aCO X (d:=d) ⟨HZ,aR.2⟩ r3).aD λr N aq=> ?_;obtain⟨an,q,rfl,bt⟩:=aq;have po:=Int.emod_nonneg (val a) (show d≠0 by omega);have e6:=Int.emod_lt_of_pos (val a) HZ;have cS:IntKind.u64.wrap (val a%d)=val a%d:=e0 po (by omega);simp[cS];refine(R3 po (by omega)).aD λfw b4 fh=> ?_;simp;refine⟨an.trans fh.1,_,_,rfl,?_,?_⟩
    · rw[lF];exact bt.aD fh.1
    · rw[lF];exact fh.2
  · obtain⟨dh,qy⟩: ∃dh,b.length=dh+2:=⟨b.length-2,by omega⟩;obtain⟨n,ak⟩: ∃n,n=dh+2:=⟨_,rfl⟩;have Ak: ¬(n:Int)=1:=(by omega);have vI:ay b (dh+1)≠0:=by
      have:=L.dU qy (List.getElem?_eq_getElem (by omega));rw[lU (List.getElem?_eq_getElem (by omega))];exact this
    have q9:=hX L.1 (dh+1);have gH:b.length<=a.length:=by
      by_cases h:b.length<=a.length
      · exact h
      · have:=kS.Hi aE.1 L (by omega);omega
    rw[qy,<-ak]at dQ;simp(disch:=omega) [KJ,PE,PI,PK,PL,PM,PN,PO,PQ,PR,PF,PG,PH,PJ,IE X aO r3 tA,cB,dQ,gx,Ak];refine aCK aO (n:=dh+1) qy tA (by omega) 31 0 1 _ (by omega) (by simp) (by omega) (by decide) (by omega) (by simp) (by simp) (λ_ _=>rfl) λc7 s G aV dt dJ xS C7 M8 C8 sf u1=> ?_;have kP:=(u1 0 (by omega)).trans (show _=v by simp);have dK:=(u1 1 (by omega)).trans (show _=w by simp);simp(disch:=first|omega|(simp only[ae,ad,af];omega)) [kP,dK,sf,dQ,gx];refine(anP dJ dt xS X r3).aD λe6 bz fP=> ?_;obtain⟨pR,fy,K,rfl,OC,aeU,de,aIE,as0⟩:=fP;simp(disch:=first|omega|(simp only[ae,ad,af];omega)) [];refine(anP dJ dt xS (aO.aD pR) tA).aD λfw b4 fh=> ?_;obtain⟨sI,xK,gL,rfl,aJr,Vh,oJ,UY,as1⟩:=fh;obtain⟨pz,wY⟩: ∃pz,pz+n=a.length+1:=⟨a.length+1-n,by omega⟩;have cl:IntKind.i64.wrap ((a.length:Int)+1-(n:Int))=(pz:Int):=(by rw[ct (by omega) (by omega)];omega);have U6:b.length=n:=(by omega);rw[U6]at UY;have cN:IntKind.i64.wrap ((n:Int)-1)=(dh:Int)+1:=(by rw[ct (by omega) (by omega)];omega);have di:IntKind.i64.wrap ((n:Int)-2)=(dh:Int):=(by rw[ct (by omega) (by omega)];omega);have e2:IntKind.i64.wrap ((pz:Int)-1)=(pz:Int)-1:=ct (by omega) (by omega);have atV:=aT aeU;have aJd:=aT Vh;have aeV:=sI.some aeU;have aJb:=aT aeV;have aC:=hX oJ (dh+1);have a4:=hX oJ dh;have JU:gL[dh+1]?=some (ay gL (dh+1)):=(by rw[lU (List.getElem?_eq_getElem (by omega)),List.getElem?_eq_getElem (by omega)]);have zZ:gL[dh]?=some (ay gL dh):=(by rw[lU (List.getElem?_eq_getElem (by omega)),List.getElem?_eq_getElem (by omega)]);obtain⟨nV,xg⟩:=List.getElem?_eq_some_iff.1 JU;obtain⟨nE,tH⟩:=List.getElem?_eq_some_iff.1 zZ;have cS:IntKind.u64.wrap (ay gL (dh+1))=ay gL (dh+1):=e0 (by omega) (by omega);have bo:IntKind.u64.wrap (ay gL dh)=ay gL dh:=e0 (by omega) (by omega);have bm:(dh:Int)+1<n:=(by omega);have bU:(dh:Int)<n:=(by omega);have cn:(0:Int)<=(dh:Int)+1:=(by omega);have fa:((dh:Int)+1).toNat=dh+1:=(by omega);have fZ:dh+1+1<=n+1:=(by omega);have ij:dh+1<=n+1:=(by omega);have wg:dh+1<n+1:=(by omega);have EN:dh<n+1:=(by omega);have Sp:dh+1<=n:=(by omega);have aaD:dh<=n:=(by omega);have aaE:(n:Int)<=(n:Int)+1:=(by omega);have aMH:dh<n:=(by omega);simp(disch:=first|omega|(simp only[ae,ad,af];omega)) [U6,cl,cN,di,e2,Vh,UY,xg,tH,cS,bo,bm,bU,cn,fa,fZ,ij,aaE,ks];obtain⟨SP,abH,aCJ⟩:=aCL L.1 qy (by omega) C7 M8 C8 oJ (by omega) as1;rw[show dh+1+1=n by omega]at SP abH;have aJj:fy≠xK:=(by omega);have Dv:a0 b4 ((b4.bs 6).au (b4.next+4) (some ⟨List.replicate pz (.int .u32 0),true⟩)):=((a0.refl b4).bs 6).au (by omega);have atD:=Dv.some Vh;have atB:=Dv.some aeV;have aty:((b4.bs 6).au (b4.next+4) (some ⟨List.replicate pz (.int .u32 0),true⟩)).M (b4.next+4)=some ⟨(List.replicate pz (0:Int)).map cT,true⟩:=(by rw[bX (by simp)];simp);have auC:bC ((b4.bs 6).au (b4.next+4) (some ⟨List.replicate pz (.int .u32 0),true⟩)) (.slice (some ⟨xK,0,none⟩) n 1) (gL.take n):=by have:=(bC.mk oJ atD).take (n:=n) (by omega);rw[AR]at this;simpa using this
    have tB:pA (val a*G) (val (gL.take n)) n K (List.replicate pz 0) pz:=(by have:=pA.aC1 (cf:=val a*G) (cr:=val (gL.take n)) (n:=dh+1) (na:=a.length) (k:=pz) (G:=G) de (by omega) (by omega) as0 rfl (il aE.1).2 (by omega) (by rw[SP];exact aCJ);rw[show dh+1+1=n by omega]at this;exact this);have aJp:=pR.next
    have aJq:=sI.next
    refine⟨by omega,arp (ov:=m) (n:=n) (dh:=dh) (bq:=a.length+1) (aV:=pz) (fy:=fy) (jT:=b4.next+4) (s:=s) ak (by simp;omega) (by omega) (by omega) (by omega) rfl (dU:=ay gL (dh+1)) (by rw[Dt (by omega)]) (next:=ay gL dh) (by rw[Dt (by omega)]) (by rw[Dt (by omega)]at abH;exact abH)
      (by simp[ai];omega) (by simp[ai];omega) (by omega) OC (by omega) (by simp[sf]) (by simp) (by simp) (by simp) (by simp) (by simp) (by simp) pz K (List.replicate pz 0) _ _ (Nat.le_refl _) ((pR.trans sI).trans Dv) atB aty auC tB (by simp) (by simp) (λ_ _=>rfl) λfb h0 lR jl dk dV ew f4 jo So=> ?_⟩
    obtain⟨mA,oG,zz⟩:=f4.done (by rw[SP];exact Int.mul_pos HZ (by omega));have Md:=(So 8 (by omega)).trans (show _=br s by simp[sf]);have ami:=(So 9 (by omega)).trans (show _= .slice (some ⟨fy,0,none⟩) (a.length+1) 1 by simp);have aaG:=(So 11 (by omega)).trans (show _=S n by simp);have aaH:=(So 12 (by omega)).trans (show _= .slice (some ⟨b4.next+4,0,none⟩) pz 1 by simp);have ae4:=aT ew;have aJc:=aT dV;simp[aaG];have Br:a0 h0 ((h0.bs 3).au (h0.next+1) (some ⟨List.replicate n (.int .u32 0),true⟩)):=((a0.refl h0).bs 3).au (by omega);have atC:=Br.some dV;have atz:((h0.bs 3).au (h0.next+1) (some ⟨List.replicate n (.int .u32 0),true⟩)).M (h0.next+1)=some ⟨(List.replicate n (0:Int)).map cT,true⟩:=(by rw[bX (by simp)];simp);have asX:lR.length=a.length+1:=(by have:=f4.len;omega);have hY:=dk.next
    refine⟨by omega,adp (ov:=m) (n:=n) (bq:=a.length+1) (fy:=fy) (ga:=h0.next+1) dJ dt xS C7 f4.p4 asX (by omega) (by omega) (by omega) (by omega) OC (by simp[Md]) (by simp[ami]) (by simp) (Z7:=(h0.bs 3).au (h0.next+1) (some ⟨List.replicate n (.int .u32 0),true⟩)) n 0 (List.replicate n 0) _ _ (by omega) (ld.refl _ _) (dk.trans Br) atC atz (dx.vm _) (by simp) (by simp[val,aZ];omega) (by simp) (by simp) (λ_ _=>rfl) λzi ie o aM a1 cI fe mi og amg=> ?_⟩;have MA:=(amg 12 (by omega)).trans (show _= .slice (some ⟨b4.next+4,0,none⟩) pz 1 by simp[aaH]);have abY:=(amg 19 (by omega)).trans (show _= .slice (some ⟨h0.next+1,0,none⟩) n 1 by simp);have DD:ie.M (b4.next+4)=some ⟨jl.map cT,true⟩:=(by rw[aM.M _ (by simp;omega) (by omega),Br.some ew]);have afn:bC ie (.slice (some ⟨b4.next+4,0,none⟩) pz 1) jl:=bC.se f4.aao DD jo.symm;have afp:bC ie (.slice (some ⟨h0.next+1,0,none⟩) n 1) o:=bC.se fe cI mi.symm;have aLo:=kN jl;have cZ:=kN o;have azj:(cJ jl:Int)<=pz:=(by omega);have ZU:(cJ o:Int)<=n:=by omega
    -- lX aAb
    have N0:0<val b*G:=Int.mul_pos HZ (by omega);have aBK:=Int.emod_nonneg (val a) (show val b≠0 by omega);have aBL:=Int.emod_lt_of_pos (val a) HZ;have aBO:=Int.emod_add_mul_ediv (val a) (val b);have key:=Df (cT:=val a*G) (cr:=val b*G) (q:=val a/val b) (r:=(val a%val b)*G) (by
      have:(val a%val b+val b*(val a/val b))*G=val a*G:=by rw[aBO]
      grind) (Int.mul_nonneg aBK (by omega)) (Int.mul_lt_mul_of_pos_right aBL (by omega))
    rw[SP]at mA oG;rw[key.1]at mA;rw[key.2]at oG;have asY:ay lR n=0:=by
      by_cases h:n<lR.length
      · rw[lU (List.getElem?_eq_getElem h)];exact f4.aa n _ (by omega) (List.getElem?_eq_getElem h)
      · exact rW (by omega)
    have asW:ay lR 0%G=0:=by
      have gn:=rP lR 0;rw[List.drop_zero]at gn;have iP:ay lR 0=G*(val a%val b-aV*val (lR.drop 1)):=by
        have ml:val lR=val a%val b*G:=(by omega);have Jh:4294967296*val (lR.drop (0+1))=G*aV*val (lR.drop 1):=by rw[C7]
        grind
      rw[iP,Int.mul_emod_right]
    have auI:val o=val a%val b:=(by rw[asY,asW,<-oG,Int.mul_comm (val a%val b)]at og;simp only[Int.zero_emod,Int.zero_mul,Int.sub_zero,Int.add_zero]at og;exact Int.eq_of_mul_eq_mul_left (by omega) og);simp[MA,abY,m2 afn (by omega),m2 afp (by omega),azj,ZU];refine⟨a1,_,_,rfl,?_,?_⟩
    · have:=afn.bG;rw[AR,<-mA]at this;simpa using this
    · have:=afp.bG;rw[AR,auI]at this;simpa using this
end Go.Proofs.YtkpifdkccdndcaaGreat
namespace Go.Big
def kc(a b:Int):Int:=(Nat.gcd a.toNat b.toNat:Nat)
theorem aer{a:Int}(h:0<=a):kc a 0=a:=by simp[kc];omega
theorem aeq{a b:Int}(aE:0<=a)(L:0<b):kc a b=kc b (a%b):=by unfold kc;rw[Nat.gcd_comm,Nat.gcd_rec,Nat.gcd_comm,Int.toNat_emod aE (by omega)]
def jj(n:Int):Int:=if h:n<=0 then 0 else jj (n/2)+1
termination_by n.toNat
decreasing_by omega
theorem Ch{n:Int}(h:n<=0):jj n=0:=by rw[jj];simp[h]
theorem Hq{n:Int}(h:0<n):jj n=jj (n/2)+1:=by rw[jj];simp;omega
theorem aly: ∀(k:Nat) (n:Int),n.toNat<=k->0<=jj n
  |0,n,h=>by rw[Ch (by omega)];omega
  | k+1,n,h=>by
    by_cases ak:n<=0
    · rw[Ch ak];omega
    · rw[Hq (by omega)];have:=aly k (n/2) (by omega);omega
theorem aad(n:Int):0<=jj n:=aly _ n (Nat.le_refl _)
theorem Ax: ∀(k:Nat) (n:Int),jj n<=k↔n<2^k
  | 0,n=>by
    by_cases ak:n<=0
    · rw[Ch ak];simp;omega
    · rw[Hq (by omega)];have:=aad (n/2);simp;omega
  | k+1,n=>by
    have aq : (0 : Int) < 2 ^ k := by have iP:=Nat.two_pow_pos k;have ml:((2^k:Nat):Int)=(2:Int)^k:=by simp
                                      omega
    rw[Int.pow_succ];by_cases ak:n<=0
    · rw[Ch ak];constructor
      · intro _;omega
      · intro _;omega
    · rw[Hq (by omega)];have:=Ax k (n/2);constructor
      · intro h;have:=this.1 (by omega);omega
      · intro h;have:=this.2 (by omega);omega
theorem Sn: ∀k,aZ k=2^(32*k)
  |0=>rfl
  | k+1=>by rw[show 32*(k+1)=32*k+32 by omega,Int.pow_add,<-Sn k];simp only[aZ];rw[Int.mul_comm];rfl
theorem aae{a:List Int}{n:Nat}(h:dx a)(ak:cJ a=n+1):jj (val a)=n*32+jj (ay a n):=by
  have aG:=kN a;have t:=MF (l:=a.take (n+1)) (n:=n) (by simp;omega);rw[<-ak,HX]at t;rw[ak,Dt (by omega),List.take_take,Nat.min_eq_left (by omega)]at t;have TM:=il (h.take n);rw[List.length_take,Nat.min_eq_left (by omega)]at TM;have g:=hX h n;have aIv:ay a n≠0:=by rw[lU (List.getElem?_eq_getElem (by omega))];exact Ht ak (List.getElem?_eq_getElem (by omega))
  obtain⟨k,W⟩: ∃k:Nat,jj (ay a n)=(k:Int)+1:=by have z:=Hq (n:=ay a n) (by omega);have D:=aad (ay a n/2);exact⟨(jj (ay a n/2)).toNat,by omega⟩
  have fM:=(Ax (k+1) (ay a n)).1 (by omega);have dg: ¬ay a n<2^k:= λh=>by have:=(Ax k (ay a n)).2 h;omega
  have aq:=k8 n;have hr:jj (val a)<=((32*n+(k+1):Nat):Int):=(Ax _ _).2 (by rw[Int.pow_add,<-Sn];have:(ay a n+1)*aZ n<=2^(k+1)*aZ n:=Int.mul_le_mul_of_nonneg_right (by omega) (by omega);rw[Int.mul_comm (aZ n)];have e:(ay a n+1)*aZ n=ay a n*aZ n+aZ n:=(by grind);omega);have iM: ¬jj (val a)<=((32*n+k:Nat):Int):= λcE=>by have:=(Ax _ _).1 cE;rw[Int.pow_add,<-Sn]at this;have Z:2^k*aZ n<=ay a n*aZ n:=Int.mul_le_mul_of_nonneg_right (by omega) (by omega);rw[Int.mul_comm (aZ n)]at this;omega
  omega
end Go.Big
namespace Go.Proofs.YtkpifdkccdndcaaGreat
open Go Go.DI Go.Big
def dw(m:B)(v:Value)(n:Int):Prop:= ∃l,bC m v l/\Big l/\val l=n
theorem dw.aD{m N:B}{v:Value}{n:Int}(h:dw m v n)(an:a0 m N):dw N v n:=by obtain⟨l,z,D,Z⟩:=h;exact⟨l,z.aD an,D,Z⟩
theorem dw.p1{m:B}{v:Value}{n:Int}(h:dw m v n):0<=n:=by obtain⟨l,z,_,rfl⟩:=h;exact(il z.1).1
theorem bC.dS{m:B}{v:Value}{n:Int}{k:Nat}(h:bC m v (Big.bG n))(bB:0<=n)(ak:n<aZ k)(W:k<35184372087809):dw m v n:=
  ⟨_,h,by have:=q2 bB ak;omega,iB bB⟩
def Tn(m:B)(x y:Int)(r:Value)(N:B):Prop:=a0 m N/\ ∃q s,r= .tuple #[q,s,S 0]/\bC N q (bG (x/y))/\bC N s (bG (x%y))
theorem ars{m:B}{v w:Value}{a b:List Int}(X:bC m v a)(aO:bC m w b)(aE:Big a)(L:Big b)(na:cJ a<=512)(sX:cJ b<=512)(dq:val b≠0):
    bJ Tryz.prog 130 [v,w] m (Tn m (val a) (val b)):=by
  rw[apS (by simp)];obtain⟨z,D,Z,aw⟩:=X.len;obtain⟨dQ,gx,hh,lA⟩:=aO.len;have cc:=kN a;have iV:=kN b;have yz: ¬512<cJ a:=by omega
  have yA: ¬512<cJ b:=by omega
  have gb:=X.bG;have iS:=aO.bG;have pE:=tS X.1;have q3:=tS aO.1;have CM:=iB (il X.1).1;have xK:=iB (il aO.1).1;have N0:cJ b≠0:= λh=>by have:=HX b;rw[h]at this;simp[val]at this;omega
  simp[WK,agz,agA,agB,v7 X aE,v7 aO L,m2 X aE,m2 aO L,z,Z,dQ,hh,yz,yA,cc,iV,N0];refine(ado gb iS (oE _) (oE _) (by omega) (by omega) (λh=>by rw[h]at q3;simp at q3;omega)).aD λr N aq=> ?_;rw[CM,xK]at aq;obtain⟨an,q,s,rfl,bt,J⟩:=aq;simp;exact⟨an,q,s,rfl,bt,J⟩
theorem asx{dd:B}{Q:dr->aL->B->Prop}: ∀(r:Nat) (cA c4:Int) (v w:Value) (m:B) (u:aL),c4<=r->0<=cA->0<=c4->cA<aZ 512->c4<aZ 512->a0 dd m->bC m v (bG cA)->bC m w (bG c4)->u 0=v->u 1=w->
    (∀ag N bW,a0 dd N->bC N bW (bG (kc cA c4))->ag 0=bW->Q (.bI 0) ag N)->ch Tryz.prog (.loop Pk) u m Q:=by
  intro r;induction r with
  | zero=>intro cA c4 v w m u aF mn nQ Ex An an X aO bl aH bf;refine eT λb9 a9=> ?_;obtain rfl:c4=0:=(by omega);obtain⟨z,D,Z,aw⟩:=aO.len;rw[rO (by omega)]at z;simp only[List.length_nil]at z;simp[Pk,aH,z,D];exact bf _ _ v an (by rw[aer mn];exact X) (by simp[bl])
  | succ r cb=>
    intro cA c4 v w m u aF mn nQ Ex An an X aO bl aH bf;by_cases bB:c4=0
    · exact cb cA c4 v w m u (by omega) mn nQ Ex An an X aO bl aH bf
    · refine eT λb9 a9=> ?_;obtain⟨z,D,Z,aw⟩:=aO.len;have uY:=q2 mn Ex;have qK:=q2 nQ An;have dq:bG c4≠[]:= λh=>by have:=iB nQ;rw[h]at this;simp[val]at this;omega
      have aq:=List.length_pos_iff.2 dq;have xa:(0:Int)<((bG c4).length:Int):=(by omega);simp[Pk,bl,aH,z,D,aq];refine(ado X aO (oE _) (oE _) (by omega) (by omega) dq).aD λfw b4 fh=> ?_;rw[iB mn,iB nQ]at fh;obtain⟨sI,q,s,rfl,bt,J⟩:=fh;simp[aH];have gi:=Int.emod_nonneg cA (show c4≠0 by omega);have aM:=Int.emod_lt_of_pos cA (show 0<c4 by omega);refine a9 _ _ (cb c4 (cA%c4) w s b4 _ (by omega) nQ gi An (by omega) (an.trans sI) (aO.aD sI) J (by simp) (by simp) λag N bW dk dV ew=> ?_);exact bf ag N bW dk (by rw[aeq mn (by omega)];exact dV) ew
theorem asz{m:B}{v w:Value}{a b:List Int}(X:bC m v a)(aO:bC m w b)(aE:Big a)(L:Big b)(na:cJ a<=512)(sX:cJ b<=512):
    bJ Tryz.prog 129 [v,w] m (vp m (kc (val a) (val b))):=by
  rw[apR (by simp)];have yz: ¬512<cJ a:=by omega
  have yA: ¬512<cJ b:=by omega
  simp[WH,agf,agh,agi,agj,v7 X aE,v7 aO L,yz,yA];refine(S3 X aE).aD λe6 bz fP=> ?_;simp;refine(S3 (aO.aD fP.1) L).aD λfw b4 fh=> ?_;simp;refine asx (dd:=m) (val b).toNat (val a) (val b) e6 fw b4 _ (by omega) (il X.1).1 (il aO.1).1 ((AA X.1 _).1 na) ((AA aO.1 _).1 sX) (fP.1.trans fh.1) (fP.2.aD fh.1) fh.2 (by simp) (by simp) λag N bW dk dV ew=> ?_;simp[ew];exact⟨dk,bW,rfl,dV⟩
theorem apt{m:B}{Q:dr->aL->B->Prop}: ∀(r:Nat) (k t:Int) (u:aL),t<=r->0<=t->t<4294967296->0<=k->k+r<10000000000000000->u 4=S k->u 5=cT t->
    (∀ag,ag 4=S (k+jj t)->Q (.bI 0) ag m)->ch Tryz.prog (.loop Ro) u m Q:=by
  intro r;induction r with
  | zero=>intro k t u aF bB z cy bp bL cv bf;refine eT λb9 a9=> ?_;obtain rfl:t=0:=(by omega);simp[Ro,Zr,cv];exact bf _ (by simp[bL,Ch])
  | succ r cb=>
    intro k t u aF bB z cy bp bL cv bf;by_cases bH:t=0
    · exact cb k t u (by omega) bB z cy (by omega) bL cv bf
    · refine eT λb9 a9=> ?_;have cB:0<t:=(by omega);have bo:IntKind.i64.wrap (k+1)=k+1:=ct (by omega) (by omega);have cS:t.fdiv 2=t/2:=Int.fdiv_eq_ediv_of_nonneg t (by omega);simp[Ro,Zr,bL,cv,cB,bo,cS];exact a9 _ _ (cb (k+1) (t/2) _ (by omega) (by omega) (by omega) (by omega) (by omega) (by simp) (by simp) λag h=>bf ag (by rw[h,Hq cB];congr 1;omega))
theorem apu{m:B}{v:Value}{l:List Int}(X:bC m v l)(aG:Big l)(az:Value->B->Prop):bJ Tryz.prog 87 [v] m az=az (S (jj (val l))) m:=by
  refine(ob.rp ?_).wp;rw[aqH (by simp)];obtain⟨z,D,Z,aw⟩:=X.len;have ak:=kN l;by_cases bp:cJ l=0
  · have VW:val l=0:=(by have:=HX l;rw[bp]at this;simpa[val]using this.symm);simp[Rn,Zn,Zo,Zp,Zq,Zs,m2 X aG,bp];rw[VW,Ch (by omega)]
  · obtain⟨n,W⟩: ∃n,cJ l=n+1:=⟨cJ l-1,by omega⟩;have bn:=X.j7 (i:=n) (by omega);have bF:=X.fj (i:=n) (by omega);have g:=hX X.1 n;have g1: ¬(n:Int)+1=0:=(by omega);have cB:(n:Int)<l.length:=(by omega);have bo:IntKind.i64.wrap (n:Int)=n:=ct (by omega) (by omega);have cS:IntKind.i64.wrap ((n:Int)*32)=(n:Int)*32:=ct (by omega) (by omega);simp[Rn,Zn,Zo,Zp,Zq,Zs,m2 X aG,W,g1,cB,z,Z,bn,bF,bo,cS];refine apt (ay l n).toNat ((n:Int)*32) (ay l n) _ (by omega) g.1 g.2 (by omega) (by omega) (by simp) (by simp) λag h=> ?_;simp[h,aae X.1 W]
end Go.Proofs.YtkpifdkccdndcaaGreat
namespace Go.Proofs.YtkpifdkccdndcaaGreat
open Go Go.DI Go.Big
def jV(dd m:B)(v:Value)(o:List Int):Prop:=(v= .slice none 0 0/\o=[])\/ ∃b,dd.next<=b/\v= .slice (some ⟨b,0,none⟩) o.length 1/\m.M b=some ⟨o.map cT,true⟩
theorem jV.rv{dd m:B}{v:Value}{o:List Int}(h:jV dd m v o)(W:dx o):bC m v o:=by
  rcases h with⟨rfl,rfl⟩|⟨b,_,rfl,h⟩
  · exact bC.nil
  · exact bC.mk W h
theorem R4{o:List Int}{t:Int}:o.map cT++[cT t]=(o++[t]).map cT:=by simp
theorem jV.oZ{dd m:B}{o:List Int}{t:Int}{b n:Nat}(L:dd.next<=b)(aj:m.M b=some ⟨o.map cT++[cT t],true⟩)(ak:n=o.length+1):jV dd m (.slice (some ⟨b,0,none⟩) n 1) (o++[t]):=by refine .inr ⟨b,L,by simp[ak],by rw[aj,R4]⟩
theorem AE{o:List Int}{t:Int}(h:dx o)(bH:0<=t/\t<4294967296):dx (o++[t]):=h.app λx H=>by simp at H;subst H;exact bH
theorem aAH{dd:B}{v w:Value}{x y:List Int}{fC:Nat}(X:bC dd v x)(aO:bC dd w y)(H:x.length<=fC)(ah:y.length<=fC)(at5:fC<35184372087809){Q:dr->aL->B->Prop}: ∀(r i:Nat) (c:Int) (o:List Int) (aJ:Value) (m:B) (u:aL),
    i+r=fC+1->(i=fC+1->c=0)->a0 dd m->jV dd m aJ o->dx o->o.length=i->0<=c->c<2->val o+c*aZ i=val (x.take i)+val (y.take i)->
    u 0=v->u 1=w->u 5=aJ->u 6=br c->u 7=S i->
    (∀ag N o aJ,a0 dd N->jV dd N aJ o->dx o->o.length<=fC+1->val o=val x+val y->ag 5=aJ->Q (.bI 0) ag N)->ch Tryz.prog (.loop uP) u m Q:=by
  intro r;induction r with
  | zero=>intro i c o aJ m u aa aB an bk aA et g1 cB aU bl aH cv db cP bf;refine eT λb9 a9=> ?_;obtain⟨z,D,Z,aw⟩:=(X.aD an).len;obtain⟨dQ,gx,hh,lA⟩:=(aO.aD an).len;obtain rfl:=aB (by omega);have bp: ¬(i:Int)<x.length:=(by omega);have dc: ¬(i:Int)<y.length:=(by omega);simp(disch:=first|omega|(simp only[ae,ad,af];omega)) [uP,xk,xl,xm,xn,bl,aH,db,cP,z,D,dQ,gx,bp,dc];rw[List.take_of_length_le (l:=x) (by omega),List.take_of_length_le (l:=y) (by omega)]at aU;exact bf _ _ o aJ an bk aA (by omega) (by omega) (by simp[cv])
  | succ r cb=>
    intro i c o aJ m u aa aB an bk aA et g1 cB aU bl aH cv db cP bf;refine eT λb9 a9=> ?_;have gb:=X.aD an;have iS:=aO.aD an;obtain⟨z,D,Z,aw⟩:=gb.len;obtain⟨dQ,gx,hh,lA⟩:=iS.len;have hY:=an.next
    have gh:=hX X.1 i;have Da:=hX aO.1 i;have bo:IntKind.i64.wrap ((i:Int)+1)=(i:Int)+1:=ct (by omega) (by omega);have cS:IntKind.u64.wrap (ay x i)=ay x i:=e0 (by omega) (by omega);have fz:IntKind.u64.wrap (ay y i)=ay y i:=e0 (by omega) (by omega);have hT:IntKind.u64.wrap (c+ay x i)=c+ay x i:=e0 (by omega) (by omega);have hK:IntKind.u64.wrap (c+ay y i)=c+ay y i:=e0 (by omega) (by omega);have iI:IntKind.u64.wrap (c+ay x i+ay y i)=c+ay x i+ay y i:=e0 (by omega) (by omega);have fV:((o.length:Int)+1)*4<=140737488355328:=(by omega);have lP:(o.length+1)*4<=140737488355328:=(by omega);have m3:o.length+1<=9223372036854775807:=(by omega);have ds: ∀(t:Int) (k9:Value) (N:B) (ag:aL),t=c+ay x i+ay y i-> ¬(fC<=i/\c=0)->a0 dd N->jV dd N k9 (o++[t%4294967296])->ag 0=v->ag 1=w->ag 5=k9->ag 6=br (t/4294967296)->ag 7=S ((i:Int)+1)->ch Tryz.prog (.loop uP) ag N Q:=(by intro t k9 N ag bH _ wV UR kP dK mK tU yP;refine cb (i+1) (t/4294967296) (o++[t%4294967296]) k9 N ag (by omega) (λjE=> ?_) wV UR (AE aA (by omega)) (by simp[et]) (by omega) (by omega) (apa aU bH et) kP dK mK tU (by rw[yP];simp) bf;have aM:ay x i=0:=rW (by omega);have a1:ay y i=0:=rW (by omega);omega);by_cases bp:(i:Int)<x.length
    · by_cases dc:(i:Int)<y.length
      · have bn:=gb.j7 (i:=i) (by omega);have bF:=gb.fj (i:=i) (by omega);have dt:=iS.j7 (i:=i) (by omega);have dJ:=iS.fj (i:=i) (by omega);rcases bk with⟨rfl,rfl⟩|⟨b,L,rfl,aj⟩
        · simp(disch:=first|omega|(simp only[ae,ad,af];omega)) [uP,xk,xl,xm,xn,bl,aH,cv,db,cP,z,D,Z,dQ,gx,hh,bp,dc,bn,bF,dt,dJ,bo,cS,fz,hT,iI,iu,qo];refine a9 _ _ (ds (c+ay x i+ay y i) (.slice (some ⟨m.next+4,0,none⟩) 1 1) _ _ (by omega) (by omega) (((an.bs _).au (by omega)).au (by omega)) (jV.oZ (by omega) (by rw[bX (by simp)];rfl) rfl) (by simp[bl]) (by simp[aH]) (by simp) (by simp) (by simp))
        · have cM:=aT aj;simp(disch:=first|omega|(simp only[ae,ad,af];omega)) [uP,xk,xl,xm,xn,bl,aH,cv,db,cP,z,D,Z,dQ,gx,hh,bp,dc,bn,bF,dt,dJ,bo,cS,fz,hT,iI,lP,m3,iu,qo,aj];refine a9 _ _ (ds (c+ay x i+ay y i) (.slice (some ⟨m.next+4,0,none⟩) (o.length+1) 1) _ _ (by omega) (by omega) ((((an.bs _).au (by omega)).au (by omega)).au (by omega)) (jV.oZ (by omega) (by rw[bX (by simp),List.take_of_length_le (by simp)]) rfl) (by simp[bl]) (by simp[aH]) (by simp) (by simp) (by simp))
      · have bn:=gb.j7 (i:=i) (by omega);have bF:=gb.fj (i:=i) (by omega);have a1:ay y i=0:=rW (by omega);rcases bk with⟨rfl,rfl⟩|⟨b,L,rfl,aj⟩
        · simp(disch:=first|omega|(simp only[ae,ad,af];omega)) [uP,xk,xl,xm,xn,bl,aH,cv,db,cP,z,D,Z,dQ,gx,bp,dc,bn,bF,bo,cS,hT,iu,qo];refine a9 _ _ (ds (c+ay x i) (.slice (some ⟨m.next+4,0,none⟩) 1 1) _ _ (by omega) (by omega) (((an.bs _).au (by omega)).au (by omega)) (jV.oZ (by omega) (by rw[bX (by simp)];rfl) rfl) (by simp[bl]) (by simp[aH]) (by simp) (by simp) (by simp))
        · have cM:=aT aj;simp(disch:=first|omega|(simp only[ae,ad,af];omega)) [uP,xk,xl,xm,xn,bl,aH,cv,db,cP,z,D,Z,dQ,gx,bp,dc,bn,bF,bo,cS,hT,lP,m3,iu,qo,aj];refine a9 _ _ (ds (c+ay x i) (.slice (some ⟨m.next+4,0,none⟩) (o.length+1) 1) _ _ (by omega) (by omega) ((((an.bs _).au (by omega)).au (by omega)).au (by omega)) (jV.oZ (by omega) (by rw[bX (by simp),List.take_of_length_le (by simp)]) rfl) (by simp[bl]) (by simp[aH]) (by simp) (by simp) (by simp))
    · by_cases dc:(i:Int)<y.length
      · have aM:ay x i=0:=rW (by omega);have dt:=iS.j7 (i:=i) (by omega);have dJ:=iS.fj (i:=i) (by omega);rcases bk with⟨rfl,rfl⟩|⟨b,L,rfl,aj⟩
        · simp(disch:=first|omega|(simp only[ae,ad,af];omega)) [uP,xk,xl,xm,xn,bl,aH,cv,db,cP,z,D,dQ,gx,hh,bp,dc,dt,dJ,bo,fz,hK,iu,qo];refine a9 _ _ (ds (c+ay y i) (.slice (some ⟨m.next+4,0,none⟩) 1 1) _ _ (by omega) (by omega) (((an.bs _).au (by omega)).au (by omega)) (jV.oZ (by omega) (by rw[bX (by simp)];rfl) rfl) (by simp[bl]) (by simp[aH]) (by simp) (by simp) (by simp))
        · have cM:=aT aj;simp(disch:=first|omega|(simp only[ae,ad,af];omega)) [uP,xk,xl,xm,xn,bl,aH,cv,db,cP,z,D,dQ,gx,hh,bp,dc,dt,dJ,bo,fz,hK,lP,m3,iu,qo,aj];refine a9 _ _ (ds (c+ay y i) (.slice (some ⟨m.next+4,0,none⟩) (o.length+1) 1) _ _ (by omega) (by omega) ((((an.bs _).au (by omega)).au (by omega)).au (by omega)) (jV.oZ (by omega) (by rw[bX (by simp),List.take_of_length_le (by simp)]) rfl) (by simp[bl]) (by simp[aH]) (by simp) (by simp) (by simp))
      · have aM:ay x i=0:=rW (by omega);have a1:ay y i=0:=rW (by omega);by_cases eK:c=0
        · subst eK;simp(disch:=first|omega|(simp only[ae,ad,af];omega)) [uP,xk,xl,xm,xn,bl,aH,db,cP,z,D,dQ,gx,bp,dc];rw[List.take_of_length_le (l:=x) (by omega),List.take_of_length_le (l:=y) (by omega)]at aU;exact bf _ _ o aJ an bk aA (by omega) (by omega) (by simp[cv])
        have kX:0<c:=(by omega);rcases bk with⟨rfl,rfl⟩|⟨b,L,rfl,aj⟩
        · simp(disch:=first|omega|(simp only[ae,ad,af];omega)) [uP,xk,xl,xm,xn,bl,aH,cv,db,cP,z,D,dQ,gx,bp,dc,kX,bo,iu,qo];refine a9 _ _ (ds (c) (.slice (some ⟨m.next+4,0,none⟩) 1 1) _ _ (by omega) (by omega) (((an.bs _).au (by omega)).au (by omega)) (jV.oZ (by omega) (by rw[bX (by simp)];rfl) rfl) (by simp[bl]) (by simp[aH]) (by simp) (by simp) (by simp))
        · have cM:=aT aj;simp(disch:=first|omega|(simp only[ae,ad,af];omega)) [uP,xk,xl,xm,xn,bl,aH,cv,db,cP,z,D,dQ,gx,bp,dc,kX,bo,lP,m3,iu,qo,aj];refine a9 _ _ (ds (c) (.slice (some ⟨m.next+4,0,none⟩) (o.length+1) 1) _ _ (by omega) (by omega) ((((an.bs _).au (by omega)).au (by omega)).au (by omega)) (jV.oZ (by omega) (by rw[bX (by simp),List.take_of_length_le (by simp)]) rfl) (by simp[bl]) (by simp[aH]) (by simp) (by simp) (by simp))
theorem azB{dd:B}{v w:Value}{x y:List Int}(X:bC dd v x)(aO:bC dd w y)(H:Big x)(ah:y.length<=x.length){Q:dr->aL->B->Prop}: ∀(r i:Nat) (c:Int) (o:List Int) (aJ:Value) (m:B) (u:aL),
    i+r=x.length->a0 dd m->jV dd m aJ o->dx o->o.length=i->0<=c->c<2->val o-c*aZ i=val (x.take i)-val (y.take i)->
    u 0=v->u 1=w->u 5=aJ->u 6=br c->u 7=S i->
    (∀ag N o aJ c,a0 dd N->jV dd N aJ o->dx o->o.length=x.length->0<=c->c<2->val o-c*aZ x.length=val x-val y->ag 5=aJ->Q (.bI 0) ag N)->ch Tryz.prog (.loop vS) u m Q:=by
  intro r;induction r with
  | zero=>intro i c o aJ m u aa an bk aA et g1 cB aU bl aH cv db cP bf;refine eT λb9 a9=> ?_;obtain⟨z,D,Z,aw⟩:=(X.aD an).len;have e:i=x.length:=(by omega);have bp: ¬(i:Int)<x.length:=(by omega);simp(disch:=first|omega|(simp only[ae,ad,af];omega)) [vS,yq,yr,yt,yu,yv,bl,cP,z,D,bp];rw[e,List.take_of_length_le (l:=x) (by omega),List.take_of_length_le (l:=y) (by omega)]at aU;exact bf _ _ o aJ c an bk aA (by omega) g1 cB aU (by simp[cv])
  | succ r cb=>
    intro i c o aJ m u aa an bk aA et g1 cB aU bl aH cv db cP bf;refine eT λb9 a9=> ?_;have gb:=X.aD an;have iS:=aO.aD an;obtain⟨z,D,Z,aw⟩:=gb.len;obtain⟨dQ,gx,hh,lA⟩:=iS.len;have hY:=an.next
    have gh:=hX X.1 i;have Da:=hX aO.1 i;have bp:(i:Int)<x.length:=(by omega);have bn:=gb.j7 (i:=i) (by omega);have bF:=gb.fj (i:=i) (by omega);have bo:IntKind.i64.wrap ((i:Int)+1)=(i:Int)+1:=ct (by omega) (by omega);have cS:IntKind.u64.wrap (ay x i)=ay x i:=e0 (by omega) (by omega);have fz:IntKind.u64.wrap (ay y i)=ay y i:=e0 (by omega) (by omega);have hK:IntKind.u64.wrap (c+ay y i)=c+ay y i:=e0 (by omega) (by omega);have mR:IntKind.u64.wrap (ay x i+4294967296)=ay x i+4294967296:=e0 (by omega) (by omega);have fV:((o.length:Int)+1)*4<=140737488355328:=(by omega);have lP:(o.length+1)*4<=140737488355328:=(by omega);have m3:o.length+1<=9223372036854775807:=(by omega);have ds: ∀(t eU O:Int) (k9:Value) (N:B) (ag:aL),t=ay x i-c-ay y i->eU= -(t/4294967296)->O=t%4294967296->a0 dd N->jV dd N k9 (o++[O])->ag 0=v->ag 1=w->ag 5=k9->ag 6=br eU->ag 7=S ((i:Int)+1)->ch Tryz.prog (.loop vS) ag N Q:=(by intro t eU O k9 N ag bH nU bY wV UR kP dK mK tU yP;subst bY nU;exact cb (i+1) (-(t/4294967296)) (o++[t%4294967296]) k9 N ag (by omega) wV UR (AE aA (by omega)) (by simp[et]) (by omega) (by omega) (aC7 aU bH et) kP dK mK tU (by rw[yP];simp) bf);by_cases dc:(i:Int)<y.length
    · have dt:=iS.j7 (i:=i) (by omega);have dJ:=iS.fj (i:=i) (by omega);obtain⟨c4,nQ⟩: ∃c4,c4=c+ay y i:=⟨_,rfl⟩;by_cases eK:ay x i<c4
      · have md:IntKind.u64.wrap (ay x i+4294967296-(c+ay y i))=ay x i+4294967296-(c+ay y i):=e0 (by omega) (by omega);have oB:IntKind.u32.wrap (ay x i+4294967296-(c+ay y i))=ay x i+4294967296-(c+ay y i):=(by rw[iu];omega);rw[nQ]at eK;rcases bk with⟨rfl,rfl⟩|⟨b,L,rfl,aj⟩
        · simp(disch:=first|omega|(simp only[ae,ad,af];omega)) [vS,yq,yr,yt,yu,yv,bl,aH,cv,db,cP,z,D,Z,dQ,gx,hh,bp,dc,eK,bn,bF,dt,dJ,bo,cS,fz,hK,mR,md,oB];refine a9 _ _ (ds (ay x i-c-ay y i) 1 (ay x i+4294967296-(c+ay y i)) (.slice (some ⟨m.next+6,0,none⟩) 1 1) _ _ rfl (by omega) (by omega) (((an.bs _).au (by omega)).au (by omega)) (jV.oZ (by omega) (by rw[bX (by simp)];rfl) rfl) (by simp[bl]) (by simp[aH]) (by simp) (by simp) (by simp))
        · have cM:=aT aj;simp(disch:=first|omega|(simp only[ae,ad,af];omega)) [vS,yq,yr,yt,yu,yv,bl,aH,cv,db,cP,z,D,Z,dQ,gx,hh,bp,dc,eK,bn,bF,dt,dJ,bo,cS,fz,hK,mR,md,oB,lP,m3,aj];refine a9 _ _ (ds (ay x i-c-ay y i) 1 (ay x i+4294967296-(c+ay y i)) (.slice (some ⟨m.next+6,0,none⟩) (o.length+1) 1) _ _ rfl (by omega) (by omega) ((((an.bs _).au (by omega)).au (by omega)).au (by omega)) (jV.oZ (by omega) (by rw[bX (by simp),List.take_of_length_le (by simp)]) rfl) (by simp[bl]) (by simp[aH]) (by simp) (by simp) (by simp))
      · have md:IntKind.u64.wrap (ay x i-(c+ay y i))=ay x i-(c+ay y i):=e0 (by omega) (by omega);have oB:IntKind.u32.wrap (ay x i-(c+ay y i))=ay x i-(c+ay y i):=(by rw[iu];omega);rw[nQ]at eK;rcases bk with⟨rfl,rfl⟩|⟨b,L,rfl,aj⟩
        · simp(disch:=first|omega|(simp only[ae,ad,af];omega)) [vS,yq,yr,yt,yu,yv,bl,aH,cv,db,cP,z,D,Z,dQ,gx,hh,bp,dc,eK,bn,bF,dt,dJ,bo,cS,fz,hK,md,oB];refine a9 _ _ (ds (ay x i-c-ay y i) 0 (ay x i-(c+ay y i)) (.slice (some ⟨m.next+6,0,none⟩) 1 1) _ _ rfl (by omega) (by omega) (((an.bs _).au (by omega)).au (by omega)) (jV.oZ (by omega) (by rw[bX (by simp)];rfl) rfl) (by simp[bl]) (by simp[aH]) (by simp) (by simp) (by simp))
        · have cM:=aT aj;simp(disch:=first|omega|(simp only[ae,ad,af];omega)) [vS,yq,yr,yt,yu,yv,bl,aH,cv,db,cP,z,D,Z,dQ,gx,hh,bp,dc,eK,bn,bF,dt,dJ,bo,cS,fz,hK,md,oB,lP,m3,aj];refine a9 _ _ (ds (ay x i-c-ay y i) 0 (ay x i-(c+ay y i)) (.slice (some ⟨m.next+6,0,none⟩) (o.length+1) 1) _ _ rfl (by omega) (by omega) ((((an.bs _).au (by omega)).au (by omega)).au (by omega)) (jV.oZ (by omega) (by rw[bX (by simp),List.take_of_length_le (by simp)]) rfl) (by simp[bl]) (by simp[aH]) (by simp) (by simp) (by simp))
    · have a1:ay y i=0:=rW (by omega);obtain⟨c4,nQ⟩: ∃c4,c4=c:=⟨_,rfl⟩;by_cases eK:ay x i<c4
      · have md:IntKind.u64.wrap (ay x i+4294967296-(c))=ay x i+4294967296-(c):=e0 (by omega) (by omega);have oB:IntKind.u32.wrap (ay x i+4294967296-(c))=ay x i+4294967296-(c):=(by rw[iu];omega);rw[nQ]at eK;rcases bk with⟨rfl,rfl⟩|⟨b,L,rfl,aj⟩
        · simp(disch:=first|omega|(simp only[ae,ad,af];omega)) [vS,yq,yr,yt,yu,yv,bl,aH,cv,db,cP,z,D,Z,dQ,gx,bp,dc,eK,bn,bF,bo,cS,mR,md,oB];refine a9 _ _ (ds (ay x i-c-ay y i) 1 (ay x i+4294967296-(c)) (.slice (some ⟨m.next+6,0,none⟩) 1 1) _ _ rfl (by omega) (by omega) (((an.bs _).au (by omega)).au (by omega)) (jV.oZ (by omega) (by rw[bX (by simp)];rfl) rfl) (by simp[bl]) (by simp[aH]) (by simp) (by simp) (by simp))
        · have cM:=aT aj;simp(disch:=first|omega|(simp only[ae,ad,af];omega)) [vS,yq,yr,yt,yu,yv,bl,aH,cv,db,cP,z,D,Z,dQ,gx,bp,dc,eK,bn,bF,bo,cS,mR,md,oB,lP,m3,aj];refine a9 _ _ (ds (ay x i-c-ay y i) 1 (ay x i+4294967296-(c)) (.slice (some ⟨m.next+6,0,none⟩) (o.length+1) 1) _ _ rfl (by omega) (by omega) ((((an.bs _).au (by omega)).au (by omega)).au (by omega)) (jV.oZ (by omega) (by rw[bX (by simp),List.take_of_length_le (by simp)]) rfl) (by simp[bl]) (by simp[aH]) (by simp) (by simp) (by simp))
      · have md:IntKind.u64.wrap (ay x i-(c))=ay x i-(c):=e0 (by omega) (by omega);have oB:IntKind.u32.wrap (ay x i-(c))=ay x i-(c):=(by rw[iu];omega);rw[nQ]at eK;rcases bk with⟨rfl,rfl⟩|⟨b,L,rfl,aj⟩
        · simp(disch:=first|omega|(simp only[ae,ad,af];omega)) [vS,yq,yr,yt,yu,yv,bl,aH,cv,db,cP,z,D,Z,dQ,gx,bp,dc,eK,bn,bF,bo,cS,md,oB];refine a9 _ _ (ds (ay x i-c-ay y i) 0 (ay x i-(c)) (.slice (some ⟨m.next+6,0,none⟩) 1 1) _ _ rfl (by omega) (by omega) (((an.bs _).au (by omega)).au (by omega)) (jV.oZ (by omega) (by rw[bX (by simp)];rfl) rfl) (by simp[bl]) (by simp[aH]) (by simp) (by simp) (by simp))
        · have cM:=aT aj;simp(disch:=first|omega|(simp only[ae,ad,af];omega)) [vS,yq,yr,yt,yu,yv,bl,aH,cv,db,cP,z,D,Z,dQ,gx,bp,dc,eK,bn,bF,bo,cS,md,oB,lP,m3,aj];refine a9 _ _ (ds (ay x i-c-ay y i) 0 (ay x i-(c)) (.slice (some ⟨m.next+6,0,none⟩) (o.length+1) 1) _ _ rfl (by omega) (by omega) ((((an.bs _).au (by omega)).au (by omega)).au (by omega)) (jV.oZ (by omega) (by rw[bX (by simp),List.take_of_length_le (by simp)]) rfl) (by simp[bl]) (by simp[aH]) (by simp) (by simp) (by simp))
def A6(m:B)(n:Int)(r:Value)(N:B):Prop:=a0 m N/\bC N r (bG n)
theorem aAI{m:B}{v w:Value}{x y:List Int}(X:bC m v x)(aO:bC m w y)(H:x.length<900000)(ah:y.length<900000):bJ Tryz.prog 162 [v,w] m (A6 m (val x+val y)):=by rw[aqc (by simp)];simp[XC,ahW,ahX,ahY,ahZ];refine aAH X aO (Nat.le_max_left x.length y.length) (Nat.le_max_right x.length y.length) (by omega) (max x.length y.length+1) 0 0 [] (.slice none 0 0) m _ (by omega) (λ_=>rfl) (a0.refl m) (.inl ⟨rfl,rfl⟩) (by simp[dx]) rfl (by omega) (by omega) (by simp[val]) (by simp) (by simp) (by simp) (by simp) (by simp) λag N o aJ dk dV ew f4 jo mK=> ?_;simp[mK];refine(tV (dV.rv ew) (by omega)).aD λr b4 aq=> ?_;simp;rw[jo]at aq;exact⟨dk.trans aq.1,aq.2⟩
theorem Z6{m:B}{v w:Value}{x y:List Int}(X:bC m v x)(aO:bC m w y)(H:Big x)(ah:y.length<=x.length)(fG:val y<=val x):bJ Tryz.prog 164 [v,w] m (A6 m (val x-val y)):=by
  rw[aqe (by simp)];simp[XE,ah0,ah1,ah2,ah3];refine azB X aO H ah x.length 0 0 [] (.slice none 0 0) m _ (by omega) (a0.refl m) (.inl ⟨rfl,rfl⟩) (by simp[dx]) rfl (by omega) (by omega) (by simp[val]) (by simp) (by simp) (by simp) (by simp) (by simp) λag N o aJ c dk dV ew f4 jo mB nN mK=> ?_;have qA:val o=val x-val y:=by
    have iP:=(il ew).2;rw[f4]at iP;have aq:=k8 x.length;have aB:c=0:=by
      rcases(show c=0\/c=1 by omega)with h|h
      · exact h
      · subst h;omega
    subst aB;omega
  simp[mK];refine(tV (dV.rv ew) (by omega)).aD λr b4 aq=> ?_;simp;rw[qA]at aq;exact⟨dk.trans aq.1,aq.2⟩
theorem amL{dd:B}{v w:Value}{a b:List Int}{bq i:Nat}(X:bC dd v a)(aO:bC dd w b)(hF:bq<80000000000000)(BE:i<a.length)(Vl:i+b.length<=bq){aQ:Nat}(jF:dd.next<=aQ){eN:List Int}{Q:dr->aL->B->Prop}: ∀(r j:Nat) (c:Int) (o:List Int) (m:B) (u:aL),
    j+r=b.length->a0 dd m->m.M aQ=some ⟨o.map cT,true⟩->dx o->o.length=bq->0<=c->c<4294967296->val o+c*aZ (i+j)=val eN+aZ i*(ay a i*val (b.take j))->(∀k,i+b.length<=k->ay o k=ay eN k)->
    u 0=v->u 1=w->u 5= .slice (some ⟨aQ,0,none⟩) bq 1->u 6=S i->u 7=br c->u 8=S j->
    (∀ag N o c,a0 dd N->N.M aQ=some ⟨o.map cT,true⟩->dx o->o.length=bq->0<=c->c<4294967296->val o+c*aZ (i+b.length)=val eN+aZ i*(ay a i*val b)->(∀k,i+b.length<=k->ay o k=ay eN k)->
      ag 0=v->ag 1=w->ag 5= .slice (some ⟨aQ,0,none⟩) bq 1->ag 6=S i->ag 7=br c->Q (.bI 2) ag N)->ch Tryz.prog (.loop P7) u m Q
  | 0,j,c,o,m,u,aa,an,aj,aA,et,g1,cB,aU,cE,bl,aH,cv,db,cP,b3,bf=>by refine eT λb9 a9=> ?_;have e:j=b.length:=(by omega);subst e;obtain⟨dQ,gx,hh,lA⟩:=(aO.aD an).len;simp(disch:=first|omega|(simp only[ae,ad,af];omega)) [P7,X6,X7,aH,b3,dQ,gx];rw[List.take_of_length_le (l:=b) (by omega)]at aU;exact bf _ _ o c an aj aA et g1 cB aU cE (by simp[bl]) (by simp[aH]) (by simp[cv]) (by simp[db]) (by simp[cP])
  | r+1,j,c,o,m,u,aa,an,aj,aA,et,g1,cB,aU,cE,bl,aH,cv,db,cP,b3,bf=>by refine eT λb9 a9=> ?_;have gb:=X.aD an;have iS:=aO.aD an;obtain⟨z,D,Z,aw⟩:=gb.len;obtain⟨dQ,gx,hh,lA⟩:=iS.len;obtain⟨k,W⟩: ∃k,k=i+j:=⟨_,rfl⟩;have bK:(j:Int)<b.length:=(by omega);have aAX:(i:Int)<a.length:=(by omega);have bm:(k:Int)<bq:=(by omega);have bU:k<bq:=(by omega);have cn:k+1<=bq:=(by omega);have bn:=gb.j7 (i:=i) (by omega);have bF:=gb.fj (i:=i) (by omega);have dt:=iS.j7 (i:=j) (by omega);have dJ:=iS.fj (i:=j) (by omega);have H:=hX X.1 i;have Da:=hX aO.1 j;have apC:=hX aA k;have bY:o[k]?=some (ay o k):=(by rw[lU (List.getElem?_eq_getElem (by omega)),List.getElem?_eq_getElem (by omega)]);have aq:=Sl H Da;obtain⟨t,bH⟩: ∃t,t=c+ay a i*ay b j+ay o k:=⟨_,rfl⟩;have bo:IntKind.i64.wrap ((j:Int)+1)=(j:Int)+1:=ct (by omega) (by omega);have iI:IntKind.i64.wrap ((i:Int)+(j:Int))=(k:Int):=(by rw[ct (by omega) (by omega)];omega);have cS:IntKind.u64.wrap (ay a i)=ay a i:=e0 (by omega) (by omega);have fz:IntKind.u64.wrap (ay b j)=ay b j:=e0 (by omega) (by omega);have hT:IntKind.u64.wrap (ay o k)=ay o k:=e0 (by omega) (by omega);have hK:IntKind.u64.wrap (ay a i*ay b j)=ay a i*ay b j:=e0 (by omega) (by omega);have mR:IntKind.u64.wrap (ay a i*ay b j+ay o k)=ay a i*ay b j+ay o k:=e0 (by omega) (by omega);have md:IntKind.u64.wrap (ay a i*ay b j+ay o k+c)=t:=(by rw[e0 (by omega) (by omega)];omega);have cM:=aT aj;have mq:k<o.length:=(by omega);have pT:o[k]=ay o k:=(by rw[lU (List.getElem?_eq_getElem mq)]);simp(disch:=first|omega|(simp only[ae,ad,af];omega)) [P7,X6,X7,bl,aH,cv,db,cP,b3,z,Z,dQ,gx,hh,bK,aAX,bm,cn,bn,bF,dt,dJ,bo,cS,fz,hT,hK,iI,mR,md,aj,et,iu,qo,pT,ks];refine a9 _ _ (amL X aO hF BE Vl jF (eN:=eN) r (j+1) (t/4294967296) (o.set k (t%4294967296)) _ _ (by omega) (an.au jF) (by rw[bX cM,m9]) (aA.set k (by omega)) (by simp[et]) (by omega) (by omega) (by subst W;exact alq aU (by rw[<-bY]) (by omega)) (λq bt=>by rw[NR (by omega)];exact cE q bt) (by simp[bl]) (by simp[aH]) (by simp[cv]) (by simp[db]) (by simp) (by simp) bf)
theorem amM{dd:B}{v w:Value}{a b:List Int}{bq:Nat}(X:bC dd v a)(aO:bC dd w b)(hF:bq=a.length+b.length)(aE:Big a)(L:Big b){aQ:Nat}(jF:dd.next<=aQ){Q:dr->aL->B->Prop}: ∀(r i:Nat) (o:List Int) (m:B) (u:aL),
    i+r=a.length->a0 dd m->m.M aQ=some ⟨o.map cT,true⟩->dx o->o.length=bq->val o=val (a.take i)*val b->(∀k,i+b.length<=k->ay o k=0)->
    u 0=v->u 1=w->u 5= .slice (some ⟨aQ,0,none⟩) bq 1->u 6=S i->
    (∀ag N o,a0 dd N->N.M aQ=some ⟨o.map cT,true⟩->dx o->o.length=bq->val o=val a*val b->ag 5= .slice (some ⟨aQ,0,none⟩) bq 1->Q (.bI 0) ag N)->ch Tryz.prog (.loop P8) u m Q
  | 0,i,o,m,u,aa,an,aj,aA,et,aU,cE,bl,aH,cv,db,bf=>by refine eT λb9 a9=> ?_;have e:i=a.length:=(by omega);subst e;obtain⟨z,D,Z,aw⟩:=(X.aD an).len;simp[P8,X4,X5,bl,db,z,D];rw[List.take_of_length_le (l:=a) (by omega)]at aU;exact bf _ _ o an aj aA et aU (by simp[cv])
  | r+1,i,o,m,u,aa,an,aj,aA,et,aU,cE,bl,aH,cv,db,bf=>by
    refine eT λb9 a9=> ?_;have gb:=X.aD an;have iS:=aO.aD an;obtain⟨z,D,Z,aw⟩:=gb.len;obtain⟨dQ,gx,hh,lA⟩:=iS.len;have bK:(i:Int)<a.length:=(by omega);have gh:=hX X.1 i;simp[P8,X4,X5,bl,db,z,D,bK];refine amL (i:=i) (bq:=bq) (aQ:=aQ) X aO (by omega) (by omega) (by omega) jF (eN:=o) b.length 0 0 o _ _ (by omega) an aj aA et (by omega) (by omega) (by simp[val]) (λ_ _=>rfl) (by simp[bl]) (by simp[aH]) (by simp[cv]) (by simp[db]) (by simp) (by simp) λag N o' c dk dV ew f4 jo mB nN uq kP dK mK tU yP=> ?_;obtain⟨k,W⟩: ∃k,k=i+b.length:=⟨_,rfl⟩;have iI:IntKind.i64.wrap ((i:Int)+(b.length:Int))=(k:Int):=(by rw[ct (by omega) (by omega)];omega);have bo:IntKind.i64.wrap ((i:Int)+1)=(i:Int)+1:=ct (by omega) (by omega);have bm:(k:Int)<bq:=(by omega);have bU:k<bq:=(by omega);have cn:k+1<=bq:=(by omega);have cM:=aT dV;simp[dK,mK,tU,yP,dQ,gx,bo,iI,bm,cn,dV,f4,iu];have bY:o'[k]?=some 0:=by have bB:=cE k (by omega);rw[<-uq k (by omega)]at bB;rw[lU (List.getElem?_eq_getElem (by omega))]at bB;rw[List.getElem?_eq_getElem (by omega),bB]
    refine a9 _ _ (amM X aO hF aE L jF r (i+1) (o'.set k (c%4294967296)) _ _ (by omega) (dk.au jF) (by rw[bX cM,m9]) (ew.set k (by omega)) (by simp[f4]) ?_ (λq bt=>by rw[NR (by omega),uq q (by omega)];exact cE q (by omega)) (by simp[kP]) (by simp[dK]) (by simp[mK]) (by simp) bf);rw[S9 _ bY,o0 a,show c%4294967296=c by omega];rw[<-W,aU]at nN
    grind
theorem Sz{m:B}{v w:Value}{a b:List Int}(X:bC m v a)(aO:bC m w b)(aE:a.length<400000)(L:b.length<400000):
    bJ Tryz.prog 172 [v,w] m (A6 m (val a*val b)):=by
  rw[aql (by simp)];obtain⟨z,D,Z,aw⟩:=X.len;obtain⟨dQ,gx,hh,lA⟩:=aO.len;obtain⟨bq,hF⟩: ∃bq,bq=a.length+b.length:=⟨_,rfl⟩;have bo:IntKind.i64.wrap ((a.length:Int)+(b.length:Int))=(bq:Int):=by rw[ct (by omega) (by omega)];omega
  simp[X3,aix,aiy,aiz,z,D,dQ,gx,bo];have k5:a0 m ((m.bs 7).au (m.next+5) (some ⟨List.replicate bq (.int .u32 0),true⟩)):=((a0.refl m).bs 7).au (by omega);refine⟨by omega,amM (bq:=bq) X aO hF (by omega) (by omega) (aQ:=m.next+5) (by omega) a.length 0 (List.replicate bq 0) _ _ (by omega) k5 (by rw[bX (by simp)];simp) (dx.vm _) (by simp) (by simp[val,Ta]) (λk W=>by unfold ay;simp[List.getElem?_replicate];split<;>rfl) (by simp) (by simp) (by simp) (by simp) λag N o dk dV ew f4 jo fZ=> ?_⟩;have J:bC N (.slice (some ⟨m.next+5,0,none⟩) bq 1) o:=bC.se ew dV f4.symm;simp[fZ];refine(tV J (by omega)).aD λr b4 aq=> ?_;simp;rw[jo]at aq;exact⟨dk.trans aq.1,aq.2⟩
end Go.Proofs.YtkpifdkccdndcaaGreat
namespace Go.Big
theorem aDx{o a:List Int}{i:Nat}{G c t:Int}(h:val o+c*aZ i=val (a.take i)*G)(bH:t=c+ay a i*G)(aa:o.length=i):
    val (o++[t%4294967296])+(t/4294967296)*aZ (i+1)=val (a.take (i+1))*G:=by
  rw[ub,aa,o0 a];have:=vg (t:=t) (bu:=4294967296) (by omega);simp only[aZ,val]
  grind
theorem arv{r aJ:List Int}{i:Nat}{G aV:Int}(dB:0<G)(pK:G*aV=4294967296)(h:G*val r=val (aJ.take i)-ay aJ 0%G+(ay aJ i%G)*aZ i)(aa:r.length=i)(bk:dx aJ):
    G*val (r++[((ay aJ (i+1)*4294967296+ay aJ i)/G)%4294967296])=val (aJ.take (i+1))-ay aJ 0%G+(ay aJ (i+1)%G)*aZ (i+1):=by
  have:=adq (r:=r++[0]) (i:=i) dB pK (by rw[List.take_left' aa];exact h) (by simp;omega) bk;rw[<-this];congr 1;have e:(r++[0]).set i ((ay aJ (i+1)*4294967296+ay aJ i)/G%4294967296)=r++[(ay aJ (i+1)*4294967296+ay aJ i)/G%4294967296]:=by subst aa;simp
  rw[e,List.take_of_length_le (by simp;omega)]
end Go.Big
namespace Go.Proofs.YtkpifdkccdndcaaGreat
open Go Go.DI Go.Big
theorem aa9{dd:B}{v:Value}{a:List Int}{s:Nat}{G:Int}(dB:G=(2:Int)^s)(J:s<32)(nB:1<=G/\G<=2147483648)(X:bC dd v a)(aE:Big a){Q:dr->aL->B->Prop}: ∀(r i aQ:Nat) (c:Int) (o:List Int) (m:B) (u:aL),
    i+r=a.length->a0 dd m->dd.next<=aQ->m.M aQ=some ⟨o.map cT,true⟩->dx o->o.length=i->0<=c->c<G->val o+c*aZ i=val (a.take i)*G->
    u 0=v->u 1=S s->u 5= .slice (some ⟨aQ,0,none⟩) o.length 1->u 6=br c->u 7=S i->
    (∀ag N o c aQ,a0 dd N->dd.next<=aQ->N.M aQ=some ⟨o.map cT,true⟩->dx o->o.length=a.length->0<=c->c<G->val o+c*aZ a.length=val a*G->
      ag 5= .slice (some ⟨aQ,0,none⟩) o.length 1->ag 6=br c->Q (.bI 0) ag N)->ch Tryz.prog (.loop Qa) u m Q
  | 0,i,aQ,c,o,m,u,aa,an,jF,aj,aA,et,g1,cB,aU,bl,aH,cv,db,cP,bf=>by refine eT λb9 a9=> ?_;have e:i=a.length:=(by omega);subst e;obtain⟨z,D,Z,aw⟩:=(X.aD an).len;simp(disch:=first|omega|(simp only[ae,ad,af];omega)) [Qa,Ya,Yb,bl,cP,z,D];rw[List.take_of_length_le (l:=a) (by omega)]at aU;exact bf _ _ o c aQ an jF aj aA et g1 cB aU (by simp[cv]) (by simp[db])
  | r+1,i,aQ,c,o,m,u,aa,an,jF,aj,aA,et,g1,cB,aU,bl,aH,cv,db,cP,bf=>by
    refine eT λb9 a9=> ?_;have gb:=X.aD an;obtain⟨z,D,Z,aw⟩:=gb.len;have hY:=an.next
    have bK:(i:Int)<a.length:=(by omega);have bn:=gb.j7 (i:=i) (by omega);have bF:=gb.fj (i:=i) (by omega);have gh:=hX X.1 i;have aq:ay a i*G+G<=4294967296*G:=(by have:=Int.mul_le_mul_of_nonneg_right (show ay a i+1<=4294967296 by omega) (show 0<=G by omega);rw[Int.add_mul,Int.one_mul]at this;exact this);have VG:0<=ay a i*G:=Int.mul_nonneg gh.1 (by omega);obtain⟨t,bH⟩: ∃t,t=c+ay a i*G:=⟨_,rfl⟩;have bo:IntKind.i64.wrap ((i:Int)+1)=(i:Int)+1:=ct (by omega) (by omega);have cS:IntKind.u64.wrap (ay a i)=ay a i:=e0 (by omega) (by omega);have fz:IntKind.u64.wrap (ay a i*G)=ay a i*G:=e0 (by omega) (by omega);have hT:IntKind.u64.wrap ↑((ay a i*G%2^IntKind.u64.bits).toNat|||(c%2^IntKind.u64.bits).toNat)=t:=(by rw[AF dB gh.1 g1 cB (by omega),bH];omega);have hK:(s:Int).tmod 32=s:=(by rw[Int.tmod_eq_emod_of_nonneg (by omega)];omega);have iI:IntKind.u64.wrap (s:Int)=s:=e0 (by omega) (by omega);have ir:min s 64=s:=(by omega);have cM:=aT aj;have fV:((o.length:Int)+1)*4<=140737488355328:=(by omega);have lP:(o.length+1)*4<=140737488355328:=(by omega);have m3:o.length+1<=9223372036854775807:=(by omega);simp(disch:=first|omega|(simp only[ae,ad,af];omega)) [Qa,Ya,Yb,bl,aH,cv,db,cP,z,D,Z,bK,bn,bF,bo,cS,fz,hT,hK,iI,ir,<-dB,aj,iu,qo,lP,m3];refine a9 _ _ (aa9 dB J nB X aE r (i+1) (m.next+4) (t/4294967296) (o++[t%4294967296]) _ _ (by omega) ((((an.bs _).au (by omega)).au (by omega)).au (by omega)) (by omega) (by rw[bX (by simp),List.take_of_length_le (by simp),R4]) (AE aA (by omega)) (by simp[et]) (by omega) (by omega) (aDx aU bH et) (by simp[bl]) (by simp[aH]) (by simp) (by simp) (by simp) bf)
theorem amV{m:B}{v:Value}{a:List Int}{s:Nat}{G:Int}(dB:G=(2:Int)^s)(J:s<32)(nB:1<=G/\G<=2147483648)(X:bC m v a)(aE:a.length<900000):
    bJ Tryz.prog 174 [v,S s] m (A6 m (val a*G)):=by
  rw[acV (by simp)];obtain⟨z,D,Z,aw⟩:=X.len;by_cases cy:a.length=0
  · obtain rfl:a=[]:=List.length_eq_zero_iff.1 cy;simp[GD,KO,KP,KQ,KR,KS,z,D];refine⟨a0.refl m,?_⟩;rw[show val []*G=0 by simp[val],rO (by omega)];exact bC.nil
  · have hK:(s:Int).tdiv 32=0:=(by rw[Int.tdiv_eq_ediv_of_nonneg (by omega)];omega);have bp: ¬(a.length:Int)=0:=(by omega);have dc: ¬a=[]:= λh=>cy (by simp[h]);have iI:IntKind.i64.wrap 0=0:=(by decide);simp[GD,KO,KP,KQ,KR,KS,z,D,hK,iI,cy];refine aa9 dB J nB X (by omega) a.length 0 (m.next+2) 0 [] _ _ (by omega) (((a0.refl m).bs _).au (by omega)) (by omega) (by rw[bX (by simp)];rfl) (by simp[dx]) rfl (by omega) (by omega) (by simp[val]) (by simp) (by simp) (by simp) (by simp) (by simp) λag N o c aQ dk dV ew f4 jo mB nN uq fZ ij=> ?_;have cM:=aT ew;have hY:=dk.next
    have fV:((o.length:Int)+1)*4<=140737488355328:=(by omega);have lP:(o.length+1)*4<=140737488355328:=(by omega);have m3:o.length+1<=9223372036854775807:=(by omega);have atU:o.length=(o.map cT).length:=(by simp);simp(disch:=first|omega|(simp only[ae,ad,af];omega)) [fZ,ij,ew,iu,lP,m3];have DP: ∀{a8:B} {b:Nat},a8.M b=some ⟨List.take o.length (o.map cT)++[cT (c%4294967296)],true⟩->bC a8 (.slice (some ⟨b,0,none⟩) (o.length+1) 1) (o++[c%4294967296]):= λ{a8 b} h=>bC.se (AE f4 (by omega)) (by rw[h,List.take_of_length_le (by simp),R4]) (by simp);refine(tV (DP (bX (by simp))) (by simp;omega)).aD λr b4 aq=> ?_;simp;have e:val (o++[c%4294967296])=val a*G:=(by rw[ub,show c%4294967296=c by omega,jo];simp only[val];rw[<-uq];grind);rw[e]at aq;exact⟨((((dk.bs _).au (by omega)).au (by omega)).au (by omega)).trans aq.1,aq.2⟩
theorem Mf{dd:B}{v:Value}{a:List Int}{s:Nat}{G aV:Int}(dB:G=(2:Int)^s)(J:s<32)(nB:1<=G/\G<=2147483648)(pK:G*aV=4294967296)(X:bC dd v a)(aE:Big a){Q:dr->aL->B->Prop}: ∀(r i:Nat) (aJ:Value) (o:List Int) (m:B) (u:aL),
    i+r=a.length->a0 dd m->jV dd m aJ o->dx o->o.length=i->G*val o=val (a.take i)-ay a 0%G+(ay a i%G)*aZ i->
    u 0=v->u 1=S s->u 5=aJ->u 6=S i->
    (∀ag N o aJ,a0 dd N->jV dd N aJ o->dx o->o.length=a.length->G*val o=val a-ay a 0%G->ag 5=aJ->Q (.bI 0) ag N)->ch Tryz.prog (.loop Eg) u m Q
  | 0,i,aJ,o,m,u,aa,an,bk,aA,et,aU,bl,aH,cv,db,bf=>by refine eT λb9 a9=> ?_;have e:i=a.length:=(by omega);subst e;obtain⟨z,D,Z,aw⟩:=(X.aD an).len;simp(disch:=first|omega|(simp only[ae,ad,af];omega)) [Eg,GF,GG,bl,db,z,D];rw[List.take_of_length_le (l:=a) (by omega),rW (Nat.le_refl _)]at aU;exact bf _ _ o aJ an bk aA et (by simp at aU;omega) (by simp[cv])
  | r+1,i,aJ,o,m,u,aa,an,bk,aA,et,aU,bl,aH,cv,db,bf=>by
    refine eT λb9 a9=> ?_;have gb:=X.aD an;obtain⟨z,D,Z,aw⟩:=gb.len;have hY:=an.next
    have bK:(i:Int)<a.length:=(by omega);have bn:=gb.j7 (i:=i) (by omega);have bF:=gb.fj (i:=i) (by omega);have gh:=hX X.1 i;have apB:=hX X.1 (i+1);obtain⟨t,bH⟩: ∃t,t=ay a (i+1)*4294967296+ay a i:=⟨_,rfl⟩;have bo:IntKind.i64.wrap ((i:Int)+1)=(i:Int)+1:=ct (by omega) (by omega);have cS:IntKind.u64.wrap (ay a i)=ay a i:=e0 (by omega) (by omega);have fz:IntKind.u64.wrap (ay a (i+1))=ay a (i+1):=e0 (by omega) (by omega);have hT:IntKind.u64.wrap (ay a (i+1)*4294967296)=ay a (i+1)*4294967296:=e0 (by omega) (by omega);have hK:(s:Int).tmod 32=s:=(by rw[Int.tmod_eq_emod_of_nonneg (by omega)];omega);have iI:IntKind.u64.wrap (s:Int)=s:=e0 (by omega) (by omega);have mR:IntKind.u64.wrap ↑((ay a i%2^IntKind.u64.bits).toNat|||(ay a (i+1)*4294967296%2^IntKind.u64.bits).toNat)=t:=(by rw[alZ (s:=32) (by decide) apB.1 gh.1 gh.2 (by omega),bH];omega);have md:t.fdiv G=t/G:=Int.fdiv_eq_ediv_of_nonneg t (by omega);have ir:min s 64=s:=(by omega);have fV:((o.length:Int)+1)*4<=140737488355328:=(by omega);have lP:(o.length+1)*4<=140737488355328:=(by omega);have m3:o.length+1<=9223372036854775807:=(by omega);have sE:=arv (r:=o) (i:=i) (by omega) pK aU et X.1;rw[<-bH]at sE;by_cases bp:(i:Int)+1<a.length
    · have dt:=gb.j7 (i:=i+1) (by omega);have dJ:=gb.fj (i:=i+1) (by omega);simp only[Int.natCast_add,Int.cast_ofNat_Int]at dt dJ;have bm:(0:Int)<=(i:Int)+1:=(by omega);rcases bk with⟨rfl,rfl⟩|⟨b,L,rfl,aj⟩
      · simp(disch:=first|omega|(simp only[ae,ad,af];omega)) [Eg,GF,GG,bl,aH,cv,db,z,D,Z,bK,bm,bp,bn,bF,dt,dJ,bo,cS,fz,hT,hK,iI,mR,md,ir,<-dB,iu];refine a9 _ _ (Mf dB J nB pK X aE r (i+1) (.slice (some ⟨m.next+8,0,none⟩) 1 1) ([]++[t/G%4294967296]) _ _ (by omega) (((an.bs _).au (by omega)).au (by omega)) (jV.oZ (by omega) (by rw[bX (by simp)];rfl) rfl) (AE aA (by omega)) (by simp at et⊢;omega) sE (by simp[bl]) (by simp[aH]) (by simp) (by simp) bf)
      · have cM:=aT aj;simp(disch:=first|omega|(simp only[ae,ad,af];omega)) [Eg,GF,GG,bl,aH,cv,db,z,D,Z,bK,bm,bp,bn,bF,dt,dJ,bo,cS,fz,hT,hK,iI,mR,md,ir,<-dB,iu,lP,m3,aj];refine a9 _ _ (Mf dB J nB pK X aE r (i+1) (.slice (some ⟨m.next+8,0,none⟩) (o.length+1) 1) (o++[t/G%4294967296]) _ _ (by omega) ((((an.bs _).au (by omega)).au (by omega)).au (by omega)) (jV.oZ (by omega) (by rw[bX (by simp),List.take_of_length_le (by simp)]) rfl) (AE aA (by omega)) (by simp[et]) sE (by simp[bl]) (by simp[aH]) (by simp) (by simp) bf)
    · have vl:ay a (i+1)=0:=rW (by omega);have oB:(ay a i).fdiv G=t/G:=(by rw[bH,vl,Int.fdiv_eq_ediv_of_nonneg _ (by omega)];simp);rcases bk with⟨rfl,rfl⟩|⟨b,L,rfl,aj⟩
      · simp(disch:=first|omega|(simp only[ae,ad,af];omega)) [Eg,GF,GG,bl,aH,cv,db,z,D,Z,bK,bp,bn,bF,bo,cS,hK,iI,oB,ir,<-dB,iu];refine a9 _ _ (Mf dB J nB pK X aE r (i+1) (.slice (some ⟨m.next+8,0,none⟩) 1 1) ([]++[t/G%4294967296]) _ _ (by omega) (((an.bs _).au (by omega)).au (by omega)) (jV.oZ (by omega) (by rw[bX (by simp)];rfl) rfl) (AE aA (by omega)) (by simp at et⊢;omega) sE (by simp[bl]) (by simp[aH]) (by simp) (by simp) bf)
      · have cM:=aT aj;simp(disch:=first|omega|(simp only[ae,ad,af];omega)) [Eg,GF,GG,bl,aH,cv,db,z,D,Z,bK,bp,bn,bF,bo,cS,hK,iI,oB,ir,<-dB,iu,lP,m3,aj];refine a9 _ _ (Mf dB J nB pK X aE r (i+1) (.slice (some ⟨m.next+8,0,none⟩) (o.length+1) 1) (o++[t/G%4294967296]) _ _ (by omega) ((((an.bs _).au (by omega)).au (by omega)).au (by omega)) (jV.oZ (by omega) (by rw[bX (by simp),List.take_of_length_le (by simp)]) rfl) (AE aA (by omega)) (by simp[et]) sE (by simp[bl]) (by simp[aH]) (by simp) (by simp) bf)
theorem aBh{m:B}{v:Value}{a:List Int}{s:Nat}{G aV:Int}(dB:G=(2:Int)^s)(J:s<32)(nB:1<=G/\G<=2147483648)(pK:G*aV=4294967296)(X:bC m v a)(aE:a.length<900000):
    bJ Tryz.prog 175 [v,S s] m (A6 m (val a/G)):=by
  rw[aqn (by simp)];obtain⟨z,D,Z,aw⟩:=X.len;have hK:(s:Int).tdiv 32=0:=by rw[Int.tdiv_eq_ediv_of_nonneg (by omega)];omega
  have iI:IntKind.i64.wrap 0=0:=by decide
  by_cases cy:a.length=0
  · obtain rfl:a=[]:=List.length_eq_zero_iff.1 cy;simp[Qb,Yc,Yd,Ye,Yf,z,D,hK,iI];refine⟨a0.refl m,?_⟩;rw[show val []/G=0 by simp[val],rO (by omega)];exact bC.nil
  · have bp: ¬(a.length:Int)<=0:=(by omega);have dc: ¬a=[]:= λh=>cy (by simp[h]);simp[Qb,Yc,Yd,Ye,Yf,z,D,hK,iI,cy];refine Mf dB J nB pK X (by omega) a.length 0 (.slice none 0 0) [] _ _ (by omega) (a0.refl m) (.inl ⟨rfl,rfl⟩) (by simp[dx]) rfl (by simp[val,aZ];rw[Int.add_left_neg]) (by simp) (by simp) (by simp) (by simp) λag N o aJ dk dV ew f4 jo fZ=> ?_;simp[fZ];refine(tV (dV.rv ew) (by omega)).aD λr b4 aq=> ?_;simp;have e:val o=val a/G:=by
      have gi:=Int.emod_nonneg (ay a 0) (show G≠0 by omega);have aM:=Int.emod_lt_of_pos (ay a 0) (show 0<G by omega);have a1:val a=val o*G+ay a 0%G:=(by rw[Int.mul_comm (val o)];omega);exact(Df a1 gi aM).1.symm
    rw[e]at aq;exact⟨dk.trans aq.1,aq.2⟩
end Go.Proofs.YtkpifdkccdndcaaGreat
namespace Go.Big
structure a6 where
  bV:Bool
  n:Int
  d:Int
  deriving DecidableEq
def a6.zero:a6:=⟨false,0,0⟩
def a6.ha:a6:=⟨false,1,1⟩
def a6.nil:a6:=⟨false,0,1⟩
def a6.vv(x:a6):Bool:=decide (x.n<aZ 128)&&decide (x.d<aZ 128)
def a6.ok(x:a6):Bool:=decide (0<x.d)&&decide (x.d<aZ 128)&&decide (x.n<aZ 128)
def ej(x:a6):a6:=⟨x.bV&&decide (0<x.n),x.n/kc x.n x.d,x.d/kc x.n x.d⟩
def lI(x y:a6):a6:=
  if x.bV=y.bV then⟨x.bV,x.n*y.d+y.n*x.d,x.d*y.d⟩
  else if y.n*x.d<=x.n*y.d then⟨x.bV,x.n*y.d-y.n*x.d,x.d*y.d⟩else⟨y.bV,y.n*x.d-x.n*y.d,x.d*y.d⟩
def ju(x y:a6):Int:=
  if x.bV&&decide (x.n≠0)then(if y.bV&&decide (y.n≠0)then h8 (y.n*x.d) (x.n*y.d)else-1)
  else if y.bV&&decide (y.n≠0)then 1 else h8 (x.n*y.d) (y.n*x.d)
def mw(x:a6):Int×a6:=if x.vv then(0,x)else(2,.zero)
def rr(x:a6):Int×a6:=if x.ok then mw (ej x)else(1,.zero)
def jg(x y:a6):Int×a6:=if x.ok&&y.ok then mw (ej (lI x y))else(1,.zero)
def kl:a6->List a6->Int×a6
  |s,[]=>(0,s)
  |s,x::l=>if(jg s x).1=0 then kl (jg s x).2 l else((jg s x).1,.zero)
theorem sV{a b:Int}{i j:Nat}(aE:0<=a)(L:0<=b)(z:a<aZ i)(D:b<aZ j):a*b<aZ (i+j):=by rw[AH];have Z:a*b<=a*aZ j:=Int.mul_le_mul_of_nonneg_left (by omega) aE;have aw:a*aZ j<aZ i*aZ j:=Int.mul_lt_mul_of_pos_right z (k8 j);omega
theorem x5{a b:Int}(L:0<b):0<kc a b:=by unfold kc;have:=Nat.gcd_pos_of_pos_right a.toNat (show 0<b.toNat by omega);omega
theorem aep{a b:Int}(L:0<b):kc a b<=b:=by unfold kc;have:=Nat.gcd_le_right a.toNat (show 0<b.toNat by omega);omega
theorem UH{a b:Int}(aE:0<=a):kc a b∣a:=by
  unfold kc;have:=Nat.gcd_dvd_left a.toNat b.toNat;have h:=Int.ofNat_dvd.2 this
  rwa [Int.toNat_of_nonneg aE]at h
theorem NP{a b:Int}(L:0<=b):kc a b∣b:=by
  unfold kc;have:=Nat.gcd_dvd_right a.toNat b.toNat;have h:=Int.ofNat_dvd.2 this
  rwa [Int.toNat_of_nonneg L]at h
theorem II{g b:Int}(aj:0<g)(L:0<b)(h:g∣b):0<b/g:=by
  obtain⟨c,rfl⟩:=h;rw[Int.mul_ediv_cancel_left _ (by omega)];by_cases aB:0<c
  · exact aB
  · have:g*c<=0:=Int.mul_nonpos_of_nonneg_of_nonpos (by omega) (by omega);omega
section
variable {x:a6}
theorem xw(ak:0<=x.n)(aR:0<x.d):0<=(ej x).n/\(ej x).n<=x.n:=by have g:=x5 (a:=x.n) aR;exact⟨Int.ediv_nonneg ak (by omega),Int.ediv_le_self _ ak⟩
theorem yE(aR:0<x.d):0<(ej x).d/\(ej x).d<=x.d:=by have g:=x5 (a:=x.n) aR;exact⟨II g aR (NP (by omega)),Int.ediv_le_self _ (by omega)⟩
theorem RZ(ak:0<=x.n)(aR:0<x.d):0<(ej x).n↔0<x.n:=by have g:=x5 (a:=x.n) aR;refine⟨λh=>by have:=(xw ak aR).2;omega,λh=>II g h (UH ak)⟩
theorem a6.nq:x.ok=true↔0<x.d/\x.d<aZ 128/\x.n<aZ 128:=by simp[a6.ok,and_assoc]
theorem a6.FB:x.vv=true↔x.n<aZ 128/\x.d<aZ 128:=by simp[a6.vv]
theorem ay8(H:x.ok=true)(ak:0<=x.n):(ej x).vv=true:=by obtain⟨z,D,Z⟩:=a6.nq.1 H;have:=(xw ak z).2;have:=(yE z).2;exact a6.FB.2 ⟨by omega,by omega⟩
theorem HG(H:x.ok=true)(ak:0<=x.n):rr x=(0,ej x):=by simp[rr,H,mw,ay8 H ak]
theorem Ss(H: ¬x.ok=true):rr x=(1,.zero):=by simp[rr,H]
end
theorem Sb{n:Int}:jj n<=4096↔n<aZ 128:=by have:=Ax 4096 n;rw[Sn];exact this
theorem azN{n:Int}:jj n<=1↔n<=1:=by have:=Ax 1 n;simp at this;omega
theorem LU{n:Int}:jj n<=0↔n<=0:=by have:=Ax 0 n;simp at this;omega
theorem aac{n:Int}:jj n<=32↔n<4294967296:=by have:=Ax 32 n;simp at this;omega
theorem aq6(a b:Int):h8 b a= -h8 a b:=by unfold h8;split<;>(try split)<;>(try split)<;>omega
end Go.Big
