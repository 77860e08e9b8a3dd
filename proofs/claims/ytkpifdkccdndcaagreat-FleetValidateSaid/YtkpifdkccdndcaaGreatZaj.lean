/-
  A part of the proof of the statement, in texts that tools of ours (wip/shrink.py, irpack.py, relax.py, minify.py, join.py, lay.py) have shortened.
-/
import Derived.Test.YtkpifdkccdndcaaGreatZai
set_option linter.all false
set_option maxRecDepth 8000
set_option maxHeartbeats 16000000
namespace Go.Proofs.YtkpifdkccdndcaaGreat
open Go Go.DI Go.Big
theorem a7.Ox{fJ:Nat}{oR m N:E}(h:a7 oR m)(F:kX fJ m N)(ar:oR.next<=fJ):a7 oR N:=⟨nC h.next F.next,λb K=>by rw[F.U b (nz K h.next) (by omega),h.U b K]⟩
theorem aMb{cy cT:Int}{n:Nat}{z jr:List Int}{j:Nat}(h:qa cy cT n z jr (j+1))(c6:j+1<=jr.length):z=z.take j++(z.drop j).take (n+1)++z.drop (j+n+1)/\(z.take j).length=j/\((z.drop j).take (n+1)).length=n+1:=by have aE:=h.len;refine⟨?_,by simp;omega,by simp;omega⟩;rw[ug,show j+n+1=j+(n+1) by omega,<-s9,Ex,Ex]
theorem awx{oR:E}{v:Value}{fq:List Int}{fJ jO s n dV bX aU:Nat}{ep next cy cT:Int}(av:n=dV+2)(sB:fq.length=n)(ajS:n<35184372087809)(aRs:aU<35184372087809)(aRw:bX=aU+n)(jT:cT=val fq)(tD:ep=az fq (dV+1))(ajU:next=az fq dV)(bm:2147483648<=ep)
    (HY:ai v≠some fJ) (CQ:ai v≠some jO) (mW:fJ≠jO) (nL:oR.next<=fJ) (FE:oR.next<=jO) {bF:aM}
    (Wm:bF 8=L s) (Wn:bF 9= .slice (some ⟨fJ,0,none⟩) bX 1) (aM3:bF 10=v) (aM4:bF 11=X n) (aM5:bF 12= .slice (some ⟨jO,0,none⟩) aU 1) (aM6:bF 13=L ep) (aM7:bF 14=L next) {Q:dp->aM->E->Prop}: ∀(N8:Nat) (z jr:List Int) (m:E) (u:aM),
    N8<=aU->a7 oR m->m.U fJ=some ⟨z.map c3,true⟩->m.U jO=some ⟨jr.map c3,true⟩->bP m v fq->qa cy cT n z jr N8->jr.length=aU->u 15=X ((N8:Int)-1)->(∀t,t<15->u t=bF t)->
    (∀ae N z jr,a7 oR N->N.U fJ=some ⟨z.map c3,true⟩->N.U jO=some ⟨jr.map c3,true⟩->qa cy cT n z jr 0->jr.length=aU->(∀t,t<15->ae t=bF t)->Q (.bw 2) ae N)->cH Z (.loop M6) u m Q:=by
  intro N8;induction N8 with
  | zero=>intro z jr m u c6 ah pN zg S uH Mg hH cL a1;refine fc λcp aZ=> ?_;simp(disch:=first|omega|simp only[b3];omega) [M6,aaH,aaI,aaJ,aaK,hH];exact a1 _ _ z jr ah pN zg uH Mg (by(repeat refine ub (by decide) ?_);exact cL)
  | succ j cB=>
    intro z jr m u c6 ah pN zg S uH Mg hH cL a1;refine fc λcp aZ=> ?_;have ch:=(cL 8 (by omega)).trans Wm;have e4:=(cL 9 (by omega)).trans Wn;have jE:=(cL 10 (by omega)).trans aM3;have hc:=(cL 11 (by omega)).trans aM4;have kA:=(cL 12 (by omega)).trans aM5;have iJ:=(cL 13 (by omega)).trans aM6;have ie:=(cL 14 (by omega)).trans aM7;obtain⟨eK,H8⟩: ∃eK,eK=j+dV:=⟨_,rfl⟩;have vw:z.length=bX:=(by have:=uH.len;omega);have dB:=h4 uH.qE eK;have cM:=h4 uH.qE (eK+1);have dq:=h4 uH.qE (eK+2);have Ks: ∀i,i<bX->z[i]?=some (az z i):= λi ag=>by rw[lE (c0 (by omega)),c0 (by omega)]
    have A8:=Ks eK (by omega);have Mq:=Ks (eK+1) (by omega);have qp:=Ks (eK+2) (by omega);obtain⟨kl,A7⟩:=dg.1 Mq;obtain⟨pa,FI⟩:=dg.1 qp;have da:IntKind.i64.wrap ((j:Int)+(n:Int))=(eK:Int)+2:=(by rw[fo (by omega) (by omega)];omega);have fB:IntKind.i64.wrap ((eK:Int)+2-1)=(eK:Int)+1:=(by rw[fo (by omega) (by omega)];omega);have ij:IntKind.u64.wrap (az z (eK+2))=az z (eK+2):=fi (by omega) (by omega);have h1:IntKind.u64.wrap (az z (eK+1))=az z (eK+1):=fi (by omega) (by omega);have iZ:IntKind.u64.wrap (az z (eK+2)*4294967296)=az z (eK+2)*4294967296:=fi (by omega) (by omega);obtain⟨kt,LO⟩: ∃kt,kt=az z (eK+2)*4294967296+az z (eK+1):=⟨_,rfl⟩;have mL:IntKind.u64.wrap ↑((az z (eK+2)*4294967296%2^IntKind.u64.bits).toNat|||(az z (eK+1)%2^IntKind.u64.bits).toNat)=kt:=(by rw[BR (s:=32) (by decide) dq.1 cM.1 cM.2 (by omega)];omega);have tt:=h4 S.1 (dV+1);have hl:=h4 S.1 dV;rw[<-tD]at tt;rw[<-ajU]at hl;have aJ:0<=kt/ep:=Am (by omega) (by omega);have aj:kt/ep<18446744073709551616:=Int.lt_of_le_of_lt (EC _ (by omega)) (by omega);have ba:kt/ep<8589934592:=Int.ediv_lt_of_lt_mul (by omega) (by omega);have p2:=yH kt (show ep≠0 by omega);have eT:=xr kt (show 0<ep by omega);have aV1:=Int.emod_add_mul_ediv kt ep;have l7:IntKind.u64.wrap (kt.tdiv ep)=kt/ep:=(by rw[Eu (by omega)];exact fi aJ aj);have oV:kt.tmod ep=kt%ep:=Py (by omega);have bC:(eK:Int)+2<bX:=(by omega);have cq:eK+2<bX:=(by omega);have cZ:eK+2+1<=bX:=(by omega);have fR:(eK:Int)+1<bX:=(by omega);have gA:eK+1<bX:=(by omega);have jC:eK+1+1<=bX:=(by omega);have uW:(0:Int)<=(eK:Int)+2:=(by omega);have qG:(0:Int)<=(eK:Int)+1:=(by omega);have Vk:((eK:Int)+2).toNat=eK+2:=(by omega);have aeV:((eK:Int)+1).toNat=eK+1:=(by omega);have aL0: ¬ep=0:=(by omega);simp(disch:=first|omega|simp only[b3];omega) [M6,aaH,aaI,aaJ,aaK,e4,hc,iJ,hH,pN,vw,A7,FI,da,fB,ij,h1,iZ,mL,l7,oV,bC,cZ,fR,jC,uW,qG,Vk,aeV,aL0,lj];obtain⟨db,kT⟩: ∃db,db=(z.drop j).take (n+1):=⟨_,rfl⟩;obtain⟨nK,lF,uA⟩:=aMb uH (by omega);rw[<-kT]at nK uA;have Lz: ∀i,i<=n->az db i=az z (j+i):= λi ag=>by rw[kT,Fg (by omega),HQ]
    have aqz:dT db:=(by rw[kT];exact(uH.qE.drop j).take _);have XY:=aLU (aG:=db) (n:=dV) (by omega);rw[Lz _ (by omega),Lz _ (by omega),Lz _ (by omega),show j+(dV+2)=eK+2 by omega,show j+(dV+1)=eK+1 by omega,<-H8]at XY;have XZ:=asp (v:=fq) (n:=dV) (by omega);rw[<-tD,<-ajU,<-jT]at XZ;have P1:=ih (S.1.take dV);rw[k9,s8 (by omega)]at P1;have P3:=ih (aqz.take dV);rw[k9,s8 (by omega)]at P3;obtain⟨asz,asA⟩:=uH.agZ;rw[<-kT]at asz asA;have vs:kt/ep*ep=ep*(kt/ep):=m9 _ _;refine ax3 (n:=n) (j:=j) (bX:=bX) pN vw (by omega) (show eK+2=j+n by omega) A8 (k6 dV) P1.1 P1.2 XZ XY P3.1 P3.2 ⟨bm,tt.2⟩ hl dB cM dq.1 asA (kt/ep).toNat (kt/ep) (kt%ep) _ (by omega) (by omega) aJ (by omega) p2 (by omega) (by rw[LO];exact ax4 (k6 dV) P1.1 XZ XY P3.2 (by omega) hl.1 dB.2 (by omega)) (by simp[e4]) (by simp[hc]) (by simp[iJ]) (by simp[ie]) (by simp[hH]) (by simp) (by simp) (λ_ _=>rfl) λcC g bh bt c1 e0 w8 vT=> ?_;have sM:=(vT 8 (by omega)).trans (show _=L s by simp[ch]);have JR:=(vT 9 (by omega)).trans (show _= .slice (some ⟨fJ,0,none⟩) bX 1 by simp[e4]);have D0:=(vT 10 (by omega)).trans (show _=v by simp[jE]);have uU:=(vT 11 (by omega)).trans (show _=X n by simp[hc]);have D1:=(vT 12 (by omega)).trans (show _= .slice (some ⟨jO,0,none⟩) aU 1 by simp[kA]);have w7:=(vT 15 (by omega)).trans (show _=X j by simp[hH]);have Ip: ∀t,t<15->cC t=bF t:= λt bm=>(vT t (by omega)).trans ((by(repeat refine ub (by decide) ?_);exact cL: ∀t,t<15->_=bF t) t bm);obtain⟨e,a2⟩: ∃e,e=j+n+1:=⟨_,rfl⟩;have cx:IntKind.i64.wrap ((eK:Int)+2+1)=(e:Int):=(by rw[fo (by omega) (by omega)];omega);have c8:(j:Int)<=e:=(by omega);have eM:(e:Int)<=bX:=(by omega);have gY:e-j=n+1:=(by omega);have LQ:0<cT:=(by have:=uH.low;have:=(ih ((uH.qE.drop (j+1)).take n)).1;omega);have HU:cT<a3 n:=(by have:=(ih S.1).2;rw[sB]at this;omega);simp(disch:=omega) [JR,D0,uU,w7,w8,da,cx,c8,eM,gY];refine(aLJ S HY sB ajS ⟨bh,bt⟩ lF aqz uA pN nK).aD λr N Y=> ?_;obtain⟨k,aa,rfl,Ic,w,dH,cE,eo,e8,f5,nk⟩:=Y;have cg:=aO zg;have Q3:N.U jO=some ⟨jr.map c3,true⟩:=(by rw[Ic.U jO cg (Ne.symm mW),zg]);have auM:=ih e8;rw[f5]at auM;have pw:IntKind.i64.wrap ((j:Int)+1-1)=(j:Int):=(by rw[fo (by omega) (by omega)];omega);have atg:IntKind.i64.wrap ((j:Int)-1)=(j:Int)-1:=fo (by omega) (by omega);have gk:(j:Int)<aU:=(by omega);have h6:j<aU:=(by omega);have px:j+1<=aU:=by omega
    -- lN end ek a ars
    have lg: ∀(g:Int) (w dH:List Int) (N:E) (ae:aM),0<=g->g<4294967296->a7 oR N->N.U fJ=some ⟨dH.map c3,true⟩->dH=z.take j++w++z.drop (j+n+1)->N.U jO=some ⟨(jr.set j g).map c3,true⟩->bP N v fq->dT w->w.length=n+1->val w=val db-g*cT->val w<cT->ae 15=X ((j:Int)-1)->(∀t,t<15->ae t=bF t)->cH Z (.loop M6) ae N Q:=(by intro g w dH N ae eI bY awl awp auR awo awq aws dj awr awg auP awt;refine cB dH (jr.set j g) N ae (by omega) awl awp awo awq ?_ (by simp[Mg]) auP awt a1;rw[auR];exact uH.step (by omega) dj aws ⟨eI,bY⟩ (by rw[<-kT];exact awr) awg (by omega));rcases aa with rfl|rfl
    · -- lN ajb q3 right
      simp only[Int.zero_mul,Int.add_zero]at nk;have py:IntKind.u32.wrap g=g:=(by rw[iv];omega);simp(disch:=omega) [D1,w7,w8,atg,gk,px,py,Q3,Mg];have aX:(g+1)*cT=g*cT+cT:=(by grind);have azc:=aO Q3;refine aZ _ _ (lg g w dH _ _ bh bt ((ah.Ox Ic nL).an FE) (by rw[dC mW,cE]) eo (by rw[cW azc,m4]) ((S.qz HY Ic).qz CQ (kX.refl jO _).an) e8 f5 (by rw[nk,jT]) (by rw[nk,<-jT];omega) (by simp) (by(repeat refine ub (by decide) ?_);exact Ip))
    · -- lN ajb q3 hS aZw aRh
      simp only[Int.one_mul]at nk;have H6:1<=g:=by
        by_cases h:1<=g
        · exact h
        · have:g=0:=(by omega);subst this;simp at nk;omega
      have yD:IntKind.u64.wrap (g-1)=g-1:=fi (by omega) (by omega);have py:IntKind.u32.wrap (g-1)=g-1:=(by rw[iv];omega);simp(disch:=omega) [JR,D0,uU,w7,w8,da,cx,c8,eM,gY,yD];refine(aJt (S.qz HY Ic) HY sB ajS lF e8 f5 cE eo).aD λfk cc e9=> ?_;obtain⟨dL,tw,YL,asN,lx,ks,ps,Pg,J9,B8⟩:=e9;have ajD:cc.U jO=some ⟨jr.map c3,true⟩:=(by rw[YL.U jO (aO Q3) (Ne.symm mW),Q3]);have xX:=aO ajD;simp(disch:=omega) [D1,w7,atg,gk,px,py,ajD,Mg];have WT:=ih Pg;rw[J9]at WT;have L7:val db<g*cT:=(by rw[<-jT]at nk;omega);have iN:val asN=val db-(g-1)*cT:=by have ayx:cT<=a3 (n+1):=(by have:=OL (show n<=n+1 by omega);omega);refine awA (P:=a3 (n+1)) (k:=dL) LQ ayx asz c1 L7 tw ?_ WT.1 WT.2;rw[B8,nk,<-jT];rcases tw with rfl|rfl<;>omega
      have aX:(g-1)*cT=g*cT-cT:=(by grind);refine aZ _ _ (lg (g-1) asN lx _ _ (by omega) (by omega) (((ah.Ox Ic nL).Ox YL nL).an FE) (by rw[dC mW,ks]) ps (by rw[cW xX,m4]) (((S.qz HY Ic).qz HY YL).qz CQ (kX.refl jO _).an) Pg J9 iN (by omega) (by simp) (by(repeat refine ub (by decide) ?_);exact Ip))
theorem aio{oR:E}{fJ fE s n bX:Nat}{z:List Int}{ax aU:Int}(gh:ax=(2:Int)^s)(M:s<32)(nG:1<=ax/\ax<=2147483648)(qh:ax*aU=4294967296)(dD:dT z)(vw:z.length=bX)(azq:n+1<=bX)(hv:bX<80000000000000)(aki:fJ≠fE)(aj7:oR.next<=fE)(nL:oR.next<=fJ){bF:aM}
    (Wm:bF 8=L s) (Wn:bF 9= .slice (some ⟨fJ,0,none⟩) bX 1) (atk:bF 19= .slice (some ⟨fE,0,none⟩) n 1) {aem:E} {Q:dp->aM->E->Prop}: ∀(r i:Nat) (o:List Int) (m:E) (u:aM),
    i+r=n->kX fE aem m->a7 oR m->m.U fJ=some ⟨z.map c3,true⟩->m.U fE=some ⟨o.map c3,true⟩->dT o->o.length=n->ax*val (o.take i)=val (z.take i)-az z 0%ax+(az z i%ax)*a3 i->
    u 166=X n->u 167=X i->(∀t,t<20->u t=bF t)->
    (∀ae N o,kX fE aem N->a7 oR N->N.U fE=some ⟨o.map c3,true⟩->dT o->o.length=n->ax*val o=val (z.take n)-az z 0%ax+(az z n%ax)*a3 n->(∀t,t<20->ae t=bF t)->Q (.bw 6) ae N)->cH Z (.loop Sw) u m Q
  | 0,i,o,m,u,ag,F,ah,pN,Q4,aA,eQ,a2,Vy,afv,cL,a1=>by refine fc λcp aZ=> ?_;have e:i=n:=(by omega);subst e;simp[Sw,aaL,aaM,Vy,afv];rw[fw (l:=o) (by omega)]at a2;exact a1 _ _ o F ah Q4 aA eQ a2 (by(repeat refine ub (by decide) ?_);exact cL)
  | r+1,i,o,m,u,ag,F,ah,pN,Q4,aA,eQ,a2,Vy,afv,cL,a1=>by
    refine fc λcp aZ=> ?_;have ch:=(cL 8 (by omega)).trans Wm;have e4:=(cL 9 (by omega)).trans Wn;have m3:=(cL 19 (by omega)).trans atk;have dB:=h4 dD i;have cM:=h4 dD (i+1);have Ks: ∀i,i<bX->z[i]?=some (az z i):= λi ag=>by rw[lE (c0 (by omega)),c0 (by omega)]
    have A8:=Ks i (by omega);have Mq:=Ks (i+1) (by omega);obtain⟨mz,zo⟩:=dg.1 A8;obtain⟨kl,A7⟩:=dg.1 Mq;have bc:=e7 (n:=i) (by omega);have da:IntKind.u64.wrap (az z i)=az z i:=fi (by omega) (by omega);have fB:IntKind.u64.wrap (az z (i+1))=az z (i+1):=fi (by omega) (by omega);have ij:IntKind.u64.wrap (az z (i+1)*4294967296)=az z (i+1)*4294967296:=fi (by omega) (by omega);obtain⟨t,bm⟩: ∃t,t=az z (i+1)*4294967296+az z i:=⟨_,rfl⟩;have h1:IntKind.u64.wrap ↑((az z (i+1)*4294967296%2^IntKind.u64.bits).toNat|||(az z i%2^IntKind.u64.bits).toNat)=t:=(by rw[BR (s:=32) (by decide) cM.1 dB.1 dB.2 (by omega)];omega);have hV:min s 64=s:=(by omega);have e:(2:Int)^s=ax:=gh.symm;have iZ:t.fdiv ax=t/ax:=Kq t (by omega);have bC:(i:Int)<bX:=(by omega);have cq:i<bX:=(by omega);have cZ:i+1<=bX:=(by omega);have fR:(i:Int)+1<bX:=(by omega);have gA:i+1<bX:=(by omega);have jC:i+1+1<=bX:=(by omega);have uW:(0:Int)<=(i:Int)+1:=(by omega);have qG:((i:Int)+1).toNat=i+1:=(by omega);have Vk:(i:Int)<n:=(by omega);have aeV:i<n:=(by omega);have aeW:i+1<=n:=(by omega);have cg:=aO Q4;simp(disch:=first|omega|simp only[b3];omega) [Sw,aaL,aaM,ch,e4,m3,Vy,afv,pN,Q4,vw,eQ,zo,A7,bc,da,fB,ij,h1,iZ,hV,e,bC,cZ,fR,jC,uW,qG,Vk,aeW,lj,iv];refine aZ _ _ (aio gh M nG qh dD vw azq hv aki aj7 nL Wm Wn atk r (i+1) (o.set i ((t/ax)%4294967296)) _ _ (by omega) F.an (ah.an aj7) (by rw[dC aki,pN]) (by rw[cW cg,m4]) (aA.set i (by omega)) (by simp[eQ]) ?_ (by simp[Vy]) (by simp) (by(repeat refine ub (by decide) ?_);exact cL) a1);rw[bm];exact aip (by omega) qh a2 (by omega) dD
def ahl(m:E)(x y:Int)(r:Value)(N:E):Prop:=a7 m N/\ ∃q s,r= .tuple #[q,s]/\bP N q (bL (x/y))/\bP N s (bL (x%y))
theorem ain{m:E}{v w:Value}{a b:List Int}(S:bP m v a)(aS:bP m w b)(aC:Go.Big.kC a)(K:Go.Big.kC b)(C0:Big a)(uG:Big b)(dE:b≠[]):
    bU Z 159 [v,w] m (ahl m (val a) (val b)):=by
  rw[avl (by simp)];obtain⟨B,H,af,aL⟩:=S.len;obtain⟨eh,gB,g1,lh⟩:=aS.len;have asJ:=(ih aC.1).1;have Ki:=K.aqS dE;have uD:1<=b.length:=by have:=Kn.2 dE;omega
  by_cases bM:val a<val b
  · have bY:ix (val a) (val b)<0:=(by rw[AF bM];omega);simp[M4,Sj,Sn,Sp,Sq,Sr,Ss,St,Su,Sv,Sk,Sl,Sm,So,K3 S aS C0 uG,bY];refine(V0 S C0).aD λr N Y=> ?_;simp;refine⟨Y.1,_,_,rfl,?_,?_⟩
    · rw[Int.ediv_eq_zero_of_lt asJ bM,so (by omega)];exact bP.nil
    · rw[Int.emod_eq_of_lt asJ bM];exact Y.2
  have bY: ¬ix (val a) (val b)<0:=by unfold ix;rw[if_neg bM];split<;>omega
  by_cases dL:b.length=1
  · obtain⟨d,rfl⟩: ∃d,b=[d]:=Pt.1 dL;have ay:=K.1 d (by simp);have Ce:val [d]=d:=(by simp[val]);rw[Ce]at Ki bM;have bh:=aS.j3 (i:=0) (by simp);have bt:=aS.fu (i:=0) (by simp);rw[show az [d] 0=d from rfl]at bt;simp only[Hn]at bh bt;simp only[nB,Hh]at eh;simp[M4,Sj,Sn,Sp,Sq,Sr,Ss,St,Su,Sv,Sk,Sl,Sm,So,K3 S aS C0 uG,bY,eh,gB,g1,bh,bt];refine(aLm S (d:=d) ⟨Ki,ay.2⟩ C0).aD λr N Y=> ?_;obtain⟨ah,q,rfl,bz⟩:=Y;have p2:=yH (val a) (show d≠0 by omega);have eT:=xr (val a) Ki;have da:IntKind.u64.wrap (val a%d)=val a%d:=fi p2 (by omega);simp[da];refine(UQ p2 (by omega)).aD λfk cc e9=> ?_;simp;refine⟨ah.trans e9.1,_,_,rfl,?_,?_⟩
    · rw[Ce];exact bz.aD e9.1
    · rw[Ce];exact e9.2
  · obtain⟨dV,rO⟩: ∃dV,b.length=dV+2:=⟨b.length-2,by omega⟩;obtain⟨n,av⟩: ∃n,n=dV+2:=⟨_,rfl⟩;have BC: ¬(n:Int)=1:=(by omega);have wF:az b (dV+1)≠0:=by
      have:=K.ep rO (c0 (by omega));rw[lE (c0 (by omega))];exact this
    have AY:=h4 K.1 (dV+1);have fN:b.length<=a.length:=by
      by_cases h:b.length<=a.length
      · exact h
      · have:=kC.Jz aC.1 K (by omega);omega
    rw[rO,<-av]at eh;simp(disch:=omega) [M4,Sj,Sn,Sp,Sq,Sr,Ss,St,Su,Sv,Sk,Sl,Sm,So,K3 S aS C0 uG,bY,eh,gB,BC];refine aLk aS (n:=dV+1) rO uG (by omega) 31 0 1 _ (by omega) (by simp) (by omega) (by decide) (by omega) (by simp) (by simp) (λ_ _=>rfl) λcC s ax aU cM dq jw kQ ti rD sM vT=> ?_;have po:=(vT 0 (by omega)).trans (show _=v by simp);have ez:=(vT 1 (by omega)).trans (show _=w by simp);simp(disch:=first|omega|simp only[b3];omega) [po,ez,sM,eh,gB];refine(asF dq cM jw S C0).aD λeT bo fG=> ?_;obtain⟨pQ,fJ,z,rfl,Ri,ajE,dD,aRp,ayl⟩:=fG;simp(disch:=first|omega|simp only[b3];omega) [];refine(asF dq cM jw (aS.aD pQ) uG).aD λfk cc e9=> ?_;obtain⟨tz,yC,a5,rfl,aR7,Yn,o9,XU,aym⟩:=e9;obtain⟨p9,oG⟩: ∃p9,p9+n=a.length+1:=⟨a.length+1-n,by omega⟩;have cr:IntKind.i64.wrap ((a.length:Int)+1-(n:Int))=(p9:Int):=(by rw[fo (by omega) (by omega)];omega);have X4:b.length=n:=(by omega);rw[X4]at XU;have cx:IntKind.i64.wrap ((n:Int)-1)=(dV:Int)+1:=(by rw[fo (by omega) (by omega)];omega);have c8:IntKind.i64.wrap ((n:Int)-2)=(dV:Int):=(by rw[fo (by omega) (by omega)];omega);have eM:IntKind.i64.wrap ((p9:Int)-1)=(p9:Int)-1:=fo (by omega) (by omega);have azf:=aO ajE;have aRW:=aO Yn;have ajF:=tz.some ajE;have aRU:=aO ajF;have aj:=h4 o9 (dV+1);have aJ:=h4 o9 dV;have Mq:a5[dV+1]?=some (az a5 (dV+1)):=(by rw[lE (c0 (by omega)),c0 (by omega)]);have A8:a5[dV]?=some (az a5 dV):=(by rw[lE (c0 (by omega)),c0 (by omega)]);obtain⟨kl,A7⟩:=dg.1 Mq;obtain⟨mz,zo⟩:=dg.1 A8;have da:IntKind.u64.wrap (az a5 (dV+1))=az a5 (dV+1):=fi (by omega) (by omega);have bc:IntKind.u64.wrap (az a5 dV)=az a5 dV:=fi (by omega) (by omega);have bC:(dV:Int)+1<n:=(by omega);have cq:(dV:Int)<n:=(by omega);have cZ:(0:Int)<=(dV:Int)+1:=(by omega);have fR:((dV:Int)+1).toNat=dV+1:=(by omega);have gA:dV+1+1<=n+1:=(by omega);have jC:dV+1<=n+1:=(by omega);have uW:dV+1<n+1:=(by omega);have qG:dV<n+1:=(by omega);have Vk:dV+1<=n:=(by omega);have aeV:dV<=n:=(by omega);have aeW:(n:Int)<=(n:Int)+1:=(by omega);have aVh:dV<n:=(by omega);simp(disch:=first|omega|simp only[b3];omega) [X4,cr,cx,c8,eM,Yn,XU,A7,zo,da,bc,bC,cq,cZ,fR,gA,jC,aeW,lj];obtain⟨VL,agy,aLj⟩:=aLl K.1 rO (by omega) kQ ti rD o9 (by omega) aym;rw[show dV+1+1=n by omega]at VL agy;have aRZ:fJ≠yC:=(by omega);have Fp:a7 cc ((cc.bx 6).an (cc.next+4) (some ⟨List.replicate p9 (.int .u32 0),true⟩)):=((a7.refl cc).bx 6).an (by omega);have ay0:=Fp.some Yn;have ayY:=Fp.some ajF;have ayV:((cc.bx 6).an (cc.next+4) (some ⟨List.replicate p9 (.int .u32 0),true⟩)).U (cc.next+4)=some ⟨(List.replicate p9 (0:Int)).map c3,true⟩:=(by rw[cW (by simp)];simp);have azU:bP ((cc.bx 6).an (cc.next+4) (some ⟨List.replicate p9 (.int .u32 0),true⟩)) (.slice (some ⟨yC,0,none⟩) n 1) (a5.take n):=by have:=(bP.mk o9 ay0).take (n:=n) (by omega);rw[B5]at this;simpa using this
    have uH:qa (val a*ax) (val (a5.take n)) n z (List.replicate p9 0) p9:=(by have:=qa.aLB (cy:=val a*ax) (cT:=val (a5.take n)) (n:=dV+1) (na:=a.length) (k:=p9) (ax:=ax) dD (by omega) (by omega) ayl rfl (ih aC.1).2 (by omega) (by rw[VL];exact aLj);rw[show dV+1+1=n by omega]at this;exact this);have aR5:=pQ.next
    have aR6:=tz.next
    refine⟨by omega,awx (oR:=m) (n:=n) (dV:=dV) (bX:=a.length+1) (aU:=p9) (fJ:=fJ) (jO:=cc.next+4) (s:=s) av (by simp;omega) (by omega) (by omega) (by omega) rfl (ep:=az a5 (dV+1)) (by rw[Fg (by omega)]) (next:=az a5 dV) (by rw[Fg (by omega)]) (by rw[Fg (by omega)]at agy;exact agy)
      (by simp[ai];omega) (by simp[ai];omega) (by omega) Ri (by omega) (by simp[sM]) (by simp) (by simp) (by simp) (by simp) (by simp) (by simp) p9 z (List.replicate p9 0) _ _ (eB _) ((pQ.trans tz).trans Fp) ayY ayV azU uH (by simp) (by simp) (λ_ _=>rfl) λev iA lx jr ck cE eo e8 f5 Vj=> ?_⟩
    obtain⟨j5,lC,qc⟩:=e8.done (by rw[VL];exact Int.mul_pos Ki (by omega));have OM:=(Vj 8 (by omega)).trans (show _=L s by simp[sM]);have aq5:=(Vj 9 (by omega)).trans (show _= .slice (some ⟨fJ,0,none⟩) (a.length+1) 1 by simp);have aeY:=(Vj 11 (by omega)).trans (show _=X n by simp);have aeZ:=(Vj 12 (by omega)).trans (show _= .slice (some ⟨cc.next+4,0,none⟩) p9 1 by simp);have ajQ:=aO eo;have aRV:=aO cE;simp[aeY];have CN:a7 iA ((iA.bx 3).an (iA.next+1) (some ⟨List.replicate n (.int .u32 0),true⟩)):=((a7.refl iA).bx 3).an (by omega);have ayZ:=CN.some cE;have ayW:((iA.bx 3).an (iA.next+1) (some ⟨List.replicate n (.int .u32 0),true⟩)).U (iA.next+1)=some ⟨(List.replicate n (0:Int)).map c3,true⟩:=(by rw[cW (by simp)];simp);have ayi:lx.length=a.length+1:=(by have:=e8.len;omega);have hR:=ck.next
    refine⟨by omega,aio (oR:=m) (n:=n) (bX:=a.length+1) (fJ:=fJ) (fE:=iA.next+1) dq cM jw kQ e8.qE ayi (by omega) (by omega) (by omega) (by omega) Ri (by simp[OM]) (by simp[aq5]) (by simp) (aem:=(iA.bx 3).an (iA.next+1) (some ⟨List.replicate n (.int .u32 0),true⟩)) n 0 (List.replicate n 0) _ _ (by omega) (kX.refl _ _) (ck.trans CN) ayZ ayW (dT.wg _) (by simp) (by simp[val,a3];omega) (by simp) (by simp) (λ_ _=>rfl) λn2 iW o aX bg dU ha kF ni aq3=> ?_⟩;have Pe:=(aq3 12 (by omega)).trans (show _= .slice (some ⟨cc.next+4,0,none⟩) p9 1 by simp[aeZ]);have agQ:=(aq3 19 (by omega)).trans (show _= .slice (some ⟨iA.next+1,0,none⟩) n 1 by simp);have Fu:iW.U (cc.next+4)=some ⟨jr.map c3,true⟩:=(by rw[aX.U _ (by simp;omega) (by omega),CN.some eo]);have aj6:bP iW (.slice (some ⟨cc.next+4,0,none⟩) p9 1) jr:=bP.sK e8.aeA Fu f5.symm;have aj9:bP iW (.slice (some ⟨iA.next+1,0,none⟩) n 1) o:=bP.sK ha dU kF.symm;have apY:=ky jr;have cK:=ky o;have aHg:(c2 jr:Int)<=p9:=(by omega);have ad8:(c2 o:Int)<=n:=by omega
    -- lN aH2
    have mh:0<val b*ax:=Int.mul_pos Ki (by omega);have aJS:=yH (val a) (show val b≠0 by omega);have aJT:=xr (val a) Ki;have aJU:=Int.emod_add_mul_ediv (val a) (val b);have key:=EY (c3:=val a*ax) (cT:=val b*ax) (q:=val a/val b) (r:=(val a%val b)*ax) (by
      have:(val a%val b+val b*(val a/val b))*ax=val a*ax:=by rw[aJU]
      grind) (mq aJS (by omega)) (Wp aJT (by omega))
    rw[VL]at j5 lC;rw[key.1]at j5;rw[key.2]at lC;have ayj:az lx n=0:=by
      by_cases h:n<lx.length
      · rw[lE (c0 h)];exact e8.ag n _ (by omega) (c0 h)
      · exact su (by omega)
    have ayh:az lx 0%ax=0:=by
      have hh:=sq lx 0;rw[yI]at hh;have iV:az lx 0=ax*(val a%val b-aU*val (lx.drop 1)):=by
        have mf:val lx=val a%val b*ax:=(by omega);have QS:4294967296*val (lx.drop (0+1))=ax*aU*val (lx.drop 1):=by rw[kQ]
        grind
      rw[iV,Int.mul_emod_right]
    have az3:val o=val a%val b:=(by rw[ayj,ayh,<-lC,m9 (val a%val b)]at ni;simp only[Int.zero_emod,Int.zero_mul,Int.sub_zero,Int.add_zero]at ni;exact Int.eq_of_mul_eq_mul_left (by omega) ni);simp[Pe,agQ,mZ aj6 (by omega),mZ aj9 (by omega),aHg,ad8];refine⟨bg,_,_,rfl,?_,?_⟩
    · have:=aj6.bL;rw[B5,<-j5]at this;simpa using this
    · have:=aj9.bL;rw[B5,az3]at this;simpa using this
end Go.Proofs.YtkpifdkccdndcaaGreat
namespace Go.Big
def md(a b:Int):Int:=(Nat.gcd a.toNat b.toNat:Nat)
theorem ai4{a:Int}(h:0<=a):md a 0=a:=by simp[md];omega
theorem ai3{a b:Int}(aC:0<=a)(K:0<b):md a b=md b (a%b):=by unfold md;rw[Nat.gcd_comm,Nat.gcd_rec,Nat.gcd_comm,Int.toNat_emod aC (by omega)]
def jn(n:Int):Int:=if h:n<=0 then 0 else jn (n/2)+1
termination_by n.toNat
decreasing_by omega
theorem DT{n:Int}(h:n<=0):jn n=0:=by rw[jn];simp[h]
theorem JG{n:Int}(h:0<n):jn n=jn (n/2)+1:=by rw[jn];simp;omega
theorem aqo: ∀(k:Nat) (n:Int),n.toNat<=k->0<=jn n
  |0,n,h=>by rw[DT (by omega)];omega
  | k+1,n,h=>by
    by_cases av:n<=0
    · rw[DT av];omega
    · rw[JG (by omega)];have:=aqo k (n/2) (by omega);omega
theorem aer(n:Int):0<=jn n:=aqo _ n (eB _)
theorem BK: ∀(k:Nat) (n:Int),jn n<=k↔n<2^k
  | 0,n=>by
    by_cases av:n<=0
    · rw[DT av];simp;omega
    · rw[JG (by omega)];have:=aer (n/2);simp;omega
  | k+1,n=>by
    have Y:(0:Int)<2^k:=(by have iV:=Nat.two_pow_pos k;have mf:((2^k:Nat):Int)=(2:Int)^k:=(by simp);omega);rw[Int.pow_succ];by_cases av:n<=0
    · rw[DT av];constructor
      · intro _;omega
      · intro _;omega
    · rw[JG (by omega)];have:=BK k (n/2);constructor
      · intro h;have:=this.1 (by omega);omega
      · intro h;have:=this.2 (by omega);omega
theorem Vi: ∀k,a3 k=2^(32*k)
  |0=>rfl
  | k+1=>by rw[show 32*(k+1)=32*k+32 by omega,Int.pow_add,<-Vi k];simp only[a3];rw[m9];rfl
theorem aes{a:List Int}{n:Nat}(h:dT a)(av:c2 a=n+1):jn (val a)=n*32+jn (az a n):=by
  have aE:=ky a;have t:=Pk (l:=a.take (n+1)) (n:=n) (by simp;omega);rw[<-av,Kg]at t;rw[av,Fg (by omega),List.take_take,s8 (by omega)]at t;have WN:=ih (h.take n);rw[k9,s8 (by omega)]at WN;have g:=h4 h n;have aRg:az a n≠0:=by rw[lE (c0 (by omega))];exact JJ av (c0 (by omega))
  obtain⟨k,aa⟩: ∃k:Nat,jn (az a n)=(k:Int)+1:=by have B:=JG (n:=az a n) (by omega);have H:=aer (az a n/2);exact⟨(jn (az a n/2)).toNat,by omega⟩
  have fP:=(BK (k+1) (az a n)).1 (by omega);have dX: ¬az a n<2^k:= λh=>by have:=(BK k (az a n)).2 h;omega
  have Y:=k6 n;have hU:jn (val a)<=((32*n+(k+1):Nat):Int):=(BK _ _).2 (by rw[Int.pow_add,<-Vi];have:(az a n+1)*a3 n<=2^(k+1)*a3 n:=n1 (by omega) (by omega);rw[m9 (a3 n)];have e:(az a n+1)*a3 n=az a n*a3 n+a3 n:=(by grind);omega);have iQ: ¬jn (val a)<=((32*n+k:Nat):Int):= λa6=>by have:=(BK _ _).1 a6;rw[Int.pow_add,<-Vi]at this;have af:2^k*a3 n<=az a n*a3 n:=n1 (by omega) (by omega);rw[m9 (a3 n)]at this;omega
  omega
end Go.Big
namespace Go.Proofs.YtkpifdkccdndcaaGreat
open Go Go.DI Go.Big
def dS(m:E)(v:Value)(n:Int):Prop:= ∃l,bP m v l/\Big l/\val l=n
theorem dS.aD{m N:E}{v:Value}{n:Int}(h:dS m v n)(ah:a7 m N):dS N v n:=by obtain⟨l,B,H,af⟩:=h;exact⟨l,B.aD ah,H,af⟩
theorem dS.qB{m:E}{v:Value}{n:Int}(h:dS m v n):0<=n:=by obtain⟨l,B,_,rfl⟩:=h;exact(ih B.1).1
theorem bP.de{m:E}{v:Value}{n:Int}{k:Nat}(h:bP m v (Big.bL n))(bH:0<=n)(av:n<a3 k)(aa:k<35184372087809):dS m v n:=
  ⟨_,h,by have:=rG bH av;omega,iD bH⟩
def Wt(m:E)(x y:Int)(r:Value)(N:E):Prop:=a7 m N/\ ∃q s,r= .tuple #[q,s,X 0]/\bP N q (bL (x/y))/\bP N s (bL (x%y))
theorem awz{m:E}{v w:Value}{a b:List Int}(S:bP m v a)(aS:bP m w b)(aC:Big a)(K:Big b)(na:c2 a<=512)(DS:c2 b<=512)(dE:val b≠0):
    bU Z 130 [v,w] m (Wt m (val a) (val b)):=by
  rw[au4 (by simp)];obtain⟨B,H,af,aL⟩:=S.len;obtain⟨eh,gB,g1,lh⟩:=aS.len;have jd:=ky a;have qx:=ky b;have zH: ¬512<c2 a:=by omega
  have zI: ¬512<c2 b:=by omega
  have gn:=S.bL;have ja:=aS.bL;have qd:=uS S.1;have rH:=uS aS.1;have El:=iD (ih S.1).1;have yC:=iD (ih aS.1).1;have mh:c2 b≠0:= λh=>by have:=Kg b;rw[h]at this;simp[val]at this;omega
  simp[Z3,ak2,ak3,ak4,w0 S aC,w0 aS K,mZ S aC,mZ aS K,B,af,eh,g1,zH,zI,jd,qx,mh];refine(ain gn ja (o2 _) (o2 _) (by omega) (by omega) (λh=>by rw[h]at rH;simp at rH;omega)).aD λr N Y=> ?_;rw[El,yC]at Y;obtain⟨ah,q,s,rfl,bz,M⟩:=Y;simp;exact⟨ah,q,s,rfl,bz,M⟩
theorem axT{dv:E}{Q:dp->aM->E->Prop}: ∀(r:Nat) (cV di:Int) (v w:Value) (m:E) (u:aM),di<=r->0<=cV->0<=di->cV<a3 512->di<a3 512->a7 dv m->bP m v (bL cV)->bP m w (bL di)->u 0=v->u 1=w->
    (∀ae N b2,a7 dv N->bP N b2 (bL (md cV di))->ae 0=b2->Q (.bw 0) ae N)->cH Z (.loop R1) u m Q:=by
  intro r;induction r with
  | zero=>intro cV di v w m u aH mg n7 Gt BD ah S aS b1 aw a1;refine fc λcp aZ=> ?_;obtain rfl:di=0:=(by omega);obtain⟨B,H,af,aL⟩:=aS.len;rw[so (by omega)]at B;simp only[Hh]at B;simp[R1,aw,B,H];exact a1 _ _ v ah (by rw[ai4 mg];exact S) (by simp[b1])
  | succ r cB=>
    intro cV di v w m u aH mg n7 Gt BD ah S aS b1 aw a1;by_cases bH:di=0
    · exact cB cV di v w m u (by omega) mg n7 Gt BD ah S aS b1 aw a1
    · refine fc λcp aZ=> ?_;obtain⟨B,H,af,aL⟩:=aS.len;have BG:=rG mg Gt;have q7:=rG n7 BD;have dE:bL di≠[]:= λh=>by have:=iD n7;rw[h]at this;simp[val]at this;omega
      have Y:=Kn.2 dE;have wK:(0:Int)<((bL di).length:Int):=(by omega);simp[R1,b1,aw,B,H,Y];refine(ain S aS (o2 _) (o2 _) (by omega) (by omega) dE).aD λfk cc e9=> ?_;rw[iD mg,iD n7]at e9;obtain⟨tz,q,s,rfl,bz,M⟩:=e9;simp[aw];have iF:=yH cV (show di≠0 by omega);have aX:=xr cV (show 0<di by omega);refine aZ _ _ (cB di (cV%di) w s cc _ (by omega) n7 iF BD (by omega) (ah.trans tz) (aS.aD tz) M (by simp) (by simp) λae N b2 ck cE eo=> ?_);exact a1 ae N b2 ck (by rw[ai3 mg (by omega)];exact cE) eo
theorem axV{m:E}{v w:Value}{a b:List Int}(S:bP m v a)(aS:bP m w b)(aC:Big a)(K:Big b)(na:c2 a<=512)(DS:c2 b<=512):
    bU Z 129 [v,w] m (wm m (md (val a) (val b))):=by
  rw[au3 (by simp)];have zH: ¬512<c2 a:=by omega
  have zI: ¬512<c2 b:=by omega
  simp[Z2,akY,akZ,ak0,ak1,w0 S aC,w0 aS K,zH,zI];refine(V0 S aC).aD λeT bo fG=> ?_;simp;refine(V0 (aS.aD fG.1) K).aD λfk cc e9=> ?_;simp;refine axT (dv:=m) (val b).toNat (val a) (val b) eT fk cc _ (by omega) (ih S.1).1 (ih aS.1).1 ((BM S.1 _).1 na) ((BM aS.1 _).1 DS) (fG.1.trans e9.1) (fG.2.aD e9.1) e9.2 (by simp) (by simp) λae N b2 ck cE eo=> ?_;simp[eo];exact⟨ck,b2,rfl,cE⟩
theorem auG{m:E}{Q:dp->aM->E->Prop}: ∀(r:Nat) (k t:Int) (u:aM),t<=r->0<=t->t<4294967296->0<=k->k+r<10000000000000000->u 4=X k->u 5=c3 t->
    (∀ae,ae 4=X (k+jn t)->Q (.bw 0) ae m)->cH Z (.loop Ua) u m Q:=by
  intro r;induction r with
  | zero=>intro k t u aH bH B eK bM fv cv a1;refine fc λcp aZ=> ?_;obtain rfl:t=0:=(by omega);simp[Ua,adE,cv];exact a1 _ (by simp[fv,DT])
  | succ r cB=>
    intro k t u aH bH B eK bM fv cv a1;by_cases bm:t=0
    · exact cB k t u (by omega) bH B eK (by omega) fv cv a1
    · refine fc λcp aZ=> ?_;have bY:0<t:=(by omega);have bc:IntKind.i64.wrap (k+1)=k+1:=fo (by omega) (by omega);have da:t.fdiv 2=t/2:=Kq t (by omega);simp[Ua,adE,fv,cv,bY,bc,da];exact aZ _ _ (cB (k+1) (t/2) _ (by omega) (by omega) (by omega) (by omega) (by omega) (by simp) (by simp) λae h=>a1 ae (by rw[h,JG bY];congr 1;omega))
theorem auH{m:E}{v:Value}{l:List Int}(S:bP m v l)(aE:Big l)(aI:Value->E->Prop):bU Z 87 [v] m aI=aI (X (jn (val l))) m:=by
  refine(oB.r5 ?_).wp;rw[avT (by simp)];obtain⟨B,H,af,aL⟩:=S.len;have av:=ky l;by_cases bM:c2 l=0
  · have YY:val l=0:=(by have:=Kg l;rw[bM]at this;simpa[val]using this.symm);simp[T9,adA,adB,adC,adD,adF,mZ S aE,bM];rw[YY,DT (by omega)]
  · obtain⟨n,aa⟩: ∃n,c2 l=n+1:=⟨c2 l-1,by omega⟩;have bh:=S.j3 (i:=n) (by omega);have bt:=S.fu (i:=n) (by omega);have g:=h4 S.1 n;have eI: ¬(n:Int)+1=0:=(by omega);have bY:(n:Int)<l.length:=(by omega);have bc:IntKind.i64.wrap (n:Int)=n:=fo (by omega) (by omega);have da:IntKind.i64.wrap ((n:Int)*32)=(n:Int)*32:=fo (by omega) (by omega);simp[T9,adA,adB,adC,adD,adF,mZ S aE,aa,eI,bY,B,af,bh,bt,bc,da];refine auG (az l n).toNat ((n:Int)*32) (az l n) _ (by omega) g.1 g.2 (by omega) (by omega) (by simp) (by simp) λae h=> ?_;simp[h,aes S.1 aa]
def jS(dv m:E)(v:Value)(o:List Int):Prop:=(v= .slice none 0 0/\o=[])\/ ∃b,dv.next<=b/\v= .slice (some ⟨b,0,none⟩) o.length 1/\m.U b=some ⟨o.map c3,true⟩
theorem jS.nV{dv m:E}{v:Value}{o:List Int}(h:jS dv m v o)(aa:dT o):bP m v o:=by
  rcases h with⟨rfl,rfl⟩|⟨b,_,rfl,h⟩
  · exact bP.nil
  · exact bP.mk aa h
theorem UR{o:List Int}{t:Int}:o.map c3++[c3 t]=(o++[t]).map c3:=by simp
theorem jS.pr{dv m:E}{o:List Int}{t:Int}{b n:Nat}(K:dv.next<=b)(aq:m.U b=some ⟨o.map c3++[c3 t],true⟩)(av:n=o.length+1):jS dv m (.slice (some ⟨b,0,none⟩) n 1) (o++[t]):=by refine .inr ⟨b,K,by simp[av],by rw[aq,UR]⟩
theorem BP{o:List Int}{t:Int}(h:dT o)(bm:0<=t/\t<4294967296):dT (o++[t]):=h.app λx F=>by simp at F;subst F;exact bm
theorem aIy{dv:E}{v w:Value}{x y:List Int}{fQ:Nat}(S:bP dv v x)(aS:bP dv w y)(F:x.length<=fQ)(ab:y.length<=fQ)(azp:fQ<35184372087809){Q:dp->aM->E->Prop}: ∀(r i:Nat) (c:Int) (o:List Int) (aG:Value) (m:E) (u:aM),
    i+r=fQ+1->(i=fQ+1->c=0)->a7 dv m->jS dv m aG o->dT o->o.length=i->0<=c->c<2->val o+c*a3 i=val (x.take i)+val (y.take i)->
    u 0=v->u 1=w->u 5=aG->u 6=L c->u 7=X i->
    (∀ae N o aG,a7 dv N->jS dv N aG o->dT o->o.length<=fQ+1->val o=val x+val y->ae 5=aG->Q (.bw 0) ae N)->cH Z (.loop vE) u m Q:=by
  intro r;induction r with
  | zero=>intro i c o aG m u ag aK ah ar aA eQ eI bY a2 b1 aw cv dn c7 a1;refine fc λcp aZ=> ?_;obtain⟨B,H,af,aL⟩:=(S.aD ah).len;obtain⟨eh,gB,g1,lh⟩:=(aS.aD ah).len;obtain rfl:=aK (by omega);have bM: ¬(i:Int)<x.length:=(by omega);have dL: ¬(i:Int)<y.length:=(by omega);simp(disch:=first|omega|simp only[b3];omega) [vE,yc,yd,ye,yf,b1,aw,dn,c7,B,H,eh,gB,bM,dL];rw[fw (l:=x) (by omega),fw (l:=y) (by omega)]at a2;exact a1 _ _ o aG ah ar aA (by omega) (by omega) (by simp[cv])
  | succ r cB=>
    intro i c o aG m u ag aK ah ar aA eQ eI bY a2 b1 aw cv dn c7 a1;refine fc λcp aZ=> ?_;have gn:=S.aD ah;have ja:=aS.aD ah;obtain⟨B,H,af,aL⟩:=gn.len;obtain⟨eh,gB,g1,lh⟩:=ja.len;have hR:=ah.next
    have ht:=h4 S.1 i;have ET:=h4 aS.1 i;have bc:=e7 (n:=i) (by omega);have da:IntKind.u64.wrap (az x i)=az x i:=fi (by omega) (by omega);have fB:IntKind.u64.wrap (az y i)=az y i:=fi (by omega) (by omega);have ij:IntKind.u64.wrap (c+az x i)=c+az x i:=fi (by omega) (by omega);have h1:IntKind.u64.wrap (c+az y i)=c+az y i:=fi (by omega) (by omega);have iZ:IntKind.u64.wrap (c+az x i+az y i)=c+az x i+az y i:=fi (by omega) (by omega);have gv:((o.length:Int)+1)*4<=140737488355328:=(by omega);have m0:(o.length+1)*4<=140737488355328:=(by omega);have m1:o.length+1<=9223372036854775807:=(by omega);have bj: ∀(t:Int) (kB:Value) (N:E) (ae:aM),t=c+az x i+az y i-> ¬(fQ<=i/\c=0)->a7 dv N->jS dv N kB (o++[t%4294967296])->ae 0=v->ae 1=w->ae 5=kB->ae 6=L (t/4294967296)->ae 7=X ((i:Int)+1)->cH Z (.loop vE) ae N Q:=(by intro t kB N ae bm _ AX XO po ez l2 r7 z0;refine cB (i+1) (t/4294967296) (o++[t%4294967296]) kB N ae (by omega) (λjJ=> ?_) AX XO (BP aA (by omega)) (by simp[eQ]) (by omega) (by omega) (aug a2 bm eQ) po ez l2 r7 (by rw[z0];simp) a1;have aX:az x i=0:=su (by omega);have bg:az y i=0:=su (by omega);omega);by_cases bM:(i:Int)<x.length
    · by_cases dL:(i:Int)<y.length
      · have bh:=gn.j3 (i:=i) (by omega);have bt:=gn.fu (i:=i) (by omega);have cM:=ja.j3 (i:=i) (by omega);have dq:=ja.fu (i:=i) (by omega);rcases ar with⟨rfl,rfl⟩|⟨b,K,rfl,aq⟩
        · simp(disch:=first|omega|simp only[b3];omega) [vE,yc,yd,ye,yf,b1,aw,cv,dn,c7,B,H,af,eh,gB,g1,bM,dL,bh,bt,cM,dq,bc,da,fB,ij,iZ,iv,qV];refine aZ _ _ (bj (c+az x i+az y i) (.slice (some ⟨m.next+4,0,none⟩) 1 1) _ _ (by omega) (by omega) (((ah.bx _).an (by omega)).an (by omega)) (jS.pr (by omega) (by rw[cW (by simp)];rfl) rfl) (by simp[b1]) (by simp[aw]) (by simp) (by simp) (by simp))
        · have cg:=aO aq;simp(disch:=first|omega|simp only[b3];omega) [vE,yc,yd,ye,yf,b1,aw,cv,dn,c7,B,H,af,eh,gB,g1,bM,dL,bh,bt,cM,dq,bc,da,fB,ij,iZ,m0,m1,iv,qV,aq];refine aZ _ _ (bj (c+az x i+az y i) (.slice (some ⟨m.next+4,0,none⟩) (o.length+1) 1) _ _ (by omega) (by omega) ((((ah.bx _).an (by omega)).an (by omega)).an (by omega)) (jS.pr (by omega) (by rw[cW (by simp),fw (by simp)]) rfl) (by simp[b1]) (by simp[aw]) (by simp) (by simp) (by simp))
      · have bh:=gn.j3 (i:=i) (by omega);have bt:=gn.fu (i:=i) (by omega);have bg:az y i=0:=su (by omega);rcases ar with⟨rfl,rfl⟩|⟨b,K,rfl,aq⟩
        · simp(disch:=first|omega|simp only[b3];omega) [vE,yc,yd,ye,yf,b1,aw,cv,dn,c7,B,H,af,eh,gB,bM,dL,bh,bt,bc,da,ij,iv,qV];refine aZ _ _ (bj (c+az x i) (.slice (some ⟨m.next+4,0,none⟩) 1 1) _ _ (by omega) (by omega) (((ah.bx _).an (by omega)).an (by omega)) (jS.pr (by omega) (by rw[cW (by simp)];rfl) rfl) (by simp[b1]) (by simp[aw]) (by simp) (by simp) (by simp))
        · have cg:=aO aq;simp(disch:=first|omega|simp only[b3];omega) [vE,yc,yd,ye,yf,b1,aw,cv,dn,c7,B,H,af,eh,gB,bM,dL,bh,bt,bc,da,ij,m0,m1,iv,qV,aq];refine aZ _ _ (bj (c+az x i) (.slice (some ⟨m.next+4,0,none⟩) (o.length+1) 1) _ _ (by omega) (by omega) ((((ah.bx _).an (by omega)).an (by omega)).an (by omega)) (jS.pr (by omega) (by rw[cW (by simp),fw (by simp)]) rfl) (by simp[b1]) (by simp[aw]) (by simp) (by simp) (by simp))
    · by_cases dL:(i:Int)<y.length
      · have aX:az x i=0:=su (by omega);have cM:=ja.j3 (i:=i) (by omega);have dq:=ja.fu (i:=i) (by omega);rcases ar with⟨rfl,rfl⟩|⟨b,K,rfl,aq⟩
        · simp(disch:=first|omega|simp only[b3];omega) [vE,yc,yd,ye,yf,b1,aw,cv,dn,c7,B,H,eh,gB,g1,bM,dL,cM,dq,bc,fB,h1,iv,qV];refine aZ _ _ (bj (c+az y i) (.slice (some ⟨m.next+4,0,none⟩) 1 1) _ _ (by omega) (by omega) (((ah.bx _).an (by omega)).an (by omega)) (jS.pr (by omega) (by rw[cW (by simp)];rfl) rfl) (by simp[b1]) (by simp[aw]) (by simp) (by simp) (by simp))
        · have cg:=aO aq;simp(disch:=first|omega|simp only[b3];omega) [vE,yc,yd,ye,yf,b1,aw,cv,dn,c7,B,H,eh,gB,g1,bM,dL,cM,dq,bc,fB,h1,m0,m1,iv,qV,aq];refine aZ _ _ (bj (c+az y i) (.slice (some ⟨m.next+4,0,none⟩) (o.length+1) 1) _ _ (by omega) (by omega) ((((ah.bx _).an (by omega)).an (by omega)).an (by omega)) (jS.pr (by omega) (by rw[cW (by simp),fw (by simp)]) rfl) (by simp[b1]) (by simp[aw]) (by simp) (by simp) (by simp))
      · have aX:az x i=0:=su (by omega);have bg:az y i=0:=su (by omega);by_cases fp:c=0
        · subst fp;simp(disch:=first|omega|simp only[b3];omega) [vE,yc,yd,ye,yf,b1,aw,dn,c7,B,H,eh,gB,bM,dL];rw[fw (l:=x) (by omega),fw (l:=y) (by omega)]at a2;exact a1 _ _ o aG ah ar aA (by omega) (by omega) (by simp[cv])
        have ns:0<c:=(by omega);rcases ar with⟨rfl,rfl⟩|⟨b,K,rfl,aq⟩
        · simp(disch:=first|omega|simp only[b3];omega) [vE,yc,yd,ye,yf,b1,aw,cv,dn,c7,B,H,eh,gB,bM,dL,ns,bc,iv,qV];refine aZ _ _ (bj (c) (.slice (some ⟨m.next+4,0,none⟩) 1 1) _ _ (by omega) (by omega) (((ah.bx _).an (by omega)).an (by omega)) (jS.pr (by omega) (by rw[cW (by simp)];rfl) rfl) (by simp[b1]) (by simp[aw]) (by simp) (by simp) (by simp))
        · have cg:=aO aq;simp(disch:=first|omega|simp only[b3];omega) [vE,yc,yd,ye,yf,b1,aw,cv,dn,c7,B,H,eh,gB,bM,dL,ns,bc,m0,m1,iv,qV,aq];refine aZ _ _ (bj (c) (.slice (some ⟨m.next+4,0,none⟩) (o.length+1) 1) _ _ (by omega) (by omega) ((((ah.bx _).an (by omega)).an (by omega)).an (by omega)) (jS.pr (by omega) (by rw[cW (by simp),fw (by simp)]) rfl) (by simp[b1]) (by simp[aw]) (by simp) (by simp) (by simp))
theorem aHy{dv:E}{v w:Value}{x y:List Int}(S:bP dv v x)(aS:bP dv w y)(F:Big x)(ab:y.length<=x.length){Q:dp->aM->E->Prop}: ∀(r i:Nat) (c:Int) (o:List Int) (aG:Value) (m:E) (u:aM),
    i+r=x.length->a7 dv m->jS dv m aG o->dT o->o.length=i->0<=c->c<2->val o-c*a3 i=val (x.take i)-val (y.take i)->
    u 0=v->u 1=w->u 5=aG->u 6=L c->u 7=X i->
    (∀ae N o aG c,a7 dv N->jS dv N aG o->dT o->o.length=x.length->0<=c->c<2->val o-c*a3 x.length=val x-val y->ae 5=aG->Q (.bw 0) ae N)->cH Z (.loop wS) u m Q:=by
  intro r;induction r with
  | zero=>intro i c o aG m u ag ah ar aA eQ eI bY a2 b1 aw cv dn c7 a1;refine fc λcp aZ=> ?_;obtain⟨B,H,af,aL⟩:=(S.aD ah).len;have e:i=x.length:=(by omega);have bM: ¬(i:Int)<x.length:=(by omega);simp(disch:=first|omega|simp only[b3];omega) [wS,zt,zu,zv,zw,zx,b1,c7,B,H,bM];rw[e,fw (l:=x) (by omega),fw (l:=y) (by omega)]at a2;exact a1 _ _ o aG c ah ar aA (by omega) eI bY a2 (by simp[cv])
  | succ r cB=>
    intro i c o aG m u ag ah ar aA eQ eI bY a2 b1 aw cv dn c7 a1;refine fc λcp aZ=> ?_;have gn:=S.aD ah;have ja:=aS.aD ah;obtain⟨B,H,af,aL⟩:=gn.len;obtain⟨eh,gB,g1,lh⟩:=ja.len;have hR:=ah.next
    have ht:=h4 S.1 i;have ET:=h4 aS.1 i;have bM:(i:Int)<x.length:=(by omega);have bh:=gn.j3 (i:=i) (by omega);have bt:=gn.fu (i:=i) (by omega);have bc:=e7 (n:=i) (by omega);have da:IntKind.u64.wrap (az x i)=az x i:=fi (by omega) (by omega);have fB:IntKind.u64.wrap (az y i)=az y i:=fi (by omega) (by omega);have h1:IntKind.u64.wrap (c+az y i)=c+az y i:=fi (by omega) (by omega);have mL:IntKind.u64.wrap (az x i+4294967296)=az x i+4294967296:=fi (by omega) (by omega);have gv:((o.length:Int)+1)*4<=140737488355328:=(by omega);have m0:(o.length+1)*4<=140737488355328:=(by omega);have m1:o.length+1<=9223372036854775807:=(by omega);have bj: ∀(t eH O:Int) (kB:Value) (N:E) (ae:aM),t=az x i-c-az y i->eH= -(t/4294967296)->O=t%4294967296->a7 dv N->jS dv N kB (o++[O])->ae 0=v->ae 1=w->ae 5=kB->ae 6=L eH->ae 7=X ((i:Int)+1)->cH Z (.loop wS) ae N Q:=(by intro t eH O kB N ae bm qi cl AX XO po ez l2 r7 z0;subst cl qi;exact cB (i+1) (-(t/4294967296)) (o++[t%4294967296]) kB N ae (by omega) AX XO (BP aA (by omega)) (by simp[eQ]) (by omega) (by omega) (aLG a2 bm eQ) po ez l2 r7 (by rw[z0];simp) a1);by_cases dL:(i:Int)<y.length
    · have cM:=ja.j3 (i:=i) (by omega);have dq:=ja.fu (i:=i) (by omega);obtain⟨di,n7⟩: ∃di,di=c+az y i:=⟨_,rfl⟩;by_cases fp:az x i<di
      · have l7:IntKind.u64.wrap (az x i+4294967296-(c+az y i))=az x i+4294967296-(c+az y i):=fi (by omega) (by omega);have oV:IntKind.u32.wrap (az x i+4294967296-(c+az y i))=az x i+4294967296-(c+az y i):=(by rw[iv];omega);rw[n7]at fp;rcases ar with⟨rfl,rfl⟩|⟨b,K,rfl,aq⟩
        · simp(disch:=first|omega|simp only[b3];omega) [wS,zt,zu,zv,zw,zx,b1,aw,cv,dn,c7,B,H,af,eh,gB,g1,bM,dL,fp,bh,bt,cM,dq,bc,da,fB,h1,mL,l7,oV];refine aZ _ _ (bj (az x i-c-az y i) 1 (az x i+4294967296-(c+az y i)) (.slice (some ⟨m.next+6,0,none⟩) 1 1) _ _ rfl (by omega) (by omega) (((ah.bx _).an (by omega)).an (by omega)) (jS.pr (by omega) (by rw[cW (by simp)];rfl) rfl) (by simp[b1]) (by simp[aw]) (by simp) (by simp) (by simp))
        · have cg:=aO aq;simp(disch:=first|omega|simp only[b3];omega) [wS,zt,zu,zv,zw,zx,b1,aw,cv,dn,c7,B,H,af,eh,gB,g1,bM,dL,fp,bh,bt,cM,dq,bc,da,fB,h1,mL,l7,oV,m0,m1,aq];refine aZ _ _ (bj (az x i-c-az y i) 1 (az x i+4294967296-(c+az y i)) (.slice (some ⟨m.next+6,0,none⟩) (o.length+1) 1) _ _ rfl (by omega) (by omega) ((((ah.bx _).an (by omega)).an (by omega)).an (by omega)) (jS.pr (by omega) (by rw[cW (by simp),fw (by simp)]) rfl) (by simp[b1]) (by simp[aw]) (by simp) (by simp) (by simp))
      · have l7:IntKind.u64.wrap (az x i-(c+az y i))=az x i-(c+az y i):=fi (by omega) (by omega);have oV:IntKind.u32.wrap (az x i-(c+az y i))=az x i-(c+az y i):=(by rw[iv];omega);rw[n7]at fp;rcases ar with⟨rfl,rfl⟩|⟨b,K,rfl,aq⟩
        · simp(disch:=first|omega|simp only[b3];omega) [wS,zt,zu,zv,zw,zx,b1,aw,cv,dn,c7,B,H,af,eh,gB,g1,bM,dL,fp,bh,bt,cM,dq,bc,da,fB,h1,l7,oV];refine aZ _ _ (bj (az x i-c-az y i) 0 (az x i-(c+az y i)) (.slice (some ⟨m.next+6,0,none⟩) 1 1) _ _ rfl (by omega) (by omega) (((ah.bx _).an (by omega)).an (by omega)) (jS.pr (by omega) (by rw[cW (by simp)];rfl) rfl) (by simp[b1]) (by simp[aw]) (by simp) (by simp) (by simp))
        · have cg:=aO aq;simp(disch:=first|omega|simp only[b3];omega) [wS,zt,zu,zv,zw,zx,b1,aw,cv,dn,c7,B,H,af,eh,gB,g1,bM,dL,fp,bh,bt,cM,dq,bc,da,fB,h1,l7,oV,m0,m1,aq];refine aZ _ _ (bj (az x i-c-az y i) 0 (az x i-(c+az y i)) (.slice (some ⟨m.next+6,0,none⟩) (o.length+1) 1) _ _ rfl (by omega) (by omega) ((((ah.bx _).an (by omega)).an (by omega)).an (by omega)) (jS.pr (by omega) (by rw[cW (by simp),fw (by simp)]) rfl) (by simp[b1]) (by simp[aw]) (by simp) (by simp) (by simp))
    · have bg:az y i=0:=su (by omega);obtain⟨di,n7⟩: ∃di,di=c:=⟨_,rfl⟩;by_cases fp:az x i<di
      · have l7:IntKind.u64.wrap (az x i+4294967296-(c))=az x i+4294967296-(c):=fi (by omega) (by omega);have oV:IntKind.u32.wrap (az x i+4294967296-(c))=az x i+4294967296-(c):=(by rw[iv];omega);rw[n7]at fp;rcases ar with⟨rfl,rfl⟩|⟨b,K,rfl,aq⟩
        · simp(disch:=first|omega|simp only[b3];omega) [wS,zt,zu,zv,zw,zx,b1,aw,cv,dn,c7,B,H,af,eh,gB,bM,dL,fp,bh,bt,bc,da,mL,l7,oV];refine aZ _ _ (bj (az x i-c-az y i) 1 (az x i+4294967296-(c)) (.slice (some ⟨m.next+6,0,none⟩) 1 1) _ _ rfl (by omega) (by omega) (((ah.bx _).an (by omega)).an (by omega)) (jS.pr (by omega) (by rw[cW (by simp)];rfl) rfl) (by simp[b1]) (by simp[aw]) (by simp) (by simp) (by simp))
        · have cg:=aO aq;simp(disch:=first|omega|simp only[b3];omega) [wS,zt,zu,zv,zw,zx,b1,aw,cv,dn,c7,B,H,af,eh,gB,bM,dL,fp,bh,bt,bc,da,mL,l7,oV,m0,m1,aq];refine aZ _ _ (bj (az x i-c-az y i) 1 (az x i+4294967296-(c)) (.slice (some ⟨m.next+6,0,none⟩) (o.length+1) 1) _ _ rfl (by omega) (by omega) ((((ah.bx _).an (by omega)).an (by omega)).an (by omega)) (jS.pr (by omega) (by rw[cW (by simp),fw (by simp)]) rfl) (by simp[b1]) (by simp[aw]) (by simp) (by simp) (by simp))
      · have l7:IntKind.u64.wrap (az x i-(c))=az x i-(c):=fi (by omega) (by omega);have oV:IntKind.u32.wrap (az x i-(c))=az x i-(c):=(by rw[iv];omega);rw[n7]at fp;rcases ar with⟨rfl,rfl⟩|⟨b,K,rfl,aq⟩
        · simp(disch:=first|omega|simp only[b3];omega) [wS,zt,zu,zv,zw,zx,b1,aw,cv,dn,c7,B,H,af,eh,gB,bM,dL,fp,bh,bt,bc,da,l7,oV];refine aZ _ _ (bj (az x i-c-az y i) 0 (az x i-(c)) (.slice (some ⟨m.next+6,0,none⟩) 1 1) _ _ rfl (by omega) (by omega) (((ah.bx _).an (by omega)).an (by omega)) (jS.pr (by omega) (by rw[cW (by simp)];rfl) rfl) (by simp[b1]) (by simp[aw]) (by simp) (by simp) (by simp))
        · have cg:=aO aq;simp(disch:=first|omega|simp only[b3];omega) [wS,zt,zu,zv,zw,zx,b1,aw,cv,dn,c7,B,H,af,eh,gB,bM,dL,fp,bh,bt,bc,da,l7,oV,m0,m1,aq];refine aZ _ _ (bj (az x i-c-az y i) 0 (az x i-(c)) (.slice (some ⟨m.next+6,0,none⟩) (o.length+1) 1) _ _ rfl (by omega) (by omega) ((((ah.bx _).an (by omega)).an (by omega)).an (by omega)) (jS.pr (by omega) (by rw[cW (by simp),fw (by simp)]) rfl) (by simp[b1]) (by simp[aw]) (by simp) (by simp) (by simp))
def Co(m:E)(n:Int)(r:Value)(N:E):Prop:=a7 m N/\bP N r (bL n)
theorem aIz{m:E}{v w:Value}{x y:List Int}(S:bP m v x)(aS:bP m w y)(F:x.length<900000)(ab:y.length<900000):bU Z 162 [v,w] m (Co m (val x+val y)):=by rw[avo (by simp)];simp[aaT,amd,ame,amf,amg];refine aIy S aS (Nat.le_max_left x.length y.length) (Nat.le_max_right x.length y.length) (by omega) (max x.length y.length+1) 0 0 [] (.slice none 0 0) m _ (by omega) (λ_=>rfl) (a7.refl m) (.inl ⟨rfl,rfl⟩) (by simp[dT]) rfl (by omega) (by omega) (by simp[val]) (by simp) (by simp) (by simp) (by simp) (by simp) λae N o aG ck cE eo e8 f5 l2=> ?_;simp[l2];refine(uX (cE.nV eo) (by omega)).aD λr cc Y=> ?_;simp;rw[f5]at Y;exact⟨ck.trans Y.1,Y.2⟩
theorem ael{m:E}{v w:Value}{x y:List Int}(S:bP m v x)(aS:bP m w y)(F:Big x)(ab:y.length<=x.length)(fM:val y<=val x):bU Z 164 [v,w] m (Co m (val x-val y)):=by
  rw[avq (by simp)];simp[aaV,amh,ami,amj,amk];refine aHy S aS F ab x.length 0 0 [] (.slice none 0 0) m _ (by omega) (a7.refl m) (.inl ⟨rfl,rfl⟩) (by simp[dT]) rfl (by omega) (by omega) (by simp[val]) (by simp) (by simp) (by simp) (by simp) (by simp) λae N o aG c ck cE eo e8 f5 nk o5 l2=> ?_;have q0:val o=val x-val y:=by
    have iV:=(ih eo).2;rw[e8]at iV;have Y:=k6 x.length;have aK:c=0:=by
      rcases(show c=0\/c=1 by omega)with h|h
      · exact h
      · subst h;omega
    subst aK;omega
  simp[l2];refine(uX (cE.nV eo) (by omega)).aD λr cc Y=> ?_;simp;rw[q0]at Y;exact⟨ck.trans Y.1,Y.2⟩
theorem ary{dv:E}{v w:Value}{a b:List Int}{bX i:Nat}(S:bP dv v a)(aS:bP dv w b)(hv:bX<80000000000000)(CZ:i<a.length)(Yr:i+b.length<=bX){bE:Nat}(iO:dv.next<=bE){cG:List Int}{Q:dp->aM->E->Prop}: ∀(r j:Nat) (c:Int) (o:List Int) (m:E) (u:aM),
    j+r=b.length->a7 dv m->m.U bE=some ⟨o.map c3,true⟩->dT o->o.length=bX->0<=c->c<4294967296->val o+c*a3 (i+j)=val cG+a3 i*(az a i*val (b.take j))->(∀k,i+b.length<=k->az o k=az cG k)->
    u 0=v->u 1=w->u 5= .slice (some ⟨bE,0,none⟩) bX 1->u 6=X i->u 7=L c->u 8=X j->
    (∀ae N o c,a7 dv N->N.U bE=some ⟨o.map c3,true⟩->dT o->o.length=bX->0<=c->c<4294967296->val o+c*a3 (i+b.length)=val cG+a3 i*(az a i*val b)->(∀k,i+b.length<=k->az o k=az cG k)->
      ae 0=v->ae 1=w->ae 5= .slice (some ⟨bE,0,none⟩) bX 1->ae 6=X i->ae 7=L c->Q (.bw 2) ae N)->cH Z (.loop SV) u m Q
  | 0,j,c,o,m,u,ag,ah,aq,aA,eQ,eI,bY,a2,a6,b1,aw,cv,dn,c7,ch,a1=>by refine fc λcp aZ=> ?_;have e:j=b.length:=(by omega);subst e;obtain⟨eh,gB,g1,lh⟩:=(aS.aD ah).len;simp(disch:=first|omega|simp only[b3];omega) [SV,abD,abE,aw,ch,eh,gB];rw[fw (l:=b) (by omega)]at a2;exact a1 _ _ o c ah aq aA eQ eI bY a2 a6 (by simp[b1]) (by simp[aw]) (by simp[cv]) (by simp[dn]) (by simp[c7])
  | r+1,j,c,o,m,u,ag,ah,aq,aA,eQ,eI,bY,a2,a6,b1,aw,cv,dn,c7,ch,a1=>by refine fc λcp aZ=> ?_;have gn:=S.aD ah;have ja:=aS.aD ah;obtain⟨B,H,af,aL⟩:=gn.len;obtain⟨eh,gB,g1,lh⟩:=ja.len;obtain⟨k,aa⟩: ∃k,k=i+j:=⟨_,rfl⟩;have bn:(j:Int)<b.length:=(by omega);have aIV:(i:Int)<a.length:=(by omega);have bC:(k:Int)<bX:=(by omega);have cq:k<bX:=(by omega);have cZ:k+1<=bX:=(by omega);have bh:=gn.j3 (i:=i) (by omega);have bt:=gn.fu (i:=i) (by omega);have cM:=ja.j3 (i:=j) (by omega);have dq:=ja.fu (i:=j) (by omega);have F:=h4 S.1 i;have ET:=h4 aS.1 j;have auO:=h4 aA k;have cl:o[k]?=some (az o k):=(by rw[lE (c0 (by omega)),c0 (by omega)]);have Y:=Vg F ET;obtain⟨t,bm⟩: ∃t,t=c+az a i*az b j+az o k:=⟨_,rfl⟩;have bc:=e7 (n:=j) (by omega);have iZ:IntKind.i64.wrap ((i:Int)+(j:Int))=(k:Int):=(by rw[fo (by omega) (by omega)];omega);have da:IntKind.u64.wrap (az a i)=az a i:=fi (by omega) (by omega);have fB:IntKind.u64.wrap (az b j)=az b j:=fi (by omega) (by omega);have ij:IntKind.u64.wrap (az o k)=az o k:=fi (by omega) (by omega);have h1:IntKind.u64.wrap (az a i*az b j)=az a i*az b j:=fi (by omega) (by omega);have mL:IntKind.u64.wrap (az a i*az b j+az o k)=az a i*az b j+az o k:=fi (by omega) (by omega);have l7:IntKind.u64.wrap (az a i*az b j+az o k+c)=t:=(by rw[fi (by omega) (by omega)];omega);have cg:=aO aq;have uF:k<o.length:=(by omega);have qp:o[k]=az o k:=(by rw[lE (c0 uF)]);simp(disch:=first|omega|simp only[b3];omega) [SV,abD,abE,b1,aw,cv,dn,c7,ch,B,af,eh,gB,g1,bn,aIV,bC,cZ,bh,bt,cM,dq,bc,da,fB,ij,h1,iZ,mL,l7,aq,eQ,iv,qV,qp,lj];refine aZ _ _ (ary S aS hv CZ Yr iO (cG:=cG) r (j+1) (t/4294967296) (o.set k (t%4294967296)) _ _ (by omega) (ah.an iO) (by rw[cW cg,m4]) (aA.set k (by omega)) (by simp[eQ]) (by omega) (by omega) (by subst aa;exact aqj a2 (by rw[<-cl]) (by omega)) (λq bz=>by rw[QO (by omega)];exact a6 q bz) (by simp[b1]) (by simp[aw]) (by simp[cv]) (by simp[dn]) (by simp) (by simp) a1)
theorem arz{dv:E}{v w:Value}{a b:List Int}{bX:Nat}(S:bP dv v a)(aS:bP dv w b)(hv:bX=a.length+b.length)(aC:Big a)(K:Big b){bE:Nat}(iO:dv.next<=bE){Q:dp->aM->E->Prop}: ∀(r i:Nat) (o:List Int) (m:E) (u:aM),
    i+r=a.length->a7 dv m->m.U bE=some ⟨o.map c3,true⟩->dT o->o.length=bX->val o=val (a.take i)*val b->(∀k,i+b.length<=k->az o k=0)->
    u 0=v->u 1=w->u 5= .slice (some ⟨bE,0,none⟩) bX 1->u 6=X i->
    (∀ae N o,a7 dv N->N.U bE=some ⟨o.map c3,true⟩->dT o->o.length=bX->val o=val a*val b->ae 5= .slice (some ⟨bE,0,none⟩) bX 1->Q (.bw 0) ae N)->cH Z (.loop SW) u m Q
  | 0,i,o,m,u,ag,ah,aq,aA,eQ,a2,a6,b1,aw,cv,dn,a1=>by refine fc λcp aZ=> ?_;have e:i=a.length:=(by omega);subst e;obtain⟨B,H,af,aL⟩:=(S.aD ah).len;simp[SW,abB,abC,b1,dn,B,H];rw[fw (l:=a) (by omega)]at a2;exact a1 _ _ o ah aq aA eQ a2 (by simp[cv])
  | r+1,i,o,m,u,ag,ah,aq,aA,eQ,a2,a6,b1,aw,cv,dn,a1=>by
    refine fc λcp aZ=> ?_;have gn:=S.aD ah;have ja:=aS.aD ah;obtain⟨B,H,af,aL⟩:=gn.len;obtain⟨eh,gB,g1,lh⟩:=ja.len;have bn:(i:Int)<a.length:=(by omega);have ht:=h4 S.1 i;simp[SW,abB,abC,b1,dn,B,H,bn];refine ary (i:=i) (bX:=bX) (bE:=bE) S aS (by omega) (by omega) (by omega) iO (cG:=o) b.length 0 0 o _ _ (by omega) ah aq aA eQ (by omega) (by omega) (by simp[val]) (λ_ _=>rfl) (by simp[b1]) (by simp[aw]) (by simp[cv]) (by simp[dn]) (by simp) (by simp) λae N o' c ck cE eo e8 f5 nk o5 xL po ez l2 r7 z0=> ?_;obtain⟨k,aa⟩: ∃k,k=i+b.length:=⟨_,rfl⟩;have iZ:IntKind.i64.wrap ((i:Int)+(b.length:Int))=(k:Int):=(by rw[fo (by omega) (by omega)];omega);have bc:=e7 (n:=i) (by omega);have bC:(k:Int)<bX:=(by omega);have cq:k<bX:=(by omega);have cZ:k+1<=bX:=(by omega);have cg:=aO cE;simp[ez,l2,r7,z0,eh,gB,bc,iZ,bC,cZ,cE,e8,iv];have cl:o'[k]?=some 0:=by have bH:=a6 k (by omega);rw[<-xL k (by omega)]at bH;rw[lE (c0 (by omega))]at bH;rw[c0 (by omega),bH]
    refine aZ _ _ (arz S aS hv aC K iO r (i+1) (o'.set k (c%4294967296)) _ _ (by omega) (ck.an iO) (by rw[cW cg,m4]) (eo.set k (by omega)) (by simp[e8]) ?_ (λq bz=>by rw[QO (by omega),xL q (by omega)];exact a6 q (by omega)) (by simp[po]) (by simp[ez]) (by simp[l2]) (by simp) a1);rw[V7 _ cl,pt a,show c%4294967296=c by omega];rw[<-aa,a2]at o5
    grind
theorem Vv{m:E}{v w:Value}{a b:List Int}(S:bP m v a)(aS:bP m w b)(aC:a.length<400000)(K:b.length<400000):
    bU Z 172 [v,w] m (Co m (val a*val b)):=by
  rw[avx (by simp)];obtain⟨B,H,af,aL⟩:=S.len;obtain⟨eh,gB,g1,lh⟩:=aS.len;obtain⟨bX,hv⟩: ∃bX,bX=a.length+b.length:=⟨_,rfl⟩;have bc:IntKind.i64.wrap ((a.length:Int)+(b.length:Int))=(bX:Int):=by rw[fo (by omega) (by omega)];omega
  simp[abA,amV,amW,amX,B,H,eh,gB,bc];have iz:a7 m ((m.bx 7).an (m.next+5) (some ⟨List.replicate bX (.int .u32 0),true⟩)):=((a7.refl m).bx 7).an (by omega);refine⟨by omega,arz (bX:=bX) S aS hv (by omega) (by omega) (bE:=m.next+5) (by omega) a.length 0 (List.replicate bX 0) _ _ (by omega) iz (by rw[cW (by simp)];simp) (dT.wg _) (by simp) (by simp[val,V8]) (λk aa=>by unfold az;simp[List.getElem?_replicate];split<;>rfl) (by simp) (by simp) (by simp) (by simp) λae N o ck cE eo e8 f5 gA=> ?_⟩;have M:bP N (.slice (some ⟨m.next+5,0,none⟩) bX 1) o:=bP.sK eo cE e8.symm;simp[gA];refine(uX M (by omega)).aD λr cc Y=> ?_;simp;rw[f5]at Y;exact⟨ck.trans Y.1,Y.2⟩
end Go.Proofs.YtkpifdkccdndcaaGreat
namespace Go.Big
theorem aMe{o a:List Int}{i:Nat}{ax c t:Int}(h:val o+c*a3 i=val (a.take i)*ax)(bm:t=c+az a i*ax)(ag:o.length=i):
    val (o++[t%4294967296])+(t/4294967296)*a3 (i+1)=val (a.take (i+1))*ax:=by
  rw[u2,ag,pt a];have:=v8 (t:=t) (a9:=4294967296) (by omega);simp only[a3,val]
  grind
theorem awE{r aG:List Int}{i:Nat}{ax aU:Int}(gh:0<ax)(qh:ax*aU=4294967296)(h:ax*val r=val (aG.take i)-az aG 0%ax+(az aG i%ax)*a3 i)(ag:r.length=i)(ar:dT aG):
    ax*val (r++[((az aG (i+1)*4294967296+az aG i)/ax)%4294967296])=val (aG.take (i+1))-az aG 0%ax+(az aG (i+1)%ax)*a3 (i+1):=by
  have:=aip (r:=r++[0]) (i:=i) gh qh (by rw[List.take_left' ag];exact h) (by simp;omega) ar;rw[<-this];congr 1;have e:(r++[0]).set i ((az aG (i+1)*4294967296+az aG i)/ax%4294967296)=r++[(az aG (i+1)*4294967296+az aG i)/ax%4294967296]:=by subst ag;simp
  rw[e,fw (by simp;omega)]
end Go.Big
namespace Go.Proofs.YtkpifdkccdndcaaGreat
open Go Go.DI Go.Big
theorem afs{dv:E}{v:Value}{a:List Int}{s:Nat}{ax:Int}(gh:ax=(2:Int)^s)(M:s<32)(nG:1<=ax/\ax<=2147483648)(S:bP dv v a)(aC:Big a){Q:dp->aM->E->Prop}: ∀(r i bE:Nat) (c:Int) (o:List Int) (m:E) (u:aM),
    i+r=a.length->a7 dv m->dv.next<=bE->m.U bE=some ⟨o.map c3,true⟩->dT o->o.length=i->0<=c->c<ax->val o+c*a3 i=val (a.take i)*ax->
    u 0=v->u 1=X s->u 5= .slice (some ⟨bE,0,none⟩) o.length 1->u 6=L c->u 7=X i->
    (∀ae N o c bE,a7 dv N->dv.next<=bE->N.U bE=some ⟨o.map c3,true⟩->dT o->o.length=a.length->0<=c->c<ax->val o+c*a3 a.length=val a*ax->
      ae 5= .slice (some ⟨bE,0,none⟩) o.length 1->ae 6=L c->Q (.bw 0) ae N)->cH Z (.loop SY) u m Q
  | 0,i,bE,c,o,m,u,ag,ah,iO,aq,aA,eQ,eI,bY,a2,b1,aw,cv,dn,c7,a1=>by refine fc λcp aZ=> ?_;have e:i=a.length:=(by omega);subst e;obtain⟨B,H,af,aL⟩:=(S.aD ah).len;simp(disch:=first|omega|simp only[b3];omega) [SY,abH,abI,b1,c7,B,H];rw[fw (l:=a) (by omega)]at a2;exact a1 _ _ o c bE ah iO aq aA eQ eI bY a2 (by simp[cv]) (by simp[dn])
  | r+1,i,bE,c,o,m,u,ag,ah,iO,aq,aA,eQ,eI,bY,a2,b1,aw,cv,dn,c7,a1=>by
    refine fc λcp aZ=> ?_;have gn:=S.aD ah;obtain⟨B,H,af,aL⟩:=gn.len;have hR:=ah.next
    have bn:(i:Int)<a.length:=(by omega);have bh:=gn.j3 (i:=i) (by omega);have bt:=gn.fu (i:=i) (by omega);have ht:=h4 S.1 i;have Y:az a i*ax+ax<=4294967296*ax:=(by have:=n1 (show az a i+1<=4294967296 by omega) (show 0<=ax by omega);rw[Int.add_mul,Int.one_mul]at this;exact this);have tA:0<=az a i*ax:=mq ht.1 (by omega);obtain⟨t,bm⟩: ∃t,t=c+az a i*ax:=⟨_,rfl⟩;have bc:=e7 (n:=i) (by omega);have da:IntKind.u64.wrap (az a i)=az a i:=fi (by omega) (by omega);have fB:IntKind.u64.wrap (az a i*ax)=az a i*ax:=fi (by omega) (by omega);have ij:IntKind.u64.wrap ↑((az a i*ax%2^IntKind.u64.bits).toNat|||(c%2^IntKind.u64.bits).toNat)=t:=(by rw[BR gh ht.1 eI bY (by omega),bm];omega);have h1:(s:Int).tmod 32=s:=(by rw[Py (by omega)];omega);have iZ:IntKind.u64.wrap (s:Int)=s:=fi (by omega) (by omega);have hV:min s 64=s:=(by omega);have cg:=aO aq;have gv:((o.length:Int)+1)*4<=140737488355328:=(by omega);have m0:(o.length+1)*4<=140737488355328:=(by omega);have m1:o.length+1<=9223372036854775807:=(by omega);simp(disch:=first|omega|simp only[b3];omega) [SY,abH,abI,b1,aw,cv,dn,c7,B,H,af,bn,bh,bt,bc,da,fB,ij,h1,iZ,hV,<-gh,aq,iv,qV,m0,m1];refine aZ _ _ (afs gh M nG S aC r (i+1) (m.next+4) (t/4294967296) (o++[t%4294967296]) _ _ (by omega) ((((ah.bx _).an (by omega)).an (by omega)).an (by omega)) (by omega) (by rw[cW (by simp),fw (by simp),UR]) (BP aA (by omega)) (by simp[eQ]) (by omega) (by omega) (aMe a2 bm eQ) (by simp[b1]) (by simp[aw]) (by simp) (by simp) (by simp) a1)
theorem arG{m:E}{v:Value}{a:List Int}{s:Nat}{ax:Int}(gh:ax=(2:Int)^s)(M:s<32)(nG:1<=ax/\ax<=2147483648)(S:bP m v a)(aC:a.length<900000):
    bU Z 174 [v,X s] m (Co m (val a*ax)):=by
  rw[ahS (by simp)];obtain⟨B,H,af,aL⟩:=S.len;by_cases eK:a.length=0
  · obtain rfl:a=[]:=pz.1 eK;simp[IQ,Nb,Nc,Nd,Nf,Ng,B,H];refine⟨a7.refl m,?_⟩;rw[show val []*ax=0 by simp[val],so (by omega)];exact bP.nil
  · have h1:(s:Int).tdiv 32=0:=(by rw[Eu (by omega)];omega);have bM: ¬(a.length:Int)=0:=(by omega);have dL: ¬a=[]:= λh=>eK (by simp[h]);have iZ:IntKind.i64.wrap 0=0:=(by decide);simp[IQ,Nb,Nc,Nd,Nf,Ng,B,H,h1,iZ,eK];refine afs gh M nG S (by omega) a.length 0 (m.next+2) 0 [] _ _ (by omega) (((a7.refl m).bx _).an (by omega)) (by omega) (by rw[cW (by simp)];rfl) (by simp[dT]) rfl (by omega) (by omega) (by simp[val]) (by simp) (by simp) (by simp) (by simp) (by simp) λae N o c bE ck cE eo e8 f5 nk o5 xL gA jC=> ?_;have cg:=aO eo;have hR:=ck.next
    have gv:((o.length:Int)+1)*4<=140737488355328:=(by omega);have m0:(o.length+1)*4<=140737488355328:=(by omega);have m1:o.length+1<=9223372036854775807:=(by omega);have aze:o.length=(o.map c3).length:=(by simp);simp(disch:=first|omega|simp only[b3];omega) [gA,jC,eo,iv,m0,m1];have qm: ∀{bk:E} {b:Nat},bk.U b=some ⟨List.take o.length (o.map c3)++[c3 (c%4294967296)],true⟩->bP bk (.slice (some ⟨b,0,none⟩) (o.length+1) 1) (o++[c%4294967296]):= λ{bk b} h=>bP.sK (BP e8 (by omega)) (by rw[h,fw (by simp),UR]) (by simp);refine(uX (qm (cW (by simp))) (by simp;omega)).aD λr cc Y=> ?_;simp;have e:val (o++[c%4294967296])=val a*ax:=(by rw[u2,show c%4294967296=c by omega,f5];simp only[val];rw[<-xL];grind);rw[e]at Y;exact⟨((((ck.bx _).an (by omega)).an (by omega)).an (by omega)).trans Y.1,Y.2⟩
theorem OO{dv:E}{v:Value}{a:List Int}{s:Nat}{ax aU:Int}(gh:ax=(2:Int)^s)(M:s<32)(nG:1<=ax/\ax<=2147483648)(qh:ax*aU=4294967296)(S:bP dv v a)(aC:Big a){Q:dp->aM->E->Prop}: ∀(r i:Nat) (aG:Value) (o:List Int) (m:E) (u:aM),
    i+r=a.length->a7 dv m->jS dv m aG o->dT o->o.length=i->ax*val o=val (a.take i)-az a 0%ax+(az a i%ax)*a3 i->
    u 0=v->u 1=X s->u 5=aG->u 6=X i->
    (∀ae N o aG,a7 dv N->jS dv N aG o->dT o->o.length=a.length->ax*val o=val a-az a 0%ax->ae 5=aG->Q (.bw 0) ae N)->cH Z (.loop F6) u m Q
  | 0,i,aG,o,m,u,ag,ah,ar,aA,eQ,a2,b1,aw,cv,dn,a1=>by refine fc λcp aZ=> ?_;have e:i=a.length:=(by omega);subst e;obtain⟨B,H,af,aL⟩:=(S.aD ah).len;simp(disch:=first|omega|simp only[b3];omega) [F6,IS,IT,b1,dn,B,H];rw[fw (l:=a) (by omega),su (eB _)]at a2;exact a1 _ _ o aG ah ar aA eQ (by simp at a2;omega) (by simp[cv])
  | r+1,i,aG,o,m,u,ag,ah,ar,aA,eQ,a2,b1,aw,cv,dn,a1=>by
    refine fc λcp aZ=> ?_;have gn:=S.aD ah;obtain⟨B,H,af,aL⟩:=gn.len;have hR:=ah.next
    have bn:(i:Int)<a.length:=(by omega);have bh:=gn.j3 (i:=i) (by omega);have bt:=gn.fu (i:=i) (by omega);have ht:=h4 S.1 i;have auN:=h4 S.1 (i+1);obtain⟨t,bm⟩: ∃t,t=az a (i+1)*4294967296+az a i:=⟨_,rfl⟩;have bc:=e7 (n:=i) (by omega);have da:IntKind.u64.wrap (az a i)=az a i:=fi (by omega) (by omega);have fB:IntKind.u64.wrap (az a (i+1))=az a (i+1):=fi (by omega) (by omega);have ij:IntKind.u64.wrap (az a (i+1)*4294967296)=az a (i+1)*4294967296:=fi (by omega) (by omega);have h1:(s:Int).tmod 32=s:=(by rw[Py (by omega)];omega);have iZ:IntKind.u64.wrap (s:Int)=s:=fi (by omega) (by omega);have mL:IntKind.u64.wrap ↑((az a i%2^IntKind.u64.bits).toNat|||(az a (i+1)*4294967296%2^IntKind.u64.bits).toNat)=t:=(by rw[aqL (s:=32) (by decide) auN.1 ht.1 ht.2 (by omega),bm];omega);have l7:t.fdiv ax=t/ax:=Kq t (by omega);have hV:min s 64=s:=(by omega);have gv:((o.length:Int)+1)*4<=140737488355328:=(by omega);have m0:(o.length+1)*4<=140737488355328:=(by omega);have m1:o.length+1<=9223372036854775807:=(by omega);have tu:=awE (r:=o) (i:=i) (by omega) qh a2 eQ S.1;rw[<-bm]at tu;by_cases bM:(i:Int)+1<a.length
    · have cM:=gn.j3 (i:=i+1) (by omega);have dq:=gn.fu (i:=i+1) (by omega);simp only[Int.natCast_add,Hn]at cM dq;have bC:(0:Int)<=(i:Int)+1:=(by omega);rcases ar with⟨rfl,rfl⟩|⟨b,K,rfl,aq⟩
      · simp(disch:=first|omega|simp only[b3];omega) [F6,IS,IT,b1,aw,cv,dn,B,H,af,bn,bC,bM,bh,bt,cM,dq,bc,da,fB,ij,h1,iZ,mL,l7,hV,<-gh,iv];refine aZ _ _ (OO gh M nG qh S aC r (i+1) (.slice (some ⟨m.next+8,0,none⟩) 1 1) ([]++[t/ax%4294967296]) _ _ (by omega) (((ah.bx _).an (by omega)).an (by omega)) (jS.pr (by omega) (by rw[cW (by simp)];rfl) rfl) (BP aA (by omega)) (by simp at eQ⊢;omega) tu (by simp[b1]) (by simp[aw]) (by simp) (by simp) a1)
      · have cg:=aO aq;simp(disch:=first|omega|simp only[b3];omega) [F6,IS,IT,b1,aw,cv,dn,B,H,af,bn,bC,bM,bh,bt,cM,dq,bc,da,fB,ij,h1,iZ,mL,l7,hV,<-gh,iv,m0,m1,aq];refine aZ _ _ (OO gh M nG qh S aC r (i+1) (.slice (some ⟨m.next+8,0,none⟩) (o.length+1) 1) (o++[t/ax%4294967296]) _ _ (by omega) ((((ah.bx _).an (by omega)).an (by omega)).an (by omega)) (jS.pr (by omega) (by rw[cW (by simp),fw (by simp)]) rfl) (BP aA (by omega)) (by simp[eQ]) tu (by simp[b1]) (by simp[aw]) (by simp) (by simp) a1)
    · have yD:az a (i+1)=0:=su (by omega);have oV:(az a i).fdiv ax=t/ax:=(by rw[bm,yD,Kq _ (by omega)];simp);rcases ar with⟨rfl,rfl⟩|⟨b,K,rfl,aq⟩
      · simp(disch:=first|omega|simp only[b3];omega) [F6,IS,IT,b1,aw,cv,dn,B,H,af,bn,bM,bh,bt,bc,da,h1,iZ,oV,hV,<-gh,iv];refine aZ _ _ (OO gh M nG qh S aC r (i+1) (.slice (some ⟨m.next+8,0,none⟩) 1 1) ([]++[t/ax%4294967296]) _ _ (by omega) (((ah.bx _).an (by omega)).an (by omega)) (jS.pr (by omega) (by rw[cW (by simp)];rfl) rfl) (BP aA (by omega)) (by simp at eQ⊢;omega) tu (by simp[b1]) (by simp[aw]) (by simp) (by simp) a1)
      · have cg:=aO aq;simp(disch:=first|omega|simp only[b3];omega) [F6,IS,IT,b1,aw,cv,dn,B,H,af,bn,bM,bh,bt,bc,da,h1,iZ,oV,hV,<-gh,iv,m0,m1,aq];refine aZ _ _ (OO gh M nG qh S aC r (i+1) (.slice (some ⟨m.next+8,0,none⟩) (o.length+1) 1) (o++[t/ax%4294967296]) _ _ (by omega) ((((ah.bx _).an (by omega)).an (by omega)).an (by omega)) (jS.pr (by omega) (by rw[cW (by simp),fw (by simp)]) rfl) (BP aA (by omega)) (by simp[eQ]) tu (by simp[b1]) (by simp[aw]) (by simp) (by simp) a1)
theorem aJj{m:E}{v:Value}{a:List Int}{s:Nat}{ax aU:Int}(gh:ax=(2:Int)^s)(M:s<32)(nG:1<=ax/\ax<=2147483648)(qh:ax*aU=4294967296)(S:bP m v a)(aC:a.length<900000):
    bU Z 175 [v,X s] m (Co m (val a/ax)):=by
  rw[avz (by simp)];obtain⟨B,H,af,aL⟩:=S.len;have h1:(s:Int).tdiv 32=0:=by rw[Eu (by omega)];omega
  have iZ:IntKind.i64.wrap 0=0:=by decide
  by_cases eK:a.length=0
  · obtain rfl:a=[]:=pz.1 eK;simp[SZ,abJ,abK,abL,abM,B,H,h1,iZ];refine⟨a7.refl m,?_⟩;rw[show val []/ax=0 by simp[val],so (by omega)];exact bP.nil
  · have bM: ¬(a.length:Int)<=0:=(by omega);have dL: ¬a=[]:= λh=>eK (by simp[h]);simp[SZ,abJ,abK,abL,abM,B,H,h1,iZ,eK];refine OO gh M nG qh S (by omega) a.length 0 (.slice none 0 0) [] _ _ (by omega) (a7.refl m) (.inl ⟨rfl,rfl⟩) (by simp[dT]) rfl (by simp[val,a3];rw[Int.add_left_neg]) (by simp) (by simp) (by simp) (by simp) λae N o aG ck cE eo e8 f5 gA=> ?_;simp[gA];refine(uX (cE.nV eo) (by omega)).aD λr cc Y=> ?_;simp;have e:val o=val a/ax:=by
      have iF:=yH (az a 0) (show ax≠0 by omega);have aX:=xr (az a 0) (show 0<ax by omega);have bg:val a=val o*ax+az a 0%ax:=(by rw[m9 (val o)];omega);exact(EY bg iF aX).1.symm
    rw[e]at Y;exact⟨ck.trans Y.1,Y.2⟩
end Go.Proofs.YtkpifdkccdndcaaGreat
namespace Go.Big
structure bp where
  bQ:Bool
  n:Int
  d:Int
  deriving DecidableEq
def bp.zero:bp:=⟨false,0,0⟩
def bp.hS:bp:=⟨false,1,1⟩
def bp.nil:bp:=⟨false,0,1⟩
def bp.wy(x:bp):Bool:=decide (x.n<a3 128)&&decide (x.d<a3 128)
def bp.ok(x:bp):Bool:=decide (0<x.d)&&decide (x.d<a3 128)&&decide (x.n<a3 128)
def g4(x:bp):bp:=⟨x.bQ&&decide (0<x.n),x.n/md x.n x.d,x.d/md x.n x.d⟩
def oC(x y:bp):bp:=
  if x.bQ=y.bQ then⟨x.bQ,x.n*y.d+y.n*x.d,x.d*y.d⟩
  else if y.n*x.d<=x.n*y.d then⟨x.bQ,x.n*y.d-y.n*x.d,x.d*y.d⟩else⟨y.bQ,y.n*x.d-x.n*y.d,x.d*y.d⟩
def iI(x y:bp):Int:=
  if x.bQ&&decide (x.n≠0)then(if y.bQ&&decide (y.n≠0)then ix (y.n*x.d) (x.n*y.d)else-1)
  else if y.bQ&&decide (y.n≠0)then 1 else ix (x.n*y.d) (y.n*x.d)
def mG(x:bp):Int×bp:=if x.wy then(0,x)else(2,.zero)
def rl(x:bp):Int×bp:=if x.ok then mG (g4 x)else(1,.zero)
def kh(x y:bp):Int×bp:=if x.ok&&y.ok then mG (g4 (oC x y))else(1,.zero)
def k7:bp->List bp->Int×bp
  |s,[]=>(0,s)
  |s,x::l=>if(kh s x).1=0 then k7 (kh s x).2 l else((kh s x).1,.zero)
theorem tP{a b:Int}{i j:Nat}(aC:0<=a)(K:0<=b)(B:a<a3 i)(H:b<a3 j):a*b<a3 (i+j):=by rw[BU];have af:a*b<=a*a3 j:=s5 (by omega) aC;have aL:a*a3 j<a3 i*a3 j:=Wp B (k6 j);omega
theorem Ff{a b:Int}(K:0<b):0<md a b:=by unfold md;have:=Nat.gcd_pos_of_pos_right a.toNat (show 0<b.toNat by omega);omega
theorem ai2{a b:Int}(K:0<b):md a b<=b:=by unfold md;have:=Nat.gcd_le_right a.toNat (show 0<b.toNat by omega);omega
theorem axQ{a b:Int}(aC:0<=a):md a b∣a:=by
  unfold md;have:=Nat.gcd_dvd_left a.toNat b.toNat;have h:=Int.ofNat_dvd.2 this
  rwa [Int.toNat_of_nonneg aC]at h
theorem XI{a b:Int}(K:0<=b):md a b∣b:=by
  unfold md;have:=Nat.gcd_dvd_right a.toNat b.toNat;have h:=Int.ofNat_dvd.2 this
  rwa [Int.toNat_of_nonneg K]at h
theorem Qo{g b:Int}(aq:0<g)(K:0<b)(h:g∣b):0<b/g:=by
  obtain⟨c,rfl⟩:=h;rw[Int.mul_ediv_cancel_left _ (by omega)];by_cases aK:0<c
  · exact aK
  · have:g*c<=0:=Int.mul_nonpos_of_nonneg_of_nonpos (by omega) (by omega);omega
section
variable {x:bp}
theorem JB(av:0<=x.n)(ay:0<x.d):0<=(g4 x).n/\(g4 x).n<=x.n:=by have g:=Ff (a:=x.n) ay;exact⟨Am av (by omega),EC _ av⟩
theorem Gx(ay:0<x.d):0<(g4 x).d/\(g4 x).d<=x.d:=by have g:=Ff (a:=x.n) ay;exact⟨Qo g ay (XI (by omega)),EC _ (by omega)⟩
theorem bp.rj:x.ok=true↔0<x.d/\x.d<a3 128/\x.n<a3 128:=by simp[bp.ok,and_assoc]
theorem bp.HH:x.wy=true↔x.n<a3 128/\x.d<a3 128:=by simp[bp.wy]
theorem aG3(F:x.ok=true)(av:0<=x.n):(g4 x).wy=true:=by obtain⟨B,H,af⟩:=bp.rj.1 F;have:=(JB av B).2;have:=(Gx B).2;exact bp.HH.2 ⟨by omega,by omega⟩
theorem JS(F:x.ok=true)(av:0<=x.n):rl x=(0,g4 x):=by simp[rl,F,mG,aG3 F av]
theorem Vn(F: ¬x.ok=true):rl x=(1,.zero):=by simp[rl,F]
end
theorem U0{n:Int}:jn n<=4096↔n<a3 128:=by have:=BK 4096 n;rw[Vi];exact this
theorem aHH{n:Int}:jn n<=1↔n<=1:=by have:=BK 1 n;simp at this;omega
theorem Oq{n:Int}:jn n<=0↔n<=0:=by have:=BK 0 n;simp at this;omega
theorem aeq{n:Int}:jn n<=32↔n<4294967296:=by have:=BK 32 n;simp at this;omega
theorem awi(a b:Int):ix b a= -ix a b:=by unfold ix;split<;>(try split)<;>(try split)<;>omega
end Go.Big
namespace Go.Proofs.YtkpifdkccdndcaaGreat
open Go Go.DI Go.Big
section
variable {m:E} {v w:Value} {a b:Int}
theorem zK{l:List Int}{n:Int}(h:dT l)(e:val l=n)(av:n<a3 512):c2 l<=512:=(BM h 512).2 (by rw[e];exact av)
theorem dS.ek{l:List Int}(h:bP m v l)(K:Big l):dS m v (val l):=⟨l,h,K,rfl⟩
theorem dS.bL(h:bP m v (bL a))(bH:0<=a)(B:a<a3 512):dS m v a:=h.de bH B (by decide)
theorem aLX(S:dS m v a):bU Z 131 [v] m λr N=>a7 m N/\bP N r (bL a):=by obtain⟨l,B,H,rfl⟩:=S;exact V0 B H
theorem Ct(S:dS m v a)(aI:Value->E->Prop):bU Z 87 [v] m aI=aI (X (jn a)) m:=by obtain⟨l,B,H,rfl⟩:=S;exact auH B H aI
theorem aia(S:dS m v a)(aS:dS m w b)(aI:Value->E->Prop):bU Z 92 [v,w] m aI=aI (X (ix a b)) m:=by obtain⟨l,B,H,rfl⟩:=S;obtain⟨k,aj,ba,rfl⟩:=aS;exact K3 B aj H ba aI
theorem auf(S:dS m v a)(aS:dS m w b)(h:a+b<a3 512):bU Z 127 [v,w] m (wm m (a+b)):=by have aC:=S.qB;have K:=aS.qB;obtain⟨l,B,H,rfl⟩:=S;obtain⟨k,aj,ba,rfl⟩:=aS;exact auh B aj H ba (zK B.1 rfl (by omega)) (zK aj.1 rfl (by omega)) h
theorem aLF(S:dS m v a)(aS:dS m w b)(h:a<a3 512)(fM:b<=a):bU Z 128 [v,w] m (wm m (a-b)):=by obtain⟨l,B,H,rfl⟩:=S;obtain⟨k,aj,ba,rfl⟩:=aS;exact aLH B aj H ba (zK B.1 rfl h) fM
theorem aHC(S:dS m v a)(aS:dS m w b)(B:a<a3 512)(H:b<a3 512)(h:a*b<a3 512):bU Z 132 [v,w] m (wm m (a*b)):=by obtain⟨l,ck,cE,rfl⟩:=S;obtain⟨k,aj,ba,rfl⟩:=aS;exact aHD ck aj cE ba (zK ck.1 rfl B) (zK aj.1 rfl H) h
theorem awy(S:dS m v a)(aS:dS m w b)(B:a<a3 512)(H:b<a3 512)(h:b≠0):bU Z 130 [v,w] m (Wt m a b):=by obtain⟨l,ck,cE,rfl⟩:=S;obtain⟨k,aj,ba,rfl⟩:=aS;exact awz ck aj cE ba (zK ck.1 rfl B) (zK aj.1 rfl H) h
theorem axU(S:dS m v a)(aS:dS m w b)(B:a<a3 512)(H:b<a3 512):bU Z 129 [v,w] m (wm m (md a b)):=by obtain⟨l,ck,cE,rfl⟩:=S;obtain⟨k,aj,ba,rfl⟩:=aS;exact axV ck aj cE ba (zK ck.1 rfl B) (zK aj.1 rfl H)
end
def iL(m:E)(v:Value)(x:bp):Prop:= ∃a b,v= .agg #[.bool x.bQ,a,b]/\dS m a x.n/\dS m b x.d
def jj(m:E)(v:Value)(x:bp):Prop:= ∃a b,v= .agg #[.bool x.bQ,a,b]/\bP m a (bL x.n)/\bP m b (bL x.d)
def p8(m:E)(p:Int×bp)(r:Value)(N:E):Prop:=a7 m N/\ ∃c,r= .tuple #[c,X p.1]/\jj N c p.2
section
variable {m N:E} {v w:Value} {x y:bp}
theorem iL.aD(h:iL m v x)(ah:a7 m N):iL N v x:=by obtain⟨a,b,B,H,af⟩:=h;exact⟨a,b,B,H.aD ah,af.aD ah⟩
theorem jj.aD(h:jj m v x)(ah:a7 m N):jj N v x:=by obtain⟨a,b,B,H,af⟩:=h;exact⟨a,b,B,H.aD ah,af.aD ah⟩
theorem jj.Pn(h:jj m v x)(bH:0<=x.n)(B:x.n<a3 512)(H:0<=x.d)(af:x.d<a3 512):iL m v x:=by obtain⟨a,b,e,f,g⟩:=h;exact⟨a,b,e,dS.bL f bH B,dS.bL g H af⟩
theorem jj.zero:jj m (.agg #[.bool false,.slice none 0 0,.slice none 0 0]) .zero:=by have e:bL 0=[]:=so (by omega);exact⟨_,_,rfl,by rw[show bp.zero.n=0 from rfl,e];exact bP.nil,by rw[show bp.zero.d=0 from rfl,e];exact bP.nil⟩
theorem iL.dm(h:iL m v x):0<=x.n:=by obtain⟨a,b,B,H,af⟩:=h;exact H.qB
theorem iL.hN(h:iL m v x):0<=x.d:=by obtain⟨a,b,B,H,af⟩:=h;exact af.qB
end
theorem z4:a3 128<a3 512:=by
  rw[show 512=128+384 by rfl,BU];have B:=k6 128;have H:2<=a3 384:=by have:=k6 383;show 2<=4294967296*a3 383;omega
  have:a3 128*2<=a3 128*a3 384:=s5 H (by omega);omega
theorem Vh:a3 256+a3 256<=a3 512:=by
  rw[show 512=256+256 by rfl,BU];have B:=k6 256;have H:2<=a3 256:=by have:=k6 255;show 2<=4294967296*a3 255;omega
  have:a3 256*2<=a3 256*a3 256:=s5 H (by omega);omega
section
variable {m:E} {v w:Value} {a b:Int}
theorem sW(S:dS m v a):bU Z 106 [v] m (Co m a):=by obtain⟨l,B,H,rfl⟩:=S;exact uX B H
theorem xb(S:dS m v a)(h:a<a3 512):bU Z 161 [v] m λr N=>a7 m N/\r= .bool false:=by obtain⟨l,B,H,rfl⟩:=S;refine(aJL B H).aD λr N Y=>⟨Y.1,?_⟩;have:=zK B.1 rfl h;rw[Y.2];simp;omega
theorem ON(S:dS m v a)(aS:dS m w b):bU Z 134 [v,w] m λr N=>a7 m N/\r=X (ix a b):=by obtain⟨l,B,H,rfl⟩:=S;obtain⟨k,aj,ba,rfl⟩:=aS;exact ae1 B aj H ba
theorem Co.de{r:Value}{N:E}(h:Co m a r N)(bH:0<=a)(B:a<a3 512):dS N r a:=dS.bL h.2 bH B
end
theorem AJ{n:Int}(bH:0<=n)(h:n<a3 512):(bL n).length<=512:=rG bH h
theorem aJg{m:E}{Q:dp->aM->E->Prop}: ∀(r:Nat) (k t:Int) (u:aM),t<=r->0<=t->t<4294967296->0<=k->k+r<10000000000000000->u 3=X k->u 4=c3 t->
    (∀ae,ae 3=X (k+jn t)->Q (.bw 0) ae m)->cH Z (.loop SX) u m Q:=by
  intro r;induction r with
  | zero=>intro k t u aH bH B eK bM bA fv a1;refine fc λcp aZ=> ?_;obtain rfl:t=0:=(by omega);simp[SX,abG,fv];exact a1 _ (by simp[bA,DT])
  | succ r cB=>
    intro k t u aH bH B eK bM bA fv a1;by_cases bm:t=0
    · exact cB k t u (by omega) bH B eK (by omega) bA fv a1
    · refine fc λcp aZ=> ?_;have bY:0<t:=(by omega);have bc:IntKind.i64.wrap (k+1)=k+1:=fo (by omega) (by omega);have da:t.tdiv 2=t/2:=Eu bH;have fB:IntKind.u32.wrap (t/2)=t/2:=(by rw[iv];omega);simp[SX,abG,bA,fv,bY,bc,da,fB];exact aZ _ _ (cB (k+1) (t/2) _ (by omega) (by omega) (by omega) (by omega) (by omega) (by simp) (by simp) λae h=>a1 ae (by rw[h,JG bY];congr 1;omega))
theorem aJh{m:E}{v:Value}{n:Int}(S:dS m v n)(av:n<a3 512):bU Z 173 [v] m λr N=>a7 m N/\r=X (jn n):=by
  rw[avy (by simp)];simp[abF,amY,amZ,am0,am1,am2];have bH:=S.qB;refine(sW S).aD λr bo Y=> ?_;obtain⟨B,H,af,aL⟩:=Y.2.len;have aE:=AJ bH av;by_cases bM:(bL n).length=0
  · have cl:n=0:=by
      have:=iD bH;rw[pz.1 bM]at this;simpa[val]using this.symm
    subst cl;simp[B,H,bM];exact⟨Y.1,by rw[DT (by omega)]⟩
  · obtain⟨k,aa⟩: ∃k,(bL n).length=k+1:=⟨(bL n).length-1,by omega⟩;have bh:=Y.2.j3 (i:=k) (by omega);have bt:=Y.2.fu (i:=k) (by omega);have g:=h4 Y.2.1 k;have eI: ¬(k:Int)+1=0:=(by omega);have cN:(k:Int)<(k:Int)+1:=(by omega);have bc:IntKind.i64.wrap (k:Int)=k:=fo (by omega) (by omega);have da:IntKind.i64.wrap (32*(k:Int))=32*(k:Int):=fo (by omega) (by omega);rw[aa]at B;simp only[Int.natCast_add,Hn]at B;simp[eI,cN,B,H,af,bh,bt,bc,da];refine aJg (az (bL n) k).toNat (32*(k:Int)) (az (bL n) k) _ (by omega) g.1 g.2 (by omega) (by omega) (by simp) (by simp) λae h=> ?_;have e:=aes (a:=bL n) (n:=k) Y.2.1 (by rw[(o2 n).2,aa]);rw[iD bH]at e;simp[h];exact⟨Y.1,by rw[e];omega⟩
theorem aI9{m:E}{v w:Value}{a b:Int}(S:dS m v a)(aS:dS m w b)(h:a+b<a3 512):bU Z 135 [v,w] m (wm m (a+b)):=by rw[au9 (by simp)];have fm:=S.qB;have dB:=aS.qB;simp[aag,ali,alj,alk,alm];refine(xb S (by omega)).aD λeT bo fG=> ?_;obtain⟨cA,rfl⟩:=fG;simp;refine(xb (aS.aD cA) (by omega)).aD λfk cc e9=> ?_;obtain⟨dG,rfl⟩:=e9;have kd:=cA.trans dG;simp;refine(sW (S.aD kd)).aD λhB gC jz=> ?_;simp;refine(sW (aS.aD (kd.trans jz.1))).aD λjs iA km=> ?_;simp;have jd:=AJ fm (by omega);have qx:=AJ dB (by omega);refine(aIz (jz.2.aD km.1) km.2 (by omega) (by omega)).aD λmm hA h9=> ?_;rw[iD fm,iD dB]at h9;simp;refine(xb (h9.de (by omega) h) h).aD λxa iW od=> ?_;obtain⟨ic,rfl⟩:=od;simp;exact⟨(((kd.trans jz.1).trans km.1).trans h9.1).trans ic,_,rfl,h9.2.aD ic⟩
theorem aJV{m:E}{v w:Value}{a b:Int}(S:dS m v a)(aS:dS m w b)(aC:a<a3 512)(K:b<a3 512)(h:a*b<a3 512):bU Z 160 [v,w] m (wm m (a*b)):=by rw[avm (by simp)];have fm:=S.qB;have dB:=aS.qB;simp[aaR,al8,al9,ama,amb];refine(xb S (by omega)).aD λeT bo fG=> ?_;obtain⟨cA,rfl⟩:=fG;simp;refine(xb (aS.aD cA) (by omega)).aD λfk cc e9=> ?_;obtain⟨dG,rfl⟩:=e9;have kd:=cA.trans dG;simp;refine(sW (S.aD kd)).aD λhB gC jz=> ?_;simp;refine(sW (aS.aD (kd.trans jz.1))).aD λjs iA km=> ?_;simp;have jd:=AJ fm (by omega);have qx:=AJ dB (by omega);refine(Vv (jz.2.aD km.1) km.2 (by omega) (by omega)).aD λmm hA h9=> ?_;rw[iD fm,iD dB]at h9;simp;refine(xb (h9.de (mq fm dB) h) h).aD λxa iW od=> ?_;obtain⟨ic,rfl⟩:=od;simp;exact⟨(((kd.trans jz.1).trans km.1).trans h9.1).trans ic,_,rfl,h9.2.aD ic⟩
theorem aKf{m:E}{v w:Value}{a b:Int}(S:dS m v a)(aS:dS m w b)(aC:a<a3 512)(fM:b<=a):bU Z 137 [v,w] m (wm m (a-b)):=by
  rw[avb (by simp)];have fm:=S.qB;have dB:=aS.qB;simp[aai,alp,alq,alr];refine(xb S (by omega)).aD λeT bo fG=> ?_;obtain⟨cA,rfl⟩:=fG;simp;refine(xb (aS.aD cA) (by omega)).aD λfk cc e9=> ?_;obtain⟨dG,rfl⟩:=e9;have kd:=cA.trans dG;have bY: ¬ix a b<0:=by unfold ix;rw[if_neg (by omega)];split<;>omega
  simp;refine(ON (S.aD kd) (aS.aD kd)).aD λhB gC jz=> ?_;obtain⟨e1,rfl⟩:=jz;have kd:=kd.trans e1;simp[bY];refine(sW (S.aD kd)).aD λhB gC jz=> ?_;simp;refine(sW (aS.aD (kd.trans jz.1))).aD λjs iA km=> ?_;simp;have jd:=AJ fm (by omega);have qx:=AJ dB (by omega);have aGW:(bL b).length<=(bL a).length:=by
    by_cases h:(bL b).length<=(bL a).length
    · exact h
    · have:=kC.Jz (o2 a).1 (o2 b) (by omega);rw[iD fm,iD dB]at this;omega
  refine(ael (jz.2.aD km.1) km.2 (by omega) aGW (by rw[iD fm,iD dB];exact fM)).aD λmm hA h9=> ?_;rw[iD fm,iD dB]at h9;simp;exact⟨((kd.trans jz.1).trans km.1).trans h9.1,_,rfl,h9.2⟩
end Go.Proofs.YtkpifdkccdndcaaGreat
namespace Go.Big
theorem aHI{t:Int}(bH:1<=t)(B:t<4294967296):1<=jn t/\jn t<=32:=by have a:=aeq (n:=t);have b:=Oq (n:=t);omega
theorem ax5{c3 cT g ep t P cK fq:Int}(za:0<P)(zb:c3=t*P+cK)(eQ:cK<P)(jT:cT=ep*P+fq)(sB:0<=fq)(bm:0<ep)(sx:0<=g)(h:g*cT<=c3):g<=t/ep:=by
  have B:g*(ep*P)<=g*cT:=s5 (by omega) sx;have H:g*ep*P<(t+1)*P:=by have:(t+1)*P=t*P+P:=(by grind);have:g*ep*P=g*(ep*P):=(by grind);omega
  have af:g*ep<t+1:=Int.lt_of_mul_lt_mul_right H (by omega);exact(Int.le_ediv_iff_mul_le bm).2 (by omega)
theorem qa.first{cy cT:Int}{n aU:Nat}{a:List Int}(lF:val a=cy)(aC:dT a)(jb:a.length+1=aU+n)(av:0<n)(jT:a3 (n-1)<=cT):qa cy cT n (a++[0]) (List.replicate aU 0) aU:=by
  have cl:dT [0]:= λx F=>by simp at F;subst F;omega
  refine⟨aC.app cl,dT.wg _,by simp;omega,λi x ag F=> ?_,?_,?_⟩
  · have:=(dg.1 F).1;simp at this;omega
  · have e:((a++[0]).drop aU).take n=a.drop aU++[0]:=by
      rw[fw (by simp;omega),List.drop_append_of_le_length (by omega)]
    rw[e,u2];have b:=ih (aC.drop aU);rw[List.length_drop,show a.length-aU=n-1 by omega]at b;simp only[val];omega
  · rw[u5 (by simp),u2,lF];simp[val]
theorem V6(l:List Int)(k:Nat):val (l++List.replicate k 0)=val l:=by rw[u2,V8];simp
theorem aHB{cV di ax:Int}(gh:0<ax):cV*ax/(di*ax)=cV/di/\cV*ax%(di*ax)/ax=cV%di:=by refine⟨Int.mul_ediv_mul_of_pos_left _ _ gh,?_⟩;rw[m9 cV,m9 di,Int.mul_emod_mul_of_pos _ _ gh,Int.mul_ediv_cancel_left _ (by omega)]
end Go.Big
namespace Go.Proofs.YtkpifdkccdndcaaGreat
open Go Go.DI Go.Big
theorem a7.none{m N:E}(h:a7 m N){b:Nat}(K:b<m.next)(av:m.U b=none):N.U b=none:=by rw[h.U b K,av]
theorem CK{P:Program}{f:Nat}{args:List Value}{p m:E}{jR:Value->E->Prop}(Y:qO p m)(h:bU P f args p λr fb=>a7 p fb/\jR r fb):
    bU P f args m λr N=>a7 m N/\ ∃fb,qO fb N/\a7 p fb/\jR r fb/\ ∀b,b<m.next->p.U b=none->fb.U b=none:=by
  refine(bU.frame Y h).aD λr N bz=> ?_;obtain⟨fb,⟨ah,aH⟩,R⟩:=bz;refine⟨⟨R.next,λb K=> ?_⟩,fb,R.part,ah,aH,λb K av=>(R.OD b K av).2.1⟩;cases aq:p.U b with
  |none=>exact(R.OD b K aq).1
  |some x=>rw[R.part.U _ _ (ah.some aq),Y.U _ _ aq]
theorem bP.jh{m N:E}{v:Value}{l:List Int}(h:bP m v l)(M:cU m N):bP N v l:=by
  obtain⟨aa,h|⟨b,o,cs,w,B,H,af,aL⟩⟩:=h
  · exact⟨aa,.inl h⟩
  · exact⟨aa,.inr ⟨b,o,cs,w,B,M.U _ _ H,af,aL⟩⟩
def E.q5(m:E)(b:Nat):E:=m.an b none
theorem qO.q5(m:E)(b:Nat):qO (E.q5 m b) m:=⟨rfl,rfl,λc x h=>by
  by_cases aK:c=b
  · subst aK;simp[E.q5,E.U,E.an]at h
  · rwa [E.q5,dC aK]at h⟩
theorem ad6{m:E}{b:Nat}:(E.q5 m b).U b=none:=by simp[E.q5,E.U,E.an]
theorem aGP{m:E}{b c:Nat}(h:c≠b):(E.q5 m b).U c=m.U c:=by rw[E.q5,dC h]
theorem bP.mw{m:E}{v:Value}{l:List Int}{b:Nat}(h:bP m v l)(K:m.U b=none):ai v≠some b:=by
  obtain⟨aa,⟨rfl,_⟩|⟨c,o,cs,w,rfl,H,af,aL⟩⟩:=h
  · simp[ai]
  · simp only[ai,ne_eq,nA];intro e;subst e;rw[K]at H;cases H
theorem bP.q5{m:E}{v:Value}{l:List Int}{b:Nat}(h:bP m v l)(K:ai v≠some b):bP (E.q5 m b) v l:=by
  obtain⟨aa,h|⟨c,o,cs,w,rfl,H,af,aL⟩⟩:=h
  · exact⟨aa,.inl h⟩
  · refine⟨aa,.inr ⟨c,o,cs,w,rfl,?_,af,aL⟩⟩;rw[aGP (λe=>K (by simp[ai,e])),H]
theorem arv{dv:E}{v w:Value}{a:List Int}{d:Int}(S:bP dv v a)(aS:bP dv w [d])(ay:0<d/\d<4294967296)(aC:Big a){bE:Nat}(iO:dv.next<=bE){Q:dp->aM->E->Prop}: ∀(n:Nat) (c:Int) (o:List Int) (m:E) (u:aM),
    n<=a.length->a7 dv m->m.U bE=some ⟨o.map c3,true⟩->dT o->o.length=a.length->0<=c->c<d->val (a.drop n)=val (o.drop n)*d+c->
    u 0=v->u 1=w->u 6= .slice (some ⟨bE,0,none⟩) a.length 1->u 7=L c->u 8=X ((n:Int)-1)->
    (∀ae N o c,a7 dv N->N.U bE=some ⟨o.map c3,true⟩->dT o->o.length=a.length->0<=c->c<d->val a=val o*d+c->
      ae 6= .slice (some ⟨bE,0,none⟩) a.length 1->ae 7=L c->Q (.bw 0) ae N)->cH Z (.loop SJ) u m Q
  | 0,c,o,m,u,av,ah,aq,aA,eQ,eI,bY,a2,b1,aw,dn,c7,ch,a1=>by refine fc λcp aZ=> ?_;simp[SJ,aaX,aaY,ch];exact a1 _ _ o c ah aq aA eQ eI bY (by simpa using a2) (by simp[dn]) (by simp[c7])
  | n+1,c,o,m,u,av,ah,aq,aA,eQ,eI,bY,a2,b1,aw,dn,c7,ch,a1=>by
    refine fc λcp aZ=> ?_;have gn:=S.aD ah;have ja:=aS.aD ah;obtain⟨B,H,af,aL⟩:=gn.len;obtain⟨eh,gB,g1,lh⟩:=ja.len
    replace eh:ib w=1:=eh
    have bh:=gn.j3 (i:=n) (by omega);have bt:=gn.fu (i:=n) (by omega);have cM:=ja.j3 (i:=0) (by simp);have dq:=ja.fu (i:=0) (by simp);rw[show az [d] 0=d from rfl]at dq;have ahN:= λx=>(aS.aD (ah.an (x:=x) iO)).j3 (i:=0) (by simp);have WV:= λx=>(aS.aD (ah.an (x:=x) iO)).fu (i:=0) (by simp);rw[show az [d] 0=d from rfl]at WV;simp only[Hn]at cM dq ahN WV;have ht:=h4 S.1 n;have bn:(n:Int)<a.length:=(by omega);have cq:n<a.length:=(by omega);have cZ:n+1<=a.length:=(by omega);obtain⟨t,bm⟩: ∃t,t=c*4294967296+az a n:=⟨_,rfl⟩;have bS:0<=t:=(by omega);have yA:t<d*4294967296:=(by omega);have hN:0<=t/d:=Am bS (by omega);have j5:t/d<4294967296:=Int.ediv_lt_of_lt_mul (by omega) (by rw[m9];exact yA);have iF:=yH t (show d≠0 by omega);have aX:=xr t ay.1;have bc:IntKind.i64.wrap ((n:Int)-1)=(n:Int)-1:=fo (by omega) (by omega);have da:IntKind.u64.wrap (az a n)=az a n:=fi (by omega) (by omega);have fB:IntKind.u64.wrap (c*4294967296)=c*4294967296:=fi (by omega) (by omega);have ij:IntKind.u64.wrap ↑((c*4294967296%2^IntKind.u64.bits).toNat|||(az a n%2^IntKind.u64.bits).toNat)=t:=(by rw[BR (s:=32) (by decide) eI ht.1 ht.2 (by omega),bm]);have h1:IntKind.u64.wrap d=d:=fi (by omega) (by omega);have iZ:IntKind.u64.wrap (t.tdiv d)=t/d:=(by rw[Eu bS];exact fi hN (by omega));have mL:t.tmod d=t%d:=Py bS;have l7:IntKind.u32.wrap (t/d)=t/d:=(by rw[iv];omega);have yD: ¬d=0:=(by omega);have cg:=aO aq;simp[SJ,aaX,aaY,b1,aw,dn,c7,ch,B,af,eh,g1,bn,cZ,bh,bt,cM,dq,ahN,WV,bc,da,fB,ij,h1,iZ,mL,l7,yD,aq,eQ];refine aZ _ _ (arv S aS ay aC iO n (t%d) (o.set n (t/d)) _ _ (by omega) (ah.an iO) (by rw[cW cg,m4]) (aA.set n (by omega)) (by simp[eQ]) iF aX (arR ay.1 a2 bm (by omega)) (by simp[b1]) (by simp[aw]) (by simp[dn]) (by simp) (by simp) a1)
end Go.Proofs.YtkpifdkccdndcaaGreat
