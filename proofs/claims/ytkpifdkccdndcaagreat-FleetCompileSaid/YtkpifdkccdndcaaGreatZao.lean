/-
  A part of the proof of the statement, in texts that tools of ours (wip/shrink.py, irpack.py, relax.py, minify.py, join.py, lay.py) have shortened.
-/
import Derived.Test.YtkpifdkccdndcaaGreatZan
set_option linter.all false
set_option maxRecDepth 8000
set_option maxHeartbeats 16000000
namespace Go.Proofs.YtkpifdkccdndcaaGreat
open Go Go.DI Go.Big
theorem aCn{m:B}{dS:ByteArray}{c2 jd la:Value}{bb:List (List a6)}{n cH:Nat}(aF:iD.tO.G m jd bb)(sL:bb.length=n)(l0:n<1000000)(mo:m.next<=cH){az:Value->B->Prop}(de: ∀N,a0 m N->pr n 0 bb=false->az (.bool false) N){aV:U}: ∀(dg:List (List a6)) (i:Nat) (a8:B) (u:aL),bb.drop i=dg->i+dg.length=n->(pr n i dg=pr n 0 bb)->a0 m a8->a8.M cH=some ⟨[.string dS,c2,jd,la],true⟩->
    u 1=bZ cH->u 3=S n->u 4=S i->
    (∀ag N,pr n 0 bb=true->a0 m N->N.M cH=some ⟨[.string dS,c2,jd,la],true⟩->ag 1=bZ cH->ag 3=S n->ch Tryz.prog aV ag N (ey [.bA 2] az))->
    ch Tryz.prog (.loop O3) u a8 (sz 0 (s8 Tryz.prog aV (ey [.bA 2] az))):=by
  intro dg;induction dg with
  | nil=>intro i a8 u aR aa bT an jr aH bd bL bf;refine eT λb9 a9=> ?_;have e:i=n:=(by simpa using aa);subst e;simp[O3,Wu,bd,bL];exact bf _ _ bT.symm an jr (by simp[aH]) (by simp[bd])
  | cons cq dg cb=>
    intro i a8 u aR aa bT an jr aH bd bL bf;refine eT λb9 a9=> ?_;have H:bb[i]?=some cq:=(by rw[<-List.head?_drop,aR];rfl);have ng:bb.drop (i+1)=dg:=(by rw[<-List.tail_drop,aR];rfl);simp only[List.length_cons]at aa;obtain⟨z,D,Z,aw⟩:=aF.len
    replace Z:kA 1 jd=true:=Z
    rw[sL]at z;have bK:(i:Int)<n:=(by omega);have BF:=aT jr;have bo:IntKind.i64.wrap ((i:Int)+1)=(i:Int)+1:=ct (by omega) (by omega);obtain⟨w,dt,dJ,vN⟩:=gS.G.LN rfl aF (cx.l9 an) H;obtain⟨dk,dV,ew,f4⟩:=vN.len
    replace ew:kA 3 w=true:=ew
    simp only[pr]at bT;simp[O3,Wu,aH,bd,bL,bK,z,Z,dt,dJ,jr];refine(Sx (vN.aD (cx.l9 an)) l0).aD λe6 bz fP=> ?_;obtain⟨b5,rfl⟩:=fP;have jk:=an.trans b5;have zM:=b5.some jr;by_cases bp:cq.length=n
    · cases dc:cq.all a6.small with
      | false=>simp[bp];exact de _ jk (by rw[<-bT];simp[p7,dc])
      | true=>
        obtain⟨x,oL⟩: ∃x,cq[i]?=some x:=⟨_,List.getElem?_eq_getElem (by omega)⟩;have xe:x.small=true:=List.all_eq_true.1 dc x (List.mem_of_getElem? oL);obtain⟨e1,apn,apo,afr⟩:=gS.G.LN rfl aF (cx.l9 jk) H;obtain⟨IU,IV,IW,aH7⟩:=afr.len
        replace IW:kA 3 e1=true:=IW
        rw[bp]at IU;obtain⟨q,a,c,lW,er,eU,bn,bF,ln⟩:=iD.fj (afr.aD (cx.l9 jk)) (cx.refl _) oL;have cl:=ln.gO;simp[bp,aH,bL,zM,bK,z,Z,apn,apo,IU,IW,bn,bF];refine(Sw ln (vf xe)).aD λfw b4 fh=> ?_;obtain⟨dC,rfl⟩:=fh;have ke:=jk.trans dC;have aj:=FI oL;have Mz:=aCP xe cl;by_cases eK:0<x.n
        · simp[Mz,eK];exact de _ ke (by rw[<-bT];simp[p7,aj,eK])
        · have aA:p7 n i cq=true:=(by simp[p7,bp,dc,aj,eK]);rw[aA,Bool.true_and]at bT;simp[Mz,eK,bL,bo];exact a9 _ _ (cb (i+1) b4 _ ng (by omega) bT ke (dC.some zM) (by simp[aH]) (by simp[bd]) (by simp) bf)
    · simp[bp];exact de _ jk (by rw[<-bT];simp[p7,bp])
theorem aCp{m:B}{v:Value}{s e:List a6}{bb:List (List a6)}(h:CZ m v s bb e)(nY:s.length<1000000):
    bJ Tryz.prog 10 [v] m λr N=>a0 m N/\r= .bool (mJ s bb e):=by
  rw[apI (by simp)];have kq:=h;obtain⟨dS,c2,jd,la,rfl,J,aF,aU⟩:=h;obtain⟨bn,bF,_,_⟩:=J.len;obtain⟨dt,dJ,_,_⟩:=aF.len;obtain⟨dK,fY,lx,rfl⟩:=gS.G.gm J;obtain⟨eO,dh,nM,rfl⟩:=gS.G.gm aF;obtain⟨gk,kZ,tb,rfl⟩:=gS.G.gm aU;simp only[ic]at bn dt;obtain rfl:fY=s.length:=by omega
  obtain rfl:dh=bb.length:=by omega
  obtain⟨a8,dN⟩: ∃a8,a8=(m.bs 2).au m.next (some ⟨[.string dS,.slice dK s.length lx,.slice eO bb.length nM,.slice gk kZ tb],true⟩):=⟨_,rfl⟩
  have ed:a0 m a8:=by rw[dN];exact((a0.refl m).bs 2).au (by omega)
  have aj:a8.M m.next=some ⟨[.string dS,.slice dK s.length lx,.slice eO bb.length nM,.slice gk kZ tb],true⟩:=by rw[dN,bX (by simp)]
  have mH:=iD.p1 J;by_cases bp:(s.length:Int)<1
  · simp(disch:=first|omega|(simp only[ae,ad,af];omega)) [J9,OS,OY,OZ,O0,Ka,O1,O2,OW,BT,bp];rw[<-dN];exact⟨ed,by simp[mJ];omega⟩
  by_cases dc:(s.length:Int)>4
  · simp(disch:=first|omega|(simp only[ae,ad,af];omega)) [J9,OS,OY,OZ,O0,Ka,O1,O2,OW,BT,bp,dc];rw[<-dN];exact⟨ed,by simp[mJ];omega⟩
  have bm:1<=s.length:=by omega
  have bU:s.length<=4:=by omega
  simp(disch:=first|omega|(simp only[ae,ad,af];omega)) [J9,OS,OY,bp,dc];rw[<-dN];refine(Sx (J.aD (cx.l9 ed)) nY).aD λe6 bz fP=> ?_;obtain⟨b5,rfl⟩:=fP;have aC:=b5.some aj;have jk:=ed.trans b5;cases j2:s.all a6.small with
  | false=>simp[];exact⟨jk,by simp[mJ,j2]⟩
  | true=>
    simp[aC];refine(Sx (aU.aD (cx.l9 jk)) nY).aD λfw b4 fh=> ?_;obtain⟨dC,rfl⟩:=fh;have a2:=dC.some aC;have ke:=jk.trans dC;by_cases eK:e.length=s.length
    · cases ni:e.all a6.small with
      | false=>simp[eK];exact⟨ke,by simp[mJ,j2,ni]⟩
      | true=>
        by_cases kX:(bb.length:Int)=s.length
        · have fa:bb.length=s.length:=(by omega);simp[eK,kX,a2,OZ];refine aCn (m:=m) (n:=s.length) (dS:=dS) (cH:=m.next) aF fa nY (Nat.le_refl _) (az:= λr N=>a0 m N/\r= .bool (mJ s bb e)) (λN o aI=>⟨o,by simp[mJ,aI]⟩) bb 0 b4 _ rfl (by omega) rfl ke a2 (by simp) (by simp) (by simp) λag gI zY fs bS aH bd=> ?_;have uJ: ∀(i:Nat) (cq:List a6),bb[i]?=some cq->cq.length=s.length/\cq.all a6.small=true:= λi cq H=>by
            have:=HJ zY H;simp only[p7,Bool.and_eq_true,decide_eq_true_eq]at this;exact⟨this.1,this.2.1⟩
          have aA:mJ s bb e=(decide ((kl .nil s).1=0)&&decide (ju (kl .nil s).2 .ha=0)&&IQ (hE e) (bb.map hE) s.length):=(by simp[mJ,bm,bU,eK,fa,j2,ni,zY]);rw[aA];have Og:=aT bS;simp(disch:=omega) [O0,O1,O2,OW,BT,aH,bS];have aQ:= λk=>(a0.refl gI).bs k;refine(aBy ((J.aD (cx.l9 fs)).aD (cx.l9 (aQ _))) nY).aD λnr h0 ku=> ?_;obtain⟨g3,q,rfl,bt⟩:=ku;obtain⟨Y,bT⟩: ∃Y,Y=(kl .nil s).1:=⟨_,rfl⟩;obtain⟨Q,bf⟩: ∃Q,Q=(kl .nil s).2:=⟨_,rfl⟩;rw[<-bT,<-bf];rw[<-bf]at bt;obtain⟨hr,iM,o1,qU,za,AU,rfl⟩:=bt.gm;have Vz:=g3.next
          simp only[ad]at Vz;have da:h0.M (gI.next+6)=none:=g3.none (by simp) (Jf 9 6);have nG:=(fs.bs 9).trans g3;have UG:=((aQ 9).trans g3).some bS;have Vv:gI.next+6<h0.next:=by omega
          have at6:=fs.next
          simp(disch:=omega) [];obtain⟨o6,wZ⟩: ∃o6,o6=h0.au (gI.next+6) (some ⟨[.bool Q.bV,.slice hr iM o1,.slice qU za AU],true⟩):=⟨_,rfl⟩;rw[<-wZ];have Se:a0 m o6:=(by rw[wZ];exact nG.au (by omega));have x6:o6.M (gI.next+6)=some ⟨[.bool Q.bV,.slice hr iM o1,.slice qU za AU],true⟩:=(by rw[wZ,bX Vv]);have oi:o6.M m.next=some ⟨[.string dS,.slice dK s.length lx,.slice eO bb.length nM,.slice gk kZ tb],true⟩:=by rw[wZ,dv (by have:=aT bS;omega)];exact UG
          have VK:je o6 (.agg #[.bool Q.bV,.slice hr iM o1,.slice qU za AU]) Q:=(by rw[wZ];exact bt.sub (cx.au da));have ae4:=aT x6;by_cases qw:Y=0
          · have NX:=E2 s Ay (by decide) mH (by rw[<-bT];exact qw);rw[<-bf]at NX;simp[Ka,qw,x6];refine(Su (n:=1) (by omega) (by omega)).aD λmL g2 ib=> ?_;obtain⟨gK,JM⟩:=ib;rw[avb]at JM;refine xT gK (λp aq b L=>by simp at aq;rcases aq with rfl;simp[ai]at L;omega) ?_;simp;refine(amH ((VK.Tb NX.1 NX.2).aD gK) (JM.Tb EJ (by decide)) NX.1 EJ).aD λxD ie nW=> ?_;obtain⟨ig,rfl⟩:=nW;have yO:=(Se.trans gK).trans ig;have NO:=(gK.trans ig).some oi;by_cases oR:ju Q .ha=0
            · have fM:((s.length:Nat):Int)*1<=140737488355328:=(by omega);have dg:(s.length:Int)<=140737488355328:=(by omega);have pW:(s.length:Int)<=9223372036854775807:=(by omega);have atT:=aT NO;simp[oR,bd,dg,pW];refine aBn (m:=m) (dS:=dS) (n:=s.length) (ga:=ie.next+1) (cH:=m.next) aF aU fa eK uJ ni nY (by have:=yO.next;omega) (Nat.le_refl _) (by have:=yO.next;omega) s.length 0 _ _ (by omega) ((yO.bs 3).au (by have:=yO.next;omega)) (by rw[bX (by simp)];simp[l4]) (by rw[dv (by omega),gr atT];exact NO) (by simp[aH]) (by simp[bd]) (by simp) (by simp) λaRC xx yN Dr vh E3=> ?_;simp[];exact aBa (Er _) nY Dr _ 0 _ rfl (by simp[Er]) (by simp[vh]) (by simp[E3]) (by simp) ⟨yN,by simp[IQ]⟩
            · simp[oR];exact yO
          · simp[Ka,qw];exact Se
        · have fa: ¬bb.length=s.length:=(by omega);simp[eK,kX,a2];exact⟨ke,by simp[mJ,fa]⟩
    · simp[eK];exact⟨ke,by simp[mJ,eK]⟩
end Go.Proofs.YtkpifdkccdndcaaGreat
namespace Go.Big
structure hk where
  name:ByteArray
  s:List bh
  bb:List (List bh)
  e:List bh
  deriving DecidableEq
def hk.bM(x:hk):Prop:=(∀r∈x.s,r.bM)/\(∀l∈x.bb,∀r∈l,r.bM)/\(∀r∈x.e,r.bM)/\x.s.length<1000000/\x.bb.length<1000000/\x.e.length<1000000/\ ∀l∈x.bb,l.length<140737488355329
def hk.ox(x:hk):Bool:=mJ (x.s.map bh.bw) (x.bb.map (·.map bh.bw)) (x.e.map bh.bw)
theorem hk.Sg{x:hk}(W:x.bM)(h:x.ox=true): ∀l∈x.bb,l.length<1000000:= λl aG=>by
  unfold hk.ox mJ at h;simp only[Bool.and_eq_true]at h;obtain⟨i,aa,rfl⟩:=List.getElem_of_mem aG;have aF:pr (x.s.map bh.bw).length 0 (x.bb.map (·.map bh.bw))=true:=by first|exact h.1.1.2|exact h.1.2|exact h.2.1|exact h.1.1.1.2
  have:=HJ (j:=i) aF (by rw[List.getElem?_map,List.getElem?_eq_getElem aa];rfl);simp only[p7,Bool.and_eq_true,decide_eq_true_eq,List.length_map]at this;have iP:=W.2.2.2.1;have ml:=this.1;omega
end Go.Big
namespace Go.Proofs.YtkpifdkccdndcaaGreat
open Go Go.DI Go.Big
abbrev wM(l:List (List bh)):Value:=bE (l.map λr=>[fT r]) 1
def j3(x:hk):List Value:=[.string x.name,fT x.s,wM x.bb,fT x.e]
@[simp] theorem aIu{l e5:List (List bh)}:(l.map λr=>[fT r])=(e5.map λr=>[fT r])↔l=e5:=Hm λx y h=>by simpa using h
abbrev px(x:hk):Value:= .agg (j3 x).toArray
theorem b2.ash{K:jA}{Y:hj}{x y O aJ:Value}{mT:List Value}(h:b2 K Y [x,y,O,aJ] mT): ∃a b c d,mT=[a,b,c,d]/\cw K Y x a/\cw K Y y b/\cw K Y O c/\cw K Y aJ d:=by
  match mT,h with
  |[a,b,c,d],h=>exact⟨a,b,c,d,rfl,h.2 0 x a rfl rfl,h.2 1 y b rfl rfl,h.2 2 O c rfl rfl,h.2 3 aJ d rfl rfl⟩
  |[],h=>simp[b2]at h
  |[_],h=>simp[b2]at h
  |[_,_],h=>simp[b2]at h
  |[_,_,_],h=>simp[b2]at h
  |_::_::_::_::_::_,h=>simp[b2]at h
theorem afg{m:B}{v:Value}{x:hk}(W:x.bM)(h:uf m (px x) v):CZ m v (x.s.map bh.bw) (x.bb.map (·.map bh.bw)) (x.e.map bh.bw):=by
  obtain⟨ys,rfl,aG⟩:=h.vQ;obtain⟨a,b,c,d,e,z,D,Z,aw⟩:=b2.ash (x:= .string x.name) (y:=fT x.s) (O:=wM x.bb) (aJ:=fT x.e) aG;have eW:ys= #[a,b,c,d]:=by rw[<-Array.toArray_toList (xs:=ys),e]
  subst eW;rw[z.z0];refine⟨x.name,b,c,d,rfl,VE W.1 D,?_,VE W.2.2.1 aw⟩;have aX:abb.tO.G m c x.bb:=amW.tO.ab1 W.2.1 Z;exact gS.G.sr (q:=iD.tO) (λl:List bh=>l.map bh.bw) aX rfl λcs l _ H=>by obtain⟨v,rfl,X⟩:=H;exact⟨v,rfl,amX X⟩
theorem aDL{x:hk}(W:x.bM):eg Tryz.prog 9 [px x] (.bool x.ox):=pX λm fm aE=>by obtain⟨v,rfl,h⟩:=aE.ha;refine(aDM (afg W h) (by simpa using W.2.2.2.1) (by simpa using W.2.2.2.2.2.1) (by simpa using W.2.2.2.2.1) (λcq aF=> ?_)).aD λr N ⟨z,D⟩=>⟨z,by rw[D];exact .c0 rfl⟩;obtain⟨l,aG,rfl⟩:=List.mem_map.1 aF;simpa using W.2.2.2.2.2.2 l aG
theorem aCo{x:hk}(W:x.bM):eg Tryz.prog 10 [px x] (.bool x.ox):=pX λm fm aE=>by obtain⟨v,rfl,h⟩:=aE.ha;exact(aCp (afg W h) (by simpa using W.2.2.2.1)).aD λr N ⟨z,D⟩=>⟨z,by rw[D];exact .c0 rfl⟩
def m5(x:hk):hk:=⟨x.name,x.s.map ea,x.bb.map (·.map ea),x.e.map ea⟩
noncomputable def Cw:c8 Tryz.prog:= .fJ 68 (List bh) (λl=>(∀x∈l,x.bM)/\l.length<1000000) (λl=>[fT l]) (λl=>fT (l.map ea)) λ_ h=>azi h.1 h.2
@[simp] theorem aOe:Cw.f=68:=rfl
@[simp] theorem am1{l:List bh}(h:(∀x∈l,x.bM)/\l.length<1000000):Cw.fn [bE (l.map eS) 3]=some (fT (l.map ea)):=c8.gX (x:=l) h λy ah=>by simpa using ah
theorem ad0{l:List (List bh)}: ∀r∈l.map (λr=>[fT r]),r.length=1/\ ∀v∈r,j9 v=true:= λr aF=>by obtain⟨x,_,rfl⟩:=List.mem_map.1 aF;exact⟨rfl,λv X=>by simp at X;subst X;rfl⟩
theorem ad1(l:List (List bh)):(l.map λr=>[fT r]).flatten=l.map fT:=by
  induction l with
  |nil=>rfl
  |cons x l cb=>simp[cb]
theorem kB{cK:Type}{l:List cK}{i:Nat}{x:cK}(h:l[i]?=some x):l.take (i+1)=l.take i++[x]:=by rw[List.take_add_one,h];rfl
theorem azf{bb:List (List bh)}{dS:ByteArray}{cf bu:Value}{C5:fO}(dc: ∀l∈bb,∀r∈l,r.bM)(j2:bb.length<1000000)(oR: ∀l∈bb,l.length<1000000){eQ ht o:Nat}{Q:dr->aL->B->Prop}{u:aL}{t:B}(eZ:eQ≠ht)(auh:o≠ht)(aui:eQ≠o)
    (bS:t.M ht=some ⟨[.string dS,cf,.slice (some ⟨o,0,none⟩) 0 1,bu],true⟩) (ds:t.M o=some ⟨[],true⟩) (a2:t.M eQ=some C5) (bD:u 2=bZ eQ) (bd:u 3=bZ ht) (Mi:u 16=wM bb) (j4:u 17=S bb.length) (p8:u 18=S 0)
    (bf: ∀ag aN o',ag 2=bZ eQ->ag 3=bZ ht->aN.M eQ=some C5->aN.M ht=some ⟨[.string dS,cf,.slice (some ⟨o',0,none⟩) bb.length 1,bu],true⟩->aN.M o'=some ⟨((bb.map (·.map ea)).map λr=>[fT r]).flatten,true⟩->o'≠eQ->Q (.bI 0) ag aN):hs Tryz.prog (.loop Rj) u t Q:=by
  refine jn (aY:=⟨[Cw],[]⟩) (λi u t=> ∃o cs,cs=(((bb.take i).map (·.map ea)).map λr=>[fT r]).flatten/\o≠ht/\o≠eQ/\t.M ht=some ⟨[.string dS,cf,.slice (some ⟨o,0,none⟩) i 1,bu],true⟩/\t.M o=some ⟨cs,true⟩/\t.M eQ=some C5/\u 2=bZ eQ/\u 3=bZ ht/\u 16=wM bb/\u 17=S bb.length/\u 18=S i) bb.length ?_ ?_ 0 u t (Nat.zero_le _) ⟨o,[],by simp,auh,λh=>aui h.symm,bS,ds,a2,bD,bd,Mi,j4,p8⟩
  · rintro i u t aa ⟨o,cs,jh,fY,dh,bS,ds,a2,bD,bd,Mi,j4,p8⟩ b9 a9;have H:bb[i]?=some bb[i]:=List.getElem?_eq_getElem aa;have aK:bb[i]∈bb:=List.getElem_mem aa;have bo:IntKind.i64.wrap ((i:Int)+1)=(i:Int)+1:=ct (by omega) (by omega);have bK:(i:Int)<bb.length:=(by omega);have bn:(∀r∈bb[i],r.bM)/\bb[i].length<1000000:=⟨dc _ aK,oR _ aK⟩;have pW:=aT bS;have cZ:=aT ds;have dg:=aT a2;have h9:cs.length=i:=(by rw[jh,ad1];simp;omega);have hB:cs.take i=cs:=List.take_of_length_le (by omega);have fV:(i+1)*24<=140737488355328/\i<=9223372036854775806:=(by omega);simp(disch:=first|omega|(simp only[ae,ad,af];omega)) [Rj,Ze,Zf,bd,Mi,j4,p8,bK,bo,bS,ds,h9,hB,fV,-al,-ar,-ai,-ao,-List.map_map];refine a9 _ _ ⟨t.next+5,cs++[fT (bb[i].map ea)],?_,?_,?_,?_,?_,?_,?_,?_,?_,?_,?_⟩
    · rw[kB H,jh,List.map_append,List.map_append,List.flatten_append];rfl
    all_goals first|omega|(simp(disch:=first|omega|(simp only[ae,ad,af];omega)) [bD,bd,Mi,j4,a2,-al,-ar,-ai,-ao,-List.map_map])
  · rintro u t ⟨o,cs,jh,fY,dh,bS,ds,a2,bD,bd,Mi,j4,p8⟩;simp(disch:=first|omega|(simp only[ae,ad,af];omega)) [Rj,Ze,Zf,j4,p8,-al,-ar,-ai,-ao,-List.map_map];exact bf _ _ o (by simp[bD]) (by simp[bd]) a2 bS (by rw[ds,jh,List.take_length]) dh
theorem azg{x:hk}(W:x.bM)(gn: ∀l∈x.bb,l.length<1000000):eg Tryz.prog 67 [px x] (px (m5 x)):=by refine iA (g0 (aY:=⟨[Cw],[]⟩) axT (by kernel_rfl) (by simp[Zd]) ?_);obtain⟨bp,dc,eK,kX,j2,ni,oR⟩:=W;have bn:(∀r∈x.s,r.bM)/\x.s.length<1000000:=⟨bp,kX⟩;have bF:(∀r∈x.e,r.bM)/\x.e.length<1000000:=⟨eK,ni⟩;simp(disch:=first|omega|(simp only[ae,ad,af];omega)) [Zd,ajR,ajS,ajT,j3,-al,-ar,-ai,-ao,-List.map_map];refine ack (o:=11) (j:=2) (O:=1) (bX (by simp)) rfl ?_;refine azf (bb:=x.bb) (dS:=x.name) (cf:=fT (x.s.map ea)) (bu:=fT (x.e.map ea)) (eQ:=1) (ht:=11) (o:=13) dc j2 gn (by decide) (by decide) (by decide) (by simp(disch:=first|omega|(simp only[ae,ad,af];omega)) [-al,-ar,-ai,-ao,-List.map_map]) (by simp(disch:=first|omega|(simp only[ae,ad,af];omega)) [-al,-ar,-ai,-ao,-List.map_map]) (by simp(disch:=first|omega|(simp only[ae,ad,af];omega)) [-al,-ar,-ai,-ao,-List.map_map];rfl) (by simp) (by simp) (by simp) (by simp) (by simp) λag aN o' z D Z aw aX cC=> ?_;have F2: ∀cA,DI.eJ 8 (aN.au 1 cA) (.slice (some ⟨o',0,none⟩) x.bb.length 1)=some (wM (x.bb.map (·.map ea))):= λcA=>FF (n:=7) (by rw[dv cC];exact aX) (by simp) ad0;have fM:=aT Z;simp(disch:=first|omega|(simp only[ae,ad,af];omega)) [ajU,z,D,Z,aw,F2,j3,m5,-al,-ar,-ai,-ao,-List.map_map]
end Go.Proofs.YtkpifdkccdndcaaGreat
namespace Go.Big
def cU(a b c:Int):Bool:=decide (b<=a)&&decide (a<=c)
end Go.Big
namespace Go.Proofs.YtkpifdkccdndcaaGreat
open Go Go.DI Go.Big
theorem au4{a b c:Int}:eg Tryz.prog 21 [S a,S b,S c] (.bool (cU a b c)):=by refine iA (g0 (aY:=⟨[],[]⟩) aiF (by kernel_rfl) (by simp[Yg]) ?_);by_cases h:b<=a<;>simp[Yg,Qc,Yh,h,cU]
noncomputable def oA:c8 Tryz.prog:= .fJ 21 (Int×Int×Int) (λ⟨a,b,c⟩=>True) (λ⟨a,b,c⟩=>[S a,S b,S c]) (λ⟨a,b,c⟩=> .bool (cU a b c)) (λ⟨a,b,c⟩ h=>au4)
@[simp] theorem aNZ:oA.f=21:=rfl
@[simp] theorem aN0{a:Int}{b:Int}{c:Int}:oA.fn ([S a,S b,S c])=some (.bool (cU a b c)):=c8.gX (x:=(a,b,c)) trivial λy ah=>by obtain⟨o3,jU,rC⟩:=y;simpa using ah
theorem au8{x:bh}(W:x.bM):eg Tryz.prog 23 [eD x] (.bool x.bw.small):=pX λm fm aE=>by obtain⟨v,rfl,h⟩:=aE.ha;exact(Wh (tD W h)).aD λr N ⟨z,D⟩=>⟨z,by rw[D];exact .c0 rfl⟩
theorem ao1{x:bh}(W:x.bM):eg Tryz.prog 24 [eD x] (.bool (decide (0<x.bw.n))):=pX λm fm aE=>by obtain⟨v,rfl,h⟩:=aE.ha;exact(MZ (tD W h)).aD λr N ⟨z,D⟩=>⟨z,by rw[D];exact .c0 rfl⟩
theorem CL{x:bh}{n:Bool}{a b:List Int}(h:[eD x]=[.agg #[.bool n,e3 a,e3 b]]):x=⟨n,a,b⟩:=by obtain⟨dM,er,cQ⟩:=x;simpa[eS]using h
noncomputable def EX:c8 Tryz.prog:= .fJ 23 bh bh.bM (λx=>[eD x]) (λx=> .bool x.bw.small) λ_ W=>au8 W
@[simp] theorem aNX:EX.f=23:=rfl
@[simp] theorem aNY{n:Bool}{a b:List Int}(h:(bh.mk n a b).bM):EX.fn [.agg #[.bool n,e3 a,e3 b]]=some (.bool (bh.mk n a b).bw.small):=c8.gX (x:=bh.mk n a b) h λy ah=>CL ah
noncomputable def Mj:c8 Tryz.prog:= .fJ 24 bh bh.bM (λx=>[eD x]) (λx=> .bool (decide (0<x.bw.n))) λ_ W=>ao1 W
@[simp] theorem aNu:Mj.f=24:=rfl
@[simp] theorem aNv{n:Bool}{a b:List Int}(h:(bh.mk n a b).bM):Mj.fn [.agg #[.bool n,e3 a,e3 b]]=some (.bool (decide (0<(bh.mk n a b).bw.n))):=c8.gX (x:=bh.mk n a b) h λy ah=>CL ah
noncomputable def abk(K:Nat)(l:List bh)(p:bh->Bool)(aq: ∀x∈l,eg Tryz.prog K [eD x] (.bool (p x))):c8 Tryz.prog:= .fJ K bh (λx=>x∈l) (λx=>[eD x]) (λx=> .bool (p x)) aq
@[simp] theorem aNS{K:Nat}{l:List bh}{p:bh->Bool}{aq: ∀x∈l,eg Tryz.prog K [eD x] (.bool (p x))}:(abk K l p aq).f=K:=rfl
@[simp] theorem aNT{K:Nat}{l:List bh}{p:bh->Bool}{aq: ∀x∈l,eg Tryz.prog K [eD x] (.bool (p x))}{n:Bool}{a b:List Int}(h:bh.mk n a b∈l):(abk K l p aq).fn [.agg #[.bool n,e3 a,e3 b]]=some (.bool (p ⟨n,a,b⟩)):=
  c8.gX (x:=bh.mk n a b) h λy ah=>CL ah
theorem apf{K:Nat}{l:List bh}{p:bh->Bool}(ak:l.length<1000000)(aq: ∀x∈l,eg Tryz.prog K [eD x] (.bool (p x))):eg Tryz.prog 22 [fT l,.func (.func K) #[] #[]] (.bool (l.all p)):=by
  refine iA (g0 (aY:=⟨[],[]⟩) aiG (by kernel_rfl) (by simp[Yi]) ?_);simp[Yi,Qd,Yj];refine jn (aY:=⟨[abk K l p aq],[]⟩) (λi u t=>(l.take i).all p=true/\u 1= .func (.func K) #[] #[]/\u 7=fT l/\u 8=S l.length/\u 9=S i) l.length ?_ ?_ 0 _ _ (Nat.zero_le _) ⟨by simp,by simp,by simp,by simp,by simp⟩
  · rintro i u t aa ⟨aE,aH,cP,b3,cg⟩ b9 a9;have H:l[i]?=some l[i]:=List.getElem?_eq_getElem aa;have aK:l[i]∈l:=List.getElem_mem aa;have bo:IntKind.i64.wrap ((i:Int)+1)=(i:Int)+1:=ct (by omega) (by omega);have bK:(i:Int)<l.length:=(by omega);cases L:p l[i]
    · simp(disch:=first|omega|(simp only[ae,ad,af];omega)) [BZ,BW,BX,BY,z8,aH,cP,b3,cg,bK,L,eS];exact⟨_,aK,L⟩
    · simp(disch:=first|omega|(simp only[ae,ad,af];omega)) [BZ,BW,BX,BY,z8,aH,cP,b3,cg,bK,bo,L,eS,-al,-ar,-ai,-ao,-List.map_map];exact a9 _ _ ⟨by rw[kB H,List.all_append,aE];simp[L],by simp[aH],by simp[cP],by simp[b3],by simp⟩
  · rintro u t ⟨aE,aH,cP,b3,cg⟩;rw[List.take_length]at aE;simp[BZ,BW,BX,BY,z8,b3,cg,z8,BW,BX,BY];simpa using aE
end Go.Proofs.YtkpifdkccdndcaaGreat
namespace Go.Big
structure mf where
  l:Int
  c:Int
  deriving DecidableEq
structure xN where
  eV:hk
  p:mf
  deriving DecidableEq
structure zq where
  name:ByteArray
  ext:Int
  pn:Int
  eV:ByteArray
  p:mf
  deriving DecidableEq
structure k4 where
  cR:Int
  name:ByteArray
  gQ:Int
  fX:bh
  model:ByteArray
  p:mf
  deriving DecidableEq
structure dY where
  a:Int
  b:Int
  c:Int
  d:Int
  e:Int
  deriving DecidableEq
structure mg where
  name:ByteArray
  k:Int
  m:Int
  q:Int
  aY:dY
  a5:List ByteArray
  hf:List bh
  hS:bh
  ez:bh
  p:mf
  deriving DecidableEq
structure zr where
  name:ByteArray
  qO:ByteArray
  p:mf
  deriving DecidableEq
structure gg where
  ext:Int
  ck:List xN
  a5:List zq
  a3:List k4
  cG:List mg
  dH:List zr
  deriving DecidableEq
structure H9 where
  name:ByteArray
  ext:Int
  pn:Int
  eV:Int
  deriving DecidableEq
structure qX where
  name:ByteArray
  cR:Int
  parent:Int
  gQ:Int
  fX:bh
  deriving DecidableEq
structure zm where
  name:ByteArray
  model:Int
  Z1:Int
  deriving DecidableEq
structure oD where
  name:ByteArray
  k:Int
  m:Int
  q:Int
  aY:dY
  a5:List Int
  hf:List bh
  hS:bh
  ez:bh
  deriving DecidableEq
structure Ia where
  name:ByteArray
  qO:Int
  deriving DecidableEq
structure hC where
  ext:Int
  ck:List hk
  a5:List H9
  dG:List qX
  gq:List zm
  cG:List oD
  dH:List Ia
  deriving DecidableEq
def hC.nil:hC:=⟨0,[],[],[],[],[],[]⟩
end Go.Big
namespace Go.Proofs.YtkpifdkccdndcaaGreat
open Go Go.DI Go.Big
abbrev cz(s:ByteArray):Value:= .string s
def pt(x:xN):List Value:=[cz x.eV.name,fT x.eV.s,wM x.eV.bb,fT x.eV.e,S x.p.l,S x.p.c]
def nL(x:zq):List Value:=[cz x.name,S x.ext,S x.pn,cz x.eV,S x.p.l,S x.p.c]
def fl(x:k4):List Value:=[S x.cR,cz x.name,S x.gQ,.bool x.fX.bV,e3 x.fX.a,e3 x.fX.b,cz x.model,S x.p.l,S x.p.c]
abbrev zF(l:List ByteArray):Value:=bE (l.map λs=>[cz s]) 1
abbrev tl(l:List Int):Value:=bE (l.map λs=>[S s]) 1
def hc(x:mg):List Value:=[cz x.name,S x.k,S x.m,S x.q,S x.aY.a,S x.aY.b,S x.aY.c,S x.aY.d,S x.aY.e,zF x.a5,fT x.hf,.bool x.hS.bV,e3 x.hS.a,e3 x.hS.b,.bool x.ez.bV,e3 x.ez.a,e3 x.ez.b,S x.p.l,S x.p.c]
def qS(x:zr):List Value:=[cz x.name,cz x.qO,S x.p.l,S x.p.c]
def dT(x:gg):List Value:=[S x.ext,bE (x.ck.map pt) 6,bE (x.a5.map nL) 6,bE (x.a3.map fl) 9,bE (x.cG.map hc) 19,bE (x.dH.map qS) 4]
def qq(x:H9):List Value:=[cz x.name,S x.ext,S x.pn,S x.eV]
def iC(x:qX):List Value:=[cz x.name,S x.cR,S x.parent,S x.gQ,.bool x.fX.bV,e3 x.fX.a,e3 x.fX.b]
def qp(x:zm):List Value:=[cz x.name,S x.model,S x.Z1]
def mX(x:oD):List Value:=[cz x.name,S x.k,S x.m,S x.q,S x.aY.a,S x.aY.b,S x.aY.c,S x.aY.d,S x.aY.e,tl x.a5,fT x.hf,.bool x.hS.bV,e3 x.hS.a,e3 x.hS.b,.bool x.ez.bV,e3 x.ez.a,e3 x.ez.b]
def qs(x:Ia):List Value:=[cz x.name,S x.qO]
def fu(x:hC):List Value:=[S x.ext,bE (x.ck.map j3) 4,bE (x.a5.map qq) 4,bE (x.dG.map iC) 7,bE (x.gq.map qp) 3,bE (x.cG.map mX) 17,bE (x.dH.map qs) 2]
@[simp] theorem aPM{l e5:List ByteArray}:(l.map λs=>[cz s])=(e5.map λs=>[cz s])↔l=e5:=Hm λx y h=>by simpa using h
@[simp] theorem ayw{l e5:List Int}:(l.map λs=>[S s])=(e5.map λs=>[S s])↔l=e5:=Hm λx y h=>by simpa using h
end Go.Proofs.YtkpifdkccdndcaaGreat
namespace Go.Big
def rj(x:a6):Bool:=x.ok&&decide (ju x .ha<=0)
def pq(x:bh):Bool:=x.bw.small&&decide (0<x.bw.n)
def ns(m:Int)(r:List bh)(t h:bh):Bool:=decide ((r.length:Int)=if 1>m then 1 else m)&&(r.all pq&&(t.bw.small&&(rj t.bw&&h.bw.small)))
end Go.Big
namespace Go.Proofs.YtkpifdkccdndcaaGreat
open Go Go.DI Go.Big
theorem TY{x:a6}(z:0<=x.n)(D:0<=x.d):(qj x).bw=x:=by obtain⟨n,a,b⟩:=x;simp only[qj,bh.bw,(De _ _ (Nat.le_refl _) z).2,(De _ _ (Nat.le_refl _) D).2]
theorem TZ{x:a6}(z:0<=x.n)(D:0<=x.d)(Z:x.n<aZ 512)(aw:x.d<aZ 512):(qj x).bM:=by have aM:=q2 z Z;have a1:=q2 D aw;exact⟨(De _ _ (Nat.le_refl _) z).1.1,(De _ _ (Nat.le_refl _) D).1.1,by simp only[qj];omega,by simp only[qj];omega⟩
theorem aas:(1:Int)<aZ 512:=Int.lt_trans AI yU
theorem alP:(qj .ha).bM:=TZ (by decide) (by decide) aas aas
theorem aar:(qj .ha).bw= .ha:=TY (by decide) (by decide)
noncomputable def abt(o:bh)(h:eg Tryz.prog 26 [S 1,S 1] (.tuple #[eD o,S 0])):c8 Tryz.prog:= .fJ 26 Unit (λ_=>True) (λ_=>[S 1,S 1]) (λ_=> .tuple #[eD o,S 0]) λ_ _=>h
@[simp] theorem aOp{o:bh}{h:eg Tryz.prog 26 [S 1,S 1] (.tuple #[eD o,S 0])}:(abt o h).f=26:=rfl
@[simp] theorem aOq{o:bh}{h:eg Tryz.prog 26 [S 1,S 1] (.tuple #[eD o,S 0])}:(abt o h).fn [S 1,S 1]=some (.tuple #[eD o,S 0]):=c8.gX (x:=()) trivial λ_ _=>rfl
noncomputable def abf(x y:bh)(b:Bool)(k:Int)(h:eg Tryz.prog 27 [eD x,eD y] (if b then .tuple #[S k,S 0]else .tuple #[S 0,S 1])):c8 Tryz.prog:= .fJ 27 Unit (λ_=>True) (λ_=>[eD x,eD y]) (λ_=>if b then .tuple #[S k,S 0]else .tuple #[S 0,S 1]) λ_ _=>h
@[simp] theorem aNK{x y:bh}{b:Bool}{k:Int}{h:eg Tryz.prog 27 [eD x,eD y] (if b then .tuple #[S k,S 0]else .tuple #[S 0,S 1])}:(abf x y b k h).f=27:=rfl
@[simp] theorem aNL{x y:bh}{b:Bool}{k:Int}{h:eg Tryz.prog 27 [eD x,eD y] (if b then .tuple #[S k,S 0]else .tuple #[S 0,S 1])}:(abf x y b k h).fn [.agg #[.bool x.bV,e3 x.a,e3 x.b],.agg #[.bool y.bV,e3 y.a,e3 y.b]]=some (if b then .tuple #[S k,S 0]else .tuple #[S 0,S 1]):=c8.gX (x:=()) trivial λ_ _=>rfl
theorem ayU{x o:bh}{b:Bool}{k:Int}(an:eg Tryz.prog 26 [S 1,S 1] (.tuple #[eD o,S 0]))(aB:eg Tryz.prog 27 [eD x,eD o] (if b then .tuple #[S k,S 0]else .tuple #[S 0,S 1])):eg Tryz.prog 143 [eD x] (.bool (b&&decide (k<=0))):=by refine iA (g0 (aY:=⟨[abt o an,abf x o b k aB],[]⟩) awc (by kernel_rfl) (by simp[Xd]) ?_);cases b<;>simp[Xd,ahg,ahh,ahi,ahj,eS]
theorem ayT{x:bh}(W:x.bM):eg Tryz.prog 143 [eD x] (.bool (rj x.bw)):=by have h:=ar7 W alP;rw[aar,EJ,Bool.and_true]at h;exact ayU aAn h
theorem aBb{x:bh}(W:x.bM):eg Tryz.prog 142 [eD x] (.bool (pq x)):=by refine iA (g0 (aY:=⟨[EX,Mj],[]⟩) awb (by kernel_rfl) (by simp[Xc]) ?_);cases h:x.bw.small<;>simp(disch:=first|omega|(simp only[ae,ad,af];omega)) [Xc,ahe,ahf,eS,h,pq]
noncomputable def abo:c8 Tryz.prog:= .fJ 143 bh bh.bM (λx=>[eD x]) (λx=> .bool (rj x.bw)) λ_ W=>ayT W
@[simp] theorem aN7:abo.f=143:=rfl
@[simp] theorem aN8{n:Bool}{a b:List Int}(h:(bh.mk n a b).bM):abo.fn [.agg #[.bool n,e3 a,e3 b]]=some (.bool (rj (bh.mk n a b).bw)):=c8.gX (x:=bh.mk n a b) h λy ah=>CL ah
noncomputable def abz:c8 Tryz.prog:= .fJ 22 (List bh) (λl=>(∀x∈l,x.bM)/\l.length<1000000) (λl=>[fT l,.func (.func 142) #[] #[]]) (λl=> .bool (l.all pq)) λ_ h=>apf h.2 λx H=>aBb (h.1 x H)
@[simp] theorem aOT:abz.f=22:=rfl
@[simp] theorem aOU{l:List bh}(h:(∀x∈l,x.bM)/\l.length<1000000):abz.fn [bE (l.map eS) 3,.func (.func 142) #[] #[]]=some (.bool (l.all pq)):=c8.gX (x:=l) h λy ah=>by simpa using ah
theorem aBc{m:Int}{r:List bh}{t h:bh}(aF:(∀x∈r,x.bM)/\r.length<1000000)(bH:t.bM)(cE:h.bM):eg Tryz.prog 103 [S m,fT r,eD t,eD h] (.bool (ns m r t h)):=by
  refine iA (g0 (aY:=⟨[abz,EX,abo],[]⟩) avs (by kernel_rfl) (by simp[Gl]) ?_);by_cases z:(r.length:Int)=if 1>m then 1 else m
  · cases D:r.all pq
    · simp(disch:=first|omega|(simp only[ae,ad,af];omega)) [Gl,J4,J5,eS,z,D,ns,-al,-ar,-ai,-ao,-List.map_map]
    · cases Z:t.bw.small
      · simp(disch:=first|omega|(simp only[ae,ad,af];omega)) [Gl,J4,J5,eS,z,D,Z,ns,-al,-ar,-ai,-ao,-List.map_map]
      · cases aw:rj t.bw<;>simp(disch:=first|omega|(simp only[ae,ad,af];omega)) [Gl,J4,J5,eS,z,D,Z,aw,ns,-al,-ar,-ai,-ao,-List.map_map]
  · simp(disch:=first|omega|(simp only[ae,ad,af];omega)) [Gl,J4,J5,eS,z,ns,-al,-ar,-ai,-ao,-List.map_map]
end Go.Proofs.YtkpifdkccdndcaaGreat
namespace Go.Big
def oX(k m q:Int)(s:dY):Bool:=cU k 1 6&&(cU m 0 4&&(decide (k+m<=8)&&(cU q k (k+m)&&(decide (s.a=0)&&(cU s.a 0 8&&(cU s.b 0 8&&(cU s.c 0 8&&(cU s.d 0 8&&cU s.e 0 8))))))))
def k0(l:List k4):Nat:=(l.filter λx=>cU x.cR 1 4).length
def k1(l:List k4):Nat:=(l.filter λx=>decide (x.cR=5)).length
def mO(s:gg):Bool:=decide (s.ck.length<=4)&&(decide (s.a5.length<=4)&&(decide (1+k0 s.a3<=40)&&(decide (k1 s.a3<=24)&&(decide (s.cG.length<=4)&&decide (s.dH.length<=12)))))
end Go.Big
namespace Go.Proofs.YtkpifdkccdndcaaGreat
open Go Go.DI Go.Big
theorem au3{x:Int}:eg Tryz.prog 141 [S x] (.bool (cU x 0 8)):=by refine iA (g0 (aY:=⟨[oA],[]⟩) awa (by kernel_rfl) (by simp[Xb]) ?_);simp[Xb,ahc,ahd]
noncomputable def abl:c8 Tryz.prog:= .fJ 141 (Int) (λx=>True) (λx=>[S x]) (λx=> .bool (cU x 0 8)) (λx h=>au3)
@[simp] theorem aNV:abl.f=141:=rfl
@[simp] theorem aNW{x:Int}:abl.fn ([S x])=some (.bool (cU x 0 8)):=c8.gX (x:=x) trivial λy ah=>by simpa using ah
theorem acA{l:List Int}(ak:l.length<1000000):eg Tryz.prog 140 [tl l,.func (.func 141) #[] #[]] (.bool (l.all λx=>cU x 0 8)):=by
  refine iA (g0 (aY:=⟨[],[]⟩) av9 (by kernel_rfl) (by simp[Xa]) ?_);simp[Xa,aha,ahb];refine jn (aY:=⟨[abl],[]⟩) (λi u t=>((l.take i).all λx=>cU x 0 8)=true/\u 1= .func (.func 141) #[] #[]/\u 7=tl l/\u 8=S l.length/\u 9=S i) l.length ?_ ?_ 0 _ _ (Nat.zero_le _) ⟨by simp,by simp,by simp,by simp,by simp⟩
  · rintro i u t aa ⟨aE,aH,cP,b3,cg⟩ b9 a9;have H:l[i]?=some l[i]:=List.getElem?_eq_getElem aa;have aK:l[i]∈l:=List.getElem_mem aa;have bo:IntKind.i64.wrap ((i:Int)+1)=(i:Int)+1:=ct (by omega) (by omega);have bK:(i:Int)<l.length:=(by omega);cases L:cU l[i] 0 8
    · simp(disch:=first|omega|(simp only[ae,ad,af];omega)) [Pv,KF,KG,KH,KI,aH,cP,b3,cg,bK,L];exact⟨_,aK,L⟩
    · simp(disch:=first|omega|(simp only[ae,ad,af];omega)) [Pv,KF,KG,KH,KI,aH,cP,b3,cg,bK,bo,L,-al,-ar,-ai,-ao,-List.map_map];exact a9 _ _ ⟨by rw[kB H,List.all_append,aE];simp[L],by simp[aH],by simp[cP],by simp[b3],by simp⟩
  · rintro u t ⟨aE,aH,cP,b3,cg⟩;rw[List.take_length]at aE;simp[Pv,KF,KG,KH,KI,b3,cg,KI,KF,KG,KH];simpa using aE
noncomputable def abe:c8 Tryz.prog:= .fJ 140 (List Int) (λl=>l.length<1000000) (λl=>[tl l,.func (.func 141) #[] #[]]) (λl=> .bool (l.all λx=>cU x 0 8)) λ_ h=>acA h
@[simp] theorem aNw:abe.f=140:=rfl
@[simp] theorem aNx{a b c d e:Int}:abe.fn [bE [[S a],[S b],[S c],[S d],[S e]] 1,.func (.func 141) #[] #[]]=some (.bool (cU a 0 8&&(cU b 0 8&&(cU c 0 8&&(cU d 0 8&&cU e 0 8))))):=by
  have:=c8.gX (ok:= λ_ h=>acA h) (x:=[a,b,c,d,e]) (cD:= λl=>l.length<1000000) (enc:= λl=>[tl l,.func (.func 141) #[] #[]]) (by simp) λy ah=>ayw.1 (Wg.1 (List.cons.inj ah).1).1;have e:[a,b,c,d,e].all (λx=>cU x 0 8)=(cU a 0 8&&(cU b 0 8&&(cU c 0 8&&(cU d 0 8&&cU e 0 8)))):=by simp
  rw[<-e];exact this
theorem aAa{k m q:Int}{s:dY}:eg Tryz.prog 102 [S k,S m,S q,.agg #[S s.a,S s.b,S s.c,S s.d,S s.e]] (.bool (oX k m q s)):=by
  refine iA (g0 (aY:=⟨[oA,abe],[]⟩) avr (by kernel_rfl) (by simp[BS]) ?_);have atX:5<=maxLen:=by unfold maxLen;omega
  cases z:cU k 1 6
  · simp[BS,D2,D3,D4,z,oX]
  · cases D:cU m 0 4
    · simp[BS,D2,D3,D4,z,D,oX]
    · have bo:IntKind.i64.wrap (k+m)=k+m:=(by simp[cU]at z D;exact ct (by omega) (by omega));by_cases Z:k+m<=8
      · have hh: ¬(8<k+m):=(by omega);cases aw:cU q k (k+m)
        · simp[BS,D2,D3,D4,z,D,Z,hh,aw,bo,oX]
        · by_cases aX:s.a=0
          · simp[BS,D2,D3,D4,z,D,Z,hh,aw,aX,bo,atX,jq,jw,oX]
          · simp[BS,D2,D3,D4,z,D,Z,hh,aw,aX,bo,oX]
      · have hh:8<k+m:=(by omega);simp[BS,D2,D3,D4,z,D,Z,hh,bo,oX]
end Go.Proofs.YtkpifdkccdndcaaGreat
namespace Go.DI
open Go
section
variable {P:Program}
open Classical in
noncomputable def qf.fJ(f:Nat)(cf:Type)(enc:cf->List Value)(K:cf->B->Option (Value×B))(ok: ∀x t r aN,K x t=some (r,aN)-> ∀az:Value->B->Prop,az r aN->hn P f (enc x) t az):qf P:=
  ⟨f,λargs t=>if h: ∃x,enc x=args then K h.choose t else none,λargs t r aN h=>by
    split at h
    · next H=>have:=ok _ t r aN h;rw[H.choose_spec]at this;exact this
    · cases h⟩
theorem qf.gX{f:Nat}{cf:Type}{enc:cf->List Value}{K:cf->B->Option (Value×B)}{ok: ∀x t r aN,K x t=some (r,aN)-> ∀az:Value->B->Prop,az r aN->hn P f (enc x) t az}{x:cf}{t:B}(aa: ∀y,enc y=enc x->y=x):(qf.fJ f cf enc K ok).fn (enc x) t=K x t:=by have nC: ∃y,enc y=enc x:=⟨x,rfl⟩;simp only[qf.fJ,dif_pos nC];rw[aa _ nC.choose_spec]
theorem Ue{t:B}{i c:Nat}{cA c4:Option fO}(aa:t.M i=none)(aB:i≠c): ∀b x,(t.au c c4).M b=some x->((t.au i cA).au c c4).M b=some x:= λb x h=>by
  by_cases L:b=c
  · subst L;by_cases aG:b<t.next
    · rw[bX aG]at h;rw[bX (by simpa using aG)];exact h
    · have:(t.au b c4).M b=none:=nP (by simp;omega);rw[this]at h;cases h
  · rw[dv L]at h⊢;by_cases nT:b=i
    · subst nT;rw[aa]at h;cases h
    · rw[dv nT];exact h
theorem ads{t:B}{i:Nat}{cA:Option fO}(aa:t.M i=none): ∀b x,t.M b=some x->(t.au i cA).M b=some x:= λb x h=>by
  have nT:b≠i:= λe=>by subst e;rw[aa]at h;cases h
  rw[dv nT];exact h
theorem arx{t:B}{i c:Nat}{cA:Option fO}{bg:List (Value×Value)}(aa:t.M i=none)(aB:i≠c): ∀b x,(t.hq c bg).M b=some x->((t.au i cA).hq c bg).M b=some x:= λb x h=>by
  by_cases L:b=c
  · subst L;by_cases aG:b<t.next
    · rw[Du aG]at h;rw[Du (by simpa using aG)];exact h
    · have:(t.hq b bg).M b=none:=nP (by simp;omega);rw[this]at h;cases h
  · rw[oI L]at h⊢;by_cases nT:b=i
    · subst nT;rw[aa]at h;cases h
    · rw[dv nT];exact h
theorem hy{t:B}{c k:Nat}{bg:List (Value×Value)}(h:c<t.next):(t.hq c bg).bs k=(t.bs k).hq c bg:=by
  simp only[B.bs,B.hq,B.mk.injEq,and_true,true_and];funext i;by_cases z:i=c
  · subst z;simp[h]
  · simp[z]
theorem acN{t:B}{k:Nat}:(t.bs k).M t.next=none:=by rw[B.gr];exact nP (Nat.le_refl _)
end
end Go.DI
namespace Go.Proofs.YtkpifdkccdndcaaGreat
open Go Go.DI Go.Big
theorem aCR{s:gg}(ak:s.a3.length<1000000):eg Tryz.prog 36 [.agg (dT s).toArray] (.bool (mO s)):=by
  refine iA (g0 (aY:=⟨[],[]⟩) axl (by kernel_rfl) (by simp[YF]) ?_);simp[YF,ai2,ai3,ai4,dT];refine jn (aY:=⟨[oA],[]⟩) (λi u t=>t.M 0=some ⟨dT s,true⟩/\u 1=bZ 0/\u 3=S (1+k0 (s.a3.take i))/\u 4=S (k1 (s.a3.take i))/\u 8=bE (s.a3.map fl) 9/\u 9=S s.a3.length/\u 10=S i) s.a3.length ?_ ?_ 0 _ _ (Nat.zero_le _) ⟨by simp(disch:=first|omega|(simp only[ae,ad,af];omega)) [dT],by simp,by simp[k0],by simp[k1],by simp,by simp,by simp⟩
  · rintro i u t aa ⟨a4,aH,bd,bL,b3,cg,dP⟩ b9 a9;have H:s.a3[i]?=some s.a3[i]:=List.getElem?_eq_getElem aa;have bo:IntKind.i64.wrap ((i:Int)+1)=(i:Int)+1:=ct (by omega) (by omega);have bK:(i:Int)<s.a3.length:=(by omega);have cY:=aT a4;have dt:k0 (s.a3.take i)<=i:=Nat.le_trans (List.length_filter_le _ _) (by simp;omega);have dJ:k1 (s.a3.take i)<=i:=Nat.le_trans (List.length_filter_le _ _) (by simp;omega);have cS:IntKind.i64.wrap (1+(k0 (s.a3.take i):Int)+1)=1+(k0 (s.a3.take i):Int)+1:=ct (by omega) (by omega);have fz:IntKind.i64.wrap ((k1 (s.a3.take i):Int)+1)=(k1 (s.a3.take i):Int)+1:=ct (by omega) (by omega);have aM:k0 (s.a3.take (i+1))=k0 (s.a3.take i)+if cU s.a3[i].cR 1 4 then 1 else 0:=by
      rw[kB H,k0,List.filter_append,List.length_append,k0];congr 1;cases h:cU s.a3[i].cR 1 4<;>simp[h]
    have a1:k1 (s.a3.take (i+1))=k1 (s.a3.take i)+if s.a3[i].cR=5 then 1 else 0:=by rw[kB H,k1,List.filter_append,List.length_append,k1];congr 1;by_cases h:s.a3[i].cR=5<;>simp[h]
    by_cases aX:s.a3[i].cR=5
    · have cC:cU s.a3[i].cR 1 4=false:=(by rw[aX];decide);rw[cC]at aM;rw[if_pos aX]at a1;simp(disch:=first|omega|(simp only[ae,ad,af];omega)) [xo,qD,qE,qF,bL,b3,cg,dP,bK,bo,fz,fl,aX,-al,-ar,-ai,-ao,-List.map_map];exact a9 _ _ ⟨by simp(disch:=first|omega|(simp only[ae,ad,af];omega)) [a4,-al,-ar,-ai,-ao,-List.map_map],by simp[aH],by simp[bd,aM],by simp[a1],by simp[b3],by simp[cg],by simp⟩
    · rw[if_neg aX]at a1;cases cC:cU s.a3[i].cR 1 4
      · rw[cC]at aM;simp(disch:=first|omega|(simp only[ae,ad,af];omega)) [xo,qD,qE,qF,b3,cg,dP,bK,bo,fl,aX,cC,-al,-ar,-ai,-ao,-List.map_map];exact a9 _ _ ⟨by simp(disch:=first|omega|(simp only[ae,ad,af];omega)) [a4,-al,-ar,-ai,-ao,-List.map_map],by simp[aH],by simp[bd,aM],by simp[bL,a1],by simp[b3],by simp[cg],by simp⟩
      · rw[cC]at aM;simp(disch:=first|omega|(simp only[ae,ad,af];omega)) [xo,qD,qE,qF,bd,b3,cg,dP,bK,bo,cS,fl,aX,cC];exact a9 _ _ ⟨by simp(disch:=first|omega|(simp only[ae,ad,af];omega)) [a4,-al,-ar,-ai,-ao,-List.map_map],by simp[aH],by simp[aM];omega,by simp[bL,a1],by simp[b3],by simp[cg],by simp⟩
  · rintro u t ⟨a4,aH,bd,bL,b3,cg,dP⟩;rw[List.take_length]at bd bL;have cB:((s.ck.length:Int)<=4)↔s.ck.length<=4:=(by omega);by_cases z:(s.ck.length:Int)<=4
    · by_cases D:(s.a5.length:Int)<=4
      · by_cases Z:1+(k0 s.a3:Int)<=40
        · by_cases aw:(k1 s.a3:Int)<=24
          · by_cases aX:(s.cG.length:Int)<=4
            · by_cases cC:(s.dH.length:Int)<=12
              · have e:mO s=true:=(by simp[mO];omega);rw[e];simp[xo,qD,qE,qF,qF,qD,qE,aH,bd,bL,cg,dP,a4,dT,z,D,Z,aw,aX,cC]
              · have e:mO s=false:=(by simp[mO];omega);rw[e];simp[xo,qD,qE,qF,qF,qD,qE,aH,bd,bL,cg,dP,a4,dT,z,D,Z,aw,aX,cC]
            · have e:mO s=false:=(by simp[mO];omega);rw[e];simp[xo,qD,qE,qF,qF,qD,qE,aH,bd,bL,cg,dP,a4,dT,z,D,Z,aw,aX]
          · have e:mO s=false:=(by simp[mO];omega);rw[e];simp[xo,qD,qE,qF,qF,qD,qE,aH,bd,bL,cg,dP,a4,dT,z,D,Z,aw]
        · have e:mO s=false:=(by simp[mO];omega);rw[e];simp[xo,qD,qE,qF,qF,qD,qE,aH,bd,cg,dP,a4,dT,z,D,Z]
      · have e:mO s=false:=(by simp[mO];omega);rw[e];simp[xo,qD,qE,qF,qF,qD,qE,aH,cg,dP,a4,dT,z,D]
    · have e:mO s=false:=(by simp[mO];omega);rw[e];simp[xo,qD,qE,qF,qF,qD,qE,aH,cg,dP,a4,dT,z]
end Go.Proofs.YtkpifdkccdndcaaGreat
namespace Go.Proofs.YtkpifdkccdndcaaGreat
open Go Go.DI Go.Big
def IB(c:Nat)(ok:Bool)(e l k:Int)(t:B):Option fO->Option (Value×B)
  | some ⟨[dF,bn,bF,dp,eH,fo,fp,gp,hW,gD,hd,g8,h2,h3,h4,h5,h6,.int .i64 gi,cY,cy],true⟩=>
    if gi=0/\ok=false then some (.bool (decide (e=0)),(t.bs 2).au c (some ⟨[dF,bn,bF,dp,eH,fo,fp,gp,hW,gD,hd,g8,h2,h3,h4,h5,h6,S e,S l,S k],true⟩))
    else some (.bool (decide (gi=0)),t.bs 2)
  |_=>none
@[simp] theorem aHC{c:Nat}{ok:Bool}{e l k gi:Int}{t:B}{dF bn bF dp eH fo fp gp hW gD hd g8 h2 h3 h4 h5 h6 cY cy:Value}:IB c ok e l k t (some ⟨[dF,bn,bF,dp,eH,fo,fp,gp,hW,gD,hd,g8,h2,h3,h4,h5,h6,.int .i64 gi,cY,cy],true⟩)=
    if gi=0/\ok=false then some (.bool (decide (e=0)),(t.bs 2).au c (some ⟨[dF,bn,bF,dp,eH,fo,fp,gp,hW,gD,hd,g8,h2,h3,h4,h5,h6,S e,S l,S k],true⟩))else some (.bool (decide (gi=0)),t.bs 2):=rfl
structure wC where
  c:Nat
  ok:Bool
  e:Int
  l:Int
  k:Int
theorem aqZ{x:wC}{t aN:B}{r:Value}(h:IB x.c x.ok x.e x.l x.k t (t.M x.c)=some (r,aN))(az:Value->B->Prop)(j1:az r aN):hn Tryz.prog 35 [bZ x.c,.bool x.ok,S x.e,.agg #[S x.l,S x.k]] t az:=by
  obtain⟨c,ok,e,l,k⟩:=x;simp only at h⊢;cases aj:t.M c with
  |none=>rw[aj]at h;cases h
  | some b=>
    rw[aj]at h;unfold IB at h;split at h
    · rename_i dF bn bF dp eH fo fp gp hW gD hd g8 h2 h3 h4 h5 h6 gi cY cy aU;have BA:=Option.some.inj aU;subst BA;have m1:=aT aj;have akP: ¬t.next=c:=by omega
      split at h
      · next aB=>
        obtain⟨z,D⟩:=aB;simp only[Option.some.injEq,Prod.mk.injEq]at h;obtain⟨rfl,rfl⟩:=h;refine hn.drop (az:= λr aN=>r= .bool (decide (e=0))/\aN=((t.bs 2).au t.next (some ⟨[S l,S k],true⟩)).au c (some ⟨[dF,bn,bF,dp,eH,fo,fp,gp,hW,gD,hd,g8,h2,h3,h4,h5,h6,S e,S l,S k],true⟩)) (g0 (aY:=⟨[],[]⟩) ai1 (by kernel_rfl) (by simp[GJ]) ?_) λr aN cE=> ?_
        · subst z;subst D;simp(disch:=first|omega|(simp only[ae,ad,af];omega)) [GJ,Qr,Qs,Qt,aj,akP]
        · obtain⟨rfl,rfl⟩:=cE;exact⟨_,j1,rfl,rfl,Ue acN (by omega)⟩
      · next aB=>
        simp only[Option.some.injEq,Prod.mk.injEq]at h;obtain⟨rfl,rfl⟩:=h;refine hn.drop (az:= λr aN=>r= .bool (decide (gi=0))/\aN=(t.bs 2).au t.next (some ⟨[S l,S k],true⟩)) (g0 (aY:=⟨[],[]⟩) ai1 (by kernel_rfl) (by simp[GJ]) ?_) λr aN cE=> ?_
        · by_cases z:gi=0
          · cases ok
            · exact absurd ⟨z,rfl⟩ aB
            · subst z;simp(disch:=omega) [GJ,Qr,Qs,Qt,aj]
          · simp(disch:=omega) [GJ,Qr,Qs,Qt,aj,z]
        · obtain⟨rfl,rfl⟩:=cE;exact⟨_,j1,rfl,rfl,ads acN⟩
    · cases h
def wC.enc(x:wC):List Value:=[bZ x.c,.bool x.ok,S x.e,.agg #[S x.l,S x.k]]
def wC.run(x:wC)(t:B):Option (Value×B):=IB x.c x.ok x.e x.l x.k t (t.M x.c)
noncomputable def pU:qf Tryz.prog:= .fJ 35 wC wC.enc wC.run λ_ _ _ _ h=>aqZ h
@[simp] theorem aJu:pU.f=35:=rfl
@[simp] theorem aJv{c:Nat}{ok:Bool}{e l k:Int}{t:B}:pU.fn [bZ c,.bool ok,S e,.agg #[S l,S k]] t=IB c ok e l k t (t.M c):=qf.gX (enc:=wC.enc) (K:=wC.run) (x:=⟨c,ok,e,l,k⟩) λy ah=>by obtain⟨eU,aAl,eW,e5,gN⟩:=y;simp[wC.enc]at ah;obtain⟨z,D,Z,aw⟩:=ah;simp[z,D,Z,aw]
noncomputable def Ml:c8 Tryz.prog:= .fJ 112 (ByteArray) (λT=>True) (λT=>[.string T]) (λT=> .bool (gP T)) (λT h=>azL)
@[simp] theorem aOl:Ml.f=112:=rfl
@[simp] theorem aOm{T:ByteArray}:Ml.fn ([.string T])=some (.bool (gP T)):=c8.gX (x:=T) trivial λy ah=>by simpa using ah
noncomputable def Fv(c hp:Nat)(dS:ByteArray)(n l k:Int)(t:B):Option fO->Option (List (Value×Value))->Option (Value×B)
  | some ⟨[dF,bn,bF,dp,eH,fo,fp,gp,hW,gD,hd,g8,h2,h3,h4,h5,h6,.int .i64 gi,cY,cy],true⟩,some bg=>
    if eh .str (cz dS) bg=true then
      if gi=0 then
        (if gP dS=true then
          (if(cF (cz dS) bg).isSome=true then some (.bool false,(t.bs 6).au c (some ⟨[dF,bn,bF,dp,eH,fo,fp,gp,hW,gD,hd,g8,h2,h3,h4,h5,h6,S 8,S l,S k],true⟩))
           else some (.bool true,(t.bs 6).hq hp (dW (cz dS) (S n) bg)))
         else some (.bool false,(t.bs 4).au c (some ⟨[dF,bn,bF,dp,eH,fo,fp,gp,hW,gD,hd,g8,h2,h3,h4,h5,h6,S 1,S l,S k],true⟩)))
      else some (.bool false,t.bs 4)
    else none
  |_,_=>none
@[simp] theorem aHQ{c hp:Nat}{dS:ByteArray}{n l k gi:Int}{t:B}{bg:List (Value×Value)}{dF bn bF dp eH fo fp gp hW gD hd g8 h2 h3 h4 h5 h6 cY cy:Value}(W:eh .str (cz dS) bg=true):Fv c hp dS n l k t (some ⟨[dF,bn,bF,dp,eH,fo,fp,gp,hW,gD,hd,g8,h2,h3,h4,h5,h6,.int .i64 gi,cY,cy],true⟩) (some bg)=
    if gi=0 then
      (if gP dS=true then
        (if(cF (cz dS) bg).isSome=true then some (.bool false,(t.bs 6).au c (some ⟨[dF,bn,bF,dp,eH,fo,fp,gp,hW,gD,hd,g8,h2,h3,h4,h5,h6,S 8,S l,S k],true⟩))
         else some (.bool true,(t.bs 6).hq hp (dW (cz dS) (S n) bg)))
       else some (.bool false,(t.bs 4).au c (some ⟨[dF,bn,bF,dp,eH,fo,fp,gp,hW,gD,hd,g8,h2,h3,h4,h5,h6,S 1,S l,S k],true⟩)))
    else some (.bool false,t.bs 4):=by
  show(if eh .str (cz dS) bg=true then _ else _)=_;rw[if_pos W]
structure wD where
  c:Nat
  hp:Nat
  dS:ByteArray
  n:Int
  l:Int
  k:Int
theorem arn{x:wD}{t aN:B}{r:Value}(h:Fv x.c x.hp x.dS x.n x.l x.k t (t.M x.c) (t.c6 x.hp)=some (r,aN))(az:Value->B->Prop)(j1:az r aN):hn Tryz.prog 101 [bZ x.c,.map (some x.hp),cz x.dS,S x.n,.agg #[S x.l,S x.k]] t az:=by
  obtain⟨c,hp,dS,n,l,k⟩:=x;simp only at h⊢;cases aj:t.M c with
  |none=>rw[aj]at h;cases h
  | some b=>
    cases aK:t.c6 hp with
    |none=>rw[aj,aK]at h;unfold Fv at h;simp at h
    | some bg=>
      rw[aj,aK]at h;unfold Fv at h;split at h
      · rename_i dF bn bF dp eH fo fp gp hW gD hd g8 h2 h3 h4 h5 h6 gi cY cy ei aU BB;have BA:=Option.some.inj aU;subst BA;have atp:=Option.some.inj BB;subst atp;have m1:=aT aj;have jS:hp<t.next:=aT (hv aK).1
        have aLI:hp≠c:= λe=>by subst e;rw[(hv aK).1]at aj;simp at aj
        split at h
        · next W=>
          have akP: ¬t.next=c:=by omega
          have aK0:c≠t.next:=by omega
          have aLf:hp≠t.next:=by omega
          have key: ∀{km:Value->B->Prop},j6 ⟨[Ml],[pU]⟩ Gk (eu [bZ c,.map (some hp),cz dS,S n,.agg #[S l,S k]]) t (St [.bA 10] km)->hn Tryz.prog 101 [bZ c,.map (some hp),cz dS,S n,.agg #[S l,S k]] t km:= λh=>g0 (aY:=⟨[Ml],[pU]⟩) avq (by kernel_rfl) (by simp[afY]) h;obtain⟨cA,mn⟩: ∃cA:fO,cA=⟨[S l,S k],true⟩:=⟨_,rfl⟩;split at h
          · next Ug=>
            subst Ug;split at h
            · next bO=>
              cases aI:cF (cz dS) bg with
              | some w=>
                rw[aI]at h;simp only[Option.isSome_some,if_true,Option.some.injEq,Prod.mk.injEq]at h;obtain⟨rfl,rfl⟩:=h;refine hn.drop (key (km:= λr aN=>r= .bool false/\aN=((t.bs 6).au t.next (some cA)).au c (some ⟨[dF,bn,bF,dp,eH,fo,fp,gp,hW,gD,hd,g8,h2,h3,h4,h5,h6,S 8,S l,S k],true⟩)) ?_) λr aN cE=> ?_
                · simp(disch:=first|omega|(simp only[ae,ad,af];omega)) [Gk,J0,J1,J2,J3,aj,aK,mn,W,aI,bO,gl,fS,-cF,-eh,-al,-ar,-ai,-ao,-List.map_map]
                · obtain⟨rfl,rfl⟩:=cE;exact⟨_,j1,rfl,rfl,Ue (by rw[B.gr];exact nP (Nat.le_refl _)) (by omega)⟩
              | none=>
                rw[aI]at h;simp only[Option.isSome_none,Bool.false_eq_true,if_false,Option.some.injEq,Prod.mk.injEq]at h;obtain⟨rfl,rfl⟩:=h;refine hn.drop (key (km:= λr aN=>r= .bool true/\aN=((t.bs 6).au t.next (some cA)).hq hp (dW (cz dS) (S n) bg)) ?_) λr aN cE=> ?_
                · simp(disch:=first|omega|(simp only[ae,ad,af];omega)) [Gk,J0,J1,J2,J3,aj,aK,mn,W,aI,bO,gl,fS,-cF,-dW,-eh,-al,-ar,-ai,-ao,-List.map_map]
                · obtain⟨rfl,rfl⟩:=cE;exact⟨_,j1,rfl,rfl,arx (by rw[B.gr];exact nP (Nat.le_refl _)) (by omega)⟩
            · next bO=>
              simp only[Option.some.injEq,Prod.mk.injEq]at h;obtain⟨rfl,rfl⟩:=h;refine hn.drop (key (km:= λr aN=>r= .bool false/\aN=((t.bs 4).au t.next (some cA)).au c (some ⟨[dF,bn,bF,dp,eH,fo,fp,gp,hW,gD,hd,g8,h2,h3,h4,h5,h6,S 1,S l,S k],true⟩)) ?_) λr aN cE=> ?_
              · simp(disch:=first|omega|(simp only[ae,ad,af];omega)) [Gk,J0,J1,J2,J3,aj,aK,mn,W,bO,gl,fS,-cF,-eh,-al,-ar,-ai,-ao,-List.map_map]
              · obtain⟨rfl,rfl⟩:=cE;exact⟨_,j1,rfl,rfl,Ue (by rw[B.gr];exact nP (Nat.le_refl _)) (by omega)⟩
          · next Ug=>
            simp only[Option.some.injEq,Prod.mk.injEq]at h;obtain⟨rfl,rfl⟩:=h;refine hn.drop (key (km:= λr aN=>r= .bool false/\aN=(t.bs 4).au t.next (some cA)) ?_) λr aN cE=> ?_
            · simp(disch:=first|omega|(simp only[ae,ad,af];omega)) [Gk,J0,J1,J2,J3,aj,aK,mn,W,Ug,gl,fS,-cF,-eh,-al,-ar,-ai,-ao,-List.map_map]
            · obtain⟨rfl,rfl⟩:=cE;exact⟨_,j1,rfl,rfl,ads (by rw[B.gr];exact nP (Nat.le_refl _))⟩
        · cases h
      · cases h
def wD.enc(x:wD):List Value:=[bZ x.c,.map (some x.hp),cz x.dS,S x.n,.agg #[S x.l,S x.k]]
noncomputable def wD.run(x:wD)(t:B):Option (Value×B):=Fv x.c x.hp x.dS x.n x.l x.k t (t.M x.c) (t.c6 x.hp)
noncomputable def DZ:qf Tryz.prog:= .fJ 101 wD wD.enc wD.run λ_ _ _ _ h=>arn h
@[simp] theorem aJw:DZ.f=101:=rfl
@[simp] theorem aJx{c hp:Nat}{dS:ByteArray}{n l k:Int}{t:B}:DZ.fn [bZ c,.map (some hp),cz dS,S n,.agg #[S l,S k]] t=Fv c hp dS n l k t (t.M c) (t.c6 hp):=qf.gX (enc:=wD.enc) (K:=wD.run) (x:=⟨c,hp,dS,n,l,k⟩) λy ah=>by obtain⟨eU,aLv,aLK,dM,e5,gN⟩:=y;simp[wD.enc]at ah;obtain⟨z,D,Z,aw,aX,cC⟩:=ah;simp[z,D,Z,aw,aX,cC]
structure qe(t aN:B)(l:List Nat):Prop where
  next:t.next<=aN.next
  M: ∀b,b<t.next->b∉l->aN.M b=t.M b
  map: ∀b,b<t.next->b∉l->aN.c6 b=t.c6 b
def gf(c:Nat)(e l k:Int)(t:B):Prop:= ∃dF bn bF dp eH fo fp gp hW gD hd g8 h2 h3 h4 h5 h6,t.M c=some ⟨[dF,bn,bF,dp,eH,fo,fp,gp,hW,gD,hd,g8,h2,h3,h4,h5,h6,S e,S l,S k],true⟩
theorem gf.mk{c:Nat}{e l k:Int}{t:B}{dF bn bF dp eH fo fp gp hW gD hd g8 h2 h3 h4 h5 h6:Value}(h:t.M c=some ⟨[dF,bn,bF,dp,eH,fo,fp,gp,hW,gD,hd,g8,h2,h3,h4,h5,h6,S e,S l,S k],true⟩):gf c e l k t:=⟨_,_,_,_,_,_,_,_,_,_,_,_,_,_,_,_,_,h⟩
noncomputable def SN:c8 Tryz.prog:= .fJ 9 hk hk.bM (λx=>[px x]) (λx=> .bool x.ox) λ_ h=>aDL h
@[simp] theorem aPf:SN.f=9:=rfl
theorem ab8{x:hk}{n:ByteArray}{s e:List bh}{bb:List (List bh)}(h:[px x]=[.agg #[cz n,fT s,wM bb,fT e]]):x=⟨n,s,bb,e⟩:=by obtain⟨dM,er,cQ,eU⟩:=x;simpa[j3]using h
@[simp] theorem aPg{n:ByteArray}{s e:List bh}{bb:List (List bh)}(h:(hk.mk n s bb e).bM):SN.fn [.agg #[cz n,bE (s.map eS) 3,bE (bb.map λr=>[fT r]) 1,bE (e.map eS) 3]]=some (.bool (hk.mk n s bb e).ox):=c8.gX (x:=hk.mk n s bb e) h λy ah=>ab8 ah
noncomputable def abq:c8 Tryz.prog:= .fJ 67 hk (λx=>x.bM/\ ∀l∈x.bb,l.length<1000000) (λx=>[px x]) (λx=>px (m5 x)) λ_ h=>azg h.1 h.2
@[simp] theorem aOc:abq.f=67:=rfl
@[simp] theorem aOd{n:ByteArray}{s e:List bh}{bb:List (List bh)}(h:(hk.mk n s bb e).bM/\ ∀l∈bb,l.length<1000000):abq.fn [.agg #[cz n,bE (s.map eS) 3,bE (bb.map λr=>[fT r]) 1,bE (e.map eS) 3]]=some (px (m5 ⟨n,s,bb,e⟩)):=c8.gX (x:=hk.mk n s bb e) h λy ah=>ab8 ah
theorem ayR{x:xN}(W:x.eV.bM){c g5 gV n:Nat}{dF bF dp eH fo fp hW gD hd g8 h2 h3 h4 h5 h6 cY cy:Value}{cs:List Value}{bg:List (Value×Value)}{t:B}(aj:t.M c=some ⟨[dF,.slice (some ⟨g5,0,none⟩) n 4,bF,dp,eH,fo,fp,.map (some gV),hW,gD,hd,g8,h2,h3,h4,h5,h6,S 0,cY,cy],true⟩)
    (ds:t.M g5=some ⟨cs,true⟩) (aB:cs.length=n*4) (ak:n<1000000) (aK:t.c6 gV=some bg) (tz:eh .str (cz x.eV.name) bg=true) (fY:g5≠c) (dh:gV≠c) (kZ:gV≠g5) {az:Value->B->Prop}
    (z:gP x.eV.name=true->(cF (cz x.eV.name) bg).isSome=false->x.eV.ox=true-> ∀aN o',t.next<=o'->qe t aN [c,g5,gV]->aN.M c=some ⟨[dF,.slice (some ⟨o',0,none⟩) (n+1) 4,bF,dp,eH,fo,fp,.map (some gV),hW,gD,hd,g8,h2,h3,h4,h5,h6,S 0,cY,cy],true⟩->aN.M o'=some ⟨cs++j3 (m5 x.eV),true⟩->aN.c6 gV=some (dW (cz x.eV.name) (S n) bg)->az (.tuple #[]) aN)
    (D: ∀aN e,(gP x.eV.name=false->e=1)->(gP x.eV.name=true->(cF (cz x.eV.name) bg).isSome=true->e=8)->(gP x.eV.name=true->(cF (cz x.eV.name) bg).isSome=false->x.eV.ox=false/\e=1)->gf c e x.p.l x.p.c aN->az (.tuple #[]) aN):hn Tryz.prog 38 [bZ c,.agg (pt x).toArray] t az:=by
  refine g0 (aY:=⟨[SN,abq],[pU,DZ]⟩) axn (by kernel_rfl) (by simp[GK]) ?_;have m1:=aT aj;have cZ:=aT ds;have jS:gV<t.next:=aT (hv aK).1
  have bm: ¬c=t.next:=by omega
  have bU: ¬t.next=c:=by omega
  have cn: ¬gV=t.next:=by omega
  cases bO:gP x.eV.name
  · simp(disch:=first|omega|(simp only[ae,ad,af];omega)) [GK,KX,KY,pt,aj,aK,bO,gl,fS];exact D _ 1 (λ_=>rfl) (λh=>by rw[bO]at h;cases h) (λh=>by rw[bO]at h;cases h) (gf.mk (bX (by simp<;>omega)))
  · cases aI:(cF (cz x.eV.name) bg).isSome
    · cases aA:x.eV.ox
      · simp(disch:=first|omega|(simp only[ae,ad,af];omega)) [GK,KX,KY,pt,aj,aK,bO,gl,hy,fS,-cF,-dW,-eh,aI,aA];exact D _ 1 (λ_=>rfl) (λ_ h=>by rw[aI]at h;cases h) (λ_ _=>⟨aA,rfl⟩) (gf.mk (bX (by simp<;>omega)))
      · have hB:cs.take (n*4)=cs:=List.take_of_length_le (by omega);have fV:(n+1)*88<=140737488355328/\n<=9223372036854775806:=(by omega);have atL:x.eV.bM/\ ∀l∈x.eV.bb,l.length<1000000:=⟨W,hk.Sg W aA⟩;simp(disch:=first|omega|(simp only[ae,ad,af];omega)) [GK,KX,KY,pt,aj,aK,bO,gl,hy,fS,-cF,-dW,-eh,aI,aA,ds,aB,hB,fV,j3];refine z bO aI aA _ (t.next+9+10) (by omega) ⟨by simp<;>omega,λb L c5=> ?_,λb L c5=> ?_⟩ ?_ ?_ ?_
        · simp only[List.mem_cons,List.not_mem_nil,or_false,not_or]at c5;obtain⟨aM,a1,cI⟩:=c5;simp(disch:=omega)
        · simp only[List.mem_cons,List.not_mem_nil,or_false,not_or]at c5;obtain⟨aM,a1,cI⟩:=c5;simp(disch:=omega)
        · simp(disch:=first|omega|(simp only[ae,ad,af];omega)) [-al,-ar,-ai,-ao,-List.map_map]
        · simp(disch:=first|omega|(simp only[ae,ad,af];omega)) [j3,-al,-ar,-ai,-ao,-List.map_map]
        · simp(disch:=first|omega|(simp only[ae,ad,af];omega)) [-dW,-al,-ar,-ai,-ao,-List.map_map]
    · simp(disch:=first|omega|(simp only[ae,ad,af];omega)) [GK,KX,KY,pt,aj,aK,bO,gl,fS,-cF,-dW,-eh,aI];exact D _ 8 (λh=>by rw[bO]at h;cases h) (λ_ _=>rfl) (λ_ h=>by rw[aI]at h;cases h) (gf.mk (bX (by simp<;>omega)))
theorem azD{x:zq}{c eL gV eC n:Nat}{dF bn dp eH fo fp gD hd g8 h2 h3 h4 h5 h6 cY cy:Value}{cs:List Value}{bg eF:List (Value×Value)}{t:B}(aj:t.M c=some ⟨[dF,bn,.slice (some ⟨eL,0,none⟩) n 4,dp,eH,fo,fp,.map (some gV),.map (some eC),gD,hd,g8,h2,h3,h4,h5,h6,S 0,cY,cy],true⟩)
    (ds:t.M eL=some ⟨cs,true⟩) (aB:cs.length=n*4) (ak:n<1000000) (aK:t.c6 eC=some bg) (tz:eh .str (cz x.name) bg=true) (aG:t.c6 gV=some eF) (mq:eh .str (cz x.eV) eF=true) (fY:eL≠c) (dh:eC≠c) (kZ:eC≠eL) (p0:gV≠eC) (sW:gV≠c) {az:Value->B->Prop}
    (z:gP x.name=true->(cF (cz x.name) bg).isSome=false-> ∀hx,cF (cz x.eV) eF=some (S hx)->cU x.ext 1 16=true->cU x.pn 1 64=true-> ∀aN o',t.next<=o'->qe t aN [c,eL,eC]->aN.M c=some ⟨[dF,bn,.slice (some ⟨o',0,none⟩) (n+1) 4,dp,eH,fo,fp,.map (some gV),.map (some eC),gD,hd,g8,h2,h3,h4,h5,h6,S 0,cY,cy],true⟩->aN.M o'=some ⟨cs++qq ⟨x.name,x.ext,x.pn,hx⟩,true⟩->aN.c6 eC=some (dW (cz x.name) (S n) bg)->az (.tuple #[]) aN)
    (w6: ∀v,cF (cz x.eV) eF=some v-> ∃hx,v=S hx)
    (D: ∀aN e,(gP x.name=false->e=1)->(gP x.name=true->(cF (cz x.name) bg).isSome=true->e=8)->(gP x.name=true->(cF (cz x.name) bg).isSome=false->(cF (cz x.eV) eF=none/\e=7)\/((cF (cz x.eV) eF).isSome=true/\(cU x.ext 1 16&&cU x.pn 1 64)=false/\e=5))->gf c e x.p.l x.p.c aN->az (.tuple #[]) aN):hn Tryz.prog 40 [bZ c,.agg (nL x).toArray] t az:=by
  refine g0 (aY:=⟨[oA],[pU,DZ]⟩) axp (by kernel_rfl) (by simp[yw]) ?_;have m1:=aT aj;have cZ:=aT ds;have jS:eC<t.next:=aT (hv aK).1
  have LL:gV<t.next:=aT (hv aG).1
  have bm: ¬c=t.next:=by omega
  have bU: ¬t.next=c:=by omega
  have cn: ¬eC=t.next:=by omega
  have fa: ¬gV=t.next:=by omega
  have hB:cs.take (n*4)=cs:=List.take_of_length_le (by omega);have fV:(n+1)*40<=140737488355328/\n<=9223372036854775806:=by omega
  cases bO:gP x.name
  · simp(disch:=first|omega|(simp only[ae,ad,af];omega)) [yw,z9,Aa,Ab,Ac,Ad,nL,aj,aK,bO,gl,fS];exact D _ 1 (λ_=>rfl) (λh=>by rw[bO]at h;cases h) (λh=>by rw[bO]at h;cases h) (gf.mk (bX (by simp<;>omega)))
  · cases aI:(cF (cz x.name) bg).isSome
    · cases pO:cF (cz x.eV) eF with
      | none=>
        cases ym:cU x.ext 1 16
        · simp(disch:=first|omega|(simp only[ae,ad,af];omega)) [yw,z9,Aa,Ab,Ac,Ad,nL,aj,aK,aG,mq,bO,gl,hy,fS,-cF,-dW,-eh,aI,pO,ds,aB,hB,fV,ym];exact D _ 7 (λh=>by rw[bO]at h;cases h) (λ_ h=>by rw[aI]at h;cases h) (λ_ _=> .inl ⟨pO,rfl⟩) (gf.mk (bX (by simp<;>omega)))
        · cases vM:cU x.pn 1 64
          · simp(disch:=first|omega|(simp only[ae,ad,af];omega)) [yw,z9,Aa,Ab,Ac,Ad,nL,aj,aK,aG,mq,bO,gl,hy,fS,-cF,-dW,-eh,aI,pO,ds,aB,hB,fV,ym,vM];exact D _ 7 (λh=>by rw[bO]at h;cases h) (λ_ h=>by rw[aI]at h;cases h) (λ_ _=> .inl ⟨pO,rfl⟩) (gf.mk (bX (by simp<;>omega)))
          · simp(disch:=first|omega|(simp only[ae,ad,af];omega)) [yw,z9,Aa,Ab,Ac,Ad,nL,aj,aK,aG,mq,bO,gl,hy,fS,-cF,-dW,-eh,aI,pO,ds,aB,hB,fV,ym,vM];exact D _ 7 (λh=>by rw[bO]at h;cases h) (λ_ h=>by rw[aI]at h;cases h) (λ_ _=> .inl ⟨pO,rfl⟩) (gf.mk (bX (by simp<;>omega)))
      | some v=>
        obtain⟨hx,rfl⟩:=w6 v pO;cases ym:cU x.ext 1 16
        · simp(disch:=first|omega|(simp only[ae,ad,af];omega)) [yw,z9,Aa,Ab,Ac,Ad,nL,aj,aK,aG,mq,bO,gl,hy,fS,-cF,-dW,-eh,aI,pO,ds,aB,hB,fV,ym];exact D _ 5 (λh=>by rw[bO]at h;cases h) (λ_ h=>by rw[aI]at h;cases h) (λ_ _=> .inr ⟨by rw[pO];rfl,by simp[ym],rfl⟩) (gf.mk (bX (by simp<;>omega)))
        · cases vM:cU x.pn 1 64
          · simp(disch:=first|omega|(simp only[ae,ad,af];omega)) [yw,z9,Aa,Ab,Ac,Ad,nL,aj,aK,aG,mq,bO,gl,hy,fS,-cF,-dW,-eh,aI,pO,ds,aB,hB,fV,ym,vM];exact D _ 5 (λh=>by rw[bO]at h;cases h) (λ_ h=>by rw[aI]at h;cases h) (λ_ _=> .inr ⟨by rw[pO];rfl,by simp[vM],rfl⟩) (gf.mk (bX (by simp<;>omega)))
          · simp(disch:=first|omega|(simp only[ae,ad,af];omega)) [yw,z9,Aa,Ab,Ac,Ad,nL,aj,aK,aG,mq,bO,gl,hy,fS,-cF,-dW,-eh,aI,pO,ds,aB,hB,fV,ym,vM];refine z bO aI hx pO ym vM _ (t.next+11+15) (by omega) ⟨by simp<;>omega,λb L c5=> ?_,λb L c5=> ?_⟩ ?_ ?_ ?_
            · simp only[List.mem_cons,List.not_mem_nil,or_false,not_or]at c5;obtain⟨aM,a1,cI⟩:=c5;simp(disch:=omega)
            · simp only[List.mem_cons,List.not_mem_nil,or_false,not_or]at c5;obtain⟨aM,a1,cI⟩:=c5;simp(disch:=omega)
            · simp(disch:=first|omega|(simp only[ae,ad,af];omega)) [-al,-ar,-ai,-ao,-List.map_map]
            · simp(disch:=first|omega|(simp only[ae,ad,af];omega)) [qq,-al,-ar,-ai,-ao,-List.map_map]
            · simp(disch:=first|omega|(simp only[ae,ad,af];omega)) [-dW,-al,-ar,-ai,-ao,-List.map_map]
    · simp(disch:=first|omega|(simp only[ae,ad,af];omega)) [yw,z9,Aa,Ab,Ac,Ad,nL,aj,aK,bO,gl,fS,-cF,-dW,-eh,aI];exact D _ 8 (λh=>by rw[bO]at h;cases h) (λ_ _=>rfl) (λ_ h=>by rw[aI]at h;cases h) (gf.mk (bX (by simp<;>omega)))
theorem aDP{x:zr}{c eL gV eC n:Nat}{dF bn bF dp eH fo gp hW gD h2 h3 h4 h5 h6 cY cy:Value}{cs:List Value}{bg eF:List (Value×Value)}{t:B}(aj:t.M c=some ⟨[dF,bn,bF,dp,eH,fo,.slice (some ⟨eL,0,none⟩) n 2,gp,hW,gD,.map (some gV),.map (some eC),h2,h3,h4,h5,h6,S 0,cY,cy],true⟩)
    (ds:t.M eL=some ⟨cs,true⟩) (aB:cs.length=n*2) (ak:n<1000000) (aK:t.c6 eC=some bg) (tz:eh .str (cz x.name) bg=true) (aG:t.c6 gV=some eF) (mq:eh .str (cz x.qO) eF=true) (fY:eL≠c) (dh:eC≠c) (kZ:eC≠eL) (p0:gV≠eC) (sW:gV≠c) {az:Value->B->Prop}
    (z:gP x.name=true->(cF (cz x.name) bg).isSome=false-> ∀hx,cF (cz x.qO) eF=some (S hx)-> ∀aN o',t.next<=o'->qe t aN [c,eL,eC]->aN.M c=some ⟨[dF,bn,bF,dp,eH,fo,.slice (some ⟨o',0,none⟩) (n+1) 2,gp,hW,gD,.map (some gV),.map (some eC),h2,h3,h4,h5,h6,S 0,cY,cy],true⟩->aN.M o'=some ⟨cs++qs ⟨x.name,hx⟩,true⟩->aN.c6 eC=some (dW (cz x.name) (S n) bg)->az (.tuple #[]) aN)
    (w6: ∀v,cF (cz x.qO) eF=some v-> ∃hx,v=S hx)
    (D: ∀aN e,(gP x.name=false->e=1)->(gP x.name=true->(cF (cz x.name) bg).isSome=true->e=8)->(gP x.name=true->(cF (cz x.name) bg).isSome=false->cF (cz x.qO) eF=none/\e=7)->gf c e x.p.l x.p.c aN->az (.tuple #[]) aN):hn Tryz.prog 46 [bZ c,.agg (qS x).toArray] t az:=by
  refine g0 (aY:=⟨[],[pU,DZ]⟩) axv (by kernel_rfl) (by simp[GW]) ?_;have m1:=aT aj;have cZ:=aT ds;have jS:eC<t.next:=aT (hv aK).1
  have LL:gV<t.next:=aT (hv aG).1
  have bm: ¬c=t.next:=by omega
  have bU: ¬t.next=c:=by omega
  have cn: ¬eC=t.next:=by omega
  have fa: ¬gV=t.next:=by omega
  have hB:cs.take (n*2)=cs:=List.take_of_length_le (by omega);have fV:(n+1)*24<=140737488355328/\n<=9223372036854775806:=by omega
  cases bO:gP x.name
  · simp(disch:=first|omega|(simp only[ae,ad,af];omega)) [GW,K0,K1,K2,K3,qS,aj,aK,bO,gl,fS];exact D _ 1 (λ_=>rfl) (λh=>by rw[bO]at h;cases h) (λh=>by rw[bO]at h;cases h) (gf.mk (bX (by simp<;>omega)))
  · cases aI:(cF (cz x.name) bg).isSome
    · cases pO:cF (cz x.qO) eF with
      | none=>simp(disch:=first|omega|(simp only[ae,ad,af];omega)) [GW,K0,K1,K2,K3,qS,aj,aK,aG,mq,bO,gl,hy,fS,-cF,-dW,-eh,aI,pO,ds,aB,hB,fV];exact D _ 7 (λh=>by rw[bO]at h;cases h) (λ_ h=>by rw[aI]at h;cases h) (λ_ _=>⟨pO,rfl⟩) (gf.mk (bX (by simp<;>omega)))
      | some v=>
        obtain⟨hx,rfl⟩:=w6 v pO;simp(disch:=first|omega|(simp only[ae,ad,af];omega)) [GW,K0,K1,K2,K3,qS,aj,aK,aG,mq,bO,gl,hy,fS,-cF,-dW,-eh,aI,pO,ds,aB,hB,fV];refine z bO aI hx pO _ (t.next+9+11) ?_ ⟨by simp<;>omega,λb L c5=> ?_,λb L c5=> ?_⟩ ?_ ?_ ?_
        · omega
        · simp only[List.mem_cons,List.not_mem_nil,or_false,not_or]at c5;obtain⟨aM,a1,cI⟩:=c5;simp(disch:=omega)
        · simp only[List.mem_cons,List.not_mem_nil,or_false,not_or]at c5;obtain⟨aM,a1,cI⟩:=c5;simp(disch:=omega)
        · simp(disch:=first|omega|(simp only[ae,ad,af];omega)) [-al,-ar,-ai,-ao,-List.map_map]
        · simp(disch:=first|omega|(simp only[ae,ad,af];omega)) [qs,-al,-ar,-ai,-ao,-List.map_map]
        · simp(disch:=first|omega|(simp only[ae,ad,af];omega)) [-dW,-al,-ar,-ai,-ao,-List.map_map]
    · simp(disch:=first|omega|(simp only[ae,ad,af];omega)) [GW,K0,K1,K2,K3,qS,aj,aK,bO,gl,fS,-cF,-dW,-eh,aI];exact D _ 8 (λh=>by rw[bO]at h;cases h) (λ_ _=>rfl) (λ_ h=>by rw[aI]at h;cases h) (gf.mk (bX (by simp<;>omega)))
end Go.Proofs.YtkpifdkccdndcaaGreat
