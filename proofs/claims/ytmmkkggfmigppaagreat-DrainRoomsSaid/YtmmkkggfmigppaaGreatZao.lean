/-
  A part of the proof of the statement, in texts that tools of ours (wip/shrink.py, irpack.py, relax.py, minify.py, join.py, lay.py) have shortened.
-/
import Derived.Test.YtmmkkggfmigppaaGreatZan
set_option linter.all false
set_option maxRecDepth 8000
set_option maxHeartbeats 16000000
namespace Go.Proofs.YtmmkkggfmigppaaGreat
open Go Go.DI Go.Big
theorem aks:IntKind.i64.wrap 1=1:=fx (by decide) (by decide)
def wH:List Nat:=[0,1,4,5,6]
theorem au1{l:List Int}(aD:l.length<=140737488355328){K:Int}{fE fF hY gP:Value}{ds:List gm}{cl:List mu}{i j gC q8:Nat}(ay:pU ds)(az:o5 ds cl)(iz:cl.length<=9)(b1:j<1000)(ak:i+30<1000000)(au:ds.length<800)(aa:j=0\/(j9 ds gC 2/\j9 ds q8 3)):
    ∃ (fH:List gm) (ju:List mu) (dc aeN aeC:Nat),pU fH/\o5 fH ju/\(ju.length<=9/\1<=ju.length)/\fH.length<=ds.length+4/\dc<=i+9/\j9 fH aeN 2/\j9 fH aeC 3/\ ∀(z:aM) (t:W) (Q:du->aM->W->Prop),z 0=cF 0->z 5=cF 6->z 8=Z gC->z 9=Z q8->z 10=Z j->kk l i K fE fF hY gP ds cl t->
      (∀ae aJ,(∀s∈wH,ae s=z s)->ae 8=Z aeN->ae 9=Z aeC->ae 10=Z (j+1:Nat)->kk l dc K fE fF hY gP fH ju aJ->Q .er ae aJ)->iR (P:=al) ⟨[lT],[iY]⟩ CJ z t Q:=by
  have bZ:=g3 (n:=j) (by omega);by_cases Bv:j=0
  · subst Bv;have Bv:(0:Int)=0:=rfl;have j:Nat:=0;have bw:=kz (l:=l) (i:=i) (n:=17) (by decide);have bJ:=kz (l:=l) (i:=i+1) (n:=17) (by decide);have cb:=kz (l:=l) (i:=i+2) (n:=9) (by decide);obtain⟨kY,D⟩: ∃bo,bo=16+e9 l i 17:=⟨_,rfl⟩;obtain⟨nr,H⟩: ∃bo,bo=16+e9 l (i+1) 17:=⟨_,rfl⟩;obtain⟨oe,aq⟩: ∃bo,bo=8+e9 l (i+2) 9:=⟨_,rfl⟩;have n9:j9 ds 0 (1-1):=⟨_,ay.n9,rfl⟩;have hP:=ay.add (gq:=1) (il:=kY) (p:=0) n9 (by decide) (by decide) (by omega) (by omega);have hd:=hP.add (gq:=2) (il:=nr) (p:=ds.length) uD (by decide) (by decide) (by omega) (by omega);have iT:=hd.add (gq:=3) (il:=oe) (p:=(ds++[hu ds.length 1 (0:Nat) kY]).length) uD (by decide) (by decide) (by omega) (by omega);have aK:(ds++[hu ds.length 1 ((0:Nat):Int) kY]).length=ds.length+1:=(by simp);have aR:(ds++[hu ds.length 1 ((0:Nat):Int) kY]++[hu (ds.length+1) 2 (ds.length:Int) nr]).length=ds.length+2:=(by simp);rw[aK]at hd iT;rw[aR]at iT;have gY:j9 (ds++[hu ds.length 1 ((0:Nat):Int) kY]++[hu (ds.length+1) 2 (ds.length:Int) nr]) (ds.length+1) 2:=by
      have:=uD (ds:=ds++[hu ds.length 1 ((0:Nat):Int) kY]) (gq:=2) (il:=nr) (p:=ds.length);rw[aK]at this;exact this
    have hU:j9 (ds++[hu ds.length 1 ((0:Nat):Int) kY]++[hu (ds.length+1) 2 (ds.length:Int) nr]++[hu (ds.length+2) 3 ((ds.length+1:Nat):Int) oe]) (ds.length+2) 3:=by have:=uD (ds:=ds++[hu ds.length 1 ((0:Nat):Int) kY]++[hu (ds.length+1) 2 (ds.length:Int) nr]) (gq:=3) (il:=oe) (p:=(ds.length+1:Nat));rw[aR]at this;exact this
    obtain⟨fH,ju,dc,dk,ev,gG,gH,lp,lq,qF⟩:=My (l:=l) aD (K:=K) (fE:=fE) (fF:=fF) (hY:=hY) (gP:=gP) (i:=i+3) iT az.app.app.app iz (by omega) hU (by simp;omega);refine⟨fH,ju,dc,ds.length+1,ds.length+2,dk,ev,gG,by simp at gH;omega,by omega,lq _ _ (gY.app),lq _ _ hU,λz t Q cX ct b9 gD j1 jN bT=> ?_⟩;obtain⟨h8,or,av⟩:=jN;have aO:=av.aO;have fW:=bn aO;have c3:IntKind.i64.wrap (16+e9 l i 17)=kY:=(by rw[D];exact fx (by omega) (by omega));simp(disch:=first|omega|simp only[aW];omega) [CJ,cX,ct,j1,aO,lb,c3,-O,-U,-N,-S,-List.map_map];refine xb (kk.at ⟨h8,or,av⟩ (dc:=i+1) (by omega)) (by omega) λbF jj=> ?_;obtain⟨Hz,HG,k8⟩:=jj;obtain⟨ku,n1⟩: ∃ku,ku=i+1:=⟨_,rfl⟩;have aQ:=k8.aO;have jo:=bn aQ;rw[<-n1]at aQ k8 H bJ;have e3:IntKind.i64.wrap (16+e9 l ku 17)=nr:=(by rw[H];exact fx (by omega) (by omega));simp(disch:=first|omega|simp only[aW];omega) [GY,cX,ct,aQ,lb,e3,-O,-U,-N,-S,-List.map_map];refine xb (ds:=ds++[hu ds.length 1 ((0:Nat):Int) kY]) (kk.at ⟨Hz,HG,k8⟩ (dc:=i+2) (by omega)) (by omega) λiH sJ=> ?_;obtain⟨SN,wk,rR⟩:=sJ;obtain⟨lx,ke⟩: ∃lx,lx=i+2:=⟨_,rfl⟩;have a7:=rR.aO;have jq:=bn a7;rw[<-ke]at a7 rR aq cb;rw[aK]at rR⊢;have mT:IntKind.i64.wrap (8+e9 l lx 9)=oe:=(by rw[aq];exact fx (by omega) (by omega));simp(disch:=first|omega|simp only[aW];omega) [cX,ct,a7,lb,mT,-O,-U,-N,-S,-List.map_map];refine xb (ds:=ds++[hu ds.length 1 ((0:Nat):Int) kY]++[hu (ds.length+1) 2 (ds.length:Int) nr]) (kk.at ⟨SN,wk,rR⟩ (dc:=i+3) (by omega)) (by omega) λNA qP=> ?_;rw[aR]at qP⊢;simp(disch:=first|omega|simp only[aW];omega) [-O,-U,-N,-S,-List.map_map];refine qF _ _ _ (by simp[cX]) (by simp[ct]) (by simp) qP λae aJ M qW=> ?_;have zt:=(M 10 (by decide)).trans (show _=Z (0:Nat) by simp[j1]);simp(disch:=first|omega|simp only[aW];omega) [zt,-O,-U,-N,-S,-List.map_map];exact bT _ _ (λs fh=>by
      simp only[wH,gT,iP,or_false]at fh;rcases fh with rfl|rfl|rfl|rfl|rfl
      · simpa using M 0 (by decide)
      · simpa using M 1 (by decide)
      · simpa using M 4 (by decide)
      · simpa using M 5 (by decide)
      · simpa using M 6 (by decide)) (by simpa using M 8 (by decide)) (by simpa using M 9 (by decide)) (by simp[aks]) qW
  obtain⟨gY,hU⟩:=aa.resolve_left Bv;by_cases p4:e9 l i 4=0
  · skip
    have bw:=kz (l:=l) (i:=(i+1)) (n:=17) (by decide);have bJ:=kz (l:=l) (i:=(i+1)+1) (n:=17) (by decide);have cb:=kz (l:=l) (i:=(i+1)+2) (n:=9) (by decide);obtain⟨kY,D⟩: ∃bo,bo=16+e9 l (i+1) 17:=⟨_,rfl⟩;obtain⟨nr,H⟩: ∃bo,bo=16+e9 l ((i+1)+1) 17:=⟨_,rfl⟩;obtain⟨oe,aq⟩: ∃bo,bo=8+e9 l ((i+1)+2) 9:=⟨_,rfl⟩;have n9:j9 ds 0 (1-1):=⟨_,ay.n9,rfl⟩;have hP:=ay.add (gq:=1) (il:=kY) (p:=0) n9 (by decide) (by decide) (by omega) (by omega);have hd:=hP.add (gq:=2) (il:=nr) (p:=ds.length) uD (by decide) (by decide) (by omega) (by omega);have iT:=hd.add (gq:=3) (il:=oe) (p:=(ds++[hu ds.length 1 (0:Nat) kY]).length) uD (by decide) (by decide) (by omega) (by omega);have aK:(ds++[hu ds.length 1 ((0:Nat):Int) kY]).length=ds.length+1:=(by simp);have aR:(ds++[hu ds.length 1 ((0:Nat):Int) kY]++[hu (ds.length+1) 2 (ds.length:Int) nr]).length=ds.length+2:=(by simp);rw[aK]at hd iT;rw[aR]at iT;have gY:j9 (ds++[hu ds.length 1 ((0:Nat):Int) kY]++[hu (ds.length+1) 2 (ds.length:Int) nr]) (ds.length+1) 2:=(by have:=uD (ds:=ds++[hu ds.length 1 ((0:Nat):Int) kY]) (gq:=2) (il:=nr) (p:=ds.length);rw[aK]at this;exact this);have hU:j9 (ds++[hu ds.length 1 ((0:Nat):Int) kY]++[hu (ds.length+1) 2 (ds.length:Int) nr]++[hu (ds.length+2) 3 ((ds.length+1:Nat):Int) oe]) (ds.length+2) 3:=by have:=uD (ds:=ds++[hu ds.length 1 ((0:Nat):Int) kY]++[hu (ds.length+1) 2 (ds.length:Int) nr]) (gq:=3) (il:=oe) (p:=(ds.length+1:Nat));rw[aR]at this;exact this
    obtain⟨fH,ju,dc,dk,ev,gG,gH,lp,lq,qF⟩:=My (l:=l) aD (K:=K) (fE:=fE) (fF:=fF) (hY:=hY) (gP:=gP) (i:=(i+1)+3) iT az.app.app.app iz (by omega) hU (by simp;omega);refine⟨fH,ju,dc,ds.length+1,ds.length+2,dk,ev,gG,by simp at gH;omega,by omega,lq _ _ (gY.app),lq _ _ hU,λz t Q cX ct b9 gD j1 jN bT=> ?_⟩;obtain⟨h8,or,av⟩:=jN;have aO:=av.aO;have fW:=bn aO;have c3:IntKind.i64.wrap (16+e9 l (i+1) 17)=kY:=(by rw[D];exact fx (by omega) (by omega));simp(disch:=first|omega|simp only[aW];omega) [CJ,cX,ct,j1,aO,lb,Bv,p4,c3,-O,-U,-N,-S,-List.map_map];refine xb (kk.at ⟨h8,or,av⟩ (dc:=(i+1)+1) (by omega)) (by omega) λbF jj=> ?_;obtain⟨Hz,HG,k8⟩:=jj;obtain⟨ku,n1⟩: ∃ku,ku=(i+1)+1:=⟨_,rfl⟩;have aQ:=k8.aO;have jo:=bn aQ;rw[<-n1]at aQ k8 H bJ;have e3:IntKind.i64.wrap (16+e9 l ku 17)=nr:=(by rw[H];exact fx (by omega) (by omega));simp(disch:=first|omega|simp only[aW];omega) [GY,cX,ct,aQ,lb,e3,-O,-U,-N,-S,-List.map_map];refine xb (ds:=ds++[hu ds.length 1 ((0:Nat):Int) kY]) (kk.at ⟨Hz,HG,k8⟩ (dc:=(i+1)+2) (by omega)) (by omega) λiH sJ=> ?_;obtain⟨SN,wk,rR⟩:=sJ;obtain⟨lx,ke⟩: ∃lx,lx=(i+1)+2:=⟨_,rfl⟩;have a7:=rR.aO;have jq:=bn a7;rw[<-ke]at a7 rR aq cb;rw[aK]at rR⊢;have mT:IntKind.i64.wrap (8+e9 l lx 9)=oe:=(by rw[aq];exact fx (by omega) (by omega));simp(disch:=first|omega|simp only[aW];omega) [cX,ct,a7,lb,mT,-O,-U,-N,-S,-List.map_map];refine xb (ds:=ds++[hu ds.length 1 ((0:Nat):Int) kY]++[hu (ds.length+1) 2 (ds.length:Int) nr]) (kk.at ⟨SN,wk,rR⟩ (dc:=(i+1)+3) (by omega)) (by omega) λNA qP=> ?_;rw[aR]at qP⊢;simp(disch:=first|omega|simp only[aW];omega) [-O,-U,-N,-S,-List.map_map];refine qF _ _ _ (by simp[cX]) (by simp[ct]) (by simp) qP λae aJ M qW=> ?_;have zt:=(M 10 (by decide)).trans (show _=Z j by simp[j1]);simp(disch:=first|omega|simp only[aW];omega) [zt,bZ,-O,-U,-N,-S,-List.map_map];exact bT _ _ (λs fh=>by
      simp only[wH,gT,iP,or_false]at fh;rcases fh with rfl|rfl|rfl|rfl|rfl
      · simpa using M 0 (by decide)
      · simpa using M 1 (by decide)
      · simpa using M 4 (by decide)
      · simpa using M 5 (by decide)
      · simpa using M 6 (by decide)) (by simpa using M 8 (by decide)) (by simpa using M 9 (by decide)) (by simp[]) qW
  by_cases yQ:e9 l (i+1) 2=0
  · skip
    have cb:=kz (l:=l) (i:=i+2) (n:=9) (by decide);obtain⟨oe,aq⟩: ∃bo,bo=8+e9 l (i+2) 9:=⟨_,rfl⟩;have iT:=ay.add (gq:=3) (il:=oe) (p:=gC) gY (by decide) (by decide) (by omega) (by omega);have adm:j9 (ds++[hu ds.length 3 (gC:Int) oe]) ds.length 3:=uD;obtain⟨fH,ju,dc,dk,ev,gG,gH,lp,lq,qF⟩:=My (l:=l) aD (K:=K) (fE:=fE) (fF:=fF) (hY:=hY) (gP:=gP) (i:=i+3) iT az.app iz (by omega) adm (by simp;omega);refine⟨fH,ju,dc,gC,ds.length,dk,ev,gG,by simp at gH;omega,by omega,lq _ _ gY.app,lq _ _ adm,λz t Q cX ct b9 gD j1 jN bT=> ?_⟩;obtain⟨h8,or,av⟩:=jN;have aO:=av.aO;have fW:=bn aO;have mT:IntKind.i64.wrap (8+e9 l (i+2) 9)=oe:=(by rw[aq];exact fx (by omega) (by omega));have NH:((i:Int)+1+1).toNat=i+2:=(by omega);have aM0:IntKind.i64.wrap (8+e9 l (i+1+1) 9)=oe:=mT;simp(disch:=first|omega|simp only[aW];omega) [CJ,GY,cX,ct,b9,j1,aO,lb,Bv,p4,yQ,mT,NH,-O,-U,-N,-S,-List.map_map];refine xb (kk.at ⟨h8,or,av⟩ (dc:=i+3) (by omega)) (by omega) λbF jj=> ?_;simp(disch:=first|omega|simp only[aW];omega) [-O,-U,-N,-S,-List.map_map];refine qF _ _ _ (by simp[cX]) (by simp[ct]) (by simp) jj λae aJ M qW=> ?_;have zt:=(M 10 (by decide)).trans (show _=Z j by simp[j1]);simp(disch:=first|omega|simp only[aW];omega) [zt,bZ,-O,-U,-N,-S,-List.map_map];exact bT _ _ (λs fh=>by
      simp only[wH,gT,iP,or_false]at fh;rcases fh with rfl|rfl|rfl|rfl|rfl
      · simpa using M 0 (by decide)
      · simpa using M 1 (by decide)
      · simpa using M 4 (by decide)
      · simpa using M 5 (by decide)
      · simpa using M 6 (by decide)) (by simpa[b9]using M 8 (by decide)) (by simpa[gD]using M 9 (by decide)) (by simp[]) qW
  · skip
    obtain⟨fH,ju,dc,dk,ev,gG,gH,lp,lq,qF⟩:=My (l:=l) aD (K:=K) (fE:=fE) (fF:=fF) (hY:=hY) (gP:=gP) (i:=i+2) ay az iz (by omega) hU (by omega);refine⟨fH,ju,dc,gC,q8,dk,ev,gG,by omega,by omega,lq _ _ gY,lq _ _ hU,λz t Q cX ct b9 gD j1 jN bT=> ?_⟩;obtain⟨h8,or,av⟩:=jN;have aO:=av.aO;have fW:=bn aO;simp(disch:=first|omega|simp only[aW];omega) [CJ,GY,cX,j1,aO,lb,Bv,p4,yQ,-O,-U,-N,-S,-List.map_map];refine qF _ _ _ (by simp[cX]) (by simp[ct]) (by simp[gD]) (kk.at ⟨h8,or,av⟩ (dc:=i+2) (by omega)) λae aJ M qW=> ?_;have zt:=(M 10 (by decide)).trans (show _=Z j by simp[j1]);simp(disch:=first|omega|simp only[aW];omega) [zt,bZ,-O,-U,-N,-S,-List.map_map];exact bT _ _ (λs fh=>by
      simp only[wH,gT,iP,or_false]at fh;rcases fh with rfl|rfl|rfl|rfl|rfl
      · simpa using M 0 (by decide)
      · simpa using M 1 (by decide)
      · simpa using M 4 (by decide)
      · simpa using M 5 (by decide)
      · simpa using M 6 (by decide)) (by simpa[b9]using M 8 (by decide)) (by simpa[gD]using M 9 (by decide)) (by simp[]) qW
theorem au2{l:List Int}(aD:l.length<=140737488355328){K:Int}{fE fF hY gP:Value}{ah:Nat}(rM:ah<=100): ∀(r j i:Nat) (ds:List gm) (cl:List mu) (gC q8:Nat),j+r=ah->pU ds->o5 ds cl->cl.length<=9->ds.length<=1+4*j->i+10*r+100<1000000->(j=0\/(j9 ds gC 2/\j9 ds q8 3))->
    ∃ (fH:List gm) (ju:List mu) (dc:Nat),pU fH/\o5 fH ju/\(ju.length<=9/\(1<=r+cl.length->1<=ju.length))/\fH.length<=1+4*ah/\dc<=i+10*r/\ ∀(z:aM) (t:W) (Q:du->aM->W->Prop),z 0=cF 0->z 5=cF 6->z 6=Z ah->z 8=Z gC->z 9=Z q8->z 10=Z j->kk l i K fE fF hY gP ds cl t->
      (∀ae aJ,(∀s∈wH,ae s=z s)->kk l dc K fE fF hY gP fH ju aJ->Q (.bh 0) ae aJ)->fl al (.loop Ly) z t Q:=by
  intro r;induction r with
  | zero=>intro j i ds cl gC q8 b1 ay az iz au ak aa;refine⟨ds,cl,i,ay,az,⟨iz,by omega⟩,by omega,by omega,λz t Q cX ct fu b9 gD j1 jN bT=> ?_⟩;refine eu (aB:=⟨[lT],[iY]⟩) λcx bk=> ?_;have c: ¬(j:Int)<ah:=(by omega);have ch: ¬j<ah:=(by omega);simp(disch:=first|omega|simp only[aW];omega) [Ly,fu,j1,c,-O,-U,-N,-S,-List.map_map];exact bT _ _ (λs M=>by simp only[wH,gT,iP,or_false]at M;rcases M with rfl|rfl|rfl|rfl|rfl<;>simp) jN
  | succ r cc=>intro j i ds cl gC q8 b1 ay az iz au ak aa;obtain⟨yS,aw0,ku,awN,awp,bw,bJ,cb,eI,fm,hy,jK,lo⟩:=au1 (l:=l) aD (K:=K) (fE:=fE) (fF:=fF) (hY:=hY) (gP:=gP) (i:=i) (j:=j) ay az iz (by omega) (by omega) (by omega) aa;obtain⟨Wd,aw1,lx,dk,ev,gG,gH,lp,lq⟩:=cc (j+1) ku yS aw0 awN awp (by omega) bw bJ cb.1 (by omega) (by omega) (.inr ⟨hy,jK⟩);refine⟨Wd,aw1,lx,dk,ev,⟨gG.1,λ_=>gG.2 (by have:=cb.2;omega)⟩,gH,by omega,λz t Q cX ct fu b9 gD j1 jN bT=> ?_⟩;refine eu (aB:=⟨[lT],[iY]⟩) λcx bk=> ?_;have c:(j:Int)<ah:=(by omega);have ch:j<ah:=(by omega);simp(disch:=first|omega|simp only[aW];omega) [Ly,fu,j1,c,-O,-U,-N,-S,-List.map_map];refine lo _ _ _ (by simp[cX]) (by simp[ct]) (by simp[b9]) (by simp[gD]) (by simp[j1]) jN λae aJ M hA aiS xh av=> ?_;have e: ∀s∈wH,ae s=z s:= λs fh=>(M s fh).trans (by simp only[wH,gT,iP,or_false]at fh;rcases fh with rfl|rfl|rfl|rfl|rfl<;>simp);simp(disch:=first|omega|simp only[aW];omega) [-O,-U,-N,-S,-List.map_map];exact bk _ _ (lq ae aJ Q ((e 0 (by decide)).trans cX) ((e 5 (by decide)).trans ct) ((e 6 (by decide)).trans fu) hA aiS xh av λu5 sf zr=>bT u5 sf λs fh=>(zr s fh).trans (e s fh))
theorem ays:lY 1 2:=by unfold lY;omega
theorem awv{n:Nat}:(((List.replicate n (fp 1 2)).map dS).flatten).length=n*3:=by rw[awu,List.length_replicate]
def Ig:List Nat:=[0,1,4,5,14,15,16,17]
theorem aym{z ae:aM}(cR:ae 0=z 0)(D:ae 1=z 1)(aE:ae 4=z 4)(bq:ae 5=z 5)(O6:ae 14=z 14)(O7:ae 15=z 15)(O8:ae 16=z 16)(O9:ae 17=z 17): ∀k∈Ig,ae k=z k:= λk aa=>by simp only[Ig,gT,iP,or_false]at aa;rcases aa with rfl|rfl|rfl|rfl|rfl|rfl|rfl|rfl<;>assumption
theorem awC{P oL:Nat}{aT:List Nat}{gJ bw bJ cb eI fm hy jK lo dA dk ev gG gH lp:Value}{gA:List Int}{m:Int}{R:Nat}(iA:(R:Int)=if m<1 then 1 else m)(JX:R<=100)(WX: ∀b∈aT,b≠P/\b≠oL)(JW:oL≠P){Q:du->aM->W->Prop}:
    ∀ (r n:Nat) (tl:Nat) (z:aM) (t:W),n+r=R->z 16=Z m->z 17=cF P->z 18=Z n->t.X P=some ⟨[gJ,bw,bJ,cb,eI,fm,hy,jK,lo,ee oL gA.length 1,ee tl n 3,dA,dk,ev,gG,gH,lp],true⟩->t.X oL=some ⟨gA.map Z,true⟩->t.X tl=some ⟨((List.replicate n (fp 1 2)).map dS).flatten,true⟩->
      tl≠P->tl≠oL->(∀b∈aT,b≠tl/\b<t.next)->
      (∀ae aJ,(∀s∈Ig,ae s=z s)->t.next<=aJ.next->(∀b∈aT,aJ.X b=t.X b)->aJ.X P=some ⟨[gJ,bw,bJ,cb,eI,fm,hy,jK,lo,cn gA,hz (List.replicate R (fp 1 2)),dA,dk,ev,gG,gH,lp],true⟩->Q (.bh 6) ae aJ)->fl al (.loop GZ) z t Q:=by
  intro r;induction r with
  | zero=>
    intro n tl z t au tr r9 iO xg bd iU po kM dY bT;have iJ:n=R:=(by omega);subst iJ;have Ms:=bn xg;have cp:=bn bd;have ta:=bn iU;refine sj (o:=oL) (p:=P) (j:=9) (I:=1) (a8:=gA.map λx=>[Z x]) (by rw[qZ];exact bd) sZ xg (by simp) JW ?_;refine sj (o:=tl) (p:=P) (j:=10) (I:=3) (a8:=(List.replicate n (fp 1 2)).map dS) (cells:=[gJ,bw,bJ,cb,eI,fm,hy,jK,lo,cn gA,ee tl n 3,dA,dk,ev,gG,gH,lp]) ?_ aeD ?_ (by simp) po ?_
    · rw[bW po,bW kM];exact iU
    · rw[ej (by simpa using Ms)];simp
    refine eu (aB:=⟨[lT,wC],[iY]⟩) λcx bk=> ?_;have c: ¬((n:Int)<if m<1 then 1 else m):=(by omega);simp(disch:=first|omega|simp only[aW];omega) [GZ,RX,tr,iO,c,-O,-U,-N,-S,-List.map_map];refine bT _ _ (aym (by simp) (by simp) (by simp) (by simp) (by simp) (by simp) (by simp) (by simp)) (by simp) (λb hb=> ?_) ?_
    · obtain⟨a3,br⟩:=WX b hb;obtain⟨bX,e1⟩:=dY b hb;rw[bW a3,bW bX,bW a3,bW br]
    · rw[ej (by simpa using Ms)];simp
  | succ r cc=>
    intro n tl z t au tr r9 iO xg bd iU po kM dY bT;refine eu (aB:=⟨[lT,wC],[iY]⟩) λcx bk=> ?_;have Ms:=bn xg;have cp:=bn bd;have ta:=bn iU;have c:(n:Int)<if m<1 then 1 else m:=by omega
    have ayr:=ays;have bZ:=g3 (n:=n) (by omega);have fC:=awv (n:=n);have aEH:(List.replicate n [Value.bool (fp 1 2).jR,bM (fp 1 2).a,bM (fp 1 2).b]).flatten.length=n*3:=(by simpa[dS]using fC);have fO:(n+1)*56<=140737488355328/\n<=9223372036854775806:=(by omega);have aES:P≠tl:= λe=>po e.symm;have ajQ:oL≠tl:= λe=>kM e.symm;simp(disch:=first|omega|simp only[aW];omega) [GZ,RX,tr,r9,iO,c,xg,iU,dS,fO,bZ,-O,-U,-N,-S,-List.map_map];refine bk _ _ (cc (n+1) (t.next+4) _ _ (by omega) (by simp[tr]) (by simp[r9]) (by simp) ?_ ?_ ?_ (by omega) (by omega) (λb hb=> ?_) λae aJ M G aiW ai1=>bT ae aJ (λs fh=>(M s fh).trans ?_) (by simp at G;omega) (λb hb=>(aiW b hb).trans ?_) ai1)
    · rw[ej (by simp;omega)]
    · rw[bW (by omega),bW (by omega),bW ajQ,bW (by omega),e6 cp];exact bd
    · rw[bW (by omega),ej (by simp),jh (by omega),List.replicate_succ'];simp[dS]
    · have:=(dY b hb).2;exact⟨by omega,by simp;omega⟩
    · simp only[Ig,gT,iP,or_false]at fh;rcases fh with rfl|rfl|rfl|rfl|rfl|rfl|rfl|rfl<;>simp
    · obtain⟨a3,br⟩:=WX b hb;obtain⟨bX,e1⟩:=dY b hb;rw[bW a3,bW (by omega),bW bX,bW (by omega),W.e6]
theorem aeI{P oL:Nat}{aT:List Nat}{gJ bw bJ cb eI fm hy jK lo dA dk ev gG gH lp:Value}{gA:List Int}{m:Int}{R:Nat}(iA:(R:Int)=if m<1 then 1 else m)(JX:R<=100){z:aM}{t:W}{Q:du->aM->W->Prop}(tr:z 16=Z m)(r9:z 17=cF P)(iO:z 18=Z 0)
    (xg:t.X P=some ⟨[gJ,bw,bJ,cb,eI,fm,hy,jK,lo,ee oL gA.length 1,.slice none 0 0,dA,dk,ev,gG,gH,lp],true⟩) (bd:t.X oL=some ⟨gA.map Z,true⟩) (JW:oL≠P) (dY: ∀b∈aT,b≠P/\b≠oL/\b<t.next)
    (bT: ∀ae aJ,(∀s∈Ig,ae s=z s)->t.next<=aJ.next->(∀b∈aT,aJ.X b=t.X b)->aJ.X P=some ⟨[gJ,bw,bJ,cb,eI,fm,hy,jK,lo,cn gA,hz (List.replicate R (fp 1 2)),dA,dk,ev,gG,gH,lp],true⟩->Q (.bh 6) ae aJ):fl al (.loop GZ) z t Q:=by
  have Ms:=bn xg;have cp:=bn bd;refine NS (o:=P) (j:=10) (I:=3) xg rfl ?_;refine awC (P:=P) (oL:=oL) (aT:=aT) (gJ:=gJ) (bw:=bw) (bJ:=bJ) (cb:=cb) (eI:=eI) (fm:=fm) (hy:=hy) (jK:=jK) (lo:=lo) (dA:=dA) (dk:=dk) (ev:=ev) (gG:=gG) (gH:=gH) (lp:=lp) (gA:=gA) iA JX (λb hb=>⟨(dY b hb).1,(dY b hb).2.1⟩) JW R 0 t.next _ _ (by omega) tr r9 (by simpa using iO) ?_ ?_ ?_ (by omega) (by omega) (λb hb=> ?_) λae aJ M G aa ai=>bT ae aJ M (by simp at G;omega) (λb hb=>(aa b hb).trans ?_) ai
  · rw[ej (by simp;omega)];rfl
  · rw[bW JW,bW (by omega),e6 cp];exact bd
  · rw[bW (by omega),ej (by simp)];simp
  · have:=(dY b hb).2.2;exact⟨by omega,by simp;omega⟩
  · obtain⟨a3,br,bX⟩:=dY b hb;rw[bW a3,bW (by omega),e6 bX]
structure IY(x:ih)(n:Nat):Prop where
  eJ:x.name=jZ 112 n
  k:1<=x.k/\x.k<=2
  m:0<=x.m/\x.m<=2
  q:x.k<=x.q/\x.q<=x.k+x.m
  aB:x.aB.a=0/\x.aB.b=0/\x.aB.c=0/\0<=x.aB.d/\x.aB.d<=3/\0<=x.aB.e/\x.aB.e<=2
  gA:x.bf=[0,1]\/x.bf=[0]
  jF: ∃R:Nat,(R:Int)=(if x.m<1 then 1 else x.m)/\x.jF=List.replicate R (fp 1 2)
  oV:x.oV=fp 1 1000
  fo:x.fo=fp 30 1
theorem aen{n R:Nat}{k m q dJ j2:Int}{gA:List Int}(D:1<=k/\k<=2)(H:0<=m/\m<=2)(aq:k<=q/\q<=k+m)(aE:0<=dJ/\dJ<=3)(bq:0<=j2/\j2<=2)(cP:gA=[0,1]\/gA=[0])(iA:(R:Int)=if m<1 then 1 else m):IY ⟨jZ 112 n,k,m,q,⟨0,0,0,dJ,j2⟩,gA,List.replicate R (fp 1 2),fp 1 1000,fp 30 1⟩ n:=
  ⟨rfl,D,H,aq,⟨rfl,rfl,rfl,aE.1,aE.2,bq.1,bq.2⟩,cP,⟨R,iA,rfl⟩,rfl,rfl⟩
def Bm(ps:List ih)(dn:Nat):Prop:= ∀(i:Nat) (x:ih),ps[i]?=some x->IY x (dn-i)
theorem Bm.add{ps:List ih}{dn:Nat}{x:ih}(h:Bm ps dn)(G:IY x (dn-ps.length)):Bm (ps++[x]) dn:= λi y ag=>by
  by_cases c:i<ps.length
  · rw[tH c]at ag;exact h i y ag
  · have aD:=(eB.1 ag).1;simp only[jI,pS,wT]at aD;have e:i=ps.length:=(by omega);subst e;rw[u0 (dW _)]at ag;simp at ag;subst ag;exact G
structure agw(l:List Int)(i:Nat)(K:Int)(fE fF lI lJ gP:Value)(ps:List ih)(op:Nat)(t:W):Prop where
  aO:t.X 0=some ⟨[cn l,Z i],true⟩
  aQ:t.X 1=some ⟨x9,true⟩
  fj:t.X 6=some ⟨[Z K,fE,fF,lI,lJ,ee op ps.length 17,gP],true⟩
  qN:t.X op=some ⟨(ps.map fi).flatten,true⟩
  g7:op≠0
  gk:op≠1
  q5:op≠6
def IX(l:List Int)(i:Nat)(K:Int)(fE fF lI lJ gP:Value)(ps:List ih)(t:W):Prop:= ∃op,agw l i K fE fF lI lJ gP ps op t
def AU:List Nat:=[0,1,4,5]
theorem aep{l:List ih}:(l.map fi).flatten.length=l.length*17:=by rw[rG (I:=17) λr az=>by obtain⟨x,_,rfl⟩:=g4.1 az;rfl,jg]
theorem av7{l:List Int}(aD:l.length<=140737488355328){K:Int}{fE fF lI lJ gP:Value}{dn:Nat}(mB:dn<=100): ∀(r i:Nat) (ps:List ih),ps.length+r=dn->Bm ps dn->i+10*r+100<1000000->
    ∃ (Az:List ih) (dc:Nat),Bm Az dn/\Az.length=dn/\dc<=i+10*r/\ ∀(z:aM) (t:W) (Q:du->aM->W->Prop),z 0=cF 0->z 5=cF 6->z 14=Z r->IX l i K fE fF lI lJ gP ps t->
      (∀ae aJ,(∀s∈AU,ae s=z s)->IX l dc K fE fF lI lJ gP Az aJ->Q (.bh 4) ae aJ)->fl al (.loop G0) z t Q:=by
  intro r;induction r with
  | zero=>intro i ps au ai ak;refine⟨ps,i,ai,by omega,by omega,λz t Q cX ct AI jN bT=> ?_⟩;refine eu (aB:=⟨[lT,wC],[iY]⟩) λcx bk=> ?_;simp(disch:=first|omega|simp only[aW];omega) [G0,AI,-O,-U,-N,-S,-List.map_map];exact bT _ _ (λs M=>by simp only[AU,gT,iP,or_false]at M;rcases M with rfl|rfl|rfl|rfl<;>simp) jN
  | succ r cc=>
    intro i ps au ai ak;have mj:=kz (l:=l) (i:=i) (n:=2) (by decide);have fL:=kz (l:=l) (i:=i+1) (n:=3) (by decide);obtain⟨k,aa⟩: ∃k,1+e9 l i 2=k:=⟨_,rfl⟩;obtain⟨m,av⟩: ∃m,e9 l (i+1) 3=m:=⟨_,rfl⟩;rw[av]at fL;have g8:=kz (l:=l) (i:=i+2) (n:=m+1) (by omega);obtain⟨MU,bc⟩: ∃q,e9 l (i+2) (m+1)=q:=⟨_,rfl⟩;rw[bc]at g8;obtain⟨q,ajZ⟩: ∃q,k+MU=q:=⟨_,rfl⟩;have jt:=kz (l:=l) (i:=i+3) (n:=4) (by decide);obtain⟨dJ,aq⟩: ∃m,e9 l (i+3) 4=m:=⟨_,rfl⟩;rw[aq]at jt;have nm:=kz (l:=l) (i:=i+4) (n:=3) (by decide);obtain⟨j2,aE⟩: ∃m,e9 l (i+4) 3=m:=⟨_,rfl⟩;rw[aE]at nm;obtain⟨R,iA⟩: ∃R:Nat,(R:Int)=if m<1 then 1 else m:=⟨(if m<1 then 1 else m).toNat,by split<;>omega⟩
    have JX:R<=2:=(by split at iA<;>omega);have cY:IntKind.i64.wrap (1+e9 l i 2)=k:=(by rw[fx (by omega) (by omega)];exact aa);have nu:IntKind.i64.wrap (m+1)=m+1:=fx (by omega) (by omega);have af0:IntKind.i64.wrap (k+MU)=q:=(by rw[fx (by omega) (by omega)];exact ajZ);have gh:IntKind.i64.wrap (r:Int)=(r:Int):=fx (by omega) (by omega);have MV:(0:Int)<(r:Int)+1:=(by omega);have A0:((i:Int)+1).toNat=i+1:=(by omega);have NH:((i:Int)+1+1).toNat=i+2:=(by omega);have afw:((i:Int)+1+1+1).toNat=i+3:=(by omega);have afx:((i:Int)+1+1+1+1).toNat=i+4:=(by omega);have afy:((i:Int)+1+1+1+1+1).toNat=i+5:=(by omega);have jV:lT.fn [.int .u8 112,.int .i64 ((r:Int)+1)]=some (.string (jZ 112 (r+1))):=M7 (n:=r+1) (C:=112) rfl ⟨by decide,by omega⟩;have aLD:lY 1 1000:=(by unfold lY;omega);have aLE:lY 30 1:=(by unfold lY;omega);by_cases EF:e9 l (i+5) 5=0
    · skip
      obtain⟨Az,dc,dk,ev,gG,gH⟩:=cc (i+6) (ps++[⟨jZ 112 (r+1),k,m,q,⟨0,0,0,dJ,j2⟩,[0],List.replicate R (fp 1 2),fp 1 1000,fp 30 1⟩]) (by simp;omega) (ai.add (by have:dn-ps.length=r+1:=(by omega);rw[this];exact aen ⟨by omega,by omega⟩ ⟨by omega,by omega⟩ ⟨by omega,by omega⟩ ⟨by omega,by omega⟩ ⟨by omega,by omega⟩ (.inr rfl) iA)) (by omega);refine⟨Az,dc,dk,ev,by omega,λz t Q cX ct AI jN bT=> ?_⟩;obtain⟨op,⟨aO,aQ,fj,qN,g7,gk,q5⟩⟩:=jN;refine eu (aB:=⟨[lT,wC],[iY]⟩) λcx bk=> ?_;have fW:=bn aO;have jo:=bn aQ;have uA:=bn fj;have auR:=bn qN;simp(disch:=first|omega|simp only[aW];omega) [G0,RQ,RR,RS,RT,RU,RV,RW,cX,AI,MV,aO,lb,jV,dS,cY,nu,af0,av,bc,aq,aE,A0,NH,afw,afx,afy,EF,-O,-U,-N,-S,-List.map_map];refine aeI (P:=t.next+14) (oL:=t.next+16) (aT:=[0,1,6,op]) (gJ:=fQ (jZ 112 (r+1))) (bw:=Z k) (bJ:=Z m) (cb:=Z q) (eI:=Z 0) (fm:=Z 0) (hy:=Z 0) (jK:=Z dJ) (lo:=Z j2) (dA:= .bool (fp 1 1000).jR) (dk:=bM (fp 1 1000).a) (ev:=bM (fp 1 1000).b) (gG:= .bool (fp 30 1).jR) (gH:=bM (fp 30 1).a) (lp:=bM (fp 30 1).b) (gA:=[0]) (m:=m) (R:=R) iA (by omega) (by simp) (by simp) (by simp) (by simp(disch:=first|omega|simp only[aW];omega) [-O,-U,-N,-S,-List.map_map]) (by simp(disch:=first|omega|simp only[aW];omega) [-O,-U,-N,-S,-List.map_map]) (by omega) (λb hb=> ?_) λae aJ M G dY vv=> ?_
      · simp only[gT,iP,or_false]at hb;simp only[mg,Aq];omega
      have tf: ¬0=op:= λe=>g7 e.symm;have Dd: ¬1=op:= λe=>gk e.symm;have ad0: ¬6=op:= λe=>q5 e.symm;have h5:aJ.X 0=some ⟨[cn l,Z (i+6:Nat)],true⟩:=(dY 0 (by simp)).trans (by simp(disch:=first|omega|simp only[aW];omega) [-O,-U,-N,-S,-List.map_map];omega);have aK:aJ.X 1=some ⟨x9,true⟩:=(dY 1 (by simp)).trans (by simp(disch:=first|omega|simp only[aW];omega) [aQ,-O,-U,-N,-S,-List.map_map]);have kp:aJ.X 6=some ⟨[Z K,fE,fF,lI,lJ,ee op ps.length 17,gP],true⟩:=(dY 6 (by simp)).trans (by simp(disch:=first|omega|simp only[aW];omega) [fj,-O,-U,-N,-S,-List.map_map]);have EI:aJ.X op=some ⟨(ps.map fi).flatten,true⟩:=(dY op (by simp)).trans (by simp(disch:=first|omega|simp only[aW];omega) [qN,-O,-U,-N,-S,-List.map_map]);have mU:ae 0=cF 0:=(M 0 (by decide)).trans (by simp[cX]);have tE:ae 1=z 1:=(M 1 (by decide)).trans (by simp);have tF:ae 4=z 4:=(M 4 (by decide)).trans (by simp);have oh:ae 5=cF 6:=(M 5 (by decide)).trans (by simp[ct]);have UU:ae 14=Z ((r:Int)+1):=(M 14 (by decide)).trans (by simp[AI]);have IE:ae 17=cF (t.next+14):=(M 17 (by decide)).trans (by simp);clear M dY G;obtain⟨P,Ph⟩: ∃P,P=t.next+14:=⟨_,rfl⟩
      have oM:P≠0/\P≠1/\P≠6/\P≠op:=(by omega);rw[<-Ph]at vv IE;obtain⟨oM,fX,HI,pp⟩:=oM;have r3:=bn h5;have x5:=bn kp;have mp:=bn EI;have au0:=bn vv;have fC:=aep (l:=ps);have fO:(ps.length+1)*240<=140737488355328/\ps.length<=9223372036854775806:=(by omega);simp(disch:=first|omega|simp only[aW];omega) [oh,UU,IE,kp,EI,vv,fC,fO,gh,-O,-U,-N,-S,-List.map_map];refine bk _ _ (gH _ _ _ (by simp[mU]) (by simp[oh]) (by simp) ⟨aJ.next+4,?_,?_,?_,?_,by omega,by omega,by omega⟩ λu5 sf zr Fl=>bT u5 sf (λs fh=>(zr s fh).trans ?_) Fl)
      · simp(disch:=first|omega|simp only[aW];omega) [h5,-O,-U,-N,-S,-List.map_map]
      · simp(disch:=first|omega|simp only[aW];omega) [aK,-O,-U,-N,-S,-List.map_map]
      · simp(disch:=first|omega|simp only[aW];omega) [-O,-U,-N,-S,-List.map_map]
      · simp(disch:=first|omega|simp only[aW];omega) [-O,-U,-N,-S,-List.map_map];rw[jh (by omega)];simp[fi]
      · simp only[AU,gT,iP,or_false]at fh;rcases fh with rfl|rfl|rfl|rfl<;>simp[mU,tE,tF,oh,cX,ct]
    · skip
      obtain⟨Az,dc,dk,ev,gG,gH⟩:=cc (i+6) (ps++[⟨jZ 112 (r+1),k,m,q,⟨0,0,0,dJ,j2⟩,[0,1],List.replicate R (fp 1 2),fp 1 1000,fp 30 1⟩]) (by simp;omega) (ai.add (by have:dn-ps.length=r+1:=(by omega);rw[this];exact aen ⟨by omega,by omega⟩ ⟨by omega,by omega⟩ ⟨by omega,by omega⟩ ⟨by omega,by omega⟩ ⟨by omega,by omega⟩ (.inl rfl) iA)) (by omega);refine⟨Az,dc,dk,ev,by omega,λz t Q cX ct AI jN bT=> ?_⟩;obtain⟨op,⟨aO,aQ,fj,qN,g7,gk,q5⟩⟩:=jN;refine eu (aB:=⟨[lT,wC],[iY]⟩) λcx bk=> ?_;have fW:=bn aO;have jo:=bn aQ;have uA:=bn fj;have auR:=bn qN;simp(disch:=first|omega|simp only[aW];omega) [G0,RQ,RR,RS,RT,RU,RV,RW,cX,AI,MV,aO,lb,jV,dS,cY,nu,af0,av,bc,aq,aE,A0,NH,afw,afx,afy,EF,-O,-U,-N,-S,-List.map_map];refine aeI (P:=t.next+14) (oL:=t.next+10) (aT:=[0,1,6,op]) (gJ:=fQ (jZ 112 (r+1))) (bw:=Z k) (bJ:=Z m) (cb:=Z q) (eI:=Z 0) (fm:=Z 0) (hy:=Z 0) (jK:=Z dJ) (lo:=Z j2) (dA:= .bool (fp 1 1000).jR) (dk:=bM (fp 1 1000).a) (ev:=bM (fp 1 1000).b) (gG:= .bool (fp 30 1).jR) (gH:=bM (fp 30 1).a) (lp:=bM (fp 30 1).b) (gA:=[0,1]) (m:=m) (R:=R) iA (by omega) (by simp) (by simp) (by simp) (by simp(disch:=first|omega|simp only[aW];omega) [-O,-U,-N,-S,-List.map_map]) (by simp(disch:=first|omega|simp only[aW];omega) [-O,-U,-N,-S,-List.map_map]) (by omega) (λb hb=> ?_) λae aJ M G dY vv=> ?_
      · simp only[gT,iP,or_false]at hb;simp only[mg,Aq];omega
      have tf: ¬0=op:= λe=>g7 e.symm;have Dd: ¬1=op:= λe=>gk e.symm;have ad0: ¬6=op:= λe=>q5 e.symm;have h5:aJ.X 0=some ⟨[cn l,Z (i+6:Nat)],true⟩:=(dY 0 (by simp)).trans (by simp(disch:=first|omega|simp only[aW];omega) [-O,-U,-N,-S,-List.map_map];omega);have aK:aJ.X 1=some ⟨x9,true⟩:=(dY 1 (by simp)).trans (by simp(disch:=first|omega|simp only[aW];omega) [aQ,-O,-U,-N,-S,-List.map_map]);have kp:aJ.X 6=some ⟨[Z K,fE,fF,lI,lJ,ee op ps.length 17,gP],true⟩:=(dY 6 (by simp)).trans (by simp(disch:=first|omega|simp only[aW];omega) [fj,-O,-U,-N,-S,-List.map_map]);have EI:aJ.X op=some ⟨(ps.map fi).flatten,true⟩:=(dY op (by simp)).trans (by simp(disch:=first|omega|simp only[aW];omega) [qN,-O,-U,-N,-S,-List.map_map]);have mU:ae 0=cF 0:=(M 0 (by decide)).trans (by simp[cX]);have tE:ae 1=z 1:=(M 1 (by decide)).trans (by simp);have tF:ae 4=z 4:=(M 4 (by decide)).trans (by simp);have oh:ae 5=cF 6:=(M 5 (by decide)).trans (by simp[ct]);have UU:ae 14=Z ((r:Int)+1):=(M 14 (by decide)).trans (by simp[AI]);have IE:ae 17=cF (t.next+14):=(M 17 (by decide)).trans (by simp);clear M dY G;obtain⟨P,Ph⟩: ∃P,P=t.next+14:=⟨_,rfl⟩
      have oM:P≠0/\P≠1/\P≠6/\P≠op:=(by omega);rw[<-Ph]at vv IE;obtain⟨oM,fX,HI,pp⟩:=oM;have r3:=bn h5;have x5:=bn kp;have mp:=bn EI;have au0:=bn vv;have fC:=aep (l:=ps);have fO:(ps.length+1)*240<=140737488355328/\ps.length<=9223372036854775806:=(by omega);simp(disch:=first|omega|simp only[aW];omega) [oh,UU,IE,kp,EI,vv,fC,fO,gh,-O,-U,-N,-S,-List.map_map];refine bk _ _ (gH _ _ _ (by simp[mU]) (by simp[oh]) (by simp) ⟨aJ.next+4,?_,?_,?_,?_,by omega,by omega,by omega⟩ λu5 sf zr Fl=>bT u5 sf (λs fh=>(zr s fh).trans ?_) Fl)
      · simp(disch:=first|omega|simp only[aW];omega) [h5,-O,-U,-N,-S,-List.map_map]
      · simp(disch:=first|omega|simp only[aW];omega) [aK,-O,-U,-N,-S,-List.map_map]
      · simp(disch:=first|omega|simp only[aW];omega) [-O,-U,-N,-S,-List.map_map]
      · simp(disch:=first|omega|simp only[aW];omega) [-O,-U,-N,-S,-List.map_map];rw[jh (by omega)];simp[fi]
      · simp only[AU,gT,iP,or_false]at fh;rcases fh with rfl|rfl|rfl|rfl<;>simp[mU,tE,tF,oh,cX,ct]
def Bo(cj:List pV)(dn vd:Nat):Prop:= ∀(i:Nat) (x:pV),cj[i]?=some x->x.name=jZ 118 (dn-i)/\0<=x.pF/\x.pF<vd
theorem Bo.add{cj:List pV}{dn vd:Nat}{x:pV}(h:Bo cj dn vd)(G:x.name=jZ 118 (dn-cj.length)/\0<=x.pF/\x.pF<vd):Bo (cj++[x]) dn vd:= λi y ag=>by
  by_cases c:i<cj.length
  · rw[tH c]at ag;exact h i y ag
  · have aD:=(eB.1 ag).1;simp only[jI,pS,wT]at aD;have e:i=cj.length:=(by omega);subst e;rw[u0 (dW _)]at ag;simp at ag;subst ag;exact G
structure agD(l:List Int)(i:Nat)(K:Int)(fE fF lI lJ hY:Value)(cj:List pV)(qj:Nat)(t:W):Prop where
  aO:t.X 0=some ⟨[cn l,Z i],true⟩
  aQ:t.X 1=some ⟨x9,true⟩
  fj:t.X 6=some ⟨[Z K,fE,fF,lI,lJ,hY,ee qj cj.length 2],true⟩
  y4:t.X qj=some ⟨(cj.map hQ).flatten,true⟩
  g7:qj≠0
  gk:qj≠1
  q5:qj≠6
def Ob(l:List Int)(i:Nat)(K:Int)(fE fF lI lJ hY:Value)(cj:List pV)(t:W):Prop:= ∃qj,agD l i K fE fF lI lJ hY cj qj t
theorem aza{l:List pV}:(l.map hQ).flatten.length=l.length*2:=by rw[rG (I:=2) λr az=>by obtain⟨x,_,rfl⟩:=g4.1 az;rfl,jg]
theorem ay8{l:List Int}(aD:l.length<=140737488355328){K:Int}{fE fF lI lJ:Value}{ps:List ih}(aET:1<=ps.length/\ps.length<=1000){dn:Nat}(mB:dn<=1000): ∀(r i:Nat) (cj:List pV),cj.length+r=dn->Bo cj dn ps.length->i+r+100<1000000->
    ∃ (yA:List pV) (dc:Nat),Bo yA dn ps.length/\yA.length=dn/\dc<=i+r/\ ∀(z:aM) (t:W) (Q:du->aM->W->Prop),z 0=cF 0->z 5=cF 6->z 19=Z r->Ob l i K fE fF lI lJ (aw (ps.map fi) 17) cj t->
      (∀ae aJ,(∀s∈AU,ae s=z s)->Ob l dc K fE fF lI lJ (aw (ps.map fi) 17) yA aJ->Q (.bh 8) ae aJ)->fl al (.loop Lz) z t Q:=by
  intro r;induction r with
  | zero=>intro i cj au ai ak;refine⟨cj,i,ai,by omega,by omega,λz t Q cX ct jH jN bT=> ?_⟩;refine eu (aB:=⟨[lT],[iY]⟩) λcx bk=> ?_;simp(disch:=first|omega|simp only[aW];omega) [Lz,RY,jH,-O,-U,-N,-S,-List.map_map];exact bT _ _ (λs M=>by simp only[AU,gT,iP,or_false]at M;rcases M with rfl|rfl|rfl|rfl<;>simp) jN
  | succ r cc=>
    intro i cj au ai ak;have mj:=kz (l:=l) (i:=i) (n:=(ps.length:Int)) (by omega);obtain⟨y,ag⟩: ∃y,e9 l i (ps.length:Int)=y:=⟨_,rfl⟩;rw[ag]at mj;have gh:IntKind.i64.wrap (r:Int)=(r:Int):=fx (by omega) (by omega);have MV:(0:Int)<(r:Int)+1:=(by omega);have jV:lT.fn [.int .u8 118,.int .i64 ((r:Int)+1)]=some (.string (jZ 118 (r+1))):=M7 (n:=r+1) (C:=118) rfl ⟨by decide,by omega⟩;obtain⟨yA,dc,dk,ev,gG,gH⟩:=cc (i+1) (cj++[⟨jZ 118 (r+1),y⟩]) (by simp;omega) (ai.add (by have:dn-cj.length=r+1:=(by omega);rw[this];exact⟨rfl,mj⟩)) (by omega);refine⟨yA,dc,dk,ev,by omega,λz t Q cX ct jH jN bT=> ?_⟩;obtain⟨qj,⟨aO,aQ,fj,y4,g7,gk,q5⟩⟩:=jN;refine eu (aB:=⟨[lT],[iY]⟩) λcx bk=> ?_;have fW:=bn aO;have jo:=bn aQ;have uA:=bn fj;have gq:=bn y4;have tf: ¬0=qj:= λe=>g7 e.symm;have Dd: ¬1=qj:= λe=>gk e.symm;have ad0: ¬6=qj:= λe=>q5 e.symm;have fC:=aza (l:=cj);have fO:(cj.length+1)*24<=140737488355328/\cj.length<=9223372036854775806:=(by omega);simp(disch:=first|omega|simp only[aW];omega) [Lz,RY,cX,ct,jH,MV,aO,fj,y4,lb,jV,ag,fC,fO,gh,V5,adl,-O,-U,-N,-S,-List.map_map];refine bk _ _ (gH _ _ _ (by simp[cX]) (by simp[ct]) (by simp) ⟨t.next+11,?_,?_,?_,?_,by omega,by omega,by omega⟩ λu5 sf zr Fl=>bT u5 sf (λs fh=>(zr s fh).trans ?_) Fl)
    · simp(disch:=first|omega|simp only[aW];omega) [-O,-U,-N,-S,-List.map_map]
    · simp(disch:=first|omega|simp only[aW];omega) [aQ,-O,-U,-N,-S,-List.map_map]
    · simp(disch:=first|omega|simp only[aW];omega) [-O,-U,-N,-S,-List.map_map]
    · simp(disch:=first|omega|simp only[aW];omega) [-O,-U,-N,-S,-List.map_map];rw[jh (by omega)];simp[hQ]
    · simp only[AU,gT,iP,or_false]at fh;rcases fh with rfl|rfl|rfl|rfl<;>simp
theorem ahX{l:List gm}: ∀r∈l.map ef,r.length=7/\ ∀v∈r,gN v=true:= λr az=>by obtain⟨x,_,rfl⟩:=g4.1 az;exact⟨rfl,λv ad=>by simp[ef]at ad;rcases ad with rfl|rfl|rfl|rfl|rfl|rfl|rfl<;>rfl⟩
theorem ah3{l:List mu}: ∀r∈l.map gp,r.length=3/\ ∀v∈r,gN v=true:= λr az=>by obtain⟨x,_,rfl⟩:=g4.1 az;exact⟨rfl,λv ad=>by simp[gp]at ad;rcases ad with rfl|rfl|rfl<;>rfl⟩
theorem av9{l:List ih}: ∀r∈l.map fi,r.length=17/\ ∀v∈r,gN v=true:= λr az=>by obtain⟨x,_,rfl⟩:=g4.1 az;exact⟨rfl,λv ad=>by simp[fi]at ad;rcases ad with rfl|rfl|rfl|rfl|rfl|rfl|rfl|rfl|rfl|rfl|rfl|rfl|rfl|rfl|rfl|rfl|rfl<;>rfl⟩
theorem afO{l:List pV}: ∀r∈l.map hQ,r.length=2/\ ∀v∈r,gN v=true:= λr az=>by obtain⟨x,_,rfl⟩:=g4.1 az;exact⟨rfl,λv ad=>by simp[hQ]at ad;rcases ad with rfl|rfl<;>rfl⟩
theorem avl{l:List Bi}: ∀r∈l.map gO,r.length=4/\ ∀v∈r,gN v=true:= λr az=>by obtain⟨x,_,rfl⟩:=g4.1 az;exact⟨rfl,λv ad=>by simp[gO]at ad;rcases ad with rfl|rfl|rfl|rfl<;>rfl⟩
theorem auw{l:List hX}: ∀r∈l.map gZ,r.length=4/\ ∀v∈r,gN v=true:= λr az=>by obtain⟨x,_,rfl⟩:=g4.1 az;exact⟨rfl,λv ad=>by simp[gZ]at ad;rcases ad with rfl|rfl|rfl|rfl<;>rfl⟩
def AK:ByteArray:=⟨#[100,105,115,107]⟩
def H0:ByteArray:=⟨#[98,105,103]⟩
def H3:ByteArray:=⟨#[111,108,100]⟩
def s9(I:Int):hX:=⟨AK,[fp 1 1],[[fp 0 1]],[fp 1 I]⟩
def th:Value:= .slice none 0 0
structure agz(l:List Int)(i:Nat)(K I a b c d:Int)(t:W):Prop where
  aO:t.X 0=some ⟨[cn l,Z i],true⟩
  aQ:t.X 1=some ⟨x9,true⟩
  fj:t.X 6=some ⟨[Z K,ee 19 1 4,ee 36 2 4,ee 41 1 7,.slice none 0 0,.slice none 0 0,.slice none 0 0],true⟩
  BH:t.X 9=some ⟨dS (fp 1 1),true⟩
  WE:t.X 11=some ⟨dS (fp 0 1),true⟩
  WG:t.X 12=some ⟨[ee 11 1 3],true⟩
  WH:t.X 17=some ⟨dS (fp 1 I),true⟩
  WI:t.X 19=some ⟨[fQ AK,ee 9 1 3,ee 12 1 1,ee 17 1 3],true⟩
  WL:t.X 36=some ⟨[fQ H0,Z a,Z b,Z 0,fQ H3,Z c,Z d,Z 0],true⟩
  WM:t.X 41=some ⟨ef ⟨⟨#[]⟩,0,-1,0,fp 0 1⟩,true⟩
def te(a b c d:Int):List Bi:=[⟨H0,a,b,0⟩,⟨H3,c,d,0⟩]
theorem S2{x:bS}: ∀r∈[dS x],r.length=3/\ ∀v∈r,gN v=true:= λr az=>by simp at az;subst az;exact⟨rfl,λv ad=>by simp[dS]at ad;rcases ad with rfl|rfl|rfl<;>rfl⟩
theorem ayN{l:List Int}{i:Nat}{K I a b c d:Int}{w7:J}{z:aM}{t:W}{Q:du->aM->W->Prop}(h:agz l i K I a b c d t)(au:t.next=44)
    (bT: ∀aJ,kk l i K (aw ([s9 I].map gZ) 4) (aw ((te a b c d).map gO) 4) th th [⟨⟨#[]⟩,0,-1,0,fp 0 1⟩] [] aJ->fl al w7 z aJ Q):fl al w7 z t Q:=by
  obtain⟨aO,aQ,fj,BH,WE,WG,WH,WI,WL,WM⟩:=h;refine sj (o:=11) (p:=12) (j:=0) (I:=3) (a8:=[dS (fp 0 1)]) (by rw[WE];simp) S2 WG rfl (by decide) ?_;refine sj (o:=9) (p:=19) (j:=1) (I:=3) (a8:=[dS (fp 1 1)]) (cells:=[fQ AK,ee 9 1 3,ee 12 1 1,ee 17 1 3]) ?_ S2 ?_ rfl (by decide) ?_
  · rw[bW (by decide),bW (by decide),BH];simp
  · rw[bW (by decide),bW (by decide),WI]
  refine sj (o:=12) (p:=19) (j:=2) (I:=1) (a8:=[[hz [fp 0 1]]]) (cells:=[fQ AK,hz [fp 1 1],ee 12 1 1,ee 17 1 3]) ?_ ?_ ?_ rfl (by decide) ?_
  · rw[bW (by decide),bW (by decide),ej (by simp[au])];simp
  · intro r az;simp at az;subst az;exact⟨rfl,λv ad=>by simp at ad;subst ad;rfl⟩
  · rw[ej (by simp[au])];simp
  refine sj (o:=17) (p:=19) (j:=3) (I:=3) (a8:=[dS (fp 1 I)]) (cells:=[fQ AK,hz [fp 1 1],aw [[hz [fp 0 1]]] 1,ee 17 1 3]) ?_ S2 ?_ rfl (by decide) ?_
  · repeat rw[bW (by decide)]
    rw[WH];simp
  · rw[ej (by simp[au])];simp
  refine sj (o:=19) (p:=6) (j:=1) (I:=4) (a8:=[s9 I].map gZ) (cells:=[Z K,ee 19 1 4,ee 36 2 4,ee 41 1 7,.slice none 0 0,.slice none 0 0,.slice none 0 0]) ?_ auw ?_ rfl (by decide) ?_
  · rw[ej (by simp[au])];simp[gZ,s9]
  · repeat rw[bW (by decide)]
    rw[fj]
  refine sj (o:=36) (p:=6) (j:=2) (I:=4) (a8:=(te a b c d).map gO) (cells:=[Z K,aw ([s9 I].map gZ) 4,ee 36 2 4,ee 41 1 7,.slice none 0 0,.slice none 0 0,.slice none 0 0]) ?_ avl ?_ rfl (by decide) ?_
  · repeat rw[bW (by decide)]
    rw[WL];simp[gO,te]
  · rw[ej (by simp[au])];simp
  refine NS (o:=6) (j:=4) (I:=3) (cs:=[Z K,aw ([s9 I].map gZ) 4,aw ((te a b c d).map gO) 4,ee 41 1 7,.slice none 0 0,.slice none 0 0,.slice none 0 0]) ?_ rfl ?_
  · rw[ej (by simp[au])];simp
  refine bT _ ⟨41,44,⟨?_,?_,?_,?_,?_,by decide,by decide,by decide⟩⟩
  · simp only[mg,au];repeat rw[bW (by decide)]
    rw[e6 (by simp[au])];repeat rw[bW (by decide)]
    exact aO
  · simp only[mg,au];repeat rw[bW (by decide)]
    rw[e6 (by simp[au])];repeat rw[bW (by decide)]
    exact aQ
  · simp only[mg,au];rw[ej (by simp[au])];simp[th]
  · simp only[mg,au];repeat rw[bW (by decide)]
    rw[e6 (by simp[au])];repeat rw[bW (by decide)]
    rw[WM];simp
  · simp only[mg,au];rw[bW (by decide),ej (by simp[au])];simp
theorem av8{l:List Int}{i:Nat}{K:Int}{fE fF gP:Value}{ds:List gm}{cl:List mu}{w7:J}{z:aM}{t:W}{Q:du->aM->W->Prop}(h:kk l i K fE fF th gP ds cl t)
    (bT: ∀aJ,IX l i K fE fF (aw (ds.map ef) 7) (aw (cl.map gp) 3) gP [] aJ->fl al w7 z aJ Q):fl al w7 z t Q:=by
  obtain⟨h8,or,⟨aO,aQ,fj,rJ,iU,gk,hp,tg⟩⟩:=h;obtain⟨MF,SE,SF⟩:=gk;obtain⟨SG,adY,MG⟩:=hp;have fW:=bn aO;have jo:=bn aQ;have uA:=bn fj;refine sj (o:=h8) (p:=6) (j:=3) (I:=7) (a8:=ds.map ef) rJ ahX fj (by simp) SF ?_;refine sj (o:=or) (p:=6) (j:=4) (I:=3) (a8:=cl.map gp) (cells:=[Z K,fE,fF,aw (ds.map ef) 7,ee or cl.length 3,th,gP]) ?_ ah3 ?_ (by simp) MG ?_
  · rw[bW MG,bW (λe=>tg e.symm)];exact iU
  · rw[ej (by simpa using uA)];simp
  refine NS (o:=6) (j:=5) (I:=17) (cs:=[Z K,fE,fF,aw (ds.map ef) 7,aw (cl.map gp) 3,th,gP]) ?_ rfl ?_
  · rw[ej (by simpa using uA)];simp
  refine bT _ ⟨t.next,⟨?_,?_,?_,?_,by omega,by omega,by omega⟩⟩
  · simp only[mg];rw[bW (by decide),bW (by omega),e6 (by simp;omega),bW (by decide),bW (λe=>SG e.symm),bW (by decide),bW (λe=>MF e.symm)];exact aO
  · simp only[mg];rw[bW (by decide),bW (by omega),e6 (by simp;omega),bW (by decide),bW (λe=>adY e.symm),bW (by decide),bW (λe=>SE e.symm)];exact aQ
  · simp only[mg];rw[ej (by simp;omega)];simp
  · simp only[mg];rw[bW (by omega),ej (by simp)];simp
theorem ay9{l:List Int}{i:Nat}{K:Int}{fE fF lI lJ:Value}{ps:List ih}{w7:J}{z:aM}{t:W}{Q:du->aM->W->Prop}(h:IX l i K fE fF lI lJ th ps t)
    (bT: ∀aJ,Ob l i K fE fF lI lJ (aw (ps.map fi) 17) [] aJ->fl al w7 z aJ Q):fl al w7 z t Q:=by
  obtain⟨op,⟨aO,aQ,fj,qN,g7,gk,q5⟩⟩:=h;have fW:=bn aO;have jo:=bn aQ;have uA:=bn fj;refine sj (o:=op) (p:=6) (j:=5) (I:=17) (a8:=ps.map fi) qN av9 fj (by simp) q5 ?_;refine NS (o:=6) (j:=6) (I:=2) (cs:=[Z K,fE,fF,lI,lJ,aw (ps.map fi) 17,th]) ?_ rfl ?_
  · rw[ej (by simpa using uA)];simp
  refine bT _ ⟨t.next,⟨?_,?_,?_,?_,by omega,by omega,by omega⟩⟩
  · simp only[mg];rw[bW (by decide),bW (by omega),e6 (by simp;omega),bW (by decide),bW (λe=>g7 e.symm)];exact aO
  · simp only[mg];rw[bW (by decide),bW (by omega),e6 (by simp;omega),bW (by decide),bW (λe=>gk e.symm)];exact aQ
  · simp only[mg];rw[ej (by simp;omega)];simp
  · simp only[mg];rw[bW (by omega),ej (by simp)];simp
structure IS(u:bm)(kl:Int):Prop where
  ext:1<=u.ext/\u.ext<=2
  cH: ∃I,100<=I/\I<200/\u.cH=[s9 I]
  ME: ∃a b c d,(3<=a/\a<=4)/\(8<=b/\b<=16)/\(1<=c/\c<=3)/\(4<=d/\d<=12)/\u.bf=te a b c d
  a1:pU u.a1
  js:u.a1.length<=21
  a5:o5 u.a1 u.a5
  mh:1<=u.a5.length/\u.a5.length<=9
  we:1<=u.cI.length/\u.cI.length<=2
  cI:Bm u.cI u.cI.length
  wg:1<=u.cM.length/\(u.cM.length:Int)<=if kl<1 then 1 else kl
  cM:Bo u.cM u.cM.length u.cI.length
def mJ(l:List Int)(i:Nat):W:=(g6.dp 1).a0 0 (some ⟨[cn l,Z i],true⟩)
theorem ait{l:List Int}(aD:l.length<=140737488355328){i:Nat}(ak:i<500000){kl:Int}(BJ:kl<=100): ∃u dc,IS u kl/\dc<=i+200/\fA al 60 [cF 0,Z kl] (mJ l i) λv aJ=>DI.dO 9 aJ v=some (.agg (aU u).toArray)/\aJ.X 0=some ⟨[cn l,Z dc],true⟩/\0∉DI.ed 9 aJ v:=by
  have mj:=kz (l:=l) (i:=i) (n:=2) (by decide);have fL:=kz (l:=l) (i:=i+1) (n:=100) (by decide);have g8:=kz (l:=l) (i:=i+2) (n:=2) (by decide);have jt:=kz (l:=l) (i:=i+3) (n:=9) (by decide);have nm:=kz (l:=l) (i:=i+4) (n:=3) (by decide);have wu:=kz (l:=l) (i:=i+5) (n:=9) (by decide);have aHX:=kz (l:=l) (i:=i+6) (n:=3) (by decide);obtain⟨K,bQ⟩: ∃x,1+e9 l i 2=x:=⟨_,rfl⟩;obtain⟨I,bD⟩: ∃x,100+e9 l (i+1) 100=x:=⟨_,rfl⟩;obtain⟨a,ax⟩: ∃x,3+e9 l (i+2) 2=x:=⟨_,rfl⟩;obtain⟨b,hb⟩: ∃x,8+e9 l (i+3) 9=x:=⟨_,rfl⟩;obtain⟨c,ar⟩: ∃x,1+e9 l (i+4) 3=x:=⟨_,rfl⟩;obtain⟨d,ay⟩: ∃x,4+e9 l (i+5) 9=x:=⟨_,rfl⟩;obtain⟨ah,rM⟩:=k1 (show 0<=3+e9 l (i+6) 3 by omega);have azg:IntKind.i64.wrap (1+e9 l i 2)=K:=by rw[fx (by omega) (by omega)];exact bQ
  have azv:IntKind.i64.wrap (100+e9 l (i+1) 100)=I:=by rw[fx (by omega) (by omega)];exact bD
  have azk:IntKind.i64.wrap (3+e9 l (i+2) 2)=a:=by rw[fx (by omega) (by omega)];exact ax
  have afQ:IntKind.i64.wrap (8+e9 l (i+3) 9)=b:=by rw[fx (by omega) (by omega)];exact hb
  have Us:IntKind.i64.wrap (1+e9 l (i+4) 3)=c:=by rw[fx (by omega) (by omega)];exact ar
  have wN:IntKind.i64.wrap (4+e9 l (i+5) 9)=d:=by rw[fx (by omega) (by omega)];exact ay
  have azh:IntKind.i64.wrap (3+e9 l (i+6) 3)=(ah:Int):=by rw[fx (by omega) (by omega)];exact rM
  have n9:pU [⟨⟨#[]⟩,0,-1,0,fp 0 1⟩]:=⟨rfl,λk x aa G=>by have:=(eB.1 G).1;simp at this;omega⟩;obtain⟨ds,cl,ku,bg,dH,mf,wa,Da,x5⟩:=au2 (l:=l) aD (K:=K) (fE:=aw ([s9 I].map gZ) 4) (fF:=aw ((te a b c d).map gO) 4) (hY:=th) (gP:=th) (ah:=ah) (by omega) ah 0 (i+7) [⟨⟨#[]⟩,0,-1,0,fp 0 1⟩] [] 0 0 (by omega) n9 (λk x G=>by simp at G) (by simp) (by simp) (by omega) (.inl rfl);have aHY:=kz (l:=l) (i:=ku) (n:=2) (by decide);obtain⟨vd,aiY⟩:=k1 (show 0<=1+e9 l ku 2 by omega);have azi:IntKind.i64.wrap (1+e9 l ku 2)=(vd:Int):=by rw[fx (by omega) (by omega)];exact aiY
  obtain⟨ps,lx,fX,g1,hL,jb⟩:=av7 (l:=l) aD (K:=K) (fE:=aw ([s9 I].map gZ) 4) (fF:=aw ((te a b c d).map gO) 4) (lI:=aw (ds.map ef) 7) (lJ:=aw (cl.map gp) 3) (gP:=th) (dn:=vd) (by omega) vd (ku+1) [] (by simp) (λk x G=>by simp at G) (by omega);have aHZ:0<=e9 l lx kl/\e9 l lx kl<if kl<1 then 1 else kl:=by
    by_cases Oo:kl<1
    · rw[if_pos Oo];have:e9 l lx kl=0:=SC Oo;omega
    · rw[if_neg Oo];exact kz (by omega)
  have aH0:(if kl<1 then 1 else kl)<=100:=by split<;>omega
  obtain⟨N8,aiZ⟩:=k1 (show 0<=1+e9 l lx kl by omega);have azj:IntKind.i64.wrap (1+e9 l lx kl)=(N8:Int):=by rw[fx (by omega) (by omega)];exact aiZ
  obtain⟨cj,P5,A5,uW,tA,wM⟩:=ay8 (l:=l) aD (K:=K) (fE:=aw ([s9 I].map gZ) 4) (fF:=aw ((te a b c d).map gO) 4) (lI:=aw (ds.map ef) 7) (lJ:=aw (cl.map gp) 3) (ps:=ps) (by omega) (dn:=N8) (by omega) N8 (lx+1) [] (by simp) (λk x G=>by simp at G) (by omega);have JU:1<=K/\K<=2:=by omega
  refine⟨⟨K,[s9 I],te a b c d,ds,cl,ps,cj⟩,P5,⟨JU,⟨I,by omega,by omega,rfl⟩,⟨a,b,c,d,by omega,by omega,by omega,by omega,rfl⟩,bg,by simp only;omega,dH,⟨mf.2 (by omega),mf.1⟩,by simp only;omega,by simp only[g1];exact fX,by simp only;omega,by simp only[uW];exact A5⟩,by omega,?_⟩;refine dM (aB:=⟨[lT,wC],[iY]⟩) ase (by kernel_rfl) (by simp[RO]) ?_;have aLC:lY 1 1:=by unfold lY;omega
  have aLB:=afc;have aLF:lY 1 I:=by unfold lY;omega
  have iH:((i:Int)+1+1).toNat=i+2:=by omega
  have NA:((i:Int)+1+1+1).toNat=i+3:=by omega
  have afs:((i:Int)+1+1+1+1).toNat=i+4:=by omega
  have aft:((i:Int)+1+1+1+1+1).toNat=i+5:=by omega
  have wJ:((i:Int)+1+1+1+1+1+1).toNat=i+6:=by omega
  simp(disch:=first|omega|simp only[aW];omega) [RO,aci,acj,acn,acq,acr,acs,acu,acv,mJ,lb,iH,NA,afs,aft,wJ,azg,azv,azk,afQ,Us,wN,azh,dS,-O,-U,-N,-S,-List.map_map];refine ayN (l:=l) (i:=i+7) (K:=K) (I:=I) (a:=a) (b:=b) (c:=c) (d:=d) ⟨by simp(disch:=first|omega|simp only[aW];omega) [-O,-U,-N,-S,-List.map_map];omega,by simp(disch:=first|omega|simp only[aW];omega) [x9,-O,-U,-N,-S,-List.map_map],by simp(disch:=first|omega|simp only[aW];omega) [-O,-U,-N,-S,-List.map_map],by simp(disch:=first|omega|simp only[aW];omega) [dS,-O,-U,-N,-S,-List.map_map],by simp(disch:=first|omega|simp only[aW];omega) [dS,-O,-U,-N,-S,-List.map_map],by simp(disch:=first|omega|simp only[aW];omega) [-O,-U,-N,-S,-List.map_map],by simp(disch:=first|omega|simp only[aW];omega) [dS,-O,-U,-N,-S,-List.map_map],by simp(disch:=first|omega|simp only[aW];omega) [AK,-O,-U,-N,-S,-List.map_map],by simp(disch:=first|omega|simp only[aW];omega) [H0,H3,-O,-U,-N,-S,-List.map_map],by simp(disch:=first|omega|simp only[aW];omega) [ef,-O,-U,-N,-S,-List.map_map]⟩ (by simp) λbF D=> ?_;refine x5 _ bF _ (by simp) (by simp) (by simp) (by simp) (by simp) (by simp) D λdj aLO hB rR=> ?_;have UX:dj 0=cF 0:=(hB 0 (by decide)).trans (by simp);have az2:dj 1=Z kl:=(hB 1 (by decide)).trans (by simp);have az3:dj 4=cF 1:=(hB 4 (by decide)).trans (by simp);have agm:dj 5=cF 6:=(hB 5 (by decide)).trans (by simp);clear hB;have ajX:=rR;obtain⟨h8,or,ajy⟩:=rR;have a7:=ajy.aO;have jq:=bn a7;simp(disch:=first|omega|simp only[aW];omega) [acm,UX,a7,lb,azi,-O,-U,-N,-S,-List.map_map];refine av8 (kk.at ajX (dc:=ku+1) (by omega)) λayA aq=> ?_;refine jb _ ayA _ (by simp[UX]) (by simp[agm]) (by simp) aq λwW aLP zu ajz=> ?_;have UY:wW 0=cF 0:=(zu 0 (by decide)).trans (by simp[UX]);have az4:wW 1=Z kl:=(zu 1 (by decide)).trans (by simp[az2]);have az5:wW 4=cF 1:=(zu 4 (by decide)).trans (by simp[az3]);have agn:wW 5=cF 6:=(zu 5 (by decide)).trans (by simp[agm]);clear zu;obtain⟨op,⟨aO,aQ,fj,qN,g7,gk,q5⟩⟩:=ajz;have adt:=bn aO;simp(disch:=first|omega|simp only[aW];omega) [aco,UY,az4,aO,lb,azj,-O,-U,-N,-S,-List.map_map];refine ay9 (l:=l) (i:=lx+1) (K:=K) (fE:=aw ([s9 I].map gZ) 4) (fF:=aw ((te a b c d).map gO) 4) (lI:=aw (ds.map ef) 7) (lJ:=aw (cl.map gp) 3) (ps:=ps) ⟨op,⟨by simp(disch:=first|omega|simp only[aW];omega) [-O,-U,-N,-S,-List.map_map],by simp(disch:=first|omega|simp only[aW];omega) [aQ,-O,-U,-N,-S,-List.map_map],by simp(disch:=first|omega|simp only[aW];omega) [fj,-O,-U,-N,-S,-List.map_map],by simp(disch:=first|omega|simp only[aW];omega) [qN,-O,-U,-N,-S,-List.map_map],g7,gk,q5⟩⟩ λayB aE=> ?_;refine wM _ ayB _ (by simp[UY]) (by simp[agn]) (by simp) aE λN6 aLQ Kd ajA=> ?_;have aNv:N6 0=cF 0:=(Kd 0 (by decide)).trans (by simp[UY]);have az6:N6 4=cF 1:=(Kd 4 (by decide)).trans (by simp[az5]);have az7:N6 5=cF 6:=(Kd 5 (by decide)).trans (by simp[agn]);clear Kd;obtain⟨qj,⟨aO,aQ,fj,y4,g7,gk,q5⟩⟩:=ajA;have fW:=bn aO;have jo:=bn aQ;have uA:=bn fj;have gq:=bn y4;have aiN: ∀tt:W,tt.X qj=some ⟨(cj.map hQ).flatten,true⟩->DI.dO 8 tt (ee qj cj.length 2)=some (aw (cj.map hQ) 2):= λtt h=>sG (n:=7) h (by simp) afO;simp(disch:=first|omega|simp only[aW];omega) [acp,az6,az7,aQ,fj,x9,-O,-U,-N,-S,-List.map_map];refine⟨?_,aO,?_⟩
  · rw[aiN _ (by rw[bW gk];exact y4)];simp[aU]
  · rw[awy,bW gk,y4];simp only[gT,tK,List.mem_flatten];rintro(e|⟨v,⟨r,sR,ad⟩,G⟩)
    · exact g7 e.symm
    · rw[DI.yh ((afO r sR).2 v ad)]at G;cases G
theorem adL:(fp 0 1).cY:=by unfold bS.cY;decide
theorem avd:(fp 1 2).cY:=by unfold bS.cY;decide
theorem ave:(fp 1 1000).cY:=by unfold bS.cY;decide
theorem avf:(fp 30 1).cY:=by unfold bS.cY;decide
theorem avC(c:Nat)(ar:c=100\/c=110\/c=112\/c=118): ∀n:Fin 60,eJ (jZ c n.val):=by rcases ar with rfl|rfl|rfl|rfl<;>(unfold eJ;decide+kernel)
theorem SJ:eJ AK/\eJ H0/\eJ H3:=by unfold eJ;decide+kernel
theorem avB{c l1:Nat}(ar:c<256)(nA:l1<256){n g0:Nat}(au:n<60)(xu:g0<60)(h:jZ c n=jZ l1 g0):c=l1/\n=g0:=by simp only[jZ,ByteArray.mk.injEq]at h;have cR:=congrArg (λa:Array UInt8=>(a.toList.map UInt8.toNat)) h;simp at cR;omega
theorem Ui{l:List ByteArray}{c f:Nat->Nat}(h: ∀(i:Nat) x,l[i]?=some x->x=jZ (c i) (f i)/\(c i=100\/c i=110\/c i=112\/c i=118)/\f i<60)(inj: ∀i j,i<j->j<l.length-> ¬(c i=c j/\f i=f j)):eh l=true:=by
  unfold eh;rw[aY,eQ];refine⟨λx G=> ?_,decide_eq_true (A7.2 λi j ak b1 zb e=> ?_)⟩
  · obtain⟨i,ak,rfl⟩:=mq G;obtain⟨a,b,d⟩:=h i _ (dD ak);rw[a];exact At (avC (c i) b ⟨f i,d⟩)
  · obtain⟨a,b,d⟩:=h i _ (dD ak);obtain⟨dF,ca,ot⟩:=h j _ (dD b1);rw[a,dF]at e;exact inj i j zb b1 (avB (by omega) (by omega) d ot e)
theorem ayS{a b:ByteArray}(ax:eJ a)(hb:eJ b)(h:a≠b):eh [a,b]=true:=by unfold eh;simp[At ax,At hb,h]
theorem ayR{a:ByteArray}(ax:eJ a):eh [a]=true:=by unfold eh;simp[At ax]
theorem m9{x a b:Int}(D:a<=x)(H:x<=b):dE x a b=true:=sY.2 ⟨D,H⟩
theorem awq:n8 (fp 1 2)=true/\(fp 1 1000).bA.small=true/\oH (fp 1 1000).bA=true/\(fp 30 1).bA.small=true:=by decide
theorem av5{x:ih}{n:Nat}(h:IY x n):ie x 2=true/\ih.fD x:=by
  obtain⟨eJ,⟨ec,gY⟩,⟨bg,dH⟩,⟨a3,br⟩,⟨pL,qs,qt,aK7,aK8,aK9,aLa⟩,gA,⟨R,iA,jF⟩,oV,fo⟩:=h;obtain⟨fL,jt,nm,wu⟩:=awq;constructor
  · unfold ie;simp only[aY];refine⟨?_,?_,?_,?_,?_⟩
    · unfold ld;simp only[aY,eO];exact⟨m9 ec (by omega),m9 bg (by omega),by omega,m9 a3 br,pL,m9 (by omega) (by omega),m9 (by omega) (by omega),m9 (by omega) (by omega),m9 (by omega) (by omega),m9 (by omega) (by omega)⟩
    · rcases gA with e|e<;>rw[e]<;>rfl
    · unfold nn;simp only[aY,eO,eQ];rw[jF,oV,fo];refine⟨?_,λy ag=> ?_,jt,nm,wu⟩
      · rw[List.length_replicate,iA]
      · rw[List.eq_of_mem_replicate ag];exact fL
    · rcases gA with e|e<;>rw[e]<;>decide
    · rcases gA with e|e<;>rw[e]<;>decide
  · refine⟨⟨λy ag=> ?_,?_⟩,by rw[oV];exact ave,by rw[fo];exact avf,by rcases gA with e|e<;>rw[e]<;>decide⟩
    · rw[jF]at ag;rw[List.eq_of_mem_replicate ag];exact avd
    · rw[jF,List.length_replicate];have:R<=2:=(by split at iA<;>omega);omega
theorem au4{ds:List gm}(h:pU ds):nz ds=true:=by
  have M:(fp 0 1).bA.small=true/\ ¬0<(fp 0 1).bA.n:=by decide
  have az:=h.n9;cases ay:ds with
  |nil=>rw[ay]at az;cases az
  | cons R l=>
    rw[ay]at az;simp at az;unfold nz;simp only[aY,eQ,qz];constructor
    · rw[az];simp[nM,M.1,M.2]
    · intro i ak;rw[dD ak];obtain⟨bw,bJ,cb,⟨q,dk,ev⟩,fm,hy,jK,lo,tT⟩:=h.kn (i+1) l[i] (by omega) (by rw[ay,DY];exact dD ak);rw[ay]at dk;simp only[kK,aY];refine⟨m9 bJ (by omega),?_,m9 fm hy,m9 jK lo,by rw[tT];exact M.1⟩;unfold Ai;rw[dk];exact decide_eq_true ev
theorem adC{u:bm}{kl:Int}(h:IS u kl)(BJ:kl<=12):fT u:=by
  obtain⟨ext,⟨I,tE,UW,cH⟩,⟨a,b,c,d,ax,hb,ar,vA,ME⟩,a1,js,a5,mh,we,cI,wg,cM⟩:=h;have J8:u.cM.length<=12:=by have:=wg.2;split at this<;>omega
  have vC:u.bf.length=2:=by rw[ME];rfl
  have BQ:u.cH.length=1:=by rw[cH];rfl
  have aEF:=a1.Ay;have bD:lY 1 I:=by unfold lY;omega
  have aeo: ∀x∈u.cI,ie x 2=true/\ih.fD x:= λx G=>by obtain⟨i,ak,rfl⟩:=mq G;exact av5 (cI i _ (dD ak))
  have akd:gg u=true:=by
    unfold gg;simp only[aY,eO];refine⟨m9 ext.1 (by omega),by omega,by omega,by omega,by omega,by omega,J8,au4 a1,?_,?_,?_,?_,?_,?_,?_,?_,?_,?_⟩
    · rw[cH];rfl
    · rw[ME,BQ];simp only[te,mW,List.all_nil,Bool.and_true,aY,ky];exact⟨⟨m9 (by omega) (by omega),m9 (by omega) (by omega),by decide⟩,m9 (by omega) (by omega),m9 (by omega) (by omega),by decide⟩
    · rw[eQ];intro x G;obtain⟨i,ak,rfl⟩:=mq G;obtain⟨bw,bJ,cb,m,e,f⟩:=a5 i _ (dD ak);have:=f.c2;unfold ko;simp only[aY];refine⟨m9 bJ (by omega),m9 (by omega) (by omega),?_⟩;obtain⟨q,dk,ev⟩:=f;unfold Al;rw[e,pR,dk];exact decide_eq_true ev
    · rw[eQ,vC];exact λx G=>(aeo x G).1
    · rw[eQ];intro x G;obtain⟨i,ak,rfl⟩:=mq G;obtain⟨bw,bJ,cb⟩:=cM i _ (dD ak);exact m9 bJ (by omega)
    · rw[cH];exact ayR SJ.1
    · rw[ME];exact ayS SJ.2.1 SJ.2.2 (show H0≠H3 by decide)
    · refine Ui (c:= λi=>if i<u.a1.length-1 then 110 else 100) (f:= λi=>if i<u.a1.length-1 then i+1 else i-(u.a1.length-1)) (λi x G=> ?_) (λi j zb b1=> ?_)
      · by_cases Oy:i<u.a1.length-1
        · rw[tH (by simp;exact Oy),qy,List.getElem?_tail]at G;simp only[if_pos Oy];obtain⟨rA,aK,aR⟩:=rn.1 G;rw[<-aR];exact⟨(a1.kn (i+1) rA (by omega) aK).1,by simp,by omega⟩
        · rw[u0 (by simp;omega)]at G;simp only[jg,List.length_tail,qy]at G;simp only[if_neg Oy];obtain⟨rA,aK,aR⟩:=rn.1 G;rw[<-aR];have aD:=(eB.1 aK).1;exact⟨(a5 _ rA aK).1,by simp,by omega⟩
      · split<;>split<;>omega
    · refine Ui (c:= λ_=>112) (f:= λi=>u.cI.length-i) (λi x G=> ?_) (λi j zb b1=> ?_)
      · rw[qy]at G;obtain⟨rA,aK,aR⟩:=rn.1 G;rw[<-aR];exact⟨(cI i rA aK).eJ,by simp,by omega⟩
      · simp at b1;omega
    · refine Ui (c:= λ_=>118) (f:= λi=>u.cM.length-i) (λi x G=> ?_) (λi j zb b1=> ?_)
      · rw[qy]at G;obtain⟨rA,aK,aR⟩:=rn.1 G;rw[<-aR];exact⟨(cM i rA aK).1,by simp,by omega⟩
      · simp at b1;omega
  refine⟨avT akd,⟨λx G=> ?_,λx G=> ?_,λx G=>(aeo x G).2,by omega,by omega,by omega,by omega,by omega,by omega⟩⟩
  · rw[cH]at G;simp at G;subst G;exact⟨I,by omega,UW,rfl,rfl,rfl⟩
  · obtain⟨i,ak,rfl⟩:=mq G;cases i with
    | zero=>have:=a1.n9;rw[dD ak]at this;rw[Option.some.inj this];exact adL
    | succ i=>rw[(a1.kn (i+1) _ (by omega) (dD ak)).2.2.2.2.2.2.2.2];exact adL
theorem agu{u:bm}(h:k2 u){v:Nat}(ad:v<u.cM.length):bK al 101 [.agg (aU u).toArray,Z v] (Z (p6 u v)):=by
  refine et (dM (aB:=⟨[],[]⟩) akA (by kernel_rfl) (by simp[Qc]) ?_);obtain⟨x,p,q,G,ai,k9,bc,a6,D,H,aq⟩:=Wv h ad;have e8:=(eB.1 G).2;have ajY:=(eB.1 bc).2;have bY:(v:Int)<u.cM.length:=by omega
  have a3:(p:Int)<u.cI.length:=by omega
  have bZ:IntKind.i64.wrap (q.k+q.m)=q.k+q.m:=fx (by omega) (by omega);rw[a6];simp(disch:=first|omega|simp only[DI.ab];omega) [Qc,X5,X6,X7,aU,hQ,fi,bY,a3,e8,ai,ajY,bZ,-O,-U,-N,-S,-List.map_map]
noncomputable def wD(u:bm)(h:k2 u):bE al:= .dR 101 Nat (λv=>v<u.cM.length) (λv=>[.agg (aU u).toArray,Z v]) (λv=>Z (p6 u v)) λv ad=>agu h ad
@[simp] theorem aJa{u:bm}{h:k2 u}:(wD u h).f=101:=rfl
@[simp] theorem aJb{u:bm}{h:k2 u}{v:Nat}(ad:v<u.cM.length):(wD u h).fn [.agg #[Z u.ext,aw (u.cH.map gZ) 4,aw (u.bf.map gO) 4,aw (u.a1.map ef) 7,aw (u.a5.map gp) 3,aw (u.cI.map fi) 17,aw (u.cM.map hQ) 2],Z v]=some (Z (p6 u v)):=bE.eH (x:=v) ad λy ag=>by simp at ag⊢;omega
theorem avc{l:List Int}{x:Int}(aD:l.length<=1000000):bK al 102 [cn l,Z x] (.bool (decide (x∈l))):=by
  refine et (dM (aB:=⟨[],[]⟩) akB (by kernel_rfl) (by simp[Qd]) ?_);simp(disch:=first|omega|simp only[DI.ab];omega) [Qd,X8,X9,-O,-U,-N,-S,-List.map_map];refine h4 (aB:=⟨[],[]⟩) (λi z t=>(∀j (b1:j<l.length),j<i-> ¬l[j]=x)/\z 0=cn l/\z 1=Z x/\z 5=Z i) l.length ?_ ?_ 0 _ _ (hx _) ⟨λj b1 h=>absurd h (Nat.not_lt_zero _),by simp,by simp,by simp⟩
  · rintro i z t ak ⟨jU,cX,bl,ct⟩ cx bk;obtain⟨y,G⟩:=jz ak;have e8:=(eB.1 G).2;have bY:(i:Int)<l.length:=(by omega);have bZ:=g3 (n:=i) (by omega);by_cases c:y=x
    · have e:x∈l:=(by rw[<-c,<-e8];exact nv ak);simp(disch:=first|omega|simp only[DI.ab];omega) [Kl,FI,FJ,cX,bl,ct,bY,e8,eq_true c,e,-O,-U,-N,-S,-List.map_map]
    · simp(disch:=first|omega|simp only[DI.ab];omega) [Kl,FI,FJ,cX,bl,ct,bY,e8,c,bZ,-O,-U,-N,-S,-List.map_map];refine bk _ _ ⟨λj b1 Xi=> ?_,by simp[cX],by simp[bl],by simp⟩;by_cases e:j=i
      · subst e;rw[e8];exact c
      · exact jU j b1 (by omega)
  · rintro z t ⟨jU,cX,bl,ct⟩;have e:x∉l:= λav=>by
      obtain⟨j,b1,e⟩:=mq av;exact jU j b1 b1 e
    simp(disch:=first|omega|simp only[DI.ab];omega) [Kl,FI,FJ,FJ,FI,cX,ct,e,-O,-U,-N,-S,-List.map_map]
noncomputable def sc:bE al:= .dR 102 (List Int×Int) (λx=>x.1.length<=1000000) (λx=>[cn x.1,Z x.2]) (λx=> .bool (decide (x.2∈x.1))) λ_ h=>avc h
@[simp] theorem aI8:sc.f=102:=rfl
@[simp] theorem aI9{l:List Int}{x:Int}(h:l.length<=1000000):sc.fn [aw (l.map λx=>[Z x]) 1,Z x]=some (.bool (decide (x∈l))):=bE.eH (x:=(l,x)) h λ⟨og,kD⟩ ag=>by simpa using ag
def agB(t aJ:W):Prop:=aJ.next=t.next/\ ∀b,aJ.X b=t.X b
def Nw:List Nat:=[0,1,3,4,5,6,7,8]
theorem auy{u:bm}(kt:u.a5.length<=24){cJ:List Int}(qX:cJ.length<=1000): ∀(r k d:Nat),k+r=u.a5.length->d<u.a5.length-> ∃ot:Nat,ot<u.a5.length/\ ∀(z:aM) (t:W) (Q:du->aM->W->Prop) (BB or:Nat),z 3=cF BB->z 7=ee or cJ.length 1->z 9=Z d->z 10=Z k->t.X BB=some ⟨aU u,true⟩->t.X or=some ⟨cJ.map Z,true⟩->
    (∀ae aJ,(∀s∈Nw,ae s=z s)->ae 9=Z ot->agB t aJ->Q (.bh 4) ae aJ)->fl al (.loop GV) z t Q:=by
  intro r;induction r with
  | zero=>intro k d aa ay;refine⟨d,ay,λz t Q BB or dJ eV gD j1 h1 bd bT=> ?_⟩;refine eu (aB:=⟨[sc],[iY]⟩) λcx bk=> ?_;have v8:=bn h1;have c: ¬(k:Int)<u.a5.length:=(by omega);have ch: ¬k<u.a5.length:=(by omega);simp(disch:=first|omega|simp only[DI.ab];omega) [GV,Lv,dJ,j1,h1,aU,c,-O,-U,-N,-S,-List.map_map];refine bT _ _ (λs M=>by simp only[Nw,gT,iP,or_false]at M;rcases M with rfl|rfl|rfl|rfl|rfl|rfl|rfl|rfl<;>simp) (by simp[gD]) ⟨rfl,λ_=>rfl⟩
  | succ r cc=>
    intro k d aa ay;have BD: ∀(t:W) (or:Nat),t.X or=some ⟨cJ.map Z,true⟩->DI.dO 9 t (ee or cJ.length 1)=some (cn cJ):= λt or h=>sG (n:=8) (by rw[qZ];exact h) (by simp) sZ;have c:(k:Int)<u.a5.length:=(by omega);have ch:k<u.a5.length:=(by omega);have aj3:cJ.length<=1000000:=(by omega);by_cases Bw:(d:Int)∈cJ
    case neg=>refine⟨d,ay,λz t Q BB or dJ eV gD j1 h1 bd bT=> ?_⟩;refine eu (aB:=⟨[sc],[iY]⟩) λcx bk=> ?_;have v8:=bn h1;have bD:=BD t or bd;simp(disch:=first|omega|simp only[DI.ab];omega) [GV,Lv,dJ,eV,gD,j1,h1,aU,c,bD,Bw,-O,-U,-N,-S,-List.map_map];refine bT _ _ (λs M=>by simp only[Nw,gT,iP,or_false]at M;rcases M with rfl|rfl|rfl|rfl|rfl|rfl|rfl|rfl<;>simp) (by simp[gD]) ⟨by simp,λ_=>by simp⟩
    have c3:=g3 (n:=d) (by omega);have e3:=g3 (n:=k) (by omega);obtain⟨hd,Pt⟩: ∃hd:Nat,((d:Int)+1).tmod u.a5.length=hd/\hd<u.a5.length:=(by have D:=Int.tmod_lt_of_pos ((d:Int)+1) (show(0:Int)<u.a5.length by omega);have H:=Int.tmod_nonneg (a:=(d:Int)+1) (u.a5.length:Int) (by omega);obtain⟨x,G⟩:=k1 H;exact⟨x,G,by omega⟩);obtain⟨ot,bw,bJ⟩:=cc (k+1) hd (by omega) Pt.2;refine⟨ot,bw,λz t Q BB or dJ eV gD j1 h1 bd bT=> ?_⟩;refine eu (aB:=⟨[sc],[iY]⟩) λcx bk=> ?_;have v8:=bn h1;have bD:=BD t or bd;have aR:=Pt.1;have nh: ¬u.a5.length=0:=(by omega);simp(disch:=first|omega|simp only[DI.ab];omega) [GV,Lv,dJ,eV,gD,j1,h1,aU,c,bD,Bw,c3,e3,aR,nh,-O,-U,-N,-S,-List.map_map];refine bk _ _ (bJ _ _ Q BB or (by simp[dJ]) (by simp[eV]) (by simp) (by simp) (by simpa[aU]using h1) (by simpa using bd) λae aJ M iz fh=>bT ae aJ (λs fI=>(M s fI).trans ?_) iz ⟨by rw[fh.1];simp,λb=>by rw[fh.2 b];simp⟩);simp only[Nw,gT,iP,or_false]at fI;rcases fI with rfl|rfl|rfl|rfl|rfl|rfl|rfl|rfl<;>simp
def Ih:List Nat:=[0,3,4,5,6]
def IU(u:bm)(cJ:List Int):Prop:= ∀y∈cJ,-1<=y/\y<u.a5.length
theorem auz{l:List Int}(aD:l.length<=140737488355328){u:bm}(h:fT u)(kt:1<=u.a5.length){v:Nat}(ad:v<u.cM.length): ∀(r:Nat) (cJ:List Int) (i:Nat),(cJ.length:Int)+r=p6 u v->IU u cJ->i+2*r+10<1000000->
    ∃ (tp:List Int) (dc:Nat),(tp.length:Int)=p6 u v/\IU u tp/\dc<=i+2*r/\ ∀(z:aM) (t:W) (Q:du->aM->W->Prop) (or:Nat) (aT:List Nat),z 0=cF 0->z 3=cF 1->z 6=Z v->z 7=ee or cJ.length 1->z 8=Z cJ.length->
      t.X 0=some ⟨[cn l,Z i],true⟩->t.X 1=some ⟨aU u,true⟩->t.X or=some ⟨cJ.map Z,true⟩->or≠0->or≠1->(∀b∈aT,b≠0/\b≠or/\b<t.next)->
      (∀ae aJ HF,(∀s∈Ih,ae s=z s)->ae 7=ee HF tp.length 1->aJ.X 0=some ⟨[cn l,Z dc],true⟩->aJ.X 1=some ⟨aU u,true⟩->aJ.X HF=some ⟨tp.map Z,true⟩->HF≠0->HF≠1->(∀b∈aT,b≠HF/\aJ.X b=t.X b)->t.next<=aJ.next->Q (.bh 2) ae aJ)->fl al (.loop CE) z t Q:=by
  have fe:=Ww h.ok ad;have ajL:=h.ok.mh;have aEP:(u.a5.length:Int)<=1000000:=by omega
  intro r;induction r with
  | zero=>intro cJ i az ao ak;refine⟨cJ,i,by omega,ao,by omega,λz t Q or aT cX dJ fu eV b9 aO h1 bd g7 gk dY bT=> ?_⟩;refine eu (aB:=⟨[sc,wD u h.ok],[iY]⟩) λcx bk=> ?_;have v8:=bn h1;have c: ¬(cJ.length:Int)<p6 u v:=(by omega);simp(disch:=first|omega|simp only[DI.ab];omega) [CE,GR,GS,GU,dJ,fu,b9,h1,aU,c,-O,-U,-N,-S,-List.map_map];exact bT _ _ or (λs M=>by simp only[Ih,gT,iP,or_false]at M;rcases M with rfl|rfl|rfl|rfl|rfl<;>simp) (by simp[eV]) aO h1 bd g7 gk (λb hb=>⟨(dY b hb).2.1,rfl⟩) (dW _)
  | succ r cc=>
    intro cJ i az ao ak;have BD: ∀(t:W) (or:Nat),t.X or=some ⟨cJ.map Z,true⟩->DI.dO 9 t (ee or cJ.length 1)=some (cn cJ):= λt or h=>sG (n:=8) (by rw[qZ];exact h) (by simp) sZ;have c:(cJ.length:Int)<p6 u v:=(by omega);have aj3:cJ.length<=1000000:=(by omega);have mj:=kz (l:=l) (i:=i) (n:=(u.a5.length:Int)) (by omega);obtain⟨cL,ox⟩:=k1 mj.1;have ay:e9 l i (u.a5.length:Int)=(cL:Int):=ox;obtain⟨ot,y9,lv⟩:=auy h.ok.mh (cJ:=cJ) (by omega) u.a5.length 0 cL (by omega) (by omega);have A0:((i:Int)+1).toNat=i+1:=(by omega);by_cases Bw:(ot:Int)∈cJ
    · skip
      obtain⟨tp,dc,dk,ev,gG,gH⟩:=cc (cJ++[-1]) (i+1) (by simp;omega) (λy ag=>by
        simp only[kE,oX]at ag;rcases ag with ag|rfl
        · exact ao y ag
        · omega) (by omega)
      refine⟨tp,dc,dk,ev,by omega,λz t Q or aT cX dJ fu eV b9 aO h1 bd g7 gk dY bT=> ?_⟩;refine eu (aB:=⟨[sc,wD u h.ok],[iY]⟩) λcx bk=> ?_;have fW:=bn aO;have v8:=bn h1;have ta:=bn bd;have tf: ¬0=or:= λe=>g7 e.symm;have Dd: ¬1=or:= λe=>gk e.symm;simp(disch:=first|omega|simp only[DI.ab];omega) [CE,GR,GS,GU,cX,dJ,fu,b9,h1,aU,aO,c,lb,ay,-O,-U,-N,-S,-List.map_map];refine lv _ _ _ 1 or (by simp[dJ]) (by simp[eV]) (by simp) (by simp) (by simp(disch:=first|omega|simp only[DI.ab];omega) [h1,aU,-O,-U,-N,-S,-List.map_map]) (by simp(disch:=first|omega|simp only[DI.ab];omega) [bd,-O,-U,-N,-S,-List.map_map]) λbI bF M Fa fh=> ?_;have mU:bI 0=cF 0:=(M 0 (by decide)).trans (by simp[cX]);have sl:bI 3=cF 1:=(M 3 (by decide)).trans (by simp[dJ]);have tF:bI 4=z 4:=(M 4 (by decide)).trans (by simp);have oh:bI 5=z 5:=(M 5 (by decide)).trans (by simp);have sm:bI 6=Z v:=(M 6 (by decide)).trans (by simp[fu]);have IF:bI 7=ee or cJ.length 1:=(M 7 (by decide)).trans (by simp[eV]);have IG:bI 8=Z cJ.length:=(M 8 (by decide)).trans (by simp[b9]);have h5:bF.X 0=some ⟨[cn l,Z ((i:Int)+1)],true⟩:=(fh.2 0).trans (by simp(disch:=first|omega|simp only[DI.ab];omega) [-O,-U,-N,-S,-List.map_map]);have aK:bF.X 1=some ⟨aU u,true⟩:=(fh.2 1).trans (by simp(disch:=first|omega|simp only[DI.ab];omega) [h1,aU,-O,-U,-N,-S,-List.map_map]);have ow:bF.X or=some ⟨cJ.map Z,true⟩:=(fh.2 or).trans (by simp(disch:=first|omega|simp only[DI.ab];omega) [bd,-O,-U,-N,-S,-List.map_map]);have vq: ∀b∈aT,bF.X b=t.X b:= λb hb=>(fh.2 b).trans (by rw[bW (dY b hb).1]);have iJ:bF.next=t.next:=fh.1.trans (by simp)
      clear M fh;have bD:=BD bF or ow;have r3:=bn h5;have bg:=bn aK;have SD:=bn ow;have fO:(cJ.length+1)*8<=140737488355328/\cJ.length<=9223372036854775806:=(by omega);have c3:IntKind.i64.wrap ((cJ.length:Int)+1)=(cJ.length:Int)+1:=fx (by omega) (by omega);simp(disch:=first|omega|simp only[DI.ab];omega) [IF,IG,Fa,ow,bD,Bw,fO,c3,-O,-U,-N,-S,-List.map_map];refine bk _ _ (gH _ _ Q (bF.next+3) aT (by simp[mU]) (by simp[sl]) (by simp[sm]) (by simp) (by simp) ?_ ?_ ?_ (by omega) (by omega) (λb hb=> ?_) λdj iH wk hB fB bY a3 HO oM fX sL zk=>bT dj iH wk (λs fI=>(hB s fI).trans ?_) fB bY a3 HO oM fX (λb hb=>⟨(sL b hb).1,(sL b hb).2.trans ?_⟩) (by simp at zk;omega))
      · simp(disch:=first|omega|simp only[DI.ab];omega) [h5,-O,-U,-N,-S,-List.map_map]
      · simp(disch:=first|omega|simp only[DI.ab];omega) [aK,aU,-O,-U,-N,-S,-List.map_map]
      · simp(disch:=first|omega|simp only[DI.ab];omega) [-O,-U,-N,-S,-List.map_map];exact jh (by simp)
      · obtain⟨a3,br,bX⟩:=dY b hb;exact⟨a3,by omega,by simp;omega⟩
      · simp only[Ih,gT,iP,or_false]at fI;rcases fI with rfl|rfl|rfl|rfl|rfl<;>simp[mU,sl,tF,oh,sm,cX,dJ,fu]
      · obtain⟨a3,br,bX⟩:=dY b hb;have e1:b<bF.next:=by omega
        have fY: ¬b=bF.next+2:=by omega
        have nL: ¬b=bF.next+3:=by omega
        simp(disch:=first|omega|simp only[DI.ab];omega) [vq b hb,-O,-U,-N,-S,-List.map_map]
    by_cases EF:e9 l (i+1) 12=0
    · skip
      obtain⟨tp,dc,dk,ev,gG,gH⟩:=cc (cJ++[-1]) (i+2) (by simp;omega) (λy ag=>by
        simp only[kE,oX]at ag;rcases ag with ag|rfl
        · exact ao y ag
        · omega) (by omega)
      refine⟨tp,dc,dk,ev,by omega,λz t Q or aT cX dJ fu eV b9 aO h1 bd g7 gk dY bT=> ?_⟩;refine eu (aB:=⟨[sc,wD u h.ok],[iY]⟩) λcx bk=> ?_;have fW:=bn aO;have v8:=bn h1;have ta:=bn bd;have tf: ¬0=or:= λe=>g7 e.symm;have Dd: ¬1=or:= λe=>gk e.symm;simp(disch:=first|omega|simp only[DI.ab];omega) [CE,GR,GS,GU,cX,dJ,fu,b9,h1,aU,aO,c,lb,ay,-O,-U,-N,-S,-List.map_map];refine lv _ _ _ 1 or (by simp[dJ]) (by simp[eV]) (by simp) (by simp) (by simp(disch:=first|omega|simp only[DI.ab];omega) [h1,aU,-O,-U,-N,-S,-List.map_map]) (by simp(disch:=first|omega|simp only[DI.ab];omega) [bd,-O,-U,-N,-S,-List.map_map]) λbI bF M Fa fh=> ?_;have mU:bI 0=cF 0:=(M 0 (by decide)).trans (by simp[cX]);have sl:bI 3=cF 1:=(M 3 (by decide)).trans (by simp[dJ]);have tF:bI 4=z 4:=(M 4 (by decide)).trans (by simp);have oh:bI 5=z 5:=(M 5 (by decide)).trans (by simp);have sm:bI 6=Z v:=(M 6 (by decide)).trans (by simp[fu]);have IF:bI 7=ee or cJ.length 1:=(M 7 (by decide)).trans (by simp[eV]);have IG:bI 8=Z cJ.length:=(M 8 (by decide)).trans (by simp[b9]);have h5:bF.X 0=some ⟨[cn l,Z ((i:Int)+1)],true⟩:=(fh.2 0).trans (by simp(disch:=first|omega|simp only[DI.ab];omega) [-O,-U,-N,-S,-List.map_map]);have aK:bF.X 1=some ⟨aU u,true⟩:=(fh.2 1).trans (by simp(disch:=first|omega|simp only[DI.ab];omega) [h1,aU,-O,-U,-N,-S,-List.map_map]);have ow:bF.X or=some ⟨cJ.map Z,true⟩:=(fh.2 or).trans (by simp(disch:=first|omega|simp only[DI.ab];omega) [bd,-O,-U,-N,-S,-List.map_map]);have vq: ∀b∈aT,bF.X b=t.X b:= λb hb=>(fh.2 b).trans (by rw[bW (dY b hb).1]);have iJ:bF.next=t.next:=fh.1.trans (by simp)
      clear M fh;have bD:=BD bF or ow;have r3:=bn h5;have bg:=bn aK;have SD:=bn ow;have fO:(cJ.length+1)*8<=140737488355328/\cJ.length<=9223372036854775806:=(by omega);have c3:IntKind.i64.wrap ((cJ.length:Int)+1)=(cJ.length:Int)+1:=fx (by omega) (by omega);simp(disch:=first|omega|simp only[DI.ab];omega) [mU,IF,IG,Fa,h5,ow,bD,Bw,EF,lb,fO,c3,A0,-O,-U,-N,-S,-List.map_map];refine bk _ _ (gH _ _ Q (bF.next+3) aT (by simp[mU]) (by simp[sl]) (by simp[sm]) (by simp) (by simp) ?_ ?_ ?_ (by omega) (by omega) (λb hb=> ?_) λdj iH wk hB fB bY a3 HO oM fX sL zk=>bT dj iH wk (λs fI=>(hB s fI).trans ?_) fB bY a3 HO oM fX (λb hb=>⟨(sL b hb).1,(sL b hb).2.trans ?_⟩) (by simp at zk;omega))
      · simp(disch:=first|omega|simp only[DI.ab];omega) [-O,-U,-N,-S,-List.map_map];omega
      · simp(disch:=first|omega|simp only[DI.ab];omega) [aK,aU,-O,-U,-N,-S,-List.map_map]
      · simp(disch:=first|omega|simp only[DI.ab];omega) [-O,-U,-N,-S,-List.map_map];exact jh (by simp)
      · obtain⟨a3,br,bX⟩:=dY b hb;exact⟨a3,by omega,by simp;omega⟩
      · simp only[Ih,gT,iP,or_false]at fI;rcases fI with rfl|rfl|rfl|rfl|rfl<;>simp[mU,sl,tF,oh,sm,cX,dJ,fu]
      · obtain⟨a3,br,bX⟩:=dY b hb;have e1:b<bF.next:=by omega
        have fY: ¬b=bF.next+2:=by omega
        have nL: ¬b=bF.next+3:=by omega
        simp(disch:=first|omega|simp only[DI.ab];omega) [vq b hb,-O,-U,-N,-S,-List.map_map]
    · skip
      obtain⟨tp,dc,dk,ev,gG,gH⟩:=cc (cJ++[(ot:Int)]) (i+2) (by simp;omega) (λy ag=>by
        simp only[kE,oX]at ag;rcases ag with ag|rfl
        · exact ao y ag
        · omega) (by omega)
      refine⟨tp,dc,dk,ev,by omega,λz t Q or aT cX dJ fu eV b9 aO h1 bd g7 gk dY bT=> ?_⟩;refine eu (aB:=⟨[sc,wD u h.ok],[iY]⟩) λcx bk=> ?_;have fW:=bn aO;have v8:=bn h1;have ta:=bn bd;have tf: ¬0=or:= λe=>g7 e.symm;have Dd: ¬1=or:= λe=>gk e.symm;simp(disch:=first|omega|simp only[DI.ab];omega) [CE,GR,GS,GU,cX,dJ,fu,b9,h1,aU,aO,c,lb,ay,-O,-U,-N,-S,-List.map_map];refine lv _ _ _ 1 or (by simp[dJ]) (by simp[eV]) (by simp) (by simp) (by simp(disch:=first|omega|simp only[DI.ab];omega) [h1,aU,-O,-U,-N,-S,-List.map_map]) (by simp(disch:=first|omega|simp only[DI.ab];omega) [bd,-O,-U,-N,-S,-List.map_map]) λbI bF M Fa fh=> ?_;have mU:bI 0=cF 0:=(M 0 (by decide)).trans (by simp[cX]);have sl:bI 3=cF 1:=(M 3 (by decide)).trans (by simp[dJ]);have tF:bI 4=z 4:=(M 4 (by decide)).trans (by simp);have oh:bI 5=z 5:=(M 5 (by decide)).trans (by simp);have sm:bI 6=Z v:=(M 6 (by decide)).trans (by simp[fu]);have IF:bI 7=ee or cJ.length 1:=(M 7 (by decide)).trans (by simp[eV]);have IG:bI 8=Z cJ.length:=(M 8 (by decide)).trans (by simp[b9]);have h5:bF.X 0=some ⟨[cn l,Z ((i:Int)+1)],true⟩:=(fh.2 0).trans (by simp(disch:=first|omega|simp only[DI.ab];omega) [-O,-U,-N,-S,-List.map_map]);have aK:bF.X 1=some ⟨aU u,true⟩:=(fh.2 1).trans (by simp(disch:=first|omega|simp only[DI.ab];omega) [h1,aU,-O,-U,-N,-S,-List.map_map]);have ow:bF.X or=some ⟨cJ.map Z,true⟩:=(fh.2 or).trans (by simp(disch:=first|omega|simp only[DI.ab];omega) [bd,-O,-U,-N,-S,-List.map_map]);have vq: ∀b∈aT,bF.X b=t.X b:= λb hb=>(fh.2 b).trans (by rw[bW (dY b hb).1]);have iJ:bF.next=t.next:=fh.1.trans (by simp)
      clear M fh;have bD:=BD bF or ow;have r3:=bn h5;have bg:=bn aK;have SD:=bn ow;have fO:(cJ.length+1)*8<=140737488355328/\cJ.length<=9223372036854775806:=(by omega);have c3:IntKind.i64.wrap ((cJ.length:Int)+1)=(cJ.length:Int)+1:=fx (by omega) (by omega);simp(disch:=first|omega|simp only[DI.ab];omega) [mU,IF,IG,Fa,h5,ow,bD,Bw,EF,lb,fO,c3,A0,-O,-U,-N,-S,-List.map_map];refine bk _ _ (gH _ _ Q (bF.next+3) aT (by simp[mU]) (by simp[sl]) (by simp[sm]) (by simp) (by simp) ?_ ?_ ?_ (by omega) (by omega) (λb hb=> ?_) λdj iH wk hB fB bY a3 HO oM fX sL zk=>bT dj iH wk (λs fI=>(hB s fI).trans ?_) fB bY a3 HO oM fX (λb hb=>⟨(sL b hb).1,(sL b hb).2.trans ?_⟩) (by simp at zk;omega))
      · simp(disch:=first|omega|simp only[DI.ab];omega) [-O,-U,-N,-S,-List.map_map];omega
      · simp(disch:=first|omega|simp only[DI.ab];omega) [aK,aU,-O,-U,-N,-S,-List.map_map]
      · simp(disch:=first|omega|simp only[DI.ab];omega) [-O,-U,-N,-S,-List.map_map];exact jh (by simp)
      · obtain⟨a3,br,bX⟩:=dY b hb;exact⟨a3,by omega,by simp;omega⟩
      · simp only[Ih,gT,iP,or_false]at fI;rcases fI with rfl|rfl|rfl|rfl|rfl<;>simp[mU,sl,tF,oh,sm,cX,dJ,fu]
      · obtain⟨a3,br,bX⟩:=dY b hb;have e1:b<bF.next:=by omega
        have fY: ¬b=bF.next+2:=by omega
        have nL: ¬b=bF.next+3:=by omega
        simp(disch:=first|omega|simp only[DI.ab];omega) [vq b hb,-O,-U,-N,-S,-List.map_map]
def wZ(u:bm)(L:List (List Int)):Prop:= ∀(w:Nat) (r:List Int),L[w]?=some r->(r.length:Int)=p6 u w/\IU u r
theorem wZ.add{u:bm}{L:List (List Int)}{r:List Int}(h:wZ u L)(D:(r.length:Int)=p6 u L.length)(H:IU u r):wZ u (L++[r]):= λw x G=>by
  by_cases c:w<L.length
  · rw[tH c]at G;exact h w x G
  · have aD:=(eB.1 G).1;simp only[jI,pS,wT]at aD;have e:w=L.length:=(by omega);subst e;rw[u0 (dW _)]at G;simp at G;subst G;exact⟨D,H⟩
theorem axv{L:List (List Int)}:(L.map lS).flatten.length=L.length:=by rw[rG (I:=1) λr az=>by obtain⟨x,_,rfl⟩:=g4.1 az;rfl,jg,Nat.mul_one]
theorem aeW{L:List (List Int)}: ∀r∈L.map lS,r.length=1/\ ∀v∈r,gN v=true:= λr az=>by obtain⟨x,_,rfl⟩:=g4.1 az;exact⟨rfl,λv ad=>by simp[lS]at ad;subst ad;rfl⟩
theorem auA{l:List Int}(aD:l.length<=140737488355328){u:bm}(h:fT u)(kt:1<=u.a5.length): ∀(r:Nat) (L:List (List Int)) (i:Nat),L.length+r=u.cM.length->wZ u L->i+20*r+100<1000000->
    ∃ (Bj:List (List Int)) (dc:Nat),Bj.length=u.cM.length/\wZ u Bj/\dc<=i+20*r/\ ∀(z:aM) (t:W) (Q:du->aM->W->Prop) (pB:Nat),z 0=cF 0->z 3=cF 1->z 5=ee pB L.length 1->z 6=Z L.length->
      t.X 0=some ⟨[cn l,Z i],true⟩->t.X 1=some ⟨aU u,true⟩->t.X pB=some ⟨(L.map lS).flatten,true⟩->pB≠0->pB≠1->
      (∀ae aJ SP,ae 5=ee SP Bj.length 1->aJ.X 0=some ⟨[cn l,Z dc],true⟩->aJ.X SP=some ⟨(Bj.map lS).flatten,true⟩->SP≠0->Q (.bh 0) ae aJ)->fl al (.loop Lw) z t Q:=by
  have J8:=h.ok.wg;intro r;induction r with
  | zero=>intro L i az ao ak;refine⟨L,i,by omega,ao,by omega,λz t Q pB cX dJ ct fu aO h1 bd g7 gk bT=> ?_⟩;refine eu (aB:=⟨[sc,wD u h.ok],[iY]⟩) λcx bk=> ?_;have v8:=bn h1;have c: ¬(L.length:Int)<u.cM.length:=(by omega);have ch: ¬L.length<u.cM.length:=(by omega);simp(disch:=first|omega|simp only[DI.ab];omega) [Lw,RG,RH,dJ,fu,h1,aU,c,-O,-U,-N,-S,-List.map_map];exact bT _ _ pB (by simp[ct]) aO bd g7
  | succ r cc=>
    intro L i az ao ak;have ad:L.length<u.cM.length:=(by omega);have fe:=Ww h.ok ad;obtain⟨cJ,ku,bw,bJ,cb,eI⟩:=auz (l:=l) aD h kt ad (p6 u L.length).toNat [] i (by simp;omega) (λy ag=>by simp at ag) (by omega);obtain⟨Bj,dc,dk,ev,gG,gH⟩:=cc (L++[cJ]) ku (by simp;omega) (ao.add bw bJ) (by omega);refine⟨Bj,dc,dk,ev,by omega,λz t Q pB cX dJ ct fu aO h1 bd g7 gk bT=> ?_⟩;refine eu (aB:=⟨[sc,wD u h.ok],[iY]⟩) λcx bk=> ?_;have fW:=bn aO;have v8:=bn h1;have cp:=bn bd;have c:(L.length:Int)<u.cM.length:=(by omega);simp(disch:=first|omega|simp only[DI.ab];omega) [Lw,RG,RH,dJ,fu,h1,aU,c,-O,-U,-N,-S,-List.map_map];refine eI _ _ _ t.next [pB] (by simp[cX]) (by simp[dJ]) (by simp[fu]) (by simp) (by simp) ?_ ?_ ?_ (by omega) (by omega) (λb hb=> ?_) λbI bF or M fB WD WQ iU tf Dd dY au=> ?_
    · simp(disch:=first|omega|simp only[DI.ab];omega) [aO,-O,-U,-N,-S,-List.map_map]
    · simp(disch:=first|omega|simp only[DI.ab];omega) [h1,aU,-O,-U,-N,-S,-List.map_map]
    · simp(disch:=first|omega|simp only[DI.ab];omega) [-O,-U,-N,-S,-List.map_map]
    · simp only[gT,iP,or_false]at hb;subst hb;exact⟨g7,by omega,by simp;omega⟩
    have mU:bI 0=cF 0:=(M 0 (by decide)).trans (by simp[cX]);have sl:bI 3=cF 1:=(M 3 (by decide)).trans (by simp[dJ]);have oh:bI 5=ee pB L.length 1:=(M 5 (by decide)).trans (by simp[ct]);have sm:bI 6=Z L.length:=(M 6 (by decide)).trans (by simp[fu]);have ov:bF.X pB=some ⟨(L.map lS).flatten,true⟩:=(dY pB (by simp)).2.trans (by simp(disch:=first|omega|simp only[DI.ab];omega) [bd,-O,-U,-N,-S,-List.map_map]);have r3:=bn WD;have bg:=bn WQ;have hJ:=bn ov;have SD:=bn iU;have fC:=axv (L:=L);have fo:or=pB->False:= λe=>(dY pB (by simp)).1 e.symm;clear M dY au;have c3:IntKind.i64.wrap ((L.length:Int)+1)=(L.length:Int)+1:=fx (by omega) (by omega);have az: ∀x,(L++[cJ]).map lS=x->(L.map lS).flatten++[cn cJ]=x.flatten:= λx G=>by subst G;simp[lS]
    have bt:List.take L.length (L.map lS).flatten=(L.map lS).flatten:=jh (by omega);have iG: ¬or=pB:= λe=>by subst e;exact(fo rfl).elim
    simp(disch:=first|omega|simp only[DI.ab];omega) [oh,sm,fB,ov,fC,c3,bt,-O,-U,-N,-S,-List.map_map];refine⟨by omega,bk _ _ (sj (o:=or) (p:=bF.next+3) (j:=L.length) (I:=1) (a8:=cJ.map λx=>[Z x]) (cells:=(L.map lS).flatten++[ee or cJ.length 1]) ?_ sZ ?_ ?_ (by omega) (gH _ _ Q (bF.next+3) (by simp[mU]) (by simp[sl]) ?_ ?_ ?_ ?_ ?_ (by omega) (by omega) bT))⟩
    · rw[bW (by omega),bW iG,bW (by omega),W.e6,qZ];exact iU
    · rw[ej (by simp)]
    · rw[u0 (by omega)];simp[fC]
    · simp
    · simp
    · rw[bW (by omega),bW (by omega),bW (by omega),bW (by omega),bW (by omega),W.e6];exact WD
    · rw[bW (by omega),bW (by omega),bW (by omega),bW (by omega),bW (by omega),W.e6];exact WQ
    · rw[ej (by simp),List.set_append_right _ _ (by omega)];simp[fC,lS]
theorem MX{t:W}{o l I:Nat}{a8:List (List Value)}(h:t.X o=some ⟨a8.flatten,true⟩)(az: ∀r∈a8,r.length=I/\ ∀v∈r,gN v=true)(cW:o≠0):0∉DI.ed 9 t (ee o l I):=by
  rw[ql,h];simp only[gT,tK,List.mem_flatten];rintro(e|⟨v,⟨r,sR,ad⟩,G⟩)
  · exact cW e.symm
  · rw[DI.yh ((az r sR).2 v ad)]at G;cases G
theorem auC{l:List Int}(aD:l.length<=140737488355328){i:Nat}(ak:i<600000){u:bm}(h:fT u)(kt:1<=u.a5.length): ∃L dc,L.length=u.cM.length/\wZ u L/\dc<=i+20*u.cM.length/\fA al 48 [cF 0,.agg (aU u).toArray] (mJ l i) λv aJ=>DI.dO 9 aJ v=some (pf L)/\aJ.X 0=some ⟨[cn l,Z dc],true⟩/\0∉ed 9 aJ v:=by
  have J8:=h.ok.wg;obtain⟨L,dc,dk,ev,gG,gH⟩:=auA (l:=l) aD h kt u.cM.length [] i (by simp) (λw r az=>by simp at az) (by omega);refine⟨L,dc,dk,ev,gG,?_⟩;refine dM (aB:=⟨[sc,wD u h.ok],[iY]⟩) asc (by kernel_rfl) (by simp[RF]) ?_;simp(disch:=first|omega|simp only[DI.ab];omega) [RF,ab9,aca,acb,acd,mJ,-O,-U,-N,-S,-List.map_map];refine yB (d:=5) (I:=1) (by simp) ?_;refine gH _ _ _ 3 (by simp) (by simp) (by simp[g6]) (by simp) ?_ ?_ ?_ (by decide) (by decide) λbI bF pB ct aO aQ g7=> ?_
  · rw[bW (by simp[g6]),e6 (by simp[g6]),bW (by decide),e6 (by simp[g6]),ej (by simp[g6])]
  · rw[bW (by simp[g6]),e6 (by simp[g6]),ej (by simp[g6])]
  · rw[show((((g6.dp 1).a0 0 (some {cells:=[cn l,Z i],own:=true})).dp 2).a0 1 (some {cells:=aU u,own:=true})).next=3 from rfl];exact ej (by simp[g6])
  simp(disch:=first|omega|simp only[DI.ab];omega) [ct,-O,-U,-N,-S,-List.map_map];refine⟨?_,aO,MX aQ aeW g7⟩;have:=sG (n:=8) (t:=bF) (l:=L.length) aQ (by simp) aeW;exact this
end Go.Proofs.YtmmkkggfmigppaaGreat
