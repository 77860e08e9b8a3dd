/-
  A part of the proof of the statement, in texts that tools of ours (wip/shrink.py, irpack.py, relax.py, minify.py, join.py, lay.py) have shortened.
-/
import Derived.Test.YtmmkkggfmigppaaGreatZal
set_option linter.all false
set_option maxRecDepth 8000
set_option maxHeartbeats 16000000
namespace Go.Proofs.YtmmkkggfmigppaaGreat
open Go Go.DI Go.Big
theorem vO{c4:Type}{f:Nat->c4}{d:Nat}{a b:c4}:dS (dS f d a) d b=dS f d b:=by
  funext k;by_cases h:k=d
  · subst h;simp
  · rw[nR h,nR h,nR h]
theorem wc{c4:Type}{l:List c4}{p:c4->Bool}{i:Nat}{x:c4}(G:l[i]?=some x)(h:p x=false):l.all p=false:=by rw[zF];exact⟨x,gJ G,by simp[h]⟩
theorem EL{c4:Type}{l:List c4}{f:c4->ByteArray}{bX:List ByteArray}{i:Nat}{x:c4}(G:l[i]?=some x)(a2:er (bX++(l.take i).map f)=true)(h:nu (bX++(l.take i).map f) (f x)=false):er (bX++l.map f)=false:=by
  cases bd:er (bX++l.map f)
  · rfl
  · have e:bX++l.map f=((bX++(l.take i).map f)++[f x])++(l.drop (i+1)).map f:=by
      conv=>lhs;rw[<-List.take_append_drop (i+1) l,l6 G]
      simp
    rw[e]at bd;have:=aij bd;rw[ux,a2,h]at this;cases this
theorem ng{c4:Type}{l:List c4}{f:c4->ByteArray}{bX:List ByteArray}{i:Nat}{x:c4}(G:l[i]?=some x):(bX++(l.take i).map f)++[f x]=bX++(l.take (i+1)).map f:=by rw[l6 G];simp
theorem we{c4:Type}{l:List c4}{p:c4->Bool}{i:Nat}{x:c4}(G:l[i]?=some x)(h:(l.take i).all p=true)(ab:p x=true):(l.take (i+1)).all p=true:=by rw[l6 G,s6,h];simp[ab]
theorem aCS{u:bg}(h:bg.fO u){dC:Bool}{oM:Nat->Nat}{eC:Nat->List ByteArray}{da:aR}{c1:W}(tF:fg u dC oM eC da c1)(kd:dC=true->(eC 3).length<=10000)(tH:dC=true->er (eC 3)=true)(uv:da 9=Y 0)
    {Q:dA->aR->W->Prop} (b2: ∀A t di cc,fg u (dC&&(er (eC 3++u.cN.map (·.name))&&u.cN.all ik.mJ)) di cc A t->((dC&&(er (eC 3++u.cN.map (·.name))&&u.cN.all ik.mJ))=true->cc=dS eC 3 (eC 3++u.cN.map (·.name)))->Q (.a7 0) A t):fZ al (.loop AT) da c1 Q:=by
  have eA:u.cN.length<=1000:=h.Bt;obtain⟨T,dr⟩: ∃T,T=(dC&&(er (eC 3++u.cN.map (·.name))&&u.cN.all ik.mJ)):=⟨_,rfl⟩;rw[<-dr]at b2;refine h9 (aC:=⟨[Vn],[yv]⟩) (λi A t=> ∃di cc b,fg u b di cc A t/\A 9=Y i/\(b=true->dC=true/\cc=dS eC 3 (eC 3++(u.cN.take i).map (·.name))/\er (eC 3++(u.cN.take i).map (·.name))=true/\(u.cN.take i).all ik.mJ=true)/\(b=false->T=false)) u.cN.length ?_ ?_ 0 da c1 (ht _) ⟨oM,eC,dC,tF,by simpa using uv,λhb=>⟨hb,?_,by simpa using tH hb,by simp⟩,λhb=>by rw[dr,hb];rfl⟩
  · rintro i A t ai ⟨di,cc,b,ab,gw,iA,lZ⟩ cS bm;have G:u.cN[i]?=some u.cN[i]:=cD ai;have cg:=gY (n:=i) (by omega);have b6:(i:Int)<u.cN.length:=(by omega);have ba:=ab.ba;have b9:=ab.b9;have aN:=ab.aN;have fl:=a6 aN;have gf:=ab.nd 3 (by decide) (by decide);have bU:=ab.g 3 (by decide) (by decide);have hg:=ab.nI 3 (by decide) (by decide);have cB:=a6 bU;cases b
    · have oE:=lZ rfl;simp(disch:=first|omega|simp only[DI.ae];omega) [AT,DT,aL,ba,b9,gw,aN,b6,-O,-U,-N,-S,-List.map_map];exact b2 _ _ di cc (by rw[oE];exact(ab.kF (by simp) (eI (d:=0) (λ_=>by simp) (λ_=>by simp) (λ_=>by simp) (λ_=>by simp) (λ_=>by simp) (λ_=>by simp)))) (λaQ=>by rw[oE]at aQ;cases aQ)
    obtain⟨ll,mD,mF,fv⟩:=iA rfl;have ck:cc 3=eC 3++(u.cN.take i).map (·.name):=(by rw[mD,sc]);have Gh:=kd ll;have tA:(cc 3).length<1000000:=(by rw[ck,kT,j5,nU];omega);obtain⟨L,eT⟩: ∃L,L=cc 3:=⟨_,rfl⟩;obtain⟨o,hY⟩: ∃o,o=di 3:=⟨_,rfl⟩;rw[<-eT]at gf bU tA ck;rw[<-hY]at gf bU hg cB;have dj:=h.cN _ (jQ ai);cases aT:nu L u.cN[i].name
    · skip
      simp(disch:=first|omega|simp only[DI.ae];omega) [AT,DT,aL,gZ,jj,ba,b9,gw,gf,aN,bU,b6,cg,aT,-O,-U,-N,-S,-List.map_map];refine bm _ _ ⟨dS di 3 (t.next),dS cc 3 (cc 3++[u.cN[i].name]),false,fg.step ab 3 (by decide) (by decide) (n:=1) (iE:=[u.cN[i].name]) rfl (eI (d:=3) ?_ ?_ ?_ ?_ ?_ ?_) ?_ ?_ ?_ (.inr (by omega)) ?_ ?_,?_,?_,?_⟩;any_goals(intro aD;first|(exact absurd rfl aD)|(simp;done))
      · simp(disch:=first|omega|simp only[DI.ae];omega) [-O,-U,-N,-S,-List.map_map]
      · rw[<-eT];simp(disch:=first|omega|simp only[DI.ae];omega) [-O,-U,-N,-S,-List.map_map]
      · rw[<-eT];simp(disch:=first|omega|simp only[DI.ae];omega) [-O,-U,-N,-S,-List.map_map]
      · simp(disch:=first|omega|simp only[DI.ae];omega) [-O,-U,-N,-S,-List.map_map];try omega
      · intro b hb dP;rw[<-hY]at dP;simp(disch:=first|omega|simp only[DI.ae];omega) [-O,-U,-N,-S,-List.map_map]
      · simp
      · intro aQ;cases aQ
      · intro _;rw[dr,EL (f:=(·.name)) G mF (by rw[<-ck];exact aT)];simp
    cases dw:u.cN[i].mJ
    · skip
      simp(disch:=first|omega|simp only[DI.ae];omega) [AT,DT,aL,gZ,jj,ba,b9,gw,gf,aN,bU,b6,cg,aT,dw,-O,-U,-N,-S,-List.map_map];refine bm _ _ ⟨dS di 3 (t.next),dS cc 3 (cc 3++[u.cN[i].name]),false,fg.step ab 3 (by decide) (by decide) (n:=1) (iE:=[u.cN[i].name]) rfl (eI (d:=3) ?_ ?_ ?_ ?_ ?_ ?_) ?_ ?_ ?_ (.inr (by omega)) ?_ ?_,?_,?_,?_⟩;any_goals(intro aD;first|(exact absurd rfl aD)|(simp;done))
      · simp(disch:=first|omega|simp only[DI.ae];omega) [-O,-U,-N,-S,-List.map_map]
      · rw[<-eT];simp(disch:=first|omega|simp only[DI.ae];omega) [-O,-U,-N,-S,-List.map_map]
      · rw[<-eT];simp(disch:=first|omega|simp only[DI.ae];omega) [-O,-U,-N,-S,-List.map_map]
      · simp(disch:=first|omega|simp only[DI.ae];omega) [-O,-U,-N,-S,-List.map_map];try omega
      · intro b hb dP;rw[<-hY]at dP;simp(disch:=first|omega|simp only[DI.ae];omega) [-O,-U,-N,-S,-List.map_map]
      · simp
      · intro aQ;cases aQ
      · intro _;rw[dr,wc G (show ik.mJ u.cN[i]=false by simp[dw])];simp
    simp(disch:=first|omega|simp only[DI.ae];omega) [AT,DT,aL,gZ,jj,ba,b9,gw,gf,aN,bU,b6,cg,aT,dw,-O,-U,-N,-S,-List.map_map];refine bm _ _ ⟨dS di 3 (t.next),dS cc 3 (cc 3++[u.cN[i].name]),true,fg.step ab 3 (by decide) (by decide) (n:=1) (iE:=[u.cN[i].name]) rfl (eI (d:=3) ?_ ?_ ?_ ?_ ?_ ?_) ?_ ?_ ?_ (.inr (by omega)) ?_ ?_,?_,?_,?_⟩;any_goals(intro aD;first|(exact absurd rfl aD)|(simp;done))
    · simp(disch:=first|omega|simp only[DI.ae];omega) [-O,-U,-N,-S,-List.map_map]
    · rw[<-eT];simp(disch:=first|omega|simp only[DI.ae];omega) [-O,-U,-N,-S,-List.map_map]
    · rw[<-eT];simp(disch:=first|omega|simp only[DI.ae];omega) [-O,-U,-N,-S,-List.map_map]
    · simp(disch:=first|omega|simp only[DI.ae];omega) [-O,-U,-N,-S,-List.map_map];try omega
    · intro b hb dP;rw[<-hY]at dP;simp(disch:=first|omega|simp only[DI.ae];omega) [-O,-U,-N,-S,-List.map_map]
    · simp
    · intro _;refine⟨ll,?_,?_,we G fv (by simp[dw])⟩
      · rw[<-eT,ck,mD,vO,ng (f:=(·.name)) G]
      · rw[<-ng (f:=(·.name)) G,ux,mF,<-ck,aT];rfl
    · intro aQ;cases aQ
  · rintro A t ⟨di,cc,b,ab,gw,iA,lZ⟩;rw[nk]at iA;have ba:=ab.ba;have b9:=ab.b9;have aN:=ab.aN;have fl:=a6 aN;have oD:T=b:=by
      cases b
      · exact lZ rfl
      · obtain⟨bu,_,bN,cn⟩:=iA rfl;rw[dr,bu,bN,cn];rfl
    have ev: ¬(((u.cN.length:Nat):Int)<u.cN.length):=(by omega);cases b
    all_goals
      simp(disch:=first|omega|simp only[DI.ae];omega) [AT,DT,aL,ba,gw,aN,ev,-O,-U,-N,-S,-List.map_map];exact b2 _ _ di cc (by rw[oD];exact(ab.kF (by simp) (eI (d:=0) (λ_=>by simp) (λ_=>by simp) (λ_=>by simp) (λ_=>by simp) (λ_=>by simp) (λ_=>by simp)))) (λaQ=>by rw[oD]at aQ;exact(iA aQ).2.1)
  · funext k;by_cases e:k=3
    · subst e;simp
    · rw[nR e]
theorem aCT{u:bg}(h:bg.fO u){dC:Bool}{oM:Nat->Nat}{eC:Nat->List ByteArray}{da:aR}{c1:W}(tF:fg u dC oM eC da c1)(kd:dC=true->(eC 4).length<=10000)(tH:dC=true->er (eC 4)=true)(uv:da 10=Y 0)
    {Q:dA->aR->W->Prop} (b2: ∀A t di cc,fg u (dC&&(er (eC 4++u.bf.map (·.name))&&u.bf.all (k6 u.cN.length))) di cc A t->((dC&&(er (eC 4++u.bf.map (·.name))&&u.bf.all (k6 u.cN.length)))=true->cc=dS eC 4 (eC 4++u.bf.map (·.name)))->Q (.a7 2) A t):fZ al (.loop wY) da c1 Q:=by
  have eA:u.bf.length<=1000:=h.eO;obtain⟨T,dr⟩: ∃T,T=(dC&&(er (eC 4++u.bf.map (·.name))&&u.bf.all (k6 u.cN.length))):=⟨_,rfl⟩;rw[<-dr]at b2;refine h9 (aC:=⟨[r8],[yv]⟩) (λi A t=> ∃di cc b,fg u b di cc A t/\A 10=Y i/\(b=true->dC=true/\cc=dS eC 4 (eC 4++(u.bf.take i).map (·.name))/\er (eC 4++(u.bf.take i).map (·.name))=true/\(u.bf.take i).all (k6 u.cN.length)=true)/\(b=false->T=false)) u.bf.length ?_ ?_ 0 da c1 (ht _) ⟨oM,eC,dC,tF,by simpa using uv,λhb=>⟨hb,?_,by simpa using tH hb,by simp⟩,λhb=>by rw[dr,hb];rfl⟩
  · rintro i A t ai ⟨di,cc,b,ab,gw,iA,lZ⟩ cS bm;have G:u.bf[i]?=some u.bf[i]:=cD ai;have cg:=gY (n:=i) (by omega);have b6:(i:Int)<u.bf.length:=(by omega);have ba:=ab.ba;have b9:=ab.b9;have aN:=ab.aN;have fl:=a6 aN;have gf:=ab.nd 4 (by decide) (by decide);have bU:=ab.g 4 (by decide) (by decide);have hg:=ab.nI 4 (by decide) (by decide);have cB:=a6 bU;cases b
    · have oE:=lZ rfl;simp(disch:=first|omega|simp only[DI.ae];omega) [wY,yN,yO,aL,ba,b9,gw,aN,b6,-O,-U,-N,-S,-List.map_map];exact b2 _ _ di cc (by rw[oE];exact(ab.kF (by simp) (eI (d:=0) (λ_=>by simp) (λ_=>by simp) (λ_=>by simp) (λ_=>by simp) (λ_=>by simp) (λ_=>by simp)))) (λaQ=>by rw[oE]at aQ;cases aQ)
    obtain⟨ll,mD,mF,fv⟩:=iA rfl;have ck:cc 4=eC 4++(u.bf.take i).map (·.name):=(by rw[mD,sc]);have Gh:=kd ll;have tA:(cc 4).length<1000000:=(by rw[ck,kT,j5,nU];omega);obtain⟨L,eT⟩: ∃L,L=cc 4:=⟨_,rfl⟩;obtain⟨o,hY⟩: ∃o,o=di 4:=⟨_,rfl⟩;rw[<-eT]at gf bU tA ck;rw[<-hY]at gf bU hg cB;have kA:IntKind.i64.wrap ((u.cN.length:Int)-1)=(u.cN.length:Int)-1:=fV (by omega) (by have:=h.Bt;omega);cases aT:nu L u.bf[i].name
    · skip
      simp(disch:=first|omega|simp only[DI.ae];omega) [wY,yN,yO,aL,gE,jj,ba,b9,gw,gf,aN,bU,b6,cg,aT,-O,-U,-N,-S,-List.map_map];refine bm _ _ ⟨dS di 4 (t.next+7),dS cc 4 (cc 4++[u.bf[i].name]),false,fg.step ab 4 (by decide) (by decide) (n:=1) (iE:=[u.bf[i].name]) rfl (eI (d:=4) ?_ ?_ ?_ ?_ ?_ ?_) ?_ ?_ ?_ (.inr (by omega)) ?_ ?_,?_,?_,?_⟩;any_goals(intro aD;first|(exact absurd rfl aD)|(simp;done))
      · simp(disch:=first|omega|simp only[DI.ae];omega) [-O,-U,-N,-S,-List.map_map]
      · rw[<-eT];simp(disch:=first|omega|simp only[DI.ae];omega) [-O,-U,-N,-S,-List.map_map]
      · rw[<-eT];simp(disch:=first|omega|simp only[DI.ae];omega) [-O,-U,-N,-S,-List.map_map]
      · simp(disch:=first|omega|simp only[DI.ae];omega) [-O,-U,-N,-S,-List.map_map];try omega
      · intro b hb dP;rw[<-hY]at dP;simp(disch:=first|omega|simp only[DI.ae];omega) [-O,-U,-N,-S,-List.map_map]
      · simp
      · intro aQ;cases aQ
      · intro _;rw[dr,EL (f:=(·.name)) G mF (by rw[<-ck];exact aT)];simp
    cases dj:dK u.bf[i].ext 1 16
    · skip
      simp(disch:=first|omega|simp only[DI.ae];omega) [wY,yN,yO,aL,gE,jj,ba,b9,gw,gf,aN,bU,b6,cg,aT,dj,-O,-U,-N,-S,-List.map_map];refine bm _ _ ⟨dS di 4 (t.next+7),dS cc 4 (cc 4++[u.bf[i].name]),false,fg.step ab 4 (by decide) (by decide) (n:=1) (iE:=[u.bf[i].name]) rfl (eI (d:=4) ?_ ?_ ?_ ?_ ?_ ?_) ?_ ?_ ?_ (.inr (by omega)) ?_ ?_,?_,?_,?_⟩;any_goals(intro aD;first|(exact absurd rfl aD)|(simp;done))
      · simp(disch:=first|omega|simp only[DI.ae];omega) [-O,-U,-N,-S,-List.map_map]
      · rw[<-eT];simp(disch:=first|omega|simp only[DI.ae];omega) [-O,-U,-N,-S,-List.map_map]
      · rw[<-eT];simp(disch:=first|omega|simp only[DI.ae];omega) [-O,-U,-N,-S,-List.map_map]
      · simp(disch:=first|omega|simp only[DI.ae];omega) [-O,-U,-N,-S,-List.map_map];try omega
      · intro b hb dP;rw[<-hY]at dP;simp(disch:=first|omega|simp only[DI.ae];omega) [-O,-U,-N,-S,-List.map_map]
      · simp
      · intro aQ;cases aQ
      · intro _;rw[dr,wc G (show(k6 u.cN.length) u.bf[i]=false by simp[k6,dj])];simp
    cases dw:dK u.bf[i].NY 1 64
    · skip
      simp(disch:=first|omega|simp only[DI.ae];omega) [wY,yN,yO,aL,gE,jj,ba,b9,gw,gf,aN,bU,b6,cg,aT,dj,dw,-O,-U,-N,-S,-List.map_map];refine bm _ _ ⟨dS di 4 (t.next+7),dS cc 4 (cc 4++[u.bf[i].name]),false,fg.step ab 4 (by decide) (by decide) (n:=1) (iE:=[u.bf[i].name]) rfl (eI (d:=4) ?_ ?_ ?_ ?_ ?_ ?_) ?_ ?_ ?_ (.inr (by omega)) ?_ ?_,?_,?_,?_⟩;any_goals(intro aD;first|(exact absurd rfl aD)|(simp;done))
      · simp(disch:=first|omega|simp only[DI.ae];omega) [-O,-U,-N,-S,-List.map_map]
      · rw[<-eT];simp(disch:=first|omega|simp only[DI.ae];omega) [-O,-U,-N,-S,-List.map_map]
      · rw[<-eT];simp(disch:=first|omega|simp only[DI.ae];omega) [-O,-U,-N,-S,-List.map_map]
      · simp(disch:=first|omega|simp only[DI.ae];omega) [-O,-U,-N,-S,-List.map_map];try omega
      · intro b hb dP;rw[<-hY]at dP;simp(disch:=first|omega|simp only[DI.ae];omega) [-O,-U,-N,-S,-List.map_map]
      · simp
      · intro aQ;cases aQ
      · intro _;rw[dr,wc G (show(k6 u.cN.length) u.bf[i]=false by simp[k6,dj,dw])];simp
    cases h6:dK u.bf[i].Ny 0 ((u.cN.length:Int)-1)
    · skip
      simp(disch:=first|omega|simp only[DI.ae];omega) [wY,yN,yO,aL,gE,jj,ba,b9,gw,gf,aN,bU,b6,cg,kA,aT,dj,dw,h6,-O,-U,-N,-S,-List.map_map];refine bm _ _ ⟨dS di 4 (t.next+7),dS cc 4 (cc 4++[u.bf[i].name]),false,fg.step ab 4 (by decide) (by decide) (n:=1) (iE:=[u.bf[i].name]) rfl (eI (d:=4) ?_ ?_ ?_ ?_ ?_ ?_) ?_ ?_ ?_ (.inr (by omega)) ?_ ?_,?_,?_,?_⟩;any_goals(intro aD;first|(exact absurd rfl aD)|(simp;done))
      · simp(disch:=first|omega|simp only[DI.ae];omega) [-O,-U,-N,-S,-List.map_map]
      · rw[<-eT];simp(disch:=first|omega|simp only[DI.ae];omega) [-O,-U,-N,-S,-List.map_map]
      · rw[<-eT];simp(disch:=first|omega|simp only[DI.ae];omega) [-O,-U,-N,-S,-List.map_map]
      · simp(disch:=first|omega|simp only[DI.ae];omega) [-O,-U,-N,-S,-List.map_map];try omega
      · intro b hb dP;rw[<-hY]at dP;simp(disch:=first|omega|simp only[DI.ae];omega) [-O,-U,-N,-S,-List.map_map]
      · simp
      · intro aQ;cases aQ
      · intro _;rw[dr,wc G (show(k6 u.cN.length) u.bf[i]=false by simp[k6,dj,dw,h6])];simp
    simp(disch:=first|omega|simp only[DI.ae];omega) [wY,yN,yO,aL,gE,jj,ba,b9,gw,gf,aN,bU,b6,cg,kA,aT,dj,dw,h6,-O,-U,-N,-S,-List.map_map];refine bm _ _ ⟨dS di 4 (t.next+7),dS cc 4 (cc 4++[u.bf[i].name]),true,fg.step ab 4 (by decide) (by decide) (n:=1) (iE:=[u.bf[i].name]) rfl (eI (d:=4) ?_ ?_ ?_ ?_ ?_ ?_) ?_ ?_ ?_ (.inr (by omega)) ?_ ?_,?_,?_,?_⟩;any_goals(intro aD;first|(exact absurd rfl aD)|(simp;done))
    · simp(disch:=first|omega|simp only[DI.ae];omega) [-O,-U,-N,-S,-List.map_map]
    · rw[<-eT];simp(disch:=first|omega|simp only[DI.ae];omega) [-O,-U,-N,-S,-List.map_map]
    · rw[<-eT];simp(disch:=first|omega|simp only[DI.ae];omega) [-O,-U,-N,-S,-List.map_map]
    · simp(disch:=first|omega|simp only[DI.ae];omega) [-O,-U,-N,-S,-List.map_map];try omega
    · intro b hb dP;rw[<-hY]at dP;simp(disch:=first|omega|simp only[DI.ae];omega) [-O,-U,-N,-S,-List.map_map]
    · simp
    · intro _;refine⟨ll,?_,?_,we G fv (by simp[k6,dj,dw,h6])⟩
      · rw[<-eT,ck,mD,vO,ng (f:=(·.name)) G]
      · rw[<-ng (f:=(·.name)) G,ux,mF,<-ck,aT];rfl
    · intro aQ;cases aQ
  · rintro A t ⟨di,cc,b,ab,gw,iA,lZ⟩;rw[nk]at iA;have ba:=ab.ba;have b9:=ab.b9;have aN:=ab.aN;have fl:=a6 aN;have oD:T=b:=by
      cases b
      · exact lZ rfl
      · obtain⟨bu,_,bN,cn⟩:=iA rfl;rw[dr,bu,bN,cn];rfl
    have ev: ¬(((u.bf.length:Nat):Int)<u.bf.length):=(by omega);cases b
    all_goals
      simp(disch:=first|omega|simp only[DI.ae];omega) [wY,yN,yO,aL,ba,gw,aN,ev,-O,-U,-N,-S,-List.map_map];exact b2 _ _ di cc (by rw[oD];exact(ab.kF (by simp) (eI (d:=0) (λ_=>by simp) (λ_=>by simp) (λ_=>by simp) (λ_=>by simp) (λ_=>by simp) (λ_=>by simp)))) (λaQ=>by rw[oD]at aQ;exact(iA aQ).2.1)
  · funext k;by_cases e:k=4
    · subst e;simp
    · rw[nR e]
theorem aCV{u:bg}(h:bg.fO u){dC:Bool}{oM:Nat->Nat}{eC:Nat->List ByteArray}{da:aR}{c1:W}(tF:fg u dC oM eC da c1)(kd:dC=true->(eC 5).length<=10000)(tH:dC=true->er (eC 5)=true)(uv:da 15=Y 0)
    {Q:dA->aR->W->Prop} (b2: ∀A t di cc,fg u (dC&&(er (eC 5++u.aZ.map (·.name))&&u.aZ.all (kV u.bf.length u.bP))) di cc A t->((dC&&(er (eC 5++u.aZ.map (·.name))&&u.aZ.all (kV u.bf.length u.bP)))=true->cc=dS eC 5 (eC 5++u.aZ.map (·.name)))->Q (.a7 6) A t):fZ al (.loop wZ) da c1 Q:=by
  have eA:u.aZ.length<=1000:=h.pr;obtain⟨T,dr⟩: ∃T,T=(dC&&(er (eC 5++u.aZ.map (·.name))&&u.aZ.all (kV u.bf.length u.bP))):=⟨_,rfl⟩;rw[<-dr]at b2;refine h9 (aC:=⟨[r8],[yv]⟩) (λi A t=> ∃di cc b,fg u b di cc A t/\A 15=Y i/\(b=true->dC=true/\cc=dS eC 5 (eC 5++(u.aZ.take i).map (·.name))/\er (eC 5++(u.aZ.take i).map (·.name))=true/\(u.aZ.take i).all (kV u.bf.length u.bP)=true)/\(b=false->T=false)) u.aZ.length ?_ ?_ 0 da c1 (ht _) ⟨oM,eC,dC,tF,by simpa using uv,λhb=>⟨hb,?_,by simpa using tH hb,by simp⟩,λhb=>by rw[dr,hb];rfl⟩
  · rintro i A t ai ⟨di,cc,b,ab,gw,iA,lZ⟩ cS bm;have G:u.aZ[i]?=some u.aZ[i]:=cD ai;have cg:=gY (n:=i) (by omega);have b6:(i:Int)<u.aZ.length:=(by omega);have ba:=ab.ba;have b9:=ab.b9;have aN:=ab.aN;have fl:=a6 aN;have gf:=ab.nd 5 (by decide) (by decide);have bU:=ab.g 5 (by decide) (by decide);have hg:=ab.nI 5 (by decide) (by decide);have cB:=a6 bU;cases b
    · have oE:=lZ rfl;simp(disch:=first|omega|simp only[DI.ae];omega) [wZ,yH,yI,aL,ba,b9,gw,aN,b6,-O,-U,-N,-S,-List.map_map];exact b2 _ _ di cc (by rw[oE];exact(ab.kF (by simp) (eI (d:=0) (λ_=>by simp) (λ_=>by simp) (λ_=>by simp) (λ_=>by simp) (λ_=>by simp) (λ_=>by simp)))) (λaQ=>by rw[oE]at aQ;cases aQ)
    obtain⟨ll,mD,mF,fv⟩:=iA rfl;have ck:cc 5=eC 5++(u.aZ.take i).map (·.name):=(by rw[mD,sc]);have Gh:=kd ll;have tA:(cc 5).length<1000000:=(by rw[ck,kT,j5,nU];omega);obtain⟨L,eT⟩: ∃L,L=cc 5:=⟨_,rfl⟩;obtain⟨o,hY⟩: ∃o,o=di 5:=⟨_,rfl⟩;rw[<-eT]at gf bU tA ck;rw[<-hY]at gf bU hg cB;have kA:IntKind.i64.wrap ((u.bf.length:Int)-1)=(u.bf.length:Int)-1:=fV (by omega) (by have:=h.eO;omega);have xE:IntKind.i64.wrap ((u.bP.length:Int)-1)=(u.bP.length:Int)-1:=fV (by omega) (by have:=h.jN;omega);cases aT:nu L u.aZ[i].name
    · skip
      simp(disch:=first|omega|simp only[DI.ae];omega) [wZ,yH,yI,aL,gr,jj,ba,b9,gw,gf,aN,bU,b6,cg,aT,-O,-U,-N,-S,-List.map_map];refine bm _ _ ⟨dS di 5 (t.next+7),dS cc 5 (cc 5++[u.aZ[i].name]),false,fg.step ab 5 (by decide) (by decide) (n:=1) (iE:=[u.aZ[i].name]) rfl (eI (d:=5) ?_ ?_ ?_ ?_ ?_ ?_) ?_ ?_ ?_ (.inr (by omega)) ?_ ?_,?_,?_,?_⟩;any_goals(intro aD;first|(exact absurd rfl aD)|(simp;done))
      · simp(disch:=first|omega|simp only[DI.ae];omega) [-O,-U,-N,-S,-List.map_map]
      · rw[<-eT];simp(disch:=first|omega|simp only[DI.ae];omega) [-O,-U,-N,-S,-List.map_map]
      · rw[<-eT];simp(disch:=first|omega|simp only[DI.ae];omega) [-O,-U,-N,-S,-List.map_map]
      · simp(disch:=first|omega|simp only[DI.ae];omega) [-O,-U,-N,-S,-List.map_map];try omega
      · intro b hb dP;rw[<-hY]at dP;simp(disch:=first|omega|simp only[DI.ae];omega) [-O,-U,-N,-S,-List.map_map]
      · simp
      · intro aQ;cases aQ
      · intro _;rw[dr,EL (f:=(·.name)) G mF (by rw[<-ck];exact aT)];simp
    cases dj:dK u.aZ[i].model 0 ((u.bf.length:Int)-1)
    · skip
      simp(disch:=first|omega|simp only[DI.ae];omega) [wZ,yH,yI,aL,gr,jj,ba,b9,gw,gf,aN,bU,b6,cg,kA,aT,dj,-O,-U,-N,-S,-List.map_map];refine bm _ _ ⟨dS di 5 (t.next+7),dS cc 5 (cc 5++[u.aZ[i].name]),false,fg.step ab 5 (by decide) (by decide) (n:=1) (iE:=[u.aZ[i].name]) rfl (eI (d:=5) ?_ ?_ ?_ ?_ ?_ ?_) ?_ ?_ ?_ (.inr (by omega)) ?_ ?_,?_,?_,?_⟩;any_goals(intro aD;first|(exact absurd rfl aD)|(simp;done))
      · simp(disch:=first|omega|simp only[DI.ae];omega) [-O,-U,-N,-S,-List.map_map]
      · rw[<-eT];simp(disch:=first|omega|simp only[DI.ae];omega) [-O,-U,-N,-S,-List.map_map]
      · rw[<-eT];simp(disch:=first|omega|simp only[DI.ae];omega) [-O,-U,-N,-S,-List.map_map]
      · simp(disch:=first|omega|simp only[DI.ae];omega) [-O,-U,-N,-S,-List.map_map];try omega
      · intro b hb dP;rw[<-hY]at dP;simp(disch:=first|omega|simp only[DI.ae];omega) [-O,-U,-N,-S,-List.map_map]
      · simp
      · intro aQ;cases aQ
      · intro _;rw[dr,wc G (show(kV u.bf.length u.bP) u.aZ[i]=false by simp[kV,dj])];simp
    cases dw:dK u.aZ[i].w9 0 ((u.bP.length:Int)-1)
    · skip
      simp(disch:=first|omega|simp only[DI.ae];omega) [wZ,yH,yI,aL,gr,jj,ba,b9,gw,gf,aN,bU,b6,cg,kA,xE,aT,dj,dw,-O,-U,-N,-S,-List.map_map];refine bm _ _ ⟨dS di 5 (t.next+7),dS cc 5 (cc 5++[u.aZ[i].name]),false,fg.step ab 5 (by decide) (by decide) (n:=1) (iE:=[u.aZ[i].name]) rfl (eI (d:=5) ?_ ?_ ?_ ?_ ?_ ?_) ?_ ?_ ?_ (.inr (by omega)) ?_ ?_,?_,?_,?_⟩;any_goals(intro aD;first|(exact absurd rfl aD)|(simp;done))
      · simp(disch:=first|omega|simp only[DI.ae];omega) [-O,-U,-N,-S,-List.map_map]
      · rw[<-eT];simp(disch:=first|omega|simp only[DI.ae];omega) [-O,-U,-N,-S,-List.map_map]
      · rw[<-eT];simp(disch:=first|omega|simp only[DI.ae];omega) [-O,-U,-N,-S,-List.map_map]
      · simp(disch:=first|omega|simp only[DI.ae];omega) [-O,-U,-N,-S,-List.map_map];try omega
      · intro b hb dP;rw[<-hY]at dP;simp(disch:=first|omega|simp only[DI.ae];omega) [-O,-U,-N,-S,-List.map_map]
      · simp
      · intro aQ;cases aQ
      · intro _;rw[dr,wc G (show(kV u.bf.length u.bP) u.aZ[i]=false by simp[kV,dj,dw])];simp
    have zW:=tM.1 dw;obtain⟨aW,dU⟩:=jS zW.1;have z7:aW<u.bP.length:=(by omega);have mB:(aW:Int)<u.bP.length:=(by omega);have bd:u.bP[aW]?=some u.bP[aW]:=cD z7;have ax:Bk u.bP (aW:Int)=decide (u.bP[aW].jY=4):=(by unfold Bk;rw[ot,bd]);rw[dU]at dw;by_cases kW:u.bP[aW].jY=4
    case neg=>
      simp(disch:=first|omega|simp only[DI.ae];omega) [wZ,yH,yI,aL,gr,jj,ba,b9,gw,gf,aN,bU,b6,cg,kA,xE,ez,aT,dj,dw,dU,mB,kW,-O,-U,-N,-S,-List.map_map];refine bm _ _ ⟨dS di 5 (t.next+7),dS cc 5 (cc 5++[u.aZ[i].name]),false,fg.step ab 5 (by decide) (by decide) (n:=1) (iE:=[u.aZ[i].name]) rfl (eI (d:=5) ?_ ?_ ?_ ?_ ?_ ?_) ?_ ?_ ?_ (.inr (by omega)) ?_ ?_,?_,?_,?_⟩;any_goals(intro aD;first|(exact absurd rfl aD)|(simp;done))
      · simp(disch:=first|omega|simp only[DI.ae];omega) [-O,-U,-N,-S,-List.map_map]
      · rw[<-eT];simp(disch:=first|omega|simp only[DI.ae];omega) [-O,-U,-N,-S,-List.map_map]
      · rw[<-eT];simp(disch:=first|omega|simp only[DI.ae];omega) [-O,-U,-N,-S,-List.map_map]
      · simp(disch:=first|omega|simp only[DI.ae];omega) [-O,-U,-N,-S,-List.map_map];try omega
      · intro b hb dP;rw[<-hY]at dP;simp(disch:=first|omega|simp only[DI.ae];omega) [-O,-U,-N,-S,-List.map_map]
      · simp
      · intro aQ;cases aQ
      · intro _;rw[dr,wc G (show(kV u.bf.length u.bP) u.aZ[i]=false by simp[kV,dj,dw,ax,dU,kW])];simp
    simp(disch:=first|omega|simp only[DI.ae];omega) [wZ,yH,yI,aL,gr,jj,ba,b9,gw,gf,aN,bU,b6,cg,kA,xE,ez,aT,dj,dw,dU,mB,kW,-O,-U,-N,-S,-List.map_map];refine bm _ _ ⟨dS di 5 (t.next+7),dS cc 5 (cc 5++[u.aZ[i].name]),true,fg.step ab 5 (by decide) (by decide) (n:=1) (iE:=[u.aZ[i].name]) rfl (eI (d:=5) ?_ ?_ ?_ ?_ ?_ ?_) ?_ ?_ ?_ (.inr (by omega)) ?_ ?_,?_,?_,?_⟩;any_goals(intro aD;first|(exact absurd rfl aD)|(simp;done))
    · simp(disch:=first|omega|simp only[DI.ae];omega) [-O,-U,-N,-S,-List.map_map]
    · rw[<-eT];simp(disch:=first|omega|simp only[DI.ae];omega) [-O,-U,-N,-S,-List.map_map]
    · rw[<-eT];simp(disch:=first|omega|simp only[DI.ae];omega) [-O,-U,-N,-S,-List.map_map]
    · simp(disch:=first|omega|simp only[DI.ae];omega) [-O,-U,-N,-S,-List.map_map];try omega
    · intro b hb dP;rw[<-hY]at dP;simp(disch:=first|omega|simp only[DI.ae];omega) [-O,-U,-N,-S,-List.map_map]
    · simp
    · intro _;refine⟨ll,?_,?_,we G fv (by simp[kV,dj,dw,ax,dU,kW])⟩
      · rw[<-eT,ck,mD,vO,ng (f:=(·.name)) G]
      · rw[<-ng (f:=(·.name)) G,ux,mF,<-ck,aT];rfl
    · intro aQ;cases aQ
  · rintro A t ⟨di,cc,b,ab,gw,iA,lZ⟩;rw[nk]at iA;have ba:=ab.ba;have b9:=ab.b9;have aN:=ab.aN;have fl:=a6 aN;have oD:T=b:=by
      cases b
      · exact lZ rfl
      · obtain⟨bu,_,bN,cn⟩:=iA rfl;rw[dr,bu,bN,cn];rfl
    have ev: ¬(((u.aZ.length:Nat):Int)<u.aZ.length):=(by omega);cases b
    all_goals
      simp(disch:=first|omega|simp only[DI.ae];omega) [wZ,yH,yI,aL,ba,gw,aN,ev,-O,-U,-N,-S,-List.map_map];exact b2 _ _ di cc (by rw[oD];exact(ab.kF (by simp) (eI (d:=0) (λ_=>by simp) (λ_=>by simp) (λ_=>by simp) (λ_=>by simp) (λ_=>by simp) (λ_=>by simp)))) (λaQ=>by rw[oD]at aQ;exact(iA aQ).2.1)
  · funext k;by_cases e:k=5
    · subst e;simp
    · rw[nR e]
theorem aCZ{u:bg}(h:bg.fO u){dC:Bool}{oM:Nat->Nat}{eC:Nat->List ByteArray}{da:aR}{c1:W}(tF:fg u dC oM eC da c1)(kd:dC=true->(eC 7).length<=10000)(tH:dC=true->er (eC 7)=true)(uv:da 21=Y 0)
    {Q:dA->aR->W->Prop} (b2: ∀A t di cc,fg u (dC&&(er (eC 7++u.cm.map (·.name))&&u.cm.all (nS u.cK.length))) di cc A t->((dC&&(er (eC 7++u.cm.map (·.name))&&u.cm.all (nS u.cK.length)))=true->cc=dS eC 7 (eC 7++u.cm.map (·.name)))->Q (.a7 14) A t):fZ al (.loop AU) da c1 Q:=by
  have eA:u.cm.length<=1000:=h.rV;obtain⟨T,dr⟩: ∃T,T=(dC&&(er (eC 7++u.cm.map (·.name))&&u.cm.all (nS u.cK.length))):=⟨_,rfl⟩;rw[<-dr]at b2;refine h9 (aC:=⟨[r8],[yv]⟩) (λi A t=> ∃di cc b,fg u b di cc A t/\A 21=Y i/\(b=true->dC=true/\cc=dS eC 7 (eC 7++(u.cm.take i).map (·.name))/\er (eC 7++(u.cm.take i).map (·.name))=true/\(u.cm.take i).all (nS u.cK.length)=true)/\(b=false->T=false)) u.cm.length ?_ ?_ 0 da c1 (ht _) ⟨oM,eC,dC,tF,by simpa using uv,λhb=>⟨hb,?_,by simpa using tH hb,by simp⟩,λhb=>by rw[dr,hb];rfl⟩
  · rintro i A t ai ⟨di,cc,b,ab,gw,iA,lZ⟩ cS bm;have G:u.cm[i]?=some u.cm[i]:=cD ai;have cg:=gY (n:=i) (by omega);have b6:(i:Int)<u.cm.length:=(by omega);have ba:=ab.ba;have b9:=ab.b9;have aN:=ab.aN;have fl:=a6 aN;have gf:=ab.nd 7 (by decide) (by decide);have bU:=ab.g 7 (by decide) (by decide);have hg:=ab.nI 7 (by decide) (by decide);have cB:=a6 bU;cases b
    · have oE:=lZ rfl;simp(disch:=first|omega|simp only[DI.ae];omega) [AU,DS,aL,ba,b9,gw,aN,b6,-O,-U,-N,-S,-List.map_map];exact b2 _ _ di cc (by rw[oE];exact(ab.kF (by simp) (eI (d:=0) (λ_=>by simp) (λ_=>by simp) (λ_=>by simp) (λ_=>by simp) (λ_=>by simp) (λ_=>by simp)))) (λaQ=>by rw[oE]at aQ;cases aQ)
    obtain⟨ll,mD,mF,fv⟩:=iA rfl;have ck:cc 7=eC 7++(u.cm.take i).map (·.name):=(by rw[mD,sc]);have Gh:=kd ll;have tA:(cc 7).length<1000000:=(by rw[ck,kT,j5,nU];omega);obtain⟨L,eT⟩: ∃L,L=cc 7:=⟨_,rfl⟩;obtain⟨o,hY⟩: ∃o,o=di 7:=⟨_,rfl⟩;rw[<-eT]at gf bU tA ck;rw[<-hY]at gf bU hg cB;have kA:IntKind.i64.wrap ((u.cK.length:Int)-1)=(u.cK.length:Int)-1:=fV (by omega) (by have:=h.xb;omega);cases aT:nu L u.cm[i].name
    · skip
      simp(disch:=first|omega|simp only[DI.ae];omega) [AU,DS,aL,hx,jj,ba,b9,gw,gf,aN,bU,b6,cg,aT,-O,-U,-N,-S,-List.map_map];refine bm _ _ ⟨dS di 7 (t.next),dS cc 7 (cc 7++[u.cm[i].name]),false,fg.step ab 7 (by decide) (by decide) (n:=1) (iE:=[u.cm[i].name]) rfl (eI (d:=7) ?_ ?_ ?_ ?_ ?_ ?_) ?_ ?_ ?_ (.inr (by omega)) ?_ ?_,?_,?_,?_⟩;any_goals(intro aD;first|(exact absurd rfl aD)|(simp;done))
      · simp(disch:=first|omega|simp only[DI.ae];omega) [-O,-U,-N,-S,-List.map_map]
      · rw[<-eT];simp(disch:=first|omega|simp only[DI.ae];omega) [-O,-U,-N,-S,-List.map_map]
      · rw[<-eT];simp(disch:=first|omega|simp only[DI.ae];omega) [-O,-U,-N,-S,-List.map_map]
      · simp(disch:=first|omega|simp only[DI.ae];omega) [-O,-U,-N,-S,-List.map_map];try omega
      · intro b hb dP;rw[<-hY]at dP;simp(disch:=first|omega|simp only[DI.ae];omega) [-O,-U,-N,-S,-List.map_map]
      · simp
      · intro aQ;cases aQ
      · intro _;rw[dr,EL (f:=(·.name)) G mF (by rw[<-ck];exact aT)];simp
    cases dj:dK u.cm[i].qi 0 ((u.cK.length:Int)-1)
    · skip
      simp(disch:=first|omega|simp only[DI.ae];omega) [AU,DS,aL,hx,jj,ba,b9,gw,gf,aN,bU,b6,cg,kA,aT,dj,-O,-U,-N,-S,-List.map_map];refine bm _ _ ⟨dS di 7 (t.next),dS cc 7 (cc 7++[u.cm[i].name]),false,fg.step ab 7 (by decide) (by decide) (n:=1) (iE:=[u.cm[i].name]) rfl (eI (d:=7) ?_ ?_ ?_ ?_ ?_ ?_) ?_ ?_ ?_ (.inr (by omega)) ?_ ?_,?_,?_,?_⟩;any_goals(intro aD;first|(exact absurd rfl aD)|(simp;done))
      · simp(disch:=first|omega|simp only[DI.ae];omega) [-O,-U,-N,-S,-List.map_map]
      · rw[<-eT];simp(disch:=first|omega|simp only[DI.ae];omega) [-O,-U,-N,-S,-List.map_map]
      · rw[<-eT];simp(disch:=first|omega|simp only[DI.ae];omega) [-O,-U,-N,-S,-List.map_map]
      · simp(disch:=first|omega|simp only[DI.ae];omega) [-O,-U,-N,-S,-List.map_map];try omega
      · intro b hb dP;rw[<-hY]at dP;simp(disch:=first|omega|simp only[DI.ae];omega) [-O,-U,-N,-S,-List.map_map]
      · simp
      · intro aQ;cases aQ
      · intro _;rw[dr,wc G (show(nS u.cK.length) u.cm[i]=false by simp[nS,dj])];simp
    simp(disch:=first|omega|simp only[DI.ae];omega) [AU,DS,aL,hx,jj,ba,b9,gw,gf,aN,bU,b6,cg,kA,aT,dj,-O,-U,-N,-S,-List.map_map];refine bm _ _ ⟨dS di 7 (t.next),dS cc 7 (cc 7++[u.cm[i].name]),true,fg.step ab 7 (by decide) (by decide) (n:=1) (iE:=[u.cm[i].name]) rfl (eI (d:=7) ?_ ?_ ?_ ?_ ?_ ?_) ?_ ?_ ?_ (.inr (by omega)) ?_ ?_,?_,?_,?_⟩;any_goals(intro aD;first|(exact absurd rfl aD)|(simp;done))
    · simp(disch:=first|omega|simp only[DI.ae];omega) [-O,-U,-N,-S,-List.map_map]
    · rw[<-eT];simp(disch:=first|omega|simp only[DI.ae];omega) [-O,-U,-N,-S,-List.map_map]
    · rw[<-eT];simp(disch:=first|omega|simp only[DI.ae];omega) [-O,-U,-N,-S,-List.map_map]
    · simp(disch:=first|omega|simp only[DI.ae];omega) [-O,-U,-N,-S,-List.map_map];try omega
    · intro b hb dP;rw[<-hY]at dP;simp(disch:=first|omega|simp only[DI.ae];omega) [-O,-U,-N,-S,-List.map_map]
    · simp
    · intro _;refine⟨ll,?_,?_,we G fv (by simp[nS,dj])⟩
      · rw[<-eT,ck,mD,vO,ng (f:=(·.name)) G]
      · rw[<-ng (f:=(·.name)) G,ux,mF,<-ck,aT];rfl
    · intro aQ;cases aQ
  · rintro A t ⟨di,cc,b,ab,gw,iA,lZ⟩;rw[nk]at iA;have ba:=ab.ba;have b9:=ab.b9;have aN:=ab.aN;have fl:=a6 aN;have oD:T=b:=by
      cases b
      · exact lZ rfl
      · obtain⟨bu,_,bN,cn⟩:=iA rfl;rw[dr,bu,bN,cn];rfl
    have ev: ¬(((u.cm.length:Nat):Int)<u.cm.length):=(by omega);cases b
    all_goals
      simp(disch:=first|omega|simp only[DI.ae];omega) [AU,DS,aL,ba,gw,aN,ev,-O,-U,-N,-S,-List.map_map];exact b2 _ _ di cc (by rw[oD];exact(ab.kF (by simp) (eI (d:=0) (λ_=>by simp) (λ_=>by simp) (λ_=>by simp) (λ_=>by simp) (λ_=>by simp) (λ_=>by simp)))) (λaQ=>by rw[oD]at aQ;exact(iA aQ).2.1)
  · funext k;by_cases e:k=7
    · subst e;simp
    · rw[nR e]
def vM(ds l:List gB):Bool:=(List.range l.length).all λi=>match l[i]? with
    |some d=>lk ds i d
    |none=>true
theorem Jc{ds l:List gB}{i:Nat}{d:gB}(G:l[i]?=some d)(h:lk ds i d=false):vM ds l=false:=by unfold vM;rw[zF];exact⟨i,ou.2 (dO.1 G).1,by simp[G,h]⟩
theorem aEk{ds l:List gB}(h: ∀j d,l[j]?=some d->lk ds j d=true):vM ds l=true:=by
  unfold vM;rw[eQ];intro i ai;cases G:l[i]? with
  |none=>rfl
  |some d=>exact h i d G
theorem aCU{u:bg}(h:bg.fO u){R:gB}{ds:List gB}(ja:u.bP=R::ds){dC:Bool}{oM:Nat->Nat}{eC:Nat->List ByteArray}{da:aR}{c1:W}(tF:fg u dC oM eC da c1)(kd:dC=true->(eC 5).length<=10000)(tH:dC=true->er (eC 5)=true)(uv:da 13=Y 1)
    {Q:dA->aR->W->Prop} (b2: ∀A t di cc,fg u (dC&&(er (eC 5++ds.map (·.name))&&vM u.bP ds)) di cc A t->((dC&&(er (eC 5++ds.map (·.name))&&vM u.bP ds))=true->cc=dS eC 5 (eC 5++ds.map (·.name)))->Q (.a7 4) A t):fZ al (.loop tR) da c1 Q:=by
  have eA:u.bP.length<=1000:=h.jN;have aKh:u.bP.length=ds.length+1:=by rw[ja];rfl
  obtain⟨T,dr⟩: ∃T,T=(dC&&(er (eC 5++ds.map (·.name))&&vM u.bP ds)):=⟨_,rfl⟩;rw[<-dr]at b2;refine h9 (aC:=⟨[r8,Oi],[yv]⟩) (λi A t=> ∃di cc b k,k=i+1/\fg u b di cc A t/\A 13=Y k/\(b=true->dC=true/\cc=dS eC 5 (eC 5++(ds.take i).map (·.name))/\er (eC 5++(ds.take i).map (·.name))=true/\ ∀j d,j<i->ds[j]?=some d->lk u.bP j d=true)/\(b=false->T=false)) ds.length ?_ ?_ 0 da c1 (ht _) ⟨oM,eC,dC,1,rfl,tF,by simpa using uv,λhb=>⟨hb,?_,by simpa using tH hb,λj d bj=>by omega⟩,λhb=>by rw[dr,hb];rfl⟩
  · rintro i A t ai ⟨di,cc,b,k,aa,ab,gw,iA,lZ⟩ cS bm;obtain⟨cO,pb⟩: ∃cO,cO=ds[i]:=⟨_,rfl⟩;have fM:ds[i]?=some cO:=(by rw[pb];exact cD ai);have G:u.bP[k]?=some cO:=(by rw[aa,ja,xH];exact fM);have aKf:k<u.bP.length:=(by omega);have fE:=(dO.1 G).2;have cg:=gY (n:=k) (by omega);have c7:IntKind.i64.wrap ((k:Int)-1)=(i:Int):=(by rw[show(k:Int)-1=i by omega];exact fV (by omega) (by omega));have b6:(k:Int)<u.bP.length:=(by omega);have pg:cO.oj.c7:=h.bP cO (gJ G);have ba:=ab.ba;have b9:=ab.b9;have aN:=ab.aN;have fl:=a6 aN;have gf:=ab.nd 5 (by decide) (by decide);have bU:=ab.g 5 (by decide) (by decide);have hg:=ab.nI 5 (by decide) (by decide);have cB:=a6 bU;cases b
    · have oE:=lZ rfl;simp(disch:=first|omega|simp only[DI.ae];omega) [tR,ve,vf,aL,ba,b9,gw,aN,b6,-O,-U,-N,-S,-List.map_map];exact b2 _ _ di cc (by rw[oE];exact(ab.kF (by simp) (eI (d:=0) (λ_=>by simp) (λ_=>by simp) (λ_=>by simp) (λ_=>by simp) (λ_=>by simp) (λ_=>by simp)))) (λaQ=>by rw[oE]at aQ;cases aQ)
    obtain⟨ll,mD,mF,fv⟩:=iA rfl;have ck:cc 5=eC 5++(ds.take i).map (·.name):=(by rw[mD,sc]);have Gh:=kd ll;have tA:(cc 5).length<1000000:=(by rw[ck,kT,j5,nU];omega);obtain⟨L,eT⟩: ∃L,L=cc 5:=⟨_,rfl⟩;obtain⟨o,hY⟩: ∃o,o=di 5:=⟨_,rfl⟩;rw[<-eT]at gf bU tA ck;rw[<-hY]at gf bU hg cB;obtain⟨o8,Cr,akJ,X6,⟨X2,X0,X1⟩⟩:=cO;simp only at pg;cases aT:nu L o8
    · skip
      simp(disch:=first|omega|simp only[DI.ae];omega) [tR,ve,vf,aL,ez,jj,ba,b9,gw,gf,aN,bU,b6,cg,fE,aT,-O,-U,-N,-S,-List.map_map];refine bm _ _ ⟨dS di 5 (t.next+7),dS cc 5 (cc 5++[o8]),false,k+1,by omega,fg.step ab 5 (by decide) (by decide) (n:=1) (iE:=[o8]) rfl (eI (d:=5) ?_ ?_ ?_ ?_ ?_ ?_) ?_ ?_ ?_ (.inr (by omega)) ?_ ?_,?_,?_,?_⟩;any_goals(intro aD;first|(exact absurd rfl aD)|(simp;done))
      · simp(disch:=first|omega|simp only[DI.ae];omega) [-O,-U,-N,-S,-List.map_map]
      · rw[<-eT];simp(disch:=first|omega|simp only[DI.ae];omega) [-O,-U,-N,-S,-List.map_map]
      · rw[<-eT];simp(disch:=first|omega|simp only[DI.ae];omega) [-O,-U,-N,-S,-List.map_map]
      · simp(disch:=first|omega|simp only[DI.ae];omega) [-O,-U,-N,-S,-List.map_map];try omega
      · intro b hb dP;rw[<-hY]at dP;simp(disch:=first|omega|simp only[DI.ae];omega) [-O,-U,-N,-S,-List.map_map]
      · simp
      · intro aQ;cases aQ
      · intro _;rw[dr,EL (f:=(·.name)) fM mF (by rw[<-ck];exact aT)];simp
    cases dj:dK Cr 1 4
    · skip
      simp(disch:=first|omega|simp only[DI.ae];omega) [tR,ve,vf,aL,ez,jj,ba,b9,gw,gf,aN,bU,b6,cg,fE,aT,dj,-O,-U,-N,-S,-List.map_map];refine bm _ _ ⟨dS di 5 (t.next+7),dS cc 5 (cc 5++[o8]),false,k+1,by omega,fg.step ab 5 (by decide) (by decide) (n:=1) (iE:=[o8]) rfl (eI (d:=5) ?_ ?_ ?_ ?_ ?_ ?_) ?_ ?_ ?_ (.inr (by omega)) ?_ ?_,?_,?_,?_⟩;any_goals(intro aD;first|(exact absurd rfl aD)|(simp;done))
      · simp(disch:=first|omega|simp only[DI.ae];omega) [-O,-U,-N,-S,-List.map_map]
      · rw[<-eT];simp(disch:=first|omega|simp only[DI.ae];omega) [-O,-U,-N,-S,-List.map_map]
      · rw[<-eT];simp(disch:=first|omega|simp only[DI.ae];omega) [-O,-U,-N,-S,-List.map_map]
      · simp(disch:=first|omega|simp only[DI.ae];omega) [-O,-U,-N,-S,-List.map_map];try omega
      · intro b hb dP;rw[<-hY]at dP;simp(disch:=first|omega|simp only[DI.ae];omega) [-O,-U,-N,-S,-List.map_map]
      · simp
      · intro aQ;cases aQ
      · intro _;rw[dr,Jc (ds:=u.bP) fM (by simp[lk,dj])];simp
    have aJh:=tM.1 dj;have kA:IntKind.i64.wrap (Cr-1)=Cr-1:=fV (by omega) (by omega);cases dw:dK akJ 0 i
    · skip
      simp(disch:=first|omega|simp only[DI.ae];omega) [tR,ve,vf,aL,ez,jj,ba,b9,gw,gf,aN,bU,b6,cg,c7,fE,aT,dj,dw,-O,-U,-N,-S,-List.map_map];refine bm _ _ ⟨dS di 5 (t.next+7),dS cc 5 (cc 5++[o8]),false,k+1,by omega,fg.step ab 5 (by decide) (by decide) (n:=1) (iE:=[o8]) rfl (eI (d:=5) ?_ ?_ ?_ ?_ ?_ ?_) ?_ ?_ ?_ (.inr (by omega)) ?_ ?_,?_,?_,?_⟩;any_goals(intro aD;first|(exact absurd rfl aD)|(simp;done))
      · simp(disch:=first|omega|simp only[DI.ae];omega) [-O,-U,-N,-S,-List.map_map]
      · rw[<-eT];simp(disch:=first|omega|simp only[DI.ae];omega) [-O,-U,-N,-S,-List.map_map]
      · rw[<-eT];simp(disch:=first|omega|simp only[DI.ae];omega) [-O,-U,-N,-S,-List.map_map]
      · simp(disch:=first|omega|simp only[DI.ae];omega) [-O,-U,-N,-S,-List.map_map];try omega
      · intro b hb dP;rw[<-hY]at dP;simp(disch:=first|omega|simp only[DI.ae];omega) [-O,-U,-N,-S,-List.map_map]
      · simp
      · intro aQ;cases aQ
      · intro _;rw[dr,Jc (ds:=u.bP) fM (by simp[lk,dj,dw])];simp
    have zW:=tM.1 dw;obtain⟨aW,rfl⟩:=jS zW.1;have z7:aW<u.bP.length:=(by omega);have mB:(aW:Int)<u.bP.length:=(by omega);have bd:u.bP[aW]?=some u.bP[aW]:=cD z7;have ax:Bg u.bP ⟨o8,Cr,(aW:Int),X6,⟨X2,X0,X1⟩⟩=decide (u.bP[aW].jY=Cr-1):=(by unfold Bg;simp only[ot,bd]);by_cases h6:u.bP[aW].jY=Cr-1
    case neg=>
      simp(disch:=first|omega|simp only[DI.ae];omega) [tR,ve,vf,aL,ez,jj,ba,b9,gw,gf,aN,bU,b6,cg,c7,fE,aT,dj,dw,kA,mB,h6,-O,-U,-N,-S,-List.map_map];refine bm _ _ ⟨dS di 5 (t.next+7),dS cc 5 (cc 5++[o8]),false,k+1,by omega,fg.step ab 5 (by decide) (by decide) (n:=1) (iE:=[o8]) rfl (eI (d:=5) ?_ ?_ ?_ ?_ ?_ ?_) ?_ ?_ ?_ (.inr (by omega)) ?_ ?_,?_,?_,?_⟩;any_goals(intro aD;first|(exact absurd rfl aD)|(simp;done))
      · simp(disch:=first|omega|simp only[DI.ae];omega) [-O,-U,-N,-S,-List.map_map]
      · rw[<-eT];simp(disch:=first|omega|simp only[DI.ae];omega) [-O,-U,-N,-S,-List.map_map]
      · rw[<-eT];simp(disch:=first|omega|simp only[DI.ae];omega) [-O,-U,-N,-S,-List.map_map]
      · simp(disch:=first|omega|simp only[DI.ae];omega) [-O,-U,-N,-S,-List.map_map];try omega
      · intro b hb dP;rw[<-hY]at dP;simp(disch:=first|omega|simp only[DI.ae];omega) [-O,-U,-N,-S,-List.map_map]
      · simp
      · intro aQ;cases aQ
      · intro _;rw[dr,Jc (ds:=u.bP) fM (by simp[lk,dj,dw,ax,h6])];simp
    cases kW:dK X6 1 64
    · skip
      simp(disch:=first|omega|simp only[DI.ae];omega) [tR,ve,vf,aL,ez,jj,ba,b9,gw,gf,aN,bU,b6,cg,c7,fE,aT,dj,dw,kA,mB,h6,kW,-O,-U,-N,-S,-List.map_map];refine bm _ _ ⟨dS di 5 (t.next+7),dS cc 5 (cc 5++[o8]),false,k+1,by omega,fg.step ab 5 (by decide) (by decide) (n:=1) (iE:=[o8]) rfl (eI (d:=5) ?_ ?_ ?_ ?_ ?_ ?_) ?_ ?_ ?_ (.inr (by omega)) ?_ ?_,?_,?_,?_⟩;any_goals(intro aD;first|(exact absurd rfl aD)|(simp;done))
      · simp(disch:=first|omega|simp only[DI.ae];omega) [-O,-U,-N,-S,-List.map_map]
      · rw[<-eT];simp(disch:=first|omega|simp only[DI.ae];omega) [-O,-U,-N,-S,-List.map_map]
      · rw[<-eT];simp(disch:=first|omega|simp only[DI.ae];omega) [-O,-U,-N,-S,-List.map_map]
      · simp(disch:=first|omega|simp only[DI.ae];omega) [-O,-U,-N,-S,-List.map_map];try omega
      · intro b hb dP;rw[<-hY]at dP;simp(disch:=first|omega|simp only[DI.ae];omega) [-O,-U,-N,-S,-List.map_map]
      · simp
      · intro aQ;cases aQ
      · intro _;rw[dr,Jc (ds:=u.bP) fM (by simp[lk,dj,dw,ax,h6,kW])];simp
    cases Ct:(b1.mk X2 X0 X1).bF.small
    · skip
      simp(disch:=first|omega|simp only[DI.ae];omega) [tR,ve,vf,aL,ez,jj,ba,b9,gw,gf,aN,bU,b6,cg,c7,fE,aT,dj,dw,kA,mB,h6,kW,Ct,-O,-U,-N,-S,-List.map_map];refine bm _ _ ⟨dS di 5 (t.next+7),dS cc 5 (cc 5++[o8]),false,k+1,by omega,fg.step ab 5 (by decide) (by decide) (n:=1) (iE:=[o8]) rfl (eI (d:=5) ?_ ?_ ?_ ?_ ?_ ?_) ?_ ?_ ?_ (.inr (by omega)) ?_ ?_,?_,?_,?_⟩;any_goals(intro aD;first|(exact absurd rfl aD)|(simp;done))
      · simp(disch:=first|omega|simp only[DI.ae];omega) [-O,-U,-N,-S,-List.map_map]
      · rw[<-eT];simp(disch:=first|omega|simp only[DI.ae];omega) [-O,-U,-N,-S,-List.map_map]
      · rw[<-eT];simp(disch:=first|omega|simp only[DI.ae];omega) [-O,-U,-N,-S,-List.map_map]
      · simp(disch:=first|omega|simp only[DI.ae];omega) [-O,-U,-N,-S,-List.map_map];try omega
      · intro b hb dP;rw[<-hY]at dP;simp(disch:=first|omega|simp only[DI.ae];omega) [-O,-U,-N,-S,-List.map_map]
      · simp
      · intro aQ;cases aQ
      · intro _;rw[dr,Jc (ds:=u.bP) fM (by simp[lk,dj,dw,ax,h6,kW,Ct])];simp
    · skip
      simp(disch:=first|omega|simp only[DI.ae];omega) [tR,ve,vf,aL,ez,jj,ba,b9,gw,gf,aN,bU,b6,cg,c7,fE,aT,dj,dw,kA,mB,h6,kW,Ct,-O,-U,-N,-S,-List.map_map];refine bm _ _ ⟨dS di 5 (t.next+7),dS cc 5 (cc 5++[o8]),true,k+1,by omega,fg.step ab 5 (by decide) (by decide) (n:=1) (iE:=[o8]) rfl (eI (d:=5) ?_ ?_ ?_ ?_ ?_ ?_) ?_ ?_ ?_ (.inr (by omega)) ?_ ?_,?_,?_,?_⟩;any_goals(intro aD;first|(exact absurd rfl aD)|(simp;done))
      · simp(disch:=first|omega|simp only[DI.ae];omega) [-O,-U,-N,-S,-List.map_map]
      · rw[<-eT];simp(disch:=first|omega|simp only[DI.ae];omega) [-O,-U,-N,-S,-List.map_map]
      · rw[<-eT];simp(disch:=first|omega|simp only[DI.ae];omega) [-O,-U,-N,-S,-List.map_map]
      · simp(disch:=first|omega|simp only[DI.ae];omega) [-O,-U,-N,-S,-List.map_map];try omega
      · intro b hb dP;rw[<-hY]at dP;simp(disch:=first|omega|simp only[DI.ae];omega) [-O,-U,-N,-S,-List.map_map]
      · simp
      · intro _;refine⟨ll,?_,?_,λj d bj aD=> ?_⟩
        · rw[<-eT,ck,mD,vO,<-ng (f:=(·.name)) fM]
        · rw[<-ng (f:=(·.name)) fM,ux,mF,<-ck];exact aT
        · by_cases e:j=i
          · subst e;rw[fM]at aD;cases aD;simp[lk,dj,dw,ax,h6,kW,Ct]
          · exact fv j d (by omega) aD
      · intro aQ;cases aQ
  · rintro A t ⟨di,cc,b,k,aa,ab,gw,iA,lZ⟩;rw[nk]at iA;have ba:=ab.ba;have b9:=ab.b9;have aN:=ab.aN;have fl:=a6 aN;have oD:T=b:=by
      cases b
      · exact lZ rfl
      · obtain⟨bu,_,bN,cn⟩:=iA rfl;rw[dr,bu,bN,aEk λj d aD=>cn j d (dO.1 aD).1 aD];rfl
    have ev: ¬(k:Int)<u.bP.length:=(by omega);cases b
    all_goals
      simp(disch:=first|omega|simp only[DI.ae];omega) [tR,ve,vf,aL,ba,gw,aN,ev,-O,-U,-N,-S,-List.map_map];exact b2 _ _ di cc (by rw[oD];exact(ab.kF (by simp) (eI (d:=0) (λ_=>by simp) (λ_=>by simp) (λ_=>by simp) (λ_=>by simp) (λ_=>by simp) (λ_=>by simp)))) (λaQ=>by rw[oD]at aQ;exact(iA aQ).2.1)
  · funext k;by_cases e:k=5
    · subst e;simp
    · rw[nR e]
theorem fg.XS{u:bg}{b dd:Bool}{di:Nat->Nat}{cc:Nat->List ByteArray}{A ak:aR}{t:W}(h:fg u b di cc A t)(hK:ak 8= .bool dd)(K: ∀k∈lU,ak k=A k):fg u dd di cc ak t:=
  ⟨(K 1 (by decide)).trans h.ba,hK,h.aN,λk E I=>by have:k=3\/k=4\/k=5\/k=6\/k=7:=(by omega);have ax:k∈lU:=(by rcases this with rfl|rfl|rfl|rfl|rfl<;>decide);exact(K k ax).trans (h.nd k E I),h.g,h.inj,h.nI⟩
theorem aD2: ∀k∈lU,k∈vJ:=by decide
theorem II{u:bg}(h:bg.fO u){x:iL}{q:Nat}{aV:Bool}{di:Nat->Nat}{cc:Nat->List ByteArray}{bQ:aR}{bD:W}(p5:fg u aV di cc bQ bD)(eA:x.bf.length<1000000)(mg:bD.X q=some ⟨e5 x,true⟩)(r6:bQ 18=cw q)(vF:bQ 19=Y 0)
    {Q:dA->aR->W->Prop} (b2: ∀dt,fg u (aV&&oJ x.bf u.bf.length) di cc dt bD->dt 17=bQ 17->Q (.a7 10) dt bD):fZ al (.loop DV) bQ bD Q:=
  aCX h eA p5.aN mg p5.ba r6 vF p5.b9 λdt K Ko=>b2 dt (p5.XS Ko λk aa=>K k (aD2 k aa)) (K 17 (by decide))
theorem aCY{u:bg}(h:bg.fO u){dC:Bool}{oM:Nat->Nat}{eC:Nat->List ByteArray}{da:aR}{c1:W}(tF:fg u dC oM eC da c1)(kd:dC=true->(eC 6).length<=10000)(tH:dC=true->er (eC 6)=true)(uv:da 17=Y 0)
    {Q:dA->aR->W->Prop} (b2: ∀A t di cc,fg u (dC&&(er (eC 6++u.cK.map (·.name))&&u.cK.all (iK · u.bf.length))) di cc A t->((dC&&(er (eC 6++u.cK.map (·.name))&&u.cK.all (iK · u.bf.length)))=true->cc=dS eC 6 (eC 6++u.cK.map (·.name)))->Q (.a7 8) A t):fZ al (.loop w0) da c1 Q:=by
  have eA:u.cK.length<=1000:=h.xb;obtain⟨T,dr⟩: ∃T,T=(dC&&(er (eC 6++u.cK.map (·.name))&&u.cK.all (iK · u.bf.length))):=⟨_,rfl⟩;rw[<-dr]at b2;refine h9 (aC:=⟨[Vk,Vj],[yv]⟩) (λi A t=> ∃di cc b,fg u b di cc A t/\A 17=Y i/\(b=true->dC=true/\cc=dS eC 6 (eC 6++(u.cK.take i).map (·.name))/\er (eC 6++(u.cK.take i).map (·.name))=true/\(u.cK.take i).all (iK · u.bf.length)=true)/\(b=false->T=false)) u.cK.length ?_ ?_ 0 da c1 (ht _) ⟨oM,eC,dC,tF,by simpa using uv,λhb=>⟨hb,?_,by simpa using tH hb,by simp⟩,λhb=>by rw[dr,hb];rfl⟩
  · rintro i A t ai ⟨di,cc,b,ab,gw,iA,lZ⟩ cS bm;obtain⟨x,ZA⟩: ∃x,x=u.cK[i]:=⟨_,rfl⟩;have G:u.cK[i]?=some x:=(by rw[ZA];exact cD ai);have fE:u.cK[i]=x:=ZA.symm;have cg:=gY (n:=i) (by omega);have b6:(i:Int)<u.cK.length:=(by omega);have ba:=ab.ba;have b9:=ab.b9;have aN:=ab.aN;have fl:=a6 aN;have gf:=ab.nd 6 (by decide) (by decide);have bU:=ab.g 6 (by decide) (by decide);have hg:=ab.nI 6 (by decide) (by decide);have cB:=a6 bU;cases b
    · have oE:=lZ rfl;simp(disch:=first|omega|simp only[DI.ae];omega) [w0,yJ,yK,yL,yM,aL,ba,b9,gw,aN,b6,-O,-U,-N,-S,-List.map_map];exact b2 _ _ di cc (by rw[oE];exact(ab.kF (by simp) (eI (d:=0) (λ_=>by simp) (λ_=>by simp) (λ_=>by simp) (λ_=>by simp) (λ_=>by simp) (λ_=>by simp)))) (λaQ=>by rw[oE]at aQ;cases aQ)
    obtain⟨ll,mD,mF,fv⟩:=iA rfl;have ck:cc 6=eC 6++(u.cK.take i).map (·.name):=(by rw[mD,sc]);have Gh:=kd ll;have tA:(cc 6).length<1000000:=(by rw[ck,kT,j5,nU];omega);obtain⟨L,eT⟩: ∃L,L=cc 6:=⟨_,rfl⟩;obtain⟨o,hY⟩: ∃o,o=di 6:=⟨_,rfl⟩;rw[<-eT]at gf bU tA ck;rw[<-hY]at gf bU hg cB;obtain⟨fs,g7,jl,nL⟩:=h.cK x (gJ G);obtain⟨eO,k,m,q,⟨a,b,c,d,e⟩,gR,j2,⟨gU,sV,om⟩,⟨az,aA,hb⟩⟩:=x;simp only at fs g7 jl nL;obtain⟨aV,cT⟩: ∃aV,aV=(nu L eO&&(lN k m q ⟨a,b,c,d,e⟩&&(nM m j2 ⟨gU,sV,om⟩ ⟨az,aA,hb⟩&& !gR.isEmpty))):=⟨_,rfl⟩;have ad:iK ⟨eO,k,m,q,⟨a,b,c,d,e⟩,gR,j2,⟨gU,sV,om⟩,⟨az,aA,hb⟩⟩ u.bf.length=(lN k m q ⟨a,b,c,d,e⟩&&(nM m j2 ⟨gU,sV,om⟩ ⟨az,aA,hb⟩&&(!gR.isEmpty&&oJ gR u.bf.length))):=by
      unfold iK oJ;simp only;rw[Bool.eq_iff_iff];simp only[a1];constructor
      · rintro⟨a,b,c,d⟩;exact⟨a,c,b,d⟩
      · rintro⟨a,c,b,d⟩;exact⟨a,b,c,d⟩
    have Fk: ∀ta,ta=aV->(ta&&oJ gR u.bf.length)=false->T=false:=by
      intro ta eq aQ;rw[eq,cT]at aQ;cases aT:nu L eO
      · rw[dr,EL (f:=(·.name)) G mF (by rw[<-ck];exact aT)];simp
      · rw[aT,s8]at aQ;rw[dr,wc G (show(iK · u.bf.length) (iL.mk eO k m q ⟨a,b,c,d,e⟩ gR j2 ⟨gU,sV,om⟩ ⟨az,aA,hb⟩)=false by show iK _ _=false;rw[ad];simpa[zI]using aQ)];simp
    have FU: ∀ta,ta=aV->(ta&&oJ gR u.bf.length)=true->nu L eO=true/\iK ⟨eO,k,m,q,⟨a,b,c,d,e⟩,gR,j2,⟨gU,sV,om⟩,⟨az,aA,hb⟩⟩ u.bf.length=true:=(by intro ta eq aQ;rw[eq,cT]at aQ;simp only[a1]at aQ;rw[ad];simp only[a1];exact⟨aQ.1.1,aQ.1.2.1,aQ.1.2.2.1,aQ.1.2.2.2,aQ.2⟩);cases aT:nu L eO
    · skip
      have qK:false=aV:=(by rw[cT];simp[aT]);simp(disch:=first|omega|simp only[DI.ae];omega) [w0,yJ,yK,yL,yM,aL,e5,jj,ba,b9,gw,gf,aN,bU,b6,fE,aT,-O,-U,-N,-S,-List.map_map];refine II h (x:=⟨eO,k,m,q,⟨a,b,c,d,e⟩,gR,j2,⟨gU,sV,om⟩,⟨az,aA,hb⟩⟩) (q:=t.next+5) (fg.step ab 6 (dd:=false) (o:=t.next+7) (by decide) (by decide) (n:=1) (iE:=[eO]) rfl (eI (d:=6) ?_ ?_ ?_ ?_ ?_ ?_) ?_ ?_ ?_ (.inr (by omega)) ?_ ?_) nL (by simp(disch:=first|omega|simp only[DI.ae];omega) [e5,-O,-U,-N,-S,-List.map_map]) (by simp) (by simp) λdt nz wo=> ?_;any_goals(intro aD;first|(exact absurd rfl aD)|(simp;done))
      · simp(disch:=first|omega|simp only[DI.ae];omega) [-O,-U,-N,-S,-List.map_map]
      · rw[<-eT];simp(disch:=first|omega|simp only[DI.ae];omega) [-O,-U,-N,-S,-List.map_map]
      · rw[<-eT];simp(disch:=first|omega|simp only[DI.ae];omega) [-O,-U,-N,-S,-List.map_map]
      · simp(disch:=first|omega|simp only[DI.ae];omega) [-O,-U,-N,-S,-List.map_map];try omega
      · intro b hb dP;rw[<-hY]at dP;simp(disch:=first|omega|simp only[DI.ae];omega) [-O,-U,-N,-S,-List.map_map]
      have wq:dt 17=Y i:=wo.trans (by simp[gw]);simp(disch:=first|omega|simp only[DI.ae];omega) [wq,cg,-O,-U,-N,-S,-List.map_map];refine bm _ _ ⟨_,_,_,nz.kF (by simp) (eI (d:=0) (λ_=>by simp) (λ_=>by simp) (λ_=>by simp) (λ_=>by simp) (λ_=>by simp) (λ_=>by simp)),by simp,λaQ=> ?_,λaQ=>Fk _ qK aQ⟩;obtain⟨aK,bb⟩:=FU _ qK aQ;refine⟨ll,?_,?_,we G fv bb⟩
      · rw[<-eT,ck,mD,vO,<-ng (f:=(·.name)) G]
      · rw[<-ng (f:=(·.name)) G,ux,mF,<-ck];exact aK
    cases dj:lN k m q ⟨a,b,c,d,e⟩
    · skip
      have qK:false=aV:=(by rw[cT];simp[aT,dj]);simp(disch:=first|omega|simp only[DI.ae];omega) [w0,yJ,yK,yL,yM,aL,e5,jj,ba,b9,gw,gf,aN,bU,b6,fE,aT,dj,-O,-U,-N,-S,-List.map_map];refine II h (x:=⟨eO,k,m,q,⟨a,b,c,d,e⟩,gR,j2,⟨gU,sV,om⟩,⟨az,aA,hb⟩⟩) (q:=t.next+5) (fg.step ab 6 (dd:=false) (o:=t.next+7) (by decide) (by decide) (n:=1) (iE:=[eO]) rfl (eI (d:=6) ?_ ?_ ?_ ?_ ?_ ?_) ?_ ?_ ?_ (.inr (by omega)) ?_ ?_) nL (by simp(disch:=first|omega|simp only[DI.ae];omega) [e5,-O,-U,-N,-S,-List.map_map]) (by simp) (by simp) λdt nz wo=> ?_;any_goals(intro aD;first|(exact absurd rfl aD)|(simp;done))
      · simp(disch:=first|omega|simp only[DI.ae];omega) [-O,-U,-N,-S,-List.map_map]
      · rw[<-eT];simp(disch:=first|omega|simp only[DI.ae];omega) [-O,-U,-N,-S,-List.map_map]
      · rw[<-eT];simp(disch:=first|omega|simp only[DI.ae];omega) [-O,-U,-N,-S,-List.map_map]
      · simp(disch:=first|omega|simp only[DI.ae];omega) [-O,-U,-N,-S,-List.map_map];try omega
      · intro b hb dP;rw[<-hY]at dP;simp(disch:=first|omega|simp only[DI.ae];omega) [-O,-U,-N,-S,-List.map_map]
      have wq:dt 17=Y i:=wo.trans (by simp[gw]);simp(disch:=first|omega|simp only[DI.ae];omega) [wq,cg,-O,-U,-N,-S,-List.map_map];refine bm _ _ ⟨_,_,_,nz.kF (by simp) (eI (d:=0) (λ_=>by simp) (λ_=>by simp) (λ_=>by simp) (λ_=>by simp) (λ_=>by simp) (λ_=>by simp)),by simp,λaQ=> ?_,λaQ=>Fk _ qK aQ⟩;obtain⟨aK,bb⟩:=FU _ qK aQ;refine⟨ll,?_,?_,we G fv bb⟩
      · rw[<-eT,ck,mD,vO,<-ng (f:=(·.name)) G]
      · rw[<-ng (f:=(·.name)) G,ux,mF,<-ck];exact aK
    have ak2:0<=m/\m<=4:=(by have:dK m 0 4=true:=(by simp only[lN,a1]at dj;exact dj.2.1);exact tM.1 this);have Gi:(0<=m/\m<=4)/\((∀x∈j2,x.c7)/\j2.length<1000000)/\(b1.mk gU sV om).c7/\(b1.mk az aA hb).c7:=⟨ak2,fs,g7,jl⟩;cases dw:nM m j2 ⟨gU,sV,om⟩ ⟨az,aA,hb⟩
    · skip
      have qK:false=aV:=(by rw[cT];simp[aT,dj,dw]);simp(disch:=first|omega|simp only[DI.ae];omega) [w0,yJ,yK,yL,yM,aL,e5,jj,ba,b9,gw,gf,aN,bU,b6,fE,aT,dj,dw,-O,-U,-N,-S,-List.map_map];refine II h (x:=⟨eO,k,m,q,⟨a,b,c,d,e⟩,gR,j2,⟨gU,sV,om⟩,⟨az,aA,hb⟩⟩) (q:=t.next+5) (fg.step ab 6 (dd:=false) (o:=t.next+7) (by decide) (by decide) (n:=1) (iE:=[eO]) rfl (eI (d:=6) ?_ ?_ ?_ ?_ ?_ ?_) ?_ ?_ ?_ (.inr (by omega)) ?_ ?_) nL (by simp(disch:=first|omega|simp only[DI.ae];omega) [e5,-O,-U,-N,-S,-List.map_map]) (by simp) (by simp) λdt nz wo=> ?_;any_goals(intro aD;first|(exact absurd rfl aD)|(simp;done))
      · simp(disch:=first|omega|simp only[DI.ae];omega) [-O,-U,-N,-S,-List.map_map]
      · rw[<-eT];simp(disch:=first|omega|simp only[DI.ae];omega) [-O,-U,-N,-S,-List.map_map]
      · rw[<-eT];simp(disch:=first|omega|simp only[DI.ae];omega) [-O,-U,-N,-S,-List.map_map]
      · simp(disch:=first|omega|simp only[DI.ae];omega) [-O,-U,-N,-S,-List.map_map];try omega
      · intro b hb dP;rw[<-hY]at dP;simp(disch:=first|omega|simp only[DI.ae];omega) [-O,-U,-N,-S,-List.map_map]
      have wq:dt 17=Y i:=wo.trans (by simp[gw]);simp(disch:=first|omega|simp only[DI.ae];omega) [wq,cg,-O,-U,-N,-S,-List.map_map];refine bm _ _ ⟨_,_,_,nz.kF (by simp) (eI (d:=0) (λ_=>by simp) (λ_=>by simp) (λ_=>by simp) (λ_=>by simp) (λ_=>by simp) (λ_=>by simp)),by simp,λaQ=> ?_,λaQ=>Fk _ qK aQ⟩;obtain⟨aK,bb⟩:=FU _ qK aQ;refine⟨ll,?_,?_,we G fv bb⟩
      · rw[<-eT,ck,mD,vO,<-ng (f:=(·.name)) G]
      · rw[<-ng (f:=(·.name)) G,ux,mF,<-ck];exact aK
    by_cases KT:gR.length=0
    · have QR: ¬(0:Int)<gR.length:=(by omega);have QT:gR.isEmpty=true:=(by rw[Pf];exact KT);have QS:gR=[]:=qu.1 KT;have qK:false=aV:=(by rw[cT];simp[aT,dj,dw,QT]);simp(disch:=first|omega|simp only[DI.ae];omega) [w0,yJ,yK,yL,yM,aL,e5,jj,ba,b9,gw,gf,aN,bU,b6,fE,aT,dj,dw,KT,-O,-U,-N,-S,-List.map_map];refine II h (x:=⟨eO,k,m,q,⟨a,b,c,d,e⟩,gR,j2,⟨gU,sV,om⟩,⟨az,aA,hb⟩⟩) (q:=t.next+5) (fg.step ab 6 (dd:=false) (o:=t.next+7) (by decide) (by decide) (n:=1) (iE:=[eO]) rfl (eI (d:=6) ?_ ?_ ?_ ?_ ?_ ?_) ?_ ?_ ?_ (.inr (by omega)) ?_ ?_) nL (by simp(disch:=first|omega|simp only[DI.ae];omega) [e5,-O,-U,-N,-S,-List.map_map]) (by simp) (by simp) λdt nz wo=> ?_;any_goals(intro aD;first|(exact absurd rfl aD)|(simp;done))
      · simp(disch:=first|omega|simp only[DI.ae];omega) [-O,-U,-N,-S,-List.map_map]
      · rw[<-eT];simp(disch:=first|omega|simp only[DI.ae];omega) [-O,-U,-N,-S,-List.map_map]
      · rw[<-eT];simp(disch:=first|omega|simp only[DI.ae];omega) [-O,-U,-N,-S,-List.map_map]
      · simp(disch:=first|omega|simp only[DI.ae];omega) [-O,-U,-N,-S,-List.map_map];try omega
      · intro b hb dP;rw[<-hY]at dP;simp(disch:=first|omega|simp only[DI.ae];omega) [-O,-U,-N,-S,-List.map_map]
      have wq:dt 17=Y i:=wo.trans (by simp[gw]);simp(disch:=first|omega|simp only[DI.ae];omega) [wq,cg,-O,-U,-N,-S,-List.map_map];refine bm _ _ ⟨_,_,_,nz.kF (by simp) (eI (d:=0) (λ_=>by simp) (λ_=>by simp) (λ_=>by simp) (λ_=>by simp) (λ_=>by simp) (λ_=>by simp)),by simp,λaQ=> ?_,λaQ=>Fk _ qK aQ⟩;obtain⟨aK,bb⟩:=FU _ qK aQ;refine⟨ll,?_,?_,we G fv bb⟩
      · rw[<-eT,ck,mD,vO,<-ng (f:=(·.name)) G]
      · rw[<-ng (f:=(·.name)) G,ux,mF,<-ck];exact aK
    have QR:(0:Int)<gR.length:=(by omega);have alS:0<gR.length:=(by omega);have QT:gR.isEmpty=false:=by
      cases bd:gR.isEmpty
      · rfl
      · rw[Pf]at bd;exact absurd bd KT
    have qK:true=aV:=(by rw[cT];simp[aT,dj,dw,QT]);simp(disch:=first|omega|simp only[DI.ae];omega) [w0,yJ,yK,yL,yM,aL,e5,jj,ba,b9,gw,gf,aN,bU,b6,fE,aT,dj,dw,alS,-O,-U,-N,-S,-List.map_map];refine II h (x:=⟨eO,k,m,q,⟨a,b,c,d,e⟩,gR,j2,⟨gU,sV,om⟩,⟨az,aA,hb⟩⟩) (q:=t.next+5) (fg.step ab 6 (dd:=true) (o:=t.next+7) (by decide) (by decide) (n:=1) (iE:=[eO]) rfl (eI (d:=6) ?_ ?_ ?_ ?_ ?_ ?_) ?_ ?_ ?_ (.inr (by omega)) ?_ ?_) nL (by simp(disch:=first|omega|simp only[DI.ae];omega) [e5,-O,-U,-N,-S,-List.map_map]) (by simp) (by simp) λdt nz wo=> ?_;any_goals(intro aD;first|(exact absurd rfl aD)|(simp;done))
    · simp(disch:=first|omega|simp only[DI.ae];omega) [-O,-U,-N,-S,-List.map_map]
    · rw[<-eT];simp(disch:=first|omega|simp only[DI.ae];omega) [-O,-U,-N,-S,-List.map_map]
    · rw[<-eT];simp(disch:=first|omega|simp only[DI.ae];omega) [-O,-U,-N,-S,-List.map_map]
    · simp(disch:=first|omega|simp only[DI.ae];omega) [-O,-U,-N,-S,-List.map_map];try omega
    · intro b hb dP;rw[<-hY]at dP;simp(disch:=first|omega|simp only[DI.ae];omega) [-O,-U,-N,-S,-List.map_map]
    have wq:dt 17=Y i:=wo.trans (by simp[gw]);simp(disch:=first|omega|simp only[DI.ae];omega) [wq,cg,-O,-U,-N,-S,-List.map_map];refine bm _ _ ⟨_,_,_,nz.kF (by simp) (eI (d:=0) (λ_=>by simp) (λ_=>by simp) (λ_=>by simp) (λ_=>by simp) (λ_=>by simp) (λ_=>by simp)),by simp,λaQ=> ?_,λaQ=>Fk _ qK aQ⟩;obtain⟨aK,bb⟩:=FU _ qK aQ;refine⟨ll,?_,?_,we G fv bb⟩
    · rw[<-eT,ck,mD,vO,<-ng (f:=(·.name)) G]
    · rw[<-ng (f:=(·.name)) G,ux,mF,<-ck];exact aK
  · rintro A t ⟨di,cc,b,ab,gw,iA,lZ⟩;rw[nk]at iA;have ba:=ab.ba;have b9:=ab.b9;have aN:=ab.aN;have fl:=a6 aN;have oD:T=b:=by
      cases b
      · exact lZ rfl
      · obtain⟨bu,_,bN,cn⟩:=iA rfl;rw[dr,bu,bN,cn];rfl
    have ev: ¬(((u.cK.length:Nat):Int)<u.cK.length):=(by omega);cases b
    all_goals
      simp(disch:=first|omega|simp only[DI.ae];omega) [w0,yJ,yK,yL,yM,aL,ba,gw,aN,ev,-O,-U,-N,-S,-List.map_map];exact b2 _ _ di cc (by rw[oD];exact(ab.kF (by simp) (eI (d:=0) (λ_=>by simp) (λ_=>by simp) (λ_=>by simp) (λ_=>by simp) (λ_=>by simp) (λ_=>by simp)))) (λaQ=>by rw[oD]at aQ;exact(iA aQ).2.1)
  · funext k;by_cases e:k=6
    · subst e;simp
    · rw[nR e]
theorem aCq{x:eN}(dk:0<=x.n):(x.ok&&decide (od x .nil=0))=(x.small&& !decide (0<x.n)):=by
  simp only[eN.ok,eN.small,s8,agX dk];by_cases bK:x.n=0
  · simp[bK]
  · have:0<x.n:=(by omega);simp[bK,this]
theorem fg.x2{u:bg}{b dd:Bool}{di:Nat->Nat}{cc:Nat->List ByteArray}{A ak:aR}{t aI:W}(h:fg u b di cc A t)(hK:ak 8= .bool dd)(K: ∀k∈lU,ak k=A k)(bA: ∀o,o<t.next->aI.X o=t.X o):fg u dd di cc ak aI:=by obtain⟨a8,bE,b7,eH,gi,og,aBR⟩:=h.XS hK K;exact⟨a8,bE,(bA _ (a6 b7)).trans b7,eH,λk a b=>(bA _ (a6 (gi k a b))).trans (gi k a b),og,aBR⟩
theorem ahM{a b c d e f:Nat}:r9 a b c d e f=(decide (a<=4)&&(decide (b<=4)&&(decide (c<=40)&&(decide (d<=24)&&(decide (e<=4)&&decide (f<=12)))))):=by
  unfold r9;congr 1
  · exact decide_eq_decide.2 (by omega)
  congr 1
  · exact decide_eq_decide.2 (by omega)
  congr 1
  · exact decide_eq_decide.2 (by omega)
  congr 1
  · exact decide_eq_decide.2 (by omega)
  congr 1
  · exact decide_eq_decide.2 (by omega)
  · exact decide_eq_decide.2 (by omega)
theorem zk{A ak:aR}(E:ak 1=A 1)(av:ak 3=A 3)(aH:ak 4=A 4)(br:ak 5=A 5)(cW:ak 6=A 6)(fu:ak 7=A 7): ∀k∈lU,ak k=A k:= λk aa=>by simp only[lU,hH,jm,or_false]at aa;rcases aa with rfl|rfl|rfl|rfl|rfl|rfl<;>assumption
theorem aC0{u:bg}(h:bg.fO u){R:gB}(fM:u.bP[0]?=some R){b:Bool}{di:Nat->Nat}{cc:Nat->List ByteArray}{A:aR}{t:W}(ab:fg u b di cc A t){Q:dA->aR->W->Prop}
    (I: ∀ak aI,fg u (b&&oh R) di cc ak aI->jn (P:=al) ⟨[r8,Ew,Ex,zh],[]⟩ DR ak aI Q):jn (P:=al) ⟨[r8,Ew,Ex,zh],[]⟩ m2 A t Q:=by
  have n3:0<u.bP.length:=(dO.1 fM).1;have lI:(0:Int)<u.bP.length:=by omega
  have oG:=(dO.1 fM).2;have Nt:R.oj.c7:=h.bP R (gJ fM);have ba:=ab.ba;have b9:=ab.b9;have aN:=ab.aN;have fl:=a6 aN;have ad:=aCq (x:=R.oj.bF) (b1.aA9 Nt);obtain⟨UM,UL,UP,US,⟨BG,BD,BE⟩⟩:=R;simp only at Nt ad
  replace I: ∀ak aI,∀{v:Bool},fg u v di cc ak aI->(b&&(decide (UM=⟨#[]⟩)&&(decide (UL=0)&&(decide (UP= -1)&&(decide (US=0)&&((b1.mk BG BD BE).bF.ok&&decide (od (b1.mk BG BD BE).bF .nil=0)))))))=v->jn (P:=al) ⟨[r8,Ew,Ex,zh],[]⟩ DR ak aI Q:= λak aI v p4 e=>I ak aI (by have:(b&&oh ⟨UM,UL,UP,US,⟨BG,BD,BE⟩⟩)=v:=(by rw[<-e,ad];rfl);rw[this];exact p4)
  cases b
  · skip
    simp(disch:=first|omega|simp only[DI.ae];omega) [m2,nE,nE,m2,aL,ez,ba,b9,aN,n3,oG,-O,-U,-N,-S,-List.map_map];exact I _ _ (ab.x2 (dd:=false) (by simp) (zk (by simp) (by simp) (by simp) (by simp) (by simp) (by simp)) (λo aE=>by simp(disch:=first|omega|simp only[DI.ae];omega) [-O,-U,-N,-S,-List.map_map])) rfl
  by_cases bO:UM=⟨#[]⟩
  case neg=>simp(disch:=first|omega|simp only[DI.ae];omega) [m2,nE,nE,m2,aL,ez,ba,b9,aN,n3,oG,bO,-O,-U,-N,-S,-List.map_map];exact I _ _ (ab.x2 (dd:=false) (by simp) (zk (by simp) (by simp) (by simp) (by simp) (by simp) (by simp)) (λo aE=>by simp(disch:=first|omega|simp only[DI.ae];omega) [-O,-U,-N,-S,-List.map_map])) (by simp[bO])
  by_cases cA:UL=0
  case neg=>simp(disch:=first|omega|simp only[DI.ae];omega) [m2,nE,nE,m2,aL,ez,ba,b9,aN,n3,oG,bO,cA,-O,-U,-N,-S,-List.map_map];exact I _ _ (ab.x2 (dd:=false) (by simp) (zk (by simp) (by simp) (by simp) (by simp) (by simp) (by simp)) (λo aE=>by simp(disch:=first|omega|simp only[DI.ae];omega) [-O,-U,-N,-S,-List.map_map])) (by simp[bO,cA])
  by_cases gz:UP= -1
  case neg=>simp(disch:=first|omega|simp only[DI.ae];omega) [m2,nE,nE,m2,aL,ez,ba,b9,aN,n3,oG,bO,cA,gz,-O,-U,-N,-S,-List.map_map];exact I _ _ (ab.x2 (dd:=false) (by simp) (zk (by simp) (by simp) (by simp) (by simp) (by simp) (by simp)) (λo aE=>by simp(disch:=first|omega|simp only[DI.ae];omega) [-O,-U,-N,-S,-List.map_map])) (by simp[bO,cA,gz])
  by_cases hJ:US=0
  case neg=>simp(disch:=first|omega|simp only[DI.ae];omega) [m2,nE,nE,m2,aL,ez,ba,b9,aN,n3,oG,bO,cA,gz,hJ,-O,-U,-N,-S,-List.map_map];exact I _ _ (ab.x2 (dd:=false) (by simp) (zk (by simp) (by simp) (by simp) (by simp) (by simp) (by simp)) (λo aE=>by simp(disch:=first|omega|simp only[DI.ae];omega) [-O,-U,-N,-S,-List.map_map])) (by simp[bO,cA,gz,hJ])
  cases iy:(b1.mk BG BD BE).bF.ok
  · skip
    simp(disch:=first|omega|simp only[DI.ae];omega) [m2,nE,nE,m2,aL,ez,ba,b9,aN,n3,oG,bO,cA,gz,hJ,iy,-O,-U,-N,-S,-List.map_map];exact I _ _ (ab.x2 (dd:=false) (by simp) (zk (by simp) (by simp) (by simp) (by simp) (by simp) (by simp)) (λo aE=>by simp(disch:=first|omega|simp only[DI.ae];omega) [-O,-U,-N,-S,-List.map_map])) (by simp[bO,cA,gz,hJ,iy])
  have aa:(b1.mk BG BD BE).c7/\(b1.mk BG BD BE).bF.ok=true:=⟨Nt,iy⟩;by_cases nW:od (b1.mk BG BD BE).bF .nil=0
  case neg=>simp(disch:=first|omega|simp only[DI.ae];omega) [m2,nE,nE,m2,aL,ez,ba,b9,aN,n3,oG,bO,cA,gz,hJ,iy,nW,-O,-U,-N,-S,-List.map_map];exact I _ _ (ab.x2 (dd:=false) (by simp) (zk (by simp) (by simp) (by simp) (by simp) (by simp) (by simp)) (λo aE=>by simp(disch:=first|omega|simp only[DI.ae];omega) [-O,-U,-N,-S,-List.map_map])) (by simp[bO,cA,gz,hJ,iy,nW])
  simp(disch:=first|omega|simp only[DI.ae];omega) [m2,nE,nE,m2,aL,ez,ba,b9,aN,n3,oG,bO,cA,gz,hJ,iy,nW,-O,-U,-N,-S,-List.map_map];exact I _ _ (ab.x2 (dd:=true) (by simp) (zk (by simp) (by simp) (by simp) (by simp) (by simp) (by simp)) (λo aE=>by simp(disch:=first|omega|simp only[DI.ae];omega) [-O,-U,-N,-S,-List.map_map])) (by simp[bO,cA,gz,hJ,iy,nW])
theorem ahA{u:bg}(h:bg.fO u):bH al 87 [.agg (aL u).toArray] (.bool (gk u)):=by
  refine ei (dD (aC:=⟨[r8,Ew,Ex,zh],[]⟩) ayC (by kernel_rfl) (by simp[DQ]) ?_);cases E:dK u.ext 1 4
  · have a2:gk u=false:=(by simp[gk,E]);simp(disch:=first|omega|simp only[DI.ae];omega) [DQ,HY,HZ,M7,Nc,Nd,Nf,m2,nE,DR,M5,M6,Na,Nb,aL,E,a2,-O,-U,-N,-S,-List.map_map]
  cases I:r9 u.cN.length u.bf.length u.bP.length u.aZ.length u.cK.length u.cm.length
  · have a2:gk u=false:=by
      rw[ahM]at I;unfold gk;rw[E];cases bd:(decide (u.cN.length<=4)&&(decide (u.bf.length<=4)&&(decide (u.bP.length<=40)&&(decide (u.aZ.length<=24)&&(decide (u.cK.length<=4)&&decide (u.cm.length<=12))))))
      · simp only[s8,zC,decide_eq_false_iff_not]at bd⊢;rcases bd with bd|bd|bd|bd|bd|bd<;>simp[bd]
      · rw[bd]at I;cases I
    simp(disch:=first|omega|simp only[DI.ae];omega) [DQ,HY,HZ,M7,Nc,Nd,Nf,m2,nE,DR,M5,M6,Na,Nb,aL,E,I,a2,-O,-U,-N,-S,-List.map_map]
  cases ja:u.bP with
  | nil=>have l0:(u.bP.length:Int)=0:=(by rw[ja];rfl);have rJ:u.bP.length=0:=(by rw[ja];rfl);have a2:gk u=false:=(by simp[gk,ja,nZ]);have tx:r9 u.cN.length u.bf.length 0 u.aZ.length u.cK.length u.cm.length=true:=(by rw[<-l0];exact I);simp(disch:=first|omega|simp only[DI.ae];omega) [DQ,HY,HZ,aL,E,tx,a2,rJ,-O,-U,-N,-S,-List.map_map]
  |cons R ds=>
  have l0: ¬(u.bP.length:Int)=0:=by rw[ja];simp;omega
  have rJ: ¬u.bP.length=0:=by rw[ja];simp
  have lI:(0:Int)<u.bP.length:=by omega
  have n3:0<u.bP.length:=by omega
  have Nt:R.oj.c7:=h.bP R (by rw[ja];simp);have fM:u.bP[0]?=some R:=by rw[ja];rfl
  have oG:=(dO.1 fM).2;simp(disch:=first|omega|simp only[DI.ae];omega) [DQ,HY,HZ,M7,Nc,Nd,aL,E,I,rJ,-O,-U,-N,-S,-List.map_map];refine aiA (u:=u) (by simp) (by simp) (by simp) (by simp) (by simp) (by simp) (by simp) (by simp(disch:=first|omega|simp only[DI.ae];omega) [aL,-O,-U,-N,-S,-List.map_map]) λA t di ab aa=> ?_;refine aCS h ab (λ_=>by simp) (λ_=>Je) ((aa 9 (by decide)).trans (by simp)) λA t di cc ab hb=> ?_;obtain⟨dd,aJ⟩: ∃b,b=(true&&(er ([]++u.cN.map (·.name))&&u.cN.all ik.mJ)):=⟨_,rfl⟩;rw[<-aJ]at ab hb;simp(disch:=first|omega|simp only[DI.ae];omega) [Nf,-O,-U,-N,-S,-List.map_map];refine aCT h (ab.kF (by simp) (eI (d:=0) (λ_=>by simp) (λ_=>by simp) (λ_=>by simp) (λ_=>by simp) (λ_=>by simp) (λ_=>by simp))) (λaQ=>by rw[hb aQ];simp[dS]) (λaQ=>by rw[hb aQ];simp[dS,Je]) (by simp) λA t di Bf ab fH=> ?_;obtain⟨ee,aU⟩: ∃b,b=(dd&&(er (cc 4++u.bf.map (·.name))&&u.bf.all (k6 u.cN.length))):=⟨_,rfl⟩;rw[<-aU]at ab fH;have hd:ee=true->dd=true:= λaQ=>by rw[aU,a1]at aQ;exact aQ.1
  replace fH:ee=true->Bf=dS (dS (λ_=>[]) 3 (u.cN.map (·.name))) 4 (u.bf.map (·.name)):= λaQ=>by rw[fH aQ,hb (hd aQ)];simp[dS]
  replace aU:ee=(dd&&(er (u.bf.map (·.name))&&u.bf.all (k6 u.cN.length))):=by
    cases bd:dd
    · rw[aU,bd];rfl
    · rw[aU,bd,hb bd];simp[dS]
  clear hb;refine aC0 h fM ab λA t ab=> ?_;obtain⟨gm,cu⟩: ∃b,b=(ee&&oh R):=⟨_,rfl⟩;rw[<-cu]at ab;have jw:gm=true->ee=true:= λaQ=>by rw[cu,a1]at aQ;exact aQ.1
  simp(disch:=first|omega|simp only[DI.ae];omega) [DR,-O,-U,-N,-S,-List.map_map];refine aCU h ja (ab.kF (by simp) (eI (d:=0) (λ_=>by simp) (λ_=>by simp) (λ_=>by simp) (λ_=>by simp) (λ_=>by simp) (λ_=>by simp))) (λaQ=>by rw[fH (jw aQ)];simp[dS]) (λaQ=>by rw[fH (jw aQ)];simp[dS,Je]) (by simp) λA t di cc ab hb=> ?_;obtain⟨gq,gO⟩: ∃b,b=(gm&&(er (Bf 5++ds.map (·.name))&&vM u.bP ds)):=⟨_,rfl⟩;rw[<-gO]at ab hb;have w2:gq=true->gm=true:= λaQ=>by rw[gO,a1]at aQ;exact aQ.1
  replace hb:gq=true->cc=dS (dS (dS (λ_=>[]) 3 (u.cN.map (·.name))) 4 (u.bf.map (·.name))) 5 (ds.map (·.name)):= λaQ=>by rw[hb aQ,fH (jw (w2 aQ))];simp[dS]
  replace gO:gq=(gm&&(er (ds.map (·.name))&&vM u.bP ds)):=by
    cases bd:gm
    · rw[gO,bd];rfl
    · rw[gO,bd,fH (jw bd)];simp[dS]
  have OS:gq=true->er (ds.map (·.name))=true:= λaQ=>by rw[gO]at aQ;simp only[a1]at aQ;exact aQ.2.1
  clear fH;simp(disch:=first|omega|simp only[DI.ae];omega) [M5,-O,-U,-N,-S,-List.map_map];refine aCV h (ab.kF (by simp) (eI (d:=0) (λ_=>by simp) (λ_=>by simp) (λ_=>by simp) (λ_=>by simp) (λ_=>by simp) (λ_=>by simp))) (λaQ=>by rw[hb aQ];have:=h.jN;rw[ja]at this;simp[dS]at this⊢;omega) (λaQ=>by rw[hb aQ];simpa[dS]using OS aQ) (by simp) λA t di Bf ab fH=> ?_;obtain⟨lf,lD⟩: ∃b,b=(gq&&(er (cc 5++u.aZ.map (·.name))&&u.aZ.all (kV u.bf.length u.bP))):=⟨_,rfl⟩;rw[<-lD]at ab fH;have A8:lf=true->gq=true:= λaQ=>by rw[lD,a1]at aQ;exact aQ.1
  replace fH:lf=true->Bf 6=[]/\Bf 7=[]:= λaQ=>by rw[fH aQ,hb (A8 aQ)];simp[dS]
  replace lD:lf=(gq&&(er (ds.map (·.name)++u.aZ.map (·.name))&&u.aZ.all (kV u.bf.length u.bP))):=by
    cases bd:gq
    · rw[lD,bd];rfl
    · rw[lD,bd,hb bd];simp[dS]
  clear hb;simp(disch:=first|omega|simp only[DI.ae];omega) [M6,-O,-U,-N,-S,-List.map_map];refine aCY h (ab.kF (by simp) (eI (d:=0) (λ_=>by simp) (λ_=>by simp) (λ_=>by simp) (λ_=>by simp) (λ_=>by simp) (λ_=>by simp))) (λaQ=>by rw[(fH aQ).1];simp) (λaQ=>by rw[(fH aQ).1];exact Je) (by simp) λA t di cc ab hb=> ?_;obtain⟨lX,ka⟩: ∃b,b=(lf&&(er (Bf 6++u.cK.map (·.name))&&u.cK.all (iK · u.bf.length))):=⟨_,rfl⟩;rw[<-ka]at ab hb;have vq:lX=true->lf=true:= λaQ=>by rw[ka,a1]at aQ;exact aQ.1
  replace hb:lX=true->cc 7=[]:= λaQ=>by rw[hb aQ,nR (by decide),(fH (vq aQ)).2]
  replace ka:lX=(lf&&(er (u.cK.map (·.name))&&u.cK.all (iK · u.bf.length))):=by
    cases bd:lf
    · rw[ka,bd];rfl
    · rw[ka,bd,(fH bd).1];rfl
  clear fH;simp(disch:=first|omega|simp only[DI.ae];omega) [Na,-O,-U,-N,-S,-List.map_map];refine aCZ h (ab.kF (by simp) (eI (d:=0) (λ_=>by simp) (λ_=>by simp) (λ_=>by simp) (λ_=>by simp) (λ_=>by simp) (λ_=>by simp))) (λaQ=>by rw[hb aQ];simp) (λaQ=>by rw[hb aQ];exact Je) (by simp) λA t di Bf ab fH=> ?_;obtain⟨rr,qJ⟩: ∃b,b=(lX&&(er (cc 7++u.cm.map (·.name))&&u.cm.all (nS u.cK.length))):=⟨_,rfl⟩;rw[<-qJ]at ab
  replace qJ:rr=(lX&&(er (u.cm.map (·.name))&&u.cm.all (nS u.cK.length))):=by
    cases bd:lX
    · rw[qJ,bd];rfl
    · rw[qJ,bd,hb bd];rfl
  have a2:gk u=rr:=by
    rw[ahM]at I;simp only[a1,e2]at I;obtain⟨EV,WH,s0,uB,oX,s3⟩:=I;have aD:nZ u.bP=(oh R&&vM u.bP ds):=(by rw[ja];rfl);have bA:u.bP.tail=ds:=(by rw[ja];rfl);rw[Bool.eq_iff_iff];unfold gk;simp only[E,EV,WH,s0,uB,oX,s3,aD,bA,decide_true,s8];rw[qJ,ka,lD,gO,cu,aU,aJ];simp only[a1,uH,s8];constructor
    · rintro⟨⟨bu,bN⟩,cn,eW,fU,h4,j8,lW,uL,dd,ee,gm⟩;refine⟨⟨⟨⟨⟨⟨⟨lW,cn⟩,uL,eW⟩,bu⟩,?_,bN⟩,dd,fU⟩,ee,h4⟩,gm,j8⟩;exact aij dd
    · rintro⟨⟨⟨⟨⟨⟨⟨lW,cn⟩,uL,eW⟩,bu⟩,_,bN⟩,dd,fU⟩,ee,h4⟩,gm,j8⟩;exact⟨⟨bu,bN⟩,cn,eW,fU,h4,j8,lW,uL,dd,ee,gm⟩
  have b9:=ab.b9;simp(disch:=first|omega|simp only[DI.ae];omega) [Nb,a2,b9,-O,-U,-N,-S,-List.map_map]
noncomputable def sS(u:bg)(h:bg.fO u):bC al:= .dN 87 Unit (λ_=>True) (λ_=>[.agg (aL u).toArray]) (λ_=> .bool (gk u)) λ_ _=>ahA h
@[simp] theorem aPN{u:bg}{h:bg.fO u}:(sS u h).f=87:=rfl
@[simp] theorem aPO{u:bg}{h:bg.fO u}:(sS u h).fn [.agg #[Y u.ext,aj (u.cN.map gZ) 4,aj (u.bf.map gE) 4,aj (u.bP.map ez) 7,aj (u.aZ.map gr) 3,aj (u.cK.map e5) 17,aj (u.cm.map hx) 2]]=some (.bool (gk u)):=bC.eh (x:=()) trivial λ_ _=>rfl
theorem aC2{u:bg}(h:bg.fO u):bH al 66 [.agg (aL u).toArray] (Y (if gk u then 0 else 1)):=by
  refine ei (dD (aC:=⟨[sS u h],[]⟩) ayz (by kernel_rfl) (by simp[M1]) ?_);cases ad:gk u
  · simp(disch:=first|omega|simp only[DI.ae];omega) [M1,Tz,TA,TB,aL,ad,-O,-U,-N,-S,-List.map_map]
  · simp(disch:=first|omega|simp only[DI.ae];omega) [M1,Tz,TA,TB,aL,ad,-O,-U,-N,-S,-List.map_map]
def aNs(u:bg)(i:Nat):Nat:=match u.bP[i]? with|some d=>d.parent.toNat|none=>0
def y1(u:bg)(i:Nat):Int:=match u.bP[i]? with|some d=>d.jY|none=>0
structure nV(u:bg):Prop where
  vR:gk u=true
  Bt:u.cN.length<=4
  eO:u.bf.length<=4
  jN:u.bP.length<=40
  pr:u.aZ.length<=24
  xb:u.cK.length<=4
  rV:u.cm.length<=12
  sO:0<u.bP.length
  q5:y1 u 0=0/\ ∀d,u.bP[0]?=some d->d.parent= -1/\d.jY=0
  mf: ∀(i:Nat) (d:gB),0<i->u.bP[i]?=some d->0<=d.parent/\d.parent<i/\y1 u d.parent.toNat=d.jY-1/\1<=d.jY/\d.jY<=4
  Km: ∀(i:Nat) (x:mQ),u.aZ[i]?=some x->0<=x.model/\x.model<u.bf.length/\0<=x.w9/\x.w9<u.bP.length/\y1 u x.w9.toNat=4
  NL: ∀(i:Nat) (x:B9),u.bf[i]?=some x->1<=x.ext/\x.ext<=16
  qi: ∀(i:Nat) (x:iL),u.cK[i]?=some x->lN x.k x.m x.q x.aC=true/\x.bf≠[]/\(∀m∈x.bf,0<=m/\m<u.bf.length)/\x.bf.Nodup
  nh: ∀(i:Nat) (x:qy),u.cm[i]?=some x->0<=x.qi/\x.qi<u.cK.length
theorem wM{x a b:Int}(h:dK x a b=true):a<=x/\x<=b:=tM.1 h
theorem aBj{u:bg}(h:gk u=true):nV u:=by
  have dk:=h;simp only[gk,a1,e2]at h;obtain⟨E,I,av,aH,br,cW,fu,hK,iZ,x9,KH,FV,Qt,Qu,Qv,Qw,Qx,aJP⟩:=h;unfold nZ at hK;cases aD:u.bP with
  |nil=>rw[aD]at hK;cases hK
  | cons R l=>
    rw[aD]at hK;simp only[a1]at hK;obtain⟨je,aB⟩:=hK;simp only[oh,a1,e2]at je;have YW:u.bP[0]?=some R:=(by rw[aD];rfl);have T3: ∀i q,u.bP[i]?=some q->y1 u i=q.jY:= λi q bd=>by simp only[y1,bd]
    refine⟨dk,I,av,aH,br,cW,fu,by rw[aD];simp,⟨by rw[T3 0 R YW];exact je.2.1,λd pZ=>by rw[YW]at pZ;cases pZ;exact⟨je.2.2.1,je.2.1⟩⟩,λi d ai G=> ?_,λi x G=> ?_,λi x G=> ?_,λi x G=> ?_,λi x G=> ?_⟩
    · obtain⟨j,rfl⟩: ∃j,i=j+1:=⟨i-1,by omega⟩;have bj:l[j]?=some d:=(by rw[aD,xH]at G;exact G);have:=eQ.1 aB j (ou.2 (dO.1 bj).1);rw[bj]at this;simp only[lk,a1]at this;obtain⟨bu,bN,cn,eW,fU⟩:=this;have dd:=wM bu;have gm:=wM cn;refine⟨dd.1,by omega,?_,gm.1,gm.2⟩;unfold Bg at bN;split at bN
      · next q bd=>rw[T3 _ q (by rw[aD];exact bd)];exact of_decide_eq_true bN
      · cases bN
    · have:=eQ.1 KH x (gJ G);simp only[kV,a1]at this;obtain⟨bu,bN,cn⟩:=this;have dd:=wM bu;have ee:=wM bN;refine⟨dd.1,by omega,ee.1,by omega,?_⟩;unfold Bk at cn;split at cn
      · next q bd=>rw[T3 _ q bd];exact of_decide_eq_true cn
      · cases cn
    · have:=eQ.1 x9 x (gJ G);simp only[k6,a1]at this;exact wM this.1
    · have:=eQ.1 FV x (gJ G);simp only[iK,a1,e2]at this;obtain⟨bu,bN,cn,eW,fU⟩:=this;refine⟨bu,by intro e;rw[e]at bN;simp at bN,λm ax=> ?_,fU⟩;have:=wM (eQ.1 eW m ax);exact⟨this.1,by omega⟩
    · have:=eQ.1 Qt x (gJ G);simp only[nS]at this;have:=wM this;exact⟨this.1,by omega⟩
section
variable {u:bg}
theorem nV.Uz(h:nV u){i:Nat}(ai:i<u.bP.length)(dk:0<i):0<y1 u i:=by
  have G:u.bP[i]?=some u.bP[i]:=cD ai;have e:y1 u i=u.bP[i].jY:=by simp only[y1,G]
  have:=h.mf _ _ dk G;omega
end
def sn(u:bg)(d:Nat):Int:=match u.aZ[d]? with
  |some x=>(match u.bf[x.model.toNat]? with|some m=>m.ext|none=>0)
  |none=>0
def g8(u:bg)(gH:List Int):List Int:=(List.range u.aZ.length).map λd=>if gH.length=u.aZ.length then max 0 (min (gH.getD d 0) (sn u d))else sn u d
def hf(u:bg)(L:List (List Int)):List Int:=(List.range u.aZ.length).map λd:Nat=>((L.flatten.count (d:Int):Nat):Int)
def kY(u:bg)(v:Nat):Int:=match u.cm[v]? with
  |some x=>(match u.cK[x.qi.toNat]? with|some p=>p.k+p.m|none=>0)
  |none=>0
def zd(u:bg)(v:Nat)(r:List Int):Bool:=decide ((r.length:Int)=kY u v)&&r.all λx=>decide (-1<=x)&&decide (x<u.aZ.length)
def kP(u:bg)(L:List (List Int)):Bool:=decide (L.length=u.cm.length)&&(List.range L.length).all λv=>match L[v]? with
  |some r=>zd u v r
  |none=>true
end Go.Proofs.YtmmkkggfmigppaaGreat
