/-
  A part of the proof of the statement, in texts that tools of ours (wip/shrink.py, irpack.py, relax.py, minify.py, join.py, lay.py) have shortened.
-/
import Derived.Test.YtmmkkggfmigppaaGreatZal
set_option linter.all false
set_option maxRecDepth 8000
set_option maxHeartbeats 16000000
namespace Go.Proofs.YtmmkkggfmigppaaGreat
open Go Go.DI Go.Big
theorem uU{c4:Type}{f:Nat->c4}{d:Nat}{a b:c4}:dL (dL f d a) d b=dL f d b:=by
  funext k;by_cases h:k=d
  · subst h;simp
  · rw[ns h,ns h,ns h]
theorem vh{c4:Type}{l:List c4}{p:c4->Bool}{i:Nat}{x:c4}(G:l[i]?=some x)(h:p x=false):l.all p=false:=by rw[Bd];exact⟨x,hF G,by simp[h]⟩
theorem DR{c4:Type}{l:List c4}{f:c4->ByteArray}{bP:List ByteArray}{i:Nat}{x:c4}(G:l[i]?=some x)(aS:eh (bP++(l.take i).map f)=true)(h:m1 (bP++(l.take i).map f) (f x)=false):eh (bP++l.map f)=false:=by
  cases bc:eh (bP++l.map f)
  · rfl
  · have e:bP++l.map f=((bP++(l.take i).map f)++[f x])++(l.drop (i+1)).map f:=by
      conv=>lhs;rw[<-List.take_append_drop (i+1) l,mS G]
      simp
    rw[e]at bc;have:=afI bc;rw[tz,aS,h]at this;cases this
theorem mR{c4:Type}{l:List c4}{f:c4->ByteArray}{bP:List ByteArray}{i:Nat}{x:c4}(G:l[i]?=some x):(bP++(l.take i).map f)++[f x]=bP++(l.take (i+1)).map f:=by rw[mS G];simp
theorem vi{c4:Type}{l:List c4}{p:c4->Bool}{i:Nat}{x:c4}(G:l[i]?=some x)(h:(l.take i).all p=true)(ai:p x=true):(l.take (i+1)).all p=true:=by rw[mS G,rr,h];simp[ai]
theorem axj{u:bm}(h:bm.fD u){dA:Bool}{n7:Nat->Nat}{en:Nat->List ByteArray}{c5:aM}{cS:W}(sQ:e5 u dA n7 en c5 cS)(k9:dA=true->(en 3).length<=10000)(sS:dA=true->eh (en 3)=true)(tx:c5 9=Z 0)
    {Q:du->aM->W->Prop} (bT: ∀z t c7 b5,e5 u (dA&&(eh (en 3++u.cH.map (·.name))&&u.cH.all hX.mi)) c7 b5 z t->((dA&&(eh (en 3++u.cH.map (·.name))&&u.cH.all hX.mi))=true->b5=dL en 3 (en 3++u.cH.map (·.name)))->Q (.bh 0) z t):fl al (.loop zZ) c5 cS Q:=by
  have eS:u.cH.length<=1000:=h.As;obtain⟨T,dh⟩: ∃T,T=(dA&&(eh (en 3++u.cH.map (·.name))&&u.cH.all hX.mi)):=⟨_,rfl⟩;rw[<-dh]at bT;refine h4 (aB:=⟨[TD],[xA]⟩) (λi z t=> ∃c7 b5 b,e5 u b c7 b5 z t/\z 9=Z i/\(b=true->dA=true/\b5=dL en 3 (en 3++(u.cH.take i).map (·.name))/\eh (en 3++(u.cH.take i).map (·.name))=true/\(u.cH.take i).all hX.mi=true)/\(b=false->T=false)) u.cH.length ?_ ?_ 0 c5 cS (hx _) ⟨n7,en,dA,sQ,by simpa using tx,λhb=>⟨hb,?_,by simpa using sS hb,by simp⟩,λhb=>by rw[dh,hb];rfl⟩
  · rintro i z t ak ⟨c7,b5,b,ai,fV,ir,lr⟩ cx bk;have G:u.cH[i]?=some u.cH[i]:=dD ak;have bZ:=g3 (n:=i) (by omega);have bY:(i:Int)<u.cH.length:=(by omega);have bl:=ai.bl;have b9:=ai.b9;have aO:=ai.aO;have fW:=bn aO;have fU:=ai.mO 3 (by decide) (by decide);have bd:=ai.g 3 (by decide) (by decide);have iG:=ai.nh 3 (by decide) (by decide);have cp:=bn bd;cases b
    · have n0:=lr rfl;simp(disch:=first|omega|simp only[DI.ab];omega) [zZ,C2,aU,bl,b9,fV,aO,bY,-O,-U,-N,-S,-List.map_map];exact bT _ _ c7 b5 (by rw[n0];exact(ai.ka (by simp) (ez (d:=0) (λ_=>by simp) (λ_=>by simp) (λ_=>by simp) (λ_=>by simp) (λ_=>by simp) (λ_=>by simp)))) (λaH=>by rw[n0]at aH;cases aH)
    obtain⟨kL,l7,ma,fc⟩:=ir rfl;have eZ:b5 3=en 3++(u.cH.take i).map (·.name):=(by rw[l7,rl]);have Fq:=k9 kL;have sM:(b5 3).length<1000000:=(by rw[eZ,jI,jg,oZ];omega);obtain⟨L,eM⟩: ∃L,L=b5 3:=⟨_,rfl⟩;obtain⟨o,hr⟩: ∃o,o=c7 3:=⟨_,rfl⟩;rw[<-eM]at fU bd sM eZ;rw[<-hr]at fU bd iG cp;have db:=h.cH _ (nv ak);cases a6:m1 L u.cH[i].name
    · skip
      simp(disch:=first|omega|simp only[DI.ab];omega) [zZ,C2,aU,gZ,iK,bl,b9,fV,fU,aO,bd,bY,bZ,a6,-O,-U,-N,-S,-List.map_map];refine bk _ _ ⟨dL c7 3 (t.next),dL b5 3 (b5 3++[u.cH[i].name]),false,e5.step ai 3 (by decide) (by decide) (n:=1) (h7:=[u.cH[i].name]) rfl (ez (d:=3) ?_ ?_ ?_ ?_ ?_ ?_) ?_ ?_ ?_ (.inr (by omega)) ?_ ?_,?_,?_,?_⟩;any_goals(intro ay;first|(exact absurd rfl ay)|(simp;done))
      · simp(disch:=first|omega|simp only[DI.ab];omega) [-O,-U,-N,-S,-List.map_map]
      · rw[<-eM];simp(disch:=first|omega|simp only[DI.ab];omega) [-O,-U,-N,-S,-List.map_map]
      · rw[<-eM];simp(disch:=first|omega|simp only[DI.ab];omega) [-O,-U,-N,-S,-List.map_map]
      · simp(disch:=first|omega|simp only[DI.ab];omega) [-O,-U,-N,-S,-List.map_map];try omega
      · intro b hb dK;rw[<-hr]at dK;simp(disch:=first|omega|simp only[DI.ab];omega) [-O,-U,-N,-S,-List.map_map]
      · simp
      · intro aH;cases aH
      · intro _;rw[dh,DR (f:=(·.name)) G ma (by rw[<-eZ];exact a6)];simp
    cases dx:u.cH[i].mi
    · skip
      simp(disch:=first|omega|simp only[DI.ab];omega) [zZ,C2,aU,gZ,iK,bl,b9,fV,fU,aO,bd,bY,bZ,a6,dx,-O,-U,-N,-S,-List.map_map];refine bk _ _ ⟨dL c7 3 (t.next),dL b5 3 (b5 3++[u.cH[i].name]),false,e5.step ai 3 (by decide) (by decide) (n:=1) (h7:=[u.cH[i].name]) rfl (ez (d:=3) ?_ ?_ ?_ ?_ ?_ ?_) ?_ ?_ ?_ (.inr (by omega)) ?_ ?_,?_,?_,?_⟩;any_goals(intro ay;first|(exact absurd rfl ay)|(simp;done))
      · simp(disch:=first|omega|simp only[DI.ab];omega) [-O,-U,-N,-S,-List.map_map]
      · rw[<-eM];simp(disch:=first|omega|simp only[DI.ab];omega) [-O,-U,-N,-S,-List.map_map]
      · rw[<-eM];simp(disch:=first|omega|simp only[DI.ab];omega) [-O,-U,-N,-S,-List.map_map]
      · simp(disch:=first|omega|simp only[DI.ab];omega) [-O,-U,-N,-S,-List.map_map];try omega
      · intro b hb dK;rw[<-hr]at dK;simp(disch:=first|omega|simp only[DI.ab];omega) [-O,-U,-N,-S,-List.map_map]
      · simp
      · intro aH;cases aH
      · intro _;rw[dh,vh G (show hX.mi u.cH[i]=false by simp[dx])];simp
    simp(disch:=first|omega|simp only[DI.ab];omega) [zZ,C2,aU,gZ,iK,bl,b9,fV,fU,aO,bd,bY,bZ,a6,dx,-O,-U,-N,-S,-List.map_map];refine bk _ _ ⟨dL c7 3 (t.next),dL b5 3 (b5 3++[u.cH[i].name]),true,e5.step ai 3 (by decide) (by decide) (n:=1) (h7:=[u.cH[i].name]) rfl (ez (d:=3) ?_ ?_ ?_ ?_ ?_ ?_) ?_ ?_ ?_ (.inr (by omega)) ?_ ?_,?_,?_,?_⟩;any_goals(intro ay;first|(exact absurd rfl ay)|(simp;done))
    · simp(disch:=first|omega|simp only[DI.ab];omega) [-O,-U,-N,-S,-List.map_map]
    · rw[<-eM];simp(disch:=first|omega|simp only[DI.ab];omega) [-O,-U,-N,-S,-List.map_map]
    · rw[<-eM];simp(disch:=first|omega|simp only[DI.ab];omega) [-O,-U,-N,-S,-List.map_map]
    · simp(disch:=first|omega|simp only[DI.ab];omega) [-O,-U,-N,-S,-List.map_map];try omega
    · intro b hb dK;rw[<-hr]at dK;simp(disch:=first|omega|simp only[DI.ab];omega) [-O,-U,-N,-S,-List.map_map]
    · simp
    · intro _;refine⟨kL,?_,?_,vi G fc (by simp[dx])⟩
      · rw[<-eM,eZ,l7,uU,mR (f:=(·.name)) G]
      · rw[<-mR (f:=(·.name)) G,tz,ma,<-eZ,a6];rfl
    · intro aH;cases aH
  · rintro z t ⟨c7,b5,b,ai,fV,ir,lr⟩;rw[kj]at ir;have bl:=ai.bl;have b9:=ai.b9;have aO:=ai.aO;have fW:=bn aO;have nZ:T=b:=by
      cases b
      · exact lr rfl
      · obtain⟨bw,_,bJ,cb⟩:=ir rfl;rw[dh,bw,bJ,cb];rfl
    have ek: ¬(((u.cH.length:Nat):Int)<u.cH.length):=(by omega);cases b
    all_goals
      simp(disch:=first|omega|simp only[DI.ab];omega) [zZ,C2,aU,bl,fV,aO,ek,-O,-U,-N,-S,-List.map_map];exact bT _ _ c7 b5 (by rw[nZ];exact(ai.ka (by simp) (ez (d:=0) (λ_=>by simp) (λ_=>by simp) (λ_=>by simp) (λ_=>by simp) (λ_=>by simp) (λ_=>by simp)))) (λaH=>by rw[nZ]at aH;exact(ir aH).2.1)
  · funext k;by_cases e:k=3
    · subst e;simp
    · rw[ns e]
theorem axk{u:bm}(h:bm.fD u){dA:Bool}{n7:Nat->Nat}{en:Nat->List ByteArray}{c5:aM}{cS:W}(sQ:e5 u dA n7 en c5 cS)(k9:dA=true->(en 4).length<=10000)(sS:dA=true->eh (en 4)=true)(tx:c5 10=Z 0)
    {Q:du->aM->W->Prop} (bT: ∀z t c7 b5,e5 u (dA&&(eh (en 4++u.bf.map (·.name))&&u.bf.all (ky u.cH.length))) c7 b5 z t->((dA&&(eh (en 4++u.bf.map (·.name))&&u.bf.all (ky u.cH.length)))=true->b5=dL en 4 (en 4++u.bf.map (·.name)))->Q (.bh 2) z t):fl al (.loop vT) c5 cS Q:=by
  have eS:u.bf.length<=1000:=h.eJ;obtain⟨T,dh⟩: ∃T,T=(dA&&(eh (en 4++u.bf.map (·.name))&&u.bf.all (ky u.cH.length))):=⟨_,rfl⟩;rw[<-dh]at bT;refine h4 (aB:=⟨[rh],[xA]⟩) (λi z t=> ∃c7 b5 b,e5 u b c7 b5 z t/\z 10=Z i/\(b=true->dA=true/\b5=dL en 4 (en 4++(u.bf.take i).map (·.name))/\eh (en 4++(u.bf.take i).map (·.name))=true/\(u.bf.take i).all (ky u.cH.length)=true)/\(b=false->T=false)) u.bf.length ?_ ?_ 0 c5 cS (hx _) ⟨n7,en,dA,sQ,by simpa using tx,λhb=>⟨hb,?_,by simpa using sS hb,by simp⟩,λhb=>by rw[dh,hb];rfl⟩
  · rintro i z t ak ⟨c7,b5,b,ai,fV,ir,lr⟩ cx bk;have G:u.bf[i]?=some u.bf[i]:=dD ak;have bZ:=g3 (n:=i) (by omega);have bY:(i:Int)<u.bf.length:=(by omega);have bl:=ai.bl;have b9:=ai.b9;have aO:=ai.aO;have fW:=bn aO;have fU:=ai.mO 4 (by decide) (by decide);have bd:=ai.g 4 (by decide) (by decide);have iG:=ai.nh 4 (by decide) (by decide);have cp:=bn bd;cases b
    · have n0:=lr rfl;simp(disch:=first|omega|simp only[DI.ab];omega) [vT,xU,xV,aU,bl,b9,fV,aO,bY,-O,-U,-N,-S,-List.map_map];exact bT _ _ c7 b5 (by rw[n0];exact(ai.ka (by simp) (ez (d:=0) (λ_=>by simp) (λ_=>by simp) (λ_=>by simp) (λ_=>by simp) (λ_=>by simp) (λ_=>by simp)))) (λaH=>by rw[n0]at aH;cases aH)
    obtain⟨kL,l7,ma,fc⟩:=ir rfl;have eZ:b5 4=en 4++(u.bf.take i).map (·.name):=(by rw[l7,rl]);have Fq:=k9 kL;have sM:(b5 4).length<1000000:=(by rw[eZ,jI,jg,oZ];omega);obtain⟨L,eM⟩: ∃L,L=b5 4:=⟨_,rfl⟩;obtain⟨o,hr⟩: ∃o,o=c7 4:=⟨_,rfl⟩;rw[<-eM]at fU bd sM eZ;rw[<-hr]at fU bd iG cp;have j4:IntKind.i64.wrap ((u.cH.length:Int)-1)=(u.cH.length:Int)-1:=fx (by omega) (by have:=h.As;omega);cases a6:m1 L u.bf[i].name
    · skip
      simp(disch:=first|omega|simp only[DI.ab];omega) [vT,xU,xV,aU,gO,iK,bl,b9,fV,fU,aO,bd,bY,bZ,a6,-O,-U,-N,-S,-List.map_map];refine bk _ _ ⟨dL c7 4 (t.next+7),dL b5 4 (b5 4++[u.bf[i].name]),false,e5.step ai 4 (by decide) (by decide) (n:=1) (h7:=[u.bf[i].name]) rfl (ez (d:=4) ?_ ?_ ?_ ?_ ?_ ?_) ?_ ?_ ?_ (.inr (by omega)) ?_ ?_,?_,?_,?_⟩;any_goals(intro ay;first|(exact absurd rfl ay)|(simp;done))
      · simp(disch:=first|omega|simp only[DI.ab];omega) [-O,-U,-N,-S,-List.map_map]
      · rw[<-eM];simp(disch:=first|omega|simp only[DI.ab];omega) [-O,-U,-N,-S,-List.map_map]
      · rw[<-eM];simp(disch:=first|omega|simp only[DI.ab];omega) [-O,-U,-N,-S,-List.map_map]
      · simp(disch:=first|omega|simp only[DI.ab];omega) [-O,-U,-N,-S,-List.map_map];try omega
      · intro b hb dK;rw[<-hr]at dK;simp(disch:=first|omega|simp only[DI.ab];omega) [-O,-U,-N,-S,-List.map_map]
      · simp
      · intro aH;cases aH
      · intro _;rw[dh,DR (f:=(·.name)) G ma (by rw[<-eZ];exact a6)];simp
    cases db:dE u.bf[i].ext 1 16
    · skip
      simp(disch:=first|omega|simp only[DI.ab];omega) [vT,xU,xV,aU,gO,iK,bl,b9,fV,fU,aO,bd,bY,bZ,a6,db,-O,-U,-N,-S,-List.map_map];refine bk _ _ ⟨dL c7 4 (t.next+7),dL b5 4 (b5 4++[u.bf[i].name]),false,e5.step ai 4 (by decide) (by decide) (n:=1) (h7:=[u.bf[i].name]) rfl (ez (d:=4) ?_ ?_ ?_ ?_ ?_ ?_) ?_ ?_ ?_ (.inr (by omega)) ?_ ?_,?_,?_,?_⟩;any_goals(intro ay;first|(exact absurd rfl ay)|(simp;done))
      · simp(disch:=first|omega|simp only[DI.ab];omega) [-O,-U,-N,-S,-List.map_map]
      · rw[<-eM];simp(disch:=first|omega|simp only[DI.ab];omega) [-O,-U,-N,-S,-List.map_map]
      · rw[<-eM];simp(disch:=first|omega|simp only[DI.ab];omega) [-O,-U,-N,-S,-List.map_map]
      · simp(disch:=first|omega|simp only[DI.ab];omega) [-O,-U,-N,-S,-List.map_map];try omega
      · intro b hb dK;rw[<-hr]at dK;simp(disch:=first|omega|simp only[DI.ab];omega) [-O,-U,-N,-S,-List.map_map]
      · simp
      · intro aH;cases aH
      · intro _;rw[dh,vh G (show(ky u.cH.length) u.bf[i]=false by simp[ky,db])];simp
    cases dx:dE u.bf[i].MS 1 64
    · skip
      simp(disch:=first|omega|simp only[DI.ab];omega) [vT,xU,xV,aU,gO,iK,bl,b9,fV,fU,aO,bd,bY,bZ,a6,db,dx,-O,-U,-N,-S,-List.map_map];refine bk _ _ ⟨dL c7 4 (t.next+7),dL b5 4 (b5 4++[u.bf[i].name]),false,e5.step ai 4 (by decide) (by decide) (n:=1) (h7:=[u.bf[i].name]) rfl (ez (d:=4) ?_ ?_ ?_ ?_ ?_ ?_) ?_ ?_ ?_ (.inr (by omega)) ?_ ?_,?_,?_,?_⟩;any_goals(intro ay;first|(exact absurd rfl ay)|(simp;done))
      · simp(disch:=first|omega|simp only[DI.ab];omega) [-O,-U,-N,-S,-List.map_map]
      · rw[<-eM];simp(disch:=first|omega|simp only[DI.ab];omega) [-O,-U,-N,-S,-List.map_map]
      · rw[<-eM];simp(disch:=first|omega|simp only[DI.ab];omega) [-O,-U,-N,-S,-List.map_map]
      · simp(disch:=first|omega|simp only[DI.ab];omega) [-O,-U,-N,-S,-List.map_map];try omega
      · intro b hb dK;rw[<-hr]at dK;simp(disch:=first|omega|simp only[DI.ab];omega) [-O,-U,-N,-S,-List.map_map]
      · simp
      · intro aH;cases aH
      · intro _;rw[dh,vh G (show(ky u.cH.length) u.bf[i]=false by simp[ky,db,dx])];simp
    cases f3:dE u.bf[i].Mt 0 ((u.cH.length:Int)-1)
    · skip
      simp(disch:=first|omega|simp only[DI.ab];omega) [vT,xU,xV,aU,gO,iK,bl,b9,fV,fU,aO,bd,bY,bZ,j4,a6,db,dx,f3,-O,-U,-N,-S,-List.map_map];refine bk _ _ ⟨dL c7 4 (t.next+7),dL b5 4 (b5 4++[u.bf[i].name]),false,e5.step ai 4 (by decide) (by decide) (n:=1) (h7:=[u.bf[i].name]) rfl (ez (d:=4) ?_ ?_ ?_ ?_ ?_ ?_) ?_ ?_ ?_ (.inr (by omega)) ?_ ?_,?_,?_,?_⟩;any_goals(intro ay;first|(exact absurd rfl ay)|(simp;done))
      · simp(disch:=first|omega|simp only[DI.ab];omega) [-O,-U,-N,-S,-List.map_map]
      · rw[<-eM];simp(disch:=first|omega|simp only[DI.ab];omega) [-O,-U,-N,-S,-List.map_map]
      · rw[<-eM];simp(disch:=first|omega|simp only[DI.ab];omega) [-O,-U,-N,-S,-List.map_map]
      · simp(disch:=first|omega|simp only[DI.ab];omega) [-O,-U,-N,-S,-List.map_map];try omega
      · intro b hb dK;rw[<-hr]at dK;simp(disch:=first|omega|simp only[DI.ab];omega) [-O,-U,-N,-S,-List.map_map]
      · simp
      · intro aH;cases aH
      · intro _;rw[dh,vh G (show(ky u.cH.length) u.bf[i]=false by simp[ky,db,dx,f3])];simp
    simp(disch:=first|omega|simp only[DI.ab];omega) [vT,xU,xV,aU,gO,iK,bl,b9,fV,fU,aO,bd,bY,bZ,j4,a6,db,dx,f3,-O,-U,-N,-S,-List.map_map];refine bk _ _ ⟨dL c7 4 (t.next+7),dL b5 4 (b5 4++[u.bf[i].name]),true,e5.step ai 4 (by decide) (by decide) (n:=1) (h7:=[u.bf[i].name]) rfl (ez (d:=4) ?_ ?_ ?_ ?_ ?_ ?_) ?_ ?_ ?_ (.inr (by omega)) ?_ ?_,?_,?_,?_⟩;any_goals(intro ay;first|(exact absurd rfl ay)|(simp;done))
    · simp(disch:=first|omega|simp only[DI.ab];omega) [-O,-U,-N,-S,-List.map_map]
    · rw[<-eM];simp(disch:=first|omega|simp only[DI.ab];omega) [-O,-U,-N,-S,-List.map_map]
    · rw[<-eM];simp(disch:=first|omega|simp only[DI.ab];omega) [-O,-U,-N,-S,-List.map_map]
    · simp(disch:=first|omega|simp only[DI.ab];omega) [-O,-U,-N,-S,-List.map_map];try omega
    · intro b hb dK;rw[<-hr]at dK;simp(disch:=first|omega|simp only[DI.ab];omega) [-O,-U,-N,-S,-List.map_map]
    · simp
    · intro _;refine⟨kL,?_,?_,vi G fc (by simp[ky,db,dx,f3])⟩
      · rw[<-eM,eZ,l7,uU,mR (f:=(·.name)) G]
      · rw[<-mR (f:=(·.name)) G,tz,ma,<-eZ,a6];rfl
    · intro aH;cases aH
  · rintro z t ⟨c7,b5,b,ai,fV,ir,lr⟩;rw[kj]at ir;have bl:=ai.bl;have b9:=ai.b9;have aO:=ai.aO;have fW:=bn aO;have nZ:T=b:=by
      cases b
      · exact lr rfl
      · obtain⟨bw,_,bJ,cb⟩:=ir rfl;rw[dh,bw,bJ,cb];rfl
    have ek: ¬(((u.bf.length:Nat):Int)<u.bf.length):=(by omega);cases b
    all_goals
      simp(disch:=first|omega|simp only[DI.ab];omega) [vT,xU,xV,aU,bl,fV,aO,ek,-O,-U,-N,-S,-List.map_map];exact bT _ _ c7 b5 (by rw[nZ];exact(ai.ka (by simp) (ez (d:=0) (λ_=>by simp) (λ_=>by simp) (λ_=>by simp) (λ_=>by simp) (λ_=>by simp) (λ_=>by simp)))) (λaH=>by rw[nZ]at aH;exact(ir aH).2.1)
  · funext k;by_cases e:k=4
    · subst e;simp
    · rw[ns e]
theorem axm{u:bm}(h:bm.fD u){dA:Bool}{n7:Nat->Nat}{en:Nat->List ByteArray}{c5:aM}{cS:W}(sQ:e5 u dA n7 en c5 cS)(k9:dA=true->(en 5).length<=10000)(sS:dA=true->eh (en 5)=true)(tx:c5 15=Z 0)
    {Q:du->aM->W->Prop} (bT: ∀z t c7 b5,e5 u (dA&&(eh (en 5++u.a5.map (·.name))&&u.a5.all (ko u.bf.length u.a1))) c7 b5 z t->((dA&&(eh (en 5++u.a5.map (·.name))&&u.a5.all (ko u.bf.length u.a1)))=true->b5=dL en 5 (en 5++u.a5.map (·.name)))->Q (.bh 6) z t):fl al (.loop vU) c5 cS Q:=by
  have eS:u.a5.length<=1000:=h.mh;obtain⟨T,dh⟩: ∃T,T=(dA&&(eh (en 5++u.a5.map (·.name))&&u.a5.all (ko u.bf.length u.a1))):=⟨_,rfl⟩;rw[<-dh]at bT;refine h4 (aB:=⟨[rh],[xA]⟩) (λi z t=> ∃c7 b5 b,e5 u b c7 b5 z t/\z 15=Z i/\(b=true->dA=true/\b5=dL en 5 (en 5++(u.a5.take i).map (·.name))/\eh (en 5++(u.a5.take i).map (·.name))=true/\(u.a5.take i).all (ko u.bf.length u.a1)=true)/\(b=false->T=false)) u.a5.length ?_ ?_ 0 c5 cS (hx _) ⟨n7,en,dA,sQ,by simpa using tx,λhb=>⟨hb,?_,by simpa using sS hb,by simp⟩,λhb=>by rw[dh,hb];rfl⟩
  · rintro i z t ak ⟨c7,b5,b,ai,fV,ir,lr⟩ cx bk;have G:u.a5[i]?=some u.a5[i]:=dD ak;have bZ:=g3 (n:=i) (by omega);have bY:(i:Int)<u.a5.length:=(by omega);have bl:=ai.bl;have b9:=ai.b9;have aO:=ai.aO;have fW:=bn aO;have fU:=ai.mO 5 (by decide) (by decide);have bd:=ai.g 5 (by decide) (by decide);have iG:=ai.nh 5 (by decide) (by decide);have cp:=bn bd;cases b
    · have n0:=lr rfl;simp(disch:=first|omega|simp only[DI.ab];omega) [vU,xO,xP,aU,bl,b9,fV,aO,bY,-O,-U,-N,-S,-List.map_map];exact bT _ _ c7 b5 (by rw[n0];exact(ai.ka (by simp) (ez (d:=0) (λ_=>by simp) (λ_=>by simp) (λ_=>by simp) (λ_=>by simp) (λ_=>by simp) (λ_=>by simp)))) (λaH=>by rw[n0]at aH;cases aH)
    obtain⟨kL,l7,ma,fc⟩:=ir rfl;have eZ:b5 5=en 5++(u.a5.take i).map (·.name):=(by rw[l7,rl]);have Fq:=k9 kL;have sM:(b5 5).length<1000000:=(by rw[eZ,jI,jg,oZ];omega);obtain⟨L,eM⟩: ∃L,L=b5 5:=⟨_,rfl⟩;obtain⟨o,hr⟩: ∃o,o=c7 5:=⟨_,rfl⟩;rw[<-eM]at fU bd sM eZ;rw[<-hr]at fU bd iG cp;have j4:IntKind.i64.wrap ((u.bf.length:Int)-1)=(u.bf.length:Int)-1:=fx (by omega) (by have:=h.eJ;omega);have wN:IntKind.i64.wrap ((u.a1.length:Int)-1)=(u.a1.length:Int)-1:=fx (by omega) (by have:=h.js;omega);cases a6:m1 L u.a5[i].name
    · skip
      simp(disch:=first|omega|simp only[DI.ab];omega) [vU,xO,xP,aU,gp,iK,bl,b9,fV,fU,aO,bd,bY,bZ,a6,-O,-U,-N,-S,-List.map_map];refine bk _ _ ⟨dL c7 5 (t.next+7),dL b5 5 (b5 5++[u.a5[i].name]),false,e5.step ai 5 (by decide) (by decide) (n:=1) (h7:=[u.a5[i].name]) rfl (ez (d:=5) ?_ ?_ ?_ ?_ ?_ ?_) ?_ ?_ ?_ (.inr (by omega)) ?_ ?_,?_,?_,?_⟩;any_goals(intro ay;first|(exact absurd rfl ay)|(simp;done))
      · simp(disch:=first|omega|simp only[DI.ab];omega) [-O,-U,-N,-S,-List.map_map]
      · rw[<-eM];simp(disch:=first|omega|simp only[DI.ab];omega) [-O,-U,-N,-S,-List.map_map]
      · rw[<-eM];simp(disch:=first|omega|simp only[DI.ab];omega) [-O,-U,-N,-S,-List.map_map]
      · simp(disch:=first|omega|simp only[DI.ab];omega) [-O,-U,-N,-S,-List.map_map];try omega
      · intro b hb dK;rw[<-hr]at dK;simp(disch:=first|omega|simp only[DI.ab];omega) [-O,-U,-N,-S,-List.map_map]
      · simp
      · intro aH;cases aH
      · intro _;rw[dh,DR (f:=(·.name)) G ma (by rw[<-eZ];exact a6)];simp
    cases db:dE u.a5[i].model 0 ((u.bf.length:Int)-1)
    · skip
      simp(disch:=first|omega|simp only[DI.ab];omega) [vU,xO,xP,aU,gp,iK,bl,b9,fV,fU,aO,bd,bY,bZ,j4,a6,db,-O,-U,-N,-S,-List.map_map];refine bk _ _ ⟨dL c7 5 (t.next+7),dL b5 5 (b5 5++[u.a5[i].name]),false,e5.step ai 5 (by decide) (by decide) (n:=1) (h7:=[u.a5[i].name]) rfl (ez (d:=5) ?_ ?_ ?_ ?_ ?_ ?_) ?_ ?_ ?_ (.inr (by omega)) ?_ ?_,?_,?_,?_⟩;any_goals(intro ay;first|(exact absurd rfl ay)|(simp;done))
      · simp(disch:=first|omega|simp only[DI.ab];omega) [-O,-U,-N,-S,-List.map_map]
      · rw[<-eM];simp(disch:=first|omega|simp only[DI.ab];omega) [-O,-U,-N,-S,-List.map_map]
      · rw[<-eM];simp(disch:=first|omega|simp only[DI.ab];omega) [-O,-U,-N,-S,-List.map_map]
      · simp(disch:=first|omega|simp only[DI.ab];omega) [-O,-U,-N,-S,-List.map_map];try omega
      · intro b hb dK;rw[<-hr]at dK;simp(disch:=first|omega|simp only[DI.ab];omega) [-O,-U,-N,-S,-List.map_map]
      · simp
      · intro aH;cases aH
      · intro _;rw[dh,vh G (show(ko u.bf.length u.a1) u.a5[i]=false by simp[ko,db])];simp
    cases dx:dE u.a5[i].tb 0 ((u.a1.length:Int)-1)
    · skip
      simp(disch:=first|omega|simp only[DI.ab];omega) [vU,xO,xP,aU,gp,iK,bl,b9,fV,fU,aO,bd,bY,bZ,j4,wN,a6,db,dx,-O,-U,-N,-S,-List.map_map];refine bk _ _ ⟨dL c7 5 (t.next+7),dL b5 5 (b5 5++[u.a5[i].name]),false,e5.step ai 5 (by decide) (by decide) (n:=1) (h7:=[u.a5[i].name]) rfl (ez (d:=5) ?_ ?_ ?_ ?_ ?_ ?_) ?_ ?_ ?_ (.inr (by omega)) ?_ ?_,?_,?_,?_⟩;any_goals(intro ay;first|(exact absurd rfl ay)|(simp;done))
      · simp(disch:=first|omega|simp only[DI.ab];omega) [-O,-U,-N,-S,-List.map_map]
      · rw[<-eM];simp(disch:=first|omega|simp only[DI.ab];omega) [-O,-U,-N,-S,-List.map_map]
      · rw[<-eM];simp(disch:=first|omega|simp only[DI.ab];omega) [-O,-U,-N,-S,-List.map_map]
      · simp(disch:=first|omega|simp only[DI.ab];omega) [-O,-U,-N,-S,-List.map_map];try omega
      · intro b hb dK;rw[<-hr]at dK;simp(disch:=first|omega|simp only[DI.ab];omega) [-O,-U,-N,-S,-List.map_map]
      · simp
      · intro aH;cases aH
      · intro _;rw[dh,vh G (show(ko u.bf.length u.a1) u.a5[i]=false by simp[ko,db,dx])];simp
    have yW:=sY.1 dx;obtain⟨aT,dY⟩:=k1 yW.1;have y6:aT<u.a1.length:=(by omega);have l5:(aT:Int)<u.a1.length:=(by omega);have bc:u.a1[aT]?=some u.a1[aT]:=dD y6;have av:Al u.a1 (aT:Int)=decide (u.a1[aT].hn=4):=(by unfold Al;rw[pR,bc]);rw[dY]at dx;by_cases kq:u.a1[aT].hn=4
    case neg=>
      simp(disch:=first|omega|simp only[DI.ab];omega) [vU,xO,xP,aU,gp,iK,bl,b9,fV,fU,aO,bd,bY,bZ,j4,wN,ef,a6,db,dx,dY,l5,kq,-O,-U,-N,-S,-List.map_map];refine bk _ _ ⟨dL c7 5 (t.next+7),dL b5 5 (b5 5++[u.a5[i].name]),false,e5.step ai 5 (by decide) (by decide) (n:=1) (h7:=[u.a5[i].name]) rfl (ez (d:=5) ?_ ?_ ?_ ?_ ?_ ?_) ?_ ?_ ?_ (.inr (by omega)) ?_ ?_,?_,?_,?_⟩;any_goals(intro ay;first|(exact absurd rfl ay)|(simp;done))
      · simp(disch:=first|omega|simp only[DI.ab];omega) [-O,-U,-N,-S,-List.map_map]
      · rw[<-eM];simp(disch:=first|omega|simp only[DI.ab];omega) [-O,-U,-N,-S,-List.map_map]
      · rw[<-eM];simp(disch:=first|omega|simp only[DI.ab];omega) [-O,-U,-N,-S,-List.map_map]
      · simp(disch:=first|omega|simp only[DI.ab];omega) [-O,-U,-N,-S,-List.map_map];try omega
      · intro b hb dK;rw[<-hr]at dK;simp(disch:=first|omega|simp only[DI.ab];omega) [-O,-U,-N,-S,-List.map_map]
      · simp
      · intro aH;cases aH
      · intro _;rw[dh,vh G (show(ko u.bf.length u.a1) u.a5[i]=false by simp[ko,db,dx,av,dY,kq])];simp
    simp(disch:=first|omega|simp only[DI.ab];omega) [vU,xO,xP,aU,gp,iK,bl,b9,fV,fU,aO,bd,bY,bZ,j4,wN,ef,a6,db,dx,dY,l5,kq,-O,-U,-N,-S,-List.map_map];refine bk _ _ ⟨dL c7 5 (t.next+7),dL b5 5 (b5 5++[u.a5[i].name]),true,e5.step ai 5 (by decide) (by decide) (n:=1) (h7:=[u.a5[i].name]) rfl (ez (d:=5) ?_ ?_ ?_ ?_ ?_ ?_) ?_ ?_ ?_ (.inr (by omega)) ?_ ?_,?_,?_,?_⟩;any_goals(intro ay;first|(exact absurd rfl ay)|(simp;done))
    · simp(disch:=first|omega|simp only[DI.ab];omega) [-O,-U,-N,-S,-List.map_map]
    · rw[<-eM];simp(disch:=first|omega|simp only[DI.ab];omega) [-O,-U,-N,-S,-List.map_map]
    · rw[<-eM];simp(disch:=first|omega|simp only[DI.ab];omega) [-O,-U,-N,-S,-List.map_map]
    · simp(disch:=first|omega|simp only[DI.ab];omega) [-O,-U,-N,-S,-List.map_map];try omega
    · intro b hb dK;rw[<-hr]at dK;simp(disch:=first|omega|simp only[DI.ab];omega) [-O,-U,-N,-S,-List.map_map]
    · simp
    · intro _;refine⟨kL,?_,?_,vi G fc (by simp[ko,db,dx,av,dY,kq])⟩
      · rw[<-eM,eZ,l7,uU,mR (f:=(·.name)) G]
      · rw[<-mR (f:=(·.name)) G,tz,ma,<-eZ,a6];rfl
    · intro aH;cases aH
  · rintro z t ⟨c7,b5,b,ai,fV,ir,lr⟩;rw[kj]at ir;have bl:=ai.bl;have b9:=ai.b9;have aO:=ai.aO;have fW:=bn aO;have nZ:T=b:=by
      cases b
      · exact lr rfl
      · obtain⟨bw,_,bJ,cb⟩:=ir rfl;rw[dh,bw,bJ,cb];rfl
    have ek: ¬(((u.a5.length:Nat):Int)<u.a5.length):=(by omega);cases b
    all_goals
      simp(disch:=first|omega|simp only[DI.ab];omega) [vU,xO,xP,aU,bl,fV,aO,ek,-O,-U,-N,-S,-List.map_map];exact bT _ _ c7 b5 (by rw[nZ];exact(ai.ka (by simp) (ez (d:=0) (λ_=>by simp) (λ_=>by simp) (λ_=>by simp) (λ_=>by simp) (λ_=>by simp) (λ_=>by simp)))) (λaH=>by rw[nZ]at aH;exact(ir aH).2.1)
  · funext k;by_cases e:k=5
    · subst e;simp
    · rw[ns e]
theorem axq{u:bm}(h:bm.fD u){dA:Bool}{n7:Nat->Nat}{en:Nat->List ByteArray}{c5:aM}{cS:W}(sQ:e5 u dA n7 en c5 cS)(k9:dA=true->(en 7).length<=10000)(sS:dA=true->eh (en 7)=true)(tx:c5 21=Z 0)
    {Q:du->aM->W->Prop} (bT: ∀z t c7 b5,e5 u (dA&&(eh (en 7++u.cM.map (·.name))&&u.cM.all (nt u.cI.length))) c7 b5 z t->((dA&&(eh (en 7++u.cM.map (·.name))&&u.cM.all (nt u.cI.length)))=true->b5=dL en 7 (en 7++u.cM.map (·.name)))->Q (.bh 14) z t):fl al (.loop z0) c5 cS Q:=by
  have eS:u.cM.length<=1000:=h.wg;obtain⟨T,dh⟩: ∃T,T=(dA&&(eh (en 7++u.cM.map (·.name))&&u.cM.all (nt u.cI.length))):=⟨_,rfl⟩;rw[<-dh]at bT;refine h4 (aB:=⟨[rh],[xA]⟩) (λi z t=> ∃c7 b5 b,e5 u b c7 b5 z t/\z 21=Z i/\(b=true->dA=true/\b5=dL en 7 (en 7++(u.cM.take i).map (·.name))/\eh (en 7++(u.cM.take i).map (·.name))=true/\(u.cM.take i).all (nt u.cI.length)=true)/\(b=false->T=false)) u.cM.length ?_ ?_ 0 c5 cS (hx _) ⟨n7,en,dA,sQ,by simpa using tx,λhb=>⟨hb,?_,by simpa using sS hb,by simp⟩,λhb=>by rw[dh,hb];rfl⟩
  · rintro i z t ak ⟨c7,b5,b,ai,fV,ir,lr⟩ cx bk;have G:u.cM[i]?=some u.cM[i]:=dD ak;have bZ:=g3 (n:=i) (by omega);have bY:(i:Int)<u.cM.length:=(by omega);have bl:=ai.bl;have b9:=ai.b9;have aO:=ai.aO;have fW:=bn aO;have fU:=ai.mO 7 (by decide) (by decide);have bd:=ai.g 7 (by decide) (by decide);have iG:=ai.nh 7 (by decide) (by decide);have cp:=bn bd;cases b
    · have n0:=lr rfl;simp(disch:=first|omega|simp only[DI.ab];omega) [z0,C1,aU,bl,b9,fV,aO,bY,-O,-U,-N,-S,-List.map_map];exact bT _ _ c7 b5 (by rw[n0];exact(ai.ka (by simp) (ez (d:=0) (λ_=>by simp) (λ_=>by simp) (λ_=>by simp) (λ_=>by simp) (λ_=>by simp) (λ_=>by simp)))) (λaH=>by rw[n0]at aH;cases aH)
    obtain⟨kL,l7,ma,fc⟩:=ir rfl;have eZ:b5 7=en 7++(u.cM.take i).map (·.name):=(by rw[l7,rl]);have Fq:=k9 kL;have sM:(b5 7).length<1000000:=(by rw[eZ,jI,jg,oZ];omega);obtain⟨L,eM⟩: ∃L,L=b5 7:=⟨_,rfl⟩;obtain⟨o,hr⟩: ∃o,o=c7 7:=⟨_,rfl⟩;rw[<-eM]at fU bd sM eZ;rw[<-hr]at fU bd iG cp;have j4:IntKind.i64.wrap ((u.cI.length:Int)-1)=(u.cI.length:Int)-1:=fx (by omega) (by have:=h.we;omega);cases a6:m1 L u.cM[i].name
    · skip
      simp(disch:=first|omega|simp only[DI.ab];omega) [z0,C1,aU,hQ,iK,bl,b9,fV,fU,aO,bd,bY,bZ,a6,-O,-U,-N,-S,-List.map_map];refine bk _ _ ⟨dL c7 7 (t.next),dL b5 7 (b5 7++[u.cM[i].name]),false,e5.step ai 7 (by decide) (by decide) (n:=1) (h7:=[u.cM[i].name]) rfl (ez (d:=7) ?_ ?_ ?_ ?_ ?_ ?_) ?_ ?_ ?_ (.inr (by omega)) ?_ ?_,?_,?_,?_⟩;any_goals(intro ay;first|(exact absurd rfl ay)|(simp;done))
      · simp(disch:=first|omega|simp only[DI.ab];omega) [-O,-U,-N,-S,-List.map_map]
      · rw[<-eM];simp(disch:=first|omega|simp only[DI.ab];omega) [-O,-U,-N,-S,-List.map_map]
      · rw[<-eM];simp(disch:=first|omega|simp only[DI.ab];omega) [-O,-U,-N,-S,-List.map_map]
      · simp(disch:=first|omega|simp only[DI.ab];omega) [-O,-U,-N,-S,-List.map_map];try omega
      · intro b hb dK;rw[<-hr]at dK;simp(disch:=first|omega|simp only[DI.ab];omega) [-O,-U,-N,-S,-List.map_map]
      · simp
      · intro aH;cases aH
      · intro _;rw[dh,DR (f:=(·.name)) G ma (by rw[<-eZ];exact a6)];simp
    cases db:dE u.cM[i].pF 0 ((u.cI.length:Int)-1)
    · skip
      simp(disch:=first|omega|simp only[DI.ab];omega) [z0,C1,aU,hQ,iK,bl,b9,fV,fU,aO,bd,bY,bZ,j4,a6,db,-O,-U,-N,-S,-List.map_map];refine bk _ _ ⟨dL c7 7 (t.next),dL b5 7 (b5 7++[u.cM[i].name]),false,e5.step ai 7 (by decide) (by decide) (n:=1) (h7:=[u.cM[i].name]) rfl (ez (d:=7) ?_ ?_ ?_ ?_ ?_ ?_) ?_ ?_ ?_ (.inr (by omega)) ?_ ?_,?_,?_,?_⟩;any_goals(intro ay;first|(exact absurd rfl ay)|(simp;done))
      · simp(disch:=first|omega|simp only[DI.ab];omega) [-O,-U,-N,-S,-List.map_map]
      · rw[<-eM];simp(disch:=first|omega|simp only[DI.ab];omega) [-O,-U,-N,-S,-List.map_map]
      · rw[<-eM];simp(disch:=first|omega|simp only[DI.ab];omega) [-O,-U,-N,-S,-List.map_map]
      · simp(disch:=first|omega|simp only[DI.ab];omega) [-O,-U,-N,-S,-List.map_map];try omega
      · intro b hb dK;rw[<-hr]at dK;simp(disch:=first|omega|simp only[DI.ab];omega) [-O,-U,-N,-S,-List.map_map]
      · simp
      · intro aH;cases aH
      · intro _;rw[dh,vh G (show(nt u.cI.length) u.cM[i]=false by simp[nt,db])];simp
    simp(disch:=first|omega|simp only[DI.ab];omega) [z0,C1,aU,hQ,iK,bl,b9,fV,fU,aO,bd,bY,bZ,j4,a6,db,-O,-U,-N,-S,-List.map_map];refine bk _ _ ⟨dL c7 7 (t.next),dL b5 7 (b5 7++[u.cM[i].name]),true,e5.step ai 7 (by decide) (by decide) (n:=1) (h7:=[u.cM[i].name]) rfl (ez (d:=7) ?_ ?_ ?_ ?_ ?_ ?_) ?_ ?_ ?_ (.inr (by omega)) ?_ ?_,?_,?_,?_⟩;any_goals(intro ay;first|(exact absurd rfl ay)|(simp;done))
    · simp(disch:=first|omega|simp only[DI.ab];omega) [-O,-U,-N,-S,-List.map_map]
    · rw[<-eM];simp(disch:=first|omega|simp only[DI.ab];omega) [-O,-U,-N,-S,-List.map_map]
    · rw[<-eM];simp(disch:=first|omega|simp only[DI.ab];omega) [-O,-U,-N,-S,-List.map_map]
    · simp(disch:=first|omega|simp only[DI.ab];omega) [-O,-U,-N,-S,-List.map_map];try omega
    · intro b hb dK;rw[<-hr]at dK;simp(disch:=first|omega|simp only[DI.ab];omega) [-O,-U,-N,-S,-List.map_map]
    · simp
    · intro _;refine⟨kL,?_,?_,vi G fc (by simp[nt,db])⟩
      · rw[<-eM,eZ,l7,uU,mR (f:=(·.name)) G]
      · rw[<-mR (f:=(·.name)) G,tz,ma,<-eZ,a6];rfl
    · intro aH;cases aH
  · rintro z t ⟨c7,b5,b,ai,fV,ir,lr⟩;rw[kj]at ir;have bl:=ai.bl;have b9:=ai.b9;have aO:=ai.aO;have fW:=bn aO;have nZ:T=b:=by
      cases b
      · exact lr rfl
      · obtain⟨bw,_,bJ,cb⟩:=ir rfl;rw[dh,bw,bJ,cb];rfl
    have ek: ¬(((u.cM.length:Nat):Int)<u.cM.length):=(by omega);cases b
    all_goals
      simp(disch:=first|omega|simp only[DI.ab];omega) [z0,C1,aU,bl,fV,aO,ek,-O,-U,-N,-S,-List.map_map];exact bT _ _ c7 b5 (by rw[nZ];exact(ai.ka (by simp) (ez (d:=0) (λ_=>by simp) (λ_=>by simp) (λ_=>by simp) (λ_=>by simp) (λ_=>by simp) (λ_=>by simp)))) (λaH=>by rw[nZ]at aH;exact(ir aH).2.1)
  · funext k;by_cases e:k=7
    · subst e;simp
    · rw[ns e]
def uT(ds l:List gm):Bool:=(List.range l.length).all λi=>match l[i]? with
    |some d=>kK ds i d
    |none=>true
theorem Iq{ds l:List gm}{i:Nat}{d:gm}(G:l[i]?=some d)(h:kK ds i d=false):uT ds l=false:=by unfold uT;rw[Bd];exact⟨i,qz.2 (eB.1 G).1,by simp[G,h]⟩
theorem ayF{ds l:List gm}(h: ∀j d,l[j]?=some d->kK ds j d=true):uT ds l=true:=by
  unfold uT;rw[eQ];intro i ak;cases G:l[i]? with
  |none=>rfl
  |some d=>exact h i d G
theorem axl{u:bm}(h:bm.fD u){R:gm}{ds:List gm}(iu:u.a1=R::ds){dA:Bool}{n7:Nat->Nat}{en:Nat->List ByteArray}{c5:aM}{cS:W}(sQ:e5 u dA n7 en c5 cS)(k9:dA=true->(en 5).length<=10000)(sS:dA=true->eh (en 5)=true)(tx:c5 13=Z 1)
    {Q:du->aM->W->Prop} (bT: ∀z t c7 b5,e5 u (dA&&(eh (en 5++ds.map (·.name))&&uT u.a1 ds)) c7 b5 z t->((dA&&(eh (en 5++ds.map (·.name))&&uT u.a1 ds))=true->b5=dL en 5 (en 5++ds.map (·.name)))->Q (.bh 4) z t):fl al (.loop s3) c5 cS Q:=by
  have eS:u.a1.length<=1000:=h.js;have aEM:u.a1.length=ds.length+1:=by rw[iu];rfl
  obtain⟨T,dh⟩: ∃T,T=(dA&&(eh (en 5++ds.map (·.name))&&uT u.a1 ds)):=⟨_,rfl⟩;rw[<-dh]at bT;refine h4 (aB:=⟨[rh,Nc],[xA]⟩) (λi z t=> ∃c7 b5 b k,k=i+1/\e5 u b c7 b5 z t/\z 13=Z k/\(b=true->dA=true/\b5=dL en 5 (en 5++(ds.take i).map (·.name))/\eh (en 5++(ds.take i).map (·.name))=true/\ ∀j d,j<i->ds[j]?=some d->kK u.a1 j d=true)/\(b=false->T=false)) ds.length ?_ ?_ 0 c5 cS (hx _) ⟨n7,en,dA,1,rfl,sQ,by simpa using tx,λhb=>⟨hb,?_,by simpa using sS hb,λj d b1=>by omega⟩,λhb=>by rw[dh,hb];rfl⟩
  · rintro i z t ak ⟨c7,b5,b,k,aa,ai,fV,ir,lr⟩ cx bk;obtain⟨cL,ox⟩: ∃cL,cL=ds[i]:=⟨_,rfl⟩;have fJ:ds[i]?=some cL:=(by rw[ox];exact dD ak);have G:u.a1[k]?=some cL:=(by rw[aa,iu,DY];exact fJ);have aEJ:k<u.a1.length:=(by omega);have e8:=(eB.1 G).2;have bZ:=g3 (n:=k) (by omega);have cY:IntKind.i64.wrap ((k:Int)-1)=(i:Int):=(by rw[show(k:Int)-1=i by omega];exact fx (by omega) (by omega));have bY:(k:Int)<u.a1.length:=(by omega);have oC:cL.nO.cY:=h.a1 cL (hF G);have bl:=ai.bl;have b9:=ai.b9;have aO:=ai.aO;have fW:=bn aO;have fU:=ai.mO 5 (by decide) (by decide);have bd:=ai.g 5 (by decide) (by decide);have iG:=ai.nh 5 (by decide) (by decide);have cp:=bn bd;cases b
    · have n0:=lr rfl;simp(disch:=first|omega|simp only[DI.ab];omega) [s3,ur,uu,aU,bl,b9,fV,aO,bY,-O,-U,-N,-S,-List.map_map];exact bT _ _ c7 b5 (by rw[n0];exact(ai.ka (by simp) (ez (d:=0) (λ_=>by simp) (λ_=>by simp) (λ_=>by simp) (λ_=>by simp) (λ_=>by simp) (λ_=>by simp)))) (λaH=>by rw[n0]at aH;cases aH)
    obtain⟨kL,l7,ma,fc⟩:=ir rfl;have eZ:b5 5=en 5++(ds.take i).map (·.name):=(by rw[l7,rl]);have Fq:=k9 kL;have sM:(b5 5).length<1000000:=(by rw[eZ,jI,jg,oZ];omega);obtain⟨L,eM⟩: ∃L,L=b5 5:=⟨_,rfl⟩;obtain⟨o,hr⟩: ∃o,o=c7 5:=⟨_,rfl⟩;rw[<-eM]at fU bd sM eZ;rw[<-hr]at fU bd iG cp;obtain⟨ou,By,ahZ,We,⟨Wa,V8,V9⟩⟩:=cL;simp only at oC;cases a6:m1 L ou
    · skip
      simp(disch:=first|omega|simp only[DI.ab];omega) [s3,ur,uu,aU,ef,iK,bl,b9,fV,fU,aO,bd,bY,bZ,e8,a6,-O,-U,-N,-S,-List.map_map];refine bk _ _ ⟨dL c7 5 (t.next+7),dL b5 5 (b5 5++[ou]),false,k+1,by omega,e5.step ai 5 (by decide) (by decide) (n:=1) (h7:=[ou]) rfl (ez (d:=5) ?_ ?_ ?_ ?_ ?_ ?_) ?_ ?_ ?_ (.inr (by omega)) ?_ ?_,?_,?_,?_⟩;any_goals(intro ay;first|(exact absurd rfl ay)|(simp;done))
      · simp(disch:=first|omega|simp only[DI.ab];omega) [-O,-U,-N,-S,-List.map_map]
      · rw[<-eM];simp(disch:=first|omega|simp only[DI.ab];omega) [-O,-U,-N,-S,-List.map_map]
      · rw[<-eM];simp(disch:=first|omega|simp only[DI.ab];omega) [-O,-U,-N,-S,-List.map_map]
      · simp(disch:=first|omega|simp only[DI.ab];omega) [-O,-U,-N,-S,-List.map_map];try omega
      · intro b hb dK;rw[<-hr]at dK;simp(disch:=first|omega|simp only[DI.ab];omega) [-O,-U,-N,-S,-List.map_map]
      · simp
      · intro aH;cases aH
      · intro _;rw[dh,DR (f:=(·.name)) fJ ma (by rw[<-eZ];exact a6)];simp
    cases db:dE By 1 4
    · skip
      simp(disch:=first|omega|simp only[DI.ab];omega) [s3,ur,uu,aU,ef,iK,bl,b9,fV,fU,aO,bd,bY,bZ,e8,a6,db,-O,-U,-N,-S,-List.map_map];refine bk _ _ ⟨dL c7 5 (t.next+7),dL b5 5 (b5 5++[ou]),false,k+1,by omega,e5.step ai 5 (by decide) (by decide) (n:=1) (h7:=[ou]) rfl (ez (d:=5) ?_ ?_ ?_ ?_ ?_ ?_) ?_ ?_ ?_ (.inr (by omega)) ?_ ?_,?_,?_,?_⟩;any_goals(intro ay;first|(exact absurd rfl ay)|(simp;done))
      · simp(disch:=first|omega|simp only[DI.ab];omega) [-O,-U,-N,-S,-List.map_map]
      · rw[<-eM];simp(disch:=first|omega|simp only[DI.ab];omega) [-O,-U,-N,-S,-List.map_map]
      · rw[<-eM];simp(disch:=first|omega|simp only[DI.ab];omega) [-O,-U,-N,-S,-List.map_map]
      · simp(disch:=first|omega|simp only[DI.ab];omega) [-O,-U,-N,-S,-List.map_map];try omega
      · intro b hb dK;rw[<-hr]at dK;simp(disch:=first|omega|simp only[DI.ab];omega) [-O,-U,-N,-S,-List.map_map]
      · simp
      · intro aH;cases aH
      · intro _;rw[dh,Iq (ds:=u.a1) fJ (by simp[kK,db])];simp
    have aDN:=sY.1 db;have j4:IntKind.i64.wrap (By-1)=By-1:=fx (by omega) (by omega);cases dx:dE ahZ 0 i
    · skip
      simp(disch:=first|omega|simp only[DI.ab];omega) [s3,ur,uu,aU,ef,iK,bl,b9,fV,fU,aO,bd,bY,bZ,cY,e8,a6,db,dx,-O,-U,-N,-S,-List.map_map];refine bk _ _ ⟨dL c7 5 (t.next+7),dL b5 5 (b5 5++[ou]),false,k+1,by omega,e5.step ai 5 (by decide) (by decide) (n:=1) (h7:=[ou]) rfl (ez (d:=5) ?_ ?_ ?_ ?_ ?_ ?_) ?_ ?_ ?_ (.inr (by omega)) ?_ ?_,?_,?_,?_⟩;any_goals(intro ay;first|(exact absurd rfl ay)|(simp;done))
      · simp(disch:=first|omega|simp only[DI.ab];omega) [-O,-U,-N,-S,-List.map_map]
      · rw[<-eM];simp(disch:=first|omega|simp only[DI.ab];omega) [-O,-U,-N,-S,-List.map_map]
      · rw[<-eM];simp(disch:=first|omega|simp only[DI.ab];omega) [-O,-U,-N,-S,-List.map_map]
      · simp(disch:=first|omega|simp only[DI.ab];omega) [-O,-U,-N,-S,-List.map_map];try omega
      · intro b hb dK;rw[<-hr]at dK;simp(disch:=first|omega|simp only[DI.ab];omega) [-O,-U,-N,-S,-List.map_map]
      · simp
      · intro aH;cases aH
      · intro _;rw[dh,Iq (ds:=u.a1) fJ (by simp[kK,db,dx])];simp
    have yW:=sY.1 dx;obtain⟨aT,rfl⟩:=k1 yW.1;have y6:aT<u.a1.length:=(by omega);have l5:(aT:Int)<u.a1.length:=(by omega);have bc:u.a1[aT]?=some u.a1[aT]:=dD y6;have av:Ai u.a1 ⟨ou,By,(aT:Int),We,⟨Wa,V8,V9⟩⟩=decide (u.a1[aT].hn=By-1):=(by unfold Ai;simp only[pR,bc]);by_cases f3:u.a1[aT].hn=By-1
    case neg=>
      simp(disch:=first|omega|simp only[DI.ab];omega) [s3,ur,uu,aU,ef,iK,bl,b9,fV,fU,aO,bd,bY,bZ,cY,e8,a6,db,dx,j4,l5,f3,-O,-U,-N,-S,-List.map_map];refine bk _ _ ⟨dL c7 5 (t.next+7),dL b5 5 (b5 5++[ou]),false,k+1,by omega,e5.step ai 5 (by decide) (by decide) (n:=1) (h7:=[ou]) rfl (ez (d:=5) ?_ ?_ ?_ ?_ ?_ ?_) ?_ ?_ ?_ (.inr (by omega)) ?_ ?_,?_,?_,?_⟩;any_goals(intro ay;first|(exact absurd rfl ay)|(simp;done))
      · simp(disch:=first|omega|simp only[DI.ab];omega) [-O,-U,-N,-S,-List.map_map]
      · rw[<-eM];simp(disch:=first|omega|simp only[DI.ab];omega) [-O,-U,-N,-S,-List.map_map]
      · rw[<-eM];simp(disch:=first|omega|simp only[DI.ab];omega) [-O,-U,-N,-S,-List.map_map]
      · simp(disch:=first|omega|simp only[DI.ab];omega) [-O,-U,-N,-S,-List.map_map];try omega
      · intro b hb dK;rw[<-hr]at dK;simp(disch:=first|omega|simp only[DI.ab];omega) [-O,-U,-N,-S,-List.map_map]
      · simp
      · intro aH;cases aH
      · intro _;rw[dh,Iq (ds:=u.a1) fJ (by simp[kK,db,dx,av,f3])];simp
    cases kq:dE We 1 64
    · skip
      simp(disch:=first|omega|simp only[DI.ab];omega) [s3,ur,uu,aU,ef,iK,bl,b9,fV,fU,aO,bd,bY,bZ,cY,e8,a6,db,dx,j4,l5,f3,kq,-O,-U,-N,-S,-List.map_map];refine bk _ _ ⟨dL c7 5 (t.next+7),dL b5 5 (b5 5++[ou]),false,k+1,by omega,e5.step ai 5 (by decide) (by decide) (n:=1) (h7:=[ou]) rfl (ez (d:=5) ?_ ?_ ?_ ?_ ?_ ?_) ?_ ?_ ?_ (.inr (by omega)) ?_ ?_,?_,?_,?_⟩;any_goals(intro ay;first|(exact absurd rfl ay)|(simp;done))
      · simp(disch:=first|omega|simp only[DI.ab];omega) [-O,-U,-N,-S,-List.map_map]
      · rw[<-eM];simp(disch:=first|omega|simp only[DI.ab];omega) [-O,-U,-N,-S,-List.map_map]
      · rw[<-eM];simp(disch:=first|omega|simp only[DI.ab];omega) [-O,-U,-N,-S,-List.map_map]
      · simp(disch:=first|omega|simp only[DI.ab];omega) [-O,-U,-N,-S,-List.map_map];try omega
      · intro b hb dK;rw[<-hr]at dK;simp(disch:=first|omega|simp only[DI.ab];omega) [-O,-U,-N,-S,-List.map_map]
      · simp
      · intro aH;cases aH
      · intro _;rw[dh,Iq (ds:=u.a1) fJ (by simp[kK,db,dx,av,f3,kq])];simp
    cases BA:(bS.mk Wa V8 V9).bA.small
    · skip
      simp(disch:=first|omega|simp only[DI.ab];omega) [s3,ur,uu,aU,ef,iK,bl,b9,fV,fU,aO,bd,bY,bZ,cY,e8,a6,db,dx,j4,l5,f3,kq,BA,-O,-U,-N,-S,-List.map_map];refine bk _ _ ⟨dL c7 5 (t.next+7),dL b5 5 (b5 5++[ou]),false,k+1,by omega,e5.step ai 5 (by decide) (by decide) (n:=1) (h7:=[ou]) rfl (ez (d:=5) ?_ ?_ ?_ ?_ ?_ ?_) ?_ ?_ ?_ (.inr (by omega)) ?_ ?_,?_,?_,?_⟩;any_goals(intro ay;first|(exact absurd rfl ay)|(simp;done))
      · simp(disch:=first|omega|simp only[DI.ab];omega) [-O,-U,-N,-S,-List.map_map]
      · rw[<-eM];simp(disch:=first|omega|simp only[DI.ab];omega) [-O,-U,-N,-S,-List.map_map]
      · rw[<-eM];simp(disch:=first|omega|simp only[DI.ab];omega) [-O,-U,-N,-S,-List.map_map]
      · simp(disch:=first|omega|simp only[DI.ab];omega) [-O,-U,-N,-S,-List.map_map];try omega
      · intro b hb dK;rw[<-hr]at dK;simp(disch:=first|omega|simp only[DI.ab];omega) [-O,-U,-N,-S,-List.map_map]
      · simp
      · intro aH;cases aH
      · intro _;rw[dh,Iq (ds:=u.a1) fJ (by simp[kK,db,dx,av,f3,kq,BA])];simp
    · skip
      simp(disch:=first|omega|simp only[DI.ab];omega) [s3,ur,uu,aU,ef,iK,bl,b9,fV,fU,aO,bd,bY,bZ,cY,e8,a6,db,dx,j4,l5,f3,kq,BA,-O,-U,-N,-S,-List.map_map];refine bk _ _ ⟨dL c7 5 (t.next+7),dL b5 5 (b5 5++[ou]),true,k+1,by omega,e5.step ai 5 (by decide) (by decide) (n:=1) (h7:=[ou]) rfl (ez (d:=5) ?_ ?_ ?_ ?_ ?_ ?_) ?_ ?_ ?_ (.inr (by omega)) ?_ ?_,?_,?_,?_⟩;any_goals(intro ay;first|(exact absurd rfl ay)|(simp;done))
      · simp(disch:=first|omega|simp only[DI.ab];omega) [-O,-U,-N,-S,-List.map_map]
      · rw[<-eM];simp(disch:=first|omega|simp only[DI.ab];omega) [-O,-U,-N,-S,-List.map_map]
      · rw[<-eM];simp(disch:=first|omega|simp only[DI.ab];omega) [-O,-U,-N,-S,-List.map_map]
      · simp(disch:=first|omega|simp only[DI.ab];omega) [-O,-U,-N,-S,-List.map_map];try omega
      · intro b hb dK;rw[<-hr]at dK;simp(disch:=first|omega|simp only[DI.ab];omega) [-O,-U,-N,-S,-List.map_map]
      · simp
      · intro _;refine⟨kL,?_,?_,λj d b1 ay=> ?_⟩
        · rw[<-eM,eZ,l7,uU,<-mR (f:=(·.name)) fJ]
        · rw[<-mR (f:=(·.name)) fJ,tz,ma,<-eZ];exact a6
        · by_cases e:j=i
          · subst e;rw[fJ]at ay;cases ay;simp[kK,db,dx,av,f3,kq,BA]
          · exact fc j d (by omega) ay
      · intro aH;cases aH
  · rintro z t ⟨c7,b5,b,k,aa,ai,fV,ir,lr⟩;rw[kj]at ir;have bl:=ai.bl;have b9:=ai.b9;have aO:=ai.aO;have fW:=bn aO;have nZ:T=b:=by
      cases b
      · exact lr rfl
      · obtain⟨bw,_,bJ,cb⟩:=ir rfl;rw[dh,bw,bJ,ayF λj d ay=>cb j d (eB.1 ay).1 ay];rfl
    have ek: ¬(k:Int)<u.a1.length:=(by omega);cases b
    all_goals
      simp(disch:=first|omega|simp only[DI.ab];omega) [s3,ur,uu,aU,bl,fV,aO,ek,-O,-U,-N,-S,-List.map_map];exact bT _ _ c7 b5 (by rw[nZ];exact(ai.ka (by simp) (ez (d:=0) (λ_=>by simp) (λ_=>by simp) (λ_=>by simp) (λ_=>by simp) (λ_=>by simp) (λ_=>by simp)))) (λaH=>by rw[nZ]at aH;exact(ir aH).2.1)
  · funext k;by_cases e:k=5
    · subst e;simp
    · rw[ns e]
theorem e5.V1{u:bm}{b dk:Bool}{c7:Nat->Nat}{b5:Nat->List ByteArray}{z ae:aM}{t:W}(h:e5 u b c7 b5 z t)(hA:ae 8= .bool dk)(M: ∀k∈lk,ae k=z k):e5 u dk c7 b5 ae t:=
  ⟨(M 1 (by decide)).trans h.bl,hA,h.aO,λk D H=>by have:k=3\/k=4\/k=5\/k=6\/k=7:=(by omega);have av:k∈lk:=(by rcases this with rfl|rfl|rfl|rfl|rfl<;>decide);exact(M k av).trans (h.mO k D H),h.g,h.inj,h.nh⟩
theorem ayo: ∀k∈lk,k∈uR:=by decide
theorem HU{u:bm}(h:bm.fD u){x:ih}{q:Nat}{aX:Bool}{c7:Nat->Nat}{b5:Nat->List ByteArray}{bI:aM}{bF:W}(po:e5 u aX c7 b5 bI bF)(eS:x.bf.length<1000000)(nY:bF.X q=some ⟨fi x,true⟩)(iO:bI 18=cF q)(jH:bI 19=Z 0)
    {Q:du->aM->W->Prop} (bT: ∀dj,e5 u (aX&&n5 x.bf u.bf.length) c7 b5 dj bF->dj 17=bI 17->Q (.bh 10) dj bF):fl al (.loop C4) bI bF Q:=
  axo h eS po.aO nY po.bl iO jH po.b9 λdj M OH=>bT dj (po.V1 OH λk aa=>M k (ayo k aa)) (M 17 (by decide))
theorem axp{u:bm}(h:bm.fD u){dA:Bool}{n7:Nat->Nat}{en:Nat->List ByteArray}{c5:aM}{cS:W}(sQ:e5 u dA n7 en c5 cS)(k9:dA=true->(en 6).length<=10000)(sS:dA=true->eh (en 6)=true)(tx:c5 17=Z 0)
    {Q:du->aM->W->Prop} (bT: ∀z t c7 b5,e5 u (dA&&(eh (en 6++u.cI.map (·.name))&&u.cI.all (ie · u.bf.length))) c7 b5 z t->((dA&&(eh (en 6++u.cI.map (·.name))&&u.cI.all (ie · u.bf.length)))=true->b5=dL en 6 (en 6++u.cI.map (·.name)))->Q (.bh 8) z t):fl al (.loop vV) c5 cS Q:=by
  have eS:u.cI.length<=1000:=h.we;obtain⟨T,dh⟩: ∃T,T=(dA&&(eh (en 6++u.cI.map (·.name))&&u.cI.all (ie · u.bf.length))):=⟨_,rfl⟩;rw[<-dh]at bT;refine h4 (aB:=⟨[TC,TB],[xA]⟩) (λi z t=> ∃c7 b5 b,e5 u b c7 b5 z t/\z 17=Z i/\(b=true->dA=true/\b5=dL en 6 (en 6++(u.cI.take i).map (·.name))/\eh (en 6++(u.cI.take i).map (·.name))=true/\(u.cI.take i).all (ie · u.bf.length)=true)/\(b=false->T=false)) u.cI.length ?_ ?_ 0 c5 cS (hx _) ⟨n7,en,dA,sQ,by simpa using tx,λhb=>⟨hb,?_,by simpa using sS hb,by simp⟩,λhb=>by rw[dh,hb];rfl⟩
  · rintro i z t ak ⟨c7,b5,b,ai,fV,ir,lr⟩ cx bk;obtain⟨x,XQ⟩: ∃x,x=u.cI[i]:=⟨_,rfl⟩;have G:u.cI[i]?=some x:=(by rw[XQ];exact dD ak);have e8:u.cI[i]=x:=XQ.symm;have bZ:=g3 (n:=i) (by omega);have bY:(i:Int)<u.cI.length:=(by omega);have bl:=ai.bl;have b9:=ai.b9;have aO:=ai.aO;have fW:=bn aO;have fU:=ai.mO 6 (by decide) (by decide);have bd:=ai.g 6 (by decide) (by decide);have iG:=ai.nh 6 (by decide) (by decide);have cp:=bn bd;cases b
    · have n0:=lr rfl;simp(disch:=first|omega|simp only[DI.ab];omega) [vV,xQ,xR,xS,xT,aU,bl,b9,fV,aO,bY,-O,-U,-N,-S,-List.map_map];exact bT _ _ c7 b5 (by rw[n0];exact(ai.ka (by simp) (ez (d:=0) (λ_=>by simp) (λ_=>by simp) (λ_=>by simp) (λ_=>by simp) (λ_=>by simp) (λ_=>by simp)))) (λaH=>by rw[n0]at aH;cases aH)
    obtain⟨kL,l7,ma,fc⟩:=ir rfl;have eZ:b5 6=en 6++(u.cI.take i).map (·.name):=(by rw[l7,rl]);have Fq:=k9 kL;have sM:(b5 6).length<1000000:=(by rw[eZ,jI,jg,oZ];omega);obtain⟨L,eM⟩: ∃L,L=b5 6:=⟨_,rfl⟩;obtain⟨o,hr⟩: ∃o,o=c7 6:=⟨_,rfl⟩;rw[<-eM]at fU bd sM eZ;rw[<-hr]at fU bd iG cp;obtain⟨fL,g8,jt,nm⟩:=h.cI x (hF G);obtain⟨eJ,k,m,q,⟨a,b,c,d,e⟩,gA,jF,⟨gE,sg,nQ⟩,⟨au,ax,hb⟩⟩:=x;simp only at fL g8 jt nm;obtain⟨aX,cK⟩: ∃aX,aX=(m1 L eJ&&(ld k m q ⟨a,b,c,d,e⟩&&(nn m jF ⟨gE,sg,nQ⟩ ⟨au,ax,hb⟩&& !gA.isEmpty))):=⟨_,rfl⟩;have ad:ie ⟨eJ,k,m,q,⟨a,b,c,d,e⟩,gA,jF,⟨gE,sg,nQ⟩,⟨au,ax,hb⟩⟩ u.bf.length=(ld k m q ⟨a,b,c,d,e⟩&&(nn m jF ⟨gE,sg,nQ⟩ ⟨au,ax,hb⟩&&(!gA.isEmpty&&n5 gA u.bf.length))):=by
      unfold ie n5;simp only;rw[Bool.eq_iff_iff];simp only[aY];constructor
      · rintro⟨a,b,c,d⟩;exact⟨a,c,b,d⟩
      · rintro⟨a,c,b,d⟩;exact⟨a,b,c,d⟩
    have Eo: ∀sr,sr=aX->(sr&&n5 gA u.bf.length)=false->T=false:=by
      intro sr eq aH;rw[eq,cK]at aH;cases a6:m1 L eJ
      · rw[dh,DR (f:=(·.name)) G ma (by rw[<-eZ];exact a6)];simp
      · rw[a6,ru]at aH;rw[dh,vh G (show(ie · u.bf.length) (ih.mk eJ k m q ⟨a,b,c,d,e⟩ gA jF ⟨gE,sg,nQ⟩ ⟨au,ax,hb⟩)=false by show ie _ _=false;rw[ad];simpa[yJ]using aH)];simp
    have E1: ∀sr,sr=aX->(sr&&n5 gA u.bf.length)=true->m1 L eJ=true/\ie ⟨eJ,k,m,q,⟨a,b,c,d,e⟩,gA,jF,⟨gE,sg,nQ⟩,⟨au,ax,hb⟩⟩ u.bf.length=true:=(by intro sr eq aH;rw[eq,cK]at aH;simp only[aY]at aH;rw[ad];simp only[aY];exact⟨aH.1.1,aH.1.2.1,aH.1.2.2.1,aH.1.2.2.2,aH.2⟩);cases a6:m1 L eJ
    · skip
      have p5:false=aX:=(by rw[cK];simp[a6]);simp(disch:=first|omega|simp only[DI.ab];omega) [vV,xQ,xR,xS,xT,aU,fi,iK,bl,b9,fV,fU,aO,bd,bY,e8,a6,-O,-U,-N,-S,-List.map_map];refine HU h (x:=⟨eJ,k,m,q,⟨a,b,c,d,e⟩,gA,jF,⟨gE,sg,nQ⟩,⟨au,ax,hb⟩⟩) (q:=t.next+5) (e5.step ai 6 (dk:=false) (o:=t.next+7) (by decide) (by decide) (n:=1) (h7:=[eJ]) rfl (ez (d:=6) ?_ ?_ ?_ ?_ ?_ ?_) ?_ ?_ ?_ (.inr (by omega)) ?_ ?_) nm (by simp(disch:=first|omega|simp only[DI.ab];omega) [fi,-O,-U,-N,-S,-List.map_map]) (by simp) (by simp) λdj kM vo=> ?_;any_goals(intro ay;first|(exact absurd rfl ay)|(simp;done))
      · simp(disch:=first|omega|simp only[DI.ab];omega) [-O,-U,-N,-S,-List.map_map]
      · rw[<-eM];simp(disch:=first|omega|simp only[DI.ab];omega) [-O,-U,-N,-S,-List.map_map]
      · rw[<-eM];simp(disch:=first|omega|simp only[DI.ab];omega) [-O,-U,-N,-S,-List.map_map]
      · simp(disch:=first|omega|simp only[DI.ab];omega) [-O,-U,-N,-S,-List.map_map];try omega
      · intro b hb dK;rw[<-hr]at dK;simp(disch:=first|omega|simp only[DI.ab];omega) [-O,-U,-N,-S,-List.map_map]
      have vp:dj 17=Z i:=vo.trans (by simp[fV]);simp(disch:=first|omega|simp only[DI.ab];omega) [vp,bZ,-O,-U,-N,-S,-List.map_map];refine bk _ _ ⟨_,_,_,kM.ka (by simp) (ez (d:=0) (λ_=>by simp) (λ_=>by simp) (λ_=>by simp) (λ_=>by simp) (λ_=>by simp) (λ_=>by simp)),by simp,λaH=> ?_,λaH=>Eo _ p5 aH⟩;obtain⟨aQ,a7⟩:=E1 _ p5 aH;refine⟨kL,?_,?_,vi G fc a7⟩
      · rw[<-eM,eZ,l7,uU,<-mR (f:=(·.name)) G]
      · rw[<-mR (f:=(·.name)) G,tz,ma,<-eZ];exact aQ
    cases db:ld k m q ⟨a,b,c,d,e⟩
    · skip
      have p5:false=aX:=(by rw[cK];simp[a6,db]);simp(disch:=first|omega|simp only[DI.ab];omega) [vV,xQ,xR,xS,xT,aU,fi,iK,bl,b9,fV,fU,aO,bd,bY,e8,a6,db,-O,-U,-N,-S,-List.map_map];refine HU h (x:=⟨eJ,k,m,q,⟨a,b,c,d,e⟩,gA,jF,⟨gE,sg,nQ⟩,⟨au,ax,hb⟩⟩) (q:=t.next+5) (e5.step ai 6 (dk:=false) (o:=t.next+7) (by decide) (by decide) (n:=1) (h7:=[eJ]) rfl (ez (d:=6) ?_ ?_ ?_ ?_ ?_ ?_) ?_ ?_ ?_ (.inr (by omega)) ?_ ?_) nm (by simp(disch:=first|omega|simp only[DI.ab];omega) [fi,-O,-U,-N,-S,-List.map_map]) (by simp) (by simp) λdj kM vo=> ?_;any_goals(intro ay;first|(exact absurd rfl ay)|(simp;done))
      · simp(disch:=first|omega|simp only[DI.ab];omega) [-O,-U,-N,-S,-List.map_map]
      · rw[<-eM];simp(disch:=first|omega|simp only[DI.ab];omega) [-O,-U,-N,-S,-List.map_map]
      · rw[<-eM];simp(disch:=first|omega|simp only[DI.ab];omega) [-O,-U,-N,-S,-List.map_map]
      · simp(disch:=first|omega|simp only[DI.ab];omega) [-O,-U,-N,-S,-List.map_map];try omega
      · intro b hb dK;rw[<-hr]at dK;simp(disch:=first|omega|simp only[DI.ab];omega) [-O,-U,-N,-S,-List.map_map]
      have vp:dj 17=Z i:=vo.trans (by simp[fV]);simp(disch:=first|omega|simp only[DI.ab];omega) [vp,bZ,-O,-U,-N,-S,-List.map_map];refine bk _ _ ⟨_,_,_,kM.ka (by simp) (ez (d:=0) (λ_=>by simp) (λ_=>by simp) (λ_=>by simp) (λ_=>by simp) (λ_=>by simp) (λ_=>by simp)),by simp,λaH=> ?_,λaH=>Eo _ p5 aH⟩;obtain⟨aQ,a7⟩:=E1 _ p5 aH;refine⟨kL,?_,?_,vi G fc a7⟩
      · rw[<-eM,eZ,l7,uU,<-mR (f:=(·.name)) G]
      · rw[<-mR (f:=(·.name)) G,tz,ma,<-eZ];exact aQ
    have aio:0<=m/\m<=4:=(by have:dE m 0 4=true:=(by simp only[ld,aY]at db;exact db.2.1);exact sY.1 this);have BT:(0<=m/\m<=4)/\((∀x∈jF,x.cY)/\jF.length<1000000)/\(bS.mk gE sg nQ).cY/\(bS.mk au ax hb).cY:=⟨aio,fL,g8,jt⟩;cases dx:nn m jF ⟨gE,sg,nQ⟩ ⟨au,ax,hb⟩
    · skip
      have p5:false=aX:=(by rw[cK];simp[a6,db,dx]);simp(disch:=first|omega|simp only[DI.ab];omega) [vV,xQ,xR,xS,xT,aU,fi,iK,bl,b9,fV,fU,aO,bd,bY,e8,a6,db,dx,-O,-U,-N,-S,-List.map_map];refine HU h (x:=⟨eJ,k,m,q,⟨a,b,c,d,e⟩,gA,jF,⟨gE,sg,nQ⟩,⟨au,ax,hb⟩⟩) (q:=t.next+5) (e5.step ai 6 (dk:=false) (o:=t.next+7) (by decide) (by decide) (n:=1) (h7:=[eJ]) rfl (ez (d:=6) ?_ ?_ ?_ ?_ ?_ ?_) ?_ ?_ ?_ (.inr (by omega)) ?_ ?_) nm (by simp(disch:=first|omega|simp only[DI.ab];omega) [fi,-O,-U,-N,-S,-List.map_map]) (by simp) (by simp) λdj kM vo=> ?_;any_goals(intro ay;first|(exact absurd rfl ay)|(simp;done))
      · simp(disch:=first|omega|simp only[DI.ab];omega) [-O,-U,-N,-S,-List.map_map]
      · rw[<-eM];simp(disch:=first|omega|simp only[DI.ab];omega) [-O,-U,-N,-S,-List.map_map]
      · rw[<-eM];simp(disch:=first|omega|simp only[DI.ab];omega) [-O,-U,-N,-S,-List.map_map]
      · simp(disch:=first|omega|simp only[DI.ab];omega) [-O,-U,-N,-S,-List.map_map];try omega
      · intro b hb dK;rw[<-hr]at dK;simp(disch:=first|omega|simp only[DI.ab];omega) [-O,-U,-N,-S,-List.map_map]
      have vp:dj 17=Z i:=vo.trans (by simp[fV]);simp(disch:=first|omega|simp only[DI.ab];omega) [vp,bZ,-O,-U,-N,-S,-List.map_map];refine bk _ _ ⟨_,_,_,kM.ka (by simp) (ez (d:=0) (λ_=>by simp) (λ_=>by simp) (λ_=>by simp) (λ_=>by simp) (λ_=>by simp) (λ_=>by simp)),by simp,λaH=> ?_,λaH=>Eo _ p5 aH⟩;obtain⟨aQ,a7⟩:=E1 _ p5 aH;refine⟨kL,?_,?_,vi G fc a7⟩
      · rw[<-eM,eZ,l7,uU,<-mR (f:=(·.name)) G]
      · rw[<-mR (f:=(·.name)) G,tz,ma,<-eZ];exact aQ
    by_cases xn:gA.length=0
    · have aje: ¬(0:Int)<gA.length:=(by omega);have Pu:gA.isEmpty=true:=(by rw[N5];exact xn);have Pt:gA=[]:=pO.1 xn;have p5:false=aX:=(by rw[cK];simp[a6,db,dx,Pu]);simp(disch:=first|omega|simp only[DI.ab];omega) [vV,xQ,xR,xS,xT,aU,fi,iK,bl,b9,fV,fU,aO,bd,bY,e8,a6,db,dx,xn,-O,-U,-N,-S,-List.map_map];refine HU h (x:=⟨eJ,k,m,q,⟨a,b,c,d,e⟩,gA,jF,⟨gE,sg,nQ⟩,⟨au,ax,hb⟩⟩) (q:=t.next+5) (e5.step ai 6 (dk:=false) (o:=t.next+7) (by decide) (by decide) (n:=1) (h7:=[eJ]) rfl (ez (d:=6) ?_ ?_ ?_ ?_ ?_ ?_) ?_ ?_ ?_ (.inr (by omega)) ?_ ?_) nm (by simp(disch:=first|omega|simp only[DI.ab];omega) [fi,-O,-U,-N,-S,-List.map_map]) (by simp) (by simp) λdj kM vo=> ?_;any_goals(intro ay;first|(exact absurd rfl ay)|(simp;done))
      · simp(disch:=first|omega|simp only[DI.ab];omega) [-O,-U,-N,-S,-List.map_map]
      · rw[<-eM];simp(disch:=first|omega|simp only[DI.ab];omega) [-O,-U,-N,-S,-List.map_map]
      · rw[<-eM];simp(disch:=first|omega|simp only[DI.ab];omega) [-O,-U,-N,-S,-List.map_map]
      · simp(disch:=first|omega|simp only[DI.ab];omega) [-O,-U,-N,-S,-List.map_map];try omega
      · intro b hb dK;rw[<-hr]at dK;simp(disch:=first|omega|simp only[DI.ab];omega) [-O,-U,-N,-S,-List.map_map]
      have vp:dj 17=Z i:=vo.trans (by simp[fV]);simp(disch:=first|omega|simp only[DI.ab];omega) [vp,bZ,-O,-U,-N,-S,-List.map_map];refine bk _ _ ⟨_,_,_,kM.ka (by simp) (ez (d:=0) (λ_=>by simp) (λ_=>by simp) (λ_=>by simp) (λ_=>by simp) (λ_=>by simp) (λ_=>by simp)),by simp,λaH=> ?_,λaH=>Eo _ p5 aH⟩;obtain⟨aQ,a7⟩:=E1 _ p5 aH;refine⟨kL,?_,?_,vi G fc a7⟩
      · rw[<-eM,eZ,l7,uU,<-mR (f:=(·.name)) G]
      · rw[<-mR (f:=(·.name)) G,tz,ma,<-eZ];exact aQ
    have aje:(0:Int)<gA.length:=(by omega);have ajf:0<gA.length:=(by omega);have Pu:gA.isEmpty=false:=by
      cases bc:gA.isEmpty
      · rfl
      · rw[N5]at bc;exact absurd bc xn
    have p5:true=aX:=(by rw[cK];simp[a6,db,dx,Pu]);simp(disch:=first|omega|simp only[DI.ab];omega) [vV,xQ,xR,xS,xT,aU,fi,iK,bl,b9,fV,fU,aO,bd,bY,e8,a6,db,dx,ajf,-O,-U,-N,-S,-List.map_map];refine HU h (x:=⟨eJ,k,m,q,⟨a,b,c,d,e⟩,gA,jF,⟨gE,sg,nQ⟩,⟨au,ax,hb⟩⟩) (q:=t.next+5) (e5.step ai 6 (dk:=true) (o:=t.next+7) (by decide) (by decide) (n:=1) (h7:=[eJ]) rfl (ez (d:=6) ?_ ?_ ?_ ?_ ?_ ?_) ?_ ?_ ?_ (.inr (by omega)) ?_ ?_) nm (by simp(disch:=first|omega|simp only[DI.ab];omega) [fi,-O,-U,-N,-S,-List.map_map]) (by simp) (by simp) λdj kM vo=> ?_;any_goals(intro ay;first|(exact absurd rfl ay)|(simp;done))
    · simp(disch:=first|omega|simp only[DI.ab];omega) [-O,-U,-N,-S,-List.map_map]
    · rw[<-eM];simp(disch:=first|omega|simp only[DI.ab];omega) [-O,-U,-N,-S,-List.map_map]
    · rw[<-eM];simp(disch:=first|omega|simp only[DI.ab];omega) [-O,-U,-N,-S,-List.map_map]
    · simp(disch:=first|omega|simp only[DI.ab];omega) [-O,-U,-N,-S,-List.map_map];try omega
    · intro b hb dK;rw[<-hr]at dK;simp(disch:=first|omega|simp only[DI.ab];omega) [-O,-U,-N,-S,-List.map_map]
    have vp:dj 17=Z i:=vo.trans (by simp[fV]);simp(disch:=first|omega|simp only[DI.ab];omega) [vp,bZ,-O,-U,-N,-S,-List.map_map];refine bk _ _ ⟨_,_,_,kM.ka (by simp) (ez (d:=0) (λ_=>by simp) (λ_=>by simp) (λ_=>by simp) (λ_=>by simp) (λ_=>by simp) (λ_=>by simp)),by simp,λaH=> ?_,λaH=>Eo _ p5 aH⟩;obtain⟨aQ,a7⟩:=E1 _ p5 aH;refine⟨kL,?_,?_,vi G fc a7⟩
    · rw[<-eM,eZ,l7,uU,<-mR (f:=(·.name)) G]
    · rw[<-mR (f:=(·.name)) G,tz,ma,<-eZ];exact aQ
  · rintro z t ⟨c7,b5,b,ai,fV,ir,lr⟩;rw[kj]at ir;have bl:=ai.bl;have b9:=ai.b9;have aO:=ai.aO;have fW:=bn aO;have nZ:T=b:=by
      cases b
      · exact lr rfl
      · obtain⟨bw,_,bJ,cb⟩:=ir rfl;rw[dh,bw,bJ,cb];rfl
    have ek: ¬(((u.cI.length:Nat):Int)<u.cI.length):=(by omega);cases b
    all_goals
      simp(disch:=first|omega|simp only[DI.ab];omega) [vV,xQ,xR,xS,xT,aU,bl,fV,aO,ek,-O,-U,-N,-S,-List.map_map];exact bT _ _ c7 b5 (by rw[nZ];exact(ai.ka (by simp) (ez (d:=0) (λ_=>by simp) (λ_=>by simp) (λ_=>by simp) (λ_=>by simp) (λ_=>by simp) (λ_=>by simp)))) (λaH=>by rw[nZ]at aH;exact(ir aH).2.1)
  · funext k;by_cases e:k=6
    · subst e;simp
    · rw[ns e]
theorem awV{x:eD}(cR:0<=x.n):(x.ok&&decide (nJ x .nil=0))=(x.small&& !decide (0<x.n)):=by
  simp only[eD.ok,eD.small,ru,aek cR];by_cases bD:x.n=0
  · simp[bD]
  · have:0<x.n:=(by omega);simp[bD,this]
theorem e5.xa{u:bm}{b dk:Bool}{c7:Nat->Nat}{b5:Nat->List ByteArray}{z ae:aM}{t aJ:W}(h:e5 u b c7 b5 z t)(hA:ae 8= .bool dk)(M: ∀k∈lk,ae k=z k)(bt: ∀o,o<t.next->aJ.X o=t.X o):e5 u dk c7 b5 ae aJ:=by obtain⟨a3,br,bX,e1,fY,nL,awm⟩:=h.V1 hA M;exact⟨a3,br,(bt _ (bn bX)).trans bX,e1,λk a b=>(bt _ (bn (fY k a b))).trans (fY k a b),nL,awm⟩
theorem ae5{a b c d e f:Nat}:ri a b c d e f=(decide (a<=4)&&(decide (b<=4)&&(decide (c<=40)&&(decide (d<=24)&&(decide (e<=4)&&decide (f<=12)))))):=by
  unfold ri;congr 1
  · exact decide_eq_decide.2 (by omega)
  congr 1
  · exact decide_eq_decide.2 (by omega)
  congr 1
  · exact decide_eq_decide.2 (by omega)
  congr 1
  · exact decide_eq_decide.2 (by omega)
  congr 1
  · exact decide_eq_decide.2 (by omega)
  · exact decide_eq_decide.2 (by omega)
theorem yo{z ae:aM}(D:ae 1=z 1)(aq:ae 3=z 3)(aE:ae 4=z 4)(bq:ae 5=z 5)(cP:ae 6=z 6)(fB:ae 7=z 7): ∀k∈lk,ae k=z k:= λk aa=>by simp only[lk,gT,iP,or_false]at aa;rcases aa with rfl|rfl|rfl|rfl|rfl|rfl<;>assumption
theorem axr{u:bm}(h:bm.fD u){R:gm}(fJ:u.a1[0]?=some R){b:Bool}{c7:Nat->Nat}{b5:Nat->List ByteArray}{z:aM}{t:W}(ai:e5 u b c7 b5 z t){Q:du->aM->W->Prop}
    (H: ∀ae aJ,e5 u (b&&nM R) c7 b5 ae aJ->iR (P:=al) ⟨[rh,Dw,Dx,yl],[]⟩ C0 ae aJ Q):iR (P:=al) ⟨[rh,Dw,Dx,yl],[]⟩ mG z t Q:=by
  have nB:0<u.a1.length:=(eB.1 fJ).1;have xq:(0:Int)<u.a1.length:=by omega
  have n2:=(eB.1 fJ).2;have Mo:R.nO.cY:=h.a1 R (hF fJ);have bl:=ai.bl;have b9:=ai.b9;have aO:=ai.aO;have fW:=bn aO;have ad:=awV (x:=R.nO.bA) (bS.avG Mo);obtain⟨Ta,S9,Tf,Ti,⟨AF,AB,AD⟩⟩:=R;simp only at Mo ad
  replace H: ∀ae aJ,∀{v:Bool},e5 u v c7 b5 ae aJ->(b&&(decide (Ta=⟨#[]⟩)&&(decide (S9=0)&&(decide (Tf= -1)&&(decide (Ti=0)&&((bS.mk AF AB AD).bA.ok&&decide (nJ (bS.mk AF AB AD).bA .nil=0)))))))=v->iR (P:=al) ⟨[rh,Dw,Dx,yl],[]⟩ C0 ae aJ Q:= λae aJ v vE e=>H ae aJ (by have:(b&&nM ⟨Ta,S9,Tf,Ti,⟨AF,AB,AD⟩⟩)=v:=(by rw[<-e,ad];rfl);rw[this];exact vE)
  cases b
  · skip
    simp(disch:=first|omega|simp only[DI.ab];omega) [mG,na,na,mG,aU,ef,bl,b9,aO,nB,n2,-O,-U,-N,-S,-List.map_map];exact H _ _ (ai.xa (dk:=false) (by simp) (yo (by simp) (by simp) (by simp) (by simp) (by simp) (by simp)) (λo aC=>by simp(disch:=first|omega|simp only[DI.ab];omega) [-O,-U,-N,-S,-List.map_map])) rfl
  by_cases ch:Ta=⟨#[]⟩
  case neg=>simp(disch:=first|omega|simp only[DI.ab];omega) [mG,na,na,mG,aU,ef,bl,b9,aO,nB,n2,ch,-O,-U,-N,-S,-List.map_map];exact H _ _ (ai.xa (dk:=false) (by simp) (yo (by simp) (by simp) (by simp) (by simp) (by simp) (by simp)) (λo aC=>by simp(disch:=first|omega|simp only[DI.ab];omega) [-O,-U,-N,-S,-List.map_map])) (by simp[ch])
  by_cases c6:S9=0
  case neg=>simp(disch:=first|omega|simp only[DI.ab];omega) [mG,na,na,mG,aU,ef,bl,b9,aO,nB,n2,ch,c6,-O,-U,-N,-S,-List.map_map];exact H _ _ (ai.xa (dk:=false) (by simp) (yo (by simp) (by simp) (by simp) (by simp) (by simp) (by simp)) (λo aC=>by simp(disch:=first|omega|simp only[DI.ab];omega) [-O,-U,-N,-S,-List.map_map])) (by simp[ch,c6])
  by_cases iq:Tf= -1
  case neg=>simp(disch:=first|omega|simp only[DI.ab];omega) [mG,na,na,mG,aU,ef,bl,b9,aO,nB,n2,ch,c6,iq,-O,-U,-N,-S,-List.map_map];exact H _ _ (ai.xa (dk:=false) (by simp) (yo (by simp) (by simp) (by simp) (by simp) (by simp) (by simp)) (λo aC=>by simp(disch:=first|omega|simp only[DI.ab];omega) [-O,-U,-N,-S,-List.map_map])) (by simp[ch,c6,iq])
  by_cases iS:Ti=0
  case neg=>simp(disch:=first|omega|simp only[DI.ab];omega) [mG,na,na,mG,aU,ef,bl,b9,aO,nB,n2,ch,c6,iq,iS,-O,-U,-N,-S,-List.map_map];exact H _ _ (ai.xa (dk:=false) (by simp) (yo (by simp) (by simp) (by simp) (by simp) (by simp) (by simp)) (λo aC=>by simp(disch:=first|omega|simp only[DI.ab];omega) [-O,-U,-N,-S,-List.map_map])) (by simp[ch,c6,iq,iS])
  cases l2:(bS.mk AF AB AD).bA.ok
  · skip
    simp(disch:=first|omega|simp only[DI.ab];omega) [mG,na,na,mG,aU,ef,bl,b9,aO,nB,n2,ch,c6,iq,iS,l2,-O,-U,-N,-S,-List.map_map];exact H _ _ (ai.xa (dk:=false) (by simp) (yo (by simp) (by simp) (by simp) (by simp) (by simp) (by simp)) (λo aC=>by simp(disch:=first|omega|simp only[DI.ab];omega) [-O,-U,-N,-S,-List.map_map])) (by simp[ch,c6,iq,iS,l2])
  have aa:(bS.mk AF AB AD).cY/\(bS.mk AF AB AD).bA.ok=true:=⟨Mo,l2⟩;by_cases p0:nJ (bS.mk AF AB AD).bA .nil=0
  case neg=>simp(disch:=first|omega|simp only[DI.ab];omega) [mG,na,na,mG,aU,ef,bl,b9,aO,nB,n2,ch,c6,iq,iS,l2,p0,-O,-U,-N,-S,-List.map_map];exact H _ _ (ai.xa (dk:=false) (by simp) (yo (by simp) (by simp) (by simp) (by simp) (by simp) (by simp)) (λo aC=>by simp(disch:=first|omega|simp only[DI.ab];omega) [-O,-U,-N,-S,-List.map_map])) (by simp[ch,c6,iq,iS,l2,p0])
  simp(disch:=first|omega|simp only[DI.ab];omega) [mG,na,na,mG,aU,ef,bl,b9,aO,nB,n2,ch,c6,iq,iS,l2,p0,-O,-U,-N,-S,-List.map_map];exact H _ _ (ai.xa (dk:=true) (by simp) (yo (by simp) (by simp) (by simp) (by simp) (by simp) (by simp)) (λo aC=>by simp(disch:=first|omega|simp only[DI.ab];omega) [-O,-U,-N,-S,-List.map_map])) (by simp[ch,c6,iq,iS,l2,p0])
theorem aeV{u:bm}(h:bm.fD u):bK al 87 [.agg (aU u).toArray] (.bool (gg u)):=by
  refine et (dM (aB:=⟨[rh,Dw,Dx,yl],[]⟩) atD (by kernel_rfl) (by simp[CZ]) ?_);cases D:dE u.ext 1 4
  · have aS:gg u=false:=(by simp[gg,D]);simp(disch:=first|omega|simp only[DI.ab];omega) [CZ,He,Hf,L2,L7,L8,L9,mG,na,C0,L0,L1,L5,L6,aU,D,aS,-O,-U,-N,-S,-List.map_map]
  cases H:ri u.cH.length u.bf.length u.a1.length u.a5.length u.cI.length u.cM.length
  · have aS:gg u=false:=by
      rw[ae5]at H;unfold gg;rw[D];cases bc:(decide (u.cH.length<=4)&&(decide (u.bf.length<=4)&&(decide (u.a1.length<=40)&&(decide (u.a5.length<=24)&&(decide (u.cI.length<=4)&&decide (u.cM.length<=12))))))
      · simp only[ru,A8,decide_eq_false_iff_not]at bc⊢;rcases bc with bc|bc|bc|bc|bc|bc<;>simp[bc]
      · rw[bc]at H;cases H
    simp(disch:=first|omega|simp only[DI.ab];omega) [CZ,He,Hf,L2,L7,L8,L9,mG,na,C0,L0,L1,L5,L6,aU,D,H,aS,-O,-U,-N,-S,-List.map_map]
  cases iu:u.a1 with
  | nil=>have lv:(u.a1.length:Int)=0:=(by rw[iu];rfl);have qV:u.a1.length=0:=(by rw[iu];rfl);have aS:gg u=false:=(by simp[gg,iu,nz]);have sJ:ri u.cH.length u.bf.length 0 u.a5.length u.cI.length u.cM.length=true:=(by rw[<-lv];exact H);simp(disch:=first|omega|simp only[DI.ab];omega) [CZ,He,Hf,aU,D,sJ,aS,qV,-O,-U,-N,-S,-List.map_map]
  |cons R ds=>
  have lv: ¬(u.a1.length:Int)=0:=by rw[iu];simp;omega
  have qV: ¬u.a1.length=0:=by rw[iu];simp
  have xq:(0:Int)<u.a1.length:=by omega
  have nB:0<u.a1.length:=by omega
  have Mo:R.nO.cY:=h.a1 R (by rw[iu];simp);have fJ:u.a1[0]?=some R:=by rw[iu];rfl
  have n2:=(eB.1 fJ).2;simp(disch:=first|omega|simp only[DI.ab];omega) [CZ,He,Hf,L2,L7,L8,aU,D,H,qV,-O,-U,-N,-S,-List.map_map];refine afZ (u:=u) (by simp) (by simp) (by simp) (by simp) (by simp) (by simp) (by simp) (by simp(disch:=first|omega|simp only[DI.ab];omega) [aU,-O,-U,-N,-S,-List.map_map]) λz t c7 ai aa=> ?_;refine axj h ai (λ_=>by simp) (λ_=>Is) ((aa 9 (by decide)).trans (by simp)) λz t c7 b5 ai hb=> ?_;obtain⟨dk,aK⟩: ∃b,b=(true&&(eh ([]++u.cH.map (·.name))&&u.cH.all hX.mi)):=⟨_,rfl⟩;rw[<-aK]at ai hb;simp(disch:=first|omega|simp only[DI.ab];omega) [L9,-O,-U,-N,-S,-List.map_map];refine axk h (ai.ka (by simp) (ez (d:=0) (λ_=>by simp) (λ_=>by simp) (λ_=>by simp) (λ_=>by simp) (λ_=>by simp) (λ_=>by simp))) (λaH=>by rw[hb aH];simp[dL]) (λaH=>by rw[hb aH];simp[dL,Is]) (by simp) λz t c7 Ah ai fN=> ?_;obtain⟨ev,aR⟩: ∃b,b=(dk&&(eh (b5 4++u.bf.map (·.name))&&u.bf.all (ky u.cH.length))):=⟨_,rfl⟩;rw[<-aR]at ai fN;have gY:ev=true->dk=true:= λaH=>by rw[aR,aY]at aH;exact aH.1
  replace fN:ev=true->Ah=dL (dL (λ_=>[]) 3 (u.cH.map (·.name))) 4 (u.bf.map (·.name)):= λaH=>by rw[fN aH,hb (gY aH)];simp[dL]
  replace aR:ev=(dk&&(eh (u.bf.map (·.name))&&u.bf.all (ky u.cH.length))):=by
    cases bc:dk
    · rw[aR,bc];rfl
    · rw[aR,bc,hb bc];simp[dL]
  clear hb;refine axr h fJ ai λz t ai=> ?_;obtain⟨gG,cB⟩: ∃b,b=(ev&&nM R):=⟨_,rfl⟩;rw[<-cB]at ai;have hU:gG=true->ev=true:= λaH=>by rw[cB,aY]at aH;exact aH.1
  simp(disch:=first|omega|simp only[DI.ab];omega) [C0,-O,-U,-N,-S,-List.map_map];refine axl h iu (ai.ka (by simp) (ez (d:=0) (λ_=>by simp) (λ_=>by simp) (λ_=>by simp) (λ_=>by simp) (λ_=>by simp) (λ_=>by simp))) (λaH=>by rw[fN (hU aH)];simp[dL]) (λaH=>by rw[fN (hU aH)];simp[dL,Is]) (by simp) λz t c7 b5 ai hb=> ?_;obtain⟨gH,gX⟩: ∃b,b=(gG&&(eh (Ah 5++ds.map (·.name))&&uT u.a1 ds)):=⟨_,rfl⟩;rw[<-gX]at ai hb;have s6:gH=true->gG=true:= λaH=>by rw[gX,aY]at aH;exact aH.1
  replace hb:gH=true->b5=dL (dL (dL (λ_=>[]) 3 (u.cH.map (·.name))) 4 (u.bf.map (·.name))) 5 (ds.map (·.name)):= λaH=>by rw[hb aH,fN (hU (s6 aH))];simp[dL]
  replace gX:gH=(gG&&(eh (ds.map (·.name))&&uT u.a1 ds)):=by
    cases bc:gG
    · rw[gX,bc];rfl
    · rw[gX,bc,fN (hU bc)];simp[dL]
  have NK:gH=true->eh (ds.map (·.name))=true:= λaH=>by rw[gX]at aH;simp only[aY]at aH;exact aH.2.1
  clear fN;simp(disch:=first|omega|simp only[DI.ab];omega) [L0,-O,-U,-N,-S,-List.map_map];refine axm h (ai.ka (by simp) (ez (d:=0) (λ_=>by simp) (λ_=>by simp) (λ_=>by simp) (λ_=>by simp) (λ_=>by simp) (λ_=>by simp))) (λaH=>by rw[hb aH];have:=h.js;rw[iu]at this;simp[dL]at this⊢;omega) (λaH=>by rw[hb aH];simpa[dL]using NK aH) (by simp) λz t c7 Ah ai fN=> ?_;obtain⟨lp,mx⟩: ∃b,b=(gH&&(eh (b5 5++u.a5.map (·.name))&&u.a5.all (ko u.bf.length u.a1))):=⟨_,rfl⟩;rw[<-mx]at ai fN;have Ad:lp=true->gH=true:= λaH=>by rw[mx,aY]at aH;exact aH.1
  replace fN:lp=true->Ah 6=[]/\Ah 7=[]:= λaH=>by rw[fN aH,hb (Ad aH)];simp[dL]
  replace mx:lp=(gH&&(eh (ds.map (·.name)++u.a5.map (·.name))&&u.a5.all (ko u.bf.length u.a1))):=by
    cases bc:gH
    · rw[mx,bc];rfl
    · rw[mx,bc,hb bc];simp[dL]
  clear hb;simp(disch:=first|omega|simp only[DI.ab];omega) [L1,-O,-U,-N,-S,-List.map_map];refine axp h (ai.ka (by simp) (ez (d:=0) (λ_=>by simp) (λ_=>by simp) (λ_=>by simp) (λ_=>by simp) (λ_=>by simp) (λ_=>by simp))) (λaH=>by rw[(fN aH).1];simp) (λaH=>by rw[(fN aH).1];exact Is) (by simp) λz t c7 b5 ai hb=> ?_;obtain⟨lq,kp⟩: ∃b,b=(lp&&(eh (Ah 6++u.cI.map (·.name))&&u.cI.all (ie · u.bf.length))):=⟨_,rfl⟩;rw[<-kp]at ai hb;have uz:lq=true->lp=true:= λaH=>by rw[kp,aY]at aH;exact aH.1
  replace hb:lq=true->b5 7=[]:= λaH=>by rw[hb aH,ns (by decide),(fN (uz aH)).2]
  replace kp:lq=(lp&&(eh (u.cI.map (·.name))&&u.cI.all (ie · u.bf.length))):=by
    cases bc:lp
    · rw[kp,bc];rfl
    · rw[kp,bc,(fN bc).1];rfl
  clear fN;simp(disch:=first|omega|simp only[DI.ab];omega) [L5,-O,-U,-N,-S,-List.map_map];refine axq h (ai.ka (by simp) (ez (d:=0) (λ_=>by simp) (λ_=>by simp) (λ_=>by simp) (λ_=>by simp) (λ_=>by simp) (λ_=>by simp))) (λaH=>by rw[hb aH];simp) (λaH=>by rw[hb aH];exact Is) (by simp) λz t c7 Ah ai fN=> ?_;obtain⟨qF,qK⟩: ∃b,b=(lq&&(eh (b5 7++u.cM.map (·.name))&&u.cM.all (nt u.cI.length))):=⟨_,rfl⟩;rw[<-qK]at ai
  replace qK:qF=(lq&&(eh (u.cM.map (·.name))&&u.cM.all (nt u.cI.length))):=by
    cases bc:lq
    · rw[qK,bc];rfl
    · rw[qK,bc,hb bc];rfl
  have aS:gg u=qF:=by
    rw[ae5]at H;simp only[aY,eO]at H;obtain⟨tE,UW,sl,tF,oh,sm⟩:=H;have ay:nz u.a1=(nM R&&uT u.a1 ds):=(by rw[iu];rfl);have bt:u.a1.tail=ds:=(by rw[iu];rfl);rw[Bool.eq_iff_iff];unfold gg;simp only[D,tE,UW,sl,tF,oh,sm,ay,bt,decide_true,ru];rw[qK,kp,mx,gX,cB,aR,aK];simp only[aY,tM,ru];constructor
    · rintro⟨⟨bw,bJ⟩,cb,eI,fm,hy,jK,lo,tT,dk,ev,gG⟩;refine⟨⟨⟨⟨⟨⟨⟨lo,cb⟩,tT,eI⟩,bw⟩,?_,bJ⟩,dk,fm⟩,ev,hy⟩,gG,jK⟩;exact afI dk
    · rintro⟨⟨⟨⟨⟨⟨⟨lo,cb⟩,tT,eI⟩,bw⟩,_,bJ⟩,dk,fm⟩,ev,hy⟩,gG,jK⟩;exact⟨⟨bw,bJ⟩,cb,eI,fm,hy,jK,lo,tT,dk,ev,gG⟩
  have b9:=ai.b9;simp(disch:=first|omega|simp only[DI.ab];omega) [L6,aS,b9,-O,-U,-N,-S,-List.map_map]
noncomputable def AM(u:bm)(h:bm.fD u):bE al:= .dR 87 Unit (λ_=>True) (λ_=>[.agg (aU u).toArray]) (λ_=> .bool (gg u)) λ_ _=>aeV h
@[simp] theorem aJN{u:bm}{h:bm.fD u}:(AM u h).f=87:=rfl
@[simp] theorem aJO{u:bm}{h:bm.fD u}:(AM u h).fn [.agg #[Z u.ext,aw (u.cH.map gZ) 4,aw (u.bf.map gO) 4,aw (u.a1.map ef) 7,aw (u.a5.map gp) 3,aw (u.cI.map fi) 17,aw (u.cM.map hQ) 2]]=some (.bool (gg u)):=bE.eH (x:=()) trivial λ_ _=>rfl
theorem axt{u:bm}(h:bm.fD u):bK al 66 [.agg (aU u).toArray] (Z (if gg u then 0 else 1)):=by
  refine et (dM (aB:=⟨[AM u h],[]⟩) ash (by kernel_rfl) (by simp[LO]) ?_);cases ad:gg u
  · simp(disch:=first|omega|simp only[DI.ab];omega) [LO,R6,R7,R8,aU,ad,-O,-U,-N,-S,-List.map_map]
  · simp(disch:=first|omega|simp only[DI.ab];omega) [LO,R6,R7,R8,aU,ad,-O,-U,-N,-S,-List.map_map]
def oO(u:bm)(i:Nat):Nat:=match u.a1[i]? with|some d=>d.parent.toNat|none=>0
def ho(u:bm)(i:Nat):Int:=match u.a1[i]? with|some d=>d.hn|none=>0
structure k2(u:bm):Prop where
  yz:gg u=true
  As:u.cH.length<=4
  eJ:u.bf.length<=4
  js:u.a1.length<=40
  mh:u.a5.length<=24
  we:u.cI.length<=4
  wg:u.cM.length<=12
  mK:0<u.a1.length
  n9:ho u 0=0/\ ∀d,u.a1[0]?=some d->d.parent= -1/\d.hn=0
  kn: ∀(i:Nat) (d:gm),0<i->u.a1[i]?=some d->0<=d.parent/\d.parent<i/\ho u d.parent.toNat=d.hn-1/\1<=d.hn/\d.hn<=4
  yR: ∀(i:Nat) (x:mu),u.a5[i]?=some x->0<=x.model/\x.model<u.bf.length/\0<=x.tb/\x.tb<u.a1.length/\ho u x.tb.toNat=4
  MD: ∀(i:Nat) (x:Bi),u.bf[i]?=some x->1<=x.ext/\x.ext<=16
  pF: ∀(i:Nat) (x:ih),u.cI[i]?=some x->ld x.k x.m x.q x.aB=true/\x.bf≠[]/\(∀m∈x.bf,0<=m/\m<u.bf.length)/\x.bf.Nodup
  ay7: ∀(i:Nat) (x:pV),u.cM[i]?=some x->0<=x.pF/\x.pF<u.cI.length
theorem vI{x a b:Int}(h:dE x a b=true):a<=x/\x<=b:=sY.1 h
theorem avT{u:bm}(h:gg u=true):k2 u:=by
  have cR:=h;simp only[gg,aY,eO]at h;obtain⟨D,H,aq,aE,bq,cP,fB,hA,iz,xh,JS,E3,O5,O6,O7,O8,O9,aEl⟩:=h;unfold nz at hA;cases ay:u.a1 with
  |nil=>rw[ay]at hA;cases hA
  | cons R l=>
    rw[ay]at hA;simp only[aY]at hA;obtain⟨iA,aD⟩:=hA;simp only[nM,aY,eO]at iA;have Xc:u.a1[0]?=some R:=(by rw[ay];rfl);have Sr: ∀i q,u.a1[i]?=some q->ho u i=q.hn:= λi q bc=>by simp only[ho,bc]
    refine⟨cR,H,aq,aE,bq,cP,fB,by rw[ay];simp,⟨by rw[Sr 0 R Xc];exact iA.2.1,λd y9=>by rw[Xc]at y9;cases y9;exact⟨iA.2.2.1,iA.2.1⟩⟩,λi d ak G=> ?_,λi x G=> ?_,λi x G=> ?_,λi x G=> ?_,λi x G=> ?_⟩
    · obtain⟨j,rfl⟩: ∃j,i=j+1:=⟨i-1,by omega⟩;have b1:l[j]?=some d:=(by rw[ay,DY]at G;exact G);have:=eQ.1 aD j (qz.2 (eB.1 b1).1);rw[b1]at this;simp only[kK,aY]at this;obtain⟨bw,bJ,cb,eI,fm⟩:=this;have dk:=vI bw;have gG:=vI cb;refine⟨dk.1,by omega,?_,gG.1,gG.2⟩;unfold Ai at bJ;split at bJ
      · next q bc=>rw[Sr _ q (by rw[ay];exact bc)];exact of_decide_eq_true bJ
      · cases bJ
    · have:=eQ.1 JS x (hF G);simp only[ko,aY]at this;obtain⟨bw,bJ,cb⟩:=this;have dk:=vI bw;have ev:=vI bJ;refine⟨dk.1,by omega,ev.1,by omega,?_⟩;unfold Al at cb;split at cb
      · next q bc=>rw[Sr _ q bc];exact of_decide_eq_true cb
      · cases cb
    · have:=eQ.1 xh x (hF G);simp only[ky,aY]at this;exact vI this.1
    · have:=eQ.1 E3 x (hF G);simp only[ie,aY,eO]at this;obtain⟨bw,bJ,cb,eI,fm⟩:=this;refine⟨bw,by intro e;rw[e]at bJ;simp at bJ,λm av=> ?_,fm⟩;have:=vI (eQ.1 eI m av);exact⟨this.1,by omega⟩
    · have:=eQ.1 O5 x (hF G);simp only[nt]at this;have:=vI this;exact⟨this.1,by omega⟩
section
variable {u:bm}
theorem k2.gq(h:k2 u){i:Nat}(ak:i<u.a1.length):0<=ho u i/\ho u i<=4:=by
  have G:u.a1[i]?=some u.a1[i]:=dD ak;have e:ho u i=u.a1[i].hn:=by simp only[ho,G]
  cases i with
  |zero=>rw[h.n9.1];omega
  |succ i=>rw[e];have:=h.kn _ _ (by omega) G;omega
theorem k2.pC(h:k2 u){i:Nat}(ak:i<u.a1.length)(ai:0<ho u i):oO u i<i/\ho u (oO u i)=ho u i-1/\0<i:=by
  have G:u.a1[i]?=some u.a1[i]:=dD ak;have e:ho u i=u.a1[i].hn:=by simp only[ho,G]
  have aR:oO u i=u.a1[i].parent.toNat:=by simp only[oO,G]
  cases i with
  |zero=>rw[h.n9.1]at ai;omega
  | succ i=>have:=h.kn _ _ (by omega) G;rw[aR,e];refine⟨by omega,this.2.2.1,by omega⟩
theorem k2.Ay(h:k2 u){i:Nat}(ak:i<u.a1.length)(cR:0<i):0<ho u i:=by
  have G:u.a1[i]?=some u.a1[i]:=dD ak;have e:ho u i=u.a1[i].hn:=by simp only[ho,G]
  have:=h.kn _ _ cR G;omega
def km(u:bm)(gq:Int):Nat->Nat->Nat
  |0,i=>i
  |k+1,i=>if ho u i>gq then km u gq k (oO u i)else i
def l4(u:bm)(n:Nat):Nat->Nat->Nat
  |0,i=>i
  |k+1,i=>if i>n then l4 u n k (oO u i)else i
theorem Oe(h:k2 u){n:Nat}(au:n<u.a1.length): ∀{k eX i:Nat},i<u.a1.length->ho u i<=ho u n+k->i<=n+eX->(km u (ho u n) k i=n↔l4 u n eX i=n)
  | k,eX,i,ak,D,H=>by
    have J7:=(h.gq au).1;by_cases e:i=n
    · subst e;have aK:km u (ho u i) k i=i:=(by cases k with|zero=>rfl|succ k=>unfold km;rw[if_neg (by omega)]);have aR:l4 u i eX i=i:=(by cases eX with|zero=>rfl|succ k=>unfold l4;rw[if_neg (by omega)]);simp[aK,aR]
    by_cases ch:ho u i>ho u n
    · obtain⟨k,rfl⟩: ∃j,k=j+1:=⟨k-1,by omega⟩;obtain⟨a,b,c⟩:=h.pC ak (by omega);have aK:km u (ho u n) (k+1) i=km u (ho u n) k (oO u i):=(by rw[km,if_pos ch]);rw[aK];by_cases c6:i>n
      · obtain⟨eX,rfl⟩: ∃j,eX=j+1:=⟨eX-1,by omega⟩;have aR:l4 u n (eX+1) i=l4 u n eX (oO u i):=(by rw[l4,if_pos c6]);rw[aR];exact Oe h au (by omega) (by omega) (by omega)
      · -- Og aCB dR i aLM Vz n
        have aR:l4 u n eX i=i:=(by cases eX with|zero=>rfl|succ k=>unfold l4;rw[if_neg (by omega)]);rw[aR];have c2: ∀{k i:Nat},i<u.a1.length->km u (ho u n) k i<=i:=by
          intro k;induction k with
          |zero=>intro i _;exact dW _
          | succ k cc=>
            intro i ak;unfold km;split
            · next aF=>have:=(h.pC ak (by omega)).1;have:=cc (i:=oO u i) (by omega);omega
            · exact dW _
        have:=c2 (k:=k) (i:=oO u i) (by omega);exact⟨λaH=>by omega,λaH=>absurd aH e⟩
    · have aK:km u (ho u n) k i=i:=(by cases k with|zero=>rfl|succ k=>unfold km;rw[if_neg ch]);rw[aK];refine⟨λaH=>absurd aH e,λaH=> ?_⟩
      -- pM hn only aDO on pM aM5 il
      have auZ: ∀{eX i:Nat},i<u.a1.length->l4 u n eX i=n->i=n\/ho u n<ho u i:=by
        intro eX;induction eX with
        |zero=>intro i _ aH;exact .inl aH
        | succ eX cc=>
          intro i ak aH;unfold l4 at aH;split at aH
          · next aF=>
            obtain⟨a,b,c⟩:=h.pC ak (h.Ay ak (by omega));rcases cc (by omega) aH with e|e
            · right;rw[<-e];omega
            · right;omega
          · exact .inl aH
      rcases auZ ak aH with dX|dX
      · exact absurd dX e
      · omega
end
def kH(u:bm)(d:Nat)(n:Int):Bool:=match u.a5[d]? with
  |some x=>decide (n=u.a1.length+d)||(decide (0<n)&&decide (n<u.a1.length)&&decide (l4 u n.toNat u.a1.length x.tb.toNat=n.toNat))
  |none=>false
def pA(u:bm)(d:Nat):Nat:=match u.a5[d]? with|some x=>x.tb.toNat|none=>0
def rE(u:bm)(d:Nat):Int:=match u.a5[d]? with
  |some x=>(match u.bf[x.model.toNat]? with|some m=>m.ext|none=>0)
  |none=>0
def pI(u:bm)(gC:List Int):List Int:=(List.range u.a5.length).map λd=>if gC.length=u.a5.length then max 0 (min (gC.getD d 0) (rE u d))else rE u d
def xc(u:bm)(n:Nat):List Int:=((List.range u.a5.length).filter λd=>decide (km u (ho u n) 5 (pA u d)=n)).map λd:Nat=>(d:Int)
def p6(u:bm)(v:Nat):Int:=match u.cM[v]? with
  |some x=>(match u.cI[x.pF.toNat]? with|some p=>p.k+p.m|none=>0)
  |none=>0
open Go Go.DI
def CH:J:= .B (.B (.F [A 0 29 1,bO 1 30 29,aL 2 31 4 2,aA 3 32 31,bO 4 33 32,c9 5 34 .eql (E 30) (E 33)]) (.aV (E 34) (.F [A 0 35 1,A 1 36 6,bH 2 37 1 35 36,aA 3 38 37,A 4 39 7,a2 5 40 (.oJ false (E 38) [E 39]),a2 6 41 (.oJ true (.const aP) [E 40]),A 7 7 41]) (.skip))) (.F [A 0 42 5,A 1 43 7,q2 2 44 43,iC 3 45 1 8 42 44,A 4 5 45])
def CG:J:= .B (.block 1 (.B (.F [aL 0 18 2 2,aA 1 19 18,aL 2 20 4 2,aA 3 21 20,A 4 22 6,bH 5 23 3 21 22,aL 6 24 1 23,aA 7 25 24,bH 8 26 4 19 25,aL 9 27 1 26,aA 10 28 27,A 11 7 28]) CH)) (.F [A 0 16 6,da 1 17 16,A 2 6 17])
def CI:J:= .B (.B (.F [A 0 11 6,aL 1 12 4 2,aA 2 13 12,bO 3 14 13,dq 4 15 11 14]) (.aV (E 15) (.skip) (.bh 0))) CG
def RN:J:= .B (.F [A 0 46 5,A 1 4 46]) (.aI)
def RM:J:= .B (.B (.F [ba 0 6 0]) (.block 0 (.loop CI))) RN
def RL:J:= .B (.F [eN 0 5]) RM
def RK:J:= .B (.B (.F [b2 0 8 7 2,b7 1 9 87 [E 8],ht 2 10 9]) (.aV (E 10) (.B (.F [eN 0 4]) (.aI)) (.skip))) RL
def RI:J:=
  .B (
  .F [
 dT 0 2 0,
 eN 1 4]) RK
def CF:bU:=⟨47,[.bL 4],RI⟩
theorem RJ:b3 al 52=some CF:=by kernel_rfl
def LM:J:= .B (.F [A 0 33 1,bO 1 34 33,A 2 35 5,bO 3 36 35,c9 4 37 .eql (E 34) (E 36)]) (.aV (E 37) (.F [A 0 38 5,A 1 39 6,A 2 40 1,A 3 41 6,bH 4 42 1 40 41,aA 5 43 42,a2 6 44 (.oJ true (E 43) [.const aP]),A 7 45 5,A 8 46 6,bH 9 47 1 45 46,aA 10 48 47,a2 11 49 (.oJ false (E 44) [E 48]),bH 12 50 1 38 39,b4 13 1 50 49]) (.skip))
def LL:J:= .B (.F [A 0 19 5,A 1 20 6,aL 2 21 2 2,aA 3 22 21,aL 4 23 4 2,aA 5 24 23,A 6 25 6,bH 7 26 3 24 25,aL 8 27 1 26,aA 9 28 27,bH 10 29 4 22 28,aL 11 30 1 29,aA 12 31 30,bH 13 32 1 19 20,b4 14 1 32 31]) LM
def LK:J:= .B (.block 1 (.B (.F [A 0 18 16,A 1 6 18]) LL)) (.F [da 0 51 16,A 1 16 51])
def LJ:J:= .B (.aV (E 17) (.skip) (.bh 0)) LK
def LN:J:= .B (.F [dq 0 17 16 15]) LJ
def acO:J:= .B (.F [A 0 52 5,A 1 4 52]) (.aI)
def acN:J:= .B (.B (.F [A 0 14 5,bO 1 15 14,ba 2 16 0]) (.block 0 (.loop LN))) acO
def acM:J:= .B (.F [aL 0 10 4 2,aA 1 11 10,bO 2 12 11,a2 3 13 (.jY 1 8 [aP] (E 12) (E 12)),A 4 5 13]) acN
def acL:J:= .B (.B (.F [b2 0 7 7 2,b7 1 8 115 [E 7],ht 2 9 8]) (.aV (E 9) (.B (.F [eN 0 4]) (.aI)) (.skip))) acM
def acJ:J:=
  .B (
  .F [
 dT 0 2 0,
 eN 1 4]) acL
def LI:bU:=⟨53,[.bL 4],acJ⟩
theorem acK:b3 al 63=some LI:=by kernel_rfl
def Qs:J:= .B (.F [b2 0 3 7 1,b7 1 4 62 [E 3],jC 2 5 4 0,A 3 2 5]) (.aI)
def Qr:J:=
  .B (
  .F [
 dT 0 1 0,
 cu 1 2 false]) Qs
def FQ:bU:=⟨6,[.bL 2],Qr⟩
theorem Yt:b3 al 115=some FQ:=by kernel_rfl
def FU:J:= .B (.F [b2 0 28 7 2,A 1 29 6,aL 2 30 3 2,aA 3 31 30,A 4 32 1,bH 5 33 7 31 32,aL 6 34 1 33,aA 7 35 34,A 9 37 1,b7 8 36 180 [E 28,E 29,E 35],c9 10 38 .eql (E 36) (E 37)]) (.aV (E 38) (.F [A 0 39 5,A 1 40 6,q2 2 41 40,iC 3 42 1 8 39 41,A 4 5 42]) (.skip))
def FT:J:= .B (.block 1 (.B (.F [A 0 27 25,A 1 6 27]) FU)) (.F [da 0 43 25,A 1 25 43])
def FR:J:= .B (.aV (E 26) (.skip) (.bh 0)) FT
def Ko:J:= .B (.F [dq 0 26 25 24]) FR
def FV:J:= .B (.F [A 0 44 5,A 1 4 44]) (.aI)
def Yy:J:= .B (.B (.F [aL 0 22 4 2,aA 1 23 22,bO 2 24 23,ba 3 25 0]) (.block 0 (.loop Ko))) FV
def Yx:J:= .B (.B (.F [b2 0 7 7 2,b7 1 8 115 [E 7],ht 2 9 8,A 3 10 9,dG 4 11 10 1,z6 5 12 10 11,cZ 6 13 10 12,A 7 14 13,dG 8 15 14 1,ew 9 16 14 3 2,dZ 10 17 14 16,iM 11 18 14 17,z7 12 19 14 15 18,cZ 13 20 14 19]) (.aV (E 20) (.B (.F [A 0 21 5,A 1 4 21]) (.aI)) (.skip))) Yy
def Yw:J:= .B (.F [eN 0 5]) Yx
def Yu:J:=
  .B (
  .F [
 dT 0 2 0,
 eN 1 4]) Yw
def Kn:bU:=⟨45,[.bL 4],Yu⟩
theorem Yv:b3 al 116=some Kn:=by kernel_rfl
def amq:J:= .B (.block 1 (.B (.F [aL 0 15 9 3,aA 1 16 15,A 2 17 7,bH 3 18 1 16 17,aA 4 19 18,aL 5 20 4 4,aA 6 21 20,A 7 22 2,bH 8 23 3 21 22,aL 9 24 1 23,aA 10 25 24,c9 11 26 .eql (E 19) (E 25)]) (.aV (E 26) (.B (.F [cu 0 6 true]) (.aI)) (.skip)))) (.F [A 0 13 7,da 1 14 13,A 2 7 14])
def ams:J:= .B (.B (.F [A 0 8 7,aL 1 9 9 3,aA 2 10 9,bO 3 11 10,dq 4 12 8 11]) (.aV (E 12) (.skip) (.bh 0))) amq
def amr:J:= .B (.F [cu 0 6 false]) (.aI)
def amp:J:= .B (.B (.F [ba 0 7 0]) (.block 0 (.loop ams))) amr
def amn:J:=
  .B (
  .F [
 dT 0 3 0,
 dT 1 4 1,
 cu 2 6 false]) amp
def YJ:bU:=⟨27,[.bL 6],amn⟩
theorem amo:b3 al 130=some YJ:=by kernel_rfl
def amE:J:= .B (.F [aL 0 16 1 5,aA 1 17 16,aL 2 18 2 5,aA 3 19 18,gI 4 20 17 19,A 5 4 20]) (.aI)
def amD:J:= .B (.F [aL 0 6 5 2,aA 1 7 6,aL 2 8 6 2,aA 3 9 8,A 4 10 1,bH 5 11 2 9 10,aL 6 12 1 11,aA 7 13 12,bH 8 14 17 7 13,b2 9 15 17 14,a2 10 5 (.dz [.string ⟨#[]⟩,aP,aP,aP,aP,aP,aP,aP,aP,aG,aG,.bool false,aG,aG,.bool false,aG,aG]),b4 11 17 5 15]) amE
def amB:J:=
  .B (
  .F [
 dT 0 2 0,
 ba 1 4 0]) amD
def YL:bU:=⟨21,[.bL 4],amB⟩
theorem amC:b3 al 132=some YL:=by kernel_rfl
def Gk:J:= .B (.B (.F [aL 0 14 3 3,aA 1 15 14,A 2 16 7,bH 3 17 7 15 16,aL 4 18 1 17,aA 5 19 18,A 6 20 2,c9 7 21 .gtr (E 19) (E 20)]) (.aV (E 21) (.skip) (.bh 0))) (.block 1 (.F [aL 0 22 3 3,aA 1 23 22,A 2 24 7,bH 3 25 7 23 24,aL 4 26 2 25,aA 5 27 26,A 6 7 27]))
def ZE:J:= .B (.F [A 0 28 7,A 1 6 28]) (.aI)
def ZD:J:= .B (.block 0 (.loop Gk)) ZE
def ZC:J:= .B (.F [aL 0 8 4 3,aA 1 9 8,A 2 10 1,bH 3 11 3 9 10,aL 4 12 2 11,aA 5 13 12,A 6 7 13]) ZD
def ZA:J:=
  .B (
  .F [
 dT 0 3 0,
 ba 1 6 0]) ZC
def KF:bU:=⟨29,[.bL 6],ZA⟩
theorem ZB:b3 al 180=some KF:=by kernel_rfl
end Go.Proofs.YtmmkkggfmigppaaGreat
