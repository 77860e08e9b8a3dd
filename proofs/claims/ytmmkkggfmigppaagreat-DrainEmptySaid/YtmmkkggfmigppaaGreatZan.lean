/-
  A part of the proof of the statement, in texts that tools of ours (wip/shrink.py, irpack.py, relax.py, minify.py, join.py, lay.py) have shortened.
-/
import Derived.Test.YtmmkkggfmigppaaGreatZam
set_option linter.all false
set_option maxRecDepth 8000
set_option maxHeartbeats 16000000
namespace Go.Proofs.YtmmkkggfmigppaaGreat
open Go Go.DI Go.Big
def uI:List Nat:=[1,3,4,5,6,7,17,18]
theorem ye{z aj:aP}(D:aj 1=z 1)(aq:aj 3=z 3)(aF:aj 4=z 4)(br:aj 5=z 5)(cR:aj 6=z 6)(fs:aj 7=z 7)(hz:aj 17=z 17)(ix:aj 18=z 18): ∀k∈uI,aj k=z k:= λk aa=>by simp only[uI,g6,iG,or_false]at aa;rcases aa with rfl|rfl|rfl|rfl|rfl|rfl|rfl|rfl<;>assumption
theorem wk{z aj uU:aP}(h: ∀k∈uI,aj k=z k)(bK: ∀k∈uI,uU k=aj k): ∀k∈uI,uU k=z k:= λk aa=>(bK k aa).trans (h k aa)
theorem axu{x:ic}{q j:Nat}{v:Int}{b:Bool}{cY:aP}{cP:W}(ab:x.bc[j]?=some v)(eS:x.bc.length<1000000)(qK:cP.Y q=some ⟨eY x,true⟩)(rb:cY 18=cD q)(uD:cY 19=Z j)(oP:cY 20=Z 0)(b1:cY 8= .bool b)
    {Q:dy->aP->W->Prop} (bY: ∀z,(∀k∈uI,z k=cY k)->z 19=cY 19->z 8= .bool (b&&decide (v∉x.bc.take j))->Q (.ba 12) z cP):fP al (.loop CA) cY cP Q:=by
  have bx:j<x.bc.length:=(ek.1 ab).1;have a7:(j:Int)<x.bc.length:=by omega
  have Xb:=(ek.1 ab).2;refine hI (aB:=⟨[],[]⟩) (λk z t=>t=cP/\(∀k∈uI,z k=cY k)/\z 19=Z j/\z 20=Z k/\z 8= .bool (b&&decide (v∉x.bc.take k))) j ?_ ?_ 0 cY cP (ho _) ⟨rfl,λ_ _=>rfl,uD,oP,by simp[b1]⟩
  · rintro k z t aa ⟨rfl,M,oO,Hw,fL⟩ cK bk;have G:x.bc[k]?=some x.bc[k]:=dx (by omega);have b7:=gT (n:=k) (by omega);have bU:(k:Int)<j:=(by omega);have bD:(k:Int)<x.bc.length:=(by omega);have wb:z 18=cD q:=(M 18 (by decide)).trans rb;have hb:(b&&decide (v∉x.bc.take (k+1)))=((b&&decide (v∉x.bc.take k))&& !decide (x.bc[k]=v)):=by
      rw[lx G,Bool.eq_iff_iff];simp only[aX,eM,kQ,pH,uR,decide_eq_false_iff_not,not_or];constructor
      · rintro⟨a,c,d⟩;exact⟨⟨a,c⟩,λe=>d e.symm⟩
      · rintro⟨⟨a,c⟩,d⟩;exact⟨a,c,λe=>d e.symm⟩
    obtain⟨aV,cC⟩: ∃aV,aV=(b&&decide (v∉x.bc.take k)):=⟨_,rfl⟩;rw[<-cC]at fL hb;cases aV
    · simp(disch:=first|omega|simp only[aE];omega) [CA,GQ,oO,Hw,fL,bU,b7,-O,-U,-N,-S,-List.map_map];exact bk _ _ ⟨rfl,wk M (ye (by simp) (by simp) (by simp) (by simp) (by simp) (by simp) (by simp) (by simp)),by simp[oO],by simp,by rw[hb];simp⟩
    · by_cases e:x.bc[k]=v
      · simp(disch:=first|omega|simp only[aE];omega) [CA,GQ,eY,wb,oO,Hw,fL,qK,bU,a7,bD,b7,Xb,e,-O,-U,-N,-S,-List.map_map];exact bk _ _ ⟨rfl,wk M (ye (by simp) (by simp) (by simp) (by simp) (by simp) (by simp) (by simp) (by simp)),by simp[oO],by simp,by rw[hb];simp[e]⟩
      · simp(disch:=first|omega|simp only[aE];omega) [CA,GQ,eY,wb,oO,Hw,fL,qK,bU,a7,bD,b7,Xb,e,-O,-U,-N,-S,-List.map_map];exact bk _ _ ⟨rfl,wk M (ye (by simp) (by simp) (by simp) (by simp) (by simp) (by simp) (by simp) (by simp)),by simp[oO],by simp,by rw[hb];simp[e]⟩
  · rintro z t ⟨rfl,M,oO,Hw,fL⟩;have wb:z 18=cD q:=(M 18 (by decide)).trans rb;simp(disch:=first|omega|simp only[aE];omega) [CA,GQ,oO,Hw,-O,-U,-N,-S,-List.map_map];exact bY _ (wk M (ye (by simp) (by simp) (by simp) (by simp) (by simp) (by simp) (by simp) (by simp))) (by simp[oO,uD]) (by simp[fL])
def nY(gA:List Int)(n:Nat):Bool:=(gA.all λm=>dB m 0 ((n:Int)-1))&&decide gA.Nodup
theorem avs{gA:List Int}{n:Nat}{v:Int}:nY (gA++[v]) n=(nY gA n&&(dB v 0 ((n:Int)-1)&&decide (v∉gA))):=by
  rw[Bool.eq_iff_iff];simp only[nY,aX,eM,sd,yx,mK,List.all_nil,and_true];constructor
  · rintro⟨⟨a,b⟩,c,_,d⟩;exact⟨⟨a,c⟩,b,λaw=>d v aw v (by simp) rfl⟩
  · rintro⟨⟨a,c⟩,b,d⟩;exact⟨⟨a,b⟩,c,by simp,λx G y ah=>by simp at ah;subst ah;exact λe=>d (e▸G)⟩
theorem avr{a b:List Int}{n:Nat}(h:nY (a++b) n=true):nY a n=true:=by simp only[nY,aX,eM,sd,yx]at*;exact⟨h.1.1,h.2.1⟩
theorem axv{u:bl}(ay:bl.fN u){x:ic}{q:Nat}{b:Bool}{cY:aP}{cP:W}(eS:x.bc.length<1000000)(aO:cP.Y 0=some ⟨aS u,true⟩)(qK:cP.Y q=some ⟨eY x,true⟩)(bb:cY 1=cD 0)(rb:cY 18=cD q)(uD:cY 19=Z 0)(b1:cY 8= .bool b)
    {Q:dy->aP->W->Prop} (bY: ∀z,(∀k∈uI,z k=cY k)->z 8= .bool (b&&nY x.bc u.bc.length)->Q (.ba 10) z cP):fP al (.loop CB) cY cP Q:=by
  have jQ:IntKind.i64.wrap ((u.bc.length:Int)-1)=(u.bc.length:Int)-1:=fl (by omega) (by have:=ay.eG;omega);refine hI (aB:=⟨[rf],[]⟩) (λj z t=> ∃ca,t=cP/\(∀k∈uI,z k=cY k)/\z 19=Z j/\z 8= .bool ca/\(ca=true->b=true/\nY (x.bc.take j) u.bc.length=true)/\(ca=false->(b&&nY x.bc u.bc.length)=false)) x.bc.length ?_ ?_ 0 cY cP (ho _) ⟨b,rfl,λ_ _=>rfl,uD,b1,λh=>⟨h,by simp[nY]⟩,λh=>by rw[h];rfl⟩
  · rintro j z t bx ⟨ca,rfl,M,oO,fL,bt,a3⟩ cK bk;have G:x.bc[j]?=some x.bc[j]:=dx bx;have b7:=gT (n:=j) (by omega);have bU:(j:Int)<x.bc.length:=(by omega);have wb:z 18=cD q:=(M 18 (by decide)).trans rb;have n2:z 1=cD 0:=(M 1 (by decide)).trans bb;cases ca
    · have a3:=a3 rfl;simp(disch:=first|omega|simp only[aE];omega) [CB,LC,LD,eY,wb,oO,fL,qK,bU,-O,-U,-N,-S,-List.map_map];exact bY _ (wk M (ye (by simp) (by simp) (by simp) (by simp) (by simp) (by simp) (by simp) (by simp))) (by rw[a3];simp[fL])
    · obtain⟨hb,aw⟩:=bt rfl;have O9:x.bc=x.bc.take (j+1)++x.bc.drop (j+1):=(List.take_append_drop _ _).symm;have jm:=avs (gA:=x.bc.take j) (n:=u.bc.length) (v:=x.bc[j]);rw[<-lx G,aw,sf]at jm;obtain⟨aV,da⟩: ∃aV,dB x.bc[j] 0 ((u.bc.length:Int)-1)=aV:=⟨_,rfl⟩;simp(disch:=first|omega|simp only[aE];omega) [CB,LC,LD,eY,aS,n2,wb,oO,fL,qK,aO,bU,jQ,da,-O,-U,-N,-S,-List.map_map];refine axu (b:=aV) G eS qK (by simp[wb]) (by simp[oO]) (by simp) (by simp) λdh hA ahE Ok=> ?_;rw[da]at jm;simp(disch:=first|omega|simp only[aE];omega) [ahE,oO,b7,-O,-U,-N,-S,-List.map_map];refine bk _ _ ⟨aV&&decide (x.bc[j]∉x.bc.take j),rfl,wk (wk (wk M (ye ?_ ?_ ?_ ?_ ?_ ?_ ?_ ?_)) hA) (ye ?_ ?_ ?_ ?_ ?_ ?_ ?_ ?_),?_,?_,?_,?_⟩
      rotate_right 4
      · simp
      · simp[Ok]
      · intro h;exact⟨hb,by rw[jm];exact h⟩
      · intro h;rw[wA];refine .inr ?_;cases bf:nY x.bc u.bc.length
        · rfl
        · rw[O9]at bf;have:=avr bf;rw[jm,h]at this;cases this
      all_goals simp
  · rintro z t ⟨ca,rfl,M,oO,fL,bt,a3⟩;rw[mJ]at bt;have wb:z 18=cD q:=(M 18 (by decide)).trans rb;have e:(b&&nY x.bc u.bc.length)=ca:=by
      cases ca
      · exact a3 rfl
      · obtain⟨D,H⟩:=bt rfl;rw[D,H];rfl
    simp(disch:=first|omega|simp only[aE];omega) [CB,LC,LD,eY,wb,oO,qK,-O,-U,-N,-S,-List.map_map];exact bY _ (wk M (ye (by simp) (by simp) (by simp) (by simp) (by simp) (by simp) (by simp) (by simp))) (by rw[e];simp[fL])
theorem uL{c7:Type}{f:Nat->c7}{d:Nat}{a b:c7}:dK (dK f d a) d b=dK f d b:=by
  funext k;by_cases h:k=d
  · subst h;simp
  · rw[nf h,nf h,nf h]
theorem u4{c7:Type}{l:List c7}{p:c7->Bool}{i:Nat}{x:c7}(G:l[i]?=some x)(h:p x=false):l.all p=false:=by rw[wC];exact⟨x,hR G,by simp[h]⟩
theorem Dp{c7:Type}{l:List c7}{f:c7->ByteArray}{bP:List ByteArray}{i:Nat}{x:c7}(G:l[i]?=some x)(aY:ej (bP++(l.take i).map f)=true)(h:mQ (bP++(l.take i).map f) (f x)=false):ej (bP++l.map f)=false:=by
  cases bf:ej (bP++l.map f)
  · rfl
  · have e:bP++l.map f=((bP++(l.take i).map f)++[f x])++(l.drop (i+1)).map f:=by
      conv=>lhs;rw[<-List.take_append_drop (i+1) l,lx G]
      simp
    rw[e]at bf;have:=afi bf;rw[tl,aY,h]at this;cases this
theorem mF{c7:Type}{l:List c7}{f:c7->ByteArray}{bP:List ByteArray}{i:Nat}{x:c7}(G:l[i]?=some x):(bP++(l.take i).map f)++[f x]=bP++(l.take (i+1)).map f:=by rw[lx G];simp
theorem u5{c7:Type}{l:List c7}{p:c7->Bool}{i:Nat}{x:c7}(G:l[i]?=some x)(h:(l.take i).all p=true)(af:p x=true):(l.take (i+1)).all p=true:=by rw[lx G,sd,h];simp[af]
theorem axq{u:bl}(h:bl.fN u){dt:Bool}{nZ:Nat->Nat}{er:Nat->List ByteArray}{cY:aP}{cP:W}(sH:e4 u dt nZ er cY cP)(kl:dt=true->(er 3).length<=10000)(sI:dt=true->ej (er 3)=true)(tk:cY 9=Z 0)
    {Q:dy->aP->W->Prop} (bY: ∀z t c4 b8,e4 u (dt&&(ej (er 3++u.cB.map (·.name))&&u.cB.all hS.l6)) c4 b8 z t->((dt&&(ej (er 3++u.cB.map (·.name))&&u.cB.all hS.l6))=true->b8=dK er 3 (er 3++u.cB.map (·.name)))->Q (.ba 0) z t):fP al (.loop zN) cY cP Q:=by
  have eS:u.cB.length<=1000:=h.Ai;obtain⟨T,df⟩: ∃T,T=(dt&&(ej (er 3++u.cB.map (·.name))&&u.cB.all hS.l6)):=⟨_,rfl⟩;rw[<-df]at bY;refine hI (aB:=⟨[Tc],[xl]⟩) (λi z t=> ∃c4 b8 b,e4 u b c4 b8 z t/\z 9=Z i/\(b=true->dt=true/\b8=dK er 3 (er 3++(u.cB.take i).map (·.name))/\ej (er 3++(u.cB.take i).map (·.name))=true/\(u.cB.take i).all hS.l6=true)/\(b=false->T=false)) u.cB.length ?_ ?_ 0 cY cP (ho _) ⟨nZ,er,dt,sH,by simpa using tk,λhb=>⟨hb,?_,by simpa using sI hb,by simp⟩,λhb=>by rw[df,hb];rfl⟩
  · rintro i z t ai ⟨c4,b8,b,af,gd,im,lk⟩ cK bk;have G:u.cB[i]?=some u.cB[i]:=dx ai;have b7:=gT (n:=i) (by omega);have bU:(i:Int)<u.cB.length:=(by omega);have bb:=af.bb;have b1:=af.b1;have aO:=af.aO;have fq:=bm aO;have fO:=af.mD 3 (by decide) (by decide);have bX:=af.g 3 (by decide) (by decide);have jf:=af.m5 3 (by decide) (by decide);have ct:=bm bX;cases b
    · have nU:=lk rfl;simp(disch:=first|omega|simp only[DI.ak];omega) [zN,Cz,aS,bb,b1,gd,aO,bU,-O,-U,-N,-S,-List.map_map];exact bY _ _ c4 b8 (by rw[nU];exact(af.jW (by simp) (ey (d:=0) (λ_=>by simp) (λ_=>by simp) (λ_=>by simp) (λ_=>by simp) (λ_=>by simp) (λ_=>by simp)))) (λaJ=>by rw[nU]at aJ;cases aJ)
    obtain⟨kC,lY,l1,fi⟩:=im rfl;have cS:b8 3=er 3++(u.cB.take i).map (·.name):=(by rw[lY,rj]);have EV:=kl kC;have sC:(b8 3).length<1000000:=(by rw[cS,j7,j8,ni];omega);obtain⟨L,eK⟩: ∃L,L=b8 3:=⟨_,rfl⟩;obtain⟨o,hr⟩: ∃o,o=c4 3:=⟨_,rfl⟩;rw[<-eK]at fO bX sC cS;rw[<-hr]at fO bX jf ct;have da:=h.cB _ (mI ai);cases a3:mQ L u.cB[i].name
    · skip
      simp(disch:=first|omega|simp only[DI.ak];omega) [zN,Cz,aS,gF,iD,bb,b1,gd,fO,aO,bX,bU,b7,a3,-O,-U,-N,-S,-List.map_map];refine bk _ _ ⟨dK c4 3 (t.next),dK b8 3 (b8 3++[u.cB[i].name]),false,e4.step af 3 (by decide) (by decide) (n:=1) (h5:=[u.cB[i].name]) rfl (ey (d:=3) ?_ ?_ ?_ ?_ ?_ ?_) ?_ ?_ ?_ (.inr (by omega)) ?_ ?_,?_,?_,?_⟩;any_goals(intro aA;first|(exact absurd rfl aA)|(simp;done))
      · simp(disch:=first|omega|simp only[DI.ak];omega) [-O,-U,-N,-S,-List.map_map]
      · rw[<-eK];simp(disch:=first|omega|simp only[DI.ak];omega) [-O,-U,-N,-S,-List.map_map]
      · rw[<-eK];simp(disch:=first|omega|simp only[DI.ak];omega) [-O,-U,-N,-S,-List.map_map]
      · simp(disch:=first|omega|simp only[DI.ak];omega) [-O,-U,-N,-S,-List.map_map];try omega
      · intro b hb dH;rw[<-hr]at dH;simp(disch:=first|omega|simp only[DI.ak];omega) [-O,-U,-N,-S,-List.map_map]
      · simp
      · intro aJ;cases aJ
      · intro _;rw[df,Dp (f:=(·.name)) G l1 (by rw[<-cS];exact a3)];simp
    cases dq:u.cB[i].l6
    · skip
      simp(disch:=first|omega|simp only[DI.ak];omega) [zN,Cz,aS,gF,iD,bb,b1,gd,fO,aO,bX,bU,b7,a3,dq,-O,-U,-N,-S,-List.map_map];refine bk _ _ ⟨dK c4 3 (t.next),dK b8 3 (b8 3++[u.cB[i].name]),false,e4.step af 3 (by decide) (by decide) (n:=1) (h5:=[u.cB[i].name]) rfl (ey (d:=3) ?_ ?_ ?_ ?_ ?_ ?_) ?_ ?_ ?_ (.inr (by omega)) ?_ ?_,?_,?_,?_⟩;any_goals(intro aA;first|(exact absurd rfl aA)|(simp;done))
      · simp(disch:=first|omega|simp only[DI.ak];omega) [-O,-U,-N,-S,-List.map_map]
      · rw[<-eK];simp(disch:=first|omega|simp only[DI.ak];omega) [-O,-U,-N,-S,-List.map_map]
      · rw[<-eK];simp(disch:=first|omega|simp only[DI.ak];omega) [-O,-U,-N,-S,-List.map_map]
      · simp(disch:=first|omega|simp only[DI.ak];omega) [-O,-U,-N,-S,-List.map_map];try omega
      · intro b hb dH;rw[<-hr]at dH;simp(disch:=first|omega|simp only[DI.ak];omega) [-O,-U,-N,-S,-List.map_map]
      · simp
      · intro aJ;cases aJ
      · intro _;rw[df,u4 G (show hS.l6 u.cB[i]=false by simp[dq])];simp
    simp(disch:=first|omega|simp only[DI.ak];omega) [zN,Cz,aS,gF,iD,bb,b1,gd,fO,aO,bX,bU,b7,a3,dq,-O,-U,-N,-S,-List.map_map];refine bk _ _ ⟨dK c4 3 (t.next),dK b8 3 (b8 3++[u.cB[i].name]),true,e4.step af 3 (by decide) (by decide) (n:=1) (h5:=[u.cB[i].name]) rfl (ey (d:=3) ?_ ?_ ?_ ?_ ?_ ?_) ?_ ?_ ?_ (.inr (by omega)) ?_ ?_,?_,?_,?_⟩;any_goals(intro aA;first|(exact absurd rfl aA)|(simp;done))
    · simp(disch:=first|omega|simp only[DI.ak];omega) [-O,-U,-N,-S,-List.map_map]
    · rw[<-eK];simp(disch:=first|omega|simp only[DI.ak];omega) [-O,-U,-N,-S,-List.map_map]
    · rw[<-eK];simp(disch:=first|omega|simp only[DI.ak];omega) [-O,-U,-N,-S,-List.map_map]
    · simp(disch:=first|omega|simp only[DI.ak];omega) [-O,-U,-N,-S,-List.map_map];try omega
    · intro b hb dH;rw[<-hr]at dH;simp(disch:=first|omega|simp only[DI.ak];omega) [-O,-U,-N,-S,-List.map_map]
    · simp
    · intro _;refine⟨kC,?_,?_,u5 G fi (by simp[dq])⟩
      · rw[<-eK,cS,lY,uL,mF (f:=(·.name)) G]
      · rw[<-mF (f:=(·.name)) G,tl,l1,<-cS,a3];rfl
    · intro aJ;cases aJ
  · rintro z t ⟨c4,b8,b,af,gd,im,lk⟩;rw[mJ]at im;have bb:=af.bb;have b1:=af.b1;have aO:=af.aO;have fq:=bm aO;have nT:T=b:=by
      cases b
      · exact lk rfl
      · obtain⟨bw,_,bJ,cc⟩:=im rfl;rw[df,bw,bJ,cc];rfl
    have ee: ¬(((u.cB.length:Nat):Int)<u.cB.length):=(by omega);cases b
    all_goals
      simp(disch:=first|omega|simp only[DI.ak];omega) [zN,Cz,aS,bb,gd,aO,ee,-O,-U,-N,-S,-List.map_map];exact bY _ _ c4 b8 (by rw[nT];exact(af.jW (by simp) (ey (d:=0) (λ_=>by simp) (λ_=>by simp) (λ_=>by simp) (λ_=>by simp) (λ_=>by simp) (λ_=>by simp)))) (λaJ=>by rw[nT]at aJ;exact(im aJ).2.1)
  · funext k;by_cases e:k=3
    · subst e;simp
    · rw[nf e]
theorem axr{u:bl}(h:bl.fN u){dt:Bool}{nZ:Nat->Nat}{er:Nat->List ByteArray}{cY:aP}{cP:W}(sH:e4 u dt nZ er cY cP)(kl:dt=true->(er 4).length<=10000)(sI:dt=true->ej (er 4)=true)(tk:cY 10=Z 0)
    {Q:dy->aP->W->Prop} (bY: ∀z t c4 b8,e4 u (dt&&(ej (er 4++u.bc.map (·.name))&&u.bc.all (kq u.cB.length))) c4 b8 z t->((dt&&(ej (er 4++u.bc.map (·.name))&&u.bc.all (kq u.cB.length)))=true->b8=dK er 4 (er 4++u.bc.map (·.name)))->Q (.ba 2) z t):fP al (.loop vF) cY cP Q:=by
  have eS:u.bc.length<=1000:=h.eG;obtain⟨T,df⟩: ∃T,T=(dt&&(ej (er 4++u.bc.map (·.name))&&u.bc.all (kq u.cB.length))):=⟨_,rfl⟩;rw[<-df]at bY;refine hI (aB:=⟨[rf],[xl]⟩) (λi z t=> ∃c4 b8 b,e4 u b c4 b8 z t/\z 10=Z i/\(b=true->dt=true/\b8=dK er 4 (er 4++(u.bc.take i).map (·.name))/\ej (er 4++(u.bc.take i).map (·.name))=true/\(u.bc.take i).all (kq u.cB.length)=true)/\(b=false->T=false)) u.bc.length ?_ ?_ 0 cY cP (ho _) ⟨nZ,er,dt,sH,by simpa using tk,λhb=>⟨hb,?_,by simpa using sI hb,by simp⟩,λhb=>by rw[df,hb];rfl⟩
  · rintro i z t ai ⟨c4,b8,b,af,gd,im,lk⟩ cK bk;have G:u.bc[i]?=some u.bc[i]:=dx ai;have b7:=gT (n:=i) (by omega);have bU:(i:Int)<u.bc.length:=(by omega);have bb:=af.bb;have b1:=af.b1;have aO:=af.aO;have fq:=bm aO;have fO:=af.mD 4 (by decide) (by decide);have bX:=af.g 4 (by decide) (by decide);have jf:=af.m5 4 (by decide) (by decide);have ct:=bm bX;cases b
    · have nU:=lk rfl;simp(disch:=first|omega|simp only[DI.ak];omega) [vF,xG,xH,aS,bb,b1,gd,aO,bU,-O,-U,-N,-S,-List.map_map];exact bY _ _ c4 b8 (by rw[nU];exact(af.jW (by simp) (ey (d:=0) (λ_=>by simp) (λ_=>by simp) (λ_=>by simp) (λ_=>by simp) (λ_=>by simp) (λ_=>by simp)))) (λaJ=>by rw[nU]at aJ;cases aJ)
    obtain⟨kC,lY,l1,fi⟩:=im rfl;have cS:b8 4=er 4++(u.bc.take i).map (·.name):=(by rw[lY,rj]);have EV:=kl kC;have sC:(b8 4).length<1000000:=(by rw[cS,j7,j8,ni];omega);obtain⟨L,eK⟩: ∃L,L=b8 4:=⟨_,rfl⟩;obtain⟨o,hr⟩: ∃o,o=c4 4:=⟨_,rfl⟩;rw[<-eK]at fO bX sC cS;rw[<-hr]at fO bX jf ct;have jQ:IntKind.i64.wrap ((u.cB.length:Int)-1)=(u.cB.length:Int)-1:=fl (by omega) (by have:=h.Ai;omega);cases a3:mQ L u.bc[i].name
    · skip
      simp(disch:=first|omega|simp only[DI.ak];omega) [vF,xG,xH,aS,gK,iD,bb,b1,gd,fO,aO,bX,bU,b7,a3,-O,-U,-N,-S,-List.map_map];refine bk _ _ ⟨dK c4 4 (t.next+7),dK b8 4 (b8 4++[u.bc[i].name]),false,e4.step af 4 (by decide) (by decide) (n:=1) (h5:=[u.bc[i].name]) rfl (ey (d:=4) ?_ ?_ ?_ ?_ ?_ ?_) ?_ ?_ ?_ (.inr (by omega)) ?_ ?_,?_,?_,?_⟩;any_goals(intro aA;first|(exact absurd rfl aA)|(simp;done))
      · simp(disch:=first|omega|simp only[DI.ak];omega) [-O,-U,-N,-S,-List.map_map]
      · rw[<-eK];simp(disch:=first|omega|simp only[DI.ak];omega) [-O,-U,-N,-S,-List.map_map]
      · rw[<-eK];simp(disch:=first|omega|simp only[DI.ak];omega) [-O,-U,-N,-S,-List.map_map]
      · simp(disch:=first|omega|simp only[DI.ak];omega) [-O,-U,-N,-S,-List.map_map];try omega
      · intro b hb dH;rw[<-hr]at dH;simp(disch:=first|omega|simp only[DI.ak];omega) [-O,-U,-N,-S,-List.map_map]
      · simp
      · intro aJ;cases aJ
      · intro _;rw[df,Dp (f:=(·.name)) G l1 (by rw[<-cS];exact a3)];simp
    cases da:dB u.bc[i].ext 1 16
    · skip
      simp(disch:=first|omega|simp only[DI.ak];omega) [vF,xG,xH,aS,gK,iD,bb,b1,gd,fO,aO,bX,bU,b7,a3,da,-O,-U,-N,-S,-List.map_map];refine bk _ _ ⟨dK c4 4 (t.next+7),dK b8 4 (b8 4++[u.bc[i].name]),false,e4.step af 4 (by decide) (by decide) (n:=1) (h5:=[u.bc[i].name]) rfl (ey (d:=4) ?_ ?_ ?_ ?_ ?_ ?_) ?_ ?_ ?_ (.inr (by omega)) ?_ ?_,?_,?_,?_⟩;any_goals(intro aA;first|(exact absurd rfl aA)|(simp;done))
      · simp(disch:=first|omega|simp only[DI.ak];omega) [-O,-U,-N,-S,-List.map_map]
      · rw[<-eK];simp(disch:=first|omega|simp only[DI.ak];omega) [-O,-U,-N,-S,-List.map_map]
      · rw[<-eK];simp(disch:=first|omega|simp only[DI.ak];omega) [-O,-U,-N,-S,-List.map_map]
      · simp(disch:=first|omega|simp only[DI.ak];omega) [-O,-U,-N,-S,-List.map_map];try omega
      · intro b hb dH;rw[<-hr]at dH;simp(disch:=first|omega|simp only[DI.ak];omega) [-O,-U,-N,-S,-List.map_map]
      · simp
      · intro aJ;cases aJ
      · intro _;rw[df,u4 G (show(kq u.cB.length) u.bc[i]=false by simp[kq,da])];simp
    cases dq:dB u.bc[i].MA 1 64
    · skip
      simp(disch:=first|omega|simp only[DI.ak];omega) [vF,xG,xH,aS,gK,iD,bb,b1,gd,fO,aO,bX,bU,b7,a3,da,dq,-O,-U,-N,-S,-List.map_map];refine bk _ _ ⟨dK c4 4 (t.next+7),dK b8 4 (b8 4++[u.bc[i].name]),false,e4.step af 4 (by decide) (by decide) (n:=1) (h5:=[u.bc[i].name]) rfl (ey (d:=4) ?_ ?_ ?_ ?_ ?_ ?_) ?_ ?_ ?_ (.inr (by omega)) ?_ ?_,?_,?_,?_⟩;any_goals(intro aA;first|(exact absurd rfl aA)|(simp;done))
      · simp(disch:=first|omega|simp only[DI.ak];omega) [-O,-U,-N,-S,-List.map_map]
      · rw[<-eK];simp(disch:=first|omega|simp only[DI.ak];omega) [-O,-U,-N,-S,-List.map_map]
      · rw[<-eK];simp(disch:=first|omega|simp only[DI.ak];omega) [-O,-U,-N,-S,-List.map_map]
      · simp(disch:=first|omega|simp only[DI.ak];omega) [-O,-U,-N,-S,-List.map_map];try omega
      · intro b hb dH;rw[<-hr]at dH;simp(disch:=first|omega|simp only[DI.ak];omega) [-O,-U,-N,-S,-List.map_map]
      · simp
      · intro aJ;cases aJ
      · intro _;rw[df,u4 G (show(kq u.cB.length) u.bc[i]=false by simp[kq,da,dq])];simp
    cases hy:dB u.bc[i].Mb 0 ((u.cB.length:Int)-1)
    · skip
      simp(disch:=first|omega|simp only[DI.ak];omega) [vF,xG,xH,aS,gK,iD,bb,b1,gd,fO,aO,bX,bU,b7,jQ,a3,da,dq,hy,-O,-U,-N,-S,-List.map_map];refine bk _ _ ⟨dK c4 4 (t.next+7),dK b8 4 (b8 4++[u.bc[i].name]),false,e4.step af 4 (by decide) (by decide) (n:=1) (h5:=[u.bc[i].name]) rfl (ey (d:=4) ?_ ?_ ?_ ?_ ?_ ?_) ?_ ?_ ?_ (.inr (by omega)) ?_ ?_,?_,?_,?_⟩;any_goals(intro aA;first|(exact absurd rfl aA)|(simp;done))
      · simp(disch:=first|omega|simp only[DI.ak];omega) [-O,-U,-N,-S,-List.map_map]
      · rw[<-eK];simp(disch:=first|omega|simp only[DI.ak];omega) [-O,-U,-N,-S,-List.map_map]
      · rw[<-eK];simp(disch:=first|omega|simp only[DI.ak];omega) [-O,-U,-N,-S,-List.map_map]
      · simp(disch:=first|omega|simp only[DI.ak];omega) [-O,-U,-N,-S,-List.map_map];try omega
      · intro b hb dH;rw[<-hr]at dH;simp(disch:=first|omega|simp only[DI.ak];omega) [-O,-U,-N,-S,-List.map_map]
      · simp
      · intro aJ;cases aJ
      · intro _;rw[df,u4 G (show(kq u.cB.length) u.bc[i]=false by simp[kq,da,dq,hy])];simp
    simp(disch:=first|omega|simp only[DI.ak];omega) [vF,xG,xH,aS,gK,iD,bb,b1,gd,fO,aO,bX,bU,b7,jQ,a3,da,dq,hy,-O,-U,-N,-S,-List.map_map];refine bk _ _ ⟨dK c4 4 (t.next+7),dK b8 4 (b8 4++[u.bc[i].name]),true,e4.step af 4 (by decide) (by decide) (n:=1) (h5:=[u.bc[i].name]) rfl (ey (d:=4) ?_ ?_ ?_ ?_ ?_ ?_) ?_ ?_ ?_ (.inr (by omega)) ?_ ?_,?_,?_,?_⟩;any_goals(intro aA;first|(exact absurd rfl aA)|(simp;done))
    · simp(disch:=first|omega|simp only[DI.ak];omega) [-O,-U,-N,-S,-List.map_map]
    · rw[<-eK];simp(disch:=first|omega|simp only[DI.ak];omega) [-O,-U,-N,-S,-List.map_map]
    · rw[<-eK];simp(disch:=first|omega|simp only[DI.ak];omega) [-O,-U,-N,-S,-List.map_map]
    · simp(disch:=first|omega|simp only[DI.ak];omega) [-O,-U,-N,-S,-List.map_map];try omega
    · intro b hb dH;rw[<-hr]at dH;simp(disch:=first|omega|simp only[DI.ak];omega) [-O,-U,-N,-S,-List.map_map]
    · simp
    · intro _;refine⟨kC,?_,?_,u5 G fi (by simp[kq,da,dq,hy])⟩
      · rw[<-eK,cS,lY,uL,mF (f:=(·.name)) G]
      · rw[<-mF (f:=(·.name)) G,tl,l1,<-cS,a3];rfl
    · intro aJ;cases aJ
  · rintro z t ⟨c4,b8,b,af,gd,im,lk⟩;rw[mJ]at im;have bb:=af.bb;have b1:=af.b1;have aO:=af.aO;have fq:=bm aO;have nT:T=b:=by
      cases b
      · exact lk rfl
      · obtain⟨bw,_,bJ,cc⟩:=im rfl;rw[df,bw,bJ,cc];rfl
    have ee: ¬(((u.bc.length:Nat):Int)<u.bc.length):=(by omega);cases b
    all_goals
      simp(disch:=first|omega|simp only[DI.ak];omega) [vF,xG,xH,aS,bb,gd,aO,ee,-O,-U,-N,-S,-List.map_map];exact bY _ _ c4 b8 (by rw[nT];exact(af.jW (by simp) (ey (d:=0) (λ_=>by simp) (λ_=>by simp) (λ_=>by simp) (λ_=>by simp) (λ_=>by simp) (λ_=>by simp)))) (λaJ=>by rw[nT]at aJ;exact(im aJ).2.1)
  · funext k;by_cases e:k=4
    · subst e;simp
    · rw[nf e]
theorem axt{u:bl}(h:bl.fN u){dt:Bool}{nZ:Nat->Nat}{er:Nat->List ByteArray}{cY:aP}{cP:W}(sH:e4 u dt nZ er cY cP)(kl:dt=true->(er 5).length<=10000)(sI:dt=true->ej (er 5)=true)(tk:cY 15=Z 0)
    {Q:dy->aP->W->Prop} (bY: ∀z t c4 b8,e4 u (dt&&(ej (er 5++u.a2.map (·.name))&&u.a2.all (kf u.bc.length u.a0))) c4 b8 z t->((dt&&(ej (er 5++u.a2.map (·.name))&&u.a2.all (kf u.bc.length u.a0)))=true->b8=dK er 5 (er 5++u.a2.map (·.name)))->Q (.ba 6) z t):fP al (.loop vG) cY cP Q:=by
  have eS:u.a2.length<=1000:=h.mz;obtain⟨T,df⟩: ∃T,T=(dt&&(ej (er 5++u.a2.map (·.name))&&u.a2.all (kf u.bc.length u.a0))):=⟨_,rfl⟩;rw[<-df]at bY;refine hI (aB:=⟨[rf],[xl]⟩) (λi z t=> ∃c4 b8 b,e4 u b c4 b8 z t/\z 15=Z i/\(b=true->dt=true/\b8=dK er 5 (er 5++(u.a2.take i).map (·.name))/\ej (er 5++(u.a2.take i).map (·.name))=true/\(u.a2.take i).all (kf u.bc.length u.a0)=true)/\(b=false->T=false)) u.a2.length ?_ ?_ 0 cY cP (ho _) ⟨nZ,er,dt,sH,by simpa using tk,λhb=>⟨hb,?_,by simpa using sI hb,by simp⟩,λhb=>by rw[df,hb];rfl⟩
  · rintro i z t ai ⟨c4,b8,b,af,gd,im,lk⟩ cK bk;have G:u.a2[i]?=some u.a2[i]:=dx ai;have b7:=gT (n:=i) (by omega);have bU:(i:Int)<u.a2.length:=(by omega);have bb:=af.bb;have b1:=af.b1;have aO:=af.aO;have fq:=bm aO;have fO:=af.mD 5 (by decide) (by decide);have bX:=af.g 5 (by decide) (by decide);have jf:=af.m5 5 (by decide) (by decide);have ct:=bm bX;cases b
    · have nU:=lk rfl;simp(disch:=first|omega|simp only[DI.ak];omega) [vG,xA,xB,aS,bb,b1,gd,aO,bU,-O,-U,-N,-S,-List.map_map];exact bY _ _ c4 b8 (by rw[nU];exact(af.jW (by simp) (ey (d:=0) (λ_=>by simp) (λ_=>by simp) (λ_=>by simp) (λ_=>by simp) (λ_=>by simp) (λ_=>by simp)))) (λaJ=>by rw[nU]at aJ;cases aJ)
    obtain⟨kC,lY,l1,fi⟩:=im rfl;have cS:b8 5=er 5++(u.a2.take i).map (·.name):=(by rw[lY,rj]);have EV:=kl kC;have sC:(b8 5).length<1000000:=(by rw[cS,j7,j8,ni];omega);obtain⟨L,eK⟩: ∃L,L=b8 5:=⟨_,rfl⟩;obtain⟨o,hr⟩: ∃o,o=c4 5:=⟨_,rfl⟩;rw[<-eK]at fO bX sC cS;rw[<-hr]at fO bX jf ct;have jQ:IntKind.i64.wrap ((u.bc.length:Int)-1)=(u.bc.length:Int)-1:=fl (by omega) (by have:=h.eG;omega);have wx:IntKind.i64.wrap ((u.a0.length:Int)-1)=(u.a0.length:Int)-1:=fl (by omega) (by have:=h.kr;omega);cases a3:mQ L u.a2[i].name
    · skip
      simp(disch:=first|omega|simp only[DI.ak];omega) [vG,xA,xB,aS,gn,iD,bb,b1,gd,fO,aO,bX,bU,b7,a3,-O,-U,-N,-S,-List.map_map];refine bk _ _ ⟨dK c4 5 (t.next+7),dK b8 5 (b8 5++[u.a2[i].name]),false,e4.step af 5 (by decide) (by decide) (n:=1) (h5:=[u.a2[i].name]) rfl (ey (d:=5) ?_ ?_ ?_ ?_ ?_ ?_) ?_ ?_ ?_ (.inr (by omega)) ?_ ?_,?_,?_,?_⟩;any_goals(intro aA;first|(exact absurd rfl aA)|(simp;done))
      · simp(disch:=first|omega|simp only[DI.ak];omega) [-O,-U,-N,-S,-List.map_map]
      · rw[<-eK];simp(disch:=first|omega|simp only[DI.ak];omega) [-O,-U,-N,-S,-List.map_map]
      · rw[<-eK];simp(disch:=first|omega|simp only[DI.ak];omega) [-O,-U,-N,-S,-List.map_map]
      · simp(disch:=first|omega|simp only[DI.ak];omega) [-O,-U,-N,-S,-List.map_map];try omega
      · intro b hb dH;rw[<-hr]at dH;simp(disch:=first|omega|simp only[DI.ak];omega) [-O,-U,-N,-S,-List.map_map]
      · simp
      · intro aJ;cases aJ
      · intro _;rw[df,Dp (f:=(·.name)) G l1 (by rw[<-cS];exact a3)];simp
    cases da:dB u.a2[i].model 0 ((u.bc.length:Int)-1)
    · skip
      simp(disch:=first|omega|simp only[DI.ak];omega) [vG,xA,xB,aS,gn,iD,bb,b1,gd,fO,aO,bX,bU,b7,jQ,a3,da,-O,-U,-N,-S,-List.map_map];refine bk _ _ ⟨dK c4 5 (t.next+7),dK b8 5 (b8 5++[u.a2[i].name]),false,e4.step af 5 (by decide) (by decide) (n:=1) (h5:=[u.a2[i].name]) rfl (ey (d:=5) ?_ ?_ ?_ ?_ ?_ ?_) ?_ ?_ ?_ (.inr (by omega)) ?_ ?_,?_,?_,?_⟩;any_goals(intro aA;first|(exact absurd rfl aA)|(simp;done))
      · simp(disch:=first|omega|simp only[DI.ak];omega) [-O,-U,-N,-S,-List.map_map]
      · rw[<-eK];simp(disch:=first|omega|simp only[DI.ak];omega) [-O,-U,-N,-S,-List.map_map]
      · rw[<-eK];simp(disch:=first|omega|simp only[DI.ak];omega) [-O,-U,-N,-S,-List.map_map]
      · simp(disch:=first|omega|simp only[DI.ak];omega) [-O,-U,-N,-S,-List.map_map];try omega
      · intro b hb dH;rw[<-hr]at dH;simp(disch:=first|omega|simp only[DI.ak];omega) [-O,-U,-N,-S,-List.map_map]
      · simp
      · intro aJ;cases aJ
      · intro _;rw[df,u4 G (show(kf u.bc.length u.a0) u.a2[i]=false by simp[kf,da])];simp
    cases dq:dB u.a2[i].sZ 0 ((u.a0.length:Int)-1)
    · skip
      simp(disch:=first|omega|simp only[DI.ak];omega) [vG,xA,xB,aS,gn,iD,bb,b1,gd,fO,aO,bX,bU,b7,jQ,wx,a3,da,dq,-O,-U,-N,-S,-List.map_map];refine bk _ _ ⟨dK c4 5 (t.next+7),dK b8 5 (b8 5++[u.a2[i].name]),false,e4.step af 5 (by decide) (by decide) (n:=1) (h5:=[u.a2[i].name]) rfl (ey (d:=5) ?_ ?_ ?_ ?_ ?_ ?_) ?_ ?_ ?_ (.inr (by omega)) ?_ ?_,?_,?_,?_⟩;any_goals(intro aA;first|(exact absurd rfl aA)|(simp;done))
      · simp(disch:=first|omega|simp only[DI.ak];omega) [-O,-U,-N,-S,-List.map_map]
      · rw[<-eK];simp(disch:=first|omega|simp only[DI.ak];omega) [-O,-U,-N,-S,-List.map_map]
      · rw[<-eK];simp(disch:=first|omega|simp only[DI.ak];omega) [-O,-U,-N,-S,-List.map_map]
      · simp(disch:=first|omega|simp only[DI.ak];omega) [-O,-U,-N,-S,-List.map_map];try omega
      · intro b hb dH;rw[<-hr]at dH;simp(disch:=first|omega|simp only[DI.ak];omega) [-O,-U,-N,-S,-List.map_map]
      · simp
      · intro aJ;cases aJ
      · intro _;rw[df,u4 G (show(kf u.bc.length u.a0) u.a2[i]=false by simp[kf,da,dq])];simp
    have yL:=sO.1 dq;obtain⟨aW,ea⟩:=kS yL.1;have yW:aW<u.a0.length:=(by omega);have lW:(aW:Int)<u.a0.length:=(by omega);have bf:u.a0[aW]?=some u.a0[aW]:=dx yW;have aw:Ab u.a0 (aW:Int)=decide (u.a0[aW].hl=4):=(by unfold Ab;rw[rn,bf]);rw[ea]at dq;by_cases kh:u.a0[aW].hl=4
    case neg=>
      simp(disch:=first|omega|simp only[DI.ak];omega) [vG,xA,xB,aS,gn,iD,bb,b1,gd,fO,aO,bX,bU,b7,jQ,wx,dU,a3,da,dq,ea,lW,kh,-O,-U,-N,-S,-List.map_map];refine bk _ _ ⟨dK c4 5 (t.next+7),dK b8 5 (b8 5++[u.a2[i].name]),false,e4.step af 5 (by decide) (by decide) (n:=1) (h5:=[u.a2[i].name]) rfl (ey (d:=5) ?_ ?_ ?_ ?_ ?_ ?_) ?_ ?_ ?_ (.inr (by omega)) ?_ ?_,?_,?_,?_⟩;any_goals(intro aA;first|(exact absurd rfl aA)|(simp;done))
      · simp(disch:=first|omega|simp only[DI.ak];omega) [-O,-U,-N,-S,-List.map_map]
      · rw[<-eK];simp(disch:=first|omega|simp only[DI.ak];omega) [-O,-U,-N,-S,-List.map_map]
      · rw[<-eK];simp(disch:=first|omega|simp only[DI.ak];omega) [-O,-U,-N,-S,-List.map_map]
      · simp(disch:=first|omega|simp only[DI.ak];omega) [-O,-U,-N,-S,-List.map_map];try omega
      · intro b hb dH;rw[<-hr]at dH;simp(disch:=first|omega|simp only[DI.ak];omega) [-O,-U,-N,-S,-List.map_map]
      · simp
      · intro aJ;cases aJ
      · intro _;rw[df,u4 G (show(kf u.bc.length u.a0) u.a2[i]=false by simp[kf,da,dq,aw,ea,kh])];simp
    simp(disch:=first|omega|simp only[DI.ak];omega) [vG,xA,xB,aS,gn,iD,bb,b1,gd,fO,aO,bX,bU,b7,jQ,wx,dU,a3,da,dq,ea,lW,kh,-O,-U,-N,-S,-List.map_map];refine bk _ _ ⟨dK c4 5 (t.next+7),dK b8 5 (b8 5++[u.a2[i].name]),true,e4.step af 5 (by decide) (by decide) (n:=1) (h5:=[u.a2[i].name]) rfl (ey (d:=5) ?_ ?_ ?_ ?_ ?_ ?_) ?_ ?_ ?_ (.inr (by omega)) ?_ ?_,?_,?_,?_⟩;any_goals(intro aA;first|(exact absurd rfl aA)|(simp;done))
    · simp(disch:=first|omega|simp only[DI.ak];omega) [-O,-U,-N,-S,-List.map_map]
    · rw[<-eK];simp(disch:=first|omega|simp only[DI.ak];omega) [-O,-U,-N,-S,-List.map_map]
    · rw[<-eK];simp(disch:=first|omega|simp only[DI.ak];omega) [-O,-U,-N,-S,-List.map_map]
    · simp(disch:=first|omega|simp only[DI.ak];omega) [-O,-U,-N,-S,-List.map_map];try omega
    · intro b hb dH;rw[<-hr]at dH;simp(disch:=first|omega|simp only[DI.ak];omega) [-O,-U,-N,-S,-List.map_map]
    · simp
    · intro _;refine⟨kC,?_,?_,u5 G fi (by simp[kf,da,dq,aw,ea,kh])⟩
      · rw[<-eK,cS,lY,uL,mF (f:=(·.name)) G]
      · rw[<-mF (f:=(·.name)) G,tl,l1,<-cS,a3];rfl
    · intro aJ;cases aJ
  · rintro z t ⟨c4,b8,b,af,gd,im,lk⟩;rw[mJ]at im;have bb:=af.bb;have b1:=af.b1;have aO:=af.aO;have fq:=bm aO;have nT:T=b:=by
      cases b
      · exact lk rfl
      · obtain⟨bw,_,bJ,cc⟩:=im rfl;rw[df,bw,bJ,cc];rfl
    have ee: ¬(((u.a2.length:Nat):Int)<u.a2.length):=(by omega);cases b
    all_goals
      simp(disch:=first|omega|simp only[DI.ak];omega) [vG,xA,xB,aS,bb,gd,aO,ee,-O,-U,-N,-S,-List.map_map];exact bY _ _ c4 b8 (by rw[nT];exact(af.jW (by simp) (ey (d:=0) (λ_=>by simp) (λ_=>by simp) (λ_=>by simp) (λ_=>by simp) (λ_=>by simp) (λ_=>by simp)))) (λaJ=>by rw[nT]at aJ;exact(im aJ).2.1)
  · funext k;by_cases e:k=5
    · subst e;simp
    · rw[nf e]
theorem axx{u:bl}(h:bl.fN u){dt:Bool}{nZ:Nat->Nat}{er:Nat->List ByteArray}{cY:aP}{cP:W}(sH:e4 u dt nZ er cY cP)(kl:dt=true->(er 7).length<=10000)(sI:dt=true->ej (er 7)=true)(tk:cY 21=Z 0)
    {Q:dy->aP->W->Prop} (bY: ∀z t c4 b8,e4 u (dt&&(ej (er 7++u.cb.map (·.name))&&u.cb.all (ng u.cx.length))) c4 b8 z t->((dt&&(ej (er 7++u.cb.map (·.name))&&u.cb.all (ng u.cx.length)))=true->b8=dK er 7 (er 7++u.cb.map (·.name)))->Q (.ba 14) z t):fP al (.loop zO) cY cP Q:=by
  have eS:u.cb.length<=1000:=h.r0;obtain⟨T,df⟩: ∃T,T=(dt&&(ej (er 7++u.cb.map (·.name))&&u.cb.all (ng u.cx.length))):=⟨_,rfl⟩;rw[<-df]at bY;refine hI (aB:=⟨[rf],[xl]⟩) (λi z t=> ∃c4 b8 b,e4 u b c4 b8 z t/\z 21=Z i/\(b=true->dt=true/\b8=dK er 7 (er 7++(u.cb.take i).map (·.name))/\ej (er 7++(u.cb.take i).map (·.name))=true/\(u.cb.take i).all (ng u.cx.length)=true)/\(b=false->T=false)) u.cb.length ?_ ?_ 0 cY cP (ho _) ⟨nZ,er,dt,sH,by simpa using tk,λhb=>⟨hb,?_,by simpa using sI hb,by simp⟩,λhb=>by rw[df,hb];rfl⟩
  · rintro i z t ai ⟨c4,b8,b,af,gd,im,lk⟩ cK bk;have G:u.cb[i]?=some u.cb[i]:=dx ai;have b7:=gT (n:=i) (by omega);have bU:(i:Int)<u.cb.length:=(by omega);have bb:=af.bb;have b1:=af.b1;have aO:=af.aO;have fq:=bm aO;have fO:=af.mD 7 (by decide) (by decide);have bX:=af.g 7 (by decide) (by decide);have jf:=af.m5 7 (by decide) (by decide);have ct:=bm bX;cases b
    · have nU:=lk rfl;simp(disch:=first|omega|simp only[DI.ak];omega) [zO,Cy,aS,bb,b1,gd,aO,bU,-O,-U,-N,-S,-List.map_map];exact bY _ _ c4 b8 (by rw[nU];exact(af.jW (by simp) (ey (d:=0) (λ_=>by simp) (λ_=>by simp) (λ_=>by simp) (λ_=>by simp) (λ_=>by simp) (λ_=>by simp)))) (λaJ=>by rw[nU]at aJ;cases aJ)
    obtain⟨kC,lY,l1,fi⟩:=im rfl;have cS:b8 7=er 7++(u.cb.take i).map (·.name):=(by rw[lY,rj]);have EV:=kl kC;have sC:(b8 7).length<1000000:=(by rw[cS,j7,j8,ni];omega);obtain⟨L,eK⟩: ∃L,L=b8 7:=⟨_,rfl⟩;obtain⟨o,hr⟩: ∃o,o=c4 7:=⟨_,rfl⟩;rw[<-eK]at fO bX sC cS;rw[<-hr]at fO bX jf ct;have jQ:IntKind.i64.wrap ((u.cx.length:Int)-1)=(u.cx.length:Int)-1:=fl (by omega) (by have:=h.vS;omega);cases a3:mQ L u.cb[i].name
    · skip
      simp(disch:=first|omega|simp only[DI.ak];omega) [zO,Cy,aS,g0,iD,bb,b1,gd,fO,aO,bX,bU,b7,a3,-O,-U,-N,-S,-List.map_map];refine bk _ _ ⟨dK c4 7 (t.next),dK b8 7 (b8 7++[u.cb[i].name]),false,e4.step af 7 (by decide) (by decide) (n:=1) (h5:=[u.cb[i].name]) rfl (ey (d:=7) ?_ ?_ ?_ ?_ ?_ ?_) ?_ ?_ ?_ (.inr (by omega)) ?_ ?_,?_,?_,?_⟩;any_goals(intro aA;first|(exact absurd rfl aA)|(simp;done))
      · simp(disch:=first|omega|simp only[DI.ak];omega) [-O,-U,-N,-S,-List.map_map]
      · rw[<-eK];simp(disch:=first|omega|simp only[DI.ak];omega) [-O,-U,-N,-S,-List.map_map]
      · rw[<-eK];simp(disch:=first|omega|simp only[DI.ak];omega) [-O,-U,-N,-S,-List.map_map]
      · simp(disch:=first|omega|simp only[DI.ak];omega) [-O,-U,-N,-S,-List.map_map];try omega
      · intro b hb dH;rw[<-hr]at dH;simp(disch:=first|omega|simp only[DI.ak];omega) [-O,-U,-N,-S,-List.map_map]
      · simp
      · intro aJ;cases aJ
      · intro _;rw[df,Dp (f:=(·.name)) G l1 (by rw[<-cS];exact a3)];simp
    cases da:dB u.cb[i].pv 0 ((u.cx.length:Int)-1)
    · skip
      simp(disch:=first|omega|simp only[DI.ak];omega) [zO,Cy,aS,g0,iD,bb,b1,gd,fO,aO,bX,bU,b7,jQ,a3,da,-O,-U,-N,-S,-List.map_map];refine bk _ _ ⟨dK c4 7 (t.next),dK b8 7 (b8 7++[u.cb[i].name]),false,e4.step af 7 (by decide) (by decide) (n:=1) (h5:=[u.cb[i].name]) rfl (ey (d:=7) ?_ ?_ ?_ ?_ ?_ ?_) ?_ ?_ ?_ (.inr (by omega)) ?_ ?_,?_,?_,?_⟩;any_goals(intro aA;first|(exact absurd rfl aA)|(simp;done))
      · simp(disch:=first|omega|simp only[DI.ak];omega) [-O,-U,-N,-S,-List.map_map]
      · rw[<-eK];simp(disch:=first|omega|simp only[DI.ak];omega) [-O,-U,-N,-S,-List.map_map]
      · rw[<-eK];simp(disch:=first|omega|simp only[DI.ak];omega) [-O,-U,-N,-S,-List.map_map]
      · simp(disch:=first|omega|simp only[DI.ak];omega) [-O,-U,-N,-S,-List.map_map];try omega
      · intro b hb dH;rw[<-hr]at dH;simp(disch:=first|omega|simp only[DI.ak];omega) [-O,-U,-N,-S,-List.map_map]
      · simp
      · intro aJ;cases aJ
      · intro _;rw[df,u4 G (show(ng u.cx.length) u.cb[i]=false by simp[ng,da])];simp
    simp(disch:=first|omega|simp only[DI.ak];omega) [zO,Cy,aS,g0,iD,bb,b1,gd,fO,aO,bX,bU,b7,jQ,a3,da,-O,-U,-N,-S,-List.map_map];refine bk _ _ ⟨dK c4 7 (t.next),dK b8 7 (b8 7++[u.cb[i].name]),true,e4.step af 7 (by decide) (by decide) (n:=1) (h5:=[u.cb[i].name]) rfl (ey (d:=7) ?_ ?_ ?_ ?_ ?_ ?_) ?_ ?_ ?_ (.inr (by omega)) ?_ ?_,?_,?_,?_⟩;any_goals(intro aA;first|(exact absurd rfl aA)|(simp;done))
    · simp(disch:=first|omega|simp only[DI.ak];omega) [-O,-U,-N,-S,-List.map_map]
    · rw[<-eK];simp(disch:=first|omega|simp only[DI.ak];omega) [-O,-U,-N,-S,-List.map_map]
    · rw[<-eK];simp(disch:=first|omega|simp only[DI.ak];omega) [-O,-U,-N,-S,-List.map_map]
    · simp(disch:=first|omega|simp only[DI.ak];omega) [-O,-U,-N,-S,-List.map_map];try omega
    · intro b hb dH;rw[<-hr]at dH;simp(disch:=first|omega|simp only[DI.ak];omega) [-O,-U,-N,-S,-List.map_map]
    · simp
    · intro _;refine⟨kC,?_,?_,u5 G fi (by simp[ng,da])⟩
      · rw[<-eK,cS,lY,uL,mF (f:=(·.name)) G]
      · rw[<-mF (f:=(·.name)) G,tl,l1,<-cS,a3];rfl
    · intro aJ;cases aJ
  · rintro z t ⟨c4,b8,b,af,gd,im,lk⟩;rw[mJ]at im;have bb:=af.bb;have b1:=af.b1;have aO:=af.aO;have fq:=bm aO;have nT:T=b:=by
      cases b
      · exact lk rfl
      · obtain⟨bw,_,bJ,cc⟩:=im rfl;rw[df,bw,bJ,cc];rfl
    have ee: ¬(((u.cb.length:Nat):Int)<u.cb.length):=(by omega);cases b
    all_goals
      simp(disch:=first|omega|simp only[DI.ak];omega) [zO,Cy,aS,bb,gd,aO,ee,-O,-U,-N,-S,-List.map_map];exact bY _ _ c4 b8 (by rw[nT];exact(af.jW (by simp) (ey (d:=0) (λ_=>by simp) (λ_=>by simp) (λ_=>by simp) (λ_=>by simp) (λ_=>by simp) (λ_=>by simp)))) (λaJ=>by rw[nT]at aJ;exact(im aJ).2.1)
  · funext k;by_cases e:k=7
    · subst e;simp
    · rw[nf e]
def uK(ds l:List gj):Bool:=(List.range l.length).all λi=>match l[i]? with
    |some d=>kB ds i d
    |none=>true
theorem H2{ds l:List gj}{i:Nat}{d:gj}(G:l[i]?=some d)(h:kB ds i d=false):uK ds l=false:=by unfold uK;rw[wC];exact⟨i,ob.2 (ek.1 G).1,by simp[G,h]⟩
theorem ayJ{ds l:List gj}(h: ∀j d,l[j]?=some d->kB ds j d=true):uK ds l=true:=by
  unfold uK;rw[eD];intro i ai;cases G:l[i]? with
  |none=>rfl
  |some d=>exact h i d G
theorem axs{u:bl}(h:bl.fN u){R:gj}{ds:List gj}(iq:u.a0=R::ds){dt:Bool}{nZ:Nat->Nat}{er:Nat->List ByteArray}{cY:aP}{cP:W}(sH:e4 u dt nZ er cY cP)(kl:dt=true->(er 5).length<=10000)(sI:dt=true->ej (er 5)=true)(tk:cY 13=Z 1)
    {Q:dy->aP->W->Prop} (bY: ∀z t c4 b8,e4 u (dt&&(ej (er 5++ds.map (·.name))&&uK u.a0 ds)) c4 b8 z t->((dt&&(ej (er 5++ds.map (·.name))&&uK u.a0 ds))=true->b8=dK er 5 (er 5++ds.map (·.name)))->Q (.ba 4) z t):fP al (.loop sQ) cY cP Q:=by
  have eS:u.a0.length<=1000:=h.kr;have aEE:u.a0.length=ds.length+1:=by rw[iq];rfl
  obtain⟨T,df⟩: ∃T,T=(dt&&(ej (er 5++ds.map (·.name))&&uK u.a0 ds)):=⟨_,rfl⟩;rw[<-df]at bY;refine hI (aB:=⟨[rf,MS],[xl]⟩) (λi z t=> ∃c4 b8 b k,k=i+1/\e4 u b c4 b8 z t/\z 13=Z k/\(b=true->dt=true/\b8=dK er 5 (er 5++(ds.take i).map (·.name))/\ej (er 5++(ds.take i).map (·.name))=true/\ ∀j d,j<i->ds[j]?=some d->kB u.a0 j d=true)/\(b=false->T=false)) ds.length ?_ ?_ 0 cY cP (ho _) ⟨nZ,er,dt,1,rfl,sH,by simpa using tk,λhb=>⟨hb,?_,by simpa using sI hb,λj d bx=>by omega⟩,λhb=>by rw[df,hb];rfl⟩
  · rintro i z t ai ⟨c4,b8,b,k,aa,af,gd,im,lk⟩ cK bk;obtain⟨cE,oq⟩: ∃cE,cE=ds[i]:=⟨_,rfl⟩;have fA:ds[i]?=some cE:=(by rw[oq];exact dx ai);have G:u.a0[k]?=some cE:=(by rw[aa,iq,Dw];exact fA);have aEC:k<u.a0.length:=(by omega);have eh:=(ek.1 G).2;have b7:=gT (n:=k) (by omega);have cV:IntKind.i64.wrap ((k:Int)-1)=(i:Int):=(by rw[show(k:Int)-1=i by omega];exact fl (by omega) (by omega));have bU:(k:Int)<u.a0.length:=(by omega);have oy:cE.nJ.cV:=h.a0 cE (hR G);have bb:=af.bb;have b1:=af.b1;have aO:=af.aO;have fq:=bm aO;have fO:=af.mD 5 (by decide) (by decide);have bX:=af.g 5 (by decide) (by decide);have jf:=af.m5 5 (by decide) (by decide);have ct:=bm bX;cases b
    · have nU:=lk rfl;simp(disch:=first|omega|simp only[DI.ak];omega) [sQ,ub,uc,aS,bb,b1,gd,aO,bU,-O,-U,-N,-S,-List.map_map];exact bY _ _ c4 b8 (by rw[nU];exact(af.jW (by simp) (ey (d:=0) (λ_=>by simp) (λ_=>by simp) (λ_=>by simp) (λ_=>by simp) (λ_=>by simp) (λ_=>by simp)))) (λaJ=>by rw[nU]at aJ;cases aJ)
    obtain⟨kC,lY,l1,fi⟩:=im rfl;have cS:b8 5=er 5++(ds.take i).map (·.name):=(by rw[lY,rj]);have EV:=kl kC;have sC:(b8 5).length<1000000:=(by rw[cS,j7,j8,ni];omega);obtain⟨L,eK⟩: ∃L,L=b8 5:=⟨_,rfl⟩;obtain⟨o,hr⟩: ∃o,o=c4 5:=⟨_,rfl⟩;rw[<-eK]at fO bX sC cS;rw[<-hr]at fO bX jf ct;obtain⟨oj,Be,ahv,VF,⟨VB,Vz,VA⟩⟩:=cE;simp only at oy;cases a3:mQ L oj
    · skip
      simp(disch:=first|omega|simp only[DI.ak];omega) [sQ,ub,uc,aS,dU,iD,bb,b1,gd,fO,aO,bX,bU,b7,eh,a3,-O,-U,-N,-S,-List.map_map];refine bk _ _ ⟨dK c4 5 (t.next+7),dK b8 5 (b8 5++[oj]),false,k+1,by omega,e4.step af 5 (by decide) (by decide) (n:=1) (h5:=[oj]) rfl (ey (d:=5) ?_ ?_ ?_ ?_ ?_ ?_) ?_ ?_ ?_ (.inr (by omega)) ?_ ?_,?_,?_,?_⟩;any_goals(intro aA;first|(exact absurd rfl aA)|(simp;done))
      · simp(disch:=first|omega|simp only[DI.ak];omega) [-O,-U,-N,-S,-List.map_map]
      · rw[<-eK];simp(disch:=first|omega|simp only[DI.ak];omega) [-O,-U,-N,-S,-List.map_map]
      · rw[<-eK];simp(disch:=first|omega|simp only[DI.ak];omega) [-O,-U,-N,-S,-List.map_map]
      · simp(disch:=first|omega|simp only[DI.ak];omega) [-O,-U,-N,-S,-List.map_map];try omega
      · intro b hb dH;rw[<-hr]at dH;simp(disch:=first|omega|simp only[DI.ak];omega) [-O,-U,-N,-S,-List.map_map]
      · simp
      · intro aJ;cases aJ
      · intro _;rw[df,Dp (f:=(·.name)) fA l1 (by rw[<-cS];exact a3)];simp
    cases da:dB Be 1 4
    · skip
      simp(disch:=first|omega|simp only[DI.ak];omega) [sQ,ub,uc,aS,dU,iD,bb,b1,gd,fO,aO,bX,bU,b7,eh,a3,da,-O,-U,-N,-S,-List.map_map];refine bk _ _ ⟨dK c4 5 (t.next+7),dK b8 5 (b8 5++[oj]),false,k+1,by omega,e4.step af 5 (by decide) (by decide) (n:=1) (h5:=[oj]) rfl (ey (d:=5) ?_ ?_ ?_ ?_ ?_ ?_) ?_ ?_ ?_ (.inr (by omega)) ?_ ?_,?_,?_,?_⟩;any_goals(intro aA;first|(exact absurd rfl aA)|(simp;done))
      · simp(disch:=first|omega|simp only[DI.ak];omega) [-O,-U,-N,-S,-List.map_map]
      · rw[<-eK];simp(disch:=first|omega|simp only[DI.ak];omega) [-O,-U,-N,-S,-List.map_map]
      · rw[<-eK];simp(disch:=first|omega|simp only[DI.ak];omega) [-O,-U,-N,-S,-List.map_map]
      · simp(disch:=first|omega|simp only[DI.ak];omega) [-O,-U,-N,-S,-List.map_map];try omega
      · intro b hb dH;rw[<-hr]at dH;simp(disch:=first|omega|simp only[DI.ak];omega) [-O,-U,-N,-S,-List.map_map]
      · simp
      · intro aJ;cases aJ
      · intro _;rw[df,H2 (ds:=u.a0) fA (by simp[kB,da])];simp
    have aDG:=sO.1 da;have jQ:IntKind.i64.wrap (Be-1)=Be-1:=fl (by omega) (by omega);cases dq:dB ahv 0 i
    · skip
      simp(disch:=first|omega|simp only[DI.ak];omega) [sQ,ub,uc,aS,dU,iD,bb,b1,gd,fO,aO,bX,bU,b7,cV,eh,a3,da,dq,-O,-U,-N,-S,-List.map_map];refine bk _ _ ⟨dK c4 5 (t.next+7),dK b8 5 (b8 5++[oj]),false,k+1,by omega,e4.step af 5 (by decide) (by decide) (n:=1) (h5:=[oj]) rfl (ey (d:=5) ?_ ?_ ?_ ?_ ?_ ?_) ?_ ?_ ?_ (.inr (by omega)) ?_ ?_,?_,?_,?_⟩;any_goals(intro aA;first|(exact absurd rfl aA)|(simp;done))
      · simp(disch:=first|omega|simp only[DI.ak];omega) [-O,-U,-N,-S,-List.map_map]
      · rw[<-eK];simp(disch:=first|omega|simp only[DI.ak];omega) [-O,-U,-N,-S,-List.map_map]
      · rw[<-eK];simp(disch:=first|omega|simp only[DI.ak];omega) [-O,-U,-N,-S,-List.map_map]
      · simp(disch:=first|omega|simp only[DI.ak];omega) [-O,-U,-N,-S,-List.map_map];try omega
      · intro b hb dH;rw[<-hr]at dH;simp(disch:=first|omega|simp only[DI.ak];omega) [-O,-U,-N,-S,-List.map_map]
      · simp
      · intro aJ;cases aJ
      · intro _;rw[df,H2 (ds:=u.a0) fA (by simp[kB,da,dq])];simp
    have yL:=sO.1 dq;obtain⟨aW,rfl⟩:=kS yL.1;have yW:aW<u.a0.length:=(by omega);have lW:(aW:Int)<u.a0.length:=(by omega);have bf:u.a0[aW]?=some u.a0[aW]:=dx yW;have aw:z7 u.a0 ⟨oj,Be,(aW:Int),VF,⟨VB,Vz,VA⟩⟩=decide (u.a0[aW].hl=Be-1):=(by unfold z7;simp only[rn,bf]);by_cases hy:u.a0[aW].hl=Be-1
    case neg=>
      simp(disch:=first|omega|simp only[DI.ak];omega) [sQ,ub,uc,aS,dU,iD,bb,b1,gd,fO,aO,bX,bU,b7,cV,eh,a3,da,dq,jQ,lW,hy,-O,-U,-N,-S,-List.map_map];refine bk _ _ ⟨dK c4 5 (t.next+7),dK b8 5 (b8 5++[oj]),false,k+1,by omega,e4.step af 5 (by decide) (by decide) (n:=1) (h5:=[oj]) rfl (ey (d:=5) ?_ ?_ ?_ ?_ ?_ ?_) ?_ ?_ ?_ (.inr (by omega)) ?_ ?_,?_,?_,?_⟩;any_goals(intro aA;first|(exact absurd rfl aA)|(simp;done))
      · simp(disch:=first|omega|simp only[DI.ak];omega) [-O,-U,-N,-S,-List.map_map]
      · rw[<-eK];simp(disch:=first|omega|simp only[DI.ak];omega) [-O,-U,-N,-S,-List.map_map]
      · rw[<-eK];simp(disch:=first|omega|simp only[DI.ak];omega) [-O,-U,-N,-S,-List.map_map]
      · simp(disch:=first|omega|simp only[DI.ak];omega) [-O,-U,-N,-S,-List.map_map];try omega
      · intro b hb dH;rw[<-hr]at dH;simp(disch:=first|omega|simp only[DI.ak];omega) [-O,-U,-N,-S,-List.map_map]
      · simp
      · intro aJ;cases aJ
      · intro _;rw[df,H2 (ds:=u.a0) fA (by simp[kB,da,dq,aw,hy])];simp
    cases kh:dB VF 1 64
    · skip
      simp(disch:=first|omega|simp only[DI.ak];omega) [sQ,ub,uc,aS,dU,iD,bb,b1,gd,fO,aO,bX,bU,b7,cV,eh,a3,da,dq,jQ,lW,hy,kh,-O,-U,-N,-S,-List.map_map];refine bk _ _ ⟨dK c4 5 (t.next+7),dK b8 5 (b8 5++[oj]),false,k+1,by omega,e4.step af 5 (by decide) (by decide) (n:=1) (h5:=[oj]) rfl (ey (d:=5) ?_ ?_ ?_ ?_ ?_ ?_) ?_ ?_ ?_ (.inr (by omega)) ?_ ?_,?_,?_,?_⟩;any_goals(intro aA;first|(exact absurd rfl aA)|(simp;done))
      · simp(disch:=first|omega|simp only[DI.ak];omega) [-O,-U,-N,-S,-List.map_map]
      · rw[<-eK];simp(disch:=first|omega|simp only[DI.ak];omega) [-O,-U,-N,-S,-List.map_map]
      · rw[<-eK];simp(disch:=first|omega|simp only[DI.ak];omega) [-O,-U,-N,-S,-List.map_map]
      · simp(disch:=first|omega|simp only[DI.ak];omega) [-O,-U,-N,-S,-List.map_map];try omega
      · intro b hb dH;rw[<-hr]at dH;simp(disch:=first|omega|simp only[DI.ak];omega) [-O,-U,-N,-S,-List.map_map]
      · simp
      · intro aJ;cases aJ
      · intro _;rw[df,H2 (ds:=u.a0) fA (by simp[kB,da,dq,aw,hy,kh])];simp
    cases Bg:(bT.mk VB Vz VA).bA.small
    · skip
      simp(disch:=first|omega|simp only[DI.ak];omega) [sQ,ub,uc,aS,dU,iD,bb,b1,gd,fO,aO,bX,bU,b7,cV,eh,a3,da,dq,jQ,lW,hy,kh,Bg,-O,-U,-N,-S,-List.map_map];refine bk _ _ ⟨dK c4 5 (t.next+7),dK b8 5 (b8 5++[oj]),false,k+1,by omega,e4.step af 5 (by decide) (by decide) (n:=1) (h5:=[oj]) rfl (ey (d:=5) ?_ ?_ ?_ ?_ ?_ ?_) ?_ ?_ ?_ (.inr (by omega)) ?_ ?_,?_,?_,?_⟩;any_goals(intro aA;first|(exact absurd rfl aA)|(simp;done))
      · simp(disch:=first|omega|simp only[DI.ak];omega) [-O,-U,-N,-S,-List.map_map]
      · rw[<-eK];simp(disch:=first|omega|simp only[DI.ak];omega) [-O,-U,-N,-S,-List.map_map]
      · rw[<-eK];simp(disch:=first|omega|simp only[DI.ak];omega) [-O,-U,-N,-S,-List.map_map]
      · simp(disch:=first|omega|simp only[DI.ak];omega) [-O,-U,-N,-S,-List.map_map];try omega
      · intro b hb dH;rw[<-hr]at dH;simp(disch:=first|omega|simp only[DI.ak];omega) [-O,-U,-N,-S,-List.map_map]
      · simp
      · intro aJ;cases aJ
      · intro _;rw[df,H2 (ds:=u.a0) fA (by simp[kB,da,dq,aw,hy,kh,Bg])];simp
    · skip
      simp(disch:=first|omega|simp only[DI.ak];omega) [sQ,ub,uc,aS,dU,iD,bb,b1,gd,fO,aO,bX,bU,b7,cV,eh,a3,da,dq,jQ,lW,hy,kh,Bg,-O,-U,-N,-S,-List.map_map];refine bk _ _ ⟨dK c4 5 (t.next+7),dK b8 5 (b8 5++[oj]),true,k+1,by omega,e4.step af 5 (by decide) (by decide) (n:=1) (h5:=[oj]) rfl (ey (d:=5) ?_ ?_ ?_ ?_ ?_ ?_) ?_ ?_ ?_ (.inr (by omega)) ?_ ?_,?_,?_,?_⟩;any_goals(intro aA;first|(exact absurd rfl aA)|(simp;done))
      · simp(disch:=first|omega|simp only[DI.ak];omega) [-O,-U,-N,-S,-List.map_map]
      · rw[<-eK];simp(disch:=first|omega|simp only[DI.ak];omega) [-O,-U,-N,-S,-List.map_map]
      · rw[<-eK];simp(disch:=first|omega|simp only[DI.ak];omega) [-O,-U,-N,-S,-List.map_map]
      · simp(disch:=first|omega|simp only[DI.ak];omega) [-O,-U,-N,-S,-List.map_map];try omega
      · intro b hb dH;rw[<-hr]at dH;simp(disch:=first|omega|simp only[DI.ak];omega) [-O,-U,-N,-S,-List.map_map]
      · simp
      · intro _;refine⟨kC,?_,?_,λj d bx aA=> ?_⟩
        · rw[<-eK,cS,lY,uL,<-mF (f:=(·.name)) fA]
        · rw[<-mF (f:=(·.name)) fA,tl,l1,<-cS];exact a3
        · by_cases e:j=i
          · subst e;rw[fA]at aA;cases aA;simp[kB,da,dq,aw,hy,kh,Bg]
          · exact fi j d (by omega) aA
      · intro aJ;cases aJ
  · rintro z t ⟨c4,b8,b,k,aa,af,gd,im,lk⟩;rw[mJ]at im;have bb:=af.bb;have b1:=af.b1;have aO:=af.aO;have fq:=bm aO;have nT:T=b:=by
      cases b
      · exact lk rfl
      · obtain⟨bw,_,bJ,cc⟩:=im rfl;rw[df,bw,bJ,ayJ λj d aA=>cc j d (ek.1 aA).1 aA];rfl
    have ee: ¬(k:Int)<u.a0.length:=(by omega);cases b
    all_goals
      simp(disch:=first|omega|simp only[DI.ak];omega) [sQ,ub,uc,aS,bb,gd,aO,ee,-O,-U,-N,-S,-List.map_map];exact bY _ _ c4 b8 (by rw[nT];exact(af.jW (by simp) (ey (d:=0) (λ_=>by simp) (λ_=>by simp) (λ_=>by simp) (λ_=>by simp) (λ_=>by simp) (λ_=>by simp)))) (λaJ=>by rw[nT]at aJ;exact(im aJ).2.1)
  · funext k;by_cases e:k=5
    · subst e;simp
    · rw[nf e]
theorem e4.Vt{u:bl}{b c8:Bool}{c4:Nat->Nat}{b8:Nat->List ByteArray}{z aj:aP}{t:W}(h:e4 u b c4 b8 z t)(hz:aj 8= .bool c8)(M: ∀k∈ld,aj k=z k):e4 u c8 c4 b8 aj t:=
  ⟨(M 1 (by decide)).trans h.bb,hz,h.aO,λk D H=>by have:k=3\/k=4\/k=5\/k=6\/k=7:=(by omega);have aw:k∈ld:=(by rcases this with rfl|rfl|rfl|rfl|rfl<;>decide);exact(M k aw).trans (h.mD k D H),h.g,h.inj,h.m5⟩
theorem ays: ∀k∈ld,k∈uI:=by decide
theorem Hu{u:bl}(h:bl.fN u){x:ic}{q:Nat}{aV:Bool}{c4:Nat->Nat}{b8:Nat->List ByteArray}{bI:aP}{bO:W}(pg:e4 u aV c4 b8 bI bO)(eS:x.bc.length<1000000)(qK:bO.Y q=some ⟨eY x,true⟩)(rb:bI 18=cD q)(uD:bI 19=Z 0)
    {Q:dy->aP->W->Prop} (bY: ∀dh,e4 u (aV&&nY x.bc u.bc.length) c4 b8 dh bO->dh 17=bI 17->Q (.ba 10) dh bO):fP al (.loop CB) bI bO Q:=
  axv h eS pg.aO qK pg.bb rb uD pg.b1 λdh M Ok=>bY dh (pg.Vt Ok λk aa=>M k (ays k aa)) (M 17 (by decide))
theorem axw{u:bl}(h:bl.fN u){dt:Bool}{nZ:Nat->Nat}{er:Nat->List ByteArray}{cY:aP}{cP:W}(sH:e4 u dt nZ er cY cP)(kl:dt=true->(er 6).length<=10000)(sI:dt=true->ej (er 6)=true)(tk:cY 17=Z 0)
    {Q:dy->aP->W->Prop} (bY: ∀z t c4 b8,e4 u (dt&&(ej (er 6++u.cx.map (·.name))&&u.cx.all (ib · u.bc.length))) c4 b8 z t->((dt&&(ej (er 6++u.cx.map (·.name))&&u.cx.all (ib · u.bc.length)))=true->b8=dK er 6 (er 6++u.cx.map (·.name)))->Q (.ba 8) z t):fP al (.loop vH) cY cP Q:=by
  have eS:u.cx.length<=1000:=h.vS;obtain⟨T,df⟩: ∃T,T=(dt&&(ej (er 6++u.cx.map (·.name))&&u.cx.all (ib · u.bc.length))):=⟨_,rfl⟩;rw[<-df]at bY;refine hI (aB:=⟨[Tb,Ta],[xl]⟩) (λi z t=> ∃c4 b8 b,e4 u b c4 b8 z t/\z 17=Z i/\(b=true->dt=true/\b8=dK er 6 (er 6++(u.cx.take i).map (·.name))/\ej (er 6++(u.cx.take i).map (·.name))=true/\(u.cx.take i).all (ib · u.bc.length)=true)/\(b=false->T=false)) u.cx.length ?_ ?_ 0 cY cP (ho _) ⟨nZ,er,dt,sH,by simpa using tk,λhb=>⟨hb,?_,by simpa using sI hb,by simp⟩,λhb=>by rw[df,hb];rfl⟩
  · rintro i z t ai ⟨c4,b8,b,af,gd,im,lk⟩ cK bk;obtain⟨x,Xi⟩: ∃x,x=u.cx[i]:=⟨_,rfl⟩;have G:u.cx[i]?=some x:=(by rw[Xi];exact dx ai);have eh:u.cx[i]=x:=Xi.symm;have b7:=gT (n:=i) (by omega);have bU:(i:Int)<u.cx.length:=(by omega);have bb:=af.bb;have b1:=af.b1;have aO:=af.aO;have fq:=bm aO;have fO:=af.mD 6 (by decide) (by decide);have bX:=af.g 6 (by decide) (by decide);have jf:=af.m5 6 (by decide) (by decide);have ct:=bm bX;cases b
    · have nU:=lk rfl;simp(disch:=first|omega|simp only[DI.ak];omega) [vH,xC,xD,xE,xF,aS,bb,b1,gd,aO,bU,-O,-U,-N,-S,-List.map_map];exact bY _ _ c4 b8 (by rw[nU];exact(af.jW (by simp) (ey (d:=0) (λ_=>by simp) (λ_=>by simp) (λ_=>by simp) (λ_=>by simp) (λ_=>by simp) (λ_=>by simp)))) (λaJ=>by rw[nU]at aJ;cases aJ)
    obtain⟨kC,lY,l1,fi⟩:=im rfl;have cS:b8 6=er 6++(u.cx.take i).map (·.name):=(by rw[lY,rj]);have EV:=kl kC;have sC:(b8 6).length<1000000:=(by rw[cS,j7,j8,ni];omega);obtain⟨L,eK⟩: ∃L,L=b8 6:=⟨_,rfl⟩;obtain⟨o,hr⟩: ∃o,o=c4 6:=⟨_,rfl⟩;rw[<-eK]at fO bX sC cS;rw[<-hr]at fO bX jf ct;obtain⟨fC,g3,jF,m9⟩:=h.cx x (hR G);obtain⟨eG,k,m,q,⟨a,b,c,d,e⟩,gA,jt,⟨gC,r7,nK⟩,⟨ax,az,hb⟩⟩:=x;simp only at fC g3 jF m9;obtain⟨aV,cC⟩: ∃aV,aV=(mQ L eG&&(k7 k m q ⟨a,b,c,d,e⟩&&(na m jt ⟨gC,r7,nK⟩ ⟨ax,az,hb⟩&& !gA.isEmpty))):=⟨_,rfl⟩;have ab:ib ⟨eG,k,m,q,⟨a,b,c,d,e⟩,gA,jt,⟨gC,r7,nK⟩,⟨ax,az,hb⟩⟩ u.bc.length=(k7 k m q ⟨a,b,c,d,e⟩&&(na m jt ⟨gC,r7,nK⟩ ⟨ax,az,hb⟩&&(!gA.isEmpty&&nY gA u.bc.length))):=by
      unfold ib nY;simp only;rw[Bool.eq_iff_iff];simp only[aX];constructor
      · rintro⟨a,b,c,d⟩;exact⟨a,c,b,d⟩
      · rintro⟨a,c,b,d⟩;exact⟨a,b,c,d⟩
    have wM: ∀sh,sh=aV->(sh&&nY gA u.bc.length)=false->T=false:=by
      intro sh eq aJ;rw[eq,cC]at aJ;cases a3:mQ L eG
      · rw[df,Dp (f:=(·.name)) G l1 (by rw[<-cS];exact a3)];simp
      · rw[a3,sf]at aJ;rw[df,u4 G (show(ib · u.bc.length) (ic.mk eG k m q ⟨a,b,c,d,e⟩ gA jt ⟨gC,r7,nK⟩ ⟨ax,az,hb⟩)=false by show ib _ _=false;rw[ab];simpa[yz]using aJ)];simp
    have Ex: ∀sh,sh=aV->(sh&&nY gA u.bc.length)=true->mQ L eG=true/\ib ⟨eG,k,m,q,⟨a,b,c,d,e⟩,gA,jt,⟨gC,r7,nK⟩,⟨ax,az,hb⟩⟩ u.bc.length=true:=(by intro sh eq aJ;rw[eq,cC]at aJ;simp only[aX]at aJ;rw[ab];simp only[aX];exact⟨aJ.1.1,aJ.1.2.1,aJ.1.2.2.1,aJ.1.2.2.2,aJ.2⟩);cases a3:mQ L eG
    · skip
      have pV:false=aV:=(by rw[cC];simp[a3]);simp(disch:=first|omega|simp only[DI.ak];omega) [vH,xC,xD,xE,xF,aS,eY,iD,bb,b1,gd,fO,aO,bX,bU,eh,a3,-O,-U,-N,-S,-List.map_map];refine Hu h (x:=⟨eG,k,m,q,⟨a,b,c,d,e⟩,gA,jt,⟨gC,r7,nK⟩,⟨ax,az,hb⟩⟩) (q:=t.next+5) (e4.step af 6 (c8:=false) (o:=t.next+7) (by decide) (by decide) (n:=1) (h5:=[eG]) rfl (ey (d:=6) ?_ ?_ ?_ ?_ ?_ ?_) ?_ ?_ ?_ (.inr (by omega)) ?_ ?_) m9 (by simp(disch:=first|omega|simp only[DI.ak];omega) [eY,-O,-U,-N,-S,-List.map_map]) (by simp) (by simp) λdh kE vb=> ?_;any_goals(intro aA;first|(exact absurd rfl aA)|(simp;done))
      · simp(disch:=first|omega|simp only[DI.ak];omega) [-O,-U,-N,-S,-List.map_map]
      · rw[<-eK];simp(disch:=first|omega|simp only[DI.ak];omega) [-O,-U,-N,-S,-List.map_map]
      · rw[<-eK];simp(disch:=first|omega|simp only[DI.ak];omega) [-O,-U,-N,-S,-List.map_map]
      · simp(disch:=first|omega|simp only[DI.ak];omega) [-O,-U,-N,-S,-List.map_map];try omega
      · intro b hb dH;rw[<-hr]at dH;simp(disch:=first|omega|simp only[DI.ak];omega) [-O,-U,-N,-S,-List.map_map]
      have vc:dh 17=Z i:=vb.trans (by simp[gd]);simp(disch:=first|omega|simp only[DI.ak];omega) [vc,b7,-O,-U,-N,-S,-List.map_map];refine bk _ _ ⟨_,_,_,kE.jW (by simp) (ey (d:=0) (λ_=>by simp) (λ_=>by simp) (λ_=>by simp) (λ_=>by simp) (λ_=>by simp) (λ_=>by simp)),by simp,λaJ=> ?_,λaJ=>wM _ pV aJ⟩;obtain⟨aQ,a8⟩:=Ex _ pV aJ;refine⟨kC,?_,?_,u5 G fi a8⟩
      · rw[<-eK,cS,lY,uL,<-mF (f:=(·.name)) G]
      · rw[<-mF (f:=(·.name)) G,tl,l1,<-cS];exact aQ
    cases da:k7 k m q ⟨a,b,c,d,e⟩
    · skip
      have pV:false=aV:=(by rw[cC];simp[a3,da]);simp(disch:=first|omega|simp only[DI.ak];omega) [vH,xC,xD,xE,xF,aS,eY,iD,bb,b1,gd,fO,aO,bX,bU,eh,a3,da,-O,-U,-N,-S,-List.map_map];refine Hu h (x:=⟨eG,k,m,q,⟨a,b,c,d,e⟩,gA,jt,⟨gC,r7,nK⟩,⟨ax,az,hb⟩⟩) (q:=t.next+5) (e4.step af 6 (c8:=false) (o:=t.next+7) (by decide) (by decide) (n:=1) (h5:=[eG]) rfl (ey (d:=6) ?_ ?_ ?_ ?_ ?_ ?_) ?_ ?_ ?_ (.inr (by omega)) ?_ ?_) m9 (by simp(disch:=first|omega|simp only[DI.ak];omega) [eY,-O,-U,-N,-S,-List.map_map]) (by simp) (by simp) λdh kE vb=> ?_;any_goals(intro aA;first|(exact absurd rfl aA)|(simp;done))
      · simp(disch:=first|omega|simp only[DI.ak];omega) [-O,-U,-N,-S,-List.map_map]
      · rw[<-eK];simp(disch:=first|omega|simp only[DI.ak];omega) [-O,-U,-N,-S,-List.map_map]
      · rw[<-eK];simp(disch:=first|omega|simp only[DI.ak];omega) [-O,-U,-N,-S,-List.map_map]
      · simp(disch:=first|omega|simp only[DI.ak];omega) [-O,-U,-N,-S,-List.map_map];try omega
      · intro b hb dH;rw[<-hr]at dH;simp(disch:=first|omega|simp only[DI.ak];omega) [-O,-U,-N,-S,-List.map_map]
      have vc:dh 17=Z i:=vb.trans (by simp[gd]);simp(disch:=first|omega|simp only[DI.ak];omega) [vc,b7,-O,-U,-N,-S,-List.map_map];refine bk _ _ ⟨_,_,_,kE.jW (by simp) (ey (d:=0) (λ_=>by simp) (λ_=>by simp) (λ_=>by simp) (λ_=>by simp) (λ_=>by simp) (λ_=>by simp)),by simp,λaJ=> ?_,λaJ=>wM _ pV aJ⟩;obtain⟨aQ,a8⟩:=Ex _ pV aJ;refine⟨kC,?_,?_,u5 G fi a8⟩
      · rw[<-eK,cS,lY,uL,<-mF (f:=(·.name)) G]
      · rw[<-mF (f:=(·.name)) G,tl,l1,<-cS];exact aQ
    have ahT:0<=m/\m<=4:=(by have:dB m 0 4=true:=(by simp only[k7,aX]at da;exact da.2.1);exact sO.1 this);have Bz:(0<=m/\m<=4)/\((∀x∈jt,x.cV)/\jt.length<1000000)/\(bT.mk gC r7 nK).cV/\(bT.mk ax az hb).cV:=⟨ahT,fC,g3,jF⟩;cases dq:na m jt ⟨gC,r7,nK⟩ ⟨ax,az,hb⟩
    · skip
      have pV:false=aV:=(by rw[cC];simp[a3,da,dq]);simp(disch:=first|omega|simp only[DI.ak];omega) [vH,xC,xD,xE,xF,aS,eY,iD,bb,b1,gd,fO,aO,bX,bU,eh,a3,da,dq,-O,-U,-N,-S,-List.map_map];refine Hu h (x:=⟨eG,k,m,q,⟨a,b,c,d,e⟩,gA,jt,⟨gC,r7,nK⟩,⟨ax,az,hb⟩⟩) (q:=t.next+5) (e4.step af 6 (c8:=false) (o:=t.next+7) (by decide) (by decide) (n:=1) (h5:=[eG]) rfl (ey (d:=6) ?_ ?_ ?_ ?_ ?_ ?_) ?_ ?_ ?_ (.inr (by omega)) ?_ ?_) m9 (by simp(disch:=first|omega|simp only[DI.ak];omega) [eY,-O,-U,-N,-S,-List.map_map]) (by simp) (by simp) λdh kE vb=> ?_;any_goals(intro aA;first|(exact absurd rfl aA)|(simp;done))
      · simp(disch:=first|omega|simp only[DI.ak];omega) [-O,-U,-N,-S,-List.map_map]
      · rw[<-eK];simp(disch:=first|omega|simp only[DI.ak];omega) [-O,-U,-N,-S,-List.map_map]
      · rw[<-eK];simp(disch:=first|omega|simp only[DI.ak];omega) [-O,-U,-N,-S,-List.map_map]
      · simp(disch:=first|omega|simp only[DI.ak];omega) [-O,-U,-N,-S,-List.map_map];try omega
      · intro b hb dH;rw[<-hr]at dH;simp(disch:=first|omega|simp only[DI.ak];omega) [-O,-U,-N,-S,-List.map_map]
      have vc:dh 17=Z i:=vb.trans (by simp[gd]);simp(disch:=first|omega|simp only[DI.ak];omega) [vc,b7,-O,-U,-N,-S,-List.map_map];refine bk _ _ ⟨_,_,_,kE.jW (by simp) (ey (d:=0) (λ_=>by simp) (λ_=>by simp) (λ_=>by simp) (λ_=>by simp) (λ_=>by simp) (λ_=>by simp)),by simp,λaJ=> ?_,λaJ=>wM _ pV aJ⟩;obtain⟨aQ,a8⟩:=Ex _ pV aJ;refine⟨kC,?_,?_,u5 G fi a8⟩
      · rw[<-eK,cS,lY,uL,<-mF (f:=(·.name)) G]
      · rw[<-mF (f:=(·.name)) G,tl,l1,<-cS];exact aQ
    by_cases JI:gA.length=0
    · have aiK: ¬(0:Int)<gA.length:=(by omega);have Pb:gA.isEmpty=true:=(by rw[NM];exact JI);have Pa:gA=[]:=pF.1 JI;have pV:false=aV:=(by rw[cC];simp[a3,da,dq,Pb]);simp(disch:=first|omega|simp only[DI.ak];omega) [vH,xC,xD,xE,xF,aS,eY,iD,bb,b1,gd,fO,aO,bX,bU,eh,a3,da,dq,JI,-O,-U,-N,-S,-List.map_map];refine Hu h (x:=⟨eG,k,m,q,⟨a,b,c,d,e⟩,gA,jt,⟨gC,r7,nK⟩,⟨ax,az,hb⟩⟩) (q:=t.next+5) (e4.step af 6 (c8:=false) (o:=t.next+7) (by decide) (by decide) (n:=1) (h5:=[eG]) rfl (ey (d:=6) ?_ ?_ ?_ ?_ ?_ ?_) ?_ ?_ ?_ (.inr (by omega)) ?_ ?_) m9 (by simp(disch:=first|omega|simp only[DI.ak];omega) [eY,-O,-U,-N,-S,-List.map_map]) (by simp) (by simp) λdh kE vb=> ?_;any_goals(intro aA;first|(exact absurd rfl aA)|(simp;done))
      · simp(disch:=first|omega|simp only[DI.ak];omega) [-O,-U,-N,-S,-List.map_map]
      · rw[<-eK];simp(disch:=first|omega|simp only[DI.ak];omega) [-O,-U,-N,-S,-List.map_map]
      · rw[<-eK];simp(disch:=first|omega|simp only[DI.ak];omega) [-O,-U,-N,-S,-List.map_map]
      · simp(disch:=first|omega|simp only[DI.ak];omega) [-O,-U,-N,-S,-List.map_map];try omega
      · intro b hb dH;rw[<-hr]at dH;simp(disch:=first|omega|simp only[DI.ak];omega) [-O,-U,-N,-S,-List.map_map]
      have vc:dh 17=Z i:=vb.trans (by simp[gd]);simp(disch:=first|omega|simp only[DI.ak];omega) [vc,b7,-O,-U,-N,-S,-List.map_map];refine bk _ _ ⟨_,_,_,kE.jW (by simp) (ey (d:=0) (λ_=>by simp) (λ_=>by simp) (λ_=>by simp) (λ_=>by simp) (λ_=>by simp) (λ_=>by simp)),by simp,λaJ=> ?_,λaJ=>wM _ pV aJ⟩;obtain⟨aQ,a8⟩:=Ex _ pV aJ;refine⟨kC,?_,?_,u5 G fi a8⟩
      · rw[<-eK,cS,lY,uL,<-mF (f:=(·.name)) G]
      · rw[<-mF (f:=(·.name)) G,tl,l1,<-cS];exact aQ
    have aiK:(0:Int)<gA.length:=(by omega);have aiL:0<gA.length:=(by omega);have Pb:gA.isEmpty=false:=by
      cases bf:gA.isEmpty
      · rfl
      · rw[NM]at bf;exact absurd bf JI
    have pV:true=aV:=(by rw[cC];simp[a3,da,dq,Pb]);simp(disch:=first|omega|simp only[DI.ak];omega) [vH,xC,xD,xE,xF,aS,eY,iD,bb,b1,gd,fO,aO,bX,bU,eh,a3,da,dq,aiL,-O,-U,-N,-S,-List.map_map];refine Hu h (x:=⟨eG,k,m,q,⟨a,b,c,d,e⟩,gA,jt,⟨gC,r7,nK⟩,⟨ax,az,hb⟩⟩) (q:=t.next+5) (e4.step af 6 (c8:=true) (o:=t.next+7) (by decide) (by decide) (n:=1) (h5:=[eG]) rfl (ey (d:=6) ?_ ?_ ?_ ?_ ?_ ?_) ?_ ?_ ?_ (.inr (by omega)) ?_ ?_) m9 (by simp(disch:=first|omega|simp only[DI.ak];omega) [eY,-O,-U,-N,-S,-List.map_map]) (by simp) (by simp) λdh kE vb=> ?_;any_goals(intro aA;first|(exact absurd rfl aA)|(simp;done))
    · simp(disch:=first|omega|simp only[DI.ak];omega) [-O,-U,-N,-S,-List.map_map]
    · rw[<-eK];simp(disch:=first|omega|simp only[DI.ak];omega) [-O,-U,-N,-S,-List.map_map]
    · rw[<-eK];simp(disch:=first|omega|simp only[DI.ak];omega) [-O,-U,-N,-S,-List.map_map]
    · simp(disch:=first|omega|simp only[DI.ak];omega) [-O,-U,-N,-S,-List.map_map];try omega
    · intro b hb dH;rw[<-hr]at dH;simp(disch:=first|omega|simp only[DI.ak];omega) [-O,-U,-N,-S,-List.map_map]
    have vc:dh 17=Z i:=vb.trans (by simp[gd]);simp(disch:=first|omega|simp only[DI.ak];omega) [vc,b7,-O,-U,-N,-S,-List.map_map];refine bk _ _ ⟨_,_,_,kE.jW (by simp) (ey (d:=0) (λ_=>by simp) (λ_=>by simp) (λ_=>by simp) (λ_=>by simp) (λ_=>by simp) (λ_=>by simp)),by simp,λaJ=> ?_,λaJ=>wM _ pV aJ⟩;obtain⟨aQ,a8⟩:=Ex _ pV aJ;refine⟨kC,?_,?_,u5 G fi a8⟩
    · rw[<-eK,cS,lY,uL,<-mF (f:=(·.name)) G]
    · rw[<-mF (f:=(·.name)) G,tl,l1,<-cS];exact aQ
  · rintro z t ⟨c4,b8,b,af,gd,im,lk⟩;rw[mJ]at im;have bb:=af.bb;have b1:=af.b1;have aO:=af.aO;have fq:=bm aO;have nT:T=b:=by
      cases b
      · exact lk rfl
      · obtain⟨bw,_,bJ,cc⟩:=im rfl;rw[df,bw,bJ,cc];rfl
    have ee: ¬(((u.cx.length:Nat):Int)<u.cx.length):=(by omega);cases b
    all_goals
      simp(disch:=first|omega|simp only[DI.ak];omega) [vH,xC,xD,xE,xF,aS,bb,gd,aO,ee,-O,-U,-N,-S,-List.map_map];exact bY _ _ c4 b8 (by rw[nT];exact(af.jW (by simp) (ey (d:=0) (λ_=>by simp) (λ_=>by simp) (λ_=>by simp) (λ_=>by simp) (λ_=>by simp) (λ_=>by simp)))) (λaJ=>by rw[nT]at aJ;exact(im aJ).2.1)
  · funext k;by_cases e:k=6
    · subst e;simp
    · rw[nf e]
theorem aw4{x:eF}(c5:0<=x.n):(x.ok&&decide (nD x .nil=0))=(x.small&& !decide (0<x.n)):=by
  simp only[eF.ok,eF.small,sf,adX c5];by_cases bL:x.n=0
  · simp[bL]
  · have:0<x.n:=(by omega);simp[bL,this]
theorem e4.wV{u:bl}{b c8:Bool}{c4:Nat->Nat}{b8:Nat->List ByteArray}{z aj:aP}{t aT:W}(h:e4 u b c4 b8 z t)(hz:aj 8= .bool c8)(M: ∀k∈ld,aj k=z k)(bt: ∀o,o<t.next->aT.Y o=t.Y o):e4 u c8 c4 b8 aj aT:=by obtain⟨a7,bD,b4,e0,fT,nF,awu⟩:=h.Vt hz M;exact⟨a7,bD,(bt _ (bm b4)).trans b4,e0,λk a b=>(bt _ (bm (fT k a b))).trans (fT k a b),nF,awu⟩
theorem aeM{a b c d e f:Nat}:rg a b c d e f=(decide (a<=4)&&(decide (b<=4)&&(decide (c<=40)&&(decide (d<=24)&&(decide (e<=4)&&decide (f<=12)))))):=by
  unfold rg;congr 1
  · exact decide_eq_decide.2 (by omega)
  congr 1
  · exact decide_eq_decide.2 (by omega)
  congr 1
  · exact decide_eq_decide.2 (by omega)
  congr 1
  · exact decide_eq_decide.2 (by omega)
  congr 1
  · exact decide_eq_decide.2 (by omega)
  · exact decide_eq_decide.2 (by omega)
theorem yd{z aj:aP}(D:aj 1=z 1)(aq:aj 3=z 3)(aF:aj 4=z 4)(br:aj 5=z 5)(cR:aj 6=z 6)(fs:aj 7=z 7): ∀k∈ld,aj k=z k:= λk aa=>by simp only[ld,g6,iG,or_false]at aa;rcases aa with rfl|rfl|rfl|rfl|rfl|rfl<;>assumption
theorem axy{u:bl}(h:bl.fN u){R:gj}(fA:u.a0[0]?=some R){b:Bool}{c4:Nat->Nat}{b8:Nat->List ByteArray}{z:aP}{t:W}(af:e4 u b c4 b8 z t){Q:dy->aP->W->Prop}
    (H: ∀aj aT,e4 u (b&&nG R) c4 b8 aj aT->iU (P:=al) ⟨[rf,C7,C8,ya],[]⟩ Cx aj aT Q):iU (P:=al) ⟨[rf,C7,C8,ya],[]⟩ mv z t Q:=by
  have nr:0<u.a0.length:=(ek.1 fA).1;have ov:(0:Int)<u.a0.length:=by omega
  have nV:=(ek.1 fA).2;have L6:R.nJ.cV:=h.a0 R (hR fA);have bb:=af.bb;have b1:=af.b1;have aO:=af.aO;have fq:=bm aO;have ab:=aw4 (x:=R.nJ.bA) (bT.avU L6);obtain⟨SJ,SI,SN,SQ,⟨Au,Ar,As⟩⟩:=R;simp only at L6 ab
  replace H: ∀aj aT,∀{v:Bool},e4 u v c4 b8 aj aT->(b&&(decide (SJ=⟨#[]⟩)&&(decide (SI=0)&&(decide (SN= -1)&&(decide (SQ=0)&&((bT.mk Au Ar As).bA.ok&&decide (nD (bT.mk Au Ar As).bA .nil=0)))))))=v->iU (P:=al) ⟨[rf,C7,C8,ya],[]⟩ Cx aj aT Q:= λaj aT v vr e=>H aj aT (by have:(b&&nG ⟨SJ,SI,SN,SQ,⟨Au,Ar,As⟩⟩)=v:=(by rw[<-e,ab];rfl);rw[this];exact vr)
  cases b
  · skip
    simp(disch:=first|omega|simp only[DI.ak];omega) [mv,mY,mY,mv,aS,dU,bb,b1,aO,nr,nV,-O,-U,-N,-S,-List.map_map];exact H _ _ (af.wV (c8:=false) (by simp) (yd (by simp) (by simp) (by simp) (by simp) (by simp) (by simp)) (λo aD=>by simp(disch:=first|omega|simp only[DI.ak];omega) [-O,-U,-N,-S,-List.map_map])) rfl
  by_cases bN:SJ=⟨#[]⟩
  case neg=>simp(disch:=first|omega|simp only[DI.ak];omega) [mv,mY,mY,mv,aS,dU,bb,b1,aO,nr,nV,bN,-O,-U,-N,-S,-List.map_map];exact H _ _ (af.wV (c8:=false) (by simp) (yd (by simp) (by simp) (by simp) (by simp) (by simp) (by simp)) (λo aD=>by simp(disch:=first|omega|simp only[DI.ak];omega) [-O,-U,-N,-S,-List.map_map])) (by simp[bN])
  by_cases cI:SI=0
  case neg=>simp(disch:=first|omega|simp only[DI.ak];omega) [mv,mY,mY,mv,aS,dU,bb,b1,aO,nr,nV,bN,cI,-O,-U,-N,-S,-List.map_map];exact H _ _ (af.wV (c8:=false) (by simp) (yd (by simp) (by simp) (by simp) (by simp) (by simp) (by simp)) (λo aD=>by simp(disch:=first|omega|simp only[DI.ak];omega) [-O,-U,-N,-S,-List.map_map])) (by simp[bN,cI])
  by_cases hq:SN= -1
  case neg=>simp(disch:=first|omega|simp only[DI.ak];omega) [mv,mY,mY,mv,aS,dU,bb,b1,aO,nr,nV,bN,cI,hq,-O,-U,-N,-S,-List.map_map];exact H _ _ (af.wV (c8:=false) (by simp) (yd (by simp) (by simp) (by simp) (by simp) (by simp) (by simp)) (λo aD=>by simp(disch:=first|omega|simp only[DI.ak];omega) [-O,-U,-N,-S,-List.map_map])) (by simp[bN,cI,hq])
  by_cases iH:SQ=0
  case neg=>simp(disch:=first|omega|simp only[DI.ak];omega) [mv,mY,mY,mv,aS,dU,bb,b1,aO,nr,nV,bN,cI,hq,iH,-O,-U,-N,-S,-List.map_map];exact H _ _ (af.wV (c8:=false) (by simp) (yd (by simp) (by simp) (by simp) (by simp) (by simp) (by simp)) (λo aD=>by simp(disch:=first|omega|simp only[DI.ak];omega) [-O,-U,-N,-S,-List.map_map])) (by simp[bN,cI,hq,iH])
  cases lS:(bT.mk Au Ar As).bA.ok
  · skip
    simp(disch:=first|omega|simp only[DI.ak];omega) [mv,mY,mY,mv,aS,dU,bb,b1,aO,nr,nV,bN,cI,hq,iH,lS,-O,-U,-N,-S,-List.map_map];exact H _ _ (af.wV (c8:=false) (by simp) (yd (by simp) (by simp) (by simp) (by simp) (by simp) (by simp)) (λo aD=>by simp(disch:=first|omega|simp only[DI.ak];omega) [-O,-U,-N,-S,-List.map_map])) (by simp[bN,cI,hq,iH,lS])
  have aa:(bT.mk Au Ar As).cV/\(bT.mk Au Ar As).bA.ok=true:=⟨L6,lS⟩;by_cases pP:nD (bT.mk Au Ar As).bA .nil=0
  case neg=>simp(disch:=first|omega|simp only[DI.ak];omega) [mv,mY,mY,mv,aS,dU,bb,b1,aO,nr,nV,bN,cI,hq,iH,lS,pP,-O,-U,-N,-S,-List.map_map];exact H _ _ (af.wV (c8:=false) (by simp) (yd (by simp) (by simp) (by simp) (by simp) (by simp) (by simp)) (λo aD=>by simp(disch:=first|omega|simp only[DI.ak];omega) [-O,-U,-N,-S,-List.map_map])) (by simp[bN,cI,hq,iH,lS,pP])
  simp(disch:=first|omega|simp only[DI.ak];omega) [mv,mY,mY,mv,aS,dU,bb,b1,aO,nr,nV,bN,cI,hq,iH,lS,pP,-O,-U,-N,-S,-List.map_map];exact H _ _ (af.wV (c8:=true) (by simp) (yd (by simp) (by simp) (by simp) (by simp) (by simp) (by simp)) (λo aD=>by simp(disch:=first|omega|simp only[DI.ak];omega) [-O,-U,-N,-S,-List.map_map])) (by simp[bN,cI,hq,iH,lS,pP])
theorem aeB{u:bl}(h:bl.fN u):bH al 87 [.agg (aS u).toArray] (.bool (gf u)):=by
  refine ed (dL (aB:=⟨[rf,C7,C8,ya],[]⟩) atT (by kernel_rfl) (by simp[Cw]) ?_);cases D:dB u.ext 1 4
  · have aY:gf u=false:=(by simp[gf,D]);simp(disch:=first|omega|simp only[DI.ak];omega) [Cw,GO,GP,LB,LH,LI,LJ,mv,mY,Cx,Lz,LA,LF,LG,aS,D,aY,-O,-U,-N,-S,-List.map_map]
  cases H:rg u.cB.length u.bc.length u.a0.length u.a2.length u.cx.length u.cb.length
  · have aY:gf u=false:=by
      rw[aeM]at H;unfold gf;rw[D];cases bf:(decide (u.cB.length<=4)&&(decide (u.bc.length<=4)&&(decide (u.a0.length<=40)&&(decide (u.a2.length<=24)&&(decide (u.cx.length<=4)&&decide (u.cb.length<=12))))))
      · simp only[sf,wA,decide_eq_false_iff_not]at bf⊢;rcases bf with bf|bf|bf|bf|bf|bf<;>simp[bf]
      · rw[bf]at H;cases H
    simp(disch:=first|omega|simp only[DI.ak];omega) [Cw,GO,GP,LB,LH,LI,LJ,mv,mY,Cx,Lz,LA,LF,LG,aS,D,H,aY,-O,-U,-N,-S,-List.map_map]
  cases iq:u.a0 with
  | nil=>have ll:(u.a0.length:Int)=0:=(by rw[iq];rfl);have qS:u.a0.length=0:=(by rw[iq];rfl);have aY:gf u=false:=(by simp[gf,iq,nn]);have sA:rg u.cB.length u.bc.length 0 u.a2.length u.cx.length u.cb.length=true:=(by rw[<-ll];exact H);simp(disch:=first|omega|simp only[DI.ak];omega) [Cw,GO,GP,aS,D,sA,aY,qS,-O,-U,-N,-S,-List.map_map]
  |cons R ds=>
  have ll: ¬(u.a0.length:Int)=0:=by rw[iq];simp;omega
  have qS: ¬u.a0.length=0:=by rw[iq];simp
  have ov:(0:Int)<u.a0.length:=by omega
  have nr:0<u.a0.length:=by omega
  have L6:R.nJ.cV:=h.a0 R (by rw[iq];simp);have fA:u.a0[0]?=some R:=by rw[iq];rfl
  have nV:=(ek.1 fA).2;simp(disch:=first|omega|simp only[DI.ak];omega) [Cw,GO,GP,LB,LH,LI,aS,D,H,qS,-O,-U,-N,-S,-List.map_map];refine afA (u:=u) (by simp) (by simp) (by simp) (by simp) (by simp) (by simp) (by simp) (by simp(disch:=first|omega|simp only[DI.ak];omega) [aS,-O,-U,-N,-S,-List.map_map]) λz t c4 af aa=> ?_;refine axq h af (λ_=>by simp) (λ_=>H4) ((aa 9 (by decide)).trans (by simp)) λz t c4 b8 af hb=> ?_;obtain⟨c8,aL⟩: ∃b,b=(true&&(ej ([]++u.cB.map (·.name))&&u.cB.all hS.l6)):=⟨_,rfl⟩;rw[<-aL]at af hb;simp(disch:=first|omega|simp only[DI.ak];omega) [LJ,-O,-U,-N,-S,-List.map_map];refine axr h (af.jW (by simp) (ey (d:=0) (λ_=>by simp) (λ_=>by simp) (λ_=>by simp) (λ_=>by simp) (λ_=>by simp) (λ_=>by simp))) (λaJ=>by rw[hb aJ];simp[dK]) (λaJ=>by rw[hb aJ];simp[dK,H4]) (by simp) λz t c4 z6 af ft=> ?_;obtain⟨dX,aU⟩: ∃b,b=(c8&&(ej (b8 4++u.bc.map (·.name))&&u.bc.all (kq u.cB.length))):=⟨_,rfl⟩;rw[<-aU]at af ft;have hk:dX=true->c8=true:= λaJ=>by rw[aU,aX]at aJ;exact aJ.1
  replace ft:dX=true->z6=dK (dK (λ_=>[]) 3 (u.cB.map (·.name))) 4 (u.bc.map (·.name)):= λaJ=>by rw[ft aJ,hb (hk aJ)];simp[dK]
  replace aU:dX=(c8&&(ej (u.bc.map (·.name))&&u.bc.all (kq u.cB.length))):=by
    cases bf:c8
    · rw[aU,bf];rfl
    · rw[aU,bf,hb bf];simp[dK]
  clear hb;refine axy h fA af λz t af=> ?_;obtain⟨gl,cz⟩: ∃b,b=(dX&&nG R):=⟨_,rfl⟩;rw[<-cz]at af;have iO:gl=true->dX=true:= λaJ=>by rw[cz,aX]at aJ;exact aJ.1
  simp(disch:=first|omega|simp only[DI.ak];omega) [Cx,-O,-U,-N,-S,-List.map_map];refine axs h iq (af.jW (by simp) (ey (d:=0) (λ_=>by simp) (λ_=>by simp) (λ_=>by simp) (λ_=>by simp) (λ_=>by simp) (λ_=>by simp))) (λaJ=>by rw[ft (iO aJ)];simp[dK]) (λaJ=>by rw[ft (iO aJ)];simp[dK,H4]) (by simp) λz t c4 b8 af hb=> ?_;obtain⟨gm,gR⟩: ∃b,b=(gl&&(ej (z6 5++ds.map (·.name))&&uK u.a0 ds)):=⟨_,rfl⟩;rw[<-gR]at af hb;have vM:gm=true->gl=true:= λaJ=>by rw[gR,aX]at aJ;exact aJ.1
  replace hb:gm=true->b8=dK (dK (dK (λ_=>[]) 3 (u.cB.map (·.name))) 4 (u.bc.map (·.name))) 5 (ds.map (·.name)):= λaJ=>by rw[hb aJ,ft (iO (vM aJ))];simp[dK]
  replace gR:gm=(gl&&(ej (ds.map (·.name))&&uK u.a0 ds)):=by
    cases bf:gl
    · rw[gR,bf];rfl
    · rw[gR,bf,ft (iO bf)];simp[dK]
  have Np:gm=true->ej (ds.map (·.name))=true:= λaJ=>by rw[gR]at aJ;simp only[aX]at aJ;exact aJ.2.1
  clear ft;simp(disch:=first|omega|simp only[DI.ak];omega) [Lz,-O,-U,-N,-S,-List.map_map];refine axt h (af.jW (by simp) (ey (d:=0) (λ_=>by simp) (λ_=>by simp) (λ_=>by simp) (λ_=>by simp) (λ_=>by simp) (λ_=>by simp))) (λaJ=>by rw[hb aJ];have:=h.kr;rw[iq]at this;simp[dK]at this⊢;omega) (λaJ=>by rw[hb aJ];simpa[dK]using Np aJ) (by simp) λz t c4 z6 af ft=> ?_;obtain⟨lg,mh⟩: ∃b,b=(gm&&(ej (b8 5++u.a2.map (·.name))&&u.a2.all (kf u.bc.length u.a0))):=⟨_,rfl⟩;rw[<-mh]at af ft;have z0:lg=true->gm=true:= λaJ=>by rw[mh,aX]at aJ;exact aJ.1
  replace ft:lg=true->z6 6=[]/\z6 7=[]:= λaJ=>by rw[ft aJ,hb (z0 aJ)];simp[dK]
  replace mh:lg=(gm&&(ej (ds.map (·.name)++u.a2.map (·.name))&&u.a2.all (kf u.bc.length u.a0))):=by
    cases bf:gm
    · rw[mh,bf];rfl
    · rw[mh,bf,hb bf];simp[dK]
  clear hb;simp(disch:=first|omega|simp only[DI.ak];omega) [LA,-O,-U,-N,-S,-List.map_map];refine axw h (af.jW (by simp) (ey (d:=0) (λ_=>by simp) (λ_=>by simp) (λ_=>by simp) (λ_=>by simp) (λ_=>by simp) (λ_=>by simp))) (λaJ=>by rw[(ft aJ).1];simp) (λaJ=>by rw[(ft aJ).1];exact H4) (by simp) λz t c4 b8 af hb=> ?_;obtain⟨lh,kg⟩: ∃b,b=(lg&&(ej (z6 6++u.cx.map (·.name))&&u.cx.all (ib · u.bc.length))):=⟨_,rfl⟩;rw[<-kg]at af hb;have ui:lh=true->lg=true:= λaJ=>by rw[kg,aX]at aJ;exact aJ.1
  replace hb:lh=true->b8 7=[]:= λaJ=>by rw[hb aJ,nf (by decide),(ft (ui aJ)).2]
  replace kg:lh=(lg&&(ej (u.cx.map (·.name))&&u.cx.all (ib · u.bc.length))):=by
    cases bf:lg
    · rw[kg,bf];rfl
    · rw[kg,bf,(ft bf).1];rfl
  clear ft;simp(disch:=first|omega|simp only[DI.ak];omega) [LF,-O,-U,-N,-S,-List.map_map];refine axx h (af.jW (by simp) (ey (d:=0) (λ_=>by simp) (λ_=>by simp) (λ_=>by simp) (λ_=>by simp) (λ_=>by simp) (λ_=>by simp))) (λaJ=>by rw[hb aJ];simp) (λaJ=>by rw[hb aJ];exact H4) (by simp) λz t c4 z6 af ft=> ?_;obtain⟨qC,qH⟩: ∃b,b=(lh&&(ej (b8 7++u.cb.map (·.name))&&u.cb.all (ng u.cx.length))):=⟨_,rfl⟩;rw[<-qH]at af
  replace qH:qC=(lh&&(ej (u.cb.map (·.name))&&u.cb.all (ng u.cx.length))):=by
    cases bf:lh
    · rw[qH,bf];rfl
    · rw[qH,bf,hb bf];rfl
  have aY:gf u=qC:=by
    rw[aeM]at H;simp only[aX,eM]at H;obtain⟨tq,Ur,sb,tr,n9,sc⟩:=H;have aA:nn u.a0=(nG R&&uK u.a0 ds):=(by rw[iq];rfl);have bt:u.a0.tail=ds:=(by rw[iq];rfl);rw[Bool.eq_iff_iff];unfold gf;simp only[D,tq,Ur,sb,tr,n9,sc,aA,bt,decide_true,sf];rw[qH,kg,mh,gR,cz,aU,aL];simp only[aX,uT,sf];constructor
    · rintro⟨⟨bw,bJ⟩,cc,eI,fp,hv,jx,lf,tH,c8,dX,gl⟩;refine⟨⟨⟨⟨⟨⟨⟨lf,cc⟩,tH,eI⟩,bw⟩,?_,bJ⟩,c8,fp⟩,dX,hv⟩,gl,jx⟩;exact afi c8
    · rintro⟨⟨⟨⟨⟨⟨⟨lf,cc⟩,tH,eI⟩,bw⟩,_,bJ⟩,c8,fp⟩,dX,hv⟩,gl,jx⟩;exact⟨⟨bw,bJ⟩,cc,eI,fp,hv,jx,lf,tH,c8,dX,gl⟩
  have b1:=af.b1;simp(disch:=first|omega|simp only[DI.ak];omega) [LG,aY,b1,-O,-U,-N,-S,-List.map_map]
noncomputable def uH(u:bl)(h:bl.fN u):bz al:= .dM 87 Unit (λ_=>True) (λ_=>[.agg (aS u).toArray]) (λ_=> .bool (gf u)) λ_ _=>aeB h
@[simp] theorem aJQ{u:bl}{h:bl.fN u}:(uH u h).f=87:=rfl
@[simp] theorem aJR{u:bl}{h:bl.fN u}:(uH u h).fn [.agg #[Z u.ext,au (u.cB.map gF) 4,au (u.bc.map gK) 4,au (u.a0.map dU) 7,au (u.a2.map gn) 3,au (u.cx.map eY) 17,au (u.cb.map g0) 2]]=some (.bool (gf u)):=bz.eu (x:=()) trivial λ_ _=>rfl
theorem axA{u:bl}(h:bl.fN u):bH al 66 [.agg (aS u).toArray] (Z (if gf u then 0 else 1)):=by
  refine ed (dL (aB:=⟨[uH u h],[]⟩) aso (by kernel_rfl) (by simp[Ls]) ?_);cases ab:gf u
  · simp(disch:=first|omega|simp only[DI.ak];omega) [Ls,RD,RE,RF,aS,ab,-O,-U,-N,-S,-List.map_map]
  · simp(disch:=first|omega|simp only[DI.ak];omega) [Ls,RD,RE,RF,aS,ab,-O,-U,-N,-S,-List.map_map]
end Go.Proofs.YtmmkkggfmigppaaGreat
