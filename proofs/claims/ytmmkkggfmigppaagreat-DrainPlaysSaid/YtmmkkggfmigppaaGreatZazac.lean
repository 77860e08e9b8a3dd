/-
  A part of the proof, shortened by tools of ours.
-/
import Derived.Test.YtmmkkggfmigppaaGreatZazab
set_option linter.all false
set_option maxRecDepth 8000
set_option maxHeartbeats 16000000
namespace Go.Proofs.YtmmkkggfmigppaaGreat
open Go Go.DI Go.hR
structure Jb(n:dH)(v:Value)(aj:List Int)(cL nb eh dO bk:Nat)(pL m:H):Prop where
 mR:fx pL m
 nb:m.I nb=some ⟨ma n v,true⟩
 cL: ∃ej,m.I cL=some ⟨aj.map (Value.int .i64 ·),ej⟩
 bk:bk<=m.next
structure aeq(cL nb eh dO bk:Nat)(pL:H):Prop where
 a:pL.next<=nb/\pL.next<=eh/\pL.next<=dO/\cL<pL.next
 b:nb<bk/\eh<bk/\dO<bk/\pL.next<=bk
 c:nb≠eh/\nb≠dO
set_option maxRecDepth 20000 in
theorem aoY{n:dH}(ch:n.iN){aA:Nat}(eH:n.dQ=aA){v:Value}{aj:List Int}(dJ:aj.length=n.bp.length){cL nb eh dO bk:Nat}{pL:H}(az:aeq cL nb eh dO bk pL)(M:m0 pL v n.bp){x:Int}{Q:cM->aC->H->Prop}:
 ∀(r i:Nat) (m:H) (z:aC) (gJ off:Nat) (iV:List Value) (q:List Int) (cb:Int->Bool) (dT:Int->Int),i+r=n.bp.length->Jb n v aj cL nb eh dO bk pL m->bk<=gJ->xV aA eh dO gJ off iV q cb dT m->q.length+m3 cb aA<=701->
 lx n aj cb (λx=>lZ n.bp.length (dT x)) (x::q)->(∀e:hz,e.1<i->0<cN n aj e->gC n e=x->cb (hX n e)=true)->
 z 1= .slice (some ⟨cL,0,none⟩) aj.length 1->z 2=bH nb->z 6= .slice (some ⟨dO,0,none⟩) aA 1->z 7= .slice (some ⟨eh,0,none⟩) aA 1->z 8= .slice (some ⟨gJ,off,none⟩) q.length 1->z 9=E x->z 10=E i->
 (∀K U mc o9 rU new jr kY,Jb n v aj cL nb eh dO bk pL U->bk<=mc->xV aA eh dO mc o9 rU (q++new) jr kY U->new.length+m3 jr aA=m3 cb aA->lx n aj jr (λx=>lZ n.bp.length (kY x)) (x::(q++new))->(∀e:hz,e.1<n.bp.length->0<cN n aj e->gC n e=x->jr (hX n e)=true)->
  (∀t,t<8->K t=z t)->K 8= .slice (some ⟨mc,o9,none⟩) (q++new).length 1->Q (.cH 2) K U)->fG N (.loop X8) z m Q
 | 0,i,m,z,gJ,off,iV,q,cb,dT,W,dh,oG,c0,yq,b9,aV,aU,bS,bB,ca,bl,cP,e4,bb=>by refine j7 λbM a1=> ?_;have A: ¬i<n.bp.length:=(by omega);have hT:=dh.nb;obtain⟨di,gO⟩:=M.len;simp(disch:=first|omega|simp only[bE];omega) [ai6,bS,e4,hT,di,gO,A];exact bb _ _ gJ off iV [] cb dT dh oG (by simpa using c0) (by simp) (by simpa using b9) (λe aQ=>aV e (by omega)) (λt ba=>by simp(disch:=omega) only[me]) (by simp[bl])
 | r+1,i,m,z,gJ,off,iV,q,cb,dT,W,dh,oG,c0,yq,b9,aV,aU,bS,bB,ca,bl,cP,e4,bb=>by
   refine j7 λbM a1=> ?_;have A:i<n.bp.length:=(by omega);obtain⟨a,aa⟩: ∃a,n.bp[i]?=some a:=⟨n.bp[i]'A,by simp⟩;obtain⟨bc,en⟩: ∃bc,aj[i]?=some bc:=⟨aj[i]'(by omega),by simp⟩;obtain⟨aOY,aOZ,aO0,aO1⟩:=az.a;obtain⟨aO4,aO5,aO6,aO7⟩:=az.b;obtain⟨Wy,Wz⟩:=az.c;have n5:=dh;obtain⟨p3,hT,⟨ej,eZ⟩,lE⟩:=n5;have avV:=M.len;obtain⟨c,o,rfl,ar⟩:=M.hI A;have ju:=p3.some ar;have avq:i*4+4<=n.bp.length*4:=(by omega);have ji:=Bb aa;have yB:=aM ju;have lG:=aM eZ;have br:=fz (n:=i) (by have:=ch.sh;omega);simp(disch:=first|omega|simp only[bE];omega) [ai6,bS,e4,hT,ju,A,avq,ji,gL];have Cu: ∀b y,m.I b=some y->((m.b0 7).aO (m.next+5) (some ⟨[E a.f,E a.t,E a.c,E a.k],true⟩)).I b=some y:= λb y hb=>by have:=aM hb;rw[a7 (by omega),cJ this,hb]
   obtain⟨pd,Tz,TE,abT,Nk,abF,abG,abH⟩:=id c0;have aao:=aM TE;have aak:=aM pd;have aal:=aM Tz;refine azE ch eH (cL:=cL) (jC:=m.next+5) (bk:=bk) aa en ⟨Cu _ _ pd,Cu _ _ Tz,Cu _ _ TE,abT,Nk,abF,abG,abH⟩ b9 oG (by simp only[eJ,fp];omega) (by omega) (cx (by simp)) (Cu _ _ eZ) (by omega) (by omega) (by omega) (by omega) (by omega) (by omega) (by simp[aU]) (by simp[bB]) (by simp[ca]) (by simp[bl]) (by simp[cP]) (by simp[e4]) (by simp) (λbQ bn abo aSc aSL anx aG4 aM9 aD aJ cg gA jj l0 oB lC ru pA afT=> ?_);simp only[eJ,fp]at lC ru afT;simp only[NX];have bK: ∀b,b<m.next->b≠eh->b≠dO->b≠gJ->bn.I b=m.I b:= λb hb D ai aT=>by rw[lC b (by omega) D ai aT,a7 (by omega),cJ hb]
   have VY:bn.I nb=some ⟨ma n (.slice (some ⟨c,0,none⟩) n.bp.length 4),true⟩:=(by rw[bK nb (aM hT) Wy Wz (by omega)];exact hT);have agE:bn.I cL=some ⟨aj.map (Value.int .i64 ·),ej⟩:=(by rw[bK cL lG (by omega) (by omega) (by omega)];exact eZ);have zK:bn.I (m.next+5)=some ⟨gL a,true⟩:=(by rw[lC _ (by omega) (by omega) (by omega) (by omega)];exact cx (by simp));obtain⟨aMu,aMv,aMw,aMx,aMy,aMC,aMD,aME⟩:=id cg;have awm:m.next+5≠abo:=by rcases afT with h|h<;>omega
   have aPk:abo<bk\/bk<=abo:=(by omega);refine azF ch eH (cL:=cL) (jC:=m.next+5) (bk:=bk) (nb:=nb) (v:= .slice (some ⟨c,0,none⟩) n.bp.length 4) aa en cg gA pA (by omega) (by simp;omega) zK agE (by omega) (by omega) awm (by omega) (by omega) (by omega) VY avV Wz Wy (by omega) (by rw[aD 1 (by omega) (by omega)];simp[aU]) (by rw[aD 6 (by omega) (by omega)];simp[bB]) (by rw[aD 7 (by omega) (by omega)];simp[ca]) aJ (by rw[aD 9 (by omega) (by omega)];simp[cP]) (by rw[aD 10 (by omega) (by omega)];simp[e4]) (by rw[aD 11 (by omega) (by omega)];simp) (by rw[aD 2 (by omega) (by omega)];simp[bS]) (λc6 cI aEA aDz aEB anz apo asw eD eS gN f4 f5 Po DH Bp f9 VK aga=> ?_);have abq: ∀t,t<45->t≠8->c6 t=bQ t:= λt ba g1=>eD t (by omega) g1;have aEm:c6 10=E i:=(by rw[abq 10 (by omega) (by omega),aD 10 (by omega) (by omega)];simp[e4]);have yW: ∀t,t<8->c6 t=z t:= λt ba=>by rw[abq t (by omega) (by omega),aD t (by omega) (by omega)];simp(disch:=omega) only[me]
   have abn:c6 9=E x:=(by rw[abq 9 (by omega) (by omega),aD 9 (by omega) (by omega)];simp[cP]);simp(disch:=omega) [aEm,br];have J9:Jb n (.slice (some ⟨c,0,none⟩) n.bp.length 4) aj cL nb eh dO bk pL cI:=by
    refine⟨⟨by have:=p3.next;omega,λb hb=> ?_⟩,?_,⟨ej,?_⟩,by omega⟩
    ·have:=p3.next
     rw[Bp b (by omega) (by omega) (by omega) (by omega),bK b (by omega) (by omega) (by omega) (by omega)];exact p3.I b hb
    ·rw[Bp nb (by have:=aM VY;omega) Wy Wz (by omega)];exact VY
    ·rw[Bp cL (by omega) (by omega) (by omega) (by omega)];exact agE
   refine a1 _ _ (aoY ch eH dJ az M r (i+1) cI _ aEA aDz aEB (q++anx++anz) apo asw (by omega) J9 VK gN (by simp;omega) f4 (λe aQ al B=> ?_) (by simp[yW 1 (by omega),aU]) (by simp[yW 2 (by omega),bS]) (by simp[yW 6 (by omega),bB]) (by simp[yW 7 (by omega),ca]) (by simp[eS]) (by simp[abn]) (by simp) (λK U mc o9 rU aDg jr kY aE a2 cj dy fB fb ja qC=>bb K U mc o9 rU (anx++anz++aDg) jr kY aE a2 (by simpa using cj) (by simp;omega) (by simpa using fB) fb (λt ba=> ?_) (by simpa using qC)))
   ·by_cases ahb:e.1<i
    ·exact Po _ (l0 _ (aV e ahb al B))
    ·obtain⟨j,ass⟩:=e;simp only at aQ ahb;obtain rfl:j=i:=(by omega);cases ass
     ·exact DH al B
     ·exact Po _ (oB al B)
   ·rw[ja t ba];simp(disch:=omega) only[me];exact yW t ba
set_option maxRecDepth 20000 in
theorem aFs{n:dH}(ch:n.iN){aA:Nat}(eH:n.dQ=aA){v:Value}{aj:List Int}(dJ:aj.length=n.bp.length){cL nb eh dO bk:Nat}{pL:H}(az:aeq cL nb eh dO bk pL)(M:m0 pL v n.bp){Q:cM->aC->H->Prop}:
 ∀(k:Nat) (m:H) (z:aC) (gJ off:Nat) (iV:List Value) (q:List Int) (cb:Int->Bool) (dT:Int->Int),q.length+m3 cb aA=k->k<=701->Jb n v aj cL nb eh dO bk pL m->bk<=gJ->xV aA eh dO gJ off iV q cb dT m->
 lx n aj cb (λx=>lZ n.bp.length (dT x)) q->z 1= .slice (some ⟨cL,0,none⟩) aj.length 1->z 2=bH nb->z 6= .slice (some ⟨dO,0,none⟩) aA 1->z 7= .slice (some ⟨eh,0,none⟩) aA 1->z 8= .slice (some ⟨gJ,off,none⟩) q.length 1->
 (∀K U jr kY,Jb n v aj cL nb eh dO bk pL U->U.I eh=some ⟨jM aA kY,true⟩->U.I dO=some ⟨kq aA jr,true⟩->lx n aj jr (λx=>lZ n.bp.length (kY x)) []->(∀t,t<8->K t=z t)->Q (.cH 0) K U)->fG N (.loop K5) z m Q:=by
 intro k;induction k with
 | zero=>intro m z gJ off iV q cb dT S Ww dh oG c0 b9 aU bS bB ca bl bb;have bo:q=[]:=r6.1 (by omega);subst bo;refine j7 λbM a1=> ?_;simp[K5,bl];exact bb _ _ cb dT dh c0.b c0.e b9 (λt ba=>by simp(disch:=omega) only[me])
 | succ k cf=>
   intro m z gJ off iV q cb dT S Ww dh oG c0 b9 aU bS bB ca bl bb;refine j7 λbM a1=> ?_;cases q with
   | nil=>simp[K5,bl];exact bb _ _ cb dT dh c0.b c0.e b9 (λt ba=>by simp(disch:=omega) only[me])
   | cons bf q=>
     have n7:=c0.aou;have yq:=c0.yW;have z2:=c0.abp;simp only[mC]at yq n7 bl S;have KC:iV[off]?=some (E bf):=(by have:=congrArg (λl=>l[0]?) n7;simp at this;exact this);have WX: ∀h,iV[off]'h=E bf:= λh=>by rw[c1 h]at KC;simpa using KC
     have a8:off+1<=iV.length:=(by omega);have bV:off<iV.length:=(by omega);have hY:(1:Int)<=(q.length:Int)+1:=(by omega);have jA:((q.length:Int)+1).toNat-1=q.length:=(by omega);have z3:((q.length:Int)+1).toNat=q.length+1:=(by omega);rw[rb bV,Oj]at n7;injection n7 with _ n7;simp(disch:=omega) [K5,bl,z2,WX,a8,hY,z3,fC];refine aoY ch eH dJ az M (x:=bf) n.bp.length 0 m _ gJ (off+1) iV q cb dT (by omega) dh oG ⟨c0.b,c0.e,c0.abp,by omega,n7,c0.dY,c0.ee,c0.l9⟩ (by omega) b9 (λe aQ=>by omega) (by simp[aU]) (by simp[bS]) (by simp[bB]) (by simp[ca]) (by simp) (by simp) (by simp) (λK U mc o9 rU new jr kY aE a2 cj dy fB fb ja qC=> ?_);have Nd: ∀t,t<8->K t=z t:= λt ba=>by rw[ja t ba];simp(disch:=omega) only[me]
     simp;refine a1 _ _ (cf U _ mc o9 rU (q++new) jr kY (by simp;omega) (by omega) aE a2 cj (fB.an8 (λe aQ B=> ?_)) (by simp[Nd 1 (by omega),aU]) (by simp[Nd 2 (by omega),bS]) (by simp[Nd 6 (by omega),bB]) (by simp[Nd 7 (by omega),ca]) (by simp[qC]) (λk9 vV aG3 asv A D ai aT bF=>bb k9 vV aG3 asv A D ai aT (λt ba=>by rw[bF t ba];exact Nd t ba)));obtain⟨a,bc,aa,_⟩:=yZ aQ;exact fb e ((cG.1 aa).1) aQ B
def aro(n:dH)(aA:Nat)(aj:List Int)(m:H)(r:Value)(U:H):Prop:=fx m U/\ ∃(eh dO:Nat) (dT:Int->Int) (cb:Int->Bool),r= .tuple #[.slice (some ⟨dO,0,none⟩) aA 1,.slice (some ⟨eh,0,none⟩) aA 1]/\m.next<=eh/\m.next<=dO/\U.I eh=some ⟨jM aA dT,true⟩/\U.I dO=some ⟨kq aA cb,true⟩/\lx n aj cb (λx=>lZ n.bp.length (dT x)) []
set_option maxRecDepth 20000 in
theorem aoZ{n:dH}(ch:n.iN){aA:Nat}(eH:n.dQ=aA){v:Value}{aj:List Int}(dJ:aj.length=n.bp.length){cL:Nat}{ej:Bool}{m:H}(M:m0 m v n.bp)(a5:m.I cL=some ⟨aj.map (Value.int .i64 ·),ej⟩):ep N 144 [E8 n v,.slice (some ⟨cL,0,none⟩) aj.length 1] m (aro n aA aj m):=by
 rw[asF (by simp)];obtain⟨aU,bS⟩:=ch.dI;have dU:=ch.Ar;have lG:=aM a5;obtain⟨fI,uB⟩: ∃k:Nat,n.dI=k:=⟨n.dI.toNat,by omega⟩;have bW:fI<aA:=by omega
 have dR:fI+1<=aA:=bW;have bz:n.dI<(aA:Int):=by omega
 have bB:n.dI.toNat=fI:=by omega
 have zN:n.dQ.toNat=aA:=by omega
 have z0:0<=n.dQ:=by omega
 have hY:n.dQ*8<=140737488355328:=by omega
 have aec:n.dQ<=140737488355328:=by omega
 have jA:n.dQ<=9223372036854775807:=by omega
 simp(disch:=first|omega|simp only[bE];omega) [X7,aU,bz,bB,dR,zN,z0,hY,aec,jA,aoV,Nj,-v5];refine aFs ch eH dJ (cL:=cL) (nb:=m.next) (eh:=m.next+3+5) (dO:=m.next+3+2) (bk:=m.next+3+8) (pL:=m) ⟨⟨by omega,by omega,by omega,lG⟩,⟨by omega,by omega,by omega,by omega⟩,⟨by omega,by omega⟩⟩ M (1+m3 (eK (λ_=>false) n.dI true) aA) _ _ (m.next+3+8+2) 0 [E n.dI] [n.dI] (eK (λ_=>false) n.dI true) (λ_=>0) (by simp) ?_ ⟨⟨by simp only[eJ,fp];omega,λb hb=>by simp(disch:=first|omega|(simp only[eJ,fp];omega)) only[a7,cJ]⟩,by simp(disch:=first|omega|(simp only[eJ,fp];omega)) only[cx,a7,cJ],⟨ej,by simp(disch:=first|omega|(simp only[eJ,fp];omega)) only[a7,cJ,a5]⟩,by simp only[eJ,fp];omega⟩ (by omega) ⟨by simp(disch:=first|omega|(simp only[eJ,fp];omega)) only[cx,a7,cJ,abQ],by simp(disch:=first|omega|(simp only[eJ,fp];omega)) only[cx,a7,cJ,uB],by simp(disch:=first|omega|(simp only[eJ,fp];omega)) only[cx],by simp,by simp,by omega,by omega,by omega⟩ (by have:=lx.apL ch aj (λx=>lZ n.bp.length ((λ_=>0) x));exact this) (by simp) (by simp) (by simp) (by simp) (by simp) (λK U jr kY aE a2 cj dy fB=> ?_)
 ·have:=Dv (λ_=>false) n.dI aU rfl aA bz;have:=Vn (λ_=>false) aA;omega
 ·have mS:K 6= .slice (some ⟨m.next+3+2,0,none⟩) aA 1:=(by rw[fB 6 (by omega)];simp);have Tx:K 7= .slice (some ⟨m.next+3+5,0,none⟩) aA 1:=(by rw[fB 7 (by omega)];simp);simp(disch:=first|omega|simp only[bE];omega) [mS,Tx];exact⟨aE.mR,_,_,kY,jr,rfl,by omega,by omega,a2,cj,dy⟩
theorem an5{n:dH}(ch:n.iN){fS:Int->hz}{aj:List Int}{x:Int}{e:hz}{l:List hz}(Z:qp n fS x (e::l))(al:0<cN n aj e):
 x≠n.dI/\e=fS x/\hX n e=x/\qp n fS (gC n e) l/\n.hN x/\e.1<n.bp.length:=by
 cases Z with
 | cons B ba Z=>obtain⟨a,bc,aa,_⟩:=yZ al;have az:=(cG.1 aa).1;exact⟨B,rfl,ba,Z,by have:=(ac4 ch az).2;rw[ba]at this;exact this,az⟩
def sz(n:dH)(aj:List Int)(d:Int)(l:List hz):Int:=l.foldl (λd e=>if cN n aj e<d then cN n aj e else d) d
theorem aaz{n:dH}{aj:List Int}: ∀(l:List hz) (d:Int),0<d->(∀e∈l,0<cN n aj e)->0<sz n aj d l/\sz n aj d l<=d/\ ∀e∈l,sz n aj d l<=cN n aj e
 |[],d,aV,_=>⟨aV,sY _,by simp⟩
 | e::l,d,aV,al=>by
   have bY:=al e (by simp);have aD:sz n aj d (e::l)=sz n aj (if cN n aj e<d then cN n aj e else d) l:=rfl;obtain⟨aE,a2,cj⟩:=aaz l (if cN n aj e<d then cN n aj e else d) (by split<;>omega) (λe aQ=>al e (by simp[aQ]));have key:(if cN n aj e<d then cN n aj e else d)<=d/\(if cN n aj e<d then cN n aj e else d)<=cN n aj e:=(by split<;>omega);rw[aD];generalize(if cN n aj e<d then cN n aj e else d)=uu at*;refine⟨aE,by omega,λdd so=> ?_⟩;rcases hi.1 so with rfl|so
   ·omega
   ·exact cj dd so
set_option maxRecDepth 20000 in
theorem abE{n:dH}(ch:n.iN){aA:Nat}(eH:n.dQ=aA){aj:List Int}(k0:s3 n aj){v:Value}{nb cL eh:Nat}{dT:Int->Int}{m:H}(M:m0 m v n.bp)(ae:m.I nb=some ⟨ma n v,true⟩)(a5:m.I cL=some ⟨aj.map (Value.int .i64 ·),true⟩)(hb:m.I eh=some ⟨jM aA dT,true⟩){Q:cM->aC->H->Prop}:
 ∀(l:List hz) (x d:Int) (z:aC),qp n (λx=>lZ n.bp.length (dT x)) x l->(∀e∈l,0<cN n aj e)->z 1=bH nb->z 6= .slice (some ⟨cL,0,none⟩) aj.length 1->z 8= .slice (some ⟨eh,0,none⟩) aA 1->z 11=E d->z 12=E x->
 (∀K,(∀t,t<11->K t=z t)->K 11=E (sz n aj d l)->Q (.cH 2) K m)->fG N (.loop LX) z m Q
 | [],x,d,z,Z,al,aU,bB,bl,gn,g6,bb=>by refine j7 λbM a1=> ?_;have B:=aa9 Z;subst B;simp[LX,aU,g6,ae];exact bb _ (λt ba=>by simp(disch:=omega) only[me]) (by simp[gn,sz])
 | e::l,x,d,z,Z,al,aU,bB,bl,gn,g6,bb=>by
   refine j7 λbM a1=> ?_;have ek:=al e (by simp);obtain⟨B,aQ,ba,m8,kO,tk⟩:=an5 ch Z ek;obtain⟨oQ,pT⟩:=kO;obtain⟨k,rfl⟩: ∃k:Nat,x=k:=⟨x.toNat,by omega⟩;have nO:k<aA:=(by omega);have sT:k+1<=aA:=nO;have n9:(jM aA dT)[k]?=some (E (dT k)):=xy nO;have next: ∀(K:aC),(∀t,t<11->K t=z t)->K 11=E (if cN n aj e<d then cN n aj e else d)->K 12=E (gC n e)->bM K m:= λK bC aEn aEo=>
    a1 _ _ (abE ch eH k0 M ae a5 hb l _ _ K m8 (λe aQ=>al e (by simp[aQ])) (by rw[bC 1 (by omega)];exact aU) (by rw[bC 6 (by omega)];exact bB) (by rw[bC 8 (by omega)];exact bl) aEn aEo (λk9 aE a2=>bb k9 (λt ba=>by rw[aE t ba,bC t ba]) a2))
   obtain⟨a,bc,aa,en⟩:=yZ ek;have nF: ∀h,aj[e.1]'h=bc:= λh=>by rw[c1 h]at en;simpa using en
   have We:=(ch.qu a (fr aa)).2.2;have ya:=k0.2 _ a bc aa en;have dJ:=k0.1;have fl:=ch.sh;obtain⟨c,o,rfl,ar⟩:=M.hI tk;have sE:=uk aa (j:=0) (by omega);have a8:=uk aa (j:=1) (by omega);have bV:=uk aa (j:=2) (by omega);rw[wu]at sE;simp only[gL]at sE;simp[gL]at a8 bV;have er:e.1*4+1<=n.bp.length*4:=(by omega);have eO:e.1*4+2<=n.bp.length*4:=(by omega);have g8:e.1*4+3<=n.bp.length*4:=(by omega);have g9:(e.1:Int)<n.bp.length:=(by omega);have nv:(e.1:Int)<aj.length:=(by omega);have mI:e.1+1<=aj.length:=(by omega);have vk:e.1<aj.length:=(by omega);have dW:IntKind.i64.wrap (e.1:Int)=e.1:=cY (by omega) (by omega);have kn:IntKind.i64.wrap ((n.bp.length:Int)+e.1-n.bp.length)=e.1:=(by rw[cY (by omega) (by omega)];omega);have aaP: ¬(n.bp.length:Int)+e.1<n.bp.length:=(by omega);have xw:(fV n.bp)[e.1*4]?=some (E a.f):=sE;have bC: ∀h:e.1*4<(fV n.bp).length,(fV n.bp)[e.1*4]'h=E a.f:= λh=>by have:=xw;rw[c1 h]at this;simpa using this
   rcases afN (L:=n.bp.length) (G:=dT k) (by rw[<-aQ];exact tk)with⟨i,W,bw,yb⟩|⟨i,W,bw,yb⟩
   ·obtain rfl:e=(i,true):=(by rw[aQ];exact yb);have u4:gC n (i,true)=a.f:=(by simp[gC,aa]);have z6:cN n aj (i,true)=a.c-bc:=(by simp at aa en;simp[cN,aa,en]);simp only at*;have ct:IntKind.i64.wrap (a.c-bc)=a.c-bc:=cY (by omega) (by omega);rw[z6,u4]at next
    simp(disch:=first|omega|simp only[bE];omega) [LX,aU,bB,bl,gn,g6,ct,ae,a5,hb,ar,B,n9,nO,sT,bw,xw,bV,er,g8,g9,nv,mI,nF,fC];exact next _ (λt ba=>by simp(disch:=omega) only[me]) (by simp) (by simp)
   ·obtain rfl:e=(i,false):=(by rw[aQ];exact yb);have u4:gC n (i,false)=a.t:=(by simp[gC,aa]);have z6:cN n aj (i,false)=bc:=(by simp at aa en;simp[cN,aa,en]);simp only at*;rw[z6,u4]at next
    simp(disch:=first|omega|simp only[bE];omega) [LX,aU,bB,bl,gn,g6,kn,aaP,ae,a5,hb,ar,B,n9,nO,sT,bw,a8,eO,g9,nv,mI,nF,fC];exact next _ (λt ba=>by simp(disch:=omega) only[me]) (by simp) (by simp)
set_option maxRecDepth 20000 in
theorem abS{n:dH}(ch:n.iN){aA:Nat}(eH:n.dQ=aA){v:Value}{nb cL eh:Nat}{dT:Int->Int}{d:Int}(aV:0<=d)(AS:nb≠cL)(Oa:eh≠cL)(Ek: ∀b l c,v= .slice (some ⟨b,0,none⟩) l c->b≠cL){Q:cM->aC->H->Prop}:
 ∀(l:List hz) (x:Int) (aj:List Int) (m:H) (z:aC),s3 n aj->m0 m v n.bp->m.I nb=some ⟨ma n v,true⟩->m.I cL=some ⟨aj.map (Value.int .i64 ·),true⟩->m.I eh=some ⟨jM aA dT,true⟩->qp n (λx=>lZ n.bp.length (dT x)) x l->(∀e∈l,0<cN n aj e/\d<=cN n aj e)->(l.map Prod.fst).Nodup->
 z 1=bH nb->z 6= .slice (some ⟨cL,0,none⟩) aj.length 1->z 8= .slice (some ⟨eh,0,none⟩) aA 1->z 11=E d->z 14=E x->
 (∀K,(∀t,t<11->K t=z t)->Q (.cH 4) K (m.aO cL (some ⟨(qa aj l d).map (Value.int .i64 ·),true⟩)))->fG N (.loop LY) z m Q
 | [],x,aj,m,z,k0,M,ae,a5,hb,Z,al,eW,aU,bB,bl,gn,v7,bb=>by refine j7 λbM a1=> ?_;have B:=aa9 Z;subst B;simp[LY,aU,v7,ae];have h:=bb;simp only[qa,List.foldl_nil]at h;rw[abl a5]at h;exact h _ (λt ba=>by simp(disch:=omega) only[me])
 | e::l,x,aj,m,z,k0,M,ae,a5,hb,Z,al,eW,aU,bB,bl,gn,v7,bb=>by
   refine j7 λbM a1=> ?_;obtain⟨ek,gm⟩:=al e (by simp);obtain⟨B,aQ,ba,m8,kO,tk⟩:=an5 ch Z ek;obtain⟨oQ,pT⟩:=kO;obtain⟨k,rfl⟩: ∃k:Nat,x=k:=⟨x.toNat,by omega⟩;have nO:k<aA:=(by omega);have sT:k+1<=aA:=nO;have n9:(jM aA dT)[k]?=some (E (dT k)):=xy nO;have Wj:=abf k0 ek aV gm;have gY:(push aj e d).length=aj.length:=abg;simp only[lO,A1]at eW;have vQ: ∀dd∈l,0<cN n (push aj e d) dd/\d<=cN n (push aj e d) dd:=by intro dd so;rw[abh (λh=>eW.1 (gG.2 ⟨dd,so,h⟩))];exact al dd (by simp[so])
   have lG:=aM a5;have next: ∀(K:aC) (U:H),U=m.aO cL (some ⟨(push aj e d).map (Value.int .i64 ·),true⟩)->(∀t,t<12->K t=z t)->K 14=E (gC n e)->bM K U:=by
    intro K U qM bC aEp;subst qM;refine a1 _ _ (abS ch eH aV AS Oa Ek l _ (push aj e d) _ K Wj ?_ (by rw[a7 AS];exact ae) (cx lG) (by rw[a7 Oa];exact hb) m8 vQ eW.2 (by rw[bC 1 (by omega)];exact aU) (by rw[bC 6 (by omega),gY];exact bB) (by rw[bC 8 (by omega)];exact bl) (by rw[bC 11 (by omega)];exact gn) aEp (λk9 g=> ?_))
    ·rcases M with h|⟨b,o,h,cn⟩
     ·exact .inl h
     ·exact .inr ⟨b,o,h,by rw[a7 (Ek _ _ _ h)];exact cn⟩
    ·rw[abk];exact bb k9 (λt ba=>by rw[g t ba,bC t (by omega)])
   have KB: ∀bc,aj[e.1]?=some bc->push aj e d=aj.set e.1 (if e.2 then bc+d else bc-d):= λbc en=>by unfold push;rw[en]
   obtain⟨a,bc,aa,en⟩:=yZ ek;have nF: ∀h,aj[e.1]'h=bc:= λh=>by rw[c1 h]at en;simpa using en
   have We:=(ch.qu a (fr aa)).2.2;have ya:=k0.2 _ a bc aa en;have dJ:=k0.1;have fl:=ch.sh;obtain⟨c,o,rfl,ar⟩:=M.hI tk;have sE:=uk aa (j:=0) (by omega);have a8:=uk aa (j:=1) (by omega);have bV:=uk aa (j:=2) (by omega);rw[wu]at sE;simp only[gL]at sE;simp[gL]at a8 bV;have er:e.1*4+1<=n.bp.length*4:=(by omega);have eO:e.1*4+2<=n.bp.length*4:=(by omega);have g8:e.1*4+3<=n.bp.length*4:=(by omega);have g9:(e.1:Int)<n.bp.length:=(by omega);have nv:(e.1:Int)<aj.length:=(by omega);have mI:e.1+1<=aj.length:=(by omega);have vk:e.1<aj.length:=(by omega);have dW:IntKind.i64.wrap (e.1:Int)=e.1:=cY (by omega) (by omega);have kn:IntKind.i64.wrap ((n.bp.length:Int)+e.1-n.bp.length)=e.1:=(by rw[cY (by omega) (by omega)];omega);have aaP: ¬(n.bp.length:Int)+e.1<n.bp.length:=(by omega);have xw:(fV n.bp)[e.1*4]?=some (E a.f):=sE;have bC: ∀h:e.1*4<(fV n.bp).length,(fV n.bp)[e.1*4]'h=E a.f:= λh=>by have:=xw;rw[c1 h]at this;simpa using this
   have aOQ:c≠cL:=Ek _ _ _ rfl;rw[KB bc en,<-Xz]at next
   unfold cN at ek gm;simp only[aa,en]at ek gm;rcases afN (L:=n.bp.length) (G:=dT k) (by rw[<-aQ];exact tk)with⟨i,W,bw,yb⟩|⟨i,W,bw,yb⟩
   ·obtain rfl:e=(i,true):=(by rw[aQ];exact yb);have u4:gC n (i,true)=a.f:=(by simp[gC,aa]);rw[u4]at next
    simp only[if_true]at*;have ct:IntKind.i64.wrap (bc+d)=bc+d:=cY (by omega) (by omega);simp(disch:=first|omega|simp only[bE];omega) [LY,aU,bB,bl,gn,v7,ct,ae,a5,hb,ar,B,n9,nO,sT,bw,xw,er,g9,nv,mI,nF,fC];exact next _ _ rfl (λt ba=>by simp(disch:=omega) only[me]) (by simp)
   ·obtain rfl:e=(i,false):=(by rw[aQ];exact yb);have u4:gC n (i,false)=a.t:=(by simp[gC,aa]);rw[u4]at next
    simp only[je,if_false]at*;have ct:IntKind.i64.wrap (bc-d)=bc-d:=cY (by omega) (by omega);simp(disch:=first|omega|simp only[bE];omega) [LY,aU,bB,bl,gn,v7,ct,kn,aaP,ae,a5,hb,ar,B,n9,nO,sT,bw,a8,eO,g9,nv,mI,nF,fC];exact next _ _ rfl (λt ba=>by simp(disch:=omega) only[me]) (by simp)
set_option maxRecDepth 20000 in
theorem aFB{n:dH}(ch:n.iN){aA:Nat}(eH:n.dQ=aA){v:Value}{nb cL:Nat}(AS:nb≠cL)(Ek: ∀b l c,v= .slice (some ⟨b,0,none⟩) l c->b≠cL){eA:H}(qJ:eA.next<=cL){Q:cM->aC->H->Prop}:
 ∀(aR:Nat) (aj:List Int) (m:H) (z:aC),fx eA m->5368709117500-value n aj<=aR->mE n aj->m0 m v n.bp->m.I nb=some ⟨ma n v,true⟩->m.I cL=some ⟨aj.map (Value.int .i64 ·),true⟩->z 1=bH nb->z 6= .slice (some ⟨cL,0,none⟩) aj.length 1->
 (∀K U aj cb dO,mE n aj->cb n.dI=true->cb n.eT=false->value n aj=mi n.bp cb->fx eA U->eA.next<=dO->dO≠cL->U.I cL=some ⟨aj.map (Value.int .i64 ·),true⟩->U.I dO=some ⟨kq aA cb,true⟩->K 2= .slice (some ⟨cL,0,none⟩) aj.length 1->K 3=E (value n aj)->K 4= .slice (some ⟨dO,0,none⟩) aA 1->K 5=E 0->Q .e3 K U)->fG N (.loop St) z m Q:=by
 intro aR;induction aR with
 | zero=>
   intro aj m z yn dz dJ M ae a5 aU bB bb;refine j7 λbM a1=> ?_;have WD:=aM a5;have tm:=dJ.kK.1;simp[St,aU,bB,ae];refine(aoZ (n:=n) ch eH tm M a5).bD λr bn Z=> ?_;obtain⟨hu,eh,dO,dT,cb,rfl,ya,BI,qE,DN,b9⟩:=Z;have tv:=hu.some ae;have tl:=hu.some a5;have ll:=M.bD hu;obtain⟨bj,eC⟩:=ch.eT;obtain⟨k,S⟩: ∃k:Nat,n.eT=k:=⟨n.eT.toNat,by omega⟩;have t3:n.eT.toNat=k:=(by omega);have t4:k<aA:=(by omega);have nL:n.eT<(aA:Int):=(by omega);have sP:k+1<=aA:=t4;have lj:(k:Int)=n.eT:=S.symm;have n8:(kq aA cb)[k]?=some (.bool (cb n.eT)):=(by rw[Dp t4,lj]);have KD: ∀h,(kq aA cb)[k]'h= .bool (cb n.eT):= λh=>by rw[Dq,lj]
   cases nD:cb n.eT
   ·simp[DN,tv,bj,t3,nL,sP,n8,fC,nD,aU,bB];refine(apd (n:=n) ll (.inr ⟨cL,true,rfl,tl⟩)).bD λr cI Z=> ?_;obtain⟨rfl,h3⟩:=Z;have G1:=aqq ch dJ;simp[G1];exact bb _ _ aj cb dO dJ b9.dI nD (b9.CA.Ts ch dJ nD) ((yn.trans hu).trans h3) (by have:=yn.next;omega) (by omega) (h3.some tl) (h3.some DN) (by simp[bB]) (by simp) (by simp) (by simp)
   obtain⟨l,Z,al,eW⟩:=b9.CA.path nD;obtain⟨fW,gI,iO⟩:=aaz (n:=n) (aj:=aj) l 2147483647 (by omega) al;simp[DN,tv,bj,t3,nL,sP,n8,fC,nD,aU];refine abE ch eH dJ.kK ll tv tl qE l n.eT 2147483647 _ Z al (by simp[aU]) (by simp[bB]) (by simp) (by simp) (by simp) (λbQ aD aJ=> ?_);have a8:bQ 1=bH nb:=(by rw[aD 1 (by omega)];simp[aU]);have mS:bQ 6= .slice (some ⟨cL,0,none⟩) aj.length 1:=(by rw[aD 6 (by omega)];simp[bB]);have abm:bQ 8= .slice (some ⟨eh,0,none⟩) aA 1:=(by rw[aD 8 (by omega)];simp);simp[a8,tv];refine abS ch eH (d:=sz n aj 2147483647 l) (by omega) (v:=v) (nb:=nb) (cL:=cL) (eh:=eh) AS (by omega) Ek l n.eT aj bn _ dJ.kK ll tv tl qE Z (λe aQ=>⟨al e aQ,iO e aQ⟩) eW (by simp[a8]) (by simp[mS]) (by simp[abm]) (by simp[aJ]) (by simp) (λc6 eD=> ?_);have p1:=OL ch dJ Z (d:=sz n aj 2147483647 l) (by omega) (λe aQ=>⟨al e aQ,iO e aQ⟩) eW;have Xa:=FV ch p1.1;have gY:(qa aj l (sz n aj 2147483647 l)).length=aj.length:=(by rw[p1.1.kK.1,tm]);have ek:c6 1=bH nb:=(by rw[eD 1 (by omega)];simp[a8]);have abt:c6 6= .slice (some ⟨cL,0,none⟩) (qa aj l (sz n aj 2147483647 l)).length 1:=(by rw[eD 6 (by omega),gY];simp[mS]);simp;exfalso;omega
 | succ aR cf=>
   intro aj m z yn dz dJ M ae a5 aU bB bb;refine j7 λbM a1=> ?_;have WD:=aM a5;have tm:=dJ.kK.1;simp[St,aU,bB,ae];refine(aoZ (n:=n) ch eH tm M a5).bD λr bn Z=> ?_;obtain⟨hu,eh,dO,dT,cb,rfl,ya,BI,qE,DN,b9⟩:=Z;have tv:=hu.some ae;have tl:=hu.some a5;have ll:=M.bD hu;obtain⟨bj,eC⟩:=ch.eT;obtain⟨k,S⟩: ∃k:Nat,n.eT=k:=⟨n.eT.toNat,by omega⟩;have t3:n.eT.toNat=k:=(by omega);have t4:k<aA:=(by omega);have nL:n.eT<(aA:Int):=(by omega);have sP:k+1<=aA:=t4;have lj:(k:Int)=n.eT:=S.symm;have n8:(kq aA cb)[k]?=some (.bool (cb n.eT)):=(by rw[Dp t4,lj]);have KD: ∀h,(kq aA cb)[k]'h= .bool (cb n.eT):= λh=>by rw[Dq,lj]
   cases nD:cb n.eT
   ·simp[DN,tv,bj,t3,nL,sP,n8,fC,nD,aU,bB];refine(apd (n:=n) ll (.inr ⟨cL,true,rfl,tl⟩)).bD λr cI Z=> ?_;obtain⟨rfl,h3⟩:=Z;have G1:=aqq ch dJ;simp[G1];exact bb _ _ aj cb dO dJ b9.dI nD (b9.CA.Ts ch dJ nD) ((yn.trans hu).trans h3) (by have:=yn.next;omega) (by omega) (h3.some tl) (h3.some DN) (by simp[bB]) (by simp) (by simp) (by simp)
   obtain⟨l,Z,al,eW⟩:=b9.CA.path nD;obtain⟨fW,gI,iO⟩:=aaz (n:=n) (aj:=aj) l 2147483647 (by omega) al;simp[DN,tv,bj,t3,nL,sP,n8,fC,nD,aU];refine abE ch eH dJ.kK ll tv tl qE l n.eT 2147483647 _ Z al (by simp[aU]) (by simp[bB]) (by simp) (by simp) (by simp) (λbQ aD aJ=> ?_);have a8:bQ 1=bH nb:=(by rw[aD 1 (by omega)];simp[aU]);have mS:bQ 6= .slice (some ⟨cL,0,none⟩) aj.length 1:=(by rw[aD 6 (by omega)];simp[bB]);have abm:bQ 8= .slice (some ⟨eh,0,none⟩) aA 1:=(by rw[aD 8 (by omega)];simp);simp[a8,tv];refine abS ch eH (d:=sz n aj 2147483647 l) (by omega) (v:=v) (nb:=nb) (cL:=cL) (eh:=eh) AS (by omega) Ek l n.eT aj bn _ dJ.kK ll tv tl qE Z (λe aQ=>⟨al e aQ,iO e aQ⟩) eW (by simp[a8]) (by simp[mS]) (by simp[abm]) (by simp[aJ]) (by simp) (λc6 eD=> ?_);have p1:=OL ch dJ Z (d:=sz n aj 2147483647 l) (by omega) (λe aQ=>⟨al e aQ,iO e aQ⟩) eW;have Xa:=FV ch p1.1;have gY:(qa aj l (sz n aj 2147483647 l)).length=aj.length:=(by rw[p1.1.kK.1,tm]);have ek:c6 1=bH nb:=(by rw[eD 1 (by omega)];simp[a8]);have abt:c6 6= .slice (some ⟨cL,0,none⟩) (qa aj l (sz n aj 2147483647 l)).length 1:=(by rw[eD 6 (by omega),gY];simp[mS]);simp;refine a1 _ _ (cf _ _ _ ((yn.trans hu).aO qJ) (by rw[p1.2];omega) p1.1 ?_ (by rw[a7 AS];exact tv) (cx (aM tl)) (by simp[ek]) (by simp[abt]) bb);rcases ll with h|⟨b,o,h,cn⟩
   ·exact .inl h
   ·exact .inr ⟨b,o,h,by rw[a7 (Ek _ _ _ h)];exact cn⟩
set_option maxRecDepth 20000 in
theorem aFC{n:dH}(ch:n.iN){v:Value}{m:H}(M:m0 m v n.bp):ep N 89 [E8 n v] m (US n m):=by
 rw[asV (by simp)];obtain⟨di,gO⟩:=M.len;have eE:fx m ((m.b0 5).aO m.next (some ⟨ma n v,true⟩)):=((fx.refl m).b0 5).aO (c8 _);simp(disch:=first|omega|simp only[bE];omega) [Zj];refine(apa (M.bD eE)).bD λr cI Z=> ?_;obtain⟨rfl,aB⟩:=Z;have iz:=eE.trans aB;have aH:cI.I m.next=some ⟨ma n v,true⟩:=aB.some (cx (by simp))
 have WC:=aM aH;have qG:=Tk.2 ch;have qQ:=M.bD iz;obtain⟨aA,eH⟩: ∃aA:Nat,n.dQ=aA:=⟨n.dQ.toNat,by have:=ch.ee;omega⟩;have fl:=ch.sh;have z3:(n.bp.length:Int)*8<=140737488355328:=by omega
 have z4:(n.bp.length:Int)<=9223372036854775807:=by omega
 have ra:n.bp.length*8<=140737488355328:=by omega
 have sV:n.bp.length<=9223372036854775807:=by omega
 obtain⟨G2,w8⟩:=aq7 ch;have BS: ∀b l c,v= .slice (some ⟨b,0,none⟩) l c->b<cI.next:=by
  intro b l c aQ;rcases qQ with⟨h,_⟩|⟨cw,o,h,hb⟩
  ·rw[h]at aQ;cases aQ
  ·rw[h]at aQ;cases aQ;exact aM hb
 simp(disch:=first|omega|simp only[bE];omega) [qG,aH,di,gO,z3,z4];have xr:fx cI ((cI.b0 5).aO (cI.next+3) (some ⟨List.replicate n.bp.length (Value.int .i64 0),true⟩)):=((fx.refl cI).b0 5).aO (by omega);refine aFB ch eH (eA:=cI) (v:=v) (nb:=m.next) (cL:=cI.next+3) (by omega) (λb l c aQ=>by have:=BS b l c aQ;omega) (by omega) 5368709117500 (List.replicate n.bp.length 0) _ _ xr (by rw[w8];omega) G2 (qQ.bD xr) (xr.some aH) (by rw[cx (by simp only[fp];omega),List.map_replicate]) (by simp) (by simp) (λK U aj cb dO aE a2 cj dy fB fb ja qC Bt eS gN f4 f5=> ?_);simp[eS,gN,f4,f5];have kh:=iz.next
 exact⟨iz.trans fB,aj,x0 aA cb,_,dO,by rw[Vp],by omega,by omega,ja,qC,by rw[Bt,afH],apC ch eH aE a2 cj dy⟩
end Go.Proofs.YtmmkkggfmigppaaGreat
namespace Go.DI
open Go
section
variable {P:Program} {t m U:H} {J:eU} {u:fU}
theorem aG8(F:eb J u t m){hn:Nat}(ae:m.next<=U.next)(S: ∀b,b<m.next->U.I b=m.I b/\(m.I b=some ⟨[],true⟩->U.mp b=m.mp b)):
 eb J u t U/\eQ hn m.next J u t m J u t U:=by
 refine⟨⟨λo x B=> ?_,λo es aQ=> ?_,F.jo,F.inj,λo b h=> ?_,λb ds h=> ?_⟩,⟨fE.refl _,gS.refl _,λo b h=> .inl h,λb ds h=> .inl h,c8 _,ae,λb hb _=>(S b hb).1,λb hb h=>h,λb hb h=>h⟩⟩
 ·rcases F.iU o x B with⟨b,ds,w,A,D,ai,aT⟩|A
  ·exact .inl ⟨b,ds,w,A,by rw[(S b (F.cQ o b A).2).1,D],ai,aT⟩
  ·exact .inr A
 ·obtain⟨b,db,A,D,ai⟩:=F.maps o es aQ;obtain⟨bK,cz⟩:=jb D;have hb:=(F.cQ o b A).2;exact⟨b,db,A,kB (by rw[(S b hb).1,bK]) (by rw[(S b hb).2 bK,cz]),ai⟩
 ·have:=F.cQ o b h;omega
 ·obtain⟨⟨w,A⟩,D⟩:=F.bZ b ds h;exact⟨⟨w,by rw[(S b (aM A)).1,A]⟩,D⟩
theorem apv(F:eb J u t m){hn hE q:Nat}{cs:List Value}(ba:hn<=t.next)(bo:hE<=q)(WW:q<m.next)(J7: ∀o,J o≠some q)(dh:u q=none)(aH:m.I q=some ⟨cs,true⟩)(dJ:cs.all ei=true):
 eb (gv J t.next q) u ((t.b0 1).aO t.next (some ⟨cs,true⟩)) m/\eQ hn hE J u t m (gv J t.next q) u ((t.b0 1).aO t.next (some ⟨cs,true⟩)) m:=by
 have ck:J t.next=none:=by
  cases aQ:J t.next with
  |none=>rfl
  |some b=>have:=(F.cQ _ _ aQ).1;omega
 have sm: ∀{o b:Nat},gv J t.next q o=some b->(o=t.next/\b=q)\/(o≠t.next/\J o=some b):= λ{o b} h=>by
  simp only[gv]at h;split at h
  ·next e=>cases h;exact .inl ⟨e,rfl⟩
  ·next e=>exact .inr ⟨e,h⟩
 have qO: ∀{o:Nat},o≠t.next->((t.b0 1).aO t.next (some ⟨cs,true⟩)).I o=t.I o:= λaB=>by rw[a7 aB,H.cJ]
 refine⟨⟨λo x B=> ?_,λo es aQ=> ?_,λo h=> ?_,λo o' b h cn=> ?_,λo b h=> ?_,λb ds h=> ?_⟩,⟨fE.set ck,gS.refl _,λo b h=> ?_,λb ds h=> .inl h,by simp,c8 _,λb hb _=>rfl,λb hb=> λ⟨o,y,h,cn,sl⟩=> ?_,λb hb=> λ⟨o,y,h,cn⟩=> ?_⟩⟩
 ·by_cases aB:o=t.next
  ·subst aB;rw[cx (by simp)]at B;cases B;exact .inl ⟨q,cs,true,by simp[gv],aH,λ_=>rfl,bL.c7 dJ⟩
  ·rw[qO aB]at B;rcases F.iU o x B with⟨b,ds,w,A,D,ai,aT⟩|⟨A,D⟩
   ·exact .inl ⟨b,ds,w,by simp[gv,aB,A],D,ai,aT.bD (gS.refl _) (fE.set ck)⟩
   ·exact .inr ⟨by simp[gv,aB,A],D⟩
 ·by_cases aB:o=t.next
  ·subst aB;have:=(jb aQ).2;rw[show((t.b0 1).aO t.next (some ⟨cs,true⟩)).mp=t.mp from rfl,F.jo _ ck]at this;cases this
  ·rw[vw aB]at aQ;obtain⟨aD,aJ⟩:=jb aQ;rw[H.cJ]at aD;obtain⟨b,db,A,D,ai⟩:=F.maps o es (kB aD aJ);exact⟨b,db,by simp[gv,aB,A],D,ai.bD (gS.refl _) (fE.set ck)⟩
 ·simp only[gv]at h;split at h
  ·cases h
  ·exact F.jo o h
 ·rcases sm h with⟨bt,bR⟩|⟨bt,bR⟩<;>rcases sm cn with⟨b6,cR⟩|⟨b6,cR⟩
  ·rw[bt,b6]
  ·subst bR;exact absurd cR (J7 _)
  ·subst cR;exact absurd bR (J7 _)
  ·exact F.inj o o' b bR cR
 ·rcases sm h with⟨bt,bR⟩|⟨bt,bR⟩
  ·subst bt;subst bR;exact⟨by simp,WW⟩
  ·have:=F.cQ o b bR;simp only[eJ,fp];omega
 ·obtain⟨A,D⟩:=F.bZ b ds h;refine⟨A,λo x aB B=> ?_⟩;rcases sm aB with⟨bt,bR⟩|⟨bt,bR⟩
  ·subst bR;rw[dh]at h;cases h
  ·rw[qO bt]at B;exact D o x bR B
 ·rcases sm h with⟨bt,bR⟩|⟨bt,bR⟩
  ·exact .inr (by omega)
  ·exact .inl bR
 ·rcases sm h with⟨bt,bR⟩|⟨bt,bR⟩
  ·omega
  ·exact⟨o,y,bR,by rw[qO bt]at cn;exact cn,sl⟩
 ·rcases sm h with⟨bt,bR⟩|⟨bt,bR⟩
  ·omega
  ·exact⟨o,y,bR,by rw[qO bt]at cn;exact cn⟩
theorem aDI{f px:Nat}{args:List Value}{pq:eM}(zQ:m.I px=some pq)(g3:pq.cells≠[]){bA:Value->H->Prop}
 (gK: ∀p:H,p.next=m.next->p.I px=some pq->ep P f args p λr k2=>(p.next<=k2.next/\ ∀b,b<p.next->k2.I b=p.I b)/\ ∀bn:H,bn.next=k2.next->(∀b y,k2.I b=some y->bn.I b=some y)->bA r bn):
 ep P f args m λr U=>m.next<=U.next/\(∀b,b<m.next->U.I b=m.I b/\(m.I b=some ⟨[],true⟩->U.mp b=m.mp b))/\bA r U:=by
 obtain⟨p,Z⟩: ∃p:H,p=⟨m.next,λb=>if b=px then m.hI b else none,m.mp⟩:=⟨_,rfl⟩;have q0:p.next=m.next:=by rw[Z]
 have oe: ∀b,p.I b=if b=px then m.I b else none:= λb=>by
  rw[Z];simp only[H.I];split
  ·rfl
  ·split<;>rfl
 have part:Di p m:=⟨q0,by rw[Z],λb x B=>by
  rw[oe]at B;split at B
  ·exact B
  ·cases B⟩
 have vN:p.I px=some pq:=by rw[oe,if_pos rfl,zQ]
 refine(ep.frame part (gK p q0 vN)).bD λr U bT=> ?_;obtain⟨k2,⟨⟨A,D⟩,ai⟩,bN⟩:=bT;refine⟨bN.next,λb hb=> ?_,ai U bN.part.next.symm λb y Y=>bN.part.I b y Y⟩;by_cases e:b=px
 ·subst e;have:U.I b=some pq:=bN.part.I b pq (by rw[D b (by omega),vN]);exact⟨by rw[this,zQ],λh=>by rw[zQ]at h;cases h;exact absurd rfl g3⟩
 ·have:=bN.jd b hb (by rw[oe,if_neg e]);exact⟨this.1,λ_=>this.2.2⟩
end
end Go.DI
namespace Go.Proofs.YtmmkkggfmigppaaGreat
open Go Go.DI Go.hR
theorem age{u:fU}{J:eU}: ∀{xs ys:List Value},bL u J xs ys->xs.all ei=true->ys=xs
 |[],ys,h,_=>r6.1 h.1.symm
 | x::xs,ys,h,a5=>by
   cases ys with
   |nil=>have:=h.1;simp at this
   | cons y ys=>simp only[mZ,a6]at a5;have hc:=(h.2 0 x y rfl rfl).hL a5.1;rw[hc,age (xs:=xs) (ys:=ys) ⟨by simpa using h.1,λi a b p q=>h.2 (i+1) a b (by simpa using p) (by simpa using q)⟩ a5.2]
theorem ar4(l:List c4):(fV l).all ei=true:=by rw[dP];intro v M;simp only[fV,zf,gG]at M;obtain⟨r,⟨a,_,rfl⟩,al⟩:=M;simp[gL]at al;rcases al with rfl|rfl|rfl|rfl<;>rfl
def IG(t:H)(aj:List Int)(iZ:List Bool):H:=(((t.b0 1).aO t.next (some ⟨aj.map (Value.int .i64 ·),true⟩)).b0 1).aO (t.next+1) (some ⟨iZ.map (Value.bool ·),true⟩)
theorem apD{f:Nat}{n:dH}(gK: ∀(v:Value) (m:H),m0 m v n.bp->ep N f [E8 n v] m (US n m))(bG:n.bp≠[]){t:H}{o:Nat}(aB:t.I o=some ⟨fV n.bp,true⟩):
 fc N f [.agg #[E n.dQ,E n.dI,E n.eT,.slice (some ⟨o,0,none⟩) n.bp.length 4]] t λv af=> ∃aj iZ,Gd n aj iZ/\v= .tuple #[.slice (some ⟨t.next,0,none⟩) aj.length 1,E (value n aj),.slice (some ⟨t.next+1,0,none⟩) iZ.length 1,E 0]/\af=IG t aj iZ:= λJ u dp m F aa=>by
 have p2:(fV n.bp)≠[]:= λe=>by have:=Dm n.bp;rw[e]at this;exact bG (pU (by simp at this;omega))
 obtain⟨b,ds,w,ck,tq,ahC,yk⟩: ∃b ds w,J o=some b/\m.I b=some ⟨ds,w⟩/\(true=true->w=true)/\bL u J (fV n.bp) ds:=by
  rcases F.iU o _ aB with⟨b,ds,w,bt,bR,a3,a4⟩|⟨_,bR⟩
  ·exact⟨b,ds,w,bt,bR,a3,a4⟩
  ·exact absurd bR p2
 obtain rfl:=age yk (ar4 _);obtain⟨bf,rfl,a9⟩:=aa.mv;obtain⟨ys,rfl,az⟩:=a9.uI;have awO:ys.toList=ma n (.slice (some ⟨b,0,none⟩) n.bp.length 4):=by
  obtain⟨a,cw,nw,bN⟩: ∃a cw nw,True:=⟨0,0,0,trivial⟩;have di:ys.toList.length=4:=(by have:=az.1;simpa using this.symm);have bY:= λx=>az.2 0 _ x rfl;have A:= λx=>az.2 1 _ x rfl;have D:= λx=>az.2 2 _ x rfl;have ai:= λx=>az.2 3 _ x rfl
  match Y:ys.toList,di with
  | [ko,h6,mA,vd],_=>
    rw[Y]at bY A D ai;have hc:=(bY ko rfl).hL rfl;have aD:=(A h6 rfl).hL rfl;have aJ:=(D mA rfl).hL rfl;rcases(ai vd rfl).l6 with⟨eO,bK,_,dV⟩|⟨_,_,dV,_⟩
    ·rw[ck]at bK;cases bK;rw[hc,aD,aJ,dV]
    ·exact absurd (pU dV) bG
 have awP:ys= #[E n.dQ,E n.dI,E n.eT,.slice (some ⟨b,0,none⟩) n.bp.length 4]:=F1.1 awO;subst awP;refine(aDI (m:=m) (px:=b) (pq:=⟨fV n.bp,w⟩) tq p2 (bA:= λr U=> ∃(aj:List Int) (iZ:List Bool) (cL dO:Nat),r= .tuple #[.slice (some ⟨cL,0,none⟩) aj.length 1,E (value n aj),.slice (some ⟨dO,0,none⟩) iZ.length 1,E 0]/\m.next<=cL/\m.next<=dO/\dO≠cL/\U.I cL=some ⟨aj.map (Value.int .i64 ·),true⟩/\U.I dO=some ⟨iZ.map (Value.bool ·),true⟩/\Gd n aj iZ) (λp aPj vN=> ?_)).bD λr U bT=> ?_
 ·refine(gK _ p (.inr ⟨b,w,rfl,vN⟩)).bD λr k2 Z=> ?_;obtain⟨jF,aj,iZ,cL,dO,A,D,ai,aT,bF,cW,dU⟩:=Z;exact⟨⟨jF.next,jF.I⟩,λbn _ l2=>⟨aj,iZ,cL,dO,A,by omega,by omega,aT,l2 _ _ bF,l2 _ _ cW,dU⟩⟩
 ·obtain⟨aE,a2,aj,iZ,cL,dO,rfl,cj,dy,fB,fb,ja,qC⟩:=bT;obtain⟨aU,eD⟩:=aG8 F (hn:=t.next) aE a2;have dh: ∀q,m.next<=q->u q=none:= λq bo=>by
   cases a5:u q with
   |none=>rfl
   |some c=>have:=aM ((F.bZ q c a5).1.choose_spec);omega
  have agN: ∀q,m.next<=q-> ∀o',J o'≠some q:= λq bo o' aQ=>by have:=(F.cQ o' q aQ).2;omega
  obtain⟨bS,eS⟩:=apv aU (hn:=t.next) (hE:=m.next) (c8 _) cj (aM fb) (agN _ cj) (dh _ cj) fb (by rw[dP];intro v M;obtain⟨x,_,rfl⟩:=gG.1 M;rfl);have GC: ∀o',gv J t.next cL o'≠some dO:= λo' aQ=>by
   simp only[gv]at aQ;split at aQ
   ·cases aQ;exact fB rfl
   ·exact agN _ dy o' aQ
  obtain⟨bW,gN⟩:=apv bS (hn:=t.next) (hE:=m.next) (by simp) dy (aM ja) GC (dh _ dy) ja (by rw[dP];intro v M;obtain⟨x,_,rfl⟩:=gG.1 M;rfl);have kO:((t.b0 1).aO t.next (some (eM.mk (aj.map (Value.int .i64 ·)) true))).next=t.next+1:=by simp
  rw[kO]at bW gN;refine⟨_,u,_,_,⟨aj,iZ,qC,rfl,rfl⟩,bW,?_,(eD.trans eS).trans gN⟩;refine bL.tuple (bL.cons (.slice ?_) (bL.cons (.c7 rfl) (bL.cons (.slice ?_) (bL.cons (.c7 rfl) bL.nil))))
  ·simp[gv]
  ·simp[gv]
open Go Go.DI Go.Big Go.hR
def tT(u:aG)(i:Nat):Int:=((List.range i).map (iF u)).foldr (· + ·) 0
theorem agh: ∀(l:List Int) (x:Int),(l++[x]).foldr (· + ·) 0=l.foldr (· + ·) 0+x
 |[],x=>by simp
 |y::l,x=>by simp only[tZ,List.foldr_cons,agh l x];omega
theorem adb{u:aG}{i:Nat}:tT u (i+1)=tT u i+iF u i:=by unfold tT;rw[A2,vf,List.map_singleton,agh]
theorem ada{u:aG}(h:fj u): ∀{i:Nat},i<=u.aZ.length->0<=tT u i/\tT u i<=8*i
 |0,_=>by simp[tT]
 | i+1,W=>by have:=ada h (i:=i) (by omega);have:=DK h (v:=i) (by omega);rw[adb];omega
theorem aDM{u:aG}(h:cE u):bP N 126 [.agg (aI u).toArray] (E (q6 u)):=by
 have mo:=h.ok.j4;refine du (c2 (ax:=⟨[],[]⟩) aiM (by kernel_rfl) (by simp[QI]) ?_);simp[QI,aiL,aI];refine gR (ax:=⟨[],[]⟩) (λi z t=>t.I 0=some ⟨aI u,true⟩/\z 1=bH 0/\z 3=E (tT u i)/\z 7=ad (u.aZ.map ga) 2/\z 8=E u.aZ.length/\z 9=E i) u.aZ.length ?_ ?_ 0 _ _ (gi _) ⟨by simp[aI],by simp,by simp[tT],by simp,by simp,by simp⟩
 ·rintro i z t W ⟨aL,aU,bW,ca,bl,cP⟩ bM a1;obtain⟨x,B⟩:=gk W;have cS:=(cG.1 B).2;obtain⟨p,Z,uC,gY,vL,kt⟩:=Ic h.ok W;obtain⟨P,gq⟩:=jX (h.ok.N4 i x B).1;have Kf:nI u i=P:=(by unfold nI;simp only[B,gq,ns]);rw[Kf]at Z gY;have Ky:=(cG.1 Z).2;have dD:=aM aL;have bC:(i:Int)<u.aZ.length:=(by omega);have a8:(P:Int)<u.dj.length:=(by omega);have bZ:=DK h.ok W;have aHo:=ada h.ok (i:=i) (by omega);have br:=fz (n:=i) (by omega);have ct:IntKind.i64.wrap (p.k+p.m)=p.k+p.m:=cY (by omega) (by omega);have dW:IntKind.i64.wrap (tT u i+(p.k+p.m))=tT u i+(p.k+p.m):=cY (by omega) (by omega);simp(disch:=first|omega|simp only[DI.aK];omega) [XX,QJ,aU,bW,ca,bl,cP,aL,aI,ga,dE,bC,a8,br,ct,dW,cS,gq,Ky,-an,-au,-ak,-aq,-List.map_map];exact a1 _ _ ⟨by simp(disch:=first|omega|simp only[DI.aK];omega) [aL,aI,-an,-au,-ak,-aq,-List.map_map],by simp[aU],by simp[adb,kt],by simp[ca],by simp[bl],by simp⟩
 ·rintro z t ⟨aL,aU,bW,ca,bl,cP⟩;simp[XX,QJ,QJ,bW,bl,cP];rfl
noncomputable def ack(u:aG)(h:cE u):bx N:= .cK 126 Unit (λ_=>True) (λ_=>[.agg (aI u).toArray]) (λ_=>E (q6 u)) λ_ _=>aDM h
@[simp] theorem aUo{u:aG}{h:cE u}:(ack u h).f=126:=rfl
@[simp] theorem aUp{u:aG}{h:cE u}:(ack u h).fn [.agg #[E u.ext,ad (u.eI.map gf) 4,ad (u.cr.map gp) 4,ad (u.aP.map eG) 7,ad (u.aY.map fk) 3,ad (u.dj.map dE) 17,ad (u.aZ.map ga) 2]]=some (E (q6 u)):=bx.dx (x:=()) trivial λ_ _=>rfl
theorem aFG{u:aG}(h:cE u):bP N 85 [.agg (aI u).toArray] (E (q6 u)):=by
 have mo:=h.ok.j4;refine du (c2 (ax:=⟨[TT u h.ok],[]⟩) al1 (by kernel_rfl) (by simp[Sh]) ?_);simp[Sh,al0,aI];refine gR (ax:=⟨[TT u h.ok],[]⟩) (λi z t=>t.I 0=some ⟨aI u,true⟩/\z 1=bH 0/\z 3=E (tT u i)/\z 4=E i) u.aZ.length ?_ ?_ 0 _ _ (gi _) ⟨by simp[aI],by simp,by simp[tT],by simp⟩
 ·rintro i z t W ⟨aL,aU,bW,dR⟩ bM a1;have dD:=aM aL;have bC:(i:Int)<u.aZ.length:=(by omega);have bZ:=DK h.ok W;have aHo:=ada h.ok (i:=i) (by omega);have br:=fz (n:=i) (by omega);have dW:IntKind.i64.wrap (tT u i+iF u i)=tT u i+iF u i:=cY (by omega) (by omega);simp(disch:=first|omega|simp only[DI.aK];omega) [Ze,Si,aU,bW,dR,aL,aI,bC,br,dW,-an,-au,-ak,-aq,-List.map_map];exact a1 _ _ ⟨aL,by simp[aU],by simp[adb],by simp⟩
 ·rintro z t ⟨aL,aU,bW,dR⟩;have dD:=aM aL;simp[Ze,Si,Si,aU,bW,dR,aL,aI];rfl
noncomputable def acw(u:aG)(h:cE u):bx N:= .cK 85 Unit (λ_=>True) (λ_=>[.agg (aI u).toArray]) (λ_=>E (q6 u)) λ_ _=>aFG h
@[simp] theorem aVh{u:aG}{h:cE u}:(acw u h).f=85:=rfl
@[simp] theorem aVi{u:aG}{h:cE u}:(acw u h).fn [.agg #[E u.ext,ad (u.eI.map gf) 4,ad (u.cr.map gp) 4,ad (u.aP.map eG) 7,ad (u.aY.map fk) 3,ad (u.dj.map dE) 17,ad (u.aZ.map ga) 2]]=some (E (q6 u)):=bx.dx (x:=()) trivial λ_ _=>rfl
end Go.Proofs.YtmmkkggfmigppaaGreat
