/-
  A part of the proof, shortened by tools of ours.
-/
import Derived.Test.YtmmkkggfmigppaaGreatZay
set_option linter.all false
set_option maxRecDepth 8000
set_option maxHeartbeats 16000000
namespace Go.Proofs.YtmmkkggfmigppaaGreat
open Go Go.DI Go.hR
def jM(aA:Nat)(g:Int->Int):List Value:=(List.range aA).map λ(x:Nat)=>E (g x)
@[simp] theorem aTt{aA:Nat}{g:Int->Int}:(jM aA g).length=aA:=by simp[jM]
@[simp] theorem aFn{aA:Nat}{g:Int->Int}{k:Nat}(h:k<(jM aA g).length):(jM aA g)[k]'h=E (g k):=by simp[jM]
theorem xy{aA:Nat}{g:Int->Int}{k:Nat}(h:k<aA):(jM aA g)[k]?=some (E (g k)):=by simp[jM,h]
@[simp] theorem v5{aA:Nat}{g:Int->Int}{k:Nat}{c:Int}:(jM aA g).set k (E c)=jM aA (λx=>if x=k then c else g x):=by
  apply AZ
  ·simp
  ·intro i A D;simp at A;rw[List.getElem_set];simp only[aFn];by_cases h:k=i
   ·subst h;simp
   ·have: ¬(i:Int)=k:=(by omega);simp[h,this]
theorem abQ{aA:Nat}:List.replicate aA (E 0)=jM aA (λ_=>0):=by apply AZ<;>simp[jM]
def xX:List c4->List Int->Bool
 |a::Dl,bc::fs=> !decide (bc<0)&& !decide (a.c<bc)&&xX Dl fs
 |_,_=>true
def Dw(n:dH)(g:Int->Int)(l:List Nat):Bool:=l.all λx=>decide ((x:Int)=n.dI)||decide ((x:Int)=n.eT)||decide (g x=0)
def AQ(n:dH)(aj:List Int):Int×Bool:=
 if jK n&&decide (aj.length=n.bp.length)&&xX n.bp aj&&Dw n (jy n.bp aj) (List.range n.dQ.toNat)then(value n aj,true)else(0,false)
theorem afb: ∀{Dl:List c4} {fs:List Int},fs.length=Dl.length->(xX Dl fs=true↔ ∀(i:Nat) a bc,Dl[i]?=some a->fs[i]?=some bc->0<=bc/\bc<=a.c)
 |[],[],_=>by simp[xX]
 |[],_::_,h=>by simp at h
 |_::_,[],h=>by simp at h
 | a::Dl,bc::fs,h=>by
   have cf:= @afb Dl fs (by simpa using h);simp only[xX,a6,r7,I1,cf];constructor
   ·rintro⟨⟨A,D⟩,ai⟩ i b ou hb z9;cases i with
    |zero=>simp at hb z9;subst hb;subst z9;omega
    |succ i=>exact ai i b ou (by simpa using hb) (by simpa using z9)
   ·intro ai;have:=ai 0 a bc rfl rfl;exact⟨⟨by omega,by omega⟩,λi b ou hb z9=>ai (i+1) b ou (by simpa using hb) (by simpa using z9)⟩
theorem aqq{n:dH}{aj:List Int}(ch:n.iN)(a5:mE n aj):AQ n aj=(value n aj,true):=by
 unfold AQ;rw[if_pos];simp only[a6,ey];refine⟨⟨⟨Tk.2 ch,a5.kK.1⟩,(afb a5.kK.1).2 a5.kK.2⟩,?_⟩;simp only[Dw,dP,om,ua,ey];intro k S;by_cases A:(k:Int)=n.dI
 ·exact .inl (.inl A)
 ·by_cases D:(k:Int)=n.eT
  ·exact .inl (.inr D)
  ·exact .inr (a5.Gt k ⟨by omega,by omega⟩ A D)
set_option maxRecDepth 20000 in
theorem apb{n:dH}(ch:n.iN){aA:Nat}(eH:n.dQ=aA){X:Int}(agP:X=2147483647){v w:Value}{aj:List Int}{b nb:Nat}{eA:H}(ae:eA.I b=some ⟨ma n v,true⟩)(M:m0 eA v n.bp)(aS:wx eA w aj)(dJ:aj.length=n.bp.length)(w0:eA.next<=nb){Q:cM->aC->H->Prop}: ∀(r i:Nat) (m:H) (z:aC) (g:Int->Int),i+r=n.bp.length->fx eA m->m.I nb=some ⟨jM aA g,true⟩->(∀x,-((i:Int)*X)<=g x/\g x<=(i:Int)*X)->
 z 7=E i->z 6= .slice (some ⟨nb,0,none⟩) aA 1->z 1=w->z 2=bH b->
 (∀K U zJ,fx eA U->U.I nb=some ⟨jM aA zJ,true⟩->xX (n.bp.drop i) (aj.drop i)=true->(∀x,zJ x=g x+jy (n.bp.drop i) (aj.drop i) x)->K 6= .slice (some ⟨nb,0,none⟩) aA 1->K 2=bH b->Q (.cH 0) K U)->
 (∀K U,fx eA U->xX (n.bp.drop i) (aj.drop i)=false->K 4=E 0->K 5= .bool false->Q .e3 K U)->fG N (.loop Et) z m Q
 | 0,i,m,z,g,W,aB,aH,lg,qg,bB,aU,bS,bb,c0=>by refine j7 λbM a1=> ?_;have A: ¬i<n.bp.length:=(by omega);obtain⟨di,gO⟩:=aS.len;simp[Et,qg,aU,A,di,gO,dJ];exact bb _ _ g aB aH (by rw[I2 (by omega)];rfl) (λx=>by rw[I2 (by omega:n.bp.length<=i)];simp[jy]) (by simp[bB]) (by simp[bS])
 | r+1,i,m,z,g,W,aB,aH,lg,qg,bB,aU,bS,bb,c0=>by
   refine j7 λbM a1=> ?_;have A:i<n.bp.length:=(by omega);have jP:i<aj.length:=(by omega);obtain⟨a,aa⟩: ∃a,n.bp[i]?=some a:=⟨n.bp[i]'A,by simp⟩;obtain⟨bc,en⟩: ∃bc,aj[i]?=some bc:=⟨aj[i]'jP,by simp⟩;have nF: ∀h,aj[i]'h=bc:= λh=>by rw[c1 h]at en;simpa using en
   have vA:n.bp.drop i=a::n.bp.drop (i+1):=(by rw[rb A];rw[c1 A]at aa;cases aa;rfl);have PU:aj.drop i=bc::aj.drop (i+1):=(by rw[rb jP];rw[nF]);have av:=ch.qu a (fr aa);obtain⟨⟨eD,eS⟩,⟨bj,eC⟩,b6,cR⟩:=av;obtain⟨tI,GM⟩: ∃k:Nat,a.f=k:=⟨a.f.toNat,by omega⟩;obtain⟨kk,GN⟩: ∃k:Nat,a.t=k:=⟨a.t.toNat,by omega⟩;have gN:tI<aA:=(by omega);have t3:kk<aA:=(by omega);have f4:tI+1<=aA:=gN;have t4:kk+1<=aA:=t3;have ahK: ∀g,(jM aA g)[tI]?=some (E (g tI)):= λg=>xy gN;have GY: ∀g,(jM aA g)[kk]?=some (E (g kk)):= λg=>xy t3;obtain⟨c,o,rfl,ar⟩:=M.hI A;obtain⟨d,h3,rfl,aV⟩:=aS.hI jP;have mL:=aB.some ar;have D1:=aB.some aV;have Ks:=aB.some ae;have tp:=aM Ks;have yj:=aM mL;have ahp:=aM D1;have aO8:=aM ar;have aO9:=aM aV;have aO3:=aM ae;have WC:=aM aH;have tu:=aB.next
   have hb:i*4+4<=n.bp.length*4:=(by omega);have bF:i+1<=n.bp.length:=A;have ji:=Bb aa;have fl:=ch.sh;have br:=fz (n:=i) (by omega);have stop: ∀(K:aC) (U:H),(bc<0\/a.c<bc)->fx eA U->K 4=E 0->K 5= .bool false->Q .e3 K U:= λK U kh jF fQ g0=>c0 _ _ jF (by rw[vA,PU];rcases kh with h|h<;>simp[xX,h]) fQ g0;have iz: ∀k q y,m.next<=q->fx eA ((m.b0 k).aO q (some y)):= λk q y bo=>(aB.b0 k).aO (by omega)
   have eZ:=lg tI;have n4:=lg kk;have ahu:(i:Int)*X<=2500*X:=y9 (by omega) (by omega);have next: ∀(K:aC) (U:H) (zJ:Int->Int),0<=bc->bc<=a.c->fx eA U->U.I nb=some ⟨jM aA zJ,true⟩->(∀x,zJ x=g x+jT a.f x bc-jT a.t x bc)->K 7=E ((i:Int)+1)->K 6= .slice (some ⟨nb,0,none⟩) aA 1->K 1= .slice (some ⟨d,0,none⟩) aj.length 1->K 2=bH b->bM K U:=by
    intro K U zJ ef e2 jF avK PW Ih mS a8 bV;refine a1 _ _ (apb ch eH agP ae M aS dJ w0 r (i+1) U K zJ (by omega) jF avK ?_ (by rw[Ih];simp) mS a8 bV (λk9 vV auP aD aJ cg gA jj l0=>bb _ _ auP aD aJ ?_ ?_ jj l0) (λk9 vV aD aJ cg gA=>c0 _ _ aD ?_ cg gA))
    ·intro x;have B:=lg x;rw[PW x];have e:(((i+1:Nat):Int))*X=(i:Int)*X+X:=(by rw[Int.natCast_add,Int.add_mul];simp);rw[e];simp only[jT];split<;>split<;>omega
    ·rw[vA,PU];simp only[xX,cg,Bool.and_true,a6,r7,I1];omega
    ·intro x;rw[gA,PW,vA,PU];simp only[jy];omega
    ·rw[vA,PU];simp only[xX,aJ,Bool.and_false]
   by_cases bK:bc<0
   ·simp(disch:=first|omega|simp only[bE];omega) [Et,qg,bF,aU,bS,A,dJ,mL,D1,Ks,hb,ji,gL,fC,nF,GM,GN,bK];exact stop _ _ (by omega) (iz _ _ _ (by omega)) (by simp) (by simp)
   by_cases cz:a.c<bc
   ·simp(disch:=first|omega|simp only[bE];omega) [Et,qg,bF,aU,bS,A,dJ,mL,D1,Ks,hb,ji,gL,fC,nF,GM,GN,bK,cz];exact stop _ _ (by omega) (iz _ _ _ (by omega)) (by simp) (by simp)
   have ct:IntKind.i64.wrap (g tI+bc)=g tI+bc:=cY (by omega) (by omega);by_cases avJ:kk=tI
   ·subst avJ;have dW:IntKind.i64.wrap (g kk)=g kk:=cY (by omega) (by omega);simp(disch:=first|omega|simp only[bE];omega) [Et,qg,bF,bB,aU,bS,A,dJ,mL,D1,Ks,aH,hb,ji,gL,fC,nF,GM,GN,gN,f4,ahK,br,bK,cz,ct,dW];refine next _ _ (λx=>if x=(kk:Int)then g kk else if x=(kk:Int)then g kk+bc else g x) (by omega) (by omega) (fx.aO (iz _ _ _ (by omega)) (by omega)) (by rw[cx (by simp only[eJ,fp];omega)]) (λx=> ?_) (by simp) (by simp[bB]) (by simp[aU]) (by simp[bS])
    simp only[jT,GM,GN];by_cases B:x=(kk:Int)
    ·subst B;simp
    ·have hk: ¬(kk:Int)=x:= λh=>B h.symm;simp[B,hk]
   ·have ahf: ¬(kk:Int)=tI:=(by omega);have dW:IntKind.i64.wrap (g kk-bc)=g kk-bc:=cY (by omega) (by omega);simp(disch:=first|omega|simp only[bE];omega) [Et,qg,bF,bB,aU,bS,A,dJ,mL,D1,Ks,aH,hb,ji,gL,fC,nF,GM,GN,gN,t3,f4,t4,ahK,GY,br,bK,cz,ct,dW,ahf];refine next _ _ (λx=>if x=(kk:Int)then g kk-bc else if x=(tI:Int)then g tI+bc else g x) (by omega) (by omega) (fx.aO (iz _ _ _ (by omega)) (by omega)) (by rw[cx (by simp only[eJ,fp];omega)]) (λx=> ?_) (by simp) (by simp[bB]) (by simp[aU]) (by simp[bS])
    simp only[jT,GM,GN];by_cases B:x=(kk:Int)
    ·subst B;have: ¬(tI:Int)=kk:= λh=>ahf h.symm;simp[this]
    ·have hk: ¬(kk:Int)=x:= λh=>B h.symm;by_cases Y:x=(tI:Int)
     ·subst Y;simp[B,hk]
     ·have yv: ¬(tI:Int)=x:= λh=>Y h.symm;simp[B,hk,Y,yv]
def yN(n:dH)(g:Int->Int)(x:Nat):Bool:=decide ((x:Int)=n.dI)||decide ((x:Int)=n.eT)||decide (g x=0)
theorem atb{n:dH}{g:Int->Int}{aA:Nat}(h: ∀k,0<=k->k<aA->yN n g k=true):Dw n g (List.range aA)=true:=by simp only[Dw,dP,om];exact λk S=>h k (gi _) S
theorem ata{n:dH}{g:Int->Int}{aA:Nat}(h: ∃k,0<=k/\k<aA/\yN n g k=false):Dw n g (List.range aA)=false:=by
 obtain⟨k,_,S,h⟩:=h;cases ar:Dw n g (List.range aA)with
 |false=>rfl
 | true=>simp only[Dw,dP,om]at ar;have:=ar k S;unfold yN at h;rw[h]at this;cases this
theorem apc{n:dH}{aA:Nat}(eH:n.dQ=aA)(PI:aA<100000){v:Value}{b nb:Nat}{m:H}(lg:m.I b=some ⟨ma n v,true⟩){g:Int->Int}(aH:m.I nb=some ⟨jM aA g,true⟩){Q:cM->aC->H->Prop}: ∀(r i:Nat) (z:aC),i+r=aA->
 z 9=E i->z 6= .slice (some ⟨nb,0,none⟩) aA 1->z 2=bH b->
 (∀K,(∀k,i<=k->k<aA->yN n g k=true)->K 6= .slice (some ⟨nb,0,none⟩) aA 1->K 2=bH b->Q (.cH 2) K m)->
 (∀K,(∃k,i<=k/\k<aA/\yN n g k=false)->K 4=E 0->K 5= .bool false->Q .e3 K m)->fG N (.loop Eu) z m Q
 | 0,i,z,W,qg,bB,bS,bb,c0=>by refine j7 λbM a1=> ?_;have A: ¬(i:Int)<n.dQ:=(by omega);have D: ¬i<aA:=(by omega);simp[Eu,qg,bS,A,lg];exact bb _ (λk A D=>by omega) (by simp[bB]) (by simp[bS])
 | r+1,i,z,W,qg,bB,bS,bb,c0=>by
   refine j7 λbM a1=> ?_;have A:(i:Int)<n.dQ:=(by omega);have D:i<aA:=(by omega);have ai:i+1<=aA:=D;have br:=fz (n:=i) (by omega);have yr:(jM aA g)[i]?=some (E (g i)):=xy D;have next: ∀(K:aC),yN n g i=true->K 9=E ((i:Int)+1)->K 6= .slice (some ⟨nb,0,none⟩) aA 1->K 2=bH b->bM K m:=by
    intro K av Ih mS bV;refine a1 _ _ (apc eH PI lg aH r (i+1) K (by omega) (by rw[Ih];simp) mS bV (λk9 aD aJ cg=>bb _ (λk bK cz=> ?_) aJ cg) (λk9 aD aJ cg=>c0 _ ?_ aJ cg))
    ·by_cases h:k=i
     ·rw[h];exact av
     ·exact aD k (by omega) cz
    ·obtain⟨k,bK,cz,dV⟩:=aD;exact⟨k,by omega,cz,dV⟩
   by_cases b6:(i:Int)=n.dI
   ·simp[Eu,lg,A,br,qg,bS,eq_true b6];exact next _ (by simp[yN, *]) (by simp) (by simp[bB]) (by simp[bS])
   by_cases cR:(i:Int)=n.eT
   ·simp[Eu,lg,A,br,qg,bS,b6,eq_true cR];exact next _ (by simp[yN, *]) (by simp) (by simp[bB]) (by simp[bS])
   by_cases lz:g i=0
   ·simp[Eu,lg,aH,A,ai,br,fC,yr,D,qg,bB,bS,b6,cR,lz];exact next _ (by simp[yN, *]) (by simp) (by simp[bB]) (by simp[bS])
   ·simp[Eu,lg,aH,A,ai,fC,yr,D,qg,bB,bS,b6,cR,lz];exact c0 _ ⟨i,c8 _,D,by simp[yN, *]⟩ (by simp) (by simp)
theorem apd{n:dH}{v w:Value}{aj:List Int}{m:H}(M:m0 m v n.bp)(aS:wx m w aj):ep N 145 [E8 n v,w] m λr U=>r= .tuple #[E (AQ n aj).1,.bool (AQ n aj).2]/\fx m U:=by
 rw[asG (by simp)];obtain⟨di,gO⟩:=M.len;obtain⟨WA,ahQ⟩:=aS.len;have eE:fx m ((m.b0 3).aO m.next (some ⟨ma n v,true⟩)):=((fx.refl m).b0 3).aO (c8 _);simp(disch:=first|omega|simp only[bE];omega) [X9];refine(apa (M.bD eE)).bD λr cI Z=> ?_;obtain⟨rfl,aB⟩:=Z;have iz:=eE.trans aB;have aH:cI.I m.next=some ⟨ma n v,true⟩:=aB.some (cx (by simp))
 have WC:=aM aH;have vJ:=iz.next
 cases ch:jK n
 ·simp(disch:=first|omega|simp only[bE];omega);exact⟨by simp[AQ,ch],iz⟩
 have qQ:=M.bD iz;have w5:=aS.bD iz;by_cases az:aj.length=n.bp.length
 ·have qG:=Tk.1 ch;obtain⟨aA,eH⟩: ∃aA:Nat,n.dQ=aA:=⟨n.dQ.toNat,by have:=qG.ee;omega⟩;obtain⟨fI,uB⟩: ∃k:Nat,n.dI=k:=⟨n.dI.toNat,by have:=qG.dI.1;omega⟩;have avQ:(fI:Int)=n.dI:=uB.symm;have zN:n.dQ.toNat=aA:=(by omega);have avR:n.dI.toNat=fI:=(by omega);have bO:0<=n.dI:=qG.dI.1;have aU:n.dI<(aA:Int):=(by have:=qG.dI.2;omega);have bW:fI<aA:=(by omega);have z0:0<=n.dQ:=(by omega);have dU:=qG.Ar;have hY:n.dQ*8<=140737488355328:=(by omega);have jA:n.dQ<=9223372036854775807:=(by omega);simp(disch:=first|omega|simp only[bE];omega) [di,gO,WA,ahQ,aH,az,zN,z0,hY,jA];have eP:cI.next<=cI.next+2:=Nat.le_add_right _ _
  have awe:fx cI ((cI.b0 4).aO (cI.next+2) (some ⟨List.replicate aA (E 0),true⟩)):=((fx.refl cI).b0 4).aO eP;refine apb qG eH rfl (eA:=cI) (nb:=cI.next+2) aH qQ w5 az eP n.bp.length 0 _ _ (λ_=>0) (by omega) awe (by rw[cx (by simp only[fp];omega),abQ]) (by simp) (by simp) (by simp) (by simp) (by simp) (λK U zJ aD aJ cg gA jj l0=> ?_) (λK U aD aJ cg gA=> ?_)
  ·have zT:=aD.some aH;have PW:zJ=jy n.bp aj:=(by funext x;rw[gA];simp);subst PW;rw[oj,oj]at cg;simp[];refine apc eH (by omega) zT aJ aA 0 _ (by omega) (by simp) (by simp[jj]) (by simp[l0]) (λk9 eD eS gN=> ?_) (λk9 eD eS gN=> ?_)
   ·have ar:=atb eD;have yr:(jM aA (jy n.bp aj))[fI]?=some (E (jy n.bp aj n.dI)):=(by rw[xy bW,avQ]);simp(disch:=omega) [eS,gN,zT,aJ,bO,aU,avR,yr,fC];exact⟨bW,by simp[AQ,ch,az,cg,zN,ar,value],iz.trans aD⟩
   ·have ar:=ata eD;simp(disch:=omega) [eS,gN];exact⟨by simp[AQ,ch,az,cg,zN,ar],iz.trans aD⟩
  ·rw[oj,oj]at aJ;simp(disch:=omega) [cg,gA];exact⟨by simp[AQ,ch,az,aJ],iz.trans aD⟩
 ·have ib: ¬(aj.length:Int)=n.bp.length:=(by omega);simp(disch:=omega) [di,gO,WA,ahQ,aH,ib];exact⟨by simp[AQ,ch,az],iz⟩
def Dy(iZ:List Bool)(x:Int):Bool:=iZ.getD x.toNat false
end Go.Proofs.YtmmkkggfmigppaaGreat
namespace Go.hR
def hS(G:Int):hz:=if 0<=G then(G.toNat,true)else((-1-G).toNat,false)
def enc(e:hz):Int:=if e.2 then(e.1:Int)else-1-(e.1:Int)
theorem atn(e:hz):hS (enc e)=e:=by
 obtain⟨i,b⟩:=e;cases b
 ·have h: ¬(0:Int)<= -1-(i:Int):=(by omega);have D:(-1-(-1-(i:Int))).toNat=i:=(by omega);simp only[enc,hS,h,D,if_false,je]
 ·simp[enc,hS]
def eK{dF:Type}(f:Int->dF)(x:Int)(v:dF):Int->dF:= λy=>if y=x then v else f y
structure lx(n:dH)(aj:List Int)(cb:Int->Bool)(fS:Int->hz)(q:List Int):Prop where
 dI:cb n.dI=true
 hN: ∀x,cb x=true->n.hN x
 Jq: ∃tN:Int->Nat,∀x,cb x=true->x≠n.dI->0<cN n aj (fS x)/\hX n (fS x)=x/\cb (gC n (fS x))=true/\tN (gC n (fS x))<tN x
 hU: ∀x∈q,cb x=true
 Gr: ∀e,0<cN n aj e->cb (gC n e)=true->gC n e∉q->cb (hX n e)=true
theorem lx.add{n:dH}{aj:List Int}{cb:Int->Bool}{fS:Int->hz}{q:List Int}(h:lx n aj cb fS q){e:hz}(A:0<cN n aj e)(D:cb (gC n e)=true)(ai:cb (hX n e)=false)(aT:n.hN (hX n e)):
 lx n aj (eK cb (hX n e) true) (eK fS (hX n e) e) (q++[hX n e]):=by
 have iu: ∀x,cb x=true->eK cb (hX n e) true x=true:= λx B=>by unfold eK;split<;>first|rfl|exact B
 refine⟨iu _ h.dI,λx B=> ?_,?_,λx B=> ?_,λdd aE a2 cj=> ?_⟩
 ·unfold eK at B;split at B
  ·rename_i hk;rw[hk];exact aT
  ·exact h.hN x B
 ·obtain⟨tN,al⟩:=h.Jq;refine⟨λy=>if y=hX n e then tN (gC n e)+1 else tN y,λx B F=> ?_⟩;by_cases Qf:x=hX n e
  ·subst Qf;have bG:gC n e≠hX n e:= λbT=>by rw[bT,ai]at D;cases D
   have hb:eK fS (hX n e) e (hX n e)=e:=(by unfold eK;rw[if_pos rfl]);rw[hb];refine⟨A,rfl,iu _ D,?_⟩;simp only[if_neg bG,if_true];omega
  ·have g3:cb x=true:=(by unfold eK at B;rw[if_neg Qf]at B;exact B);obtain⟨bt,bR,a3,a4⟩:=al x g3 F;have hb:eK fS (hX n e) e x=fS x:=(by unfold eK;rw[if_neg Qf]);rw[hb];have bG:gC n (fS x)≠hX n e:= λbT=>by rw[bT,ai]at a3;cases a3
   refine⟨bt,bR,iu _ a3,?_⟩;simp only[if_neg bG,if_neg Qf];exact a4
 ·rcases js.1 B with B|B
  ·exact iu _ (h.hU x B)
  ·simp at B;subst B;unfold eK;rw[if_pos rfl]
 ·have bG:gC n dd≠hX n e:= λbT=>cj (by rw[bT];simp);have wR:cb (gC n dd)=true:=(by unfold eK at a2;rw[if_neg bG]at a2;exact a2);exact iu _ (h.Gr dd aE wR (λbT=>cj (by simp[bT])))
theorem lx.an8{n:dH}{aj:List Int}{cb:Int->Bool}{fS:Int->hz}{bf:Int}{q:List Int}(h:lx n aj cb fS (bf::q))(a9: ∀e,0<cN n aj e->gC n e=bf->cb (hX n e)=true):lx n aj cb fS q:=by
 refine⟨h.dI,h.hN,h.Jq,λx B=>h.hU x (by simp[B]),λe aE a2 cj=> ?_⟩;by_cases bT:gC n e=bf
 ·exact a9 e aE bT
 ·exact h.Gr e aE a2 (λab=>by
   rcases hi.1 ab with h|h
   ·exact bT h
   ·exact cj h)
theorem lx.CA{n:dH}{aj:List Int}{cb:Int->Bool}{fS:Int->hz}(h:lx n aj cb fS []):Jc n aj cb fS:=
 ⟨h.dI,h.Jq,λe aE a2=>h.Gr e aE a2 (by simp)⟩
theorem lx.apL{n:dH}(ch:n.iN)(aj:List Int)(fS:Int->hz):lx n aj (eK (λ_=>false) n.dI true) fS [n.dI]:=by
 have only: ∀x,eK (λ_=>false) n.dI true x=true->x=n.dI:= λx B=>by
  unfold eK at B;split at B
  ·assumption
  ·cases B
 refine⟨by unfold eK;rw[if_pos rfl],λx B=>by rw[only x B];exact ch.dI,⟨λ_=>0,λx B F=>absurd (only x B) F⟩,λx B=>by simp at B;subst B;unfold eK;rw[if_pos rfl],λe aE a2 cj=> ?_⟩;exact absurd (by simp[only _ a2]) cj
def m3(cb:Int->Bool):Nat->Nat
 |0=>0
 |k+1=>m3 cb k+if cb k=true then 0 else 1
theorem Vn(cb:Int->Bool): ∀k,m3 cb k<=k
 |0=>c8 _
 |k+1=>by have:=Vn cb k;simp only[m3];split<;>omega
theorem afB(cb:Int->Bool)(x:Int): ∀k:Nat,(k:Int)<=x->m3 (eK cb x true) k=m3 cb k
 |0,_=>rfl
 | k+1,h=>by have e:eK cb x true (k:Int)=cb k:=(by unfold eK;rw[if_neg (by omega)]);simp only[m3,afB cb x k (by omega),e]
theorem Dv(cb:Int->Bool)(x:Int)(bY:0<=x)(B:cb x=false): ∀k:Nat,x<k->m3 (eK cb x true) k+1=m3 cb k
 |0,h=>by omega
 | k+1,h=>by
   by_cases S:x=k
   ·subst S;have e:eK cb (k:Int) true (k:Int)=true:=(by unfold eK;rw[if_pos rfl]);simp only[m3,afB cb k k (sY _),e,B,if_true];simp
   ·have e:eK cb x true (k:Int)=cb k:=(by unfold eK;rw[if_neg (by omega)]);have:=Dv cb x bY B k (by omega);simp only[m3,e];omega
structure Oy(n:dH)(jd:Int->List Int):Prop where
 Gy: ∀x,n.hN x-> ∀G∈jd x,(hS G).1<n.bp.length/\gC n (hS G)=x/\ -2500<=G/\G<=2500
 all: ∀e:hz,e.1<n.bp.length-> ∃G∈jd (gC n e),hS G=e
theorem ac4{n:dH}(ch:n.iN){e:hz}(h:e.1<n.bp.length):n.hN (gC n e)/\n.hN (hX n e):=by obtain⟨a,aa⟩: ∃a,n.bp[e.1]?=some a:=⟨n.bp[e.1]'h,by simp⟩;obtain⟨A,D,_⟩:=ch.qu a (fr aa);unfold gC hX;rw[aa];cases e.2<;>exact⟨by assumption,by assumption⟩
end Go.hR
namespace Go.Proofs.YtmmkkggfmigppaaGreat
open Go Go.DI Go.hR
structure rp(n:dH)(aj:List Int)(v:Value)(cB cL e9:Nat)(aA:Nat)(m:H):Prop where
 s:m.I cB=some ⟨[E n.dQ,E n.dI,E n.eT,v,.slice (some ⟨cL,0,none⟩) aj.length 1,.slice (some ⟨e9,0,none⟩) aA 1],true⟩
 a:m0 m v n.bp
 f:m.I cL=some ⟨aj.map (Value.int .i64 ·),true⟩
theorem rp.bD{n:dH}{aj:List Int}{v:Value}{cB cL e9 aA:Nat}{m U:H}(h:rp n aj v cB cL e9 aA m)(aB:fx m U):rp n aj v cB cL e9 aA U:=⟨aB.some h.s,h.a.bD aB,aB.some h.f⟩
theorem Vs(G:Int):(∃i:Nat,0<=G/\G=i/\G.toNat=i/\hS G=(i,true))\/(∃i:Nat,¬0<=G/\ -1-G=(i:Int)/\hS G=(i,false)):=by
 by_cases h:0<=G
 ·exact .inl ⟨G.toNat,h,by omega,rfl,by simp[hS,h]⟩
 ·exact .inr ⟨(-1-G).toNat,h,by omega,by simp[hS,h]⟩
theorem af0{n:dH}(ch:n.iN){aj:List Int}(hb:s3 n aj){v:Value}{cB cL e9 aA:Nat}{m:H}(h:rp n aj v cB cL e9 aA m){G:Int}(bw:(hS G).1<n.bp.length):qq N 235 [bH cB,E G] m (.tuple #[E (hX n (hS G)),E (cN n aj (hS G))]) m:=by
 apply qq.xt;rw[asP (by simp)];have F:=h.s;have a5:=h.f;have fl:=ch.sh;rcases Vs G with⟨i,bY,W,lh,aV⟩|⟨i,bY,W,aV⟩
 all_goals
  rw[aV]at bw⊢;simp only at bw;obtain⟨c,o,rfl,ar⟩:=h.a.hI bw;obtain⟨a,aa⟩: ∃a,n.bp[i]?=some a:=⟨n.bp[i]'bw,by simp⟩;have BJ:i<aj.length:=(by rw[hb.1];exact bw);obtain⟨bc,en⟩: ∃bc,aj[i]?=some bc:=⟨aj[i]'BJ,by simp⟩;have nF: ∀h,aj[i]'h=bc:= λh=>by rw[c1 h]at en;simpa using en
  have k0:=hb.2 i a bc aa en;have We:=(ch.qu a (fr aa)).2.2;have sE:=uk aa (j:=0) (by omega);have a8:=uk aa (j:=1) (by omega);have bV:=uk aa (j:=2) (by omega);rw[wu]at sE;simp only[gL]at sE;simp[gL]at a8 bV;have xw:(fV n.bp)[i*4]?=some (E a.f):=sE;have bC: ∀h:i*4<(fV n.bp).length,(fV n.bp)[i*4]'h=E a.f:= λh=>by have:=xw;rw[c1 h]at this;simpa using this
  have er:i*4+1<=n.bp.length*4:=(by omega);have eO:i*4+2<=n.bp.length*4:=(by omega);have g8:i*4+3<=n.bp.length*4:=(by omega);have g9:(i:Int)<n.bp.length:=(by omega);have nv:(i:Int)<aj.length:=(by omega);have mI:i+1<=aj.length:=BJ;have ct:IntKind.i64.wrap (a.c-bc)=a.c-bc:=cY (by omega) (by omega);have dW:IntKind.i64.wrap (i:Int)=i:=cY (by omega) (by omega)
 ·have hY:G<n.bp.length:=(by omega);have jA:G<aj.length:=(by omega);simp(disch:=omega) [Rt,F,a5,ar,bY,lh,a8,bV,fC,nF,eO,g8,mI,hY,jA,ct];simp[hX,cN,aa,en]
 ·simp[Rt,F,a5,ar,bY,W,xw,fC,nF,er,g9,nv,mI,dW];simp[hX,cN,aa,en]
theorem ae4{n:dH}(ch:n.iN){aj:List Int}{v:Value}{cB cL e9 aA:Nat}{m:H}(h:rp n aj v cB cL e9 aA m){G:Int}(bw:(hS G).1<n.bp.length):qq N 236 [bH cB,E G] m (E (gC n (hS G))) m:=by
 apply qq.xt;rw[asQ (by simp)];have F:=h.s;have fl:=ch.sh;rcases Vs G with⟨i,bY,W,lh,aV⟩|⟨i,bY,W,aV⟩
 all_goals
  rw[aV]at bw⊢;simp only at bw;obtain⟨c,o,rfl,ar⟩:=h.a.hI bw;obtain⟨a,aa⟩: ∃a,n.bp[i]?=some a:=⟨n.bp[i]'bw,by simp⟩;have sE:=uk aa (j:=0) (by omega);have a8:=uk aa (j:=1) (by omega);rw[wu]at sE;simp only[gL]at sE;simp[gL]at a8;have xw:(fV n.bp)[i*4]?=some (E a.f):=sE;have bC: ∀h:i*4<(fV n.bp).length,(fV n.bp)[i*4]'h=E a.f:= λh=>by have:=xw;rw[c1 h]at this;simpa using this
  have er:i*4+1<=n.bp.length*4:=(by omega);have eO:i*4+2<=n.bp.length*4:=(by omega);have g9:(i:Int)<n.bp.length:=(by omega);have dW:IntKind.i64.wrap (i:Int)=i:=cY (by omega) (by omega)
 ·have hY:G<n.bp.length:=(by omega);simp[Ru,F,ar,bY,lh,xw,fC,er,hY];simp[gC,aa]
 ·simp[Ru,F,ar,bY,W,a8,fC,eO,g9,dW];simp[gC,aa]
def kq(aA:Nat)(g:Int->Bool):List Value:=(List.range aA).map λ(x:Nat)=> .bool (g x)
@[simp] theorem aTs{aA:Nat}{g:Int->Bool}:(kq aA g).length=aA:=by simp[kq]
@[simp] theorem Dq{aA:Nat}{g:Int->Bool}{k:Nat}(h:k<(kq aA g).length):(kq aA g)[k]'h= .bool (g k):=by simp[kq]
theorem Dp{aA:Nat}{g:Int->Bool}{k:Nat}(h:k<aA):(kq aA g)[k]?=some (.bool (g k)):=by simp[kq,h]
theorem Nj{aA:Nat}{g:Int->Bool}{k:Nat}{c:Bool}:(kq aA g).set k (.bool c)=kq aA (eK g k c):=by
 apply AZ
 ·simp
 ·intro i A D;simp at A;rw[List.getElem_set];simp only[Dq,eK];by_cases h:k=i
  ·subst h;simp
  ·have: ¬(i:Int)=k:=(by omega);simp[h,this]
theorem abP{aA:Nat}{g:Int->Int}{k:Nat}{c:Int}:(jM aA g).set k (E c)=jM aA (eK g k c):=v5
theorem aoV{aA:Nat}:List.replicate aA (.bool false)=kq aA (λ_=>false):=by apply AZ<;>simp[kq]
structure xV(aA eh dO gJ off:Nat)(iV:List Value)(q:List Int)(cb:Int->Bool)(dT:Int->Int)(m:H):Prop where
 b:m.I eh=some ⟨jM aA dT,true⟩
 e:m.I dO=some ⟨kq aA cb,true⟩
 abp:m.I gJ=some ⟨iV,true⟩
 yW:off+q.length<=iV.length
 aou:(iV.drop off).take q.length=q.map (Value.int .i64 ·)
 dY:eh≠dO
 ee:gJ≠eh
 l9:gJ≠dO
structure OC(cB eh dO gJ off aA:Nat)(q:List Int)(z:aC):Prop where
 bO:z 0=bH cB
 dR:z 4= .slice (some ⟨eh,0,none⟩) aA 1
 bz:z 5= .slice (some ⟨dO,0,none⟩) aA 1
 bB:z 6= .slice (some ⟨gJ,off,none⟩) q.length 1
theorem aby{n:dH}(ch:n.iN){aA:Nat}(eH:n.dQ=aA){aj:List Int}(k0:s3 n aj){v:Value}{cB cL e9:Nat}{eA:H}(cc:rp n aj v cB cL e9 aA eA){eh dO:Nat}(ya:eA.next<=eh)(BI:eA.next<=dO)
 {bf:Int} {L:List Int} {gl:Value} (gd:wx eA gl L) (V9: ∀G∈L,(hS G).1<n.bp.length/\gC n (hS G)=bf) (Bx:L.length<100000) {Q:cM->aC->H->Prop}:
 ∀(r j:Nat) (m:H) (z:aC) (gJ off:Nat) (iV:List Value) (q:List Int) (cb:Int->Bool) (dT:Int->Int),j+r=L.length->fx eA m->eA.next<=gJ->xV aA eh dO gJ off iV q cb dT m->q.length+m3 cb aA<=701->
 lx n aj cb (λx=>hS (dT x)) q->cb bf=true->(∀G∈L.take j,0<cN n aj (hS G)->cb (hX n (hS G))=true)->OC cB eh dO gJ off aA q z->z 49=gl->z 50=E L.length->z 51=E j->
 (∀K U mc o9 rU yV jr kY new,fx eA U->eA.next<=mc->xV aA eh dO mc o9 rU (q++new) jr kY U->yV=q++new->new.length+m3 jr aA=m3 cb aA->lx n aj jr (λx=>hS (kY x)) (q++new)->(∀G∈L,0<cN n aj (hS G)->jr (hX n (hS G))=true)->OC cB eh dO mc o9 aA (q++new) K->Q (.cH 2) K U)->
 fG N (.loop Hj) z m Q
 | 0,j,m,z,gJ,off,iV,q,cb,dT,aX,aB,oG,c0,yq,b9,a9,bw,F,np,mx,u3,bb=>by refine j7 λbM a1=> ?_;obtain⟨bO,dR,bz,bB⟩:=F;have A: ¬j<L.length:=(by omega);simp(disch:=first|omega|simp only[bE];omega) [Hj,mx,u3,A];refine bb _ _ gJ off iV q cb dT [] aB oG (by simpa using c0) (by simp) (by simp) (by simpa using b9) (λG w7=>bw G ?_) ⟨by simp[bO],by simp[dR],by simp[bz],by simp[bB]⟩;rw[h7 (by omega)];exact w7
 | r+1,j,m,z,gJ,off,iV,q,cb,dT,aX,aB,oG,c0,yq,b9,a9,bw,F,np,mx,u3,bb=>by
   refine j7 λbM a1=> ?_;have mM:=F;obtain⟨bO,dR,bz,bB⟩:=mM;have A:j<L.length:=(by omega);have jP:j+1<=L.length:=A;obtain⟨G,rI⟩: ∃G,L[j]?=some G:=⟨L[j]'A,by simp⟩;have w8: ∀h,L[j]'h=G:= λh=>by rw[c1 h]at rI;simpa using rI
   have awT:=fr rI;obtain⟨ah0,awR⟩:=V9 G awT;obtain⟨EX,bk,rfl,tp⟩:=gd.hI A;have Wr:=aB.some tp;have dm:=aM tp;have Wc:=cc.bD aB;have ahU:L.take (j+1)=L.take j++[G]:=(by rw[qm,rI];rfl);have vy: ∀bA:Value->H->Prop,ep N 235 [bH cB,E G] m bA=bA (.tuple #[E (hX n (hS G)),E (cN n aj (hS G))]) m:= λbA=>(af0 ch k0 Wc ah0).wp;have oZ:=(ac4 ch ah0).2;obtain⟨hb,aQ,bo,vP,n7,dY,ee,l9⟩:=c0;have aak:=aM hb;have aal:=aM aQ;have aao:=aM bo;have br:=fz (n:=j) (by omega);generalize fO:hX n (hS G)=T at*;generalize agQ:cN n aj (hS G)=R at*;obtain⟨bj,eC⟩:=oZ;rw[eH]at eC;obtain⟨k,rfl⟩: ∃k:Nat,T=k:=⟨T.toNat,by omega⟩;have t3:k<aA:=(by omega);have t4:k+1<=aA:=t3;have n8: ∀g,(kq aA g)[k]?=some (.bool (g k)):= λg=>Dp t3;have n9: ∀g,(jM aA g)[k]?=some (E (g k)):= λg=>xy t3;have dK:(R<=0\/cb k=true)-> ∀(K:aC) (U:H),U=m->OC cB eh dO gJ off aA q K->K 49= .slice (some ⟨EX,0,none⟩) L.length 1->K 50=E L.length->K 51=E ((j:Int)+1)->bM K U:=by
    intro ar K U ab yV aEx aEy aEz;subst ab;refine a1 _ _ (aby ch eH k0 cc ya BI gd V9 Bx r (j+1) U K gJ off iV q cb dT (by omega) aB oG ⟨hb,aQ,bo,vP,n7,dY,ee,l9⟩ yq b9 a9 (λj8 w7=> ?_) yV aEx aEy (by rw[aEz];simp) bb);rw[ahU]at w7;rcases js.1 w7 with h|h
    ·exact bw j8 h
    ·simp at h;subst h;intro al;rw[fO];rw[agQ]at al;rcases ar with h|h
     ·omega
     ·exact h
   by_cases bK:0<R
   ·cases cz:cb k
    ·have awo:(q.length+1)*8<=140737488355328:=(by omega);have awp:q.length+1<=9223372036854775807:=(by omega);simp(disch:=first|omega|simp only[bE];omega) [Hj,np,mx,u3,bO,dR,bz,bB,A,jP,Wr,w8,fC,vy,br,t3,t4,n8,hb,aQ,bo,vP,n7,bK,cz,awo,awp,Nj,abP,-v5];refine a1 _ _ (aby ch eH k0 cc ya BI gd V9 Bx r (j+1) _ _ (m.next+3) 0 (q.map (Value.int .i64 ·)++[E k]) (q++[(k:Int)]) (eK cb k true) (eK dT k G) (by omega) ⟨by have:=aB.next;simp only[eJ,fp];omega,λb hb=>by have:=aB.next;simp(disch:=first|omega|(simp only[eJ,fp];omega)) only[a7,cJ];exact aB.I b hb⟩ (by have:=aB.next;omega) ⟨?_,?_,?_,by simp,by rw[oj,h7 (by simp)];simp,dY,by omega,by omega⟩ ?_ ?_ ?_ ?_ ⟨by simp[bO],by simp[dR],by simp[bz],by simp⟩ (by simp[np]) (by simp[mx]) (by simp) (λK U mc o9 rU yV jr kY new aE a2 cj dy fB fb ja qC=>bb K U mc o9 rU (q++(k:Int)::new) jr kY ((k:Int)::new) aE a2 (by simpa using cj) rfl ?_ (by simpa using fb) ja (by simpa using qC)))
     ·simp(disch:=first|omega|(simp only[eJ,fp];omega)) only[cx,a7,cJ]
     ·simp(disch:=first|omega|(simp only[eJ,fp];omega)) only[cx,a7,cJ]
     ·simp(disch:=first|omega|(simp only[eJ,fp];omega)) only[cx]
     ·have:=Dv cb k (by omega) cz aA eC;simp;omega
     ·have BA:=b9.add (e:=hS G) (by rw[agQ];exact bK) (by rw[awR];exact a9) (by rw[fO];exact cz) (by rw[fO];exact⟨bj,by omega⟩);rw[fO]at BA;have e:(λx=>hS (eK dT (k:Int) G x))=eK (λx=>hS (dT x)) (k:Int) (hS G):=by
       funext x;unfold eK;split<;>rfl
      rw[e];exact BA
     ·unfold eK;split<;>first|rfl|exact a9
     ·intro j8 w7 al;rw[ahU]at w7;rcases js.1 w7 with h|h
      ·unfold eK;split
       ·rfl
       ·exact bw j8 h al
      ·simp at h;subst h;rw[fO];unfold eK;rw[if_pos rfl]
     ·have:=Dv cb k (by omega) cz aA eC;simp;omega
    ·simp[Hj,np,mx,u3,bO,bz,A,jP,Wr,w8,fC,vy,br,t3,t4,n8,aQ,bK,cz];exact dK (.inr cz) _ _ rfl ⟨by simp[bO],by simp[dR],by simp[bz],by simp[bB]⟩ (by simp[np]) (by simp[mx]) (by simp)
   ·simp[Hj,np,mx,u3,bO,A,jP,Wr,w8,fC,vy,br,bK];exact dK (.inl (by omega)) _ _ rfl ⟨by simp[bO],by simp[dR],by simp[bz],by simp[bB]⟩ (by simp[np]) (by simp[mx]) (by simp)
structure Gb(jd:Int->List Int)(e9 aA:Nat)(m:H):Prop where
 I: ∃sB:List Value,m.I e9=some ⟨sB,true⟩/\sB.length=aA/\ ∀k:Nat,k<aA-> ∃gl,sB[k]?=some gl/\wx m gl (jd k)
theorem Gb.bD{jd:Int->List Int}{e9 aA:Nat}{m U:H}(h:Gb jd e9 aA m)(aB:fx m U):Gb jd e9 aA U:=by obtain⟨sB,A,D,ai⟩:=h.I;exact⟨sB,aB.some A,D,λk S=>by obtain⟨gl,aE,a2⟩:=ai k S;exact⟨gl,aE,a2.bD aB⟩⟩
set_option maxRecDepth 20000 in
theorem aET{n:dH}(ch:n.iN){aA:Nat}(eH:n.dQ=aA){aj:List Int}(k0:s3 n aj){v:Value}{cB cL e9:Nat}{eA:H}(cc:rp n aj v cB cL e9 aA eA){jd:Int->List Int}(gX:Gb jd e9 aA eA)(zO:Oy n jd)(Ke: ∀x,(jd x).length<100000){eh dO:Nat}(ya:eA.next<=eh)(BI:eA.next<=dO)
 {Q:cM->aC->H->Prop}:
 ∀(k:Nat) (m:H) (z:aC) (gJ off:Nat) (iV:List Value) (q:List Int) (cb:Int->Bool) (dT:Int->Int),q.length+m3 cb aA=k->k<=701->fx eA m->eA.next<=gJ->xV aA eh dO gJ off iV q cb dT m->
 lx n aj cb (λx=>hS (dT x)) q->OC cB eh dO gJ off aA q z->
 (∀K U jr kY,fx eA U->U.I eh=some ⟨jM aA kY,true⟩->U.I dO=some ⟨kq aA jr,true⟩->lx n aj jr (λx=>hS (kY x)) []->K 4= .slice (some ⟨eh,0,none⟩) aA 1->K 5= .slice (some ⟨dO,0,none⟩) aA 1->Q (.cH 0) K U)->
 fG N (.loop Ld) z m Q:=by
 intro k;induction k with
 | zero=>intro m z gJ off iV q cb dT S Ww aB oG c0 b9 F bb;have bo:q=[]:=r6.1 (by omega);subst bo;refine j7 λbM a1=> ?_;obtain⟨bO,dR,bz,bB⟩:=F;simp(disch:=omega) [Ld,bB];exact bb _ _ cb dT aB c0.b c0.e b9 (by simp[dR]) (by simp[bz])
 | succ k cf=>
   intro m z gJ off iV q cb dT S Ww aB oG c0 b9 F bb;refine j7 λbM a1=> ?_;have mM:=F;obtain⟨bO,dR,bz,bB⟩:=mM;cases q with
   | nil=>simp(disch:=first|omega|simp only[bE];omega) [Ld,bB];exact bb _ _ cb dT aB c0.b c0.e b9 (by simp[dR]) (by simp[bz])
   | cons bf q=>
     have Wc:=cc.bD aB;have P9:=Wc.s;obtain⟨sB,hu,h3,xr⟩:=(gX.bD aB).I;have a9:=b9.hU bf (by simp);obtain⟨k6,oi⟩:=b9.hN bf a9;obtain⟨tJ,rfl⟩: ∃tJ:Nat,bf=tJ:=⟨bf.toNat,by omega⟩;have mz:tJ<aA:=(by omega);have FR:tJ+1<=aA:=mz;obtain⟨anL,ef,e2,hF⟩:=gX.I;have awf:anL=sB:=(by have:=aB.some ef;rw[hu]at this;cases this;rfl);subst awf;obtain⟨gl,hZ,jw⟩:=hF tJ mz;have aB1: ∀h,anL[tJ]'h=gl:= λh=>by rw[c1 h]at hZ;simpa using hZ
     obtain⟨di,gO⟩:=jw.len;have n7:=c0.aou;have yq:=c0.yW;have z2:=c0.abp;simp only[mC]at yq n7 bB S;have KC:iV[off]?=some (E tJ):=(by have:=congrArg (λl=>l[0]?) n7;simp at this;exact this);have WX: ∀h,iV[off]'h=E tJ:= λh=>by rw[c1 h]at KC;simpa using KC
     have a8:off+1<=iV.length:=(by omega);have bV:off<iV.length:=(by omega);simp(disch:=first|omega|simp only[bE];omega) [Ld,bO,bB,P9,hu,h3,mz,FR,aB1,di,gO,z2,WX,a8,fC];refine aby ch eH k0 cc ya BI jw (λG bw=>⟨((zO.Gy tJ ⟨k6,by omega⟩) G bw).1,((zO.Gy tJ ⟨k6,by omega⟩) G bw).2.1⟩) (Ke tJ) (jd tJ).length 0 m _ gJ off iV ((tJ:Int)::q) cb dT (by omega) aB oG c0 (by simp;omega) b9 a9 (λG bw=>by simp at bw) ⟨by simp[bO],by simp[dR],by simp[bz],by simp[bB]⟩ (by simp) (by simp[]) (by simp) (λK U mc o9 rU yV jr kY new aE a2 cj dy fB fb ja qC=> ?_);obtain⟨a0,a4,ft,jh⟩:=qC;have awl:lx n aj jr (λx=>hS (kY x)) (q++new):=(by refine lx.an8 (bf:=(tJ:Int)) (by simpa using fb) λe aha avB=> ?_;obtain⟨a,bc,aa,_⟩:=yZ aha;obtain⟨G,G2,w8⟩:=zO.all e (by have:=(cG.1 aa).1;exact this);rw[avB]at G2;have:=ja G G2;rw[w8]at this;exact this aha);have x9:=cj;obtain⟨pd,Tz,TE,abT,Nk,abF,abG,abH⟩:=x9;simp only[tZ,mC,iv,lO]at abT Nk jh;have aEq:o9<rU.length:=(by omega);have hY:(1:Int)<=(q.length:Int)+(new.length:Int)+1:=(by omega);have z3:((q.length:Int)+(new.length:Int)+1).toNat=q.length+new.length+1:=(by omega);have jA:q.length+new.length+1-1=q.length+new.length:=(by omega);simp[jh,hY,jA,z3];refine a1 _ _ (cf U _ mc (o9+1) rU (q++new) jr kY (by simp;omega) (by omega) aE a2 ⟨pd,Tz,TE,by simp;omega,?_,abF,abG,abH⟩ awl ⟨by simp[a0],by simp[a4],by simp[ft],by simp⟩ bb);rw[rb aEq,Oj]at Nk;injection Nk with _ h;rw[iv];exact h
set_option maxRecDepth 20000 in
theorem aoD{n:dH}(ch:n.iN){aA:Nat}(eH:n.dQ=aA){aj:List Int}(k0:s3 n aj){v:Value}{cB cL e9:Nat}{m:H}(cc:rp n aj v cB cL e9 aA m){jd:Int->List Int}(gX:Gb jd e9 aA m)(zO:Oy n jd)(Ke: ∀x,(jd x).length<100000):
 ep N 185 [bH cB] m λr U=>fx m U/\ ∃(eh dO:Nat) (dT:Int->Int) (cb:Int->Bool),r= .tuple #[.slice (some ⟨eh,0,none⟩) aA 1,.slice (some ⟨dO,0,none⟩) aA 1]/\m.next<=eh/\m.next<=dO/\U.I eh=some ⟨jM aA dT,true⟩/\U.I dO=some ⟨kq aA cb,true⟩/\lx n aj cb (λx=>hS (dT x)) []:=by
 rw[asJ (by simp)];have P9:=cc.s;have tp:=aM P9;obtain⟨aU,bS⟩:=ch.dI;have dU:=ch.Ar;obtain⟨fI,uB⟩: ∃k:Nat,n.dI=k:=⟨n.dI.toNat,by omega⟩;have bW:fI<aA:=by omega
 have dR:fI+1<=aA:=bW;have bz:n.dI<(aA:Int):=by omega
 have bB:n.dI.toNat=fI:=by omega
 have zN:n.dQ.toNat=aA:=by omega
 have z0:0<=n.dQ:=by omega
 have hY:n.dQ*8<=140737488355328:=by omega
 have aec:n.dQ<=140737488355328:=by omega
 have jA:n.dQ<=9223372036854775807:=by omega
 simp(disch:=first|omega|simp only[bE];omega) [Yd,P9,aU,bz,bB,dR,zN,z0,hY,aec,jA,aoV,Nj,-v5];refine aET ch eH k0 cc gX zO Ke (eh:=m.next+5) (dO:=m.next+11) (by omega) (by omega) (1+m3 (eK (λ_=>false) n.dI true) aA) _ _ (m.next+14+5) 0 [E n.dI] [n.dI] (eK (λ_=>false) n.dI true) (λ_=>0) (by simp) ?_ ?_ (by omega) ⟨?_,?_,?_,by simp,by simp,by omega,by omega,by omega⟩ (by have:=lx.apL ch aj (λx=>hS ((λ_=>0) x));exact this) ⟨by simp,by simp,by simp,by simp⟩ (λK U jr kY aE a2 cj dy fB fb=> ?_)
 ·have:=Dv (λ_=>false) n.dI aU rfl aA bz;have:=Vn (λ_=>false) aA;omega
 ·exact⟨by simp only[eJ,fp];omega,λb hb=>by simp(disch:=first|omega|(simp only[eJ,fp];omega)) only[a7,cJ]⟩
 ·simp(disch:=first|omega|(simp only[eJ,fp];omega)) only[cx,a7,cJ,abQ]
 ·simp(disch:=first|omega|(simp only[eJ,fp];omega)) only[cx,a7,cJ,uB]
 ·simp(disch:=first|omega|(simp only[eJ,fp];omega)) only[cx]
 ·simp(disch:=omega) [fB,fb];exact⟨aE,_,_,⟨rfl,rfl⟩,by omega,by omega,kY,a2,jr,cj,dy⟩
theorem Xz(k:IntKind): ∀(l:List Int) (i:Nat) (c:Int),(l.map (Value.int k ·)).set i (.int k c)=(l.set i c).map (Value.int k ·)
 |[],_,_=>rfl
 |x::l,0,c=>rfl
 |x::l,i+1,c=>congrArg (List.cons _) (Xz k l i c)
theorem rp.aoo{n:dH}{aj vr:List Int}{v:Value}{cB cL e9 aA:Nat}{m:H}(h:rp n aj v cB cL e9 aA m)(A:cB≠cL)(D: ∀b l c,v= .slice (some ⟨b,0,none⟩) l c->b≠cL)(ai:vr.length=aj.length):
 rp n vr v cB cL e9 aA (m.aO cL (some ⟨vr.map (Value.int .i64 ·),true⟩)):=by
 refine⟨?_,?_,cx (aM h.f)⟩
 ·rw[a7 A,ai];exact h.s
 ·rcases h.a with h|⟨b,o,aE,a2⟩
  ·exact .inl h
  ·exact .inr ⟨b,o,aE,by rw[a7 (D _ _ _ aE)];exact a2⟩
def ui(d r:Int):Int:=if d<0\/r<d then r else d
def wA(n:dH)(aj:List Int)(d:Int)(l:List hz):Int:=l.foldl (λd e=>ui d (cN n aj e)) d
theorem aeJ{n:dH}{aj:List Int}: ∀(l:List hz) (d:Int),(∀e∈l,0<cN n aj e)->(d= -1\/0<d)->(wA n aj d l= -1/\l=[]/\d= -1)\/(0<wA n aj d l/\(0<d->wA n aj d l<=d)/\ ∀e∈l,wA n aj d l<=cN n aj e)
 | [],d,_,aV=>by
   rcases aV with rfl|aV
   ·exact .inl ⟨rfl,rfl,rfl⟩
   ·exact .inr ⟨aV,λ_=>sY _,by simp⟩
 | e::l,d,al,aV=>by
   have aPl:=al e (by simp);have A:0<ui d (cN n aj e):=(by unfold ui;split<;>omega);have:=aeJ l (ui d (cN n aj e)) (λe aQ=>al e (by simp[aQ])) (.inr A);have aD:wA n aj d (e::l)=wA n aj (ui d (cN n aj e)) l:=rfl;rw[aD];right;rcases this with⟨_,_,h⟩|⟨aE,a2,cj⟩
   ·omega
   ·have:=a2 A;refine⟨aE,λaV=> ?_,λdd so=> ?_⟩
    ·have:ui d (cN n aj e)<=d:=(by unfold ui;split<;>omega);omega
    ·rcases hi.1 so with rfl|so
     ·have:ui d (cN n aj dd)<=cN n aj dd:=(by unfold ui;split<;>omega);omega
     ·exact cj dd so
theorem aa9{n:dH}{fS:Int->hz}{x:Int}(h:qp n fS x []):x=n.dI:=by cases h;rfl
theorem an4{n:dH}(ch:n.iN){dT:Int->Int}{aj:List Int}{x:Int}{e:hz}{l:List hz}(Z:qp n (λx=>hS (dT x)) x (e::l))(al:0<cN n aj e):
 x≠n.dI/\e=hS (dT x)/\hX n e=x/\qp n (λx=>hS (dT x)) (gC n e) l/\n.hN x/\e.1<n.bp.length:=by
 cases Z with
 | cons B ba Z=>obtain⟨a,bc,aa,_⟩:=yZ al;have az:=(cG.1 aa).1;exact⟨B,rfl,ba,Z,by have:=(ac4 ch az).2;rw[ba]at this;exact this,az⟩
set_option maxRecDepth 20000 in
theorem aeP{n:dH}(ch:n.iN){aA:Nat}(eH:n.dQ=aA){aj:List Int}(k0:s3 n aj){v:Value}{cB cL e9 eh:Nat}{dT:Int->Int}{m:H}(cc:rp n aj v cB cL e9 aA m)(hb:m.I eh=some ⟨jM aA dT,true⟩){Q:cM->aC->H->Prop}:
 ∀(l:List hz) (x d:Int) (z:aC),qp n (λx=>hS (dT x)) x l->(∀e∈l,0<cN n aj e)->z 0=bH cB->z 1= .slice (some ⟨eh,0,none⟩) aA 1->z 5=E d->z 6=E x->
 (∀K,K 0=bH cB->K 1= .slice (some ⟨eh,0,none⟩) aA 1->K 5=E (wA n aj d l)->Q (.cH 0) K m)->fG N (.loop Hk) z m Q
 | [],x,d,z,Z,al,bO,aU,bz,bB,bb=>by refine j7 λbM a1=> ?_;have F:=cc.s;cases Z;simp[Hk,bO,bB,F];exact bb _ (by simp[bO]) (by simp[aU]) (by simp[bz,wA])
 | e::l,x,d,z,Z,al,bO,aU,bz,bB,bb=>by
   refine j7 λbM a1=> ?_;have F:=cc.s;obtain⟨B,aQ,ba,m8,kO,tk⟩:=an4 ch Z (al e (by simp));obtain⟨oQ,pT⟩:=kO;obtain⟨k,rfl⟩: ∃k:Nat,x=k:=⟨x.toNat,by omega⟩;have nO:k<aA:=(by omega);have sT:k+1<=aA:=nO;have n9:(jM aA dT)[k]?=some (E (dT k)):=xy nO;have sn: ∀bA:Value->H->Prop,ep N 235 [bH cB,E (dT k)] m bA=bA (.tuple #[E (hX n e),E (cN n aj e)]) m:= λbA=>by rw[aQ];exact(af0 ch k0 cc (by rw[<-aQ];exact tk)).wp
   have k1: ∀bA:Value->H->Prop,ep N 236 [bH cB,E (dT k)] m bA=bA (E (gC n e)) m:= λbA=>by rw[aQ];exact(ae4 ch cc (by rw[<-aQ];exact tk)).wp
   have next: ∀(K:aC),K 0=bH cB->K 1= .slice (some ⟨eh,0,none⟩) aA 1->K 5=E (ui d (cN n aj e))->K 6=E (gC n e)->bM K m:= λK bC a8 g0 mS=>
    a1 _ _ (aeP ch eH k0 cc hb l _ _ K m8 (λe aQ=>al e (by simp[aQ])) bC a8 g0 mS bb)
   by_cases bK:d<0
   ·simp[Hk,bO,aU,bz,bB,F,B,hb,n9,fC,nO,sT,sn,k1,bK];exact next _ (by simp[bO]) (by simp[aU]) (by simp[ui,bK]) (by simp)
   by_cases cz:cN n aj e<d
   ·simp[Hk,bO,aU,bz,bB,F,B,hb,n9,fC,nO,sT,sn,k1,bK,cz];exact next _ (by simp[bO]) (by simp[aU]) (by simp[ui,cz]) (by simp)
   ·simp[Hk,bO,aU,bz,bB,F,B,hb,n9,fC,nO,sT,sn,k1,bK,cz];exact next _ (by simp[bO]) (by simp[aU]) (by simp[bz,ui,bK,cz]) (by simp)
set_option maxRecDepth 20000 in
theorem aeQ{n:dH}(ch:n.iN){aA:Nat}(eH:n.dQ=aA){v:Value}{cB cL e9 eh:Nat}{dT:Int->Int}{d:Int}(aV:0<=d)(A:cB≠cL)(D: ∀b l c,v= .slice (some ⟨b,0,none⟩) l c->b≠cL)(ai:eh≠cL){Q:cM->aC->H->Prop}:
 ∀(l:List hz) (x:Int) (aj:List Int) (m:H) (z:aC),qp n (λx=>hS (dT x)) x l->s3 n aj->(∀e∈l,0<cN n aj e/\d<=cN n aj e)->(l.map Prod.fst).Nodup->rp n aj v cB cL e9 aA m->m.I eh=some ⟨jM aA dT,true⟩->
 z 0=bH cB->z 1= .slice (some ⟨eh,0,none⟩) aA 1->z 5=E d->z 9=E x->
 (∀K,K 5=E d->Q (.cH 2) K (m.aO cL (some ⟨(qa aj l d).map (Value.int .i64 ·),true⟩)))->fG N (.loop Le) z m Q
 | [],x,aj,m,z,Z,k0,al,ae,cc,hb,bO,aU,bz,cP,bb=>by refine j7 λbM a1=> ?_;have F:=cc.s;cases Z;simp(disch:=first|omega|simp only[bE];omega) [Le,bO,cP,F];have:=bb z bz;simp only[qa,List.foldl_nil]at this;rw[abl cc.f]at this;have h:=bb;simp only[qa,List.foldl_nil]at h;rw[abl cc.f]at h;exact h _ (by simp[bz])
 | e::l,x,aj,m,z,Z,k0,al,ae,cc,hb,bO,aU,bz,cP,bb=>by
   refine j7 λbM a1=> ?_;have F:=cc.s;have a5:=cc.f;have vF:=aM a5;obtain⟨ek,gm⟩:=al e (by simp);obtain⟨B,aQ,ba,m8,kO,tk⟩:=an4 ch Z ek;obtain⟨oQ,pT⟩:=kO;obtain⟨k,rfl⟩: ∃k:Nat,x=k:=⟨x.toNat,by omega⟩;have nO:k<aA:=(by omega);have sT:k+1<=aA:=nO;have n9:(jM aA dT)[k]?=some (E (dT k)):=xy nO;obtain⟨a,bc,aa,en⟩:=yZ ek;have nF: ∀h,aj[e.1]'h=bc:= λh=>by rw[c1 h]at en;simpa using en
   have Wj:=abf k0 ek aV gm;have gY:(push aj e d).length=aj.length:=abg;have agS:=cc.aoo A D gY;have k1: ∀bA:Value->H->Prop,ep N 236 [bH cB,E (dT k)] (m.aO cL (some ⟨(push aj e d).map (Value.int .i64 ·),true⟩)) bA=bA (E (gC n e)) (m.aO cL (some ⟨(push aj e d).map (Value.int .i64 ·),true⟩)):= λbA=>by have:=(ae4 ch agS (G:=dT k) (by rw[<-aQ];exact tk)).wp (bA:=bA);rw[<-aQ]at this;exact this
   simp only[lO,A1]at ae;have vQ: ∀dd∈l,0<cN n (push aj e d) dd/\d<=cN n (push aj e d) dd:=by intro dd so;rw[abh (λh=>ae.1 (gG.2 ⟨dd,so,h⟩))];exact al dd (by simp[so])
   have next: ∀(K:aC) (U:H),U=m.aO cL (some ⟨(push aj e d).map (Value.int .i64 ·),true⟩)->K 0=bH cB->K 1= .slice (some ⟨eh,0,none⟩) aA 1->K 5=E d->K 9=E (gC n e)->bM K U:=by intro K U qM bC a8 g0 abn;subst qM;refine a1 _ _ (aeQ ch eH aV A D ai l _ (push aj e d) _ K m8 Wj vQ ae.2 agS (by rw[a7 ai];exact hb) bC a8 g0 abn (λk9 g=> ?_));rw[abk];exact bb k9 g
   have aOP:=k0.2 _ a bc aa en;have We:=(ch.qu a (fr aa)).2.2;have fl:=ch.sh;have PV:=tk;have dJ:aj.length=n.bp.length:=k0.1;unfold cN at ek gm;simp only[aa,en]at ek gm;have KB:push aj e d=aj.set e.1 (if e.2 then bc+d else bc-d):=(by unfold push;rw[en]);rw[KB,<-Xz]at k1 next
   rcases Vs (dT k)with⟨i,bY,W,lh,Wo⟩|⟨i,bY,W,Wo⟩
   ·rw[Wo]at aQ;subst aQ;simp only[if_true]at ek gm k1 next tk PV en
    have ct:IntKind.i64.wrap (bc+d)=bc+d:=cY (by omega) (by omega);have jA:dT k<aj.length:=(by omega);have z3:i+1<=aj.length:=(by omega);have z4:i<aj.length:=(by omega);simp(disch:=first|omega|simp only[bE];omega) [Le,bO,aU,bz,cP,F,B,hb,n9,fC,nO,sT,k1,a5,bY,lh,nF,ct,jA,z3];exact next _ _ rfl (by simp[bO]) (by simp[aU]) (by simp[bz]) (by simp)
   ·rw[Wo]at aQ;subst aQ;simp only[je,if_false]at ek gm k1 next tk PV en
    have ct:IntKind.i64.wrap (bc-d)=bc-d:=cY (by omega) (by omega);have dW:IntKind.i64.wrap (i:Int)=i:=cY (by omega) (by omega);have jA:(i:Int)<aj.length:=(by omega);have z3:i+1<=aj.length:=(by omega);have z4:i<aj.length:=(by omega);simp(disch:=first|omega|simp only[bE];omega) [Le,bO,aU,bz,cP,F,B,hb,n9,fC,nO,sT,k1,a5,bY,W,nF,ct,dW,jA,z3];exact next _ _ rfl (by simp[bO]) (by simp[aU]) (by simp[bz]) (by simp)
theorem aeR{n:dH}(ch:n.iN){aA:Nat}(eH:n.dQ=aA){aj:List Int}(k0:s3 n aj){v:Value}{cB cL e9 eh:Nat}{dT:Int->Int}{m:H}(cc:rp n aj v cB cL e9 aA m)(hb:m.I eh=some ⟨jM aA dT,true⟩)(A:cB≠cL)(D: ∀b l c,v= .slice (some ⟨b,0,none⟩) l c->b≠cL)(ai:eh≠cL)
 {l:List hz} (Z:qp n (λx=>hS (dT x)) n.eT l) (al: ∀e∈l,0<cN n aj e) (ae:(l.map Prod.fst).Nodup):
 ep N 186 [bH cB,.slice (some ⟨eh,0,none⟩) aA 1] m λr U=> ∃d,r=E d/\0<d/\(∀e∈l,0<cN n aj e/\d<=cN n aj e)/\U=m.aO cL (some ⟨(qa aj l d).map (Value.int .i64 ·),true⟩):=by
 rw[asK (by simp)];have F:=cc.s;have bG:l≠[]:= λh=>by subst h;exact ch.hl (aa9 Z).symm
 have GZ:=aeJ (n:=n) (aj:=aj) l (-1) al (.inl rfl);have GZ:0<wA n aj (-1) l/\ ∀e∈l,wA n aj (-1) l<=cN n aj e:=by
  rcases GZ with⟨_,h,_⟩|⟨aE,_,cj⟩
  ·exact absurd h bG
  ·exact⟨aE,cj⟩
 simp[Ye,F];refine aeP ch eH k0 cc hb l n.eT (-1) _ Z al (by simp) (by simp) (by simp) (by simp) (λK aL aE fB=> ?_);simp[aL,F];refine aeQ ch eH (d:=wA n aj (-1) l) (by omega) A D ai l n.eT aj m _ Z k0 (λe aQ=>⟨al e aQ,GZ.2 e aQ⟩) ae cc hb (by simp[aL]) (by simp[aE]) (by simp[fB]) (by simp) (λk9 g=> ?_);simp[g];exact⟨GZ.1,λa=>⟨λaQ=>⟨al _ aQ,GZ.2 _ aQ⟩,λaQ=>⟨al _ aQ,GZ.2 _ aQ⟩⟩⟩
end Go.Proofs.YtmmkkggfmigppaaGreat
