/-
  A part of the proof, shortened by tools of ours.
-/
import Derived.Test.YtmmkkggfmigppaaGreatZar
set_option linter.all false
set_option maxRecDepth 8000
set_option maxHeartbeats 16000000
namespace Go.Proofs.YtmmkkggfmigppaaGreat
open Go Go.DI Go.Big
def lq(r:List Int):List Value:=[bm r]
abbrev jO(L:List (List Int)):Value:=ad (L.map lq) 1
@[simp] theorem aTx{l c5:List (List Int)}:l.map lq=c5.map lq↔l=c5:=Cj λx y h=>by simpa[lq]using h
def vg(L:List (List Int)):Prop:=L.length<=1000/\ ∀r∈L,r.length<=1000
theorem Pu{u:aG}(h:fj u){v:Nat}(M:v<u.aZ.length): ∃x p q,u.aZ[v]?=some x/\x.p9=(p:Nat)/\p<u.dj.length/\u.dj[p]?=some q/\iF u v=q.k+q.m/\1<=q.k/\0<=q.m/\q.k+q.m<=8:=by
 obtain⟨x,B⟩:=gk M;obtain⟨a,b⟩:=h.N4 v x B;obtain⟨p,Z⟩:=jX a;have gY:p<u.dj.length:=by omega
 obtain⟨q,bo⟩:=gk gY;have ae:=(h.p9 p q bo).1;simp only[mr,a6,ey]at ae;have A:=m9 ae.1;have D:=m9 ae.2.1;refine⟨x,p,q,B,Z,gY,bo,?_,A.1,D.1,ae.2.2.1⟩;have e:x.p9.toNat=p:=by omega
 unfold iF;rw[B];simp only[e,bo]
theorem DK{u:aG}(h:fj u){v:Nat}(M:v<u.aZ.length):1<=iF u v/\iF u v<=8:=by obtain⟨x,p,q,_,_,_,_,e,a,b,c⟩:=Pu h M;rw[e];omega
theorem arf{u:aG}(h:fj u){v:Nat}(M:v<u.aZ.length):bP N 187 [.agg (aI u).toArray,E v] (E (iF u v)):=by
 refine du (c2 (ax:=⟨[],[]⟩) ax3 (by kernel_rfl) (by simp[Yf]) ?_);obtain⟨x,p,q,B,Z,gY,bo,a5,A,D,ai⟩:=Pu h M;have cS:=(cG.1 B).2;have z2:=(cG.1 bo).2;have bC:(v:Int)<u.aZ.length:=by omega
 have a8:(p:Int)<u.dj.length:=by omega
 have br:IntKind.i64.wrap (q.k+q.m)=q.k+q.m:=cY (by omega) (by omega);rw[a5];simp(disch:=first|omega|simp only[bE];omega) [Yf,ajz,aI,ga,dE,bC,a8,cS,Z,z2,br,-an,-au,-ak,-aq,-List.map_map]
noncomputable def acn(u:aG)(h:fj u):bx N:= .cK 187 Nat (λv=>v<u.aZ.length) (λv=>[.agg (aI u).toArray,E v]) (λv=>E (iF u v)) λv M=>arf h M
@[simp] theorem aUs{u:aG}{h:fj u}:(acn u h).f=187:=rfl
@[simp] theorem aUt{u:aG}{h:fj u}{v:Nat}(M:v<u.aZ.length):(acn u h).fn [.agg #[E u.ext,ad (u.eI.map gf) 4,ad (u.cr.map gp) 4,ad (u.aP.map eG) 7,ad (u.aY.map fk) 3,ad (u.dj.map dE) 17,ad (u.aZ.map ga) 2],E v]=some (E (iF u v)):=bx.dx (x:=v) M λy Y=>by simp at Y⊢;omega
theorem arl{u:aG}(h:fj u){v:Nat}(M:v<u.aZ.length):bP N 132 [.agg (aI u).toArray,E v] (E (iF u v)):=by
 refine du (c2 (ax:=⟨[],[]⟩) aiX (by kernel_rfl) (by simp[QO]) ?_);obtain⟨x,p,q,B,Z,gY,bo,a5,A,D,ai⟩:=Pu h M;have cS:=(cG.1 B).2;have z2:=(cG.1 bo).2;have bC:(v:Int)<u.aZ.length:=by omega
 have a8:(p:Int)<u.dj.length:=by omega
 have br:IntKind.i64.wrap (q.k+q.m)=q.k+q.m:=cY (by omega) (by omega);rw[a5];simp(disch:=first|omega|simp only[bE];omega) [QO,aiW,aI,ga,dE,bC,a8,cS,Z,z2,br,-an,-au,-ak,-aq,-List.map_map]
noncomputable def TT(u:aG)(h:fj u):bx N:= .cK 132 Nat (λv=>v<u.aZ.length) (λv=>[.agg (aI u).toArray,E v]) (λv=>E (iF u v)) λv M=>arl h M
@[simp] theorem aUR{u:aG}{h:fj u}:(TT u h).f=132:=rfl
@[simp] theorem aUS{u:aG}{h:fj u}{v:Nat}(M:v<u.aZ.length):(TT u h).fn [.agg #[E u.ext,ad (u.eI.map gf) 4,ad (u.cr.map gp) 4,ad (u.aP.map eG) 7,ad (u.aY.map fk) 3,ad (u.dj.map dE) 17,ad (u.aZ.map ga) 2],E v]=some (E (iF u v)):=bx.dx (x:=v) M λy Y=>by simp at Y⊢;omega
def ta(n:Nat)(x:Int):Bool:=decide (x< -1)||decide ((n:Int)<=x)
def qx(n:Nat)(r:List Int):Int:=match r.findIdx? (ta n)with|some i=>i|none=> -1
theorem asg{n i:Nat}{r:List Int}(W:i<r.length)(hb:ta n r[i]=true)(h: ∀j (aX:j<r.length),j<i->ta n r[j]=false):qx n r=i:=by
 unfold qx;have:r.findIdx? (ta n)=some i:=by rw[UI];exact⟨W,hb,λj aX=>by rw[h j (by omega) aX];simp⟩
 rw[this]
theorem asi{n:Nat}{r:List Int}(h: ∀j (aX:j<r.length),ta n r[j]=false):qx n r= -1:=by
 unfold qx;have:r.findIdx? (ta n)=none:=by rw[UH];intro x B;obtain⟨j,aX,rfl⟩:=lN B;exact h j aX
 rw[this]
theorem asf{n:Nat}{r:List Int}:(r.all λx=>decide (-1<=x)&&decide (x<n))=decide (qx n r= -1):=by
 have e: ∀x:Int,(decide (-1<=x)&&decide (x<n))= !ta n x:= λx=>by unfold ta;rw[Bool.not_or,<-decide_not,<-decide_not];congr 1<;>exact decide_eq_decide.2 (by omega)
 cases a5:r.findIdx? (ta n)with
 | none=>have A:qx n r= -1:=(by unfold qx;rw[a5]);rw[UH]at a5;rw[A,decide_eq_true rfl,dP];intro x B;rw[e,a5 x B];rfl
 | some i=>have A:qx n r=i:=(by unfold qx;rw[a5]);rw[UI]at a5;obtain⟨W,hb,_⟩:=a5;have D: ¬((i:Int)= -1):=(by omega);rw[A,rj D,IY];exact⟨r[i],kd W,by rw[e,hb];simp⟩
theorem abO{u:aG}{v:Nat}{r:List Int}:Fq u v r=(decide ((r.length:Int)=iF u v)&&decide (qx u.aY.length r= -1)):=by unfold Fq;rw[asf]
theorem ash{n:Nat}{r:List Int}:qx n r= -1\/0<=qx n r:=by
 unfold qx;split
 ·right;omega
 ·left;rfl
theorem apt{u:aG}{L:List (List Int)}{v:Nat}{r:List Int}(B:L[v]?=some r)(h:Fq u v r=false):tR u L=false:=by unfold tR;rw[Bool.and_eq_false_iff];right;rw[IY];exact⟨v,om.2 (cG.1 B).1,by rw[B];simp[h]⟩
theorem aps{u:aG}{L:List (List Int)}(az:L.length=u.aZ.length)(h: ∀(v:Nat) r,L[v]?=some r->Fq u v r=true):tR u L=true:=by unfold tR;rw[a6];refine⟨decide_eq_true az,?_⟩;rw[dP];intro v M;rw[om]at M;rw[c1 M];exact h v _ (c1 M)
theorem aG6{u:aG}{L:List (List Int)}(az: ¬L.length=u.aZ.length):tR u L=false:=by unfold tR;rw[rj az];rfl
def sM(u:aG)(L:List (List Int))(v:Nat):Value:=match L[v]? with
 |some r=>if¬(r.length:Int)=iF u v then .tuple #[.agg #[E 1,E v,E r.length],.bool true]else if qx u.aY.length r= -1 then .tuple #[.agg #[E 0,E 0,E 0],.bool false]else .tuple #[.agg #[E 1,E v,E (qx u.aY.length r)],.bool true]
 |none=>undef
theorem aG7{u:aG}(h:cE u){L:List (List Int)}(gd:vg L){v:Nat}(M:v<L.length/\v<u.aZ.length):bP N 133 [.agg (aI u).toArray,jO L,E v] (sM u L v):=by
 refine du (c2 (ax:=⟨[acn u h.ok],[]⟩) axC (by kernel_rfl) (by simp[QP]) ?_);obtain⟨ll,qQ⟩:=M;obtain⟨r,B⟩:=gk ll;have cS:=(cG.1 B).2;have bC:(v:Int)<L.length:=by omega
 have GX:=gd.2 r (fr B);by_cases b6:(r.length:Int)=iF u v
 case neg=>have e:sM u L v= .tuple #[.agg #[E 1,E v,E r.length],.bool true]:=(by unfold sM;rw[B];simp[b6]);rw[e];simp(disch:=first|omega|simp only[bE];omega) [QP,XZ,aI,lq,cS,bC,b6,-an,-au,-ak,-aq,-List.map_map]
 simp(disch:=first|omega|simp only[bE];omega) [QP,XZ,aiY,aI,lq,cS,bC,b6,-an,-au,-ak,-aq,-List.map_map];refine gR (ax:=⟨[],[]⟩) (λi z t=>(∀j (aX:j<r.length),j<i->ta u.aY.length r[j]=false)/\t.I 0=some ⟨aI u,true⟩/\t.I 1=some ⟨[E 0,E 0,E 0],true⟩/\z 2=E v/\z 3=bH 0/\z 6=bH 1/\z 29=bm r/\z 30=E r.length/\z 31=E i) r.length ?_ ?_ 0 _ _ (gi _) ⟨λj aX h=>absurd h (xO _),by simp(disch:=first|omega|simp only[bE];omega) [aI,-an,-au,-ak,-aq,-List.map_map],by simp(disch:=first|omega|simp only[bE];omega) [-an,-au,-ak,-aq,-List.map_map],by simp,by simp,by simp,by simp,by simp[b6],by simp⟩
 ·rintro i z t W ⟨jk,aL,aE,bS,bW,bB,Nq,Is,y0⟩ bM a1;obtain⟨x,Y⟩:=gk W;have mO:=(cG.1 Y).2;have a8:(i:Int)<r.length:=(by omega);have br:=fz (n:=i) (by omega);have dD:=aM aL;have hZ:=aM aE;have kM:ta u.aY.length x=true->sM u L v= .tuple #[.agg #[E 1,E v,E i],.bool true]:= λhb=>by
   have e:=asg W (by rw[mO];exact hb) jk;have cg: ¬(i:Int)= -1:=(by omega);unfold sM;rw[B];simp only[b6,not_true_eq_false,if_false,e,if_neg cg]
  by_cases fW:x< -1
  ·rw[kM (by simp[ta,fW])];simp(disch:=first|omega|simp only[bE];omega) [K2,He,bS,bB,Nq,Is,y0,aE,a8,mO,fW,-an,-au,-ak,-aq,-List.map_map]
  ·by_cases gI:(u.aY.length:Int)<=x
   ·rw[kM (by simp[ta,gI])];simp(disch:=first|omega|simp only[bE];omega) [K2,He,aI,bS,bW,bB,Nq,Is,y0,aL,aE,a8,mO,fW,gI,-an,-au,-ak,-aq,-List.map_map]
   ·simp(disch:=first|omega|simp only[bE];omega) [K2,He,aI,bW,Nq,Is,y0,aL,a8,mO,fW,gI,br,-an,-au,-ak,-aq,-List.map_map];refine a1 _ _ ⟨λj aX PY=> ?_,by simp(disch:=first|omega|simp only[bE];omega) [aL,aI,-an,-au,-ak,-aq,-List.map_map],by simp(disch:=first|omega|simp only[bE];omega) [aE,-an,-au,-ak,-aq,-List.map_map],by simp[bS],by simp[bW],by simp[bB],by simp[Nq],by simp[Is],by simp⟩;by_cases e:j=i
    ·subst e;rw[mO];simp[ta,fW,gI]
    ·exact jk j aX (by omega)
 ·rintro z t ⟨jk,aL,aE,bS,bW,bB,Nq,Is,y0⟩;have e:=asi λj aX=>jk j aX aX;have aJ:sM u L v= .tuple #[.agg #[E 0,E 0,E 0],.bool false]:=(by unfold sM;rw[B];simp only[b6,not_true_eq_false,if_false,e,if_true]);have hZ:=aM aE;rw[aJ];simp(disch:=first|omega|simp only[bE];omega) [K2,He,He,bB,Is,y0,aE,-an,-au,-ak,-aq,-List.map_map]
noncomputable def TZ(u:aG)(h:cE u)(L:List (List Int))(gd:vg L):bx N:= .cK 133 Nat (λv=>v<L.length/\v<u.aZ.length) (λv=>[.agg (aI u).toArray,jO L,E v]) (λv=>sM u L v) λv M=>aG7 h gd M
@[simp] theorem aVA{u:aG}{h:cE u}{L:List (List Int)}{gd:vg L}:(TZ u h L gd).f=133:=rfl
@[simp] theorem aVB{u:aG}{h:cE u}{L:List (List Int)}{gd:vg L}{v:Nat}(M:v<L.length/\v<u.aZ.length):(TZ u h L gd).fn [.agg #[E u.ext,ad (u.eI.map gf) 4,ad (u.cr.map gp) 4,ad (u.aP.map eG) 7,ad (u.aY.map fk) 3,ad (u.dj.map dE) 17,ad (u.aZ.map ga) 2],ad (L.map lq) 1,E v]=some (sM u L v):=bx.dx (x:=v) M λy Y=>by simp at Y⊢;omega
theorem aEd{u:aG}(h:cE u){L:List (List Int)}(gd:vg L):bP N 86 [.agg (aI u).toArray,jO L] (.bool (tR u L)):=by
 refine du (c2 (ax:=⟨[CI u h.fX,TZ u h L gd],[]⟩) az7 (by kernel_rfl) (by simp[Sj]) ?_);have M:=h.ok.xK;have mo:=h.ok.j4;by_cases az:L.length=u.aZ.length
 case neg=>have BL: ¬(L.length:Int)=u.aZ.length:=(by omega);have e:=aG6 az;simp(disch:=first|omega|simp only[bE];omega) [Sj,Zf,aI,BL,e,-an,-au,-ak,-aq,-List.map_map]
 have BL:(L.length:Int)=u.aZ.length:=by omega
 simp(disch:=first|omega|simp only[bE];omega) [Sj,Zf,al2,aI,BL,-an,-au,-ak,-aq,-List.map_map];refine gR (ax:=⟨[CI u h.fX,TZ u h L gd],[]⟩) (λi z t=>(∀(v:Nat) r,v<i->L[v]?=some r->Fq u v r=true)/\t.I 0=some ⟨aI u,true⟩/\z 1=jO L/\z 2=bH 0/\z 20=E L.length/\z 21=E i) L.length ?_ ?_ 0 _ _ (gi _) ⟨λv r M=>absurd M (xO _),by simp(disch:=first|omega|simp only[bE];omega) [aI,-an,-au,-ak,-aq,-List.map_map],by simp,by simp,by simp[az],by simp⟩
 ·rintro i z t W ⟨jk,aL,aU,bS,pP,Np⟩ bM a1;obtain⟨r,B⟩:=gk W;have bC:(i:Int)<L.length:=(by omega);have aOV:i<L.length/\i<u.aZ.length:=(by omega);have br:=fz (n:=i) (by omega);have dD:=aM aL;by_cases b6:(r.length:Int)=iF u i
  case neg=>have e:=apt B (by rw[abO,rj b6];rfl);have aJ:sM u L i= .tuple #[.agg #[E 1,E i,E r.length],.bool true]:=(by unfold sM;rw[B];simp[b6]);simp(disch:=first|omega|simp only[bE];omega) [LW,HJ,aI,aU,bS,pP,Np,aL,bC,e,aJ,-an,-au,-ak,-aq,-List.map_map]
  rcases ash (n:=u.aY.length) (r:=r)with cR|cR
  ·have aJ:sM u L i= .tuple #[.agg #[E 0,E 0,E 0],.bool false]:=(by unfold sM;rw[B];simp only[b6,not_true_eq_false,if_false,cR,if_true]);simp(disch:=first|omega|simp only[bE];omega) [LW,HJ,aI,aU,bS,pP,Np,aL,bC,aJ,br,-an,-au,-ak,-aq,-List.map_map];refine a1 _ _ ⟨λv dZ M hk=> ?_,by simp(disch:=first|omega|simp only[bE];omega) [aL,aI,-an,-au,-ak,-aq,-List.map_map],by simp[aU],by simp[bS],by simp[pP],by simp⟩;by_cases e:v=i
   ·subst e;rw[B]at hk;cases hk;rw[abO,decide_eq_true b6,decide_eq_true cR];rfl
   ·exact jk v dZ (by omega) hk
  ·have lz: ¬qx u.aY.length r= -1:=(by omega);have e:=apt B (by rw[abO,decide_eq_true b6,rj lz];rfl);have aJ:sM u L i= .tuple #[.agg #[E 1,E i,E (qx u.aY.length r)],.bool true]:=(by unfold sM;rw[B];simp only[b6,not_true_eq_false,if_false,if_neg lz]);simp(disch:=first|omega|simp only[bE];omega) [LW,HJ,aI,aU,bS,pP,Np,aL,bC,e,aJ,-an,-au,-ak,-aq,-List.map_map]
 ·rintro z t ⟨jk,aL,aU,bS,pP,Np⟩;have e:=aps az λv r B=>jk v r (cG.1 B).1 B;simp(disch:=first|omega|simp only[bE];omega) [LW,HJ,HJ,pP,Np,e,-an,-au,-ak,-aq,-List.map_map]
noncomputable def Nz(u:aG)(h:cE u):bx N:= .cK 86 (List (List Int)) vg (λL=>[.agg (aI u).toArray,jO L]) (λL=> .bool (tR u L)) λL gd=>aEd h gd
@[simp] theorem aUB{u:aG}{h:cE u}:(Nz u h).f=86:=rfl
@[simp] theorem aUC{u:aG}{h:cE u}{L:List (List Int)}(gd:vg L):(Nz u h).fn [.agg #[E u.ext,ad (u.eI.map gf) 4,ad (u.cr.map gp) 4,ad (u.aP.map eG) 7,ad (u.aY.map fk) 3,ad (u.dj.map dE) 17,ad (u.aZ.map ga) 2],ad (L.map lq) 1]=some (.bool (tR u L)):=bx.dx (x:=L) gd λy Y=>by simpa using Y
theorem VO{n:Nat}{p:Nat->Bool}:(List.range (n+1)).filter p=(List.range n).filter p++if p n then[n]else[]:=by rw[A2,List.filter_append];cases h:p n<;>simp[h]
theorem aDN{u:aG}(h:cE u){n:Nat}(ae:n<u.aP.length):bP N 116 [.agg (aI u).toArray,E n] (bm (Bm u n)):=by
 refine du (c2 (ax:=⟨[CI u h.fX,TS u h.ok],[]⟩) ais (by kernel_rfl) (by simp[Qv]) ?_);have M:=h.ok.xK;have ic:=h.ok.h2;have eW:=h.ok.fg;obtain⟨d,B⟩:=gk ae;have cS:=(cG.1 B).2;have e:hD u n=d.jQ:=by simp only[hD,B]
 have vH:=(h.ok.gl ae).1;have bC:(n:Int)<u.aP.length:=by omega
 have bV: ¬(n:Int)<0:=by omega
 have cv: ¬u.aP.length<=n:=by omega
 simp(disch:=first|omega|simp only[bE];omega) [Qv,air,aI,bV,cv,-an,-au,-ak,-aq,-List.map_map];refine tY (d:=5) (G:=1) (by simp) ?_;refine gR (ax:=⟨[CI u h.fX,TS u h.ok],[]⟩) (λi z t=>t.I 0=some ⟨aI u,true⟩/\(∃o l,o≠0/\l=((List.range i).filter λd=>decide (mg u (hD u n) 5 (iD u d)=n))/\z 5=b7 o l.length 1/\t.I o=some ⟨l.map (λd:Nat=>E d),true⟩)/\z 1=E n/\z 2=bH 0/\z 24=E u.aY.length/\z 25=E i) u.aY.length ?_ ?_ 0 _ _ (gi _) ⟨by simp(disch:=first|omega|simp only[bE];omega) [aI,-an,-au,-ak,-aq,-List.map_map],⟨2,[],by decide,rfl,by simp,by simp(disch:=first|omega|simp only[bE];omega) [-an,-au,-ak,-aq,-List.map_map]⟩,by simp,by simp,by simp,by simp⟩
 ·rintro i z t W ⟨aL,⟨o,l,aB,az,bz,bq⟩,aU,bS,Ir,ph⟩ bM a1;have a8:(i:Int)<u.aY.length:=(by omega);have br:=fz (n:=i) (by omega);have dD:=aM aL;have bk:=aM bq;have vO:i<u.aY.length/\0<=d.jQ:=⟨W,by omega⟩;have D7:l.length<=i:=(by rw[az];exact mD (Oh _ _) (by simp));have e8:(l.length+1)*8<=140737488355328/\l.length<=9223372036854775806:=(by omega);by_cases c:(mg u d.jQ 5 (iD u i):Nat)=n
  ·have b6:(mg u d.jQ 5 (iD u i):Int)=(n:Int):=(by omega);simp(disch:=first|omega|simp only[bE];omega) [Qw,KW,aI,eG,aU,bS,bz,Ir,ph,aL,bq,bC,a8,cS,c,br,e8,-an,-au,-ak,-aq,-List.map_map];refine a1 _ _ ⟨by simp(disch:=first|omega|simp only[bE];omega) [aL,aI,-an,-au,-ak,-aq,-List.map_map],⟨t.next+3,l++[i],by omega,?_,by simp,?_⟩,by simp[aU],by simp[bS],by simp[Ir],by simp⟩
   ·rw[VO,<-az,e,decide_eq_true c];rfl
   ·rw[cx (by simp),h7 (by simp)];simp
  ·have b6: ¬(mg u d.jQ 5 (iD u i):Int)=(n:Int):=(by omega);simp(disch:=first|omega|simp only[bE];omega) [Qw,KW,aI,eG,aU,bS,Ir,ph,aL,bC,a8,cS,b6,br,-an,-au,-ak,-aq,-List.map_map];refine a1 _ _ ⟨by simp(disch:=first|omega|simp only[bE];omega) [aL,aI,-an,-au,-ak,-aq,-List.map_map],⟨o,l,aB,?_,by simp[bz],by simp(disch:=first|omega|simp only[bE];omega) [bq,-an,-au,-ak,-aq,-List.map_map]⟩,by simp[aU],by simp[bS],by simp[Ir],by simp⟩;rw[VO,<-az,e,rj c];simp
 ·rintro z t ⟨aL,⟨o,l,aB,az,bz,bq⟩,aU,bS,Ir,ph⟩;have dD:=aM aL;have aJ:Bm u n=l.map λd:Nat=>(d:Int):=by rw[az];rfl
  rw[aJ];simp(disch:=first|omega|simp only[bE];omega) [Qw,KW,KW,bz,Ir,ph,-an,-au,-ak,-aq,-List.map_map];have:=vu (t:=t) (n:=8) (o:=o) (l:=l.length) (G:=1) (w:=true) (bI:=(l.map λd:Nat=>(d:Int)).map λx=>[E x]) (by rw[l5,bq];simp) (by simp) su;rw[this]
noncomputable def ab8(u:aG)(h:cE u):bx N:= .cK 116 Nat (λn=>n<u.aP.length) (λn=>[.agg (aI u).toArray,E n]) (λn=>bm (Bm u n)) λn ae=>aDN h ae
@[simp] theorem aTO{u:aG}{h:cE u}:(ab8 u h).f=116:=rfl
@[simp] theorem aTP{u:aG}{h:cE u}{n:Nat}(ae:n<u.aP.length):(ab8 u h).fn [.agg #[E u.ext,ad (u.eI.map gf) 4,ad (u.cr.map gp) 4,ad (u.aP.map eG) 7,ad (u.aY.map fk) 3,ad (u.dj.map dE) 17,ad (u.aZ.map ga) 2],E n]=some (bm (Bm u n)):=bx.dx (x:=n) ae λy Y=>by simp at Y⊢;omega
open Go Go.DI
section
set_option maxRecDepth 100000
def L4:cp N 4:=⟨_,by conv=>lhs;reduce⟩
def YS:aw:=aF (a:=bg L4.1.body 303) ⟨_,by conv=>lhs;reduce⟩
def RQ:aw:=aF (a:=bg L4.1.body 63) ⟨_,by conv=>lhs;reduce⟩
def ak9:aw:=aF (a:= λx y=>bh 7 y (bh 37 x (bg L4.1.body 15))) ⟨_,by conv=>lhs;reduce⟩ YS RQ
def ak8:aw:=aF (a:= λx=>bh 3 x (bg L4.1.body 7)) ⟨_,by conv=>lhs;reduce⟩ ak9
def LC:aw:=aF (a:= λx=>bh 7 x L4.1.body) ⟨_,by conv=>lhs;reduce⟩ ak8
def Hz:b8:=⟨138,[.bJ 8],LC⟩
theorem azI:cd N 4=some Hz:=by kernel_rfl
def SC:cp N 5:=⟨_,by conv=>lhs;reduce⟩
def ale:aw:=aF (a:=bg SC.1.body 31) ⟨_,by conv=>lhs;reduce⟩
def ald:aw:=aF (a:= λx=>bh 3 x (bg SC.1.body 15)) ⟨_,by conv=>lhs;reduce⟩ ale
def alc:aw:=aF (a:= λx=>bh 3 x (bg SC.1.body 7)) ⟨_,by conv=>lhs;reduce⟩ ald
def YV:aw:=aF (a:= λx=>bh 7 x SC.1.body) ⟨_,by conv=>lhs;reduce⟩ alc
def RR:b8:=⟨31,[.bJ 6],YV⟩
theorem azJ:cd N 5=some RR:=by kernel_rfl
def xg:cp N 9:=⟨_,by conv=>lhs;reduce⟩
def Sy:aw:=aF (a:=bg xg.1.body 82573615) ⟨_,by conv=>lhs;reduce⟩
def Sv:aw:=aF (a:= λx=>bh 19 x (bg xg.1.body 7076143)) ⟨_,by conv=>lhs;reduce⟩ Sy
def HM:aw:=aF (a:=bg xg.1.body 9959727) ⟨_,by conv=>lhs;reduce⟩
def Sw:aw:=aF (a:= λx=>bh 18 x (bg xg.1.body 1046831)) ⟨_,by conv=>lhs;reduce⟩ HM
def HL:aw:=aF (a:= λx y=>bh 3 y (bh 26 x (bg xg.1.body 522543))) ⟨_,by conv=>lhs;reduce⟩ Sv Sw
def Sx:aw:=aF (a:= λx=>bh 15 x (bg xg.1.body 63791)) ⟨_,by conv=>lhs;reduce⟩ HL
def EH:aw:=aF (a:= λx=>bh 249 x (bg xg.1.body 303)) ⟨_,by conv=>lhs;reduce⟩ Sx
def amb:aw:=aF (a:=bg xg.1.body 63) ⟨_,by conv=>lhs;reduce⟩
def amd:aw:=aF (a:= λx y=>bh 7 y (bh 37 x (bg xg.1.body 15))) ⟨_,by conv=>lhs;reduce⟩ EH amb
def amc:aw:=aF (a:= λx=>bh 3 x (bg xg.1.body 7)) ⟨_,by conv=>lhs;reduce⟩ amd
def Zl:aw:=aF (a:= λx=>bh 7 x xg.1.body) ⟨_,by conv=>lhs;reduce⟩ amc
def Su:b8:=⟨170,[.bJ 4],Zl⟩
theorem aAc:cd N 9=some Su:=by kernel_rfl
def aAz:cp N 17:=⟨_,by conv=>lhs;reduce⟩
def ax1:aw:=aF (a:=aAz.1.body) ⟨_,by conv=>lhs;reduce⟩
def ajd:b8:=⟨97,[.bJ 0],ax1⟩
theorem ax2:cd N 17=some ajd:=by kernel_rfl
def ZH:cp N 21:=⟨_,by conv=>lhs;reduce⟩
def Yl:aw:=aF (a:=bg ZH.1.body 80279) ⟨_,by conv=>lhs;reduce⟩
def Ln:aw:=aF (a:= λx=>bh 627 x (bg ZH.1.body 151)) ⟨_,by conv=>lhs;reduce⟩ Yl
def ajX:aw:=aF (a:= λx=>bh 151 x ZH.1.body) ⟨_,by conv=>lhs;reduce⟩ Ln
def Rh:b8:=⟨46,[.bJ 6],ajX⟩
theorem ajY:cd N 21=some Rh:=by kernel_rfl
def ZK:cp N 22:=⟨_,by conv=>lhs;reduce⟩
def Rr:aw:=aF (a:=bg ZK.1.body 9367) ⟨_,by conv=>lhs;reduce⟩
def Yt:aw:=aF (a:= λx=>bh 73 x (bg ZK.1.body 151)) ⟨_,by conv=>lhs;reduce⟩ Rr
def aka:aw:=aF (a:= λx=>bh 151 x ZK.1.body) ⟨_,by conv=>lhs;reduce⟩ Yt
def Ym:b8:=⟨39,[.bJ 6],aka⟩
theorem ayx:cd N 22=some Ym:=by kernel_rfl
def ZO:cp N 23:=⟨_,by conv=>lhs;reduce⟩
def Hs:aw:=aF (a:=bg ZO.1.body 151) ⟨_,by conv=>lhs;reduce⟩
def Ez:aw:=aF (a:=bg ZO.1.body 31) ⟨_,by conv=>lhs;reduce⟩
def akj:aw:=aF (a:= λx y=>bh 31 y (bh 151 x ZO.1.body)) ⟨_,by conv=>lhs;reduce⟩ Hs Ez
def Rs:b8:=⟨39,[.bJ 4],akj⟩
theorem akk:cd N 23=some Rs:=by kernel_rfl
def ZP:cp N 24:=⟨_,by conv=>lhs;reduce⟩
def EA:aw:=aF (a:=bg ZP.1.body 151) ⟨_,by conv=>lhs;reduce⟩
def Ls:aw:=aF (a:=bg ZP.1.body 31) ⟨_,by conv=>lhs;reduce⟩
def Lr:aw:=aF (a:= λx y=>bh 31 y (bh 151 x ZP.1.body)) ⟨_,by conv=>lhs;reduce⟩ EA Ls
def Ht:b8:=⟨39,[.bJ 4],Lr⟩
theorem ayR:cd N 24=some Ht:=by kernel_rfl
def EI:cp N 25:=⟨_,by conv=>lhs;reduce⟩
def Lu:aw:=aF (a:=bg EI.1.body 71) ⟨_,by conv=>lhs;reduce⟩
def RC:aw:=aF (a:=bg EI.1.body 303) ⟨_,by conv=>lhs;reduce⟩
def akG:aw:=aF (a:=bg EI.1.body 63) ⟨_,by conv=>lhs;reduce⟩
def akF:aw:=aF (a:= λx y=>bh 3 y (bh 18 x (bg EI.1.body 31))) ⟨_,by conv=>lhs;reduce⟩ RC akG
def akE:aw:=aF (a:= λx y=>bh 3 y (bh 8 x (bg EI.1.body 15))) ⟨_,by conv=>lhs;reduce⟩ Lu akF
def akD:aw:=aF (a:= λx=>bh 3 x (bg EI.1.body 7)) ⟨_,by conv=>lhs;reduce⟩ akE
def YD:aw:=aF (a:= λx=>bh 7 x EI.1.body) ⟨_,by conv=>lhs;reduce⟩ akD
def Hw:b8:=⟨70,[.ha 6 true 2,.bJ 7],YD⟩
theorem YE:cd N 25=some Hw:=by kernel_rfl
def EJ:cp N 26:=⟨_,by conv=>lhs;reduce⟩
def EB:aw:=aF (a:=bg EJ.1.body 71) ⟨_,by conv=>lhs;reduce⟩
def Lw:aw:=aF (a:=bg EJ.1.body 12895) ⟨_,by conv=>lhs;reduce⟩
def Lx:aw:=aF (a:= λx=>bh 25 x (bg EJ.1.body 607)) ⟨_,by conv=>lhs;reduce⟩ Lw
def akN:aw:=aF (a:=bg EJ.1.body 127) ⟨_,by conv=>lhs;reduce⟩
def YG:aw:=aF (a:= λx y=>bh 7 y (bh 37 x (bg EJ.1.body 31))) ⟨_,by conv=>lhs;reduce⟩ Lx akN
def Lv:aw:=aF (a:= λx y=>bh 7 y (bh 17 x (bg EJ.1.body 7))) ⟨_,by conv=>lhs;reduce⟩ EB YG
def Hx:aw:=aF (a:= λx=>bh 7 x EJ.1.body) ⟨_,by conv=>lhs;reduce⟩ Lv
def B3:b8:=⟨79,[.ha 6 true 2,.bJ 7],Hx⟩
theorem akM:cd N 26=some B3:=by kernel_rfl
def aBh:cp N 27:=⟨_,by conv=>lhs;reduce⟩
def YK:aw:=aF (a:=aBh.1.body) ⟨_,by conv=>lhs;reduce⟩
def Ly:b8:=⟨17,[.bJ 4],YK⟩
theorem akW:cd N 27=some Ly:=by kernel_rfl
def ZU:cp N 28:=⟨_,by conv=>lhs;reduce⟩
def qR:aw:=aF (a:=bg ZU.1.body 37) ⟨_,by conv=>lhs;reduce⟩
def akY:aw:=aF (a:=bg ZU.1.body 7) ⟨_,by conv=>lhs;reduce⟩
def akX:aw:=aF (a:= λx y=>bh 7 y (bh 37 x ZU.1.body)) ⟨_,by conv=>lhs;reduce⟩ qR akY
def YL:b8:=⟨176,[.ha 8 true 2,.bJ 9],akX⟩
theorem azj:cd N 28=some YL:=by kernel_rfl
def EL:cp N 29:=⟨_,by conv=>lhs;reduce⟩
def azr:aw:=aF (a:=bg EL.1.body 607) ⟨_,by conv=>lhs;reduce⟩
def azq:aw:=aF (a:=bg EL.1.body 127) ⟨_,by conv=>lhs;reduce⟩
def azp:aw:=aF (a:= λx y=>bh 3 y (bh 18 x (bg EL.1.body 63))) ⟨_,by conv=>lhs;reduce⟩ azr azq
def azo:aw:=aF (a:= λx=>bh 3 x (bg EL.1.body 31)) ⟨_,by conv=>lhs;reduce⟩ azp
def azn:aw:=aF (a:= λx=>bh 3 x (bg EL.1.body 15)) ⟨_,by conv=>lhs;reduce⟩ azo
def azm:aw:=aF (a:= λx=>bh 3 x (bg EL.1.body 7)) ⟨_,by conv=>lhs;reduce⟩ azn
def azk:aw:=aF (a:= λx=>bh 7 x EL.1.body) ⟨_,by conv=>lhs;reduce⟩ azm
def akZ:b8:=⟨62,[.ha 8 true 4,.bJ 9],azk⟩
theorem azl:cd N 29=some akZ:=by kernel_rfl
def ZV:cp N 32:=⟨_,by conv=>lhs;reduce⟩
def YM:aw:=aF (a:=bg ZV.1.body 15) ⟨_,by conv=>lhs;reduce⟩
def RK:aw:=aF (a:= λx=>bh 3 x (bg ZV.1.body 7)) ⟨_,by conv=>lhs;reduce⟩ YM
def Lz:aw:=aF (a:= λx=>bh 7 x ZV.1.body) ⟨_,by conv=>lhs;reduce⟩ RK
def B4:b8:=⟨42,[.ha 8 true 2,.bJ 9],Lz⟩
theorem azA:cd N 32=some B4:=by kernel_rfl
def L3:cp N 33:=⟨_,by conv=>lhs;reduce⟩
def RN:aw:=aF (a:=bg L3.1.body 39319) ⟨_,by conv=>lhs;reduce⟩
def YN:aw:=aF (a:= λx=>bh 307 x (bg L3.1.body 151)) ⟨_,by conv=>lhs;reduce⟩ RN
def RM:aw:=aF (a:=bg L3.1.body 31) ⟨_,by conv=>lhs;reduce⟩
def ak1:aw:=aF (a:= λx y=>bh 7 y (bh 37 x (bg L3.1.body 7))) ⟨_,by conv=>lhs;reduce⟩ YN RM
def RL:aw:=aF (a:= λx=>bh 7 x L3.1.body) ⟨_,by conv=>lhs;reduce⟩ ak1
def LA:b8:=⟨42,[.bJ 6],RL⟩
theorem azB:cd N 33=some LA:=by kernel_rfl
def ZW:cp N 36:=⟨_,by conv=>lhs;reduce⟩
def ak3:aw:=aF (a:=bg ZW.1.body 15) ⟨_,by conv=>lhs;reduce⟩
def RO:aw:=aF (a:= λx=>bh 3 x (bg ZW.1.body 7)) ⟨_,by conv=>lhs;reduce⟩ ak3
def EC:aw:=aF (a:= λx=>bh 7 x ZW.1.body) ⟨_,by conv=>lhs;reduce⟩ RO
def xe:b8:=⟨47,[.ha 8 true 2,.bJ 9],EC⟩
theorem ak2:cd N 36=some xe:=by kernel_rfl
def aBl:cp N 38:=⟨_,by conv=>lhs;reduce⟩
def ak6:aw:=aF (a:=aBl.1.body) ⟨_,by conv=>lhs;reduce⟩
def YQ:b8:=⟨20,[.bJ 6],ak6⟩
theorem azD:cd N 38=some YQ:=by kernel_rfl
def aBo:cp N 64:=⟨_,by conv=>lhs;reduce⟩
def Y2:aw:=aF (a:=aBo.1.body) ⟨_,by conv=>lhs;reduce⟩
def LH:b8:=⟨18,[.bJ 4],Y2⟩
theorem alC:cd N 64=some LH:=by kernel_rfl
def aBp:cp N 65:=⟨_,by conv=>lhs;reduce⟩
def Y3:aw:=aF (a:=aBp.1.body) ⟨_,by conv=>lhs;reduce⟩
def LI:b8:=⟨19,[.bJ 4],Y3⟩
theorem alD:cd N 65=some LI:=by kernel_rfl
def SD:cp N 67:=⟨_,by conv=>lhs;reduce⟩
def LK:aw:=aF (a:=bg SD.1.body 143) ⟨_,by conv=>lhs;reduce⟩
def alF:aw:=aF (a:= λx=>bh 17 x (bg SD.1.body 15)) ⟨_,by conv=>lhs;reduce⟩ LK
def R3:aw:=aF (a:= λx=>bh 3 x (bg SD.1.body 7)) ⟨_,by conv=>lhs;reduce⟩ alF
def LJ:aw:=aF (a:= λx=>bh 7 x SD.1.body) ⟨_,by conv=>lhs;reduce⟩ R3
def HH:b8:=⟨42,[.bJ 6],LJ⟩
theorem azO:cd N 67=some HH:=by kernel_rfl
def aBr:cp N 69:=⟨_,by conv=>lhs;reduce⟩
def Y5:aw:=aF (a:=aBr.1.body) ⟨_,by conv=>lhs;reduce⟩
def R7:b8:=⟨18,[.bJ 4],Y5⟩
theorem azP:cd N 69=some R7:=by kernel_rfl
def ZY:cp N 70:=⟨_,by conv=>lhs;reduce⟩
def EF:aw:=aF (a:=bg ZY.1.body 37) ⟨_,by conv=>lhs;reduce⟩
def Ad:aw:=aF (a:=bg ZY.1.body 7) ⟨_,by conv=>lhs;reduce⟩
def Y6:aw:=aF (a:= λx y=>bh 7 y (bh 37 x ZY.1.body)) ⟨_,by conv=>lhs;reduce⟩ EF Ad
def LM:b8:=⟨18,[.bJ 4],Y6⟩
theorem alI:cd N 70=some LM:=by kernel_rfl
def aBt:cp N 72:=⟨_,by conv=>lhs;reduce⟩
def alJ:aw:=aF (a:=aBt.1.body) ⟨_,by conv=>lhs;reduce⟩
def R8:b8:=⟨20,[.bJ 6],alJ⟩
theorem alK:cd N 72=some R8:=by kernel_rfl
def aBu:cp N 74:=⟨_,by conv=>lhs;reduce⟩
def alL:aw:=aF (a:=aBu.1.body) ⟨_,by conv=>lhs;reduce⟩
def R9:b8:=⟨10,[.bJ 4],alL⟩
theorem alM:cd N 74=some R9:=by kernel_rfl
def aBv:cp N 75:=⟨_,by conv=>lhs;reduce⟩
def alN:aw:=aF (a:=aBv.1.body) ⟨_,by conv=>lhs;reduce⟩
def Sa:b8:=⟨9,[.bJ 4],alN⟩
theorem alO:cd N 75=some Sa:=by kernel_rfl
def ZZ:cp N 76:=⟨_,by conv=>lhs;reduce⟩
def Y7:aw:=aF (a:=bg ZZ.1.body 15) ⟨_,by conv=>lhs;reduce⟩
def LO:aw:=aF (a:= λx=>bh 3 x (bg ZZ.1.body 7)) ⟨_,by conv=>lhs;reduce⟩ Y7
def EG:aw:=aF (a:= λx=>bh 7 x ZZ.1.body) ⟨_,by conv=>lhs;reduce⟩ LO
def yy:b8:=⟨46,[.ha 8 true 2,.bJ 9],EG⟩
theorem azS:cd N 76=some yy:=by kernel_rfl
def Z0:cp N 77:=⟨_,by conv=>lhs;reduce⟩
def Y8:aw:=aF (a:=bg Z0.1.body 15) ⟨_,by conv=>lhs;reduce⟩
def Sb:aw:=aF (a:= λx=>bh 3 x (bg Z0.1.body 7)) ⟨_,by conv=>lhs;reduce⟩ Y8
def LP:aw:=aF (a:= λx=>bh 7 x Z0.1.body) ⟨_,by conv=>lhs;reduce⟩ Sb
def B6:b8:=⟨42,[.ha 8 true 2,.bJ 9],LP⟩
theorem azT:cd N 77=some B6:=by kernel_rfl
def Z1:cp N 80:=⟨_,by conv=>lhs;reduce⟩
def Sc:aw:=aF (a:=bg Z1.1.body 75) ⟨_,by conv=>lhs;reduce⟩
def LR:aw:=aF (a:=bg Z1.1.body 15) ⟨_,by conv=>lhs;reduce⟩
def alR:aw:=aF (a:= λx y=>bh 15 y (bh 75 x Z1.1.body)) ⟨_,by conv=>lhs;reduce⟩ Sc LR
def Za:b8:=⟨27,[.bJ 4],alR⟩
theorem az3:cd N 80=some Za:=by kernel_rfl
def aAk:cp N 122:=⟨_,by conv=>lhs;reduce⟩
def aiA:aw:=aF (a:=aAk.1.body) ⟨_,by conv=>lhs;reduce⟩
def QA:b8:=⟨7,[.bJ 3],aiA⟩
theorem aiB:cd N 122=some QA:=by kernel_rfl
end
section
set_option maxRecDepth 100000
def L5:cp N 68:=⟨_,by conv=>lhs;reduce⟩
def R6:aw:=aF (a:=bg L5.1.body 75) ⟨_,by conv=>lhs;reduce⟩
def LL:aw:=aF (a:=bg L5.1.body 303) ⟨_,by conv=>lhs;reduce⟩
def R5:aw:=aF (a:=bg L5.1.body 63) ⟨_,by conv=>lhs;reduce⟩
def HI:aw:=aF (a:= λx y=>bh 7 y (bh 37 x (bg L5.1.body 15))) ⟨_,by conv=>lhs;reduce⟩ LL R5
def alG:aw:=aF (a:= λx y=>bh 15 y (bh 75 x L5.1.body)) ⟨_,by conv=>lhs;reduce⟩ R6 HI
def R4:b8:=⟨36,[.bJ 2],alG⟩
theorem alH:cd N 68=some R4:=by kernel_rfl
def aBs:cp N 71:=⟨_,by conv=>lhs;reduce⟩
def LN:aw:=aF (a:=aBs.1.body) ⟨_,by conv=>lhs;reduce⟩
def azQ:b8:=⟨8,[.bJ 2],LN⟩
theorem azR:cd N 71=some azQ:=by kernel_rfl
theorem afe{args:List Value}{m:H}{bA:Value->H->Prop}(h:args.length<=8):ep N 71 args m bA=fG N LN (ig args) m (nn [.bJ 2] bA):=nN azR h
def aBw:cp N 78:=⟨_,by conv=>lhs;reduce⟩
def Y9:aw:=aF (a:=aBw.1.body) ⟨_,by conv=>lhs;reduce⟩
def LQ:b8:=⟨9,[.bJ 4],Y9⟩
theorem alP:cd N 78=some LQ:=by kernel_rfl
def aAj:cp N 117:=⟨_,by conv=>lhs;reduce⟩
def XO:aw:=aF (a:=aAj.1.body) ⟨_,by conv=>lhs;reduce⟩
def Hb:b8:=⟨27,[.bJ 4],XO⟩
theorem XP:cd N 117=some Hb:=by kernel_rfl
-- fL aug for 119
def L1:cp N 121:=⟨_,by conv=>lhs;reduce⟩
def Qz:aw:=aF (a:=bg L1.1.body 151) ⟨_,by conv=>lhs;reduce⟩
def KX:aw:=aF (a:=bg L1.1.body 31) ⟨_,by conv=>lhs;reduce⟩
def aiz:aw:=aF (a:= λx y=>bh 3 y (bh 18 x (bg L1.1.body 15))) ⟨_,by conv=>lhs;reduce⟩ Qz KX
def XR:aw:=aF (a:= λx=>bh 3 x (bg L1.1.body 7)) ⟨_,by conv=>lhs;reduce⟩ aiz
def aix:aw:=aF (a:= λx=>bh 7 x L1.1.body) ⟨_,by conv=>lhs;reduce⟩ XR
def Qy:b8:=⟨42,[.bJ 4],aix⟩
theorem aiy:cd N 121=some Qy:=by kernel_rfl
def Zr:cp N 123:=⟨_,by conv=>lhs;reduce⟩
def QC:aw:=aF (a:=bg Zr.1.body 37) ⟨_,by conv=>lhs;reduce⟩
def KY:aw:=aF (a:=bg Zr.1.body 7) ⟨_,by conv=>lhs;reduce⟩
def aiC:aw:=aF (a:= λx y=>bh 7 y (bh 37 x Zr.1.body)) ⟨_,by conv=>lhs;reduce⟩ QC KY
def QB:b8:=⟨19,[.bJ 4],aiC⟩
theorem aiD:cd N 123=some QB:=by kernel_rfl
def Zz:cp N 182:=⟨_,by conv=>lhs;reduce⟩
def Q6:aw:=aF (a:=bg Zz.1.body 37) ⟨_,by conv=>lhs;reduce⟩
def Lc:aw:=aF (a:=bg Zz.1.body 7) ⟨_,by conv=>lhs;reduce⟩
def ajp:aw:=aF (a:= λx y=>bh 7 y (bh 37 x Zz.1.body)) ⟨_,by conv=>lhs;reduce⟩ Q6 Lc
def Q5:b8:=⟨19,[.bJ 4],ajp⟩
theorem ajq:cd N 182=some Q5:=by kernel_rfl
end
def uK(x:Int)(l:List Int):Int:=match l.findIdx? (λy=>decide (x=y))with|some i=>i|none=> -1
theorem aBF{x:Int}{l:List Int}{i:Nat}(W:i<l.length)(B:x=l[i])(h: ∀j (aX:j<l.length),j<i-> ¬x=l[j]):uK x l=i:=by
 unfold uK;have:l.findIdx? (λy=>decide (x=y))=some i:=by rw[UI];exact⟨W,by simpa using B,λj aX=>by simpa using h j (by omega) aX⟩
 rw[this]
theorem aBG{x:Int}{l:List Int}(h: ∀j (aX:j<l.length),¬x=l[j]):uK x l= -1:=by
 unfold uK;have:l.findIdx? (λy=>decide (x=y))=none:=by rw[UH];intro y Y;obtain⟨j,aX,rfl⟩:=lN Y;simpa using h j aX
 rw[this]
theorem amA{x:Int}{l:List Int}:0<=uK x l↔x∈l:=by
 cases a5:l.findIdx? (λy=>decide (x=y))with
 | some i=>have e:uK x l=i:=(by unfold uK;rw[a5]);rw[UI]at a5;obtain⟨W,hb,_⟩:=a5;have iG:x=l[i]:=(by simpa using hb);rw[e];exact⟨λ_=>by rw[iG];exact kd W,λ_=>by omega⟩
 | none=>have e:uK x l= -1:=(by unfold uK;rw[a5]);rw[UH]at a5;rw[e];exact⟨λh=>by omega,λh=>by have:=a5 x h;simp at this⟩
theorem aHb{l:List Int}{x:Int}(az:l.length<=1000000):bP N 123 [bm l,E x] (E (uK x l)):=by
 refine du (c2 (ax:=⟨[],[]⟩) aiD (by kernel_rfl) (by simp[QB]) ?_);simp[QB,aiC];refine gR (ax:=⟨[],[]⟩) (λi z t=>(∀j (aX:j<l.length),j<i-> ¬x=l[j])/\z 0=bm l/\z 1=E x/\z 7=E l.length/\z 8=E i) l.length ?_ ?_ 0 _ _ (gi _) ⟨λj aX h=>absurd h (xO _),by simp,by simp,by simp,by simp⟩
 ·rintro i z t W ⟨jk,bO,aU,ca,bl⟩ bM a1;obtain⟨y,B⟩:=gk W;have cS:=(cG.1 B).2;have bC:(i:Int)<l.length:=(by omega);have br:=fz (n:=i) (by omega);by_cases c:x=y
  ·have e:=aBF W (by rw[cS];exact c) jk;simp(disch:=first|omega|simp only[bE];omega) [QC,KY,bO,aU,ca,bl,bC,cS,eq_true c,e]
  ·simp(disch:=first|omega|simp only[bE];omega) [QC,KY,bO,aU,ca,bl,bC,cS,c,br,-an,-au,-ak,-aq,-List.map_map];refine a1 _ _ ⟨λj aX PY=> ?_,by simp[bO],by simp[aU],by simp[ca],by simp⟩;by_cases e:j=i
   ·subst e;rw[cS];exact c
   ·exact jk j aX (by omega)
 ·rintro z t ⟨jk,bO,aU,ca,bl⟩;have e:=aBG λj aX=>jk j aX aX;simp[QC,KY,KY,ca,bl,e]
noncomputable def ace:bx N:= .cK 123 (List Int×Int) (λx=>x.1.length<=1000000) (λx=>[bm x.1,E x.2]) (λx=>E (uK x.2 x.1)) λ_ h=>aHb h
@[simp] theorem aT3:ace.f=123:=rfl
@[simp] theorem aT4{l:List Int}{x:Int}(h:l.length<=1000000):ace.fn [ad (l.map λx=>[E x]) 1,E x]=some (E (uK x l)):=bx.dx (x:=(l,x)) h λ⟨ko,h6⟩ Y=>by simpa using Y
theorem aG2{l:List Int}{x:Int}(az:l.length<=1000000):bP N 78 [bm l,E x] (.bool (decide (x∈l))):=by
 refine du (c2 (ax:=⟨[ace],[]⟩) alP (by kernel_rfl) (by simp[LQ]) ?_);by_cases c:x∈l
 ·have b6:=amA.2 c;simp(disch:=omega) [LQ,Y9,c,b6]
 ·have b6: ¬0<=uK x l:= λh=>c (amA.1 h);simp(disch:=omega) [LQ,Y9,c,b6]
noncomputable def Iv:bx N:= .cK 78 (List Int×Int) (λx=>x.1.length<=1000000) (λx=>[bm x.1,E x.2]) (λx=> .bool (decide (x.2∈x.1))) λ_ h=>aG2 h
@[simp] theorem aTK:Iv.f=78:=rfl
@[simp] theorem aTL{l:List Int}{x:Int}(h:l.length<=1000000):Iv.fn [ad (l.map λx=>[E x]) 1,E x]=some (.bool (decide (x∈l))):=bx.dx (x:=(l,x)) h λ⟨ko,h6⟩ Y=>by simpa using Y
def mb(u:aG)(n:Int):Bool:=decide (0<=n)&&decide (n<(u.aP.length:Int)+u.aY.length)
theorem aDW{u:aG}(A:u.aP.length<=1000)(D:u.aY.length<=1000){n:Int}:bP N 64 [.agg (aI u).toArray,E n] (.bool (mb u n)):=by
 refine du (c2 (ax:=⟨[],[]⟩) alC (by kernel_rfl) (by simp[LH]) ?_);have br:IntKind.i64.wrap ((u.aP.length:Int)+u.aY.length)=(u.aP.length:Int)+u.aY.length:=cY (by omega) (by omega);by_cases c:0<=n
 ·simp[LH,Y2,aI,c,br,mb]
 ·simp[LH,Y2,aI,c,mb]
noncomputable def xD(u:aG)(A:u.aP.length<=1000)(D:u.aY.length<=1000):bx N:= .cK 64 Int (λ_=>True) (λn=>[.agg (aI u).toArray,E n]) (λn=> .bool (mb u n)) λ_ _=>aDW A D
@[simp] theorem aUi{u:aG}{A:u.aP.length<=1000}{D:u.aY.length<=1000}:(xD u A D).f=64:=rfl
@[simp] theorem aUj{u:aG}{A:u.aP.length<=1000}{D:u.aY.length<=1000}{n:Int}:(xD u A D).fn [.agg #[E u.ext,ad (u.eI.map gf) 4,ad (u.cr.map gp) 4,ad (u.aP.map eG) 7,ad (u.aY.map fk) 3,ad (u.dj.map dE) 17,ad (u.aZ.map ga) 2],E n]=some (.bool (mb u n)):=bx.dx (x:=n) trivial λy Y=>by simpa using Y
def lW(u:aG)(n:Int):List Int:=if(u.aP.length:Int)<=n then[n-u.aP.length]else Bm u n.toNat
theorem anG{u:aG}{n:Int}(h:mb u n=true):0<=n/\n<(u.aP.length:Int)+u.aY.length:=by simpa[mb]using h
theorem aDL{u:aG}(h:cE u){n:Int}(ae:mb u n=true):bP N 65 [.agg (aI u).toArray,E n] (bm (lW u n)):=by
 refine du (c2 (ax:=⟨[ab8 u h],[]⟩) alD (by kernel_rfl) (by simp[LI]) ?_);have eW:=h.ok.fg;have ic:=h.ok.h2;obtain⟨h1,dY⟩:=anG ae;obtain⟨aA,eH⟩:=jX h1;subst eH;by_cases c:u.aP.length<=aA
 ·have b6:(u.aP.length:Int)<=aA:=(by omega);have br:IntKind.i64.wrap ((aA:Int)-u.aP.length)=(aA:Int)-u.aP.length:=cY (by omega) (by omega);have e:lW u aA=[(aA:Int)-u.aP.length]:=(by unfold lW;rw[if_pos b6]);rw[e];simp[LI,Y3,aI,b6,br];exact vu (n:=8) (l:=1) (G:=1) (w:=true) (bI:=[[E ((aA:Int)-u.aP.length)]]) (by simp) rfl (λr al=>by simp at al;subst al;exact⟨rfl,λv M=>by simp at M;subst M;rfl⟩)
 ·have b6: ¬(u.aP.length:Int)<=aA:=(by omega);have cR:aA<u.aP.length:=(by omega);have e:lW u aA=Bm u aA:=(by unfold lW;rw[if_neg b6];rfl);rw[e];simp(disch:=first|omega|simp only[bE];omega) [LI,Y3,aI,b6]
noncomputable def CG(u:aG)(h:cE u):bx N:= .cK 65 Int (λn=>mb u n=true) (λn=>[.agg (aI u).toArray,E n]) (λn=>bm (lW u n)) λ_ ae=>aDL h ae
@[simp] theorem aTF{u:aG}{h:cE u}:(CG u h).f=65:=rfl
@[simp] theorem aTG{u:aG}{h:cE u}{n:Int}(ae:mb u n=true):(CG u h).fn [.agg #[E u.ext,ad (u.eI.map gf) 4,ad (u.cr.map gp) 4,ad (u.aP.map eG) 7,ad (u.aY.map fk) 3,ad (u.dj.map dE) 17,ad (u.aZ.map ga) 2],E n]=some (bm (lW u n)):=bx.dx (x:=n) ae λy Y=>by simpa using Y
theorem aEO{u:aG}(h:fj u){n:Nat}(ae:n<u.aP.length){Q:cM->aC->H->Prop}: ∀(k i:Nat) (z:aC) (t:H),i<u.aP.length->i<=n+k->t.I 0=some ⟨aI u,true⟩->z 3=bH 0->z 7=E i->z 2=E n->(∀K af,K 7=E (oA u n k i)->K 2=E n->Q (.cH 0) K af)->ec N (.loop LK) z t Q:=by
 intro k;induction k with
 | zero=>intro i z t W S aL bW ca bS bb;refine eF (ax:=⟨[],[]⟩) λbM a1=> ?_;have aH: ¬(n:Int)<i:=(by omega);have zT: ¬n<i:=(by omega);simp[LK,ca,bS,aH];exact bb _ _ (by simp[ca,oA]) (by simp[bS])
 | succ k cf=>
   intro i z t W S aL bW ca bS bb;refine eF (ax:=⟨[],[]⟩) λbM a1=> ?_;obtain⟨d,B⟩:=gk W;have cS:=(cG.1 B).2;have aJ:jL u i=d.parent.toNat:=(by simp only[jL,B]);have bC:(i:Int)<u.aP.length:=(by omega);have dD:=aM aL;by_cases zT:n<i
   ·have aH:(n:Int)<i:=(by omega);obtain⟨a,b,c⟩:=h.ni W (h.vX W (by omega));obtain⟨p,Z⟩:=jX (h.lf i d c B).1;have oF:jL u i=p:=(by rw[aJ,Z];rfl);rw[oF]at a b;simp(disch:=omega) [LK,bW,ca,bS,aL,aI,eG,bC,cS,aH,Z];refine a1 _ _ (cf p _ _ (by omega) (by omega) (by simp(disch:=first|omega|simp only[bE];omega) [aL,aI,-an,-au,-ak,-aq,-List.map_map]) (by simp[bW]) (by simp) (by simp[bS]) λK af F ie=>bb K af ?_ ie);rw[F,oA,if_pos zT,oF]
   ·have aH: ¬(n:Int)<i:=(by omega);simp[LK,ca,bS,aH];exact bb _ _ (by rw[oA,if_neg zT];simp[ca]) (by simp[bS])
theorem aEP{u:aG}(h:cE u){d:Nat}(aV:d<u.aY.length){n:Int}:bP N 67 [.agg (aI u).toArray,E d,E n] (.bool (ly u d n)):=by
 refine du (c2 (ax:=⟨[],[]⟩) azO (by kernel_rfl) (by simp[HH]) ?_);have eW:=h.ok.fg;have ic:=h.ok.h2;obtain⟨x,B⟩:=gk aV;have cS:=(cG.1 B).2;obtain⟨bt,bR,a3,a4,ft⟩:=h.ok.tf d x B;obtain⟨m,ab⟩:=jX a3;have bC:(d:Int)<u.aY.length:=by omega
 have br:IntKind.i64.wrap ((u.aP.length:Int)+d)=(u.aP.length:Int)+d:=cY (by omega) (by omega);by_cases b6:n=(u.aP.length:Int)+d
 ·have e:ly u d n=true:=(by simp[ly,B,b6]);rw[e];simp[HH,LJ,aI,br,eq_true b6]
 by_cases cR:n<=0
 ·have e:ly u d n=false:=by
   have: ¬0<n:=(by omega);simp[ly,B,b6,this]
  rw[e];simp[HH,LJ,R3,aI,br,b6,cR]
 by_cases lz:(u.aP.length:Int)<=n
 ·have e:ly u d n=false:=by
   have: ¬n<u.aP.length:=(by omega);simp[ly,B,b6,this]
  rw[e];simp(disch:=first|omega|simp only[bE];omega) [HH,LJ,R3,aI,br,b6,cR,lz]
 obtain⟨aA,eH⟩:=jX (show 0<=n by omega);subst eH;have ji:aA<u.aP.length:=by omega
 have xY: ¬u.aP.length<=aA:=by omega
 have Be:0<aA:=by omega
 have asx:(aA:Int)<u.aP.length:=by omega
 have e:ly u d aA=decide (oA u aA u.aP.length m=aA):=by simp[ly,B,b6,Be,asx,ab]
 have asy: ¬aA=0:=by omega
 rw[e];simp(disch:=first|omega|simp only[bE];omega) [HH,LJ,R3,alF,aI,fk,br,b6,lz,asy,bC,cS,ab,-an,-au,-ak,-aq,-List.map_map];refine aEO h.ok ji u.aP.length m _ _ (by omega) (by omega) (by simp(disch:=first|omega|simp only[bE];omega) [aI,-an,-au,-ak,-aq,-List.map_map]) (by simp) (by simp) (by simp) λK af F ie=> ?_;by_cases G:oA u aA u.aP.length m=aA
 ·have hY:(oA u aA u.aP.length m:Int)=(aA:Int):=(by omega);simp[F,ie,G]
 ·have hY: ¬(oA u aA u.aP.length m:Int)=(aA:Int):=(by omega);simp[F,ie,G,hY]
noncomputable def NB(u:aG)(h:cE u):bx N:= .cK 67 (Nat×Int) (λx=>x.1<u.aY.length) (λx=>[.agg (aI u).toArray,E x.1,E x.2]) (λx=> .bool (ly u x.1 x.2)) λ_ aV=>aEP h aV
@[simp] theorem aUM{u:aG}{h:cE u}:(NB u h).f=67:=rfl
@[simp] theorem aUN{u:aG}{h:cE u}{d:Nat}{n:Int}(aV:d<u.aY.length):(NB u h).fn [.agg #[E u.ext,ad (u.eI.map gf) 4,ad (u.cr.map gp) 4,ad (u.aP.map eG) 7,ad (u.aY.map fk) 3,ad (u.dj.map dE) 17,ad (u.aZ.map ga) 2],E d,E n]=some (.bool (ly u d n)):=bx.dx (x:=(d,n)) aV λ⟨ko,h6⟩ Y=>by simp at Y⊢;omega
theorem aaw{u:aG}(h:fj u){n:Int}(ae:mb u n=true){x:Int}:x∈lW u n↔ ∃d:Nat,x=d/\d<u.aY.length/\(n=0\/ly u d n=true):=by
 obtain⟨h1,dY⟩:=anG ae;obtain⟨aA,eH⟩:=jX h1;subst eH;have bG:=h.hl;by_cases c:(u.aP.length:Int)<=aA
 ·unfold lW;rw[if_pos c];simp only[rg];constructor
  ·intro B;refine⟨aA-u.aP.length,by omega,by omega,.inr ?_⟩;have aV:aA-u.aP.length<u.aY.length:=(by omega);have e:(aA:Int)=(u.aP.length:Int)+((aA-u.aP.length:Nat):Int):=(by omega);simp only[ly,c1 aV];rw[decide_eq_true e];rfl
  ·rintro⟨d,rfl,aV,A|A⟩
   ·omega
   ·simp only[ly,c1 aV]at A;simp only[ua,a6,ey]at A;omega
 ·unfold lW;rw[if_neg c];have eH:aA<u.aP.length:=(by omega);simp only[Bm,gG,List.mem_filter,om,ey,ns];have am2: ∀d,d<u.aY.length->iD u d<u.aP.length/\hD u (iD u d)=4:= λd aV=>by
   obtain⟨x,B⟩:=gk aV;obtain⟨bt,bR,a3,a4,ft⟩:=h.tf d x B;simp only[iD,B];exact⟨by omega,ft⟩
  have hb: ∀d,d<u.aY.length->(ly u d aA=true↔(0<aA/\oA u aA u.aP.length (iD u d)=aA)):= λd aV=>by obtain⟨x,B⟩:=gk aV;simp only[ly,iD,B,ua,a6,ey,ns];omega
  have vH:=h.gl eH;constructor
  ·rintro⟨d,⟨aV,aa⟩,rfl⟩;refine⟨d,rfl,aV,?_⟩;by_cases bw:aA=0
   ·left;omega
   ·right;obtain⟨bn,cI⟩:=am2 d aV;exact(hb d aV).2 ⟨by omega,(U3 h eH bn (by omega) (by omega)).1 aa⟩
  ·rintro⟨d,rfl,aV,A⟩;refine⟨d,⟨aV,?_⟩,rfl⟩;obtain⟨bn,cI⟩:=am2 d aV;rcases A with A|A
   ·have bw:aA=0:=(by omega);subst bw
    -- pR only domain cK jQ 0
    have aHN: ∀{k i:Nat},i<u.aP.length->hD u i<=k->mg u (hD u 0) k i=0:=by
     intro k;induction k with
     | zero=>
       intro i W S;unfold mg;by_cases bw:i=0
       ·exact bw
       ·have:=h.vX W (by omega);omega
     | succ k cf=>
       intro i W S;unfold mg;have bY:=h.q2.1;split
       ·next aH=>obtain⟨a,b,c⟩:=h.ni W (by omega);exact cf (by omega) (by omega)
       ·by_cases bw:i=0
        ·exact bw
        ·have:=h.vX W (by omega);omega
    exact aHN bn (by omega)
   ·exact(U3 h eH bn (by omega) (by omega)).2 ((hb d aV).1 A).2
def Bq(L:List (List Int))(aN:List Int):Bool:=L.flatten.all λx=>decide (x∉aN)
theorem aun{L:List (List Int)}{aN:List Int}{x:Int}(h:x∈L.flatten)(cn:x∈aN):Bq L aN=false:=by unfold Bq;rw[IY];exact⟨x,h,by simp[cn]⟩
theorem agk{L:List (List Int)}{aN:List Int}(h: ∀x∈L.flatten,x∉aN):Bq L aN=true:=by unfold Bq;rw[dP];exact λx B=>decide_eq_true (h x B)
def vo(u:aG)(L:List (List Int))(n:Int):Bool:=tR u L&&(mb u n&&Bq L (lW u n))
theorem at0{u:aG}{L:List (List Int)}{n:Int}(h:tR u L=false):vo u L n=false:=by unfold vo;rw[h];rfl
theorem atZ{u:aG}{L:List (List Int)}{n:Int}(h:mb u n=false):vo u L n=false:=by unfold vo;rw[h];simp
theorem afW{u:aG}{L:List (List Int)}{n:Int}(h:tR u L=true)(cn:mb u n=true):vo u L n=Bq L (lW u n):=by unfold vo;rw[h,cn];rfl
theorem ae6{u:aG}(h:cE u){n:Int}:(lW u n).length<=1000000:=by
 have ic:=h.ok.h2;unfold lW;split
 ·simp
 ·unfold Bm;rw[k8];refine mD (Oh _ _) ?_;rw[F6];omega
theorem aua{L:List (List Int)}{i k:Nat}{r:List Int}{x:Int}(B:L[i]?=some r)(Y:r[k]?=some x):x∈L.flatten:=
 zf.2 ⟨r,fr B,fr Y⟩
theorem aDO{u:aG}(h:cE u){L:List (List Int)}(gd:vg L){n:Int}:bP N 33 [.agg (aI u).toArray,jO L,E n] (.bool (vo u L n)):=by
 have eW:=h.ok.fg;have ic:=h.ok.h2;refine du (c2 (ax:=⟨[Nz u h,xD u (by omega) (by omega),CG u h,Iv],[]⟩) azB (by kernel_rfl) (by simp[LA]) ?_);cases A:tR u L
 ·rw[at0 A];simp(disch:=first|omega|simp only[bE];omega) [LA,RL,aI,A,-an,-au,-ak,-aq,-List.map_map]
 cases D:mb u n
 ·rw[atZ D];simp(disch:=first|omega|simp only[bE];omega) [LA,RL,aI,A,D,-an,-au,-ak,-aq,-List.map_map]
 rw[afW A D];obtain⟨aN,b9⟩: ∃aN,aN=lW u n:=⟨_,rfl⟩;have pD:aN.length<=1000000:=by rw[b9];exact ae6 h
 rw[<-b9];simp(disch:=first|omega|simp only[bE];omega) [LA,RL,ak1,aI,A,D,<-b9,-an,-au,-ak,-aq,-List.map_map];refine gR (ax:=⟨[Nz u h,xD u (by omega) (by omega),CG u h,Iv],[]⟩) (λi z t=>(∀(j:Nat) r x,j<i->L[j]?=some r->x∈r->x∉aN)/\z 7=bm aN/\z 25=jO L/\z 26=E L.length/\z 27=E i) L.length ?_ ?_ 0 _ _ (gi _) ⟨λj r x aX=>absurd aX (xO _),by simp,by simp,by simp,by simp⟩
 ·rintro i z t W ⟨jk,ca,ph,oL,pj⟩ bM a1;obtain⟨r,B⟩:=gk W;have cS:=(cG.1 B).2;have bC:(i:Int)<L.length:=(by omega);have GX:=gd.2 r (fr B);have D7:=gd.1;have br:=fz (n:=i) (by omega);simp(disch:=first|omega|simp only[bE];omega) [YN,RM,lq,ph,oL,pj,bC,cS,-an,-au,-ak,-aq,-List.map_map];refine gR (ax:=⟨[Nz u h,xD u (by omega) (by omega),CG u h,Iv],[]⟩) (λk z t=>(∀(j:Nat) x,j<k->r[j]?=some x->x∉aN)/\z 7=bm aN/\z 25=jO L/\z 26=E L.length/\z 27=E i/\z 31=bm r/\z 32=E r.length/\z 33=E k) r.length ?_ ?_ 0 _ _ (gi _) ⟨λj x aX=>absurd aX (xO _),by simp[ca],by simp[ph],by simp[oL],by simp[pj],by simp,by simp,by simp⟩
  ·rintro k z t S ⟨al,ca,ph,oL,pj,y0,Nr,TH⟩ bM a1;obtain⟨x,Y⟩:=gk S;have mO:=(cG.1 Y).2;have a8:(k:Int)<r.length:=(by omega);have v0:=fz (n:=k) (by omega);by_cases c:x∈aN
   ·have e:Bq L aN=false:=aun (aua B Y) c;rw[e];simp(disch:=first|omega|simp only[bE];omega) [RN,ca,y0,Nr,TH,a8,mO,c]
   ·simp(disch:=first|omega|simp only[bE];omega) [RN,ca,y0,Nr,TH,a8,mO,c,v0];refine a1 _ _ ⟨λj y aX Xl=> ?_,by simp[ca],by simp[ph],by simp[oL],by simp[pj],by simp[y0],by simp[Nr],by simp⟩;by_cases e:j=k
    ·subst e;rw[Y]at Xl;cases Xl;exact c
    ·exact al j y (by omega) Xl
  ·rintro z t ⟨al,ca,ph,oL,pj,y0,Nr,TH⟩;simp(disch:=first|omega|simp only[bE];omega) [RN,pj,Nr,TH,br];refine a1 _ _ ⟨λj dZ x aX Xi ab=> ?_,by simp[ca],by simp[ph],by simp[oL],by simp⟩;by_cases e:j=i
   ·subst e;rw[B]at Xi;cases Xi;obtain⟨k,S,rfl⟩:=lN ab;exact al k _ S (c1 S)
   ·exact jk j dZ x (by omega) Xi ab
 ·rintro z t ⟨jk,ca,ph,oL,pj⟩;have e:Bq L aN=true:=by
   refine agk λx B=> ?_;obtain⟨r,al,ab⟩:=zf.1 B;obtain⟨j,aX,rfl⟩:=lN al;exact jk j _ x aX (c1 aX) ab
  rw[e];simp(disch:=first|omega|simp only[bE];omega) [YN,RM,RM,oL,pj]
noncomputable def acm(u:aG)(h:cE u):bx N:= .cK 33 (List (List Int)×Int) (λx=>vg x.1) (λx=>[.agg (aI u).toArray,jO x.1,E x.2]) (λx=> .bool (vo u x.1 x.2)) λ_ gd=>aDO h gd
@[simp] theorem aUq{u:aG}{h:cE u}:(acm u h).f=33:=rfl
@[simp] theorem aUr{u:aG}{h:cE u}{L:List (List Int)}{n:Int}(gd:vg L):(acm u h).fn [.agg #[E u.ext,ad (u.eI.map gf) 4,ad (u.cr.map gp) 4,ad (u.aP.map eG) 7,ad (u.aY.map fk) 3,ad (u.dj.map dE) 17,ad (u.aZ.map ga) 2],ad (L.map lq) 1,E n]=some (.bool (vo u L n)):=bx.dx (x:=(L,n)) gd λ⟨ko,h6⟩ Y=>by simpa using Y
def ow(n d:Int):Prop:=(n=0/\d=1)\/(n=1/\d=1)\/(n=1/\d=2)\/(n=1/\d=1000)\/(n=30/\d=1)\/(n=1/\100<=d/\d<200)
def gb(n d:Int):cq:=⟨false,if n=0 then[]else[n],[d]⟩
theorem agi{n d:Int}(h:ow n d):bP N 59 [E n,E d] (dL (gb n d)):=by
 rcases h with⟨rfl,rfl⟩|⟨rfl,rfl⟩|⟨rfl,rfl⟩|⟨rfl,rfl⟩|⟨rfl,rfl⟩|⟨rfl,A,D⟩
 ·exact auh
 ·exact aui
 ·exact auj
 ·exact auk
 ·exact aul
 ·exact aum (by omega) D
noncomputable def AI:bx N:= .cK 59 (Int×Int) (λx=>ow x.1 x.2) (λx=>[E x.1,E x.2]) (λx=>dL (gb x.1 x.2)) λx h=>agi h
@[simp] theorem aTT:AI.f=59:=rfl
@[simp] theorem aTU{n d:Int}(h:ow n d):AI.fn [E n,E d]=some (dL (gb n d)):=bx.dx (x:=(n,d)) h λ⟨ko,h6⟩ Y=>by simpa using Y
def lL(c n:Nat):ByteArray:=⟨#[c.toUInt8,(97+n/26%26).toUInt8,(97+n%26).toUInt8]⟩
theorem aC0{c n:Nat}(ar:c<256)(ae:n<1000000):bP N 109 [.int .u8 c,E n] (.string (lL c n)):=by
 refine du (c2 (ax:=⟨[],[]⟩) axw (by kernel_rfl) (by simp[XD]) ?_);have bt:IntKind.i64.wrap ((n:Int)/26)=((n/26:Nat):Int):=by rw[cY (by omega) (by omega)];omega
 have bR:((n/26:Nat):Int).tmod 26=((n/26%26:Nat):Int):=by rw[Int.tmod_eq_emod_of_nonneg (by omega)];omega
 have a3:(n:Int).tmod 26=((n%26:Nat):Int):=by rw[Int.tmod_eq_emod_of_nonneg (by omega)];omega
 have w: ∀k:Nat,k<26->IntKind.u8.wrap (IntKind.i64.wrap (97+(k:Int)))=((97+k:Nat):Int):= λk S=>by rw[cY (by omega) (by omega)];show(97+(k:Int))%256=_;omega
 have ct:=w (n/26%26) (by omega);have dW:=w (n%26) (by omega);simp[XD,aij];rw[bt,bR,a3,ct,dW];simp only[toBytes,lL,lO,List.map_nil];rfl
noncomputable def oh:bx N:= .cK 109 (Nat×Nat) (λx=>x.1<256/\x.2<1000000) (λx=>[.int .u8 x.1,E x.2]) (λx=> .string (lL x.1 x.2)) λx h=>aC0 h.1 h.2
@[simp] theorem aUf:oh.f=109:=rfl
@[simp] theorem TP{c:Int}{C n:Nat}(ar:c=C)(h:C<256/\n<1000000):oh.fn [.int .u8 c,E n]=some (.string (lL C n)):=by subst ar;exact bx.dx (x:=(C,n)) h λ⟨ko,h6⟩ Y=>by simp at Y⊢;omega
end Go.Proofs.YtmmkkggfmigppaaGreat
