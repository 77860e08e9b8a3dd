/-
  A part of the proof, shortened by tools of ours.
-/
import Derived.Shelf.Spec.SlicesInsertGrow
import Derived.Test.YtmmkkggfmigppaaGreatZau
set_option linter.all false
set_option maxRecDepth 8000
set_option maxHeartbeats 16000000
namespace Go.Proofs.YtmmkkggfmigppaaGreat
open Go Go.DI Go.Big
def zo(aN:Int)(R:List Int):Prop:= ∀y∈R,0<=y/\y<=aN
theorem zo.set{aN:Int}{R:List Int}(h:zo aN R){k:Nat}{y:Int}(Y:0<=y/\y<=aN):zo aN (R.set k y):= λx B=>by
 rcases F4 B with q|q
 ·exact h x q
 ·rw[q];exact Y
theorem aFj{l:List Int}(az:l.length<=140737488355328){n:Nat}(ae:n<=1000){aN:Int}(b9:0<=aN/\aN<=900000): ∀(r k:Nat) (R:List Int) (i:Nat),k+r=n->R.length=n->zo aN R->i+2*r+10<1000000->
 ∃ (lS:List Int) (dn:Nat),lS.length=n/\zo aN lS/\dn<=i+2*r/\ ∀(z:aC) (t:H) (Q:cM->aC->H->Prop) (hG:Nat),z 0=bH 0->z 5=b7 hG n 1->z 6=E k->
   t.I 0=some ⟨[bm l,E i],true⟩->t.I hG=some ⟨R.map E,true⟩->hG≠0->
   (∀K af,K 5=b7 hG n 1->af.I 0=some ⟨[bm l,E dn],true⟩->af.I hG=some ⟨lS.map E,true⟩->Q (.cH 0) K af)->ec N (.loop HG) z t Q:=by
 intro r;induction r with
 | zero=>intro k R i S c0 av W;refine⟨R,i,c0,av,by omega,λz t Q hG bO bz bB aL e1 h1 bb=> ?_⟩;refine eF (ax:=⟨[],[kG]⟩) λbM a1=> ?_;have c: ¬(k:Int)<n:=(by omega);simp[HG,bz,bB,c];exact bb _ _ (by simp[bz]) aL e1
 | succ r cf=>
   intro k R i S c0 av W;have ahl:k<R.length:=(by omega);obtain⟨x,B⟩:=gk ahl;have cS:=(cG.1 B).2;have aPn:=av x (by rw[<-cS];exact kd ahl);have c:(k:Int)<n:=(by omega);have ct:=fz (n:=k) (by omega);have dW:IntKind.i64.wrap (x+1)=x+1:=cY (by omega) (by omega);have FO:((i:Int)+1).toNat=i+1:=(by omega);have ahp:((R.map E).drop k).take 1=[E x]:=by rw[rb (by simp;omega)];simp[cS]
   by_cases jN:fM l i 9=0
   ·obtain⟨lS,dn,er,eO,g8,g9⟩:=cf (k+1) (R.set k 0) (i+1) (by omega) (by simp[c0]) (av.set (by omega)) (by omega);refine⟨lS,dn,er,eO,by omega,λz t Q hG bO bz bB aL e1 h1 bb=> ?_⟩;refine eF (ax:=⟨[],[kG]⟩) λbM a1=> ?_;have dD:=aM aL;have kR:=aM e1;have xp: ¬0=hG:= λe=>h1 e.symm;have di:(R.map E).length=n:=(by simp[c0]);simp(disch:=first|omega|simp only[DI.aK];omega) [HG,bO,bz,bB,aL,e1,c,jN,ct,nf,di];refine⟨by omega,a1 _ _ (g9 _ _ Q hG (by simp[bO]) (by simp[bz]) (by simp) ?_ ?_ h1 bb)⟩
    ·rw[a7 xp,cx (by omega)];simp
    ·rw[cx (by simp;omega),List.map_set]
   ·by_cases b6:fM l i 9=1
    ·have ek:=mu (l:=l) (i:=i+1) (n:=x+1) (by omega);obtain⟨lS,dn,er,eO,g8,g9⟩:=cf (k+1) (R.set k (fM l (i+1) (x+1))) (i+2) (by omega) (by simp[c0]) (av.set (by omega)) (by omega);refine⟨lS,dn,er,eO,by omega,λz t Q hG bO bz bB aL e1 h1 bb=> ?_⟩;refine eF (ax:=⟨[],[kG]⟩) λbM a1=> ?_;have dD:=aM aL;have kR:=aM e1;have xp: ¬0=hG:= λe=>h1 e.symm;have di:(R.map E).length=n:=(by simp[c0]);simp(disch:=first|omega|simp only[DI.aK];omega) [HG,bO,bz,bB,aL,e1,c,b6,ct,dW,FO,nf,di,ahp];refine⟨by omega,a1 _ _ (g9 _ _ Q hG (by simp[bO]) (by simp[bz]) (by simp) ?_ ?_ h1 bb)⟩
     ·rw[a7 xp,cx (by omega)];simp;omega
     ·rw[cx (by simp;omega),List.map_set]
    ·obtain⟨lS,dn,er,eO,g8,g9⟩:=cf (k+1) R (i+1) (by omega) c0 av (by omega);refine⟨lS,dn,er,eO,by omega,λz t Q hG bO bz bB aL e1 h1 bb=> ?_⟩;refine eF (ax:=⟨[],[kG]⟩) λbM a1=> ?_;have dD:=aM aL;have kR:=aM e1;have xp: ¬0=hG:= λe=>h1 e.symm;have di:(R.map E).length=n:=(by simp[c0]);simp(disch:=first|omega|simp only[DI.aK];omega) [HG,bO,bz,bB,aL,c,jN,b6,ct,nf,-an,-au,-ak,-aq,-List.map_map];refine a1 _ _ (g9 _ _ Q hG (by simp[bO]) (by simp[bz]) (by simp) ?_ ?_ h1 bb)
     ·rw[cx (by omega)];simp
     ·rw[a7 h1];exact e1
theorem aFu{u:aG}(h:cE u)(aPf:1<=u.aY.length):fc N 52 [.agg (aI u).toArray,.slice none 0 0] fJ λv bj=> ∃o,v=b7 o u.aY.length 1/\bj.I o=some ⟨(kc u []).map E,true⟩:=by
 refine c2 (ax:=⟨[CL u h.fX],[]⟩) YU (by kernel_rfl) (by simp[HD]) ?_;have M:=h.ok.xK;have ic:=h.ok.h2;simp(disch:=first|omega|simp only[DI.aK];omega) [HD,YT,aI,-an,-au,-ak,-aq,-List.map_map];refine tY (d:=5) (G:=1) (by simp) ?_;refine gR (ax:=⟨[CL u h.fX],[]⟩) (λi z t=>t.I 0=some ⟨aI u,true⟩/\(∃o,o≠0/\z 5=b7 o i 1/\t.I o=some ⟨iW i (λj=>E (h4 u [] j)),true⟩)/\z 1= .slice none 0 0/\z 2=bH 0/\z 6=E i) u.aY.length ?_ ?_ 0 _ _ (gi _) ⟨by simp(disch:=first|omega|simp only[DI.aK];omega) [aI,-an,-au,-ak,-aq,-List.map_map],⟨2,by decide,by simp,by simp(disch:=first|omega|simp only[DI.aK];omega) [iW,-an,-au,-ak,-aq,-List.map_map]⟩,by simp,by simp,by simp⟩
 ·rintro i z t W ⟨aL,⟨o,aB,bz,bq⟩,aU,bS,bB⟩ bM a1;obtain⟨x,B⟩:=gk W;have cS:=(cG.1 B).2;obtain⟨bt,bR,a3,a4,ft⟩:=h.ok.tf i x B;obtain⟨m,ab⟩:=jX bt;have rD:m<u.cr.length:=(by omega);obtain⟨y,Y⟩:=gk rD;have mO:=(cG.1 Y).2;have g2:p0 u i=y.ext:=(by simp only[p0,B,ab,ns,Y]);have hb:=h.ok.HW m y Y;have bC:(i:Int)<u.aY.length:=(by omega);have a8:(m:Int)<u.cr.length:=(by omega);have qK:i+1<=u.aY.length:=W;have br:=fz (n:=i) (by omega);have dD:=aM aL;have bk:=aM bq;have e8:(i+1)*8<=140737488355328/\i<=9223372036854775806:=(by omega);have p4: ¬(0:Int)=u.aY.length:=(by omega);have vQ: ¬u.aY.length=0:=(by omega);have ahI: ¬0=u.aY.length:=(by omega);have ahJ: ¬u.aY=[]:= λe=>by rw[e]at vQ;exact vQ rfl
  have z5:h4 u [] i=y.ext:=(by unfold h4;rw[if_neg (by simp;omega),g2]);simp(disch:=first|omega|simp only[DI.aK];omega) [HE,aI,fk,gp,aU,bS,bz,bB,aL,bq,bC,a8,br,cS,ab,mO,p4,e8,-an,-au,-ak,-aq,-List.map_map];refine a1 _ _ ⟨by simp(disch:=first|omega|simp only[DI.aK];omega) [aL,aI,-an,-au,-ak,-aq,-List.map_map],⟨t.next+3,by omega,by simp,?_⟩,by simp[aU],by simp[bS],by simp⟩;rw[cx (by simp),h7 (by simp),abJ,z5]
 ·rintro z t ⟨aL,⟨o,aB,bz,bq⟩,aU,bS,bB⟩;have dD:=aM aL;simp(disch:=first|omega|simp only[DI.aK];omega) [HE,aI,aL,bS,bz,bB,-an,-au,-ak,-aq,-List.map_map];rw[bq,AA,Im]
noncomputable def Xr(u:aG)(h:cE u)(ae:1<=u.aY.length):jg N:= .JU 52 Unit (λ_=>True) (λ_=>[.agg (aI u).toArray,.slice none 0 0]) (λ_=>u.aY.length) (λ_=>1) (λ_=>(kc u []).map E) λ_ _=>UB (λv M=>by simp at M;rcases M with rfl|rfl<;>rfl) Xy (aFu h ae)
@[simp] theorem aPF{u:aG}{h:cE u}{ae:1<=u.aY.length}:(Xr u h ae).f=52:=rfl
@[simp] theorem aPG{u:aG}{h:cE u}{ae:1<=u.aY.length}{t:H}:(Xr u h ae).fn [.agg #[E u.ext,ad (u.eI.map gf) 4,ad (u.cr.map gp) 4,ad (u.aP.map eG) 7,ad (u.aY.map fk) 3,ad (u.dj.map dE) 17,ad (u.aZ.map ga) 2],.slice none 0 0] t=some (.slice (some ⟨t.next,0,none⟩) u.aY.length 1,(t.b0 1).aO t.next (some ⟨(kc u []).map E,true⟩)):=jg.VR (x:=()) trivial λy Y=>rfl
theorem aFi{u:aG}(h:cE u):zo 16 (kc u []):= λy Y=>by
 unfold kc at Y;obtain⟨d,aV,rfl⟩:=gG.1 Y;have BG:d<u.aY.length:=om.1 aV;have ahJ: ¬([]:List Int).length=u.aY.length:=by simp;omega
 simp only[if_neg ahJ];obtain⟨x,B⟩:=gk BG;obtain⟨bt,bR,a3,a4,ft⟩:=h.ok.tf d x B;obtain⟨m,ab⟩:=jX bt;have rD:m<u.cr.length:=by omega
 obtain⟨y,Y⟩:=gk rD;have g2:p0 u d=y.ext:=by simp only[p0,B,ab,ns,Y]
 have hb:=h.ok.HW m y Y;omega
theorem aFh{u:aG}:(kc u []).length=u.aY.length:=by unfold kc;simp
theorem aFl{l:List Int}(az:l.length<=140737488355328){i:Nat}(W:i<600000){u:aG}(h:cE u)(ic:1<=u.aY.length): ∃R dn,R.length=u.aY.length/\zo 16 R/\dn<=i+2*u.aY.length/\fc N 61 [bH 0,.agg (aI u).toArray] (o6 l i) λv af=>DI.dt 9 af v=some (bm R)/\af.I 0=some ⟨[bm l,E dn],true⟩/\0∉DI.et 9 af v:=by
 have awd:=h.ok.h2;obtain⟨R,dn,er,eO,g8,g9⟩:=aFj (l:=l) az (n:=u.aY.length) (by omega) (aN:=16) (by omega) u.aY.length 0 (kc u []) i (by omega) aFh (aFi h) (by omega);refine⟨R,dn,er,eO,g8,?_⟩;refine c2 (ax:=⟨[],[kG,Xr u h ic]⟩) azL (by kernel_rfl) (by simp[Y0]) ?_;simp[Y0,alj,o6,aI];refine g9 _ _ _ 3 (by simp) (by simp) (by simp) ?_ ?_ (by decide) λbQ bj bz aL aE=> ?_
 ·rw[a7 (by decide),cJ (by simp[fJ]),a7 (by decide),cJ (by simp[fJ]),cx (by simp[fJ])]
 ·exact cx (by simp[fJ])
 simp[bz];have e:(R.map E)=(R.map λx=>[E x]).flatten:=l5.symm;rw[e]at aE;refine⟨?_,aL,TA aE su (by decide)⟩;have:=vu (n:=8) (t:=bj) (l:=u.aY.length) aE (by simp[er]) su;exact this
open Classical in
noncomputable def EP(f:Nat)(args cs lX:List Value)(r:Value)(ok: ∀(t:H) (o:Nat),t.I o=some ⟨cs,true⟩->fc N f (.pointer (some ⟨o,0,none⟩)::args) t λv af=>v=r/\af=t.aO o (some ⟨lX,true⟩)):jg N:=
 ⟨f,λdS t=>if h: ∃o,Value.pointer (some ⟨o,0,none⟩)::args=dS/\t.I o=some ⟨cs,true⟩then some (r,t.aO h.choose (some ⟨lX,true⟩))else none,λdS t dZ af h bA iA=>by
  split at h
  ·next B=>cases h;have:=ok t _ B.choose_spec.2;rw[B.choose_spec.1]at this;exact this.bD λv af ⟨a,b⟩=>by rw[a,b];exact iA
  ·cases h⟩
theorem aBC{f:Nat}{args cs lX:List Value}{r:Value}{ok: ∀(t:H) (o:Nat),t.I o=some ⟨cs,true⟩->fc N f (.pointer (some ⟨o,0,none⟩)::args) t λv af=>v=r/\af=t.aO o (some ⟨lX,true⟩)}{t:H}{o:Nat}(h:t.I o=some ⟨cs,true⟩):
 (EP f args cs lX r ok).fn (.pointer (some ⟨o,0,none⟩)::args) t=some (r,t.aO o (some ⟨lX,true⟩)):=by
 have g2: ∃q,Value.pointer (some ⟨q,0,none⟩)::args=Value.pointer (some ⟨o,0,none⟩)::args/\t.I q=some ⟨cs,true⟩:=⟨o,rfl,h⟩;have e:g2.choose=o:=by have:=g2.choose_spec.1;simpa using this
 simp only[EP,dif_pos g2];rw[e]
theorem IQ{l:List Int}{i:Nat}: ∀v∈[bm l,E i],hB v=true:= λv M=>by simp at M;rcases M with rfl|rfl<;>rfl
theorem auc{l:List Int}(az:l.length<=140737488355328){i:Nat}(W:i<500000){dw:Int}(ch:dw<=100): ∃u dn,Ov u dw/\dn<=i+200/\ ∀(t:H) (o:Nat),t.I o=some ⟨[bm l,E i],true⟩->fc N 60 [bH o,E dw] t λv af=>v= .agg (aI u).toArray/\af=t.aO o (some ⟨[bm l,E dn],true⟩):=by obtain⟨u,dn,a,b,c⟩:=aud az W ch;exact⟨u,dn,a,b,λt o aB=>adV (by simp) (by simp) IQ IQ (λv M=>by simp at M;subst M;rfl) c aB⟩
theorem aCh{l:List Int}(az:l.length<=140737488355328){i:Nat}(W:i<600000){u:aG}(h:cE u)(ic:1<=u.aY.length): ∃L dn,L.length=u.aZ.length/\A7 u L/\dn<=i+20*u.aZ.length/\ ∀(t:H) (o:Nat),t.I o=some ⟨[bm l,E i],true⟩->fc N 48 [bH o,.agg (aI u).toArray] t λv af=>v=jO L/\af=t.aO o (some ⟨[bm l,E dn],true⟩):=by obtain⟨L,dn,a,b,cw,c⟩:=aCi az W h ic;exact⟨L,dn,a,b,cw,λt o aB=>adV (by simp) (by simp) IQ IQ (λv M=>by simp at M;subst M;rfl) c aB⟩
theorem aFk{l:List Int}(az:l.length<=140737488355328){i:Nat}(W:i<600000){u:aG}(h:cE u)(ic:1<=u.aY.length): ∃R dn,R.length=u.aY.length/\zo 16 R/\dn<=i+2*u.aY.length/\ ∀(t:H) (o:Nat),t.I o=some ⟨[bm l,E i],true⟩->fc N 61 [bH o,.agg (aI u).toArray] t λv af=>v=bm R/\af=t.aO o (some ⟨[bm l,E dn],true⟩):=by obtain⟨R,dn,a,b,cw,c⟩:=aFl az W h ic;exact⟨R,dn,a,b,cw,λt o aB=>adV (by simp) (by simp) IQ IQ (λv M=>by simp at M;subst M;rfl) c aB⟩
open Go Go.DI
section
set_option maxRecDepth 100000
def aAG:cp N 18:=⟨_,by conv=>lhs;reduce⟩
def ajB:aw:=aF (a:=aAG.1.body) ⟨_,by conv=>lhs;reduce⟩
def Yc:b8:=⟨22,[.ha 2 true 9,.bJ 3],ajB⟩
theorem ax7:cd N 18=some Yc:=by kernel_rfl
end
@[simp] theorem aQY{f:Nat}{args cs lX:List Value}{r:Value}{ok: ∀(t:H) (o:Nat),t.I o=some ⟨cs,true⟩->fc N f (.pointer (some ⟨o,0,none⟩)::args) t λv af=>v=r/\af=t.aO o (some ⟨lX,true⟩)}:(EP f args cs lX r ok).f=f:=rfl
theorem adx{f:Nat}{args cs lX:List Value}{r:Value}{ok: ∀(t:H) (o:Nat),t.I o=some ⟨cs,true⟩->fc N f (.pointer (some ⟨o,0,none⟩)::args) t λv af=>v=r/\af=t.aO o (some ⟨lX,true⟩)}{t:H}{o:Nat}(h:t.I o=some ⟨cs,true⟩){k:Value->H->Prop}(S:k r (t.aO o (some ⟨lX,true⟩))):
 adw ((EP f args cs lX r ok).fn (.pointer (some ⟨o,0,none⟩)::args) t) k:=by
 rw[aBC h];exact S
def aen(m:H)(v:Value)(l:List Int):Prop:=(v= .slice none 0 0/\l=[])\/ ∃b o cs w,v= .slice (some ⟨b,o,none⟩) l.length 1/\m.I b=some ⟨cs,w⟩/\(cs.drop o).take l.length=l.map E/\o+l.length<=cs.length
theorem as5{m:H}{bf:Value}{l:List Int}(a9:aen m bf l)(az:l.length<=1000000):ep N 71 [bf] m λr U=>m.next<=U.next/\(∀b,b<m.next->U.I b=m.I b/\U.mp b=m.mp b)/\
 ((l.length=0/\l.map E=[]/\r= .slice none 0 0)\/ ∃q,m.next<=q/\q<U.next/\r= .slice (some ⟨q,0,none⟩) l.length 1/\U.I q=some ⟨l.map E,true⟩):=by
 rcases a9 with⟨rfl,rfl⟩|⟨b,o,cs,w,rfl,D,ai,aT⟩
 ·rw[afe (by simp)];simp[LN]
 ·have dm:=H.aM D;rw[afe (by simp)];by_cases bY:l.length=0
  ·obtain rfl:=r6.1 bY;simp(disch:=first|omega|simp only[bE];omega) [LN,D];refine⟨by simpa using aT,λcw iG=>⟨by simp(disch:=first|omega|simp only[bE];omega),rfl⟩,⟨m.next,by omega,by omega,rfl,by simp(disch:=first|omega|simp only[bE];omega)⟩⟩
  ·simp(disch:=first|omega|simp only[bE];omega) [LN,D,bY];refine⟨⟨⟨aT,by omega⟩,by omega⟩,λcw iG=>⟨by simp(disch:=first|omega|simp only[bE];omega),rfl⟩,m.next+2,by omega,by omega,rfl,by simp(disch:=first|omega|simp only[bE];omega) [ai]⟩
def lT(t:H)(v:Value)(l:List Int):Prop:=kz t 1 v=true/\lb t 1 v=l.map E
theorem axp: ∀{l:List Int} {u:fU} {J:eU} {ys:List Value},bL u J (l.map E) ys->ys=l.map E:= λ{l u J ys} h=>by
 apply ze;intro i;cases B:(l.map E)[i]? with
 | none=>have:=List.getElem?_eq_none_iff.1 B;rw[re (by rw[<-h.1];exact this)]
 | some x=>have W:=(cG.1 B).1;obtain⟨y,Y⟩: ∃y,ys[i]?=some y:=⟨_,c1 (by rw[<-h.1];exact W)⟩;have M:=h.2 i x y B Y;rw[rh,ve]at B;obtain⟨n,_,rfl⟩:=B;rw[Y,M.tE]
theorem lT.at{J:eU}{u:fU}{t m:H}{v bf:Value}{l:List Int}(h:lT t v l)(F:eb J u t m)(M:cm u J v bf):aen m bf l:=by
 have A:=FJ F M h.1;have D:=Gp F M h.1;rw[h.2]at D;have ai:=axp D;rcases y4 A with rfl|⟨b,off,len,x,rfl,B,eV⟩
 ·refine .inl ⟨rfl,?_⟩;have:=congrArg List.length ai;simp[fq]at this;exact r6.1 this.symm
 ·have ar:fq m 1 (.slice (some ⟨b,off,none⟩) len 1)=(x.cells.drop off).take len:=(by simp[fq,gM,B]);rw[ar]at ai;have di:len=l.length:=by
   have:=congrArg List.length ai;rw[ri,F2,k8]at this;omega
  subst di;exact .inr ⟨b,off,x.cells,x.own,rfl,B,ai,by omega⟩
theorem lT.inj{t:H}{v:Value}{l c5:List Int}(h:lT t v l)(cn:lT t v c5):l=c5:=by have:=h.2.symm.trans cn.2;exact List.map_inj_right (λa b e=>by simpa using e)|>.1 this
theorem lT.enc{t:H}{l:List Int}:lT t (bm l) l:=⟨by simp[kz],by
 have: ∀l:List Int,(l.map λd=>[E d]).flatten=l.map E:= λl=>by
  induction l with
  |nil=>rfl
  |cons x l cf=>simp[cf]
 simp[lb,this]⟩
theorem lT.nil{t:H}:lT t (.slice none 0 0) []:=⟨rfl,rfl⟩
theorem lT.own{t:H}{o off n:Nat}{cs:List Value}{w:Bool}{l:List Int}(h:t.I o=some ⟨cs,w⟩)(ae:off+n<=cs.length)(az:(cs.drop off).take n=l.map E):lT t (.slice (some ⟨o,off,none⟩) n 1) l:=
 ⟨by simp[kz,iB,fw,h,ae],by simp[lb,iB,fq,gM,h,az]⟩
theorem afA{t:H}{v:Value}{l:List Int}(h:lT t v l)(az:l.length<=1000000):fc N 71 [v] t λr af=>r=b7 t.next l.length 1/\af=(t.b0 1).aO t.next (some ⟨l.map E,true⟩):=
 aIF (by simp[ei]) λJ u dp m F aa=>by obtain⟨bf,rfl,M⟩:=aa.mv;exact as5 (h.at F M) az
open Classical in
noncomputable def wI(v:Value)(t:H):Option (Value×H):=if h: ∃l,lT t v l/\l.length<=1000000 then some (b7 t.next h.choose.length 1,(t.b0 1).aO t.next (some ⟨h.choose.map E,true⟩))else none
theorem O8{v:Value}{t:H}{l:List Int}(h:lT t v l)(az:l.length<=1000000):wI v t=some (b7 t.next l.length 1,(t.b0 1).aO t.next (some ⟨l.map E,true⟩)):=by have B: ∃l,lT t v l/\l.length<=1000000:=⟨l,h,az⟩;have e:B.choose=l:=B.choose_spec.1.inj h;unfold wI;rw[dif_pos B,e]
noncomputable def G4:jg N:= .cK 71 Value (λv=>[v]) (λv t=>wI v t) λv t r af h bA iA=>by
 simp only[wI]at h;split at h
 ·next B=>cases h;exact(afA B.choose_spec.1 B.choose_spec.2).bD λr af ⟨a,b⟩=>by rw[a,b];exact iA
 ·cases h
@[simp] theorem aPq:G4.f=71:=rfl
@[simp] theorem aPr{v:Value}{t:H}:G4.fn [v] t=wI v t:=jg.dx (x:=v) (t:=t) λy Y=>by simp at Y;rw[Y]
def KS(l:List Value):Option (List Int):=match l with
 |[]=>some []
 | .int .i64 n::l=>(match KS l with
   |some k=>some (n::k)
   |none=>none)
 |_=>none
theorem aib: ∀{cs:List Value} {l:List Int},KS cs=some l->cs=l.map E
 |[],l,h=>by cases h;rfl
 | .int .i64 n::cs,l,h=>by
   simp only[KS]at h;cases S:KS cs with
   |none=>rw[S]at h;cases h
   |some k=>rw[S]at h;cases h;rw[aib S];rfl
def afy(k:Nat):nT:= λf args X=>bif Nat.beq f k then(match args with
 | [v]=>if kz (cX X) 1 v then(match KS (lb (cX X) 1 v)with
   | some l=>if Nat.ble l.length 1000000 then(match qc (Gl X 1) X.next (some ⟨l.map E,true⟩)with
     |some de=>some (b7 X.next l.length 1,de)
     |none=>none)else none
   |none=>none)else none
 |_=>none)else none
theorem O7:ud N (afy 71):= λf args X r cF aS h=>by
 unfold afy at h;cases hb:Nat.beq f 71 with
 |false=>rw[hb]at h;cases h
 | true=>
   rw[hb]at h;simp only[cond_true]at h;obtain rfl:=Nat.eq_of_beq_eq_true hb;split at h
   ·next v=>
    split at h
    ·next av=>
     split at h
     ·next l az=>
      split at h
      ·next ae=>
       split at h
       ·next de eE=>cases h;obtain⟨ct,aD⟩:=Cx (aqA aS) eE;rw[anh aS]at aD;refine⟨ct,?_⟩;rw[aD];exact afA ⟨av,aib az⟩ (by simpa using ae)
       ·cases h
      ·cases h
     ·cases h
    ·cases h
   ·cases h
end Go.Proofs.YtmmkkggfmigppaaGreat
namespace Go.DI
open Go Go.RowKit
theorem aoI{aN:Nat}{ag:Ren}{m:H}{w:World}(ab:dv aN ag m w):ag m.next=none:=by
 cases h:ag m.next with
 |none=>rfl
 |some l=>have:=ab.lf _ _ h;omega
theorem anP{aN:Nat}{ag:Ren}{m:H}{w:World}(ab:dv aN ag m w){b off n:Nat}{x:eM}(aH:m.I b=some x): ∀v∈gM m b off n,aq v=true:=by intro v M;obtain⟨l,_,_,bV,_⟩:=ab.l8 b x aH;simp only[gM,aH]at M;obtain⟨j,aX,D2⟩:=lN (AW (Db M));exact(bV j v (by rw[c1 aX,D2])).1
theorem OQ{ag:Ren}{n:Nat}{l:vh}: ∀b,b<n->hh ag n l b=ag b:= λb h=>y6 b (by omega)
section
variable {P:Program} {r:Go.Shelf.Ren} {aN:Nat} {ag:Ren} {m:H} {w:World}
theorem axl(ab:dv aN ag m w)(b9:aN<=w.heap.size){ct:World}(aS:ct.heap=w.heap)(s:Value){cs dp:List Value}(al:da ag cs dp)(lF: ∀v∈cs,aq v=true){ds:Array Value}{e:TypeId}(n:Nat)(ae:n=ds.size)(eV:cs.length<=n)
 (ka: ∀(i:Nat) bf,dp[i]?=some bf->ds[i]?=some bf):
 dv aN (hh ag m.next ⟨w.heap.size,0,n⟩) (((hC m s).b0 1).aO m.next (some ⟨cs,true⟩)) (ct.alloc (.cells ds e)):=by
 have S:dv aN ag ((hC m s).b0 1) w:=by
  refine dv.b0 ?_ 1;unfold hC;split
  ·exact ab.hC _
  ·exact ab
 refine S.E9 (ct:=ct) aS b9 (by rw[H.qy,HQ];omega) (aoI ab) eV (by omega) (λi v M=> ?_) (λi _=>by simp);obtain⟨bf,a9,uE⟩:=al.I M;exact⟨lF v (fr M),bf,ka i bf a9,uE⟩
theorem apu{ay:World}{c o:Nat}(h:(ay.cell? ⟨c,o,none⟩).isSome=true): ∃t k,ay.shape? c=some (t,k)/\k≠0:=by
 simp only[World.cell?]at h;cases e:ay.heap[c]? with
 |none=>rw[e]at h;simp at h
 | some x=>
   rw[e]at h;cases x with
   | cells cs t bZ=>refine⟨t,cs.size,by simp only[World.shape?,e],λbY=> ?_⟩;have:cs[o]?=none:=Array.getElem?_eq_none (by omega);simp[this]at h
   |_=>simp at h
theorem aHW{ay:World}{C a b k:Nat}{dp vs:List Value}(A: ∀j,j<dp.length->(ay.cell? ⟨C,a+j,none⟩).isSome=true)(D: ∀j,j<vs.length->(ay.cell? ⟨C,b+j,none⟩).isSome=true)(h:(ay.cell? ⟨C,k,none⟩).isSome=true):
 (((ay.setCells C b vs).setCells C a dp).cell? ⟨C,k,none⟩).isSome=true:=
 Go.Proofs.isSome_setCells C dp a _ (λj aX=>Go.Proofs.isSome_setCells C vs b ay D _ (A j aX)) _ (Go.Proofs.isSome_setCells C vs b ay D _ h)
theorem aHU{ay:World}{C o k:Nat}{dp vs:List Value}(S:dp.length=k)(F: ∀j,j<k+vs.length->(ay.cell? ⟨C,o+j,none⟩).isSome=true):
 ∀i bf,(dp++vs)[i]?=some bf->((ay.setCells C (o+k) vs).setCells C o dp).cell? ⟨C,o+i,none⟩=some bf:=by
 intro i bf a9;have D: ∀j,j<vs.length->(ay.cell? ⟨C,o+k+j,none⟩).isSome=true:= λj aX=>by rw[nS];exact F _ (by omega)
 have A: ∀j,j<dp.length->((ay.setCells C (o+k) vs).cell? ⟨C,o+j,none⟩).isSome=true:= λj aX=>Go.Proofs.isSome_setCells C vs (o+k) ay D _ (F j (by omega));rw[zb]at a9;split at a9
 ·rename_i dm;have:=World.cell?_setCells_in C dp o (ay.setCells C (o+k) vs) A i dm;rw[this];rw[c1 dm]at a9;exact a9
 ·rename_i oD;have dm:=(cG.1 a9).1;rw[World.cell?_setCells_out C dp o _ _ (λ_ _=>by show o+i<o\/o+dp.length<=o+i;omega)];have:=World.cell?_setCells_in C vs (o+k) ay D (i-dp.length) dm;rw[show o+k+(i-dp.length)=o+i by omega]at this;rw[this];rw[c1 dm]at a9;exact a9
theorem aHV{ay zq:World}{C o k:Nat}{dp vs:List Value}(S:dp.length=k)(F: ∀j,j<k+vs.length->(ay.cell? ⟨C,o+j,none⟩).isSome=true)(qH:zq.heap=(ay.setCells C o dp).heap):
 ∀i bf,(dp++vs)[i]?=some bf->(zq.setCells C (o+k) vs).cell? ⟨C,o+i,none⟩=some bf:=by
 intro i bf a9;have ar: ∀a,zq.cell? a=(ay.setCells C o dp).cell? a:= λa=>by simp only[World.cell?,qH]
 have A: ∀j,j<dp.length->(ay.cell? ⟨C,o+j,none⟩).isSome=true:= λj aX=>F _ (by omega);rw[zb]at a9;split at a9
 ·rename_i dm;rw[World.cell?_setCells_out C vs (o+k) _ _ (λ_ _=>by show o+i<o+k\/o+k+vs.length<=o+i;omega),ar];have:=World.cell?_setCells_in C dp o ay A i dm;rw[this];rw[c1 dm]at a9;exact a9
 ·rename_i oD;have dm:=(cG.1 a9).1;have:=World.cell?_setCells_in C vs (o+k) zq (λj aX=>by rw[ar,nS];exact Go.Proofs.isSome_setCells C dp o ay A _ (F _ (by omega))) (i-dp.length) dm;rw[show o+k+(i-dp.length)=o+i by omega]at this;rw[this];rw[c1 dm]at a9;exact a9
theorem axk(L:Go.Proofs.Lays2.n21 P r):Ja P (r.f 21):=by
 refine⟨⟨_,L.f21,rfl,rfl⟩,?_⟩;intro aN args m Nm U h ag w lV aa ab b9;obtain⟨s,i,y,rfl,av,rfl,rfl⟩:=KQ h;simp only[tC,KR,a6,ey]at av;obtain⟨A,D,ai,aT,⟨⟨bF,dU⟩,g1⟩,iQ⟩:=av;have W:=amt bF;subst W;obtain⟨ih,mM,cC⟩:=aa.I (i:=0) (x:=s) rfl;obtain⟨dn,hK,abD⟩:=aa.I (i:=1) (x:= .int .i64 0) rfl;obtain⟨sU,yv,q3⟩:=aa.I (i:=2) (x:=y) rfl;have di:lV.toList.length=3:=aa.1.symm;have PN:lV= #[ih,dn,sU]:=by
  apply Array.ext';apply ze;intro k
  match k with
  |0=>simpa using mM
  |1=>simpa using hK
  |2=>simpa using yv
  |k+3=>rw[re (by omega)];simp
 subst PN;have VC:dn= .int .i64 0:=abD.hL rfl;subst VC;have al:=aoI ab;rcases y4 ai with aD|⟨lu,nP,iL,UF,rfl,tA,Xm⟩
 ·rw[aD]at dU;simp[fR]at dU
 obtain⟨jI,Vb,FZ,yl,_,rfl,Eb,avU,_⟩:=q3.l6
 replace yl:ag lu=some jI:=yl
 replace Eb:(FZ=0/\iL=0)\/(Vb=⟨jI.c,jI.o+nP,none⟩/\nP+FZ*1<=jI.n):=Eb
 replace dU:0<iL:=dU
 rcases Eb with⟨_,bY⟩|⟨rfl,aPo⟩
 ·omega
 obtain⟨hM,dY,ee,l9,Co⟩:=ab.cells tA yl Xm;rw[Nat.mul_one]at ee;have Qh:UF.own=true:=by simpa[iJ,tA]using aT
 obtain⟨aRD,ahs,_,_,aos⟩:=ab.l8 lu UF tA;rw[yl]at ahs;cases ahs;have GR: ∀j v,hM[j]?=some v->w.cell? ⟨jI.c,(jI.o+nP)+j,none⟩=some v:= λj v aX=>by have:=l9 j v aX;rwa [Jh]at this
 have WO:=anP ab (off:=nP) (n:=iL*1) tA;have bw:(Value.int .i64 0).cells.size=1:=rfl
 have agJ: ∀(bO:Value) (base:Option Addr) (cap:Nat),fR bO=0->fq m 1 bO=[]->cap<iL->(0+iL)*8<=140737488355328->
  Calls P (r.f 21) #[.slice base 0 cap,.int .i64 0,.slice (some ⟨jI.c,jI.o+nP,none⟩) iL FZ] w λe w'=> ∃v cT,e= .returned v/\gH ag cT/\(∀b,b<m.next->cT b=ag b)/\
   dM cT (xc m bO (.slice (some ⟨lu,nP,none⟩) iL 1)) v/\dv aN cT (uH m bO (.slice (some ⟨lu,nP,none⟩) iL 1)) w'/\Below aN w w':=by
  intro bO base cap oE p2 ag0 avt;refine(Go.Proofs.Any2.slices_Insert_int_end_grow L base 0 cap jI.c (jI.o+nP) iL FZ [] hM w dU (gi _) (by omega) avt rfl ee (λ_=>rfl) (λa _ j v h=>by simp at h) GR Co).mono ?_;rintro e w' ⟨rfl,rfl⟩;have oD:=grownCap_ge w (0+iL) cap (r.t 3);have qI:grownCap w (0+iL) cap (r.t 3)<=maxLen:=grownCap_le_maxLen w _ cap (r.t 3) (by unfold maxLen;omega)
  have aH:=axl (ct:=w.drew) (e:=r.t 3) ab b9 rfl bO (cs:=gM m lu nP (iL*1)) (dp:=hM) dY WO (ds:=(([]:List Value)++hM).toArray++Builtin.zeroCells (Value.int .i64 0).cells (grownCap w (0+iL) cap (r.t 3)-(0+iL)))
   (grownCap w (0+iL) cap (r.t 3)) (by simp only[Array.size_append,List.size_toArray,wo,size_zeroCells,bw,ee];omega) (by rw[dY.1,ee];omega) (λi bf a9=>by rw[Ol (by have:=(cG.1 a9).1;simpa using this)];simpa using a9)
  refine⟨_,hh ag m.next ⟨w.heap.size,0,grownCap w (0+iL) cap (r.t 3)⟩,rfl,r4 al,OQ,?_,?_,wD (w:=w) (ct:=w.drew) rfl rfl rfl rfl b9 _⟩
  ·unfold xc;rw[oE];exact .slice (off:=0) (l:=⟨w.heap.size,0,grownCap w (0+iL) cap (r.t 3)⟩) (by simp[hh]) (.inr ⟨by simp,by simp⟩) oD qI
  ·have e:uH m bO (.slice (some ⟨lu,nP,none⟩) iL 1)=((hC m bO).b0 1).aO m.next (some ⟨gM m lu nP (iL*1),true⟩):=by
    simp only[uH,p2,r8];rfl
   rw[e];exact aH
 rcases y4 A with rfl|⟨cB,hx,r0,hP,rfl,oH,gO⟩
 ·-- nil
  have es:=cC.hL rfl;subst es;exact agJ _ none 0 rfl rfl dU iQ
 ·-- a slice cK pR asB own
  obtain⟨cl,zr,sL,vG,_,rfl,vK,avT,PR⟩:=cC.l6
  replace vG:ag cB=some cl:=vG
  replace vK:(sL=0/\r0=0)\/(zr=⟨cl.c,cl.o+hx,none⟩/\hx+sL*1<=cl.n):=vK
  rcases Nat.eq_zero_or_pos r0 with rfl|cW
  ·have p2:gM m cB hx (0*1)=[]:=(by simp[gM,oH]);by_cases z7:iL<=sL
   ·rcases vK with⟨bY,_⟩|⟨rfl,awx⟩
    ·omega
    have w4:hP.own=true:=(by simpa[iJ,oH]using D);obtain⟨amY,Kv,_,_,Fj⟩:=ab.l8 cB hP oH;rw[vG]at Kv;cases Kv;have gZ: ∀j,j<iL->(w.cell? ⟨cl.c,(cl.o+hx)+j,none⟩).isSome=true/\w.frozen? ⟨cl.c,(cl.o+hx)+j,none⟩=false:= λj aX=>by
     have:=(Fj w4).2 (hx+j) (by omega)
     rwa [<-nS]at this
    refine(Go.Proofs.Any2.slices_Insert_int_end_room L cl.c (cl.o+hx) 0 sL jI.c (jI.o+nP) iL FZ hM w dU (by omega) (by unfold maxLen at PR;omega) ee (λj aX=>(gZ j aX).1) (λj aX=>(gZ j aX).2) GR Co).mono ?_;rintro e w' ⟨rfl,rfl⟩;rw[wu];have pD:aN<=cl.c:=(Fj w4).1;have nC:uH m (.slice (some ⟨cB,hx,none⟩) 0 1) (.slice (some ⟨lu,nP,none⟩) iL 1)=((m.aO cB none).b0 1).aO m.next (some ⟨gM m lu nP (iL*1),true⟩):=by simp only[uH,fq,p2,r8];rfl
    refine⟨_,hh ag m.next ⟨cl.c,cl.o+hx,cl.n-hx⟩,rfl,r4 al,OQ,?_,?_,zs pD _ _ _⟩
    ·exact .slice (off:=0) (l:=⟨cl.c,cl.o+hx,cl.n-hx⟩) (by simp[hh]) (.inr ⟨by simp,by show 0+sL*1<=cl.n-hx;omega⟩) (by show 0+iL<=sL;omega) PR
    ·rw[nC]
     refine((ab.hC cB).b0 1).Jj (by rw[H.qy,H.Nc];omega) al (λcw hy c5 hk ib=> ?_) (by rw[wb];exact c8 _) (by rw[wb];exact ab.l4 cB cl vG) pD
      (λeu _ bG=>⟨by rw[World.cell?_setCells_out _ _ _ _ _ (λh _=>absurd h bG)],by rw[World.frozen?_setCells]⟩)
      (λk _ S=>by rw[CO _ _ S]) (by rw[dY.1,ee];omega) (λi v M=> ?_) (λi hK=> ?_) ((ab.tK cB hP cl oH w4 vG).setCells _ _ _)
     ·rw[H.cJ,H.mK]at hk;split at hk
      ·split at hk<;>cases hk
      ·rename_i bG;exact Ne.symm (ab.rA cB hP cw hy cl c5 oH w4 hk (Ne.symm bG) vG ib)
     ·obtain⟨bf,a9,uE⟩:=dY.I M;refine⟨WO v (fr M),bf,?_,uE⟩;have dm:=(cG.1 a9).1;have:=World.cell?_setCells_in cl.c hM (cl.o+hx) w (λj aX=>(gZ j (by omega)).1) i dm;rw[this];rw[c1 dm]at a9;exact a9
     ·have bo:=(Fj w4).2 (hx+i) (by omega);rw[<-nS]at bo;exact⟨Go.Proofs.isSome_setCells cl.c hM (cl.o+hx) w (λj aX=>(gZ j (by omega)).1) _ bo.1,by rw[World.frozen?_setCells];exact bo.2⟩
   ·exact agJ _ (some zr) sL rfl p2 (by omega) iQ
  rcases vK with⟨_,bY⟩|⟨rfl,awx⟩
  ·omega
  obtain⟨oK,hu,h3,xr,aaY⟩:=ab.cells oH vG gO;rw[Nat.mul_one]at h3;have w4:hP.own=true:=(by simpa[iJ,oH]using D);obtain⟨amY,Kv,_,_,Fj⟩:=ab.l8 cB hP oH;rw[vG]at Kv;cases Kv;have WN:=anP ab (off:=hx) (n:=r0*1) oH;have holds: ∀j v,oK[j]?=some v->w.cell? ⟨cl.c,(cl.o+hx)+j,none⟩=some v:= λj v aX=>by have:=xr j v aX;rwa [Jh]at this
  have bG:lu≠cB:= λe=>g1 (by simp only[AH,e]);have BS:jI.c≠cl.c:=ab.rA lu UF cB hP jI cl tA Qh oH bG yl vG;simp only[fR]at iQ;have yi:da ag (gM m lu nP (iL*1)++gM m cB hx (r0*1)) (hM++oK):=dY.pV hu;have ahA: ∀v∈gM m lu nP (iL*1)++gM m cB hx (r0*1),aq v=true:= λv M=>by
   rcases js.1 M with h|h
   ·exact WO v h
   ·exact WN v h
  have S:dv aN ag ((m.aO cB none).b0 1) w:=(ab.hC cB).b0 1;have nC:uH m (.slice (some ⟨cB,hx,none⟩) r0 1) (.slice (some ⟨lu,nP,none⟩) iL 1)=((m.aO cB none).b0 1).aO m.next (some ⟨gM m lu nP (iL*1)++gM m cB hx (r0*1),true⟩):=rfl
  have jv: ∀cw hy,((m.aO cB none).b0 1).I cw=some hy->cw≠cB/\m.I cw=some hy:= λcw hy hk=>by
   rw[H.cJ,H.mK]at hk;split at hk
   ·split at hk<;>cases hk
   ·rename_i bG;exact⟨bG,hk⟩
  by_cases z7:r0+iL<=sL
  ·-- adm B9 cN
   have gZ: ∀j,j<r0+iL->(w.cell? ⟨cl.c,(cl.o+hx)+j,none⟩).isSome=true/\w.frozen? ⟨cl.c,(cl.o+hx)+j,none⟩=false:= λj aX=>by
    have:=(Fj w4).2 (hx+j) (by omega)
    rwa [<-nS]at this
   obtain⟨ap1,amE,ahO,_⟩:=apu (ay:=w) (c:=jI.c) (o:=jI.o+nP) ((aos Qh).2 nP (by omega)).1;obtain⟨aHC,aBL,aww,avP⟩:=apu (ay:=w) (c:=cl.c) (o:=(cl.o+hx)+0) (gZ 0 (by omega)).1
   refine(Go.Proofs.Any2.slices_Insert_int_shift L cl.c (cl.o+hx) r0 sL 0 jI.c (jI.o+nP) iL FZ oK hM w cW dU z7 (by unfold maxLen at PR;omega) BS h3 ee holds (λj aX=>(gZ j aX).1) (λj aX=>(gZ j aX).2) GR aaY Co ap1 aHC amE aBL ahO aww avP
    ((aos Qh).2 nP (by omega)).2 (ab.tK lu UF jI tA Qh yl ap1 amE ahO)).mono ?_
   rintro e w' ⟨rfl,rfl⟩;rw[zh,wu,oj];have ia:=aHU (ay:=w.drew) (C:=cl.c) (o:=cl.o+hx) (k:=iL) (dp:=hM) (vs:=oK) ee (λj aX=>(gZ j (by omega)).1);have pD:aN<=cl.c:=(Fj w4).1;refine⟨_,hh ag m.next ⟨cl.c,cl.o+hx,cl.n-hx⟩,rfl,r4 al,OQ,?_,?_,(Below.refl aN w).drew.trans ((zs pD _ _ _).trans (zs pD _ _ _))⟩
   ·exact .slice (off:=0) (l:=⟨cl.c,cl.o+hx,cl.n-hx⟩) (by simp[hh]) (.inr ⟨by simp,by show 0+sL*1<=cl.n-hx;omega⟩) z7 PR
   ·rw[nC]
    refine S.Jj (by rw[H.qy,H.Nc];omega) al (λcw hy c5 hk ib=> ?_) (by rw[wb,wb];exact c8 _) (by rw[wb,wb];exact ab.l4 cB cl vG) pD
     (λeu _ bG=>⟨by rw[World.cell?_setCells_out _ _ _ _ _ (λh _=>absurd h bG),World.cell?_setCells_out _ _ _ _ _ (λh _=>absurd h bG)];rfl,by rw[World.frozen?_setCells,World.frozen?_setCells];rfl⟩)
     (λk _ S=>by rw[CO _ _ S,CO _ _ S];rfl) (by rw[yi.1,iv,ee,h3];omega) (λi v M=> ?_) (λi hK=> ?_)
     ((((ab.tK cB hP cl oH w4 vG).Ct (w':=w.drew) rfl).setCells _ _ _).setCells _ _ _)
    ·obtain⟨aD,aJ⟩:=jv cw hy hk;exact Ne.symm (ab.rA cB hP cw hy cl c5 oH w4 aJ (Ne.symm aD) vG ib)
    ·obtain⟨bf,a9,uE⟩:=yi.I M;exact⟨ahA v (fr M),bf,ia i bf a9,uE⟩
    ·have bo:=(Fj w4).2 (hx+i) (by omega);rw[<-nS]at bo;refine⟨aHW (ay:=w.drew) (λj aX=>(gZ j (by omega)).1) (λj aX=>by rw[nS];exact(gZ _ (by omega)).1) bo.1,by rw[World.frozen?_setCells,World.frozen?_setCells];exact bo.2⟩
  ·-- Z3 auX
   refine(Go.Proofs.Any2.slices_Insert_int_grow L cl.c (cl.o+hx) r0 sL 0 jI.c (jI.o+nP) iL FZ oK hM w cW dU avT (by omega) iQ h3 ee holds GR aaY Co).mono ?_;rintro e w' ⟨rfl,rfl⟩;have oD:=grownCap_ge w (r0+iL) sL (r.t 3);have qI:grownCap w (r0+iL) sL (r.t 3)<=maxLen:=grownCap_le_maxLen w _ sL (r.t 3) (by unfold maxLen;omega);generalize aOC:grownCap w (r0+iL) sL (r.t 3)=xR at oD qI⊢;generalize ka:(oK.take 0).toArray++Builtin.zeroCells (Value.int .i64 0).cells (r0+iL-0)++Builtin.zeroCells (Value.int .i64 0).cells (xR-(r0+iL))=ds;have j3:ds.size=xR:=(by rw[<-ka];simp only[Array.size_append,List.take_zero,List.size_toArray,xN,size_zeroCells,bw];omega);rw[zh,oj];have GS:(w.alloc (.cells ds (r.t 3))).heap[w.heap.size]?=some (.cells ds (r.t 3) (0,0)):=(by show(w.heap.push _)[_]?=_;simp);have dG: ∀j,j<xR->((w.alloc (.cells ds (r.t 3))).drew.cell? ⟨w.heap.size,0+j,none⟩).isSome=true:= λj aX=>by have:((w.alloc (.cells ds (r.t 3))).drew.heap)[w.heap.size]?=some (.cells ds (r.t 3) (0,0)):=GS;simp only[World.cell?];rw[this];simp[j3,aX]
   have ia:=aHV (ay:=(w.alloc (.cells ds (r.t 3))).drew) (zq:=((w.alloc (.cells ds (r.t 3))).drew.setCells w.heap.size 0 hM).drew) (C:=w.heap.size) (o:=0) (k:=iL) (dp:=hM) (vs:=oK) ee (λj aX=>dG j (by omega)) rfl;rw[zh]at ia;have KB: ∀k,k<w.heap.size->(w.alloc (.cells ds (r.t 3))).heap[k]?=w.heap[k]?:= λk S=>by show(w.heap.push _)[k]?=_;rw[Array.getElem?_push,if_neg (by omega)]
   have awy:(w.alloc (.cells ds (r.t 3))).heap.size=w.heap.size+1:=(by show(w.heap.push _).size=_;rw[Array.size_push]);have z1: ∀k,k<w.heap.size->((((w.alloc (.cells ds (r.t 3))).drew.setCells w.heap.size 0 hM).drew).setCells w.heap.size iL oK).heap[k]?=w.heap[k]?:= λk S=>by rw[CO _ _ (by omega)];show((w.alloc (.cells ds (r.t 3))).drew.setCells w.heap.size 0 hM).heap[k]?=_;rw[CO _ _ (by omega)];exact KB k S
   have ahS:((((w.alloc (.cells ds (r.t 3))).drew.setCells w.heap.size 0 hM).drew).setCells w.heap.size iL oK).heap.size=w.heap.size+1:=(by rw[wb];show((w.alloc (.cells ds (r.t 3))).drew.setCells w.heap.size 0 hM).heap.size=_;rw[wb];exact awy);refine⟨_,hh ag m.next ⟨w.heap.size,0,xR⟩,rfl,r4 al,OQ,?_,?_,?_⟩
   ·exact .slice (off:=0) (l:=⟨w.heap.size,0,xR⟩) (by simp[hh]) (.inr ⟨by simp,by simp⟩) oD qI
   ·rw[nC]
    refine S.Jj (by rw[H.qy,H.Nc];omega) al (λcw hy c5 hk ib=>by have:=ab.l4 cw c5 ib;omega) (by rw[ahS];omega) (by rw[ahS];omega) b9
     (λeu A bG=>⟨World.cell?_of_block (w:=w) (z1 _ A),World.frozen?_of_block (w:=w) (z1 _ A)⟩)
     (λk A _=>z1 k A) (by rw[yi.1,iv,ee,h3];omega) (λi v M=> ?_) (λi hK=> ?_)
     (oU.setCells _ _ _ (oU.Ct (w:=(w.alloc (.cells ds (r.t 3))).drew.setCells w.heap.size 0 hM) (oU.setCells _ _ _ (oU.anM (w:=(w.alloc (.cells ds (r.t 3))).drew) GS (by simp))) rfl))
    ·obtain⟨bf,a9,uE⟩:=yi.I M;exact⟨ahA v (fr M),bf,ia i bf a9,uE⟩
    ·refine⟨Go.Proofs.isSome_setCells _ _ _ _ (λj aX=> ?_) _ ?_,?_⟩
     ·show(((w.alloc (.cells ds (r.t 3))).drew.setCells w.heap.size 0 hM).cell? _).isSome=true;have:=Go.Proofs.isSome_setCells w.heap.size hM 0 (w.alloc (.cells ds (r.t 3))).drew (λt ba=>dG t (by omega)) (0+(iL+j)) (dG _ (by omega))
      rwa [zh]at this
     ·show(((w.alloc (.cells ds (r.t 3))).drew.setCells w.heap.size 0 hM).cell? _).isSome=true;exact Go.Proofs.isSome_setCells w.heap.size hM 0 (w.alloc (.cells ds (r.t 3))).drew (λt ba=>dG t (by omega)) (0+i) (dG _ hK)
     ·rw[World.frozen?_setCells];show((w.alloc (.cells ds (r.t 3))).drew.setCells w.heap.size 0 hM).frozen? _=false;rw[World.frozen?_setCells];have:((w.alloc (.cells ds (r.t 3))).drew.heap)[w.heap.size]?=some (.cells ds (r.t 3) (0,0)):=GS;simp only[World.frozen?];rw[this];simp
   ·exact((((Below.refl aN w).alloc b9 _).drew.trans (zs b9 _ _ _)).drew).trans (zs b9 _ _ _)
end
end Go.DI
namespace Go.Proofs.YtmmkkggfmigppaaGreat
open Go Go.DI
def aov:Go.Shelf.Ren:=⟨λk=>if k=21 then 73 else if k=27 then 119 else if k=28 then 120 else if k=35 then 181 else if k=39 then 233 else k,λt=>t,λg=>g⟩
theorem aB4:Go.Proofs.Lays2.n21 N aov where
 mixed:=by kernel_rfl
 f21:=by kernel_rfl
 f27:=by kernel_rfl
 f28:=by kernel_rfl
 f35:=by kernel_rfl
 f39:=by kernel_rfl
 t0:=Tryz.underlying0
 a0:=Tryz.isAgg0
 z0:=Tryz.sizeOf0
 v0:=Tryz.zeroValue0
 t3:=Tryz.underlying3
 a3:=Tryz.isAgg3
 z3:=Tryz.sizeOf3
 v3:=Tryz.zeroValue3
 t4:=Tryz.underlying4
 a4:=Tryz.isAgg4
 z4:=Tryz.sizeOf4
 v4:=Tryz.zeroValue4
 t22:=Tryz.underlying22
 a22:=Tryz.isAgg22
 z22:=Tryz.sizeOf22
 v22:=Tryz.zeroValue22
 i3:=by kernel_rfl
theorem at8:aov.f 21=73:=rfl
theorem axg:Ja N 73:=by have h:=axk aB4;rw[at8]at h;exact h
theorem axj:cd N 73=none:=by kernel_rfl
end Go.Proofs.YtmmkkggfmigppaaGreat
namespace Go.DI
open Go
section
variable {P:Program} {t m:H} {J:eU} {u:fU}
theorem aBW(F:eb J u t m){s ih:Value}(B:cm u J s ih)(aE:fw t 1 s=true)(a2:iJ t s=true):eb J u (hC t s) (hC m ih)/\eQ t.next m.next J u t m J u (hC t s) (hC m ih):=by
 unfold fw at aE;split at aE
 ·next l c=>have:ih= .slice none l c:=B.hL (by simpa[ei]using aE);rw[this];exact⟨F,eQ.refl⟩
 ·next a l c=>
  rcases B.l6 with⟨b,aD,aJ,cg⟩|⟨aD,aJ,cg,gA⟩
  ·rw[cg];cases aH:t.I a.block with
   |none=>simp[iJ,aH]at a2
   | some y=>simp only[iJ,aH]at a2;exact⟨Z8 F aD aH a2,N1 F aD aH a2⟩
  ·rw[gA];exact⟨Vx F,Vw⟩
 ·cases aE
theorem aIG{f:Nat}(dh:cd P f=none)(jc:Ja P f){s i y:Value}(av:tC t s i y=true):fc P f [s,i,y] t λr af=>r=xc t s y/\af=uH t s y:=by
 intro J u bu m F aa;obtain⟨ih,es,cC⟩:=aa.I (i:=0) (x:=s) rfl;obtain⟨dn,VC,abD⟩:=aa.I (i:=1) (x:=i) rfl;obtain⟨sU,JR,q3⟩:=aa.I (i:=2) (x:=y) rfl;have di:bu.length=3:=aa.1.symm;have agV:bu=[ih,dn,sU]:=by
  apply ze;intro k
  match k with
  |0=>exact es
  |1=>exact VC
  |2=>exact JR
  |k+3=>rw[re (by omega)];simp
 subst agV;simp only[tC,KR,a6,ey]at av;obtain⟨A,D,ai,aT,⟨⟨bF,dU⟩,g1⟩,iQ⟩:=av;have W:=amt bF;subst W;have hK:dn= .int .i64 0:=abD.hL rfl;subst hK;have aaM:iB s=false:=by cases s<;>simp[fw]at A<;>rfl
 have aaN:iB y=false:=by cases y<;>simp[fw]at ai<;>rfl
 have aE:kz t 1 s=true:=by rw[kz,aaM];exact A
 have cj:kz t 1 y=true:=by rw[kz,aaN];exact ai
 have bK:=FJ F cC aE;have cz:=Uf F cC D;have dV:=FJ F q3 cj;have gr:=Uf F q3 aT;have cl:fR s=fR ih:=by rw[<-ID cC,k4,aaM];rfl
 have aRb:fR y=fR sU:=by rw[<-ID q3,k4,aaN];rfl
 have cs:bL u J (fq t 1 s) (fq m 1 ih):=by have:=Gp F cC aE;rw[lb,aaM]at this;exact this
 have zA:bL u J (fq t 1 y) (fq m 1 sU):=by have:=Gp F q3 cj;rw[lb,aaN]at this;exact this
 -- pR block cK pR new cells
 have tA: ∃a l,y= .slice (some a) l 1/\ ∃b,J a.block=some b/\sU= .slice (some ⟨b,a.off,none⟩) l 1:=by
  unfold fw at ai;split at ai
  ·next l c=>simp only[a6,beq_iff_eq]at ai;obtain⟨rfl,_⟩:=ai;simp[fR]at dU
  ·next a l c=>
   simp only[a6,beq_iff_eq]at ai;obtain⟨⟨_,rfl⟩,_⟩:=ai;rcases q3.l6 with⟨b,aD,aJ,cg⟩|⟨_,_,cg,_⟩
   ·exact⟨a,l,rfl,b,aD,cg⟩
   ·simp only[fR]at dU;omega
  ·cases ai
 obtain⟨C5,ad3,rfl,lu,awM,rfl⟩:=tA;have au5:AH ih≠some lu:=by
  unfold fw at A;split at A
  ·next l c=>simp only[a6,beq_iff_eq]at A;obtain⟨rfl,rfl⟩:=A;have:ih= .slice none 0 0:=cC.hL rfl;rw[this];simp[AH]
  ·next a l c=>
   rcases cC.l6 with⟨b,aD,aJ,cg⟩|⟨_,_,_,cg⟩
   ·rw[cg];intro hb;simp only[AH,mB]at hb;subst hb;exact g1 (by simp only[AH,F.inj _ _ _ aD awM])
   ·rw[cg];simp[AH]
  ·cases A
 have w1:tC m ih (.int .i64 0) (.slice (some ⟨lu,C5.off,none⟩) ad3 1)=true:=by simp only[tC,KR,a6,ey];exact⟨bK,cz,dV,gr,⟨⟨rfl,dU⟩,au5⟩,by rw[<-cl];exact iQ⟩
 refine aIy dh jc (by simp only[tB,w1,if_true];rfl) ?_;obtain⟨uD,tl⟩:=aBW F cC A D;have ie:=OR uD 1;have ahe:=Ju uD 1;rw[HQ,HQ]at ahe;have ck:J t.next=none:=by
  cases aQ:J t.next with
  |none=>rfl
  |some b=>have:=(F.cQ _ _ aQ).1;omega
 have qN:s6 J u ((hC t s).b0 1) ((hC m ih).b0 1) t.next m.next:=⟨ck,λo aQ=>by have:=(F.cQ _ _ aQ).2;omega,by
  cases a5:u m.next with
  |none=>rfl
  |some ds=>obtain⟨⟨w,h⟩,_⟩:=F.bZ _ _ a5;have:=aM h;omega,by rw[H.qy,HQ];omega,by rw[H.qy,HQ];omega⟩
 obtain⟨cU,q⟩:=qn.new (hn:=t.next) (hE:=m.next) ie qN (c8 _) (c8 _) (zA.pV cs) (v:=xc t s (.slice (some C5) ad3 1)) (bX:=xc m ih (.slice (some ⟨lu,C5.off,none⟩) ad3 1)) (by unfold xc;rw[cl];exact .slice (by simp[gv]));exact⟨cU,u,_,_,⟨rfl,rfl⟩,q.T9,q.val,(tl.trans ahe).trans q.bZ⟩
end
section
variable (P:Program)
def Gf(f:Nat)(args:List Value)(bA:Value->Prop):Prop:= ∀(u:fU) (m:H) (bu:List Value),sc u m->bL u kS args bu->
 ep P f bu m λdZ U=>m.next<=U.next/\(∀b,b<m.next->U.I b=m.I b)/\ ∃r cy,bA r/\gS u cy/\sc cy U/\cm cy kS r dZ
end
section
variable {P:Program} {t m:H} {J:eU} {u:fU}
open Classical in
theorem aHP{f:Nat}{args:List Value}{bA:Value->Prop}(h:fc P f args fJ λv t=> ∃r,dt 9 t v=some r/\bA r):Gf P f args bA:= λu m bu dh aa=>by
 refine(h kS u bu m (ac1 dh) aa).bD λdZ U bT=> ?_;obtain⟨cU,cy,v,af,⟨r,A,iA⟩,D,ai,aT⟩:=bT;refine⟨aT.lJ,(λb hb=>aT.dK b hb λ⟨o,x,e,_⟩=>by cases e),r,(λb=>match cy b with
  |some cs=>some cs
  |none=>if∃o,cU o=some b then(U.I b).map (·.cells)else none),iA,λb cs hb=> ?_,λb cs hb=> ?_,?_⟩
 ·simp only[aT.f b cs hb]
 ·simp only at hb;split at hb
  ·next bF=>cases hb;exact(D.bZ b _ bF).1
  ·split at hb
   ·cases aH:U.I b with
    |none=>rw[aH]at hb;cases hb
    |some x=>rw[aH]at hb;cases hb;exact⟨x.own,rfl⟩
   ·cases hb
 ·refine Gz D (λb cs hb=>by simp only[hb]) 9 ai A λo aB fl b cs w ck aH=> ?_;cases mm:cy b with
  |some ds=>obtain⟨⟨w',kE⟩,_⟩:=D.bZ b ds mm;rw[aH]at kE;cases kE;rfl
  |none=>rw[if_pos ⟨o,ck⟩,aH];rfl
theorem Gf.adv{f:Nat}{ts bu:List Value}{bA:Value->Prop}(h:Gf P f ts bA)(dh:sc u m)(aa:bL u kS ts bu):ep P f bu m λdZ U=>m.next<=U.next/\(∀b,b<m.next->U.I b=m.I b/\(u b=none->U.mp b=m.mp b))/\
 ∃r cy,bA r/\gS u cy/\sc cy U/\(∀b cs,cy b=some cs->u b=some cs\/m.next<=b)/\cm cy kS r dZ:=by
 obtain⟨p,Z⟩: ∃p:H,p=⟨m.next,λb=>if(u b).isSome then m.hI b else none,m.mp⟩:=⟨_,rfl⟩;have q0:p.next=m.next:=by rw[Z]
 have M8:p.mp=m.mp:=by rw[Z]
 have oe: ∀b,p.I b=if(u b).isSome then m.I b else none:= λb=>by
  rw[Z];simp only[H.I];split
  ·rfl
  ·split<;>rfl
 have part:Di p m:=⟨q0,M8,λb x B=>by
  rw[oe]at B;split at B
  ·exact B
  ·cases B⟩
 have Ka:sc u p:= λb cs hb=>by obtain⟨w,aS⟩:=dh b cs hb;exact⟨w,by rw[oe,hb];exact aS⟩
 refine(ep.frame part (h u p bu Ka aa)).bD λdZ U bT=> ?_;obtain⟨k2,⟨A,D,r,cy,iA,ai,aT,bF⟩,bN⟩:=bT;refine⟨bN.next,λb hb=>⟨?_,λae=>(bN.jd b hb (by rw[oe,ae];rfl)).2.2⟩,r,cy,iA,ai,λb cs hb=> ?_,λb cs hb=> ?_,bF⟩
 ·cases aH:p.I b with
  |none=>exact(bN.jd b hb aH).1
  |some x=>rw[part.I b x aH];exact bN.part.I b x (by rw[D b (by rw[q0];exact hb),aH])
 ·obtain⟨w,aS⟩:=aT b cs hb;exact⟨w,bN.part.I b _ aS⟩
 ·by_cases dm:b<m.next
  ·left;obtain⟨w,aS⟩:=aT b cs hb;cases aH:p.I b with
   |none=>rw[(bN.jd b dm aH).2.1]at aS;cases aS
   | some x=>
     rw[D b (by rw[q0];exact dm)]at aS;rw[oe]at aS;split at aS
     ·next F=>
      cases qJ:u b with
      |none=>rw[qJ]at F;cases F
      | some ny=>obtain⟨w',kE⟩:=dh b ny qJ;rw[kE]at aS;cases aS;rfl
     ·cases aS
  ·exact .inr (by omega)
theorem Gf.aHD{f:Nat}{args:List Value}{bA:Value->Prop}(h:Gf P f args bA)(aa: ∀v∈args,H4 v=true):fc P f args t λv af=>bA v/\af=t:= λJ u bu m F az=>by
 have nc:bL u kS args bu:=⟨az.1,λi x y B Y=>(aaU (g:= λ_ _=>False) (aa x (fr B))).og (λ_ _ h=>h.elim) (az.2 i x y B Y)⟩;refine(h.adv (λb cs hb=>(F.bZ b cs hb).1) nc).bD λdZ U bT=> ?_;obtain⟨aE,a2,r,cy,iA,cj,dy,fB,fb⟩:=bT;refine⟨J,cy,r,t,⟨iA,rfl⟩,?_,fb.bD (gS.refl _) (fE.nil _),?_⟩
 ·refine⟨λo x B=> ?_,λo es aQ=> ?_,F.jo,F.inj,λo b h=>⟨(F.cQ o b h).1,ql (F.cQ o b h).2 aE⟩,λb cs hb=> ?_⟩
  ·rcases F.iU o x B with⟨b,cs,w,A,D,ai,aT⟩|A
   ·exact .inl ⟨b,cs,w,A,by rw[(a2 b (F.cQ o b A).2).1,D],ai,aT.bD cj (fE.refl _)⟩
   ·exact .inr A
  ·obtain⟨b,db,A,D,ai⟩:=F.maps o es aQ;refine⟨b,db,A,?_,ai.bD cj (fE.refl _)⟩;obtain⟨aT,bF⟩:=jb D;have hb:=(F.cQ o b A).2;have mm:u b=none:=by
    cases bo:u b with
    |none=>rfl
    |some cs=>have:=(F.bZ b cs bo).2 o _ A (jb aQ).1;cases this
   exact kB (by rw[(a2 b hb).1];exact aT) (by rw[(a2 b hb).2 mm];exact bF)
  ·refine⟨dy b cs hb,λo x ck B=> ?_⟩;rcases fB b cs hb with cW|cW
   ·exact(F.bZ b cs cW).2 o x ck B
   ·have:=(F.cQ o b ck).2;omega
 ·refine⟨fE.refl _,cj,λ_ _ h=> .inl h,λb cs hb=> ?_,c8 _,aE,λb hb _=>(a2 b hb).1,λb hb aS=>aS,λb hb aS=>aS⟩;rcases fB b cs hb with cW|cW
  ·exact .inl cW
  ·exact .inr (.inl cW)
end
end Go.DI
namespace Go.Proofs.YtmmkkggfmigppaaGreat
open Go Go.DI Go.Big
def wv(cs:List Value):Prop:= ∀c∈cs,∃n:Int,c=E n
theorem wv.map{l:List Int}:wv (l.map E):= λc ar=>by obtain⟨n,_,rfl⟩:=gG.1 ar;exact⟨n,rfl⟩
theorem afo: ∀{l:List Int} {cs:List Value},cs.take l.length=l.map E-> ∀{n:Nat} {t:H},fD (fD (dt n t)) (ld 1 l.length cs)=some (l.map λx=>[E x])
 |[],cs,_,n,t=>by simp[]
 | x::l,cs,h,n,t=>by
   cases cs with
   |nil=>simp at h
   | cons c cs=>simp only[mC,Oj,lO,ub]at h;obtain⟨rfl,D⟩:=h;have cf:=afo D (n:=n) (t:=t);simp only[mC,ld,Oj,List.take_zero,List.drop_succ_cons,oj,fD,auu,cf,lO]
theorem abx{n:Nat}{t:H}: ∀{cs:List Value},wv cs->cs.flatMap (et n t)=[]
 |[],_=>rfl
 | c::cs,h=>by obtain⟨x,rfl⟩:=h c (by simp);rw[List.flatMap_cons,aES,abx λc ar=>h c (by simp[ar])];rfl
def fa(t:H)(o:Nat)(l:List Int):Prop:= ∃cs,t.I o=some ⟨cs,true⟩/\cs.take l.length=l.map E/\l.length<=cs.length/\wv cs
theorem fa.cK{t:H}{o:Nat}{l:List Int}(h:t.I o=some ⟨l.map E,true⟩):fa t o l:=⟨_,h,h7 (by simp),by simp,wv.map⟩
theorem fa.Us{t:H}{o:Nat}{l:List Int}(h:fa t o l):lT t (b7 o l.length 1) l:=by obtain⟨cs,g,a,b,_⟩:=h;exact lT.own g (by omega) (by rw[oj];exact a)
theorem fa.dK{t af:H}{o:Nat}{l:List Int}(h:fa t o l)(S:af.I o=t.I o):fa af o l:=by obtain⟨cs,g,r⟩:=h;exact⟨cs,by rw[S];exact g,r⟩
theorem fa.take{t:H}{o:Nat}{l:List Int}(h:fa t o l){k:Nat}(S:k<=l.length):fa t o (l.take k):=by
 obtain⟨cs,g,a,b,c⟩:=h;refine⟨cs,g,?_,by rw[ri];omega,c⟩;have e:(l.take k).length=k:=by rw[ri];omega
 rw[e,List.map_take,<-a,List.take_take];congr 1;omega
theorem fa.cQ{t:H}{o:Nat}{l:List Int}(h:fa t o l):o<t.next:=by obtain⟨cs,g,_⟩:=h;exact aM g
theorem fa.dt{t:H}{o:Nat}{l:List Int}(h:fa t o l){n:Nat}:dt (n+1) t (b7 o l.length 1)=some (bm l):=by
 obtain⟨cs,g,a,b,c⟩:=h;have hb:(0+l.length*1<=cs.length):=by omega
 rw[JW,g];simp only[oj,afo a,if_pos hb]
theorem axm{t:H}{os aa7:Nat}{l:List Int}{x:Int}(F:fa t os l)(hb:l.length<=1000000)(PA:t.I aa7=some ⟨[E x],true⟩)(bG:os≠aa7):
 fc N 73 [b7 os l.length 1,E 0,b7 aa7 1 1] t λr af=>r=b7 t.next (l.length+1) 1/\af=((t.aO os none).b0 1).aO t.next (some ⟨(x::l).map E,true⟩):=by
 obtain⟨cs,hr,ba,az,_⟩:=F;refine(aIG axj axg ?_).bD λr af ⟨A,D⟩=> ?_
 ·have g1:(l.length+1)*8<=140737488355328:=(by omega);simp[tC,KR,fw,iJ,hr,PA,SH,fR,AH,az,bG,g1]
 ·rw[A,D];refine⟨by simp[xc,fR],?_⟩;simp[uH,fq,gM,hr,PA,ba,hC]
end Go.Proofs.YtmmkkggfmigppaaGreat
