/-
  A part of the proof, shortened by tools of ours.
-/
import Derived.Test.YtmmkkggfmigppaaGreatZbp
set_option linter.all false
set_option maxRecDepth 8000
set_option maxHeartbeats 16000000
namespace Go.Proofs.YtmmkkggfmigppaaGreat
open Go Go.DI Go.gU
@[simp] theorem aSU{p:Option Addr}{l c:Nat}:fa (.slice p l c)=l:=rfl
@[simp] theorem aSe{p:Option Addr}{l c:Nat}:hQ (.slice p l c)=true:=rfl
theorem aJv{n:dL}{v:Value}{m:G}(M:mm m v n.bl):eu N 184 [CW n v] m λr U=>r= .bool (jr n)/\fe m U:=by
 rw[atY (by simp)];obtain⟨dc,gJ⟩:=M.len;have dq:fe m ((m.bU 2).aK m.next (some ⟨kX n v,true⟩)):=((fe.refl m).bU 2).aK (c8 _);have aH:((m.bU 2).aK m.next (some ⟨kX n v,true⟩)).F m.next=some ⟨kX n v,true⟩:=cb (by simp)
 have qj: ∀(x:Int) (bu:Value->G->Prop),eu N 234 [D x,bC m.next] ((m.bU 2).aK m.next (some ⟨kX n v,true⟩)) bu=bu (.bool (jL n x)) ((m.bU 2).aK m.next (some ⟨kX n v,true⟩)):= λx bu=>ao1 aH x bu;by_cases bB:n.dF<2
 ·simp(disch:=first|omega|simp only[bS];omega) [AH,bB];exact⟨(by first|(simp[jr, *];done)|(simp[jr];intros;omega)),dq⟩
 by_cases cC:700<n.dF
 ·simp(disch:=first|omega|simp only[bS];omega) [AH,bB,cC];exact⟨(by first|(simp[jr, *];done)|(simp[jr];intros;omega)),dq⟩
 by_cases dO:(2500:Int)<n.bl.length
 ·simp(disch:=first|omega|simp only[bS];omega) [AH,dc,gJ,bB,cC,dO];exact⟨(by first|(simp[jr, *];done)|(simp[jr];intros;omega)),dq⟩
 by_cases gu:jL n n.dr=false
 ·simp(disch:=first|omega|simp only[bS];omega) [AH,dc,gJ,qj,bB,cC,dO,gu];exact⟨(by first|(simp[jr, *];done)|(simp[jr];intros;omega)),dq⟩
 by_cases mF:jL n n.et=false
 ·simp(disch:=first|omega|simp only[bS];omega) [AH,dc,gJ,qj,bB,cC,dO,gu,mF];exact⟨(by first|(simp[jr, *];done)|(simp[jr];intros;omega)),dq⟩
 by_cases qn:n.dr=n.et
 ·simp(disch:=first|omega|simp only[bS];omega) [AH,dc,gJ,qj,bB,cC,dO,gu,mF,eq_true qn];exact⟨(by first|(simp[jr, *];done)|(simp[jr];intros;omega)),dq⟩
 simp(disch:=first|omega|simp only[bS];omega) [AH,dc,gJ,qj,bB,cC,dO,gu,mF,qn];refine arM aH (M.bt dq) (by omega) n.bl.length 0 _ _ (by omega) (fe.refl _) (by simp) (by simp[]) (by simp) (by simp) (λK U aE a5=> ?_) (λK U aE a5 ch=> ?_)
 ·simp;rw[oB]at a5;exact⟨by simp only[jr,a5];simp at gu mF;simp[bB,cC,gu,mF,qn];omega,dq.trans aE⟩
 ·simp[ch];rw[oB]at a5;exact⟨by simp only[jr,a5];simp,dq.trans aE⟩
theorem aqt{n:dL}{v:Value}{b:Nat}{ek:G}(aj:ek.F b=some ⟨kX n v,true⟩)(M:mm ek v n.bl)(aA:n.bl.length<100000){Q:cO->aD->G->Prop}: ∀(r i:Nat) (m:G) (z:aD),i+r=n.bl.length->fe ek m->
 z 1=bC b->z 3=D i->
 (∀K U,fe ek U->(n.bl.drop i).all (ob n)=true->Q (.cF 0) K U)->(∀K U,fe ek U->(n.bl.drop i).all (ob n)=false->K 2= .bool false->Q .fi K U)->fJ N (.loop y4) z m Q
 | 0,i,m,z,Y,aC,aT,bH,a6,c1=>by refine jN λbO a1=> ?_;obtain⟨dc,gJ⟩:=M.len;have A: ¬i<n.bl.length:=(by omega);have lr:=aC.some aj;simp(disch:=first|omega|simp only[bS];omega) [y4,aT,bH,A,lr,dc,gJ];exact a6 _ _ aC (by rw[Gw (by omega)];rfl)
 | r+1,i,m,z,Y,aC,aT,bH,a6,c1=>by
   refine jN λbO a1=> ?_;have A:i<n.bl.length:=(by omega);obtain⟨a,ag⟩: ∃a,n.bl[i]?=some a:=⟨n.bl[i]'A,by simp⟩;have tE:n.bl.drop i=a::n.bl.drop (i+1):=by rw[pG A];rw[c6 A]at ag;cases ag;rfl
   obtain⟨c,o,rfl,av⟩:=M.hc A;have lf:=aC.some av;have lr:=aC.some aj;have sG:=aF lr;have xz:=aF lf;have sH:=aC.next
   have Ao:=aF aj;have hb:i*4+4<=n.bl.length*4:=(by omega);have iq:=zZ ag;have bp:=fB (n:=i) (by omega);have next: ∀(K:aD) (U:G),ob n a=true->fe ek U->K 1=bC b->K 3=D ((i:Int)+1)->bO K U:=by
    intro K U ax jk a9 cA;refine a1 _ _ (aqt aj M aA r (i+1) U K (by omega) jk a9 (by rw[cA];simp) (λk5 vh aE a5=>a6 _ _ aE ?_) (λk5 vh aE a5 ch=>c1 _ _ aE ?_ ch))
    ·rw[tE,m9,ax,a5];rfl
    ·rw[tE,m9,ax,a5];rfl
   have stop: ∀(K:aD) (U:G),ob n a=false->fe ek U->K 2= .bool false->Q .fi K U:= λK U kj jk bW=>c1 _ _ jk (by rw[tE,m9,kj];rfl) bW;have hp: ∀k q y,m.next<=q->fe ek ((m.bU k).aK q (some y)):= λk q y bg=>(aC.bU k).aK (by omega)
   by_cases bB:a.f<0
   ·simp(disch:=first|omega|simp only[bS];omega) [y4,aT,bH,A,lf,lr,hb,iq,gH,bB];exact stop _ _ (by simp[ob,jL];omega) (hp _ _ _ (by omega)) (by simp)
   by_cases cC:n.dF<=a.f
   ·simp(disch:=first|omega|simp only[bS];omega) [y4,aT,bH,A,lf,lr,hb,iq,gH,bB,cC];exact stop _ _ (by simp[ob,jL];omega) (hp _ _ _ (by omega)) (by simp)
   by_cases dO:a.t<0
   ·simp(disch:=first|omega|simp only[bS];omega) [y4,aT,bH,A,lf,lr,hb,iq,gH,bB,cC,dO];exact stop _ _ (by simp[ob,jL];omega) (hp _ _ _ (by omega)) (by simp)
   by_cases gu:n.dF<=a.t
   ·simp(disch:=first|omega|simp only[bS];omega) [y4,aT,bH,A,lf,lr,hb,iq,gH,bB,cC,dO,gu];exact stop _ _ (by simp[ob,jL];omega) (hp _ _ _ (by omega)) (by simp)
   by_cases mF:a.c<0
   ·simp(disch:=first|omega|simp only[bS];omega) [y4,aT,bH,A,lf,lr,hb,iq,gH,bB,cC,dO,gu,mF];exact stop _ _ (by simp[ob,jL];omega) (hp _ _ _ (by omega)) (by simp)
   by_cases qn:2147483647<a.c
   ·simp(disch:=first|omega|simp only[bS];omega) [y4,aT,bH,A,lf,lr,hb,iq,gH,bB,cC,dO,gu,mF,qn];exact stop _ _ (by simp[ob,jL];omega) (hp _ _ _ (by omega)) (by simp)
   simp(disch:=first|omega|simp only[bS];omega) [y4,aT,bH,A,lf,lr,hb,iq,gH,bp,bB,cC,dO,gu,mF,qn];exact next _ _ (by simp[ob,jL];omega) (hp _ _ _ (by omega)) (by simp[aT]) (by simp)
theorem ac2{n:dL}{v:Value}{m:G}(M:mm m v n.bl):eu N 131 [CW n v] m λr U=>r= .bool (jr n)/\fe m U:=by
 rw[atT (by simp)];obtain⟨dc,gJ⟩:=M.len;have dq:fe m ((m.bU 2).aK m.next (some ⟨kX n v,true⟩)):=((fe.refl m).bU 2).aK (c8 _);have aH:((m.bU 2).aK m.next (some ⟨kX n v,true⟩)).F m.next=some ⟨kX n v,true⟩:=cb (by simp)
 by_cases bB:n.dF<2
 ·simp(disch:=first|omega|simp only[bS];omega) [xL,bB];exact⟨(by first|(simp[jr,jL, *];done)|(simp[jr,jL];intros;omega)),dq⟩
 by_cases cC:700<n.dF
 ·simp(disch:=first|omega|simp only[bS];omega) [xL,bB,cC];exact⟨(by first|(simp[jr,jL, *];done)|(simp[jr,jL];intros;omega)),dq⟩
 by_cases dO:(2500:Int)<n.bl.length
 ·simp(disch:=first|omega|simp only[bS];omega) [xL,dc,gJ,bB,cC,dO];exact⟨(by first|(simp[jr,jL, *];done)|(simp[jr,jL];intros;omega)),dq⟩
 by_cases gu:n.dr<0
 ·simp(disch:=first|omega|simp only[bS];omega) [xL,dc,gJ,bB,cC,dO,gu];exact⟨(by first|(simp[jr,jL, *];done)|(simp[jr,jL];intros;omega)),dq⟩
 by_cases MK:n.dF<=n.dr
 ·simp(disch:=first|omega|simp only[bS];omega) [xL,dc,gJ,bB,cC,dO,gu,MK];exact⟨(by first|(simp[jr,jL, *];done)|(simp[jr,jL];intros;omega)),dq⟩
 by_cases mF:n.et<0
 ·simp(disch:=first|omega|simp only[bS];omega) [xL,dc,gJ,bB,cC,dO,gu,MK,mF];exact⟨(by first|(simp[jr,jL, *];done)|(simp[jr,jL];intros;omega)),dq⟩
 by_cases aa5:n.dF<=n.et
 ·simp(disch:=first|omega|simp only[bS];omega) [xL,dc,gJ,bB,cC,dO,gu,MK,mF,aa5];exact⟨(by first|(simp[jr,jL, *];done)|(simp[jr,jL];intros;omega)),dq⟩
 by_cases qn:n.dr=n.et
 ·simp(disch:=first|omega|simp only[bS];omega) [xL,dc,gJ,bB,cC,dO,gu,MK,mF,aa5,eq_true qn];exact⟨(by first|(simp[jr,jL, *];done)|(simp[jr,jL];intros;omega)),dq⟩
 simp(disch:=first|omega|simp only[bS];omega) [xL,dc,gJ,bB,cC,dO,gu,MK,mF,aa5,qn];refine aqt aH (M.bt dq) (by omega) n.bl.length 0 _ _ (by omega) (fe.refl _) (by simp) (by simp) (λK U aE a5=> ?_) (λK U aE a5 ch=> ?_)
 ·simp;rw[oB]at a5;exact⟨by simp only[jr,a5,jL];simp;omega,dq.trans aE⟩
 ·simp[ch];rw[oB]at a5;exact⟨by simp only[jr,a5];simp,dq.trans aE⟩
def jM(aq:Nat)(g:Int->Int):List Value:=(List.range aq).map λ(x:Nat)=>D (g x)
@[simp] theorem aVg{aq:Nat}{g:Int->Int}:(jM aq g).length=aq:=by simp[jM]
@[simp] theorem aGE{aq:Nat}{g:Int->Int}{k:Nat}(h:k<(jM aq g).length):(jM aq g)[k]'h=D (g k):=by simp[jM]
theorem x4{aq:Nat}{g:Int->Int}{k:Nat}(h:k<aq):(jM aq g)[k]?=some (D (g k)):=by simp[jM,h]
@[simp] theorem wF{aq:Nat}{g:Int->Int}{k:Nat}{c:Int}:(jM aq g).set k (D c)=jM aq (λx=>if x=k then c else g x):=by
  apply Bv
  ·simp
  ·intro i A E;simp at A;rw[List.getElem_set];simp only[aGE];by_cases h:k=i
   ·subst h;simp
   ·have: ¬(i:Int)=k:=(by omega);simp[h,this]
theorem acQ{aq:Nat}:List.replicate aq (D 0)=jM aq (λ_=>0):=by apply Bv<;>simp[jM]
def yu:List dm->List Int->Bool
 |a::DV,bR::fs=> !decide (bR<0)&& !decide (a.c<bR)&&yu DV fs
 |_,_=>true
def D5(n:dL)(g:Int->Int)(l:List Nat):Bool:=l.all λx=>decide ((x:Int)=n.dr)||decide ((x:Int)=n.et)||decide (g x=0)
def Bl(n:dL)(au:List Int):Int×Bool:=
 if jr n&&decide (au.length=n.bl.length)&&yu n.bl au&&D5 n (jT n.bl au) (List.range n.dF.toNat)then(value n au,true)else(0,false)
theorem af9: ∀{DV:List dm} {fs:List Int},fs.length=DV.length->(yu DV fs=true↔ ∀(i:Nat) a bR,DV[i]?=some a->fs[i]?=some bR->0<=bR/\bR<=a.c)
 |[],[],_=>by simp[yu]
 |[],_::_,h=>by simp at h
 |_::_,[],h=>by simp at h
 | a::DV,bR::fs,h=>by
   have cj:= @af9 DV fs (by simpa using h);simp only[yu,a7,sj,Gv,cj];constructor
   ·rintro⟨⟨A,E⟩,ao⟩ i b yl hb Ll;cases i with
    |zero=>simp at hb Ll;subst hb;subst Ll;omega
    |succ i=>exact ao i b yl (by simpa using hb) (by simpa using Ll)
   ·intro ao;have:=ao 0 a bR rfl rfl;exact⟨⟨by omega,by omega⟩,λi b yl hb Ll=>ao (i+1) b yl (by simpa using hb) (by simpa using Ll)⟩
theorem arO{n:dL}{au:List Int}(cc:n.iS)(bb:o6 n au):Bl n au=(value n au,true):=by
 unfold Bl;rw[if_pos];simp only[a7,eF];refine⟨⟨⟨Ix.2 cc,bb.lG.1⟩,(af9 bb.lG.1).2 bb.lG.2⟩,?_⟩;simp only[D5,ei,pH,uv,eF];intro k O;by_cases A:(k:Int)=n.dr
 ·exact .inl (.inl A)
 ·by_cases E:(k:Int)=n.et
  ·exact .inl (.inr E)
  ·exact .inr (bb.Ph k ⟨by omega,by omega⟩ A E)
set_option maxRecDepth 20000 in
theorem aqu{n:dL}(cc:n.iS){aq:Nat}(dM:n.dF=aq){W:Int}(PV:W=2147483647){v w:Value}{au:List Int}{b nb:Nat}{ek:G}(aj:ek.F b=some ⟨kX n v,true⟩)(M:mm ek v n.bl)(aQ:w3 ek w au)(dV:au.length=n.bl.length)(uZ:ek.next<=nb){Q:cO->aD->G->Prop}: ∀(r i:Nat) (m:G) (z:aD) (g:Int->Int),i+r=n.bl.length->fe ek m->m.F nb=some ⟨jM aq g,true⟩->(∀x,-((i:Int)*W)<=g x/\g x<=(i:Int)*W)->
 z 7=D i->z 6= .slice (some ⟨nb,0,none⟩) aq 1->z 1=w->z 2=bC b->
 (∀K U og,fe ek U->U.F nb=some ⟨jM aq og,true⟩->yu (n.bl.drop i) (au.drop i)=true->(∀x,og x=g x+jT (n.bl.drop i) (au.drop i) x)->K 6= .slice (some ⟨nb,0,none⟩) aq 1->K 2=bC b->Q (.cF 0) K U)->
 (∀K U,fe ek U->yu (n.bl.drop i) (au.drop i)=false->K 4=D 0->K 5= .bool false->Q .fi K U)->fJ N (.loop EV) z m Q
 | 0,i,m,z,g,Y,aC,aH,lr,nv,bo,aT,bY,a6,c1=>by refine jN λbO a1=> ?_;have A: ¬i<n.bl.length:=(by omega);obtain⟨dc,gJ⟩:=aQ.len;simp[EV,nv,aT,A,dc,gJ,dV];exact a6 _ _ g aC aH (by rw[Gw (by omega)];rfl) (λx=>by rw[Gw (by omega:n.bl.length<=i)];simp[jT]) (by simp[bo]) (by simp[bY])
 | r+1,i,m,z,g,Y,aC,aH,lr,nv,bo,aT,bY,a6,c1=>by
   refine jN λbO a1=> ?_;have A:i<n.bl.length:=(by omega);have jw:i<au.length:=(by omega);obtain⟨a,ag⟩: ∃a,n.bl[i]?=some a:=⟨n.bl[i]'A,by simp⟩;obtain⟨bR,fo⟩: ∃bR,au[i]?=some bR:=⟨au[i]'jw,by simp⟩;have nS: ∀h,au[i]'h=bR:= λh=>by rw[c6 h]at fo;simpa using fo
   have tE:n.bl.drop i=a::n.bl.drop (i+1):=(by rw[pG A];rw[c6 A]at ag;cases ag;rfl);have P6:au.drop i=bR::au.drop (i+1):=(by rw[pG jw];rw[nS]);have ax:=cc.p9 a (fX ag);obtain⟨⟨ej,eD⟩,⟨bd,dR⟩,ck,c9⟩:=ax;obtain⟨tV,Hf⟩: ∃k:Nat,a.f=k:=⟨a.f.toNat,by omega⟩;obtain⟨km,Hg⟩: ∃k:Nat,a.t=k:=⟨a.t.toNat,by omega⟩;have gg:tV<aq:=(by omega);have t3:km<aq:=(by omega);have lJ:tV+1<=aq:=gg;have t4:km+1<=aq:=t3;have aiL: ∀g,(jM aq g)[tV]?=some (D (g tV)):= λg=>x4 gg;have Hq: ∀g,(jM aq g)[km]?=some (D (g km)):= λg=>x4 t3;obtain⟨c,o,rfl,av⟩:=M.hc A;obtain⟨d,hD,rfl,aW⟩:=aQ.hc jw;have lf:=aC.some av;have wb:=aC.some aW;have wa:=aC.some aj;have sG:=aF wa;have xz:=aF lf;have W6:=aF wb;have aQD:=aF av;have aQE:=aF aW;have aQy:=aF aj;have Qh:=aF aH;have sH:=aC.next
   have hb:i*4+4<=n.bl.length*4:=(by omega);have bI:i+1<=n.bl.length:=A;have iq:=zZ ag;have fw:=cc.rH;have bp:=fB (n:=i) (by omega);have stop: ∀(K:aD) (U:G),(bR<0\/a.c<bR)->fe ek U->K 4=D 0->K 5= .bool false->Q .fi K U:= λK U kj jk fV g9=>c1 _ _ jk (by rw[tE,P6];rcases kj with h|h<;>simp[yu,h]) fV g9;have hp: ∀k q y,m.next<=q->fe ek ((m.bU k).aK q (some y)):= λk q y bg=>(aC.bU k).aK (by omega)
   have dy:=lr tV;have Kx:=lr km;have Xc:(i:Int)*W<=2500*W:=Bq (by omega) (by omega);have next: ∀(K:aD) (U:G) (og:Int->Int),0<=bR->bR<=a.c->fe ek U->U.F nb=some ⟨jM aq og,true⟩->(∀x,og x=g x+kA a.f x bR-kA a.t x bR)->K 7=D ((i:Int)+1)->K 6= .slice (some ⟨nb,0,none⟩) aq 1->K 1= .slice (some ⟨d,0,none⟩) au.length 1->K 2=bC b->bO K U:=by
    intro K U og dC fK jk axm P9 C5 mg a9 bW;refine a1 _ _ (aqu cc dM PV aj M aQ dV uZ r (i+1) U K og (by omega) jk axm ?_ (by rw[C5];simp) mg a9 bW (λk5 vh av2 aG aN ct gC mx l5=>a6 _ _ av2 aG aN ?_ ?_ mx l5) (λk5 vh aG aN ct gC=>c1 _ _ aG ?_ ct gC))
    ·intro x;have B:=lr x;rw[P9 x];have e:(((i+1:Nat):Int))*W=(i:Int)*W+W:=(by rw[Int.natCast_add,Int.add_mul];simp);rw[e];simp only[kA];split<;>split<;>omega
    ·rw[tE,P6];simp only[yu,ct,Bool.and_true,a7,sj,Gv];omega
    ·intro x;rw[gC,P9,tE,P6];simp only[jT];omega
    ·rw[tE,P6];simp only[yu,aN,Bool.and_false]
   by_cases bB:bR<0
   ·simp(disch:=first|omega|simp only[bS];omega) [EV,nv,bI,aT,bY,A,dV,lf,wb,wa,hb,iq,gH,e1,nS,Hf,Hg,bB];exact stop _ _ (by omega) (hp _ _ _ (by omega)) (by simp) (by simp)
   by_cases cC:a.c<bR
   ·simp(disch:=first|omega|simp only[bS];omega) [EV,nv,bI,aT,bY,A,dV,lf,wb,wa,hb,iq,gH,e1,nS,Hf,Hg,bB,cC];exact stop _ _ (by omega) (hp _ _ _ (by omega)) (by simp) (by simp)
   have cr:IntKind.i64.wrap (g tV+bR)=g tV+bR:=db (by omega) (by omega);by_cases axl:km=tV
   ·subst axl;have ea:IntKind.i64.wrap (g km)=g km:=db (by omega) (by omega);simp(disch:=first|omega|simp only[bS];omega) [EV,nv,bI,bo,aT,bY,A,dV,lf,wb,wa,aH,hb,iq,gH,e1,nS,Hf,Hg,gg,lJ,aiL,bp,bB,cC,cr,ea];refine next _ _ (λx=>if x=(km:Int)then g km else if x=(km:Int)then g km+bR else g x) (by omega) (by omega) (fe.aK (hp _ _ _ (by omega)) (by omega)) (by rw[cb (by simp only[eT,fq];omega)]) (λx=> ?_) (by simp) (by simp[bo]) (by simp[aT]) (by simp[bY])
    simp only[kA,Hf,Hg];by_cases B:x=(km:Int)
    ·subst B;simp
    ·have h6: ¬(km:Int)=x:= λh=>B h.symm;simp[B,h6]
   ·have aif: ¬(km:Int)=tV:=(by omega);have ea:IntKind.i64.wrap (g km-bR)=g km-bR:=db (by omega) (by omega);simp(disch:=first|omega|simp only[bS];omega) [EV,nv,bI,bo,aT,bY,A,dV,lf,wb,wa,aH,hb,iq,gH,e1,nS,Hf,Hg,gg,t3,lJ,t4,aiL,Hq,bp,bB,cC,cr,ea,aif];refine next _ _ (λx=>if x=(km:Int)then g km-bR else if x=(tV:Int)then g tV+bR else g x) (by omega) (by omega) (fe.aK (hp _ _ _ (by omega)) (by omega)) (by rw[cb (by simp only[eT,fq];omega)]) (λx=> ?_) (by simp) (by simp[bo]) (by simp[aT]) (by simp[bY])
    simp only[kA,Hf,Hg];by_cases B:x=(km:Int)
    ·subst B;have: ¬(tV:Int)=km:= λh=>aif h.symm;simp[this]
    ·have h6: ¬(km:Int)=x:= λh=>B h.symm;by_cases Z:x=(tV:Int)
     ·subst Z;simp[B,h6]
     ·have y2: ¬(tV:Int)=x:= λh=>Z h.symm;simp[B,h6,Z,y2]
def zi(n:dL)(g:Int->Int)(x:Nat):Bool:=decide ((x:Int)=n.dr)||decide ((x:Int)=n.et)||decide (g x=0)
theorem auv{n:dL}{g:Int->Int}{aq:Nat}(h: ∀k,0<=k->k<aq->zi n g k=true):D5 n g (List.range aq)=true:=by simp only[D5,ei,pH];exact λk O=>h k (gd _) O
theorem auu{n:dL}{g:Int->Int}{aq:Nat}(h: ∃k,0<=k/\k<aq/\zi n g k=false):D5 n g (List.range aq)=false:=by
 obtain⟨k,_,O,h⟩:=h;cases av:D5 n g (List.range aq)with
 |false=>rfl
 | true=>simp only[D5,ei,pH]at av;have:=av k O;unfold zi at h;rw[h]at this;cases this
theorem aqv{n:dL}{aq:Nat}(dM:n.dF=aq)(awI:aq<100000){v:Value}{b nb:Nat}{m:G}(lr:m.F b=some ⟨kX n v,true⟩){g:Int->Int}(aH:m.F nb=some ⟨jM aq g,true⟩){Q:cO->aD->G->Prop}: ∀(r i:Nat) (z:aD),i+r=aq->
 z 9=D i->z 6= .slice (some ⟨nb,0,none⟩) aq 1->z 2=bC b->
 (∀K,(∀k,i<=k->k<aq->zi n g k=true)->K 6= .slice (some ⟨nb,0,none⟩) aq 1->K 2=bC b->Q (.cF 2) K m)->
 (∀K,(∃k,i<=k/\k<aq/\zi n g k=false)->K 4=D 0->K 5= .bool false->Q .fi K m)->fJ N (.loop EW) z m Q
 | 0,i,z,Y,nv,bo,bY,a6,c1=>by refine jN λbO a1=> ?_;have A: ¬(i:Int)<n.dF:=(by omega);have E: ¬i<aq:=(by omega);simp[EW,nv,bY,A,lr];exact a6 _ (λk A E=>by omega) (by simp[bo]) (by simp[bY])
 | r+1,i,z,Y,nv,bo,bY,a6,c1=>by
   refine jN λbO a1=> ?_;have A:(i:Int)<n.dF:=(by omega);have E:i<aq:=(by omega);have ao:i+1<=aq:=E;have bp:=fB (n:=i) (by omega);have yZ:(jM aq g)[i]?=some (D (g i)):=x4 E;have next: ∀(K:aD),zi n g i=true->K 9=D ((i:Int)+1)->K 6= .slice (some ⟨nb,0,none⟩) aq 1->K 2=bC b->bO K m:=by
    intro K ax C5 mg bW;refine a1 _ _ (aqv dM awI lr aH r (i+1) K (by omega) (by rw[C5];simp) mg bW (λk5 aG aN ct=>a6 _ (λk bB cC=> ?_) aN ct) (λk5 aG aN ct=>c1 _ ?_ aN ct))
    ·by_cases h:k=i
     ·rw[h];exact ax
     ·exact aG k (by omega) cC
    ·obtain⟨k,bB,cC,dO⟩:=aG;exact⟨k,by omega,cC,dO⟩
   by_cases ck:(i:Int)=n.dr
   ·simp[EW,lr,A,bp,nv,bY,eq_true ck];exact next _ (by simp[zi, *]) (by simp) (by simp[bo]) (by simp[bY])
   by_cases c9:(i:Int)=n.et
   ·simp[EW,lr,A,bp,nv,bY,ck,eq_true c9];exact next _ (by simp[zi, *]) (by simp) (by simp[bo]) (by simp[bY])
   by_cases k9:g i=0
   ·simp[EW,lr,aH,A,ao,bp,e1,yZ,E,nv,bo,bY,ck,c9,k9];exact next _ (by simp[zi, *]) (by simp) (by simp[bo]) (by simp[bY])
   ·simp[EW,lr,aH,A,ao,e1,yZ,E,nv,bo,bY,ck,c9,k9];exact c1 _ ⟨i,c8 _,E,by simp[zi, *]⟩ (by simp) (by simp)
theorem aqw{n:dL}{v w:Value}{au:List Int}{m:G}(M:mm m v n.bl)(aQ:w3 m w au):eu N 145 [CW n v,w] m λr U=>r= .tuple #[D (Bl n au).1,.bool (Bl n au).2]/\fe m U:=by
 rw[atW (by simp)];obtain⟨dc,gJ⟩:=M.len;obtain⟨K5,Qs⟩:=aQ.len;have dq:fe m ((m.bU 3).aK m.next (some ⟨kX n v,true⟩)):=((fe.refl m).bU 3).aK (c8 _);simp(disch:=first|omega|simp only[bS];omega) [YF];refine(ac2 (M.bt dq)).bt λr cK ae=> ?_;obtain⟨rfl,aC⟩:=ae;have hp:=dq.trans aC;have aH:cK.F m.next=some ⟨kX n v,true⟩:=aC.some (cb (by simp))
 have Qh:=aF aH;have tK:=hp.next
 cases cc:jr n
 ·simp(disch:=first|omega|simp only[bS];omega);exact⟨by simp[Bl,cc],hp⟩
 have oq:=M.bt hp;have tM:=aQ.bt hp;by_cases aA:au.length=n.bl.length
 ·have nN:=Ix.1 cc;obtain⟨aq,dM⟩: ∃aq:Nat,n.dF=aq:=⟨n.dF.toNat,by have:=nN.er;omega⟩;obtain⟨gh,uX⟩: ∃k:Nat,n.dr=k:=⟨n.dr.toNat,by have:=nN.dr.1;omega⟩;have axs:(gh:Int)=n.dr:=uX.symm;have Al:n.dF.toNat=aq:=(by omega);have axt:n.dr.toNat=gh:=(by omega);have bG:0<=n.dr:=nN.dr.1;have aT:n.dr<(aq:Int):=(by have:=nN.dr.2;omega);have bH:gh<aq:=(by omega);have z0:0<=n.dF:=(by omega);have eg:=nN.AS;have je:n.dF*8<=140737488355328:=(by omega);have kf:n.dF<=9223372036854775807:=(by omega);simp(disch:=first|omega|simp only[bS];omega) [dc,gJ,K5,Qs,aH,aA,Al,z0,je,kf];have e2:cK.next<=cK.next+2:=Nat.le_add_right _ _
  have axO:fe cK ((cK.bU 4).aK (cK.next+2) (some ⟨List.replicate aq (D 0),true⟩)):=((fe.refl cK).bU 4).aK e2;refine aqu nN dM rfl (ek:=cK) (nb:=cK.next+2) aH oq tM aA e2 n.bl.length 0 _ _ (λ_=>0) (by omega) axO (by rw[cb (by simp only[fq];omega),acQ]) (by simp) (by simp) (by simp) (by simp) (by simp) (λK U og aG aN ct gC mx l5=> ?_) (λK U aG aN ct gC=> ?_)
  ·have As:=aG.some aH;have P9:og=jT n.bl au:=(by funext x;rw[gC];simp);subst P9;rw[oB,oB]at ct;simp[];refine aqv dM (by omega) As aN aq 0 _ (by omega) (by simp) (by simp[mx]) (by simp[l5]) (λk5 ej eD gg=> ?_) (λk5 ej eD gg=> ?_)
   ·have av:=auv ej;have yZ:(jM aq (jT n.bl au))[gh]?=some (D (jT n.bl au n.dr)):=(by rw[x4 bH,axs]);simp(disch:=omega) [eD,gg,As,aN,bG,aT,axt,yZ,e1];exact⟨bH,by simp[Bl,cc,aA,ct,Al,av,value],hp.trans aG⟩
   ·have av:=auu ej;simp(disch:=omega) [eD,gg];exact⟨by simp[Bl,cc,aA,ct,Al,av],hp.trans aG⟩
  ·rw[oB,oB]at aN;simp(disch:=omega) [ct,gC];exact⟨by simp[Bl,cc,aA,aN],hp.trans aG⟩
 ·have h5: ¬(au.length:Int)=n.bl.length:=(by omega);simp(disch:=omega) [dc,gJ,K5,Qs,aH,h5];exact⟨by simp[Bl,cc,aA],hp⟩
def gX(cg:List Bool)(x:Int):Bool:=cg.getD x.toNat false
def uK(n:dL)(cg:List Bool):Int×Bool:=
 if jr n&&decide ((cg.length:Int)=n.dF)&&gX cg n.dr&& !gX cg n.et then(jQ n.bl (gX cg),true)else(0,false)
theorem J5{cg:List Bool}{x:Int}(h:x.toNat<cg.length):cg[x.toNat]?=some (gX cg x):=by unfold gX;rw[m7,c6 h];rfl
theorem apY{n:dL}(cc:n.iS){W:Int}(PV:W=2147483647){v w:Value}{cg:List Bool}{b:Nat}{ek:G}(aj:ek.F b=some ⟨kX n v,true⟩)(M:mm ek v n.bl)(aQ:zP ek w cg)(cq:(cg.length:Int)=n.dF){Q:cO->aD->G->Prop}: ∀(r i:Nat) (m:G) (z:aD) (s:Int),i+r=n.bl.length->fe ek m->0<=s/\s<=(i:Int)*W->
 z 7=D i->z 6=D s->z 1=w->z 2=bC b->
 (∀K U,fe ek U->K 6=D (s+jQ (n.bl.drop i) (gX cg))->Q (.cF 0) K U)->fJ N (.loop Ie) z m Q
 | 0,i,m,z,s,Y,aC,H,nv,bo,aT,bY,a6=>by refine jN λbO a1=> ?_;have A: ¬i<n.bl.length:=(by omega);have wa:=aC.some aj;obtain⟨dc,gJ⟩:=M.len;simp(disch:=first|omega|simp only[bS];omega) [Ie,nv,bY,A,dc,gJ,wa];exact a6 _ _ aC (by rw[Gw (by omega)];simp[jQ,bo])
 | r+1,i,m,z,s,Y,aC,H,nv,bo,aT,bY,a6=>by
   refine jN λbO a1=> ?_;have A:i<n.bl.length:=(by omega);obtain⟨a,ag⟩: ∃a,n.bl[i]?=some a:=⟨n.bl[i]'A,by simp⟩;have tE:n.bl.drop i=a::n.bl.drop (i+1):=by rw[pG A];rw[c6 A]at ag;cases ag;rfl
   have ax:=cc.p9 a (fX ag);obtain⟨⟨ej,eD⟩,⟨bd,dR⟩,ck,c9⟩:=ax;rw[<-cq]at eD dR;have gg:a.f.toNat<cg.length:=(by omega);have t3:a.t.toNat<cg.length:=(by omega);have aie:=J5 gg;have aiX:=J5 t3;have WT: ∀h,cg[a.f.toNat]'h=gX cg a.f:= λh=>by rw[c6 h]at aie;simpa using aie
   have aiY: ∀h,cg[a.t.toNat]'h=gX cg a.t:= λh=>by rw[c6 h]at aiX;simpa using aiX
   obtain⟨c,o,rfl,av⟩:=M.hc A;obtain⟨d,hD,rfl,aW⟩:=aQ.hc gg;have lf:=aC.some av;have wb:=aC.some aW;have wa:=aC.some aj;have sG:=aF wa;have xz:=aF lf;have W6:=aF wb;have sH:=aC.next
   have hb:i*4+4<=n.bl.length*4:=(by omega);have sD:i*4+1<=n.bl.length*4:=(by omega);have rP:i*4+2<=n.bl.length*4:=(by omega);have awV:i*4+3<=n.bl.length*4:=(by omega);have rO:a.f.toNat+1<=cg.length:=gg;have nx:a.t.toNat+1<=cg.length:=t3;have f6:a.f<n.dF:=(by omega);have sd:a.t<n.dF:=(by omega);have iq:=zZ ag;have bA: ∀h:i*4<(fA n.bl).length,(fA n.bl)[i*4]'h=D a.f:= λh=>by have:=qM ag (j:=0) (by omega);rw[ux,c6 h]at this;simpa[gH]using this
   have p5:=qM ag (j:=0) (by omega);rw[ux]at p5;have a9:=qM ag (j:=1) (by omega);have bW:=qM ag (j:=2) (by omega);simp only[gH]at p5;simp[gH]at a9 bW;have sX:(fA n.bl)[i*4]?=some (D a.f):=p5;have fw:=cc.rH;have Xc:(i:Int)*W<=2500*W:=Bq (by omega) (by omega);have bp:=fB (n:=i) (by omega);have cr:IntKind.i64.wrap (s+a.c)=s+a.c:=db (by omega) (by omega);have next: ∀(K:aD) (U:G) (gY:Int),gY=s+(if gX cg a.f=true/\gX cg a.t=false then a.c else 0)->fe ek U->K 7=D ((i:Int)+1)->K 6=D gY->K 1= .slice (some ⟨d,0,none⟩) cg.length 1->K 2=bC b->bO K U:=by
    intro K U gY mD jk C5 mg a9 bW;have e:(((i+1:Nat):Int))*W=(i:Int)*W+W:=(by rw[Int.natCast_add,Int.add_mul];simp);refine a1 _ _ (apY cc PV aj M aQ cq r (i+1) U K gY (by omega) jk ?_ (by rw[C5];simp) mg a9 bW (λk5 vh aG aN=>a6 _ _ aG ?_))
    ·rw[e];split at mD<;>omega
    ·rw[tE,aN,mD];simp only[jQ];congr 1;omega
   cases bB:gX cg a.f
   ·simp(disch:=first|omega|simp only[bS];omega) [Ie,nv,aT,bY,A,lf,wb,wa,sD,sX,e1,ej,eD,rO,WT,bp,bB];exact next _ _ s (by simp[bB]) aC (by simp) (by simp[bo]) (by simp[aT]) (by simp[bY])
   cases cC:gX cg a.t
   ·simp(disch:=first|omega|simp only[bS];omega) [Ie,nv,bo,aT,bY,A,lf,wb,wa,sD,rP,awV,sX,a9,bW,e1,ej,eD,bd,dR,rO,nx,WT,aiY,bp,bB,cC,cr];exact next _ _ (s+a.c) (by simp[bB,cC]) aC (by simp) (by simp[]) (by simp[aT]) (by simp[bY])
   ·simp(disch:=first|omega|simp only[bS];omega) [Ie,nv,aT,bY,A,lf,wb,wa,sD,rP,sX,a9,e1,ej,eD,bd,dR,rO,nx,WT,aiY,bp,bB,cC];exact next _ _ s (by simp[bB,cC]) aC (by simp) (by simp[bo]) (by simp[aT]) (by simp[bY])
theorem aF4{n:dL}{v w:Value}{cg:List Bool}{m:G}(M:mm m v n.bl)(aQ:zP m w cg):eu N 84 [CW n v,w] m λr U=>r= .tuple #[D (uK n cg).1,.bool (uK n cg).2]/\fe m U:=by
 rw[aub (by simp)];obtain⟨dc,gJ⟩:=M.len;obtain⟨K5,Qs⟩:=aQ.len;have dq:fe m ((m.bU 3).aK m.next (some ⟨kX n v,true⟩)):=((fe.refl m).bU 3).aK (c8 _);simp(disch:=first|omega|simp only[bS];omega) [ZR];refine(ac2 (M.bt dq)).bt λr cK ae=> ?_;obtain⟨rfl,aC⟩:=ae;have hp:=dq.trans aC;have aH:cK.F m.next=some ⟨kX n v,true⟩:=aC.some (cb (by simp))
 have Qh:=aF aH;have tK:=hp.next
 cases cc:jr n
 ·simp(disch:=first|omega|simp only[bS];omega);exact⟨by simp[uK,cc],hp⟩
 have oq:=M.bt hp;have tM:=aQ.bt hp;by_cases aA:(cg.length:Int)=n.dF
 ·have nN:=Ix.1 cc;have bG:0<=n.dr:=nN.dr.1;have aT:n.dr<n.dF:=nN.dr.2;have bH:n.dr.toNat<cg.length:=(by omega);have dp:n.dr.toNat+1<=cg.length:=bH;have t0:0<=n.et:=nN.et.1;have bd:n.et<n.dF:=nN.et.2;have t3:n.et.toNat<cg.length:=(by omega);have t4:n.et.toNat+1<=cg.length:=t3;have aiP:=J5 bH;have aiZ:=J5 t3;have XA: ∀h,cg[n.dr.toNat]'h=gX cg n.dr:= λh=>by rw[c6 h]at aiP;simpa using aiP
  have ai0: ∀h,cg[n.et.toNat]'h=gX cg n.et:= λh=>by rw[c6 h]at aiZ;simpa using aiZ
  obtain⟨d,hD,rfl,aW⟩:=tM.hc bH;have uY:((cg.length:Int)=n.dF)=True:=eq_true aA;cases bB:gX cg n.dr
  ·simp(disch:=first|omega|simp only[bS];omega) [aH,aA,aW,bG,aT,dp,e1,XA,bB];exact⟨by simp[uK,cc,aA,bB],hp⟩
  cases cC:gX cg n.et
  ·simp(disch:=first|omega|simp only[bS];omega) [aH,aA,aW,bG,aT,dp,t0,bd,t4,e1,XA,ai0,bB,cC];refine apY nN rfl (ek:=cK) aH oq tM aA n.bl.length 0 _ _ 0 (by omega) (fe.refl _) (by simp) (by simp) (by simp) (by simp) (by simp) (λK U aG aN=> ?_);rw[oB]at aN;simp(disch:=first|omega|simp only[bS];omega) [aN];exact⟨by simp[uK,cc,aA,bB,cC],hp.trans aG⟩
  ·simp(disch:=first|omega|simp only[bS];omega) [aH,aA,aW,bG,aT,dp,t0,bd,t4,e1,XA,ai0,bB,cC];exact⟨by simp[uK,cc,aA,bB,cC],hp⟩
 ·simp(disch:=first|omega|simp only[bS];omega) [K5,Qs,aH,aA];exact⟨by simp[uK,cc,aA],hp⟩
end Go.Proofs.YtmmkkggfmigppaaGreat
namespace Go.gU
def h4(I:Int):hN:=if 0<=I then(I.toNat,true)else((-1-I).toNat,false)
def enc(e:hN):Int:=if e.2 then(e.1:Int)else-1-(e.1:Int)
theorem auH(e:hN):h4 (enc e)=e:=by
 obtain⟨i,b⟩:=e;cases b
 ·have h: ¬(0:Int)<= -1-(i:Int):=(by omega);have E:(-1-(-1-(i:Int))).toNat=i:=(by omega);simp only[enc,h4,h,E,if_false,jO]
 ·simp[enc,h4]
def eU{dP:Type}(f:Int->dP)(x:Int)(v:dP):Int->dP:= λy=>if y=x then v else f y
structure lE(n:dL)(au:List Int)(b9:Int->Bool)(fZ:Int->hN)(q:List Int):Prop where
 dr:b9 n.dr=true
 hC: ∀x,b9 x=true->n.hC x
 JP: ∃ud:Int->Nat,∀x,b9 x=true->x≠n.dr->0<cR n au (fZ x)/\ic n (fZ x)=x/\b9 (gK n (fZ x))=true/\ud (gK n (fZ x))<ud x
 h8: ∀x∈q,b9 x=true
 GV: ∀e,0<cR n au e->b9 (gK n e)=true->gK n e∉q->b9 (ic n e)=true
theorem lE.add{n:dL}{au:List Int}{b9:Int->Bool}{fZ:Int->hN}{q:List Int}(h:lE n au b9 fZ q){e:hN}(A:0<cR n au e)(E:b9 (gK n e)=true)(ao:b9 (ic n e)=false)(aS:n.hC (ic n e)):
 lE n au (eU b9 (ic n e) true) (eU fZ (ic n e) e) (q++[ic n e]):=by
 have iC: ∀x,b9 x=true->eU b9 (ic n e) true x=true:= λx B=>by unfold eU;split<;>first|rfl|exact B
 refine⟨iC _ h.dr,λx B=> ?_,?_,λx B=> ?_,λdw aE a5 ch=> ?_⟩
 ·unfold eU at B;split at B
  ·rename_i h6;rw[h6];exact aS
  ·exact h.hC x B
 ·obtain⟨ud,ar⟩:=h.JP;refine⟨λy=>if y=ic n e then ud (gK n e)+1 else ud y,λx B H=> ?_⟩;by_cases Qy:x=ic n e
  ·subst Qy;have bx:gK n e≠ic n e:= λbV=>by rw[bV,ao]at E;cases E
   have hb:eU fZ (ic n e) e (ic n e)=e:=(by unfold eU;rw[if_pos rfl]);rw[hb];refine⟨A,rfl,iC _ E,?_⟩;simp only[if_neg bx,if_true];omega
  ·have hh:b9 x=true:=(by unfold eU at B;rw[if_neg Qy]at B;exact B);obtain⟨br,bQ,a3,a4⟩:=ar x hh H;have hb:eU fZ (ic n e) e x=fZ x:=(by unfold eU;rw[if_neg Qy]);rw[hb];have bx:gK n (fZ x)≠ic n e:= λbV=>by rw[bV,ao]at a3;cases a3
   refine⟨br,bQ,iC _ a3,?_⟩;simp only[if_neg bx,if_neg Qy];exact a4
 ·rcases jP.1 B with B|B
  ·exact iC _ (h.h8 x B)
  ·simp at B;subst B;unfold eU;rw[if_pos rfl]
 ·have bx:gK n dw≠ic n e:= λbV=>ch (by rw[bV];simp);have xo:b9 (gK n dw)=true:=(by unfold eU at a5;rw[if_neg bx]at a5;exact a5);exact iC _ (h.GV dw aE xo (λbV=>ch (by simp[bV])))
theorem lE.apw{n:dL}{au:List Int}{b9:Int->Bool}{fZ:Int->hN}{bf:Int}{q:List Int}(h:lE n au b9 fZ (bf::q))(ba: ∀e,0<cR n au e->gK n e=bf->b9 (ic n e)=true):lE n au b9 fZ q:=by
 refine⟨h.dr,h.hC,h.JP,λx B=>h.h8 x (by simp[B]),λe aE a5 ch=> ?_⟩;by_cases bV:gK n e=bf
 ·exact ba e aE bV
 ·exact h.GV e aE a5 (λal=>by
   rcases hv.1 al with h|h
   ·exact bV h
   ·exact ch h)
theorem lE.C7{n:dL}{au:List Int}{b9:Int->Bool}{fZ:Int->hN}(h:lE n au b9 fZ []):Jz n au b9 fZ:=
 ⟨h.dr,h.JP,λe aE a5=>h.GV e aE a5 (by simp)⟩
theorem lE.aq2{n:dL}(cc:n.iS)(au:List Int)(fZ:Int->hN):lE n au (eU (λ_=>false) n.dr true) fZ [n.dr]:=by
 have only: ∀x,eU (λ_=>false) n.dr true x=true->x=n.dr:= λx B=>by
  unfold eU at B;split at B
  ·assumption
  ·cases B
 refine⟨by unfold eU;rw[if_pos rfl],λx B=>by rw[only x B];exact cc.dr,⟨λ_=>0,λx B H=>absurd (only x B) H⟩,λx B=>by simp at B;subst B;unfold eU;rw[if_pos rfl],λe aE a5 ch=> ?_⟩;exact absurd (by simp[only _ a5]) ch
def nd(b9:Int->Bool):Nat->Nat
 |0=>0
 |k+1=>nd b9 k+if b9 k=true then 0 else 1
theorem VB(b9:Int->Bool): ∀k,nd b9 k<=k
 |0=>c8 _
 |k+1=>by have:=VB b9 k;simp only[nd];split<;>omega
theorem agB(b9:Int->Bool)(x:Int): ∀k:Nat,(k:Int)<=x->nd (eU b9 x true) k=nd b9 k
 |0,_=>rfl
 | k+1,h=>by have e:eU b9 x true (k:Int)=b9 k:=(by unfold eU;rw[if_neg (by omega)]);simp only[nd,agB b9 x k (by omega),e]
theorem D4(b9:Int->Bool)(x:Int)(bX:0<=x)(B:b9 x=false): ∀k:Nat,x<k->nd (eU b9 x true) k+1=nd b9 k
 |0,h=>by omega
 | k+1,h=>by
   by_cases O:x=k
   ·subst O;have e:eU b9 (k:Int) true (k:Int)=true:=(by unfold eU;rw[if_pos rfl]);simp only[nd,agB b9 k k (vJ _),e,B,if_true];simp
   ·have e:eU b9 x true (k:Int)=b9 k:=(by unfold eU;rw[if_neg (by omega)]);have:=D4 b9 x bX B k (by omega);simp only[nd,e];omega
structure OD(n:dL)(jd:Int->List Int):Prop where
 G3: ∀x,n.hC x-> ∀I∈jd x,(h4 I).1<n.bl.length/\gK n (h4 I)=x/\ -2500<=I/\I<=2500
 all: ∀e:hN,e.1<n.bl.length-> ∃I∈jd (gK n e),h4 I=e
theorem ad4{n:dL}(cc:n.iS){e:hN}(h:e.1<n.bl.length):n.hC (gK n e)/\n.hC (ic n e):=by obtain⟨a,ag⟩: ∃a,n.bl[e.1]?=some a:=⟨n.bl[e.1]'h,by simp⟩;obtain⟨A,E,_⟩:=cc.p9 a (fX ag);unfold gK ic;rw[ag];cases e.2<;>exact⟨by assumption,by assumption⟩
end Go.gU
namespace Go.Proofs.YtmmkkggfmigppaaGreat
open Go Go.DI Go.gU
structure rE(n:dL)(au:List Int)(v:Value)(cD cP fl:Nat)(aq:Nat)(m:G):Prop where
 s:m.F cD=some ⟨[D n.dF,D n.dr,D n.et,v,.slice (some ⟨cP,0,none⟩) au.length 1,.slice (some ⟨fl,0,none⟩) aq 1],true⟩
 a:mm m v n.bl
 f:m.F cP=some ⟨au.map (Value.int .i64 ·),true⟩
theorem rE.bt{n:dL}{au:List Int}{v:Value}{cD cP fl aq:Nat}{m U:G}(h:rE n au v cD cP fl aq m)(aC:fe m U):rE n au v cD cP fl aq U:=⟨aC.some h.s,h.a.bt aC,aC.some h.f⟩
theorem VI(I:Int):(∃i:Nat,0<=I/\I=i/\I.toNat=i/\h4 I=(i,true))\/(∃i:Nat,¬0<=I/\ -1-I=(i:Int)/\h4 I=(i,false)):=by
 by_cases h:0<=I
 ·exact .inl ⟨I.toNat,h,by omega,rfl,by simp[h4,h]⟩
 ·exact .inr ⟨(-1-I).toNat,h,by omega,by simp[h4,h]⟩
theorem ag1{n:dL}(cc:n.iS){au:List Int}(hb:th n au){v:Value}{cD cP fl aq:Nat}{m:G}(h:rE n au v cD cP fl aq m){I:Int}(bE:(h4 I).1<n.bl.length):qJ N 235 [bC cD,D I] m (.tuple #[D (ic n (h4 I)),D (cR n au (h4 I))]) m:=by
 apply qJ.xZ;rw[at5 (by simp)];have H:=h.s;have bb:=h.f;have fw:=cc.rH;rcases VI I with⟨i,bX,Y,lu,aW⟩|⟨i,bX,Y,aW⟩
 all_goals
  rw[aW]at bE⊢;simp only at bE;obtain⟨c,o,rfl,av⟩:=h.a.hc bE;obtain⟨a,ag⟩: ∃a,n.bl[i]?=some a:=⟨n.bl[i]'bE,by simp⟩;have Ci:i<au.length:=(by rw[hb.1];exact bE);obtain⟨bR,fo⟩: ∃bR,au[i]?=some bR:=⟨au[i]'Ci,by simp⟩;have nS: ∀h,au[i]'h=bR:= λh=>by rw[c6 h]at fo;simpa using fo
  have lb:=hb.2 i a bR ag fo;have WG:=(cc.p9 a (fX ag)).2.2;have p5:=qM ag (j:=0) (by omega);have a9:=qM ag (j:=1) (by omega);have bW:=qM ag (j:=2) (by omega);rw[ux]at p5;simp only[gH]at p5;simp[gH]at a9 bW;have sX:(fA n.bl)[i*4]?=some (D a.f):=p5;have bA: ∀h:i*4<(fA n.bl).length,(fA n.bl)[i*4]'h=D a.f:= λh=>by have:=sX;rw[c6 h]at this;simpa using this
  have eH:i*4+1<=n.bl.length*4:=(by omega);have eN:i*4+2<=n.bl.length*4:=(by omega);have ha:i*4+3<=n.bl.length*4:=(by omega);have hn:(i:Int)<n.bl.length:=(by omega);have nE:(i:Int)<au.length:=(by omega);have mT:i+1<=au.length:=Ci;have cr:IntKind.i64.wrap (a.c-bR)=a.c-bR:=db (by omega) (by omega);have ea:IntKind.i64.wrap (i:Int)=i:=db (by omega) (by omega)
 ·have je:I<n.bl.length:=(by omega);have kf:I<au.length:=(by omega);simp(disch:=omega) [RN,H,bb,av,bX,lu,a9,bW,e1,nS,eN,ha,mT,je,kf,cr];simp[ic,cR,ag,fo]
 ·simp[RN,H,bb,av,bX,Y,sX,e1,nS,eH,hn,nE,mT,ea];simp[ic,cR,ag,fo]
theorem af2{n:dL}(cc:n.iS){au:List Int}{v:Value}{cD cP fl aq:Nat}{m:G}(h:rE n au v cD cP fl aq m){I:Int}(bE:(h4 I).1<n.bl.length):qJ N 236 [bC cD,D I] m (D (gK n (h4 I))) m:=by
 apply qJ.xZ;rw[at6 (by simp)];have H:=h.s;have fw:=cc.rH;rcases VI I with⟨i,bX,Y,lu,aW⟩|⟨i,bX,Y,aW⟩
 all_goals
  rw[aW]at bE⊢;simp only at bE;obtain⟨c,o,rfl,av⟩:=h.a.hc bE;obtain⟨a,ag⟩: ∃a,n.bl[i]?=some a:=⟨n.bl[i]'bE,by simp⟩;have p5:=qM ag (j:=0) (by omega);have a9:=qM ag (j:=1) (by omega);rw[ux]at p5;simp only[gH]at p5;simp[gH]at a9;have sX:(fA n.bl)[i*4]?=some (D a.f):=p5;have bA: ∀h:i*4<(fA n.bl).length,(fA n.bl)[i*4]'h=D a.f:= λh=>by have:=sX;rw[c6 h]at this;simpa using this
  have eH:i*4+1<=n.bl.length*4:=(by omega);have eN:i*4+2<=n.bl.length*4:=(by omega);have hn:(i:Int)<n.bl.length:=(by omega);have ea:IntKind.i64.wrap (i:Int)=i:=db (by omega) (by omega)
 ·have je:I<n.bl.length:=(by omega);simp[RO,H,av,bX,lu,sX,e1,eH,je];simp[gK,ag]
 ·simp[RO,H,av,bX,Y,a9,e1,eN,hn,ea];simp[gK,ag]
def kr(aq:Nat)(g:Int->Bool):List Value:=(List.range aq).map λ(x:Nat)=> .bool (g x)
@[simp] theorem aVf{aq:Nat}{g:Int->Bool}:(kr aq g).length=aq:=by simp[kr]
@[simp] theorem DY{aq:Nat}{g:Int->Bool}{k:Nat}(h:k<(kr aq g).length):(kr aq g)[k]'h= .bool (g k):=by simp[kr]
theorem DX{aq:Nat}{g:Int->Bool}{k:Nat}(h:k<aq):(kr aq g)[k]?=some (.bool (g k)):=by simp[kr,h]
theorem Nt{aq:Nat}{g:Int->Bool}{k:Nat}{c:Bool}:(kr aq g).set k (.bool c)=kr aq (eU g k c):=by
 apply Bv
 ·simp
 ·intro i A E;simp at A;rw[List.getElem_set];simp only[DY,eU];by_cases h:k=i
  ·subst h;simp
  ·have: ¬(i:Int)=k:=(by omega);simp[h,this]
theorem acP{aq:Nat}{g:Int->Int}{k:Nat}{c:Int}:(jM aq g).set k (D c)=jM aq (eU g k c):=wF
theorem aqg{aq:Nat}:List.replicate aq (.bool false)=kr aq (λ_=>false):=by apply Bv<;>simp[kr]
structure yp(aq ez dZ gS off:Nat)(iW:List Value)(q:List Int)(b9:Int->Bool)(ec:Int->Int)(m:G):Prop where
 b:m.F ez=some ⟨jM aq ec,true⟩
 e:m.F dZ=some ⟨kr aq b9,true⟩
 acs:m.F gS=some ⟨iW,true⟩
 zr:off+q.length<=iW.length
 apP:(iW.drop off).take q.length=q.map (Value.int .i64 ·)
 ed:ez≠dZ
 er:gS≠ez
 lA:gS≠dZ
structure OH(cD ez dZ gS off aq:Nat)(q:List Int)(z:aD):Prop where
 bG:z 0=bC cD
 dp:z 4= .slice (some ⟨ez,0,none⟩) aq 1
 bD:z 5= .slice (some ⟨dZ,0,none⟩) aq 1
 bo:z 6= .slice (some ⟨gS,off,none⟩) q.length 1
theorem acB{n:dL}(cc:n.iS){aq:Nat}(dM:n.dF=aq){au:List Int}(lb:th n au){v:Value}{cD cP fl:Nat}{ek:G}(b8:rE n au v cD cP fl aq ek){ez dZ:Nat}(yJ:ek.next<=ez)(Ch:ek.next<=dZ)
 {bf:Int} {L:List Int} {gb:Value} (jx:w3 ek gb L) (Wz: ∀I∈L,(h4 I).1<n.bl.length/\gK n (h4 I)=bf) (B7:L.length<100000) {Q:cO->aD->G->Prop}:
 ∀(r j:Nat) (m:G) (z:aD) (gS off:Nat) (iW:List Value) (q:List Int) (b9:Int->Bool) (ec:Int->Int),j+r=L.length->fe ek m->ek.next<=gS->yp aq ez dZ gS off iW q b9 ec m->q.length+nd b9 aq<=701->
 lE n au b9 (λx=>h4 (ec x)) q->b9 bf=true->(∀I∈L.take j,0<cR n au (h4 I)->b9 (ic n (h4 I))=true)->OH cD ez dZ gS off aq q z->z 49=gb->z 50=D L.length->z 51=D j->
 (∀K U mh pq r5 zq jt k8 new,fe ek U->ek.next<=mh->yp aq ez dZ mh pq r5 (q++new) jt k8 U->zq=q++new->new.length+nd jt aq=nd b9 aq->lE n au jt (λx=>h4 (k8 x)) (q++new)->(∀I∈L,0<cR n au (h4 I)->jt (ic n (h4 I))=true)->OH cD ez dZ mh pq aq (q++new) K->Q (.cF 2) K U)->
 fJ N (.loop HL) z m Q
 | 0,j,m,z,gS,off,iW,q,b9,ec,aV,aC,oS,c1,wq,cd,ba,bE,H,k2,mM,vw,a6=>by refine jN λbO a1=> ?_;obtain⟨bG,dp,bD,bo⟩:=H;have A: ¬j<L.length:=(by omega);simp(disch:=first|omega|simp only[bS];omega) [HL,mM,vw,A];refine a6 _ _ gS off iW q b9 ec [] aC oS (by simpa using c1) (by simp) (by simp) (by simpa using cd) (λI xF=>bE I ?_) ⟨by simp[bG],by simp[dp],by simp[bD],by simp[bo]⟩;rw[hx (by omega)];exact xF
 | r+1,j,m,z,gS,off,iW,q,b9,ec,aV,aC,oS,c1,wq,cd,ba,bE,H,k2,mM,vw,a6=>by
   refine jN λbO a1=> ?_;have mD:=H;obtain⟨bG,dp,bD,bo⟩:=mD;have A:j<L.length:=(by omega);have jw:j+1<=L.length:=A;obtain⟨I,rW⟩: ∃I,L[j]?=some I:=⟨L[j]'A,by simp⟩;have xG: ∀h,L[j]'h=I:= λh=>by rw[c6 h]at rW;simpa using rW
   have ayt:=fX rW;obtain⟨ai9,ayr⟩:=Wz I ayt;obtain⟨wB,bh,rfl,sG⟩:=jx.hc A;have WV:=aC.some sG;have dA:=aF sG;have WD:=b8.bt aC;have ai1:L.take (j+1)=L.take j++[I]:=(by rw[qF,rW];rfl);have yK: ∀bu:Value->G->Prop,eu N 235 [bC cD,D I] m bu=bu (.tuple #[D (ic n (h4 I)),D (cR n au (h4 I))]) m:= λbu=>(ag1 cc lb WD ai9).wp;have qj:=(ad4 cc ai9).2;obtain⟨hb,aU,bg,wu,oj,ed,er,lA⟩:=c1;have abh:=aF hb;have abj:=aF aU;have abn:=aF bg;have bp:=fB (n:=j) (by omega);generalize fm:ic n (h4 I)=T at*;generalize ahQ:cR n au (h4 I)=R at*;obtain⟨bd,dR⟩:=qj;rw[dM]at dR;obtain⟨k,rfl⟩: ∃k:Nat,T=k:=⟨T.toNat,by omega⟩;have t3:k<aq:=(by omega);have t4:k+1<=aq:=t3;have om: ∀g,(kr aq g)[k]?=some (.bool (g k)):= λg=>DX t3;have oo: ∀g,(jM aq g)[k]?=some (D (g k)):= λg=>x4 t3;have dg:(R<=0\/b9 k=true)-> ∀(K:aD) (U:G),U=m->OH cD ez dZ gS off aq q K->K 49= .slice (some ⟨wB,0,none⟩) L.length 1->K 50=D L.length->K 51=D ((j:Int)+1)->bO K U:=by
    intro av K U al zq aFK aFL aFM;subst al;refine a1 _ _ (acB cc dM lb b8 yJ Ch jx Wz B7 r (j+1) U K gS off iW q b9 ec (by omega) aC oS ⟨hb,aU,bg,wu,oj,ed,er,lA⟩ wq cd ba (λj7 xF=> ?_) zq aFK aFL (by rw[aFM];simp) a6);rw[ai1]at xF;rcases jP.1 xF with h|h
    ·exact bE j7 h
    ·simp at h;subst h;intro ar;rw[fm];rw[ahQ]at ar;rcases av with h|h
     ·omega
     ·exact h
   by_cases bB:0<R
   ·cases cC:b9 k
    ·have axX:(q.length+1)*8<=140737488355328:=(by omega);have axY:q.length+1<=9223372036854775807:=(by omega);simp(disch:=first|omega|simp only[bS];omega) [HL,k2,mM,vw,bG,dp,bD,bo,A,jw,WV,xG,e1,yK,bp,t3,t4,om,hb,aU,bg,wu,oj,bB,cC,axX,axY,Nt,acP,-wF];refine a1 _ _ (acB cc dM lb b8 yJ Ch jx Wz B7 r (j+1) _ _ (m.next+3) 0 (q.map (Value.int .i64 ·)++[D k]) (q++[(k:Int)]) (eU b9 k true) (eU ec k I) (by omega) ⟨by have:=aC.next;simp only[eT,fq];omega,λb hb=>by have:=aC.next;simp(disch:=first|omega|(simp only[eT,fq];omega)) only[aX,cl];exact aC.F b hb⟩ (by have:=aC.next;omega) ⟨?_,?_,?_,by simp,by rw[oB,hx (by simp)];simp,ed,by omega,by omega⟩ ?_ ?_ ?_ ?_ ⟨by simp[bG],by simp[dp],by simp[bD],by simp⟩ (by simp[k2]) (by simp[mM]) (by simp) (λK U mh pq r5 zq jt k8 new aE a5 ch dT gj ft nL qU=>a6 K U mh pq r5 (q++(k:Int)::new) jt k8 ((k:Int)::new) aE a5 (by simpa using ch) rfl ?_ (by simpa using ft) nL (by simpa using qU)))
     ·simp(disch:=first|omega|(simp only[eT,fq];omega)) only[cb,aX,cl]
     ·simp(disch:=first|omega|(simp only[eT,fq];omega)) only[cb,aX,cl]
     ·simp(disch:=first|omega|(simp only[eT,fq];omega)) only[cb]
     ·have:=D4 b9 k (by omega) cC aq dR;simp;omega
     ·have Ca:=cd.add (e:=h4 I) (by rw[ahQ];exact bB) (by rw[ayr];exact ba) (by rw[fm];exact cC) (by rw[fm];exact⟨bd,by omega⟩);rw[fm]at Ca;have e:(λx=>h4 (eU ec (k:Int) I x))=eU (λx=>h4 (ec x)) (k:Int) (h4 I):=by
       funext x;unfold eU;split<;>rfl
      rw[e];exact Ca
     ·unfold eU;split<;>first|rfl|exact ba
     ·intro j7 xF ar;rw[ai1]at xF;rcases jP.1 xF with h|h
      ·unfold eU;split
       ·rfl
       ·exact bE j7 h ar
      ·simp at h;subst h;rw[fm];unfold eU;rw[if_pos rfl]
     ·have:=D4 b9 k (by omega) cC aq dR;simp;omega
    ·simp[HL,k2,mM,vw,bG,bD,A,jw,WV,xG,e1,yK,bp,t3,t4,om,aU,bB,cC];exact dg (.inr cC) _ _ rfl ⟨by simp[bG],by simp[dp],by simp[bD],by simp[bo]⟩ (by simp[k2]) (by simp[mM]) (by simp)
   ·simp[HL,k2,mM,vw,bG,A,jw,WV,xG,e1,yK,bp,bB];exact dg (.inl (by omega)) _ _ rfl ⟨by simp[bG],by simp[dp],by simp[bD],by simp[bo]⟩ (by simp[k2]) (by simp[mM]) (by simp)
structure GF(jd:Int->List Int)(fl aq:Nat)(m:G):Prop where
 F: ∃sV:List Value,m.F fl=some ⟨sV,true⟩/\sV.length=aq/\ ∀k:Nat,k<aq-> ∃gb,sV[k]?=some gb/\w3 m gb (jd k)
theorem GF.bt{jd:Int->List Int}{fl aq:Nat}{m U:G}(h:GF jd fl aq m)(aC:fe m U):GF jd fl aq U:=by obtain⟨sV,A,E,ao⟩:=h.F;exact⟨sV,aC.some A,E,λk O=>by obtain⟨gb,aE,a5⟩:=ao k O;exact⟨gb,aE,a5.bt aC⟩⟩
set_option maxRecDepth 20000 in
theorem aF9{n:dL}(cc:n.iS){aq:Nat}(dM:n.dF=aq){au:List Int}(lb:th n au){v:Value}{cD cP fl:Nat}{ek:G}(b8:rE n au v cD cP fl aq ek){jd:Int->List Int}(g8:GF jd fl aq ek)(Am:OD n jd)(KO: ∀x,(jd x).length<100000){ez dZ:Nat}(yJ:ek.next<=ez)(Ch:ek.next<=dZ)
 {Q:cO->aD->G->Prop}:
 ∀(k:Nat) (m:G) (z:aD) (gS off:Nat) (iW:List Value) (q:List Int) (b9:Int->Bool) (ec:Int->Int),q.length+nd b9 aq=k->k<=701->fe ek m->ek.next<=gS->yp aq ez dZ gS off iW q b9 ec m->
 lE n au b9 (λx=>h4 (ec x)) q->OH cD ez dZ gS off aq q z->
 (∀K U jt k8,fe ek U->U.F ez=some ⟨jM aq k8,true⟩->U.F dZ=some ⟨kr aq jt,true⟩->lE n au jt (λx=>h4 (k8 x)) []->K 4= .slice (some ⟨ez,0,none⟩) aq 1->K 5= .slice (some ⟨dZ,0,none⟩) aq 1->Q (.cF 0) K U)->
 fJ N (.loop LN) z m Q:=by
 intro k;induction k with
 | zero=>intro m z gS off iW q b9 ec O W2 aC oS c1 cd H a6;have bg:q=[]:=si.1 (by omega);subst bg;refine jN λbO a1=> ?_;obtain⟨bG,dp,bD,bo⟩:=H;simp(disch:=omega) [LN,bo];exact a6 _ _ b9 ec aC c1.b c1.e cd (by simp[dp]) (by simp[bD])
 | succ k cj=>
   intro m z gS off iW q b9 ec O W2 aC oS c1 cd H a6;refine jN λbO a1=> ?_;have mD:=H;obtain⟨bG,dp,bD,bo⟩:=mD;cases q with
   | nil=>simp(disch:=first|omega|simp only[bS];omega) [LN,bo];exact a6 _ _ b9 ec aC c1.b c1.e cd (by simp[dp]) (by simp[bD])
   | cons bf q=>
     have WD:=b8.bt aC;have Qt:=WD.s;obtain⟨sV,hk,hD,p3⟩:=(g8.bt aC).F;have ba:=cd.h8 bf (by simp);obtain⟨lV,m5⟩:=cd.hC bf ba;obtain⟨tW,rfl⟩: ∃tW:Nat,bf=tW:=⟨bf.toNat,by omega⟩;have ny:tW<aq:=(by omega);have Dx:tW+1<=aq:=ny;obtain⟨ao5,dC,fK,iz⟩:=g8.F;have axP:ao5=sV:=(by have:=aC.some dC;rw[hk]at this;cases this;rfl);subst axP;obtain⟨gb,hS,jn⟩:=iz tW ny;have Tf: ∀h,ao5[tW]'h=gb:= λh=>by rw[c6 h]at hS;simpa using hS
     obtain⟨dc,gJ⟩:=jn.len;have oj:=c1.apP;have wq:=c1.zr;have EE:=c1.acs;simp only[m8]at wq oj bo O;have Lb:iW[off]?=some (D tW):=(by have:=congrArg (λl=>l[0]?) oj;simp at this;exact this);have Xq: ∀h,iW[off]'h=D tW:= λh=>by rw[c6 h]at Lb;simpa using Lb
     have a9:off+1<=iW.length:=(by omega);have bW:off<iW.length:=(by omega);simp(disch:=first|omega|simp only[bS];omega) [LN,bG,bo,Qt,hk,hD,ny,Dx,Tf,dc,gJ,EE,Xq,a9,e1];refine acB cc dM lb b8 yJ Ch jn (λI bE=>⟨((Am.G3 tW ⟨lV,by omega⟩) I bE).1,((Am.G3 tW ⟨lV,by omega⟩) I bE).2.1⟩) (KO tW) (jd tW).length 0 m _ gS off iW ((tW:Int)::q) b9 ec (by omega) aC oS c1 (by simp;omega) cd ba (λI bE=>by simp at bE) ⟨by simp[bG],by simp[dp],by simp[bD],by simp[bo]⟩ (by simp) (by simp[]) (by simp) (λK U mh pq r5 zq jt k8 new aE a5 ch dT gj ft nL qU=> ?_);obtain⟨a0,a4,fz,jh⟩:=qU;have axW:lE n au jt (λx=>h4 (k8 x)) (q++new):=(by refine lE.apw (bf:=(tW:Int)) (by simpa using ft) λe aia axd=> ?_;obtain⟨a,bR,ag,_⟩:=zu aia;obtain⟨I,Hv,xG⟩:=Am.all e (by have:=(cN.1 ag).1;exact this);rw[axd]at Hv;have:=nL I Hv;rw[xG]at this;exact this aia);have yI:=ch;obtain⟨px,TO,TU,acT,Nu,acJ,acK,acL⟩:=yI;simp only[uu,m8,iD,lW]at acT Nu jh;have aFD:pq<r5.length:=(by omega);have je:(1:Int)<=(q.length:Int)+(new.length:Int)+1:=(by omega);have z3:((q.length:Int)+(new.length:Int)+1).toNat=q.length+new.length+1:=(by omega);have kf:q.length+new.length+1-1=q.length+new.length:=(by omega);simp[jh,je,kf,z3];refine a1 _ _ (cj U _ mh (pq+1) r5 (q++new) jt k8 (by simp;omega) (by omega) aE a5 ⟨px,TO,TU,by simp;omega,?_,acJ,acK,acL⟩ axW ⟨by simp[a0],by simp[a4],by simp[fz],by simp⟩ a6);rw[pG aFD,Oo]at Nu;injection Nu with _ h;rw[iD];exact h
set_option maxRecDepth 20000 in
theorem ap0{n:dL}(cc:n.iS){aq:Nat}(dM:n.dF=aq){au:List Int}(lb:th n au){v:Value}{cD cP fl:Nat}{m:G}(b8:rE n au v cD cP fl aq m){jd:Int->List Int}(g8:GF jd fl aq m)(Am:OD n jd)(KO: ∀x,(jd x).length<100000):
 eu N 185 [bC cD] m λr U=>fe m U/\ ∃(ez dZ:Nat) (ec:Int->Int) (b9:Int->Bool),r= .tuple #[.slice (some ⟨ez,0,none⟩) aq 1,.slice (some ⟨dZ,0,none⟩) aq 1]/\m.next<=ez/\m.next<=dZ/\U.F ez=some ⟨jM aq ec,true⟩/\U.F dZ=some ⟨kr aq b9,true⟩/\lE n au b9 (λx=>h4 (ec x)) []:=by
 rw[atZ (by simp)];have Qt:=b8.s;have sG:=aF Qt;obtain⟨aT,bY⟩:=cc.dr;have eg:=cc.AS;obtain⟨gh,uX⟩: ∃k:Nat,n.dr=k:=⟨n.dr.toNat,by omega⟩;have bH:gh<aq:=by omega
 have dp:gh+1<=aq:=bH;have bD:n.dr<(aq:Int):=by omega
 have bo:n.dr.toNat=gh:=by omega
 have Al:n.dF.toNat=aq:=by omega
 have z0:0<=n.dF:=by omega
 have je:n.dF*8<=140737488355328:=by omega
 have ae7:n.dF<=140737488355328:=by omega
 have kf:n.dF<=9223372036854775807:=by omega
 simp(disch:=first|omega|simp only[bS];omega) [YJ,Qt,aT,bD,bo,dp,Al,z0,je,ae7,kf,aqg,Nt,-wF];refine aF9 cc dM lb b8 g8 Am KO (ez:=m.next+5) (dZ:=m.next+11) (by omega) (by omega) (1+nd (eU (λ_=>false) n.dr true) aq) _ _ (m.next+14+5) 0 [D n.dr] [n.dr] (eU (λ_=>false) n.dr true) (λ_=>0) (by simp) ?_ ?_ (by omega) ⟨?_,?_,?_,by simp,by simp,by omega,by omega,by omega⟩ (by have:=lE.aq2 cc au (λx=>h4 ((λ_=>0) x));exact this) ⟨by simp,by simp,by simp,by simp⟩ (λK U jt k8 aE a5 ch dT gj ft=> ?_)
 ·have:=D4 (λ_=>false) n.dr aT rfl aq bD;have:=VB (λ_=>false) aq;omega
 ·exact⟨by simp only[eT,fq];omega,λb hb=>by simp(disch:=first|omega|(simp only[eT,fq];omega)) only[aX,cl]⟩
 ·simp(disch:=first|omega|(simp only[eT,fq];omega)) only[cb,aX,cl,acQ]
 ·simp(disch:=first|omega|(simp only[eT,fq];omega)) only[cb,aX,cl,uX]
 ·simp(disch:=first|omega|(simp only[eT,fq];omega)) only[cb]
 ·simp(disch:=omega) [gj,ft];exact⟨aE,_,_,⟨rfl,rfl⟩,by omega,by omega,k8,a5,jt,ch,dT⟩
theorem X6(k:IntKind): ∀(l:List Int) (i:Nat) (c:Int),(l.map (Value.int k ·)).set i (.int k c)=(l.set i c).map (Value.int k ·)
 |[],_,_=>rfl
 |x::l,0,c=>rfl
 |x::l,i+1,c=>congrArg (List.cons _) (X6 k l i c)
theorem rE.apJ{n:dL}{au vV:List Int}{v:Value}{cD cP fl aq:Nat}{m:G}(h:rE n au v cD cP fl aq m)(A:cD≠cP)(E: ∀b l c,v= .slice (some ⟨b,0,none⟩) l c->b≠cP)(ao:vV.length=au.length):
 rE n vV v cD cP fl aq (m.aK cP (some ⟨vV.map (Value.int .i64 ·),true⟩)):=by
 refine⟨?_,?_,cb (aF h.f)⟩
 ·rw[aX A,ao];exact h.s
 ·rcases h.a with h|⟨b,o,aE,a5⟩
  ·exact .inl h
  ·exact .inr ⟨b,o,aE,by rw[aX (E _ _ _ aE)];exact a5⟩
def uG(d r:Int):Int:=if d<0\/r<d then r else d
def w6(n:dL)(au:List Int)(d:Int)(l:List hN):Int:=l.foldl (λd e=>uG d (cR n au e)) d
theorem afG{n:dL}{au:List Int}: ∀(l:List hN) (d:Int),(∀e∈l,0<cR n au e)->(d= -1\/0<d)->(w6 n au d l= -1/\l=[]/\d= -1)\/(0<w6 n au d l/\(0<d->w6 n au d l<=d)/\ ∀e∈l,w6 n au d l<=cR n au e)
 | [],d,_,aW=>by
   rcases aW with rfl|aW
   ·exact .inl ⟨rfl,rfl,rfl⟩
   ·exact .inr ⟨aW,λ_=>vJ _,by simp⟩
 | e::l,d,ar,aW=>by
   have aQR:=ar e (by simp);have A:0<uG d (cR n au e):=(by unfold uG;split<;>omega);have:=afG l (uG d (cR n au e)) (λe aU=>ar e (by simp[aU])) (.inr A);have aG:w6 n au d (e::l)=w6 n au (uG d (cR n au e)) l:=rfl;rw[aG];right;rcases this with⟨_,_,h⟩|⟨aE,a5,ch⟩
   ·omega
   ·have:=a5 A;refine⟨aE,λaW=> ?_,λdw sF=> ?_⟩
    ·have:uG d (cR n au e)<=d:=(by unfold uG;split<;>omega);omega
    ·rcases hv.1 sF with rfl|sF
     ·have:uG d (cR n au dw)<=cR n au dw:=(by unfold uG;split<;>omega);omega
     ·exact ch dw sF
theorem ab9{n:dL}{fZ:Int->hN}{x:Int}(h:qI n fZ x []):x=n.dr:=by cases h;rfl
theorem apq{n:dL}(cc:n.iS){ec:Int->Int}{au:List Int}{x:Int}{e:hN}{l:List hN}(ae:qI n (λx=>h4 (ec x)) x (e::l))(ar:0<cR n au e):
 x≠n.dr/\e=h4 (ec x)/\ic n e=x/\qI n (λx=>h4 (ec x)) (gK n e) l/\n.hC x/\e.1<n.bl.length:=by
 cases ae with
 | cons B a8 ae=>obtain⟨a,bR,ag,_⟩:=zu ar;have aA:=(cN.1 ag).1;exact⟨B,rfl,a8,ae,by have:=(ad4 cc aA).2;rw[a8]at this;exact this,aA⟩
set_option maxRecDepth 20000 in
theorem afN{n:dL}(cc:n.iS){aq:Nat}(dM:n.dF=aq){au:List Int}(lb:th n au){v:Value}{cD cP fl ez:Nat}{ec:Int->Int}{m:G}(b8:rE n au v cD cP fl aq m)(hb:m.F ez=some ⟨jM aq ec,true⟩){Q:cO->aD->G->Prop}:
 ∀(l:List hN) (x d:Int) (z:aD),qI n (λx=>h4 (ec x)) x l->(∀e∈l,0<cR n au e)->z 0=bC cD->z 1= .slice (some ⟨ez,0,none⟩) aq 1->z 5=D d->z 6=D x->
 (∀K,K 0=bC cD->K 1= .slice (some ⟨ez,0,none⟩) aq 1->K 5=D (w6 n au d l)->Q (.cF 0) K m)->fJ N (.loop HM) z m Q
 | [],x,d,z,ae,ar,bG,aT,bD,bo,a6=>by refine jN λbO a1=> ?_;have H:=b8.s;cases ae;simp[HM,bG,bo,H];exact a6 _ (by simp[bG]) (by simp[aT]) (by simp[bD,w6])
 | e::l,x,d,z,ae,ar,bG,aT,bD,bo,a6=>by
   refine jN λbO a1=> ?_;have H:=b8.s;obtain⟨B,aU,a8,oQ,ka,tF⟩:=apq cc ae (ar e (by simp));obtain⟨kE,m6⟩:=ka;obtain⟨k,rfl⟩: ∃k:Nat,x=k:=⟨x.toNat,by omega⟩;have mO:k<aq:=(by omega);have s9:k+1<=aq:=mO;have oo:(jM aq ec)[k]?=some (D (ec k)):=x4 mO;have qi: ∀bu:Value->G->Prop,eu N 235 [bC cD,D (ec k)] m bu=bu (.tuple #[D (ic n e),D (cR n au e)]) m:= λbu=>by rw[aU];exact(ag1 cc lb b8 (by rw[<-aU];exact tF)).wp
   have ld: ∀bu:Value->G->Prop,eu N 236 [bC cD,D (ec k)] m bu=bu (D (gK n e)) m:= λbu=>by rw[aU];exact(af2 cc b8 (by rw[<-aU];exact tF)).wp
   have next: ∀(K:aD),K 0=bC cD->K 1= .slice (some ⟨ez,0,none⟩) aq 1->K 5=D (uG d (cR n au e))->K 6=D (gK n e)->bO K m:= λK bA a9 g9 mg=>
    a1 _ _ (afN cc dM lb b8 hb l _ _ K oQ (λe aU=>ar e (by simp[aU])) bA a9 g9 mg a6)
   by_cases bB:d<0
   ·simp[HM,bG,aT,bD,bo,H,B,hb,oo,e1,mO,s9,qi,ld,bB];exact next _ (by simp[bG]) (by simp[aT]) (by simp[uG,bB]) (by simp)
   by_cases cC:cR n au e<d
   ·simp[HM,bG,aT,bD,bo,H,B,hb,oo,e1,mO,s9,qi,ld,bB,cC];exact next _ (by simp[bG]) (by simp[aT]) (by simp[uG,cC]) (by simp)
   ·simp[HM,bG,aT,bD,bo,H,B,hb,oo,e1,mO,s9,qi,ld,bB,cC];exact next _ (by simp[bG]) (by simp[aT]) (by simp[bD,uG,bB,cC]) (by simp)
set_option maxRecDepth 20000 in
theorem afO{n:dL}(cc:n.iS){aq:Nat}(dM:n.dF=aq){v:Value}{cD cP fl ez:Nat}{ec:Int->Int}{d:Int}(aW:0<=d)(A:cD≠cP)(E: ∀b l c,v= .slice (some ⟨b,0,none⟩) l c->b≠cP)(ao:ez≠cP){Q:cO->aD->G->Prop}:
 ∀(l:List hN) (x:Int) (au:List Int) (m:G) (z:aD),qI n (λx=>h4 (ec x)) x l->th n au->(∀e∈l,0<cR n au e/\d<=cR n au e)->(l.map Prod.fst).Nodup->rE n au v cD cP fl aq m->m.F ez=some ⟨jM aq ec,true⟩->
 z 0=bC cD->z 1= .slice (some ⟨ez,0,none⟩) aq 1->z 5=D d->z 9=D x->
 (∀K,K 5=D d->Q (.cF 2) K (m.aK cP (some ⟨(qu au l d).map (Value.int .i64 ·),true⟩)))->fJ N (.loop LO) z m Q
 | [],x,au,m,z,ae,lb,ar,aj,b8,hb,bG,aT,bD,cz,a6=>by refine jN λbO a1=> ?_;have H:=b8.s;cases ae;simp(disch:=first|omega|simp only[bS];omega) [LO,bG,cz,H];have:=a6 z bD;simp only[qu,List.foldl_nil]at this;rw[aco b8.f]at this;have h:=a6;simp only[qu,List.foldl_nil]at h;rw[aco b8.f]at h;exact h _ (by simp[bD])
 | e::l,x,au,m,z,ae,lb,ar,aj,b8,hb,bG,aT,bD,cz,a6=>by
   refine jN λbO a1=> ?_;have H:=b8.s;have bb:=b8.f;have wg:=aF bb;obtain⟨eK,gp⟩:=ar e (by simp);obtain⟨B,aU,a8,oQ,ka,tF⟩:=apq cc ae eK;obtain⟨kE,m6⟩:=ka;obtain⟨k,rfl⟩: ∃k:Nat,x=k:=⟨x.toNat,by omega⟩;have mO:k<aq:=(by omega);have s9:k+1<=aq:=mO;have oo:(jM aq ec)[k]?=some (D (ec k)):=x4 mO;obtain⟨a,bR,ag,fo⟩:=zu eK;have nS: ∀h,au[e.1]'h=bR:= λh=>by rw[c6 h]at fo;simpa using fo
   have Ha:=ach lb eK aW gp;have hg:(push au e d).length=au.length:=aci;have ahS:=b8.apJ A E hg;have ld: ∀bu:Value->G->Prop,eu N 236 [bC cD,D (ec k)] (m.aK cP (some ⟨(push au e d).map (Value.int .i64 ·),true⟩)) bu=bu (D (gK n e)) (m.aK cP (some ⟨(push au e d).map (Value.int .i64 ·),true⟩)):= λbu=>by have:=(af2 cc ahS (I:=ec k) (by rw[<-aU];exact tF)).wp (bu:=bu);rw[<-aU]at this;exact this
   simp only[lW,Bx]at aj;have wv: ∀dw∈l,0<cR n (push au e d) dw/\d<=cR n (push au e d) dw:=by intro dw sF;rw[acj (λh=>aj.1 (gx.2 ⟨dw,sF,h⟩))];exact ar dw (by simp[sF])
   have next: ∀(K:aD) (U:G),U=m.aK cP (some ⟨(push au e d).map (Value.int .i64 ·),true⟩)->K 0=bC cD->K 1= .slice (some ⟨ez,0,none⟩) aq 1->K 5=D d->K 9=D (gK n e)->bO K U:=by intro K U q2 bA a9 g9 acq;subst q2;refine a1 _ _ (afO cc dM aW A E ao l _ (push au e d) _ K oQ Ha wv aj.2 ahS (by rw[aX ao];exact hb) bA a9 g9 acq (λk5 g=> ?_));rw[acn];exact a6 k5 g
   have aQm:=lb.2 _ a bR ag fo;have WG:=(cc.p9 a (fX ag)).2.2;have fw:=cc.rH;have P7:=tF;have dV:au.length=n.bl.length:=lb.1;unfold cR at eK gp;simp only[ag,fo]at eK gp;have La:push au e d=au.set e.1 (if e.2 then bR+d else bR-d):=(by unfold push;rw[fo]);rw[La,<-X6]at ld next
   rcases VI (ec k)with⟨i,bX,Y,lu,WR⟩|⟨i,bX,Y,WR⟩
   ·rw[WR]at aU;subst aU;simp only[if_true]at eK gp ld next tF P7 fo
    have cr:IntKind.i64.wrap (bR+d)=bR+d:=db (by omega) (by omega);have kf:ec k<au.length:=(by omega);have z3:i+1<=au.length:=(by omega);have z4:i<au.length:=(by omega);simp(disch:=first|omega|simp only[bS];omega) [LO,bG,aT,bD,cz,H,B,hb,oo,e1,mO,s9,ld,bb,bX,lu,nS,cr,kf,z3];exact next _ _ rfl (by simp[bG]) (by simp[aT]) (by simp[bD]) (by simp)
   ·rw[WR]at aU;subst aU;simp only[jO,if_false]at eK gp ld next tF P7 fo
    have cr:IntKind.i64.wrap (bR-d)=bR-d:=db (by omega) (by omega);have ea:IntKind.i64.wrap (i:Int)=i:=db (by omega) (by omega);have kf:(i:Int)<au.length:=(by omega);have z3:i+1<=au.length:=(by omega);have z4:i<au.length:=(by omega);simp(disch:=first|omega|simp only[bS];omega) [LO,bG,aT,bD,cz,H,B,hb,oo,e1,mO,s9,ld,bb,bX,Y,nS,cr,ea,kf,z3];exact next _ _ rfl (by simp[bG]) (by simp[aT]) (by simp[bD]) (by simp)
theorem afP{n:dL}(cc:n.iS){aq:Nat}(dM:n.dF=aq){au:List Int}(lb:th n au){v:Value}{cD cP fl ez:Nat}{ec:Int->Int}{m:G}(b8:rE n au v cD cP fl aq m)(hb:m.F ez=some ⟨jM aq ec,true⟩)(A:cD≠cP)(E: ∀b l c,v= .slice (some ⟨b,0,none⟩) l c->b≠cP)(ao:ez≠cP)
 {l:List hN} (ae:qI n (λx=>h4 (ec x)) n.et l) (ar: ∀e∈l,0<cR n au e) (aj:(l.map Prod.fst).Nodup):
 eu N 186 [bC cD,.slice (some ⟨ez,0,none⟩) aq 1] m λr U=> ∃d,r=D d/\0<d/\(∀e∈l,0<cR n au e/\d<=cR n au e)/\U=m.aK cP (some ⟨(qu au l d).map (Value.int .i64 ·),true⟩):=by
 rw[at0 (by simp)];have H:=b8.s;have bx:l≠[]:= λh=>by subst h;exact cc.g3 (ab9 ae).symm
 have Hr:=afG (n:=n) (au:=au) l (-1) ar (.inl rfl);have Hr:0<w6 n au (-1) l/\ ∀e∈l,w6 n au (-1) l<=cR n au e:=by
  rcases Hr with⟨_,h,_⟩|⟨aE,_,ch⟩
  ·exact absurd h bx
  ·exact⟨aE,ch⟩
 simp[YK,H];refine afN cc dM lb b8 hb l n.et (-1) _ ae ar (by simp) (by simp) (by simp) (by simp) (λK aM aE gj=> ?_);simp[aM,H];refine afO cc dM (d:=w6 n au (-1) l) (by omega) A E ao l n.et au m _ ae lb (λe aU=>⟨ar e aU,Hr.2 e aU⟩) aj b8 hb (by simp[aM]) (by simp[aE]) (by simp[gj]) (by simp) (λk5 g=> ?_);simp[g];exact⟨Hr.1,λa=>⟨λaU=>⟨ar _ aU,Hr.2 _ aU⟩,λaU=>⟨ar _ aU,Hr.2 _ aU⟩⟩⟩
end Go.Proofs.YtmmkkggfmigppaaGreat
