/-
  A part of the proof, shortened by tools of ours.
-/
import Derived.Test.YtmmkkggfmigppaaGreatZbw
set_option linter.all false
set_option maxRecDepth 8000
set_option maxHeartbeats 16000000
namespace Go.gU
open Go Go.DI
def pE(g:dm->Int->Int):List dm->List Int->Int
 |a::xs,bR::fs=>g a bR+pE g xs fs
 |_,_=>0
theorem arf{g h:dm->Int->Int}: ∀{xs:List dm} {fs:List Int},(∀(i:Nat) a bR,xs[i]?=some a->fs[i]?=some bR->g a bR=h a bR)->pE g xs fs=pE h xs fs
 |[],_,_=>rfl
 |_::_,[],_=>rfl
 | a::xs,bR::fs,e=>by simp only[pE,e 0 a bR rfl rfl,arf (xs:=xs) (fs:=fs) λi a bR ag fo=>e (i+1) a bR (by simpa using ag) (by simpa using fo)]
theorem ard{g h:dm->Int->Int}: ∀{xs:List dm} {fs:List Int},pE (λa bR=>g a bR+h a bR) xs fs=pE g xs fs+pE h xs fs
 |[],_=>rfl
 |_::_,[]=>rfl
 |a::xs,bR::fs=>by simp only[pE,ard (xs:=xs) (fs:=fs)];omega
theorem arh: ∀{xs:List dm} {fs:List Int},pE (λ_ _=>0) xs fs=0
 |[],_=>rfl
 |_::_,[]=>rfl
 |a::xs,bR::fs=>by simp only[pE,arh (xs:=xs) (fs:=fs)];rfl
theorem aoR{x:Int}: ∀{xs:List dm} {fs:List Int},jT xs fs x=pE (λa bR=>kA a.f x bR-kA a.t x bR) xs fs
 |[],_=>by simp[jT,pE]
 |_::_,[]=>by simp[jT,pE]
 |a::xs,bR::fs=>by simp only[jT,pE,aoR (xs:=xs) (fs:=fs)]
def sc(g:dm->Int):List dm->Int
 |a::xs=>g a+sc g xs
 |[]=>0
def lB(f:Nat->Int):Nat->Int
 |0=>0
 |n+1=>lB f n+f n
theorem ad6{g:dm->Int}: ∀{l k:List dm},sc g (l++k)=sc g l+sc g k
 |[],k=>by simp[sc]
 |a::l,k=>by simp only[uu,sc,ad6 (l:=l) (k:=k)];omega
theorem ad7{g:dm->Int}: ∀{l:List dm},(∀a∈l,g a=0)->sc g l=0
 |[],_=>rfl
 |a::l,h=>by simp only[sc,h a (by simp),ad7 (l:=l) λb hb=>h b (by simp[hb])];rfl
theorem aq6{g:dm->Int}{f:Nat->List dm}: ∀n:Nat,sc g ((List.range n).flatMap f)=lB (λv=>sc g (f v)) n
 |0=>rfl
 | n+1=>by rw[By,List.flatMap_append,ad6,aq6 n];simp[lB]
theorem NY{f g:Nat->Int}: ∀{n:Nat},(∀v,v<n->f v=g v)->lB f n=lB g n
 |0,_=>rfl
 |n+1,h=>by simp only[lB,h n (by omega),NY (n:=n) λv M=>h v (by omega)]
theorem ad9: ∀{n:Nat},lB (λ_=>0) n=0
 |0=>rfl
 |n+1=>by simp only[lB,ad9 (n:=n)];rfl
theorem ad8{v:Nat}{c:Int}: ∀{n:Nat},v<n->lB (λbf=>if bf=v then c else 0) n=c
 |0,h=>absurd h (DL _)
 | n+1,h=>by
   by_cases e:v=n
   ·subst e;have:lB (λbf=>if bf=v then c else 0) v=0:=by
     have bX:lB (λbf=>if bf=v then c else 0) v=lB (λ_=>0) v:=NY λbf ba=>if_neg (by omega);rw[bX,ad9]
    simp only[lB,this,if_true];omega
   ·have bX:lB (λbf=>if bf=v then c else 0) n=c:=ad8 (by omega);simp only[lB,bX,if_neg (λaN:n=v=>e aN.symm)];omega
theorem aq7{f g:Nat->Int}: ∀{n:Nat},(∀v,v<n->f v<=g v)->lB f n<=lB g n
 |0,_=>vJ _
 | n+1,h=>by have:=aq7 (n:=n) λv M=>h v (by omega);have:=h n (by omega);simp only[lB];omega
theorem aq8{g:Nat->dm->Int->Int}{xs:List dm}{fs:List Int}: ∀{n:Nat},lB (λv=>pE (g v) xs fs) n=pE (λa bR=>lB (λv=>g v a bR) n) xs fs
 |0=>arh.symm
 | n+1=>by simp only[lB,aq8 (n:=n)];exact ard.symm
theorem are{p:dm->Bool}: ∀{xs:List dm} {fs:List Int},(∀a∈xs,0<=a.c)->(∀(i:Nat) a bR,xs[i]?=some a->fs[i]?=some bR->bR<=a.c)->pE (λa bR=>if p a=true then bR else 0) xs fs<=sc (λa=>if p a=true then a.c else 0) xs
 |[],_,_,_=>vJ _
 | a::xs,[],av,_=>by
   have: ∀{l:List dm},(∀a∈l,0<=a.c)->0<=sc (λa=>if p a=true then a.c else 0) l:= λ{l}=>by
    induction l with
    |nil=>intro _;exact vJ _
    | cons b l cj=>intro h;have A:=cj λx B=>h x (by simp[B]);have E:=h b (by simp);simp only[sc];split<;>omega
   exact this av
 | a::xs,bR::fs,av,h=>by have bX:=h 0 a bR rfl rfl;have A:=are (p:=p) (xs:=xs) (fs:=fs) (λa ag=>av a (by simp[ag])) λi a bR ag fo=>h (i+1) a bR (by simpa using ag) (by simpa using fo);simp only[pE,sc];split<;>omega
end Go.gU
namespace Go.Proofs.YtmmkkggfmigppaaGreat
open Go Go.DI Go.Big Go.gU
def ajg(u:aL)(R au:List Int)(v:Nat):Int:=pE (λa bR=>if(decide (a.f=0)&&decide (a.t=2+(v:Int)))=true then bR else 0) (ef u R) au
theorem auh{u:aL}(h:gf u){R:List Int}{v:Nat}(M:v<u.a2.length):sc (λa=>if(decide (a.f=0)&&decide (a.t=2+(v:Int)))=true then a.c else 0) (ef u R)=ku u v:=by
 have bx:=h.g3;have kb:=wD h;unfold ef;rw[ad6,aq6,ad7 (l:=(List.range u.aZ.length).map (w7 u R))]
 ·rw[NY (g:= λbf=>if bf=v then ku u v else 0),ad8 M]
  ·omega
  ·intro w aQ;unfold qL;simp only[sc];rw[ad7]
   ·by_cases e:w=v
    ·subst e;simp[sw]
    ·have: ¬(2+(w:Int)=2+v):=(by omega);simp[sw,e,this]
   ·intro a ag;have al:a∈qL u w:=(by unfold qL;exact Gx _ ag);simp only[jP,gx,pH,List.mem_filter]at ag;rcases ag with⟨j,aV,rfl⟩|⟨d,⟨aW,_⟩,rfl⟩
    ·have l8:j+1<u.aO.length:=(by omega);have ae:=(h.nV l8 (h.x2 l8 (by omega))).1;have:=(oM h aQ (i:=kn u (j+1)) (by omega)).1;have gu: ¬eO u w (kn u (j+1))=0:=(by omega);simp[vO,gu]
    ·have:=(oM h aQ (GZ h aW).1).1;have gu: ¬eO u w (jb u d)=0:=(by omega);simp[uH,gu]
 ·intro a ag;obtain⟨d,aW,rfl⟩:=gx.1 ag;have aG:dk u d=dk u 0+d:=(by unfold dk;omega);have gu: ¬dk u d=0:=(by omega);simp[w7,gu]
theorem ayM{u:aL}(h:gf u){R au:List Int}(bb:o6 (hK u R) au){v:Nat}(M:v<u.a2.length):ajg u R au v<=ku u v:=by have cc:=AX h R;rw[<-auh h (R:=R) M];exact are (p:= λa=>decide (a.f=0)&&decide (a.t=2+(v:Int))) (λa ag=>(cc.p9 a ag).2.2.1) λi a bR ag fo=>(bb.lG.2 i a bR ag fo).2
theorem aJn{u:aL}(h:gf u){R au:List Int}:value (hK u R) au=lB (ajg u R au) u.a2.length:=by
 have bx:=h.g3;have kb:=wD h;have cc:=AX h R;show jT (ef u R) au 0=lB (λv=>pE _ _ _) u.a2.length;rw[aoR,aq8];refine arf λi a bR ag fo=> ?_;have al:=fX ag;have off: ∀{x y bR:Int},¬x=y->kA x y bR=0:= λu4=>if_neg u4;have afd: ¬a.f=0->lB (λv=>if(decide (a.f=0)&&decide (a.t=2+(v:Int)))=true then bR else 0) u.a2.length=0:= λbE=>by rw[NY (g:= λ_=>0),ad9];intro v _;simp[bE]
 rcases Ts.1 al with⟨w,aQ,al⟩|⟨d,aW,rfl⟩
 ·rcases Tt.1 al with rfl|⟨j,aV,rfl⟩|⟨d,aW,_,rfl⟩
  ·have e:lB (λv=>if(decide ((sw u w).f=0)&&decide ((sw u w).t=2+(v:Int)))=true then bR else 0) u.a2.length=bR:=by
    rw[NY (g:= λbf=>if bf=w then bR else 0),ad8 aQ];intro v _;by_cases e:v=w
    ·subst e;simp[sw]
    ·have: ¬(2+(w:Int)=2+v):=(by omega);simp[sw,e,this]
   rw[e];have:kA (sw u w).t 0 bR=0:=off (by show¬2+(w:Int)=0;omega);rw[this];show kA 0 0 bR-0=bR;simp[kA]
  ·have l8:j+1<u.aO.length:=(by omega);have ae:=(h.nV l8 (h.x2 l8 (by omega))).1;have eK:=(oM h aQ (i:=kn u (j+1)) (by omega)).1;have gp:=(oM h aQ l8).1;have bB: ¬(vO u w (j+1)).f=0:=(by show¬eO u w (kn u (j+1))=0;omega);have cC: ¬(vO u w (j+1)).t=0:=(by show¬eO u w (j+1)=0;omega);rw[afd bB,off bB,off cC];rfl
  ·have eK:=(oM h aQ (GZ h aW).1).1;have aG:dk u d=dk u 0+d:=(by unfold dk;omega);have bB: ¬(uH u w d).f=0:=(by show¬eO u w (jb u d)=0;omega);have cC: ¬(uH u w d).t=0:=(by show¬dk u d=0;omega);rw[afd bB,off bB,off cC];rfl
 ·have aG:dk u d=dk u 0+d:=(by unfold dk;omega);have bB: ¬(w7 u R d).f=0:=(by show¬dk u d=0;omega);have cC: ¬(w7 u R d).t=0:=(by show¬(1:Int)=0;omega);rw[afd bB,off bB,off cC];rfl
theorem aI0{u:aL}:o1 u=lB (ku u) u.a2.length:=by
 unfold o1;have key: ∀(n:Nat) (c:Int),((List.range n).map (ku u)).foldr (· + ·) c=lB (ku u) n+c:= λn=>by
  induction n with
  |zero=>intro c;simp[lB]
  | succ n cj=>intro c;rw[By,p7,List.foldr_append];simp only[lW,List.map_nil,List.foldr_cons,List.foldr_nil];rw[cj];simp only[lB];omega
 rw[key];omega
end Go.Proofs.YtmmkkggfmigppaaGreat
namespace Go.DI
open Go
section
variable {P:Program} {m:G}
theorem aEW{f:Nat}{args:List Value}{dt:Nat->Prop}[DecidablePred dt](b8: ∀b,dt b-> ∃x,m.F b=some x/\x.cells≠[]){bu:Value->G->Prop}
 (g1: ∀p:G,p.next=m.next->(∀b,dt b->p.F b=m.F b)->eu P f args p λr jV=>(p.next<=jV.next/\ ∀b,b<p.next->jV.F b=p.F b)/\ ∀bn:G,bn.next=jV.next->(∀b y,jV.F b=some y->bn.F b=some y)->bu r bn):
 eu P f args m λr U=>m.next<=U.next/\(∀b,b<m.next->U.F b=m.F b/\(m.F b=some ⟨[],true⟩->U.mp b=m.mp b))/\bu r U:=by
 obtain⟨p,ae⟩: ∃p:G,p=⟨m.next,λb=>if dt b then m.hc b else none,m.mp⟩:=⟨_,rfl⟩;have pv:p.next=m.next:=by rw[ae]
 have mf: ∀b,p.F b=if dt b then m.F b else none:= λb=>by
  rw[ae];simp only[G.F];split
  ·rfl
  ·split<;>rfl
 have part:BE p m:=⟨pv,by rw[ae],λb x B=>by
  rw[mf]at B;split at B
  ·exact B
  ·cases B⟩
 refine(eu.frame part (g1 p pv λb hb=>by rw[mf,if_pos hb])).bt λr U bV=> ?_;obtain⟨jV,⟨⟨A,E⟩,ao⟩,bK⟩:=bV;refine⟨bK.next,λb hb=> ?_,ao U bK.part.next.symm λb y Z=>bK.part.F b y Z⟩;by_cases e:dt b
 ·obtain⟨x,B,av⟩:=b8 b e;have:U.F b=some x:=bK.part.F b x (by rw[E b (by omega),mf,if_pos e,B]);exact⟨by rw[this,B],λh=>by rw[B]at h;cases h;exact absurd rfl av⟩
 ·have:=bK.jd b hb (by rw[mf,if_neg e]);exact⟨this.1,λ_=>this.2.2⟩
end
end Go.DI
namespace Go.Proofs.YtmmkkggfmigppaaGreat
open Go Go.DI Go.gU
theorem apm{J:e3}{u:fY}{t m:G}(H:ep J u t m){o:Nat}{cs:List Value}(aC:t.F o=some ⟨cs,true⟩)(av:cs≠[])(bb:cs.all ew=true): ∃b w,J o=some b/\m.F b=some ⟨cs,w⟩:=by
 rcases H.jc o _ aC with⟨b,ds,w,br,bQ,a3,a4⟩|⟨_,bQ⟩
 ·obtain rfl:=V8 a4 bb;exact⟨b,w,br,bQ⟩
 ·exact absurd bQ av
theorem atp{l:List dm}(h:l≠[]):fA l≠[]:= λe=>by have:=BI l;rw[e]at this;exact h (n2 (by simp at this;omega))
theorem aF3{n:dL}(bx:n.bl≠[]){cg:List Bool}(ah3:cg≠[]){t:G}{o q:Nat}(aC:t.F o=some ⟨fA n.bl,true⟩)(bg:t.F q=some ⟨cg.map (Value.bool ·),true⟩):
 fg N 84 [.agg #[D n.dF,D n.dr,D n.et,.slice (some ⟨o,0,none⟩) n.bl.length 4],.slice (some ⟨q,0,none⟩) cg.length 1] t λv X=>v= .tuple #[D (uK n cg).1,.bool (uK n cg).2]/\X=t:= λJ u dD m H ag=>by
 have oN:=atp bx;have qi:cg.map (Value.bool ·)≠[]:=by simpa using ah3
 obtain⟨b,w,cp,q3⟩:=apm H aC oN (afM _);obtain⟨eN,ea,B6,aiu⟩:=apm H bg qi (by rw[ei];intro v M;obtain⟨x,_,rfl⟩:=gx.1 M;rfl);obtain⟨bf,aya,ba⟩:=ag.F (i:=0) rfl;obtain⟨m5,ayb,Ht⟩:=ag.F (i:=1) rfl;have ayd:dD=[bf,m5]:=by
  have dc:dD.length=2:=ag.1.symm;apply yi;intro k
  match k with
  |0=>exact aya
  |1=>exact ayb
  |k+2=>rw[qD (by omega)];simp
 subst ayd;obtain⟨ys,rfl,aA⟩:=ba.tQ;have XU:ys.toList=kX n (.slice (some ⟨b,0,none⟩) n.bl.length 4):=by
  have dc:ys.toList.length=4:=(by have:=aA.1;simpa using this.symm);have bX:= λx=>aA.2 0 _ x rfl;have A:= λx=>aA.2 1 _ x rfl;have E:= λx=>aA.2 2 _ x rfl;have ao:= λx=>aA.2 3 _ x rfl
  match Z:ys.toList,dc with
  | [j6,h2,kP,sh],_=>
    rw[Z]at bX A E ao;have ho:=(bX j6 rfl).hB rfl;have aG:=(A h2 rfl).hB rfl;have aN:=(E kP rfl).hB rfl;rcases(ao sh rfl).lv with⟨ha,bB,_,dO⟩|⟨_,_,dO,_⟩
    ·rw[cp]at bB;cases bB;rw[ho,aG,aN,dO]
    ·exact absurd (n2 dO) bx
 have XV:ys= #[D n.dF,D n.dr,D n.et,.slice (some ⟨b,0,none⟩) n.bl.length 4]:=DK.1 XU;subst XV;obtain rfl:m5= .slice (some ⟨eN,0,none⟩) cg.length 1:=by
  rcases Ht.lv with⟨ha,bB,_,dO⟩|⟨_,_,dO,_⟩
  ·rw[B6]at bB;cases bB;exact dO
  ·exact absurd (n2 dO) ah3
 refine(aEW (m:=m) (dt:= λx=>x=b\/x=eN) (λx B=>by
  rcases B with rfl|rfl
  ·exact⟨_,q3,oN⟩
  ·exact⟨_,aiu,qi⟩) (bu:= λr _=>r= .tuple #[D (uK n cg).1,.bool (uK n cg).2]) (λp axV sI=> ?_)).bt λr U bV=> ?_
 ·refine(aF4 (n:=n) (cg:=cg) (m:=p) (.inr ⟨b,w,rfl,by rw[sI b (.inl rfl)];exact q3⟩) (.inr ⟨eN,ea,rfl,by rw[sI eN (.inr rfl)];exact aiu⟩)).bt λr jV ae=> ?_;exact⟨⟨ae.2.next,ae.2.F⟩,λbn _ _=>ae.1⟩
 ·obtain⟨aE,a5,rfl⟩:=bV;obtain⟨aT,ej⟩:=aqM H (ht:=t.next) aE a5;exact⟨J,u,_,t,⟨rfl,rfl⟩,aT,bM.tuple (bM.cons (.c4 rfl) (bM.cons (.c4 rfl) bM.nil)),ej⟩
open Go Go.DI Go.Big Go.gU
def Bm(u:aL)(s:Int->Bool):List Bool:=fc u.a2.length λv=>s (eO u v 0)
def tv(u:aL)(s:Int->Bool):List (List Bool):=fc u.a2.length λv=>fc (u.aO.length-1) λj=>s (eO u v (j+1))
def BV(u:aL)(s:Int->Bool):List Bool:=fc u.aZ.length λd=>s (dk u d)
abbrev GM(b:Bool):List Value:=[.bool b]
abbrev tx(l:List Bool):Value:=ai (l.map GM) 1
abbrev Vp(l:List Bool):List Value:=[tx l]
abbrev agZ(l:List (List Bool)):Value:=ai (l.map Vp) 1
abbrev sy(u:aL)(s:Int->Bool):List Value:=[tx (Bm u s),agZ (tv u s),tx (BV u s)]
theorem avg{u:aL}(h:gf u){R:List Int}{s gY:Int->Bool}(bX:s 0=gY 0)(A:s 1=gY 1)(aW: ∀v i,v<u.a2.length->i<u.aO.length->s (eO u v i)=gY (eO u v i))(ar: ∀d,d<u.aZ.length->s (dk u d)=gY (dk u d)): ∀a∈ef u R,s a.f=gY a.f/\s a.t=gY a.t:= λa ag=>by
 have bx:=h.g3;rcases Ts.1 ag with⟨w,aQ,al⟩|⟨d,sE,rfl⟩
 ·rcases Tt.1 al with rfl|⟨j,aV,rfl⟩|⟨d,sE,_,rfl⟩
  ·refine⟨bX,?_⟩;have:=aW w 0 aQ bx;simpa[eO,sw]using this
  ·have l8:j+1<u.aO.length:=(by omega);have ae:=(h.nV l8 (h.x2 l8 (by omega))).1;exact⟨aW w _ aQ (by omega),aW w _ aQ l8⟩
  ·exact⟨aW w _ aQ (GZ h sE).1,ar d sE⟩
 ·exact⟨ar d sE,A⟩
theorem auC{u:aL}(h:gf u){R:List Int}{cg:List Bool}{s:Int->Bool}(aA:(cg.length:Int)=dk u u.aZ.length)(bG:s 0=true)(aT:s 1=false)(bX:gX cg 0=true)(A:gX cg 1=false)
 (aW: ∀v i,v<u.a2.length->i<u.aO.length->gX cg (eO u v i)=s (eO u v i)) (ar: ∀d,d<u.aZ.length->gX cg (dk u d)=s (dk u d)):uK (hK u R) cg=(jQ (ef u R) s,true):=by
 have e:jQ (ef u R) (gX cg)=jQ (ef u R) s:=Vw _ (avg h (by rw[bX,bG]) (by rw[A,aT]) aW ar);have M:=Ix.2 (AX h R);unfold uK;have h5:(cg.length:Int)=(hK u R).dF:=aA;have G7:gX cg (hK u R).dr=true:=bX;have jw:gX cg (hK u R).et=false:=A;rw[M,decide_eq_true h5,G7,jw];simp only[DF,Bool.not_false,if_true];rw[<-e];rfl
theorem auD{u:aL}(h:gf u){R au:List Int}{cg:List Bool}(bg:DS (hK u R) au cg)(ae:uc u R=false):decide (jQ (ef u R) (gX cg)<o1 u)=true:=by have e:value (hK u R) au=jQ (ef u R) (gX cg):=bg.val;rw[TJ h bg,Gv]at ae;rw[<-e];exact decide_eq_true (by omega)
theorem aJo{u:aL}(h:gf u){R au:List Int}(bb:o6 (hK u R) au):value (hK u R) au<=o1 u:=by rw[aJn h,aI0];exact aq7 λv M=>ayM h bb M
end Go.Proofs.YtmmkkggfmigppaaGreat
namespace Go.DI
open Go
section
variable {P:Program} {t m:G} {J:e3} {u:fY}
theorem aCX(H:ep J u t m){s gY:Value}(B:cu u J s gY)(aE:fF t 1 s=true)(a5:iQ t s=true):ep J u (hR t s) (hR m gY)/\e4 t.next m.next J u t m J u (hR t s) (hR m gY):=by
 unfold fF at aE;split at aE
 ·next l c=>have:gY= .slice none l c:=B.hB (by simpa[ew]using aE);rw[this];exact⟨H,e4.refl⟩
 ·next a l c=>
  rcases B.lv with⟨b,aG,aN,ct⟩|⟨aG,aN,ct,gC⟩
  ·rw[ct];cases aH:t.F a.block with
   |none=>simp[iQ,aH]at a5
   | some y=>simp only[iQ,aH]at a5;exact⟨aa9 H aG aH a5,N6 H aG aH a5⟩
  ·rw[gC];exact⟨VO H,VN⟩
 ·cases aE
theorem aJ4{f:Nat}(df:cm P f=none)(ja:Jv P f){s i y:Value}(ax:tP t s i y=true):fg P f [s,i,y] t λr X=>r=xK t s y/\X=u6 t s y:=by
 intro J u bz m H ag;obtain⟨gY,es,cH⟩:=ag.F (i:=0) (x:=s) rfl;obtain⟨du,VU,acH⟩:=ag.F (i:=1) (x:=i) rfl;obtain⟨ta,Ki,rn⟩:=ag.F (i:=2) (x:=y) rfl;have dc:bz.length=3:=ag.1.symm;have ahX:bz=[gY,du,ta]:=by
  apply yi;intro k
  match k with
  |0=>exact es
  |1=>exact VU
  |2=>exact Ki
  |k+3=>rw[qD (by omega)];simp
 subst ahX;simp only[tP,Lr,a7,eF]at ax;obtain⟨A,E,ao,aS,⟨⟨bI,eg⟩,hf⟩,jj⟩:=ax;have Y:=anK bI;subst Y;have ih:du= .int .i64 0:=acH.hB rfl;subst ih;have abO:iG s=false:=by cases s<;>simp[fF]at A<;>rfl
 have abP:iG y=false:=by cases y<;>simp[fF]at ao<;>rfl
 have aE:kC t 1 s=true:=by rw[kC,abO];exact A
 have ch:kC t 1 y=true:=by rw[kC,abP];exact ao
 have bB:=Gb H cH aE;have cC:=UA H cH E;have dO:=Gb H rn ch;have gu:=UA H rn aS;have cn:fW s=fW gY:=by rw[<-I2 cH,lj,abO];rfl
 have aSN:fW y=fW ta:=by rw[<-I2 rn,lj,abP];rfl
 have cs:bM u J (fy t 1 s) (fy m 1 gY):=by have:=GS H cH aE;rw[lp,abO]at this;exact this
 have Ab:bM u J (fy t 1 y) (fy m 1 ta):=by have:=GS H rn ch;rw[lp,abP]at this;exact this
 -- pF block cM pF new cells
 have tN: ∃a l,y= .slice (some a) l 1/\ ∃b,J a.block=some b/\ta= .slice (some ⟨b,a.off,none⟩) l 1:=by
  unfold fF at ao;split at ao
  ·next l c=>simp only[a7,beq_iff_eq]at ao;obtain⟨rfl,_⟩:=ao;simp[fW]at eg
  ·next a l c=>
   simp only[a7,beq_iff_eq]at ao;obtain⟨⟨_,rfl⟩,_⟩:=ao;rcases rn.lv with⟨b,aG,aN,ct⟩|⟨_,_,ct,_⟩
   ·exact⟨a,l,rfl,b,aG,ct⟩
   ·simp only[fW]at eg;omega
  ·cases ao
 obtain⟨DC,aeY,rfl,lC,ayo,rfl⟩:=tN;have awx:vx gY≠some lC:=by
  unfold fF at A;split at A
  ·next l c=>simp only[a7,beq_iff_eq]at A;obtain⟨rfl,rfl⟩:=A;have:gY= .slice none 0 0:=cH.hB rfl;rw[this];simp[vx]
  ·next a l c=>
   rcases cH.lv with⟨b,aG,aN,ct⟩|⟨_,_,_,ct⟩
   ·rw[ct];intro hb;simp only[vx,mP]at hb;subst hb;exact hf (by simp only[vx,H.inj _ _ _ aG ayo])
   ·rw[ct];simp[vx]
  ·cases A
 have xA:tP m gY (.int .i64 0) (.slice (some ⟨lC,DC.off,none⟩) aeY 1)=true:=by simp only[tP,Lr,a7,eF];exact⟨bB,cC,dO,gu,⟨⟨rfl,eg⟩,awx⟩,by rw[<-cn];exact jj⟩
 refine aJW df ja (by simp only[tO,xA,if_true];rfl) ?_;obtain⟨u2,tG⟩:=aCX H cH A E;have iE:=OY u2 1;have aid:=JT u2 1;rw[Ik,Ik]at aid;have cp:J t.next=none:=by
  cases aU:J t.next with
  |none=>rfl
  |some b=>have:=(H.cU _ _ aU).1;omega
 have q5:tk J u ((hR t s).bU 1) ((hR m gY).bU 1) t.next m.next:=⟨cp,λo aU=>by have:=(H.cU _ _ aU).2;omega,by
  cases bb:u m.next with
  |none=>rfl
  |some ds=>obtain⟨⟨w,h⟩,_⟩:=H.b0 _ _ bb;have:=aF h;omega,by rw[G.qP,Ik];omega,by rw[G.qP,Ik];omega⟩
 obtain⟨cV,q⟩:=qG.new (ht:=t.next) (hU:=m.next) iE q5 (c8 _) (c8 _) (Ab.p8 cs) (v:=xK t s (.slice (some DC) aeY 1)) (bZ:=xK m gY (.slice (some ⟨lC,DC.off,none⟩) aeY 1)) (by unfold xK;rw[cn];exact .slice (by simp[gw]));exact⟨cV,u,_,_,⟨rfl,rfl⟩,q.Uv,q.val,(tG.trans aid).trans q.b0⟩
end
section
variable (P:Program)
def BG(f:Nat)(args:List Value)(bu:Value->Prop):Prop:= ∀(u:fY) (m:G) (bz:List Value),sq u m->bM u kY args bz->
 eu P f bz m λeA U=>m.next<=U.next/\(∀b,b<m.next->U.F b=m.F b)/\ ∃r cE,bu r/\g7 u cE/\sq cE U/\cu cE kY r eA
end
section
variable {P:Program} {t m:G} {J:e3} {u:fY}
open Classical in
theorem aru{f:Nat}{args:List Value}{bu:Value->Prop}(h:fg P f args fE λv t=> ∃r,dx 9 t v=some r/\bu r):BG P f args bu:= λu m bz df ag=>by
 refine(h kY u bz m (adZ df) ag).bt λeA U bV=> ?_;obtain⟨cV,cE,v,X,⟨r,A,iF⟩,E,ao,aS⟩:=bV;refine⟨aS.lR,(λb hb=>aS.dg b hb λ⟨o,x,e,_⟩=>by cases e),r,(λb=>match cE b with
  |some cs=>some cs
  |none=>if∃o,cV o=some b then(U.F b).map (·.cells)else none),iF,λb cs hb=> ?_,λb cs hb=> ?_,?_⟩
 ·simp only[aS.f b cs hb]
 ·simp only at hb;split at hb
  ·next bI=>cases hb;exact(E.b0 b _ bI).1
  ·split at hb
   ·cases aH:U.F b with
    |none=>rw[aH]at hb;cases hb
    |some x=>rw[aH]at hb;cases hb;exact⟨x.own,rfl⟩
   ·cases hb
 ·refine G4 E (λb cs hb=>by simp only[hb]) 9 ao A λo aC fw b cs w cp aH=> ?_;cases mz:cE b with
  |some ds=>obtain⟨⟨w',kJ⟩,_⟩:=E.b0 b ds mz;rw[aH]at kJ;cases kJ;rfl
  |none=>rw[if_pos ⟨o,cp⟩,aH];rfl
theorem BG.aeq{f:Nat}{ts bz:List Value}{bu:Value->Prop}(h:BG P f ts bu)(df:sq u m)(ag:bM u kY ts bz):eu P f bz m λeA U=>m.next<=U.next/\(∀b,b<m.next->U.F b=m.F b/\(u b=none->U.mp b=m.mp b))/\
 ∃r cE,bu r/\g7 u cE/\sq cE U/\(∀b cs,cE b=some cs->u b=some cs\/m.next<=b)/\cu cE kY r eA:=by
 obtain⟨p,ae⟩: ∃p:G,p=⟨m.next,λb=>if(u b).isSome then m.hc b else none,m.mp⟩:=⟨_,rfl⟩;have pv:p.next=m.next:=by rw[ae]
 have Nk:p.mp=m.mp:=by rw[ae]
 have mf: ∀b,p.F b=if(u b).isSome then m.F b else none:= λb=>by
  rw[ae];simp only[G.F];split
  ·rfl
  ·split<;>rfl
 have part:BE p m:=⟨pv,Nk,λb x B=>by
  rw[mf]at B;split at B
  ·exact B
  ·cases B⟩
 have KG:sq u p:= λb cs hb=>by obtain⟨w,aQ⟩:=df b cs hb;exact⟨w,by rw[mf,hb];exact aQ⟩
 refine(eu.frame part (h u p bz KG ag)).bt λeA U bV=> ?_;obtain⟨jV,⟨A,E,r,cE,iF,ao,aS,bI⟩,bK⟩:=bV;refine⟨bK.next,λb hb=>⟨?_,λaj=>(bK.jd b hb (by rw[mf,aj];rfl)).2.2⟩,r,cE,iF,ao,λb cs hb=> ?_,λb cs hb=> ?_,bI⟩
 ·cases aH:p.F b with
  |none=>exact(bK.jd b hb aH).1
  |some x=>rw[part.F b x aH];exact bK.part.F b x (by rw[E b (by rw[pv];exact hb),aH])
 ·obtain⟨w,aQ⟩:=aS b cs hb;exact⟨w,bK.part.F b _ aQ⟩
 ·by_cases dA:b<m.next
  ·left;obtain⟨w,aQ⟩:=aS b cs hb;cases aH:p.F b with
   |none=>rw[(bK.jd b dA aH).2.1]at aQ;cases aQ
   | some x=>
     rw[E b (by rw[pv];exact dA)]at aQ;rw[mf]at aQ;split at aQ
     ·next H=>
      cases qZ:u b with
      |none=>rw[qZ]at H;cases H
      | some nH=>obtain⟨w',kJ⟩:=df b nH qZ;rw[kJ]at aQ;cases aQ;rfl
     ·cases aQ
  ·exact .inr (by omega)
theorem BG.N1{f:Nat}{args:List Value}{bu:Value->Prop}(h:BG P f args bu)(ag: ∀v∈args,Iw v=true):fg P f args t λv X=>bu v/\X=t:= λJ u bz m H aA=>by
 have nm:bM u kY args bz:=⟨aA.1,λi x y B Z=>(abW (g:= λ_ _=>False) (ag x (fX B))).ow (λ_ _ h=>h.elim) (aA.2 i x y B Z)⟩;refine(h.aeq (λb cs hb=>(H.b0 b cs hb).1) nm).bt λeA U bV=> ?_;obtain⟨aE,a5,r,cE,iF,ch,dT,gj,ft⟩:=bV;refine⟨J,cE,r,t,⟨iF,rfl⟩,?_,ft.bt (g7.refl _) (fN.nil _),?_⟩
 ·refine⟨λo x B=> ?_,λo es aU=> ?_,H.jA,H.inj,λo b h=>⟨(H.cU o b h).1,qE (H.cU o b h).2 aE⟩,λb cs hb=> ?_⟩
  ·rcases H.jc o x B with⟨b,cs,w,A,E,ao,aS⟩|A
   ·exact .inl ⟨b,cs,w,A,by rw[(a5 b (H.cU o b A).2).1,E],ao,aS.bt ch (fN.refl _)⟩
   ·exact .inr A
  ·obtain⟨b,de,A,E,ao⟩:=H.maps o es aU;refine⟨b,de,A,?_,ao.bt ch (fN.refl _)⟩;obtain⟨aS,bI⟩:=ji E;have hb:=(H.cU o b A).2;have mz:u b=none:=by
    cases bg:u b with
    |none=>rfl
    |some cs=>have:=(H.b0 b cs bg).2 o _ A (ji aU).1;cases this
   exact kT (by rw[(a5 b hb).1];exact aS) (by rw[(a5 b hb).2 mz];exact bI)
  ·refine⟨dT b cs hb,λo x cp B=> ?_⟩;rcases gj b cs hb with cZ|cZ
   ·exact(H.b0 b cs cZ).2 o x cp B
   ·have:=(H.cU o b cp).2;omega
 ·refine⟨fN.refl _,ch,λ_ _ h=> .inl h,λb cs hb=> ?_,c8 _,aE,λb hb _=>(a5 b hb).1,λb hb aQ=>aQ,λb hb aQ=>aQ⟩;rcases gj b cs hb with cZ|cZ
  ·exact .inl cZ
  ·exact .inr (.inl cZ)
end
end Go.DI
namespace Go.Proofs.YtmmkkggfmigppaaGreat
open Go Go.DI Go.Big Go.gU
abbrev mn(b:Bool):Value:= .bool b
theorem agb{l:List Bool}:(l.map GM).flatten=l.map mn:=by
 induction l with
 |nil=>rfl
 |cons x l cj=>simp[cj]
theorem aga{l:List Bool}: ∀r∈l.map GM,r.length=1/\ ∀v∈r,hH v=true:= λr ar=>by obtain⟨b,_,rfl⟩:=gx.1 ar;exact⟨rfl,λv M=>by simp at M;subst M;rfl⟩
structure uE(u:aL)(cg:List Bool)(cY eY dB j8 fT:Nat)(z:aD)(t:G):Prop where
 dy:t.F cY=some ⟨aI u,true⟩
 eP:t.F eY=some ⟨[.slice none 0 0,.slice none 0 0,.slice none 0 0],true⟩
 e0:t.F dB=some ⟨[D u.a2.length,D u.aO.length],true⟩
 lK:t.F j8=some ⟨cg.map mn,true⟩
 bY:z 2=bC cY
 dp:z 4=bC eY
 ey:z 10=bN j8 cg.length 1
 fM:z 12=bC dB
 pA:z 13=bC fT
theorem uE.dg{u:aL}{cg:List Bool}{cY eY dB j8 fT:Nat}{z K:aD}{t X:G}(h:uE u cg cY eY dB j8 fT z t)(O: ∀b,b=cY\/b=eY\/b=dB\/b=j8->X.F b=t.F b)(H: ∀j,j∈[2,4,10,12,13]->K j=z j):uE u cg cY eY dB j8 fT K X:=
 ⟨(O cY (.inl rfl)).trans h.dy,(O eY (.inr (.inl rfl))).trans h.eP,(O dB (.inr (.inr (.inl rfl)))).trans h.e0,(O j8 (.inr (.inr (.inr rfl)))).trans h.lK,(H 2 (by simp)).trans h.bY,(H 4 (by simp)).trans h.dp,(H 10 (by simp)).trans h.ey,(H 12 (by simp)).trans h.fM,(H 13 (by simp)).trans h.pA⟩
theorem VE{cg:List Bool}{x:Int}(bX:0<=x)(A:x<cg.length):(cg.map mn)[x.toNat]?=some (mn (gX cg x))/\(∀h,(cg.map mn)[x.toNat]'h=mn (gX cg x))/\x.toNat<cg.length/\x.toNat+1<=cg.length:=by
 have aA:x.toNat<cg.length:=by omega
 have e:(cg.map mn)[x.toNat]?=some (mn (gX cg x)):=by rw[sk,J5 aA];rfl
 exact⟨e,λh=>(cN.1 e).2,aA,aA⟩
theorem aJQ{u:aL}(h:cL u)(mY:1<=u.aZ.length){cg:List Bool}(av:(cg.length:Int)=dk u u.aZ.length){cY eY dB j8 fT v x5:Nat}{apX:List Value}{z:aD}{t:G}{Q:cO->aD->G->Prop}(M:v<u.a2.length)(pS:uE u cg cY eY dB j8 fT z t)(tB:t.F x5=some ⟨apX,true⟩)(BR:x5≠cY/\x5≠eY/\x5≠dB/\x5≠j8)(r9:z 14=D v)(zv:z 15=bN x5 0 1)(vu:z 16=D 1)
 (a6: ∀(K:aD) (X:G) (qx:Nat),qx≠cY/\qx≠eY/\qx≠dB/\qx≠j8->(∀b,b<t.next->b≠x5->X.F b=t.F b)->(qx=x5\/t.next<=qx)->X.F qx=some ⟨(fc (u.aO.length-1) λj=>gX cg (eO u v (j+1))).map mn,true⟩->K 15=bN qx (u.aO.length-1) 1->uE u cg cY eY dB j8 fT K X->K 14=z 14->K 49=z 49->K 48=z 48->K 16=D u.aO.length->ee N (.loop Ms) K X Q):ee N (.loop Ms) z t Q:=by
 have eM:=h.ok.fp;have bx:=h.ok.g3;have kH:=h.ok.iH;have hI:=h.ok.hj;have kb:=wD h.ok;have aG:dk u u.aZ.length=dk u 0+u.aZ.length:=by unfold dk;omega
 have ir:2<=u.aO.length:=by have:=(Oa h.ok (v:=0) (d:=0) (by omega)).2;omega
 refine aJ0 (ay:=⟨[IS],[]⟩) (λi K X=>(∃(q:Nat) (cs:List Value),(q≠cY/\q≠eY/\q≠dB/\q≠j8)/\(q=x5\/t.next<=q)/\X.F q=some ⟨cs,true⟩/\cs.take i=(fc i λj=>gX cg (eO u v (j+1))).map mn/\(0<i->cs.length=i)/\K 15=bN q i 1)/\(∀b,b<t.next->b≠x5->X.F b=t.F b)/\uE u cg cY eY dB j8 fT K X/\(K 14=z 14/\K 49=z 49/\K 48=z 48)/\K 16=D (i+1:Nat)/\t.next<=X.next) (u.aO.length-1) ?_ ?_ 0 z t (gd _) ⟨⟨x5,apX,BR,.inl rfl,tB,by simp[fc],λh=>absurd h (by decide),zv⟩,λ_ _ _=>rfl,pS,⟨rfl,rfl,rfl⟩,by simpa using vu,c8 _⟩
 ·rintro i K X Y ⟨⟨q,cs,⟨gI,hz,iT,tu⟩,bg,hP,jG,cq,Dq⟩,O,qf,⟨Ps,J9,VT⟩,Dr,aj⟩ bO a1;obtain⟨dy,eP,e0,lK,dR,t4,wR,wS,Bi⟩:=id qf;have Gg:=Ps.trans r9;have jo:=aF dy;have sR:=aF e0;have wB:=aF lK;have jS:=aF eP;have xU:=aF hP;have WW:i+1<u.aO.length:=(by omega);have BT:=oM h.ok M WW;obtain⟨b7,l7⟩: ∃b7,b7=yB u.a2.length u.aO.length v (i+1):=⟨_,rfl⟩;have KT:b7=eO u v (i+1):=l7;rw[<-KT]at BT;obtain⟨bB,cC,dO,gu⟩:=VE (cg:=cg) (x:=b7) (by omega) (by omega);have ke:=aqC (dQ:=u.a2.length) (b1:=u.aO.length) (v:=v) (i:=i+1) (by omega);rw[<-l7]at ke;have bA:((i:Int)+1)<u.aO.length:=(by omega);have bp:IntKind.i64.wrap ((i:Int)+1+1)=(i:Int)+1+1:=db (by omega) (by omega);have jZ:0<=b7:=(by omega);have kE:b7<cg.length:=(by omega);have aw6:i<=cs.length:=by
   by_cases c:0<i
   ·rw[cq c];exact c8 _
   ·omega
  have eQ:(i+1)*1<=140737488355328/\i<=9223372036854775806:=(by omega);have Kd:((i+1:Nat):Int)=(i:Int)+1:=(by omega);rw[Kd]at Dr ke;simp(disch:=first|omega|simp only[DI.aw];omega) [Ms,aI,dR,wR,wS,Gg,Dq,Dr,dy,e0,lK,hP,bA,bp,ke,jZ,kE,bB,gu,e1,aw6,jG,eQ,-aqC,-ab,-ah,-aa,-ad,-List.map_map];refine⟨by omega,a1 _ _ ⟨⟨X.next+9,_,⟨by omega,by omega,by omega,by omega⟩,.inr (by omega),cb (by simp),?_,λ_=>by simp,by simp⟩,λb hb bx=> ?_,qf.dg (λb hb=> ?_) (λj aV=> ?_),⟨by simp[Ps],by simp[J9],by simp[VT]⟩,by simp,by simp;omega⟩⟩
  ·rw[FW,p7,hx (by simp),<-KT];rfl
  ·rw[aX (by omega),aX (by rcases bg with h|h<;>omega),aX (by omega),cl (by omega)];exact O b hb bx
  ·have rQ:b<X.next/\b≠q:=by rcases hb with rfl|rfl|rfl|rfl<;>exact⟨by assumption,by omega⟩
   rw[aX (by omega),aX rQ.2,aX (by omega),cl rQ.1]
  ·simp at aV;rcases aV with rfl|rfl|rfl|rfl|rfl<;>simp
 ·rintro K X ⟨⟨q,cs,aW,bg,hP,jG,cq,Dq⟩,O,qf,⟨Ps,J9,VT⟩,Dr,aj⟩;have aA:=cq (by omega);rw[hx (by omega)]at jG;subst jG;exact a6 K X q aW O bg hP Dq qf Ps J9 VT (by rw[Dr];congr 1;omega)
def yz(u:aL)(cg:List Bool)(v:Nat):List Bool:=fc (u.aO.length-1) λj=>gX cg (eO u v (j+1))
theorem aJR{u:aL}(h:cL u)(mY:1<=u.aZ.length){cg:List Bool}(av:(cg.length:Int)=dk u u.aZ.length){cY eY dB j8 fT iX h7:Nat}{zY:Value}{z:aD}{t:G}{Q:cO->aD->G->Prop}(pS:uE u cg cY eY dB j8 fT z t)(hd:t.F fT=some ⟨[bN iX 0 1,bN h7 0 1,zY],true⟩)(pR:t.F iX=some ⟨[],true⟩)(hP:t.F h7=some ⟨[],true⟩)
 (VH:fT≠cY/\fT≠eY/\fT≠dB/\fT≠j8) (Pq:iX≠cY/\iX≠eY/\iX≠dB/\iX≠j8/\iX≠fT) (Pp:h7≠cY/\h7≠eY/\h7≠dB/\h7≠j8/\h7≠fT/\h7≠iX) (vv:z 48=D u.a2.length) (k2:z 49=D 0)
 (a6: ∀(K:aD) (X:G) (iX h7:Nat),(iX≠cY/\iX≠eY/\iX≠dB/\iX≠j8/\iX≠fT)->(h7≠cY/\h7≠eY/\h7≠dB/\h7≠j8/\h7≠fT/\h7≠iX)->X.F fT=some ⟨[bN iX u.a2.length 1,bN h7 u.a2.length 1,zY],true⟩->X.F iX=some ⟨(fc u.a2.length λv=>gX cg (eO u v 0)).map mn,true⟩->X.F h7=some ⟨fc u.a2.length λv=>tx (yz u cg v),true⟩->uE u cg cY eY dB j8 fT K X->Q (.cF 0) K X):ee N (.loop SD) z t Q:=by
 have eM:=h.ok.fp;have bx:=h.ok.g3;have kH:=h.ok.iH;have hI:=h.ok.hj;have kb:=wD h.ok;have aG:dk u u.aZ.length=dk u 0+u.aZ.length:=by unfold dk;omega
 refine gP (ay:=⟨[IX],[]⟩) (λv K X=>(∃iX h7,(iX≠cY/\iX≠eY/\iX≠dB/\iX≠j8/\iX≠fT)/\(h7≠cY/\h7≠eY/\h7≠dB/\h7≠j8/\h7≠fT/\h7≠iX)/\X.F fT=some ⟨[bN iX v 1,bN h7 v 1,zY],true⟩/\X.F iX=some ⟨(fc v λv=>gX cg (eO u v 0)).map mn,true⟩/\X.F h7=some ⟨fc v λv=>tx (yz u cg v),true⟩)/\uE u cg cY eY dB j8 fT K X/\K 48=D u.a2.length/\K 49=D v) u.a2.length ?_ ?_ 0 z t (gd _) ⟨⟨iX,h7,Pq,Pp,hd,by simpa[fc]using pR,by simpa[fc]using hP⟩,pS,vv,k2⟩
 ·rintro v K X M ⟨⟨iX,h7,⟨gI,hz,iT,tu,yy⟩,⟨ej,eD,gg,lJ,rO,f6⟩,hd,pR,hP⟩,qf,vv,k2⟩ bO a1;obtain⟨ck,c9,k9,iq⟩:=VH;obtain⟨dy,eP,e0,lK,dR,t4,wR,wS,Bi⟩:=id qf;have jo:=aF dy;have sR:=aF e0;have wB:=aF lK;have jS:=aF eP;have tX:=aF hd;have gb:=aF pR;have xU:=aF hP;have BT:=oM h.ok M (i:=0) bx;obtain⟨b7,l7⟩: ∃b7,b7=eO u v 0:=⟨_,rfl⟩;have ahU:2+(v:Int)=b7:=(by rw[l7];simp[eO]);rw[<-l7]at BT;obtain⟨bB,cC,dO,gu⟩:=VE (cg:=cg) (x:=b7) (by omega) (by omega);have NZ:=aqE (dQ:=u.a2.length) (b1:=u.aO.length) (v:=v) (by omega);rw[ahU]at NZ;have bA:(v:Int)<u.a2.length:=(by omega);have bp:=fB (n:=v) (by omega);have jZ:0<=b7:=(by omega);have kE:b7<cg.length:=(by omega);have eQ:v<=140737488355327/\v<=9223372036854775806/\(v+1)*1<=140737488355328/\(v+1)*24<=140737488355328:=(by omega);have aDv:(u.aO.length:Int)*1<=140737488355328/\(u.aO.length:Int)<=9223372036854775807/\(u.aO.length:Int)<=140737488355328:=(by omega);have auE: ¬fT=iX:= λe=>yy e.symm;have aPw: ¬fT=h7:= λe=>rO e.symm;have agL: ¬cY=iX:= λe=>gI e.symm;have atN: ¬cY=fT:= λe=>ck e.symm;have EL:(fc v λv=>gX cg (eO u v 0)).length=v:=r7;have jG:List.take v ((fc v λv=>gX cg (eO u v 0)).map mn)=(fc v λv=>gX cg (eO u v 0)).map mn:=hx (by simp);simp(disch:=first|omega|simp only[DI.aw];omega) [SD,aI,dR,wR,wS,Bi,vv,k2,dy,e0,lK,hd,pR,bA,NZ,jZ,kE,bB,gu,e1,EL,jG,eQ,aDv,-aqE,-r7,-ab,-ah,-aa,-ad,-List.map_map];generalize dq:G.aK _ (X.next+12+3) (some (en.mk [] true))=W;have vi:W.next=X.next+17:=by rw[<-dq];simp
  have mG: ∀b,b<X.next->b≠iX->b≠fT->W.F b=X.F b:= λb hb A E=>by rw[<-dq,aX (by omega),cl (by simp;omega),aX E,aX (by omega),aX A,aX (by omega),cl hb]
  have tB:W.F (X.next+15)=some ⟨[],true⟩:=(by rw[<-dq];exact cb (by simp));have av7:W.F fT=some ⟨[bN (X.next+9) (v+1) 1,bN h7 v 1,zY],true⟩:=(by rw[<-dq];simp(disch:=first|omega|simp only[DI.aw];omega) [-ab,-ah,-aa,-ad,-List.map_map]);have Wl:W.F (X.next+9)=some ⟨(fc (v+1) λv=>gX cg (eO u v 0)).map mn,true⟩:=(by rw[<-dq,aX (by omega),cl (by simp),aX (by omega),cb (by simp),FW,p7,<-l7];rfl);have awg:W.F h7=some ⟨fc v λv=>tx (yz u cg v),true⟩:=(mG h7 xU f6 rO).trans hP;clear dq;refine aJQ h mY av (fT:=fT) M (qf.dg (λb hb=> ?_) λj aV=> ?_) tB ⟨by omega,by omega,by omega,by omega⟩ (by simp) (by simp) (by simp) λc2 t3 qx ⟨eK,gp,kZ,ri⟩ wc Qo ch aI9 PZ arD aJc aJb aJa=> ?_
  ·rcases hb with rfl|rfl|rfl|rfl
   ·exact mG _ jo (λe=>gI e.symm) (λe=>ck e.symm)
   ·exact mG _ jS (λe=>hz e.symm) (λe=>c9 e.symm)
   ·exact mG _ sR (λe=>iT e.symm) (λe=>k9 e.symm)
   ·exact mG _ wB (λe=>tu e.symm) (λe=>iq e.symm)
  ·simp at aV;rcases aV with rfl|rfl|rfl|rfl|rfl<;>simp
  have PH:=(wc fT (by omega) (by omega)).trans av7;have PM:=(wc (X.next+9) (by omega) (by omega)).trans Wl;have PL:=(wc h7 (by omega) (by omega)).trans awg;have Xd:qx≠fT/\qx≠X.next+9/\qx≠h7:=by
   rcases Qo with e|e
   ·subst e;exact⟨by omega,by omega,by omega⟩
   ·exact⟨by omega,by omega,by omega⟩
  obtain⟨ed,er,lA⟩:=Xd;have v7:(yz u cg v).length=u.aO.length-1:=r7;refine aJ1 (o:=qx) (d:=15) (I:=1) (bJ:=(yz u cg v).map GM) (by rw[agb];exact ch) aga (by rw[aI9,ll,v7]) ?_;refine eS (ay:=⟨[],[]⟩) λU3 El=> ?_;have Qb: ∀b,b≠qx->(t3.aK qx none).F b=t3.F b:= λb hb=>aX hb;have aEI:(t3.aK qx none).next=t3.next:=rfl
  have Ko:=(Qb fT (λe=>ed e.symm)).trans PH;have Ky:=(Qb (X.next+9) (λe=>er e.symm)).trans PM;have Kv:=(Qb h7 (λe=>lA e.symm)).trans PL;have KS:uE u cg cY eY dB j8 fT (k3 c2 15 (ai ((yz u cg v).map GM) 1)) (t3.aK qx none):=PZ.dg (λb hb=>Qb b (by rcases hb with rfl|rfl|rfl|rfl<;>omega)) λj aV=>by simp at aV;rcases aV with rfl|rfl|rfl|rfl|rfl<;>simp
  generalize t3.aK qx none=t4 at Ko Ky Kv KS aEI;obtain⟨ahG,awk,awd,av6,kP,wX,ar8,ar9,UT⟩:=id KS;have aDp:=aF ahG;have aDh:=aF Ko;have aTj:=aF Kv;have aDP:=aF Ky;have aKa:c2 2=bC cY:=(by simpa using kP);have aJ9:c2 13=bC fT:=(by simpa using UT);have wq:(fc v λv=>tx (yz u cg v)).length=v:=r7;have ax9:List.take v (fc v λv=>tx (yz u cg v))=fc v λv=>tx (yz u cg v):=hx (by simp);have aJd:c2 49=D v:=(by rw[aJc];simp[k2]);simp(disch:=first|omega|simp only[DI.aw];omega) [Ms,aI,aKa,aJ9,aJa,aJd,ahG,Ko,Kv,wq,ax9,eQ,bp,-r7,-ab,-ah,-aa,-ad,-List.map_map];have aDH:=aF awk;have aDy:=aF awd;have aDg:=aF av6;have xR: ∀b,b<t4.next->b≠h7->b≠fT-> ∀b7 oH JE dS,(((((t4.bU 7).aK (t4.next+3) b7).aK h7 oH).aK (t4.next+4) JE).aK fT dS).F b=t4.F b:= λb hb A E b7 oH JE dS=>by rw[aX E,aX (by omega),aX A,aX (by omega),cl hb]
  refine a1 _ _ ⟨⟨X.next+9,t4.next+4,⟨by omega,by omega,by omega,by omega,by omega⟩,⟨by omega,by omega,by omega,by omega,by omega,by omega⟩,?_,?_,?_⟩,KS.dg (λb hb=> ?_) (λj aV=> ?_),by simp[aJb,vv],by simp⟩
  ·simp(disch:=first|omega|simp only[DI.aw];omega) [-ab,-ah,-aa,-ad,-List.map_map]
  ·rw[xR _ aDP (by omega) (by omega)];exact Ky
  ·rw[aX (by omega),cb (by simp),FW]
  ·rcases hb with rfl|rfl|rfl|rfl
   ·exact xR _ aDp (λe=>ej e.symm) (λe=>ck e.symm) _ _ _ _
   ·exact xR _ aDH (λe=>eD e.symm) (λe=>c9 e.symm) _ _ _ _
   ·exact xR _ aDy (λe=>gg e.symm) (λe=>k9 e.symm) _ _ _ _
   ·exact xR _ aDg (λe=>lJ e.symm) (λe=>iq e.symm) _ _ _ _
  ·simp at aV;rcases aV with rfl|rfl|rfl|rfl|rfl<;>simp
 ·rintro K X ⟨⟨iX,h7,Pq,Pp,hd,pR,hP⟩,qf,vv,k2⟩;simp(disch:=first|omega|simp only[DI.aw];omega) [SD,vv,k2,-ab,-ah,-aa,-ad,-List.map_map];exact a6 _ _ iX h7 Pq Pp hd pR hP (qf.dg (λ_ _=>rfl) λj aV=>by simp at aV;rcases aV with rfl|rfl|rfl|rfl|rfl<;>simp)
theorem aJS{u:aL}(h:cL u){cg:List Bool}(av:(cg.length:Int)=dk u u.aZ.length){cY eY dB j8 fT vm:Nat}{oH zY:Value}{z:aD}{t:G}{Q:cO->aD->G->Prop}(pS:uE u cg cY eY dB j8 fT z t)(hd:t.F fT=some ⟨[oH,zY,bN vm 0 1],true⟩)(ig:t.F vm=some ⟨[],true⟩)
 (VH:fT≠cY/\fT≠eY/\fT≠dB/\fT≠j8) (VM:vm≠cY/\vm≠eY/\vm≠dB/\vm≠j8/\vm≠fT) (IQ:z 93=D u.aZ.length) (Nz:z 94=D 0)
 (a6: ∀(K:aD) (X:G) (dC:Nat),(dC≠cY/\dC≠eY/\dC≠dB/\dC≠j8/\dC≠fT)->(dC=vm\/t.next<=dC)->(∀b,b<t.next->b≠vm->b≠fT->X.F b=t.F b)->X.F fT=some ⟨[oH,zY,bN dC u.aZ.length 1],true⟩->X.F dC=some ⟨(fc u.aZ.length λd=>gX cg (dk u d)).map mn,true⟩->uE u cg cY eY dB j8 fT K X->Q (.cF 4) K X):ee N (.loop SE) z t Q:=by
 have eM:=h.ok.fp;have bx:=h.ok.g3;have kH:=h.ok.iH;have hI:=h.ok.hj;have kb:=wD h.ok;have aSQ:=aF hd;have aTi:=aF ig;refine gP (ay:=⟨[Ba],[]⟩) (λv K X=>(∃dC,(dC≠cY/\dC≠eY/\dC≠dB/\dC≠j8/\dC≠fT)/\(dC=vm\/t.next<=dC)/\X.F fT=some ⟨[oH,zY,bN dC v 1],true⟩/\X.F dC=some ⟨(fc v λd=>gX cg (dk u d)).map mn,true⟩)/\(∀b,b<t.next->b≠vm->b≠fT->X.F b=t.F b)/\t.next<=X.next/\uE u cg cY eY dB j8 fT K X/\K 93=D u.aZ.length/\K 94=D v) u.aZ.length ?_ ?_ 0 z t (gd _) ⟨⟨vm,VM,.inl rfl,hd,by simpa[fc]using ig⟩,λ_ _ _ _=>rfl,c8 _,pS,IQ,Nz⟩
 ·rintro v K X M ⟨⟨dC,⟨gI,hz,iT,tu,yy⟩,pe,hd,pR⟩,O,aj,qf,IQ,Nz⟩ bO a1;obtain⟨ck,c9,k9,iq⟩:=VH;obtain⟨dy,eP,e0,lK,dR,t4,wR,wS,Bi⟩:=id qf;have jo:=aF dy;have sR:=aF e0;have wB:=aF lK;have jS:=aF eP;have tX:=aF hd;have gb:=aF pR;have aG: ∀d,dk u d=dk u 0+d:= λd=>by unfold dk;omega
  have aN:=aG v;have ct:=aG u.aZ.length;obtain⟨b7,l7⟩: ∃b7,b7=nI u.a2.length u.aO.length v:=⟨_,rfl⟩;have KT:b7=dk u v:=l7;rw[<-KT]at aN;obtain⟨bB,cC,dO,gu⟩:=VE (cg:=cg) (x:=b7) (by omega) (by omega);have NZ:=adb (dQ:=u.a2.length) (b1:=u.aO.length) (d:=v) (by omega);rw[<-l7]at NZ;have bA:(v:Int)<u.aZ.length:=(by omega);have bp:=fB (n:=v) (by omega);have jZ:0<=b7:=(by omega);have kE:b7<cg.length:=(by omega);have eQ:v<=140737488355327/\v<=9223372036854775806:=(by omega);have auE: ¬fT=dC:= λe=>yy e.symm;have atN: ¬cY=fT:= λe=>ck e.symm;have EL:(fc v λd=>gX cg (dk u d)).length=v:=r7;have jG:List.take v ((fc v λd=>gX cg (dk u d)).map mn)=(fc v λd=>gX cg (dk u d)).map mn:=hx (by simp);simp(disch:=first|omega|simp only[DI.aw];omega) [SE,wR,wS,Bi,IQ,Nz,e0,lK,hd,pR,bA,NZ,jZ,kE,bB,gu,e1,EL,jG,eQ,bp,-adb,-r7,-ab,-ah,-aa,-ad,-List.map_map];have xR: ∀b,b<X.next->b≠dC->b≠fT-> ∀b7 oH JE dS,(((((X.bU 12).aK (X.next+8) b7).aK dC oH).aK (X.next+9) JE).aK fT dS).F b=X.F b:= λb hb A E b7 oH JE dS=>by rw[aX E,aX (by omega),aX A,aX (by omega),cl hb]
  refine a1 _ _ ⟨⟨X.next+9,⟨by omega,by omega,by omega,by omega,by omega⟩,.inr (by omega),?_,?_⟩,λb hb A E=> ?_,by simp;omega,qf.dg (λb hb=> ?_) (λj aV=> ?_),by simp[IQ],by simp⟩
  ·simp(disch:=first|omega|simp only[DI.aw];omega) [-ab,-ah,-aa,-ad,-List.map_map]
  ·rw[aX (by omega),cb (by simp),FW,p7,<-KT];rfl
  ·rw[xR b (by omega) (by rcases pe with e|e<;>omega) E];exact O b hb A E
  ·rcases hb with rfl|rfl|rfl|rfl
   ·exact xR _ jo (λe=>gI e.symm) (λe=>ck e.symm) _ _ _ _
   ·exact xR _ jS (λe=>hz e.symm) (λe=>c9 e.symm) _ _ _ _
   ·exact xR _ sR (λe=>iT e.symm) (λe=>k9 e.symm) _ _ _ _
   ·exact xR _ wB (λe=>tu e.symm) (λe=>iq e.symm) _ _ _ _
  ·simp at aV;rcases aV with rfl|rfl|rfl|rfl|rfl<;>simp
 ·rintro K X ⟨⟨dC,gI,pe,hd,pR⟩,O,aj,qf,IQ,Nz⟩;simp(disch:=first|omega|simp only[DI.aw];omega) [SE,IQ,Nz,-ab,-ah,-aa,-ad,-List.map_map];exact a6 _ _ dC gI pe O hd pR (qf.dg (λ_ _=>rfl) λj aV=>by simp at aV;rcases aV with rfl|rfl|rfl|rfl|rfl<;>simp)
def afi(u:aL)(R:List Int)(s:Int->Bool):Prop:=s 0=true/\s 1=false/\jQ (ef u R) s<o1 u
def Va(u:aL)(R:List Int)(v:Value):Prop:=(uc u R=true->v= .tuple #[.agg #[.slice none 0 0,.slice none 0 0,.slice none 0 0],.bool false])/\(uc u R=false-> ∃s,afi u R s/\v= .tuple #[.agg (sy u s).toArray,.bool true])
theorem ahk{t:G}{o n:Nat}{l:List Bool}(h:t.F o=some ⟨l.map mn,true⟩)(aj:n=l.length):DI.dx 7 t (bN o n 1)=some (tx l):=by subst aj;have:=uS (n:=6) (t:=t) (o:=o) (l:=l.length) (I:=1) (bJ:=l.map GM) (by rw[agb];exact h) (by simp) aga;exact this
theorem avI{t:G}{o n:Nat}{L:List (List Bool)}(h:t.F o=some ⟨L.map tx,true⟩)(aj:n=L.length):DI.dx 7 t (bN o n 1)=some (agZ L):=by
 subst aj;have e:(L.map Vp).flatten=L.map tx:=by
  clear h;induction L with
  |nil=>rfl
  |cons x l cj=>simp only[lW,td,cj];rfl
 have:=uS (n:=6) (t:=t) (o:=o) (l:=L.length) (I:=1) (bJ:=L.map Vp) (by rw[e];exact h) (by simp) λr ar=>by obtain⟨b,_,rfl⟩:=gx.1 ar;exact⟨rfl,λv M=>by simp at M;subst M;rfl⟩
 exact this
theorem aFx{u:aL}(h:cL u)(A:1<=u.a2.length)(mY:1<=u.aZ.length){R:List Int}:BG N 79 [.agg (aI u).toArray,bq R] (Va u R):=by
 have eM:=h.ok.fp;have hI:=h.ok.hj;have kH:=h.ok.iH;have bx:=h.ok.g3;have cc:=AX h.ok R;refine aru (c3 (ay:=⟨[T8 u h],[QB u h]⟩) am0 (by kernel_rfl) (by simp[SC]) ?_);simp(disch:=first|omega|simp only[DI.aw];omega) [SC,amZ,aI,-ab,-ah,-aa,-ad,-List.map_map];generalize dq:G.aK _ 9 (some (en.mk [D (hK u R).dF,D 0,D 1,bN 12 (ef u R).length 4] true))=W;have aM:W.F 0=some ⟨aI u,true⟩:=by rw[<-dq];simp(disch:=first|omega|simp only[DI.aw];omega) [aI,-ab,-ah,-aa,-ad,-List.map_map]
 have aE:W.F 1=some ⟨[.slice none 0 0,.slice none 0 0,.slice none 0 0],true⟩:=by rw[<-dq];simp(disch:=first|omega|simp only[DI.aw];omega) [-ab,-ah,-aa,-ad,-List.map_map]
 have eB:W.F 12=some ⟨fA (ef u R),true⟩:=by rw[<-dq];simp(disch:=first|omega|simp only[DI.aw];omega) [-ab,-ah,-aa,-ad,-List.map_map]
 have vi:W.next=13:=by rw[<-dq];simp[fE]
 clear dq;refine(ad2 (n:=hK u R) (λv m M=>aqU cc M) (OR A) eB).bt λr t ⟨au,cg,bg,ar,a8⟩=> ?_;subst ar;have eX: ∀b,b<13->t.F b=W.F b:= λb hb=>by rw[a8,Bh,aX (by omega),cl (by simp;omega),aX (by omega),cl (by omega)]
 have Eh:t.F 14=some ⟨cg.map mn,true⟩:=by rw[a8,Bh,vi];exact cb (by simp[vi])
 have da:t.next=15:=by rw[a8,Bh];simp[vi]
 have aM:=(eX 0 (by decide)).trans aM;have aE:=(eX 1 (by decide)).trans aE;clear eX a8;have yY:=TJ h.ok bg;have eW:=aJo h.ok bg.PC;have dN:=aF aM;have hS:=aF aE;have cq:(cg.length:Int)=dk u u.aZ.length:=bg.len;rw[vi];cases ae:uc u R
 ·rw[ae]at yY;have dA:value (hK u R) au<o1 u:=by
   have:=of_decide_eq_false yY.symm;omega
  have bx: ¬value (hK u R) au=o1 u:=(by omega);simp(disch:=first|omega|simp only[DI.aw];omega) [ZJ,am3,aI,aM,bx,-ab,-ah,-aa,-ad,-List.map_map];rw[da];generalize dM:G.aK _ (15+9) (some (en.mk [Value.slice none 0 0,Value.slice none 0 0,Value.slice none 0 0] true))=aq;have mH: ∀b,b<15->aq.F b=t.F b:= λb hb=>by rw[<-dM,aX (by omega),cl (by simp[da];omega),aX (by omega),cl (by omega)]
  have e0:aq.F 22=some ⟨[D u.a2.length,D u.aO.length],true⟩:=(by rw[<-dM,aX (by decide),cl (by simp[da]),cb (by simp[da])]);have hd:aq.F 24=some ⟨[.slice none 0 0,.slice none 0 0,.slice none 0 0],true⟩:=(by rw[<-dM];exact cb (by simp[da]));have MZ:aq.next=25:=by rw[<-dM];simp[da]
  have aM:=(mH 0 (by decide)).trans aM;have aE:=(mH 1 (by decide)).trans aE;have Eh:=(mH 14 (by decide)).trans Eh;clear dM mH;refine zG (o:=24) (j:=0) (I:=1) hd rfl ?_;rw[MZ];generalize KL:G.aK _ 24 (some (en.mk (List.set [Value.slice none 0 0,Value.slice none 0 0,Value.slice none 0 0] 0 (bN 25 0 1)) true))=Jw;have mH: ∀b,b<24->Jw.F b=aq.F b:= λb hb=>by rw[<-KL,aX (by omega),aX (by omega),cl (by omega)]
  have av8:Jw.F 24=some ⟨[bN 25 0 1,.slice none 0 0,.slice none 0 0],true⟩:=(by rw[<-KL];exact cb (by simp[MZ]));have awp:Jw.F 25=some ⟨[],true⟩:=(by rw[<-KL,aX (by decide)];exact cb (by simp[MZ]));have abJ:Jw.next=26:=by rw[<-KL];simp[MZ]
  have aM:=(mH 0 (by decide)).trans aM;have aE:=(mH 1 (by decide)).trans aE;have e0:=(mH 22 (by decide)).trans e0;have Eh:=(mH 14 (by decide)).trans Eh;clear KL mH;refine zG (o:=24) (j:=1) (I:=1) av8 rfl ?_;rw[abJ];generalize KM:G.aK _ 24 (some (en.mk (List.set [bN 25 0 1,Value.slice none 0 0,Value.slice none 0 0] 1 (bN 26 0 1)) true))=U4;have mH: ∀b,b<24\/b=25->U4.F b=Jw.F b:= λb hb=>by rw[<-KM,aX (by omega),aX (by omega),cl (by omega)]
  have av9:U4.F 24=some ⟨[bN 25 0 1,bN 26 0 1,.slice none 0 0],true⟩:=(by rw[<-KM];exact cb (by simp[abJ]));have awq:=(mH 25 (by decide)).trans awp;have awh:U4.F 26=some ⟨[],true⟩:=(by rw[<-KM,aX (by decide)];exact cb (by simp[abJ]));have aM:=(mH 0 (by decide)).trans aM;have aE:=(mH 1 (by decide)).trans aE;have e0:=(mH 22 (by decide)).trans e0;have Eh:=(mH 14 (by decide)).trans Eh;clear KM mH;refine aJR h mY cq (cY:=0) (eY:=1) (dB:=22) (j8:=14) (fT:=24) (iX:=25) (h7:=26) ⟨aM,aE,e0,Eh,by simp,by simp,by simp,by simp[],by simp[]⟩ av9 awq awh (by decide) (by decide) (by decide) (by simp) (by simp) λvK t3 iX h7 Pq Pp PH PM PL PZ=> ?_;obtain⟨ahF,awj,awc,av5,m5,Dx,arB,aZR,arC⟩:=id PZ;have aSX:=aF ahF;have aSR:=aF PH;have aDO:=aF PM;have aDG:=aF PL;simp(disch:=first|omega|simp only[DI.aw];omega) [am1,aI,m5,ahF,-ab,-ah,-aa,-ad,-List.map_map];refine zG (o:=24) (j:=2) (I:=1) PH rfl ?_;have aTk:=aF awj;have aTa:=aF awc;have aSP:=aF av5;generalize KN:G.aK _ 24 (some (en.mk (List.set [bN iX u.a2.length 1,bN h7 u.a2.length 1,Value.slice none 0 0] 2 (bN t3.next 0 1)) true))=Jx;have mH: ∀b,b<t3.next->b≠24->Jx.F b=t3.F b:= λb hb E=>by rw[<-KN,aX E,aX (by omega),cl hb]
  have Ko:Jx.F 24=some ⟨[bN iX u.a2.length 1,bN h7 u.a2.length 1,bN t3.next 0 1],true⟩:=(by rw[<-KN];exact cb (by simp;omega));have awe:Jx.F t3.next=some ⟨[],true⟩:=by rw[<-KN,aX (by omega)];exact cb (by simp)
  have Ky:=(mH iX aDO (by omega)).trans PM;have Kv:=(mH h7 aDG (by omega)).trans PL;have aTz:Jx.next=t3.next+1:=by rw[<-KN];simp
  have KS:=PZ.dg (X:=Jx) (λb hb=>mH b (by rcases hb with rfl|rfl|rfl|rfl<;>assumption) (by rcases hb with rfl|rfl|rfl|rfl<;>decide)) (K:=vK) λ_ _=>rfl;clear KN;refine aJS h cq (oH:=bN iX u.a2.length 1) (zY:=bN h7 u.a2.length 1) (vm:=t3.next) (KS.dg (λ_ _=>rfl) λj aV=>by simp at aV;rcases aV with rfl|rfl|rfl|rfl|rfl<;>simp) Ko awe (by decide) ⟨by omega,by omega,by omega,by omega,by omega⟩ (by simp) (by simp) λa00 nx dC VM aQP ain ahB awf awQ=> ?_;have awr:=(ain iX (by omega) (by omega) (by omega)).trans Ky;have awi:=(ain h7 (by omega) (by omega) (by omega)).trans Kv;obtain⟨aP4,ahK,aP5,aP2,kP,wX,ar8,ar9,UT⟩:=id awQ;have aTl:=aF ahK;have aSS:=aF ahB;have pk: ∀b7 b,b≠1->(nx.aK 1 b7).F b=nx.F b:= λb7 b hb=>aX hb;have avk:Bm u (gX cg)=fc u.a2.length λv=>gX cg (eO u v 0):=rfl;have au9:(tv u (gX cg)).map tx=fc u.a2.length λv=>tx (yz u cg v):=by unfold tv;rw[C8];rfl
  have ej:= λb7=>ahk (t:=nx.aK 1 b7) (o:=iX) (n:=u.a2.length) (l:=Bm u (gX cg)) (by rw[pk b7 iX (by omega),awr,avk]) (by simp[Bm]);have eD:= λb7=>avI (t:=nx.aK 1 b7) (o:=h7) (n:=u.a2.length) (L:=tv u (gX cg)) (by rw[pk b7 h7 (by omega),awi,au9]) (by simp[tv]);have gg:= λb7=>ahk (t:=nx.aK 1 b7) (o:=dC) (n:=u.aZ.length) (l:=BV u (gX cg)) (by rw[pk b7 dC (by omega),awf];rfl) (by simp[BV]);simp(disch:=first|omega|simp only[DI.aw];omega) [am2,wX,UT,ahB,ahK,ej,eD,gg,Va,ae,-ab,-ah,-aa,-ad,-List.map_map];exact⟨gX cg,⟨bg.dr,bg.et,of_decide_eq_true (auD h.ok bg ae)⟩,rfl,rfl,rfl⟩
 ·rw[ae]at yY;have axi:value (hK u R) au=o1 u:=by
   have:=of_decide_eq_true yY.symm;omega
  simp(disch:=first|omega|simp only[DI.aw];omega) [ZJ,aI,aM,aE,axi,Va,ae,-ab,-ah,-aa,-ad,-List.map_map]
structure uz(u:aL)(R:List Int)(s:Int->Bool)(aq:Nat)(z:aD)(t:G):Prop where
 dy:t.F 0=some ⟨aI u,true⟩
 hd:t.F 1=some ⟨sy u s,true⟩
 e0:t.F 9=some ⟨[D aq,D 0,D 1,bN 12 (ef u R).length 4],true⟩
 eB:t.F 12=some ⟨fA (ef u R),true⟩
 bH:z 3=bC 0
 bD:z 5=bC 1
 cf:z 7=bC 9
 cz:z 9=bN 15 aq 1
theorem uz.dg{u:aL}{R:List Int}{s:Int->Bool}{aq:Nat}{z K:aD}{t X:G}(h:uz u R s aq z t)(O: ∀b,b≠15->X.F b=t.F b)(H: ∀j,j∈[3,5,7,9]->K j=z j):uz u R s aq K X:=
 ⟨(O 0 (by decide)).trans h.dy,(O 1 (by decide)).trans h.hd,(O 9 (by decide)).trans h.e0,(O 12 (by decide)).trans h.eB,(H 3 (by simp)).trans h.bH,(H 5 (by simp)).trans h.bD,(H 7 (by simp)).trans h.cf,(H 9 (by simp)).trans h.cz⟩
structure uC(s:Int->Bool)(aq:Nat)(g:Nat->Bool)(t:G):Prop where
 mu:t.F 15=some ⟨fc aq λx=>mn (g x),true⟩
 aM:g 0=true
 aE:g 1=false
theorem uC.aK{s:Int->Bool}{aq:Nat}{g:Nat->Bool}{t:G}(h:uC s aq g t){b7:Int}(l7:2<=b7):uC s aq (λx=>if x=b7.toNat then s b7 else g x) (t.aK 15 (some ⟨(fc aq λx=>mn (g x)).set b7.toNat (mn (s b7)),true⟩)):=by
 refine⟨?_,?_,?_⟩
 ·rw[cb (aF h.mu),A3];congr 2;refine rk λj aV=> ?_;by_cases c:j=b7.toNat
  ·rw[if_pos c,if_pos c]
  ·rw[if_neg c,if_neg c]
 ·have: ¬0=b7.toNat:=(by omega);simp only[if_neg this];exact h.aM
 ·have: ¬1=b7.toNat:=(by omega);simp only[if_neg this];exact h.aE
theorem J3{s:Int->Bool}{g:Nat->Bool}{b7 oH:Int}(l7:0<=b7)(aQh:0<=oH)(h:g oH.toNat=s oH):(if oH.toNat=b7.toNat then s b7 else g oH.toNat)=s oH:=by
 split
 ·next e=>rw[show b7=oH by omega]
 ·exact h
theorem auj{u:aL}(h:cL u){R:List Int}{s:Int->Bool}{aq v:Nat}(dM:dk u u.aZ.length=aq)(M:v<u.a2.length){z:aD}{t:G}{Q:cO->aD->G->Prop}{aR:(Nat->Bool)->Prop}(dH: ∀g b7,0<=b7->aR g->aR (λx=>if x=b7.toNat then s b7 else g x)){g:Nat->Bool}(lL:uz u R s aq z t)(nM:uC s aq g t)(aH:aR g)(Kz:g (eO u v 0).toNat=s (eO u v 0))(ey:z 10=D v)(fr:z 11=D 1)
 (a6: ∀(K:aD) (X:G) (og:Nat->Bool),uz u R s aq K X->uC s aq og X->aR og->(∀i,i<u.aO.length->og (eO u v i).toNat=s (eO u v i))->K 10=D v->Q (.cF 2) K X):ee N (.loop R9) z t Q:=by
 have eM:=h.ok.fp;have bx:=h.ok.g3;have kH:=h.ok.iH;have hI:=h.ok.hj;have aG:dk u u.aZ.length=dk u 0+u.aZ.length:=by unfold dk;omega
 have aw5: ∀j,j<0+1->j<u.aO.length->g (eO u v j).toNat=s (eO u v j):= λj aV _=>by obtain rfl:j=0:=(by omega);exact Kz
 refine gP (ay:=⟨[zz u h.ok],[]⟩) (λi z t=>(∃g,uC s aq g t/\aR g/\ ∀j,j<i+1->j<u.aO.length->g (eO u v j).toNat=s (eO u v j))/\uz u R s aq z t/\z 10=D v/\z 11=D (i+1:Nat)) (u.aO.length-1) ?_ ?_ 0 z t (gd _) ⟨⟨g,nM,aH,aw5⟩,lL,ey,by simpa using fr⟩
 ·rintro i z t Y ⟨⟨g,nM,aH,xv⟩,lL,ey,fr⟩ bO a1;obtain⟨dy,hd,e0,eB,bH,bD,cf,cz⟩:=id lL;have jo:=aF dy;have tX:=aF hd;have gO:=nM.mu;have cn:=aF gO;have WW:i+1<u.aO.length:=(by omega);have BT:=oM h.ok M WW;obtain⟨b7,l7⟩: ∃b7,b7=eO u v (i+1):=⟨_,rfl⟩;have mi:=NJ (u:=u) (h:=h.ok) (v:=v) (i:=i+1) (by omega);rw[<-l7]at BT mi;obtain⟨r,ar⟩: ∃r,r=fc (u.aO.length-1) λj=>s (eO u v (j+1)):=⟨_,rfl⟩;have sN:(tv u s)[v]?=some r:=(by rw[ar];exact rl M);have EL:v<(tv u s).length:=(by simp[tv];exact M);have cQ:(tv u s)[v]=r:=(cN.1 sN).2;have Qq:i<r.length:=(by rw[ar,r7];exact Y);have Xw:r[i]?=some (s b7):=(by rw[ar,l7];exact rl Y);have ax0:r[i]=s b7:=(cN.1 Xw).2;have Kd:((i+1:Nat):Int)=(i:Int)+1:=(by omega);rw[Kd]at fr mi;have bA:((i:Int)+1)<u.aO.length:=(by omega);have bp:IntKind.i64.wrap ((i:Int)+1+1)=(i:Int)+1+1:=db (by omega) (by omega);have cr:IntKind.i64.wrap (i:Int)=(i:Int):=db (by omega) (by omega);have jZ:0<=b7:=(by omega);have kE:b7<aq:=(by omega);have m6:b7.toNat+1<=aq:=(by omega);have mO:b7.toNat<aq:=(by omega);simp(disch:=first|omega|simp only[DI.aw];omega) [R9,aI,sy,bH,bD,cz,ey,fr,dy,hd,gO,bA,mi,jZ,kE,m6,bp,cr,cQ,EL,Qq,ax0,-NJ,-ab,-ah,-aa,-ad,-List.map_map];refine a1 _ _ ⟨⟨_,nM.aK (b7:=b7) (by omega),dH g b7 jZ aH,λj aV aim=> ?_⟩,lL.dg (λb hb=>aX hb) (λj aV=>by simp at aV;rcases aV with rfl|rfl|rfl|rfl<;>simp),by simp[ey],by simp⟩;by_cases e:j=i+1
  ·subst e;rw[l7,if_pos rfl]
  ·exact J3 jZ (by have:=oM h.ok M aim;omega) (xv j (by omega) aim)
 ·rintro z t ⟨⟨g,nM,aH,xv⟩,lL,ey,fr⟩;obtain⟨dy,hd,e0,eB,bH,bD,cf,cz⟩:=id lL;have jo:=aF dy;have aN:((u.aO.length-1+1:Nat):Int)=u.aO.length:=(by omega);rw[aN]at fr;simp(disch:=first|omega|simp only[DI.aw];omega) [R9,aI,bH,fr,dy,-ab,-ah,-aa,-ad,-List.map_map];exact a6 _ _ g (lL.dg (λ_ _=>rfl) λj aV=>by simp at aV;rcases aV with rfl|rfl|rfl|rfl<;>simp) nM aH (λi Y=>xv i (by omega) Y) (by simp[ey])
theorem auk{u:aL}(h:cL u){R:List Int}{s:Int->Bool}{aq:Nat}(dM:dk u u.aZ.length=aq){z:aD}{t:G}{Q:cO->aD->G->Prop}{g:Nat->Bool}(lL:uz u R s aq z t)(nM:uC s aq g t)(ey:z 10=D 0)
 (a6: ∀(K:aD) (X:G) (og:Nat->Bool),uz u R s aq K X->uC s aq og X->(∀w i,w<u.a2.length->i<u.aO.length->og (eO u w i).toNat=s (eO u w i))->Q (.cF 0) K X):ee N (.loop Sa) z t Q:=by
 have eM:=h.ok.fp;have bx:=h.ok.g3;have kH:=h.ok.iH;have hI:=h.ok.hj;have aG:dk u u.aZ.length=dk u 0+u.aZ.length:=by unfold dk;omega
 refine gP (ay:=⟨[zz u h.ok],[]⟩) (λv z t=>(∃g,uC s aq g t/\ ∀w i,w<v->w<u.a2.length->i<u.aO.length->g (eO u w i).toNat=s (eO u w i))/\uz u R s aq z t/\z 10=D v) u.a2.length ?_ ?_ 0 z t (gd _) ⟨⟨g,nM,λw i aQ=>absurd aQ (DL _)⟩,lL,ey⟩
 ·rintro v z t M ⟨⟨g,nM,xv⟩,lL,ey⟩ bO a1;obtain⟨dy,hd,e0,eB,bH,bD,cf,cz⟩:=id lL;have jo:=aF dy;have tX:=aF hd;have gO:=nM.mu;have cn:=aF gO;have BT:=oM h.ok M (i:=0) bx;obtain⟨b7,l7⟩: ∃b7,b7=eO u v 0:=⟨_,rfl⟩;have mi:=NJ (u:=u) (h:=h.ok) (v:=v) (i:=0) (by omega);rw[<-l7]at BT mi;obtain⟨r,ar⟩: ∃r,r=fc (u.aO.length-1) λj=>s (eO u v (j+1)):=⟨_,rfl⟩;have sN:(tv u s)[v]?=some r:=(by rw[ar];exact rl M);have EL:v<(tv u s).length:=(by simp[tv];exact M);have cQ:(tv u s)[v]=r:=(cN.1 sN).2;have Qq:r.length=u.aO.length-1:=(by rw[ar];exact r7);have Xu:(r.length:Int)=(u.aO.length:Int)-1:=(by omega);have XT:(Bm u s)[v]?=some (s b7):=(by rw[l7];exact rl M);have EM:v<(Bm u s).length:=(by simp[Bm];exact M);have ot:(Bm u s)[v]=s b7:=(cN.1 XT).2;have bA:(v:Int)<u.a2.length:=(by omega);have bp:=fB (n:=v) (by omega);have cr:IntKind.i64.wrap ((u.aO.length:Int)-1)=(u.aO.length:Int)-1:=db (by omega) (by omega);have jZ:0<=b7:=(by omega);have kE:b7<aq:=(by omega);have m6:b7.toNat+1<=aq:=(by omega);have mO:b7.toNat<aq:=(by omega);have avl:((0:Nat):Int)=0:=rfl;rw[avl]at mi;simp(disch:=first|omega|simp only[DI.aw];omega) [Sa,aI,sy,bH,bD,cz,ey,dy,hd,gO,bA,mi,jZ,kE,m6,cr,cQ,EL,Xu,ot,EM,-NJ,-ab,-ah,-aa,-ad,-List.map_map];have Ws:uz u R s aq z (t.aK 15 (some ⟨(fc aq λx=>mn (g x)).set b7.toNat (mn (s b7)),true⟩)):=lL.dg (λb hb=>aX hb) λ_ _=>rfl;have Wx:=nM.aK (b7:=b7) (by omega);refine auj h dM M (aR:= λg=> ∀w i,w<v->w<u.a2.length->i<u.aO.length->g (eO u w i).toNat=s (eO u w i)) (λg b7 l7 dH w i A E ao=>J3 l7 (by have:=oM h.ok E ao;omega) (dH w i A E ao)) (Ws.dg (λ_ _=>rfl) λj aV=>by simp at aV;rcases aV with rfl|rfl|rfl|rfl<;>simp) Wx (λw i bB cC dO=>J3 jZ (by have:=oM h.ok cC dO;omega) (xv w i bB cC dO)) (by rw[<-l7,if_pos rfl]) (by simp[ey]) (by simp) λK X og Wt KH Wy mA arB=> ?_;simp(disch:=first|omega|simp only[DI.aw];omega) [arB,bp,-ab,-ah,-aa,-ad,-List.map_map];refine a1 _ _ ⟨⟨og,KH,λw i bB cC dO=> ?_⟩,Wt.dg (λ_ _=>rfl) (λj aV=>by simp at aV;rcases aV with rfl|rfl|rfl|rfl<;>simp),by simp⟩;by_cases e:w=v
  ·subst e;exact mA i dO
  ·exact Wy w i (by omega) cC dO
 ·rintro z t ⟨⟨g,nM,xv⟩,lL,ey⟩;obtain⟨dy,hd,e0,eB,bH,bD,cf,cz⟩:=id lL;have jo:=aF dy;simp(disch:=first|omega|simp only[DI.aw];omega) [Sa,aI,bH,ey,dy,-ab,-ah,-aa,-ad,-List.map_map];exact a6 _ _ g (lL.dg (λ_ _=>rfl) λj aV=>by simp at aV;rcases aV with rfl|rfl|rfl|rfl<;>simp) nM λw i aQ Y=>xv w i aQ aQ Y
theorem aul{u:aL}(h:cL u){R:List Int}{s:Int->Bool}{aq:Nat}(dM:dk u u.aZ.length=aq){z:aD}{t:G}{Q:cO->aD->G->Prop}{g:Nat->Bool}(lL:uz u R s aq z t)(nM:uC s aq g t)(yL: ∀w i,w<u.a2.length->i<u.aO.length->g (eO u w i).toNat=s (eO u w i))(fM:z 12=D 0)
 (a6: ∀(K:aD) (X:G) (og:Nat->Bool),uz u R s aq K X->uC s aq og X->(∀w i,w<u.a2.length->i<u.aO.length->og (eO u w i).toNat=s (eO u w i))->(∀d,d<u.aZ.length->og (dk u d).toNat=s (dk u d))->Q (.cF 4) K X):ee N (.loop Sb) z t Q:=by
 have eM:=h.ok.fp;have bx:=h.ok.g3;have kH:=h.ok.iH;have hI:=h.ok.hj;have kb:=wD h.ok;have aG: ∀d,dk u d=dk u 0+d:= λd=>by unfold dk;omega
 refine gP (ay:=⟨[Dd u h.ok],[]⟩) (λv z t=>(∃g,uC s aq g t/\(∀w i,w<u.a2.length->i<u.aO.length->g (eO u w i).toNat=s (eO u w i))/\ ∀d,d<v->d<u.aZ.length->g (dk u d).toNat=s (dk u d))/\uz u R s aq z t/\z 12=D v) u.aZ.length ?_ ?_ 0 z t (gd _) ⟨⟨g,nM,yL,λd aW=>absurd aW (DL _)⟩,lL,fM⟩
 ·rintro v z t M ⟨⟨g,nM,yL,xv⟩,lL,fM⟩ bO a1;obtain⟨dy,hd,e0,eB,bH,bD,cf,cz⟩:=id lL;have jo:=aF dy;have tX:=aF hd;have gO:=nM.mu;have cn:=aF gO;have aN:=aG v;have ct:=aG u.aZ.length;obtain⟨b7,l7⟩: ∃b7,b7=dk u v:=⟨_,rfl⟩;have mi:=adq (u:=u) (h:=h.ok) (d:=v) (by omega);rw[<-l7]at aN mi;have XT:(BV u s)[v]?=some (s b7):=(by rw[l7];exact rl M);have EM:v<(BV u s).length:=(by simp[BV];exact M);have ot:(BV u s)[v]=s b7:=(cN.1 XT).2;have bA:(v:Int)<u.aZ.length:=(by omega);have bp:=fB (n:=v) (by omega);have jZ:0<=b7:=(by omega);have kE:b7<aq:=(by omega);have m6:b7.toNat+1<=aq:=(by omega);have mO:b7.toNat<aq:=(by omega);simp(disch:=first|omega|simp only[DI.aw];omega) [Sb,aI,sy,bH,bD,cz,fM,dy,hd,gO,bA,mi,jZ,kE,m6,bp,ot,EM,-adq,-ab,-ah,-aa,-ad,-List.map_map];refine a1 _ _ ⟨⟨_,nM.aK (b7:=b7) (by omega),λw i aQ Y=> ?_,λd aW v7=> ?_⟩,lL.dg (λb hb=>aX hb) (λj aV=>by simp at aV;rcases aV with rfl|rfl|rfl|rfl<;>simp),by simp⟩
  ·exact J3 jZ (by have:=oM h.ok aQ Y;omega) (yL w i aQ Y)
  ·by_cases e:d=v
   ·subst e;rw[l7,if_pos rfl]
   ·exact J3 jZ (by have:=aG d;omega) (xv d (by omega) v7)
 ·rintro z t ⟨⟨g,nM,yL,xv⟩,lL,fM⟩;obtain⟨dy,hd,e0,eB,bH,bD,cf,cz⟩:=id lL;have jo:=aF dy;simp(disch:=first|omega|simp only[DI.aw];omega) [Sb,aI,bH,fM,dy,-ab,-ah,-aa,-ad,-List.map_map];exact a6 _ _ g (lL.dg (λ_ _=>rfl) λj aV=>by simp at aV;rcases aV with rfl|rfl|rfl|rfl<;>simp) nM yL λd aW=>xv d aW aW
theorem Pl{aq:Nat}{g:Nat->Bool}{b7:Int}(bX:0<=b7)(A:b7<aq):gX (fc aq g) b7=g b7.toNat:=by unfold gX;rw[m7,rl (by omega)];rfl
theorem aF5{u:aL}(h:cL u)(A:1<=u.a2.length){R:List Int}{s:Int->Bool}(H:s 0=true/\s 1=false):bP N 31 [.agg (aI u).toArray,bq R,.agg (sy u s).toArray] (.bool (decide (jQ (ef u R) s<o1 u))):=by
 have eM:=h.ok.fp;have hI:=h.ok.hj;have kH:=h.ok.iH;have bx:=h.ok.g3;have kb:=wD h.ok;refine dJ (c3 (ay:=⟨[Ui u h],[QC u h]⟩) amc (by kernel_rfl) (by simp[R8]) ?_);have gb:(Bm u s).length=u.a2.length:=r7;have abi:(tv u s).length=u.a2.length:=r7;have jS:(BV u s).length=u.aZ.length:=r7;have aG: ∀d,dk u d=dk u 0+d:= λd=>by unfold dk;omega
 have aPp:=aG u.aZ.length;obtain⟨aq,dM⟩: ∃aq:Nat,dk u u.aZ.length=aq:=⟨(dk u u.aZ.length).toNat,by omega⟩;have aiv:(hK u R).dF=aq:=dM;have eQ:(aq:Int)<=140737488355328/\(aq:Int)<=9223372036854775807:=by omega
 have KM:2<=aq:=by omega
 have awH:0<aq/\1<=aq:=by omega
 simp(disch:=first|omega|simp only[DI.aw];omega) [R8,amb,aI,gb,abi,jS,aiv,eQ,awH,-ab,-ah,-aa,-ad,-List.map_map];generalize dq:G.aK _ 15 (some (en.mk ((List.replicate aq (Value.bool false)).set 0 (Value.bool true)) true))=W;have aM:W.F 0=some ⟨aI u,true⟩:=by rw[<-dq];simp(disch:=first|omega|simp only[DI.aw];omega) [aI,-ab,-ah,-aa,-ad,-List.map_map]
 have aE:W.F 1=some ⟨sy u s,true⟩:=by rw[<-dq];simp(disch:=first|omega|simp only[DI.aw];omega) [-ab,-ah,-aa,-ad,-List.map_map]
 have yE:W.F 9=some ⟨[D aq,D 0,D 1,bN 12 (ef u R).length 4],true⟩:=by rw[<-dq];simp(disch:=first|omega|simp only[DI.aw];omega) [-ab,-ah,-aa,-ad,-List.map_map]
 have PG:W.F 12=some ⟨fA (ef u R),true⟩:=by rw[<-dq];simp(disch:=first|omega|simp only[DI.aw];omega) [-ab,-ah,-aa,-ad,-List.map_map]
 have nM:uC s aq (λx=>decide (x=0)) W:=by refine⟨?_,rfl,rfl⟩;rw[<-dq,cb (by simp[fE]),TR,A3];congr 2;refine rk λj aV=> ?_;by_cases c:j=0<;>simp[c]
 clear dq;refine auk h dM (R:=R) ⟨aM,aE,yE,PG,by simp,by simp,by simp,by simp⟩ nM (by simp) λc2 dR a5 Ws Wx yL=> ?_;simp(disch:=first|omega|simp only[DI.aw];omega) [amd,-ab,-ah,-aa,-ad,-List.map_map];refine aul h dM (Ws.dg (λ_ _=>rfl) λj aV=>by simp at aV;rcases aV with rfl|rfl|rfl|rfl<;>simp) Wx yL (by simp) λvK t3 ch Wt KH aw3 aw7=> ?_;obtain⟨dy,hd,e0,eB,bH,bD,cf,cz⟩:=id Wt;have jo:=aF dy;have sR:=aF e0;simp(disch:=first|omega|simp only[DI.aw];omega) [ame,cf,cz,e0,-ab,-ah,-aa,-ad,-List.map_map];have gO:t3.F 15=some ⟨(fc aq ch).map (Value.bool ·),true⟩:=by rw[KH.mu,C8]
 have dc:(fc aq ch).length=aq:=r7;have KY:=aF3 (n:=hK u R) (OR A) (cg:=fc aq ch) (λe=>by have:=congrArg List.length e;rw[dc]at this;simp at this;omega) eB gO;rw[dc,aiv]at KY;refine KY.bt λv X ⟨M,a8⟩=> ?_;subst M;subst a8;have Aq:=auC h.ok (R:=R) (cg:=fc aq ch) (s:=s) (by rw[dc,dM]) H.1 H.2 (by rw[Pl (by omega) (by omega)];exact KH.aM) (by rw[Pl (by omega) (by omega)];exact KH.aE) (λv i M Y=>by
  have:=oM h.ok M Y;rw[Pl (by omega) (by omega)];exact aw3 v i M Y) (λd aW=>by
  have:=aG d;rw[Pl (by omega) (by omega)];exact aw7 d aW)
 rw[Aq];simp(disch:=first|omega|simp only[DI.aw];omega) [amf,aI,bH,dy,-ab,-ah,-aa,-ad,-List.map_map]
end Go.Proofs.YtmmkkggfmigppaaGreat
