/-
  A part of the proof of the statement, in texts that tools of ours (wip/shrink.py, irpack.py, relax.py, minify.py, join.py, lay.py) have shortened.
-/
import Derived.Test.YtmmkkggfmigppaaGreatZan
set_option linter.all false
set_option maxRecDepth 8000
set_option maxHeartbeats 16000000
namespace Go.Proofs.YtmmkkggfmigppaaGreat
open Go Go.DI Go.Big
theorem kO{o:Nat}{n J:Int}{t:W}{l:List Int}(h:0<=J/\J<1000000/\l.length<=140737488355328/\n<=1000000):Eb o n t (some ⟨[aj (l.map λx=>[Y x]) 1,.int .i64 J],true⟩)=some (Y (eU l J.toNat n),t.a0 o (some ⟨[cp l,Y (J+1)],true⟩)):=by obtain⟨i,rfl⟩:=jS h.1;rw[ot];exact aAZ (i:=i) ⟨by omega,h.2.2⟩
section
variable {l:List Int} {i:Nat} {M:Int} {fI fJ il g9:Value} {ds:List gB} {cy:List mQ} {t:W}
theorem kU.at(h:kU l i M fI fJ il g9 ds cy t){J:Int}{cU:Nat}(bK:J=cU):kU l cU M fI fJ il g9 ds cy (t.a0 0 (some ⟨[cp l,Y J],true⟩)):=by subst bK;obtain⟨iF,or,⟨aN,aK,fo,sw,hW,gb,hr,nG⟩⟩:=h;exact⟨iF,or,eD (a6 aN),by rw[bR (by decide)];exact aK,by rw[bR (by decide)];exact fo,by rw[bR gb.1];exact sw,by rw[bR hr.1];exact hW,gb,hr,nG⟩
theorem x3(h:kU l i M fI fJ il g9 ds cy t)(az:ds.length<1000){jM y8 jc:Int}{cj:Value->W->Prop}(iB: ∀aI,kU l i M fI fJ il g9 (ds++[h1 ds.length jM y8 jc]) cy aI->cj (Y ds.length) aI):fi al 108 [cw 6,Y jM,Y y8,Y jc] t cj:=by
  obtain⟨iF,or,⟨aN,aK,fo,sw,hW,gb,hr,nG⟩⟩:=h;refine akE fo sw gb.2.2 az λaI Im aE G ka qL wu=>iB aI ⟨Im,or,?_,?_,ka,qL,?_,?_,hr,?_⟩
  · rw[wu 0 (a6 aN) (by decide) (λe=>gb.1 e.symm)];exact aN
  · rw[wu 1 (a6 aK) (by decide) (λe=>gb.2.1 e.symm)];exact aK
  · rw[wu or (a6 hW) hr.2.2 (λe=>nG e.symm)];exact hW
  · have:=a6 fo;exact⟨by omega,by omega,by omega⟩
  · have:=a6 hW;omega
end
def I4:List Nat:=[0,1,4,5,6,7,8,9,10]
theorem aD1: ∀k∈I4,k∈I0:=by decide
theorem aRp{A ak:aR}(dk:ak 0=A 0)(E:ak 1=A 1)(aH:ak 4=A 4)(br:ak 5=A 5)(cW:ak 6=A 6)(fu:ak 7=A 7)(hK:ak 8=A 8)(iZ:ak 9=A 9)(x9:ak 10=A 10): ∀k∈I4,ak k=A k:= λk aa=>by simp only[I4,hH,jm,or_false]at aa;rcases aa with rfl|rfl|rfl|rfl|rfl|rfl|rfl|rfl|rfl<;>assumption
theorem NG{l:List Int}(aB:l.length<=140737488355328){M:Int}{fI fJ il g9:Value}{ds:List gB}{cy:List mQ}{i rY:Nat}(aD:qx ds)(aw:pP ds cy)(iZ:cy.length<=9)(ai:i+10<1000000)(aa:kE ds rY 3)(az:ds.length<900):
    ∃ fL jO cU,qx fL/\pP fL jO/\(jO.length<=9/\1<=jO.length)/\fL.length=ds.length+1/\cU<=i+4/\(∀a v,kE ds a v->kE fL a v)/\ ∀(A:aR) (t:W) (Q:dA->aR->W->Prop),A 0=cw 0->A 5=cw 6->A 9=Y rY->kU l i M fI fJ il g9 ds cy t->
      (∀ak aI,(∀s∈I4,ak s=A s)->kU l cU M fI fJ il g9 fL jO aI->Q .ew ak aI)->jn (P:=al) ⟨[mv],[iQ]⟩ To A t Q:=by
  have fs:=j0 (l:=l) (i:=i) (n:=9) (by decide);have g7:=j0 (l:=l) (i:=i+1) (n:=2) (by decide);obtain⟨bt,a2⟩: ∃bt,bt=8+eU l i 9:=⟨_,rfl⟩;obtain⟨k,yh⟩:=jS (show 0<=1+eU l (i+1) 2 by omega);have alT:=aD.add (jM:=4) (jc:=bt) (p:=rY) aa (by decide) (by decide) (by omega) (by omega);obtain⟨jO,cU,bu,bN,cn,eW,fU⟩:=akK (l:=l) aB (M:=M) (fI:=fI) (fJ:=fJ) (il:=il) (g9:=g9) (ds:=ds++[h1 ds.length 4 rY bt]) (m:=ds.length) vv k (i+2) cy aw.app iZ (by omega);refine⟨_,jO,cU,alT,bu,⟨bN,by omega⟩,by simp,by omega,λa v h=>h.app,λA t Q cE cq gT kc b2=> ?_⟩;obtain⟨iF,or,ax⟩:=kc;have aN:=ax.aN;have fl:=a6 aN;have aEQ:IntKind.i64.wrap (8+eU l i 9)=8+eU l i 9:=fV (by omega) (by omega);simp(disch:=first|omega|simp only[aO];omega) [To,ae7,cE,cq,gT,aN,kO,aEQ,-O,-U,-N,-S,-List.map_map];rw[<-a2];refine x3 (kU.at ⟨iF,or,ax⟩ (cU:=i+1) (by omega)) (by omega) λbD E=> ?_;obtain⟨Io,Iv,lJ⟩:=E;obtain⟨k2,p1⟩: ∃k2,k2=i+1:=⟨_,rfl⟩;have aK:=lJ.aN;rw[<-p1]at aK lJ yh g7;have gu:=a6 aK;have c8:IntKind.i64.wrap (1+eU l k2 2)=(k:Int):=by rw[yh];exact fV (by omega) (by omega)
  simp(disch:=first|omega|simp only[aO];omega) [cE,aK,kO,c8,-O,-U,-N,-S,-List.map_map];refine fU _ _ _ (by simp[cE]) (by simp[cq]) (by simp) (by simp) (kU.at ⟨Io,Iv,lJ⟩ (cU:=i+2) (by omega)) λak aI K rK=> ?_;simp(disch:=first|omega|simp only[aO];omega) [-O,-U,-N,-S,-List.map_map];exact b2 _ _ (λs fk=>(K s (aD1 s fk)).trans (by simp only[I4,hH,jm,or_false]at fk;rcases fk with rfl|rfl|rfl|rfl|rfl|rfl|rfl|rfl|rfl<;>simp)) rK
theorem am5:IntKind.i64.wrap 1=1:=fV (by decide) (by decide)
def xx:List Nat:=[0,1,4,5,6]
theorem aAt{l:List Int}(aB:l.length<=140737488355328){M:Int}{fI fJ il g9:Value}{ds:List gB}{cy:List mQ}{i j gH rY:Nat}(aD:qx ds)(aw:pP ds cy)(iZ:cy.length<=9)(bj:j<1000)(ai:i+30<1000000)(az:ds.length<800)(aa:j=0\/(kE ds gH 2/\kE ds rY 3)):
    ∃ (fL:List gB) (jO:List mQ) (cU aht ahi:Nat),qx fL/\pP fL jO/\(jO.length<=9/\1<=jO.length)/\fL.length<=ds.length+4/\cU<=i+9/\kE fL aht 2/\kE fL ahi 3/\ ∀(A:aR) (t:W) (Q:dA->aR->W->Prop),A 0=cw 0->A 5=cw 6->A 8=Y gH->A 9=Y rY->A 10=Y j->kU l i M fI fJ il g9 ds cy t->
      (∀ak aI,(∀s∈xx,ak s=A s)->ak 8=Y aht->ak 9=Y ahi->ak 10=Y (j+1:Nat)->kU l cU M fI fJ il g9 fL jO aI->Q .ew ak aI)->jn (P:=al) ⟨[mv],[iQ]⟩ DB A t Q:=by
  have cg:=gY (n:=j) (by omega);by_cases Cn:j=0
  · subst Cn;have Cn:(0:Int)=0:=rfl;have j:Nat:=0;have bu:=j0 (l:=l) (i:=i) (n:=17) (by decide);have bN:=j0 (l:=l) (i:=i+1) (n:=17) (by decide);have cn:=j0 (l:=l) (i:=i+2) (n:=9) (by decide);obtain⟨lx,E⟩: ∃bt,bt=16+eU l i 17:=⟨_,rfl⟩;obtain⟨nQ,I⟩: ∃bt,bt=16+eU l (i+1) 17:=⟨_,rfl⟩;obtain⟨oW,av⟩: ∃bt,bt=8+eU l (i+2) 9:=⟨_,rfl⟩;have q5:kE ds 0 (1-1):=⟨_,aD.q5,rfl⟩;have g5:=aD.add (jM:=1) (jc:=lx) (p:=0) q5 (by decide) (by decide) (by omega) (by omega);have gN:=g5.add (jM:=2) (jc:=nQ) (p:=ds.length) vv (by decide) (by decide) (by omega) (by omega);have jo:=gN.add (jM:=3) (jc:=oW) (p:=(ds++[h1 ds.length 1 (0:Nat) lx]).length) vv (by decide) (by decide) (by omega) (by omega);have aJ:(ds++[h1 ds.length 1 ((0:Nat):Int) lx]).length=ds.length+1:=(by simp);have aU:(ds++[h1 ds.length 1 ((0:Nat):Int) lx]++[h1 (ds.length+1) 2 (ds.length:Int) nQ]).length=ds.length+2:=(by simp);rw[aJ]at gN jo;rw[aU]at jo;have hd:kE (ds++[h1 ds.length 1 ((0:Nat):Int) lx]++[h1 (ds.length+1) 2 (ds.length:Int) nQ]) (ds.length+1) 2:=by
      have:=vv (ds:=ds++[h1 ds.length 1 ((0:Nat):Int) lx]) (jM:=2) (jc:=nQ) (p:=ds.length);rw[aJ]at this;exact this
    have jw:kE (ds++[h1 ds.length 1 ((0:Nat):Int) lx]++[h1 (ds.length+1) 2 (ds.length:Int) nQ]++[h1 (ds.length+2) 3 ((ds.length+1:Nat):Int) oW]) (ds.length+2) 3:=by have:=vv (ds:=ds++[h1 ds.length 1 ((0:Nat):Int) lx]++[h1 (ds.length+1) 2 (ds.length:Int) nQ]) (jM:=3) (jc:=oW) (p:=(ds.length+1:Nat));rw[aU]at this;exact this
    obtain⟨fL,jO,cU,dd,ee,gm,gq,lf,lX,rr⟩:=NG (l:=l) aB (M:=M) (fI:=fI) (fJ:=fJ) (il:=il) (g9:=g9) (i:=i+3) jo aw.app.app.app iZ (by omega) jw (by simp;omega);refine⟨fL,jO,cU,ds.length+1,ds.length+2,dd,ee,gm,by simp at gq;omega,by omega,lX _ _ (hd.app),lX _ _ jw,λA t Q cE cq b9 gT hE kc b2=> ?_⟩;obtain⟨iF,or,ax⟩:=kc;have aN:=ax.aN;have fl:=a6 aN;have c8:IntKind.i64.wrap (16+eU l i 17)=lx:=(by rw[E];exact fV (by omega) (by omega));simp(disch:=first|omega|simp only[aO];omega) [DB,cE,cq,hE,aN,kO,c8,-O,-U,-N,-S,-List.map_map];refine x3 (kU.at ⟨iF,or,ax⟩ (cU:=i+1) (by omega)) (by omega) λbD jF=> ?_;obtain⟨Io,Iv,lJ⟩:=jF;obtain⟨k2,p1⟩: ∃k2,k2=i+1:=⟨_,rfl⟩;have aK:=lJ.aN;have gu:=a6 aK;rw[<-p1]at aK lJ I bN;have e7:IntKind.i64.wrap (16+eU l k2 17)=nQ:=(by rw[I];exact fV (by omega) (by omega));simp(disch:=first|omega|simp only[aO];omega) [HN,cE,cq,aK,kO,e7,-O,-U,-N,-S,-List.map_map];refine x3 (ds:=ds++[h1 ds.length 1 ((0:Nat):Int) lx]) (kU.at ⟨Io,Iv,lJ⟩ (cU:=i+2) (by omega)) (by omega) λiW tx=> ?_;obtain⟨Uo,xf,sC⟩:=tx;obtain⟨ks,ln⟩: ∃ks,ks=i+2:=⟨_,rfl⟩;have bb:=sC.aN;have ga:=a6 bb;rw[<-ln]at bb sC av cn;rw[aJ]at sC⊢;have ni:IntKind.i64.wrap (8+eU l ks 9)=oW:=(by rw[av];exact fV (by omega) (by omega));simp(disch:=first|omega|simp only[aO];omega) [cE,cq,bb,kO,ni,-O,-U,-N,-S,-List.map_map];refine x3 (ds:=ds++[h1 ds.length 1 ((0:Nat):Int) lx]++[h1 (ds.length+1) 2 (ds.length:Int) nQ]) (kU.at ⟨Uo,xf,sC⟩ (cU:=i+3) (by omega)) (by omega) λOL rD=> ?_;rw[aU]at rD⊢;simp(disch:=first|omega|simp only[aO];omega) [-O,-U,-N,-S,-List.map_map];refine rr _ _ _ (by simp[cE]) (by simp[cq]) (by simp) rD λak aI K rK=> ?_;have Ar:=(K 10 (by decide)).trans (show _=Y (0:Nat) by simp[hE]);simp(disch:=first|omega|simp only[aO];omega) [Ar,-O,-U,-N,-S,-List.map_map];exact b2 _ _ (λs fk=>by
      simp only[xx,hH,jm,or_false]at fk;rcases fk with rfl|rfl|rfl|rfl|rfl
      · simpa using K 0 (by decide)
      · simpa using K 1 (by decide)
      · simpa using K 4 (by decide)
      · simpa using K 5 (by decide)
      · simpa using K 6 (by decide)) (by simpa using K 8 (by decide)) (by simpa using K 9 (by decide)) (by simp[am5]) rK
  obtain⟨hd,jw⟩:=aa.resolve_left Cn;by_cases qG:eU l i 4=0
  · skip
    have bu:=j0 (l:=l) (i:=(i+1)) (n:=17) (by decide);have bN:=j0 (l:=l) (i:=(i+1)+1) (n:=17) (by decide);have cn:=j0 (l:=l) (i:=(i+1)+2) (n:=9) (by decide);obtain⟨lx,E⟩: ∃bt,bt=16+eU l (i+1) 17:=⟨_,rfl⟩;obtain⟨nQ,I⟩: ∃bt,bt=16+eU l ((i+1)+1) 17:=⟨_,rfl⟩;obtain⟨oW,av⟩: ∃bt,bt=8+eU l ((i+1)+2) 9:=⟨_,rfl⟩;have q5:kE ds 0 (1-1):=⟨_,aD.q5,rfl⟩;have g5:=aD.add (jM:=1) (jc:=lx) (p:=0) q5 (by decide) (by decide) (by omega) (by omega);have gN:=g5.add (jM:=2) (jc:=nQ) (p:=ds.length) vv (by decide) (by decide) (by omega) (by omega);have jo:=gN.add (jM:=3) (jc:=oW) (p:=(ds++[h1 ds.length 1 (0:Nat) lx]).length) vv (by decide) (by decide) (by omega) (by omega);have aJ:(ds++[h1 ds.length 1 ((0:Nat):Int) lx]).length=ds.length+1:=(by simp);have aU:(ds++[h1 ds.length 1 ((0:Nat):Int) lx]++[h1 (ds.length+1) 2 (ds.length:Int) nQ]).length=ds.length+2:=(by simp);rw[aJ]at gN jo;rw[aU]at jo;have hd:kE (ds++[h1 ds.length 1 ((0:Nat):Int) lx]++[h1 (ds.length+1) 2 (ds.length:Int) nQ]) (ds.length+1) 2:=(by have:=vv (ds:=ds++[h1 ds.length 1 ((0:Nat):Int) lx]) (jM:=2) (jc:=nQ) (p:=ds.length);rw[aJ]at this;exact this);have jw:kE (ds++[h1 ds.length 1 ((0:Nat):Int) lx]++[h1 (ds.length+1) 2 (ds.length:Int) nQ]++[h1 (ds.length+2) 3 ((ds.length+1:Nat):Int) oW]) (ds.length+2) 3:=by have:=vv (ds:=ds++[h1 ds.length 1 ((0:Nat):Int) lx]++[h1 (ds.length+1) 2 (ds.length:Int) nQ]) (jM:=3) (jc:=oW) (p:=(ds.length+1:Nat));rw[aU]at this;exact this
    obtain⟨fL,jO,cU,dd,ee,gm,gq,lf,lX,rr⟩:=NG (l:=l) aB (M:=M) (fI:=fI) (fJ:=fJ) (il:=il) (g9:=g9) (i:=(i+1)+3) jo aw.app.app.app iZ (by omega) jw (by simp;omega);refine⟨fL,jO,cU,ds.length+1,ds.length+2,dd,ee,gm,by simp at gq;omega,by omega,lX _ _ (hd.app),lX _ _ jw,λA t Q cE cq b9 gT hE kc b2=> ?_⟩;obtain⟨iF,or,ax⟩:=kc;have aN:=ax.aN;have fl:=a6 aN;have c8:IntKind.i64.wrap (16+eU l (i+1) 17)=lx:=(by rw[E];exact fV (by omega) (by omega));simp(disch:=first|omega|simp only[aO];omega) [DB,cE,cq,hE,aN,kO,Cn,qG,c8,-O,-U,-N,-S,-List.map_map];refine x3 (kU.at ⟨iF,or,ax⟩ (cU:=(i+1)+1) (by omega)) (by omega) λbD jF=> ?_;obtain⟨Io,Iv,lJ⟩:=jF;obtain⟨k2,p1⟩: ∃k2,k2=(i+1)+1:=⟨_,rfl⟩;have aK:=lJ.aN;have gu:=a6 aK;rw[<-p1]at aK lJ I bN;have e7:IntKind.i64.wrap (16+eU l k2 17)=nQ:=(by rw[I];exact fV (by omega) (by omega));simp(disch:=first|omega|simp only[aO];omega) [HN,cE,cq,aK,kO,e7,-O,-U,-N,-S,-List.map_map];refine x3 (ds:=ds++[h1 ds.length 1 ((0:Nat):Int) lx]) (kU.at ⟨Io,Iv,lJ⟩ (cU:=(i+1)+2) (by omega)) (by omega) λiW tx=> ?_;obtain⟨Uo,xf,sC⟩:=tx;obtain⟨ks,ln⟩: ∃ks,ks=(i+1)+2:=⟨_,rfl⟩;have bb:=sC.aN;have ga:=a6 bb;rw[<-ln]at bb sC av cn;rw[aJ]at sC⊢;have ni:IntKind.i64.wrap (8+eU l ks 9)=oW:=(by rw[av];exact fV (by omega) (by omega));simp(disch:=first|omega|simp only[aO];omega) [cE,cq,bb,kO,ni,-O,-U,-N,-S,-List.map_map];refine x3 (ds:=ds++[h1 ds.length 1 ((0:Nat):Int) lx]++[h1 (ds.length+1) 2 (ds.length:Int) nQ]) (kU.at ⟨Uo,xf,sC⟩ (cU:=(i+1)+3) (by omega)) (by omega) λOL rD=> ?_;rw[aU]at rD⊢;simp(disch:=first|omega|simp only[aO];omega) [-O,-U,-N,-S,-List.map_map];refine rr _ _ _ (by simp[cE]) (by simp[cq]) (by simp) rD λak aI K rK=> ?_;have Ar:=(K 10 (by decide)).trans (show _=Y j by simp[hE]);simp(disch:=first|omega|simp only[aO];omega) [Ar,cg,-O,-U,-N,-S,-List.map_map];exact b2 _ _ (λs fk=>by
      simp only[xx,hH,jm,or_false]at fk;rcases fk with rfl|rfl|rfl|rfl|rfl
      · simpa using K 0 (by decide)
      · simpa using K 1 (by decide)
      · simpa using K 4 (by decide)
      · simpa using K 5 (by decide)
      · simpa using K 6 (by decide)) (by simpa using K 8 (by decide)) (by simpa using K 9 (by decide)) (by simp[]) rK
  by_cases zR:eU l (i+1) 2=0
  · skip
    have cn:=j0 (l:=l) (i:=i+2) (n:=9) (by decide);obtain⟨oW,av⟩: ∃bt,bt=8+eU l (i+2) 9:=⟨_,rfl⟩;have jo:=aD.add (jM:=3) (jc:=oW) (p:=gH) hd (by decide) (by decide) (by omega) (by omega);have af2:kE (ds++[h1 ds.length 3 (gH:Int) oW]) ds.length 3:=vv;obtain⟨fL,jO,cU,dd,ee,gm,gq,lf,lX,rr⟩:=NG (l:=l) aB (M:=M) (fI:=fI) (fJ:=fJ) (il:=il) (g9:=g9) (i:=i+3) jo aw.app iZ (by omega) af2 (by simp;omega);refine⟨fL,jO,cU,gH,ds.length,dd,ee,gm,by simp at gq;omega,by omega,lX _ _ hd.app,lX _ _ af2,λA t Q cE cq b9 gT hE kc b2=> ?_⟩;obtain⟨iF,or,ax⟩:=kc;have aN:=ax.aN;have fl:=a6 aN;have ni:IntKind.i64.wrap (8+eU l (i+2) 9)=oW:=(by rw[av];exact fV (by omega) (by omega));have EJ:((i:Int)+1+1).toNat=i+2:=(by omega);have aSU:IntKind.i64.wrap (8+eU l (i+1+1) 9)=oW:=ni;simp(disch:=first|omega|simp only[aO];omega) [DB,HN,cE,cq,b9,hE,aN,kO,Cn,qG,zR,ni,EJ,-O,-U,-N,-S,-List.map_map];refine x3 (kU.at ⟨iF,or,ax⟩ (cU:=i+3) (by omega)) (by omega) λbD jF=> ?_;simp(disch:=first|omega|simp only[aO];omega) [-O,-U,-N,-S,-List.map_map];refine rr _ _ _ (by simp[cE]) (by simp[cq]) (by simp) jF λak aI K rK=> ?_;have Ar:=(K 10 (by decide)).trans (show _=Y j by simp[hE]);simp(disch:=first|omega|simp only[aO];omega) [Ar,cg,-O,-U,-N,-S,-List.map_map];exact b2 _ _ (λs fk=>by
      simp only[xx,hH,jm,or_false]at fk;rcases fk with rfl|rfl|rfl|rfl|rfl
      · simpa using K 0 (by decide)
      · simpa using K 1 (by decide)
      · simpa using K 4 (by decide)
      · simpa using K 5 (by decide)
      · simpa using K 6 (by decide)) (by simpa[b9]using K 8 (by decide)) (by simpa[gT]using K 9 (by decide)) (by simp[]) rK
  · skip
    obtain⟨fL,jO,cU,dd,ee,gm,gq,lf,lX,rr⟩:=NG (l:=l) aB (M:=M) (fI:=fI) (fJ:=fJ) (il:=il) (g9:=g9) (i:=i+2) aD aw iZ (by omega) jw (by omega);refine⟨fL,jO,cU,gH,rY,dd,ee,gm,by omega,by omega,lX _ _ hd,lX _ _ jw,λA t Q cE cq b9 gT hE kc b2=> ?_⟩;obtain⟨iF,or,ax⟩:=kc;have aN:=ax.aN;have fl:=a6 aN;simp(disch:=first|omega|simp only[aO];omega) [DB,HN,cE,hE,aN,kO,Cn,qG,zR,-O,-U,-N,-S,-List.map_map];refine rr _ _ _ (by simp[cE]) (by simp[cq]) (by simp[gT]) (kU.at ⟨iF,or,ax⟩ (cU:=i+2) (by omega)) λak aI K rK=> ?_;have Ar:=(K 10 (by decide)).trans (show _=Y j by simp[hE]);simp(disch:=first|omega|simp only[aO];omega) [Ar,cg,-O,-U,-N,-S,-List.map_map];exact b2 _ _ (λs fk=>by
      simp only[xx,hH,jm,or_false]at fk;rcases fk with rfl|rfl|rfl|rfl|rfl
      · simpa using K 0 (by decide)
      · simpa using K 1 (by decide)
      · simpa using K 4 (by decide)
      · simpa using K 5 (by decide)
      · simpa using K 6 (by decide)) (by simpa[b9]using K 8 (by decide)) (by simpa[gT]using K 9 (by decide)) (by simp[]) rK
theorem aAu{l:List Int}(aB:l.length<=140737488355328){M:Int}{fI fJ il g9:Value}{ah:Nat}(rE:ah<=100): ∀(r j i:Nat) (ds:List gB) (cy:List mQ) (gH rY:Nat),j+r=ah->qx ds->pP ds cy->cy.length<=9->ds.length<=1+4*j->i+10*r+100<1000000->(j=0\/(kE ds gH 2/\kE ds rY 3))->
    ∃ (fL:List gB) (jO:List mQ) (cU:Nat),qx fL/\pP fL jO/\(jO.length<=9/\(1<=r+cy.length->1<=jO.length))/\fL.length<=1+4*ah/\cU<=i+10*r/\ ∀(A:aR) (t:W) (Q:dA->aR->W->Prop),A 0=cw 0->A 5=cw 6->A 6=Y ah->A 8=Y gH->A 9=Y rY->A 10=Y j->kU l i M fI fJ il g9 ds cy t->
      (∀ak aI,(∀s∈xx,ak s=A s)->kU l cU M fI fJ il g9 fL jO aI->Q (.a7 0) ak aI)->fZ al (.loop ML) A t Q:=by
  intro r;induction r with
  | zero=>intro j i ds cy gH rY bj aD aw iZ az ai aa;refine⟨ds,cy,i,aD,aw,⟨iZ,by omega⟩,by omega,by omega,λA t Q cE cq ft b9 gT hE kc b2=> ?_⟩;refine eE (aC:=⟨[mv],[iQ]⟩) λcS bm=> ?_;have c: ¬(j:Int)<ah:=(by omega);have bO: ¬j<ah:=(by omega);simp(disch:=first|omega|simp only[aO];omega) [ML,ft,hE,c,-O,-U,-N,-S,-List.map_map];exact b2 _ _ (λs K=>by simp only[xx,hH,jm,or_false]at K;rcases K with rfl|rfl|rfl|rfl|rfl<;>simp) kc
  | succ r cx=>intro j i ds cy gH rY bj aD aw iZ az ai aa;obtain⟨zS,aCz,k2,aCk,aBW,bu,bN,cn,eW,fU,h4,j8,lW⟩:=aAt (l:=l) aB (M:=M) (fI:=fI) (fJ:=fJ) (il:=il) (g9:=g9) (i:=i) (j:=j) aD aw iZ (by omega) (by omega) (by omega) aa;obtain⟨X5,aCA,ks,dd,ee,gm,gq,lf,lX⟩:=cx (j+1) k2 zS aCz aCk aBW (by omega) bu bN cn.1 (by omega) (by omega) (.inr ⟨h4,j8⟩);refine⟨X5,aCA,ks,dd,ee,⟨gm.1,λ_=>gm.2 (by have:=cn.2;omega)⟩,gq,by omega,λA t Q cE cq ft b9 gT hE kc b2=> ?_⟩;refine eE (aC:=⟨[mv],[iQ]⟩) λcS bm=> ?_;have c:(j:Int)<ah:=(by omega);have bO:j<ah:=(by omega);simp(disch:=first|omega|simp only[aO];omega) [ML,ft,hE,c,-O,-U,-N,-S,-List.map_map];refine lW _ _ _ (by simp[cE]) (by simp[cq]) (by simp[b9]) (by simp[gT]) (by simp[hE]) kc λak aI K hK alx x9 ax=> ?_;have e: ∀s∈xx,ak s=A s:= λs fk=>(K s fk).trans (by simp only[xx,hH,jm,or_false]at fk;rcases fk with rfl|rfl|rfl|rfl|rfl<;>simp);simp(disch:=first|omega|simp only[aO];omega) [-O,-U,-N,-S,-List.map_map];exact bm _ _ (lX ak aI Q ((e 0 (by decide)).trans cE) ((e 5 (by decide)).trans cq) ((e 6 (by decide)).trans ft) hK alx x9 ax λvW sU Ap=>b2 vW sU λs fk=>(Ap s fk).trans (e s fk))
theorem aD6:lB 1 2:=by unfold lB;omega
theorem aB2{n:Nat}:(((List.replicate n (fx 1 2)).map eb).flatten).length=n*3:=by rw[aB1,List.length_replicate]
def I2:List Nat:=[0,1,4,5,14,15,16,17]
theorem aD0{A ak:aR}(dk:ak 0=A 0)(E:ak 1=A 1)(aH:ak 4=A 4)(br:ak 5=A 5)(Qu:ak 14=A 14)(Qv:ak 15=A 15)(Qw:ak 16=A 16)(Qx:ak 17=A 17): ∀k∈I2,ak k=A k:= λk aa=>by simp only[I2,hH,jm,or_false]at aa;rcases aa with rfl|rfl|rfl|rfl|rfl|rfl|rfl|rfl<;>assumption
theorem aCa{P pt:Nat}{aW:List Nat}{gX bu bN cn eW fU h4 j8 lW dC dd ee gm gq lf:Value}{gR:List Int}{m:Int}{R:Nat}(je:(R:Int)=if m<1 then 1 else m)(KM:R<=100)(YH: ∀b∈aW,b≠P/\b≠pt)(KL:pt≠P){Q:dA->aR->W->Prop}:
    ∀ (r n:Nat) (uh:Nat) (A:aR) (t:W),n+r=R->A 16=Y m->A 17=cw P->A 18=Y n->t.X P=some ⟨[gX,bu,bN,cn,eW,fU,h4,j8,lW,dm pt gR.length 1,dm uh n 3,dC,dd,ee,gm,gq,lf],true⟩->t.X pt=some ⟨gR.map Y,true⟩->t.X uh=some ⟨((List.replicate n (fx 1 2)).map eb).flatten,true⟩->
      uh≠P->uh≠pt->(∀b∈aW,b≠uh/\b<t.next)->
      (∀ak aI,(∀s∈I2,ak s=A s)->t.next<=aI.next->(∀b∈aW,aI.X b=t.X b)->aI.X P=some ⟨[gX,bu,bN,cn,eW,fU,h4,j8,lW,cp gR,h5 (List.replicate R (fx 1 2)),dC,dd,ee,gm,gq,lf],true⟩->Q (.a7 6) ak aI)->fZ al (.loop HO) A t Q:=by
  intro r;induction r with
  | zero=>
    intro n uh A t az mu IJ r6 x8 bU hW p5 nz dU b2;have kb:n=R:=(by omega);subst kb;have Nx:=a6 x8;have cB:=a6 bU;have tZ:=a6 hW;refine sZ (o:=pt) (p:=P) (j:=9) (J:=1) (bh:=gR.map λx=>[Y x]) (by rw[tO];exact bU) tN x8 (by simp) KL ?_;refine sZ (o:=uh) (p:=P) (j:=10) (J:=3) (bh:=(List.replicate n (fx 1 2)).map eb) (cells:=[gX,bu,bN,cn,eW,fU,h4,j8,lW,cp gR,dm uh n 3,dC,dd,ee,gm,gq,lf]) ?_ ahj ?_ (by simp) p5 ?_
    · rw[bR p5,bR nz];exact hW
    · rw[eD (by simpa using Nx)];simp
    refine eE (aC:=⟨[mv,xt],[iQ]⟩) λcS bm=> ?_;have c: ¬((n:Int)<if m<1 then 1 else m):=(by omega);simp(disch:=first|omega|simp only[aO];omega) [HO,Tw,mu,r6,c,-O,-U,-N,-S,-List.map_map];refine b2 _ _ (aD0 (by simp) (by simp) (by simp) (by simp) (by simp) (by simp) (by simp) (by simp)) (by simp) (λb hb=> ?_) ?_
    · obtain⟨a8,bE⟩:=YH b hb;obtain⟨b7,eH⟩:=dU b hb;rw[bR a8,bR b7,bR a8,bR bE]
    · rw[eD (by simpa using Nx)];simp
  | succ r cx=>
    intro n uh A t az mu IJ r6 x8 bU hW p5 nz dU b2;refine eE (aC:=⟨[mv,xt],[iQ]⟩) λcS bm=> ?_;have Nx:=a6 x8;have cB:=a6 bU;have tZ:=a6 hW;have c:(n:Int)<if m<1 then 1 else m:=by omega
    have aD5:=aD6;have cg:=gY (n:=n) (by omega);have e1:=aB2 (n:=n);have aKc:(List.replicate n [Value.bool (fx 1 2).kh,bT (fx 1 2).a,bT (fx 1 2).b]).flatten.length=n*3:=(by simpa[eb]using e1);have gh:(n+1)*56<=140737488355328/\n<=9223372036854775806:=(by omega);have aKn:P≠uh:= λe=>p5 e.symm;have amx:pt≠uh:= λe=>nz e.symm;simp(disch:=first|omega|simp only[aO];omega) [HO,Tw,mu,IJ,r6,c,x8,hW,eb,gh,cg,-O,-U,-N,-S,-List.map_map];refine bm _ _ (cx (n+1) (t.next+4) _ _ (by omega) (by simp[mu]) (by simp[IJ]) (by simp) ?_ ?_ ?_ (by omega) (by omega) (λb hb=> ?_) λak aI K G alB alG=>b2 ak aI (λs fk=>(K s fk).trans ?_) (by simp at G;omega) (λb hb=>(alB b hb).trans ?_) alG)
    · rw[eD (by simp;omega)]
    · rw[bR (by omega),bR (by omega),bR amx,bR (by omega),e0 cB];exact bU
    · rw[bR (by omega),eD (by simp),jT (by omega),List.replicate_succ'];simp[eb]
    · have:=(dU b hb).2;exact⟨by omega,by simp;omega⟩
    · simp only[I2,hH,jm,or_false]at fk;rcases fk with rfl|rfl|rfl|rfl|rfl|rfl|rfl|rfl<;>simp
    · obtain⟨a8,bE⟩:=YH b hb;obtain⟨b7,eH⟩:=dU b hb;rw[bR a8,bR (by omega),bR b7,bR (by omega),W.e0]
theorem aho{P pt:Nat}{aW:List Nat}{gX bu bN cn eW fU h4 j8 lW dC dd ee gm gq lf:Value}{gR:List Int}{m:Int}{R:Nat}(je:(R:Int)=if m<1 then 1 else m)(KM:R<=100){A:aR}{t:W}{Q:dA->aR->W->Prop}(mu:A 16=Y m)(IJ:A 17=cw P)(r6:A 18=Y 0)
    (x8:t.X P=some ⟨[gX,bu,bN,cn,eW,fU,h4,j8,lW,dm pt gR.length 1,.slice none 0 0,dC,dd,ee,gm,gq,lf],true⟩) (bU:t.X pt=some ⟨gR.map Y,true⟩) (KL:pt≠P) (dU: ∀b∈aW,b≠P/\b≠pt/\b<t.next)
    (b2: ∀ak aI,(∀s∈I2,ak s=A s)->t.next<=aI.next->(∀b∈aW,aI.X b=t.X b)->aI.X P=some ⟨[gX,bu,bN,cn,eW,fU,h4,j8,lW,cp gR,h5 (List.replicate R (fx 1 2)),dC,dd,ee,gm,gq,lf],true⟩->Q (.a7 6) ak aI):fZ al (.loop HO) A t Q:=by
  have Nx:=a6 x8;have cB:=a6 bU;refine O2 (o:=P) (j:=10) (J:=3) x8 rfl ?_;refine aCa (P:=P) (pt:=pt) (aW:=aW) (gX:=gX) (bu:=bu) (bN:=bN) (cn:=cn) (eW:=eW) (fU:=fU) (h4:=h4) (j8:=j8) (lW:=lW) (dC:=dC) (dd:=dd) (ee:=ee) (gm:=gm) (gq:=gq) (lf:=lf) (gR:=gR) je KM (λb hb=>⟨(dU b hb).1,(dU b hb).2.1⟩) KL R 0 t.next _ _ (by omega) mu IJ (by simpa using r6) ?_ ?_ ?_ (by omega) (by omega) (λb hb=> ?_) λak aI K G aa ab=>b2 ak aI K (by simp at G;omega) (λb hb=>(aa b hb).trans ?_) ab
  · rw[eD (by simp;omega)];rfl
  · rw[bR KL,bR (by omega),e0 cB];exact bU
  · rw[bR (by omega),eD (by simp)];simp
  · have:=(dU b hb).2.2;exact⟨by omega,by simp;omega⟩
  · obtain⟨a8,bE,b7⟩:=dU b hb;rw[bR a8,bR (by omega),e0 b7]
structure JJ(x:iL)(n:Nat):Prop where
  eO:x.name=kv 112 n
  k:1<=x.k/\x.k<=2
  m:0<=x.m/\x.m<=2
  q:x.k<=x.q/\x.q<=x.k+x.m
  aC:x.aC.a=0/\x.aC.b=0/\x.aC.c=0/\0<=x.aC.d/\x.aC.d<=3/\0<=x.aC.e/\x.aC.e<=2
  gR:x.bf=[0,1]\/x.bf=[0]
  j2: ∃R:Nat,(R:Int)=(if x.m<1 then 1 else x.m)/\x.j2=List.replicate R (fx 1 2)
  pE:x.pE=fx 1 1000
  fw:x.fw=fx 30 1
theorem ag1{n R:Nat}{k m q eL hs:Int}{gR:List Int}(E:1<=k/\k<=2)(I:0<=m/\m<=2)(av:k<=q/\q<=k+m)(aH:0<=eL/\eL<=3)(br:0<=hs/\hs<=2)(cW:gR=[0,1]\/gR=[0])(je:(R:Int)=if m<1 then 1 else m):JJ ⟨kv 112 n,k,m,q,⟨0,0,0,eL,hs⟩,gR,List.replicate R (fx 1 2),fx 1 1000,fx 30 1⟩ n:=
  ⟨rfl,E,I,av,⟨rfl,rfl,rfl,aH.1,aH.2,br.1,br.2⟩,cW,⟨R,je,rfl⟩,rfl,rfl⟩
def Cb(ps:List iL)(gC:Nat):Prop:= ∀(i:Nat) (x:iL),ps[i]?=some x->JJ x (gC-i)
theorem Cb.add{ps:List iL}{gC:Nat}{x:iL}(h:Cb ps gC)(G:JJ x (gC-ps.length)):Cb (ps++[x]) gC:= λi y af=>by
  by_cases c:i<ps.length
  · rw[sf c]at af;exact h i y af
  · have aB:=(dO.1 af).1;simp only[kT,pI,xM]at aB;have e:i=ps.length:=(by omega);subst e;rw[s4 (ey _)]at af;simp at af;subst af;exact G
structure ai6(l:List Int)(i:Nat)(M:Int)(fI fJ l9 ma g9:Value)(ps:List iL)(op:Nat)(t:W):Prop where
  aN:t.X 0=some ⟨[cp l,Y i],true⟩
  aK:t.X 1=some ⟨y4,true⟩
  fo:t.X 6=some ⟨[Y M,fI,fJ,l9,ma,dm op ps.length 17,g9],true⟩
  rB:t.X op=some ⟨(ps.map e5).flatten,true⟩
  hS:op≠0
  gb:op≠1
  qd:op≠6
def JI(l:List Int)(i:Nat)(M:Int)(fI fJ l9 ma g9:Value)(ps:List iL)(t:W):Prop:= ∃op,ai6 l i M fI fJ l9 ma g9 ps op t
def BR:List Nat:=[0,1,4,5]
theorem ag3{l:List iL}:(l.map e5).flatten.length=l.length*17:=by rw[sq (J:=17) λr aw=>by obtain⟨x,_,rfl⟩:=hn.1 aw;rfl,j5]
theorem aBB{l:List Int}(aB:l.length<=140737488355328){M:Int}{fI fJ l9 ma g9:Value}{gC:Nat}(uV:gC<=100): ∀(r i:Nat) (ps:List iL),ps.length+r=gC->Cb ps gC->i+10*r+100<1000000->
    ∃ (Bz:List iL) (cU:Nat),Cb Bz gC/\Bz.length=gC/\cU<=i+10*r/\ ∀(A:aR) (t:W) (Q:dA->aR->W->Prop),A 0=cw 0->A 5=cw 6->A 14=Y r->JI l i M fI fJ l9 ma g9 ps t->
      (∀ak aI,(∀s∈BR,ak s=A s)->JI l cU M fI fJ l9 ma g9 Bz aI->Q (.a7 4) ak aI)->fZ al (.loop HP) A t Q:=by
  intro r;induction r with
  | zero=>intro i ps az ab ai;refine⟨ps,i,ab,by omega,by omega,λA t Q cE cq oR kc b2=> ?_⟩;refine eE (aC:=⟨[mv,xt],[iQ]⟩) λcS bm=> ?_;simp(disch:=first|omega|simp only[aO];omega) [HP,oR,-O,-U,-N,-S,-List.map_map];exact b2 _ _ (λs K=>by simp only[BR,hH,jm,or_false]at K;rcases K with rfl|rfl|rfl|rfl<;>simp) kc
  | succ r cx=>
    intro i ps az ab ai;have mK:=j0 (l:=l) (i:=i) (n:=2) (by decide);have fs:=j0 (l:=l) (i:=i+1) (n:=3) (by decide);obtain⟨k,aa⟩: ∃k,1+eU l i 2=k:=⟨_,rfl⟩;obtain⟨m,ax⟩: ∃m,eU l (i+1) 3=m:=⟨_,rfl⟩;rw[ax]at fs;have g7:=j0 (l:=l) (i:=i+2) (n:=m+1) (by omega);obtain⟨N1,bd⟩: ∃q,eU l (i+2) (m+1)=q:=⟨_,rfl⟩;rw[bd]at g7;obtain⟨q,amE⟩: ∃q,k+N1=q:=⟨_,rfl⟩;have jl:=j0 (l:=l) (i:=i+3) (n:=4) (by decide);obtain⟨eL,av⟩: ∃m,eU l (i+3) 4=m:=⟨_,rfl⟩;rw[av]at jl;have nL:=j0 (l:=l) (i:=i+4) (n:=3) (by decide);obtain⟨hs,aH⟩: ∃m,eU l (i+4) 3=m:=⟨_,rfl⟩;rw[aH]at nL;obtain⟨R,je⟩: ∃R:Nat,(R:Int)=if m<1 then 1 else m:=⟨(if m<1 then 1 else m).toNat,by split<;>omega⟩
    have KM:R<=2:=(by split at je<;>omega);have c7:IntKind.i64.wrap (1+eU l i 2)=k:=(by rw[fV (by omega) (by omega)];exact aa);have nT:IntKind.i64.wrap (m+1)=m+1:=fV (by omega) (by omega);have aiC:IntKind.i64.wrap (k+N1)=q:=(by rw[fV (by omega) (by omega)];exact amE);have gx:IntKind.i64.wrap (r:Int)=(r:Int):=fV (by omega) (by omega);have N2:(0:Int)<(r:Int)+1:=(by omega);have BV:((i:Int)+1).toNat=i+1:=(by omega);have EJ:((i:Int)+1+1).toNat=i+2:=(by omega);have VX:((i:Int)+1+1+1).toNat=i+3:=(by omega);have ah7:((i:Int)+1+1+1+1).toNat=i+4:=(by omega);have ah8:((i:Int)+1+1+1+1+1).toNat=i+5:=(by omega);have kr:mv.fn [.int .u8 112,.int .i64 ((r:Int)+1)]=some (.string (kv 112 (r+1))):=Oc (n:=r+1) (C:=112) rfl ⟨by decide,by omega⟩;have aRA:lB 1 1000:=(by unfold lB;omega);have aRB:lB 30 1:=(by unfold lB;omega);by_cases FA:eU l (i+5) 5=0
    · skip
      obtain⟨Bz,cU,dd,ee,gm,gq⟩:=cx (i+6) (ps++[⟨kv 112 (r+1),k,m,q,⟨0,0,0,eL,hs⟩,[0],List.replicate R (fx 1 2),fx 1 1000,fx 30 1⟩]) (by simp;omega) (ab.add (by have:gC-ps.length=r+1:=(by omega);rw[this];exact ag1 ⟨by omega,by omega⟩ ⟨by omega,by omega⟩ ⟨by omega,by omega⟩ ⟨by omega,by omega⟩ ⟨by omega,by omega⟩ (.inr rfl) je)) (by omega);refine⟨Bz,cU,dd,ee,by omega,λA t Q cE cq oR kc b2=> ?_⟩;obtain⟨op,⟨aN,aK,fo,rB,hS,gb,qd⟩⟩:=kc;refine eE (aC:=⟨[mv,xt],[iQ]⟩) λcS bm=> ?_;have fl:=a6 aN;have gu:=a6 aK;have vr:=a6 fo;have w8:=a6 rB;simp(disch:=first|omega|simp only[aO];omega) [HP,Tp,Tq,Tr,Ts,Tt,Tu,Tv,cE,oR,N2,aN,kO,kr,eb,c7,nT,aiC,ax,bd,av,aH,BV,EJ,VX,ah7,ah8,FA,-O,-U,-N,-S,-List.map_map];refine aho (P:=t.next+14) (pt:=t.next+16) (aW:=[0,1,6,op]) (gX:=fT (kv 112 (r+1))) (bu:=Y k) (bN:=Y m) (cn:=Y q) (eW:=Y 0) (fU:=Y 0) (h4:=Y 0) (j8:=Y eL) (lW:=Y hs) (dC:= .bool (fx 1 1000).kh) (dd:=bT (fx 1 1000).a) (ee:=bT (fx 1 1000).b) (gm:= .bool (fx 30 1).kh) (gq:=bT (fx 30 1).a) (lf:=bT (fx 30 1).b) (gR:=[0]) (m:=m) (R:=R) je (by omega) (by simp) (by simp) (by simp) (by simp(disch:=first|omega|simp only[aO];omega) [-O,-U,-N,-S,-List.map_map]) (by simp(disch:=first|omega|simp only[aO];omega) [-O,-U,-N,-S,-List.map_map]) (by omega) (λb hb=> ?_) λak aI K G dU wC=> ?_
      · simp only[hH,jm,or_false]at hb;simp only[mr,y3];omega
      have ud: ¬0=op:= λe=>hS e.symm;have Bo: ¬1=op:= λe=>gb e.symm;have agF: ¬6=op:= λe=>qd e.symm;have hV:aI.X 0=some ⟨[cp l,Y (i+6:Nat)],true⟩:=(dU 0 (by simp)).trans (by simp(disch:=first|omega|simp only[aO];omega) [-O,-U,-N,-S,-List.map_map];omega);have aJ:aI.X 1=some ⟨y4,true⟩:=(dU 1 (by simp)).trans (by simp(disch:=first|omega|simp only[aO];omega) [aK,-O,-U,-N,-S,-List.map_map]);have ka:aI.X 6=some ⟨[Y M,fI,fJ,l9,ma,dm op ps.length 17,g9],true⟩:=(dU 6 (by simp)).trans (by simp(disch:=first|omega|simp only[aO];omega) [fo,-O,-U,-N,-S,-List.map_map]);have wx:aI.X op=some ⟨(ps.map e5).flatten,true⟩:=(dU op (by simp)).trans (by simp(disch:=first|omega|simp only[aO];omega) [rB,-O,-U,-N,-S,-List.map_map]);have oq:ak 0=cw 0:=(K 0 (by decide)).trans (by simp[cE]);have EV:ak 1=A 1:=(K 1 (by decide)).trans (by simp);have uB:ak 4=A 4:=(K 4 (by decide)).trans (by simp);have oX:ak 5=cw 6:=(K 5 (by decide)).trans (by simp[cq]);have WG:ak 14=Y ((r:Int)+1):=(K 14 (by decide)).trans (by simp[oR]);have Jq:ak 17=cw (t.next+14):=(K 17 (by decide)).trans (by simp);clear K dU G;obtain⟨P,QH⟩: ∃P,P=t.next+14:=⟨_,rfl⟩
      have pv:P≠0/\P≠1/\P≠6/\P≠op:=(by omega);rw[<-QH]at wC Jq;obtain⟨pv,gd,Ix,pp⟩:=pv;have sN:=a6 hV;have Bh:=a6 ka;have mp:=a6 wx;have aAs:=a6 wC;have e1:=ag3 (l:=ps);have gh:(ps.length+1)*240<=140737488355328/\ps.length<=9223372036854775806:=(by omega);simp(disch:=first|omega|simp only[aO];omega) [oX,WG,Jq,ka,wx,wC,e1,gh,gx,-O,-U,-N,-S,-List.map_map];refine bm _ _ (gq _ _ _ (by simp[oq]) (by simp[oX]) (by simp) ⟨aI.next+4,?_,?_,?_,?_,by omega,by omega,by omega⟩ λvW sU Ap Gd=>b2 vW sU (λs fk=>(Ap s fk).trans ?_) Gd)
      · simp(disch:=first|omega|simp only[aO];omega) [hV,-O,-U,-N,-S,-List.map_map]
      · simp(disch:=first|omega|simp only[aO];omega) [aJ,-O,-U,-N,-S,-List.map_map]
      · simp(disch:=first|omega|simp only[aO];omega) [-O,-U,-N,-S,-List.map_map]
      · simp(disch:=first|omega|simp only[aO];omega) [-O,-U,-N,-S,-List.map_map];rw[jT (by omega)];simp[e5]
      · simp only[BR,hH,jm,or_false]at fk;rcases fk with rfl|rfl|rfl|rfl<;>simp[oq,EV,uB,oX,cE,cq]
    · skip
      obtain⟨Bz,cU,dd,ee,gm,gq⟩:=cx (i+6) (ps++[⟨kv 112 (r+1),k,m,q,⟨0,0,0,eL,hs⟩,[0,1],List.replicate R (fx 1 2),fx 1 1000,fx 30 1⟩]) (by simp;omega) (ab.add (by have:gC-ps.length=r+1:=(by omega);rw[this];exact ag1 ⟨by omega,by omega⟩ ⟨by omega,by omega⟩ ⟨by omega,by omega⟩ ⟨by omega,by omega⟩ ⟨by omega,by omega⟩ (.inl rfl) je)) (by omega);refine⟨Bz,cU,dd,ee,by omega,λA t Q cE cq oR kc b2=> ?_⟩;obtain⟨op,⟨aN,aK,fo,rB,hS,gb,qd⟩⟩:=kc;refine eE (aC:=⟨[mv,xt],[iQ]⟩) λcS bm=> ?_;have fl:=a6 aN;have gu:=a6 aK;have vr:=a6 fo;have w8:=a6 rB;simp(disch:=first|omega|simp only[aO];omega) [HP,Tp,Tq,Tr,Ts,Tt,Tu,Tv,cE,oR,N2,aN,kO,kr,eb,c7,nT,aiC,ax,bd,av,aH,BV,EJ,VX,ah7,ah8,FA,-O,-U,-N,-S,-List.map_map];refine aho (P:=t.next+14) (pt:=t.next+10) (aW:=[0,1,6,op]) (gX:=fT (kv 112 (r+1))) (bu:=Y k) (bN:=Y m) (cn:=Y q) (eW:=Y 0) (fU:=Y 0) (h4:=Y 0) (j8:=Y eL) (lW:=Y hs) (dC:= .bool (fx 1 1000).kh) (dd:=bT (fx 1 1000).a) (ee:=bT (fx 1 1000).b) (gm:= .bool (fx 30 1).kh) (gq:=bT (fx 30 1).a) (lf:=bT (fx 30 1).b) (gR:=[0,1]) (m:=m) (R:=R) je (by omega) (by simp) (by simp) (by simp) (by simp(disch:=first|omega|simp only[aO];omega) [-O,-U,-N,-S,-List.map_map]) (by simp(disch:=first|omega|simp only[aO];omega) [-O,-U,-N,-S,-List.map_map]) (by omega) (λb hb=> ?_) λak aI K G dU wC=> ?_
      · simp only[hH,jm,or_false]at hb;simp only[mr,y3];omega
      have ud: ¬0=op:= λe=>hS e.symm;have Bo: ¬1=op:= λe=>gb e.symm;have agF: ¬6=op:= λe=>qd e.symm;have hV:aI.X 0=some ⟨[cp l,Y (i+6:Nat)],true⟩:=(dU 0 (by simp)).trans (by simp(disch:=first|omega|simp only[aO];omega) [-O,-U,-N,-S,-List.map_map];omega);have aJ:aI.X 1=some ⟨y4,true⟩:=(dU 1 (by simp)).trans (by simp(disch:=first|omega|simp only[aO];omega) [aK,-O,-U,-N,-S,-List.map_map]);have ka:aI.X 6=some ⟨[Y M,fI,fJ,l9,ma,dm op ps.length 17,g9],true⟩:=(dU 6 (by simp)).trans (by simp(disch:=first|omega|simp only[aO];omega) [fo,-O,-U,-N,-S,-List.map_map]);have wx:aI.X op=some ⟨(ps.map e5).flatten,true⟩:=(dU op (by simp)).trans (by simp(disch:=first|omega|simp only[aO];omega) [rB,-O,-U,-N,-S,-List.map_map]);have oq:ak 0=cw 0:=(K 0 (by decide)).trans (by simp[cE]);have EV:ak 1=A 1:=(K 1 (by decide)).trans (by simp);have uB:ak 4=A 4:=(K 4 (by decide)).trans (by simp);have oX:ak 5=cw 6:=(K 5 (by decide)).trans (by simp[cq]);have WG:ak 14=Y ((r:Int)+1):=(K 14 (by decide)).trans (by simp[oR]);have Jq:ak 17=cw (t.next+14):=(K 17 (by decide)).trans (by simp);clear K dU G;obtain⟨P,QH⟩: ∃P,P=t.next+14:=⟨_,rfl⟩
      have pv:P≠0/\P≠1/\P≠6/\P≠op:=(by omega);rw[<-QH]at wC Jq;obtain⟨pv,gd,Ix,pp⟩:=pv;have sN:=a6 hV;have Bh:=a6 ka;have mp:=a6 wx;have aAs:=a6 wC;have e1:=ag3 (l:=ps);have gh:(ps.length+1)*240<=140737488355328/\ps.length<=9223372036854775806:=(by omega);simp(disch:=first|omega|simp only[aO];omega) [oX,WG,Jq,ka,wx,wC,e1,gh,gx,-O,-U,-N,-S,-List.map_map];refine bm _ _ (gq _ _ _ (by simp[oq]) (by simp[oX]) (by simp) ⟨aI.next+4,?_,?_,?_,?_,by omega,by omega,by omega⟩ λvW sU Ap Gd=>b2 vW sU (λs fk=>(Ap s fk).trans ?_) Gd)
      · simp(disch:=first|omega|simp only[aO];omega) [hV,-O,-U,-N,-S,-List.map_map]
      · simp(disch:=first|omega|simp only[aO];omega) [aJ,-O,-U,-N,-S,-List.map_map]
      · simp(disch:=first|omega|simp only[aO];omega) [-O,-U,-N,-S,-List.map_map]
      · simp(disch:=first|omega|simp only[aO];omega) [-O,-U,-N,-S,-List.map_map];rw[jT (by omega)];simp[e5]
      · simp only[BR,hH,jm,or_false]at fk;rcases fk with rfl|rfl|rfl|rfl<;>simp[oq,EV,uB,oX,cE,cq]
def Cd(cz:List qy)(gC v8:Nat):Prop:= ∀(i:Nat) (x:qy),cz[i]?=some x->x.name=kv 118 (gC-i)/\0<=x.qi/\x.qi<v8
theorem Cd.add{cz:List qy}{gC v8:Nat}{x:qy}(h:Cd cz gC v8)(G:x.name=kv 118 (gC-cz.length)/\0<=x.qi/\x.qi<v8):Cd (cz++[x]) gC v8:= λi y af=>by
  by_cases c:i<cz.length
  · rw[sf c]at af;exact h i y af
  · have aB:=(dO.1 af).1;simp only[kT,pI,xM]at aB;have e:i=cz.length:=(by omega);subst e;rw[s4 (ey _)]at af;simp at af;subst af;exact G
structure aje(l:List Int)(i:Nat)(M:Int)(fI fJ l9 ma il:Value)(cz:List qy)(q2:Nat)(t:W):Prop where
  aN:t.X 0=some ⟨[cp l,Y i],true⟩
  aK:t.X 1=some ⟨y4,true⟩
  fo:t.X 6=some ⟨[Y M,fI,fJ,l9,ma,il,dm q2 cz.length 2],true⟩
  z5:t.X q2=some ⟨(cz.map hx).flatten,true⟩
  hS:q2≠0
  gb:q2≠1
  qd:q2≠6
def Pp(l:List Int)(i:Nat)(M:Int)(fI fJ l9 ma il:Value)(cz:List qy)(t:W):Prop:= ∃q2,aje l i M fI fJ l9 ma il cz q2 t
theorem aEM{l:List qy}:(l.map hx).flatten.length=l.length*2:=by rw[sq (J:=2) λr aw=>by obtain⟨x,_,rfl⟩:=hn.1 aw;rfl,j5]
theorem aEK{l:List Int}(aB:l.length<=140737488355328){M:Int}{fI fJ l9 ma:Value}{ps:List iL}(K0:1<=ps.length/\ps.length<=1000){gC:Nat}(uV:gC<=1000): ∀(r i:Nat) (cz:List qy),cz.length+r=gC->Cd cz gC ps.length->i+r+100<1000000->
    ∃ (zw:List qy) (cU:Nat),Cd zw gC ps.length/\zw.length=gC/\cU<=i+r/\ ∀(A:aR) (t:W) (Q:dA->aR->W->Prop),A 0=cw 0->A 5=cw 6->A 19=Y r->Pp l i M fI fJ l9 ma (aj (ps.map e5) 17) cz t->
      (∀ak aI,(∀s∈BR,ak s=A s)->Pp l cU M fI fJ l9 ma (aj (ps.map e5) 17) zw aI->Q (.a7 8) ak aI)->fZ al (.loop MM) A t Q:=by
  intro r;induction r with
  | zero=>intro i cz az ab ai;refine⟨cz,i,ab,by omega,by omega,λA t Q cE cq vF kc b2=> ?_⟩;refine eE (aC:=⟨[mv],[iQ]⟩) λcS bm=> ?_;simp(disch:=first|omega|simp only[aO];omega) [MM,Tx,vF,-O,-U,-N,-S,-List.map_map];exact b2 _ _ (λs K=>by simp only[BR,hH,jm,or_false]at K;rcases K with rfl|rfl|rfl|rfl<;>simp) kc
  | succ r cx=>
    intro i cz az ab ai;have mK:=j0 (l:=l) (i:=i) (n:=(ps.length:Int)) (by omega);obtain⟨y,af⟩: ∃y,eU l i (ps.length:Int)=y:=⟨_,rfl⟩;rw[af]at mK;have gx:IntKind.i64.wrap (r:Int)=(r:Int):=fV (by omega) (by omega);have N2:(0:Int)<(r:Int)+1:=(by omega);have kr:mv.fn [.int .u8 118,.int .i64 ((r:Int)+1)]=some (.string (kv 118 (r+1))):=Oc (n:=r+1) (C:=118) rfl ⟨by decide,by omega⟩;obtain⟨zw,cU,dd,ee,gm,gq⟩:=cx (i+1) (cz++[⟨kv 118 (r+1),y⟩]) (by simp;omega) (ab.add (by have:gC-cz.length=r+1:=(by omega);rw[this];exact⟨rfl,mK⟩)) (by omega);refine⟨zw,cU,dd,ee,by omega,λA t Q cE cq vF kc b2=> ?_⟩;obtain⟨q2,⟨aN,aK,fo,z5,hS,gb,qd⟩⟩:=kc;refine eE (aC:=⟨[mv],[iQ]⟩) λcS bm=> ?_;have fl:=a6 aN;have gu:=a6 aK;have vr:=a6 fo;have jM:=a6 z5;have ud: ¬0=q2:= λe=>hS e.symm;have Bo: ¬1=q2:= λe=>gb e.symm;have agF: ¬6=q2:= λe=>qd e.symm;have e1:=aEM (l:=cz);have gh:(cz.length+1)*24<=140737488355328/\cz.length<=9223372036854775806:=(by omega);simp(disch:=first|omega|simp only[aO];omega) [MM,Tx,cE,cq,vF,N2,aN,fo,z5,kO,kr,af,e1,gh,gx,XX,af1,-O,-U,-N,-S,-List.map_map];refine bm _ _ (gq _ _ _ (by simp[cE]) (by simp[cq]) (by simp) ⟨t.next+11,?_,?_,?_,?_,by omega,by omega,by omega⟩ λvW sU Ap Gd=>b2 vW sU (λs fk=>(Ap s fk).trans ?_) Gd)
    · simp(disch:=first|omega|simp only[aO];omega) [-O,-U,-N,-S,-List.map_map]
    · simp(disch:=first|omega|simp only[aO];omega) [aK,-O,-U,-N,-S,-List.map_map]
    · simp(disch:=first|omega|simp only[aO];omega) [-O,-U,-N,-S,-List.map_map]
    · simp(disch:=first|omega|simp only[aO];omega) [-O,-U,-N,-S,-List.map_map];rw[jT (by omega)];simp[hx]
    · simp only[BR,hH,jm,or_false]at fk;rcases fk with rfl|rfl|rfl|rfl<;>simp
theorem akH{l:List gB}: ∀r∈l.map ez,r.length=7/\ ∀v∈r,ha v=true:= λr aw=>by obtain⟨x,_,rfl⟩:=hn.1 aw;exact⟨rfl,λv ad=>by simp[ez]at ad;rcases ad with rfl|rfl|rfl|rfl|rfl|rfl|rfl<;>rfl⟩
theorem akL{l:List mQ}: ∀r∈l.map gr,r.length=3/\ ∀v∈r,ha v=true:= λr aw=>by obtain⟨x,_,rfl⟩:=hn.1 aw;exact⟨rfl,λv ad=>by simp[gr]at ad;rcases ad with rfl|rfl|rfl<;>rfl⟩
theorem aBD{l:List iL}: ∀r∈l.map e5,r.length=17/\ ∀v∈r,ha v=true:= λr aw=>by obtain⟨x,_,rfl⟩:=hn.1 aw;exact⟨rfl,λv ad=>by simp[e5]at ad;rcases ad with rfl|rfl|rfl|rfl|rfl|rfl|rfl|rfl|rfl|rfl|rfl|rfl|rfl|rfl|rfl|rfl|rfl<;>rfl⟩
theorem aip{l:List qy}: ∀r∈l.map hx,r.length=2/\ ∀v∈r,ha v=true:= λr aw=>by obtain⟨x,_,rfl⟩:=hn.1 aw;exact⟨rfl,λv ad=>by simp[hx]at ad;rcases ad with rfl|rfl<;>rfl⟩
theorem aAM{l:List B9}: ∀r∈l.map gE,r.length=4/\ ∀v∈r,ha v=true:= λr aw=>by obtain⟨x,_,rfl⟩:=hn.1 aw;exact⟨rfl,λv ad=>by simp[gE]at ad;rcases ad with rfl|rfl|rfl|rfl<;>rfl⟩
theorem az4{l:List ik}: ∀r∈l.map gZ,r.length=4/\ ∀v∈r,ha v=true:= λr aw=>by obtain⟨x,_,rfl⟩:=hn.1 aw;exact⟨rfl,λv ad=>by simp[gZ]at ad;rcases ad with rfl|rfl|rfl|rfl<;>rfl⟩
def BK:ByteArray:=⟨#[100,105,115,107]⟩
def IT:ByteArray:=⟨#[98,105,103]⟩
def IV:ByteArray:=⟨#[111,108,100]⟩
def tX(J:Int):ik:=⟨BK,[fx 1 1],[[fx 0 1]],[fx 1 J]⟩
def ue:Value:= .slice none 0 0
structure ai7(l:List Int)(i:Nat)(M J a b c d:Int)(t:W):Prop where
  aN:t.X 0=some ⟨[cp l,Y i],true⟩
  aK:t.X 1=some ⟨y4,true⟩
  fo:t.X 6=some ⟨[Y M,dm 19 1 4,dm 36 2 4,dm 41 1 7,.slice none 0 0,.slice none 0 0,.slice none 0 0],true⟩
  CB:t.X 9=some ⟨eb (fx 1 1),true⟩
  Yr:t.X 11=some ⟨eb (fx 0 1),true⟩
  CA:t.X 12=some ⟨[dm 11 1 3],true⟩
  Ys:t.X 17=some ⟨eb (fx 1 J),true⟩
  Yt:t.X 19=some ⟨[fT BK,dm 9 1 3,dm 12 1 1,dm 17 1 3],true⟩
  Yw:t.X 36=some ⟨[fT IT,Y a,Y b,Y 0,fT IV,Y c,Y d,Y 0],true⟩
  Yx:t.X 41=some ⟨ez ⟨⟨#[]⟩,0,-1,0,fx 0 1⟩,true⟩
def uc(a b c d:Int):List B9:=[⟨IT,a,b,0⟩,⟨IV,c,d,0⟩]
theorem UD{x:b1}: ∀r∈[eb x],r.length=3/\ ∀v∈r,ha v=true:= λr aw=>by simp at aw;subst aw;exact⟨rfl,λv ad=>by simp[eb]at ad;rcases ad with rfl|rfl|rfl<;>rfl⟩
theorem aEr{l:List Int}{i:Nat}{M J a b c d:Int}{xZ:H}{A:aR}{t:W}{Q:dA->aR->W->Prop}(h:ai7 l i M J a b c d t)(az:t.next=44)
    (b2: ∀aI,kU l i M (aj ([tX J].map gZ) 4) (aj ((uc a b c d).map gE) 4) ue ue [⟨⟨#[]⟩,0,-1,0,fx 0 1⟩] [] aI->fZ al xZ A aI Q):fZ al xZ A t Q:=by
  obtain⟨aN,aK,fo,CB,Yr,CA,Ys,Yt,Yw,Yx⟩:=h;refine sZ (o:=11) (p:=12) (j:=0) (J:=3) (bh:=[eb (fx 0 1)]) (by rw[Yr];simp) UD CA rfl (by decide) ?_;refine sZ (o:=9) (p:=19) (j:=1) (J:=3) (bh:=[eb (fx 1 1)]) (cells:=[fT BK,dm 9 1 3,dm 12 1 1,dm 17 1 3]) ?_ UD ?_ rfl (by decide) ?_
  · rw[bR (by decide),bR (by decide),CB];simp
  · rw[bR (by decide),bR (by decide),Yt]
  refine sZ (o:=12) (p:=19) (j:=2) (J:=1) (bh:=[[h5 [fx 0 1]]]) (cells:=[fT BK,h5 [fx 1 1],dm 12 1 1,dm 17 1 3]) ?_ ?_ ?_ rfl (by decide) ?_
  · rw[bR (by decide),bR (by decide),eD (by simp[az])];simp
  · intro r aw;simp at aw;subst aw;exact⟨rfl,λv ad=>by simp at ad;subst ad;rfl⟩
  · rw[eD (by simp[az])];simp
  refine sZ (o:=17) (p:=19) (j:=3) (J:=3) (bh:=[eb (fx 1 J)]) (cells:=[fT BK,h5 [fx 1 1],aj [[h5 [fx 0 1]]] 1,dm 17 1 3]) ?_ UD ?_ rfl (by decide) ?_
  · repeat rw[bR (by decide)]
    rw[Ys];simp
  · rw[eD (by simp[az])];simp
  refine sZ (o:=19) (p:=6) (j:=1) (J:=4) (bh:=[tX J].map gZ) (cells:=[Y M,dm 19 1 4,dm 36 2 4,dm 41 1 7,.slice none 0 0,.slice none 0 0,.slice none 0 0]) ?_ az4 ?_ rfl (by decide) ?_
  · rw[eD (by simp[az])];simp[gZ,tX]
  · repeat rw[bR (by decide)]
    rw[fo]
  refine sZ (o:=36) (p:=6) (j:=2) (J:=4) (bh:=(uc a b c d).map gE) (cells:=[Y M,aj ([tX J].map gZ) 4,dm 36 2 4,dm 41 1 7,.slice none 0 0,.slice none 0 0,.slice none 0 0]) ?_ aAM ?_ rfl (by decide) ?_
  · repeat rw[bR (by decide)]
    rw[Yw];simp[gE,uc]
  · rw[eD (by simp[az])];simp
  refine O2 (o:=6) (j:=4) (J:=3) (cs:=[Y M,aj ([tX J].map gZ) 4,aj ((uc a b c d).map gE) 4,dm 41 1 7,.slice none 0 0,.slice none 0 0,.slice none 0 0]) ?_ rfl ?_
  · rw[eD (by simp[az])];simp
  refine b2 _ ⟨41,44,⟨?_,?_,?_,?_,?_,by decide,by decide,by decide⟩⟩
  · simp only[mr,az];repeat rw[bR (by decide)]
    rw[e0 (by simp[az])];repeat rw[bR (by decide)]
    exact aN
  · simp only[mr,az];repeat rw[bR (by decide)]
    rw[e0 (by simp[az])];repeat rw[bR (by decide)]
    exact aK
  · simp only[mr,az];rw[eD (by simp[az])];simp[ue]
  · simp only[mr,az];repeat rw[bR (by decide)]
    rw[e0 (by simp[az])];repeat rw[bR (by decide)]
    rw[Yx];simp
  · simp only[mr,az];rw[bR (by decide),eD (by simp[az])];simp
theorem aBC{l:List Int}{i:Nat}{M:Int}{fI fJ g9:Value}{ds:List gB}{cy:List mQ}{xZ:H}{A:aR}{t:W}{Q:dA->aR->W->Prop}(h:kU l i M fI fJ ue g9 ds cy t)
    (b2: ∀aI,JI l i M fI fJ (aj (ds.map ez) 7) (aj (cy.map gr) 3) g9 [] aI->fZ al xZ A aI Q):fZ al xZ A t Q:=by
  obtain⟨iF,or,⟨aN,aK,fo,sw,hW,gb,hr,nG⟩⟩:=h;obtain⟨NN,Uf,Ug⟩:=gb;obtain⟨Uh,agE,NO⟩:=hr;have fl:=a6 aN;have gu:=a6 aK;have vr:=a6 fo;refine sZ (o:=iF) (p:=6) (j:=3) (J:=7) (bh:=ds.map ez) sw akH fo (by simp) Ug ?_;refine sZ (o:=or) (p:=6) (j:=4) (J:=3) (bh:=cy.map gr) (cells:=[Y M,fI,fJ,aj (ds.map ez) 7,dm or cy.length 3,ue,g9]) ?_ akL ?_ (by simp) NO ?_
  · rw[bR NO,bR (λe=>nG e.symm)];exact hW
  · rw[eD (by simpa using vr)];simp
  refine O2 (o:=6) (j:=5) (J:=17) (cs:=[Y M,fI,fJ,aj (ds.map ez) 7,aj (cy.map gr) 3,ue,g9]) ?_ rfl ?_
  · rw[eD (by simpa using vr)];simp
  refine b2 _ ⟨t.next,⟨?_,?_,?_,?_,by omega,by omega,by omega⟩⟩
  · simp only[mr];rw[bR (by decide),bR (by omega),e0 (by simp;omega),bR (by decide),bR (λe=>Uh e.symm),bR (by decide),bR (λe=>NN e.symm)];exact aN
  · simp only[mr];rw[bR (by decide),bR (by omega),e0 (by simp;omega),bR (by decide),bR (λe=>agE e.symm),bR (by decide),bR (λe=>Uf e.symm)];exact aK
  · simp only[mr];rw[eD (by simp;omega)];simp
  · simp only[mr];rw[bR (by omega),eD (by simp)];simp
theorem aEL{l:List Int}{i:Nat}{M:Int}{fI fJ l9 ma:Value}{ps:List iL}{xZ:H}{A:aR}{t:W}{Q:dA->aR->W->Prop}(h:JI l i M fI fJ l9 ma ue ps t)
    (b2: ∀aI,Pp l i M fI fJ l9 ma (aj (ps.map e5) 17) [] aI->fZ al xZ A aI Q):fZ al xZ A t Q:=by
  obtain⟨op,⟨aN,aK,fo,rB,hS,gb,qd⟩⟩:=h;have fl:=a6 aN;have gu:=a6 aK;have vr:=a6 fo;refine sZ (o:=op) (p:=6) (j:=5) (J:=17) (bh:=ps.map e5) rB aBD fo (by simp) qd ?_;refine O2 (o:=6) (j:=6) (J:=2) (cs:=[Y M,fI,fJ,l9,ma,aj (ps.map e5) 17,ue]) ?_ rfl ?_
  · rw[eD (by simpa using vr)];simp
  refine b2 _ ⟨t.next,⟨?_,?_,?_,?_,by omega,by omega,by omega⟩⟩
  · simp only[mr];rw[bR (by decide),bR (by omega),e0 (by simp;omega),bR (by decide),bR (λe=>hS e.symm)];exact aN
  · simp only[mr];rw[bR (by decide),bR (by omega),e0 (by simp;omega),bR (by decide),bR (λe=>gb e.symm)];exact aK
  · simp only[mr];rw[eD (by simp;omega)];simp
  · simp only[mr];rw[bR (by omega),eD (by simp)];simp
structure JE(u:bg)(bl:Int):Prop where
  ext:1<=u.ext/\u.ext<=2
  cN: ∃J,100<=J/\J<200/\u.cN=[tX J]
  NM: ∃a b c d,(3<=a/\a<=4)/\(8<=b/\b<=16)/\(1<=c/\c<=3)/\(4<=d/\d<=12)/\u.bf=uc a b c d
  bP:qx u.bP
  jN:u.bP.length<=21
  aZ:pP u.bP u.aZ
  pr:1<=u.aZ.length/\u.aZ.length<=9
  xb:1<=u.cK.length/\u.cK.length<=2
  cK:Cb u.cK u.cK.length
  rV:1<=u.cm.length/\(u.cm.length:Int)<=if bl<1 then 1 else bl
  cm:Cd u.cm u.cm.length u.cK.length
def mo(l:List Int)(i:Nat):W:=(g0.cf 1).a0 0 (some ⟨[cp l,Y i],true⟩)
theorem ak7{l:List Int}(aB:l.length<=140737488355328){i:Nat}(ai:i<500000){bl:Int}(e6:bl<=100): ∃u cU,JE u bl/\cU<=i+200/\fi al 60 [cw 0,Y bl] (mo l i) λv aI=>DI.dI 9 aI v=some (.agg (aL u).toArray)/\aI.X 0=some ⟨[cp l,Y cU],true⟩/\0∉DI.ed 9 aI v:=by
  have mK:=j0 (l:=l) (i:=i) (n:=2) (by decide);have fs:=j0 (l:=l) (i:=i+1) (n:=100) (by decide);have g7:=j0 (l:=l) (i:=i+2) (n:=2) (by decide);have jl:=j0 (l:=l) (i:=i+3) (n:=9) (by decide);have nL:=j0 (l:=l) (i:=i+4) (n:=3) (by decide);have xk:=j0 (l:=l) (i:=i+5) (n:=9) (by decide);have aNI:=j0 (l:=l) (i:=i+6) (n:=3) (by decide);obtain⟨M,bZ⟩: ∃x,1+eU l i 2=x:=⟨_,rfl⟩;obtain⟨J,bK⟩: ∃x,100+eU l (i+1) 100=x:=⟨_,rfl⟩;obtain⟨a,aA⟩: ∃x,3+eU l (i+2) 2=x:=⟨_,rfl⟩;obtain⟨b,hb⟩: ∃x,8+eU l (i+3) 9=x:=⟨_,rfl⟩;obtain⟨c,ar⟩: ∃x,1+eU l (i+4) 3=x:=⟨_,rfl⟩;obtain⟨d,aD⟩: ∃x,4+eU l (i+5) 9=x:=⟨_,rfl⟩;obtain⟨ah,rE⟩:=jS (show 0<=3+eU l (i+6) 3 by omega);have aER:IntKind.i64.wrap (1+eU l i 2)=M:=by rw[fV (by omega) (by omega)];exact bZ
  have aE3:IntKind.i64.wrap (100+eU l (i+1) 100)=J:=by rw[fV (by omega) (by omega)];exact bK
  have aEV:IntKind.i64.wrap (3+eU l (i+2) 2)=a:=by rw[fV (by omega) (by omega)];exact aA
  have air:IntKind.i64.wrap (8+eU l (i+3) 9)=b:=by rw[fV (by omega) (by omega)];exact hb
  have Wd:IntKind.i64.wrap (1+eU l (i+4) 3)=c:=by rw[fV (by omega) (by omega)];exact ar
  have xE:IntKind.i64.wrap (4+eU l (i+5) 9)=d:=by rw[fV (by omega) (by omega)];exact aD
  have aES:IntKind.i64.wrap (3+eU l (i+6) 3)=(ah:Int):=by rw[fV (by omega) (by omega)];exact rE
  have q5:qx [⟨⟨#[]⟩,0,-1,0,fx 0 1⟩]:=⟨rfl,λk x aa G=>by have:=(dO.1 G).1;simp at this;omega⟩;obtain⟨ds,cy,k2,bk,dR,m5,D8,Ih,Bh⟩:=aAu (l:=l) aB (M:=M) (fI:=aj ([tX J].map gZ) 4) (fJ:=aj ((uc a b c d).map gE) 4) (il:=ue) (g9:=ue) (ah:=ah) (by omega) ah 0 (i+7) [⟨⟨#[]⟩,0,-1,0,fx 0 1⟩] [] 0 0 (by omega) q5 (λk x G=>by simp at G) (by simp) (by simp) (by omega) (.inl rfl);have aNJ:=j0 (l:=l) (i:=k2) (n:=2) (by decide);obtain⟨v8,alE⟩:=jS (show 0<=1+eU l k2 2 by omega);have aET:IntKind.i64.wrap (1+eU l k2 2)=(v8:Int):=by rw[fV (by omega) (by omega)];exact alE
  obtain⟨ps,ks,gd,hj,ix,jz⟩:=aBB (l:=l) aB (M:=M) (fI:=aj ([tX J].map gZ) 4) (fJ:=aj ((uc a b c d).map gE) 4) (l9:=aj (ds.map ez) 7) (ma:=aj (cy.map gr) 3) (g9:=ue) (gC:=v8) (by omega) v8 (k2+1) [] (by simp) (λk x G=>by simp at G) (by omega);have aNK:0<=eU l ks bl/\eU l ks bl<if bl<1 then 1 else bl:=by
    by_cases PH:bl<1
    · rw[if_pos PH];have:eU l ks bl=0:=Ud PH;omega
    · rw[if_neg PH];exact j0 (by omega)
  have aNL:(if bl<1 then 1 else bl)<=100:=by split<;>omega
  obtain⟨Pl,alF⟩:=jS (show 0<=1+eU l ks bl by omega);have aEU:IntKind.i64.wrap (1+eU l ks bl)=(Pl:Int):=by rw[fV (by omega) (by omega)];exact alF
  obtain⟨cz,Rz,B0,vQ,xC,xD⟩:=aEK (l:=l) aB (M:=M) (fI:=aj ([tX J].map gZ) 4) (fJ:=aj ((uc a b c d).map gE) 4) (l9:=aj (ds.map ez) 7) (ma:=aj (cy.map gr) 3) (ps:=ps) (by omega) (gC:=Pl) (by omega) Pl (ks+1) [] (by simp) (λk x G=>by simp at G) (by omega);have KJ:1<=M/\M<=2:=by omega
  refine⟨⟨M,[tX J],uc a b c d,ds,cy,ps,cz⟩,Rz,⟨KJ,⟨J,by omega,by omega,rfl⟩,⟨a,b,c,d,by omega,by omega,by omega,by omega,rfl⟩,bk,by simp only;omega,dR,⟨m5.2 (by omega),m5.1⟩,by simp only;omega,by simp only[hj];exact gd,by simp only;omega,by simp only[vQ];exact B0⟩,by omega,?_⟩;refine dD (aC:=⟨[mv,xt],[iQ]⟩) ae5 (by kernel_rfl) (by simp[MK]) ?_;have aRz:lB 1 1:=by unfold lB;omega
  have aRy:=ahS;have aRC:lB 1 J:=by unfold lB;omega
  have iW:((i:Int)+1+1).toNat=i+2:=by omega
  have OL:((i:Int)+1+1+1).toNat=i+3:=by omega
  have ah2:((i:Int)+1+1+1+1).toNat=i+4:=by omega
  have ah3:((i:Int)+1+1+1+1+1).toNat=i+5:=by omega
  have xz:((i:Int)+1+1+1+1+1+1).toNat=i+6:=by omega
  simp(disch:=first|omega|simp only[aO];omega) [MK,ae4,ae6,ae9,afc,afd,afe,aff,afg,mo,kO,iW,OL,ah2,ah3,xz,aER,aE3,aEV,air,Wd,xE,aES,eb,-O,-U,-N,-S,-List.map_map];refine aEr (l:=l) (i:=i+7) (M:=M) (J:=J) (a:=a) (b:=b) (c:=c) (d:=d) ⟨by simp(disch:=first|omega|simp only[aO];omega) [-O,-U,-N,-S,-List.map_map];omega,by simp(disch:=first|omega|simp only[aO];omega) [y4,-O,-U,-N,-S,-List.map_map],by simp(disch:=first|omega|simp only[aO];omega) [-O,-U,-N,-S,-List.map_map],by simp(disch:=first|omega|simp only[aO];omega) [eb,-O,-U,-N,-S,-List.map_map],by simp(disch:=first|omega|simp only[aO];omega) [eb,-O,-U,-N,-S,-List.map_map],by simp(disch:=first|omega|simp only[aO];omega) [-O,-U,-N,-S,-List.map_map],by simp(disch:=first|omega|simp only[aO];omega) [eb,-O,-U,-N,-S,-List.map_map],by simp(disch:=first|omega|simp only[aO];omega) [BK,-O,-U,-N,-S,-List.map_map],by simp(disch:=first|omega|simp only[aO];omega) [IT,IV,-O,-U,-N,-S,-List.map_map],by simp(disch:=first|omega|simp only[aO];omega) [ez,-O,-U,-N,-S,-List.map_map]⟩ (by simp) λbD E=> ?_;refine Bh _ bD _ (by simp) (by simp) (by simp) (by simp) (by simp) (by simp) E λdt aRM iP sC=> ?_;have WI:dt 0=cw 0:=(iP 0 (by decide)).trans (by simp);have aFz:dt 1=Y bl:=(iP 1 (by decide)).trans (by simp);have aFA:dt 4=cw 1:=(iP 4 (by decide)).trans (by simp);have aiU:dt 5=cw 6:=(iP 5 (by decide)).trans (by simp);clear iP;have amD:=sC;obtain⟨iF,or,amd⟩:=sC;have bb:=amd.aN;have ga:=a6 bb;simp(disch:=first|omega|simp only[aO];omega) [ae8,WI,bb,kO,aET,-O,-U,-N,-S,-List.map_map];refine aBC (kU.at amD (cU:=k2+1) (by omega)) λaEf av=> ?_;refine jz _ aEf _ (by simp[WI]) (by simp[aiU]) (by simp) av λxQ aRN Gl ame=> ?_;have WJ:xQ 0=cw 0:=(Gl 0 (by decide)).trans (by simp[WI]);have aFB:xQ 1=Y bl:=(Gl 1 (by decide)).trans (by simp[aFz]);have aFC:xQ 4=cw 1:=(Gl 4 (by decide)).trans (by simp[aFA]);have aiV:xQ 5=cw 6:=(Gl 5 (by decide)).trans (by simp[aiU]);clear Gl;obtain⟨op,⟨aN,aK,fo,rB,hS,gb,qd⟩⟩:=ame;have TZ:=a6 aN;simp(disch:=first|omega|simp only[aO];omega) [afa,WJ,aFB,aN,kO,aEU,-O,-U,-N,-S,-List.map_map];refine aEL (l:=l) (i:=ks+1) (M:=M) (fI:=aj ([tX J].map gZ) 4) (fJ:=aj ((uc a b c d).map gE) 4) (l9:=aj (ds.map ez) 7) (ma:=aj (cy.map gr) 3) (ps:=ps) ⟨op,⟨by simp(disch:=first|omega|simp only[aO];omega) [-O,-U,-N,-S,-List.map_map],by simp(disch:=first|omega|simp only[aO];omega) [aK,-O,-U,-N,-S,-List.map_map],by simp(disch:=first|omega|simp only[aO];omega) [fo,-O,-U,-N,-S,-List.map_map],by simp(disch:=first|omega|simp only[aO];omega) [rB,-O,-U,-N,-S,-List.map_map],hS,gb,qd⟩⟩ λaEg aH=> ?_;refine xD _ aEg _ (by simp[WJ]) (by simp[aiV]) (by simp) aH λPj aRO K2 amf=> ?_;have aTr:Pj 0=cw 0:=(K2 0 (by decide)).trans (by simp[WJ]);have aFD:Pj 4=cw 1:=(K2 4 (by decide)).trans (by simp[aFC]);have aFE:Pj 5=cw 6:=(K2 5 (by decide)).trans (by simp[aiV]);clear K2;obtain⟨q2,⟨aN,aK,fo,z5,hS,gb,qd⟩⟩:=amf;have fl:=a6 aN;have gu:=a6 aK;have vr:=a6 fo;have jM:=a6 z5;have alq: ∀tt:W,tt.X q2=some ⟨(cz.map hx).flatten,true⟩->DI.dI 8 tt (dm q2 cz.length 2)=some (aj (cz.map hx) 2):= λtt h=>ss (n:=7) h (by simp) aip;simp(disch:=first|omega|simp only[aO];omega) [afb,aFD,aFE,aK,fo,y4,-O,-U,-N,-S,-List.map_map];refine⟨?_,aN,?_⟩
  · rw[alq _ (by rw[bR gb];exact z5)];simp[aL]
  · rw[aB4,bR gb,z5];simp only[hH,uF,List.mem_flatten];rintro(e|⟨v,⟨r,p7,ad⟩,G⟩)
    · exact hS e.symm
    · rw[DI.zb ((aip r p7).2 v ad)]at G;cases G
theorem agr:(fx 0 1).c7:=by unfold b1.c7;decide
theorem aAF:(fx 1 2).c7:=by unfold b1.c7;decide
theorem aAG:(fx 1 1000).c7:=by unfold b1.c7;decide
theorem aAH:(fx 30 1).c7:=by unfold b1.c7;decide
theorem aA5(c:Nat)(ar:c=100\/c=110\/c=112\/c=118): ∀n:Fin 60,eO (kv c n.val):=by rcases ar with rfl|rfl|rfl|rfl<;>(unfold eO;decide+kernel)
theorem Uk:eO BK/\eO IT/\eO IV:=by unfold eO;decide+kernel
theorem aA4{c km:Nat}(ar:c<256)(n2:km<256){n ho:Nat}(az:n<60)(yk:ho<60)(h:kv c n=kv km ho):c=km/\n=ho:=by simp only[kv,ByteArray.mk.injEq]at h;have dk:=congrArg (λa:Array UInt8=>(a.toList.map UInt8.toNat)) h;simp at dk;omega
theorem V4{l:List ByteArray}{c f:Nat->Nat}(h: ∀(i:Nat) x,l[i]?=some x->x=kv (c i) (f i)/\(c i=100\/c i=110\/c i=112\/c i=118)/\f i<60)(inj: ∀i j,i<j->j<l.length-> ¬(c i=c j/\f i=f j)):er l=true:=by
  unfold er;rw[a1,eQ];refine⟨λx G=> ?_,decide_eq_true (B3.2 λi j ai bj yg e=> ?_)⟩
  · obtain⟨i,ai,rfl⟩:=j4 G;obtain⟨a,b,d⟩:=h i _ (cD ai);rw[a];exact Bu (aA5 (c i) b ⟨f i,d⟩)
  · obtain⟨a,b,d⟩:=h i _ (cD ai);obtain⟨dG,cd,ns⟩:=h j _ (cD bj);rw[a,dG]at e;exact inj i j yg bj (aA4 (by omega) (by omega) d ns e)
theorem aEw{a b:ByteArray}(aA:eO a)(hb:eO b)(h:a≠b):er [a,b]=true:=by unfold er;simp[Bu aA,Bu hb,h]
theorem aEv{a:ByteArray}(aA:eO a):er [a]=true:=by unfold er;simp[Bu aA]
theorem nD{x a b:Int}(E:a<=x)(I:x<=b):dK x a b=true:=tM.2 ⟨E,I⟩
theorem aBX:oN (fx 1 2)=true/\(fx 1 1000).bF.small=true/\pn (fx 1 1000).bF=true/\(fx 30 1).bF.small=true:=by decide
theorem aBz{x:iL}{n:Nat}(h:JJ x n):iK x 2=true/\iL.fO x:=by
  obtain⟨eO,⟨en,hd⟩,⟨bk,dR⟩,⟨a8,bE⟩,⟨qm,ra,rb,aQ3,aQ4,aQ5,aQ6⟩,gR,⟨R,je,j2⟩,pE,fw⟩:=h;obtain⟨fs,jl,nL,xk⟩:=aBX;constructor
  · unfold iK;simp only[a1];refine⟨?_,?_,?_,?_,?_⟩
    · unfold lN;simp only[a1,e2];exact⟨nD en (by omega),nD bk (by omega),by omega,nD a8 bE,qm,nD (by omega) (by omega),nD (by omega) (by omega),nD (by omega) (by omega),nD (by omega) (by omega),nD (by omega) (by omega)⟩
    · rcases gR with e|e<;>rw[e]<;>rfl
    · unfold nM;simp only[a1,e2,eQ];rw[j2,pE,fw];refine⟨?_,λy af=> ?_,jl,nL,xk⟩
      · rw[List.length_replicate,je]
      · rw[List.eq_of_mem_replicate af];exact fs
    · rcases gR with e|e<;>rw[e]<;>decide
    · rcases gR with e|e<;>rw[e]<;>decide
  · refine⟨⟨λy af=> ?_,?_⟩,by rw[pE];exact aAG,by rw[fw];exact aAH,by rcases gR with e|e<;>rw[e]<;>decide⟩
    · rw[j2]at af;rw[List.eq_of_mem_replicate af];exact aAF
    · rw[j2,List.length_replicate];have:R<=2:=(by split at je<;>omega);omega
theorem aAw{ds:List gB}(h:qx ds):nZ ds=true:=by
  have K:(fx 0 1).bF.small=true/\ ¬0<(fx 0 1).bF.n:=by decide
  have aw:=h.q5;cases aD:ds with
  |nil=>rw[aD]at aw;cases aw
  | cons R l=>
    rw[aD]at aw;simp at aw;unfold nZ;simp only[a1,eQ,ou];constructor
    · rw[aw];simp[oh,K.1,K.2]
    · intro i ai;rw[cD ai];obtain⟨bu,bN,cn,⟨q,dd,ee⟩,fU,h4,j8,lW,uL⟩:=h.mf (i+1) l[i] (by omega) (by rw[aD,xH];exact cD ai);rw[aD]at dd;simp only[lk,a1];refine⟨nD bN (by omega),?_,nD fU h4,nD j8 lW,by rw[uL];exact K.1⟩;unfold Bg;rw[dd];exact decide_eq_true ee
theorem agi{u:bg}{bl:Int}(h:JE u bl)(e6:bl<=12):eF u:=by
  obtain⟨ext,⟨J,EV,WH,cN⟩,⟨a,b,c,d,aA,hb,ar,wF,NM⟩,bP,jN,aZ,pr,xb,cK,rV,cm⟩:=h;have yl:u.cm.length<=12:=by have:=rV.2;split at this<;>omega
  have wH:u.bf.length=2:=by rw[NM];rfl
  have Ai:u.cN.length=1:=by rw[cN];rfl
  have aKa:=bP.Uz;have bK:lB 1 J:=by unfold lB;omega
  have ag2: ∀x∈u.cK,iK x 2=true/\iL.fO x:= λx G=>by obtain⟨i,ai,rfl⟩:=j4 G;exact aBz (cK i _ (cD ai))
  have amT:gk u=true:=by
    unfold gk;simp only[a1,e2];refine⟨nD ext.1 (by omega),by omega,by omega,by omega,by omega,by omega,yl,aAw bP,?_,?_,?_,?_,?_,?_,?_,?_,?_,?_⟩
    · rw[cN];rfl
    · rw[NM,Ai];simp only[uc,nm,List.all_nil,Bool.and_true,a1,k6];exact⟨⟨nD (by omega) (by omega),nD (by omega) (by omega),by decide⟩,nD (by omega) (by omega),nD (by omega) (by omega),by decide⟩
    · rw[eQ];intro x G;obtain⟨i,ai,rfl⟩:=j4 G;obtain⟨bu,bN,cn,m,e,f⟩:=aZ i _ (cD ai);have:=f.cV;unfold kV;simp only[a1];refine⟨nD bN (by omega),nD (by omega) (by omega),?_⟩;obtain⟨q,dd,ee⟩:=f;unfold Bk;rw[e,ot,dd];exact decide_eq_true ee
    · rw[eQ,wH];exact λx G=>(ag2 x G).1
    · rw[eQ];intro x G;obtain⟨i,ai,rfl⟩:=j4 G;obtain⟨bu,bN,cn⟩:=cm i _ (cD ai);exact nD bN (by omega)
    · rw[cN];exact aEv Uk.1
    · rw[NM];exact aEw Uk.2.1 Uk.2.2 (show IT≠IV by decide)
    · refine V4 (c:= λi=>if i<u.bP.length-1 then 110 else 100) (f:= λi=>if i<u.bP.length-1 then i+1 else i-(u.bP.length-1)) (λi x G=> ?_) (λi j yg bj=> ?_)
      · by_cases PM:i<u.bP.length-1
        · rw[sf (by simp;exact PM),oZ,List.getElem?_tail]at G;simp only[if_pos PM];obtain⟨sj,aJ,aU⟩:=rh.1 G;rw[<-aU];exact⟨(bP.mf (i+1) sj (by omega) aJ).1,by simp,by omega⟩
        · rw[s4 (by simp;omega)]at G;simp only[j5,List.length_tail,oZ]at G;simp only[if_neg PM];obtain⟨sj,aJ,aU⟩:=rh.1 G;rw[<-aU];have aB:=(dO.1 aJ).1;exact⟨(aZ _ sj aJ).1,by simp,by omega⟩
      · split<;>split<;>omega
    · refine V4 (c:= λ_=>112) (f:= λi=>u.cK.length-i) (λi x G=> ?_) (λi j yg bj=> ?_)
      · rw[oZ]at G;obtain⟨sj,aJ,aU⟩:=rh.1 G;rw[<-aU];exact⟨(cK i sj aJ).eO,by simp,by omega⟩
      · simp at bj;omega
    · refine V4 (c:= λ_=>118) (f:= λi=>u.cm.length-i) (λi x G=> ?_) (λi j yg bj=> ?_)
      · rw[oZ]at G;obtain⟨sj,aJ,aU⟩:=rh.1 G;rw[<-aU];exact⟨(cm i sj aJ).1,by simp,by omega⟩
      · simp at bj;omega
  refine⟨aBj amT,⟨λx G=> ?_,λx G=> ?_,λx G=>(ag2 x G).2,by omega,by omega,by omega,by omega,by omega,by omega⟩⟩
  · rw[cN]at G;simp at G;subst G;exact⟨J,by omega,WH,rfl,rfl,rfl⟩
  · obtain⟨i,ai,rfl⟩:=j4 G;cases i with
    | zero=>have:=bP.q5;rw[cD ai]at this;rw[Option.some.inj this];exact agr
    | succ i=>rw[(bP.mf (i+1) _ (by omega) (cD ai)).2.2.2.2.2.2.2.2];exact agr
theorem ai3{u:bg}(h:nV u){v:Nat}(ad:v<u.cm.length):bH al 101 [.agg (aL u).toArray,Y v] (Y (kY u v)):=by
  refine ei (dD (aC:=⟨[],[]⟩) ZP (by kernel_rfl) (by simp[Lf]) ?_);obtain⟨x,p,q,G,ab,kd,bd,aT,E,I,av⟩:=Kw h ad;have fE:=(dO.1 G).2;have Gj:=(dO.1 bd).2;have b6:(v:Int)<u.cm.length:=by omega
  have a8:(p:Int)<u.cK.length:=by omega
  have cg:IntKind.i64.wrap (q.k+q.m)=q.k+q.m:=fV (by omega) (by omega);rw[aT];simp(disch:=first|omega|simp only[DI.ae];omega) [Lf,ZO,ZQ,ZR,aL,hx,e5,b6,a8,fE,ab,Gj,cg,-O,-U,-N,-S,-List.map_map]
noncomputable def xu(u:bg)(h:nV u):bC al:= .dN 101 Nat (λv=>v<u.cm.length) (λv=>[.agg (aL u).toArray,Y v]) (λv=>Y (kY u v)) λv ad=>ai3 h ad
@[simp] theorem aOX{u:bg}{h:nV u}:(xu u h).f=101:=rfl
@[simp] theorem aOY{u:bg}{h:nV u}{v:Nat}(ad:v<u.cm.length):(xu u h).fn [.agg #[Y u.ext,aj (u.cN.map gZ) 4,aj (u.bf.map gE) 4,aj (u.bP.map ez) 7,aj (u.aZ.map gr) 3,aj (u.cK.map e5) 17,aj (u.cm.map hx) 2],Y v]=some (Y (kY u v)):=bC.eh (x:=v) ad λy af=>by simp at af⊢;omega
theorem aAE{l:List Int}{x:Int}(aB:l.length<=1000000):bH al 102 [cp l,Y x] (.bool (decide (x∈l))):=by
  refine ei (dD (aC:=⟨[],[]⟩) ZT (by kernel_rfl) (by simp[Lg]) ?_);simp(disch:=first|omega|simp only[DI.ae];omega) [Lg,ZS,ZU,-O,-U,-N,-S,-List.map_map];refine h9 (aC:=⟨[],[]⟩) (λi A t=>(∀j (bj:j<l.length),j<i-> ¬l[j]=x)/\A 0=cp l/\A 1=Y x/\A 5=Y i) l.length ?_ ?_ 0 _ _ (ht _) ⟨λj bj h=>absurd h (xN _),by simp,by simp,by simp⟩
  · rintro i A t ai ⟨hX,cE,ba,cq⟩ cS bm;obtain⟨y,G⟩:=kp ai;have fE:=(dO.1 G).2;have b6:(i:Int)<l.length:=(by omega);have cg:=gY (n:=i) (by omega);by_cases c:y=x
    · have e:x∈l:=(by rw[<-c,<-fE];exact jQ ai);simp(disch:=first|omega|simp only[DI.ae];omega) [Lh,GA,GB,cE,ba,cq,b6,fE,eq_true c,e,-O,-U,-N,-S,-List.map_map]
    · simp(disch:=first|omega|simp only[DI.ae];omega) [Lh,GA,GB,cE,ba,cq,b6,fE,c,cg,-O,-U,-N,-S,-List.map_map];refine bm _ _ ⟨λj bj F8=> ?_,by simp[cE],by simp[ba],by simp⟩;by_cases e:j=i
      · subst e;rw[fE];exact c
      · exact hX j bj (by omega)
  · rintro A t ⟨hX,cE,ba,cq⟩;have e:x∉l:= λax=>by
      obtain⟨j,bj,e⟩:=j4 ax;exact hX j bj bj e
    simp(disch:=first|omega|simp only[DI.ae];omega) [Lh,GA,GB,GB,GA,cE,cq,e,-O,-U,-N,-S,-List.map_map]
noncomputable def sR:bC al:= .dN 102 (List Int×Int) (λx=>x.1.length<=1000000) (λx=>[cp x.1,Y x.2]) (λx=> .bool (decide (x.2∈x.1))) λ_ h=>aAE h
@[simp] theorem aOV:sR.f=102:=rfl
@[simp] theorem aOW{l:List Int}{x:Int}(h:l.length<=1000000):sR.fn [aj (l.map λx=>[Y x]) 1,Y x]=some (.bool (decide (x∈l))):=bC.eh (x:=(l,x)) h λ⟨uA,nj⟩ af=>by simpa using af
def ajb(t aI:W):Prop:=aI.next=t.next/\ ∀b,aI.X b=t.X b
def OG:List Nat:=[0,1,3,4,5,6,7,8]
theorem az5{u:bg}(k1:u.aZ.length<=24){ct:List Int}(mh:ct.length<=1000): ∀(r k d:Nat),k+r=u.aZ.length->d<u.aZ.length-> ∃ns:Nat,ns<u.aZ.length/\ ∀(A:aR) (t:W) (Q:dA->aR->W->Prop) (Cu or:Nat),A 3=cw Cu->A 7=dm or ct.length 1->A 9=Y d->A 10=Y k->t.X Cu=some ⟨aL u,true⟩->t.X or=some ⟨ct.map Y,true⟩->
    (∀ak aI,(∀s∈OG,ak s=A s)->ak 9=Y ns->ajb t aI->Q (.a7 4) ak aI)->fZ al (.loop HJ) A t Q:=by
  intro r;induction r with
  | zero=>intro k d aa aD;refine⟨d,aD,λA t Q Cu or eL fa gT hE ir bU b2=> ?_⟩;refine eE (aC:=⟨[sR],[iQ]⟩) λcS bm=> ?_;have w6:=a6 ir;have c: ¬(k:Int)<u.aZ.length:=(by omega);have bO: ¬k<u.aZ.length:=(by omega);simp(disch:=first|omega|simp only[DI.ae];omega) [HJ,MG,eL,hE,ir,aL,c,-O,-U,-N,-S,-List.map_map];refine b2 _ _ (λs K=>by simp only[OG,hH,jm,or_false]at K;rcases K with rfl|rfl|rfl|rfl|rfl|rfl|rfl|rfl<;>simp) (by simp[gT]) ⟨rfl,λ_=>rfl⟩
  | succ r cx=>
    intro k d aa aD;have Cw: ∀(t:W) (or:Nat),t.X or=some ⟨ct.map Y,true⟩->DI.dI 9 t (dm or ct.length 1)=some (cp ct):= λt or h=>ss (n:=8) (by rw[tO];exact h) (by simp) tN;have c:(k:Int)<u.aZ.length:=(by omega);have bO:k<u.aZ.length:=(by omega);have amJ:ct.length<=1000000:=(by omega);by_cases Cp:(d:Int)∈ct
    case neg=>refine⟨d,aD,λA t Q Cu or eL fa gT hE ir bU b2=> ?_⟩;refine eE (aC:=⟨[sR],[iQ]⟩) λcS bm=> ?_;have w6:=a6 ir;have bK:=Cw t or bU;simp(disch:=first|omega|simp only[DI.ae];omega) [HJ,MG,eL,fa,gT,hE,ir,aL,c,bK,Cp,-O,-U,-N,-S,-List.map_map];refine b2 _ _ (λs K=>by simp only[OG,hH,jm,or_false]at K;rcases K with rfl|rfl|rfl|rfl|rfl|rfl|rfl|rfl<;>simp) (by simp[gT]) ⟨by simp,λ_=>by simp⟩
    have c8:=gY (n:=d) (by omega);have e7:=gY (n:=k) (by omega);obtain⟨gN,QS⟩: ∃gN:Nat,((d:Int)+1).tmod u.aZ.length=gN/\gN<u.aZ.length:=(by have E:=Int.tmod_lt_of_pos ((d:Int)+1) (show(0:Int)<u.aZ.length by omega);have I:=Int.tmod_nonneg (a:=(d:Int)+1) (u.aZ.length:Int) (by omega);obtain⟨x,G⟩:=jS I;exact⟨x,G,by omega⟩);obtain⟨ns,bu,bN⟩:=cx (k+1) gN (by omega) QS.2;refine⟨ns,bu,λA t Q Cu or eL fa gT hE ir bU b2=> ?_⟩;refine eE (aC:=⟨[sR],[iQ]⟩) λcS bm=> ?_;have w6:=a6 ir;have bK:=Cw t or bU;have aU:=QS.1;have nI: ¬u.aZ.length=0:=(by omega);simp(disch:=first|omega|simp only[DI.ae];omega) [HJ,MG,eL,fa,gT,hE,ir,aL,c,bK,Cp,c8,e7,aU,nI,-O,-U,-N,-S,-List.map_map];refine bm _ _ (bN _ _ Q Cu or (by simp[eL]) (by simp[fa]) (by simp) (by simp) (by simpa[aL]using ir) (by simpa using bU) λak aI K iZ fk=>b2 ak aI (λs fp=>(K s fp).trans ?_) iZ ⟨by rw[fk.1];simp,λb=>by rw[fk.2 b];simp⟩);simp only[OG,hH,jm,or_false]at fp;rcases fp with rfl|rfl|rfl|rfl|rfl|rfl|rfl|rfl<;>simp
def I3:List Nat:=[0,3,4,5,6]
def JF(u:bg)(ct:List Int):Prop:= ∀y∈ct,-1<=y/\y<u.aZ.length
theorem az6{l:List Int}(aB:l.length<=140737488355328){u:bg}(h:eF u)(k1:1<=u.aZ.length){v:Nat}(ad:v<u.cm.length): ∀(r:Nat) (ct:List Int) (i:Nat),(ct.length:Int)+r=kY u v->JF u ct->i+2*r+10<1000000->
    ∃ (r2:List Int) (cU:Nat),(r2.length:Int)=kY u v/\JF u r2/\cU<=i+2*r/\ ∀(A:aR) (t:W) (Q:dA->aR->W->Prop) (or:Nat) (aW:List Nat),A 0=cw 0->A 3=cw 1->A 6=Y v->A 7=dm or ct.length 1->A 8=Y ct.length->
      t.X 0=some ⟨[cp l,Y i],true⟩->t.X 1=some ⟨aL u,true⟩->t.X or=some ⟨ct.map Y,true⟩->or≠0->or≠1->(∀b∈aW,b≠0/\b≠or/\b<t.next)->
      (∀ak aI Iu,(∀s∈I3,ak s=A s)->ak 7=dm Iu r2.length 1->aI.X 0=some ⟨[cp l,Y cU],true⟩->aI.X 1=some ⟨aL u,true⟩->aI.X Iu=some ⟨r2.map Y,true⟩->Iu≠0->Iu≠1->(∀b∈aW,b≠Iu/\aI.X b=t.X b)->t.next<=aI.next->Q (.a7 2) ak aI)->fZ al (.loop Dw) A t Q:=by
  have eX:=Kx h.ok ad;have amq:=h.ok.pr;have aKk:(u.aZ.length:Int)<=1000000:=by omega
  intro r;induction r with
  | zero=>intro ct i aw au ai;refine⟨ct,i,by omega,au,by omega,λA t Q or aW cE eL ft fa b9 aN ir bU hS gb dU b2=> ?_⟩;refine eE (aC:=⟨[sR,xu u h.ok],[iQ]⟩) λcS bm=> ?_;have w6:=a6 ir;have c: ¬(ct.length:Int)<kY u v:=(by omega);simp(disch:=first|omega|simp only[DI.ae];omega) [Dw,HG,HH,HI,eL,ft,b9,ir,aL,c,-O,-U,-N,-S,-List.map_map];exact b2 _ _ or (λs K=>by simp only[I3,hH,jm,or_false]at K;rcases K with rfl|rfl|rfl|rfl|rfl<;>simp) (by simp[fa]) aN ir bU hS gb (λb hb=>⟨(dU b hb).2.1,rfl⟩) (ey _)
  | succ r cx=>
    intro ct i aw au ai;have Cw: ∀(t:W) (or:Nat),t.X or=some ⟨ct.map Y,true⟩->DI.dI 9 t (dm or ct.length 1)=some (cp ct):= λt or h=>ss (n:=8) (by rw[tO];exact h) (by simp) tN;have c:(ct.length:Int)<kY u v:=(by omega);have amJ:ct.length<=1000000:=(by omega);have mK:=j0 (l:=l) (i:=i) (n:=(u.aZ.length:Int)) (by omega);obtain⟨cO,pb⟩:=jS mK.1;have aD:eU l i (u.aZ.length:Int)=(cO:Int):=pb;obtain⟨ns,pZ,l0⟩:=az5 h.ok.pr (ct:=ct) (by omega) u.aZ.length 0 cO (by omega) (by omega);have BV:((i:Int)+1).toNat=i+1:=(by omega);by_cases Cp:(ns:Int)∈ct
    · skip
      obtain⟨r2,cU,dd,ee,gm,gq⟩:=cx (ct++[-1]) (i+1) (by simp;omega) (λy af=>by
        simp only[kk,rj]at af;rcases af with af|rfl
        · exact au y af
        · omega) (by omega)
      refine⟨r2,cU,dd,ee,by omega,λA t Q or aW cE eL ft fa b9 aN ir bU hS gb dU b2=> ?_⟩;refine eE (aC:=⟨[sR,xu u h.ok],[iQ]⟩) λcS bm=> ?_;have fl:=a6 aN;have w6:=a6 ir;have tZ:=a6 bU;have ud: ¬0=or:= λe=>hS e.symm;have Bo: ¬1=or:= λe=>gb e.symm;simp(disch:=first|omega|simp only[DI.ae];omega) [Dw,HG,HH,HI,cE,eL,ft,b9,ir,aL,aN,c,kO,aD,-O,-U,-N,-S,-List.map_map];refine l0 _ _ _ 1 or (by simp[eL]) (by simp[fa]) (by simp) (by simp) (by simp(disch:=first|omega|simp only[DI.ae];omega) [ir,aL,-O,-U,-N,-S,-List.map_map]) (by simp(disch:=first|omega|simp only[DI.ae];omega) [bU,-O,-U,-N,-S,-List.map_map]) λbQ bD K F3 fk=> ?_;have oq:bQ 0=cw 0:=(K 0 (by decide)).trans (by simp[cE]);have s0:bQ 3=cw 1:=(K 3 (by decide)).trans (by simp[eL]);have uB:bQ 4=A 4:=(K 4 (by decide)).trans (by simp);have oX:bQ 5=A 5:=(K 5 (by decide)).trans (by simp);have s3:bQ 6=Y v:=(K 6 (by decide)).trans (by simp[ft]);have Jr:bQ 7=dm or ct.length 1:=(K 7 (by decide)).trans (by simp[fa]);have Js:bQ 8=Y ct.length:=(K 8 (by decide)).trans (by simp[b9]);have hV:bD.X 0=some ⟨[cp l,Y ((i:Int)+1)],true⟩:=(fk.2 0).trans (by simp(disch:=first|omega|simp only[DI.ae];omega) [-O,-U,-N,-S,-List.map_map]);have aJ:bD.X 1=some ⟨aL u,true⟩:=(fk.2 1).trans (by simp(disch:=first|omega|simp only[DI.ae];omega) [ir,aL,-O,-U,-N,-S,-List.map_map]);have pa:bD.X or=some ⟨ct.map Y,true⟩:=(fk.2 or).trans (by simp(disch:=first|omega|simp only[DI.ae];omega) [bU,-O,-U,-N,-S,-List.map_map]);have wu: ∀b∈aW,bD.X b=t.X b:= λb hb=>(fk.2 b).trans (by rw[bR (dU b hb).1]);have kb:bD.next=t.next:=fk.1.trans (by simp)
      clear K fk;have bK:=Cw bD or pa;have sN:=a6 hV;have bk:=a6 aJ;have Ue:=a6 pa;have gh:(ct.length+1)*8<=140737488355328/\ct.length<=9223372036854775806:=(by omega);have c8:IntKind.i64.wrap ((ct.length:Int)+1)=(ct.length:Int)+1:=fV (by omega) (by omega);simp(disch:=first|omega|simp only[DI.ae];omega) [Jr,Js,F3,pa,bK,Cp,gh,c8,-O,-U,-N,-S,-List.map_map];refine bm _ _ (gq _ _ Q (bD.next+3) aW (by simp[oq]) (by simp[s0]) (by simp[s3]) (by simp) (by simp) ?_ ?_ ?_ (by omega) (by omega) (λb hb=> ?_) λdt iW xf iP fu b6 a8 ID pv gd tz Ak=>b2 dt iW xf (λs fp=>(iP s fp).trans ?_) fu b6 a8 ID pv gd (λb hb=>⟨(tz b hb).1,(tz b hb).2.trans ?_⟩) (by simp at Ak;omega))
      · simp(disch:=first|omega|simp only[DI.ae];omega) [hV,-O,-U,-N,-S,-List.map_map]
      · simp(disch:=first|omega|simp only[DI.ae];omega) [aJ,aL,-O,-U,-N,-S,-List.map_map]
      · simp(disch:=first|omega|simp only[DI.ae];omega) [-O,-U,-N,-S,-List.map_map];exact jT (by simp)
      · obtain⟨a8,bE,b7⟩:=dU b hb;exact⟨a8,by omega,by simp;omega⟩
      · simp only[I3,hH,jm,or_false]at fp;rcases fp with rfl|rfl|rfl|rfl|rfl<;>simp[oq,s0,uB,oX,s3,cE,eL,ft]
      · obtain⟨a8,bE,b7⟩:=dU b hb;have eH:b<bD.next:=by omega
        have gi: ¬b=bD.next+2:=by omega
        have og: ¬b=bD.next+3:=by omega
        simp(disch:=first|omega|simp only[DI.ae];omega) [wu b hb,-O,-U,-N,-S,-List.map_map]
    by_cases FA:eU l (i+1) 12=0
    · skip
      obtain⟨r2,cU,dd,ee,gm,gq⟩:=cx (ct++[-1]) (i+2) (by simp;omega) (λy af=>by
        simp only[kk,rj]at af;rcases af with af|rfl
        · exact au y af
        · omega) (by omega)
      refine⟨r2,cU,dd,ee,by omega,λA t Q or aW cE eL ft fa b9 aN ir bU hS gb dU b2=> ?_⟩;refine eE (aC:=⟨[sR,xu u h.ok],[iQ]⟩) λcS bm=> ?_;have fl:=a6 aN;have w6:=a6 ir;have tZ:=a6 bU;have ud: ¬0=or:= λe=>hS e.symm;have Bo: ¬1=or:= λe=>gb e.symm;simp(disch:=first|omega|simp only[DI.ae];omega) [Dw,HG,HH,HI,cE,eL,ft,b9,ir,aL,aN,c,kO,aD,-O,-U,-N,-S,-List.map_map];refine l0 _ _ _ 1 or (by simp[eL]) (by simp[fa]) (by simp) (by simp) (by simp(disch:=first|omega|simp only[DI.ae];omega) [ir,aL,-O,-U,-N,-S,-List.map_map]) (by simp(disch:=first|omega|simp only[DI.ae];omega) [bU,-O,-U,-N,-S,-List.map_map]) λbQ bD K F3 fk=> ?_;have oq:bQ 0=cw 0:=(K 0 (by decide)).trans (by simp[cE]);have s0:bQ 3=cw 1:=(K 3 (by decide)).trans (by simp[eL]);have uB:bQ 4=A 4:=(K 4 (by decide)).trans (by simp);have oX:bQ 5=A 5:=(K 5 (by decide)).trans (by simp);have s3:bQ 6=Y v:=(K 6 (by decide)).trans (by simp[ft]);have Jr:bQ 7=dm or ct.length 1:=(K 7 (by decide)).trans (by simp[fa]);have Js:bQ 8=Y ct.length:=(K 8 (by decide)).trans (by simp[b9]);have hV:bD.X 0=some ⟨[cp l,Y ((i:Int)+1)],true⟩:=(fk.2 0).trans (by simp(disch:=first|omega|simp only[DI.ae];omega) [-O,-U,-N,-S,-List.map_map]);have aJ:bD.X 1=some ⟨aL u,true⟩:=(fk.2 1).trans (by simp(disch:=first|omega|simp only[DI.ae];omega) [ir,aL,-O,-U,-N,-S,-List.map_map]);have pa:bD.X or=some ⟨ct.map Y,true⟩:=(fk.2 or).trans (by simp(disch:=first|omega|simp only[DI.ae];omega) [bU,-O,-U,-N,-S,-List.map_map]);have wu: ∀b∈aW,bD.X b=t.X b:= λb hb=>(fk.2 b).trans (by rw[bR (dU b hb).1]);have kb:bD.next=t.next:=fk.1.trans (by simp)
      clear K fk;have bK:=Cw bD or pa;have sN:=a6 hV;have bk:=a6 aJ;have Ue:=a6 pa;have gh:(ct.length+1)*8<=140737488355328/\ct.length<=9223372036854775806:=(by omega);have c8:IntKind.i64.wrap ((ct.length:Int)+1)=(ct.length:Int)+1:=fV (by omega) (by omega);simp(disch:=first|omega|simp only[DI.ae];omega) [oq,Jr,Js,F3,hV,pa,bK,Cp,FA,kO,gh,c8,BV,-O,-U,-N,-S,-List.map_map];refine bm _ _ (gq _ _ Q (bD.next+3) aW (by simp[oq]) (by simp[s0]) (by simp[s3]) (by simp) (by simp) ?_ ?_ ?_ (by omega) (by omega) (λb hb=> ?_) λdt iW xf iP fu b6 a8 ID pv gd tz Ak=>b2 dt iW xf (λs fp=>(iP s fp).trans ?_) fu b6 a8 ID pv gd (λb hb=>⟨(tz b hb).1,(tz b hb).2.trans ?_⟩) (by simp at Ak;omega))
      · simp(disch:=first|omega|simp only[DI.ae];omega) [-O,-U,-N,-S,-List.map_map];omega
      · simp(disch:=first|omega|simp only[DI.ae];omega) [aJ,aL,-O,-U,-N,-S,-List.map_map]
      · simp(disch:=first|omega|simp only[DI.ae];omega) [-O,-U,-N,-S,-List.map_map];exact jT (by simp)
      · obtain⟨a8,bE,b7⟩:=dU b hb;exact⟨a8,by omega,by simp;omega⟩
      · simp only[I3,hH,jm,or_false]at fp;rcases fp with rfl|rfl|rfl|rfl|rfl<;>simp[oq,s0,uB,oX,s3,cE,eL,ft]
      · obtain⟨a8,bE,b7⟩:=dU b hb;have eH:b<bD.next:=by omega
        have gi: ¬b=bD.next+2:=by omega
        have og: ¬b=bD.next+3:=by omega
        simp(disch:=first|omega|simp only[DI.ae];omega) [wu b hb,-O,-U,-N,-S,-List.map_map]
    · skip
      obtain⟨r2,cU,dd,ee,gm,gq⟩:=cx (ct++[(ns:Int)]) (i+2) (by simp;omega) (λy af=>by
        simp only[kk,rj]at af;rcases af with af|rfl
        · exact au y af
        · omega) (by omega)
      refine⟨r2,cU,dd,ee,by omega,λA t Q or aW cE eL ft fa b9 aN ir bU hS gb dU b2=> ?_⟩;refine eE (aC:=⟨[sR,xu u h.ok],[iQ]⟩) λcS bm=> ?_;have fl:=a6 aN;have w6:=a6 ir;have tZ:=a6 bU;have ud: ¬0=or:= λe=>hS e.symm;have Bo: ¬1=or:= λe=>gb e.symm;simp(disch:=first|omega|simp only[DI.ae];omega) [Dw,HG,HH,HI,cE,eL,ft,b9,ir,aL,aN,c,kO,aD,-O,-U,-N,-S,-List.map_map];refine l0 _ _ _ 1 or (by simp[eL]) (by simp[fa]) (by simp) (by simp) (by simp(disch:=first|omega|simp only[DI.ae];omega) [ir,aL,-O,-U,-N,-S,-List.map_map]) (by simp(disch:=first|omega|simp only[DI.ae];omega) [bU,-O,-U,-N,-S,-List.map_map]) λbQ bD K F3 fk=> ?_;have oq:bQ 0=cw 0:=(K 0 (by decide)).trans (by simp[cE]);have s0:bQ 3=cw 1:=(K 3 (by decide)).trans (by simp[eL]);have uB:bQ 4=A 4:=(K 4 (by decide)).trans (by simp);have oX:bQ 5=A 5:=(K 5 (by decide)).trans (by simp);have s3:bQ 6=Y v:=(K 6 (by decide)).trans (by simp[ft]);have Jr:bQ 7=dm or ct.length 1:=(K 7 (by decide)).trans (by simp[fa]);have Js:bQ 8=Y ct.length:=(K 8 (by decide)).trans (by simp[b9]);have hV:bD.X 0=some ⟨[cp l,Y ((i:Int)+1)],true⟩:=(fk.2 0).trans (by simp(disch:=first|omega|simp only[DI.ae];omega) [-O,-U,-N,-S,-List.map_map]);have aJ:bD.X 1=some ⟨aL u,true⟩:=(fk.2 1).trans (by simp(disch:=first|omega|simp only[DI.ae];omega) [ir,aL,-O,-U,-N,-S,-List.map_map]);have pa:bD.X or=some ⟨ct.map Y,true⟩:=(fk.2 or).trans (by simp(disch:=first|omega|simp only[DI.ae];omega) [bU,-O,-U,-N,-S,-List.map_map]);have wu: ∀b∈aW,bD.X b=t.X b:= λb hb=>(fk.2 b).trans (by rw[bR (dU b hb).1]);have kb:bD.next=t.next:=fk.1.trans (by simp)
      clear K fk;have bK:=Cw bD or pa;have sN:=a6 hV;have bk:=a6 aJ;have Ue:=a6 pa;have gh:(ct.length+1)*8<=140737488355328/\ct.length<=9223372036854775806:=(by omega);have c8:IntKind.i64.wrap ((ct.length:Int)+1)=(ct.length:Int)+1:=fV (by omega) (by omega);simp(disch:=first|omega|simp only[DI.ae];omega) [oq,Jr,Js,F3,hV,pa,bK,Cp,FA,kO,gh,c8,BV,-O,-U,-N,-S,-List.map_map];refine bm _ _ (gq _ _ Q (bD.next+3) aW (by simp[oq]) (by simp[s0]) (by simp[s3]) (by simp) (by simp) ?_ ?_ ?_ (by omega) (by omega) (λb hb=> ?_) λdt iW xf iP fu b6 a8 ID pv gd tz Ak=>b2 dt iW xf (λs fp=>(iP s fp).trans ?_) fu b6 a8 ID pv gd (λb hb=>⟨(tz b hb).1,(tz b hb).2.trans ?_⟩) (by simp at Ak;omega))
      · simp(disch:=first|omega|simp only[DI.ae];omega) [-O,-U,-N,-S,-List.map_map];omega
      · simp(disch:=first|omega|simp only[DI.ae];omega) [aJ,aL,-O,-U,-N,-S,-List.map_map]
      · simp(disch:=first|omega|simp only[DI.ae];omega) [-O,-U,-N,-S,-List.map_map];exact jT (by simp)
      · obtain⟨a8,bE,b7⟩:=dU b hb;exact⟨a8,by omega,by simp;omega⟩
      · simp only[I3,hH,jm,or_false]at fp;rcases fp with rfl|rfl|rfl|rfl|rfl<;>simp[oq,s0,uB,oX,s3,cE,eL,ft]
      · obtain⟨a8,bE,b7⟩:=dU b hb;have eH:b<bD.next:=by omega
        have gi: ¬b=bD.next+2:=by omega
        have og: ¬b=bD.next+3:=by omega
        simp(disch:=first|omega|simp only[DI.ae];omega) [wu b hb,-O,-U,-N,-S,-List.map_map]
end Go.Proofs.YtmmkkggfmigppaaGreat
