/-
  A part of the proof, shortened by tools of ours.
-/
import Derived.Shelf.Spec.SlicesInsertGrow
import Derived.Test.YtmmkkggfmigppaaGreatZbx
set_option linter.all false
set_option maxRecDepth 8000
set_option maxHeartbeats 16000000
namespace Go.DI
open Go Go.RowKit
theorem ap5{aP:Nat}{ak:Ren}{m:G}{w:World}(al:dG aP ak m w):ak m.next=none:=by
 cases h:ak m.next with
 |none=>rfl
 |some l=>have:=al.lq _ _ h;omega
theorem ao9{aP:Nat}{ak:Ren}{m:G}{w:World}(al:dG aP ak m w){b off n:Nat}{x:en}(aH:m.F b=some x): ∀v∈gW m b off n,ad v=true:=by intro v M;obtain⟨l,_,_,bW,_⟩:=al.md b x aH;simp only[gW,aH]at M;obtain⟨j,aV,Eu⟩:=n4 (Bt (DH M));exact(bW j v (by rw[c6 aV,Eu])).1
theorem OX{ak:Ren}{n:Nat}{l:vL}: ∀b,b<n->hu ak n l b=ak b:= λb h=>zD b (by omega)
section
variable {P:Program} {r:Go.Shelf.Ren} {aP:Nat} {ak:Ren} {m:G} {w:World}
theorem ayV(al:dG aP ak m w)(cd:aP<=w.heap.size){cr:World}(aQ:cr.heap=w.heap)(s:Value){cs dD:List Value}(ar:dd ak cs dD)(lN: ∀v∈cs,ad v=true){ds:Array Value}{e:TypeId}(n:Nat)(aj:n=ds.size)(eW:cs.length<=n)
 (j9: ∀(i:Nat) bf,dD[i]?=some bf->ds[i]?=some bf):
 dG aP (hu ak m.next ⟨w.heap.size,0,n⟩) (((hR m s).bU 1).aK m.next (some ⟨cs,true⟩)) (cr.alloc (.cells ds e)):=by
 have O:dG aP ak ((hR m s).bU 1) w:=by
  refine dG.bU ?_ 1;unfold hR;split
  ·exact al.hR _
  ·exact al
 refine O.FI (cr:=cr) aQ cd (by rw[G.qP,Ik];omega) (ap5 al) eW (by omega) (λi v M=> ?_) (λi _=>by simp);obtain⟨bf,ba,u3⟩:=ar.F M;exact⟨lN v (fX M),bf,j9 i bf ba,u3⟩
theorem aqK{az:World}{c o:Nat}(h:(az.cell? ⟨c,o,none⟩).isSome=true): ∃t k,az.shape? c=some (t,k)/\k≠0:=by
 simp only[World.cell?]at h;cases e:az.heap[c]? with
 |none=>rw[e]at h;simp at h
 | some x=>
   rw[e]at h;cases x with
   | cells cs t b0=>refine⟨t,cs.size,by simp only[World.shape?,e],λbX=> ?_⟩;have:cs[o]?=none:=Array.getElem?_eq_none (by omega);simp[this]at h
   |_=>simp at h
theorem aI7{az:World}{C a b k:Nat}{dD vs:List Value}(A: ∀j,j<dD.length->(az.cell? ⟨C,a+j,none⟩).isSome=true)(E: ∀j,j<vs.length->(az.cell? ⟨C,b+j,none⟩).isSome=true)(h:(az.cell? ⟨C,k,none⟩).isSome=true):
 (((az.setCells C b vs).setCells C a dD).cell? ⟨C,k,none⟩).isSome=true:=
 Go.Proofs.isSome_setCells C dD a _ (λj aV=>Go.Proofs.isSome_setCells C vs b az E _ (A j aV)) _ (Go.Proofs.isSome_setCells C vs b az E _ h)
theorem aI5{az:World}{C o k:Nat}{dD vs:List Value}(O:dD.length=k)(H: ∀j,j<k+vs.length->(az.cell? ⟨C,o+j,none⟩).isSome=true):
 ∀i bf,(dD++vs)[i]?=some bf->((az.setCells C (o+k) vs).setCells C o dD).cell? ⟨C,o+i,none⟩=some bf:=by
 intro i bf ba;have E: ∀j,j<vs.length->(az.cell? ⟨C,o+k+j,none⟩).isSome=true:= λj aV=>by rw[n5];exact H _ (by omega)
 have A: ∀j,j<dD.length->((az.setCells C (o+k) vs).cell? ⟨C,o+j,none⟩).isSome=true:= λj aV=>Go.Proofs.isSome_setCells C vs (o+k) az E _ (H j (by omega));rw[zJ]at ba;split at ba
 ·rename_i dA;have:=World.cell?_setCells_in C dD o (az.setCells C (o+k) vs) A i dA;rw[this];rw[c6 dA]at ba;exact ba
 ·rename_i oO;have dA:=(cN.1 ba).1;rw[World.cell?_setCells_out C dD o _ _ (λ_ _=>by show o+i<o\/o+dD.length<=o+i;omega)];have:=World.cell?_setCells_in C vs (o+k) az E (i-dD.length) dA;rw[show o+k+(i-dD.length)=o+i by omega]at this;rw[this];rw[c6 dA]at ba;exact ba
theorem aI6{az yr:World}{C o k:Nat}{dD vs:List Value}(O:dD.length=k)(H: ∀j,j<k+vs.length->(az.cell? ⟨C,o+j,none⟩).isSome=true)(pS:yr.heap=(az.setCells C o dD).heap):
 ∀i bf,(dD++vs)[i]?=some bf->(yr.setCells C (o+k) vs).cell? ⟨C,o+i,none⟩=some bf:=by
 intro i bf ba;have av: ∀a,yr.cell? a=(az.setCells C o dD).cell? a:= λa=>by simp only[World.cell?,pS]
 have A: ∀j,j<dD.length->(az.cell? ⟨C,o+j,none⟩).isSome=true:= λj aV=>H _ (by omega);rw[zJ]at ba;split at ba
 ·rename_i dA;rw[World.cell?_setCells_out C vs (o+k) _ _ (λ_ _=>by show o+i<o+k\/o+k+vs.length<=o+i;omega),av];have:=World.cell?_setCells_in C dD o az A i dA;rw[this];rw[c6 dA]at ba;exact ba
 ·rename_i oO;have dA:=(cN.1 ba).1;have:=World.cell?_setCells_in C vs (o+k) yr (λj aV=>by rw[av,n5];exact Go.Proofs.isSome_setCells C dD o az A _ (H _ (by omega))) (i-dD.length) dA;rw[show o+k+(i-dD.length)=o+i by omega]at this;rw[this];rw[c6 dA]at ba;exact ba
theorem ayU(L:Go.Proofs.Lays2.n21 P r):Jv P (r.f 21):=by
 refine⟨⟨_,L.f21,rfl,rfl⟩,?_⟩;intro aP args m Nw U h ak w l1 ag al cd;obtain⟨s,i,y,rfl,ax,rfl,rfl⟩:=Lq h;simp only[tP,Lr,a7,eF]at ax;obtain⟨A,E,ao,aS,⟨⟨bI,eg⟩,hf⟩,jj⟩:=ax;have Y:=anK bI;subst Y;obtain⟨gY,mD,cH⟩:=ag.F (i:=0) (x:=s) rfl;obtain⟨du,ih,acH⟩:=ag.F (i:=1) (x:= .int .i64 0) rfl;obtain⟨ta,y2,rn⟩:=ag.F (i:=2) (x:=y) rfl;have dc:l1.toList.length=3:=ag.1.symm;have WJ:l1= #[gY,du,ta]:=by
  apply Array.ext';apply yi;intro k
  match k with
  |0=>simpa using mD
  |1=>simpa using ih
  |2=>simpa using y2
  |k+3=>rw[qD (by omega)];simp
 subst WJ;have VU:du= .int .i64 0:=acH.hB rfl;subst VU;have ar:=ap5 al;rcases zB ao with aG|⟨lC,n1,iR,UZ,rfl,tN,EM⟩
 ·rw[aG]at eg;simp[fW]at eg
 obtain⟨jJ,Vl,Gr,yU,_,rfl,EB,axw,_⟩:=rn.lv
 replace yU:ak lC=some jJ:=yU
 replace EB:(Gr=0/\iR=0)\/(Vl=⟨jJ.c,jJ.o+n1,none⟩/\n1+Gr*1<=jJ.n):=EB
 replace eg:0<iR:=eg
 rcases EB with⟨_,bX⟩|⟨rfl,aQU⟩
 ·omega
 obtain⟨hZ,ed,er,lA,CV⟩:=al.cells tN yU EM;rw[Nat.mul_one]at er;have QA:UZ.own=true:=by simpa[iQ,tN]using aS
 obtain⟨aTo,ait,_,_,apN⟩:=al.md lC UZ tN;rw[yU]at ait;cases ait;have Hk: ∀j v,hZ[j]?=some v->w.cell? ⟨jJ.c,(jJ.o+n1)+j,none⟩=some v:= λj v aV=>by have:=lA j v aV;rwa [JG]at this
 have Xj:=ao9 al (off:=n1) (n:=iR*1) tN;have bE:(Value.int .i64 0).cells.size=1:=rfl
 have ahM: ∀(bG:Value) (base:Option Addr) (cap:Nat),fW bG=0->fy m 1 bG=[]->cap<iR->(0+iR)*8<=140737488355328->
  Calls P (r.f 21) #[.slice base 0 cap,.int .i64 0,.slice (some ⟨jJ.c,jJ.o+n1,none⟩) iR Gr] w λe w'=> ∃v cT,e= .returned v/\gQ ak cT/\(∀b,b<m.next->cT b=ak b)/\
   dX cT (xK m bG (.slice (some ⟨lC,n1,none⟩) iR 1)) v/\dG aP cT (u6 m bG (.slice (some ⟨lC,n1,none⟩) iR 1)) w'/\Below aP w w':=by
  intro bG base cap oP oN KY aw0;refine(Go.Proofs.Any2.slices_Insert_int_end_grow L base 0 cap jJ.c (jJ.o+n1) iR Gr [] hZ w eg (gd _) (by omega) aw0 rfl er (λ_=>rfl) (λa _ j v h=>by simp at h) Hk CV).mono ?_;rintro e w' ⟨rfl,rfl⟩;have oO:=grownCap_ge w (0+iR) cap (r.t 3);have qY:grownCap w (0+iR) cap (r.t 3)<=maxLen:=grownCap_le_maxLen w _ cap (r.t 3) (by unfold maxLen;omega)
  have aH:=ayV (cr:=w.drew) (e:=r.t 3) al cd rfl bG (cs:=gW m lC n1 (iR*1)) (dD:=hZ) ed Xj (ds:=(([]:List Value)++hZ).toArray++Builtin.zeroCells (Value.int .i64 0).cells (grownCap w (0+iR) cap (r.t 3)-(0+iR)))
   (grownCap w (0+iR) cap (r.t 3)) (by simp only[Array.size_append,List.size_toArray,wZ,size_zeroCells,bE,er];omega) (by rw[ed.1,er];omega) (λi bf ba=>by rw[Ot (by have:=(cN.1 ba).1;simpa using this)];simpa using ba)
  refine⟨_,hu ak m.next ⟨w.heap.size,0,grownCap w (0+iR) cap (r.t 3)⟩,rfl,sf ar,OX,?_,?_,xa (w:=w) (cr:=w.drew) rfl rfl rfl rfl cd _⟩
  ·unfold xK;rw[oP];exact .slice (off:=0) (l:=⟨w.heap.size,0,grownCap w (0+iR) cap (r.t 3)⟩) (by simp[hu]) (.inr ⟨by simp,by simp⟩) oO qY
  ·have e:u6 m bG (.slice (some ⟨lC,n1,none⟩) iR 1)=((hR m bG).bU 1).aK m.next (some ⟨gW m lC n1 (iR*1),true⟩):=by
    simp only[u6,oN,sl];rfl
   rw[e];exact aH
 rcases zB A with rfl|⟨cD,ib,mi,h1,rfl,oT,gJ⟩
 ·-- nil
  have es:=cH.hB rfl;subst es;exact ahM _ none 0 rfl rfl eg jj
 ·-- a slice cM pF atR own
  obtain⟨cn,z1,s4,wh,_,rfl,u0,axv,P3⟩:=cH.lv
  replace wh:ak cD=some cn:=wh
  replace u0:(s4=0/\mi=0)\/(z1=⟨cn.c,cn.o+ib,none⟩/\ib+s4*1<=cn.n):=u0
  rcases Nat.eq_zero_or_pos mi with rfl|cZ
  ·have oN:gW m cD ib (0*1)=[]:=(by simp[gW,oT]);by_cases AB:iR<=s4
   ·rcases u0 with⟨bX,_⟩|⟨rfl,ax5⟩
    ·omega
    have xD:h1.own=true:=(by simpa[iQ,oT]using E);obtain⟨aDI,K6,_,_,FQ⟩:=al.md cD h1 oT;rw[wh]at K6;cases K6;have gR: ∀j,j<iR->(w.cell? ⟨cn.c,(cn.o+ib)+j,none⟩).isSome=true/\w.frozen? ⟨cn.c,(cn.o+ib)+j,none⟩=false:= λj aV=>by
     have:=(FQ xD).2 (ib+j) (by omega)
     rwa [<-n5]at this
    refine(Go.Proofs.Any2.slices_Insert_int_end_room L cn.c (cn.o+ib) 0 s4 jJ.c (jJ.o+n1) iR Gr hZ w eg (by omega) (by unfold maxLen at P3;omega) er (λj aV=>(gR j aV).1) (λj aV=>(gR j aV).2) Hk CV).mono ?_;rintro e w' ⟨rfl,rfl⟩;rw[ux];have qW:aP<=cn.c:=(FQ xD).1;have pb:u6 m (.slice (some ⟨cD,ib,none⟩) 0 1) (.slice (some ⟨lC,n1,none⟩) iR 1)=((m.aK cD none).bU 1).aK m.next (some ⟨gW m lC n1 (iR*1),true⟩):=by simp only[u6,fy,oN,sl];rfl
    refine⟨_,hu ak m.next ⟨cn.c,cn.o+ib,cn.n-ib⟩,rfl,sf ar,OX,?_,?_,z2 qW _ _ _⟩
    ·exact .slice (off:=0) (l:=⟨cn.c,cn.o+ib,cn.n-ib⟩) (by simp[hu]) (.inr ⟨by simp,by show 0+s4*1<=cn.n-ib;omega⟩) (by show 0+iR<=s4;omega) P3
    ·rw[pb]
     refine((al.hR cD).bU 1).JI (by rw[G.qP,G.No];omega) ar (λcB hM c7 h6 h5=> ?_) (by rw[wM];exact c8 _) (by rw[wM];exact al.mb cD cn wh) qW
      (λeG _ bx=>⟨by rw[World.cell?_setCells_out _ _ _ _ _ (λh _=>absurd h bx)],by rw[World.frozen?_setCells]⟩)
      (λk _ O=>by rw[Di _ _ O]) (by rw[ed.1,er];omega) (λi v M=> ?_) (λi ih=> ?_) ((al.tY cD h1 cn oT xD wh).setCells _ _ _)
     ·rw[G.cl,G.mX]at h6;split at h6
      ·split at h6<;>cases h6
      ·rename_i bx;exact Ne.symm (al.rN cD h1 cB hM cn c7 oT xD h6 (Ne.symm bx) wh h5)
     ·obtain⟨bf,ba,u3⟩:=ed.F M;refine⟨Xj v (fX M),bf,?_,u3⟩;have dA:=(cN.1 ba).1;have:=World.cell?_setCells_in cn.c hZ (cn.o+ib) w (λj aV=>(gR j (by omega)).1) i dA;rw[this];rw[c6 dA]at ba;exact ba
     ·have bg:=(FQ xD).2 (ib+i) (by omega);rw[<-n5]at bg;exact⟨Go.Proofs.isSome_setCells cn.c hZ (cn.o+ib) w (λj aV=>(gR j (by omega)).1) _ bg.1,by rw[World.frozen?_setCells];exact bg.2⟩
   ·exact ahM _ (some z1) s4 rfl oN (by omega) jj
  rcases u0 with⟨_,bX⟩|⟨rfl,ax5⟩
  ·omega
  obtain⟨oX,hk,hD,p3,Iz⟩:=al.cells oT wh gJ;rw[Nat.mul_one]at hD;have xD:h1.own=true:=(by simpa[iQ,oT]using E);obtain⟨aDI,K6,_,_,FQ⟩:=al.md cD h1 oT;rw[wh]at K6;cases K6;have Xi:=ao9 al (off:=ib) (n:=mi*1) oT;have holds: ∀j v,oX[j]?=some v->w.cell? ⟨cn.c,(cn.o+ib)+j,none⟩=some v:= λj v aV=>by have:=p3 j v aV;rwa [JG]at this
  have bx:lC≠cD:= λe=>hf (by simp only[vx,e]);have Cq:jJ.c≠cn.c:=al.rN lC UZ cD h1 jJ cn tN QA oT bx yU wh;simp only[fW]at jj;have yS:dd ak (gW m lC n1 (iR*1)++gW m cD ib (mi*1)) (hZ++oX):=ed.p8 hk;have aiB: ∀v∈gW m lC n1 (iR*1)++gW m cD ib (mi*1),ad v=true:= λv M=>by
   rcases jP.1 M with h|h
   ·exact Xj v h
   ·exact Xi v h
  have O:dG aP ak ((m.aK cD none).bU 1) w:=(al.hR cD).bU 1;have pb:u6 m (.slice (some ⟨cD,ib,none⟩) mi 1) (.slice (some ⟨lC,n1,none⟩) iR 1)=((m.aK cD none).bU 1).aK m.next (some ⟨gW m lC n1 (iR*1)++gW m cD ib (mi*1),true⟩):=rfl
  have jy: ∀cB hM,((m.aK cD none).bU 1).F cB=some hM->cB≠cD/\m.F cB=some hM:= λcB hM h6=>by
   rw[G.cl,G.mX]at h6;split at h6
   ·split at h6<;>cases h6
   ·rename_i bx;exact⟨bx,h6⟩
  by_cases AB:mi+iR<=s4
  ·-- aeh CH cR
   have gR: ∀j,j<mi+iR->(w.cell? ⟨cn.c,(cn.o+ib)+j,none⟩).isSome=true/\w.frozen? ⟨cn.c,(cn.o+ib)+j,none⟩=false:= λj aV=>by
    have:=(FQ xD).2 (ib+j) (by omega)
    rwa [<-n5]at this
   obtain⟨arj,anY,aiQ,_⟩:=aqK (az:=w) (c:=jJ.c) (o:=jJ.o+n1) ((apN QA).2 n1 (by omega)).1;obtain⟨aIT,aCM,ax4,axr⟩:=aqK (az:=w) (c:=cn.c) (o:=(cn.o+ib)+0) (gR 0 (by omega)).1
   refine(Go.Proofs.Any2.slices_Insert_int_shift L cn.c (cn.o+ib) mi s4 0 jJ.c (jJ.o+n1) iR Gr oX hZ w cZ eg AB (by unfold maxLen at P3;omega) Cq hD er holds (λj aV=>(gR j aV).1) (λj aV=>(gR j aV).2) Hk Iz CV arj aIT anY aCM aiQ ax4 axr
    ((apN QA).2 n1 (by omega)).2 (al.tY lC UZ jJ tN QA yU arj anY aiQ)).mono ?_
   rintro e w' ⟨rfl,rfl⟩;rw[Bz,ux,oB];have iu:=aI5 (az:=w.drew) (C:=cn.c) (o:=cn.o+ib) (k:=iR) (dD:=hZ) (vs:=oX) er (λj aV=>(gR j (by omega)).1);have qW:aP<=cn.c:=(FQ xD).1;refine⟨_,hu ak m.next ⟨cn.c,cn.o+ib,cn.n-ib⟩,rfl,sf ar,OX,?_,?_,(Below.refl aP w).drew.trans ((z2 qW _ _ _).trans (z2 qW _ _ _))⟩
   ·exact .slice (off:=0) (l:=⟨cn.c,cn.o+ib,cn.n-ib⟩) (by simp[hu]) (.inr ⟨by simp,by show 0+s4*1<=cn.n-ib;omega⟩) AB P3
   ·rw[pb]
    refine O.JI (by rw[G.qP,G.No];omega) ar (λcB hM c7 h6 h5=> ?_) (by rw[wM,wM];exact c8 _) (by rw[wM,wM];exact al.mb cD cn wh) qW
     (λeG _ bx=>⟨by rw[World.cell?_setCells_out _ _ _ _ _ (λh _=>absurd h bx),World.cell?_setCells_out _ _ _ _ _ (λh _=>absurd h bx)];rfl,by rw[World.frozen?_setCells,World.frozen?_setCells];rfl⟩)
     (λk _ O=>by rw[Di _ _ O,Di _ _ O];rfl) (by rw[yS.1,iD,er,hD];omega) (λi v M=> ?_) (λi ih=> ?_)
     ((((al.tY cD h1 cn oT xD wh).C0 (w':=w.drew) rfl).setCells _ _ _).setCells _ _ _)
    ·obtain⟨aG,aN⟩:=jy cB hM h6;exact Ne.symm (al.rN cD h1 cB hM cn c7 oT xD aN (Ne.symm aG) wh h5)
    ·obtain⟨bf,ba,u3⟩:=yS.F M;exact⟨aiB v (fX M),bf,iu i bf ba,u3⟩
    ·have bg:=(FQ xD).2 (ib+i) (by omega);rw[<-n5]at bg;refine⟨aI7 (az:=w.drew) (λj aV=>(gR j (by omega)).1) (λj aV=>by rw[n5];exact(gR _ (by omega)).1) bg.1,by rw[World.frozen?_setCells,World.frozen?_setCells];exact bg.2⟩
  ·-- aaF awn
   refine(Go.Proofs.Any2.slices_Insert_int_grow L cn.c (cn.o+ib) mi s4 0 jJ.c (jJ.o+n1) iR Gr oX hZ w cZ eg axv (by omega) jj hD er holds Hk Iz CV).mono ?_;rintro e w' ⟨rfl,rfl⟩;have oO:=grownCap_ge w (mi+iR) s4 (r.t 3);have qY:grownCap w (mi+iR) s4 (r.t 3)<=maxLen:=grownCap_le_maxLen w _ s4 (r.t 3) (by unfold maxLen;omega);generalize nM:grownCap w (mi+iR) s4 (r.t 3)=ym at oO qY⊢;generalize j9:(oX.take 0).toArray++Builtin.zeroCells (Value.int .i64 0).cells (mi+iR-0)++Builtin.zeroCells (Value.int .i64 0).cells (ym-(mi+iR))=ds;have kk:ds.size=ym:=(by rw[<-j9];simp only[Array.size_append,List.take_zero,List.size_toArray,yj,size_zeroCells,bE];omega);rw[Bz,oB];have Hm:(w.alloc (.cells ds (r.t 3))).heap[w.heap.size]?=some (.cells ds (r.t 3) (0,0)):=(by show(w.heap.push _)[_]?=_;simp);have eh: ∀j,j<ym->((w.alloc (.cells ds (r.t 3))).drew.cell? ⟨w.heap.size,0+j,none⟩).isSome=true:= λj aV=>by have:((w.alloc (.cells ds (r.t 3))).drew.heap)[w.heap.size]?=some (.cells ds (r.t 3) (0,0)):=Hm;simp only[World.cell?];rw[this];simp[kk,aV]
   have iu:=aI6 (az:=(w.alloc (.cells ds (r.t 3))).drew) (yr:=((w.alloc (.cells ds (r.t 3))).drew.setCells w.heap.size 0 hZ).drew) (C:=w.heap.size) (o:=0) (k:=iR) (dD:=hZ) (vs:=oX) er (λj aV=>eh j (by omega)) rfl;rw[Bz]at iu;have La: ∀k,k<w.heap.size->(w.alloc (.cells ds (r.t 3))).heap[k]?=w.heap[k]?:= λk O=>by show(w.heap.push _)[k]?=_;rw[Array.getElem?_push,if_neg (by omega)]
   have ax6:(w.alloc (.cells ds (r.t 3))).heap.size=w.heap.size+1:=(by show(w.heap.push _).size=_;rw[Array.size_push]);have Ay: ∀k,k<w.heap.size->((((w.alloc (.cells ds (r.t 3))).drew.setCells w.heap.size 0 hZ).drew).setCells w.heap.size iR oX).heap[k]?=w.heap[k]?:= λk O=>by rw[Di _ _ (by omega)];show((w.alloc (.cells ds (r.t 3))).drew.setCells w.heap.size 0 hZ).heap[k]?=_;rw[Di _ _ (by omega)];exact La k O
   have aiV:((((w.alloc (.cells ds (r.t 3))).drew.setCells w.heap.size 0 hZ).drew).setCells w.heap.size iR oX).heap.size=w.heap.size+1:=(by rw[wM];show((w.alloc (.cells ds (r.t 3))).drew.setCells w.heap.size 0 hZ).heap.size=_;rw[wM];exact ax6);refine⟨_,hu ak m.next ⟨w.heap.size,0,ym⟩,rfl,sf ar,OX,?_,?_,?_⟩
   ·exact .slice (off:=0) (l:=⟨w.heap.size,0,ym⟩) (by simp[hu]) (.inr ⟨by simp,by simp⟩) oO qY
   ·rw[pb]
    refine O.JI (by rw[G.qP,G.No];omega) ar (λcB hM c7 h6 h5=>by have:=al.mb cB c7 h5;omega) (by rw[aiV];omega) (by rw[aiV];omega) cd
     (λeG A bx=>⟨World.cell?_of_block (w:=w) (Ay _ A),World.frozen?_of_block (w:=w) (Ay _ A)⟩)
     (λk A _=>Ay k A) (by rw[yS.1,iD,er,hD];omega) (λi v M=> ?_) (λi ih=> ?_)
     (o7.setCells _ _ _ (o7.C0 (w:=(w.alloc (.cells ds (r.t 3))).drew.setCells w.heap.size 0 hZ) (o7.setCells _ _ _ (o7.ao6 (w:=(w.alloc (.cells ds (r.t 3))).drew) Hm (by simp))) rfl))
    ·obtain⟨bf,ba,u3⟩:=yS.F M;exact⟨aiB v (fX M),bf,iu i bf ba,u3⟩
    ·refine⟨Go.Proofs.isSome_setCells _ _ _ _ (λj aV=> ?_) _ ?_,?_⟩
     ·show(((w.alloc (.cells ds (r.t 3))).drew.setCells w.heap.size 0 hZ).cell? _).isSome=true;have:=Go.Proofs.isSome_setCells w.heap.size hZ 0 (w.alloc (.cells ds (r.t 3))).drew (λt a8=>eh t (by omega)) (0+(iR+j)) (eh _ (by omega))
      rwa [Bz]at this
     ·show(((w.alloc (.cells ds (r.t 3))).drew.setCells w.heap.size 0 hZ).cell? _).isSome=true;exact Go.Proofs.isSome_setCells w.heap.size hZ 0 (w.alloc (.cells ds (r.t 3))).drew (λt a8=>eh t (by omega)) (0+i) (eh _ ih)
     ·rw[World.frozen?_setCells];show((w.alloc (.cells ds (r.t 3))).drew.setCells w.heap.size 0 hZ).frozen? _=false;rw[World.frozen?_setCells];have:((w.alloc (.cells ds (r.t 3))).drew.heap)[w.heap.size]?=some (.cells ds (r.t 3) (0,0)):=Hm;simp only[World.frozen?];rw[this];simp
   ·exact((((Below.refl aP w).alloc cd _).drew.trans (z2 cd _ _ _)).drew).trans (z2 cd _ _ _)
end
end Go.DI
namespace Go.Proofs.YtmmkkggfmigppaaGreat
open Go Go.DI
def apQ:Go.Shelf.Ren:=⟨λk=>if k=21 then 73 else if k=27 then 119 else if k=28 then 120 else if k=35 then 181 else if k=39 then 233 else k,λt=>t,λg=>g⟩
theorem aC4:Go.Proofs.Lays2.n21 N apQ where
 mixed:=by kernel_rfl
 f21:=by kernel_rfl
 f27:=by kernel_rfl
 f28:=by kernel_rfl
 f35:=by kernel_rfl
 f39:=by kernel_rfl
 t0:=Tryz.underlying0
 a0:=Tryz.isAgg0
 z0:=Tryz.sizeOf0
 v0:=Tryz.zeroValue0
 t3:=Tryz.underlying3
 a3:=Tryz.isAgg3
 z3:=Tryz.sizeOf3
 v3:=Tryz.zeroValue3
 t4:=Tryz.underlying4
 a4:=Tryz.isAgg4
 z4:=Tryz.sizeOf4
 v4:=Tryz.zeroValue4
 t22:=Tryz.underlying22
 a22:=Tryz.isAgg22
 z22:=Tryz.sizeOf22
 v22:=Tryz.zeroValue22
 i3:=by kernel_rfl
theorem avo:apQ.f 21=73:=rfl
theorem ayQ:Jv N 73:=by have h:=ayU aC4;rw[avo]at h;exact h
theorem ayT:cm N 73=none:=by kernel_rfl
open Go Go.DI Go.Big
def w2(cs:List Value):Prop:= ∀c∈cs,∃n:Int,c=D n
theorem w2.map{l:List Int}:w2 (l.map D):= λc av=>by obtain⟨n,_,rfl⟩:=gx.1 av;exact⟨n,rfl⟩
theorem ago: ∀{l:List Int} {cs:List Value},cs.take l.length=l.map D-> ∀{n:Nat} {t:G},fR (fR (dx n t)) (lH 1 l.length cs)=some (l.map λx=>[D x])
 |[],cs,_,n,t=>by simp[]
 | x::l,cs,h,n,t=>by
   cases cs with
   |nil=>simp at h
   | cons c cs=>simp only[m8,Oo,lW,uw]at h;obtain⟨rfl,E⟩:=h;have cj:=ago E (n:=n) (t:=t);simp only[m8,lH,Oo,List.take_zero,List.drop_succ_cons,oB,fR,avJ,cj,lW]
theorem acA{n:Nat}{t:G}: ∀{cs:List Value},w2 cs->cs.flatMap (eC n t)=[]
 |[],_=>rfl
 | c::cs,h=>by obtain⟨x,rfl⟩:=h c (by simp);rw[List.flatMap_cons,aF8,acA λc av=>h c (by simp[av])];rfl
def e8(t:G)(o:Nat)(l:List Int):Prop:= ∃cs,t.F o=some ⟨cs,true⟩/\cs.take l.length=l.map D/\l.length<=cs.length/\w2 cs
theorem e8.cM{t:G}{o:Nat}{l:List Int}(h:t.F o=some ⟨l.map D,true⟩):e8 t o l:=⟨_,h,hx (by simp),by simp,w2.map⟩
theorem e8.UK{t:G}{o:Nat}{l:List Int}(h:e8 t o l):lZ t (bN o l.length 1) l:=by obtain⟨cs,g,a,b,_⟩:=h;exact lZ.own g (by omega) (by rw[oB];exact a)
theorem e8.dg{t X:G}{o:Nat}{l:List Int}(h:e8 t o l)(O:X.F o=t.F o):e8 X o l:=by obtain⟨cs,g,r⟩:=h;exact⟨cs,by rw[O];exact g,r⟩
theorem e8.take{t:G}{o:Nat}{l:List Int}(h:e8 t o l){k:Nat}(O:k<=l.length):e8 t o (l.take k):=by
 obtain⟨cs,g,a,b,c⟩:=h;refine⟨cs,g,?_,by rw[te];omega,c⟩;have e:(l.take k).length=k:=by rw[te];omega
 rw[e,List.map_take,<-a,List.take_take];congr 1;omega
theorem e8.cU{t:G}{o:Nat}{l:List Int}(h:e8 t o l):o<t.next:=by obtain⟨cs,g,_⟩:=h;exact aF g
theorem e8.dx{t:G}{o:Nat}{l:List Int}(h:e8 t o l){n:Nat}:dx (n+1) t (bN o l.length 1)=some (bq l):=by
 obtain⟨cs,g,a,b,c⟩:=h;have hb:(0+l.length*1<=cs.length):=by omega
 rw[PE,g];simp only[oB,ago a,if_pos hb]
theorem ayW{t:G}{os ab7:Nat}{l:List Int}{x:Int}(H:e8 t os l)(hb:l.length<=1000000)(PN:t.F ab7=some ⟨[D x],true⟩)(bx:os≠ab7):
 fg N 73 [bN os l.length 1,D 0,bN ab7 1 1] t λr X=>r=bN t.next (l.length+1) 1/\X=((t.aK os none).bU 1).aK t.next (some ⟨(x::l).map D,true⟩):=by
 obtain⟨cs,gO,a8,aA,_⟩:=H;refine(aJ4 ayT ayQ ?_).bt λr X ⟨A,E⟩=> ?_
 ·have hf:(l.length+1)*8<=140737488355328:=(by omega);simp[tP,Lr,fF,iQ,gO,PN,S1,fW,vx,aA,bx,hf]
 ·rw[A,E];refine⟨by simp[xK,fW],?_⟩;simp[u6,fy,gW,gO,PN,a8,hR]
end Go.Proofs.YtmmkkggfmigppaaGreat
namespace Go.Big
theorem Vg{P:List Int->Bool}{x:Int}: ∀{l a:List Int},fh P a (l++[x])=if P ((fh P a l).1++[x])=true then((fh P a l).1++[x],(fh P a l).2)else((fh P a l).1,(fh P a l).2++[x])
 | [],a=>by simp only[wZ,fh]<;>rfl
 | w::l,a=>by
   by_cases c:P (a++[w])=true
   ·simp only[uu,fh,if_pos c];exact Vg
   ·simp only[uu,fh,if_neg c];rw[Vg (l:=l) (a:=a)];split<;>rfl
theorem afC{P:List Int->Bool}{a eb:List Int}{i:Nat}{x:Int}(B:eb[i]?=some x):fh P a (eb.take (i+1))=if P ((fh P a (eb.take i)).1++[x])=true then((fh P a (eb.take i)).1++[x],(fh P a (eb.take i)).2)else((fh P a (eb.take i)).1,(fh P a (eb.take i)).2++[x]):=by rw[qF,B];exact Vg
theorem Vh{P:List Int->Bool}: ∀(l a:List Int),(fh P a l).2.Sublist l
 |[],a=>by simp[fh]
 | w::l,a=>by
   by_cases c:P (a++[w])=true
   ·simp only[fh,if_pos c];exact(Vh l _).cons w
   ·simp only[fh,if_neg c];exact(Vh l _).cons_cons w
theorem JH{P:List Int->Bool}: ∀(l a:List Int),(fh P a l).1.length+(fh P a l).2.length=a.length+l.length
 |[],a=>by simp[fh]
 | w::l,a=>by
   by_cases c:P (a++[w])=true
   ·simp only[fh,if_pos c];have:=JH (P:=P) l (a++[w]);simp at this⊢;omega
   ·simp only[fh,if_neg c];have:=JH (P:=P) l a;simp at this⊢;omega
theorem ag9{P:List Int->Bool}{af az:List Int}{k:Nat}(O:k<af.length):qd P (k+1) (af.take (k+1)) (af.drop (k+1)++az)=if P (af.take (k+1))=false then qd P k (af.take k) (af.drop k++az)else(af.take (k+1),af.drop (k+1)++az):=by
 obtain⟨x,B⟩: ∃x,af[k]?=some x:=⟨_,c6 O⟩;have cQ:af[k]=x:=(cN.1 B).2;have e:af.take (k+1)=af.take k++[x]:=by rw[qF,B];rfl
 have bx:af.take (k+1)≠[]:=by rw[e];simp
 have aN:af.drop k=x::af.drop (k+1):=by rw[pG O,cQ]
 rw[qd];by_cases c:P (af.take (k+1))=false
 ·rw[if_pos ⟨bx,c⟩,if_pos c,aN,e];simp
 ·rw[if_neg (λh=>c h.2),if_neg c]
def eI(l:List Int)(x:Int):List Int:=l.filter λy=> !decide (y=x)
theorem MN{l:List Int}{x:Int}(h:x∉l):eI l x=l:=by unfold eI;rw[List.filter_eq_self];intro y Z;have:y≠x:= λe=>h (e▸Z);simp[this]
theorem aDl{l r:List Int}{x:Int}(h:(l++x::r).Nodup):eI (l++x::r) x=l++r:=by
 have aA:x∉l:= λal=>by rw[zM]at h;exact h.2.2 x al x (by simp) rfl
 have ar:x∉r:= λal=>by rw[zM]at h;exact(Bx.1 h.2.1).1 al
 have e:eI (l++x::r) x=eI l x++eI (x::r) x:=by unfold eI;rw[List.filter_append]
 have aN:eI (x::r) x=eI r x:=by unfold eI;rw[List.filter_cons];simp
 rw[e,aN,MN aA,MN ar]
theorem wC{l:List Int}{x:Int}:(eI l x).length<=l.length:=On _ _
theorem aDm{l:List Int}{x y:Int}:eI (l++[y]) x=if y=x then eI l x else eI l x++[y]:=by unfold eI;rw[List.filter_append];by_cases c:y=x<;>simp[c]
theorem Fz{l:List Int}{x y:Int}{i:Nat}(h:l[i]?=some y):eI (l.take (i+1)) x=if y=x then eI (l.take i) x else eI (l.take i) x++[y]:=by rw[qF,h];exact aDm
theorem aDo{P:List Int->Bool}{a eb:List Int}{i:Nat}{x:Int}(B:eb[i]?=some x)(aj:eb.Nodup):eI ((fh P a (eb.take i)).2++eb.drop i) x=(fh P a (eb.take i)).2++eb.drop (i+1):=by
 have Y:=(cN.1 B).1;have aN:eb.drop i=x::eb.drop (i+1):=by rw[pG Y,(cN.1 B).2]
 have H:((fh P a (eb.take i)).2++eb.drop i).Sublist eb:=by
  have:=(Vh (P:=P) (eb.take i) a).append (List.Sublist.refl (eb.drop i))
  rwa [List.take_append_drop]at this
 have tK:=H.nodup aj;rw[aN]at tK⊢;exact aDl tK
theorem aJO{P:List Int->Bool}{a eb:List Int}{i:Nat}{x:Int}(B:eb[i]?=some x):(fh P a (eb.take i)).2++eb.drop i=((fh P a (eb.take i)).2++[x])++eb.drop (i+1):=by have Y:=(cN.1 B).1;rw[pG Y,(cN.1 B).2];simp
theorem acG{P:List Int->Bool}{a w:List Int}:(ox P a w).1.length+(ox P a w).2.length=a.length+w.length:=by unfold ox;have E:=(G0 (P:=P) a.length a w (c8 _)).2.1;have:=JH (P:=P) (qd P a.length a w).2 (qd P a.length a w).1;have ao:=congrArg List.length E;simp only[iD]at ao;omega
end Go.Big
namespace Go.Proofs.YtmmkkggfmigppaaGreat
open Go Go.DI Go.Big
theorem lZ.dg{t X:G}{v:Value}{l:List Int}(h:lZ t v l)(O: ∀b,b<t.next->X.F b=t.F b):lZ X v l:=by
 obtain⟨A,E⟩:=h;cases c:iG v with
 |true=>exact⟨by simpa[kC,c]using A,by simpa[lp,c]using E⟩
 | false=>
   simp only[kC,c,lp,jO,if_false]at A E;rcases zB A with rfl|⟨b,off,len,x,rfl,B,eW⟩
   ·have:l=[]:=(by simpa[fy]using E.symm);subst this;exact lZ.nil
   ·refine lZ.own (cs:=x.cells) (w:=x.own) (by rw[O b (aF B),B]) (by omega) ?_;simpa[fy,gW,B]using E
theorem aeG{t:G}{v:Value}{l:List Int}(h:lZ t v l)(aA:l.length<=999999){n:Int}:fg N 74 [v,D n] t λr X=> ∃o,t.next<=o/\r=bN o (l.length+1) 1/\X.F o=some ⟨(l++[n]).map D,true⟩/\ ∀b,b<t.next->X.F b=t.F b:=by
 refine c3 (ay:=⟨[],[Hx]⟩) amV (by kernel_rfl) (by simp[Sz]) ?_;have av: ∀k,xg v (t.bU k)=some (bN (t.next+k) l.length 1,((t.bU k).bU 1).aK (t.next+k) (some ⟨l.map D,true⟩)):= λk=>Pe (h.dg λb hb=>cl hb) (by omega);have eQ:(l.length+1)*8<=140737488355328/\l.length<=9223372036854775806:=by omega
 have jG:List.take l.length (l.map D)=l.map D:=hx (by simp);simp(disch:=first|omega|simp only[DI.aw];omega) [Sz,amU,av,eQ,jG];refine⟨t.next+4,by omega,rfl,by rw[cb (by simp)],λb hb=> ?_⟩;rw[aX (by omega),aX (by omega),aX (by omega),aX (by omega),G.cl,cl hb]
theorem avh{t:G}{b:Nat}{x n:Int}{w:Bool}(g:t.F b=some ⟨[D n],w⟩):fg N 122 [D x,bC b] t λr X=>r= .bool (decide (x=n))/\X=t:=by refine c3 (ay:=⟨[],[]⟩) ajK (by kernel_rfl) (by simp[QV]) ?_;simp[QV,ajJ,g]
def Ec(x:Int)(b:Nat)(t:G):Option (Value×G):=match t.F b with
 | some y=>(match y.cells with
   |[.int .i64 n]=>some (.bool (decide (x=n)),t)
   |_=>none)
 |none=>none
noncomputable def Hy:jg N:= .cM 122 (Int×Nat) (λy=>[D y.1,bC y.2]) (λy t=>Ec y.1 y.2 t) λ⟨x,b⟩ t r X h bu iF=>by
 simp only[Ec]at h;split at h
 ·next y Z=>
  split at h
  ·next n aj=>cases h;obtain⟨cs,w⟩:=y;obtain rfl:cs=[D n]:=aj;exact(avh Z).bt λv X ⟨a,b⟩=>by rw[a,b];exact iF
  ·cases h
 ·cases h
@[simp] theorem aQY:Hy.f=122:=rfl
@[simp] theorem aQZ{x:Int}{b:Nat}{t:G}:Hy.fn [.int .i64 x,.pointer (some ⟨b,0,none⟩)] t=Ec x b t:=jg.dK (x:=(x,b)) (t:=t) λ⟨j6,h2⟩ Z=>by simpa using Z
abbrev Pw(b:Nat):Value:= .func (.func 122) #[] #[bC b]
theorem ayA{t:G}{o b:Nat}{l:List Int}{n:Int}(bw:t.F o=some ⟨l.map D,true⟩)(lK:t.F b=some ⟨[D n],true⟩)(aA:l.length<=1000000):
 fg N 182 [bN o l.length 1,Pw b] t λr X=>X=t/\((n∉l/\r=D (-1))\/ ∃k:Nat,k<l.length/\l[k]?=some n/\n∉l.take k/\r=D k):=by
 refine c3 (ay:=⟨[],[Hy]⟩) aky (by kernel_rfl) (by simp[Rp]) ?_;have bh:=aF bw;have wB:=aF lK;simp[Rp,akx];refine gP (ay:=⟨[],[Hy]⟩) (λi z X=>X=t/\n∉l.take i/\z 0=bN o l.length 1/\z 1=Pw b/\z 7=D l.length/\z 8=D i) l.length ?_ ?_ 0 _ _ (gd _) ⟨rfl,by simp,by simp,by simp,by simp,by simp⟩
 ·rintro i z X Y ⟨rfl,aj,bG,aT,cf,bm⟩ bO a1;obtain⟨x,B⟩:=gM Y;have cQ:=(cN.1 B).2;have bA:(i:Int)<l.length:=(by omega);have a9:i+1<=l.length:=Y;have bp:=fB (n:=i) (by omega);by_cases c:x=n
  ·subst c;simp(disch:=first|omega|simp only[DI.aw];omega) [Rq,LM,bG,aT,cf,bm,bw,lK,bA,a9,cQ,e1,Ec];exact⟨i,Y,B,aj,rfl⟩
  ·simp(disch:=first|omega|simp only[DI.aw];omega) [Rq,LM,bG,aT,cf,bm,bw,lK,bA,a9,bp,cQ,e1,Ec,c,-ab,-ah,-aa,-ad,-List.map_map];refine a1 _ _ ⟨rfl,?_,by simp[bG],by simp[aT],by simp[cf],by simp⟩;rw[qF,B];simp[aj];exact λe=>c e.symm
 ·rintro z X ⟨rfl,aj,bG,aT,cf,bm⟩;rw[mQ]at aj;simp[Rq,LM,LM,cf,bm,aj]
theorem ayy{cs vs:List Value}{off:Nat}(A:w2 cs)(E:w2 vs):w2 (gV cs off vs):=Vo (λc=> ∃n:Int,c=D n) vs off cs A E
theorem atG{vs:List Value}: ∀{off k:Nat} {cs:List Value},k<=off->(gV cs off vs).take k=cs.take k:=by
 induction vs with
 |nil=>intro off k cs h;rfl
 | cons v vs cj=>
   intro off k cs h;simp only[gV];rw[cj (by omega)];apply yi;intro i;rw[ry,ry];split
   ·rw[List.getElem?_set_ne (by omega)]
   ·rfl
def ra(l:List Int)(n:Int)(j:Nat):List Value:=(eI (l.take j) n).map D++(l.map D).drop (eI (l.take j) n).length
theorem MO{l:List Int}{n:Int}{j:Nat}:(eI (l.take j) n).length<=j:=mR wC (by rw[te];omega)
theorem an4{l:List Int}{n:Int}{j:Nat}(aV:j<=l.length):(ra l n j).length=l.length:=by have:=MO (l:=l) (n:=n) (j:=j);unfold ra;simp;omega
theorem aCP{l:List Int}{n:Int}{j:Nat}{x:Int}(B:l[j]?=some x):(ra l n j)[j]?=some (D x):=by have:=MO (l:=l) (n:=n) (j:=j);unfold ra;rw[Br (by simpa using this),zL,ll];rw[show(eI (l.take j) n).length+(j-(eI (l.take j) n).length)=j by omega,sk,B];rfl
theorem aCS{l:List Int}{n x:Int}{j:Nat}(B:l[j]?=some x)(c: ¬x=n):(ra l n j).set (eI (l.take j) n).length (D x)=ra l n (j+1):=by have A:=MO (l:=l) (n:=n) (j:=j);have aV:=(cN.1 B).1;unfold ra;rw[Fz B,if_neg c];have bx:(l.map D).drop (eI (l.take j) n).length=((l.map D)[(eI (l.take j) n).length]'(by simp;omega))::(l.map D).drop ((eI (l.take j) n).length+1):=pG _;rw[bx,List.set_append_right _ _ (by simp)];simp
theorem aCR{l:List Int}{n x:Int}{j:Nat}(B:l[j]?=some x)(c:x=n):ra l n (j+1)=ra l n j:=by unfold ra;rw[Fz B,if_pos c]
theorem aCQ{l:List Int}{n:Int}{j:Nat}:w2 (ra l n j):= λc av=>by
 unfold ra at av;rcases jP.1 av with h|h
 ·exact w2.map c h
 ·exact w2.map c (Bt h)
theorem auI{t:G}{o b:Nat}{l:List Int}{n:Int}(bw:t.F o=some ⟨l.map D,true⟩)(lK:t.F b=some ⟨[D n],true⟩)(Ay:o≠b)(aA:l.length<=1000000):
 fg N 121 [bN o l.length 1,Pw b] t λr X=>r=bN o (eI l n).length 1/\e8 X o (eI l n)/\ ∀q,q<t.next->q≠o->X.F q=t.F q:=by
 refine c3 (ay:=⟨[],[Hy]⟩) ajH (by kernel_rfl) (by simp[QT]) ?_;have bh:=aF bw;have wB:=aF lK;simp[QT,ajG];refine(ayA bw lK aA).bt λr X ⟨a8,ar⟩=> ?_;subst a8;rcases ar with⟨aj,rfl⟩|⟨k,O,Aw,Qj,rfl⟩
 ·have e:=MN aj;have awU:=e8.cM bw;simp[Yo,e,awU]
 ·have bp:=fB (n:=k) (by omega);have xy: ¬(k:Int)= -1:=(by omega);simp(disch:=first|omega|simp only[DI.aw];omega) [Yo,ajI,xy,bp];have ho:eI (l.take (k+1)) n=l.take k:=(by rw[Fz Aw,if_pos rfl,MN Qj]);have dN:(l.take k).length=k:=(by rw[te];omega);refine gP (ay:=⟨[],[Hy]⟩) (λi z bd=> ∃j,j=k+1+i/\bd.F o=some ⟨ra l n j,true⟩/\(∀q,q<X.next->q≠o->bd.F q=X.F q)/\(eI (l.take j) n).length<j/\z 0=bN o l.length 1/\z 1=Pw b/\z 5=D (eI (l.take j) n).length/\z 6=D j) (l.length-(k+1)) ?_ ?_ 0 _ _ (gd _) ?_
  ·rintro i z bd Y ⟨j,aV,aE,nP,dA,bG,aT,bD,bo⟩ bO a1;have Au:j<l.length:=(by omega);obtain⟨x,B⟩:=gM Au;have cQ:=(cN.1 B).2;have ahA:bd.F b=some ⟨[D n],true⟩:=(nP b wB Ay.symm).trans lK;have Fw:=an4 (n:=n) (Nat.le_of_lt Au);have aCV:=aCP (n:=n) B;have an7: ∀h,(ra l n j)[j]'h=D x:= λh=>(cN.1 aCV).2;have bA:(j:Int)<l.length:=(by omega);have a9:j+1<=l.length:=Au;have bW:j<(ra l n j).length:=(by omega);have cr:=fB (n:=j) (by omega);obtain⟨c,av⟩: ∃c,(eI (l.take j) n).length=c:=⟨_,rfl⟩;rw[av]at dA bD;have ea:=fB (n:=c) (by omega);have Tm:=aF aE;have cA:(c:Int)<l.length:=(by omega);have fV:c+1<=l.length:=(by omega);by_cases jv:x=n
   ·have aG:=aCR B jv;have aN:eI (l.take (j+1)) n=eI (l.take j) n:=(by rw[Fz B,if_pos jv]);simp(disch:=first|omega|simp only[DI.aw];omega) [QU,Lx,bG,aT,bo,aE,ahA,bA,a9,Fw,an7,cr,e1,Ec,jv,-ab,-ah,-aa,-ad,-List.map_map];refine a1 _ _ ⟨j+1,by omega,by rw[aG];exact aE,nP,by rw[aN,av];omega,by simp[bG],by simp[aT],by rw[aN,av];simp[bD],by simp⟩
   ·have aG:=aCS B jv;rw[av]at aG;have aN:eI (l.take (j+1)) n=eI (l.take j) n++[x]:=(by rw[Fz B,if_neg jv]);simp(disch:=first|omega|simp only[DI.aw];omega) [QU,Lx,bG,aT,bD,bo,aE,ahA,bA,a9,cA,fV,Fw,an7,cr,ea,e1,Ec,jv,aG,-ab,-ah,-aa,-ad,-List.map_map];refine a1 _ _ ⟨j+1,by omega,by rw[cb Tm],λq bg tL=>by rw[aX tL];exact nP q bg tL,by rw[aN,iD,av];simp;omega,by simp[bG],by simp[aT],by rw[aN,iD,av];simp,by simp⟩
  ·rintro z bd ⟨j,aV,aE,nP,dA,bG,aT,bD,bo⟩;obtain rfl:j=l.length:=(by omega);rw[mQ]at dA bD;have Fw:=an4 (l:=l) (n:=n) (c8 _);obtain⟨c,av⟩: ∃c,(eI l n).length=c:=⟨_,rfl⟩;rw[av]at dA bD;obtain⟨d,aW⟩: ∃d,l.length=c+d:=⟨l.length-c,by omega⟩;have Tm:=aF aE;have fV:c<=l.length:=(by omega);have g9:(c:Int)<=l.length:=(by omega);have mx:c+(l.length-c)=l.length:=(by omega);simp[QU,Lx,Lx,bG,bD,bo,aE,Fw,g9,mx,oe,av];refine⟨⟨_,cb Tm,?_,?_,?_⟩,λq bg tL=> ?_⟩
   ·rw[av,atG (c8 _)];unfold ra;rw[mQ,<-av];exact List.take_left' (by simp)
   ·rw[GN,Fw,av];omega
   ·refine ayy aCQ λv M=> ?_;simp at M;exact⟨0,by first|exact M.2|exact M⟩
   ·rw[aX tL];exact nP q bg tL
  ·refine⟨k+1,rfl,?_,λq _ _=>rfl,by rw[ho,dN];omega,by simp,by simp,by rw[ho,dN];simp,by simp⟩;rw[bw];unfold ra;rw[ho,dN,<-List.map_drop,<-p7,List.take_append_drop]
theorem arZ{t:G}{v:Value}{l:List Int}(h:lZ t v l)(aA:l.length<=1000000){n:Int}:fg N 75 [v,D n] t λr X=> ∃o,t.next<=o/\r=bN o (eI l n).length 1/\e8 X o (eI l n)/\ ∀b,b<t.next->X.F b=t.F b:=by
 refine c3 (ay:=⟨[],[Hx]⟩) amX (by kernel_rfl) (by simp[SA]) ?_;obtain⟨bd,ql⟩: ∃bd,bd=(t.bU 2).aK t.next (some ⟨[D n],true⟩):=⟨_,rfl⟩
 have ed:bd.next=t.next+2:=by rw[ql];simp
 have ahH: ∀b,b<t.next->bd.F b=t.F b:= λb hb=>by rw[ql,aX (by omega),cl hb]
 have aE:bd.F t.next=some ⟨[D n],true⟩:=by rw[ql];exact cb (by simp)
 have av:xg v bd=some (bN bd.next l.length 1,(bd.bU 1).aK bd.next (some ⟨l.map D,true⟩)):=Pe (h.dg ahH) aA;simp[SA,amW,<-ql,av];obtain⟨dR,Hs⟩: ∃dR,dR=(bd.bU 1).aK bd.next (some ⟨l.map D,true⟩):=⟨_,rfl⟩
 have ahI: ∀b,b<bd.next->dR.F b=bd.F b:= λb hb=>by rw[Hs,aX (by omega),cl hb]
 have a5:dR.F bd.next=some ⟨l.map D,true⟩:=by rw[Hs];exact cb (by simp)
 have er:dR.next=bd.next+1:=by rw[Hs];simp
 rw[<-Hs];refine(auI (o:=bd.next) (b:=t.next) a5 (by rw[ahI _ (by omega)];exact aE) (by omega) aA (n:=n)).bt λr t3 ⟨ar,ao,wc⟩=> ?_;subst ar;simp;exact⟨bd.next,by omega,rfl,ao,λb hb=>by rw[wc b (by omega) (by omega),ahI b (by omega),ahH b hb]⟩
open Go Go.DI Go.Big Go.gU
abbrev abQ:Value:= .agg #[.slice none 0 0,.slice none 0 0]
def FU(P:List Int->Bool)(af az:List Int):Value:= .agg #[bq (ox P af az).1,bq (ox P af az).2]
theorem tA{t:G}{o:Nat}{l:List Int}(h:e8 t o l){k:Nat}(O:l.length=k):dx 9 t (bN o k 1)=some (bq l)/\dx 7 t (bN o k 1)=some (bq l):=by subst O;exact⟨h.dx,h.dx⟩
theorem FR{t:G}{o:Nat}{l:List Int}(h:e8 t o l){k:Nat}:eC 9 t (bN o k 1)=[o]:=by obtain⟨cs,g,_,_,c⟩:=h;rw[zs,g];simp only[acA c]
theorem agz{l:List Int}(aA:l.length<=1000000){t:G}:xg (ai (l.map λx=>[D x]) 1) t=some (bN t.next l.length 1,(t.bU 1).aK t.next (some ⟨l.map D,true⟩)):=Pe lZ.enc aA
theorem aCK{t bd:G}{l:List Nat}(aj:t.next<=bd.next)(O: ∀b,b<t.next->bd.F b=(lI t l).F b): ∀b,b<t.next->(lO t bd l).F b=t.F b:= λb hb=>by
 by_cases c:b∈l
 ·exact anU c aj hb
 ·rw[Fs c,O b hb,J6 c]
theorem aCL{t bd:G}{l:List Nat}(aA: ∀o∈l,o<t.next){b:Nat}(hb:t.next<=b):(lO t bd l).F b=bd.F b:=Fs λh=>by have:=aA b h;omega
@[simp] theorem aSw{t bd:G}{l:List Nat}:(lO t bd l).next=bd.next:=rfl
theorem anV{t:G}{o b k:Nat}{b7:Option en}(aC:o<t.next)(h:b≠o):lO t (((lI t [o]).bU k).aK b b7) [o]=(t.bU k).aK b b7:=by
 unfold lO lI G.aK G.bU;simp only[G.mk.injEq,and_true,true_and,rz];funext i;by_cases e:i=o
 ·subst e;rw[if_pos rfl,if_neg (λq=>h q.symm),if_pos aC]
 ·rw[if_neg e];by_cases aN:i=b
  ·rw[if_pos aN,if_pos aN]
  ·rw[if_neg aN,if_neg aN];by_cases ct:i<t.next
   ·rw[if_pos ct,if_pos ct,if_neg e]
   ·rw[if_neg ct,if_neg ct]
structure su(u:aL)(R:List Int)(cY eY:Nat)(z:aD)(t:G):Prop where
 aM:t.F cY=some ⟨aI u,true⟩
 eP:t.F eY=some ⟨[.slice none 0 0,.slice none 0 0],true⟩
 aT:z 1=bq R
 bH:z 3=bC cY
 bo:z 6=bC eY
theorem su.dg{u:aL}{R:List Int}{cY eY:Nat}{z K:aD}{t X:G}(h:su u R cY eY z t)(bX:X.F cY=t.F cY)(ar:X.F eY=t.F eY)(aG:K 1=z 1)(ct:K 3=z 3)(l5:K 6=z 6):su u R cY eY K X:=
 ⟨bX.trans h.aM,ar.trans h.eP,aG.trans h.aT,ct.trans h.bH,l5.trans h.bo⟩
theorem ag8{u:aL}(h:cL u)(A:1<=u.a2.length){R af az:List Int}(aA:af.length+az.length<=1000){cY eY:Nat}{Q:cO->aD->G->Prop}: ∀(k:Nat) (z:aD) (t:G) (gk g4:Nat),k<=af.length->su u R cY eY z t->e8 t gk (af.take k)->e8 t g4 (af.drop k++az)->gk≠g4->cY≠g4->eY≠g4->z 8=bN gk k 1->z 9=bN g4 (af.drop k++az).length 1->
 (∀(K:aD) (X:G) (rg rh:Nat) (a w:List Int),qd (fb u R) k (af.take k) (af.drop k++az)=(a,w)->su u R cY eY K X->e8 X rg a->e8 X rh w->K 8=bN rg a.length 1->K 9=bN rh w.length 1->Q (.cF 0) K X)->ee N (.loop L5) z t Q
 | 0,z,t,gk,g4,O,c1,ag,aQ,gI,hz,iT,bm,cz,a6=>by refine eS (ay:=⟨[IU u h A],[]⟩) λbO a1=> ?_;obtain⟨aM,eP,aT,bH,bo⟩:=id c1;simp(disch:=omega) [L5,bm];exact a6 _ _ gk g4 [] (af++az) rfl (c1.dg rfl rfl (by simp) (by simp) (by simp)) ag (by simpa using aQ) (by simp[bm]) (by simp[cz])
 | k+1,z,t,gk,g4,O,c1,ag,aQ,gI,hz,iT,bm,cz,a6=>by
   refine eS (ay:=⟨[IU u h A],[]⟩) λbO a1=> ?_;obtain⟨aM,eP,aT,bH,bo⟩:=id c1;have dN:=aF aM;have jS:=aF eP;have step:=ag9 (P:=fb u R) (af:=af) (az:=az) (k:=k) (by omega);obtain⟨aP,cd⟩: ∃aP,aP=af.take (k+1):=⟨_,rfl⟩;have qW:aP.length=k+1:=(by rw[cd,te];omega);have PR:af.take k=aP.take k:=(by rw[cd,List.take_take];congr 1;omega);obtain⟨x,B⟩: ∃x,aP[k]?=some x:=⟨_,c6 (by omega)⟩;have XP:af[k]?=some x:=(by rw[cd,ry]at B;simpa using B);have sN:af.drop k=x::af.drop (k+1):=(by rw[pG (by omega),(cN.1 XP).2]);rw[<-cd]at ag step;obtain⟨nK,f7⟩:=tA ag qW;have vn:=FR ag (k:=k+1);have bA:(0:Int)<(k:Int)+1:=(by omega);have aj:aP.length<=1000000:=(by omega);have bp:IntKind.i64.wrap (k:Int)=k:=db (by omega) (by omega);obtain⟨w,wx⟩: ∃w,w=af.drop (k+1)++az:=⟨_,rfl⟩;have Qw:w.length<=1000:=(by rw[wx,iD,Jl];omega);rw[<-wx]at aQ cz a6 step;cases gr:fb u R aP
   ·obtain⟨cs,eB,Ds,nm,xH⟩:=id ag;have hA:cs[k]?=some (D x):=by
     have e:=congrArg (λl=>l[k]?) Ds;simp only[ry,sk,B]at e;rw[if_pos (by omega)]at e;exact e
    have Ce: ∀h,cs[k]'h=D x:= λh=>(cN.1 hA).2;have a9:k<cs.length:=(by omega);have bW:k+1<=cs.length:=a9;have cA:(k:Int)<(k:Int)+1:=(by omega);have CQ:=aF eB;simp(disch:=first|omega|simp only[DI.aw];omega) [L5,aI,aT,bH,bm,cz,aM,nK,vn,bA,gr,bp,eB,Ce,bW,cA,e1,-ab,-ah,-aa,-ad,-List.map_map];obtain⟨W,dq⟩: ∃W,W=((hW t [gk]).bU 8).aK (t.next+5) (some ⟨[D x],true⟩):=⟨_,rfl⟩;rw[<-dq];have mG: ∀b,b<t.next->W.F b=t.F b:= λb hb=>by rw[dq,aX (by omega),cl (by simpa using hb)];rfl
    have vi:W.next=t.next+8:=by rw[dq];simp
    have PN:W.F (t.next+5)=some ⟨[D x],true⟩:=(by rw[dq];exact cb (by simp));have AQ:=aQ.cU;refine(ayW (x:=x) (aQ.dg (mG g4 AQ)) (by omega) PN (by omega)).bt λr bd ⟨ar,ql⟩=> ?_;subst ar;have qo: ∀b,b<t.next->b≠g4->bd.F b=t.F b:= λb hb bx=>by rw[ql,aX (by omega),cl (by simp;omega),aX bx,mG b hb]
    have We:bd.F W.next=some ⟨(x::w).map D,true⟩:=by rw[ql];exact cb (by simp)
    clear ql;have jv: ¬(k:Int)<0:=(by omega);have ck:(k:Int)<=(k:Int)+1:=(by omega);have rJ:af.drop k++az=x::w:=(by rw[sN,wx];rfl);have aC5:=ag.cU;simp(disch:=first|omega|simp only[DI.aw];omega) [ck,bm,-ab,-ah,-aa,-ad,-List.map_map];refine a1 _ _ (ag8 h A aA k _ _ gk W.next (by omega) (c1.dg (qo cY dN hz) (qo eY jS iT) (by simp) (by simp) (by simp)) ?_ ?_ (by omega) (by omega) (by omega) (by simp) ?_ λK X rg rh a w' aU KQ kG kJ aG aN=> ?_)
    ·rw[PR];exact(ag.take (by omega)).dg (qo gk aC5 gI)
    ·rw[rJ];exact e8.cM We
    ·rw[rJ];simp
    ·refine a6 K X rg rh a w' ?_ KQ kG kJ aG aN;rw[<-cd,step,if_pos gr];exact aU
   ·rw[if_neg (by rw[gr];decide)]at step;simp(disch:=first|omega|simp only[DI.aw];omega) [L5,aI,aT,bH,bm,aM,nK,vn,bA,gr,-ab,-ah,-aa,-ad,-List.map_map];refine a6 _ _ gk g4 aP w (by rw[<-cd];exact step) (c1.dg (by simp) (by simp) (by simp) (by simp) (by simp)) (ag.dg (by simp)) (aQ.dg (by simp)) (by simp[bm,qW]) (by simp[cz])
theorem e8.g3{u:aL}{t:G}{o cY:Nat}{l:List Int}(ag:e8 t o l)(aM:t.F cY=some ⟨aI u,true⟩):o≠cY:= λe=>by obtain⟨cs,eB,_,_,xH⟩:=ag;rw[e,aM]at eB;have aN:=congrArg en.cells (DM eB);simp only at aN;obtain⟨n,aj⟩:=xH (ai (u.e7.map gE) 4) (by rw[<-aN];simp[aI]);simp[ai]at aj
theorem atl{u:aL}(h:cL u)(A:1<=u.a2.length){R a0 eb:List Int}(aA:a0.length+eb.length<=1000)(eM:eb.Nodup){cY eY sV gk g4:Nat}{Q:cO->aD->G->Prop}{z:aD}{t:G}(c1:su u R cY eY z t)(ag:e8 t gk a0)(aQ:e8 t g4 eb)
 (hd:t.F sV=some ⟨eb.map D,true⟩) (bm:z 8=bN gk a0.length 1) (cz:z 9=bN g4 eb.length 1) (vv:z 48=bN sV eb.length 1) (k2:z 49=D eb.length) (mM:z 50=D 0)
 (a6: ∀(K:aD) (X:G) (rg rh:Nat),su u R cY eY K X->e8 X rg (fh (fb u R) a0 eb).1->e8 X rh (fh (fb u R) a0 eb).2->K 8=bN rg (fh (fb u R) a0 eb).1.length 1->K 9=bN rh (fh (fb u R) a0 eb).2.length 1->Q (.cF 2) K X):ee N (.loop RW) z t Q:=by
 refine gP (ay:=⟨[IU u h A],[]⟩) (λi z t=>(∃gk g4,e8 t gk (fh (fb u R) a0 (eb.take i)).1/\e8 t g4 ((fh (fb u R) a0 (eb.take i)).2++eb.drop i)/\z 8=bN gk (fh (fb u R) a0 (eb.take i)).1.length 1/\z 9=bN g4 ((fh (fb u R) a0 (eb.take i)).2++eb.drop i).length 1)/\su u R cY eY z t/\t.F sV=some ⟨eb.map D,true⟩/\z 48=bN sV eb.length 1/\z 49=D eb.length/\z 50=D i) eb.length ?_ ?_ 0 z t (gd _) ⟨⟨gk,g4,by simpa[fh]using ag,by simpa[fh]using aQ,by simpa[fh]using bm,by simpa[fh]using cz⟩,c1,hd,vv,k2,mM⟩
 ·rintro i z t Y ⟨⟨gk,g4,ag,aQ,bm,cz⟩,c1,hd,vv,k2,mM⟩ bO a1;obtain⟨x,B⟩:=gM Y;have cQ:=(cN.1 B).2;have step:=afC (P:=fb u R) (a:=a0) B;have eW:=aDo (P:=fb u R) (a:=a0) B eM;have Qx:=aJO (P:=fb u R) (a:=a0) B;have dc:=JH (P:=fb u R) (eb.take i) a0;rw[te]at dc;obtain⟨a,WH⟩: ∃a,a=(fh (fb u R) a0 (eb.take i)).1:=⟨_,rfl⟩;obtain⟨jo,wg⟩: ∃a,a=(fh (fb u R) a0 (eb.take i)).2:=⟨_,rfl⟩;rw[<-WH]at ag bm step dc;rw[<-wg]at aQ cz step dc eW Qx;obtain⟨w,wx⟩: ∃w,w=jo++eb.drop i:=⟨_,rfl⟩;rw[<-wx]at aQ cz eW Qx;have Qw:w.length<=1000:=(by rw[wx,iD,Jl];omega);have fw:a.length<=1000:=(by omega);obtain⟨aM,eP,aT,bH,bo⟩:=id c1;have dN:=aF aM;have jS:=aF eP;have tX:=aF hd;have CQ:=ag.cU;have FB:=aQ.cU;have bA:(i:Int)<eb.length:=(by omega);have a9:i+1<=eb.length:=Y;have bp:=fB (n:=i) (by omega);simp(disch:=first|omega|simp only[DI.aw];omega) [RW,aI,aT,bH,bm,vv,k2,mM,aM,hd,bA,a9,cQ,e1,-ab,-ah,-aa,-ad,-List.map_map];have bx:=ag.g3 aM;have aQJ:=aQ.g3 aM;refine(aeG (t:=lI t [cY]) (l:=a) ((ag.dg (X:=lI t [cY]) (J6 (by simpa using bx))).UK) (by omega) (n:=x)).bt λr bd ⟨o,aC,ar,aH,O⟩=> ?_;subst ar;rw[agG]at aC O;have q4:t.next<=bd.next:=by have:=aF aH;omega
  have mG:=aCK (l:=[cY]) q4 O;have qV:(lO t bd [cY]).F o=some ⟨(a++[x]).map D,true⟩:=(by rw[aCL (by simpa using dN) aC];exact aH);have vi:(lO t bd [cY]).next=bd.next:=rfl
  generalize lO t bd [cY]=W at mG qV vi;obtain⟨nK,f7⟩:=tA (e8.cM qV) (k:=a.length+1) (by simp);have vn:=FR (e8.cM qV) (k:=a.length+1);have aj:(a++[x]).length<=1000000:=(by simp;omega);cases gr:fb u R (a++[x])
  ·rw[if_neg (by rw[gr];decide)]at step;simp(disch:=first|omega|simp only[DI.aw];omega) [nK,vn,gr,bp,mM,-ab,-ah,-aa,-ad,-List.map_map];refine a1 _ _ ⟨⟨gk,g4,?_,?_,?_,?_⟩,c1.dg (mG cY dN) (mG eY jS) (by simp) (by simp) (by simp),(mG sV tX).trans hd,by simp[vv],by simp[k2],by simp⟩
   ·rw[step];exact ag.dg (mG gk CQ)
   ·rw[step,<-Qx];exact aQ.dg (mG g4 FB)
   ·rw[step];simp[bm]
   ·rw[step,<-Qx];simp[cz]
  ·rw[if_pos gr]at step;simp(disch:=first|omega|simp only[DI.aw];omega) [nK,vn,gr,bm];refine(aeG (t:=hW W [o]) (l:=a) ((ag.dg (X:=hW W [o]) (mG gk CQ)).UK) (by omega) (n:=x)).bt λr dR ⟨hD,hp,wv,As,q1⟩=> ?_;subst wv;rw[auq,vi]at hp q1;have cC: ∀b,b<t.next->dR.F b=t.F b:= λb hb=>by rw[q1 b (by omega)];exact mG b hb
   simp(disch:=omega) [cz];refine(arZ (t:=dR) (l:=w) ((aQ.dg (cC g4 FB)).UK) (by omega) (n:=x)).bt λr t3 ⟨p3,aQM,Qo,axn,wc⟩=> ?_;subst Qo;have W9:=aF As;have dO: ∀b,b<t.next->t3.F b=t.F b:= λb hb=>by rw[wc b (by omega)];exact cC b hb
   simp(disch:=omega) [bp,mM];refine a1 _ _ ⟨⟨hD,p3,?_,?_,?_,?_⟩,c1.dg (dO cY dN) (dO eY jS) (by simp) (by simp) (by simp),(dO sV tX).trans hd,by simp[vv],by simp[k2],by simp⟩
   ·rw[step];exact(e8.cM As).dg (wc hD W9)
   ·rw[step,<-eW];exact axn
   ·rw[step];simp
   ·rw[step,<-eW];simp
 ·rintro z t ⟨⟨gk,g4,ag,aQ,bm,cz⟩,c1,hd,vv,k2,mM⟩;rw[mQ]at ag aQ bm cz;rw[Jk,sl]at aQ cz;simp(disch:=omega) [RW,k2,mM];exact a6 _ t gk g4 (c1.dg rfl rfl (by simp) (by simp) (by simp)) ag aQ (by simp[bm]) (by simp[cz])
theorem aFk{u:aL}(h:cL u)(A:1<=u.a2.length){R af az:List Int}(aA:af.length+az.length<=1000):bP N 25 [.agg (aI u).toArray,bq R,.agg (jC af az).toArray] (if gT u (af++az)=true then .tuple #[FU (fb u R) af az,D 0]else .tuple #[.agg #[bq [],bq []],D 1]):=by
 have aj:(af++az).length<=1000000:=by rw[iD];omega
 have H:=aHy (u:=u) (h:=h) (af:=af) (az:=az) aj;cases M:gT u (af++az)
 ·rw[if_neg (by decide)];refine bP.uq (r:= .tuple #[abQ,D 1]) (dJ (c3 (ay:=⟨[IV u h],[Hx]⟩) Y9 (by kernel_rfl) (by simp[HY]) ?_)) (pK.tuple (xs:=[_,_]) (ys:=[_,_]) ⟨pK.agg (xs:=[_,_]) (ys:=[_,_]) ⟨.nil,.nil,trivial⟩,.refl _,trivial⟩);simp(disch:=first|omega|simp only[DI.aw];omega) [HY,Y8,aI,M]
 ·rw[if_pos rfl];have eM:(af++az).Nodup:=by
   unfold gT at M;rw[a7,eF]at M;exact M.2
  refine dJ (c3 (ay:=⟨[IV u h],[Hx]⟩) Y9 (by kernel_rfl) (by simp[HY]) ?_);have j3: ∀t,xg (ai (af.map λx=>[D x]) 1) t=some (bN t.next af.length 1,(t.bU 1).aK t.next (some ⟨af.map D,true⟩)):= λt=>agz (by omega);have ie: ∀t,xg (ai (az.map λx=>[D x]) 1) t=some (bN t.next az.length 1,(t.bU 1).aK t.next (some ⟨az.map D,true⟩)):= λt=>agz (by omega);simp(disch:=first|omega|simp only[DI.aw];omega) [HY,Y8,alM,aI,M,j3,ie,anV,-ab,-ah,-aa,-ad,-List.map_map];generalize dq:G.aK _ 5 (some (en.mk (az.map D) true))=W;have aM:W.F 0=some ⟨aI u,true⟩:=(by rw[<-dq];simp(disch:=first|omega|simp only[DI.aw];omega) [aI,-ab,-ah,-aa,-ad,-List.map_map]);have eP:W.F 2=some ⟨[.slice none 0 0,.slice none 0 0],true⟩:=(by rw[<-dq];simp(disch:=first|omega|simp only[DI.aw];omega) [-ab,-ah,-aa,-ad,-List.map_map]);have eB:W.F 4=some ⟨af.map D,true⟩:=(by rw[<-dq];simp(disch:=first|omega|simp only[DI.aw];omega) [-ab,-ah,-aa,-ad,-List.map_map]);have tB:W.F 5=some ⟨az.map D,true⟩:=(by rw[<-dq];simp(disch:=first|omega|simp only[DI.aw];omega) [-ab,-ah,-aa,-ad,-List.map_map]);clear dq;simp(disch:=first|omega|simp only[DI.aw];omega) [alN,-ab,-ah,-aa,-ad,-List.map_map];have Kc:af.take af.length=af:=mQ;have D8:af.drop af.length++az=az:=(by rw[Jk];rfl);refine ag8 h A (R:=R) aA (cY:=0) (eY:=2) af.length _ W 4 5 (c8 _) ⟨aM,eP,by simp,by simp,by simp⟩ (by rw[Kc];exact e8.cM eB) (by rw[D8];exact e8.cM tB) (by decide) (by decide) (by decide) (by simp) (by rw[D8];simp) λK t gk g4 a w aU c1 ag aQ qS rJ=> ?_;rw[Kc,D8]at aU;have gR:=(G0 (P:=fb u R) af.length af az (c8 _)).2.1;rw[aU]at gR;have Xz:ox (fb u R) af az=fh (fb u R) a w:=(by unfold ox;rw[aU]);have dc:a.length+w.length=af.length+az.length:=(by have:=congrArg List.length gR;simpa using this);have ayk:w.Nodup:=by rw[<-gR,zM]at eM;exact eM.2.1
  have qR:xg (bN g4 w.length 1) t=some (bN t.next w.length 1,(t.bU 1).aK t.next (some ⟨w.map D,true⟩)):=Pe aQ.UK (by omega);obtain⟨aM,eP,aT,bH,bo⟩:=id c1;have dN:=aF aM;have jS:=aF eP;have nm:=ag.cU;have AQ:=aQ.cU;simp(disch:=omega) [alO,rJ,qR];have eX: ∀b,b<t.next->((t.bU 1).aK t.next (some (en.mk (w.map D) true))).F b=t.F b:= λb hb=>by rw[aX (by omega),cl hb]
  refine atl h A (by omega) ayk (sV:=t.next) (c1.dg (eX 0 dN) (eX 2 jS) (by simp) (by simp) (by simp)) (ag.dg (eX gk nm)) (aQ.dg (eX g4 AQ)) (cb (by simp)) (by simp[qS]) (by simp[rJ]) (by simp) (by simp) (by simp) λc2 dR M3 Ng yI Ep tM Ka Kb=> ?_;obtain⟨aM,eP,aT,bH,bo⟩:=id yI;have jS:=aF eP;have ed:M3≠2:= λe=>by obtain⟨cs,eB,_,_,xH⟩:=Ep;rw[e,eP]at eB;obtain⟨n,aj⟩:=xH (.slice none 0 0) (by have aN:[Value.slice none 0 0,Value.slice none 0 0]=cs:=congrArg en.cells (DM eB);rw[<-aN];simp);cases aj
  have er:Ng≠2:= λe=>by obtain⟨cs,eB,_,_,xH⟩:=tM;rw[e,eP]at eB;obtain⟨n,aj⟩:=xH (.slice none 0 0) (by have aN:[Value.slice none 0 0,Value.slice none 0 0]=cs:=congrArg en.cells (DM eB);rw[<-aN];simp);cases aj
  rw[<-Xz]at Ep tM Ka Kb;have pk: ∀b7 b,b≠2->(dR.aK 2 b7).F b=dR.F b:= λb7 b hb=>aX hb;have ej:= λb7=>(tA (Ep.dg (pk b7 M3 ed)) rfl).2;have eD:= λb7=>(tA (tM.dg (pk b7 Ng er)) rfl).2;simp(disch:=omega) [alP,bo,eP,Ka,Kb,ej,eD,FU]
end Go.Proofs.YtmmkkggfmigppaaGreat
