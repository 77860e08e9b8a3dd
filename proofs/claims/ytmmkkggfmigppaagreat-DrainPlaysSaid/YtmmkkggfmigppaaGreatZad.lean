/-
  A part of the proof, shortened by tools of ours.
-/
import Derived.Lib.AppendZeros
import Derived.MapKept
import Derived.Test.YtmmkkggfmigppaaGreatZac
set_option linter.all false
set_option maxRecDepth 8000
set_option maxHeartbeats 16000000
namespace Go.DI
open Go Go.RowKit
section
variable {P:Program} {w:World} {o:Oper} {a:Act} {ag:Ren} {dc:Nat} {z:aC} {m:H} {aN id:Nat}
theorem aFJ(t qj e:TypeId)(i:TypeInfo)(ba:P.underlying t=some (.slice e))(W:P.info? e=some i)(base q:Option Addr)(xC Fw c:Nat)(ar:xC<=Fw):
 (Builtin.append_ #[t,t] qj #[.slice base xC Fw,.slice q 0 c]).run P w= .ok (.slice base xC Fw) w:=by
 have a5:(Builtin.firstCells i.size 0 (.slice q 0 c)).run P w= .ok #[] w:=by cases q<;>simp[Builtin.firstCells,loadCells,loadCellsFrom]
 cases base<;>simp[Builtin.append_,run_underlying ba,sizeOf,typeInfo,W,Builtin.lenOf,ar,a5,storeCells]
theorem aFI(t qj e:TypeId)(i:TypeInfo)(ba:P.underlying t=some (.slice e))(W:P.info? e=some i)(c o xC Fw:Nat)(eu:Addr)(n Gv:Nat)(hM:List Value)(az:hM.length=n*i.size)
 (GR: ∀(j:Nat) bf,hM[j]?=some bf->w.cell? (eu.add j)=some bf) (A: ∀bf∈hM,bf.oneCell'=true) (z7:xC+n<=Fw)
 (vz: ∀j,j<hM.length->(w.cell? ⟨c,o+xC*i.size+j,none⟩).isSome=true) (kt: ∀j,j<hM.length->w.frozen? ⟨c,o+xC*i.size+j,none⟩=false):
 (Builtin.append_ #[t,t] qj #[.slice (some ⟨c,o,none⟩) xC Fw,.slice (some eu) n Gv]).run P w= .ok (.slice (some ⟨c,o,none⟩) (xC+n) Fw) (w.setCells c (o+xC*i.size) hM):=by
 have a5:=run_firstCells_some (P:=P) w i.size n eu n Gv hM az GR;have iR:=run_storeCells_cells (P:=P) c (o+xC*i.size) hM 0 w (by simpa using vz) (by simpa using kt) A;simp only[wu]at iR;simp[Builtin.append_,run_underlying ba,sizeOf,typeInfo,W,Builtin.lenOf,z7,a5,Jh,iR]
theorem Oc{c:Call}{x y:Operand}{t s:TypeId}{bf v r:Value}{w':World}(b1:o.op= .call c)(ar:c.callee= .builtin .append)(aa:c.args.toList=[x,y])(fO:c.argTypes.toList=[t,s])
 (B:a.eval x=bf) (Y:a.eval y=v) (h:(Builtin.append_ #[t,s] o.type #[bf,v]).run P w= .ok r w'):kf P o a w r w':=by
 refine .inl ?_;have kD:c.args= #[x,y]:=by rw[<-sW (xs:=c.args),aa]
 have zP:c.argTypes= #[t,s]:=by rw[<-sW (xs:=c.argTypes),fO]
 simp[execOp,b1,resolve,ar,kD,zP,invoke,builtin,B,Y,h]
theorem y4{G:Nat}{v:Value}(h:fw m G v=true):v= .slice none 0 0\/ ∃b off len x,v= .slice (some ⟨b,off,none⟩) len G/\m.I b=some x/\off+len*G<=x.cells.length:=by
 unfold fw at h;split at h
 ·simp only[a6,beq_iff_eq]at h;obtain⟨rfl,rfl⟩:=h;exact .inl rfl
 ·rename_i eu l c;simp only[a6,Da,beq_iff_eq]at h;obtain⟨⟨gZ,rfl⟩,h⟩:=h;split at h
  ·rename_i x B;obtain⟨b,off,ax⟩:=eu;simp only at gZ B h;subst gZ;exact .inr ⟨b,off,l,x,rfl,B,by simpa using h⟩
  ·cases h
 ·cases h
def aes(P:Program)(o:Oper)(G bytes:Nat)(x y:Operand)(a:Act)(aN:Nat)(ag:Ren)(z:aC)(m:H)(w:World)(id:Nat):Prop:=
 ∃ bX w' cT,kf P o a w bX w'/\gH ag cT/\(∀b,b≠id->cT b=ag b)/\dM cT ((ah.app G bytes x y).val id z m) bX/\dv aN cT ((ah.app G bytes x y).hd id z m) w'/\Below aN w w'/\
   (sQ G m (O z x)=true-> ∀b bf l,m.I b=some bf->ag b=some l-> ∀i,i<bf.cells.length->w'.cell? ⟨l.c,l.o+i,none⟩=w.cell? ⟨l.c,l.o+i,none⟩)
theorem ae7{n:Nat}{w w':World}(h:Below n w w'){eu:Addr}(aa:eu.block<n):w'.cell? eu=w.cell? eu:=by simp only[World.cell?,h.block _ aa]
theorem apl{c:Call}{x y:Operand}{t e:TypeId}{b3:TypeInfo}{G:List Value}(b1:o.op= .call c)(ar:c.callee= .builtin .append)(aa:c.args.toList=[x,y])(fO:c.argTypes.toList=[t,t])
 (ba:P.underlying t=some (.slice e)) (W:P.info? e=some b3) (bw:r3 P e=some G) (B:df x=true) (Y:df y=true)
 (F:g7 ag dc z a) (ab:dv aN ag m w) (b9:aN<=w.heap.size) (eP:id<m.next) (al:ag id=none)
 (av:(ah.app b3.size b3.bytes x y).ok z m=true):aes P o b3.size b3.bytes x y a aN ag z m w id:=by
 obtain⟨Xv,iw,hK,p5,o2,dJ,di⟩:=CZ bw;rw[W]at hK;cases hK;have yw:iw.cells.size=b3.size:=by rw[<-di,<-o2];simp
 simp only[ah.ok,a6,ey]at av;obtain⟨⟨⟨⟨⟨A,D⟩,ai⟩,aT⟩,bF⟩,cW⟩:=av;have pf:=F.O B;have q3:=F.O Y
 -- pR aXf
 have BU: ∃q zA,a.eval y= .slice q (fR (O z y)) zA:=by
  rcases y4 ai with aD|⟨b,off,len,lu,aD,_,_⟩
  ·rw[aD]at q3;exact⟨none,0,by rw[aD];exact q3.hL rfl⟩
  ·rw[aD]at q3;obtain⟨_,_,_,_,_,g,_⟩:=q3.l6;exact⟨_,_,by rw[aD];exact g⟩
 obtain⟨q,zA,BU⟩:=BU;have pG: ∃p te,a.eval x= .slice p (fR (O z x)) te/\fR (O z x)<=te:=by
  rcases y4 A with aD|⟨b,off,len,lu,aD,_,_⟩
  ·rw[aD]at pf;exact⟨none,0,by rw[aD];exact pf.hL rfl,by rw[aD];exact c8 _⟩
  ·rw[aD]at pf;obtain⟨_,_,_,_,_,g,_,a2,_⟩:=pf.l6;exact⟨_,_,by rw[aD];exact g,by rw[aD];exact a2⟩
 by_cases ae:fR (O z y)=0
 ·obtain⟨p,te,pG,eV⟩:=pG;rw[ae]at BU;refine⟨a.eval x,w,ag,?_,gH.refl ag,λ_ _=>rfl,by simpa only[ah.val,ae,if_true]using pf,by simpa only[ah.hd,ae,if_true]using ab,Below.refl _ _,λ_ _ _ _ _ _ _ _=>rfl⟩;rw[pG];exact Oc b1 ar aa fO pG BU (aFJ t _ e b3 ba W _ _ _ _ _ eV)
 ·-- aXe oN pV
  rcases y4 ai with aD|⟨fS,vW,kQ,lu,JR,tA,Xm⟩
  ·rw[aD]at ae;exact absurd rfl ae
  rw[JR]at q3;obtain⟨jI,Vb,JB,yl,_,BU,Eb,avU,_⟩:=q3.l6
  replace yl:ag fS=some jI:=yl
  replace Eb:(JB=0/\kQ=0)\/(Vb=⟨jI.c,jI.o+vW,none⟩/\vW+JB*b3.size<=jI.n):=Eb
  have WB:fR (O z y)=kQ:=(by rw[JR];rfl);have awN:fq m b3.size (O z y)=gM m fS vW (kQ*b3.size):=(by rw[JR];rfl);rw[WB]at ae bF cW;obtain⟨hM,dY,ee,l9,Co⟩:=ab.cells tA yl Xm;rcases Eb with⟨_,bY⟩|⟨rfl,_⟩
  ·omega
  have tz:(ah.app b3.size b3.bytes x y).val id z m= .slice (some ⟨id,0,none⟩) (fR (O z x)+kQ) b3.size:=(by simp only[ah.val,WB,ae,if_false]);have nC:(ah.app b3.size b3.bytes x y).hd id z m=(hC m (O z x)).aO id (some ⟨fq m b3.size (O z x)++gM m fS vW (kQ*b3.size),true⟩):=by simp only[ah.hd,WB,ae,if_false,awN]
  -- pR new block,aYD pR mR mv aYA
  have agK: ∀(mR:Nat) (oK:List Value) (eA:H),dv aN ag eA w->id<eA.next->da ag (fq m b3.size (O z x)) oK->(∀v∈fq m b3.size (O z x),aq v=true)->oK.length=fR (O z x)*b3.size->
   mR<fR (O z x)+kQ->
   dM (hh ag id ⟨w.heap.size,0,grownCap w (fR (O z x)+kQ) mR e*b3.size⟩) (.slice (some ⟨id,0,none⟩) (fR (O z x)+kQ) b3.size) (.slice (some ⟨w.heap.size,0,none⟩) (fR (O z x)+kQ) (grownCap w (fR (O z x)+kQ) mR e))/\
   dv aN (hh ag id ⟨w.heap.size,0,grownCap w (fR (O z x)+kQ) mR e*b3.size⟩) (eA.aO id (some ⟨fq m b3.size (O z x)++gM m fS vW (kQ*b3.size),true⟩))
    (w.drew.alloc (.cells (oK.toArray++hM.toArray++Builtin.zeroCells iw.cells (grownCap w (fR (O z x)+kQ) mR e-(fR (O z x)+kQ))) e)):=by
   intro mR oK eA zZ avO aB P4 w2 p3;have oD:=grownCap_ge w (fR (O z x)+kQ) mR e;have qI:grownCap w (fR (O z x)+kQ) mR e<=maxLen:=grownCap_le_maxLen w _ mR e (by unfold maxLen;omega);refine⟨.slice (off:=0) (l:=⟨w.heap.size,0,grownCap w (fR (O z x)+kQ) mR e*b3.size⟩) (by simp[hh]) (.inr ⟨by simp,by simp⟩) oD qI,?_⟩;have j3:(oK.toArray++hM.toArray++Builtin.zeroCells iw.cells (grownCap w (fR (O z x)+kQ) mR e-(fR (O z x)+kQ))).size=grownCap w (fR (O z x)+kQ) mR e*b3.size:=by simp only[Array.size_append,List.size_toArray,size_zeroCells,yw,w2,ee,<-oo];congr 1;omega
   have yi:da ag (fq m b3.size (O z x)++gM m fS vW (kQ*b3.size)) (oK++hM):=aB.pV dY;refine zZ.E9 (ct:=w.drew) rfl b9 avO al ?_ (by rw[j3];exact c8 _) (λi v M=> ?_) (λi _=>by simp)
   ·rw[yi.1,iv,w2,ee,<-oo];exact zc _ oD
   ·obtain⟨bf,a9,uE⟩:=yi.I M;refine⟨?_,bf,?_,uE⟩
    ·have:v∈fq m b3.size (O z x)++gM m fS vW (kQ*b3.size):=fr M;rcases js.1 this with h|h
     ·exact P4 v h
     ·obtain⟨c5,ib,a8,bV,cv⟩:=ab.l8 fS lu tA;simp only[gM,tA]at h;obtain⟨j,aX,D2⟩:=lN (AW (Db h));exact(bV j v (by rw[c1 aX,D2])).1
    ·rw[Ol (by
      have:=(cG.1 a9).1;simpa using this)]
     simpa using a9
  rcases y4 A with ij|⟨b,off,len,wk,ij,ss,KI⟩
  ·-- nil
   rw[ij]at pf;have pG:=pf.hL rfl;have oE:fR (O z x)=0:=(by rw[ij];rfl);have p2:fq m b3.size (O z x)=[]:=(by rw[ij];rfl);obtain⟨aE,a2⟩:=agK 0 [] m ab eP (by rw[p2];exact da.nil ag) (by rw[p2];simp) (by rw[oE];simp) (by omega);simp only[oE,zh]at aE a2 bF cW;have jl:=run_append_nil (P:=P) w t o.type e b3 iw ba W p5 ⟨jI.c,jI.o+vW,none⟩ kQ JB hM ee l9 (by omega) (by omega) (by omega);refine⟨_,_,hh ag id ⟨w.heap.size,0,grownCap w kQ 0 e*b3.size⟩,Oc b1 ar aa fO pG BU jl,r4 al,y6,?_,?_,wD (w:=w) (ct:=w.drew) rfl rfl rfl rfl b9 _,λ_ b bf l _ az i _=>ae7 (wD (w:=w) (ct:=w.drew) rfl rfl rfl rfl (c8 _) _) (ab.l4 b l az)⟩
   ·rw[tz,oE,zh];exact aE
   ·rw[nC,ij];simpa only[hC,fq,wo,Array.empty_append,ij]using a2
  ·-- a slice cK pR asB own
   rw[ij]at pf;obtain⟨l,ed,cap,az,_,pG,kO,yj,qI⟩:=pf.l6
   replace az:ag b=some l:=az
   replace kO:(cap=0/\len=0)\/(ed=⟨l.c,l.o+off,none⟩/\off+cap*b3.size<=l.n):=kO
   have oE:fR (O z x)=len:=(by rw[ij];rfl);have p2:fq m b3.size (O z x)=gM m b off (len*b3.size):=(by rw[ij];rfl);have j2:wk.own=true:=(by simpa[ij,iJ,ss]using D);obtain⟨c5,ib,a8,bV,cv⟩:=ab.l8 b wk ss;rw[az]at ib;cases ib;obtain⟨oK,hu,h3,xr,aaY⟩:=ab.cells ss az KI;have lF: ∀v∈gM m b off (len*b3.size),aq v=true:=(by intro v M;simp only[gM,ss]at M;obtain⟨j,aX,D2⟩:=lN (AW (Db M));exact(bV j v (by rw[c1 aX,D2])).1);have S:hC m (O z x)=m.aO b none:=(by rw[ij];rfl);rw[oE]at bF cW;by_cases z7:len+kQ<=cap
   ·-- adm B9 cN
    rcases kO with⟨bY,_⟩|⟨rfl,kO⟩
    ·omega
    have ahu:(len+kQ)*b3.size<=cap*b3.size:=zc _ z7;rw[oo]at ahu
    have jl:=aFI (P:=P) (w:=w) t o.type e b3 ba W l.c (l.o+off) len cap ⟨jI.c,jI.o+vW,none⟩ kQ JB hM ee l9 Co z7
     (λj aX=>by
      have:=((cv j2).2 (off+len*b3.size+j) (by rw[ee]at aX;omega)).1
      rwa [show l.o+(off+len*b3.size+j)=l.o+off+len*b3.size+j by omega]at this)
     (λj aX=>by
      have:=((cv j2).2 (off+len*b3.size+j) (by rw[ee]at aX;omega)).2
      rwa [show l.o+(off+len*b3.size+j)=l.o+off+len*b3.size+j by omega]at this)
    refine⟨_,_,hh ag id ⟨l.c,l.o+off,l.n-off⟩,Oc b1 ar aa fO pG BU jl,r4 al,y6,?_,?_,zs (cv j2).1 _ _ _,λba cw bf c5 a9 ib i W=>World.cell?_setCells_out _ _ _ _ _ (λh _=> ?_)⟩
    ·rw[tz,oE];exact .slice (off:=0) (l:=⟨l.c,l.o+off,l.n-off⟩) (by simp[hh]) (.inr ⟨by simp,by show 0+cap*b3.size<=l.n-off;omega⟩) z7 qI
    ·rw[nC,S,p2];have yi:da ag (gM m b off (len*b3.size)++gM m fS vW (kQ*b3.size)) (oK++hM):=hu.pV dY;have zU: ∀j (aX:j<hM.length),(w.setCells l.c (l.o+off+len*b3.size) hM).cell? ⟨l.c,l.o+off+len*b3.size+j,none⟩=some hM[j]:= λj aX=>
      World.cell?_setCells_in l.c hM (l.o+off+len*b3.size) w (λi hK=>by
       have:=((cv j2).2 (off+len*b3.size+i) (by rw[ee]at hK;omega)).1
       rwa [show l.o+(off+len*b3.size+i)=l.o+off+len*b3.size+i by omega]at this) j aX
     have ahB: ∀i,i<len*b3.size\/len*b3.size+hM.length<=i->(w.setCells l.c (l.o+off+len*b3.size) hM).cell? ⟨l.c,l.o+off+i,none⟩=w.cell? ⟨l.c,l.o+off+i,none⟩:= λi hK=>
      World.cell?_setCells_out _ _ _ _ _ (λ_ _=>by show l.o+off+i<_\/_<=l.o+off+i;omega)
     refine(ab.hC b).Jj (by rw[H.Nc];exact eP) al (λcw hy c5 hk ib=> ?_) (by rw[wb];exact c8 _) (by rw[wb];exact ab.l4 b l az) (cv j2).1 (λeu _ bG=>⟨World.cell?_setCells_out _ _ _ _ _ (λh _=>absurd h bG),World.frozen?_setCells _ _ _ _ _⟩) (λk _ S=>CO _ _ S _ _ _) ?_ (λi v M=> ?_) (λi hK=> ?_) ((ab.tK b wk l ss j2 az).setCells _ _ _)
     ·rw[H.mK]at hk;split at hk
      ·split at hk<;>cases hk
      ·rename_i bG;exact Ne.symm (ab.rA b wk cw hy l c5 ss j2 hk (Ne.symm bG) az ib)
     ·rw[yi.1,iv,h3,ee];omega
     ·obtain⟨bf,a9,uE⟩:=yi.I M;have av6:v∈gM m b off (len*b3.size)++gM m fS vW (kQ*b3.size):=fr M;refine⟨?_,bf,?_,uE⟩
      ·rcases js.1 av6 with h|h
       ·exact lF v h
       ·obtain⟨c5,ib,ef,e2,hF⟩:=ab.l8 fS lu tA;simp only[gM,tA]at h;obtain⟨j,aX,D2⟩:=lN (AW (Db h));exact(e2 j v (by rw[c1 aX,D2])).1
      ·rw[zb]at a9;split at a9
       ·rename_i dm;rw[h3]at dm;rw[ahB i (.inl dm)];have:=xr i bf a9
        rwa [Jh]at this
       ·rename_i dm;rw[h3]at dm a9;have aX:i-len*b3.size<hM.length:=(cG.1 a9).1;have:=zU _ aX;rw[show l.o+off+len*b3.size+(i-len*b3.size)=l.o+off+i by omega]at this;rw[this];rw[c1 aX]at a9;exact a9
     ·have bo:=(cv j2).2 (off+i) (by omega);rw[<-nS]at bo;refine⟨?_,by rw[World.frozen?_setCells];exact bo.2⟩;by_cases lh:i<len*b3.size\/len*b3.size+hM.length<=i
      ·rw[ahB i lh];exact bo.1
      ·have aX:i-len*b3.size<hM.length:=(by omega);have:=zU _ aX;rw[show l.o+off+len*b3.size+(i-len*b3.size)=l.o+off+i by omega]at this;rw[this];rfl
    ·left;by_cases e:cw=b
     ·subst e;rw[ss]at a9;cases a9;rw[az]at ib;cases ib;simp only[ij,sQ,ss,ey]at ba;show l.o+i<l.o+off+len*b3.size;omega
     ·exact absurd h (Ne.symm (ab.rA b wk cw bf l c5 ss j2 a9 (Ne.symm e) az ib))
   ·-- Z3 auX
    obtain⟨aE,a2⟩:=agK cap oK (m.aO b none) (ab.hC b) (by rw[H.Nc];exact eP) (by rw[p2];exact hu) (by rw[p2];exact lF) (by rw[oE];exact h3) (by omega);rw[oE]at aE a2;have holds: ∀(j:Nat) v,oK[j]?=some v->w.cell? (ed.add j)=some v:=by
     intro j v M;rcases kO with⟨_,bY⟩|⟨rfl,_⟩
     ·subst bY;simp at h3;rw[h3]at M;simp at M
     ·exact xr j v M
    have jl:=run_append_grow (P:=P) w t o.type e b3 iw ba W p5 ed len cap oK h3 holds ⟨jI.c,jI.o+vW,none⟩ kQ JB hM ee l9 (by omega) (by omega) (growslice_fits (by omega) bF);refine⟨_,_,hh ag id ⟨w.heap.size,0,grownCap w (len+kQ) cap e*b3.size⟩,Oc b1 ar aa fO pG BU jl,r4 al,y6,?_,?_,wD (w:=w) (ct:=w.drew) rfl rfl rfl rfl b9 _,λ_ b bf l _ az i _=>ae7 (wD (w:=w) (ct:=w.drew) rfl rfl rfl rfl (c8 _) _) (ab.l4 b l az)⟩
    ·rw[tz,oE];exact aE
    ·rw[nC,S];exact a2
theorem aGL{c:Call}{x y:Operand}{t e:TypeId}{b3:TypeInfo}{G:List Value}(b1:o.op= .call c)(ar:c.callee= .builtin .append)(aa:c.args.toList=[x,y])(fO:c.argTypes.toList=[t,t])
 (ba:P.underlying t=some (.slice e)) (W:P.info? e=some b3) (bw:r3 P e=some G) (B:df x=true) (Y:df y=true)
 (F:g7 ag dc z a) (ab:dv aN ag m w) (b9:aN<=w.heap.size) (eP:id<m.next) (al:ag id=none)
 (av:(ah.app b3.size b3.bytes x y).ok z m=true):rm P o (.app b3.size b3.bytes x y) a aN ag z m w id:=by
 obtain⟨bX,w',cT,aE,a2,cj,dy,fB,fb,_⟩:=apl b1 ar aa fO ba W bw B Y F ab b9 eP al av;exact⟨bX,w',cT,aE,a2,cj,dy,fB,fb⟩
theorem aGM{c:Call}{x y:Operand}{t bf e:TypeId}{b3:TypeInfo}{G:List Value}{Z9:IntKind}(b1:o.op= .call c)(ar:c.callee= .builtin .append)(aa:c.args.toList=[x,y])(fO:c.argTypes.toList=[t,bf])
 (ba:P.underlying t=some (.slice e)) (a9:P.underlying bf=some (.int Z9)) (W:P.info? e=some b3) (bw:r3 P e=some G) (B:df x=true) (Y:df y=true)
 (F:g7 ag dc z a) (ab:dv aN ag m w) (b9:aN<=w.heap.size) (eP:id<m.next) (al:ag id=none)
 (av:(ah.oV G.length b3.bytes G x y).ok z m=true):rm P o (.oV G.length b3.bytes G x y) a aN ag z m w id:=by
 obtain⟨Xv,iw,hK,p5,o2,dJ,di⟩:=CZ bw;rw[W]at hK;cases hK;have yw:iw.cells.size=b3.size:=by rw[<-di,<-o2];simp
 simp only[ah.ok,a6,ey]at av;obtain⟨⟨⟨⟨⟨A,D⟩,ai⟩,aT⟩,bF⟩,cW⟩:=av;have pf:=F.O B;rw[SK A]at pf;have pG:=pf.hL rfl;obtain⟨aJ,k,aA,eH⟩:=tG (F.O Y) D;simp only[eH,eN]at ai aT bF;obtain⟨n,rfl⟩: ∃n:Nat,aA=n:=⟨aA.toNat,by omega⟩;have au4:n*b3.bytes<=281474976710656:=by have:((n*b3.bytes:Nat):Int)<=140737488355328:=(by rw[Int.natCast_mul];exact aT);omega
 have jl:=Lib.run_append_nil_zeros (P:=P) w t bf o.type e b3 iw k Z9 ba a9 W p5 n (by omega) (by omega) (by omega) au4;have oD:=grownCap_ge w n 0 e;have qI:grownCap w n 0 e<=maxLen:=grownCap_le_maxLen w _ 0 e (by unfold maxLen;omega);generalize grownCap w n 0 e=xR at jl oD qI;have j3:(Builtin.zeroCells iw.cells n++Builtin.zeroCells iw.cells (xR-n)).size=xR*b3.size:=by simp only[Array.size_append,size_zeroCells,yw,<-oo];congr 1;omega
 have vC: ∀v∈(List.replicate n G).flatten,ei v=true:=Pr (λv=>ei v=true) (λv M=>dP.1 dJ v M) _;refine⟨_,_,hh ag id ⟨w.heap.size,0,xR*b3.size⟩,Oc b1 ar aa fO pG (aJ.trans eH) jl,r4 al,y6,?_,?_,wD (w:=w) (ct:=w.drew) rfl rfl rfl rfl b9 _⟩
 ·simp only[ah.val,eH,eN,ns];exact .slice (off:=0) (l:=⟨w.heap.size,0,xR*b3.size⟩) (by simp[hh]) (.inr ⟨by simp,by rw[di];simp⟩) oD qI
 ·simp only[ah.hd,eH,eN,ns];refine ab.E9 (ct:=w.drew) rfl b9 eP al (by rw[DJ,di];exact zc _ oD) (by rw[j3];exact c8 _) (λi v M=> ?_) (λi _=>by simp);have lh:i<n*G.length:=(by have:=(cG.1 M).1;rwa [DJ]at this);refine⟨zI (vC v (fr M)),v,?_,.c7 (vC v (fr M))⟩;have g1:(Builtin.zeroCells iw.cells n).toList=(List.replicate n G).flatten:=(by rw[<-o2];exact S9 (by omega) n);rw[Ol (by rw[size_zeroCells,yw,<-di];exact lh),<-Og,g1];exact M
theorem ad0{c:Call}{x:Operand}{t:TypeId}{bf r:Value}{w':World}(b1:o.op= .call c)(ar:c.callee= .builtin .clear)(aa:c.args.toList=[x])(fO:c.argTypes.toList=[t])
 (B:a.eval x=bf) (h:(Builtin.clear_ #[t] o.type #[bf]).run P w= .ok r w'):kf P o a w r w':=by
 refine .inl ?_;have kD:c.args= #[x]:=by rw[<-sW (xs:=c.args),aa]
 have zP:c.argTypes= #[t]:=by rw[<-sW (xs:=c.argTypes),fO]
 simp[execOp,b1,resolve,ar,kD,zP,invoke,builtin,B,h]
theorem aor{b:Nat}{y:eM}(h:m.I b=some y):m.aO b (some y)=m:=by
 have D:m.hI b=some y:=by
  unfold H.I at h;split at h
  ·exact h
  ·cases h
 unfold H.aO;cases m with
 | mk n aMP mp=>
   simp only[H.mk.injEq,true_and,and_true];funext i;split
   ·rename_i e;rw[e];exact D.symm
   ·rfl
theorem aGP{c:Call}{x:Operand}{t e:TypeId}{G:List Value}(b1:o.op= .call c)(ar:c.callee= .builtin .clear)(aa:c.args.toList=[x])(fO:c.argTypes.toList=[t])
 (ba:P.underlying t=some (.slice e)) (bw:r3 P e=some G) (B:df x=true) (F:g7 ag dc z a) (ab:dv aN ag m w)
 (av:(ah.hJ G x).ok z m=true):rm P o (.hJ G x) a aN ag z m w id:=by
 obtain⟨b3,iw,W,p5,o2,dJ,di⟩:=CZ bw;have yw:iw.cells.size=b3.size:=by rw[<-di,<-o2];simp
 simp only[ah.ok,a6,ey]at av;obtain⟨⟨A,D⟩,ai⟩:=av;have pf:=F.O B;rcases y4 A with ij|⟨b,off,len,wk,ij,ss,KI⟩
 ·rw[ij]at pf;have pG:=pf.hL rfl;refine⟨undef,w,ag,ad0 b1 ar aa fO pG (by simp[Builtin.clear_,run_underlying ba,undef]),gH.refl ag,λ_ _=>rfl,dM.undef ag,?_,Below.refl _ _⟩;simp only[ah.hd,ij,n1];exact ab
 ·rw[ij]at pf;obtain⟨l,ed,cap,az,_,pG,ae,eV,_⟩:=pf.l6
  replace az:ag b=some l:=az
  replace ae:(cap=0/\len=0)\/(ed=⟨l.c,l.o+off,none⟩/\off+cap*G.length<=l.n):=ae
  have j2:wk.own=true:=(by simpa[ij,iJ,ss]using D);obtain⟨c5,ib,a8,bV,cv⟩:=ab.l8 b wk ss;rw[az]at ib;cases ib;have nC:(ah.hJ G x).hd id z m=m.aO b (some ⟨gE wk.cells off (List.replicate len G).flatten,wk.own⟩):=(by simp only[ah.hd,ij,n1,ss]);by_cases bY:len=0
  ·subst bY;refine⟨undef,w,ag,ad0 b1 ar aa fO pG (by simp[Builtin.clear_,run_underlying ba,undef]),gH.refl ag,λ_ _=>rfl,dM.undef ag,?_,Below.refl _ _⟩;rw[nC];have:m.aO b (some ⟨gE wk.cells off (List.replicate 0 G).flatten,wk.own⟩)=m:=aor ss;rw[this];exact ab
  ·rcases ae with⟨_,V0⟩|⟨rfl,aOR⟩
   ·exact absurd V0 bY
   have ia:(Builtin.zeroCells iw.cells len).toList=(List.replicate len G).flatten:=(by rw[<-o2];exact S9 (by omega) len);have vC: ∀v∈(List.replicate len G).flatten,ei v=true:=Pr (λv=>ei v=true) (λv M=>dP.1 dJ v M) _;have D7:(List.replicate len G).flatten.length=len*G.length:=DJ G len;have iR:=run_storeCells_cells (P:=P) l.c (l.o+off) (List.replicate len G).flatten 0 w (λj aX=>by
    have:=((cv j2).2 (off+j) (by simp only[D7]at aX;omega)).1
    rwa [<-nS]at this) (λj aX=>by
    have:=((cv j2).2 (off+j) (by simp only[D7]at aX;omega)).2
    rwa [<-nS]at this) (λbf a9=>by rw[aa1];exact zI (vC bf a9))
   simp only[wu]at iR;refine⟨undef,w.setCells l.c (l.o+off) (List.replicate len G).flatten,ag,ad0 b1 ar aa fO pG ?_,gH.refl ag,λ_ _=>rfl,dM.undef ag,?_,zs (cv j2).1 _ _ _⟩
   ·have Xn: ∀w:World,(zeroValue e).run P w= .ok iw w:= λw=>by simp[zeroValue,typeInfo,W,p5]
    obtain⟨k,rfl⟩: ∃k,len=k+1:=⟨len-1,by omega⟩;simp[Builtin.clear_,run_underlying ba,Xn,ia,iR,undef]
   ·rw[nC];exact ab.store ss j2 az (da.c7 ag (dP.2 vC)) (λv M=>zI (vC v M)) (by rw[D7];exact KI)
end
section
variable {P:Program} {w:World} {o:Oper} {a:Act} {ag:Ren} {dc:Nat} {z:aC} {m:H} {aN id:Nat}
theorem aGR{s d e:TypeId}{x:Operand}(b1:o.op= .convert s d x)(cc:P.underlying s=some .string)(h9:P.underlying d=some (.slice e))(ck:P.underlying e=some (.int .u8))(B:(df x&&false)=true)
 (F:g7 ag dc z a) (ab:dv aN ag m w) (b9:aN<=w.heap.size) (eP:id<m.next) (al:ag id=none) (av:(ah.pX x).ok z m=true):rm P o (.pX x) a aN ag z m w id:=by
 simp at B
end
def lQ.x2:lQ->TypeDesc
 | .int k=> .int k
 | .str=> .string
theorem amw{e0:lQ}{v:Value}(h:pJ e0 v=true):MapKept.IsKey e0.x2 v:=by cases e0<;>cases v<;>simp_all [pJ,MapKept.IsKey,lQ.x2]
theorem SJ{e0:lQ}{v:Value}(h:pJ e0 v=true):ei v=true:=by cases e0<;>cases v<;>simp_all [pJ,ei]
theorem as1{e0:lQ}{a b:Value}(aa:pJ e0 a=true)(hb:pJ e0 b=true):Instr.sameNow e0.x2 a b=some (pW a b)/\(pW a b=true->a=b):=by
 cases e0 with
 | int uO=>cases a<;>simp[pJ]at aa;cases b<;>simp[pJ]at hb;rename_i bK dY cz ee;subst aa;subst hb;have e:(dY==ee)=decide (dY=ee):=(by by_cases h:dY=ee<;>simp[h]);exact⟨by simp only[lQ.x2,Instr.sameNow,pW,e,if_true],λh=>by simp only[pW,ey]at h;rw[h]⟩
 | str=>
   cases a<;>simp[pJ]at aa;cases b<;>simp[pJ]at hb;rename_i x y;have e:(x==y)=decide (x=y):=by
    have:=MapKept.bytes_beq x y;by_cases h:x=y
    ·rw[this.2 h];simp[h]
    ·cases ar:(x==y)
     ·simp[h]
     ·exact absurd (this.1 ar) h
   exact⟨by simp only[lQ.x2,Instr.sameNow,pW,e],λh=>by simp only[pW,ey]at h;rw[h]⟩
theorem afv{P:Program}{t:TypeId}{e0:lQ}(h:O5 P t=some e0):P.underlying t=some e0.x2:=by
 unfold O5 at h;split at h<;>cases h
 ·rename_i k S;exact S
 ·rename_i S;exact S
theorem VP{ag:Ren}{e0:lQ}{k:Value}(S:pJ e0 k=true): ∀(es:List (Value×Value)) (db:List MapEntry) (i:Nat),A4 ag es db->(es.all λe=>pJ e0 e.1)=true->
 (jR k es=none/\Instr.findNow e0.x2 k db i=some none/\ ∀v,lK k v es=es++[(k,v)])\/
 (∃j e dd,es[j]?=some e/\db[j]?=some dd/\dd.key=k/\jR k es=some e.2/\Instr.findNow e0.x2 k db i=some (some (i+j,dd.val))/\ ∀v,lK k v es=es.set j (k,v))
 | [],db,i,h,_=>by have:db=[]:=r6.1 h.1.symm;subst this;exact .inl ⟨rfl,rfl,λ_=>rfl⟩
 | e::es,db,i,h,aa=>by
   cases db with
   |nil=>have:=h.1;simp at this
   | cons dd db=>
     simp only[mZ,a6]at aa;obtain⟨A,D,ai,aT⟩:=h.2 0 e dd rfl rfl;have P7:A4 ag es db:=⟨by simpa using h.1,λj a b A D=>h.2 (j+1) a b (by simpa using A) (by simpa using D)⟩;obtain⟨b6,cR⟩:=as1 S aa.1;cases ar:pW k e.1
     ·rw[ar,<-D]at b6;rcases VP S es db (i+1) P7 aa.2 with⟨aE,a2,cj⟩|⟨j,x,hy,aE,a2,cj,dy,fB,fb⟩
      ·exact .inl ⟨by simp[jR,ar,aE],by simp[Instr.findNow,b6,a2],λv=>by simp[lK,ar,cj]⟩
      ·exact .inr ⟨j+1,x,hy,by simpa using aE,by simpa using a2,cj,by simp[jR,ar,dy],by simp[Instr.findNow,b6,fB];omega,λv=>by simp[lK,ar,fb]⟩
     ·rw[ar,<-D]at b6;exact .inr ⟨0,e,dd,rfl,rfl,by rw[D];exact(cR ar).symm,by simp[jR,ar],by simp[Instr.findNow,b6],λv=>by simp[lK,ar]⟩
section
variable {P:Program} {w:World} {o:Oper} {a:Act} {ag:Ren} {dc:Nat} {z:aC} {m:H} {aN id:Nat}
theorem aJt{e:TypeId}{G:Value}(bw:Uv P e=some G):(zeroValue e).run P w= .ok G w/\ei G=true:=by
 unfold Uv at bw;split at bw
 ·rename_i i W;split at bw
  ·rename_i iw p5;split at bw<;>cases bw;rename_i a5;exact⟨by simp[zeroValue,typeInfo,W,p5],a5⟩
  ·cases bw
 ·cases bw
theorem dv.aDj(ab:dv aN ag m w)(b9:aN<=w.heap.size)(eP:id<m.next)(al:ag id=none):dv aN (hh ag id ⟨w.heap.size,0,0⟩) (m.hv id []) (w.alloc (.map #[] 0)):=by
 have eV:=r4 (l:=⟨w.heap.size,0,0⟩) al;have j3:(w.alloc (.map #[] 0)).heap.size=w.heap.size+1:=by show(w.heap.push _).size=_;rw[Array.size_push]
 have p3: ∀k,k<w.heap.size->(w.alloc (.map #[] 0)).heap[k]?=w.heap[k]?:= λk S=>by show(w.heap.push _)[k]?=_;rw[Array.getElem?_push,if_neg (by omega)]
 have jv: ∀b,(m.hv id []).I b=if b=id then some ⟨[],true⟩else m.I b:= λb=>by
  unfold H.I H.hv;by_cases h:b=id
  ·subst h;simp[eP]
  ·simp[h]
 have GO: ∀b l,hh ag id ⟨w.heap.size,0,0⟩ b=some l->(b=id/\l=⟨w.heap.size,0,0⟩)\/(b≠id/\ag b=some l):= λb l h=>by
  unfold hh at h;split at h
  ·rename_i e;cases h;exact .inl ⟨e,rfl⟩
  ·rename_i e;exact .inr ⟨e,h⟩
 refine⟨λb l hb=> ?_,λb l hb=> ?_,λb x B=> ?_,λb x cw hy l c5 A D ai aT bF cW=> ?_,λb es hb=> ?_,λb es hb=> ?_,λb x l B aB az=>(by
  rcases GO b l az with⟨_,rfl⟩|⟨e,h⟩
  ·exact oU.anN (es:= #[]) (bd:=0) (by show(w.heap.push _)[w.heap.size]?=_;simp)
  ·rw[jv,if_neg e]at B;exact(ab.tK b x l B aB h).Ct (p3 _ (ab.l4 b l h)))⟩
 ·rcases GO b l hb with⟨rfl,_⟩|⟨_,h⟩
  ·exact eP
  ·exact ab.lf b l h
 ·rcases GO b l hb with⟨_,rfl⟩|⟨_,h⟩
  ·rw[j3];exact Nat.lt_succ_self _
  ·rw[j3];have:=ab.l4 b l h;omega
 ·rw[jv]at B;split at B
  ·rename_i e;cases B;exact⟨⟨w.heap.size,0,0⟩,by simp[hh,e],c8 _,λi v M=>by simp at M,λ_=>⟨b9,λi W=>by simp at W⟩⟩
  ·obtain⟨l,aE,a2,cj,dy⟩:=ab.l8 b x B;have tp:=ab.l4 b l aE;have ar: ∀i,(w.alloc (.map #[] 0)).cell? ⟨l.c,l.o+i,none⟩=w.cell? ⟨l.c,l.o+i,none⟩:= λi=>World.cell?_of_block (w:=w) (p3 l.c tp);have a5: ∀i,(w.alloc (.map #[] 0)).frozen? ⟨l.c,l.o+i,none⟩=w.frozen? ⟨l.c,l.o+i,none⟩:= λi=>World.frozen?_of_block (w:=w) (p3 l.c tp);exact⟨l,eV _ _ aE,a2,λi v M=>by obtain⟨a8,bX,bV,cv⟩:=cj i v M;exact⟨a8,bX,by rw[ar];exact bV,cv.bD eV⟩,λaB=>⟨(dy aB).1,λi W=>by rw[ar,a5];exact(dy aB).2 i W⟩⟩
 ·rw[jv]at A ai;rcases GO b l bF with⟨rfl,rfl⟩|⟨e,bF⟩
  ·rcases GO cw c5 cW with⟨dd,_⟩|⟨dd,cW⟩
   ·exact absurd dd.symm aT
   ·have:=ab.l4 cw c5 cW;simp only;omega
  ·rcases GO cw c5 cW with⟨dd,rfl⟩|⟨dd,cW⟩
   ·have:=ab.l4 b l bF;simp only;omega
   ·rw[if_neg e]at A;rw[if_neg dd]at ai;exact ab.rA b x cw hy l c5 A D ai aT bF cW
 ·by_cases e:b=id
  ·exact⟨⟨w.heap.size,0,0⟩,by simp[hh,e]⟩
  ·have:m.mp b=some es:=(by simpa[H.hv,e]using hb);obtain⟨l,az⟩:=ab.xn b es this;exact⟨l,eV _ _ az⟩
 ·obtain⟨aE,a2⟩:=H.x5 hb;by_cases e:b=id
  ·subst e;have:es=[]:=(by simpa[H.hv]using a2.symm);subst this;exact⟨⟨w.heap.size,0,0⟩,#[],0,by simp[hh],b9,by show(w.heap.push _)[w.heap.size]?=_;simp,⟨rfl,λi e dd h=>by simp at h⟩⟩
  ·rw[jv,if_neg e]at aE;have wR:m.mp b=some es:=(by simpa[H.hv,e]using a2);obtain⟨l,db,bd,ef,e2,hF,j5⟩:=ab.maps b es (H.kB aE wR);exact⟨l,db,bd,eV _ _ ef,e2,by rw[p3 _ (ab.l4 b l ef)];exact hF,j5.bD eV⟩
theorem aGT{t:TypeId}(b1:o.op= .makeMap t none)(ab:dv aN ag m w)(b9:aN<=w.heap.size)(eP:id<m.next)(al:ag id=none):rm P o .qW a aN ag z m w id:=by
 refine⟨.map (some w.heap.size),w.alloc (.map #[] 0),hh ag id ⟨w.heap.size,0,0⟩,.inl ?_,r4 al,y6,?_,ab.aDj b9 eP al,wD rfl rfl rfl rfl b9 _⟩
 ·simp only[execOp,b1,Option.map_none,Instr.makeMap,Sem.run_bind];rfl
 ·exact .map (l:=⟨w.heap.size,0,0⟩) (by simp[hh])
theorem dv.apq(ab:dv aN ag m w){b:Nat}{es:List (Value×Value)}{l:vh}{db:Array MapEntry}{bd:Nat}(aH:m.fu b=some es)(az:ag b=some l)(b9:aN<=l.c)(bT:w.heap[l.c]?=some (.map db bd))
 {fs:List (Value×Value)} {GA:Array MapEntry} {JE:Nat} (al:A4 ag fs GA.toList):dv aN ag (m.hv b fs) {w with heap:=w.heap.setIfInBounds l.c (.map GA JE)}:=by
 obtain⟨qE,zL⟩:=H.x5 aH;have hb:=H.aM qE;obtain⟨uD,ie⟩:=MapKept.heap_set (o':= .map GA JE) bT;have jv: ∀cw,(m.hv b fs).I cw=m.I cw:= λcw=>by
  by_cases h:cw=b
  ·subst h;rw[qE];unfold H.I H.hv;simp[hb]
  ·unfold H.I H.hv;simp[h]
 have ar: ∀eu:Addr,World.cell? {w with heap:=w.heap.setIfInBounds l.c (.map GA JE)} eu=w.cell? eu:= λeu=>by
  by_cases h:eu.block=l.c
  ·simp only[World.cell?,h,uD,bT]
  ·exact World.cell?_of_block (w:=w) (ie _ h)
 have a5: ∀eu:Addr,World.frozen? {w with heap:=w.heap.setIfInBounds l.c (.map GA JE)} eu=w.frozen? eu:= λeu=>by
  by_cases h:eu.block=l.c
  ·simp only[World.frozen?,h,uD,bT]
  ·exact World.frozen?_of_block (w:=w) (ie _ h)
 refine⟨ab.lf,λcw c5 cn=>by show c5.c<(w.heap.setIfInBounds _ _).size;rw[Array.size_setIfInBounds];exact ab.l4 cw c5 cn,λcw x B=> ?_,λer oQ eO pT hZ jw A D ai=>ab.rA er oQ eO pT hZ jw (by rw[<-jv];exact A) D (by rw[<-jv];exact ai),λcw JO iG=> ?_,λcw JO iG=> ?_,λcw x c5 B aB ib=>(by
  by_cases e:c5.c=l.c
  ·rw[e];exact oU.anN uD
  ·exact(ab.tK cw x c5 (by rw[<-jv];exact B) aB ib).Ct (ie _ e))⟩
 ·rw[jv]at B;simpa only[ar,a5]using ab.l8 cw x B
 ·by_cases e:cw=b
  ·exact⟨l,by rw[e];exact az⟩
  ·exact ab.xn cw JO (by simpa[H.hv,e]using iG)
 ·obtain⟨aE,a2⟩:=H.x5 iG;rw[jv]at aE;by_cases e:cw=b
  ·subst e;have:JO=fs:=(by simpa[H.hv]using a2.symm);subst this;exact⟨l,GA,JE,az,b9,uD,al⟩
  ·have wR:m.mp cw=some JO:=(by simpa[H.hv,e]using a2);obtain⟨jw,at4,as2,ef,e2,hF,j5⟩:=ab.maps cw JO (H.kB aE wR);have bG:jw.c≠l.c:=ab.rA cw _ b _ jw l aE rfl qE e ef az;exact⟨jw,at4,as2,ef,e2,by rw[ie _ bG];exact hF,j5⟩
theorem aGW{t kk e:TypeId}{e0:lQ}{x k v:Operand}(b1:o.op= .mapUpdate t x k v)(ba:P.underlying t=some (.map kk e))(aV:P.underlying kk=some e0.x2)(B:df x=true)(S:df k=true)(M:df v=true)
 (F:g7 ag dc z a) (ab:dv aN ag m w) (av:(ah.o7 e0 x k v).ok z m=true):rm P o (.o7 e0 x k v) a aN ag z m w id:=by
 simp only[ah.ok]at av;have al:=F.O B;cases a9:O z x<;>simp only[a9]at av<;>try cases av
 rename_i p;cases p with
 |none=>simp at av
 | some b=>
   simp only at av;rw[a9]at al;obtain⟨l,az,pG⟩:=al.KU;cases aH:m.fu b with
   |none=>simp[aH]at av
   | some es=>
     simp only[aH,ob,a6]at av;obtain⟨⟨nB,qL⟩,ll⟩:=av;obtain⟨c5,db,bd,ef,e2,hF,j5⟩:=ab.maps b es aH;rw[az]at ef;cases ef;have D4:a.eval k=O z k:=(F.O S).hL (SJ nB);have PZ:=amw nB;have G1:=F.O M;have nC:(ah.o7 e0 x k v).hd id z m=m.hv b (lK (O z k) (O z v) es):=(by simp only[ah.hd,a9,yE,aH,A0]);have hj:(Instr.checkKey false 10000 kk (O z k)).run P w= .ok () w:=MapKept.run_checkKey aV PZ false 9999;have agW: ∀o',Below aN w {w with heap:=w.heap.setIfInBounds l.c o'}:= λo'=>⟨rfl,rfl,rfl,by show _<=(w.heap.setIfInBounds _ _).size;rw[Array.size_setIfInBounds];exact c8 _,λk S=>by show(w.heap.setIfInBounds _ _)[k]?=_;simp[show l.c≠k by omega]⟩;rcases VP nB es db.toList 0 j5 qL with⟨_,a2,cj⟩|⟨j,oQ,pT,aE,a2,cj,_,fB,fb⟩
     ·have jl:(Instr.mapUpdate t (a.eval x) (a.eval k) (a.eval v)).run P w= .ok () {w with heap:=w.heap.setIfInBounds l.c (.map (db.push {key:=O z k,val:=a.eval v,born:=bd}) (bd+1))}:=by
       simp[Instr.mapUpdate,pG,D4,run_underlying ba,MapKept.run_getObj_map hF,hj,MapKept.run_findKey aV a2,MapKept.run_setObj_map _ hF]
      refine⟨undef,_,ag,.inr ⟨by simp only[execOp,b1,jl,Sem.run_bind,Result.andThen_ok];rfl,rfl⟩,gH.refl ag,λ_ _=>rfl,dM.undef ag,?_,agW _⟩;rw[nC,cj];refine ab.apq aH az e2 hF ⟨by simp[j5.1],λi e dd A D=> ?_⟩;simp only[Array.toList_push]at D;rw[zb]at A D;rw[<-j5.1]at D;split at A
      ·rename_i W;rw[if_pos W]at D;exact j5.2 i e dd A D
      ·rename_i W;rw[if_neg W]at D;have GL:i-es.length=0:=(by have:=(cG.1 A).1;simp at this;omega);rw[GL]at A D;simp at A D;subst A;subst D;exact⟨SJ nB,rfl,ll,G1⟩
     ·have aX:db[j]?=some pT:=(by simpa using a2);have jl:(Instr.mapUpdate t (a.eval x) (a.eval k) (a.eval v)).run P w= .ok () {w with heap:=w.heap.setIfInBounds l.c (.map (db.modify j λe=>{e with key:=O z k,val:=a.eval v}) bd)}:=by
       simp[Instr.mapUpdate,pG,D4,run_underlying ba,MapKept.run_getObj_map hF,hj,MapKept.run_findKey aV fB,aX,cj,MapKept.run_keyThatStays PZ,MapKept.run_setObj_map _ hF]
      refine⟨undef,_,ag,.inr ⟨by simp only[execOp,b1,jl,Sem.run_bind,Result.andThen_ok];rfl,rfl⟩,gH.refl ag,λ_ _=>rfl,dM.undef ag,?_,agW _⟩;rw[nC,fb];refine ab.apq aH az e2 hF ⟨by simpa using j5.1,λi e dd A D=> ?_⟩;simp only[Og,Array.getElem?_modify]at D;rw[AX]at A;by_cases yg:j=i
      ·subst yg;rw[if_pos rfl,if_pos (by have:=(cG.1 aE).1;exact this)]at A;rw[if_pos rfl,aX]at D;simp at A D;subst A;subst D;exact⟨SJ nB,rfl,ll,G1⟩
      ·rw[if_neg yg]at A D;exact j5.2 i e dd A (by simpa using D)
theorem aGV{t kk e:TypeId}{e0:lQ}{G:Value}{ok:Bool}{x k:Operand}(b1:o.op= .lookup t x k ok)(ba:P.underlying t=some (.map kk e))(aV:P.underlying kk=some e0.x2)(bw:Uv P e=some G)(B:df x=true)(S:df k=true)
 (F:g7 ag dc z a) (ab:dv aN ag m w) (av:(ah.qX e0 G ok x k).ok z m=true):rm P o (.qX e0 G ok x k) a aN ag z m w id:=by
 obtain⟨ah1,awS⟩:=aJt (w:=w) bw;simp only[ah.ok]at av;have g2: ∃(es:List (Value×Value)) (db:Array MapEntry),lI m (O z x)=some es/\A4 ag es db.toList/\((a.eval x= .map none/\db= #[])\/ ∃r bd,a.eval x= .map (some r)/\w.heap[r]?=some (.map db bd)):=by
  have al:=F.O B;cases a9:O z x<;>simp only[a9,lI]at av<;>try cases av
  rename_i p;cases p with
  | none=>rw[a9]at al;exact⟨[],#[],rfl,⟨rfl,λi e dd h=>by simp at h⟩,.inl ⟨al.hL rfl,rfl⟩⟩
  | some b=>
    rw[a9]at al;obtain⟨l,az,M⟩:=al.KU;cases aH:m.fu b with
    |none=>simp[aH]at av
    | some es=>obtain⟨c5,db,bd,ef,e2,hF,j5⟩:=ab.maps b es aH;rw[az]at ef;cases ef;exact⟨es,db,aH,j5,.inr ⟨l.c,bd,M,hF⟩⟩
 obtain⟨es,db,ahd,P7,zR⟩:=g2;rw[ahd]at av;simp only[ob,a6]at av;obtain⟨nB,qL⟩:=av;have D4:a.eval k=O z k:=(F.O S).hL (SJ nB);have PZ:=amw nB;have Kq:=VP nB es db.toList 0 P7 qL;have avI: ∃(v:Value) (bf:Nat×Value) (b:Bool),(Instr.findKey kk (O z k) db.toList).run P w= .ok (if b then some (bf.1,bf.2)else none:Option (Nat×Value)) w/\(jR (O z k) es).isSome=b/\(b=true->jR (O z k) es=some v/\dM ag v bf.2):=by
  rcases Kq with⟨aE,a2,_⟩|⟨j,oQ,pT,aE,a2,cj,dy,fB,_⟩
  ·exact⟨undef,(0,undef),false,by rw[MapKept.run_findKey aV a2];rfl,by rw[aE];rfl,λh=>by cases h⟩
  ·obtain⟨_,_,_,aT⟩:=P7.2 j oQ pT aE a2;exact⟨oQ.2,(0+j,pT.val),true,by rw[MapKept.run_findKey aV fB];rfl,by rw[dy];rfl,λ_=>⟨dy,aT⟩⟩
 obtain⟨v,bf,b,eD,eS,gN⟩:=avI;have tz:(ah.qX e0 G ok x k).val id z m=if ok then .tuple #[(jR (O z k) es).getD G,.bool (jR (O z k) es).isSome]else(jR (O z k) es).getD G:=by simp only[ah.val,ahd,Option.bind_some]
 have jl:(Instr.lookup t (a.eval x) (a.eval k) ok).run P w= .ok (if ok then .tuple #[if b then bf.2 else G,.bool b]else if b then bf.2 else G) w:=by
  have hj: ∀e,(Instr.checkKey e 10000 kk (O z k)).run P w= .ok () w:= λe=>MapKept.run_checkKey aV PZ e 9999;rcases zR with⟨A,D⟩|⟨r,bd,A,D⟩
  ·subst D;cases b
   ·simp[Instr.lookup,A,D4,run_underlying ba,hj,eD,ah1]
   ·simp[Instr.lookup,A,D4,run_underlying ba,hj,eD]
  ·cases b
   ·simp[Instr.lookup,A,D4,run_underlying ba,MapKept.run_getObj_map D,hj,eD,ah1]
   ·simp[Instr.lookup,A,D4,run_underlying ba,MapKept.run_getObj_map D,hj,eD]
 refine⟨_,w,ag,.inl (by simp only[execOp,b1,jl,Sem.run_bind,Result.andThen_ok];rfl),gH.refl ag,λ_ _=>rfl,?_,ab,Below.refl _ _⟩;rw[tz];have ll:dM ag ((jR (O z k) es).getD G) (if b then bf.2 else G):=by
  cases b
  ·have:jR (O z k) es=none:=(by simpa using eS);rw[this];exact .c7 awS
  ·obtain⟨aE,a2⟩:=gN rfl;rw[aE];exact a2
 cases ok
 ·exact ll
 ·simp only[if_true];rw[eS];exact da.tuple (xs:=[_,_]) (ys:=[_,_]) (da.cons ll (da.cons (.c7 rfl) (da.nil ag)))
end
section
variable {P:Program} {w:World} {o:Oper} {a:Act} {ag:Ren} {dc:Nat} {z:aC} {m:H} {aN id:Nat}
theorem aEh{k:ah}(h:k.pure=true):k.hd id z m=m:=by cases k<;>first|rfl|(simp[ah.pure]at h)
theorem aDF{k:ah}(S:Bf P o=some k)(ar:k.ln=false)(F:g7 ag dc z a)(ab:dv aN ag m w)(b9:aN<=w.heap.size)(eP:k.fv=true->id<m.next)(al:k.fv=true->ag id=none)(av:k.ok z m=true):rm P o k a aN ag z m w id:=by
 by_cases Z:k.pure=true
 ·obtain⟨bX,A,D⟩:=aEi (w:=w) (m:=m) S Z F av id;exact⟨bX,w,ag,A,gH.refl ag,λ_ _=>rfl,D,by rw[aEh Z];exact ab,Below.refl _ _⟩
 ·rcases OU S with S|rfl
  rotate_left
  ·rw[aqb]at av;cases av
  unfold Gm at S;split at S
  ·split at S<;>cases S;exact absurd rfl Z
  ·split at S<;>cases S;exact absurd rfl Z
  ·split at S<;>cases S;exact absurd rfl Z
  ·split at S<;>cases S;exact absurd rfl Z
  ·-- nu
   rename_i e b1;split at S<;>cases S;rename_i G bw;exact aGK b1 bw ab b9 (eP rfl) (al rfl)
  ·-- oy
   rename_i e x b1;split at S<;>cases S;rename_i B;exact aGN b1 B F av ab b9 (eP rfl) (al rfl)
  ·(repeat' split at S)<;>cases S<;>exact absurd rfl Z
  ·-- buildSlice
   rename_i t n ps b1;split at S
   ·rename_i e ba;split at S
    ·rename_i G bw;split at S
     ·rename_i hU bo;split at S<;>cases S;rename_i oC;simp only[a6,ey]at oC;exact aGO b1 ba bw bo oC.1 oC.2 F ab b9 (eP rfl) (al rfl) av
     ·cases S
    ·cases S
   ·cases S
  ·-- g4
   rename_i t x b1;split at S
   ·rename_i dr n wT ae;split at S<;>cases S;rename_i B;exact aGS b1 wT ae B F ab av
   ·cases S
  ·-- store
   rename_i t x v b1;split at S
   ·rename_i n ae;split at S<;>cases S;rename_i B;simp only[a6]at B;exact aGY b1 ae B.1 B.2 F ab av
   ·cases S
  ·(repeat' split at S)<;>cases S<;>exact absurd rfl Z
  ·(repeat' split at S)<;>cases S<;>exact absurd rfl Z
  ·-- convert
   rename_i s d x b1;split at S
   ·split at S<;>cases S;exact absurd rfl Z
   ·split at S<;>cases S;exact absurd rfl Z
   ·rename_i e cc h9;split at S
    ·rename_i ck;split at S<;>cases S;rename_i B;exact aGQ b1 cc h9 ck B F ab av
    ·cases S
   ·rename_i e cc h9;split at S
    ·rename_i ck;split at S<;>cases S;rename_i B;exact aGR b1 cc h9 ck B F ab b9 (eP rfl) (al rfl) av
    ·cases S
   ·cases S
  ·-- makeSlice
   rename_i t l c b1;split at S
   ·rename_i e ba;split at S
    ·rename_i G b3 bw W;split at S<;>cases S;rename_i B;simp only[a6]at B;exact aGU b1 ba bw W B.1 B.2 F ab b9 (eP rfl) (al rfl) av
    ·cases S
   ·cases S
  ·-- slice
   rename_i t x bk W fK b1;split at S
   ·split at S<;>cases S;exact absurd rfl Z
   ·(repeat' split at S)<;>cases S<;>exact absurd rfl Z
   ·rename_i n e aa;split at S
    ·rename_i G bw;split at S<;>cases S;rename_i oC;simp only[a6,Da]at oC;exact aGX b1 aa bw oC.1.1.1 oC.1.1.2 oC.1.2 oC.2 F ab av
    ·cases S
   ·cases S
  ·(repeat' split at S)<;>cases S<;>exact absurd rfl Z
  ·(repeat' split at S)<;>cases S<;>exact absurd rfl Z
  ·(repeat' split at S)<;>cases S<;>exact absurd rfl Z
  ·(repeat' split at S)<;>cases S<;>exact absurd rfl Z
  ·(repeat' split at S)<;>cases S<;>exact absurd rfl Z
  ·(repeat' split at S)<;>cases S<;>exact absurd rfl Z
  ·(repeat' split at S)<;>cases S<;>exact absurd rfl Z
  ·-- makeMap
   rename_i t r b1;split at S
   ·rename_i k e ba;cases S;exact aGT b1 ab b9 (eP rfl) (al rfl)
   ·cases S
  ·-- lookup
   rename_i t x i ok b1;split at S
   ·rename_i k e ba;split at S
    ·rename_i bd G hj bw;split at S<;>cases S;rename_i B;simp only[a6]at B;exact aGV b1 ba (afv hj) bw B.1 B.2 F ab av
    ·cases S
   ·cases S
  ·-- mapUpdate
   rename_i t x k v b1;split at S
   ·rename_i kk e ba;split at S
    ·rename_i bd hj;split at S<;>cases S;rename_i B;simp only[a6]at B;exact aGW b1 ba (afv hj) B.1.1 B.1.2 B.2 F ab av
    ·cases S
   ·cases S
  ·(repeat' split at S)<;>cases S<;>exact absurd rfl Z
  ·-- lA
   rename_i c b1;unfold Jv at S;split at S
   ·split at S<;>cases S;simp[ah.ln]at ar
   ·(repeat' split at S)<;>cases S<;>simp[ah.ln]at ar
   ·(repeat' split at S)<;>cases S<;>simp[ah.ln]at ar
   ·(repeat' split at S)<;>cases S<;>exact absurd rfl Z
   ·rename_i cu;split at S
    ·rename_i x y t bf aa fO;split at S
     ·rename_i e ba;split at S
      ·rename_i b3 W;split at S
       ·rename_i W6;subst W6;split at S<;>cases S;rename_i B;simp only[a6]at B;obtain⟨⟨A,D⟩,ai⟩:=B;obtain⟨G,bw⟩:=Om.1 ai;exact aGL b1 cu aa fO ba W bw A D F ab b9 (eP rfl) (al rfl) av
       ·split at S
        ·rename_i Z9 I5 a9 bw;split at S<;>cases S;rename_i B;simp only[a6]at B;exact aGM b1 cu aa fO ba a9 W bw B.1 B.2 F ab b9 (eP rfl) (al rfl) av
        ·cases S
      ·cases S
     ·cases S
    ·cases S
   ·(repeat' split at S)<;>cases S<;>exact absurd rfl Z
   ·(repeat' split at S)<;>cases S<;>exact absurd rfl Z
   ·(repeat' split at S)<;>cases S<;>exact absurd rfl Z
   ·rename_i cu;split at S
    ·rename_i x t aa fO;split at S
     ·rename_i e ba;split at S
      ·rename_i I5 bw;split at S<;>cases S;rename_i B;exact aGP b1 cu aa fO ba bw B F ab av
      ·cases S
     ·cases S
    ·cases S
   ·cases S
  ·cases S
theorem ar2{G bytes:Nat}{x y:Operand}(S:Bf P o=some (.app G bytes x y))(F:g7 ag dc z a)(ab:dv aN ag m w)(b9:aN<=w.heap.size)(eP:id<m.next)(al:ag id=none)(av:(ah.app G bytes x y).ok z m=true):
 aes P o G bytes x y a aN ag z m w id:=by
 rcases OU S with S|bY
 rotate_left
 ·cases bY
 unfold Gm at S;split at S
 case h_27 c b1=>
  unfold Jv at S;split at S
  case h_5 cu=>
   split at S
   ·rename_i x y t bf aa fO;split at S
    ·rename_i e ba;split at S
     ·rename_i b3 W;split at S
      ·rename_i W6;subst W6;split at S<;>cases S;rename_i B;simp only[a6]at B;obtain⟨⟨A,D⟩,ai⟩:=B;obtain⟨G,bw⟩:=Om.1 ai;exact apl b1 cu aa fO ba W bw A D F ab b9 eP al av
      ·(repeat' split at S)<;>cases S
     ·cases S
    ·cases S
   ·cases S
  all_goals((repeat' split at S)<;>cases S)
 all_goals((repeat' split at S)<;>cases S)
def F7(P:Program)(f:Nat):Prop:= ∃fn,P.funcs[f]?=some fn∧fn.body.isSome=true∧(fn.name== "runtime.NumGoroutine")=false
theorem am1{name:String}{r:TypeId×Nat×Option (Bool×Nat)}(h:r∈aar P name):E4 P name r.1=some r/\r.1<P.types.size:=by
 unfold aar at h;obtain⟨t,A,D⟩:=xM.1 h;have:r.1=t:=by
  unfold E4 at D
  (repeat' split at D)<;>cases D<;>rfl
 subst this;exact⟨D,by simpa using A⟩
theorem aFR{name:String}{t f:Nat}{v:Value}(h:E4 P name t=some (t,f,none)/\t<P.types.size):
 (method (P.types.size+Made.depth) t v name).run P w= .ok (f,v) w:=by
 obtain⟨h,dm⟩:=h;unfold E4 at h
 (repeat' split at h)<;>cases h
 rename_i Ws _ E7 Kq Z _ _ _ wK a9 GK;obtain⟨n,ae⟩: ∃n,P.types.size+Made.depth=n+1:=⟨P.types.size+Made.depth-1,by omega⟩;have ahD:E7.path.toList=[]:=by simpa using Z
 rw[ae];simp[method,typeInfo,Ws,Kq,ahD,follow,GK,receiverAt,underlying,a9,Place.get]
theorem abY{f:Nat}{args:Array Value}(h:F7 P f):(callFunc f args).run P w= .ok (.enter f args) w:=by
 obtain⟨fn,A,D,ai⟩:=h;have aT:fn.body≠none:=by intro hb;simp[hb]at D
 have bF:fn.name≠ "runtime.NumGoroutine" :=by simpa using ai
 simp[callFunc,A,aT,bF]
theorem aFU{bu:Array TypeId}{t:TypeId}{eu:Addr}{x y:String}:Builtin.ssaWrapNilChk_ bu t #[.pointer (some eu),strVal x,strVal y]=pure (.pointer (some eu)):=rfl
theorem aFS{name:String}{t f n:Nat}{dr:Bool}{eu:Addr}{ds:List Value}(h:E4 P name t=some (t,f,some (dr,n))/\t<P.types.size)
 (A:dr=true\/n=1) (az:ds.length=n) (ar: ∀(j:Nat) bf,ds[j]?=some bf->w.cell? (eu.add j)=some bf):
 (method (P.types.size+Made.depth) t (.pointer (some eu)) name).run P w= .ok (f,if dr then .agg ds.toArray else ds.headD undef) w:=by
 obtain⟨h,dm⟩:=h;unfold E4 at h
 (repeat' split at h)<;>cases h
 rename_i Ws _ E7 Kq Z _ _ _ wK a9 _ _ GK wT ae;obtain⟨n,BN⟩: ∃n,P.types.size+Made.depth=n+1:=⟨P.types.size+Made.depth-1,by omega⟩;have ahD:E7.path.toList=[]:=by simpa using Z
 have vH:=ab0 (P:=P) (w:=w) wT ae A az ar;have awj:E7.path= #[]:=by simpa using Z
 rw[BN];simp[method,typeInfo,Ws,Kq,follow,GK,receiverAt,underlying,a9,Place.get,awj,aFU,asAddr,vH]
theorem ao5{name:String}{t f:Nat}{v aoE:Value}{args:Array Value}(ab:(method (P.types.size+Made.depth) t v name).run P w= .ok (f,aoE) w)(a5:F7 P f):
 (invoke (.fn (.method name) #[]) (#[.iface t v]++args)).run P w= .ok (.enter f (#[aoE]++args)) w:=by
 have bY:(#[Value.iface t v]++args)[0]?=some (.iface t v):=by rw[Ol (by simp)];rfl
 have A:(#[Value.iface t v]++args).extract 1 (#[Value.iface t v]++args).size=args:=by simp
 simp only[invoke,bY,A,callMethod,Sem.run_bind,run_program,Result.andThen_ok,ab,abY a5]
def sa(P:Program)(aN:Nat)(b4:Callee):Prop:= ∀f args m r U,b4 f args m=some (r,U)->F7 P f/\m.next<=U.next/\(∀b,b<m.next->m.I b=none->U.I b=none)/\
 (∀id x,id<m.next->m.I id=none->b4 f args (m.aO id x)=some (r,U.aO id x))/\
 ∀ ag w (lV:Array Value),da ag args lV.toList->dv aN ag m w->aN<=w.heap.size->
   Calls P f lV w λe w'=> ∃v cT,e= .returned v/\gH ag cT/\(∀b,b<m.next->cT b=ag b)/\dM cT r v/\dv aN cT U w'/\Below aN w w'
theorem asY{k:ah}(S:Bf P o=some k)(F:g7 ag dc z a)(ab:dv aN ag m w){f:Nat}{args:List Value}(gP:k.fF z m=some (f,args))(a5:F7 P f):
 ∃lV:Array Value,(execOp a.eval o).run P w= .ok (.enter f lV) w/\da ag args lV.toList:=by
 rcases OU S with S|rfl
 rotate_left
 ·cases gP
 unfold Gm at S;split at S
 case h_27 c b1=>
  unfold Jv at S;split at S
  ·-- a method cK U8 interface value
   rename_i t name cu;split at S<;>cases S;rename_i oC;simp only[ah.fF]at gP;have al:=F.O (x:= .tmp t) rfl;split at gP
   ·rename_i qj v M;rw[M]at al;obtain⟨bX,aD,ek⟩:=al.KT;split at gP
    ·rename_i c3 g BJ;simp only[mB,wq]at gP;obtain⟨rfl,rfl⟩:=gP;have W7:c3=qj:=(by have:=List.find?_some BJ;simpa using this);subst W7;refine⟨#[bX]++c.args.map a.eval,?_,by simpa using da.cons ek (HS F _ oC)⟩;have WH:=aFR (w:=w) (v:=bX) (am1 (List.mem_of_find?_eq_some BJ));simp only[execOp,b1,resolve,cu,Sem.run_bind,aD,Sem.run_pure,Result.andThen_ok];exact ao5 WH a5
    ·rename_i c3 g dr n BJ;split at gP
     ·rename_i av;simp only[mB,wq]at gP;obtain⟨rfl,rfl⟩:=gP;have W7:c3=qj:=(by have:=List.find?_some BJ;simpa using this);subst W7;simp only[a6,ua,ey]at av;obtain⟨eu,ds,A,D,ai,aT⟩:=aam ab ek av.1 av.2;refine⟨#[if dr then .agg ds.toArray else ds.headD undef]++c.args.map a.eval,?_,by simpa using da.cons aT (HS F _ oC)⟩;have WH:=aFS (w:=w) (am1 (List.mem_of_find?_eq_some BJ)) av.2 D ai;simp only[execOp,b1,resolve,cu,Sem.run_bind,aD,Sem.run_pure,Result.andThen_ok,A];exact ao5 WH a5
     ·cases gP
    ·cases gP
   ·cases gP
  ·-- a named auz
   rename_i g cu;split at S
   ·rename_i fn GK;split at S<;>cases S;rename_i oC;simp only[a6]at oC;simp only[ah.fF,mB,wq]at gP;obtain⟨rfl,rfl⟩:=gP;refine⟨c.args.map a.eval,?_,by simpa using HS F _ oC.2⟩;have A:a.eval (.func g)= .func (.func g) #[] #[]:=rfl;simp only[execOp,b1,resolve,cu,Sem.run_bind,A,Deferred.ofValue,Sem.run_pure,Result.andThen_ok,invoke];rw[abY a5];simp
   ·cases S
  ·-- a auz value
   rename_i t cu;split at S<;>cases S;rename_i oC;simp only[ah.fF]at gP;have al:=F.O (x:= .tmp t) rfl;split at gP
   ·rename_i g first kr M
    simp only[mB,wq]at gP;obtain⟨rfl,rfl⟩:=gP;rw[M]at al;obtain⟨ys,ds,A,D,ai⟩:=al.Ep;refine⟨ys++c.args.map a.eval++ds,?_,by simpa using(D.pV (HS F _ oC)).pV ai⟩;simp only[execOp,b1,resolve,cu,Sem.run_bind,A,Deferred.ofValue,Sem.run_pure,Result.andThen_ok,invoke];rw[abY a5]
   ·cases gP
  all_goals((repeat' split at S)<;>cases S<;>simp[ah.fF]at gP)
 all_goals((repeat' split at S)<;>cases S<;>simp[ah.fF]at gP)
end
def AH:Value->Option Nat
 | .slice (some a) _ _=>some a.block
 |_=>none
def SH:Value->Bool
 | .int .i64 n=>n==0
 |_=>false
theorem amt{v:Value}(h:SH v=true):v= .int .i64 0:=by
 unfold SH at h;split at h
 ·rw[beq_iff_eq]at h;rw[h]
 ·cases h
def KR(s i y:Value):Bool:=SH i&&decide (0<fR y)&&decide (AH s≠AH y)&&decide ((fR s+fR y)*8<=140737488355328)
def tC(m:H)(s i y:Value):Bool:=fw m 1 s&&(iJ m s&&(fw m 1 y&&(iJ m y&&KR s i y)))
def uH(m:H)(s y:Value):H:=((hC m s).b0 1).aO m.next (some ⟨fq m 1 y++fq m 1 s,true⟩)
def xc(m:H)(s y:Value):Value:= .slice (some ⟨m.next,0,none⟩) (fR s+fR y) 1
def tB:List Value->H->Option (Value×H)
 |[s,i,y],m=>if tC m s i y=true then some (xc m s y,uH m s y)else none
 |_,_=>none
theorem KQ{args:List Value}{m:H}{r:Value}{U:H}(h:tB args m=some (r,U)): ∃s i y,args=[s,i,y]/\tC m s i y=true/\r=xc m s y/\U=uH m s y:=by
 unfold tB at h;split at h
 ·rename_i s i y;split at h
  ·rename_i av;cases h;exact⟨s,i,y,rfl,av,rfl,rfl⟩
  ·cases h
 ·cases h
theorem HQ(m:H)(v:Value):(hC m v).next=m.next:=by unfold hC;split<;>rfl
theorem axh{args:List Value}{m:H}{r:Value}{U:H}(h:tB args m=some (r,U)):m.next<=U.next:=by
 obtain⟨s,i,y,rfl,_,rfl,rfl⟩:=KQ h;show m.next<=(hC m s).next+1
 rw[HQ];omega
theorem axi{args:List Value}{m:H}{r:Value}{U:H}(h:tB args m=some (r,U)){b:Nat}(hb:b<m.next)(aH:m.I b=none):U.I b=none:=by
 obtain⟨s,i,y,rfl,_,rfl,rfl⟩:=KQ h;unfold uH;rw[H.mK,if_neg (by omega),H.cJ];unfold hC;split
 ·rw[H.mK];split
  ·split<;>rfl
  ·exact aH
 ·exact aH
def Ja(P:Program)(f:Nat):Prop:=F7 P f/\ ∀(aN:Nat) args m r U,tB args m=some (r,U)-> ∀ag w (lV:Array Value),da ag args lV.toList->dv aN ag m w->aN<=w.heap.size->
 Calls P f lV w λe w'=> ∃v cT,e= .returned v/\gH ag cT/\(∀b,b<m.next->cT b=ag b)/\dM cT r v/\dv aN cT U w'/\Below aN w w'
open Classical in
noncomputable def kL(P:Program):Nat->Callee
 |0,_,_,_=>none
 | n+1,f,args,m=>match cd P f with
   | some u=>if args.length<=u.dc then
    (match eR (kL P n) n u.body (ig args) m with
    |some (.cH _,_,_)=>none
    |some (_,K,U)=>if mw U K u.j6 then some (mU U K u.j6,U)else none
    |none=>none)
     else none
   |none=>if Ja P f then tB args m else none
end Go.DI
