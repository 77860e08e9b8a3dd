/-
  A part of the proof of the statement, in texts that tools of ours (wip/shrink.py, irpack.py, relax.py, minify.py, join.py, lay.py) have shortened.
-/
import Derived.Test.YtkpifdkccdndcaaGreatZas
set_option linter.all false
set_option maxRecDepth 8000
set_option maxHeartbeats 16000000
namespace Go.Big
structure hC.lF(K:hC):Prop where
  ext:cU K.ext 1 4=true
  rm:K.ck.length<=4
  dS:K.a5.length<=4
  iX:K.dG.length<=40
  sZ:K.gq.length<=24
  p2:K.cG.length<=4
  yL:K.dH.length<=12
  ck: ∀x∈K.ck,x.bM/\x.ox=true
  a5: ∀x∈K.a5,cU x.ext 1 16=true/\cU x.pn 1 64=true/\0<=x.eV/\x.eV<K.ck.length
  wL: ∃l,K.dG=Go.Proofs.YtkpifdkccdndcaaGreat.mM::l
  dG: ∀i d,K.dG[i+1]?=some d->Go.Proofs.YtkpifdkccdndcaaGreat.IK K.dG i d
  gq: ∀x∈K.gq,Go.Proofs.YtkpifdkccdndcaaGreat.IL K.dG K.a5.length x
  cG: ∀x∈K.cG,Go.Proofs.YtkpifdkccdndcaaGreat.oD.lF x K.a5.length
  dH: ∀x∈K.dH,0<=x.qO/\x.qO<K.cG.length
  nu:Go.Proofs.YtkpifdkccdndcaaGreat.tR (K.ck.map (·.name))
  zb:Go.Proofs.YtkpifdkccdndcaaGreat.tR (K.a5.map (·.name))
  nv:Go.Proofs.YtkpifdkccdndcaaGreat.tR (K.dG.tail.map (·.name)++K.gq.map (·.name))
  gQ:Go.Proofs.YtkpifdkccdndcaaGreat.tR (K.cG.map (·.name))
  zc:Go.Proofs.YtkpifdkccdndcaaGreat.tR (K.dH.map (·.name))
end Go.Big
namespace Go.Proofs.YtkpifdkccdndcaaGreat
open Go Go.DI Go.Big
theorem NS{cK:Type}{l:List cK}{x:cK}{i:Nat}{y:cK}(h:l[i]?=some y):(l++[x])[i]?=some y:=by rw[List.getElem?_append_left (List.getElem?_eq_some_iff.1 h).1];exact h
theorem IK.aD{b1:List qX}{i:Nat}{d x:qX}(h:IK b1 i d):IK (b1++[x]) i d:=by obtain⟨bB,z,⟨q,D,Z⟩,aw,aX,cC,gn⟩:=h;exact⟨bB,z,⟨q,NS D,Z⟩,aw,aX,cC,gn⟩
theorem IL.aD{b1:List qX}{n:Nat}{d:zm}{x:qX}(h:IL b1 n d):IL (b1++[x]) n d:=by obtain⟨bB,z,D,⟨q,Z,aw⟩⟩:=h;exact⟨bB,z,D,⟨q,NS Z,aw⟩⟩
theorem alD{x:k4}{sB:Bool}{m6:Option Int}{cc:dY}{n:Nat}{d:zm}(h:gy x sB m6 cc n= .Fw d):
    gP x.name=true/\sB=false/\x.cR=5/\0<=cc.at 4/\ ∃m,m6=some m/\d=⟨x.name,m,cc.e⟩:=by
  unfold gy at h;cases z:gP x.name
  · simp[z]at h
  · cases sB
    · cases Z:cU x.cR 1 5
      · simp[z,Z]at h
      · by_cases aw:cc.at (x.cR-1)<0
        · simp[z,Z,aw]at h
        · by_cases aX:x.cR=5
          · have fe:cc.at (x.cR-1)=cc.at 4:=(by rw[aX];rfl);rw[fe]at aw;rw[aX]at Z;cases m6 with
            |none=>simp[z,Z,aw,aX]at h
            | some m=>
              by_cases cC:x.gQ=0
              · cases gn:x.fX.bw.ok
                · simp[z,Z,aw,aX,cC,gn]at h
                · by_cases iP:0<x.fX.bw.n
                  · simp[z,Z,aw,aX,cC,gn,iP]at h
                  · simp[z,Z,aw,aX,cC,gn,iP]at h;refine⟨rfl,rfl,aX,?_,m,rfl,h.symm⟩;omega
              · simp[z,Z,aw,aX,cC]at h
          · simp only[z,Z,aw,aX,Bool.true_eq_false,Bool.false_eq_true,if_false]at h;split at h
            · cases h
            · split at h
              · cases h
              · split at h<;>cases h
    · simp[z]at h
theorem alC{x:k4}{sB:Bool}{m6:Option Int}{cc l:dY}{n:Nat}{d:qX}(h:gy x sB m6 cc n= .ql d l):
    gP x.name=true/\sB=false/\cU x.cR 1 4=true/\0<=cc.at (x.cR-1)/\cU x.gQ 1 64=true/\x.fX.bw.small=true/\d=⟨x.name,x.cR,cc.at (x.cR-1),x.gQ,ea x.fX⟩/\l=cc.au x.cR n:=by
  unfold gy at h;cases z:gP x.name
  · simp[z]at h
  · cases sB
    · cases Z:cU x.cR 1 5
      · simp[z,Z]at h
      · by_cases aw:cc.at (x.cR-1)<0
        · simp[z,Z,aw]at h
        · by_cases aX:x.cR=5
          · exfalso
            (repeat' split at h)<;>first|(cases h;done)|contradiction
          · cases cC:cU x.gQ 1 64
            · simp[z,Z,aw,aX,cC]at h
            · cases gn:x.fX.bw.small
              · simp[z,Z,aw,aX,cC,gn]at h
              · by_cases iP:x.model=⟨#[]⟩
                · simp[z,Z,aw,aX,cC,gn,iP]at h;rw[yp]at Z;exact⟨rfl,rfl,yp.2 ⟨Z.1,by omega⟩,by omega,rfl,rfl,h.1.symm,h.2.symm⟩
                · simp[z,Z,aw,aX,cC,gn,iP]at h
    · simp[z]at h
theorem avk{G eP:dm}{x:k4}(W:x.fX.bM)(h:hP G x= .inl eP)(aa:qW G):qW eP:=by
  unfold hP at h;split at h
  · cases h
  · next d aF=>
    simp only[Sum.inl.injEq]at h;subst h;obtain⟨z,D,Z,aw,m,aX,rfl⟩:=alD aF;obtain⟨i,aK,rfl⟩: ∃i:Nat,dR x.model G.gJ=some i/\m=(i:Int):=by
      cases bY:dR x.model G.gJ with
      |none=>rw[bY]at aX;cases aX
      |some i=>rw[bY]at aX;simp at aX;exact⟨i,rfl,aX.symm⟩
    have cM:=Gf aK;simp only[dm.gJ,List.length_map]at cM;have fG:0<=G.cc.e:=(by simpa[dY.at]using aw);refine⟨aa.ck,aa.nu,aa.a5,aa.zb,aa.wL,aa.dG,aa.cc,λy ah=> ?_,?_,Hp aa.nv z D,aa.cG,aa.gQ,aa.dH,aa.zc⟩
    · rcases List.mem_append.1 ah with ah|ah
      · exact aa.gq y ah
      · simp at ah;subst ah;obtain⟨q,bm,bU⟩:=aa.cc 4 (by decide) (by decide) aw;exact⟨by simp,by simp;omega,fG,⟨q,by simpa[dY.at]using bm,bU⟩⟩
    · rw[List.map_append,<-List.append_assoc];exact aa.Cn.append_right _
  · next d l aF=>
    simp only[Sum.inl.injEq]at h;subst h;obtain⟨z,D,Z,aw,aX,cC,rfl,rfl⟩:=alC aF;obtain⟨adt,aeO⟩:=aa.wL;have kt:=yp.1 Z;obtain⟨aH,bD⟩:=As W cC;have auk:=aa.cc (x.cR-1) (by omega) (by omega) aw;refine⟨aa.ck,aa.nu,aa.a5,aa.zb,⟨adt++[⟨x.name,x.cR,G.cc.at (x.cR-1),x.gQ,ea x.fX⟩],by simp[aeO]⟩,λi d aR=> ?_,λj uU ayz RR=> ?_,λy ah=>(aa.gq y ah).aD,?_,Hp aa.nv z D,aa.cG,aa.gQ,aa.dH,aa.zc⟩
    · by_cases Vm:i+1<G.dG.length
      · rw[List.getElem?_append_left Vm]at aR;exact(aa.dG i d aR).aD
      · have gH:=(List.getElem?_eq_some_iff.1 aR).1;simp at gH;have atH:i+1=G.dG.length:=(by omega);rw[atH,List.getElem?_append_right (Nat.le_refl _),Nat.sub_self]at aR;simp at aR;subst aR;obtain⟨q,bm,bU⟩:=auk;have BK:=(List.getElem?_eq_some_iff.1 bm).1;exact⟨aw,by simp only;omega,⟨q,NS bm,bU⟩,Z,aX,aH,bD⟩
    · have cp:j=0\/j=1\/j=2\/j=3\/j=4:=(by omega);have DS:x.cR=1\/x.cR=2\/x.cR=3\/x.cR=4:=(by omega);by_cases atK:j=x.cR
      · subst atK;have e:(G.cc.au x.cR (G.dG.length:Int)).at x.cR=(G.dG.length:Int):=by
          rcases DS with e|e|e|e<;>simp[e,dY.au,dY.at]
        rw[e]at RR⊢;refine⟨⟨x.name,x.cR,G.cc.at (x.cR-1),x.gQ,ea x.fX⟩,?_,rfl⟩;rw[Int.toNat_natCast,List.getElem?_append_right (Nat.le_refl _),Nat.sub_self];rfl
      · by_cases Vp:j<x.cR
        · have e:(G.cc.au x.cR (G.dG.length:Int)).at j=G.cc.at j:=by
            rcases DS with e|e|e|e<;>rcases cp with f|f|f|f|f<;>simp[e,f,dY.au,dY.at]<;>omega
          rw[e]at RR⊢;obtain⟨q,bm,bU⟩:=aa.cc j uU ayz RR;exact⟨q,NS bm,bU⟩
        · have e:(G.cc.au x.cR (G.dG.length:Int)).at j= -1:=by
            rcases DS with e|e|e|e<;>rcases cp with f|f|f|f|f<;>simp[e,f,dY.au,dY.at]<;>omega
          rw[e]at RR;omega
    · have bH:(G.dG++[(⟨x.name,x.cR,G.cc.at (x.cR-1),x.gQ,ea x.fX⟩:qX)]).tail=G.dG.tail++[⟨x.name,x.cR,G.cc.at (x.cR-1),x.gQ,ea x.fX⟩]:=(by rw[aeO];rfl);rw[bH,List.map_append,List.append_assoc];refine(aa.Cn.append_right [x.name]).trans ?_;rw[List.append_assoc];exact List.Perm.append_left _ (List.perm_append_comm)
structure rG(G:dm)(a b c d e f:Nat):Prop where
  a:G.ck.length=a
  b:G.a5.length=b
  c:G.dG.length=c
  d:G.gq.length=d
  e:G.cG.length=e
  f:G.dH.length=f
theorem anp: ∀{l:List xN} {G eP:dm} {a b c d e f:Nat},fr kQ (.inl G) l= .inl eP->rG G a b c d e f->rG eP (a+l.length) b c d e f
  |[],G,eP,a,b,c,d,e,f,h,J=>by cases h;exact J
  | x::l,G,eP,a,b,c,d,e,f,h,J=>by
    rw[zH]at h;cases aI:kQ G x with
    |inr e=>rw[aI,tp]at h;cases h
    | inl hD=>
      rw[aI]at h;have z:rG hD (a+1) b c d e f:=by
        unfold kQ at aI
        repeat' split at aI
        all_goals cases aI
        obtain⟨bm,bU,cn,fa,fZ,ij⟩:=J;exact⟨by simp[bm],bU,cn,fa,fZ,ij⟩
      have:=anp h z;rw[List.length_cons,Nat.add_comm l.length 1,<-Nat.add_assoc];exact this
theorem anq: ∀{l:List zq} {G eP:dm} {a b c d e f:Nat},fr ja (.inl G) l= .inl eP->rG G a b c d e f->rG eP a (b+l.length) c d e f
  |[],G,eP,a,b,c,d,e,f,h,J=>by cases h;exact J
  | x::l,G,eP,a,b,c,d,e,f,h,J=>by
    rw[zH]at h;cases aI:ja G x with
    |inr e=>rw[aI,tp]at h;cases h
    | inl hD=>
      rw[aI]at h;have z:rG hD a (b+1) c d e f:=by
        unfold ja at aI
        repeat' split at aI
        all_goals cases aI
        obtain⟨bm,bU,cn,fa,fZ,ij⟩:=J;exact⟨bm,by simp[bU],cn,fa,fZ,ij⟩
      have:=anq h z;rw[List.length_cons,Nat.add_comm l.length 1,<-Nat.add_assoc];exact this
theorem anr: ∀{l:List mg} {G eP:dm} {a b c d e f:Nat},fr jx (.inl G) l= .inl eP->rG G a b c d e f->rG eP a b c d (e+l.length) f
  |[],G,eP,a,b,c,d,e,f,h,J=>by cases h;exact J
  | x::l,G,eP,a,b,c,d,e,f,h,J=>by
    rw[zH]at h;cases aI:jx G x with
    |inr e=>rw[aI,tp]at h;cases h
    | inl hD=>
      rw[aI]at h;have z:rG hD a b c d (e+1) f:=by
        unfold jx at aI;simp only at aI;split at aI;all_goals cases aI
        obtain⟨bm,bU,cn,fa,fZ,ij⟩:=J;exact⟨bm,bU,cn,fa,by simp[fZ],ij⟩
      have:=anr h z;rw[List.length_cons,Nat.add_comm l.length 1,<-Nat.add_assoc];exact this
theorem ans: ∀{l:List zr} {G eP:dm} {a b c d e f:Nat},fr kR (.inl G) l= .inl eP->rG G a b c d e f->rG eP a b c d e (f+l.length)
  |[],G,eP,a,b,c,d,e,f,h,J=>by cases h;exact J
  | x::l,G,eP,a,b,c,d,e,f,h,J=>by
    rw[zH]at h;cases aI:kR G x with
    |inr e=>rw[aI,tp]at h;cases h
    | inl hD=>
      rw[aI]at h;have z:rG hD a b c d e (f+1):=by
        unfold kR at aI
        repeat' split at aI
        all_goals cases aI
        obtain⟨bm,bU,cn,fa,fZ,ij⟩:=J;exact⟨bm,bU,cn,fa,fZ,by simp[ij]⟩
      have:=ans h z;rw[List.length_cons,Nat.add_comm l.length 1,<-Nat.add_assoc];exact this
theorem abT: ∀{l:List k4} {G eP:dm} {a b c d e f:Nat},fr hP (.inl G) l= .inl eP->rG G a b c d e f->rG eP a b (c+k0 l) (d+k1 l) e f
  |[],G,eP,a,b,c,d,e,f,h,J=>by cases h;exact J
  | x::l,G,eP,a,b,c,d,e,f,h,J=>by
    rw[zH]at h;cases aI:hP G x with
    |inr e=>rw[aI,tp]at h;cases h
    | inl hD=>
      rw[aI]at h;obtain⟨bm,bU,cn,fa,fZ,ij⟩:=J;unfold hP at aI;split at aI
      · cases aI
      · next Dd aF=>cases aI;have aX:=(alD aF).2.2.1;have aw:cU x.cR 1 4=false:=(by rw[aX];rfl);have:=abT (c:=c) (d:=d+1) h ⟨bm,bU,cn,by simp[fa],fZ,ij⟩;have aM:k0 (x::l)=k0 l:=(by simp[k0,aw]);have a1:k1 (x::l)=k1 l+1:=(by simp[k1,aX]);rw[aM,a1,show d+(k1 l+1)=d+1+k1 l by omega];exact this
      · next Dd e5 aF=>cases aI;have aw:=(alC aF).2.2.1;have aX: ¬x.cR=5:=(by rw[yp]at aw;omega);have:=abT (c:=c+1) (d:=d) h ⟨bm,bU,by simp[cn],fa,fZ,ij⟩;have aM:k0 (x::l)=k0 l+1:=(by simp[k0,aw]);have a1:k1 (x::l)=k1 l:=(by simp[k1,aX]);rw[aM,a1,show c+(k0 l+1)=c+1+k0 l by omega];exact this
theorem au7{s:gg}{G:dm}(h:mC s= .inl G): ∃hD Ie MV MW,wQ s= .inl hD/\pa s= .inl Ie/\qn s= .inl MV/\q6 s= .inl MW:=by
  cases z:wQ s with
  |inr e=>rw[adG z]at h;cases h
  | inl hD=>
    cases D:pa s with
    |inr e=>rw[Uu D]at h;cases h
    | inl Ie=>
      cases Z:qn s with
      |inr e=>rw[adH Z]at h;cases h
      | inl MV=>
        cases aw:q6 s with
        |inr e=>rw[adI aw]at h;cases h
        |inl MW=>exact⟨hD,Ie,MV,MW,rfl,rfl,rfl,rfl⟩
theorem avh{s:gg}(W:s.bM){G:dm}(h:mC s= .inl G):qW G:=
  I0 (P:=qW) (λG x eP H h aa=>avm h aa) h λG h=>
  I0 (P:=qW) (λG x eP H h aa=>avl (W.cG x H) h aa) h λG h=>
  I0 (P:=qW) (λG x eP H h aa=>avk (W.a3 x H) h aa) h λG h=>
  I0 (P:=qW) (λG x eP H h aa=>avj h aa) h λG h=>
  I0 (P:=qW) (λG x eP H h aa=>avi (W.ck x H) h aa) h λG h=>by cases h;exact avg
theorem aDc{s:gg}{G:dm}(h:mC s= .inl G):rG G s.ck.length s.a5.length (1+k0 s.a3) (k1 s.a3) s.cG.length s.dH.length:=by obtain⟨hD,Ie,MV,MW,z,D,Z,aw⟩:=au7 h;have vl:rG lG 0 0 1 0 0 0:=⟨rfl,rfl,rfl,rfl,rfl,rfl⟩;have lx:=anp z vl;rw[pa,z]at D;have nM:=anq D lx;rw[qn,pa,z,D]at Z;have tb:=abT Z nM;rw[q6,qn,pa,z,D,Z]at aw;have xL:=anr aw tb;rw[mC,q6,qn,pa,z,D,Z,aw]at h;have wA:=ans h xL;simpa using wA
theorem FD{cK:Type}{f:dm->cK->iN}(aI: ∀G x e p,f G x= .inr (e,p)->e≠0): ∀{l:List cK} {s:iN} {e:Int} {p:mf},fr f s l= .inr (e,p)->(∀e p,s= .inr (e,p)->e≠0)->e≠0
  |[],s,e,p,h,J=>J e p h
  | x::l,s,e,p,h,J=>by
    cases s with
    |inr Fz=>rw[tp]at h;exact J e p h
    |inl G=>rw[zH]at h;exact FD aI h λe p h=>aI G x e p h
theorem az2{x:k4}{sB:Bool}{m6:Option Int}{cc:dY}{n:Nat}{e:Int}(h:gy x sB m6 cc n= .q5 e):e≠0:=by
  unfold gy at h
  repeat' split at h
  all_goals first
    |(cases h;decide)
    |(cases h)
theorem ar1{s:gg}{e:Int}{p:mf}(h:mC s= .inr (e,p)):e≠0:=by
  refine FD (f:=kR) (λG x e p h=> ?_) h λe p h=>FD (f:=jx) (λG x e p h=> ?_) h λe p h=>FD (f:=hP) (λG x e p h=> ?_) h λe p h=>FD (f:=ja) (λG x e p h=> ?_) h λe p h=>FD (f:=kQ) (λG x e p h=> ?_) h λe p h=>by cases h
  · unfold kR at h
    repeat' split at h
    all_goals(cases h<;>first|decide|assumption)
  · unfold jx at h;simp only at h;split at h
    · cases h
    · next aU=>cases h;exact aU
  · unfold hP at h;split at h
    · next aU=>cases h;exact az2 aU
    · cases h
    · cases h
  · unfold ja at h
    repeat' split at h
    all_goals(cases h<;>first|decide|assumption)
  · unfold kQ at h
    repeat' split at h
    all_goals(cases h<;>first|decide|assumption)
theorem E0{x:bh}(z:x.bM)(D:x.bw.small=true):x.ko:=⟨z,vf D⟩
theorem ayN{x:hk}(W:x.bM)(h:x.ox=true):x.ko:=by have uJ:=hk.Sg W h;obtain⟨bp,dc,eK,kX,j2,ni,oR⟩:=W;simp only[hk.ox,mJ,Bool.and_eq_true,decide_eq_true_eq]at h;obtain⟨⟨⟨⟨⟨⟨⟨⟨⟨cB,eQ⟩,ht⟩,ho⟩,ly⟩,Ba⟩,It⟩,TT⟩,TU⟩,TR⟩:=h;refine⟨λr aF=>E0 (bp r aF) (List.all_eq_true.1 ly _ (List.mem_map_of_mem aF)),λl aG r aF=> ?_,λr aF=>E0 (eK r aF) (List.all_eq_true.1 Ba _ (List.mem_map_of_mem aF)),kX,j2,ni,uJ⟩;obtain⟨i,aa,rfl⟩:=List.getElem_of_mem aG;have:=HJ (j:=i) It (by rw[List.getElem?_map,List.getElem?_eq_getElem aa];rfl);simp only[p7,Bool.and_eq_true]at this;exact E0 (dc _ aG r aF) (List.all_eq_true.1 this.2.1 _ (List.mem_map_of_mem aF))
theorem aaZ:mM.fX.bw= .nil:=TY (x:= .nil) (by decide) (by decide)
theorem adT:a6.nil.ok=true:=Ay
theorem aBV:mM.fX.bw.small=true:=by rw[aaZ];have:ej .nil= .nil:=ak0 (bV:=false) (d:=1) (by decide);simp only[a6.small,adT,this,Bool.true_and];decide
theorem aBU:mM.fX.bw.n=0:=by rw[aaZ];rfl
theorem amB:mM.fX.ko:=by have z:(0:Int)<aZ 512:=k8 512;have aO:(qj .nil).bM:=TZ (by decide) (by decide) z aas;refine⟨aO,?_⟩;rw[aaZ];exact adT
theorem aAK{x:oD}{n:Nat}(h:oD.lF x n):x.ko:=by have aF:=h.Sy;simp only[ns,Bool.and_eq_true]at aF;obtain⟨_,fw,iZ,nr,mL⟩:=aF;refine⟨λr aF=> ?_,E0 h.aog iZ,E0 h.anY mL,h.hU.2,h.len⟩;have:=List.all_eq_true.1 fw r aF;simp only[pq,Bool.and_eq_true]at this;exact E0 (h.hU.1 r aF) this.1
theorem adg{s:gg}(W:s.bM):(lz s).1.ko/\((lz s).2.1=0->(lz s).1.lF):=by
  have aag:hC.nil.ko:=⟨λ_ h=>(by cases h),λ_ h=>(by cases h),λ_ h=>(by cases h),by decide,by decide,by decide,by decide,by decide,by decide⟩;unfold lz;cases z:cU s.ext 1 4
  · exact⟨aag,λh=>by cases h⟩
  · cases D:mO s
    · exact⟨aag,λh=>by cases h⟩
    · simp only[Bool.true_eq_false,if_false];cases Z:mC s with
      | inr Fz=>obtain⟨e,p⟩:=Fz;refine⟨aag,λh=> ?_⟩;exfalso;exact ar1 Z h
      | inl G=>
        have aa:=avh W Z;have bY:=aDc Z;simp only[mO,Bool.and_eq_true,decide_eq_true_eq]at D;obtain⟨lx,nM,tb,xL,wA,aRz⟩:=D;obtain⟨bm,bU,cn,fa,fZ,ij⟩:=bY;refine⟨⟨λx H=>ayN (aa.ck x H).1 (aa.ck x H).2.1,λx H=> ?_,λx H=>aAK (aa.cG x H),by simp only[p6];omega,by simp only[p6];omega,by simp only[p6];omega,by simp only[p6];omega,by simp only[p6];omega,by simp only[p6];omega⟩,λ_=> ?_⟩
        · obtain⟨l,aG⟩:=aa.wL;obtain⟨i,hH⟩:=List.getElem?_of_mem H;cases i with
          | zero=>simp only[p6,aG]at hH;simp at hH;subst hH;exact amB
          | succ i=>have:=aa.dG i x hH;exact E0 this.bM this.rz
        · refine⟨z,by simp only[p6];omega,by simp only[p6];omega,by simp only[p6];omega,by simp only[p6];omega,by simp only[p6];omega,by simp only[p6];omega,λx H=>⟨(aa.ck x H).1,(aa.ck x H).2.1⟩,aa.a5,aa.wL,aa.dG,aa.gq,aa.cG,aa.dH,aa.nu,aa.zb,?_,aa.gQ,aa.zc⟩;exact⟨λn ak=>aa.nv.1 n (aa.Cn.mem_iff.2 ak),aa.Cn.nodup_iff.1 aa.nv.2⟩
end Go.Proofs.YtkpifdkccdndcaaGreat
namespace Go.Proofs.YtkpifdkccdndcaaGreat
open Go Go.DI Go.Big
theorem aDJ{K:hC}(h:K.lF):eg Tryz.prog 63 [.agg (fu K).toArray] (.bool true):=by
  refine iA (g0 (aY:=⟨[EX,Mj],[]⟩) axQ (by kernel_rfl) (by simp[Y7]) ?_);obtain⟨b1,sF⟩:=h.wL;have lK:=h.iX;have gH:K.dG.length=b1.length+1:=by rw[sF];rfl
  have nE: ¬(K.dG.length:Int)=0:=by omega
  have nV:(0:Int)<K.dG.length:=by omega
  have yh: ¬K.dG.length=0:=by omega
  have Og:0<K.dG.length:=by omega
  have atO:1<=K.dG.length:=by omega
  have Vr:(1:Int)<=K.dG.length:=by omega
  have hZ:K.dG[0]?=some mM:=by rw[sF];rfl
  obtain⟨bp,dc⟩:=amB;have fH:mM.fX.bw.small=true:=aBV;have afc: ¬0<mM.fX.bw.n:=by rw[aBU];decide
  have amy:mM.name=⟨#[]⟩:=rfl;have amw:mM.cR=0:=rfl;have amF:mM.parent= -1:=rfl;have SA:mM.gQ=0:=rfl;have aIZ:(K.dG.map iC).drop 1=b1.map iC:=by rw[sF];rfl
  obtain⟨R,g9⟩: ∃R,R=mM:=⟨_,rfl⟩;rw[<-g9]at hZ bp dc fH afc amy amw amF SA;have oL:K.dG[0]=R:=by have:=List.getElem?_eq_getElem Og;rw[hZ]at this;exact(Option.some.inj this).symm
  simp(disch:=first|omega|(simp only[ae,ad,af];omega)) [Y7,ajF,ajG,ajH,ajI,ajJ,fu,iC,yh,Og,Vr,oL,fH,afc,amy,amw,amF,SA];have Uh:(List.take K.dG.length (K.dG.map iC)).tail=b1.map iC:=by rw[List.take_of_length_le (by simp),sF];rfl
  have Ui:K.dG.length-1=b1.length:=by omega
  rw[Uh,Ui];refine jn (aY:=⟨[oA,EX],[]⟩) (λi u t=>t.M 0=some ⟨fu K,true⟩/\u 1=bZ 0/\u 45=bE (b1.map iC) 7/\u 46=S b1.length/\u 47=S i) b1.length ?_ ?_ 0 _ _ (Nat.zero_le _) ⟨by simp(disch:=first|omega|(simp only[ae,ad,af];omega)) [fu,-al,-ar,-ai,-ao,-List.map_map],by simp,by simp,by simp,by simp⟩
  · rintro i u t aa ⟨a4,aH,Cr,yX,AO⟩ b9 a9;have H:b1[i]?=some b1[i]:=List.getElem?_eq_getElem aa;have N6:K.dG[i+1]?=some b1[i]:=(by rw[sF,List.getElem?_cons_succ];exact H);obtain⟨kP,dK,⟨q,bt,BK⟩,kt,kW,r5,fv⟩:=h.dG i _ N6;obtain⟨aV,lJ⟩:=Int.eq_ofNat_of_zero_le kP;rw[lJ]at bt dK;rw[Int.toNat_natCast]at bt;have UZ:=(List.getElem?_eq_some_iff.1 bt).1;have VL:K.dG[aV]=q:=by
      have:=List.getElem?_eq_getElem UZ;rw[bt]at this;exact(Option.some.inj this).symm
    have wY:(aV:Int)<K.dG.length:=(by omega);have ra:cU (aV:Int) 0 (i:Int)=true:=(by simp[cU];omega);have Oi:=yp.1 kt;have bo:IntKind.i64.wrap ((i:Int)+1)=(i:Int)+1:=ct (by omega) (by omega);have cS:IntKind.i64.wrap (b1[i].cR-1)=b1[i].cR-1:=ct (by omega) (by omega);have bK:(i:Int)<b1.length:=(by omega);have cY:=aT a4;have sX: ∀k,¬t.next+k=0:= λk=>by omega
    simp(disch:=first|omega|(simp only[ae,ad,af];omega)) [Y8,Q7,Q8,Q9,Ra,fu,iC,aH,Cr,yX,AO,a4,bK,bo,cS,lJ,wY,VL,BK,ra,kt,kW,fv,-al,-ar,-ai,-ao,-List.map_map];exact a9 _ _ ⟨by simp(disch:=first|omega|(simp only[ae,ad,af];omega)) [a4,fu,-al,-ar,-ai,-ao,-List.map_map],by simp[aH],by simp[Cr],by simp[yX],by simp⟩
  · rintro u t ⟨a4,aH,Cr,yX,AO⟩;simp[Y8,Q7,Q8,Q9,Ra,yX,AO,Ra,Q7,Q8,Q9]
noncomputable def abF(K:hC)(h:K.lF):c8 Tryz.prog:= .fJ 63 Unit (λ_=>True) (λ_=>[.agg (fu K).toArray]) (λ_=> .bool true) λ_ _=>aDJ h
@[simp] theorem aPd{K:hC}{h:K.lF}:(abF K h).f=63:=rfl
@[simp] theorem aPe{K:hC}{h:K.lF}:(abF K h).fn [.agg #[S K.ext,bE (K.ck.map j3) 4,bE (K.a5.map qq) 4,bE (K.dG.map iC) 7,bE (K.gq.map qp) 3,bE (K.cG.map mX) 17,bE (K.dH.map qs) 2]]=some (.bool true):=c8.gX (x:=()) trivial λ_ _=>rfl
noncomputable def abG(n:Nat)(ak:n<1000000):c8 Tryz.prog:= .fJ 64 oD (λx=>oD.lF x n) (λx=>[.agg (mX x).toArray,S n]) (λ_=> .bool true) λ_ h=>aDQ ak h
@[simp] theorem aPh{n:Nat}{ak:n<1000000}:(abG n ak).f=64:=rfl
@[simp] theorem aPi{n:Nat}{ak:n<1000000}{x:oD}(h:oD.lF x n):(abG n ak).fn [.agg #[cz x.name,S x.k,S x.m,S x.q,S x.aY.a,S x.aY.b,S x.aY.c,S x.aY.d,S x.aY.e,tl x.a5,fT x.hf,.bool x.hS.bV,e3 x.hS.a,e3 x.hS.b,.bool x.ez.bV,e3 x.ez.a,e3 x.ez.b],S n]=some (.bool true):=c8.gX (x:=x) h λy ah=>by obtain⟨jU,rC,zh,CR,⟨CS,Tf,Tg,Th,aRy⟩,aRq,aRr,⟨aRs,aRt,aRu⟩,⟨aRv,aRw,aRx⟩⟩:=y;obtain⟨cN,di,e2,hV,⟨uc,CQ,aom,aRo,aRp⟩,aoi,aoj,⟨aRl,aok,Te⟩,⟨aRm,aRn,aol⟩⟩:=x;simp[mX]at ah;obtain⟨z,D,Z,aw,aX,cC,gn,iP,ml,Jh,US,UT,UU,asP,asQ,asR,asS⟩:=ah;subst z;subst D;subst Z;subst aw;subst aX;subst cC;subst gn;subst iP;subst ml;subst Jh;subst US;subst UT;subst UU;subst asP;subst asQ;subst asR;subst asS;rfl
def qQ:List Nat:=[1,3,4,5,6,7,8]
theorem ry{u ag:aL}{d:Nat}(z:1≠d->ag 1=u 1)(Z:3≠d->ag 3=u 3)(aw:4≠d->ag 4=u 4)(aX:5≠d->ag 5=u 5)(cC:6≠d->ag 6=u 6)(gn:7≠d->ag 7=u 7)(iP:8≠d->ag 8=u 8): ∀k∈qQ,k≠d->ag k=u k:= λk W aR=>by
  simp only[qQ,List.mem_cons,List.not_mem_nil,or_false]at W;rcases W with rfl|rfl|rfl|rfl|rfl|rfl|rfl
  · exact z aR
  · exact Z aR
  · exact aw aR
  · exact aX aR
  · exact cC aR
  · exact gn aR
  · exact iP aR
theorem Hu{l:List ByteArray}:(fI l).length=l.length:=(sY (l:=l) rfl).2.2
theorem aDB{K:hC}(h:K.lF){cO:aL}{cd:B}{eN:Nat}{cD:List ByteArray}(m0:cD.length<=100)(q7:cd.M 0=some ⟨fu K,true⟩)(pc:cd.M eN=some ⟨fI cD,true⟩)(xA:eN≠0)(aH:cO 1=bZ 0)(vd:cO 3= .slice (some ⟨eN,0,none⟩) cD.length 1)(b3:cO 8= .bool true)
    (va:cO 67=bE (K.ck.map j3) 4) (vb:cO 68=S K.ck.length) (vc:cO 69=S 0) {Q:dr->aL->B->Prop}
    (bf: ∀u t o,(∀k∈qQ,k≠3->u k=cO k)->u 3= .slice (some ⟨o,0,none⟩) (cD.length+K.ck.length) 1->t.M o=some ⟨fI (cD++K.ck.map (·.name)),true⟩->(o=eN\/cd.next<=o)->cd.next<=t.next->(∀b,b<cd.next->b≠eN->t.M b=cd.M b)->Q (.bI 0) u t):hs Tryz.prog (.loop Px) cO cd Q:=by
  have xu:=aT q7;have Ar:=aT pc;have gH:K.ck.length<=40:=by have:=h.rm;omega
  refine jn (aY:=⟨[SN],[]⟩) (λi u t=> ∃o,(∀k∈qQ,k≠3->u k=cO k)/\u 3= .slice (some ⟨o,0,none⟩) (cD.length+i) 1/\t.M o=some ⟨fI (cD++(K.ck.take i).map (·.name)),true⟩/\(o=eN\/cd.next<=o)/\cd.next<=t.next/\(∀b,b<cd.next->b≠eN->t.M b=cd.M b)/\u 67=bE (K.ck.map j3) 4/\u 68=S K.ck.length/\u 69=S i) K.ck.length ?_ ?_ 0 cO cd (Nat.zero_le _) ⟨eN,λ_ _ _=>rfl,by simpa using vd,by simpa using pc,.inl rfl,Nat.le_refl _,λ_ _ _=>rfl,va,vb,vc⟩
  · rintro i u t aa ⟨o,fv,n7,ds,ez,hY,da,n5,mc,n6⟩ b9 a9;have H:K.ck[i]?=some K.ck[i]:=List.getElem?_eq_getElem aa;have bo:IntKind.i64.wrap ((i:Int)+1)=(i:Int)+1:=ct (by omega) (by omega);have bK:(i:Int)<K.ck.length:=(by omega);have mb:u 1=bZ 0:=(fv 1 (by decide) (by decide)).trans aH;have sn:u 8= .bool true:=(fv 8 (by decide) (by decide)).trans b3;have a4:t.M 0=some ⟨fu K,true⟩:=(by rw[da 0 xu (Ne.symm xA)];exact q7);have cY:=aT a4;have cZ:=aT ds;have ow:o≠0:=(by rcases ez with rfl|ca<;>omega);obtain⟨gU,ia⟩: ∃c,c=fI (cD++(K.ck.take i).map (·.name)):=⟨_,rfl⟩;rw[<-ia]at ds;have h9:gU.length=cD.length+i:=(by rw[ia,Hu,List.length_append,List.length_map,List.length_take];omega);have hB:gU.take (cD.length+i)=gU:=List.take_of_length_le (by omega);have fV:(cD.length+i+1)*16<=140737488355328/\cD.length+i<=9223372036854775806:=(by omega);have sM:gU++[cz K.ck[i].name]=fI (cD++(K.ck.take (i+1)).map (·.name)):=(by rw[kB H,List.map_append,<-List.append_assoc,List.map_cons,List.map_nil,Hv,ia]);have X:=h.ck _ (List.getElem_mem aa);have dk:=X.1;have dV:=X.2;simp(disch:=first|omega|(simp only[ae,ad,af,DI.ba];omega)) [Px,Xo,ahN,ahO,j3,sn,n7,n5,mc,n6,ds,bK,bo,h9,hB,fV,dV,-al,-ar,-ai,-ao,-List.map_map];refine a9 _ _ ⟨t.next+4+4,λk W aR=>Eq.trans (b:=u k) (ry (d:=3) ?_ ?_ ?_ ?_ ?_ ?_ ?_ k W aR) (fv k W aR),?_,?_,.inr (by omega),?_,λb L vG=> ?_,?_,?_,?_⟩
    all_goals first
      |(intro aR;first|(exact absurd rfl aR)|(simp[sn];done)|(simp;done))
      |(rw[<-sM];simp(disch:=first|omega|(simp only[ae,ad,af,DI.ba];omega)) [-al,-ar,-ai,-ao,-List.map_map];done)
      | (have c5:b≠o:=by rcases ez with rfl|ca<;>omega
         rw[<-da b L vG];simp(disch:=first|omega|(simp only[ae,ad,af,DI.ba];omega)) [-al,-ar,-ai,-ao,-List.map_map];done)
      |(simp(disch:=first|omega|(simp only[ae,ad,af,DI.ba];omega)) [-al,-ar,-ai,-ao,-List.map_map];done)
      |(simp(disch:=first|omega|(simp only[ae,ad,af,DI.ba];omega)) [n5,mc,-al,-ar,-ai,-ao,-List.map_map];done)
      |(simp(disch:=first|omega|(simp only[ae,ad,af,DI.ba];omega)) [-al,-ar,-ai,-ao,-List.map_map];omega)
      |(simp;omega)
  · rintro u t ⟨o,fv,n7,ds,ez,hY,da,n5,mc,n6⟩;rw[List.take_length]at ds;simp(disch:=first|omega|(simp only[ae,ad,af,DI.ba];omega)) [Px,Xo,mc,n6,-al,-ar,-ai,-ao,-List.map_map];refine bf _ _ o (λk W aR=>Eq.trans (b:=u k) (ry (d:=3) ?_ ?_ ?_ ?_ ?_ ?_ ?_ k W aR) (fv k W aR)) ?_ ds ez hY da
    all_goals first
      |(intro aR;simp;done)
      |(simp[n7];done)
theorem aDC{K:hC}(h:K.lF){cO:aL}{cd:B}{eN:Nat}{cD:List ByteArray}(m0:cD.length<=100)(q7:cd.M 0=some ⟨fu K,true⟩)(pc:cd.M eN=some ⟨fI cD,true⟩)(xA:eN≠0)(aH:cO 1=bZ 0)(vd:cO 4= .slice (some ⟨eN,0,none⟩) cD.length 1)(b3:cO 8= .bool true)
    (va:cO 85=bE (K.a5.map qq) 4) (vb:cO 86=S K.a5.length) (vc:cO 87=S 0) {Q:dr->aL->B->Prop}
    (bf: ∀u t o,(∀k∈qQ,k≠4->u k=cO k)->u 4= .slice (some ⟨o,0,none⟩) (cD.length+K.a5.length) 1->t.M o=some ⟨fI (cD++K.a5.map (·.name)),true⟩->(o=eN\/cd.next<=o)->cd.next<=t.next->(∀b,b<cd.next->b≠eN->t.M b=cd.M b)->Q (.bI 2) u t):hs Tryz.prog (.loop Py) cO cd Q:=by
  have xu:=aT q7;have Ar:=aT pc;have gH:K.a5.length<=40:=by have:=h.dS;omega
  refine jn (aY:=⟨[oA],[]⟩) (λi u t=> ∃o,(∀k∈qQ,k≠4->u k=cO k)/\u 4= .slice (some ⟨o,0,none⟩) (cD.length+i) 1/\t.M o=some ⟨fI (cD++(K.a5.take i).map (·.name)),true⟩/\(o=eN\/cd.next<=o)/\cd.next<=t.next/\(∀b,b<cd.next->b≠eN->t.M b=cd.M b)/\u 85=bE (K.a5.map qq) 4/\u 86=S K.a5.length/\u 87=S i) K.a5.length ?_ ?_ 0 cO cd (Nat.zero_le _) ⟨eN,λ_ _ _=>rfl,by simpa using vd,by simpa using pc,.inl rfl,Nat.le_refl _,λ_ _ _=>rfl,va,vb,vc⟩
  · rintro i u t aa ⟨o,fv,n7,ds,ez,hY,da,n5,mc,n6⟩ b9 a9;have H:K.a5[i]?=some K.a5[i]:=List.getElem?_eq_getElem aa;have bo:IntKind.i64.wrap ((i:Int)+1)=(i:Int)+1:=ct (by omega) (by omega);have bK:(i:Int)<K.a5.length:=(by omega);have mb:u 1=bZ 0:=(fv 1 (by decide) (by decide)).trans aH;have sn:u 8= .bool true:=(fv 8 (by decide) (by decide)).trans b3;have a4:t.M 0=some ⟨fu K,true⟩:=(by rw[da 0 xu (Ne.symm xA)];exact q7);have cY:=aT a4;have cZ:=aT ds;have ow:o≠0:=(by rcases ez with rfl|ca<;>omega);obtain⟨gU,ia⟩: ∃c,c=fI (cD++(K.a5.take i).map (·.name)):=⟨_,rfl⟩;rw[<-ia]at ds;have h9:gU.length=cD.length+i:=(by rw[ia,Hu,List.length_append,List.length_map,List.length_take];omega);have hB:gU.take (cD.length+i)=gU:=List.take_of_length_le (by omega);have fV:(cD.length+i+1)*16<=140737488355328/\cD.length+i<=9223372036854775806:=(by omega);have sM:gU++[cz K.a5[i].name]=fI (cD++(K.a5.take (i+1)).map (·.name)):=(by rw[kB H,List.map_append,<-List.append_assoc,List.map_cons,List.map_nil,Hv,ia]);obtain⟨dk,dV,ew,f4⟩:=h.a5 _ (List.getElem_mem aa);have MJ:IntKind.i64.wrap ((K.ck.length:Int)-1)=(K.ck.length:Int)-1:=ct (by omega) (by have:=h.rm;omega);have jo:cU K.a5[i].eV 0 ((K.ck.length:Int)-1)=true:=(by simp[cU];omega);simp(disch:=first|omega|(simp only[ae,ad,af,DI.ba];omega)) [Py,Xp,ahv,ahw,fu,qq,mb,sn,n7,n5,mc,n6,a4,ds,bK,bo,h9,hB,fV,dk,dV,jo,MJ,-al,-ar,-ai,-ao,-List.map_map];refine a9 _ _ ⟨t.next+4+4,λk W aR=>Eq.trans (b:=u k) (ry (d:=4) ?_ ?_ ?_ ?_ ?_ ?_ ?_ k W aR) (fv k W aR),?_,?_,.inr (by omega),?_,λb L vG=> ?_,?_,?_,?_⟩
    all_goals first
      |(intro aR;first|(exact absurd rfl aR)|(simp[sn];done)|(simp;done))
      |(rw[<-sM];simp(disch:=first|omega|(simp only[ae,ad,af,DI.ba];omega)) [-al,-ar,-ai,-ao,-List.map_map];done)
      | (have c5:b≠o:=by rcases ez with rfl|ca<;>omega
         rw[<-da b L vG];simp(disch:=first|omega|(simp only[ae,ad,af,DI.ba];omega)) [-al,-ar,-ai,-ao,-List.map_map];done)
      |(simp(disch:=first|omega|(simp only[ae,ad,af,DI.ba];omega)) [-al,-ar,-ai,-ao,-List.map_map];done)
      |(simp(disch:=first|omega|(simp only[ae,ad,af,DI.ba];omega)) [n5,mc,-al,-ar,-ai,-ao,-List.map_map];done)
      |(simp(disch:=first|omega|(simp only[ae,ad,af,DI.ba];omega)) [-al,-ar,-ai,-ao,-List.map_map];omega)
      |(simp;omega)
  · rintro u t ⟨o,fv,n7,ds,ez,hY,da,n5,mc,n6⟩;rw[List.take_length]at ds;simp(disch:=first|omega|(simp only[ae,ad,af,DI.ba];omega)) [Py,Xp,mc,n6,-al,-ar,-ai,-ao,-List.map_map];refine bf _ _ o (λk W aR=>Eq.trans (b:=u k) (ry (d:=4) ?_ ?_ ?_ ?_ ?_ ?_ ?_ k W aR) (fv k W aR)) ?_ ds ez hY da
    all_goals first
      |(intro aR;simp;done)
      |(simp[n7];done)
theorem aDD{K:hC}(h:K.lF){b1:List qX}(N7:b1.length<=40){cO:aL}{cd:B}{eN:Nat}{cD:List ByteArray}(m0:cD.length<=100)(q7:cd.M 0=some ⟨fu K,true⟩)(pc:cd.M eN=some ⟨fI cD,true⟩)(xA:eN≠0)(aH:cO 1=bZ 0)(vd:cO 5= .slice (some ⟨eN,0,none⟩) cD.length 1)(b3:cO 8= .bool true)
    (va:cO 119=bE (b1.map iC) 7) (vb:cO 120=S b1.length) (vc:cO 121=S 0) {Q:dr->aL->B->Prop}
    (bf: ∀u t o,(∀k∈qQ,k≠5->u k=cO k)->u 5= .slice (some ⟨o,0,none⟩) (cD.length+b1.length) 1->t.M o=some ⟨fI (cD++b1.map (·.name)),true⟩->(o=eN\/cd.next<=o)->cd.next<=t.next->(∀b,b<cd.next->b≠eN->t.M b=cd.M b)->Q (.bI 4) u t):hs Tryz.prog (.loop Pz) cO cd Q:=by
  have xu:=aT q7;have Ar:=aT pc;have gH:b1.length<=40:=N7;refine jn (aY:=⟨[],[]⟩) (λi u t=> ∃o,(∀k∈qQ,k≠5->u k=cO k)/\u 5= .slice (some ⟨o,0,none⟩) (cD.length+i) 1/\t.M o=some ⟨fI (cD++(b1.take i).map (·.name)),true⟩/\(o=eN\/cd.next<=o)/\cd.next<=t.next/\(∀b,b<cd.next->b≠eN->t.M b=cd.M b)/\u 119=bE (b1.map iC) 7/\u 120=S b1.length/\u 121=S i) b1.length ?_ ?_ 0 cO cd (Nat.zero_le _) ⟨eN,λ_ _ _=>rfl,by simpa using vd,by simpa using pc,.inl rfl,Nat.le_refl _,λ_ _ _=>rfl,va,vb,vc⟩
  · rintro i u t aa ⟨o,fv,n7,ds,ez,hY,da,n5,mc,n6⟩ b9 a9;have H:b1[i]?=some b1[i]:=List.getElem?_eq_getElem aa;have bo:IntKind.i64.wrap ((i:Int)+1)=(i:Int)+1:=ct (by omega) (by omega);have bK:(i:Int)<b1.length:=(by omega);have mb:u 1=bZ 0:=(fv 1 (by decide) (by decide)).trans aH;have sn:u 8= .bool true:=(fv 8 (by decide) (by decide)).trans b3;have a4:t.M 0=some ⟨fu K,true⟩:=(by rw[da 0 xu (Ne.symm xA)];exact q7);have cY:=aT a4;have cZ:=aT ds;have ow:o≠0:=(by rcases ez with rfl|ca<;>omega);obtain⟨gU,ia⟩: ∃c,c=fI (cD++(b1.take i).map (·.name)):=⟨_,rfl⟩;rw[<-ia]at ds;have h9:gU.length=cD.length+i:=(by rw[ia,Hu,List.length_append,List.length_map,List.length_take];omega);have hB:gU.take (cD.length+i)=gU:=List.take_of_length_le (by omega);have fV:(cD.length+i+1)*16<=140737488355328/\cD.length+i<=9223372036854775806:=(by omega);have sM:gU++[cz b1[i].name]=fI (cD++(b1.take (i+1)).map (·.name)):=(by rw[kB H,List.map_append,<-List.append_assoc,List.map_cons,List.map_nil,Hv,ia]);simp(disch:=first|omega|(simp only[ae,ad,af,DI.ba];omega)) [Pz,Xk,ahy,iC,n7,n5,mc,n6,ds,bK,bo,h9,hB,fV,-al,-ar,-ai,-ao,-List.map_map];refine a9 _ _ ⟨t.next+4+4,λk W aR=>Eq.trans (b:=u k) (ry (d:=5) ?_ ?_ ?_ ?_ ?_ ?_ ?_ k W aR) (fv k W aR),?_,?_,.inr (by omega),?_,λb L vG=> ?_,?_,?_,?_⟩
    all_goals first
      |(intro aR;first|(exact absurd rfl aR)|(simp[sn];done)|(simp;done))
      |(rw[<-sM];simp(disch:=first|omega|(simp only[ae,ad,af,DI.ba];omega)) [-al,-ar,-ai,-ao,-List.map_map];done)
      | (have c5:b≠o:=by rcases ez with rfl|ca<;>omega
         rw[<-da b L vG];simp(disch:=first|omega|(simp only[ae,ad,af,DI.ba];omega)) [-al,-ar,-ai,-ao,-List.map_map];done)
      |(simp(disch:=first|omega|(simp only[ae,ad,af,DI.ba];omega)) [-al,-ar,-ai,-ao,-List.map_map];done)
      |(simp(disch:=first|omega|(simp only[ae,ad,af,DI.ba];omega)) [n5,mc,-al,-ar,-ai,-ao,-List.map_map];done)
      |(simp(disch:=first|omega|(simp only[ae,ad,af,DI.ba];omega)) [-al,-ar,-ai,-ao,-List.map_map];omega)
      |(simp;omega)
  · rintro u t ⟨o,fv,n7,ds,ez,hY,da,n5,mc,n6⟩;rw[List.take_length]at ds;simp(disch:=first|omega|(simp only[ae,ad,af,DI.ba];omega)) [Pz,Xk,mc,n6,-al,-ar,-ai,-ao,-List.map_map];refine bf _ _ o (λk W aR=>Eq.trans (b:=u k) (ry (d:=5) ?_ ?_ ?_ ?_ ?_ ?_ ?_ k W aR) (fv k W aR)) ?_ ds ez hY da
    all_goals first
      |(intro aR;simp;done)
      |(simp[n7];done)
theorem aDE{K:hC}(h:K.lF){cO:aL}{cd:B}{eN:Nat}{cD:List ByteArray}(m0:cD.length<=100)(q7:cd.M 0=some ⟨fu K,true⟩)(pc:cd.M eN=some ⟨fI cD,true⟩)(xA:eN≠0)(aH:cO 1=bZ 0)(vd:cO 5= .slice (some ⟨eN,0,none⟩) cD.length 1)(b3:cO 8= .bool true)
    (va:cO 132=bE (K.gq.map qp) 3) (vb:cO 133=S K.gq.length) (vc:cO 134=S 0) {Q:dr->aL->B->Prop}
    (bf: ∀u t o,(∀k∈qQ,k≠5->u k=cO k)->u 5= .slice (some ⟨o,0,none⟩) (cD.length+K.gq.length) 1->t.M o=some ⟨fI (cD++K.gq.map (·.name)),true⟩->(o=eN\/cd.next<=o)->cd.next<=t.next->(∀b,b<cd.next->b≠eN->t.M b=cd.M b)->Q (.bI 6) u t):hs Tryz.prog (.loop PA) cO cd Q:=by
  have xu:=aT q7;have Ar:=aT pc;have gH:K.gq.length<=40:=by have:=h.sZ;omega
  refine jn (aY:=⟨[oA],[]⟩) (λi u t=> ∃o,(∀k∈qQ,k≠5->u k=cO k)/\u 5= .slice (some ⟨o,0,none⟩) (cD.length+i) 1/\t.M o=some ⟨fI (cD++(K.gq.take i).map (·.name)),true⟩/\(o=eN\/cd.next<=o)/\cd.next<=t.next/\(∀b,b<cd.next->b≠eN->t.M b=cd.M b)/\u 132=bE (K.gq.map qp) 3/\u 133=S K.gq.length/\u 134=S i) K.gq.length ?_ ?_ 0 cO cd (Nat.zero_le _) ⟨eN,λ_ _ _=>rfl,by simpa using vd,by simpa using pc,.inl rfl,Nat.le_refl _,λ_ _ _=>rfl,va,vb,vc⟩
  · rintro i u t aa ⟨o,fv,n7,ds,ez,hY,da,n5,mc,n6⟩ b9 a9;have H:K.gq[i]?=some K.gq[i]:=List.getElem?_eq_getElem aa;have bo:IntKind.i64.wrap ((i:Int)+1)=(i:Int)+1:=ct (by omega) (by omega);have bK:(i:Int)<K.gq.length:=(by omega);have mb:u 1=bZ 0:=(fv 1 (by decide) (by decide)).trans aH;have sn:u 8= .bool true:=(fv 8 (by decide) (by decide)).trans b3;have a4:t.M 0=some ⟨fu K,true⟩:=(by rw[da 0 xu (Ne.symm xA)];exact q7);have cY:=aT a4;have cZ:=aT ds;have ow:o≠0:=(by rcases ez with rfl|ca<;>omega);obtain⟨gU,ia⟩: ∃c,c=fI (cD++(K.gq.take i).map (·.name)):=⟨_,rfl⟩;rw[<-ia]at ds;have h9:gU.length=cD.length+i:=(by rw[ia,Hu,List.length_append,List.length_map,List.length_take];omega);have hB:gU.take (cD.length+i)=gU:=List.take_of_length_le (by omega);have fV:(cD.length+i+1)*16<=140737488355328/\cD.length+i<=9223372036854775806:=(by omega);have sM:gU++[cz K.gq[i].name]=fI (cD++(K.gq.take (i+1)).map (·.name)):=(by rw[kB H,List.map_append,<-List.append_assoc,List.map_cons,List.map_nil,Hv,ia]);obtain⟨dk,dV,ew,⟨q,f4,mB⟩⟩:=h.gq _ (List.getElem_mem aa);obtain⟨aV,lJ⟩:=Int.eq_ofNat_of_zero_le ew;rw[lJ,Int.toNat_natCast]at f4;have UZ:=(List.getElem?_eq_some_iff.1 f4).1;have VL:K.dG[aV]=q:=by
      have:=List.getElem?_eq_getElem UZ;rw[f4]at this;exact(Option.some.inj this).symm
    have wY:(aV:Int)<K.dG.length:=(by omega);have ss:IntKind.i64.wrap ((K.a5.length:Int)-1)=(K.a5.length:Int)-1:=ct (by omega) (by have:=h.dS;omega);have aDV:IntKind.i64.wrap ((K.dG.length:Int)-1)=(K.dG.length:Int)-1:=ct (by omega) (by have:=h.iX;omega);have nN:cU K.gq[i].model 0 ((K.a5.length:Int)-1)=true:=(by simp[cU];omega);have uq:cU (aV:Int) 0 ((K.dG.length:Int)-1)=true:=(by simp[cU];omega);simp(disch:=first|omega|(simp only[ae,ad,af,DI.ba];omega)) [PA,Xl,ahA,ahB,fu,qp,mb,sn,n7,n5,mc,n6,a4,ds,bK,bo,h9,hB,fV,lJ,wY,VL,mB,nN,uq,ss,aDV,iC,-al,-ar,-ai,-ao,-List.map_map];refine a9 _ _ ⟨t.next+4+4,λk W aR=>Eq.trans (b:=u k) (ry (d:=5) ?_ ?_ ?_ ?_ ?_ ?_ ?_ k W aR) (fv k W aR),?_,?_,.inr (by omega),?_,λb L vG=> ?_,?_,?_,?_⟩
    all_goals first
      |(intro aR;first|(exact absurd rfl aR)|(simp[sn];done)|(simp;done))
      |(rw[<-sM];simp(disch:=first|omega|(simp only[ae,ad,af,DI.ba];omega)) [-al,-ar,-ai,-ao,-List.map_map];done)
      | (have c5:b≠o:=by rcases ez with rfl|ca<;>omega
         rw[<-da b L vG];simp(disch:=first|omega|(simp only[ae,ad,af,DI.ba];omega)) [-al,-ar,-ai,-ao,-List.map_map];done)
      |(simp(disch:=first|omega|(simp only[ae,ad,af,DI.ba];omega)) [-al,-ar,-ai,-ao,-List.map_map];done)
      |(simp(disch:=first|omega|(simp only[ae,ad,af,DI.ba];omega)) [n5,mc,-al,-ar,-ai,-ao,-List.map_map];done)
      |(simp(disch:=first|omega|(simp only[ae,ad,af,DI.ba];omega)) [-al,-ar,-ai,-ao,-List.map_map];omega)
      |(simp;omega)
  · rintro u t ⟨o,fv,n7,ds,ez,hY,da,n5,mc,n6⟩;rw[List.take_length]at ds;simp(disch:=first|omega|(simp only[ae,ad,af,DI.ba];omega)) [PA,Xl,mc,n6,-al,-ar,-ai,-ao,-List.map_map];refine bf _ _ o (λk W aR=>Eq.trans (b:=u k) (ry (d:=5) ?_ ?_ ?_ ?_ ?_ ?_ ?_ k W aR) (fv k W aR)) ?_ ds ez hY da
    all_goals first
      |(intro aR;simp;done)
      |(simp[n7];done)
theorem aDF{K:hC}(h:K.lF){cO:aL}{cd:B}{eN:Nat}{cD:List ByteArray}(m0:cD.length<=100)(q7:cd.M 0=some ⟨fu K,true⟩)(pc:cd.M eN=some ⟨fI cD,true⟩)(xA:eN≠0)(aH:cO 1=bZ 0)(vd:cO 6= .slice (some ⟨eN,0,none⟩) cD.length 1)(b3:cO 8= .bool true)
    (va:cO 174=bE (K.cG.map mX) 17) (vb:cO 175=S K.cG.length) (vc:cO 176=S 0) {Q:dr->aL->B->Prop}
    (bf: ∀u t o,(∀k∈qQ,k≠6->u k=cO k)->u 6= .slice (some ⟨o,0,none⟩) (cD.length+K.cG.length) 1->t.M o=some ⟨fI (cD++K.cG.map (·.name)),true⟩->(o=eN\/cd.next<=o)->cd.next<=t.next->(∀b,b<cd.next->b≠eN->t.M b=cd.M b)->Q (.bI 8) u t):hs Tryz.prog (.loop PB) cO cd Q:=by
  have xu:=aT q7;have Ar:=aT pc;have gH:K.cG.length<=40:=by have:=h.p2;omega
  refine jn (aY:=⟨[abG K.a5.length (by have:=h.dS;omega)],[]⟩) (λi u t=> ∃o,(∀k∈qQ,k≠6->u k=cO k)/\u 6= .slice (some ⟨o,0,none⟩) (cD.length+i) 1/\t.M o=some ⟨fI (cD++(K.cG.take i).map (·.name)),true⟩/\(o=eN\/cd.next<=o)/\cd.next<=t.next/\(∀b,b<cd.next->b≠eN->t.M b=cd.M b)/\u 174=bE (K.cG.map mX) 17/\u 175=S K.cG.length/\u 176=S i) K.cG.length ?_ ?_ 0 cO cd (Nat.zero_le _) ⟨eN,λ_ _ _=>rfl,by simpa using vd,by simpa using pc,.inl rfl,Nat.le_refl _,λ_ _ _=>rfl,va,vb,vc⟩
  · rintro i u t aa ⟨o,fv,n7,ds,ez,hY,da,n5,mc,n6⟩ b9 a9;have H:K.cG[i]?=some K.cG[i]:=List.getElem?_eq_getElem aa;have bo:IntKind.i64.wrap ((i:Int)+1)=(i:Int)+1:=ct (by omega) (by omega);have bK:(i:Int)<K.cG.length:=(by omega);have mb:u 1=bZ 0:=(fv 1 (by decide) (by decide)).trans aH;have sn:u 8= .bool true:=(fv 8 (by decide) (by decide)).trans b3;have a4:t.M 0=some ⟨fu K,true⟩:=(by rw[da 0 xu (Ne.symm xA)];exact q7);have cY:=aT a4;have cZ:=aT ds;have ow:o≠0:=(by rcases ez with rfl|ca<;>omega);obtain⟨gU,ia⟩: ∃c,c=fI (cD++(K.cG.take i).map (·.name)):=⟨_,rfl⟩;rw[<-ia]at ds;have h9:gU.length=cD.length+i:=(by rw[ia,Hu,List.length_append,List.length_map,List.length_take];omega);have hB:gU.take (cD.length+i)=gU:=List.take_of_length_le (by omega);have fV:(cD.length+i+1)*16<=140737488355328/\cD.length+i<=9223372036854775806:=(by omega);have sM:gU++[cz K.cG[i].name]=fI (cD++(K.cG.take (i+1)).map (·.name)):=(by rw[kB H,List.map_append,<-List.append_assoc,List.map_cons,List.map_nil,Hv,ia]);have X:=h.cG _ (List.getElem_mem aa);simp(disch:=first|omega|(simp only[ae,ad,af,DI.ba];omega)) [PB,Xm,ahE,ahF,fu,mX,mb,sn,n7,n5,mc,n6,a4,ds,bK,bo,h9,hB,fV,-al,-ar,-ai,-ao,-List.map_map];refine a9 _ _ ⟨t.next+4+4,λk W aR=>Eq.trans (b:=u k) (ry (d:=6) ?_ ?_ ?_ ?_ ?_ ?_ ?_ k W aR) (fv k W aR),?_,?_,.inr (by omega),?_,λb L vG=> ?_,?_,?_,?_⟩
    all_goals first
      |(intro aR;first|(exact absurd rfl aR)|(simp[sn];done)|(simp;done))
      |(rw[<-sM];simp(disch:=first|omega|(simp only[ae,ad,af,DI.ba];omega)) [-al,-ar,-ai,-ao,-List.map_map];done)
      | (have c5:b≠o:=by rcases ez with rfl|ca<;>omega
         rw[<-da b L vG];simp(disch:=first|omega|(simp only[ae,ad,af,DI.ba];omega)) [-al,-ar,-ai,-ao,-List.map_map];done)
      |(simp(disch:=first|omega|(simp only[ae,ad,af,DI.ba];omega)) [-al,-ar,-ai,-ao,-List.map_map];done)
      |(simp(disch:=first|omega|(simp only[ae,ad,af,DI.ba];omega)) [n5,mc,-al,-ar,-ai,-ao,-List.map_map];done)
      |(simp(disch:=first|omega|(simp only[ae,ad,af,DI.ba];omega)) [-al,-ar,-ai,-ao,-List.map_map];omega)
      |(simp;omega)
  · rintro u t ⟨o,fv,n7,ds,ez,hY,da,n5,mc,n6⟩;rw[List.take_length]at ds;simp(disch:=first|omega|(simp only[ae,ad,af,DI.ba];omega)) [PB,Xm,mc,n6,-al,-ar,-ai,-ao,-List.map_map];refine bf _ _ o (λk W aR=>Eq.trans (b:=u k) (ry (d:=6) ?_ ?_ ?_ ?_ ?_ ?_ ?_ k W aR) (fv k W aR)) ?_ ds ez hY da
    all_goals first
      |(intro aR;simp;done)
      |(simp[n7];done)
theorem aDG{K:hC}(h:K.lF){cO:aL}{cd:B}{eN:Nat}{cD:List ByteArray}(m0:cD.length<=100)(q7:cd.M 0=some ⟨fu K,true⟩)(pc:cd.M eN=some ⟨fI cD,true⟩)(xA:eN≠0)(aH:cO 1=bZ 0)(vd:cO 7= .slice (some ⟨eN,0,none⟩) cD.length 1)(b3:cO 8= .bool true)
    (va:cO 195=bE (K.dH.map qs) 2) (vb:cO 196=S K.dH.length) (vc:cO 197=S 0) {Q:dr->aL->B->Prop}
    (bf: ∀u t o,(∀k∈qQ,k≠7->u k=cO k)->u 7= .slice (some ⟨o,0,none⟩) (cD.length+K.dH.length) 1->t.M o=some ⟨fI (cD++K.dH.map (·.name)),true⟩->(o=eN\/cd.next<=o)->cd.next<=t.next->(∀b,b<cd.next->b≠eN->t.M b=cd.M b)->Q (.bI 10) u t):hs Tryz.prog (.loop PC) cO cd Q:=by
  have xu:=aT q7;have Ar:=aT pc;have gH:K.dH.length<=40:=by have:=h.yL;omega
  refine jn (aY:=⟨[oA],[]⟩) (λi u t=> ∃o,(∀k∈qQ,k≠7->u k=cO k)/\u 7= .slice (some ⟨o,0,none⟩) (cD.length+i) 1/\t.M o=some ⟨fI (cD++(K.dH.take i).map (·.name)),true⟩/\(o=eN\/cd.next<=o)/\cd.next<=t.next/\(∀b,b<cd.next->b≠eN->t.M b=cd.M b)/\u 195=bE (K.dH.map qs) 2/\u 196=S K.dH.length/\u 197=S i) K.dH.length ?_ ?_ 0 cO cd (Nat.zero_le _) ⟨eN,λ_ _ _=>rfl,by simpa using vd,by simpa using pc,.inl rfl,Nat.le_refl _,λ_ _ _=>rfl,va,vb,vc⟩
  · rintro i u t aa ⟨o,fv,n7,ds,ez,hY,da,n5,mc,n6⟩ b9 a9;have H:K.dH[i]?=some K.dH[i]:=List.getElem?_eq_getElem aa;have bo:IntKind.i64.wrap ((i:Int)+1)=(i:Int)+1:=ct (by omega) (by omega);have bK:(i:Int)<K.dH.length:=(by omega);have mb:u 1=bZ 0:=(fv 1 (by decide) (by decide)).trans aH;have sn:u 8= .bool true:=(fv 8 (by decide) (by decide)).trans b3;have a4:t.M 0=some ⟨fu K,true⟩:=(by rw[da 0 xu (Ne.symm xA)];exact q7);have cY:=aT a4;have cZ:=aT ds;have ow:o≠0:=(by rcases ez with rfl|ca<;>omega);obtain⟨gU,ia⟩: ∃c,c=fI (cD++(K.dH.take i).map (·.name)):=⟨_,rfl⟩;rw[<-ia]at ds;have h9:gU.length=cD.length+i:=(by rw[ia,Hu,List.length_append,List.length_map,List.length_take];omega);have hB:gU.take (cD.length+i)=gU:=List.take_of_length_le (by omega);have fV:(cD.length+i+1)*16<=140737488355328/\cD.length+i<=9223372036854775806:=(by omega);have sM:gU++[cz K.dH[i].name]=fI (cD++(K.dH.take (i+1)).map (·.name)):=(by rw[kB H,List.map_append,<-List.append_assoc,List.map_cons,List.map_nil,Hv,ia]);obtain⟨dk,dV⟩:=h.dH _ (List.getElem_mem aa);have wp:IntKind.i64.wrap ((K.cG.length:Int)-1)=(K.cG.length:Int)-1:=ct (by omega) (by have:=h.p2;omega);have jo:cU K.dH[i].qO 0 ((K.cG.length:Int)-1)=true:=(by simp[cU];omega);simp(disch:=first|omega|(simp only[ae,ad,af,DI.ba];omega)) [PC,Xn,ahH,ahI,fu,qs,mb,sn,n7,n5,mc,n6,a4,ds,bK,bo,h9,hB,fV,jo,wp,-al,-ar,-ai,-ao,-List.map_map];refine a9 _ _ ⟨t.next+4+4,λk W aR=>Eq.trans (b:=u k) (ry (d:=7) ?_ ?_ ?_ ?_ ?_ ?_ ?_ k W aR) (fv k W aR),?_,?_,.inr (by omega),?_,λb L vG=> ?_,?_,?_,?_⟩
    all_goals first
      |(intro aR;first|(exact absurd rfl aR)|(simp[sn];done)|(simp;done))
      |(rw[<-sM];simp(disch:=first|omega|(simp only[ae,ad,af,DI.ba];omega)) [-al,-ar,-ai,-ao,-List.map_map];done)
      | (have c5:b≠o:=by rcases ez with rfl|ca<;>omega
         rw[<-da b L vG];simp(disch:=first|omega|(simp only[ae,ad,af,DI.ba];omega)) [-al,-ar,-ai,-ao,-List.map_map];done)
      |(simp(disch:=first|omega|(simp only[ae,ad,af,DI.ba];omega)) [-al,-ar,-ai,-ao,-List.map_map];done)
      |(simp(disch:=first|omega|(simp only[ae,ad,af,DI.ba];omega)) [n5,mc,-al,-ar,-ai,-ao,-List.map_map];done)
      |(simp(disch:=first|omega|(simp only[ae,ad,af,DI.ba];omega)) [-al,-ar,-ai,-ao,-List.map_map];omega)
      |(simp;omega)
  · rintro u t ⟨o,fv,n7,ds,ez,hY,da,n5,mc,n6⟩;rw[List.take_length]at ds;simp(disch:=first|omega|(simp only[ae,ad,af,DI.ba];omega)) [PC,Xn,mc,n6,-al,-ar,-ai,-ao,-List.map_map];refine bf _ _ o (λk W aR=>Eq.trans (b:=u k) (ry (d:=7) ?_ ?_ ?_ ?_ ?_ ?_ ?_ k W aR) (fv k W aR)) ?_ ds ez hY da
    all_goals first
      |(intro aR;simp;done)
      |(simp[n7];done)
structure vo(K:hC)(aQ:Nat->Nat)(eY:Nat->List ByteArray)(u:aL)(t:B):Prop where
  aH:u 1=bZ 0
  b3:u 8= .bool true
  a4:t.M 0=some ⟨fu K,true⟩
  rv: ∀k,3<=k->k<=7->u k= .slice (some ⟨aQ k,0,none⟩) (eY k).length 1
  g: ∀k,3<=k->k<=7->t.M (aQ k)=some ⟨fI (eY k),true⟩
  inj: ∀i j,3<=i->i<=7->3<=j->j<=7->aQ i=aQ j->i=j
  yM: ∀k,3<=k->k<=7->aQ k≠0
theorem vo.rM{K:hC}{aQ:Nat->Nat}{eY:Nat->List ByteArray}{u ag:aL}{t:B}(h:vo K aQ eY u t)(J: ∀k∈qQ,k≠0->ag k=u k):vo K aQ eY ag t:=
  ⟨(J 1 (by decide) (by decide)).trans h.aH,(J 8 (by decide) (by decide)).trans h.b3,h.a4,λk z D=>by have:k=3\/k=4\/k=5\/k=6\/k=7:=(by omega);have aK:k∈qQ:=(by rcases this with rfl|rfl|rfl|rfl|rfl<;>decide);exact(J k aK (by omega)).trans (h.rv k z D),h.g,h.inj,h.yM⟩
theorem vo.step{K:hC}{aQ:Nat->Nat}{eY:Nat->List ByteArray}{cO u:aL}{cd t:B}(h:vo K aQ eY cO cd)(d:Nat)(Z:3<=d)(gn:d<=7){o:Nat}{AB:List ByteArray}{n:Nat}(ak:AB.length=n)
    (fv: ∀k∈qQ,k≠d->u k=cO k) (vd:u d= .slice (some ⟨o,0,none⟩) ((eY d).length+n) 1) (ds:t.M o=some ⟨fI (eY d++AB),true⟩) (ez:o=aQ d\/cd.next<=o) (hY:cd.next<=t.next) (da: ∀b,b<cd.next->b≠aQ d->t.M b=cd.M b):
    vo K (c9 aQ d o) (c9 eY d (eY d++AB)) u t:=by
  have cW: ∀k,3<=k->k<=7->aQ k<cd.next:= λk a b=>aT (h.g k a b)
  have cY:=aT h.a4;refine⟨(fv 1 (by decide) (by omega)).trans h.aH,(fv 8 (by decide) (by omega)).trans h.b3,?_,λk a b=> ?_,λk a b=> ?_,λi j a b c e aU=> ?_,λk a b=> ?_⟩
  · rw[da 0 cY (Ne.symm (h.yM d Z gn))];exact h.a4
  · by_cases e:k=d
    · subst e;rw[AW,AW,vd,List.length_append,ak]
    · rw[s9 e,s9 e];have:k=3\/k=4\/k=5\/k=6\/k=7:=(by omega);have aK:k∈qQ:=(by rcases this with rfl|rfl|rfl|rfl|rfl<;>decide);exact(fv k aK e).trans (h.rv k a b)
  · by_cases e:k=d
    · subst e;rw[AW,AW];exact ds
    · rw[s9 e,s9 e,da _ (cW k a b) (λaU=>e (h.inj k d a b Z gn aU))];exact h.g k a b
  · by_cases aM:i=d
    · by_cases a1:j=d
      · omega
      · rw[aM,AW,s9 a1]at aU;rcases ez with ca|ca
        · rw[ca]at aU;have:=h.inj d j Z gn c e aU;omega
        · have:=cW j c e;omega
    · by_cases a1:j=d
      · rw[a1,AW,s9 aM]at aU;rcases ez with ca|ca
        · rw[ca]at aU;have:=h.inj i d a b Z gn aU;omega
        · have:=cW i a b;omega
      · rw[s9 aM,s9 a1]at aU;exact h.inj i j a b c e aU
  · by_cases e:k=d
    · subst e;rw[AW];rcases ez with ca|ca
      · rw[ca];exact h.yM k a b
      · omega
    · rw[s9 e];exact h.yM k a b
theorem aD8{K:hC}{c:U}{u:aL}{t:B}{Q:dr->aL->B->Prop}(aH:u 1=bZ 0)(b3:u 8= .bool true)(bd:u 3= .slice none 0 0)(bL:u 4= .slice none 0 0)(cv:u 5= .slice none 0 0)(db:u 6= .slice none 0 0)(cP:u 7= .slice none 0 0)
    (a4:t.M 0=some ⟨fu K,true⟩) (h: ∀ag aN aQ,vo K aQ (λ_=>[]) ag aN->ag 67=u 67->ag 68=u 68->ag 69=u 69->hs Tryz.prog c ag aN Q):hs Tryz.prog c u t Q:=by
  have cY:=aT a4;obtain⟨bq,kO⟩: ∃bq,t.next=bq:=⟨_,rfl⟩
  refine zf 3 1 bd λxI Ho fp ni=> ?_;refine zf 4 1 (by simpa using bL) λE3 alu gp oR=> ?_;refine zf 5 1 (by simpa using cv) λMC alv hW Ev=> ?_;refine zf 6 1 (by simpa using db) λMD azK gD Al=> ?_;refine zf 7 1 (by simpa using cP) λy7 azJ hd LH=> ?_;have C8:xI.next=bq+1:=by omega
  have Im:E3.next=bq+2:=by omega
  have Io:MC.next=bq+3:=by omega
  have Ip:MD.next=bq+4:=by omega
  rw[kO]at fp;rw[C8]at gp;rw[Im]at hW;rw[Io]at gD;rw[Ip]at hd;rw[kO,C8,Im,Io,Ip];refine h _ _ (λk=>bq+(k-3)) ⟨by simpa using aH,by simpa using b3,?_,λk a b=> ?_,λk a b=> ?_,λi j a b c d e=>by omega,λk a b=>by omega⟩ (by simp) (by simp) (by simp)
  · rw[LH 0 (by omega),Al 0 (by omega),Ev 0 (by omega),oR 0 (by omega),ni 0 (by omega)];exact a4
  · have:k=3\/k=4\/k=5\/k=6\/k=7:=(by omega);rcases this with rfl|rfl|rfl|rfl|rfl<;>simp
  · have:k=3\/k=4\/k=5\/k=6\/k=7:=(by omega);rcases this with rfl|rfl|rfl|rfl|rfl
    · show y7.M bq=_;rw[LH bq (by omega),Al bq (by omega),Ev bq (by omega),oR bq (by omega)];exact fp
    · show y7.M (bq+1)=_;rw[LH _ (by omega),Al _ (by omega),Ev _ (by omega)];exact gp
    · show y7.M (bq+2)=_;rw[LH _ (by omega),Al _ (by omega)];exact hW
    · show y7.M (bq+3)=_;rw[LH _ (by omega)];exact gD
    · exact hd
theorem anW{K:hC}(h:K.lF):eg Tryz.prog 14 [.agg (fu K).toArray] (S 0):=by
  refine iA (g0 (aY:=⟨[oA,abF K h,abD],[]⟩) ahu (by kernel_rfl) (by simp[KE]) ?_);have z:=h.ext;have cB: ¬(4:Int)<K.ck.length:=by have:=h.rm;omega
  have eQ: ¬(4:Int)<K.a5.length:=by have:=h.dS;omega
  have ht: ¬(40:Int)<K.dG.length:=by have:=h.iX;omega
  have ho: ¬(24:Int)<K.gq.length:=by have:=h.sZ;omega
  have ly: ¬(4:Int)<K.cG.length:=by have:=h.p2;omega
  have Ba: ¬(12:Int)<K.dH.length:=by have:=h.yL;omega
  obtain⟨b1,sF⟩:=h.wL;have N7:b1.length<=40:=by have:=h.iX;rw[sF]at this;simp at this;omega
  simp(disch:=first|omega|(simp only[ae,ad,af,DI.ba];omega)) [KE,Xi,Xj,ahD,ahL,ahM,fu,z,cB,eQ,ht,ho,ly,Ba,-al,-ar,-ai,-ao,-List.map_map];refine aD8 (K:=K) (by simp) (by simp) (by simp) (by simp) (by simp) (by simp) (by simp) (by simp(disch:=first|omega|(simp only[ae,ad,af,DI.ba];omega)) [fu,-al,-ar,-ai,-ao,-List.map_map]) λu t aQ aq va vb vc=> ?_;refine aDB h (cD:=[]) (by simp) aq.a4 (aq.g 3 (by decide) (by decide)) (aq.yM 3 (by decide) (by decide)) aq.aH (aq.rv 3 (by decide) (by decide)) aq.b3 (by rw[va];simp) (by rw[vb];simp) (by rw[vc];simp) λc7 ec b5 bm bU cn fa fZ ij=> ?_;have aq:=aq.step 3 (by decide) (by decide) (AB:=K.ck.map (·.name)) (by simp) bm bU cn fa fZ ij;simp(disch:=first|omega|(simp only[ae,ad,af,DI.ba];omega)) [ahP,fu,aq.aH,aq.a4,-al,-ar,-ai,-ao,-List.map_map];refine aDC h (cD:=_) (by simp[c9]) aq.a4 (aq.g 4 (by decide) (by decide)) (aq.yM 4 (by decide) (by decide)) (by simp[aq.aH]) (by simp[aq.rv 4 (by decide) (by decide)]) (by simp[aq.b3]) (by simp) (by simp) (by simp) λfb iG dC bm bU cn fa fZ ij=> ?_;have aq:=vo.step (aq.rM (ry (d:=0) (λ_=>by simp) (λ_=>by simp) (λ_=>by simp) (λ_=>by simp) (λ_=>by simp) (λ_=>by simp) (λ_=>by simp))) 4 (by decide) (by decide) (AB:=K.a5.map (·.name)) (by simp) bm bU cn fa fZ ij;have Uh:(List.take K.dG.length (K.dG.map iC)).tail=b1.map iC:=by rw[List.take_of_length_le (by simp),sF];rfl
  have Ui:K.dG.length-1=b1.length:=by rw[sF];rfl
  have atO:1<=K.dG.length:=by rw[sF];simp
  have Vr:(1:Int)<=K.dG.length:=by omega
  simp(disch:=first|omega|(simp only[ae,ad,af,DI.ba];omega)) [ahx,fu,aq.aH,aq.a4,Vr,-al,-ar,-ai,-ao,-List.map_map];rw[Uh,Ui];refine aDD h N7 (cD:=_) (by simp[c9]) aq.a4 (aq.g 5 (by decide) (by decide)) (aq.yM 5 (by decide) (by decide)) (by simp[aq.aH]) (by simp[aq.rv 5 (by decide) (by decide)]) (by simp[aq.b3]) (by simp) (by simp) (by simp) λzi vh fs bm bU cn fa fZ ij=> ?_;have aq:=vo.step (aq.rM (ry (d:=0) (λ_=>by simp) (λ_=>by simp) (λ_=>by simp) (λ_=>by simp) (λ_=>by simp) (λ_=>by simp) (λ_=>by simp))) 5 (by decide) (by decide) (AB:=b1.map (·.name)) (by simp) bm bU cn fa fZ ij;simp(disch:=first|omega|(simp only[ae,ad,af,DI.ba];omega)) [ahz,fu,aq.aH,aq.a4,-al,-ar,-ai,-ao,-List.map_map];refine aDE h (cD:=_) (by simp[c9]<;>omega) aq.a4 (aq.g 5 (by decide) (by decide)) (aq.yM 5 (by decide) (by decide)) (by simp[aq.aH]) (by simp[aq.rv 5 (by decide) (by decide)]) (by simp[aq.b3]) (by simp) (by simp) (by simp) λaRA AT g3 bm bU cn fa fZ ij=> ?_;have aq:=vo.step (aq.rM (ry (d:=0) (λ_=>by simp) (λ_=>by simp) (λ_=>by simp) (λ_=>by simp) (λ_=>by simp) (λ_=>by simp) (λ_=>by simp))) 5 (by decide) (by decide) (AB:=K.gq.map (·.name)) (by simp) bm bU cn fa fZ ij;simp(disch:=first|omega|(simp only[ae,ad,af,DI.ba];omega)) [ahC,fu,aq.aH,aq.a4,-al,-ar,-ai,-ao,-List.map_map];refine aDF h (cD:=_) (by simp[c9]) aq.a4 (aq.g 6 (by decide) (by decide)) (aq.yM 6 (by decide) (by decide)) (by simp[aq.aH]) (by simp[aq.rv 6 (by decide) (by decide)]) (by simp[aq.b3]) (by simp) (by simp) (by simp) λaRB qT gK bm bU cn fa fZ ij=> ?_;have aq:=vo.step (aq.rM (ry (d:=0) (λ_=>by simp) (λ_=>by simp) (λ_=>by simp) (λ_=>by simp) (λ_=>by simp) (λ_=>by simp) (λ_=>by simp))) 6 (by decide) (by decide) (AB:=K.cG.map (·.name)) (by simp) bm bU cn fa fZ ij;simp(disch:=first|omega|(simp only[ae,ad,af,DI.ba];omega)) [ahG,fu,aq.aH,aq.a4,-al,-ar,-ai,-ao,-List.map_map];refine aDG h (cD:=_) (by simp[c9]) aq.a4 (aq.g 7 (by decide) (by decide)) (aq.yM 7 (by decide) (by decide)) (by simp[aq.aH]) (by simp[aq.rv 7 (by decide) (by decide)]) (by simp[aq.b3]) (by simp) (by simp) (by simp) λFg xI ig bm bU cn fa fZ ij=> ?_;have aq:=vo.step (aq.rM (ry (d:=0) (λ_=>by simp) (λ_=>by simp) (λ_=>by simp) (λ_=>by simp) (λ_=>by simp) (λ_=>by simp) (λ_=>by simp))) 7 (by decide) (by decide) (AB:=K.dH.map (·.name)) (by simp) bm bU cn fa fZ ij;have OD:tR (b1.map (·.name)++K.gq.map (·.name)):=by have:=h.nv;rw[sF]at this;exact this
  obtain⟨gk,Fi,gI,bS,cI⟩: ∃o br,Fg 3= .slice (some ⟨o,0,none⟩) br.length 1/\xI.M o=some ⟨fI br,true⟩/\br=K.ck.map (·.name):=⟨_,_,aq.rv 3 (by decide) (by decide),aq.g 3 (by decide) (by decide),by simp[c9]⟩;have o1:Fi.length<1000000/\(∀s∈Fi,gP s=true)/\Fi.Nodup:=by rw[cI];exact⟨by have:=h.rm;simp<;>omega,h.nu.1,h.nu.2⟩
  obtain⟨ad4,ad5,ad6⟩:=sY (l:=Fi) (n:=Fi.length) rfl;obtain⟨aHg,N3⟩: ∃c,c=fI Fi:=⟨_,rfl⟩;rw[<-N3]at bS ad4 ad5 ad6;clear cI;obtain⟨hN,Fj,h0,fA,fe⟩: ∃o br,Fg 4= .slice (some ⟨o,0,none⟩) br.length 1/\xI.M o=some ⟨fI br,true⟩/\br=K.a5.map (·.name):=⟨_,_,aq.rv 4 (by decide) (by decide),aq.g 4 (by decide) (by decide),by simp[c9]⟩;have qU:Fj.length<1000000/\(∀s∈Fj,gP s=true)/\Fj.Nodup:=by rw[fe];exact⟨by have:=h.dS;simp<;>omega,h.zb.1,h.zb.2⟩
  obtain⟨ad7,ad8,ad9⟩:=sY (l:=Fj) (n:=Fj.length) rfl;obtain⟨aHh,pN⟩: ∃c,c=fI Fj:=⟨_,rfl⟩;rw[<-pN]at fA ad7 ad8 ad9;clear fe;obtain⟨mK,Fk,g2,kp,mi⟩: ∃o br,Fg 5= .slice (some ⟨o,0,none⟩) br.length 1/\xI.M o=some ⟨fI br,true⟩/\br=b1.map (·.name)++K.gq.map (·.name):=⟨_,_,aq.rv 5 (by decide) (by decide),aq.g 5 (by decide) (by decide),by simp[c9]⟩;have za:Fk.length<1000000/\(∀s∈Fk,gP s=true)/\Fk.Nodup:=by rw[mi];exact⟨by have:=h.sZ;simp<;>omega,OD.1,OD.2⟩
  obtain⟨aea,aeb,aec⟩:=sY (l:=Fk) (n:=Fk.length) rfl;obtain⟨aHi,ati⟩: ∃c,c=fI Fk:=⟨_,rfl⟩;rw[<-ati]at kp aea aeb aec;clear mi;obtain⟨tU,Fl,ie,oh,og⟩: ∃o br,Fg 6= .slice (some ⟨o,0,none⟩) br.length 1/\xI.M o=some ⟨fI br,true⟩/\br=K.cG.map (·.name):=⟨_,_,aq.rv 6 (by decide) (by decide),aq.g 6 (by decide) (by decide),by simp[c9]⟩;have AU:Fl.length<1000000/\(∀s∈Fl,gP s=true)/\Fl.Nodup:=by rw[og];exact⟨by have:=h.p2;simp<;>omega,h.gQ.1,h.gQ.2⟩
  obtain⟨aed,aee,aef⟩:=sY (l:=Fl) (n:=Fl.length) rfl;obtain⟨aHj,atj⟩: ∃c,c=fI Fl:=⟨_,rfl⟩;rw[<-atj]at oh aed aee aef;clear og;obtain⟨yP,Fm,nF,zL,tk⟩: ∃o br,Fg 7= .slice (some ⟨o,0,none⟩) br.length 1/\xI.M o=some ⟨fI br,true⟩/\br=K.dH.map (·.name):=⟨_,_,aq.rv 7 (by decide) (by decide),aq.g 7 (by decide) (by decide),by simp[c9]⟩;have S6:Fm.length<1000000/\(∀s∈Fm,gP s=true)/\Fm.Nodup:=by rw[tk];exact⟨by have:=h.yL;simp<;>omega,h.zc.1,h.zc.2⟩
  obtain⟨aeg,aeh,aei⟩:=sY (l:=Fm) (n:=Fm.length) rfl;obtain⟨aHk,atk⟩: ∃c,c=fI Fm:=⟨_,rfl⟩;rw[<-atk]at zL aeg aeh aei;clear tk;simp(disch:=first|omega|(simp only[ae,ad,af,DI.ba];omega)) [ahJ,ahK,aq.b3,gI,bS,ad4,ad5,ad6,h0,fA,ad7,ad8,ad9,g2,kp,aea,aeb,aec,ie,oh,aed,aee,aef,nF,zL,aeg,aeh,aei,jq,jw,-al,-ar,-ai,-ao,-List.map_map]
end Go.Proofs.YtkpifdkccdndcaaGreat
namespace Go.Proofs.YtkpifdkccdndcaaGreat
open Go Go.DI
def ajc:U:= .E (.block 1 (.I [A 0 49 3,aP 1 50 1 1,aS 2 51 50,A 3 52 4,cL 4 53 6 51 52,aP 5 54 0 53,aP 6 55 1 54,aS 7 56 55,aP 10 59 1 1,aS 11 60 59,A 12 61 4,cL 13 62 6 60 61,aP 14 63 0 62,aP 15 64 3 63,aS 16 65 64,aP 19 68 1 1,aS 20 69 68,A 21 70 4,cL 22 71 6 69 70,aP 23 72 0 71,aP 24 73 2 72,aS 25 74 73,lp 8 57 (.eI 6 [F 56]) [(F 73,F 73),(F 68,F 68),(F 64,F 64),(F 59,F 59)],ji 9 58 49 57,lp 17 66 (.eI 6 [F 65]) [(F 73,F 73),(F 68,F 68)],ji 18 67 58 66,cj 26 75 7 [F 74],ji 27 76 67 75,A 28 3 76])) (.I [A 0 47 4,eB 1 48 47,A 2 4 48])
def QR:U:= .E (.E (.I [A 0 42 4,aP 1 43 1 1,aS 2 44 43,cu 3 45 44,eX 4 46 42 45]) (.bj (F 46) (.skip) (.bI 0))) ajc
def aje:U:= .E (.block 3 (.I [A 0 84 3,aP 1 85 3 1,aS 2 86 85,A 3 87 5,cL 4 88 9 86 87,aP 5 89 3 88,c3 6 90 3 89,LD 7 91 90,cj 8 92 6 [F 91],ji 9 93 84 92,A 10 3 93])) (.I [A 0 82 5,eB 1 83 82,A 2 5 83])
def QS:U:= .E (.E (.I [A 0 77 5,aP 1 78 3 1,aS 2 79 78,cu 3 80 79,eX 4 81 77 80]) (.bj (F 81) (.skip) (.bI 2))) aje
def ajg:U:= .E (.block 5 (.I [A 0 101 3,aP 1 102 4 1,aS 2 103 102,A 3 104 6,cL 4 105 19 103 104,aP 5 106 10 105,aS 6 107 106,aP 9 110 4 1,aS 10 111 110,A 11 112 6,cL 12 113 19 111 112,aP 13 114 11 113,c3 14 115 3 114,aP 15 116 4 1,aS 16 117 116,A 17 118 6,cL 18 119 19 117 118,aP 19 120 14 119,c3 20 121 3 120,aP 24 125 4 1,aS 25 126 125,A 26 127 6,cL 27 128 19 126 127,aP 28 129 9 128,aS 29 130 129,cu 30 131 130,lp 7 108 (.eI 6 [F 107]) [(F 129,F 129),(F 125,F 125),(F 120,F 120),(F 116,F 116),(F 114,F 114),(F 110,F 110)],ji 8 109 101 108,bP 21 122 (.iT 3 2 [.bool false,.slice none 0 0,.slice none 0 0,.bool false,.slice none 0 0,.slice none 0 0] [(0,3,F 115),(3,3,F 121)]),lp 22 123 (.eI 6 [F 122]) [(F 129,F 129),(F 125,F 125)],ji 23 124 109 123,ji 31 132 124 131,A 32 3 132])) (.I [A 0 99 6,eB 1 100 99,A 2 6 100])
def QT:U:= .E (.E (.I [A 0 94 6,aP 1 95 4 1,aS 2 96 95,cu 3 97 96,eX 4 98 94 97]) (.bj (F 98) (.skip) (.bI 4))) ajg
def YQ:U:= .E (.I [A 0 162 8,xq 1 163 162,A 2 164 163,kx 3 165 164 7 7,ky 4 166 164 14 165,dz 5 167 164 false (.gz .eql .hM (F 166) (.const (.int .i64 0))),dL 6 168 164 167,A 7 169 168,dz 8 170 169 true (.eI 8 []),e7 9 171 169 170,A 10 2 171]) (.a7)
def YP:U:= .E (.E (.I [A 0 148 8,A 1 149 11,eA 2 150 .neq (F 148) (F 149),A 3 151 150,kx 4 152 151 2 9,kx 5 153 151 2 12,dz 6 154 151 false (.rQ true [.int,.int] (F 152) (F 153)),dL 7 155 151 154,A 8 156 155,kx 9 157 156 7 7,kx 10 158 156 7 10,uS 11 159 156 13 157 158,jR 12 160 156 159,dL 13 161 156 160]) (.bj (F 161) (.E (.I [dE 0 2 false]) (.a7)) (.skip))) YQ
def YO:U:= .E (.I [c3 0 143 6 1,cj 1 144 12 [F 143],A 2 142 144,dD 3 145 0 142,dD 4 146 1 142,dD 5 147 2 142,bP 6 10 (.eR [.int .i64 0,.slice none 0 0,.slice none 0 0,.slice none 0 0,.slice none 0 0,.slice none 0 0,.slice none 0 0]),bP 7 12 (.eR [.int .i64 0,.int .i64 0]),cV 8 7 10 145,A 9 11 146,cV 10 2 12 147]) YP
def YN:U:= .E (.I [c3 0 137 6 1,cj 1 138 11 [F 137],A 2 136 138,dD 3 139 0 136,dD 4 140 1 136,dD 5 141 2 136,bP 6 7 (.eR [.int .i64 0,.slice none 0 0,.slice none 0 0,.slice none 0 0,.slice none 0 0,.slice none 0 0,.slice none 0 0]),bP 7 9 (.eR [.int .i64 0,.int .i64 0]),cV 8 7 7 139,A 9 8 140,cV 10 2 9 141]) YO
def QQ:U:= .E (.E (.I [A 0 133 3,qH 1 134 133 600]) (.bj (F 134) (.E (.I [cj 0 135 8 [],A 1 2 135]) (.a7)) (.skip))) YN
def ajf:U:= .E (.E (.I [bQ 0 6 0]) (.block 4 (.loop QT))) QQ
def ajd:U:= .E (.E (.I [bQ 0 5 0]) (.block 2 (.loop QS))) ajf
def ajb:U:= .E (.E (.I [bQ 0 4 0]) (.block 0 (.loop QR))) ajd
def aja:U:= .E (.I [bQ 0 3 0]) ajb
def Em:U:= .E (.E (.I [aP 0 13 1 1,aS 1 14 13,cu 2 15 14,qH 3 16 15 10,A 4 17 16,eG 5 18 17 2 1,e8 6 19 17 18,lB 7 20 17 19,oQ 8 21 17 20 10,dL 9 22 17 21,A 10 23 22,eG 11 24 23 3 1,e8 12 25 23 24,lB 13 26 23 25,oQ 14 27 23 26 80,dL 15 28 23 27,A 16 29 28,eG 17 30 29 4 1,e8 18 31 29 30,lB 19 32 29 31,oQ 20 33 29 32 10,dL 21 34 29 33,A 22 35 34,eG 23 36 35 5 1,e8 24 37 35 36,lB 25 38 35 37,oQ 26 39 35 38 20,dL 27 40 35 39]) (.bj (F 40) (.E (.I [cj 0 41 8 [],A 1 2 41]) (.a7)) (.skip))) aja
def El:U:=
  .E (
  .I [
 hi 0 1 0,
 dE 1 2 false]) Em
def uQ:dn:=⟨172,[.bA 2],El⟩
theorem GY:dj Tryz.prog 4=some uQ:=by kernel_rfl
def Rl:U:= .E (.block 1 (.I [A 0 17 3,A 1 18 0,A 2 19 4,cL 3 20 3 18 19,aP 4 21 1 20,aS 5 22 21,cu 6 23 22,ji 7 24 17 23,A 8 25 0,A 9 26 4,cL 10 27 3 25 26,aP 11 28 2 27,aS 12 29 28,cu 13 30 29,ji 14 31 24 30,A 15 3 31])) (.I [A 0 15 4,eB 1 16 15,A 2 4 16])
def Lo:U:= .E (.E (.I [A 0 7 4,A 1 8 0,cu 2 9 8,eX 3 10 7 9,A 4 11 10,hQ 5 12 11 3,dz 6 13 11 true (.gz .lss .hM (F 12) (.const (.int .i64 400))),e7 7 14 11 13]) (.bj (F 14) (.skip) (.bI 0))) Rl
def aj2:U:= .E (.I [A 0 32 3,A 1 2 32]) (.a7)
def aj1:U:= .E (.E (.I [bQ 0 4 0]) (.block 0 (.loop Lo))) aj2
def aj0:U:= .E (.I [A 0 5 0,cu 1 6 5,A 2 3 6]) aj1
def ajZ:U:=
  .E (
  .I [
 bQ 0 2 0]) aj0
def Y1:dn:=⟨33,[.bA 2],ajZ⟩
theorem axV:dj Tryz.prog 6=some Y1:=by kernel_rfl
def Rm:U:= .E (.block 1 (.I [A 0 17 3,A 1 18 0,A 2 19 4,cL 3 20 1 18 19,aS 4 21 20,cj 5 22 6 [F 21],ji 6 23 17 22,A 7 3 23])) (.I [A 0 15 4,eB 1 16 15,A 2 4 16])
def Lp:U:= .E (.E (.I [A 0 7 4,A 1 8 0,cu 2 9 8,eX 3 10 7 9,A 4 11 10,hQ 5 12 11 3,dz 6 13 11 true (.gz .lss .hM (F 12) (.const (.int .i64 400))),e7 7 14 11 13]) (.bj (F 14) (.skip) (.bI 0))) Rm
def aj6:U:= .E (.I [A 0 24 3,A 1 2 24]) (.a7)
def aj5:U:= .E (.E (.I [bQ 0 4 0]) (.block 0 (.loop Lp))) aj6
def aj4:U:= .E (.I [A 0 5 0,cu 1 6 5,A 2 3 6]) aj5
def aj3:U:=
  .E (
  .I [
 bQ 0 2 0]) aj4
def Zk:dn:=⟨25,[.bA 2],aj3⟩
theorem axW:dj Tryz.prog 7=some Zk:=by kernel_rfl
def akf:U:= .E (.I [A 0 22 2,kL 1 23 22 0,A 2 24 23,iq 3 25 24 0 1,iy 4 26 24 25,Cb 5 27 24 26 2,e7 6 28 24 27,A 7 29 28,iq 8 30 29 3 1,iy 9 31 29 30,sb 10 32 29 31,Cb 11 33 29 32 1,e7 12 34 29 33,A 13 35 34,iq 14 36 35 3 1,iy 15 37 35 36,dz 16 38 35 true (.pg 7 (F 37) (.const (.int .i64 0))),iq 17 39 35 2 38,iy 18 40 35 39,dz 19 41 35 true (.gz .eql .hM (F 40) (.const (.int .i64 (-1)))),e7 20 42 35 41,A 21 43 42,hQ 22 44 43 5,Cb 23 45 43 44 7,e7 24 46 43 45,A 25 47 46,ou 26 48 47 2 6,dz 27 49 47 true (.gT [.int .i64 0,.int .i64 0] [(0,1,.const (.int .i64 3)),(1,1,.const (.int .i64 4))]),dz 28 50 47 true (.rQ false [.int,.int] (F 48) (F 49)),e7 29 51 47 50,A 30 52 51,ou 31 53 52 7 1,oP 32 54 52 14 53,Cb 33 55 52 54 0,e7 34 56 52 55,A 35 57 56,dz 36 58 57 true (.gT [.int .i64 0,.slice none 0 0,.slice none 0 0,.slice none 0 0,.slice none 0 0,.slice none 0 0,.slice none 0 0] []),oP 37 59 57 14 58,Cb 38 60 57 59 1,e7 39 61 57 60,A 40 0 61]) (.a7)
def ake:U:= .E (.I [bP 0 14 (.gT [.int .i64 0,.int .i64 0] [(0,1,.const (.int .i64 3)),(1,1,.const (.int .i64 4))]),bP 1 15 (.gT [.string ⟨#[]⟩,.int .i64 0,.int .i64 0,.string ⟨#[]⟩,.int .i64 0,.int .i64 0] [(0,1,.const (.string ⟨#[109]⟩)),(1,1,.const (.int .i64 1)),(2,1,.const (.int .i64 1)),(3,1,.const (.string ⟨#[120]⟩)),(4,2,F 14)]),bP 2 16 (.iT 6 1 [.string ⟨#[]⟩,.int .i64 0,.int .i64 0,.string ⟨#[]⟩,.int .i64 0,.int .i64 0] [(0,6,F 15)]),bP 3 17 (.gT [.int .i64 0,.slice none 0 0,.slice none 0 0,.slice none 0 0,.slice none 0 0,.slice none 0 0] [(0,1,.const (.int .i64 1)),(2,1,F 16)]),cj 4 18 11 [F 17],A 5 13 18,dD 6 19 0 13,dD 7 20 1 13,dD 8 21 2 13,bP 9 4 (.eR [.int .i64 0,.slice none 0 0,.slice none 0 0,.slice none 0 0,.slice none 0 0,.slice none 0 0,.slice none 0 0]),bP 10 6 (.eR [.int .i64 0,.int .i64 0]),cV 11 7 4 19,A 12 5 20,cV 13 2 6 21]) akf
def akd:U:= .E (.I [bP 0 8 (.gT [.int .i64 0,.slice none 0 0,.slice none 0 0,.slice none 0 0,.slice none 0 0,.slice none 0 0] [(0,1,.const (.int .i64 2))]),cj 1 9 11 [F 8],A 2 7 9,dD 3 10 0 7,dD 4 11 1 7,dD 5 12 2 7,bP 6 1 (.eR [.int .i64 0,.slice none 0 0,.slice none 0 0,.slice none 0 0,.slice none 0 0,.slice none 0 0,.slice none 0 0]),bP 7 3 (.eR [.int .i64 0,.int .i64 0]),cV 8 7 1 10,A 9 2 11,cV 10 2 3 12]) ake
def akc:U:=
  .E (
  .I [
 dE 0 0 false]) akd
def Zl:dn:=⟨62,[.bA 0],akc⟩
theorem ax5:dj Tryz.prog 8=some Zl:=by kernel_rfl
end Go.Proofs.YtkpifdkccdndcaaGreat
namespace Go.Proofs.YtkpifdkccdndcaaGreat
open Go Go.DI Go.Big
theorem eg.args{f:Nat}{xs ys:List Value}{r:Value}(h:eg Tryz.prog f ys r)(aO:vq xs ys):eg Tryz.prog f xs r:= λK m mT de aE=>h K m mT de (aO.lr aE)
def lD:Value:= .slice none 0 0
def acH:gg:=⟨2,[],[],[],[],[]⟩
def Il:gg:=⟨1,[],[⟨⟨#[109]⟩,1,1,⟨#[120]⟩,⟨3,4⟩⟩],[],[],[]⟩
theorem an1:acH.bM:=⟨λ_ h=>(by cases h),λ_ h=>(by cases h),λ_ h=>(by cases h),by decide,by decide,by decide,by decide,by decide⟩
theorem aDX:Il.bM:=⟨λ_ h=>(by cases h),λ_ h=>(by cases h),λ_ h=>(by cases h),by decide,by decide,by decide,by decide,by decide⟩
def zG:hC:=⟨2,[],[],[mM],[],[],[]⟩
theorem adf:lz acH=(zG,0,⟨0,0⟩):=rfl
theorem azX:gP ⟨#[109]⟩=true:=aah (by first|decide|(unfold dS;decide)|simp[dS])
theorem arc:lz Il=(hC.nil,7,⟨3,4⟩):=by
  have z:cU Il.ext 1 4=true:=rfl;have D:mO Il=true:=rfl;have Z:pa Il= .inr (7,⟨3,4⟩):=by show ja lG ⟨⟨#[109]⟩,1,1,⟨#[120]⟩,⟨3,4⟩⟩=_;simp[ja,azX,dm.gJ,dm.lN,lG,dR]
  have aw:=Uu Z;simp[lz,z,D,aw,p6]
theorem aDI:zG.lF:=by have h:=(adg an1).2;rw[adf]at h;exact h rfl
theorem apk:eg Tryz.prog 11 [.agg #[S 2,lD,lD,lD,lD,lD]] (u0 zG 0 ⟨0,0⟩):=by have h:=T7 an1;rw[adf]at h;exact eg.args h ⟨sx.agg (xs:=[_,_,_,_,_,_]) (ys:=[_,_,_,_,_,_]) ⟨.refl _,.nil,.nil,.nil,.nil,.nil,trivial⟩,trivial⟩
theorem apl:eg Tryz.prog 11 [.agg #[S 1,lD,bE [[cz ⟨#[109]⟩,S 1,S 1,cz ⟨#[120]⟩,S 3,S 4]] 6,lD,lD,lD]] (u0 hC.nil 7 ⟨3,4⟩):=by have h:=T7 aDX;rw[arc]at h;exact eg.args h ⟨sx.agg (xs:=[_,_,_,_,_,_]) (ys:=[_,_,_,_,_,_]) ⟨.refl _,.nil,.refl _,.nil,.nil,.nil,trivial⟩,trivial⟩
theorem aDN:eg Tryz.prog 14 [.agg #[S 0,lD,lD,lD,lD,lD,lD]] (S 1):=by refine iA (g0 (aY:=⟨[oA],[]⟩) ahu (by kernel_rfl) (by simp[KE]) ?_);have h:cU 0 1 4=false:=rfl;simp[KE,Xi,Xj,lD,h]
noncomputable def SF:c8 Tryz.prog:= .fJ 11 Bool (λ_=>True) (λb=>if b then[.agg #[S 2,lD,lD,lD,lD,lD]]else[.agg #[S 1,lD,bE [[cz ⟨#[109]⟩,S 1,S 1,cz ⟨#[120]⟩,S 3,S 4]] 6,lD,lD,lD]])
  (λb=>if b then u0 zG 0 ⟨0,0⟩else u0 hC.nil 7 ⟨3,4⟩) λb _=>match b with|true=>apk|false=>apl
@[simp] theorem aNA:SF.f=11:=rfl
@[simp] theorem aNy:SF.fn [.agg #[S 2,.slice none 0 0,.slice none 0 0,.slice none 0 0,.slice none 0 0,.slice none 0 0]]=some (u0 zG 0 ⟨0,0⟩):=c8.gX (x:=true) trivial λy ah=>by cases y<;>simp_all
@[simp] theorem aNz:SF.fn [.agg #[S 1,.slice none 0 0,bE [[cz ⟨#[109]⟩,S 1,S 1,cz ⟨#[120]⟩,S 3,S 4]] 6,.slice none 0 0,.slice none 0 0,.slice none 0 0]]=some (u0 hC.nil 7 ⟨3,4⟩):=c8.gX (x:=false) trivial λy ah=>by cases y<;>simp_all
noncomputable def Mk:c8 Tryz.prog:= .fJ 14 Bool (λ_=>True) (λb=>if b then[.agg (fu zG).toArray]else[.agg #[S 0,lD,lD,lD,lD,lD,lD]]) (λb=>if b then S 0 else S 1) λb _=>match b with|true=>anW aDI|false=>aDN
@[simp] theorem aND:Mk.f=14:=rfl
@[simp] theorem aCt:Mk.fn [.agg #[S 2,bE [] 4,bE [] 4,bE [iC mM] 7,bE [] 3,bE [] 17,bE [] 2]]=some (S 0):=c8.gX (x:=true) trivial λy ah=>by
  cases y
  · simp[lD,fu,zG,bE]at ah
  · rfl
@[simp] theorem aNC:Mk.fn [.agg #[S 2,bE [] 4,bE [] 4,bE [[cz ⟨#[]⟩,S 0,S (-1),S 0,.bool false,e3 (bG 0),e3 (bG 1)]] 7,bE [] 3,bE [] 17,bE [] 2]]=some (S 0):=aCt
@[simp] theorem aNB:Mk.fn [.agg #[S 0,.slice none 0 0,.slice none 0 0,.slice none 0 0,.slice none 0 0,.slice none 0 0,.slice none 0 0]]=some (S 1):=c8.gX (x:=false) trivial λy ah=>by
  cases y
  · rfl
  · simp[fu,zG,bE]at ah
theorem adZ{t:B}{b o l O:Nat}:DI.eJ 8 t (.slice (some ⟨b,o,none⟩) l O)=match t.M b with
  | some x=>if o+l*O<=x.cells.length then(match ih (ih (DI.eJ 7 t)) (oe O l (x.cells.drop o))with
    |some bR=>some (bE bR O)
    |none=>none)else none
  |none=>none:=UC
theorem amn{t:B}{b o l O:Nat}:fR 8 t (.slice (some ⟨b,o,none⟩) l O)=b::(match t.M b with
  |some x=>x.cells.flatMap (fR 7 t)
  |none=>[]):=rfl
theorem apj:eg Tryz.prog 8 [] (.bool true):=by
  refine iA (g0 (aY:=⟨[SF,Mk],[]⟩) ax5 (by kernel_rfl) (by simp[Zl]) ?_);obtain⟨R,g9⟩: ∃R,R=iC mM:=⟨_,rfl⟩;have aM:u0 zG 0 ⟨0,0⟩= .tuple #[.agg #[S 2,bE [] 4,bE [] 4,bE [iC mM] 7,bE [] 3,bE [] 17,bE [] 2],S 0,.agg #[S 0,S 0]]:=rfl;have a1:u0 hC.nil 7 ⟨3,4⟩= .tuple #[.agg #[S 0,bE [] 4,bE [] 4,bE [] 7,bE [] 3,bE [] 17,bE [] 2],S 7,.agg #[S 3,S 4]]:=rfl;simp[Zl,akc,akd,aM];have aI:pb (.tuple #[.agg #[S 0,bE [] 4,bE [] 4,bE [] 7,bE [] 3,bE [] 17,bE [] 2],S 7,.agg #[S 3,S 4]])=false:=by first|rfl|decide|simp[pb,fg,bE]
  simp[ake,a1,aI,adZ,amn];simp[akf,iC,mM]
end Go.Proofs.YtkpifdkccdndcaaGreat
namespace Go.Big
def yD(n:Nat)(x:bh):Nat:=if n<400 then n+x.a.length+x.b.length else n
def kj(l:List bh):Nat:=l.foldl yD l.length
def yH(n:Nat)(l:List bh):Nat:=if n<400 then n+kj l else n
def Ce(l:List (List bh)):Nat:=l.foldl yH l.length
theorem akX{n:Nat}(h: ¬n<400): ∀{l:List bh},l.foldl yD n=n
  |[]=>rfl
  |x::l=>by rw[List.foldl_cons,yD,if_neg h,akX h]
theorem ak9{n:Nat}(h: ¬n<400): ∀{l:List (List bh)},l.foldl yH n=n
  |[]=>rfl
  |x::l=>by rw[List.foldl_cons,yH,if_neg h,ak9 h]
theorem akV: ∀{l:List bh} {n:Nat},n<=l.foldl yD n
  |[],n=>Nat.le_refl n
  | x::l,n=>by rw[List.foldl_cons];refine Nat.le_trans ?_ (akV (l:=l));unfold yD;split<;>omega
theorem ak7: ∀{l:List (List bh)} {n:Nat},n<=l.foldl yH n
  |[],n=>Nat.le_refl n
  | x::l,n=>by rw[List.foldl_cons];refine Nat.le_trans ?_ (ak7 (l:=l));unfold yH;split<;>omega
def bh.aci(x:bh):Prop:=x.a.length<=140737488355328/\x.b.length<=140737488355328
def vk(l:List bh):Prop:=l.length<=140737488355328/\ ∀x∈l,x.aci
theorem akW: ∀{l:List bh} {n:Nat},(∀x∈l,x.aci)->n<=281474976711056->l.foldl yD n<=281474976711056
  |[],n,_,h=>h
  | x::l,n,H,h=>by rw[List.foldl_cons];refine akW (λy ah=>H y (by simp[ah])) ?_;obtain⟨z,D⟩:=H x (by simp);unfold yD;split<;>omega
theorem EA{l:List bh}(h:vk l):kj l<=281474976711056:=akW h.2 (by have:=h.1;omega)
theorem ZS{l:List bh}:l.length<=kj l:=akV
theorem ak8: ∀{l:List (List bh)} {n:Nat},(∀x∈l,vk x)->n<=281474976711456->l.foldl yH n<=281474976711456
  |[],n,_,h=>h
  | x::l,n,H,h=>by rw[List.foldl_cons];refine ak8 (λy ah=>H y (by simp[ah])) ?_;have:=EA (H x (by simp));unfold yH;split<;>omega
theorem azv{l:List (List bh)}(h:l.length<=140737488355328)(H: ∀x∈l,vk x):Ce l<=281474976711456:=ak8 H (by omega)
theorem azu{l:List (List bh)}:l.length<=Ce l:=ak7
end Go.Big
namespace Go.Proofs.YtkpifdkccdndcaaGreat
open Go Go.DI Go.Big
theorem ay0{l:List bh}(L:vk l){Q:dr->aL->B->Prop}: ∀(dg:List bh) (i bq:Nat) (u:aL) (t:B),l.drop i=dg->i+dg.length=l.length->bq<=281474976711056->u 0=fT l->u 3=S bq->u 4=S i->
    (∀ag aN,ag 3=S (dg.foldl yD bq:Nat)->Q (.bI 0) ag aN)->hs Tryz.prog (.loop Lo) u t Q:=by
  intro dg;induction dg with
  | nil=>intro i bq u t aR aa hF bl bd bL bf;refine su (aY:=⟨[],[]⟩) λb9 a9=> ?_;have e:i=l.length:=(by simpa using aa);subst e;simp[Lo,Rl,bl,bL];exact bf _ _ (by simp[bd])
  | cons x dg cb=>
    intro i bq u t aR aa hF bl bd bL bf;refine su (aY:=⟨[],[]⟩) λb9 a9=> ?_;have H:l[i]?=some x:=(by rw[<-List.head?_drop,aR];rfl);have ng:l.drop (i+1)=dg:=(by rw[<-List.tail_drop,aR];rfl);simp only[List.length_cons]at aa;have jE:i<l.length:=(by omega);have oL:l[i]=x:=(by rw[List.getElem?_eq_getElem jE]at H;exact Option.some.inj H);have bK:(i:Int)<l.length:=(by omega);have N1:=L.1;have bo:IntKind.i64.wrap ((i:Int)+1)=(i:Int)+1:=ct (by omega) (by omega);obtain⟨z,D⟩:=L.2 x (List.mem_of_getElem? H);by_cases aw:bq<400
    · have lA:(bq:Int)<400:=(by omega);have cS:IntKind.i64.wrap ((bq:Int)+(x.a.length:Int))=(bq:Int)+(x.a.length:Int):=ct (by omega) (by omega);have fz:IntKind.i64.wrap ((bq:Int)+(x.a.length:Int)+(x.b.length:Int))=(bq:Int)+(x.a.length:Int)+(x.b.length:Int):=ct (by omega) (by omega);simp(disch:=first|omega|(simp only[ae,ad,af];omega)) [Lo,Rl,bl,bd,bL,bK,lA,bo,cS,fz,oL,eS,-al,-ar,-ai,-ao,-List.map_map];refine a9 _ _ (cb (i+1) (bq+x.a.length+x.b.length) _ _ ng (by omega) (by omega) (by simp[bl]) (by simp) (by simp) λag aN h=>bf ag aN ?_);rw[h,List.foldl_cons,yD,if_pos aw]
    · have lA: ¬(bq:Int)<400:=(by omega);simp[Lo,Rl,bl,bd,bL,bK,lA];exact bf _ _ (by rw[List.foldl_cons,yD,if_neg aw,akX aw];simp[bd])
theorem ay1{l:List bh}(L:vk l):eg Tryz.prog 6 [fT l] (S (kj l:Nat)):=by refine iA (g0 (aY:=⟨[],[]⟩) axV (by kernel_rfl) (by simp[Y1]) ?_);have aG:=L.1;simp[Y1,ajZ,aj0,aj1];refine ay0 L l 0 l.length _ _ rfl (by simp) (by omega) (by simp) (by simp) (by simp) λag aN h=> ?_;simp[aj2,h];rfl
noncomputable def Cv:c8 Tryz.prog:= .fJ 6 (List bh) vk (λl=>[fT l]) (λl=>S (kj l:Nat)) λ_ h=>ay1 h
@[simp] theorem aOb:Cv.f=6:=rfl
@[simp] theorem am0{l:List bh}(h:vk l):Cv.fn [bE (l.map eS) 3]=some (S (kj l:Nat)):=c8.gX (x:=l) h λy ah=>by simpa using ah
theorem azw{l:List (List bh)}(aG:l.length<=140737488355328)(L: ∀x∈l,vk x){Q:dr->aL->B->Prop}: ∀(dg:List (List bh)) (i bq:Nat) (u:aL) (t:B),l.drop i=dg->i+dg.length=l.length->bq<=281474976711456->u 0=wM l->u 3=S bq->u 4=S i->
    (∀ag aN,ag 3=S (dg.foldl yH bq:Nat)->Q (.bI 0) ag aN)->hs Tryz.prog (.loop Lp) u t Q:=by
  intro dg;induction dg with
  | nil=>intro i bq u t aR aa hF bl bd bL bf;refine su (aY:=⟨[],[]⟩) λb9 a9=> ?_;have e:i=l.length:=(by simpa using aa);subst e;simp[Lp,Rm,bl,bL];exact bf _ _ (by simp[bd])
  | cons x dg cb=>
    intro i bq u t aR aa hF bl bd bL bf;refine su (aY:=⟨[Cv],[]⟩) λb9 a9=> ?_;have H:l[i]?=some x:=(by rw[<-List.head?_drop,aR];rfl);have ng:l.drop (i+1)=dg:=(by rw[<-List.tail_drop,aR];rfl);simp only[List.length_cons]at aa;have jE:i<l.length:=(by omega);have oL:l[i]=x:=(by rw[List.getElem?_eq_getElem jE]at H;exact Option.some.inj H);have bK:(i:Int)<l.length:=(by omega);have bo:IntKind.i64.wrap ((i:Int)+1)=(i:Int)+1:=ct (by omega) (by omega);have yo:=L x (List.mem_of_getElem? H);have fG:=EA yo;by_cases aw:bq<400
    · have lA:(bq:Int)<400:=(by omega);have cS:IntKind.i64.wrap ((bq:Int)+(kj x:Int))=(bq:Int)+(kj x:Int):=ct (by omega) (by omega);simp(disch:=first|omega|(simp only[ae,ad,af];omega)) [Lp,Rm,bl,bd,bL,bK,lA,bo,cS,oL,-al,-ar,-ai,-ao,-List.map_map];refine a9 _ _ (cb (i+1) (bq+kj x) _ _ ng (by omega) (by omega) (by simp[bl]) (by simp) (by simp) λag aN h=>bf ag aN ?_);rw[h,List.foldl_cons,yH,if_pos aw]
    · have lA: ¬(bq:Int)<400:=(by omega);simp[Lp,Rm,bl,bd,bL,bK,lA];exact bf _ _ (by rw[List.foldl_cons,yH,if_neg aw,ak9 aw];simp[bd])
theorem azx{l:List (List bh)}(aG:l.length<=140737488355328)(L: ∀x∈l,vk x):eg Tryz.prog 7 [wM l] (S (Ce l:Nat)):=by refine iA (g0 (aY:=⟨[],[]⟩) axW (by kernel_rfl) (by simp[Zk]) ?_);simp[Zk,aj3,aj4,aj5];refine azw aG L l 0 l.length _ _ rfl (by simp) (by omega) (by simp) (by simp) (by simp) λag aN h=> ?_;simp[aj6,h];rfl
noncomputable def abr:c8 Tryz.prog:= .fJ 7 (List (List bh)) (λl=>l.length<=140737488355328/\ ∀x∈l,vk x) (λl=>[wM l]) (λl=>S (Ce l:Nat)) λ_ h=>azx h.1 h.2
@[simp] theorem aOj:abr.f=7:=rfl
@[simp] theorem aOk{l:List (List bh)}(h:l.length<=140737488355328/\ ∀x∈l,vk x):abr.fn [bE (l.map λr=>[fT r]) 1]=some (S (Ce l:Nat)):=c8.gX (x:=l) h λy ah=>by simpa using ah
end Go.Proofs.YtkpifdkccdndcaaGreat
