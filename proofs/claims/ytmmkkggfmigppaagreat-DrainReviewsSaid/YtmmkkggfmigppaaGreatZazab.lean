/-
  A part of the proof, shortened by tools of ours.
-/
import Derived.Test.YtmmkkggfmigppaaGreatZazaa
set_option linter.all false
set_option maxRecDepth 8000
set_option maxHeartbeats 16000000
namespace Go.Proofs.YtmmkkggfmigppaaGreat
open Go Go.DI Go.hR
theorem me{z:aC}{t bf:Nat}{v:Value}(h:bf≠t):k7 z t v bf=z bf:=by unfold k7;rw[if_neg h]
def q5(l:List Int)(b:Nat):Value:=if l=[]then .slice none 0 0 else .slice (some ⟨b,0,none⟩) l.length 1
def rX(aA:Nat)(o:Int->List Int)(aN:Int->Nat):List Value:=(List.range aA).map λ(x:Nat)=>q5 (o x) (aN x)
@[simp] theorem aTu{aA:Nat}{o:Int->List Int}{aN:Int->Nat}:(rX aA o aN).length=aA:=by simp[rX]
theorem abR{aA:Nat}{o:Int->List Int}{aN:Int->Nat}{k:Nat}(h:k<aA):(rX aA o aN)[k]?=some (q5 (o k) (aN k)):=by simp[rX,h]
theorem TD{aA:Nat}{o:Int->List Int}{aN:Int->Nat}{k b:Nat}{l:List Int}(az:l≠[]):(rX aA o aN).set k (.slice (some ⟨b,0,none⟩) l.length 1)=rX aA (eK o k l) (eK aN k b):=by
 apply AZ
 ·simp
 ·intro i A D;simp at A;rw[List.getElem_set];by_cases h:k=i
  ·subst h;simp[rX,eK,q5,az]
  ·have: ¬(i:Int)=k:=(by omega);simp[rX,eK,h,this]
structure qo(o:Int->List Int)(e9 aA bk:Nat)(aN:Int->Nat)(m:H):Prop where
 bf:m.I e9=some ⟨rX aA o aN,true⟩
 I: ∀k:Nat,k<aA->o k≠[]->m.I (aN k)=some ⟨(o k).map (Value.int .i64 ·),true⟩/\bk<=aN k
 inj: ∀k e7:Nat,k<aA->e7<aA->k≠e7->o k≠[]->o e7≠[]->aN k≠aN e7
theorem qo.an1{o:Int->List Int}{e9 aA bk:Nat}{aN:Int->Nat}{m:H}(h:qo o e9 aA bk aN m):Gb o e9 aA m:=by
 refine⟨_,h.bf,by simp,λk S=>⟨_,abR S,?_⟩⟩;unfold q5;by_cases aB:o k=[]
 ·rw[if_pos aB];exact .inl ⟨rfl,aB⟩
 ·rw[if_neg aB];exact .inr ⟨_,_,rfl,(h.I k S aB).1⟩
theorem qo.app{o:Int->List Int}{e9 aA bk:Nat}{aN:Int->Nat}{m U:H}(h:qo o e9 aA bk aN m)(yu:e9<bk){k:Nat}{c:Int}{id:Nat}(S:k<aA)(eP:m.next<=id)(lE:bk<=m.next)
 (A:U.I e9=some ⟨rX aA (eK o k (o k++[c])) (eK aN k id),true⟩) (D:U.I id=some ⟨(o k++[c]).map (Value.int .i64 ·),true⟩)
 (ai: ∀b,b<m.next->b≠e9->(o k≠[]->b≠aN k)->U.I b=m.I b):qo (eK o k (o k++[c])) e9 aA bk (eK aN k id) U:=by
 have F: ∀{dF:Type} (g:Int->dF) (v:dF) (j:Nat),j≠k->eK g k v j=g j:= λg v j aX=>by unfold eK;rw[if_neg (by omega)]
 have mM: ∀{dF:Type} (g:Int->dF) (v:dF),eK g k v k=v:= λg v=>by unfold eK;rw[if_pos rfl]
 refine⟨A,λj aX bG=> ?_,λj ER aX lD Wv dY ee=> ?_⟩
 ·by_cases zV:j=k
  ·subst zV;rw[mM,mM];exact⟨D,by omega⟩
  ·rw[F _ _ j zV]at bG;rw[F _ _ j zV,F _ _ j zV];obtain⟨aE,a2⟩:=h.I j aX bG;refine⟨?_,a2⟩;rw[ai _ (aM aE) (by omega) (λwZ=>h.inj j k aX S zV bG wZ)];exact aE
 ·by_cases zV:j=k
  ·subst zV;rw[F _ _ ER (λe=>Wv e.symm)]at ee;rw[mM,F _ _ ER (λe=>Wv e.symm)];have:=aM (h.I ER lD ee).1;omega
  ·rw[F _ _ j zV]at dY;rw[F _ _ j zV];by_cases Wu:ER=k
   ·subst Wu;rw[mM];have:=aM (h.I j aX dY).1;omega
   ·rw[F _ _ ER Wu]at ee;rw[F _ _ ER Wu];exact h.inj j ER aX lD Wv dY ee
def RD:aw:= .kl [
 ⟨0,some 33,none,.hs (.tmp 6),[]⟩,
 ⟨1,some 34,none,.uT (.tmp 33),[]⟩,
 ⟨2,some 35,none,.ks 5 (.tmp 34),[]⟩,
 ⟨3,some 36,none,.g4 false 1 (.tmp 35),[]⟩,
 ⟨4,some 37,none,.ks 0 (.tmp 8),[]⟩,
 ⟨5,some 38,none,.g4 false 1 (.tmp 37),[]⟩,
 ⟨6,some 39,none,.hs (.tmp 6),[]⟩,
 ⟨7,some 40,none,.uT (.tmp 39),[]⟩,
 ⟨8,some 41,none,.ks 5 (.tmp 40),[]⟩,
 ⟨9,some 42,none,.g4 false 1 (.tmp 41),[]⟩,
 ⟨10,some 43,none,.ks 0 (.tmp 8),[]⟩,
 ⟨11,some 44,none,.g4 false 1 (.tmp 43),[]⟩,
 ⟨12,some 45,none,.mP 1 (.tmp 42) (.tmp 44),[]⟩,
 ⟨13,some 46,none,.g4 false 1 (.tmp 45),[]⟩,
 ⟨14,some 47,none,.hs (.tmp 7),[]⟩,
 ⟨15,some 48,none,.mh 1 1 [.int .i64 0] [(0,1,.tmp 47)],[]⟩,
 ⟨16,some 49,none,.app 1 8 (.tmp 46) (.tmp 48),[(.tmp 37,.tmp 46),(.tmp 35,.tmp 46)]⟩,
 ⟨17,some 50,none,.mP 1 (.tmp 36) (.tmp 38),[]⟩,
 ⟨18,none,none,.store 1 (.tmp 50) (.tmp 49),[]⟩]
def RE:aw:= .kl [
 ⟨0,some 51,none,.hs (.tmp 6),[]⟩,
 ⟨1,some 52,none,.uT (.tmp 51),[]⟩,
 ⟨2,some 53,none,.ks 5 (.tmp 52),[]⟩,
 ⟨3,some 54,none,.g4 false 1 (.tmp 53),[]⟩,
 ⟨4,some 55,none,.ks 1 (.tmp 8),[]⟩,
 ⟨5,some 56,none,.g4 false 1 (.tmp 55),[]⟩,
 ⟨6,some 57,none,.hs (.tmp 6),[]⟩,
 ⟨7,some 58,none,.uT (.tmp 57),[]⟩,
 ⟨8,some 59,none,.ks 5 (.tmp 58),[]⟩,
 ⟨9,some 60,none,.g4 false 1 (.tmp 59),[]⟩,
 ⟨10,some 61,none,.ks 1 (.tmp 8),[]⟩,
 ⟨11,some 62,none,.g4 false 1 (.tmp 61),[]⟩,
 ⟨12,some 63,none,.mP 1 (.tmp 60) (.tmp 62),[]⟩,
 ⟨13,some 64,none,.g4 false 1 (.tmp 63),[]⟩,
 ⟨14,some 65,none,.hs (.tmp 7),[]⟩,
 ⟨15,some 66,none,.nY .sub .sC (.const (.int .i64 (-1))) (.tmp 65),[]⟩,
 ⟨16,some 67,none,.mh 1 1 [.int .i64 0] [(0,1,.tmp 66)],[]⟩,
 ⟨17,some 68,none,.app 1 8 (.tmp 64) (.tmp 67),[(.tmp 55,.tmp 64),(.tmp 53,.tmp 64)]⟩,
 ⟨18,some 69,none,.mP 1 (.tmp 54) (.tmp 56),[]⟩,
 ⟨19,none,none,.store 1 (.tmp 69) (.tmp 68),[]⟩]
theorem aiK:XW=(
 .ky (
 .kl [
  ⟨0,some 29,none,.nY .lss .sC (.tmp 28) (.tmp 27),[]⟩]) (
 .ky (
 .nx (.tmp 29) (
  .skip) (
  .cH 0)) (
 .ky (
 .block 1 (
 .ky (
 .kl [
  ⟨0,some 30,none,.hs (.tmp 28),[]⟩,
  ⟨1,some 31,none,.mP 4 (.tmp 26) (.tmp 28),[]⟩,
  ⟨2,some 32,none,.g4 true 4 (.tmp 31),[]⟩,
  ⟨3,some 8,none,.nu [.int .i64 0,.int .i64 0,.int .i64 0,.int .i64 0],[]⟩,
  ⟨4,some 7,none,.hs (.tmp 30),[]⟩,
  ⟨5,none,none,.store 4 (.tmp 8) (.tmp 32),[]⟩]) (
 .ky (
 RD) (
 RE)))) (
 .kl [
  ⟨0,some 70,none,.nY .add .sC (.tmp 28) (.const (.int .i64 1)),[]⟩,
  ⟨1,some 28,none,.hs (.tmp 70),[]⟩])))
 :aw):=rfl
set_option maxRecDepth 20000 in
theorem ay4{n:dH}(ch:n.iN){aA:Nat}(eH:n.dQ=aA){aj:List Int}{v:Value}{cB cL e9 jC bk:Nat}{a:c4}{o:Int->List Int}{aN:Int->Nat}{m:H}{z:aC}{i:Nat}(W:i<2500)(oH:m.I cB=some ⟨[E n.dQ,E n.dI,E n.eT,v,.slice (some ⟨cL,0,none⟩) aj.length 1,.slice (some ⟨e9,0,none⟩) aA 1],true⟩)
 (oX:m.I jC=some ⟨gL a,true⟩) (gX:qo o e9 aA bk aN m) (yu:e9<bk) (gO:cB<bk) (Ei:cB≠e9) (lE:bk<=m.next) (oZ:n.hN a.f) (w2:(o a.f).length<=100000) (DW: ∀k:Nat,k<aA->o k≠[]->aN k≠jC) (avn:jC≠e9)
 (bB:z 6=bH cB) (bl:z 8=bH jC) (ca:z 7=E i) {Q:cM->aC->H->Prop}
 (bb: ∀K U s0,(∀t,t<33->K t=z t)->m.next<=U.next->(∀b,b<m.next->b≠e9->(∀k:Nat,k<aA->o k≠[]->b≠aN k)->U.I b=m.I b)->qo (eK o a.f (o a.f++[(i:Int)])) e9 aA bk s0 U->(∀k:Nat,k<aA->eK o a.f (o a.f++[(i:Int)]) k≠[]->s0 k≠jC)->Q .eB K U):fG N RD z m Q:=by
 obtain⟨uO,cz⟩:=oZ;obtain⟨k,S⟩: ∃k:Nat,a.f=k:=⟨a.f.toNat,by omega⟩;have bK:a.f<(aA:Int):=by omega
 have dV:a.f.toNat=k:=by omega
 have gr:k<aA:=by omega
 have kj:k+1<=aA:=gr;rw[S]at bb w2;have Ej:=gX.bf;have jv:(rX aA o aN)[k]?=some (q5 (o k) (aN k)):=abR gr;have Kt: ∀h,(rX aA o aN)[k]'h=q5 (o k) (aN k):= λh=>by rw[c1 h]at jv;simpa using jv
 have ct:IntKind.i64.wrap (-1-(i:Int))= -1-(i:Int):=cY (by omega) (by omega);have aCJ:=aM Ej;have aaf:=aM oX;by_cases aB:o k=[]
 ·have Eh:q5 (o k) (aN k)= .slice none 0 0:=(by unfold q5;rw[if_pos aB]);rw[Eh]at jv Kt;have w3:=TD (aA:=aA) (o:=o) (aN:=aN) (k:=k) (b:=m.next+16) (l:=o k++[(i:Int)]) (by simp);have aD:(o k++[(i:Int)]).length=1:=(by rw[aB];rfl);rw[aD]at w3;simp(disch:=first|omega|simp only[bE];omega) [RD,bB,bl,ca,oH,oX,Ej,uO,bK,dV,jv,fC,gL,kj,w3,iX];refine bb _ _ (eK aN k (m.next+16)) (λt ba=>by simp(disch:=omega) only[me]) (by simp only[eJ,fp];omega) (λc A D ai=>by simp(disch:=first|omega|(simp only[eJ,fp];omega)) only[a7,cJ]) (gX.app yu gr (by omega) lE ?_ ?_ ?_) ?_
  ·simp(disch:=first|omega|(simp only[eJ,fp];omega)) only[cx]
  ·simp(disch:=first|omega|(simp only[eJ,fp];omega)) only[cx,a7];rw[aB];rfl
  ·intro c A D _;simp(disch:=omega) only[a7,cJ]
  ·intro j aX bG;unfold eK at bG⊢;split
   ·omega
   ·rename_i h;rw[if_neg h]at bG;exact DW j aX bG
 ·have Eh:q5 (o k) (aN k)= .slice (some ⟨aN k,0,none⟩) (o k).length 1:=(by unfold q5;rw[if_neg aB]);rw[Eh]at jv Kt;have w3:=TD (aA:=aA) (o:=o) (aN:=aN) (k:=k) (b:=m.next+16) (l:=o k++[(i:Int)]) (by simp);have aD:(o k++[(i:Int)]).length=(o k).length+1:=(by simp);rw[aD]at w3;obtain⟨b9,ava⟩:=gX.I k gr aB;have aB3:=aM b9;have er:cB≠aN k:=(by omega);have eO:e9≠aN k:=(by omega);have g8:jC≠aN k:= λh=>DW k gr aB h.symm;have hY:((o k).length+1)*8<=140737488355328:=(by omega);have jA:(o k).length+1<=9223372036854775807:=(by omega);have z3:((o k).map (Value.int .i64 ·)).take (o k).length=(o k).map (Value.int .i64 ·):=h7 (by simp);simp(disch:=first|omega|simp only[bE];omega) [RD,bB,bl,ca,oH,oX,Ej,uO,bK,dV,jv,fC,gL,kj,w3,iX,bne_iff_ne,b9,er,g8,hY,jA,z3];refine bb _ _ (eK aN k (m.next+16)) (λt ba=>by simp(disch:=omega) only[me]) (by simp only[eJ,fp];omega) (λc A D ai=>by have:=ai k gr aB;simp(disch:=first|omega|(simp only[eJ,fp];omega)) only[a7,cJ]) (gX.app yu gr (by omega) lE ?_ ?_ ?_) ?_
  ·simp(disch:=first|omega|(simp only[eJ,fp];omega)) only[cx]
  ·simp(disch:=first|omega|(simp only[eJ,fp];omega)) only[cx,a7];simp
  ·intro c A D ai;have:=ai aB;simp(disch:=omega) only[a7,cJ]
  ·intro j aX bG;unfold eK at bG⊢;split
   ·omega
   ·rename_i h;rw[if_neg h]at bG;exact DW j aX bG
set_option maxRecDepth 20000 in
theorem ay5{n:dH}(ch:n.iN){aA:Nat}(eH:n.dQ=aA){aj:List Int}{v:Value}{cB cL e9 jC bk:Nat}{a:c4}{o:Int->List Int}{aN:Int->Nat}{m:H}{z:aC}{i:Nat}(W:i<2500)(oH:m.I cB=some ⟨[E n.dQ,E n.dI,E n.eT,v,.slice (some ⟨cL,0,none⟩) aj.length 1,.slice (some ⟨e9,0,none⟩) aA 1],true⟩)
 (oX:m.I jC=some ⟨gL a,true⟩) (gX:qo o e9 aA bk aN m) (yu:e9<bk) (gO:cB<bk) (Ei:cB≠e9) (lE:bk<=m.next) (oZ:n.hN a.t) (w2:(o a.t).length<=100000) (DW: ∀k:Nat,k<aA->o k≠[]->aN k≠jC) (avn:jC≠e9)
 (bB:z 6=bH cB) (bl:z 8=bH jC) (ca:z 7=E i) {Q:cM->aC->H->Prop}
 (bb: ∀K U s0,(∀t,t<51->K t=z t)->m.next<=U.next->(∀b,b<m.next->b≠e9->(∀k:Nat,k<aA->o k≠[]->b≠aN k)->U.I b=m.I b)->qo (eK o a.t (o a.t++[(-1-(i:Int))])) e9 aA bk s0 U->(∀k:Nat,k<aA->eK o a.t (o a.t++[(-1-(i:Int))]) k≠[]->s0 k≠jC)->Q .eB K U):fG N RE z m Q:=by
 obtain⟨uO,cz⟩:=oZ;obtain⟨k,S⟩: ∃k:Nat,a.t=k:=⟨a.t.toNat,by omega⟩;have bK:a.t<(aA:Int):=by omega
 have dV:a.t.toNat=k:=by omega
 have gr:k<aA:=by omega
 have kj:k+1<=aA:=gr;rw[S]at bb w2;have Ej:=gX.bf;have jv:(rX aA o aN)[k]?=some (q5 (o k) (aN k)):=abR gr;have Kt: ∀h,(rX aA o aN)[k]'h=q5 (o k) (aN k):= λh=>by rw[c1 h]at jv;simpa using jv
 have ct:IntKind.i64.wrap (-1-(i:Int))= -1-(i:Int):=cY (by omega) (by omega);have aCJ:=aM Ej;have aaf:=aM oX;by_cases aB:o k=[]
 ·have Eh:q5 (o k) (aN k)= .slice none 0 0:=(by unfold q5;rw[if_pos aB]);rw[Eh]at jv Kt;have w3:=TD (aA:=aA) (o:=o) (aN:=aN) (k:=k) (b:=m.next+17) (l:=o k++[(-1-(i:Int))]) (by simp);have aD:(o k++[(-1-(i:Int))]).length=1:=(by rw[aB];rfl);rw[aD]at w3;simp(disch:=first|omega|simp only[bE];omega) [RE,bB,bl,ca,oH,oX,Ej,uO,bK,dV,jv,fC,gL,kj,w3,ct,iX];refine bb _ _ (eK aN k (m.next+17)) (λt ba=>by simp(disch:=omega) only[me]) (by simp only[eJ,fp];omega) (λc A D ai=>by simp(disch:=first|omega|(simp only[eJ,fp];omega)) only[a7,cJ]) (gX.app yu gr (by omega) lE ?_ ?_ ?_) ?_
  ·simp(disch:=first|omega|(simp only[eJ,fp];omega)) only[cx]
  ·simp(disch:=first|omega|(simp only[eJ,fp];omega)) only[cx,a7];rw[aB];rfl
  ·intro c A D _;simp(disch:=omega) only[a7,cJ]
  ·intro j aX bG;unfold eK at bG⊢;split
   ·omega
   ·rename_i h;rw[if_neg h]at bG;exact DW j aX bG
 ·have Eh:q5 (o k) (aN k)= .slice (some ⟨aN k,0,none⟩) (o k).length 1:=(by unfold q5;rw[if_neg aB]);rw[Eh]at jv Kt;have w3:=TD (aA:=aA) (o:=o) (aN:=aN) (k:=k) (b:=m.next+17) (l:=o k++[(-1-(i:Int))]) (by simp);have aD:(o k++[(-1-(i:Int))]).length=(o k).length+1:=(by simp);rw[aD]at w3;obtain⟨b9,ava⟩:=gX.I k gr aB;have aB3:=aM b9;have er:cB≠aN k:=(by omega);have eO:e9≠aN k:=(by omega);have g8:jC≠aN k:= λh=>DW k gr aB h.symm;have hY:((o k).length+1)*8<=140737488355328:=(by omega);have jA:(o k).length+1<=9223372036854775807:=(by omega);have z3:((o k).map (Value.int .i64 ·)).take (o k).length=(o k).map (Value.int .i64 ·):=h7 (by simp);simp(disch:=first|omega|simp only[bE];omega) [RE,bB,bl,ca,oH,oX,Ej,uO,bK,dV,jv,fC,gL,kj,w3,ct,iX,bne_iff_ne,b9,er,g8,hY,jA,z3];refine bb _ _ (eK aN k (m.next+17)) (λt ba=>by simp(disch:=omega) only[me]) (by simp only[eJ,fp];omega) (λc A D ai=>by have:=ai k gr aB;simp(disch:=first|omega|(simp only[eJ,fp];omega)) only[a7,cJ]) (gX.app yu gr (by omega) lE ?_ ?_ ?_) ?_
  ·simp(disch:=first|omega|(simp only[eJ,fp];omega)) only[cx]
  ·simp(disch:=first|omega|(simp only[eJ,fp];omega)) only[cx,a7];simp
  ·intro c A D ai;have:=ai aB;simp(disch:=omega) only[a7,cJ]
  ·intro j aX bG;unfold eK at bG⊢;split
   ·omega
   ·rename_i h;rw[if_neg h]at bG;exact DW j aX bG
structure Ga(n:dH)(i:Nat)(o:Int->List Int):Prop where
 Gy: ∀x,∀G∈o x,(hS G).1<i/\gC n (hS G)=x/\ -2500<=G/\G<=2500
 all: ∀e:hz,e.1<i-> ∃G∈o (gC n e),hS G=e
 len: ∀x,(o x).length<=2*i
theorem FH{o:Int->List Int}{y:Int}{c G:Int}{x:Int}:G∈eK o y (o y++[c]) x↔G∈o x\/(x=y/\G=c):=by
 unfold eK;by_cases h:x=y
 ·subst h;simp
 ·simp[h]
theorem acX{o:Int->List Int}{y:Int}{c:Int}{x:Int}:(eK o y (o y++[c]) x).length<=(o x).length+1:=by
 unfold eK;split
 ·rename_i h;subst h;simp
 ·omega
theorem afO(i:Nat):hS (i:Int)=(i,true):=by simp[hS]
theorem afP(i:Nat):hS (-1-(i:Int))=(i,false):=by have:=atn (i,false);simpa[hR.enc]using this
theorem Ga.step{n:dH}{i:Nat}{o:Int->List Int}{a:c4}(h:Ga n i o)(aa:n.bp[i]?=some a)(W:i<2500):
 Ga n (i+1) (eK (eK o a.f (o a.f++[(i:Int)])) a.t (eK o a.f (o a.f++[(i:Int)]) a.t++[-1-(i:Int)])):=by
 have eD:gC n (i,true)=a.f:=by simp[gC,aa]
 have eS:gC n (i,false)=a.t:=by simp[gC,aa]
 refine⟨λx G bw=> ?_,λe aQ=> ?_,λx=> ?_⟩
 ·rw[FH,FH]at bw;rcases bw with(bw|⟨rfl,rfl⟩)|⟨rfl,rfl⟩
  ·obtain⟨aE,a2,cj⟩:=h.Gy x G bw;exact⟨by omega,a2,cj⟩
  ·rw[afO];exact⟨by simp,eD,by omega,by omega⟩
  ·rw[afP];exact⟨by simp,eS,by omega,by omega⟩
 ·by_cases az:e.1<i
  ·obtain⟨G,aE,a2⟩:=h.all e az;exact⟨G,by rw[FH,FH];exact .inl (.inl aE),a2⟩
  ·obtain⟨j,b⟩:=e;simp only at aQ az;obtain rfl:j=i:=(by omega);cases b
   ·exact⟨-1-(j:Int),by rw[eS,FH];exact .inr ⟨rfl,rfl⟩,afP j⟩
   ·exact⟨(j:Int),by rw[eD,FH,FH];exact .inl (.inr ⟨rfl,rfl⟩),afO j⟩
 ·have A:= @acX (eK o a.f (o a.f++[(i:Int)])) a.t (-1-(i:Int)) x;have D:= @acX o a.f (i:Int) x;have:=h.len x;omega
theorem qo.bD{o:Int->List Int}{e9 aA bk:Nat}{aN:Int->Nat}{m U:H}(h:qo o e9 aA bk aN m)(aB: ∀b x,m.I b=some x->U.I b=some x):qo o e9 aA bk aN U:=
 ⟨aB _ _ h.bf,λk S bG=>⟨aB _ _ (h.I k S bG).1,(h.I k S bG).2⟩,h.inj⟩
set_option maxRecDepth 20000 in
theorem an0{n:dH}(ch:n.iN){aA:Nat}(eH:n.dQ=aA){aj:List Int}{v:Value}{cB cL e9 bk:Nat}{eA:H}(M:m0 eA v n.bp)(oH:eA.I cB=some ⟨[E n.dQ,E n.dI,E n.eT,v,.slice (some ⟨cL,0,none⟩) aj.length 1,.slice (some ⟨e9,0,none⟩) aA 1],true⟩)(yu:e9<bk)(gO:cB<bk)(Ei:cB≠e9)(Qc: ∀b l c,v= .slice (some ⟨b,0,none⟩) l c->b<bk/\b≠e9){Q:cM->aC->H->Prop}:
 ∀(r i:Nat) (m:H) (z:aC) (o:Int->List Int) (aN:Int->Nat),i+r=n.bp.length->bk<=m.next->(∀b,b<bk->b≠e9->m.I b=eA.I b)->qo o e9 aA bk aN m->Ga n i o->
 z 26=v->z 27=E n.bp.length->z 28=E i->z 6=bH cB->
 (∀K U o' s0,(∀t,t<7->K t=z t)->m.next<=U.next->(∀b,b<bk->b≠e9->U.I b=eA.I b)->qo o' e9 aA bk s0 U->Ga n n.bp.length o'->Q (.cH 0) K U)->fG N (.loop XW) z m Q
 | 0,i,m,z,o,aN,W,lE,p3,gX,jc,oL,pj,TG,bB,bb=>by refine j7 λbM a1=> ?_;have A: ¬i<n.bp.length:=(by omega);obtain rfl:i=n.bp.length:=(by omega);simp[aiK,pj,TG];exact bb _ _ o aN (λt ba=>by simp(disch:=omega) only[me]) (c8 _) p3 gX jc
 | r+1,i,m,z,o,aN,W,lE,p3,gX,jc,oL,pj,TG,bB,bb=>by
   refine j7 λbM a1=> ?_;have A:i<n.bp.length:=(by omega);obtain⟨a,aa⟩: ∃a,n.bp[i]?=some a:=⟨n.bp[i]'A,by simp⟩;obtain⟨c,rP,rfl,ar⟩:=M.hI A;obtain⟨awC,awD⟩:=Qc _ _ _ rfl;have mL:=p3 c awC awD;rw[ar]at mL;have ye:=p3 cB gO Ei;rw[oH]at ye;have hb:i*4+4<=n.bp.length*4:=(by omega);have ji:=Bb aa;have fl:=ch.sh;obtain⟨bt,bR,a3,a4⟩:=ch.qu a (fr aa);have br:=fz (n:=i) (by omega);have yB:=aM mL;have cl:=aM ye;simp(disch:=first|omega|simp only[bE];omega) [aiK,oL,pj,TG,A,mL,hb,ji,gL];have Cu: ∀b x,m.I b=some x->((m.b0 6).aO (m.next+3) (some ⟨[E a.f,E a.t,E a.c,E a.k],true⟩)).I b=some x:= λb x hb=>by have:=aM hb;rw[a7 (by omega),cJ this,hb]
   have PF: ∀k:Nat,k<aA->o k≠[]->aN k<m.next/\bk<=aN k:= λk S bG=>⟨aM (gX.I k S bG).1,(gX.I k S bG).2⟩
   have aRC:=aM gX.bf;refine ay4 (a:=a) (o:=o) (aN:=aN) (jC:=m.next+3) (i:=i) ch eH (by omega) (Cu _ _ ye) (cx (by simp)) (gX.bD Cu) yu gO Ei (by simp only[eJ,fp];omega) bt (by have:=jc.len a.f;omega) (λk S bG=>by have:=PF k S bG;omega) (by omega) (by simp[bB]) (by simp) (by simp) λbQ bn ael aE a2 cj dy fB=> ?_;simp only[eJ,fp]at a2;simp only[NX];have avm:bn.I (m.next+3)=some ⟨gL a,true⟩:=by rw[cj _ (by simp only[eJ,fp];omega) (by omega) (λk S bG=>by have:=PF k S bG;omega)];exact cx (by simp)
   have awv:bn.I cB=some ⟨[E n.dQ,E n.dI,E n.eT,.slice (some ⟨c,0,none⟩) n.bp.length 4,.slice (some ⟨cL,0,none⟩) aj.length 1,.slice (some ⟨e9,0,none⟩) aA 1],true⟩:=(by rw[cj _ (by simp only[eJ,fp];omega) Ei (λk S bG=>by have:=PF k S bG;omega)];exact Cu _ _ ye);refine ay5 (a:=a) (aN:=ael) (jC:=m.next+3) (i:=i) ch eH (by omega) awv avm dy yu gO Ei (by omega) bR (by have:=jc.len a.t;have:= @acX o a.f (i:Int) a.t;omega) fB (by omega) (by rw[aE 6 (by omega)];simp[bB]) (by rw[aE 8 (by omega)];simp) (by rw[aE 7 (by omega)];simp) λc6 cI ara eD eS gN f4 f5=> ?_;have q: ∀t,t<33->c6 t=bQ t:= λt ba=>eD t (by omega);have aEt:c6 28=E i:=(by rw[q 28 (by omega),aE 28 (by omega)];simp[TG]);have aEr:c6 26= .slice (some ⟨c,0,none⟩) n.bp.length 4:=(by rw[q 26 (by omega),aE 26 (by omega)];simp[oL]);have aEs:c6 27=E n.bp.length:=(by rw[q 27 (by omega),aE 27 (by omega)];simp[pj]);have mS:c6 6=bH cB:=(by rw[q 6 (by omega),aE 6 (by omega)];simp[bB]);have yW: ∀t,t<7->c6 t=z t:= λt ba=>by rw[q t (by omega),aE t (by omega)];simp(disch:=omega) only[me]
   simp[aEt,br];have avM: ∀k:Nat,k<aA->eK o a.f (o a.f++[(i:Int)]) k≠[]->bk<=ael k:= λk S bG=>(dy.I k S bG).2;refine a1 _ _ (an0 ch eH M oH yu gO Ei Qc r (i+1) cI _ _ ara (by omega) (by omega) (λb wU tj=> ?_) f4 (jc.step aa (by omega)) (by simp[aEr]) (by simp[aEs]) (by simp) (by simp[mS]) (λK U o' s0 aD aJ cg gA jj=>bb K U o' s0 (λt ba=> ?_) (by omega) cg gA jj))
   ·rw[gN b (by omega) tj (λk S bG=>by have:=avM k S bG;omega),cj b (by simp only[eJ,fp];omega) tj (λk S bG=>by have:=PF k S bG;omega)];rw[a7 (by omega),cJ (by omega)];exact p3 b wU tj
   ·rw[aD t ba];simp(disch:=omega) only[me];exact yW t ba
theorem afj{s ih:Int->Bool}: ∀(l:List c4),(∀a∈l,s a.f=ih a.f/\s a.t=ih a.t)->mi l s=mi l ih
 |[],_=>rfl
 | a::l,h=>by obtain⟨A,D⟩:=h a (by simp);simp only[mi,A,D,afj l (λb hb=>h b (by simp[hb]))]
def x0(aA:Nat)(cb:Int->Bool):List Bool:=(List.range aA).map λ(x:Nat)=>cb x
theorem Vp{aA:Nat}{cb:Int->Bool}:(x0 aA cb).length=aA:=by simp[x0]
theorem afH{aA:Nat}{cb:Int->Bool}:kq aA cb=(x0 aA cb).map (Value.bool ·):=by simp[kq,x0]
theorem Pd{aA:Nat}{cb:Int->Bool}{x:Int}(bY:0<=x)(A:x<aA):Dy (x0 aA cb) x=cb x:=by
 unfold Dy x0;obtain⟨k,rfl⟩: ∃k:Nat,x=k:=⟨x.toNat,by omega⟩;have S:k<aA:=by omega
 simp[nQ,S]
set_option maxRecDepth 20000 in
theorem aHk{n:dH}(ch:n.iN){aA:Nat}(eH:n.dQ=aA){v:Value}{cB cL e9 nb bk:Nat}{eA:H}(qJ:eA.next<=cL)(A:cB≠cL)(D: ∀b l c,v= .slice (some ⟨b,0,none⟩) l c->b≠cL)(ai:e9≠cL)(aT:cL<bk)(bF:nb≠cL)
 {jd:Int->List Int} {aN:Int->Nat} (jc:Ga n n.bp.length jd) {Q:cM->aC->H->Prop}:
 ∀(aR:Nat) (aj:List Int) (m:H) (z:aC),5368709117500-value n aj<=aR->mE n aj->0<=value n aj->fx eA m->rp n aj v cB cL e9 aA m->qo jd e9 aA bk aN m->m.I nb=some ⟨ma n v,true⟩->
 z 1=bH nb->z 6=bH cB->z 9=E (value n aj)->
 (∀K U vr cb dO,fx eA U->mE n vr->U.I cL=some ⟨vr.map (Value.int .i64 ·),true⟩->U.I dO=some ⟨kq aA cb,true⟩->value n vr=mi n.bp cb->cb n.dI=true->cb n.eT=false->eA.next<=dO->dO≠cL->
  K 2= .slice (some ⟨cL,0,none⟩) vr.length 1->K 3=E (value n vr)->K 4= .slice (some ⟨dO,0,none⟩) aA 1->K 5=E 0->Q .e3 K U)->fG N (.loop QH) z m Q:=by
 intro aR;induction aR with
 | zero=>
   intro aj m z dz a5 BQ aB cc gX w0 aU bB cP bb;refine j7 λbM a1=> ?_;have awg:=aB;have Wa:=gX.an1;have WD:=aM cc.f;have zO:Oy n jd:=⟨λx _ G bw=>jc.Gy x G bw,λe aQ=>jc.all e aQ⟩;simp[QH,bB];refine(aoD ch eH a5.kK cc Wa zO (λx=>by have:=jc.len x;have:=ch.sh;omega)).bD λr bn Z=> ?_;obtain⟨yo,eh,dO,dT,cb,rfl,ya,BI,lg,oD,b9⟩:=Z;have Bz:=cc.bD yo;have W4:=Bz.s;have x8:qo jd e9 aA bk aN bn:=gX.bD (λb x hb=>yo.some hb);have GP:=yo.some w0;obtain⟨bj,eC⟩:=ch.eT;obtain⟨k,S⟩: ∃k:Nat,n.eT=k:=⟨n.eT.toNat,by omega⟩;have t3:n.eT.toNat=k:=(by omega);have t4:k<aA:=(by omega);have nL:n.eT<(aA:Int):=(by omega);have sP:k+1<=aA:=t4;have lj:(k:Int)=n.eT:=S.symm;have n8:(kq aA cb)[k]?=some (.bool (cb n.eT)):=(by rw[Dp t4,lj]);have KD: ∀h,(kq aA cb)[k]'h= .bool (cb n.eT):= λh=>by rw[Dq,lj]
   cases nD:cb n.eT
   ·simp[oD,GP,W4,bj,t3,nL,sP,n8,fC,nD,aU,bB,cP];exact bb _ _ aj cb dO (aB.trans yo) a5 Bz.f oD (b9.CA.Ts ch a5 nD) b9.dI nD (by have:=aB.next;omega) (by omega) (by simp) (by simp[]) (by simp) (by simp)
   simp[oD,GP,bj,t3,nL,sP,n8,fC,nD,aU,bB,cP];obtain⟨l,Z,al,eW⟩:=b9.CA.path nD;refine(aeR ch eH a5.kK Bz lg A D (by omega) Z al eW).bD λr qV WR=> ?_;obtain⟨d,rfl,ag5,BF,rfl⟩:=WR;have p1:=OL ch a5 Z (d:=d) (by omega) BF eW;have Xa:=FV ch p1.1;have awF:=FV ch a5;have gY:(qa aj l d).length=aj.length:=(by rw[p1.1.kK.1,a5.kK.1]);have ct:IntKind.i64.wrap (value n aj+d)=value n aj+d:=cY (by omega) (by omega);simp[ct];exfalso;have:=FV ch p1.1;omega
 | succ aR cf=>
   intro aj m z dz a5 BQ aB cc gX w0 aU bB cP bb;refine j7 λbM a1=> ?_;have awg:=aB;have Wa:=gX.an1;have WD:=aM cc.f;have zO:Oy n jd:=⟨λx _ G bw=>jc.Gy x G bw,λe aQ=>jc.all e aQ⟩;simp[QH,bB];refine(aoD ch eH a5.kK cc Wa zO (λx=>by have:=jc.len x;have:=ch.sh;omega)).bD λr bn Z=> ?_;obtain⟨yo,eh,dO,dT,cb,rfl,ya,BI,lg,oD,b9⟩:=Z;have Bz:=cc.bD yo;have W4:=Bz.s;have x8:qo jd e9 aA bk aN bn:=gX.bD (λb x hb=>yo.some hb);have GP:=yo.some w0;obtain⟨bj,eC⟩:=ch.eT;obtain⟨k,S⟩: ∃k:Nat,n.eT=k:=⟨n.eT.toNat,by omega⟩;have t3:n.eT.toNat=k:=(by omega);have t4:k<aA:=(by omega);have nL:n.eT<(aA:Int):=(by omega);have sP:k+1<=aA:=t4;have lj:(k:Int)=n.eT:=S.symm;have n8:(kq aA cb)[k]?=some (.bool (cb n.eT)):=(by rw[Dp t4,lj]);have KD: ∀h,(kq aA cb)[k]'h= .bool (cb n.eT):= λh=>by rw[Dq,lj]
   cases nD:cb n.eT
   ·simp[oD,GP,W4,bj,t3,nL,sP,n8,fC,nD,aU,bB,cP];exact bb _ _ aj cb dO (aB.trans yo) a5 Bz.f oD (b9.CA.Ts ch a5 nD) b9.dI nD (by have:=aB.next;omega) (by omega) (by simp) (by simp[]) (by simp) (by simp)
   simp[oD,GP,bj,t3,nL,sP,n8,fC,nD,aU,bB,cP];obtain⟨l,Z,al,eW⟩:=b9.CA.path nD;refine(aeR ch eH a5.kK Bz lg A D (by omega) Z al eW).bD λr qV WR=> ?_;obtain⟨d,rfl,ag5,BF,rfl⟩:=WR;have p1:=OL ch a5 Z (d:=d) (by omega) BF eW;have Xa:=FV ch p1.1;have awF:=FV ch a5;have gY:(qa aj l d).length=aj.length:=(by rw[p1.1.kK.1,a5.kK.1]);have ct:IntKind.i64.wrap (value n aj+d)=value n aj+d:=cY (by omega) (by omega);simp[ct];refine a1 _ _ (cf _ _ _ (by rw[p1.2];omega) p1.1 (by rw[p1.2];omega) ((aB.trans yo).aO qJ) (Bz.aoo A D gY) ?_ (by rw[a7 bF];exact GP) (by simp[aU]) (by simp[bB]) (by simp[p1.2]) bb);refine⟨by rw[a7 ai];exact x8.bf,λk S bG=> ?_,x8.inj⟩;obtain⟨aE,a2⟩:=x8.I k S bG;exact⟨by rw[a7 (by omega)];exact aE,a2⟩
theorem asZ{n:dH}(ch:n.iN){aA:Nat}(eH:n.dQ=aA){cb:Int->Bool}:mi n.bp (Dy (x0 aA cb))=mi n.bp cb:=by rw[afj n.bp (ih:=cb)];intro a aa;obtain⟨⟨bt,bR⟩,⟨a3,a4⟩,_⟩:=ch.qu a aa;exact⟨Pd bt (by omega),Pd a3 (by omega)⟩
structure Gd(n:dH)(aj:List Int)(iZ:List Bool):Prop where
 Pt:mE n aj
 len:(iZ.length:Int)=n.dQ
 dI:Dy iZ n.dI=true
 eT:Dy iZ n.eT=false
 val:value n aj=mi n.bp (Dy iZ)
def US(n:dH)(m:H)(r:Value)(U:H):Prop:=fx m U/\ ∃(aj:List Int) (iZ:List Bool) (cL dO:Nat),r= .tuple #[.slice (some ⟨cL,0,none⟩) aj.length 1,E (value n aj),.slice (some ⟨dO,0,none⟩) iZ.length 1,E 0]/\m.next<=cL/\m.next<=dO/\dO≠cL/\U.I cL=some ⟨aj.map (Value.int .i64 ·),true⟩/\U.I dO=some ⟨iZ.map (Value.bool ·),true⟩/\Gd n aj iZ
theorem apC{n:dH}(ch:n.iN){aA:Nat}(eH:n.dQ=aA){cb:Int->Bool}{aj:List Int}(h:mE n aj)(A:cb n.dI=true)(D:cb n.eT=false)(ai:value n aj=mi n.bp cb):Gd n aj (x0 aA cb):=by obtain⟨aU,bS⟩:=ch.dI;obtain⟨bj,eC⟩:=ch.eT;exact⟨h,by rw[Vp,eH],by rw[Pd aU (by omega)];exact A,by rw[Pd bj (by omega)];exact D,by rw[asZ ch eH];exact ai⟩
set_option maxRecDepth 20000 in
theorem aHl{n:dH}(qG:n.iN){v:Value}{m:H}(M:m0 m v n.bp):ep N 125 [E8 n v] m (US n m):=by
 rw[asC (by simp)];obtain⟨di,gO⟩:=M.len;have eE:fx m ((m.b0 5).aO m.next (some ⟨ma n v,true⟩)):=((fx.refl m).b0 5).aO (c8 _);simp(disch:=first|omega|simp only[bE];omega) [XV];refine(aId (M.bD eE)).bD λr cI Z=> ?_;obtain⟨rfl,aB⟩:=Z;have iz:=eE.trans aB;have aH:cI.I m.next=some ⟨ma n v,true⟩:=aB.some (cx (by simp))
 have WC:=aM aH;have vJ:=iz.next
 have ch:=Tk.2 qG;have qQ:=M.bD iz;obtain⟨aA,eH⟩: ∃aA:Nat,n.dQ=aA:=⟨n.dQ.toNat,by have:=qG.ee;omega⟩;have zN:n.dQ.toNat=aA:=by omega
 have dU:=qG.Ar;have fl:=qG.sh;have z0:0<=n.dQ:=by omega
 have hY:n.dQ*24<=140737488355328:=by omega
 have jA:n.dQ<=9223372036854775807:=by omega
 have z3:(n.bp.length:Int)*8<=140737488355328:=by omega
 have z4:(n.bp.length:Int)<=9223372036854775807:=by omega
 have ra:n.bp.length*8<=140737488355328:=by omega
 have sV:n.bp.length<=9223372036854775807:=by omega
 simp(disch:=first|omega|simp only[bE];omega) [ch,aH,di,gO,zN,z0,hY,jA,z3,z4];obtain⟨G2,w8⟩:=aq7 qG;generalize Kd:(((cI.b0 11).aO (cI.next+4) (some ⟨List.replicate n.bp.length (Value.int .i64 0),true⟩)).aO (cI.next+7) (some ⟨List.replicate aA (Value.slice none 0 0),true⟩)).aO (cI.next+9) (some ⟨[E n.dQ,E n.dI,E n.eT,v,.slice (some ⟨cI.next+4,0,none⟩) n.bp.length 1,.slice (some ⟨cI.next+7,0,none⟩) aA 1],true⟩)=A6;have aPc:A6.next=cI.next+11:=by rw[<-Kd];simp
 have ahy:fx cI A6:=⟨by omega,λb hb=>by rw[<-Kd];simp(disch:=first|omega|(simp only[eJ,fp];omega)) only[a7,cJ]⟩;have hr:A6.I (cI.next+9)=some ⟨[E n.dQ,E n.dI,E n.eT,v,.slice (some ⟨cI.next+4,0,none⟩) n.bp.length 1,.slice (some ⟨cI.next+7,0,none⟩) aA 1],true⟩:=by rw[<-Kd];simp(disch:=first|omega|(simp only[eJ,fp];omega)) only[cx]
 have eZ:A6.I (cI.next+4)=some ⟨List.replicate n.bp.length (Value.int .i64 0),true⟩:=by rw[<-Kd];simp(disch:=first|omega|(simp only[eJ,fp];omega)) only[cx,a7]
 have auY:A6.I (cI.next+7)=some ⟨List.replicate aA (Value.slice none 0 0),true⟩:=by rw[<-Kd];simp(disch:=first|omega|(simp only[eJ,fp];omega)) only[cx,a7]
 have qP:List.replicate aA (Value.slice none 0 0)=rX aA (λ_=>[]) (λ_=>0):=by apply AZ<;>simp[rX,q5]
 have BS: ∀b l c,v= .slice (some ⟨b,0,none⟩) l c->b<cI.next:=by
  intro b l c aQ;rcases qQ with⟨h,_⟩|⟨cw,o,h,hb⟩
  ·rw[h]at aQ;cases aQ
  ·rw[h]at aQ;cases aQ;exact aM hb
 refine an0 qG eH (aj:=List.replicate n.bp.length 0) (v:=v) (cB:=cI.next+9) (cL:=cI.next+4) (e9:=cI.next+7) (bk:=cI.next+11) (eA:=A6) (qQ.bD ahy) (by rw[hr,I3]) (by omega) (by omega) (by omega) (λb l c aQ=>by have:=BS b l c aQ;omega) n.bp.length 0 A6 _ (λ_=>[]) (λ_=>0) (by omega) (by omega) (λ_ _ _=>rfl) ⟨by rw[auY,qP],λk S bG=>absurd rfl bG,λk e7 S lj zX A=>absurd rfl A⟩ ⟨λx G bw=>by simp at bw,λe aQ=>by omega,λx=>by simp⟩ (by simp) (by simp[]) (by simp) (by simp) (λK U o' s0 aD aJ cg gA jj=> ?_);have a8:K 1=bH m.next:=by rw[aD 1 (by omega)];simp
 have mS:K 6=bH (cI.next+9):=by rw[aD 6 (by omega)];simp
 have aa0:fx cI U:=⟨by omega,λb hb=>by rw[cg b (by omega) (by omega),ahy.I b hb]⟩;have cc:rp n (List.replicate n.bp.length 0) v (cI.next+9) (cI.next+4) (cI.next+7) aA U:=by refine⟨by rw[cg _ (by omega) (by omega),hr,I3],qQ.bD aa0,?_⟩;rw[cg _ (by omega) (by omega),eZ,List.map_replicate]
 simp(disch:=omega) [];refine aHk qG eH (v:=v) (cB:=cI.next+9) (cL:=cI.next+4) (e9:=cI.next+7) (nb:=m.next) (bk:=cI.next+11) (eA:=cI) (by omega) (by omega) (λb l c aQ=>by have:=BS b l c aQ;omega) (by omega) (by omega) (by omega) jj 5368709117500 (List.replicate n.bp.length 0) U _ (by rw[w8];omega) G2 (by rw[w8];omega) aa0 cc gA (aa0.some aH) (by simp[a8]) (by simp[mS]) (by simp[w8]) (λk9 vV vr cb dO eD eS gN f4 f5 Po DH oQ pT Bp f9 VK aga=> ?_);simp(disch:=omega) [Bp,f9,VK,aga];have kh:=iz.next
 exact⟨iz.trans eD,vr,x0 aA cb,_,dO,by rw[Vp],by omega,by omega,pT,gN,by rw[f4,afH],apC qG eH eS Po DH f5⟩
def lZ(L:Nat)(G:Int):hz:=if G<0 then(L,false)else if G<L then(G.toNat,true)else((G-L).toNat,false)
theorem atm{L i:Nat}(h:i<L):lZ L (i:Int)=(i,true):=by
 have bY: ¬(i:Int)<0:=by omega
 have:(i:Int)<L:=by omega
 simp only[lZ,bY,this,if_false,if_true,ns]
theorem atl{L i:Nat}:lZ L ((L:Int)+i)=(i,false):=by
 have bY: ¬(L:Int)+i<0:=by omega
 have h: ¬((L:Int)+i<L):=by omega
 have D:((L:Int)+i-L).toNat=i:=by omega
 simp only[lZ,bY,h,if_false,D]
theorem afN{L:Nat}{G:Int}(h:(lZ L G).1<L):(∃i:Nat,i<L/\G=i/\lZ L G=(i,true))\/(∃i:Nat,i<L/\G=(L:Int)+i/\lZ L G=(i,false)):=by
 by_cases bY:G<0
 ·simp only[lZ,bY,if_true]at h;omega
 ·by_cases A:G<L
  ·exact .inl ⟨G.toNat,by omega,by omega,by simp only[lZ,bY,A,if_false,if_true]⟩
  ·have e:lZ L G=((G-L).toNat,false):=(by simp only[lZ,bY,A,if_false]);rw[e]at h;exact .inr ⟨(G-L).toNat,h,by omega,e⟩
def HA:aw:= .ky (.kl [
 ⟨0,some 45,none,.ks 0 (.tmp 11),[]⟩,
 ⟨1,some 46,none,.g4 false 1 (.tmp 45),[]⟩,
 ⟨2,some 47,none,.hs (.tmp 9),[]⟩,
 ⟨3,some 48,none,.nY .eql .sC (.tmp 46) (.tmp 47),[]⟩,
 ⟨4,some 49,none,.hs (.tmp 48),[]⟩,
 ⟨5,some 50,some (49,true),.hs (.tmp 6),[]⟩,
 ⟨6,some 51,some (49,true),.ks 1 (.tmp 11),[]⟩,
 ⟨7,some 52,some (49,true),.g4 false 1 (.tmp 51),[]⟩,
 ⟨8,some 53,some (49,true),.mP 1 (.tmp 50) (.tmp 52),[]⟩,
 ⟨9,some 54,some (49,true),.g4 false 1 (.tmp 53),[]⟩,
 ⟨10,some 55,some (49,true),.y5 .not (.tmp 54),[]⟩,
 ⟨11,some 56,none,.uV (.tmp 49) (.tmp 55) (.const (.bool false)),[]⟩,
 ⟨12,some 57,none,.hs (.tmp 56),[]⟩,
 ⟨13,some 58,some (57,true),.hs (.tmp 1),[]⟩,
 ⟨14,some 59,some (57,true),.hs (.tmp 10),[]⟩,
 ⟨15,some 60,some (57,true),.mP 1 (.tmp 58) (.tmp 59),[]⟩,
 ⟨16,some 61,some (57,true),.g4 false 1 (.tmp 60),[]⟩,
 ⟨17,some 62,some (57,true),.ks 2 (.tmp 11),[]⟩,
 ⟨18,some 63,some (57,true),.g4 false 1 (.tmp 62),[]⟩,
 ⟨19,some 64,some (57,true),.nY .lss .sC (.tmp 61) (.tmp 63),[]⟩,
 ⟨20,some 65,none,.uV (.tmp 57) (.tmp 64) (.const (.bool false)),[]⟩]) (.nx (.tmp 65) (.ky (.kl [
  ⟨0,some 66,none,.hs (.tmp 6),[]⟩,
  ⟨1,some 67,none,.ks 1 (.tmp 11),[]⟩,
  ⟨2,some 68,none,.g4 false 1 (.tmp 67),[]⟩,
  ⟨3,some 69,none,.hs (.tmp 7),[]⟩,
  ⟨4,some 70,none,.ks 1 (.tmp 11),[]⟩,
  ⟨5,some 71,none,.g4 false 1 (.tmp 70),[]⟩,
  ⟨6,some 72,none,.hs (.tmp 10),[]⟩,
  ⟨7,some 73,none,.mP 1 (.tmp 66) (.tmp 68),[]⟩,
  ⟨8,none,none,.store 1 (.tmp 73) (.const (.bool true)),[(.tmp 70,.tmp 73)]⟩,
  ⟨9,some 74,none,.mP 1 (.tmp 69) (.tmp 71),[]⟩,
  ⟨10,none,none,.store 1 (.tmp 74) (.tmp 72),[]⟩]) (.kl [
  ⟨0,some 75,none,.hs (.tmp 8),[]⟩,
  ⟨1,some 76,none,.ks 1 (.tmp 11),[]⟩,
  ⟨2,some 77,none,.g4 false 1 (.tmp 76),[]⟩,
  ⟨3,some 78,none,.mh 1 1 [.int .i64 0] [(0,1,.tmp 77)],[]⟩,
  ⟨4,some 79,none,.app 1 8 (.tmp 75) (.tmp 78),[]⟩,
  ⟨5,some 8,none,.hs (.tmp 79),[]⟩])) (.skip))
def HB:aw:= .ky (.kl [
 ⟨0,some 80,none,.ks 1 (.tmp 11),[]⟩,
 ⟨1,some 81,none,.g4 false 1 (.tmp 80),[]⟩,
 ⟨2,some 82,none,.hs (.tmp 9),[]⟩,
 ⟨3,some 83,none,.nY .eql .sC (.tmp 81) (.tmp 82),[]⟩,
 ⟨4,some 84,none,.hs (.tmp 83),[]⟩,
 ⟨5,some 85,some (84,true),.hs (.tmp 6),[]⟩,
 ⟨6,some 86,some (84,true),.ks 0 (.tmp 11),[]⟩,
 ⟨7,some 87,some (84,true),.g4 false 1 (.tmp 86),[]⟩,
 ⟨8,some 88,some (84,true),.mP 1 (.tmp 85) (.tmp 87),[]⟩,
 ⟨9,some 89,some (84,true),.g4 false 1 (.tmp 88),[]⟩,
 ⟨10,some 90,some (84,true),.y5 .not (.tmp 89),[]⟩,
 ⟨11,some 91,none,.uV (.tmp 84) (.tmp 90) (.const (.bool false)),[]⟩,
 ⟨12,some 92,none,.hs (.tmp 91),[]⟩,
 ⟨13,some 93,some (92,true),.hs (.tmp 1),[]⟩,
 ⟨14,some 94,some (92,true),.hs (.tmp 10),[]⟩,
 ⟨15,some 95,some (92,true),.mP 1 (.tmp 93) (.tmp 94),[]⟩,
 ⟨16,some 96,some (92,true),.g4 false 1 (.tmp 95),[]⟩,
 ⟨17,some 97,some (92,true),.nY .gtr .sC (.tmp 96) (.const (.int .i64 0)),[]⟩,
 ⟨18,some 98,none,.uV (.tmp 92) (.tmp 97) (.const (.bool false)),[]⟩]) (.nx (.tmp 98) (.ky (.kl [
  ⟨0,some 99,none,.hs (.tmp 6),[]⟩,
  ⟨1,some 100,none,.ks 0 (.tmp 11),[]⟩,
  ⟨2,some 101,none,.g4 false 1 (.tmp 100),[]⟩,
  ⟨3,some 102,none,.hs (.tmp 7),[]⟩,
  ⟨4,some 103,none,.ks 0 (.tmp 11),[]⟩,
  ⟨5,some 104,none,.g4 false 1 (.tmp 103),[]⟩,
  ⟨6,some 105,none,.ks 3 (.tmp 2),[]⟩,
  ⟨7,some 106,none,.g4 false 1 (.tmp 105),[]⟩,
  ⟨8,some 107,none,.uS (.tmp 106),[]⟩,
  ⟨9,some 108,none,.hs (.tmp 10),[]⟩,
  ⟨10,some 109,none,.nY .add .sC (.tmp 107) (.tmp 108),[]⟩,
  ⟨11,some 110,none,.mP 1 (.tmp 99) (.tmp 101),[]⟩,
  ⟨12,none,none,.store 1 (.tmp 110) (.const (.bool true)),[(.tmp 105,.tmp 110),(.tmp 103,.tmp 110)]⟩,
  ⟨13,some 111,none,.mP 1 (.tmp 102) (.tmp 104),[]⟩,
  ⟨14,none,none,.store 1 (.tmp 111) (.tmp 109),[]⟩]) (.kl [
  ⟨0,some 112,none,.hs (.tmp 8),[]⟩,
  ⟨1,some 113,none,.ks 0 (.tmp 11),[]⟩,
  ⟨2,some 114,none,.g4 false 1 (.tmp 113),[]⟩,
  ⟨3,some 115,none,.mh 1 1 [.int .i64 0] [(0,1,.tmp 114)],[]⟩,
  ⟨4,some 116,none,.app 1 8 (.tmp 112) (.tmp 115),[]⟩,
  ⟨5,some 8,none,.hs (.tmp 116),[]⟩])) (.skip))
theorem ai6:X8=(.ky (.ky (.kl [
 ⟨0,some 33,none,.hs (.tmp 10),[]⟩,
 ⟨1,some 34,none,.ks 3 (.tmp 2),[]⟩,
 ⟨2,some 35,none,.g4 false 1 (.tmp 34),[]⟩,
 ⟨3,some 36,none,.uS (.tmp 35),[]⟩,
 ⟨4,some 37,none,.nY .lss .sC (.tmp 33) (.tmp 36),[]⟩]) (.nx (.tmp 37) (.skip) (.cH 2))) (.ky (.block 3 (.ky (.kl [
 ⟨0,some 40,none,.ks 3 (.tmp 2),[]⟩,
 ⟨1,some 41,none,.g4 false 1 (.tmp 40),[]⟩,
 ⟨2,some 42,none,.hs (.tmp 10),[]⟩,
 ⟨3,some 43,none,.mP 4 (.tmp 41) (.tmp 42),[]⟩,
 ⟨4,some 44,none,.g4 true 4 (.tmp 43),[]⟩,
 ⟨5,some 11,none,.nu [.int .i64 0,.int .i64 0,.int .i64 0,.int .i64 0],[]⟩,
 ⟨6,none,none,.store 4 (.tmp 11) (.tmp 44),[]⟩]) (.ky (HA) (HB)))) (.kl [
 ⟨0,some 38,none,.hs (.tmp 10),[]⟩,
 ⟨1,some 39,none,.nY .add .sC (.tmp 38) (.const (.int .i64 1)),[]⟩,
 ⟨2,some 10,none,.hs (.tmp 39),[]⟩])):aw):=rfl
set_option maxRecDepth 20000 in
theorem azE{n:dH}(ch:n.iN){aA:Nat}(eH:n.dQ=aA){aj:List Int}{ej:Bool}{cL jC eh dO gJ off bk:Nat}{iV:List Value}{q:List Int}{cb:Int->Bool}{dT:Int->Int}{m:H}{z:aC}{i:Nat}{a:c4}{bc x:Int}
 (aa:n.bp[i]?=some a) (en:aj[i]?=some bc) (c0:xV aA eh dO gJ off iV q cb dT m) (b9:lx n aj cb (λx=>lZ n.bp.length (dT x)) (x::q)) (oG:bk<=gJ) (lE:bk<=m.next) (yq:q.length<=100000)
 (oX:m.I jC=some ⟨gL a,true⟩) (qJ:m.I cL=some ⟨aj.map (Value.int .i64 ·),ej⟩) (oQ:jC≠dO) (pT:jC≠eh) (nO:jC≠gJ) (sT:cL≠dO) (AS:cL≠eh) (Oa:cL≠gJ)
 (aU:z 1= .slice (some ⟨cL,0,none⟩) aj.length 1) (bB:z 6= .slice (some ⟨dO,0,none⟩) aA 1) (ca:z 7= .slice (some ⟨eh,0,none⟩) aA 1) (bl:z 8= .slice (some ⟨gJ,off,none⟩) q.length 1) (cP:z 9=E x) (e4:z 10=E i) (gn:z 11=bH jC) {Q:cM->aC->H->Prop}
 (bb: ∀K U mc o9 rU new jr kY,(∀t,t<45->t≠8->K t=z t)->K 8= .slice (some ⟨mc,o9,none⟩) (q++new).length 1->xV aA eh dO mc o9 rU (q++new) jr kY U->lx n aj jr (λx=>lZ n.bp.length (kY x)) (x::(q++new))->new.length+m3 jr aA=m3 cb aA->(∀y,cb y=true->jr y=true)->(0<cN n aj (i,true)->gC n (i,true)=x->jr (hX n (i,true))=true)->
  (∀c,c<m.next->c≠eh->c≠dO->c≠gJ->U.I c=m.I c)->m.next<=U.next->bk<=mc->(mc=gJ\/m.next<=mc)->Q .eB K U):fG N HA z m Q:=by
 obtain⟨hb,aQ,bo,vP,n7,dY,ee,l9⟩:=c0;have wY:=(cG.1 aa).1;have fl:=ch.sh;have dJ:=(cG.1 en).1;have kF:i+1<=aj.length:=dJ;have nF: ∀h,aj[i]'h=bc:= λh=>by rw[c1 h]at en;simpa using en
 obtain⟨a8,bV,_⟩:=ch.qu a (fr aa);have u4:gC n (i,true)=a.f:=by simp[gC,aa]
 have xE:hX n (i,true)=a.t:=by simp[hX,aa]
 have z6:cN n aj (i,true)=a.c-bc:=by simp[cN,aa,en]
 obtain⟨bj,eC⟩:n.hN a.t:=by assumption
 obtain⟨eD,eS⟩:n.hN a.f:=by assumption
 rw[eH]at eC eS;obtain⟨k,S⟩: ∃k:Nat,a.t=k:=⟨a.t.toNat,by omega⟩;have pS:a.t.toNat=k:=by omega
 have t3:k<aA:=by omega
 have t4:k+1<=aA:=t3;have n8:(kq aA cb)[k]?=some (.bool (cb a.t)):=by rw[Dp t3,S]
 have KD: ∀h,(kq aA cb)[k]'h= .bool (cb a.t):= λh=>by rw[Dq,S]
 have n9:(jM aA dT)[k]?=some (E (dT k)):=xy t3;have aak:=aM hb;have aal:=aM aQ;have aao:=aM bo;have aaf:=aM oX;have aCq:=aM qJ;by_cases bK:a.f=x
 ·cases cz:cb a.t
  ·by_cases dV:bc<a.c
   ·have hY:(q.length+1)*8<=140737488355328:=(by omega);have jA:q.length+1<=9223372036854775807:=(by omega);simp(disch:=first|omega|simp only[bE];omega) [HA,aU,bB,ca,bl,cP,e4,gn,hb,aQ,bo,vP,n7,oX,qJ,nF,bj,eC,pS,fC,n8,kF,dJ,gL,iX,bne_iff_ne,oQ,Nj,abP,t4,eq_true bK,cz,dV,hY,jA,-v5];refine bb _ _ (m.next+4) 0 (q.map (Value.int .i64 ·)++[E a.t]) [a.t] (eK cb k true) (eK dT k (i:Int)) (λt ba g1=>by simp(disch:=omega) only[me]) (by simp) ⟨by simp(disch:=first|omega|(simp only[eJ,fp];omega)) only[cx,a7,cJ],by simp(disch:=first|omega|(simp only[eJ,fp];omega)) only[cx,a7,cJ],by simp(disch:=first|omega|(simp only[eJ,fp];omega)) only[cx],by simp,by rw[oj,h7 (by simp)];simp,dY,by omega,by omega⟩ ?_ ?_ (λy Y=>by unfold eK;split<;>first|rfl|exact Y) (λ_ _=>by rw[xE,S];unfold eK;rw[if_pos rfl]) (λc A D ai aT=>by simp(disch:=first|omega|(simp only[eJ,fp];omega)) only[a7,cJ]) (by simp only[eJ,fp];omega) (by omega) (.inr (by omega))
    ·have BA:=b9.add (e:=(i,true)) (by rw[z6];omega) (by rw[u4,bK];exact b9.hU x (by simp)) (by rw[xE];exact cz) (by rw[xE];exact⟨bj,by omega⟩);rw[xE,S]at BA;have e:(λx=>lZ n.bp.length (eK dT (k:Int) (i:Int) x))=eK (λx=>lZ n.bp.length (dT x)) (k:Int) (i,true):=by
      funext y;unfold eK;split
      ·exact atm wY
      ·rfl
     rw[e,S];simpa using BA
    ·have:=Dv cb k (by omega) (by rw[<-S];exact cz) aA (by omega);simp;omega
   ·simp(disch:=omega) [HA,aU,bB,cP,e4,gn,aQ,oX,qJ,nF,bj,eC,pS,fC,n8,kF,dJ,gL,iX,t4,eq_true bK,cz,dV,-v5];exact bb _ _ gJ off iV [] cb dT (λt ba g1=>by simp(disch:=omega) only[me]) (by simp[bl]) (by simpa using⟨hb,aQ,bo,vP,n7,dY,ee,l9⟩) (by simpa using b9) (by simp) (λy Y=>Y) (λh _=>by rw[z6]at h;omega) (λc A D ai aT=>rfl) (c8 _) oG (.inl rfl)
  ·simp(disch:=omega) [HA,bB,cP,gn,aQ,oX,bj,eC,pS,fC,n8,gL,iX,t4,eq_true bK,cz,-v5];exact bb _ _ gJ off iV [] cb dT (λt ba g1=>by simp(disch:=omega) only[me]) (by simp[bl]) (by simpa using⟨hb,aQ,bo,vP,n7,dY,ee,l9⟩) (by simpa using b9) (by simp) (λy Y=>Y) (λ_ _=>by rw[xE];exact cz) (λc A D ai aT=>rfl) (c8 _) oG (.inl rfl)
 ·simp(disch:=omega) [HA,cP,gn,oX,gL,iX,bK,-v5];exact bb _ _ gJ off iV [] cb dT (λt ba g1=>by simp(disch:=omega) only[me]) (by simp[bl]) (by simpa using⟨hb,aQ,bo,vP,n7,dY,ee,l9⟩) (by simpa using b9) (by simp) (λy Y=>Y) (λ_ h=>by rw[u4]at h;exact absurd h bK) (λc A D ai aT=>rfl) (c8 _) oG (.inl rfl)
set_option maxRecDepth 20000 in
theorem azF{n:dH}(ch:n.iN){aA:Nat}(eH:n.dQ=aA){aj:List Int}{ej:Bool}{cL jC eh dO gJ off bk nb:Nat}{iV:List Value}{q:List Int}{cb:Int->Bool}{dT:Int->Int}{m:H}{z:aC}{i:Nat}{a:c4}{bc x:Int}
 (aa:n.bp[i]?=some a) (en:aj[i]?=some bc) (c0:xV aA eh dO gJ off iV q cb dT m) (b9:lx n aj cb (λx=>lZ n.bp.length (dT x)) (x::q)) (oG:bk<=gJ) (lE:bk<=m.next) (yq:q.length<=100000)
 (oX:m.I jC=some ⟨gL a,true⟩) (qJ:m.I cL=some ⟨aj.map (Value.int .i64 ·),ej⟩) (oQ:jC≠dO) (pT:jC≠eh) (nO:jC≠gJ) (sT:cL≠dO) (AS:cL≠eh) (Oa:cL≠gJ) {v:Value} (w0:m.I nb=some ⟨ma n v,true⟩) (Qc:fm v=n.bp.length/\iC v=true) (aqM:nb≠dO) (aIK:nb≠eh) (aIL:nb≠gJ)
 (aU:z 1= .slice (some ⟨cL,0,none⟩) aj.length 1) (bB:z 6= .slice (some ⟨dO,0,none⟩) aA 1) (ca:z 7= .slice (some ⟨eh,0,none⟩) aA 1) (bl:z 8= .slice (some ⟨gJ,off,none⟩) q.length 1) (cP:z 9=E x) (e4:z 10=E i) (gn:z 11=bH jC) (bS:z 2=bH nb) {Q:cM->aC->H->Prop}
 (bb: ∀K U mc o9 rU new jr kY,(∀t,t<80->t≠8->K t=z t)->K 8= .slice (some ⟨mc,o9,none⟩) (q++new).length 1->xV aA eh dO mc o9 rU (q++new) jr kY U->lx n aj jr (λx=>lZ n.bp.length (kY x)) (x::(q++new))->new.length+m3 jr aA=m3 cb aA->(∀y,cb y=true->jr y=true)->(0<cN n aj (i,false)->gC n (i,false)=x->jr (hX n (i,false))=true)->
  (∀c,c<m.next->c≠eh->c≠dO->c≠gJ->U.I c=m.I c)->m.next<=U.next->bk<=mc->(mc=gJ\/m.next<=mc)->Q .eB K U):fG N HB z m Q:=by
 obtain⟨hb,aQ,bo,vP,n7,dY,ee,l9⟩:=c0;have wY:=(cG.1 aa).1;have fl:=ch.sh;have dJ:=(cG.1 en).1;have kF:i+1<=aj.length:=dJ;have nF: ∀h,aj[i]'h=bc:= λh=>by rw[c1 h]at en;simpa using en
 obtain⟨a8,bV,_⟩:=ch.qu a (fr aa);have u4:gC n (i,false)=a.t:=by simp[gC,aa]
 have xE:hX n (i,false)=a.f:=by simp[hX,aa]
 have z6:cN n aj (i,false)=bc:=by simp[cN,aa,en]
 obtain⟨bj,eC⟩:n.hN a.f:=by assumption
 obtain⟨eD,eS⟩:n.hN a.t:=by assumption
 rw[eH]at eC eS;obtain⟨k,S⟩: ∃k:Nat,a.f=k:=⟨a.f.toNat,by omega⟩;have pS:a.f.toNat=k:=by omega
 have t3:k<aA:=by omega
 have t4:k+1<=aA:=t3;have n8:(kq aA cb)[k]?=some (.bool (cb a.f)):=by rw[Dp t3,S]
 have KD: ∀h,(kq aA cb)[k]'h= .bool (cb a.f):= λh=>by rw[Dq,S]
 have n9:(jM aA dT)[k]?=some (E (dT k)):=xy t3;have aak:=aM hb;have aal:=aM aQ;have aao:=aM bo;have aaf:=aM oX;have aCq:=aM qJ;obtain⟨di,gO⟩:=Qc;have ct:IntKind.i64.wrap ((n.bp.length:Int)+i)=(n.bp.length:Int)+i:=cY (by omega) (by omega);have aRu:=aM w0;by_cases bK:a.t=x
 ·cases cz:cb a.f
  ·by_cases dV:0<bc
   ·have hY:(q.length+1)*8<=140737488355328:=(by omega);have jA:q.length+1<=9223372036854775807:=(by omega);simp(disch:=first|omega|simp only[bE];omega) [HB,aU,bB,ca,bl,cP,e4,gn,hb,aQ,bo,vP,n7,oX,qJ,nF,bj,eC,pS,fC,n8,kF,dJ,gL,iX,bne_iff_ne,oQ,w0,di,gO,bS,aqM,ct,Nj,abP,t4,eq_true bK,cz,dV,hY,jA,-v5];refine bb _ _ (m.next+4) 0 (q.map (Value.int .i64 ·)++[E a.f]) [a.f] (eK cb k true) (eK dT k ((n.bp.length:Int)+i)) (λt ba g1=>by simp(disch:=omega) only[me]) (by simp) ⟨by simp(disch:=first|omega|(simp only[eJ,fp];omega)) only[cx,a7,cJ],by simp(disch:=first|omega|(simp only[eJ,fp];omega)) only[cx,a7,cJ],by simp(disch:=first|omega|(simp only[eJ,fp];omega)) only[cx],by simp,by rw[oj,h7 (by simp)];simp,dY,by omega,by omega⟩ ?_ ?_ (λy Y=>by unfold eK;split<;>first|rfl|exact Y) (λ_ _=>by rw[xE,S];unfold eK;rw[if_pos rfl]) (λc A D ai aT=>by simp(disch:=first|omega|(simp only[eJ,fp];omega)) only[a7,cJ]) (by simp only[eJ,fp];omega) (by omega) (.inr (by omega))
    ·have BA:=b9.add (e:=(i,false)) (by rw[z6];omega) (by rw[u4,bK];exact b9.hU x (by simp)) (by rw[xE];exact cz) (by rw[xE];exact⟨bj,by omega⟩);rw[xE,S]at BA;have e:(λx=>lZ n.bp.length (eK dT (k:Int) ((n.bp.length:Int)+i) x))=eK (λx=>lZ n.bp.length (dT x)) (k:Int) (i,false):=by
      funext y;unfold eK;split
      ·exact atl
      ·rfl
     rw[e,S];simpa using BA
    ·have:=Dv cb k (by omega) (by rw[<-S];exact cz) aA (by omega);simp;omega
   ·simp(disch:=omega) [HB,aU,bB,cP,e4,gn,aQ,oX,qJ,nF,bj,eC,pS,fC,n8,kF,dJ,gL,iX,t4,eq_true bK,cz,dV,-v5];exact bb _ _ gJ off iV [] cb dT (λt ba g1=>by simp(disch:=omega) only[me]) (by simp[bl]) (by simpa using⟨hb,aQ,bo,vP,n7,dY,ee,l9⟩) (by simpa using b9) (by simp) (λy Y=>Y) (λh _=>by rw[z6]at h;omega) (λc A D ai aT=>rfl) (c8 _) oG (.inl rfl)
  ·simp(disch:=omega) [HB,bB,cP,gn,aQ,oX,bj,eC,pS,fC,n8,gL,iX,t4,eq_true bK,cz,-v5];exact bb _ _ gJ off iV [] cb dT (λt ba g1=>by simp(disch:=omega) only[me]) (by simp[bl]) (by simpa using⟨hb,aQ,bo,vP,n7,dY,ee,l9⟩) (by simpa using b9) (by simp) (λy Y=>Y) (λ_ _=>by rw[xE];exact cz) (λc A D ai aT=>rfl) (c8 _) oG (.inl rfl)
 ·simp(disch:=omega) [HB,cP,gn,oX,gL,iX,bK,-v5];exact bb _ _ gJ off iV [] cb dT (λt ba g1=>by simp(disch:=omega) only[me]) (by simp[bl]) (by simpa using⟨hb,aQ,bo,vP,n7,dY,ee,l9⟩) (by simpa using b9) (by simp) (λy Y=>Y) (λ_ h=>by rw[u4]at h;exact absurd h bK) (λc A D ai aT=>rfl) (c8 _) oG (.inl rfl)
end Go.Proofs.YtmmkkggfmigppaaGreat
