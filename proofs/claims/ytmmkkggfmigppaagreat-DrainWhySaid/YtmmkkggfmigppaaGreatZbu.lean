/-
  A part of the proof, shortened by tools of ours.
-/
import Derived.Test.YtmmkkggfmigppaaGreatZbt
set_option linter.all false
set_option maxRecDepth 8000
set_option maxHeartbeats 16000000
namespace Go.Proofs.YtmmkkggfmigppaaGreat
open Go Go.DI Go.gU
theorem ml{z:aD}{t bf:Nat}{v:Value}(h:bf≠t):k3 z t v bf=z bf:=by unfold k3;rw[if_neg h]
def rq(l:List Int)(b:Nat):Value:=if l=[]then .slice none 0 0 else .slice (some ⟨b,0,none⟩) l.length 1
def r8(aq:Nat)(o:Int->List Int)(aP:Int->Nat):List Value:=(List.range aq).map λ(x:Nat)=>rq (o x) (aP x)
@[simp] theorem aVh{aq:Nat}{o:Int->List Int}{aP:Int->Nat}:(r8 aq o aP).length=aq:=by simp[r8]
theorem acR{aq:Nat}{o:Int->List Int}{aP:Int->Nat}{k:Nat}(h:k<aq):(r8 aq o aP)[k]?=some (rq (o k) (aP k)):=by simp[r8,h]
theorem TT{aq:Nat}{o:Int->List Int}{aP:Int->Nat}{k b:Nat}{l:List Int}(aA:l≠[]):(r8 aq o aP).set k (.slice (some ⟨b,0,none⟩) l.length 1)=r8 aq (eU o k l) (eU aP k b):=by
 apply Bv
 ·simp
 ·intro i A E;simp at A;rw[List.getElem_set];by_cases h:k=i
  ·subst h;simp[r8,eU,rq,aA]
  ·have: ¬(i:Int)=k:=(by omega);simp[r8,eU,h,this]
structure qH(o:Int->List Int)(fl aq bh:Nat)(aP:Int->Nat)(m:G):Prop where
 bf:m.F fl=some ⟨r8 aq o aP,true⟩
 F: ∀k:Nat,k<aq->o k≠[]->m.F (aP k)=some ⟨(o k).map (Value.int .i64 ·),true⟩/\bh<=aP k
 inj: ∀k fk:Nat,k<aq->fk<aq->k≠fk->o k≠[]->o fk≠[]->aP k≠aP fk
theorem qH.apl{o:Int->List Int}{fl aq bh:Nat}{aP:Int->Nat}{m:G}(h:qH o fl aq bh aP m):GF o fl aq m:=by
 refine⟨_,h.bf,by simp,λk O=>⟨_,acR O,?_⟩⟩;unfold rq;by_cases aC:o k=[]
 ·rw[if_pos aC];exact .inl ⟨rfl,aC⟩
 ·rw[if_neg aC];exact .inr ⟨_,_,rfl,(h.F k O aC).1⟩
theorem qH.app{o:Int->List Int}{fl aq bh:Nat}{aP:Int->Nat}{m U:G}(h:qH o fl aq bh aP m)(y1:fl<bh){k:Nat}{c:Int}{id:Nat}(O:k<aq)(e2:m.next<=id)(lM:bh<=m.next)
 (A:U.F fl=some ⟨r8 aq (eU o k (o k++[c])) (eU aP k id),true⟩) (E:U.F id=some ⟨(o k++[c]).map (Value.int .i64 ·),true⟩)
 (ao: ∀b,b<m.next->b≠fl->(o k≠[]->b≠aP k)->U.F b=m.F b):qH (eU o k (o k++[c])) fl aq bh (eU aP k id) U:=by
 have H: ∀{dP:Type} (g:Int->dP) (v:dP) (j:Nat),j≠k->eU g k v j=g j:= λg v j aV=>by unfold eU;rw[if_neg (by omega)]
 have mD: ∀{dP:Type} (g:Int->dP) (v:dP),eU g k v k=v:= λg v=>by unfold eU;rw[if_pos rfl]
 refine⟨A,λj aV bx=> ?_,λj Fk aV l8 W1 ed er=> ?_⟩
 ·by_cases At:j=k
  ·subst At;rw[mD,mD];exact⟨E,by omega⟩
  ·rw[H _ _ j At]at bx;rw[H _ _ j At,H _ _ j At];obtain⟨aE,a5⟩:=h.F j aV bx;refine⟨?_,a5⟩;rw[ao _ (aF aE) (by omega) (λxy=>h.inj j k aV O At bx xy)];exact aE
 ·by_cases At:j=k
  ·subst At;rw[H _ _ Fk (λe=>W1 e.symm)]at er;rw[mD,H _ _ Fk (λe=>W1 e.symm)];have:=aF (h.F Fk l8 er).1;omega
  ·rw[H _ _ j At]at ed;rw[H _ _ j At];by_cases WZ:Fk=k
   ·subst WZ;rw[mD];have:=aF (h.F j aV ed).1;omega
   ·rw[H _ _ Fk WZ]at er;rw[H _ _ Fk WZ];exact h.inj j Fk aV l8 W1 ed er
def RX:aB:= .kN [
 ⟨0,some 33,none,.hY (.tmp 6),[]⟩,
 ⟨1,some 34,none,.vj (.tmp 33),[]⟩,
 ⟨2,some 35,none,.kt 5 (.tmp 34),[]⟩,
 ⟨3,some 36,none,.hq false 1 (.tmp 35),[]⟩,
 ⟨4,some 37,none,.kt 0 (.tmp 8),[]⟩,
 ⟨5,some 38,none,.hq false 1 (.tmp 37),[]⟩,
 ⟨6,some 39,none,.hY (.tmp 6),[]⟩,
 ⟨7,some 40,none,.vj (.tmp 39),[]⟩,
 ⟨8,some 41,none,.kt 5 (.tmp 40),[]⟩,
 ⟨9,some 42,none,.hq false 1 (.tmp 41),[]⟩,
 ⟨10,some 43,none,.kt 0 (.tmp 8),[]⟩,
 ⟨11,some 44,none,.hq false 1 (.tmp 43),[]⟩,
 ⟨12,some 45,none,.mZ 1 (.tmp 42) (.tmp 44),[]⟩,
 ⟨13,some 46,none,.hq false 1 (.tmp 45),[]⟩,
 ⟨14,some 47,none,.hY (.tmp 7),[]⟩,
 ⟨15,some 48,none,.mv 1 1 [.int .i64 0] [(0,1,.tmp 47)],[]⟩,
 ⟨16,some 49,none,.app 1 8 (.tmp 46) (.tmp 48),[(.tmp 37,.tmp 46),(.tmp 35,.tmp 46)]⟩,
 ⟨17,some 50,none,.mZ 1 (.tmp 36) (.tmp 38),[]⟩,
 ⟨18,none,none,.store 1 (.tmp 50) (.tmp 49),[]⟩]
def RY:aB:= .kN [
 ⟨0,some 51,none,.hY (.tmp 6),[]⟩,
 ⟨1,some 52,none,.vj (.tmp 51),[]⟩,
 ⟨2,some 53,none,.kt 5 (.tmp 52),[]⟩,
 ⟨3,some 54,none,.hq false 1 (.tmp 53),[]⟩,
 ⟨4,some 55,none,.kt 1 (.tmp 8),[]⟩,
 ⟨5,some 56,none,.hq false 1 (.tmp 55),[]⟩,
 ⟨6,some 57,none,.hY (.tmp 6),[]⟩,
 ⟨7,some 58,none,.vj (.tmp 57),[]⟩,
 ⟨8,some 59,none,.kt 5 (.tmp 58),[]⟩,
 ⟨9,some 60,none,.hq false 1 (.tmp 59),[]⟩,
 ⟨10,some 61,none,.kt 1 (.tmp 8),[]⟩,
 ⟨11,some 62,none,.hq false 1 (.tmp 61),[]⟩,
 ⟨12,some 63,none,.mZ 1 (.tmp 60) (.tmp 62),[]⟩,
 ⟨13,some 64,none,.hq false 1 (.tmp 63),[]⟩,
 ⟨14,some 65,none,.hY (.tmp 7),[]⟩,
 ⟨15,some 66,none,.oJ .sub .ua (.const (.int .i64 (-1))) (.tmp 65),[]⟩,
 ⟨16,some 67,none,.mv 1 1 [.int .i64 0] [(0,1,.tmp 66)],[]⟩,
 ⟨17,some 68,none,.app 1 8 (.tmp 64) (.tmp 67),[(.tmp 55,.tmp 64),(.tmp 53,.tmp 64)]⟩,
 ⟨18,some 69,none,.mZ 1 (.tmp 54) (.tmp 56),[]⟩,
 ⟨19,none,none,.store 1 (.tmp 69) (.tmp 68),[]⟩]
theorem ajT:Yt=(
 .kB (
 .kN [
  ⟨0,some 29,none,.oJ .lss .ua (.tmp 28) (.tmp 27),[]⟩]) (
 .kB (
 .nG (.tmp 29) (
  .skip) (
  .cF 0)) (
 .kB (
 .block 1 (
 .kB (
 .kN [
  ⟨0,some 30,none,.hY (.tmp 28),[]⟩,
  ⟨1,some 31,none,.mZ 4 (.tmp 26) (.tmp 28),[]⟩,
  ⟨2,some 32,none,.hq true 4 (.tmp 31),[]⟩,
  ⟨3,some 8,none,.nD [.int .i64 0,.int .i64 0,.int .i64 0,.int .i64 0],[]⟩,
  ⟨4,some 7,none,.hY (.tmp 30),[]⟩,
  ⟨5,none,none,.store 4 (.tmp 8) (.tmp 32),[]⟩]) (
 .kB (
 RX) (
 RY)))) (
 .kN [
  ⟨0,some 70,none,.oJ .add .ua (.tmp 28) (.const (.int .i64 1)),[]⟩,
  ⟨1,some 28,none,.hY (.tmp 70),[]⟩])))
 :aB):=rfl
set_option maxRecDepth 20000 in
theorem aAC{n:dL}(cc:n.iS){aq:Nat}(dM:n.dF=aq){au:List Int}{v:Value}{cD cP fl jE bh:Nat}{a:dm}{o:Int->List Int}{aP:Int->Nat}{m:G}{z:aD}{i:Nat}(Y:i<2500)(oT:m.F cD=some ⟨[D n.dF,D n.dr,D n.et,v,.slice (some ⟨cP,0,none⟩) au.length 1,.slice (some ⟨fl,0,none⟩) aq 1],true⟩)
 (pa:m.F jE=some ⟨gH a,true⟩) (g8:qH o fl aq bh aP m) (y1:fl<bh) (gJ:cD<bh) (EI:cD≠fl) (lM:bh<=m.next) (qj:n.hC a.f) (xB:(o a.f).length<=100000) (Er: ∀k:Nat,k<aq->o k≠[]->aP k≠jE) (awS:jE≠fl)
 (bo:z 6=bC cD) (bm:z 8=bC jE) (cf:z 7=D i) {Q:cO->aD->G->Prop}
 (a6: ∀K U tg,(∀t,t<33->K t=z t)->m.next<=U.next->(∀b,b<m.next->b≠fl->(∀k:Nat,k<aq->o k≠[]->b≠aP k)->U.F b=m.F b)->qH (eU o a.f (o a.f++[(i:Int)])) fl aq bh tg U->(∀k:Nat,k<aq->eU o a.f (o a.f++[(i:Int)]) k≠[]->tg k≠jE)->Q .eR K U):fJ N RX z m Q:=by
 obtain⟨vc,cC⟩:=qj;obtain⟨k,O⟩: ∃k:Nat,a.f=k:=⟨a.f.toNat,by omega⟩;have bB:a.f<(aq:Int):=by omega
 have dO:a.f.toNat=k:=by omega
 have gu:k<aq:=by omega
 have mF:k+1<=aq:=gu;rw[O]at a6 xB;have EJ:=g8.bf;have jy:(r8 aq o aP)[k]?=some (rq (o k) (aP k)):=acR gu;have K3: ∀h,(r8 aq o aP)[k]'h=rq (o k) (aP k):= λh=>by rw[c6 h]at jy;simpa using jy
 have cr:IntKind.i64.wrap (-1-(i:Int))= -1-(i:Int):=db (by omega) (by omega);have aDN:=aF EJ;have abf:=aF pa;by_cases aC:o k=[]
 ·have EH:rq (o k) (aP k)= .slice none 0 0:=(by unfold rq;rw[if_pos aC]);rw[EH]at jy K3;have xC:=TT (aq:=aq) (o:=o) (aP:=aP) (k:=k) (b:=m.next+16) (l:=o k++[(i:Int)]) (by simp);have aG:(o k++[(i:Int)]).length=1:=(by rw[aC];rfl);rw[aG]at xC;simp(disch:=first|omega|simp only[bS];omega) [RX,bo,bm,cf,oT,pa,EJ,vc,bB,dO,jy,e1,gH,mF,xC,iY];refine a6 _ _ (eU aP k (m.next+16)) (λt a8=>by simp(disch:=omega) only[ml]) (by simp only[eT,fq];omega) (λc A E ao=>by simp(disch:=first|omega|(simp only[eT,fq];omega)) only[aX,cl]) (g8.app y1 gu (by omega) lM ?_ ?_ ?_) ?_
  ·simp(disch:=first|omega|(simp only[eT,fq];omega)) only[cb]
  ·simp(disch:=first|omega|(simp only[eT,fq];omega)) only[cb,aX];rw[aC];rfl
  ·intro c A E _;simp(disch:=omega) only[aX,cl]
  ·intro j aV bx;unfold eU at bx⊢;split
   ·omega
   ·rename_i h;rw[if_neg h]at bx;exact Er j aV bx
 ·have EH:rq (o k) (aP k)= .slice (some ⟨aP k,0,none⟩) (o k).length 1:=(by unfold rq;rw[if_neg aC]);rw[EH]at jy K3;have xC:=TT (aq:=aq) (o:=o) (aP:=aP) (k:=k) (b:=m.next+16) (l:=o k++[(i:Int)]) (by simp);have aG:(o k++[(i:Int)]).length=(o k).length+1:=(by simp);rw[aG]at xC;obtain⟨cd,awC⟩:=g8.F k gu aC;have aC3:=aF cd;have eH:cD≠aP k:=(by omega);have eN:fl≠aP k:=(by omega);have ha:jE≠aP k:= λh=>Er k gu aC h.symm;have je:((o k).length+1)*8<=140737488355328:=(by omega);have kf:(o k).length+1<=9223372036854775807:=(by omega);have z3:((o k).map (Value.int .i64 ·)).take (o k).length=(o k).map (Value.int .i64 ·):=hx (by simp);simp(disch:=first|omega|simp only[bS];omega) [RX,bo,bm,cf,oT,pa,EJ,vc,bB,dO,jy,e1,gH,mF,xC,iY,bne_iff_ne,cd,eH,ha,je,kf,z3];refine a6 _ _ (eU aP k (m.next+16)) (λt a8=>by simp(disch:=omega) only[ml]) (by simp only[eT,fq];omega) (λc A E ao=>by have:=ao k gu aC;simp(disch:=first|omega|(simp only[eT,fq];omega)) only[aX,cl]) (g8.app y1 gu (by omega) lM ?_ ?_ ?_) ?_
  ·simp(disch:=first|omega|(simp only[eT,fq];omega)) only[cb]
  ·simp(disch:=first|omega|(simp only[eT,fq];omega)) only[cb,aX];simp
  ·intro c A E ao;have:=ao aC;simp(disch:=omega) only[aX,cl]
  ·intro j aV bx;unfold eU at bx⊢;split
   ·omega
   ·rename_i h;rw[if_neg h]at bx;exact Er j aV bx
set_option maxRecDepth 20000 in
theorem aAD{n:dL}(cc:n.iS){aq:Nat}(dM:n.dF=aq){au:List Int}{v:Value}{cD cP fl jE bh:Nat}{a:dm}{o:Int->List Int}{aP:Int->Nat}{m:G}{z:aD}{i:Nat}(Y:i<2500)(oT:m.F cD=some ⟨[D n.dF,D n.dr,D n.et,v,.slice (some ⟨cP,0,none⟩) au.length 1,.slice (some ⟨fl,0,none⟩) aq 1],true⟩)
 (pa:m.F jE=some ⟨gH a,true⟩) (g8:qH o fl aq bh aP m) (y1:fl<bh) (gJ:cD<bh) (EI:cD≠fl) (lM:bh<=m.next) (qj:n.hC a.t) (xB:(o a.t).length<=100000) (Er: ∀k:Nat,k<aq->o k≠[]->aP k≠jE) (awS:jE≠fl)
 (bo:z 6=bC cD) (bm:z 8=bC jE) (cf:z 7=D i) {Q:cO->aD->G->Prop}
 (a6: ∀K U tg,(∀t,t<51->K t=z t)->m.next<=U.next->(∀b,b<m.next->b≠fl->(∀k:Nat,k<aq->o k≠[]->b≠aP k)->U.F b=m.F b)->qH (eU o a.t (o a.t++[(-1-(i:Int))])) fl aq bh tg U->(∀k:Nat,k<aq->eU o a.t (o a.t++[(-1-(i:Int))]) k≠[]->tg k≠jE)->Q .eR K U):fJ N RY z m Q:=by
 obtain⟨vc,cC⟩:=qj;obtain⟨k,O⟩: ∃k:Nat,a.t=k:=⟨a.t.toNat,by omega⟩;have bB:a.t<(aq:Int):=by omega
 have dO:a.t.toNat=k:=by omega
 have gu:k<aq:=by omega
 have mF:k+1<=aq:=gu;rw[O]at a6 xB;have EJ:=g8.bf;have jy:(r8 aq o aP)[k]?=some (rq (o k) (aP k)):=acR gu;have K3: ∀h,(r8 aq o aP)[k]'h=rq (o k) (aP k):= λh=>by rw[c6 h]at jy;simpa using jy
 have cr:IntKind.i64.wrap (-1-(i:Int))= -1-(i:Int):=db (by omega) (by omega);have aDN:=aF EJ;have abf:=aF pa;by_cases aC:o k=[]
 ·have EH:rq (o k) (aP k)= .slice none 0 0:=(by unfold rq;rw[if_pos aC]);rw[EH]at jy K3;have xC:=TT (aq:=aq) (o:=o) (aP:=aP) (k:=k) (b:=m.next+17) (l:=o k++[(-1-(i:Int))]) (by simp);have aG:(o k++[(-1-(i:Int))]).length=1:=(by rw[aC];rfl);rw[aG]at xC;simp(disch:=first|omega|simp only[bS];omega) [RY,bo,bm,cf,oT,pa,EJ,vc,bB,dO,jy,e1,gH,mF,xC,cr,iY];refine a6 _ _ (eU aP k (m.next+17)) (λt a8=>by simp(disch:=omega) only[ml]) (by simp only[eT,fq];omega) (λc A E ao=>by simp(disch:=first|omega|(simp only[eT,fq];omega)) only[aX,cl]) (g8.app y1 gu (by omega) lM ?_ ?_ ?_) ?_
  ·simp(disch:=first|omega|(simp only[eT,fq];omega)) only[cb]
  ·simp(disch:=first|omega|(simp only[eT,fq];omega)) only[cb,aX];rw[aC];rfl
  ·intro c A E _;simp(disch:=omega) only[aX,cl]
  ·intro j aV bx;unfold eU at bx⊢;split
   ·omega
   ·rename_i h;rw[if_neg h]at bx;exact Er j aV bx
 ·have EH:rq (o k) (aP k)= .slice (some ⟨aP k,0,none⟩) (o k).length 1:=(by unfold rq;rw[if_neg aC]);rw[EH]at jy K3;have xC:=TT (aq:=aq) (o:=o) (aP:=aP) (k:=k) (b:=m.next+17) (l:=o k++[(-1-(i:Int))]) (by simp);have aG:(o k++[(-1-(i:Int))]).length=(o k).length+1:=(by simp);rw[aG]at xC;obtain⟨cd,awC⟩:=g8.F k gu aC;have aC3:=aF cd;have eH:cD≠aP k:=(by omega);have eN:fl≠aP k:=(by omega);have ha:jE≠aP k:= λh=>Er k gu aC h.symm;have je:((o k).length+1)*8<=140737488355328:=(by omega);have kf:(o k).length+1<=9223372036854775807:=(by omega);have z3:((o k).map (Value.int .i64 ·)).take (o k).length=(o k).map (Value.int .i64 ·):=hx (by simp);simp(disch:=first|omega|simp only[bS];omega) [RY,bo,bm,cf,oT,pa,EJ,vc,bB,dO,jy,e1,gH,mF,xC,cr,iY,bne_iff_ne,cd,eH,ha,je,kf,z3];refine a6 _ _ (eU aP k (m.next+17)) (λt a8=>by simp(disch:=omega) only[ml]) (by simp only[eT,fq];omega) (λc A E ao=>by have:=ao k gu aC;simp(disch:=first|omega|(simp only[eT,fq];omega)) only[aX,cl]) (g8.app y1 gu (by omega) lM ?_ ?_ ?_) ?_
  ·simp(disch:=first|omega|(simp only[eT,fq];omega)) only[cb]
  ·simp(disch:=first|omega|(simp only[eT,fq];omega)) only[cb,aX];simp
  ·intro c A E ao;have:=ao aC;simp(disch:=omega) only[aX,cl]
  ·intro j aV bx;unfold eU at bx⊢;split
   ·omega
   ·rename_i h;rw[if_neg h]at bx;exact Er j aV bx
structure GD(n:dL)(i:Nat)(o:Int->List Int):Prop where
 G3: ∀x,∀I∈o x,(h4 I).1<i/\gK n (h4 I)=x/\ -2500<=I/\I<=2500
 all: ∀e:hN,e.1<i-> ∃I∈o (gK n e),h4 I=e
 len: ∀x,(o x).length<=2*i
theorem F9{o:Int->List Int}{y:Int}{c I:Int}{x:Int}:I∈eU o y (o y++[c]) x↔I∈o x\/(x=y/\I=c):=by
 unfold eU;by_cases h:x=y
 ·subst h;simp
 ·simp[h]
theorem adV{o:Int->List Int}{y:Int}{c:Int}{x:Int}:(eU o y (o y++[c]) x).length<=(o x).length+1:=by
 unfold eU;split
 ·rename_i h;subst h;simp
 ·omega
theorem agQ(i:Nat):h4 (i:Int)=(i,true):=by simp[h4]
theorem agR(i:Nat):h4 (-1-(i:Int))=(i,false):=by have:=auH (i,false);simpa[gU.enc]using this
theorem GD.step{n:dL}{i:Nat}{o:Int->List Int}{a:dm}(h:GD n i o)(ag:n.bl[i]?=some a)(Y:i<2500):
 GD n (i+1) (eU (eU o a.f (o a.f++[(i:Int)])) a.t (eU o a.f (o a.f++[(i:Int)]) a.t++[-1-(i:Int)])):=by
 have ej:gK n (i,true)=a.f:=by simp[gK,ag]
 have eD:gK n (i,false)=a.t:=by simp[gK,ag]
 refine⟨λx I bE=> ?_,λe aU=> ?_,λx=> ?_⟩
 ·rw[F9,F9]at bE;rcases bE with(bE|⟨rfl,rfl⟩)|⟨rfl,rfl⟩
  ·obtain⟨aE,a5,ch⟩:=h.G3 x I bE;exact⟨by omega,a5,ch⟩
  ·rw[agQ];exact⟨by simp,ej,by omega,by omega⟩
  ·rw[agR];exact⟨by simp,eD,by omega,by omega⟩
 ·by_cases aA:e.1<i
  ·obtain⟨I,aE,a5⟩:=h.all e aA;exact⟨I,by rw[F9,F9];exact .inl (.inl aE),a5⟩
  ·obtain⟨j,b⟩:=e;simp only at aU aA;obtain rfl:j=i:=(by omega);cases b
   ·exact⟨-1-(j:Int),by rw[eD,F9];exact .inr ⟨rfl,rfl⟩,agR j⟩
   ·exact⟨(j:Int),by rw[ej,F9,F9];exact .inl (.inr ⟨rfl,rfl⟩),agQ j⟩
 ·have A:= @adV (eU o a.f (o a.f++[(i:Int)])) a.t (-1-(i:Int)) x;have E:= @adV o a.f (i:Int) x;have:=h.len x;omega
theorem qH.bt{o:Int->List Int}{fl aq bh:Nat}{aP:Int->Nat}{m U:G}(h:qH o fl aq bh aP m)(aC: ∀b x,m.F b=some x->U.F b=some x):qH o fl aq bh aP U:=
 ⟨aC _ _ h.bf,λk O bx=>⟨aC _ _ (h.F k O bx).1,(h.F k O bx).2⟩,h.inj⟩
set_option maxRecDepth 20000 in
theorem apk{n:dL}(cc:n.iS){aq:Nat}(dM:n.dF=aq){au:List Int}{v:Value}{cD cP fl bh:Nat}{ek:G}(M:mm ek v n.bl)(oT:ek.F cD=some ⟨[D n.dF,D n.dr,D n.et,v,.slice (some ⟨cP,0,none⟩) au.length 1,.slice (some ⟨fl,0,none⟩) aq 1],true⟩)(y1:fl<bh)(gJ:cD<bh)(EI:cD≠fl)(Qv: ∀b l c,v= .slice (some ⟨b,0,none⟩) l c->b<bh/\b≠fl){Q:cO->aD->G->Prop}:
 ∀(r i:Nat) (m:G) (z:aD) (o:Int->List Int) (aP:Int->Nat),i+r=n.bl.length->bh<=m.next->(∀b,b<bh->b≠fl->m.F b=ek.F b)->qH o fl aq bh aP m->GD n i o->
 z 26=v->z 27=D n.bl.length->z 28=D i->z 6=bC cD->
 (∀K U o' tg,(∀t,t<7->K t=z t)->m.next<=U.next->(∀b,b<bh->b≠fl->U.F b=ek.F b)->qH o' fl aq bh tg U->GD n n.bl.length o'->Q (.cF 0) K U)->fJ N (.loop Yt) z m Q
 | 0,i,m,z,o,aP,Y,lM,qk,g8,ja,wJ,x7,TX,bo,a6=>by refine jN λbO a1=> ?_;have A: ¬i<n.bl.length:=(by omega);obtain rfl:i=n.bl.length:=(by omega);simp[ajT,x7,TX];exact a6 _ _ o aP (λt a8=>by simp(disch:=omega) only[ml]) (c8 _) qk g8 ja
 | r+1,i,m,z,o,aP,Y,lM,qk,g8,ja,wJ,x7,TX,bo,a6=>by
   refine jN λbO a1=> ?_;have A:i<n.bl.length:=(by omega);obtain⟨a,ag⟩: ∃a,n.bl[i]?=some a:=⟨n.bl[i]'A,by simp⟩;obtain⟨c,r0,rfl,av⟩:=M.hc A;obtain⟨aye,ayf⟩:=Qv _ _ _ rfl;have lf:=qk c aye ayf;rw[av]at lf;have Cj:=qk cD gJ EI;rw[oT]at Cj;have hb:i*4+4<=n.bl.length*4:=(by omega);have iq:=zZ ag;have fw:=cc.rH;obtain⟨br,bQ,a3,a4⟩:=cc.p9 a (fX ag);have bp:=fB (n:=i) (by omega);have tX:=aF lf;have cn:=aF Cj;simp(disch:=first|omega|simp only[bS];omega) [ajT,wJ,x7,TX,A,lf,hb,iq,gH];have C1: ∀b x,m.F b=some x->((m.bU 6).aK (m.next+3) (some ⟨[D a.f,D a.t,D a.c,D a.k],true⟩)).F b=some x:= λb x hb=>by have:=aF hb;rw[aX (by omega),cl this,hb]
   have PS: ∀k:Nat,k<aq->o k≠[]->aP k<m.next/\bh<=aP k:= λk O bx=>⟨aF (g8.F k O bx).1,(g8.F k O bx).2⟩
   have aTn:=aF g8.bf;refine aAC (a:=a) (o:=o) (aP:=aP) (jE:=m.next+3) (i:=i) cc dM (by omega) (C1 _ _ Cj) (cb (by simp)) (g8.bt C1) y1 gJ EI (by simp only[eT,fq];omega) br (by have:=ja.len a.f;omega) (λk O bx=>by have:=PS k O bx;omega) (by omega) (by simp[bo]) (by simp) (by simp) λbT bn afg aE a5 ch dT gj=> ?_;simp only[eT,fq]at a5;simp only[N2];have awR:bn.F (m.next+3)=some ⟨gH a,true⟩:=by rw[ch _ (by simp only[eT,fq];omega) (by omega) (λk O bx=>by have:=PS k O bx;omega)];exact cb (by simp)
   have ax3:bn.F cD=some ⟨[D n.dF,D n.dr,D n.et,.slice (some ⟨c,0,none⟩) n.bl.length 4,.slice (some ⟨cP,0,none⟩) au.length 1,.slice (some ⟨fl,0,none⟩) aq 1],true⟩:=(by rw[ch _ (by simp only[eT,fq];omega) EI (λk O bx=>by have:=PS k O bx;omega)];exact C1 _ _ Cj);refine aAD (a:=a) (aP:=afg) (jE:=m.next+3) (i:=i) cc dM (by omega) ax3 awR dT y1 gJ EI (by omega) bQ (by have:=ja.len a.t;have:= @adV o a.f (i:Int) a.t;omega) gj (by omega) (by rw[aE 6 (by omega)];simp[bo]) (by rw[aE 8 (by omega)];simp) (by rw[aE 7 (by omega)];simp) λc2 cK asx ej eD gg lJ rO=> ?_;have q: ∀t,t<33->c2 t=bT t:= λt a8=>ej t (by omega);have aFG:c2 28=D i:=(by rw[q 28 (by omega),aE 28 (by omega)];simp[TX]);have aFE:c2 26= .slice (some ⟨c,0,none⟩) n.bl.length 4:=(by rw[q 26 (by omega),aE 26 (by omega)];simp[wJ]);have aFF:c2 27=D n.bl.length:=(by rw[q 27 (by omega),aE 27 (by omega)];simp[x7]);have mg:c2 6=bC cD:=(by rw[q 6 (by omega),aE 6 (by omega)];simp[bo]);have zr: ∀t,t<7->c2 t=z t:= λt a8=>by rw[q t (by omega),aE t (by omega)];simp(disch:=omega) only[ml]
   simp[aFG,bp];have axo: ∀k:Nat,k<aq->eU o a.f (o a.f++[(i:Int)]) k≠[]->bh<=afg k:= λk O bx=>(dT.F k O bx).2;refine a1 _ _ (apk cc dM M oT y1 gJ EI Qv r (i+1) cK _ _ asx (by omega) (by omega) (λb sD rP=> ?_) lJ (ja.step ag (by omega)) (by simp[aFE]) (by simp[aFF]) (by simp) (by simp[mg]) (λK U o' tg aG aN ct gC mx=>a6 K U o' tg (λt a8=> ?_) (by omega) ct gC mx))
   ·rw[gg b (by omega) rP (λk O bx=>by have:=axo k O bx;omega),ch b (by simp only[eT,fq];omega) rP (λk O bx=>by have:=PS k O bx;omega)];rw[aX (by omega),cl (by omega)];exact qk b sD rP
   ·rw[aG t a8];simp(disch:=omega) only[ml];exact zr t a8
theorem Vw{s gY:Int->Bool}: ∀(l:List dm),(∀a∈l,s a.f=gY a.f/\s a.t=gY a.t)->jQ l s=jQ l gY
 |[],_=>rfl
 | a::l,h=>by obtain⟨A,E⟩:=h a (by simp);simp only[jQ,A,E,Vw l (λb hb=>h b (by simp[hb]))]
def yx(aq:Nat)(b9:Int->Bool):List Bool:=(List.range aq).map λ(x:Nat)=>b9 x
theorem VD{aq:Nat}{b9:Int->Bool}:(yx aq b9).length=aq:=by simp[yx]
theorem agH{aq:Nat}{b9:Int->Bool}:kr aq b9=(yx aq b9).map (Value.bool ·):=by simp[kr,yx]
theorem Pk{aq:Nat}{b9:Int->Bool}{x:Int}(bX:0<=x)(A:x<aq):gX (yx aq b9) x=b9 x:=by
 unfold gX yx;obtain⟨k,rfl⟩: ∃k:Nat,x=k:=⟨x.toNat,by omega⟩;have O:k<aq:=by omega
 simp[m7,O]
set_option maxRecDepth 20000 in
theorem aIz{n:dL}(cc:n.iS){aq:Nat}(dM:n.dF=aq){v:Value}{cD cP fl nb bh:Nat}{ek:G}(qZ:ek.next<=cP)(A:cD≠cP)(E: ∀b l c,v= .slice (some ⟨b,0,none⟩) l c->b≠cP)(ao:fl≠cP)(aS:cP<bh)(bI:nb≠cP)
 {jd:Int->List Int} {aP:Int->Nat} (ja:GD n n.bl.length jd) {Q:cO->aD->G->Prop}:
 ∀(aR:Nat) (au:List Int) (m:G) (z:aD),5368709117500-value n au<=aR->o6 n au->0<=value n au->fe ek m->rE n au v cD cP fl aq m->qH jd fl aq bh aP m->m.F nb=some ⟨kX n v,true⟩->
 z 1=bC nb->z 6=bC cD->z 9=D (value n au)->
 (∀K U vV b9 dZ,fe ek U->o6 n vV->U.F cP=some ⟨vV.map (Value.int .i64 ·),true⟩->U.F dZ=some ⟨kr aq b9,true⟩->value n vV=jQ n.bl b9->b9 n.dr=true->b9 n.et=false->ek.next<=dZ->dZ≠cP->
  K 2= .slice (some ⟨cP,0,none⟩) vV.length 1->K 3=D (value n vV)->K 4= .slice (some ⟨dZ,0,none⟩) aq 1->K 5=D 0->Q .fi K U)->fJ N (.loop Q2) z m Q:=by
 intro aR;induction aR with
 | zero=>
   intro au m z dH bb Cp aC b8 g8 uZ aT bo cz a6;refine jN λbO a1=> ?_;have axQ:=aC;have WB:=g8.apl;have W8:=aF b8.f;have Am:OD n jd:=⟨λx _ I bE=>ja.G3 x I bE,λe aU=>ja.all e aU⟩;simp[Q2,bo];refine(ap0 cc dM bb.lG b8 WB Am (λx=>by have:=ja.len x;have:=cc.rH;omega)).bt λr bn ae=> ?_;obtain⟨yW,ez,dZ,ec,b9,rfl,yJ,Ch,lr,oO,cd⟩:=ae;have B9:=b8.bt yW;have XC:=B9.s;have yH:qH jd fl aq bh aP bn:=g8.bt (λb x hb=>yW.some hb);have Hi:=yW.some uZ;obtain⟨bd,dR⟩:=cc.et;obtain⟨k,O⟩: ∃k:Nat,n.et=k:=⟨n.et.toNat,by omega⟩;have t3:n.et.toNat=k:=(by omega);have t4:k<aq:=(by omega);have nx:n.et<(aq:Int):=(by omega);have sd:k+1<=aq:=t4;have mC:(k:Int)=n.et:=O.symm;have om:(kr aq b9)[k]?=some (.bool (b9 n.et)):=(by rw[DX t4,mC]);have Lc: ∀h,(kr aq b9)[k]'h= .bool (b9 n.et):= λh=>by rw[DY,mC]
   cases nR:b9 n.et
   ·simp[oO,Hi,XC,bd,t3,nx,sd,om,e1,nR,aT,bo,cz];exact a6 _ _ au b9 dZ (aC.trans yW) bb B9.f oO (cd.C7.TG cc bb nR) cd.dr nR (by have:=aC.next;omega) (by omega) (by simp) (by simp[]) (by simp) (by simp)
   simp[oO,Hi,bd,t3,nx,sd,om,e1,nR,aT,bo,cz];obtain⟨l,ae,ar,eM⟩:=cd.C7.path nR;refine(afP cc dM bb.lG B9 lr A E (by omega) ae ar eM).bt λr rb Xl=> ?_;obtain⟨d,rfl,ah5,Cf,rfl⟩:=Xl;have qg:=OT cc bb ae (d:=d) (by omega) Cf eM;have XJ:=Gn cc qg.1;have ayh:=Gn cc bb;have hg:(qu au l d).length=au.length:=(by rw[qg.1.lG.1,bb.lG.1]);have cr:IntKind.i64.wrap (value n au+d)=value n au+d:=db (by omega) (by omega);simp[cr];exfalso;have:=Gn cc qg.1;omega
 | succ aR cj=>
   intro au m z dH bb Cp aC b8 g8 uZ aT bo cz a6;refine jN λbO a1=> ?_;have axQ:=aC;have WB:=g8.apl;have W8:=aF b8.f;have Am:OD n jd:=⟨λx _ I bE=>ja.G3 x I bE,λe aU=>ja.all e aU⟩;simp[Q2,bo];refine(ap0 cc dM bb.lG b8 WB Am (λx=>by have:=ja.len x;have:=cc.rH;omega)).bt λr bn ae=> ?_;obtain⟨yW,ez,dZ,ec,b9,rfl,yJ,Ch,lr,oO,cd⟩:=ae;have B9:=b8.bt yW;have XC:=B9.s;have yH:qH jd fl aq bh aP bn:=g8.bt (λb x hb=>yW.some hb);have Hi:=yW.some uZ;obtain⟨bd,dR⟩:=cc.et;obtain⟨k,O⟩: ∃k:Nat,n.et=k:=⟨n.et.toNat,by omega⟩;have t3:n.et.toNat=k:=(by omega);have t4:k<aq:=(by omega);have nx:n.et<(aq:Int):=(by omega);have sd:k+1<=aq:=t4;have mC:(k:Int)=n.et:=O.symm;have om:(kr aq b9)[k]?=some (.bool (b9 n.et)):=(by rw[DX t4,mC]);have Lc: ∀h,(kr aq b9)[k]'h= .bool (b9 n.et):= λh=>by rw[DY,mC]
   cases nR:b9 n.et
   ·simp[oO,Hi,XC,bd,t3,nx,sd,om,e1,nR,aT,bo,cz];exact a6 _ _ au b9 dZ (aC.trans yW) bb B9.f oO (cd.C7.TG cc bb nR) cd.dr nR (by have:=aC.next;omega) (by omega) (by simp) (by simp[]) (by simp) (by simp)
   simp[oO,Hi,bd,t3,nx,sd,om,e1,nR,aT,bo,cz];obtain⟨l,ae,ar,eM⟩:=cd.C7.path nR;refine(afP cc dM bb.lG B9 lr A E (by omega) ae ar eM).bt λr rb Xl=> ?_;obtain⟨d,rfl,ah5,Cf,rfl⟩:=Xl;have qg:=OT cc bb ae (d:=d) (by omega) Cf eM;have XJ:=Gn cc qg.1;have ayh:=Gn cc bb;have hg:(qu au l d).length=au.length:=(by rw[qg.1.lG.1,bb.lG.1]);have cr:IntKind.i64.wrap (value n au+d)=value n au+d:=db (by omega) (by omega);simp[cr];refine a1 _ _ (cj _ _ _ (by rw[qg.2];omega) qg.1 (by rw[qg.2];omega) ((aC.trans yW).aK qZ) (B9.apJ A E hg) ?_ (by rw[aX bI];exact Hi) (by simp[aT]) (by simp[bo]) (by simp[qg.2]) a6);refine⟨by rw[aX ao];exact yH.bf,λk O bx=> ?_,yH.inj⟩;obtain⟨aE,a5⟩:=yH.F k O bx;exact⟨by rw[aX (by omega)];exact aE,a5⟩
theorem aug{n:dL}(cc:n.iS){aq:Nat}(dM:n.dF=aq){b9:Int->Bool}:jQ n.bl (gX (yx aq b9))=jQ n.bl b9:=by rw[Vw n.bl (gY:=b9)];intro a ag;obtain⟨⟨br,bQ⟩,⟨a3,a4⟩,_⟩:=cc.p9 a ag;exact⟨Pk br (by omega),Pk a3 (by omega)⟩
structure DS(n:dL)(au:List Int)(cg:List Bool):Prop where
 PC:o6 n au
 len:(cg.length:Int)=n.dF
 dr:gX cg n.dr=true
 et:gX cg n.et=false
 val:value n au=jQ n.bl (gX cg)
def U8(n:dL)(m:G)(r:Value)(U:G):Prop:=fe m U/\ ∃(au:List Int) (cg:List Bool) (cP dZ:Nat),r= .tuple #[.slice (some ⟨cP,0,none⟩) au.length 1,D (value n au),.slice (some ⟨dZ,0,none⟩) cg.length 1,D 0]/\m.next<=cP/\m.next<=dZ/\dZ≠cP/\U.F cP=some ⟨au.map (Value.int .i64 ·),true⟩/\U.F dZ=some ⟨cg.map (Value.bool ·),true⟩/\DS n au cg
theorem aqT{n:dL}(cc:n.iS){aq:Nat}(dM:n.dF=aq){b9:Int->Bool}{au:List Int}(h:o6 n au)(A:b9 n.dr=true)(E:b9 n.et=false)(ao:value n au=jQ n.bl b9):DS n au (yx aq b9):=by obtain⟨aT,bY⟩:=cc.dr;obtain⟨bd,dR⟩:=cc.et;exact⟨h,by rw[VD,dM],by rw[Pk aT (by omega)];exact A,by rw[Pk bd (by omega)];exact E,by rw[aug cc dM];exact ao⟩
set_option maxRecDepth 20000 in
theorem aqU{n:dL}(nN:n.iS){v:Value}{m:G}(M:mm m v n.bl):eu N 125 [CW n v] m (U8 n m):=by
 rw[atS (by simp)];obtain⟨dc,gJ⟩:=M.len;have dq:fe m ((m.bU 5).aK m.next (some ⟨kX n v,true⟩)):=((fe.refl m).bU 5).aK (c8 _);simp(disch:=first|omega|simp only[bS];omega) [Ys];refine(aJv (M.bt dq)).bt λr cK ae=> ?_;obtain⟨rfl,aC⟩:=ae;have hp:=dq.trans aC;have aH:cK.F m.next=some ⟨kX n v,true⟩:=aC.some (cb (by simp))
 have Qh:=aF aH;have tK:=hp.next
 have cc:=Ix.2 nN;have oq:=M.bt hp;obtain⟨aq,dM⟩: ∃aq:Nat,n.dF=aq:=⟨n.dF.toNat,by have:=nN.er;omega⟩;have Al:n.dF.toNat=aq:=by omega
 have eg:=nN.AS;have fw:=nN.rH;have z0:0<=n.dF:=by omega
 have je:n.dF*24<=140737488355328:=by omega
 have kf:n.dF<=9223372036854775807:=by omega
 have z3:(n.bl.length:Int)*8<=140737488355328:=by omega
 have z4:(n.bl.length:Int)<=9223372036854775807:=by omega
 have rv:n.bl.length*8<=140737488355328:=by omega
 have tb:n.bl.length<=9223372036854775807:=by omega
 simp(disch:=first|omega|simp only[bS];omega) [cc,aH,dc,gJ,Al,z0,je,kf,z3,z4];obtain⟨Hv,xG⟩:=asv nN;generalize KK:(((cK.bU 11).aK (cK.next+4) (some ⟨List.replicate n.bl.length (Value.int .i64 0),true⟩)).aK (cK.next+7) (some ⟨List.replicate aq (Value.slice none 0 0),true⟩)).aK (cK.next+9) (some ⟨[D n.dF,D n.dr,D n.et,v,.slice (some ⟨cK.next+4,0,none⟩) n.bl.length 1,.slice (some ⟨cK.next+7,0,none⟩) aq 1],true⟩)=BC;have aQH:BC.next=cK.next+11:=by rw[<-KK];simp
 have aiz:fe cK BC:=⟨by omega,λb hb=>by rw[<-KK];simp(disch:=first|omega|(simp only[eT,fq];omega)) only[aX,cl]⟩;have gO:BC.F (cK.next+9)=some ⟨[D n.dF,D n.dr,D n.et,v,.slice (some ⟨cK.next+4,0,none⟩) n.bl.length 1,.slice (some ⟨cK.next+7,0,none⟩) aq 1],true⟩:=by rw[<-KK];simp(disch:=first|omega|(simp only[eT,fq];omega)) only[cb]
 have dy:BC.F (cK.next+4)=some ⟨List.replicate n.bl.length (Value.int .i64 0),true⟩:=by rw[<-KK];simp(disch:=first|omega|(simp only[eT,fq];omega)) only[cb,aX]
 have awo:BC.F (cK.next+7)=some ⟨List.replicate aq (Value.slice none 0 0),true⟩:=by rw[<-KK];simp(disch:=first|omega|(simp only[eT,fq];omega)) only[cb,aX]
 have sK:List.replicate aq (Value.slice none 0 0)=r8 aq (λ_=>[]) (λ_=>0):=by apply Bv<;>simp[r8,rq]
 have Cq: ∀b l c,v= .slice (some ⟨b,0,none⟩) l c->b<cK.next:=by
  intro b l c aU;rcases oq with⟨h,_⟩|⟨cB,o,h,hb⟩
  ·rw[h]at aU;cases aU
  ·rw[h]at aU;cases aU;exact aF hb
 refine apk nN dM (au:=List.replicate n.bl.length 0) (v:=v) (cD:=cK.next+9) (cP:=cK.next+4) (fl:=cK.next+7) (bh:=cK.next+11) (ek:=BC) (oq.bt aiz) (by rw[gO,Jo]) (by omega) (by omega) (by omega) (λb l c aU=>by have:=Cq b l c aU;omega) n.bl.length 0 BC _ (λ_=>[]) (λ_=>0) (by omega) (by omega) (λ_ _ _=>rfl) ⟨by rw[awo,sK],λk O bx=>absurd rfl bx,λk fk O mC Av A=>absurd rfl A⟩ ⟨λx I bE=>by simp at bE,λe aU=>by omega,λx=>by simp⟩ (by simp) (by simp[]) (by simp) (by simp) (λK U o' tg aG aN ct gC mx=> ?_);have a9:K 1=bC m.next:=by rw[aG 1 (by omega)];simp
 have mg:K 6=bC (cK.next+9):=by rw[aG 6 (by omega)];simp
 have ab1:fe cK U:=⟨by omega,λb hb=>by rw[ct b (by omega) (by omega),aiz.F b hb]⟩;have b8:rE n (List.replicate n.bl.length 0) v (cK.next+9) (cK.next+4) (cK.next+7) aq U:=by refine⟨by rw[ct _ (by omega) (by omega),gO,Jo],oq.bt ab1,?_⟩;rw[ct _ (by omega) (by omega),dy,List.map_replicate]
 simp(disch:=omega) [];refine aIz nN dM (v:=v) (cD:=cK.next+9) (cP:=cK.next+4) (fl:=cK.next+7) (nb:=m.next) (bh:=cK.next+11) (ek:=cK) (by omega) (by omega) (λb l c aU=>by have:=Cq b l c aU;omega) (by omega) (by omega) (by omega) mx 5368709117500 (List.replicate n.bl.length 0) U _ (by rw[xG];omega) Hv (by rw[xG];omega) ab1 b8 gC (ab1.some aH) (by simp[a9]) (by simp[mg]) (by simp[xG]) (λk5 vh vV b9 dZ ej eD gg lJ rO f6 f7 kE m6 B1 nK V2 ahb=> ?_);simp(disch:=omega) [B1,nK,V2,ahb];have kj:=hp.next
 exact⟨hp.trans ej,vV,yx aq b9,_,dZ,by rw[VD],by omega,by omega,m6,gg,by rw[lJ,agH],aqT nN dM eD f6 f7 rO⟩
def l4(L:Nat)(I:Int):hN:=if I<0 then(L,false)else if I<L then(I.toNat,true)else((I-L).toNat,false)
theorem auG{L i:Nat}(h:i<L):l4 L (i:Int)=(i,true):=by
 have bX: ¬(i:Int)<0:=by omega
 have:(i:Int)<L:=by omega
 simp only[l4,bX,this,if_false,if_true,nB]
theorem auF{L i:Nat}:l4 L ((L:Int)+i)=(i,false):=by
 have bX: ¬(L:Int)+i<0:=by omega
 have h: ¬((L:Int)+i<L):=by omega
 have E:((L:Int)+i-L).toNat=i:=by omega
 simp only[l4,bX,h,if_false,E]
theorem agP{L:Nat}{I:Int}(h:(l4 L I).1<L):(∃i:Nat,i<L/\I=i/\l4 L I=(i,true))\/(∃i:Nat,i<L/\I=(L:Int)+i/\l4 L I=(i,false)):=by
 by_cases bX:I<0
 ·simp only[l4,bX,if_true]at h;omega
 ·by_cases A:I<L
  ·exact .inl ⟨I.toNat,by omega,by omega,by simp only[l4,bX,A,if_false,if_true]⟩
  ·have e:l4 L I=((I-L).toNat,false):=(by simp only[l4,bX,A,if_false]);rw[e]at h;exact .inr ⟨(I-L).toNat,h,by omega,e⟩
def H4:aB:= .kB (.kN [
 ⟨0,some 45,none,.kt 0 (.tmp 11),[]⟩,
 ⟨1,some 46,none,.hq false 1 (.tmp 45),[]⟩,
 ⟨2,some 47,none,.hY (.tmp 9),[]⟩,
 ⟨3,some 48,none,.oJ .eql .ua (.tmp 46) (.tmp 47),[]⟩,
 ⟨4,some 49,none,.hY (.tmp 48),[]⟩,
 ⟨5,some 50,some (49,true),.hY (.tmp 6),[]⟩,
 ⟨6,some 51,some (49,true),.kt 1 (.tmp 11),[]⟩,
 ⟨7,some 52,some (49,true),.hq false 1 (.tmp 51),[]⟩,
 ⟨8,some 53,some (49,true),.mZ 1 (.tmp 50) (.tmp 52),[]⟩,
 ⟨9,some 54,some (49,true),.hq false 1 (.tmp 53),[]⟩,
 ⟨10,some 55,some (49,true),.zC .not (.tmp 54),[]⟩,
 ⟨11,some 56,none,.vl (.tmp 49) (.tmp 55) (.const (.bool false)),[]⟩,
 ⟨12,some 57,none,.hY (.tmp 56),[]⟩,
 ⟨13,some 58,some (57,true),.hY (.tmp 1),[]⟩,
 ⟨14,some 59,some (57,true),.hY (.tmp 10),[]⟩,
 ⟨15,some 60,some (57,true),.mZ 1 (.tmp 58) (.tmp 59),[]⟩,
 ⟨16,some 61,some (57,true),.hq false 1 (.tmp 60),[]⟩,
 ⟨17,some 62,some (57,true),.kt 2 (.tmp 11),[]⟩,
 ⟨18,some 63,some (57,true),.hq false 1 (.tmp 62),[]⟩,
 ⟨19,some 64,some (57,true),.oJ .lss .ua (.tmp 61) (.tmp 63),[]⟩,
 ⟨20,some 65,none,.vl (.tmp 57) (.tmp 64) (.const (.bool false)),[]⟩]) (.nG (.tmp 65) (.kB (.kN [
  ⟨0,some 66,none,.hY (.tmp 6),[]⟩,
  ⟨1,some 67,none,.kt 1 (.tmp 11),[]⟩,
  ⟨2,some 68,none,.hq false 1 (.tmp 67),[]⟩,
  ⟨3,some 69,none,.hY (.tmp 7),[]⟩,
  ⟨4,some 70,none,.kt 1 (.tmp 11),[]⟩,
  ⟨5,some 71,none,.hq false 1 (.tmp 70),[]⟩,
  ⟨6,some 72,none,.hY (.tmp 10),[]⟩,
  ⟨7,some 73,none,.mZ 1 (.tmp 66) (.tmp 68),[]⟩,
  ⟨8,none,none,.store 1 (.tmp 73) (.const (.bool true)),[(.tmp 70,.tmp 73)]⟩,
  ⟨9,some 74,none,.mZ 1 (.tmp 69) (.tmp 71),[]⟩,
  ⟨10,none,none,.store 1 (.tmp 74) (.tmp 72),[]⟩]) (.kN [
  ⟨0,some 75,none,.hY (.tmp 8),[]⟩,
  ⟨1,some 76,none,.kt 1 (.tmp 11),[]⟩,
  ⟨2,some 77,none,.hq false 1 (.tmp 76),[]⟩,
  ⟨3,some 78,none,.mv 1 1 [.int .i64 0] [(0,1,.tmp 77)],[]⟩,
  ⟨4,some 79,none,.app 1 8 (.tmp 75) (.tmp 78),[]⟩,
  ⟨5,some 8,none,.hY (.tmp 79),[]⟩])) (.skip))
def H5:aB:= .kB (.kN [
 ⟨0,some 80,none,.kt 1 (.tmp 11),[]⟩,
 ⟨1,some 81,none,.hq false 1 (.tmp 80),[]⟩,
 ⟨2,some 82,none,.hY (.tmp 9),[]⟩,
 ⟨3,some 83,none,.oJ .eql .ua (.tmp 81) (.tmp 82),[]⟩,
 ⟨4,some 84,none,.hY (.tmp 83),[]⟩,
 ⟨5,some 85,some (84,true),.hY (.tmp 6),[]⟩,
 ⟨6,some 86,some (84,true),.kt 0 (.tmp 11),[]⟩,
 ⟨7,some 87,some (84,true),.hq false 1 (.tmp 86),[]⟩,
 ⟨8,some 88,some (84,true),.mZ 1 (.tmp 85) (.tmp 87),[]⟩,
 ⟨9,some 89,some (84,true),.hq false 1 (.tmp 88),[]⟩,
 ⟨10,some 90,some (84,true),.zC .not (.tmp 89),[]⟩,
 ⟨11,some 91,none,.vl (.tmp 84) (.tmp 90) (.const (.bool false)),[]⟩,
 ⟨12,some 92,none,.hY (.tmp 91),[]⟩,
 ⟨13,some 93,some (92,true),.hY (.tmp 1),[]⟩,
 ⟨14,some 94,some (92,true),.hY (.tmp 10),[]⟩,
 ⟨15,some 95,some (92,true),.mZ 1 (.tmp 93) (.tmp 94),[]⟩,
 ⟨16,some 96,some (92,true),.hq false 1 (.tmp 95),[]⟩,
 ⟨17,some 97,some (92,true),.oJ .gtr .ua (.tmp 96) (.const (.int .i64 0)),[]⟩,
 ⟨18,some 98,none,.vl (.tmp 92) (.tmp 97) (.const (.bool false)),[]⟩]) (.nG (.tmp 98) (.kB (.kN [
  ⟨0,some 99,none,.hY (.tmp 6),[]⟩,
  ⟨1,some 100,none,.kt 0 (.tmp 11),[]⟩,
  ⟨2,some 101,none,.hq false 1 (.tmp 100),[]⟩,
  ⟨3,some 102,none,.hY (.tmp 7),[]⟩,
  ⟨4,some 103,none,.kt 0 (.tmp 11),[]⟩,
  ⟨5,some 104,none,.hq false 1 (.tmp 103),[]⟩,
  ⟨6,some 105,none,.kt 3 (.tmp 2),[]⟩,
  ⟨7,some 106,none,.hq false 1 (.tmp 105),[]⟩,
  ⟨8,some 107,none,.vg (.tmp 106),[]⟩,
  ⟨9,some 108,none,.hY (.tmp 10),[]⟩,
  ⟨10,some 109,none,.oJ .add .ua (.tmp 107) (.tmp 108),[]⟩,
  ⟨11,some 110,none,.mZ 1 (.tmp 99) (.tmp 101),[]⟩,
  ⟨12,none,none,.store 1 (.tmp 110) (.const (.bool true)),[(.tmp 105,.tmp 110),(.tmp 103,.tmp 110)]⟩,
  ⟨13,some 111,none,.mZ 1 (.tmp 102) (.tmp 104),[]⟩,
  ⟨14,none,none,.store 1 (.tmp 111) (.tmp 109),[]⟩]) (.kN [
  ⟨0,some 112,none,.hY (.tmp 8),[]⟩,
  ⟨1,some 113,none,.kt 0 (.tmp 11),[]⟩,
  ⟨2,some 114,none,.hq false 1 (.tmp 113),[]⟩,
  ⟨3,some 115,none,.mv 1 1 [.int .i64 0] [(0,1,.tmp 114)],[]⟩,
  ⟨4,some 116,none,.app 1 8 (.tmp 112) (.tmp 115),[]⟩,
  ⟨5,some 8,none,.hY (.tmp 116),[]⟩])) (.skip))
theorem ake:YE=(.kB (.kB (.kN [
 ⟨0,some 33,none,.hY (.tmp 10),[]⟩,
 ⟨1,some 34,none,.kt 3 (.tmp 2),[]⟩,
 ⟨2,some 35,none,.hq false 1 (.tmp 34),[]⟩,
 ⟨3,some 36,none,.vg (.tmp 35),[]⟩,
 ⟨4,some 37,none,.oJ .lss .ua (.tmp 33) (.tmp 36),[]⟩]) (.nG (.tmp 37) (.skip) (.cF 2))) (.kB (.block 3 (.kB (.kN [
 ⟨0,some 40,none,.kt 3 (.tmp 2),[]⟩,
 ⟨1,some 41,none,.hq false 1 (.tmp 40),[]⟩,
 ⟨2,some 42,none,.hY (.tmp 10),[]⟩,
 ⟨3,some 43,none,.mZ 4 (.tmp 41) (.tmp 42),[]⟩,
 ⟨4,some 44,none,.hq true 4 (.tmp 43),[]⟩,
 ⟨5,some 11,none,.nD [.int .i64 0,.int .i64 0,.int .i64 0,.int .i64 0],[]⟩,
 ⟨6,none,none,.store 4 (.tmp 11) (.tmp 44),[]⟩]) (.kB (H4) (H5)))) (.kN [
 ⟨0,some 38,none,.hY (.tmp 10),[]⟩,
 ⟨1,some 39,none,.oJ .add .ua (.tmp 38) (.const (.int .i64 1)),[]⟩,
 ⟨2,some 10,none,.hY (.tmp 39),[]⟩])):aB):=rfl
set_option maxRecDepth 20000 in
theorem aAW{n:dL}(cc:n.iS){aq:Nat}(dM:n.dF=aq){au:List Int}{cY:Bool}{cP jE ez dZ gS off bh:Nat}{iW:List Value}{q:List Int}{b9:Int->Bool}{ec:Int->Int}{m:G}{z:aD}{i:Nat}{a:dm}{bR x:Int}
 (ag:n.bl[i]?=some a) (fo:au[i]?=some bR) (c1:yp aq ez dZ gS off iW q b9 ec m) (cd:lE n au b9 (λx=>l4 n.bl.length (ec x)) (x::q)) (oS:bh<=gS) (lM:bh<=m.next) (wq:q.length<=100000)
 (pa:m.F jE=some ⟨gH a,true⟩) (qZ:m.F cP=some ⟨au.map (Value.int .i64 ·),cY⟩) (kE:jE≠dZ) (m6:jE≠ez) (mO:jE≠gS) (s9:cP≠dZ) (Bp:cP≠ez) (Og:cP≠gS)
 (aT:z 1= .slice (some ⟨cP,0,none⟩) au.length 1) (bo:z 6= .slice (some ⟨dZ,0,none⟩) aq 1) (cf:z 7= .slice (some ⟨ez,0,none⟩) aq 1) (bm:z 8= .slice (some ⟨gS,off,none⟩) q.length 1) (cz:z 9=D x) (ey:z 10=D i) (fr:z 11=bC jE) {Q:cO->aD->G->Prop}
 (a6: ∀K U mh pq r5 new jt k8,(∀t,t<45->t≠8->K t=z t)->K 8= .slice (some ⟨mh,pq,none⟩) (q++new).length 1->yp aq ez dZ mh pq r5 (q++new) jt k8 U->lE n au jt (λx=>l4 n.bl.length (k8 x)) (x::(q++new))->new.length+nd jt aq=nd b9 aq->(∀y,b9 y=true->jt y=true)->(0<cR n au (i,true)->gK n (i,true)=x->jt (ic n (i,true))=true)->
  (∀c,c<m.next->c≠ez->c≠dZ->c≠gS->U.F c=m.F c)->m.next<=U.next->bh<=mh->(mh=gS\/m.next<=mh)->Q .eR K U):fJ N H4 z m Q:=by
 obtain⟨hb,aU,bg,wu,oj,ed,er,lA⟩:=c1;have xw:=(cN.1 ag).1;have fw:=cc.rH;have dV:=(cN.1 fo).1;have kK:i+1<=au.length:=dV;have nS: ∀h,au[i]'h=bR:= λh=>by rw[c6 h]at fo;simpa using fo
 obtain⟨a9,bW,_⟩:=cc.p9 a (fX ag);have vy:gK n (i,true)=a.f:=by simp[gK,ag]
 have yb:ic n (i,true)=a.t:=by simp[ic,ag]
 have AA:cR n au (i,true)=a.c-bR:=by simp[cR,ag,fo]
 obtain⟨bd,dR⟩:n.hC a.t:=by assumption
 obtain⟨ej,eD⟩:n.hC a.f:=by assumption
 rw[dM]at dR eD;obtain⟨k,O⟩: ∃k:Nat,a.t=k:=⟨a.t.toNat,by omega⟩;have p6:a.t.toNat=k:=by omega
 have t3:k<aq:=by omega
 have t4:k+1<=aq:=t3;have om:(kr aq b9)[k]?=some (.bool (b9 a.t)):=by rw[DX t3,O]
 have Lc: ∀h,(kr aq b9)[k]'h= .bool (b9 a.t):= λh=>by rw[DY,O]
 have oo:(jM aq ec)[k]?=some (D (ec k)):=x4 t3;have abh:=aF hb;have abj:=aF aU;have abn:=aF bg;have abf:=aF pa;have aDq:=aF qZ;by_cases bB:a.f=x
 ·cases cC:b9 a.t
  ·by_cases dO:bR<a.c
   ·have je:(q.length+1)*8<=140737488355328:=(by omega);have kf:q.length+1<=9223372036854775807:=(by omega);simp(disch:=first|omega|simp only[bS];omega) [H4,aT,bo,cf,bm,cz,ey,fr,hb,aU,bg,wu,oj,pa,qZ,nS,bd,dR,p6,e1,om,kK,dV,gH,iY,bne_iff_ne,kE,Nt,acP,t4,eq_true bB,cC,dO,je,kf,-wF];refine a6 _ _ (m.next+4) 0 (q.map (Value.int .i64 ·)++[D a.t]) [a.t] (eU b9 k true) (eU ec k (i:Int)) (λt a8 hf=>by simp(disch:=omega) only[ml]) (by simp) ⟨by simp(disch:=first|omega|(simp only[eT,fq];omega)) only[cb,aX,cl],by simp(disch:=first|omega|(simp only[eT,fq];omega)) only[cb,aX,cl],by simp(disch:=first|omega|(simp only[eT,fq];omega)) only[cb],by simp,by rw[oB,hx (by simp)];simp,ed,by omega,by omega⟩ ?_ ?_ (λy Z=>by unfold eU;split<;>first|rfl|exact Z) (λ_ _=>by rw[yb,O];unfold eU;rw[if_pos rfl]) (λc A E ao aS=>by simp(disch:=first|omega|(simp only[eT,fq];omega)) only[aX,cl]) (by simp only[eT,fq];omega) (by omega) (.inr (by omega))
    ·have Ca:=cd.add (e:=(i,true)) (by rw[AA];omega) (by rw[vy,bB];exact cd.h8 x (by simp)) (by rw[yb];exact cC) (by rw[yb];exact⟨bd,by omega⟩);rw[yb,O]at Ca;have e:(λx=>l4 n.bl.length (eU ec (k:Int) (i:Int) x))=eU (λx=>l4 n.bl.length (ec x)) (k:Int) (i,true):=by
      funext y;unfold eU;split
      ·exact auG xw
      ·rfl
     rw[e,O];simpa using Ca
    ·have:=D4 b9 k (by omega) (by rw[<-O];exact cC) aq (by omega);simp;omega
   ·simp(disch:=omega) [H4,aT,bo,cz,ey,fr,aU,pa,qZ,nS,bd,dR,p6,e1,om,kK,dV,gH,iY,t4,eq_true bB,cC,dO,-wF];exact a6 _ _ gS off iW [] b9 ec (λt a8 hf=>by simp(disch:=omega) only[ml]) (by simp[bm]) (by simpa using⟨hb,aU,bg,wu,oj,ed,er,lA⟩) (by simpa using cd) (by simp) (λy Z=>Z) (λh _=>by rw[AA]at h;omega) (λc A E ao aS=>rfl) (c8 _) oS (.inl rfl)
  ·simp(disch:=omega) [H4,bo,cz,fr,aU,pa,bd,dR,p6,e1,om,gH,iY,t4,eq_true bB,cC,-wF];exact a6 _ _ gS off iW [] b9 ec (λt a8 hf=>by simp(disch:=omega) only[ml]) (by simp[bm]) (by simpa using⟨hb,aU,bg,wu,oj,ed,er,lA⟩) (by simpa using cd) (by simp) (λy Z=>Z) (λ_ _=>by rw[yb];exact cC) (λc A E ao aS=>rfl) (c8 _) oS (.inl rfl)
 ·simp(disch:=omega) [H4,cz,fr,pa,gH,iY,bB,-wF];exact a6 _ _ gS off iW [] b9 ec (λt a8 hf=>by simp(disch:=omega) only[ml]) (by simp[bm]) (by simpa using⟨hb,aU,bg,wu,oj,ed,er,lA⟩) (by simpa using cd) (by simp) (λy Z=>Z) (λ_ h=>by rw[vy]at h;exact absurd h bB) (λc A E ao aS=>rfl) (c8 _) oS (.inl rfl)
set_option maxRecDepth 20000 in
theorem aAX{n:dL}(cc:n.iS){aq:Nat}(dM:n.dF=aq){au:List Int}{cY:Bool}{cP jE ez dZ gS off bh nb:Nat}{iW:List Value}{q:List Int}{b9:Int->Bool}{ec:Int->Int}{m:G}{z:aD}{i:Nat}{a:dm}{bR x:Int}
 (ag:n.bl[i]?=some a) (fo:au[i]?=some bR) (c1:yp aq ez dZ gS off iW q b9 ec m) (cd:lE n au b9 (λx=>l4 n.bl.length (ec x)) (x::q)) (oS:bh<=gS) (lM:bh<=m.next) (wq:q.length<=100000)
 (pa:m.F jE=some ⟨gH a,true⟩) (qZ:m.F cP=some ⟨au.map (Value.int .i64 ·),cY⟩) (kE:jE≠dZ) (m6:jE≠ez) (mO:jE≠gS) (s9:cP≠dZ) (Bp:cP≠ez) (Og:cP≠gS) {v:Value} (uZ:m.F nb=some ⟨kX n v,true⟩) (Qv:fa v=n.bl.length/\hQ v=true) (ar7:nb≠dZ) (aJ7:nb≠ez) (aJ8:nb≠gS)
 (aT:z 1= .slice (some ⟨cP,0,none⟩) au.length 1) (bo:z 6= .slice (some ⟨dZ,0,none⟩) aq 1) (cf:z 7= .slice (some ⟨ez,0,none⟩) aq 1) (bm:z 8= .slice (some ⟨gS,off,none⟩) q.length 1) (cz:z 9=D x) (ey:z 10=D i) (fr:z 11=bC jE) (bY:z 2=bC nb) {Q:cO->aD->G->Prop}
 (a6: ∀K U mh pq r5 new jt k8,(∀t,t<80->t≠8->K t=z t)->K 8= .slice (some ⟨mh,pq,none⟩) (q++new).length 1->yp aq ez dZ mh pq r5 (q++new) jt k8 U->lE n au jt (λx=>l4 n.bl.length (k8 x)) (x::(q++new))->new.length+nd jt aq=nd b9 aq->(∀y,b9 y=true->jt y=true)->(0<cR n au (i,false)->gK n (i,false)=x->jt (ic n (i,false))=true)->
  (∀c,c<m.next->c≠ez->c≠dZ->c≠gS->U.F c=m.F c)->m.next<=U.next->bh<=mh->(mh=gS\/m.next<=mh)->Q .eR K U):fJ N H5 z m Q:=by
 obtain⟨hb,aU,bg,wu,oj,ed,er,lA⟩:=c1;have xw:=(cN.1 ag).1;have fw:=cc.rH;have dV:=(cN.1 fo).1;have kK:i+1<=au.length:=dV;have nS: ∀h,au[i]'h=bR:= λh=>by rw[c6 h]at fo;simpa using fo
 obtain⟨a9,bW,_⟩:=cc.p9 a (fX ag);have vy:gK n (i,false)=a.t:=by simp[gK,ag]
 have yb:ic n (i,false)=a.f:=by simp[ic,ag]
 have AA:cR n au (i,false)=bR:=by simp[cR,ag,fo]
 obtain⟨bd,dR⟩:n.hC a.f:=by assumption
 obtain⟨ej,eD⟩:n.hC a.t:=by assumption
 rw[dM]at dR eD;obtain⟨k,O⟩: ∃k:Nat,a.f=k:=⟨a.f.toNat,by omega⟩;have p6:a.f.toNat=k:=by omega
 have t3:k<aq:=by omega
 have t4:k+1<=aq:=t3;have om:(kr aq b9)[k]?=some (.bool (b9 a.f)):=by rw[DX t3,O]
 have Lc: ∀h,(kr aq b9)[k]'h= .bool (b9 a.f):= λh=>by rw[DY,O]
 have oo:(jM aq ec)[k]?=some (D (ec k)):=x4 t3;have abh:=aF hb;have abj:=aF aU;have abn:=aF bg;have abf:=aF pa;have aDq:=aF qZ;obtain⟨dc,gJ⟩:=Qv;have cr:IntKind.i64.wrap ((n.bl.length:Int)+i)=(n.bl.length:Int)+i:=db (by omega) (by omega);have aTb:=aF uZ;by_cases bB:a.t=x
 ·cases cC:b9 a.f
  ·by_cases dO:0<bR
   ·have je:(q.length+1)*8<=140737488355328:=(by omega);have kf:q.length+1<=9223372036854775807:=(by omega);simp(disch:=first|omega|simp only[bS];omega) [H5,aT,bo,cf,bm,cz,ey,fr,hb,aU,bg,wu,oj,pa,qZ,nS,bd,dR,p6,e1,om,kK,dV,gH,iY,bne_iff_ne,kE,uZ,dc,gJ,bY,ar7,cr,Nt,acP,t4,eq_true bB,cC,dO,je,kf,-wF];refine a6 _ _ (m.next+4) 0 (q.map (Value.int .i64 ·)++[D a.f]) [a.f] (eU b9 k true) (eU ec k ((n.bl.length:Int)+i)) (λt a8 hf=>by simp(disch:=omega) only[ml]) (by simp) ⟨by simp(disch:=first|omega|(simp only[eT,fq];omega)) only[cb,aX,cl],by simp(disch:=first|omega|(simp only[eT,fq];omega)) only[cb,aX,cl],by simp(disch:=first|omega|(simp only[eT,fq];omega)) only[cb],by simp,by rw[oB,hx (by simp)];simp,ed,by omega,by omega⟩ ?_ ?_ (λy Z=>by unfold eU;split<;>first|rfl|exact Z) (λ_ _=>by rw[yb,O];unfold eU;rw[if_pos rfl]) (λc A E ao aS=>by simp(disch:=first|omega|(simp only[eT,fq];omega)) only[aX,cl]) (by simp only[eT,fq];omega) (by omega) (.inr (by omega))
    ·have Ca:=cd.add (e:=(i,false)) (by rw[AA];omega) (by rw[vy,bB];exact cd.h8 x (by simp)) (by rw[yb];exact cC) (by rw[yb];exact⟨bd,by omega⟩);rw[yb,O]at Ca;have e:(λx=>l4 n.bl.length (eU ec (k:Int) ((n.bl.length:Int)+i) x))=eU (λx=>l4 n.bl.length (ec x)) (k:Int) (i,false):=by
      funext y;unfold eU;split
      ·exact auF
      ·rfl
     rw[e,O];simpa using Ca
    ·have:=D4 b9 k (by omega) (by rw[<-O];exact cC) aq (by omega);simp;omega
   ·simp(disch:=omega) [H5,aT,bo,cz,ey,fr,aU,pa,qZ,nS,bd,dR,p6,e1,om,kK,dV,gH,iY,t4,eq_true bB,cC,dO,-wF];exact a6 _ _ gS off iW [] b9 ec (λt a8 hf=>by simp(disch:=omega) only[ml]) (by simp[bm]) (by simpa using⟨hb,aU,bg,wu,oj,ed,er,lA⟩) (by simpa using cd) (by simp) (λy Z=>Z) (λh _=>by rw[AA]at h;omega) (λc A E ao aS=>rfl) (c8 _) oS (.inl rfl)
  ·simp(disch:=omega) [H5,bo,cz,fr,aU,pa,bd,dR,p6,e1,om,gH,iY,t4,eq_true bB,cC,-wF];exact a6 _ _ gS off iW [] b9 ec (λt a8 hf=>by simp(disch:=omega) only[ml]) (by simp[bm]) (by simpa using⟨hb,aU,bg,wu,oj,ed,er,lA⟩) (by simpa using cd) (by simp) (λy Z=>Z) (λ_ _=>by rw[yb];exact cC) (λc A E ao aS=>rfl) (c8 _) oS (.inl rfl)
 ·simp(disch:=omega) [H5,cz,fr,pa,gH,iY,bB,-wF];exact a6 _ _ gS off iW [] b9 ec (λt a8 hf=>by simp(disch:=omega) only[ml]) (by simp[bm]) (by simpa using⟨hb,aU,bg,wu,oj,ed,er,lA⟩) (by simpa using cd) (by simp) (λy Z=>Z) (λ_ h=>by rw[vy]at h;exact absurd h bB) (λc A E ao aS=>rfl) (c8 _) oS (.inl rfl)
structure Jy(n:dL)(v:Value)(au:List Int)(cP nb ez dZ bh:Nat)(p0 m:G):Prop where
 m1:fe p0 m
 nb:m.F nb=some ⟨kX n v,true⟩
 cP: ∃cY,m.F cP=some ⟨au.map (Value.int .i64 ·),cY⟩
 bh:bh<=m.next
structure afl(cP nb ez dZ bh:Nat)(p0:G):Prop where
 a:p0.next<=nb/\p0.next<=ez/\p0.next<=dZ/\cP<p0.next
 b:nb<bh/\ez<bh/\dZ<bh/\p0.next<=bh
 c:nb≠ez/\nb≠dZ
set_option maxRecDepth 20000 in
theorem aqi{n:dL}(cc:n.iS){aq:Nat}(dM:n.dF=aq){v:Value}{au:List Int}(dV:au.length=n.bl.length){cP nb ez dZ bh:Nat}{p0:G}(aA:afl cP nb ez dZ bh p0)(M:mm p0 v n.bl){x:Int}{Q:cO->aD->G->Prop}:
 ∀(r i:Nat) (m:G) (z:aD) (gS off:Nat) (iW:List Value) (q:List Int) (b9:Int->Bool) (ec:Int->Int),i+r=n.bl.length->Jy n v au cP nb ez dZ bh p0 m->bh<=gS->yp aq ez dZ gS off iW q b9 ec m->q.length+nd b9 aq<=701->
 lE n au b9 (λx=>l4 n.bl.length (ec x)) (x::q)->(∀e:hN,e.1<i->0<cR n au e->gK n e=x->b9 (ic n e)=true)->
 z 1= .slice (some ⟨cP,0,none⟩) au.length 1->z 2=bC nb->z 6= .slice (some ⟨dZ,0,none⟩) aq 1->z 7= .slice (some ⟨ez,0,none⟩) aq 1->z 8= .slice (some ⟨gS,off,none⟩) q.length 1->z 9=D x->z 10=D i->
 (∀K U mh pq r5 new jt k8,Jy n v au cP nb ez dZ bh p0 U->bh<=mh->yp aq ez dZ mh pq r5 (q++new) jt k8 U->new.length+nd jt aq=nd b9 aq->lE n au jt (λx=>l4 n.bl.length (k8 x)) (x::(q++new))->(∀e:hN,e.1<n.bl.length->0<cR n au e->gK n e=x->jt (ic n e)=true)->
  (∀t,t<8->K t=z t)->K 8= .slice (some ⟨mh,pq,none⟩) (q++new).length 1->Q (.cF 2) K U)->fJ N (.loop YE) z m Q
 | 0,i,m,z,gS,off,iW,q,b9,ec,Y,df,oS,c1,wq,cd,aW,aT,bY,bo,cf,bm,cz,ey,a6=>by refine jN λbO a1=> ?_;have A: ¬i<n.bl.length:=(by omega);have e0:=df.nb;obtain⟨dc,gJ⟩:=M.len;simp(disch:=first|omega|simp only[bS];omega) [ake,bY,ey,e0,dc,gJ,A];exact a6 _ _ gS off iW [] b9 ec df oS (by simpa using c1) (by simp) (by simpa using cd) (λe aU=>aW e (by omega)) (λt a8=>by simp(disch:=omega) only[ml]) (by simp[bm])
 | r+1,i,m,z,gS,off,iW,q,b9,ec,Y,df,oS,c1,wq,cd,aW,aT,bY,bo,cf,bm,cz,ey,a6=>by
   refine jN λbO a1=> ?_;have A:i<n.bl.length:=(by omega);obtain⟨a,ag⟩: ∃a,n.bl[i]?=some a:=⟨n.bl[i]'A,by simp⟩;obtain⟨bR,fo⟩: ∃bR,au[i]?=some bR:=⟨au[i]'(by omega),by simp⟩;obtain⟨aQu,aQv,aQw,aQx⟩:=aA.a;obtain⟨aQz,aQA,aQB,aQC⟩:=aA.b;obtain⟨W4,W5⟩:=aA.c;have oh:=df;obtain⟨qk,e0,⟨cY,dy⟩,lM⟩:=oh;have axx:=M.len;obtain⟨c,o,rfl,av⟩:=M.hc A;have hd:=qk.some av;have awW:i*4+4<=n.bl.length*4:=(by omega);have iq:=zZ ag;have tX:=aF hd;have jo:=aF dy;have bp:=fB (n:=i) (by have:=cc.rH;omega);simp(disch:=first|omega|simp only[bS];omega) [ake,bY,ey,e0,hd,A,awW,iq,gH];have C1: ∀b y,m.F b=some y->((m.bU 7).aK (m.next+5) (some ⟨[D a.f,D a.t,D a.c,D a.k],true⟩)).F b=some y:= λb y hb=>by have:=aF hb;rw[aX (by omega),cl this,hb]
   obtain⟨px,TO,TU,acT,Nu,acJ,acK,acL⟩:=id c1;have abn:=aF TU;have abh:=aF px;have abj:=aF TO;refine aAW cc dM (cP:=cP) (jE:=m.next+5) (bh:=bh) ag fo ⟨C1 _ _ px,C1 _ _ TO,C1 _ _ TU,acT,Nu,acJ,acK,acL⟩ cd oS (by simp only[eT,fq];omega) (by omega) (cb (by simp)) (C1 _ _ dy) (by omega) (by omega) (by omega) (by omega) (by omega) (by omega) (by simp[aT]) (by simp[bo]) (by simp[cf]) (by simp[bm]) (by simp[cz]) (by simp[ey]) (by simp) (λbT bn acr aTZ aUy aoS aIm aOH aG aN ct gC mx l5 Ad qS rJ VQ agV=> ?_);simp only[eT,fq]at qS rJ agV;simp only[N2];have bB: ∀b,b<m.next->b≠ez->b≠dZ->b≠gS->bn.F b=m.F b:= λb hb E ao aS=>by rw[qS b (by omega) E ao aS,aX (by omega),cl hb]
   have Wj:bn.F nb=some ⟨kX n (.slice (some ⟨c,0,none⟩) n.bl.length 4),true⟩:=(by rw[bB nb (aF e0) W4 W5 (by omega)];exact e0);have ahE:bn.F cP=some ⟨au.map (Value.int .i64 ·),cY⟩:=(by rw[bB cP jo (by omega) (by omega) (by omega)];exact dy);have Ai:bn.F (m.next+5)=some ⟨gH a,true⟩:=(by rw[qS _ (by omega) (by omega) (by omega) (by omega)];exact cb (by simp));obtain⟨aN2,aN3,aN4,aN5,aN6,aOa,aOb,aOc⟩:=id ct;have Xr:m.next+5≠acr:=by rcases agV with h|h<;>omega
   have aQQ:acr<bh\/bh<=acr:=(by omega);refine aAX cc dM (cP:=cP) (jE:=m.next+5) (bh:=bh) (nb:=nb) (v:= .slice (some ⟨c,0,none⟩) n.bl.length 4) ag fo ct gC VQ (by omega) (by simp;omega) Ai ahE (by omega) (by omega) Xr (by omega) (by omega) (by omega) Wj axx W5 W4 (by omega) (by rw[aG 1 (by omega) (by omega)];simp[aT]) (by rw[aG 6 (by omega) (by omega)];simp[bo]) (by rw[aG 7 (by omega) (by omega)];simp[cf]) aN (by rw[aG 9 (by omega) (by omega)];simp[cz]) (by rw[aG 10 (by omega) (by omega)];simp[ey]) (by rw[aG 11 (by omega) (by omega)];simp) (by rw[aG 2 (by omega) (by omega)];simp[bY]) (λc2 cK aFN aEL aFO aoT aqH atM ej eD gg lJ rO f6 f7 B1 nK V2 ahb=> ?_);have acu: ∀t,t<45->t≠8->c2 t=bT t:= λt a8 hf=>ej t (by omega) hf;have aFz:c2 10=D i:=(by rw[acu 10 (by omega) (by omega),aG 10 (by omega) (by omega)];simp[ey]);have zr: ∀t,t<8->c2 t=z t:= λt a8=>by rw[acu t (by omega) (by omega),aG t (by omega) (by omega)];simp(disch:=omega) only[ml]
   have acq:c2 9=D x:=(by rw[acu 9 (by omega) (by omega),aG 9 (by omega) (by omega)];simp[cz]);simp(disch:=omega) [aFz,bp];have KF:Jy n (.slice (some ⟨c,0,none⟩) n.bl.length 4) au cP nb ez dZ bh p0 cK:=by
    refine⟨⟨by have:=qk.next;omega,λb hb=> ?_⟩,?_,⟨cY,?_⟩,by omega⟩
    ·have:=qk.next
     rw[B1 b (by omega) (by omega) (by omega) (by omega),bB b (by omega) (by omega) (by omega) (by omega)];exact qk.F b hb
    ·rw[B1 nb (by have:=aF Wj;omega) W4 W5 (by omega)];exact Wj
    ·rw[B1 cP (by omega) (by omega) (by omega) (by omega)];exact ahE
   refine a1 _ _ (aqi cc dM dV aA M r (i+1) cK _ aFN aEL aFO (q++aoS++aoT) aqH atM (by omega) KF V2 gg (by simp;omega) lJ (λe aU ar B=> ?_) (by simp[zr 1 (by omega),aT]) (by simp[zr 2 (by omega),bY]) (by simp[zr 6 (by omega),bo]) (by simp[zr 7 (by omega),cf]) (by simp[eD]) (by simp[acq]) (by simp) (λK U mh pq r5 aEr jt k8 aE a5 ch dT gj ft nL qU=>a6 K U mh pq r5 (aoS++aoT++aEr) jt k8 aE a5 (by simpa using ch) (by simp;omega) (by simpa using gj) ft (λt a8=> ?_) (by simpa using qU)))
   ·by_cases aib:e.1<i
    ·exact f6 _ (l5 _ (aW e aib ar B))
    ·obtain⟨j,atJ⟩:=e;simp only at aU aib;obtain rfl:j=i:=(by omega);cases atJ
     ·exact f7 ar B
     ·exact f6 _ (Ad ar B)
   ·rw[nL t a8];simp(disch:=omega) only[ml];exact zr t a8
set_option maxRecDepth 20000 in
theorem aGI{n:dL}(cc:n.iS){aq:Nat}(dM:n.dF=aq){v:Value}{au:List Int}(dV:au.length=n.bl.length){cP nb ez dZ bh:Nat}{p0:G}(aA:afl cP nb ez dZ bh p0)(M:mm p0 v n.bl){Q:cO->aD->G->Prop}:
 ∀(k:Nat) (m:G) (z:aD) (gS off:Nat) (iW:List Value) (q:List Int) (b9:Int->Bool) (ec:Int->Int),q.length+nd b9 aq=k->k<=701->Jy n v au cP nb ez dZ bh p0 m->bh<=gS->yp aq ez dZ gS off iW q b9 ec m->
 lE n au b9 (λx=>l4 n.bl.length (ec x)) q->z 1= .slice (some ⟨cP,0,none⟩) au.length 1->z 2=bC nb->z 6= .slice (some ⟨dZ,0,none⟩) aq 1->z 7= .slice (some ⟨ez,0,none⟩) aq 1->z 8= .slice (some ⟨gS,off,none⟩) q.length 1->
 (∀K U jt k8,Jy n v au cP nb ez dZ bh p0 U->U.F ez=some ⟨jM aq k8,true⟩->U.F dZ=some ⟨kr aq jt,true⟩->lE n au jt (λx=>l4 n.bl.length (k8 x)) []->(∀t,t<8->K t=z t)->Q (.cF 0) K U)->fJ N (.loop LF) z m Q:=by
 intro k;induction k with
 | zero=>intro m z gS off iW q b9 ec O W2 df oS c1 cd aT bY bo cf bm a6;have bg:q=[]:=si.1 (by omega);subst bg;refine jN λbO a1=> ?_;simp[LF,bm];exact a6 _ _ b9 ec df c1.b c1.e cd (λt a8=>by simp(disch:=omega) only[ml])
 | succ k cj=>
   intro m z gS off iW q b9 ec O W2 df oS c1 cd aT bY bo cf bm a6;refine jN λbO a1=> ?_;cases q with
   | nil=>simp[LF,bm];exact a6 _ _ b9 ec df c1.b c1.e cd (λt a8=>by simp(disch:=omega) only[ml])
   | cons bf q=>
     have oj:=c1.apP;have wq:=c1.zr;have EE:=c1.acs;simp only[m8]at wq oj bm O;have Lb:iW[off]?=some (D bf):=(by have:=congrArg (λl=>l[0]?) oj;simp at this;exact this);have Xq: ∀h,iW[off]'h=D bf:= λh=>by rw[c6 h]at Lb;simpa using Lb
     have a9:off+1<=iW.length:=(by omega);have bW:off<iW.length:=(by omega);have je:(1:Int)<=(q.length:Int)+1:=(by omega);have kf:((q.length:Int)+1).toNat-1=q.length:=(by omega);have z3:((q.length:Int)+1).toNat=q.length+1:=(by omega);rw[pG bW,Oo]at oj;injection oj with _ oj;simp(disch:=omega) [LF,bm,EE,Xq,a9,je,z3,e1];refine aqi cc dM dV aA M (x:=bf) n.bl.length 0 m _ gS (off+1) iW q b9 ec (by omega) df oS ⟨c1.b,c1.e,c1.acs,by omega,oj,c1.ed,c1.er,c1.lA⟩ (by omega) cd (λe aU=>by omega) (by simp[aT]) (by simp[bY]) (by simp[bo]) (by simp[cf]) (by simp) (by simp) (by simp) (λK U mh pq r5 new jt k8 aE a5 ch dT gj ft nL qU=> ?_);have Np: ∀t,t<8->K t=z t:= λt a8=>by rw[nL t a8];simp(disch:=omega) only[ml]
     simp;refine a1 _ _ (cj U _ mh pq r5 (q++new) jt k8 (by simp;omega) (by omega) aE a5 ch (gj.apw (λe aU B=> ?_)) (by simp[Np 1 (by omega),aT]) (by simp[Np 2 (by omega),bY]) (by simp[Np 6 (by omega),bo]) (by simp[Np 7 (by omega),cf]) (by simp[qU]) (λk5 vh aIl atL A E ao aS bI=>a6 k5 vh aIl atL A E ao aS (λt a8=>by rw[bI t a8];exact Np t a8)));obtain⟨a,bR,ag,_⟩:=zu aU;exact ft e ((cN.1 ag).1) aU B
def asK(n:dL)(aq:Nat)(au:List Int)(m:G)(r:Value)(U:G):Prop:=fe m U/\ ∃(ez dZ:Nat) (ec:Int->Int) (b9:Int->Bool),r= .tuple #[.slice (some ⟨dZ,0,none⟩) aq 1,.slice (some ⟨ez,0,none⟩) aq 1]/\m.next<=ez/\m.next<=dZ/\U.F ez=some ⟨jM aq ec,true⟩/\U.F dZ=some ⟨kr aq b9,true⟩/\lE n au b9 (λx=>l4 n.bl.length (ec x)) []
set_option maxRecDepth 20000 in
theorem aqj{n:dL}(cc:n.iS){aq:Nat}(dM:n.dF=aq){v:Value}{au:List Int}(dV:au.length=n.bl.length){cP:Nat}{cY:Bool}{m:G}(M:mm m v n.bl)(bb:m.F cP=some ⟨au.map (Value.int .i64 ·),cY⟩):eu N 144 [CW n v,.slice (some ⟨cP,0,none⟩) au.length 1] m (asK n aq au m):=by
 rw[atV (by simp)];obtain⟨aT,bY⟩:=cc.dr;have eg:=cc.AS;have jo:=aF bb;obtain⟨gh,uX⟩: ∃k:Nat,n.dr=k:=⟨n.dr.toNat,by omega⟩;have bH:gh<aq:=by omega
 have dp:gh+1<=aq:=bH;have bD:n.dr<(aq:Int):=by omega
 have bo:n.dr.toNat=gh:=by omega
 have Al:n.dF.toNat=aq:=by omega
 have z0:0<=n.dF:=by omega
 have je:n.dF*8<=140737488355328:=by omega
 have ae7:n.dF<=140737488355328:=by omega
 have kf:n.dF<=9223372036854775807:=by omega
 simp(disch:=first|omega|simp only[bS];omega) [YD,aT,bD,bo,dp,Al,z0,je,ae7,kf,aqg,Nt,-wF];refine aGI cc dM dV (cP:=cP) (nb:=m.next) (ez:=m.next+3+5) (dZ:=m.next+3+2) (bh:=m.next+3+8) (p0:=m) ⟨⟨by omega,by omega,by omega,jo⟩,⟨by omega,by omega,by omega,by omega⟩,⟨by omega,by omega⟩⟩ M (1+nd (eU (λ_=>false) n.dr true) aq) _ _ (m.next+3+8+2) 0 [D n.dr] [n.dr] (eU (λ_=>false) n.dr true) (λ_=>0) (by simp) ?_ ⟨⟨by simp only[eT,fq];omega,λb hb=>by simp(disch:=first|omega|(simp only[eT,fq];omega)) only[aX,cl]⟩,by simp(disch:=first|omega|(simp only[eT,fq];omega)) only[cb,aX,cl],⟨cY,by simp(disch:=first|omega|(simp only[eT,fq];omega)) only[aX,cl,bb]⟩,by simp only[eT,fq];omega⟩ (by omega) ⟨by simp(disch:=first|omega|(simp only[eT,fq];omega)) only[cb,aX,cl,acQ],by simp(disch:=first|omega|(simp only[eT,fq];omega)) only[cb,aX,cl,uX],by simp(disch:=first|omega|(simp only[eT,fq];omega)) only[cb],by simp,by simp,by omega,by omega,by omega⟩ (by have:=lE.aq2 cc au (λx=>l4 n.bl.length ((λ_=>0) x));exact this) (by simp) (by simp) (by simp) (by simp) (by simp) (λK U jt k8 aE a5 ch dT gj=> ?_)
 ·have:=D4 (λ_=>false) n.dr aT rfl aq bD;have:=VB (λ_=>false) aq;omega
 ·have mg:K 6= .slice (some ⟨m.next+3+2,0,none⟩) aq 1:=(by rw[gj 6 (by omega)];simp);have TM:K 7= .slice (some ⟨m.next+3+5,0,none⟩) aq 1:=(by rw[gj 7 (by omega)];simp);simp(disch:=first|omega|simp only[bS];omega) [mg,TM];exact⟨aE.m1,_,_,k8,jt,rfl,by omega,by omega,a5,ch,dT⟩
end Go.Proofs.YtmmkkggfmigppaaGreat
