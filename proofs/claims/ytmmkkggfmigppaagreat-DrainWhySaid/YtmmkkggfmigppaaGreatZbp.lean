/-
  A part of the proof, shortened by tools of ours.
-/
import Derived.Test.YtmmkkggfmigppaaGreatZbo
set_option linter.all false
set_option maxRecDepth 8000
set_option maxHeartbeats 16000000
namespace Go.Proofs.YtmmkkggfmigppaaGreat
open Go Go.DI
section
set_option maxRecDepth 100000
def MF:cy N 68:=⟨_,by conv=>lhs;reduce⟩
def Su:aB:=aJ (a:=bj MF.1.body 75) ⟨_,by conv=>lhs;reduce⟩
def Ml:aB:=aJ (a:=bj MF.1.body 303) ⟨_,by conv=>lhs;reduce⟩
def St:aB:=aJ (a:=bj MF.1.body 63) ⟨_,by conv=>lhs;reduce⟩
def Ic:aB:=aJ (a:= λx y=>bk 7 y (bk 37 x (bj MF.1.body 15))) ⟨_,by conv=>lhs;reduce⟩ Ml St
def amN:aB:=aJ (a:= λx y=>bk 15 y (bk 75 x MF.1.body)) ⟨_,by conv=>lhs;reduce⟩ Su Ic
def Ss:ca:=⟨36,[.bL 2],amN⟩
theorem amO:cm N 68=some Ss:=by kernel_rfl
def aCu:cy N 71:=⟨_,by conv=>lhs;reduce⟩
def Mo:aB:=aJ (a:=aCu.1.body) ⟨_,by conv=>lhs;reduce⟩
def aA7:ca:=⟨8,[.bL 2],Mo⟩
theorem aA8:cm N 71=some aA7:=by kernel_rfl
theorem age{args:List Value}{m:G}{bu:Value->G->Prop}(h:args.length<=8):eu N 71 args m bu=fJ N Mo (ij args) m (m2 [.bL 2] bu):=nz aA8 h
def aCy:cy N 78:=⟨_,by conv=>lhs;reduce⟩
def ZI:aB:=aJ (a:=aCy.1.body) ⟨_,by conv=>lhs;reduce⟩
def Mr:ca:=⟨9,[.bL 4],ZI⟩
theorem amY:cm N 78=some Mr:=by kernel_rfl
def aBm:cy N 117:=⟨_,by conv=>lhs;reduce⟩
def Yl:aB:=aJ (a:=aBm.1.body) ⟨_,by conv=>lhs;reduce⟩
def HE:ca:=⟨27,[.bL 4],Yl⟩
theorem Ym:cm N 117=some HE:=by kernel_rfl
-- dB avv for 119
def MC:cy N 121:=⟨_,by conv=>lhs;reduce⟩
def QU:aB:=aJ (a:=bj MC.1.body 151) ⟨_,by conv=>lhs;reduce⟩
def Lx:aB:=aJ (a:=bj MC.1.body 31) ⟨_,by conv=>lhs;reduce⟩
def ajI:aB:=aJ (a:= λx y=>bk 3 y (bk 18 x (bj MC.1.body 15))) ⟨_,by conv=>lhs;reduce⟩ QU Lx
def Yo:aB:=aJ (a:= λx=>bk 3 x (bj MC.1.body 7)) ⟨_,by conv=>lhs;reduce⟩ ajI
def ajG:aB:=aJ (a:= λx=>bk 7 x MC.1.body) ⟨_,by conv=>lhs;reduce⟩ Yo
def QT:ca:=⟨42,[.bL 4],ajG⟩
theorem ajH:cm N 121=some QT:=by kernel_rfl
def Z3:cy N 123:=⟨_,by conv=>lhs;reduce⟩
def QX:aB:=aJ (a:=bj Z3.1.body 37) ⟨_,by conv=>lhs;reduce⟩
def Ly:aB:=aJ (a:=bj Z3.1.body 7) ⟨_,by conv=>lhs;reduce⟩
def ajL:aB:=aJ (a:= λx y=>bk 7 y (bk 37 x Z3.1.body)) ⟨_,by conv=>lhs;reduce⟩ QX Ly
def QW:ca:=⟨19,[.bL 4],ajL⟩
theorem ajM:cm N 123=some QW:=by kernel_rfl
def aab:cy N 182:=⟨_,by conv=>lhs;reduce⟩
def Rq:aB:=aJ (a:=bj aab.1.body 37) ⟨_,by conv=>lhs;reduce⟩
def LM:aB:=aJ (a:=bj aab.1.body 7) ⟨_,by conv=>lhs;reduce⟩
def akx:aB:=aJ (a:= λx y=>bk 7 y (bk 37 x aab.1.body)) ⟨_,by conv=>lhs;reduce⟩ Rq LM
def Rp:ca:=⟨19,[.bL 4],akx⟩
theorem aky:cm N 182=some Rp:=by kernel_rfl
end
open Go Go.DI Go.Big
def va(x:Int)(l:List Int):Int:=match l.findIdx? (λy=>decide (x=y))with|some i=>i|none=> -1
theorem aCH{x:Int}{l:List Int}{i:Nat}(Y:i<l.length)(B:x=l[i])(h: ∀j (aV:j<l.length),j<i-> ¬x=l[j]):va x l=i:=by
 unfold va;have:l.findIdx? (λy=>decide (x=y))=some i:=by rw[List.findIdx?_eq_some_iff_getElem];exact⟨Y,by simpa using B,λj aV=>by simpa using h j (by omega) aV⟩
 rw[this]
theorem aCI{x:Int}{l:List Int}(h: ∀j (aV:j<l.length),¬x=l[j]):va x l= -1:=by
 unfold va;have:l.findIdx? (λy=>decide (x=y))=none:=by rw[List.findIdx?_eq_none_iff];intro y Z;obtain⟨j,aV,rfl⟩:=n4 Z;simpa using h j aV
 rw[this]
theorem anT{x:Int}{l:List Int}:0<=va x l↔x∈l:=by
 cases bb:l.findIdx? (λy=>decide (x=y))with
 | some i=>have e:va x l=i:=(by unfold va;rw[bb]);rw[List.findIdx?_eq_some_iff_getElem]at bb;obtain⟨Y,hb,_⟩:=bb;have iL:x=l[i]:=(by simpa using hb);rw[e];exact⟨λ_=>by rw[iL];exact kp Y,λ_=>by omega⟩
 | none=>have e:va x l= -1:=(by unfold va;rw[bb]);rw[List.findIdx?_eq_none_iff]at bb;rw[e];exact⟨λh=>by omega,λh=>by have:=bb x h;simp at this⟩
theorem aIq{l:List Int}{x:Int}(aA:l.length<=1000000):bP N 123 [bq l,D x] (D (va x l)):=by
 refine dJ (c3 (ay:=⟨[],[]⟩) ajM (by kernel_rfl) (by simp[QW]) ?_);simp[QW,ajL];refine gP (ay:=⟨[],[]⟩) (λi z t=>(∀j (aV:j<l.length),j<i-> ¬x=l[j])/\z 0=bq l/\z 1=D x/\z 7=D l.length/\z 8=D i) l.length ?_ ?_ 0 _ _ (gd _) ⟨λj aV h=>absurd h (DL _),by simp,by simp,by simp,by simp⟩
 ·rintro i z t Y ⟨mA,bG,aT,cf,bm⟩ bO a1;obtain⟨y,B⟩:=gM Y;have cQ:=(cN.1 B).2;have bA:(i:Int)<l.length:=(by omega);have bp:=fB (n:=i) (by omega);by_cases c:x=y
  ·have e:=aCH Y (by rw[cQ];exact c) mA;simp(disch:=first|omega|simp only[bS];omega) [QX,Ly,bG,aT,cf,bm,bA,cQ,eq_true c,e]
  ·simp(disch:=first|omega|simp only[bS];omega) [QX,Ly,bG,aT,cf,bm,bA,cQ,c,bp,-ab,-ah,-aa,-ad,-List.map_map];refine a1 _ _ ⟨λj aV W0=> ?_,by simp[bG],by simp[aT],by simp[cf],by simp⟩;by_cases e:j=i
   ·subst e;rw[cQ];exact c
   ·exact mA j aV (by omega)
 ·rintro z t ⟨mA,bG,aT,cf,bm⟩;have e:=aCI λj aV=>mA j aV aV;simp[QX,Ly,Ly,cf,bm,e]
noncomputable def adh:bF N:= .cM 123 (List Int×Int) (λx=>x.1.length<=1000000) (λx=>[bq x.1,D x.2]) (λx=>D (va x.2 x.1)) λ_ h=>aIq h
@[simp] theorem aVQ:adh.f=123:=rfl
@[simp] theorem aVR{l:List Int}{x:Int}(h:l.length<=1000000):adh.fn [ai (l.map λx=>[D x]) 1,D x]=some (D (va x l)):=bF.dK (x:=(l,x)) h λ⟨j6,h2⟩ Z=>by simpa using Z
theorem aIk{l:List Int}{x:Int}(aA:l.length<=1000000):bP N 78 [bq l,D x] (.bool (decide (x∈l))):=by
 refine dJ (c3 (ay:=⟨[adh],[]⟩) amY (by kernel_rfl) (by simp[Mr]) ?_);by_cases c:x∈l
 ·have ck:=anT.2 c;simp(disch:=omega) [Mr,ZI,c,ck]
 ·have ck: ¬0<=va x l:= λh=>c (anT.1 h);simp(disch:=omega) [Mr,ZI,c,ck]
noncomputable def T6:bF N:= .cM 78 (List Int×Int) (λx=>x.1.length<=1000000) (λx=>[bq x.1,D x.2]) (λx=> .bool (decide (x.2∈x.1))) λ_ h=>aIk h
@[simp] theorem aVy:T6.f=78:=rfl
@[simp] theorem aVz{l:List Int}{x:Int}(h:l.length<=1000000):T6.fn [ai (l.map λx=>[D x]) 1,D x]=some (.bool (decide (x∈l))):=bF.dK (x:=(l,x)) h λ⟨j6,h2⟩ Z=>by simpa using Z
def oW(u:aL)(n:Int):Bool:=decide (0<=n)&&decide (n<(u.aO.length:Int)+u.aZ.length)
theorem aE8{u:aL}(A:u.aO.length<=1000)(E:u.aZ.length<=1000){n:Int}:bP N 64 [.agg (aI u).toArray,D n] (.bool (oW u n)):=by
 refine dJ (c3 (ay:=⟨[],[]⟩) amJ (by kernel_rfl) (by simp[Mh]) ?_);have bp:IntKind.i64.wrap ((u.aO.length:Int)+u.aZ.length)=(u.aO.length:Int)+u.aZ.length:=db (by omega) (by omega);by_cases c:0<=n
 ·simp[Mh,Zy,aI,c,bp,oW]
 ·simp[Mh,Zy,aI,c,oW]
noncomputable def Dc(u:aL)(A:u.aO.length<=1000)(E:u.aZ.length<=1000):bF N:= .cM 64 Int (λ_=>True) (λn=>[.agg (aI u).toArray,D n]) (λn=> .bool (oW u n)) λ_ _=>aE8 A E
@[simp] theorem aV5{u:aL}{A:u.aO.length<=1000}{E:u.aZ.length<=1000}:(Dc u A E).f=64:=rfl
@[simp] theorem aV6{u:aL}{A:u.aO.length<=1000}{E:u.aZ.length<=1000}{n:Int}:(Dc u A E).fn [.agg #[D u.ext,ai (u.e7.map gE) 4,ai (u.cx.map gN) 4,ai (u.aO.map e6) 7,ai (u.aZ.map fH) 3,ai (u.dv.map dU) 17,ai (u.a2.map gD) 2],D n]=some (.bool (oW u n)):=bF.dK (x:=n) trivial λy Z=>by simpa using Z
def na(u:aL)(n:Int):List Int:=if(u.aO.length:Int)<=n then[n-u.aO.length]else BW u n.toNat
theorem ao0{u:aL}{n:Int}(h:oW u n=true):0<=n/\n<(u.aO.length:Int)+u.aZ.length:=by simpa[oW]using h
theorem aEZ{u:aL}(h:cL u){n:Int}(aj:oW u n=true):bP N 65 [.agg (aI u).toArray,D n] (bq (na u n)):=by
 refine dJ (c3 (ay:=⟨[ada u h],[]⟩) amK (by kernel_rfl) (by simp[Mi]) ?_);have eM:=h.ok.fp;have hI:=h.ok.hj;obtain⟨iy,ed⟩:=ao0 aj;obtain⟨aq,dM⟩:=j0 iy;subst dM;by_cases c:u.aO.length<=aq
 ·have ck:(u.aO.length:Int)<=aq:=(by omega);have bp:IntKind.i64.wrap ((aq:Int)-u.aO.length)=(aq:Int)-u.aO.length:=db (by omega) (by omega);have e:na u aq=[(aq:Int)-u.aO.length]:=(by unfold na;rw[if_pos ck]);rw[e];simp[Mi,Zz,aI,ck,bp];exact uS (n:=8) (l:=1) (I:=1) (w:=true) (bJ:=[[D ((aq:Int)-u.aO.length)]]) (by simp) rfl (λr ar=>by simp at ar;subst ar;exact⟨rfl,λv M=>by simp at M;subst M;rfl⟩)
 ·have ck: ¬(u.aO.length:Int)<=aq:=(by omega);have c9:aq<u.aO.length:=(by omega);have e:na u aq=BW u aq:=(by unfold na;rw[if_neg ck];rfl);rw[e];simp(disch:=first|omega|simp only[bS];omega) [Mi,Zz,aI,ck]
noncomputable def NB(u:aL)(h:cL u):bF N:= .cM 65 Int (λn=>oW u n=true) (λn=>[.agg (aI u).toArray,D n]) (λn=>bq (na u n)) λ_ aj=>aEZ h aj
@[simp] theorem aVs{u:aL}{h:cL u}:(NB u h).f=65:=rfl
@[simp] theorem aVt{u:aL}{h:cL u}{n:Int}(aj:oW u n=true):(NB u h).fn [.agg #[D u.ext,ai (u.e7.map gE) 4,ai (u.cx.map gN) 4,ai (u.aO.map e6) 7,ai (u.aZ.map fH) 3,ai (u.dv.map dU) 17,ai (u.a2.map gD) 2],D n]=some (bq (na u n)):=bF.dK (x:=n) aj λy Z=>by simpa using Z
theorem aF0{u:aL}(h:gf u){n:Nat}(aj:n<u.aO.length){Q:cO->aD->G->Prop}: ∀(k i:Nat) (z:aD) (t:G),i<u.aO.length->i<=n+k->t.F 0=some ⟨aI u,true⟩->z 3=bC 0->z 7=D i->z 2=D n->(∀K X,K 7=D (oL u n k i)->K 2=D n->Q (.cF 0) K X)->ee N (.loop Mk) z t Q:=by
 intro k;induction k with
 | zero=>intro i z t Y O aM bH cf bY a6;refine eS (ay:=⟨[],[]⟩) λbO a1=> ?_;have aH: ¬(n:Int)<i:=(by omega);have As: ¬n<i:=(by omega);simp[Mk,cf,bY,aH];exact a6 _ _ (by simp[cf,oL]) (by simp[bY])
 | succ k cj=>
   intro i z t Y O aM bH cf bY a6;refine eS (ay:=⟨[],[]⟩) λbO a1=> ?_;obtain⟨d,B⟩:=gM Y;have cQ:=(cN.1 B).2;have aN:kn u i=d.parent.toNat:=(by simp only[kn,B]);have bA:(i:Int)<u.aO.length:=(by omega);have dN:=aF aM;by_cases As:n<i
   ·have aH:(n:Int)<i:=(by omega);obtain⟨a,b,c⟩:=h.nV Y (h.x2 Y (by omega));obtain⟨p,ae⟩:=j0 (h.lq i d c B).1;have oR:kn u i=p:=(by rw[aN,ae];rfl);rw[oR]at a b;simp(disch:=omega) [Mk,bH,cf,bY,aM,aI,e6,bA,cQ,aH,ae];refine a1 _ _ (cj p _ _ (by omega) (by omega) (by simp(disch:=first|omega|simp only[bS];omega) [aM,aI,-ab,-ah,-aa,-ad,-List.map_map]) (by simp[bH]) (by simp) (by simp[bY]) λK X H iE=>a6 K X ?_ iE);rw[H,oL,if_pos As,oR]
   ·have aH: ¬(n:Int)<i:=(by omega);simp[Mk,cf,bY,aH];exact a6 _ _ (by rw[oL,if_neg As];simp[cf]) (by simp[bY])
theorem aF1{u:aL}(h:cL u){d:Nat}(aW:d<u.aZ.length){n:Int}:bP N 67 [.agg (aI u).toArray,D d,D n] (.bool (lF u d n)):=by
 refine dJ (c3 (ay:=⟨[],[]⟩) aA4 (by kernel_rfl) (by simp[Ib]) ?_);have eM:=h.ok.fp;have hI:=h.ok.hj;obtain⟨x,B⟩:=gM aW;have cQ:=(cN.1 B).2;obtain⟨br,bQ,a3,a4,fz⟩:=h.ok.tw d x B;obtain⟨m,al⟩:=j0 a3;have bA:(d:Int)<u.aZ.length:=by omega
 have bp:IntKind.i64.wrap ((u.aO.length:Int)+d)=(u.aO.length:Int)+d:=db (by omega) (by omega);by_cases ck:n=(u.aO.length:Int)+d
 ·have e:lF u d n=true:=(by simp[lF,B,ck]);rw[e];simp[Ib,Mj,aI,bp,eq_true ck]
 by_cases c9:n<=0
 ·have e:lF u d n=false:=by
   have: ¬0<n:=(by omega);simp[lF,B,ck,this]
  rw[e];simp[Ib,Mj,Sr,aI,bp,ck,c9]
 by_cases k9:(u.aO.length:Int)<=n
 ·have e:lF u d n=false:=by
   have: ¬n<u.aO.length:=(by omega);simp[lF,B,ck,this]
  rw[e];simp(disch:=first|omega|simp only[bS];omega) [Ib,Mj,Sr,aI,bp,ck,c9,k9]
 obtain⟨aq,dM⟩:=j0 (show 0<=n by omega);subst dM;have iq:aq<u.aO.length:=by omega
 have yv: ¬u.aO.length<=aq:=by omega
 have BL:0<aq:=by omega
 have atO:(aq:Int)<u.aO.length:=by omega
 have e:lF u d aq=decide (oL u aq u.aO.length m=aq):=by simp[lF,B,ck,BL,atO,al]
 have atP: ¬aq=0:=by omega
 rw[e];simp(disch:=first|omega|simp only[bS];omega) [Ib,Mj,Sr,amM,aI,fH,bp,ck,k9,atP,bA,cQ,al,-ab,-ah,-aa,-ad,-List.map_map];refine aF0 h.ok iq u.aO.length m _ _ (by omega) (by omega) (by simp(disch:=first|omega|simp only[bS];omega) [aI,-ab,-ah,-aa,-ad,-List.map_map]) (by simp) (by simp) (by simp) λK X H iE=> ?_;by_cases I:oL u aq u.aO.length m=aq
 ·have je:(oL u aq u.aO.length m:Int)=(aq:Int):=(by omega);simp[H,iE,I]
 ·have je: ¬(oL u aq u.aO.length m:Int)=(aq:Int):=(by omega);simp[H,iE,I,je]
noncomputable def NI(u:aL)(h:cL u):bF N:= .cM 67 (Nat×Int) (λx=>x.1<u.aZ.length) (λx=>[.agg (aI u).toArray,D x.1,D x.2]) (λx=> .bool (lF u x.1 x.2)) λ_ aW=>aF1 h aW
@[simp] theorem aWt{u:aL}{h:cL u}:(NI u h).f=67:=rfl
@[simp] theorem aWu{u:aL}{h:cL u}{d:Nat}{n:Int}(aW:d<u.aZ.length):(NI u h).fn [.agg #[D u.ext,ai (u.e7.map gE) 4,ai (u.cx.map gN) 4,ai (u.aO.map e6) 7,ai (u.aZ.map fH) 3,ai (u.dv.map dU) 17,ai (u.a2.map gD) 2],D d,D n]=some (.bool (lF u d n)):=bF.dK (x:=(d,n)) aW λ⟨j6,h2⟩ Z=>by simp at Z⊢;omega
theorem aon{u:aL}(h:gf u){n:Int}(aj:oW u n=true){x:Int}:x∈na u n↔ ∃d:Nat,x=d/\d<u.aZ.length/\(n=0\/lF u d n=true):=by
 obtain⟨iy,ed⟩:=ao0 aj;obtain⟨aq,dM⟩:=j0 iy;subst dM;have bx:=h.g3;by_cases c:(u.aO.length:Int)<=aq
 ·unfold na;rw[if_pos c];simp only[rz];constructor
  ·intro B;refine⟨aq-u.aO.length,by omega,by omega,.inr ?_⟩;have aW:aq-u.aO.length<u.aZ.length:=(by omega);have e:(aq:Int)=(u.aO.length:Int)+((aq-u.aO.length:Nat):Int):=(by omega);simp only[lF,c6 aW];rw[decide_eq_true e];rfl
  ·rintro⟨d,rfl,aW,A|A⟩
   ·omega
   ·simp only[lF,c6 aW]at A;simp only[uv,a7,eF]at A;omega
 ·unfold na;rw[if_neg c];have dM:aq<u.aO.length:=(by omega);simp only[BW,gx,List.mem_filter,pH,eF,nB];have aok: ∀d,d<u.aZ.length->jb u d<u.aO.length/\hT u (jb u d)=4:= λd aW=>by
   obtain⟨x,B⟩:=gM aW;obtain⟨br,bQ,a3,a4,fz⟩:=h.tw d x B;simp only[jb,B];exact⟨by omega,fz⟩
  have hb: ∀d,d<u.aZ.length->(lF u d aq=true↔(0<aq/\oL u aq u.aO.length (jb u d)=aq)):= λd aW=>by obtain⟨x,B⟩:=gM aW;simp only[lF,jb,B,uv,a7,eF,nB];omega
  have wi:=h.gb dM;constructor
  ·rintro⟨d,⟨aW,ag⟩,rfl⟩;refine⟨d,rfl,aW,?_⟩;by_cases bE:aq=0
   ·left;omega
   ·right;obtain⟨bn,cK⟩:=aok d aW;exact(hb d aW).2 ⟨by omega,(Vf h dM bn (by omega) (by omega)).1 ag⟩
  ·rintro⟨d,rfl,aW,A⟩;refine⟨d,⟨aW,?_⟩,rfl⟩;obtain⟨bn,cK⟩:=aok d aW;rcases A with A|A
   ·have bE:aq=0:=(by omega);subst bE
    -- pF only domain cM jR 0
    have aIZ: ∀{k i:Nat},i<u.aO.length->hT u i<=k->mr u (hT u 0) k i=0:=by
     intro k;induction k with
     | zero=>
       intro i Y O;unfold mr;by_cases bE:i=0
       ·exact bE
       ·have:=h.x2 Y (by omega);omega
     | succ k cj=>
       intro i Y O;unfold mr;have bX:=h.rm.1;split
       ·next aH=>obtain⟨a,b,c⟩:=h.nV Y (by omega);exact cj (by omega) (by omega)
       ·by_cases bE:i=0
        ·exact bE
        ·have:=h.x2 Y (by omega);omega
    exact aIZ bn (by omega)
   ·exact(Vf h dM bn (by omega) (by omega)).2 ((hb d aW).1 A).2
theorem atB{u:aL}(h:cL u){n:Int}:(na u n).length<=1000000:=by
 have hI:=h.ok.hj;unfold na;split
 ·simp
 ·unfold BW;rw[ll];refine mR (On _ _) ?_;rw[Gy];omega
end Go.Proofs.YtmmkkggfmigppaaGreat
namespace Go.gU
structure dm where
 f:Int
 t:Int
 c:Int
 k:Int
structure dL where
 dF:Int
 dr:Int
 et:Int
 bl:List dm
def dL.hC(n:dL)(x:Int):Prop:=0<=x/\x<n.dF
def dL.aEM(n:dL)(a:dm):Prop:=n.hC a.f/\n.hC a.t/\0<=a.c/\a.c<=2147483647
structure dL.iS(n:dL):Prop where
 er:2<=n.dF
 AS:n.dF<=700
 rH:n.bl.length<=2500
 dr:n.hC n.dr
 et:n.hC n.et
 g3:n.dr≠n.et
 p9: ∀a∈n.bl,n.aEM a
def kA(y x bR:Int):Int:=if y=x then bR else 0
def jT:List dm->List Int->Int->Int
 |a::bz,bR::fs,x=>kA a.f x bR-kA a.t x bR+jT bz fs x
 |_,_,_=>0
def th(n:dL)(au:List Int):Prop:=au.length=n.bl.length/\ ∀(i:Nat) (a:dm) (bR:Int),n.bl[i]?=some a->au[i]?=some bR->0<=bR/\bR<=a.c
structure o6(n:dL)(au:List Int):Prop where
 lG:th n au
 Ph: ∀x,n.hC x->x≠n.dr->x≠n.et->jT n.bl au x=0
def value(n:dL)(au:List Int):Int:=jT n.bl au n.dr
def jQ:List dm->(Int->Bool)->Int
 |a::bz,s=>(if s a.f=true/\s a.t=false then a.c else 0)+jQ bz s
 |[],_=>0
def uO:List dm->List Int->(Int->Bool)->Int
 |a::bz,bR::fs,s=>(if s a.f=true then bR else 0)-(if s a.t=true then bR else 0)+uO bz fs s
 |_,_,_=>0
def qz(s:Int->Bool)(g:Int->Int):Nat->Int
 |0=>0
 |k+1=>qz s g k+(if s k=true then g k else 0)
theorem aec(s:Int->Bool)(g h:Int->Int): ∀k,qz s (λx=>g x+h x) k=qz s g k+qz s h k
 |0=>rfl
 | k+1=>by simp only[qz,aec s g h k];split<;>omega
theorem aee(s:Int->Bool): ∀k,qz s (λ_=>0) k=0
 |0=>rfl
 |k+1=>by simp[qz,aee s k]
theorem arb(s:Int->Bool)(y bR:Int): ∀k:Nat,(k:Int)<=y->qz s (λx=>kA y x bR) k=0
 |0,_=>rfl
 | k+1,h=>by have:=arb s y bR k (by omega);have e:kA y k bR=0:=if_neg (by omega: ¬y=(k:Int));rw[qz,this,e];split<;>rfl
theorem aed(s:Int->Bool)(y bR:Int)(bX:0<=y): ∀k:Nat,y<k->qz s (λx=>kA y x bR) k=if s y=true then bR else 0
 |0,h=>by omega
 | k+1,h=>by
   by_cases Z:y=k
   ·subst Z;have e:kA k k bR=bR:=if_pos rfl;rw[qz,arb s (k:Int) bR k (vJ _),e];split<;>omega
   ·have e:kA y k bR=0:=if_neg Z;rw[qz,aed s y bR bX k (by omega),e];split<;>split<;>omega
theorem acf(y x bR:Int):kA y x (-bR)= -kA y x bR:=by unfold kA;split<;>omega
theorem ara(s:Int->Bool)(aq:Nat): ∀(bz:List dm) (fs:List Int),(∀a∈bz,(0<=a.f/\a.f<aq)/\(0<=a.t/\a.t<aq))->qz s (jT bz fs) aq=uO bz fs s
 | [],fs,_=>by
   have:jT [] fs= λ_=>0:=by funext x;simp[jT]
   rw[this,aee];simp[uO]
 | a::bz,[],_=>by
   have:jT (a::bz) []= λ_=>0:=by funext x;simp[jT]
   rw[this,aee];simp[uO]
 | a::bz,bR::fs,h=>by
   have e:jT (a::bz) (bR::fs)= λx=>(kA a.f x bR+kA a.t x (-bR))+jT bz fs x:=by funext x;simp only[jT,acf];omega
   obtain⟨A,E⟩:=h a (by simp);rw[e,aec,aec,aed s _ _ A.1 aq A.2,aed s _ _ E.1 aq E.2,ara s aq bz fs (λb hb=>h b (by simp[hb]))];simp only[uO];split<;>split<;>omega
theorem aq9(s:Int->Bool)(g:Int->Int)(aq:Nat)(y:Int)(aH: ∀x:Int,0<=x->x<aq->s x=true->x≠y->g x=0): ∀k:Nat,k<=aq->(k:Int)<=y->qz s g k=0
 |0,_,_=>rfl
 | k+1,O,Z=>by
   simp only[qz,aq9 s g aq y aH k (by omega) (by omega)];split
   ·rename_i h;rw[aH k (by omega) (by omega) h (by omega)];rfl
   ·rfl
theorem arc(s:Int->Bool)(g:Int->Int)(aq:Nat)(y:Int)(bX:0<=y)(H:s y=true)(aH: ∀x:Int,0<=x->x<aq->s x=true->x≠y->g x=0): ∀k:Nat,k<=aq->y<k->qz s g k=g y
 |0,_,h=>by omega
 | k+1,O,h=>by
   by_cases Z:y=k
   ·subst Z;simp only[qz,aq9 s g aq k aH k (by omega) (vJ _),H,if_true];omega
   ·simp only[qz,arc s g aq y bX H aH k (by omega) (by omega)];split
    ·rename_i cw;rw[aH k (by omega) (by omega) cw (λe=>Z e.symm)];omega
    ·omega
theorem dL.iS.avf{n:dL}(h:n.iS): ∀a∈n.bl,(0<=a.f/\a.f<(n.dF.toNat:Int))/\(0<=a.t/\a.t<(n.dF.toNat:Int)):=by intro a ag;obtain⟨⟨A,E⟩,⟨ao,aS⟩,_⟩:=h.p9 a ag;have:=h.er;omega
theorem arP{n:dL}(h:n.iS){au:List Int}(bb:o6 n au){s:Int->Bool}(A:s n.dr=true)(E:s n.et=false):value n au=uO n.bl au s:=by have aj:=h.er;have H:=h.dr;unfold dL.hC at H;rw[<-ara s n.dF.toNat n.bl au h.avf];exact(arc s (jT n.bl au) n.dF.toNat n.dr (by omega) A (λx jZ zH h1 xs=>bb.Ph x ⟨jZ,by omega⟩ xs (λe=>by rw[e,E]at h1;cases h1)) n.dF.toNat (c8 _) (by omega)).symm
theorem agD{s:Int->Bool}: ∀(bz:List dm) (fs:List Int),(∀(i:Nat) a bR,bz[i]?=some a->fs[i]?=some bR->0<=bR/\bR<=a.c)->(∀a∈bz,0<=a.c)->uO bz fs s<=jQ bz s
 |[],fs,_,_=>by simp[uO,jQ]
 | a::bz,[],_,av=>by
   have: ∀l:List dm,(∀a∈l,0<=a.c)->0<=jQ l s:=by
    intro l;induction l with
    |nil=>intro _;simp[jQ]
    |cons b l cj=>intro h;have:=cj (λx B=>h x (by simp[B]));have:=h b (by simp);simp only[jQ];split<;>omega
   simp only[uO];exact this _ av
 | a::bz,bR::fs,h,av=>by have bX:=h 0 a bR rfl rfl;have:=agD (s:=s) bz fs (λi a bR ag fo=>h (i+1) a bR (by simpa using ag) (by simpa using fo)) (λa ag=>av a (by simp[ag]));simp only[uO,jQ];cases s a.f<;>cases s a.t<;>simp<;>omega
theorem agC{s:Int->Bool}: ∀(bz:List dm) (fs:List Int),fs.length=bz.length->(∀(i:Nat) a bR,bz[i]?=some a->fs[i]?=some bR->(s a.f=true->s a.t=false->bR=a.c)/\(s a.f=false->s a.t=true->bR=0))->uO bz fs s=jQ bz s
 |[],fs,_,_=>by simp[uO,jQ]
 |a::bz,[],aA,_=>by simp at aA
 | a::bz,bR::fs,aA,h=>by have bX:=h 0 a bR rfl rfl;have:=agC (s:=s) bz fs (by simpa using aA) (λi a bR ag fo=>h (i+1) a bR (by simpa using ag) (by simpa using fo));simp only[uO,jQ];cases bb:s a.f<;>cases a8:s a.t<;>simp[bb,a8]at bX⊢ <;>omega
theorem wV{n:dL}(h:n.iS){au:List Int}(bb:o6 n au){s:Int->Bool}(A:s n.dr=true)(E:s n.et=false):value n au<=jQ n.bl s:=by rw[arP h bb A E];exact agD _ _ bb.lG.2 (λa ag=>(h.p9 a ag).2.2.1)
theorem aIY{n:dL}(h:n.iS){au:List Int}(bb:o6 n au){s:Int->Bool}(A:s n.dr=true)(E:s n.et=false)
 (a8: ∀(i:Nat) a bR,n.bl[i]?=some a->au[i]?=some bR->(s a.f=true->s a.t=false->bR=a.c)/\(s a.f=false->s a.t=true->bR=0)):value n au=jQ n.bl s:=by
 rw[arP h bb A E];exact agC _ _ bb.lG.1 a8
theorem agk{s:Int->Bool}: ∀(bz:List dm),(∀a∈bz,0<=a.c/\a.c<=2147483647)->0<=jQ bz s/\jQ bz s<=bz.length*2147483647
 |[],_=>by simp[jQ]
 | a::bz,h=>by have bX:=h a (by simp);have:=agk (s:=s) bz (λb hb=>h b (by simp[hb]));simp only[jQ,m8,Int.natCast_add,Int.add_mul];split<;>omega
theorem Gn{n:dL}(h:n.iS){au:List Int}(bb:o6 n au):value n au<=5368709117500:=by have A:=wV h bb (s:= λx=>decide (x=n.dr)) (by simp) (by have:=h.g3;simp;omega);have E:=(agk (s:= λx=>decide (x=n.dr)) n.bl (λa ag=>(h.p9 a ag).2.2)).2;have ao:=h.rH;have:(n.bl.length:Int)*2147483647<=2500*2147483647:=Bq (by omega) (by omega);omega
abbrev hN:=Nat×Bool
def gK(n:dL)(e:hN):Int:=match n.bl[e.1]? with|some a=>if e.2 then a.f else a.t|none=> -1
def ic(n:dL)(e:hN):Int:=match n.bl[e.1]? with|some a=>if e.2 then a.t else a.f|none=> -1
def cR(n:dL)(au:List Int)(e:hN):Int:=match n.bl[e.1]?,au[e.1]? with|some a,some bR=>if e.2 then a.c-bR else bR|_,_=>0
theorem zu{n:dL}{au:List Int}{e:hN}(h:0<cR n au e): ∃a bR,n.bl[e.1]?=some a/\au[e.1]?=some bR:=by
 unfold cR at h;split at h
 ·rename_i a bR A E;exact⟨a,bR,A,E⟩
 ·omega
structure Jz(n:dL)(au:List Int)(vA:Int->Bool)(fZ:Int->hN):Prop where
 dr:vA n.dr=true
 JP: ∃ud:Int->Nat,∀x,vA x=true->x≠n.dr->0<cR n au (fZ x)/\ic n (fZ x)=x/\vA (gK n (fZ x))=true/\ud (gK n (fZ x))<ud x
 GV: ∀e,0<cR n au e->vA (gK n e)=true->vA (ic n e)=true
theorem Jz.TG{n:dL}(cc:n.iS){au:List Int}(bb:o6 n au){vA:Int->Bool}{fZ:Int->hN}(h:Jz n au vA fZ)(H:vA n.et=false):value n au=jQ n.bl vA:=by
 refine aIY cc bb h.dr H λi a bR ag fo=> ?_;have hb:=bb.lG.2 i a bR ag fo;refine⟨λA E=> ?_,λA E=> ?_⟩
 ·have:=h.GV (i,true);simp only[cR,gK,ic,ag,fo,if_true]at this;by_cases ar:0<a.c-bR
  ·rw[this ar A]at E;cases E
  ·omega
 ·have:=h.GV (i,false);simp only[cR,gK,ic,ag,fo]at this;by_cases ar:0<bR
  ·have:=this (by simpa using ar) (by simpa using E);simp at this;rw[this]at A;cases A
  ·omega
inductive qI(n:dL)(fZ:Int->hN):Int->List hN->Prop
 |dr:qI n fZ n.dr []
 |cons {x:Int} {l:List hN} (B:x≠n.dr) (a8:ic n (fZ x)=x) (h:qI n fZ (gK n (fZ x)) l):qI n fZ x (fZ x::l)
theorem Jz.path{n:dL}{au:List Int}{vA:Int->Bool}{fZ:Int->hN}(h:Jz n au vA fZ){x:Int}(B:vA x=true):
 ∃l,qI n fZ x l/\(∀e∈l,0<cR n au e)/\(l.map Prod.fst).Nodup:=by
 obtain⟨ud,ar⟩:=h.JP;have AR: ∀(k:Nat) (x:Int),ud x<=k->vA x=true-> ∃l,qI n fZ x l/\(∀e∈l,0<cR n au e)/\(l.map Prod.fst).Nodup/\ ∀e∈l,ud (ic n e)<=ud x/\ud (gK n e)<ud (ic n e):=by
  intro k;induction k with
  | zero=>
    intro x O B;by_cases H:x=n.dr
    ·subst H;exact⟨[],.dr,by simp,by simp,by simp⟩
    ·obtain⟨_,_,_,aS⟩:=ar x B H;omega
  | succ k cj=>
    intro x O B;by_cases H:x=n.dr
    ·subst H;exact⟨[],.dr,by simp,by simp,by simp⟩
    ·obtain⟨A,E,ao,aS⟩:=ar x B H;obtain⟨l,aE,a5,ch,dT⟩:=cj _ (by omega) ao;refine⟨fZ x::l,.cons H E aE,?_,?_,?_⟩
     ·intro e aU;rcases hv.1 aU with rfl|aU
      ·exact A
      ·exact a5 e aU
     ·simp only[lW,Bx];refine⟨λal=> ?_,ch⟩;obtain⟨e,aU,axf⟩:=gx.1 al;obtain⟨a9,bW⟩:=dT e aU;have axh:ic n e=x\/gK n e=x:=by
       rw[<-E];unfold ic gK;rw[axf];obtain⟨a,bR,ag,_⟩:=zu A;rw[ag];cases e.2<;>cases(fZ x).2<;>simp
      rcases axh with aG|aG
      ·rw[aG]at a9;omega
      ·rw[aG]at bW;omega
     ·intro e aU;rcases hv.1 aU with rfl|aU
      ·rw[E];exact⟨c8 _,aS⟩
      ·obtain⟨a9,bW⟩:=dT e aU;exact⟨by omega,bW⟩
 obtain⟨l,aE,a5,ch,_⟩:=AR _ x (c8 _) B;exact⟨l,aE,a5,ch⟩
def push(au:List Int)(e:hN)(d:Int):List Int:=match au[e.1]? with|some bR=>au.set e.1 (if e.2 then bR+d else bR-d)|none=>au
def qu(au:List Int)(l:List hN)(d:Int):List Int:=l.foldl (λau e=>push au e d) au
theorem aoQ: ∀(bz:List dm) (fs:List Int) (i:Nat) (a:dm) (bR yl x:Int),bz[i]?=some a->fs[i]?=some bR->jT bz (fs.set i yl) x=jT bz fs x+kA a.f x (yl-bR)-kA a.t x (yl-bR)
 |[],_,_,_,_,_,_,h,_=>by simp at h
 |_::_,[],_,_,_,_,_,_,h=>by simp at h
 | b::bz,aK6::fs,0,a,bR,yl,x,A,E=>by simp at A E;subst A;subst E;simp only[List.set_cons_zero,jT,kA];split<;>split<;>omega
 | b::bz,aK6::fs,i+1,a,bR,yl,x,A,E=>by have:=aoQ bz fs i a bR yl x (by simpa using A) (by simpa using E);simp only[List.set_cons_succ,jT,this];omega
theorem aFv{n:dL}{au:List Int}{e:hN}(h:0<cR n au e)(d x:Int):jT n.bl (push au e d) x=jT n.bl au x+kA (gK n e) x d-kA (ic n e) x d:=by
 obtain⟨a,bR,ag,fo⟩:=zu h;unfold push gK ic;simp only[ag,fo];rw[aoQ _ _ _ a bR _ x ag fo];cases e.2
 ·simp only[jO,if_false];have:bR-d-bR= -d:=(by omega);rw[this,acf,acf];omega
 ·simp only[if_true];have:bR+d-bR=d:=(by omega);rw[this]
theorem aci{au:List Int}{e:hN}{d:Int}:(push au e d).length=au.length:=by unfold push;split<;>simp
theorem acj{n:dL}{au:List Int}{e dw:hN}(h:dw.1≠e.1)(d:Int):cR n (push au e d) dw=cR n au dw:=by
 have:(push au e d)[dw.1]?=au[dw.1]?:=by
  unfold push;split
  ·rw[List.getElem?_set_ne (Ne.symm h)]
  ·rfl
 unfold cR;rw[this]
theorem ach{n:dL}{au:List Int}{e:hN}{d:Int}(hb:th n au)(bX:0<cR n au e)(aW:0<=d)(A:d<=cR n au e):th n (push au e d):=by
 refine⟨by rw[aci,hb.1],λi a bR ag fo=> ?_⟩;obtain⟨b,yl,sD,rP⟩:=zu bX;unfold cR at A;unfold push at fo;simp only[sD,rP]at A fo;rw[Bu]at fo;split at fo
 ·rename_i Y;subst Y;rw[sD]at ag;cases ag;have:=hb.2 _ _ _ sD rP;split at fo
  ·cases fo;cases aU:e.2<;>simp[aU]at A⊢ <;>omega
  ·cases fo
 ·exact hb.2 i a bR ag fo
theorem apF{n:dL}{fZ:Int->hN}{d:Int}(aW:0<=d): ∀{l:List hN} {x:Int} {au:List Int},qI n fZ x l->th n au->(∀e∈l,0<cR n au e/\d<=cR n au e)->(l.map Prod.fst).Nodup->
 th n (qu au l d)/\ ∀y,jT n.bl (qu au l d) y=jT n.bl au y+kA n.dr y d-kA x y d
 | [],x,au,ae,hb,ar,aj=>by cases ae;exact⟨hb,λy=>by simp only[qu,List.foldl_nil];omega⟩
 | e::l,x,au,ae,hb,ar,aj=>by
   cases ae with
   | cons B a8 ae=>
     simp only[lW,Bx]at aj;obtain⟨eK,gp⟩:=ar (fZ x) (by simp);have rP:=ach hb eK aW gp;have wv: ∀e∈l,0<cR n (push au (fZ x) d) e/\d<=cR n (push au (fZ x) d) e:=by intro e aU;rw[acj (λh=>aj.1 (gx.2 ⟨e,aU,h⟩))];exact ar e (by simp[aU])
     obtain⟨aE,a5⟩:=apF aW ae rP wv aj.2;refine⟨aE,λy=> ?_⟩;have:=a5 y;rw[aFv eK,a8]at this;simp only[qu,zN]at this⊢;rw[this];omega
theorem OT{n:dL}(cc:n.iS){au:List Int}(bb:o6 n au){fZ:Int->hN}{l:List hN}(ae:qI n fZ n.et l){d:Int}(aW:0<=d)(ar: ∀e∈l,0<cR n au e/\d<=cR n au e)(aj:(l.map Prod.fst).Nodup):
 o6 n (qu au l d)/\value n (qu au l d)=value n au+d:=by
 obtain⟨aE,a5⟩:=apF aW ae bb.lG ar aj;refine⟨⟨aE,λx B A E=> ?_⟩,?_⟩
 ·rw[a5,bb.Ph x B A E];simp only[kA];rw[if_neg (Ne.symm A),if_neg (Ne.symm E)];rfl
 ·unfold value;rw[a5];simp only[kA,if_true];rw[if_neg (Ne.symm cc.g3)];omega
theorem asv{n:dL}(cc:n.iS):o6 n (List.replicate n.bl.length 0)/\value n (List.replicate n.bl.length 0)=0:=by
 have bE: ∀(bz:List dm) x,jT bz (List.replicate bz.length 0) x=0:=by
  intro bz x;induction bz with
  |nil=>rfl
  |cons a bz cj=>simp only[m8,Jp,jT,cj,kA];split<;>split<;>rfl
 refine⟨⟨⟨by simp,λi a bR ag fo=> ?_⟩,λx _ _ _=>bE _ x⟩,bE _ _⟩;rw[List.getElem?_replicate]at fo;split at fo
 ·cases fo;exact⟨vJ _,(cc.p9 a (fX ag)).2.2.1⟩
 ·cases fo
theorem abN: ∀{xs bs:List dm} {fs:List Int} {x:Int},xs.map (λa=>(a.f,a.t))=bs.map (λa=>(a.f,a.t))->jT xs fs x=jT bs fs x
 |[],[],_,_,_=>rfl
 |[],_::_,_,_,h=>by simp at h
 |_::_,[],_,_,h=>by simp at h
 |a::xs,b::bs,[],x,h=>rfl
 | a::xs,b::bs,bR::fs,x,h=>by simp only[lW,uw,w1]at h;simp only[jT,h.1.1,h.1.2,abN (fs:=fs) (x:=x) h.2]
theorem avt{n g0:dL}(A:g0.dF=n.dF)(E:g0.dr=n.dr)(ao:g0.et=n.et)(al:n.bl.map (λa=>(a.f,a.t))=g0.bl.map (λa=>(a.f,a.t)))
 (av: ∀(i:Nat) a b,n.bl[i]?=some a->g0.bl[i]?=some b->a.c<=b.c) {au:List Int} (bb:o6 n au):o6 g0 au/\value g0 au=value n au:=by
 have aA:n.bl.length=g0.bl.length:=by simpa using congrArg List.length al
 refine⟨⟨⟨by rw[bb.lG.1,aA],λi b bR hb fo=> ?_⟩,λx B H a8=> ?_⟩,?_⟩
 ·have Y:i<n.bl.length:=(by rw[aA];exact(cN.1 hb).1);have ag:=c6 Y;have:=bb.lG.2 i _ bR ag fo;have:=av i _ b ag hb;omega
 ·rw[<-abN al];exact bb.Ph x (by simpa[dL.hC,A]using B) (by rw[<-E];exact H) (by rw[<-ao];exact a8)
 ·unfold value;rw[E,abN al]
end Go.gU
namespace Go.Proofs.YtmmkkggfmigppaaGreat
open Go Go.DI Go.Big Go.gU
def s6(s:rD)(l:Int):Int:=if l=0 then s.a else if l=1 then s.b else if l=2 then s.c else if l=3 then s.d else s.e
def nW(u:aL)(v:Nat):Nat:=match u.a2[v]? with|some x=>x.qt.toNat|none=>0
def zc(u:aL)(v i:Nat):Int:=match u.dv[nW u v]? with
 |some p=>if s6 p.ay (hT u i)=0 then p.k+p.m else s6 p.ay (hT u i)
 |none=>0
def pL(u:aL)(v d:Nat):Bool:=match u.dv[nW u v]?,u.aZ[d]? with
 |some p,some x=>decide (x.model∈p.cx)
 |_,_=>false
def eO(u:aL)(v i:Nat):Int:=if i=0 then 2+(v:Int)else 2+u.a2.length+v*((u.aO.length:Int)-1)+i-1
def dk(u:aL)(d:Nat):Int:=2+(u.a2.length:Int)*u.aO.length+d
def sw(u:aL)(v:Nat):dm:=⟨0,2+v,ku u v,0⟩
def vO(u:aL)(v i:Nat):dm:=⟨eO u v (kn u i),eO u v i,zc u v i,0⟩
def uH(u:aL)(v d:Nat):dm:=⟨eO u v (jb u d),dk u d,1,0⟩
def w7(u:aL)(R:List Int)(d:Nat):dm:=⟨dk u d,1,iO u R d,0⟩
def qL(u:aL)(v:Nat):List dm:=sw u v::((List.range (u.aO.length-1)).map (λj=>vO u v (j+1))++((List.range u.aZ.length).filter (pL u v)).map (uH u v))
def ef(u:aL)(R:List Int):List dm:=(List.range u.a2.length).flatMap (qL u)++(List.range u.aZ.length).map (w7 u R)
def hK(u:aL)(R:List Int):dL:=⟨dk u u.aZ.length,0,1,ef u R⟩
def o1(u:aL):Int:=((List.range u.a2.length).map (ku u)).foldr (· + ·) 0
theorem aEa{a b:Nat}{af aP:Int}(ag:(a:Int)<=af)(hb:(b:Int)<=aP)(eh:0<=af):(a:Int)*b<=af*aP:=
 Int.le_trans (Bq ag (by omega)) (Oq hb eh)
theorem oM{u:aL}(h:gf u){v i:Nat}(M:v<u.a2.length)(Y:i<u.aO.length):2<=eO u v i/\eO u v i<dk u 0:=by
 have bx:=h.g3;obtain⟨b1,ir⟩: ∃b1:Nat,u.aO.length=b1+1:=⟨u.aO.length-1,by omega⟩;have e:(u.a2.length:Int)*u.aO.length=u.a2.length*(b1:Int)+u.a2.length:=by rw[ir];grind
 have aG:((u.aO.length:Int)-1)=b1:=by omega
 have m:(v:Int)*b1+b1<=u.a2.length*(b1:Int):=by
  have:((v:Int)+1)*b1<=u.a2.length*(b1:Int):=Bq (by omega) (by omega)
  grind
 have I:0<=(v:Int)*b1:=DN (by omega) (by omega);unfold eO dk;split
 ·have kf:0<=(u.a2.length:Int)*b1:=DN (by omega) (by omega);omega
 ·rw[aG,e];omega
theorem wD{u:aL}(h:gf u):dk u u.aZ.length<=506/\2<=dk u 0:=by have:=h.fp;have:=h.hj;have:=h.iH;have:=aEa (a:=u.a2.length) (b:=u.aO.length) (af:=12) (aP:=40) (by omega) (by omega) (by omega);have I:0<=(u.a2.length:Int)*u.aO.length:=DN (by omega) (by omega);unfold dk;omega
theorem IG{u:aL}(h:gf u){v:Nat}(M:v<u.a2.length): ∃p,u.dv[nW u v]?=some p/\p∈u.dv/\nW u v<u.dv.length/\mI p.k p.m p.q p.ay=true/\ku u v=p.k+p.m:=by
 obtain⟨x,B⟩:=gM M;have hb:=h.N9 v x B;have ae:nW u v<u.dv.length:=by unfold nW;simp only[B];omega
 obtain⟨p,oR⟩: ∃p,u.dv[nW u v]?=some p:=⟨_,c6 ae⟩;refine⟨p,oR,fX oR,ae,(h.qt _ p oR).1,?_⟩;have e:nW u v=x.qt.toNat:=by unfold nW;simp only[B]
 rw[e]at oR;unfold ku;simp only[B,oR]
theorem aD8{u:aL}(h:gf u){v:Nat}(M:v<u.a2.length)(i:Nat):0<=zc u v i/\zc u v i<=8:=by
 obtain⟨p,A,_,_,aS,_⟩:=IG h M;simp only[mI,a7,eF]at aS;obtain⟨br,bQ,a3,a4,fz,jh,l0,oI,BH,GJ⟩:=aS;have:=nk br;have:=nk bQ;have:=nk jh;have:=nk l0;have:=nk oI;have:=nk BH;have:=nk GJ;unfold zc s6;simp only[A]
 repeat' split
 all_goals omega
theorem acM{u:aL}(h:gf u)(R:List Int){d:Nat}(aW:d<u.aZ.length):0<=iO u R d/\iO u R d<=16:=by
 obtain⟨x,B⟩:=gM aW;obtain⟨br,bQ,_⟩:=h.tw d x B;obtain⟨y,Z⟩: ∃y,u.cx[x.model.toNat]?=some y:=⟨_,c6 (by omega)⟩;have hb:=h.Iq _ y Z;have e:qe u d=y.ext:=by unfold qe;simp only[B,Z]
 unfold iO;rw[e];split<;>omega
theorem GZ{u:aL}(h:gf u){d:Nat}(aW:d<u.aZ.length):jb u d<u.aO.length/\hT u (jb u d)=4:=by
 obtain⟨x,B⟩:=gM aW;obtain⟨_,_,a3,a4,fz⟩:=h.tw d x B;have e:jb u d=x.y8.toNat:=by unfold jb;simp only[B]
 rw[e];exact⟨by omega,fz⟩
theorem Tt{u:aL}{v:Nat}{a:dm}:a∈qL u v↔a=sw u v\/(∃j,j<u.aO.length-1/\a=vO u v (j+1))\/ ∃d,d<u.aZ.length/\pL u v d=true/\a=uH u v d:=by
 unfold qL;simp only[hv,jP,gx,pH,List.mem_filter];constructor
 ·rintro(h|⟨j,aV,rfl⟩|⟨d,⟨aW,ag⟩,rfl⟩)
  ·exact .inl h
  ·exact .inr (.inl ⟨j,aV,rfl⟩)
  ·exact .inr (.inr ⟨d,aW,ag,rfl⟩)
 ·rintro(h|⟨j,aV,rfl⟩|⟨d,aW,ag,rfl⟩)
  ·exact .inl h
  ·exact .inr (.inl ⟨j,aV,rfl⟩)
  ·exact .inr (.inr ⟨d,⟨aW,ag⟩,rfl⟩)
theorem Ts{u:aL}{R:List Int}{a:dm}:a∈ef u R↔(∃v,v<u.a2.length/\a∈qL u v)\/ ∃d,d<u.aZ.length/\a=w7 u R d:=by
 unfold ef;simp only[jP,wY,pH,gx];constructor
 ·rintro(h|⟨d,aW,rfl⟩)
  ·exact .inl h
  ·exact .inr ⟨d,aW,rfl⟩
 ·rintro(h|⟨d,aW,rfl⟩)
  ·exact .inl h
  ·exact .inr ⟨d,aW,rfl⟩
theorem atq{u:aL}(h:gf u){v:Nat}:(qL u v).length<=64:=by have:=h.fp;have:=h.hj;have:=On (pL u v) (List.range u.aZ.length);simp only[Gy]at this;simp only[qL,m8,iD,ll,Gy];omega
theorem GK{u:aL}(h:gf u): ∀n:Nat,((List.range n).flatMap (qL u)).length<=64*n
 |0=>by simp
 | n+1=>by have:=GK h n;have:=atq h (v:=n);rw[By,List.flatMap_append,iD];simp only[List.flatMap_cons,List.flatMap_nil,sl];omega
theorem OQ{u:aL}(h:gf u){R:List Int}:(ef u R).length<=792:=by have:=h.hj;have:=h.iH;have:=GK h u.a2.length;simp only[ef,iD,ll,Gy];omega
theorem AX{u:aL}(h:gf u)(R:List Int):(hK u R).iS:=by
 obtain⟨ed,er⟩:=wD h;have bX:dk u u.aZ.length=dk u 0+u.aZ.length:=by unfold dk;omega
 refine⟨by show 2<=dk u u.aZ.length;omega,by show dk u u.aZ.length<=700;omega,by have:=OQ h (R:=R);show(ef u R).length<=2500;omega,⟨by show(0:Int)<=0;omega,by show(0:Int)<dk u u.aZ.length;omega⟩,⟨by show(0:Int)<=1;omega,by show(1:Int)<dk u u.aZ.length;omega⟩,by show(0:Int)≠1;omega,λa ag=> ?_⟩;have fp: ∀x:Int,0<=x->x<dk u u.aZ.length->(hK u R).hC x:= λx a b=>⟨a,b⟩;rcases Ts.1 ag with⟨v,M,al⟩|⟨d,aW,rfl⟩
 ·have bx:=h.g3;have b0:=G2 h M;rcases Tt.1 al with rfl|⟨j,aV,rfl⟩|⟨d,aW,_,rfl⟩
  ·have:=oM h M (i:=0) bx;simp only[eO,if_true]at this;exact⟨fp 0 (by omega) (by omega),fp _ (by show(0:Int)<=2+v;omega) (by show 2+(v:Int)<_;omega),by show 0<=ku u v;omega,by show ku u v<=2147483647;omega⟩
  ·have l8:j+1<u.aO.length:=(by omega);have:=(h.nV l8 (h.x2 l8 (by omega))).1;have br:=oM h M (i:=kn u (j+1)) (by omega);have bQ:=oM h M l8;have a3:=aD8 h M (j+1);exact⟨fp _ (by show 0<=eO u v (kn u (j+1));omega) (by show eO u v (kn u (j+1))<_;omega),fp _ (by show 0<=eO u v (j+1);omega) (by show eO u v (j+1)<_;omega),a3.1,by show zc u v (j+1)<=2147483647;omega⟩
  ·have br:=oM h M (GZ h aW).1;have e:dk u d=dk u 0+d:=(by unfold dk;omega);exact⟨fp _ (by show 0<=eO u v (jb u d);omega) (by show eO u v (jb u d)<_;omega),fp _ (by show 0<=dk u d;omega) (by show dk u d<_;omega),by show(0:Int)<=1;omega,by show(1:Int)<=2147483647;omega⟩
 ·have e:dk u d=dk u 0+d:=(by unfold dk;omega);have aGH:=acM h R aW;exact⟨fp _ (by show 0<=dk u d;omega) (by show dk u d<_;omega),fp 1 (by omega) (by omega),aGH.1,by show iO u R d<=2147483647;omega⟩
def IH(u:aL)(R:List Int):Prop:= ∃au,o6 (hK u R) au/\o1 u<=value (hK u R) au
theorem aFf{u:aL}{R iv:List Int}(ar: ∀d,d<u.aZ.length->iO u R d<=iO u iv d)(h:IH u R):IH u iv:=by
 obtain⟨au,A,E⟩:=h;have al:(hK u R).bl.map (λa=>(a.f,a.t))=(hK u iv).bl.map (λa=>(a.f,a.t)):=by show(ef u R).map _=(ef u iv).map _;simp[ef,w7]
 have av: ∀(i:Nat) (a b:dm),(ef u R)[i]?=some a->(ef u iv)[i]?=some b->a.c<=b.c:= λi a b kG iL=>by
  simp only[ef]at kG iL;rw[zJ]at kG iL;split at kG
  ·next c=>rw[if_pos c,kG]at iL;cases iL;exact vJ _
  ·next c=>rw[if_neg c]at iL;rw[sk,vI]at kG iL;obtain⟨d,aW,rfl⟩:=kG;obtain⟨qc,sE,rfl⟩:=iL;rw[aW]at sE;cases sE;exact ar d (pH.1 (fX aW))
 obtain⟨a,b⟩:=avt (n:=hK u R) (g0:=hK u iv) rfl rfl rfl al av A;exact⟨au,a,by rw[b];exact E⟩
open Go Go.DI
section
set_option maxRecDepth 100000
def Ff:cy N 31:=⟨_,by conv=>lhs;reduce⟩
def R9:aB:=aJ (a:=bj Ff.1.body 160351) ⟨_,by conv=>lhs;reduce⟩
def Sa:aB:=aJ (a:= λx=>bk 313 x (bj Ff.1.body 607)) ⟨_,by conv=>lhs;reduce⟩ R9
def Sb:aB:=aJ (a:=bj Ff.1.body 1215) ⟨_,by conv=>lhs;reduce⟩
def amf:aB:=aJ (a:=bj Ff.1.body 511) ⟨_,by conv=>lhs;reduce⟩
def ame:aB:=aJ (a:= λx=>bk 3 x (bj Ff.1.body 255)) ⟨_,by conv=>lhs;reduce⟩ amf
def amd:aB:=aJ (a:= λx y=>bk 3 y (bk 18 x (bj Ff.1.body 127))) ⟨_,by conv=>lhs;reduce⟩ Sb ame
def amb:aB:=aJ (a:= λx y=>bk 127 y (bk 607 x Ff.1.body)) ⟨_,by conv=>lhs;reduce⟩ Sa amd
def R8:ca:=⟨135,[.bL 6],amb⟩
theorem amc:cm N 31=some R8:=by kernel_rfl
def aaz:cy N 37:=⟨_,by conv=>lhs;reduce⟩
def amj:aB:=aJ (a:=bj aaz.1.body 63) ⟨_,by conv=>lhs;reduce⟩
def Zn:aB:=aJ (a:= λx=>bk 3 x (bj aaz.1.body 31)) ⟨_,by conv=>lhs;reduce⟩ amj
def ami:aB:=aJ (a:= λx=>bk 31 x aaz.1.body) ⟨_,by conv=>lhs;reduce⟩ Zn
def Zm:ca:=⟨36,[.bL 4,.bL 5],ami⟩
theorem aAU:cm N 37=some Zm:=by kernel_rfl
def CG:cy N 79:=⟨_,by conv=>lhs;reduce⟩
def Ms:aB:=aJ (a:=bj CG.1.body 4954495) ⟨_,by conv=>lhs;reduce⟩
def SD:aB:=aJ (a:= λx=>bk 2419 x (bj CG.1.body 2431)) ⟨_,by conv=>lhs;reduce⟩ Ms
def SE:aB:=aJ (a:=bj CG.1.body 4863) ⟨_,by conv=>lhs;reduce⟩
def am2:aB:=aJ (a:=bj CG.1.body 1023) ⟨_,by conv=>lhs;reduce⟩
def am1:aB:=aJ (a:= λx y=>bk 3 y (bk 18 x (bj CG.1.body 511))) ⟨_,by conv=>lhs;reduce⟩ SE am2
def am3:aB:=aJ (a:= λx y=>bk 15 y (bk 75 x (bj CG.1.body 63))) ⟨_,by conv=>lhs;reduce⟩ SD am1
def ZJ:aB:=aJ (a:= λx=>bk 3 x (bj CG.1.body 31)) ⟨_,by conv=>lhs;reduce⟩ am3
def amZ:aB:=aJ (a:= λx=>bk 31 x CG.1.body) ⟨_,by conv=>lhs;reduce⟩ ZJ
def SC:ca:=⟨110,[.hy 4 true 3,.bL 5],amZ⟩
theorem am0:cm N 79=some SC:=by kernel_rfl
def AL:cy N 81:=⟨_,by conv=>lhs;reduce⟩
def Mv:aB:=aJ (a:=bj AL.1.body 76951) ⟨_,by conv=>lhs;reduce⟩
def Mw:aB:=aJ (a:=bj AL.1.body 81047) ⟨_,by conv=>lhs;reduce⟩
def ZP:aB:=aJ (a:= λx=>bk 9 x (bj AL.1.body 15511)) ⟨_,by conv=>lhs;reduce⟩ Mw
def ZO:aB:=aJ (a:= λx y=>bk 3 y (bk 18 x (bj AL.1.body 7319))) ⟨_,by conv=>lhs;reduce⟩ Mv ZP
def SG:aB:=aJ (a:= λx=>bk 57 x (bj AL.1.body 151)) ⟨_,by conv=>lhs;reduce⟩ ZO
def SH:aB:=aJ (a:=bj AL.1.body 607) ⟨_,by conv=>lhs;reduce⟩
def ane:aB:=aJ (a:=bj AL.1.body 127) ⟨_,by conv=>lhs;reduce⟩
def anc:aB:=aJ (a:= λx y=>bk 7 y (bk 37 x (bj AL.1.body 31))) ⟨_,by conv=>lhs;reduce⟩ SH ane
def ana:aB:=aJ (a:= λx y=>bk 31 y (bk 151 x AL.1.body)) ⟨_,by conv=>lhs;reduce⟩ SG anc
def SF:ca:=⟨151,[.hy 4 true 4,.bL 5],ana⟩
theorem anb:cm N 81=some SF:=by kernel_rfl
def aCz:cy N 82:=⟨_,by conv=>lhs;reduce⟩
def ZQ:aB:=aJ (a:=aCz.1.body) ⟨_,by conv=>lhs;reduce⟩
def Mx:ca:=⟨25,[.bL 6],ZQ⟩
theorem anf:cm N 82=some Mx:=by kernel_rfl
def aCA:cy N 83:=⟨_,by conv=>lhs;reduce⟩
def ang:aB:=aJ (a:=aCA.1.body) ⟨_,by conv=>lhs;reduce⟩
def SI:ca:=⟨15,[.bL 4],ang⟩
theorem anh:cm N 83=some SI:=by kernel_rfl
def aaE:cy N 85:=⟨_,by conv=>lhs;reduce⟩
def ZS:aB:=aJ (a:=bj aaE.1.body 75) ⟨_,by conv=>lhs;reduce⟩
def SK:aB:=aJ (a:=bj aaE.1.body 15) ⟨_,by conv=>lhs;reduce⟩
def ank:aB:=aJ (a:= λx y=>bk 15 y (bk 75 x aaE.1.body)) ⟨_,by conv=>lhs;reduce⟩ ZS SK
def SJ:ca:=⟨18,[.bL 2],ank⟩
theorem anl:cm N 85=some SJ:=by kernel_rfl
def S0:cy N 90:=⟨_,by conv=>lhs;reduce⟩
def MA:aB:=aJ (a:=bj S0.1.body 20043) ⟨_,by conv=>lhs;reduce⟩
def Ig:aB:=aJ (a:= λx=>bk 313 x (bj S0.1.body 75)) ⟨_,by conv=>lhs;reduce⟩ MA
def ant:aB:=aJ (a:=bj S0.1.body 15) ⟨_,by conv=>lhs;reduce⟩
def ans:aB:=aJ (a:= λx y=>bk 15 y (bk 75 x S0.1.body)) ⟨_,by conv=>lhs;reduce⟩ Ig ant
def ZX:ca:=⟨74,[.bL 6],ans⟩
theorem aBf:cm N 90=some ZX:=by kernel_rfl
def MB:cy N 118:=⟨_,by conv=>lhs;reduce⟩
def HF:aB:=aJ (a:=bj MB.1.body 2431) ⟨_,by conv=>lhs;reduce⟩
def ajE:aB:=aJ (a:=bj MB.1.body 511) ⟨_,by conv=>lhs;reduce⟩
def ajF:aB:=aJ (a:= λx y=>bk 15 y (bk 75 x (bj MB.1.body 63))) ⟨_,by conv=>lhs;reduce⟩ HF ajE
def Yn:aB:=aJ (a:= λx=>bk 3 x (bj MB.1.body 31)) ⟨_,by conv=>lhs;reduce⟩ ajF
def ajC:aB:=aJ (a:= λx=>bk 31 x MB.1.body) ⟨_,by conv=>lhs;reduce⟩ Yn
def QS:ca:=⟨94,[.bL 4,.bL 5],ajC⟩
theorem ajD:cm N 118=some QS:=by kernel_rfl
def xN:cy N 124:=⟨_,by conv=>lhs;reduce⟩
def QZ:aB:=aJ (a:=bj xN.1.body 1238623) ⟨_,by conv=>lhs;reduce⟩
def HG:aB:=aJ (a:=bj xN.1.body 4974175) ⟨_,by conv=>lhs;reduce⟩
def Lz:aB:=aJ (a:=bj xN.1.body 5236319) ⟨_,by conv=>lhs;reduce⟩
def Yr:aB:=aJ (a:= λx=>bk 9 x (bj xN.1.body 1042015)) ⟨_,by conv=>lhs;reduce⟩ Lz
def Yq:aB:=aJ (a:= λx y=>bk 3 y (bk 18 x (bj xN.1.body 517727))) ⟨_,by conv=>lhs;reduce⟩ HG Yr
def Yp:aB:=aJ (a:= λx=>bk 3 x (bj xN.1.body 255583)) ⟨_,by conv=>lhs;reduce⟩ Yq
def Q0:aB:=aJ (a:= λx y=>bk 499 y (bk 2419 x (bj xN.1.body 607))) ⟨_,by conv=>lhs;reduce⟩ QZ Yp
def Q1:aB:=aJ (a:=bj xN.1.body 1215) ⟨_,by conv=>lhs;reduce⟩
def ajQ:aB:=aJ (a:=bj xN.1.body 255) ⟨_,by conv=>lhs;reduce⟩
def ajP:aB:=aJ (a:= λx y=>bk 3 y (bk 18 x (bj xN.1.body 127))) ⟨_,by conv=>lhs;reduce⟩ Q1 ajQ
def ajN:aB:=aJ (a:= λx y=>bk 127 y (bk 607 x xN.1.body)) ⟨_,by conv=>lhs;reduce⟩ Q0 ajP
def QY:ca:=⟨156,[.hy 4 true 4,.bL 5],ajN⟩
theorem ajO:cm N 124=some QY:=by kernel_rfl
def Z5:cy N 126:=⟨_,by conv=>lhs;reduce⟩
def Yu:aB:=aJ (a:=bj Z5.1.body 75) ⟨_,by conv=>lhs;reduce⟩
def Q4:aB:=aJ (a:=bj Z5.1.body 15) ⟨_,by conv=>lhs;reduce⟩
def ajU:aB:=aJ (a:= λx y=>bk 15 y (bk 75 x Z5.1.body)) ⟨_,by conv=>lhs;reduce⟩ Yu Q4
def Q3:ca:=⟨32,[.bL 2],ajU⟩
theorem ajV:cm N 126=some Q3:=by kernel_rfl
def aBo:cy N 127:=⟨_,by conv=>lhs;reduce⟩
def ajW:aB:=aJ (a:=aBo.1.body) ⟨_,by conv=>lhs;reduce⟩
def Q5:ca:=⟨7,[.bL 4],ajW⟩
theorem ajX:cm N 127=some Q5:=by kernel_rfl
def aBp:cy N 128:=⟨_,by conv=>lhs;reduce⟩
def Yv:aB:=aJ (a:=aBp.1.body) ⟨_,by conv=>lhs;reduce⟩
def LA:ca:=⟨24,[.bL 6],Yv⟩
theorem ajY:cm N 128=some LA:=by kernel_rfl
def aBq:cy N 129:=⟨_,by conv=>lhs;reduce⟩
def ajZ:aB:=aJ (a:=aBq.1.body) ⟨_,by conv=>lhs;reduce⟩
def Q6:ca:=⟨13,[.bL 4],ajZ⟩
theorem aj0:cm N 129=some Q6:=by kernel_rfl
def aBK:cy N 183:=⟨_,by conv=>lhs;reduce⟩
def akz:aB:=aJ (a:=aBK.1.body) ⟨_,by conv=>lhs;reduce⟩
def Rr:ca:=⟨16,[],akz⟩
theorem akA:cm N 183=some Rr:=by kernel_rfl
end
section
set_option maxRecDepth 100000
def anI:cy N 84:=⟨_,by conv=>lhs;reduce⟩
def Ie:aB:=aJ (a:=bj anI.1.body 151) ⟨_,by conv=>lhs;reduce⟩
def ZR:aB:=aJ (a:= λx=>bk 151 x anI.1.body) ⟨_,by conv=>lhs;reduce⟩ Ie
def ani:ca:=⟨70,[.bL 4,.bL 5],ZR⟩
theorem anj:cm N 84=some ani:=by kernel_rfl
theorem aub{args:List Value}{m:G}{bu:Value->G->Prop}(h:args.length<=70):eu N 84 args m bu=fJ N ZR (ij args) m (m2 [.bL 4,.bL 5] bu):=nz anj h
def SZ:cy N 89:=⟨_,by conv=>lhs;reduce⟩
def My:aB:=aJ (a:=bj SZ.1.body 9671) ⟨_,by conv=>lhs;reduce⟩
def Mz:aB:=aJ (a:=bj SZ.1.body 10183) ⟨_,by conv=>lhs;reduce⟩
def SV:aB:=aJ (a:= λx y=>bk 318 y (bk 302 x (bj SZ.1.body 39))) ⟨_,by conv=>lhs;reduce⟩ My Mz
def ZW:aB:=aJ (a:= λx=>bk 39 x SZ.1.body) ⟨_,by conv=>lhs;reduce⟩ SV
def aBd:ca:=⟨155,[.bL 2,.bL 3,.bL 4,.bL 5],ZW⟩
theorem aBe:cm N 89=some aBd:=by kernel_rfl
theorem auc{args:List Value}{m:G}{bu:Value->G->Prop}(h:args.length<=155):eu N 89 args m bu=fJ N ZW (ij args) m (m2 [.bL 2,.bL 3,.bL 4,.bL 5] bu):=nz aBe h
def Z4:cy N 125:=⟨_,by conv=>lhs;reduce⟩
def Yt:aB:=aJ (a:=bj Z4.1.body 151) ⟨_,by conv=>lhs;reduce⟩
def Q2:aB:=aJ (a:=bj Z4.1.body 159) ⟨_,by conv=>lhs;reduce⟩
def Ys:aB:=aJ (a:= λx y=>bk 159 y (bk 151 x Z4.1.body)) ⟨_,by conv=>lhs;reduce⟩ Yt Q2
def ajR:ca:=⟨93,[.bL 2,.bL 3,.bL 4,.bL 5],Ys⟩
theorem ajS:cm N 125=some ajR:=by kernel_rfl
theorem atS{args:List Value}{m:G}{bu:Value->G->Prop}(h:args.length<=93):eu N 125 args m bu=fJ N Ys (ij args) m (m2 [.bL 2,.bL 3,.bL 4,.bL 5] bu):=nz ajS h
def anu:cy N 131:=⟨_,by conv=>lhs;reduce⟩
def y4:aB:=aJ (a:=bj anu.1.body 75) ⟨_,by conv=>lhs;reduce⟩
def xL:aB:=aJ (a:= λx=>bk 75 x anu.1.body) ⟨_,by conv=>lhs;reduce⟩ y4
def aj3:ca:=⟨94,[.bL 2],xL⟩
theorem aj4:cm N 131=some aj3:=by kernel_rfl
theorem atT{args:List Value}{m:G}{bu:Value->G->Prop}(h:args.length<=94):eu N 131 args m bu=fJ N xL (ij args) m (m2 [.bL 2] bu):=nz aj4 h
def Z8:cy N 144:=⟨_,by conv=>lhs;reduce⟩
def YE:aB:=aJ (a:=bj Z8.1.body 20111) ⟨_,by conv=>lhs;reduce⟩
def LF:aB:=aJ (a:= λx=>bk 157 x (bj Z8.1.body 143)) ⟨_,by conv=>lhs;reduce⟩ YE
def YD:aB:=aJ (a:= λx=>bk 143 x Z8.1.body) ⟨_,by conv=>lhs;reduce⟩ LF
def azj:ca:=⟨119,[.bL 4,.bL 5],YD⟩
theorem azk:cm N 144=some azj:=by kernel_rfl
theorem atV{args:List Value}{m:G}{bu:Value->G->Prop}(h:args.length<=119):eu N 144 args m bu=fJ N YD (ij args) m (m2 [.bL 4,.bL 5] bu):=nz azk h
def Z9:cy N 145:=⟨_,by conv=>lhs;reduce⟩
def EV:aB:=aJ (a:=bj Z9.1.body 151) ⟨_,by conv=>lhs;reduce⟩
def EW:aB:=aJ (a:=bj Z9.1.body 303) ⟨_,by conv=>lhs;reduce⟩
def YF:aB:=aJ (a:= λx y=>bk 303 y (bk 151 x Z9.1.body)) ⟨_,by conv=>lhs;reduce⟩ EV EW
def azl:ca:=⟨105,[.bL 4,.bL 5],YF⟩
theorem azm:cm N 145=some azl:=by kernel_rfl
theorem atW{args:List Value}{m:G}{bu:Value->G->Prop}(h:args.length<=105):eu N 145 args m bu=fJ N YF (ij args) m (m2 [.bL 4,.bL 5] bu):=nz azm h
def anz:cy N 184:=⟨_,by conv=>lhs;reduce⟩
def Cz:aB:=aJ (a:=bj anz.1.body 151) ⟨_,by conv=>lhs;reduce⟩
def AH:aB:=aJ (a:= λx=>bk 151 x anz.1.body) ⟨_,by conv=>lhs;reduce⟩ Cz
def akB:ca:=⟨72,[.bL 2],AH⟩
theorem akC:cm N 184=some akB:=by kernel_rfl
theorem atY{args:List Value}{m:G}{bu:Value->G->Prop}(h:args.length<=72):eu N 184 args m bu=fJ N AH (ij args) m (m2 [.bL 2] bu):=nz akC h
def aac:cy N 185:=⟨_,by conv=>lhs;reduce⟩
def HL:aB:=aJ (a:=bj aac.1.body 9367) ⟨_,by conv=>lhs;reduce⟩
def LN:aB:=aJ (a:= λx=>bk 73 x (bj aac.1.body 151)) ⟨_,by conv=>lhs;reduce⟩ HL
def YJ:aB:=aJ (a:= λx=>bk 151 x aac.1.body) ⟨_,by conv=>lhs;reduce⟩ LN
def akD:ca:=⟨84,[.bL 2,.bL 3],YJ⟩
theorem akE:cm N 185=some akD:=by kernel_rfl
theorem atZ{args:List Value}{m:G}{bu:Value->G->Prop}(h:args.length<=84):eu N 185 args m bu=fJ N YJ (ij args) m (m2 [.bL 2,.bL 3] bu):=nz akE h
def aad:cy N 186:=⟨_,by conv=>lhs;reduce⟩
def HM:aB:=aJ (a:=bj aad.1.body 75) ⟨_,by conv=>lhs;reduce⟩
def LO:aB:=aJ (a:=bj aad.1.body 151) ⟨_,by conv=>lhs;reduce⟩
def YK:aB:=aJ (a:= λx y=>bk 151 y (bk 75 x aad.1.body)) ⟨_,by conv=>lhs;reduce⟩ HM LO
def akF:ca:=⟨92,[.bL 4],YK⟩
theorem akG:cm N 186=some akF:=by kernel_rfl
theorem at0{args:List Value}{m:G}{bu:Value->G->Prop}(h:args.length<=92):eu N 186 args m bu=fJ N YK (ij args) m (m2 [.bL 4] bu):=nz akG h
def aB5:cy N 234:=⟨_,by conv=>lhs;reduce⟩
def Y0:aB:=aJ (a:=aB5.1.body) ⟨_,by conv=>lhs;reduce⟩
def alj:ca:=⟨12,[.bL 3],Y0⟩
theorem alk:cm N 234=some alj:=by kernel_rfl
theorem at4{args:List Value}{m:G}{bu:Value->G->Prop}(h:args.length<=12):eu N 234 args m bu=fJ N Y0 (ij args) m (m2 [.bL 3] bu):=nz alk h
def aB6:cy N 235:=⟨_,by conv=>lhs;reduce⟩
def RN:aB:=aJ (a:=aB6.1.body) ⟨_,by conv=>lhs;reduce⟩
def alm:ca:=⟨52,[.bL 4,.bL 5],RN⟩
theorem aln:cm N 235=some alm:=by kernel_rfl
theorem at5{args:List Value}{m:G}{bu:Value->G->Prop}(h:args.length<=52):eu N 235 args m bu=fJ N RN (ij args) m (m2 [.bL 4,.bL 5] bu):=nz aln h
def aB7:cy N 236:=⟨_,by conv=>lhs;reduce⟩
def RO:aB:=aJ (a:=aB7.1.body) ⟨_,by conv=>lhs;reduce⟩
def alo:ca:=⟨26,[.bL 4],RO⟩
theorem alp:cm N 236=some alo:=by kernel_rfl
theorem at6{args:List Value}{m:G}{bu:Value->G->Prop}(h:args.length<=26):eu N 236 args m bu=fJ N RO (ij args) m (m2 [.bL 4] bu):=nz alp h
end
open Go Go.DI Go.gU
theorem fe.trans{a b c:G}(h:fe a b)(cw:fe b c):fe a c:=⟨mR h.next cw.next,λx B=>by rw[cw.F x (qE B h.next),h.F x B]⟩
theorem fe.some{m U:G}(h:fe m U){b:Nat}{x:en}(hb:m.F b=some x):U.F b= .some x:=by rw[h.F b (aF hb),hb]
theorem fe.bU{m U:G}(h:fe m U)(k:Nat):fe m (U.bU k):=⟨by have:=h.next;simp only[fq];omega,λb hb=>by have:=h.next;rw[cl (by omega),h.F b hb]⟩
theorem fe.aK{m U:G}(h:fe m U){i:Nat}{x:Option en}(Y:m.next<=i):fe m (U.aK i x):=⟨h.next,λb hb=>by rw[aX (by omega),h.F b hb]⟩
def gH(a:dm):List Value:=[D a.f,D a.t,D a.c,D a.k]
def fA(l:List dm):List Value:=(l.map gH).flatten
@[simp] theorem BI: ∀(l:List dm),(fA l).length=l.length*4
  |[]=>rfl
  | a::l=>by have:=BI l;simp only[fA,lW,td,iD,m8]at this⊢;rw[this];simp[gH];omega
theorem zZ: ∀{l:List dm} {i:Nat} {a:dm},l[i]?=some a->((fA l).drop (i*4)).take 4=gH a
 |[],_,_,h=>by simp at h
 |b::l,0,a,h=>by simp at h;subst h;rfl
 | b::l,i+1,a,h=>by have:= @zZ l i a (by simpa using h);rw[<-this,show(i+1)*4=i*4+4 by omega];simp[fA,gH]
theorem qM{l:List dm}{i j:Nat}{a:dm}(h:l[i]?=some a)(aV:j<4):(fA l)[i*4+j]?=(gH a)[j]?:=by rw[<-zZ h,ry,if_pos aV,zL]
def mm(m:G)(v:Value)(l:List dm):Prop:=(v= .slice none 0 0/\l=[])\/ ∃b o,v= .slice (some ⟨b,0,none⟩) l.length 4/\m.F b=some ⟨fA l,o⟩
def w3(m:G)(v:Value)(l:List Int):Prop:=(v= .slice none 0 0/\l=[])\/ ∃b o,v= .slice (some ⟨b,0,none⟩) l.length 1/\m.F b=some ⟨l.map (Value.int .i64 ·),o⟩
def zP(m:G)(v:Value)(l:List Bool):Prop:=(v= .slice none 0 0/\l=[])\/ ∃b o,v= .slice (some ⟨b,0,none⟩) l.length 1/\m.F b=some ⟨l.map (Value.bool ·),o⟩
section
variable {m U:G} {v:Value}
theorem mm.bt{l:List dm}(h:mm m v l)(aC:fe m U):mm U v l:=by
 rcases h with h|⟨b,o,A,E⟩
 ·exact .inl h
 ·exact .inr ⟨b,o,A,aC.some E⟩
theorem w3.bt{l:List Int}(h:w3 m v l)(aC:fe m U):w3 U v l:=by
 rcases h with h|⟨b,o,A,E⟩
 ·exact .inl h
 ·exact .inr ⟨b,o,A,aC.some E⟩
theorem zP.bt{l:List Bool}(h:zP m v l)(aC:fe m U):zP U v l:=by
 rcases h with h|⟨b,o,A,E⟩
 ·exact .inl h
 ·exact .inr ⟨b,o,A,aC.some E⟩
theorem mm.len{l:List dm}(h:mm m v l):fa v=l.length/\hQ v=true:=by rcases h with⟨rfl,rfl⟩|⟨b,o,rfl,_⟩<;>exact⟨rfl,rfl⟩
theorem w3.len{l:List Int}(h:w3 m v l):fa v=l.length/\hQ v=true:=by rcases h with⟨rfl,rfl⟩|⟨b,o,rfl,_⟩<;>exact⟨rfl,rfl⟩
theorem zP.len{l:List Bool}(h:zP m v l):fa v=l.length/\hQ v=true:=by rcases h with⟨rfl,rfl⟩|⟨b,o,rfl,_⟩<;>exact⟨rfl,rfl⟩
theorem mm.hc{l:List dm}(h:mm m v l){i:Nat}(Y:i<l.length): ∃b o,v= .slice (some ⟨b,0,none⟩) l.length 4/\m.F b=some ⟨fA l,o⟩:=by
 rcases h with⟨_,rfl⟩|h
 ·simp at Y
 ·exact h
theorem w3.hc{l:List Int}(h:w3 m v l){i:Nat}(Y:i<l.length): ∃b o,v= .slice (some ⟨b,0,none⟩) l.length 1/\m.F b=some ⟨l.map (Value.int .i64 ·),o⟩:=by
 rcases h with⟨_,rfl⟩|h
 ·simp at Y
 ·exact h
theorem zP.hc{l:List Bool}(h:zP m v l){i:Nat}(Y:i<l.length): ∃b o,v= .slice (some ⟨b,0,none⟩) l.length 1/\m.F b=some ⟨l.map (Value.bool ·),o⟩:=by
 rcases h with⟨_,rfl⟩|h
 ·simp at Y
 ·exact h
end
abbrev kX(n:dL)(v:Value):List Value:=[D n.dF,D n.dr,D n.et,v]
abbrev CW(n:dL)(v:Value):Value:= .agg #[D n.dF,D n.dr,D n.et,v]
def jL(n:dL)(x:Int):Bool:=decide (0<=x)&&decide (x<n.dF)
def ob(n:dL)(a:dm):Bool:=jL n a.f&&jL n a.t&& !decide (a.c<0)&& !decide (2147483647<a.c)
def jr(n:dL):Bool:= !decide (n.dF<2)&& !decide (700<n.dF)&& !decide (2500<n.bl.length)&&jL n n.dr&&jL n n.et&& !decide (n.dr=n.et)&&n.bl.all (ob n)
theorem aEE{n:dL}{x:Int}:jL n x=true↔n.hC x:=by simp[jL,dL.hC]
theorem Ix{n:dL}:jr n=true↔n.iS:=by
 simp only[jr,a7,sj,Gv,ei,aEE,ob];constructor
 ·rintro⟨⟨⟨⟨⟨⟨A,E⟩,ao⟩,aS⟩,bI⟩,cZ⟩,eg⟩;exact⟨by omega,by omega,by omega,aS,bI,cZ,λa ag=>by obtain⟨⟨⟨br,bQ⟩,a3⟩,a4⟩:=eg a ag;exact⟨br,bQ,by omega,by omega⟩⟩
 ·rintro⟨A,E,ao,aS,bI,cZ,eg⟩;exact⟨⟨⟨⟨⟨⟨by omega,by omega⟩,by omega⟩,aS⟩,bI⟩,cZ⟩,λa ag=>by obtain⟨br,bQ,a3,a4⟩:=eg a ag;exact⟨⟨⟨br,bQ⟩,by omega⟩,by omega⟩⟩
theorem ao1{n:dL}{v:Value}{b:Nat}{m:G}{o:Bool}(h:m.F b=some ⟨kX n v,o⟩)(x:Int)(bu:Value->G->Prop):eu N 234 [D x,bC b] m bu=bu (.bool (jL n x)) m:=by refine(qJ.xZ ?_).wp;rw[at4 (by simp)];by_cases A:0<=x<;>by_cases E:x<n.dF<;>simp[Y0,h,A,E,jL]
theorem arM{n:dL}{v:Value}{b:Nat}{ek:G}(aj:ek.F b=some ⟨kX n v,true⟩)(M:mm ek v n.bl)(aA:n.bl.length<100000){Q:cO->aD->G->Prop}: ∀(r i:Nat) (m:G) (z:aD),i+r=n.bl.length->fe ek m->
 z 43=v->z 44=D n.bl.length->z 45=D i->z 3= .func (.func 234) #[] #[bC b]->
 (∀K U,fe ek U->(n.bl.drop i).all (ob n)=true->Q (.cF 0) K U)->(∀K U,fe ek U->(n.bl.drop i).all (ob n)=false->K 2= .bool false->Q .fi K U)->fJ N (.loop Cz) z m Q
 | 0,i,m,z,Y,aC,lU,Db,x8,bH,a6,c1=>by refine jN λbO a1=> ?_;have A: ¬i<n.bl.length:=(by omega);simp[Cz,Db,x8,A];exact a6 _ _ aC (by rw[Gw (by omega)];rfl)
 | r+1,i,m,z,Y,aC,lU,Db,x8,bH,a6,c1=>by
   refine jN λbO a1=> ?_;have A:i<n.bl.length:=(by omega);obtain⟨a,ag⟩: ∃a,n.bl[i]?=some a:=⟨n.bl[i]'A,by simp⟩;have tE:n.bl.drop i=a::n.bl.drop (i+1):=by rw[pG A];rw[c6 A]at ag;cases ag;rfl
   obtain⟨c,o,rfl,av⟩:=M.hc A;have lf:=aC.some av;have lr:=aC.some aj;have sG:=aF lr;have xz:=aF lf;have sH:=aC.next
   have Ao:=aF aj;have hb:i*4+4<=n.bl.length*4:=(by omega);have iq:=zZ ag;have bp:=fB (n:=i) (by omega);have qj: ∀(x:Int) (k:Nat) (y:en) (bu:Value->G->Prop),eu N 234 [D x,bC b] ((m.bU 4).aK (m.next+2) (some y)) bu=bu (.bool (jL n x)) ((m.bU 4).aK (m.next+2) (some y)):= λx k y bu=>
    ao1 (by rw[aX (by omega),cl sG];exact lr) x bu
   have qj:= λx y bu=>qj x 0 y bu;have next: ∀(K:aD) (U:G),ob n a=true->fe ek U->K 43= .slice (some ⟨c,0,none⟩) n.bl.length 4->K 44=D n.bl.length->K 45=D ((i:Int)+1)->K 3= .func (.func 234) #[] #[bC b]->bO K U:=by
    intro K U ax jk aFH aFI aFJ cA;refine a1 _ _ (arM aj M aA r (i+1) U K (by omega) jk aFH aFI (by rw[aFJ];simp) cA (λk5 vh aE a5=>a6 _ _ aE ?_) (λk5 vh aE a5 ch=>c1 _ _ aE ?_ ch))
    ·rw[tE,m9,ax,a5];rfl
    ·rw[tE,m9,ax,a5];rfl
   have stop: ∀(K:aD) (U:G),ob n a=false->fe ek U->K 2= .bool false->Q .fi K U:= λK U kj jk bW=>c1 _ _ jk (by rw[tE,m9,kj];rfl) bW;have hp: ∀y,fe ek ((m.bU 4).aK (m.next+2) (some y)):= λy=>(aC.bU 4).aK (by omega);cases bB:jL n a.f
   ·simp(disch:=first|omega|simp only[bS];omega) [Cz,lU,Db,x8,bH,A,lf,hb,iq,gH,qj,bB];exact stop _ _ (by simp[ob,bB]) (hp _) (by simp)
   cases cC:jL n a.t
   ·simp(disch:=first|omega|simp only[bS];omega) [Cz,lU,Db,x8,bH,A,lf,hb,iq,gH,qj,bB,cC];exact stop _ _ (by simp[ob,cC]) (hp _) (by simp)
   by_cases dO:a.c<0
   ·simp(disch:=first|omega|simp only[bS];omega) [Cz,lU,Db,x8,bH,A,lf,hb,iq,gH,qj,bB,cC,dO];exact stop _ _ (by simp[ob,dO]) (hp _) (by simp)
   by_cases gu:2147483647<a.c
   ·simp(disch:=first|omega|simp only[bS];omega) [Cz,lU,Db,x8,bH,A,lf,hb,iq,gH,qj,bB,cC,dO,gu];exact stop _ _ (by simp[ob,gu]) (hp _) (by simp)
   ·simp(disch:=first|omega|simp only[bS];omega) [Cz,lU,Db,x8,bH,A,lf,hb,iq,gH,qj,bB,cC,dO,gu,bp];exact next _ _ (by simp[ob,bB,cC,dO,gu]) (hp _) (by simp[lU]) (by simp[Db]) (by simp) (by simp[bH])
open Go Go.DI Go.Big
def oG(n d:Int):Prop:=(n=0/\d=1)\/(n=1/\d=1)\/(n=1/\d=2)\/(n=1/\d=1000)\/(n=30/\d=1)\/(n=1/\100<=d/\d<200)
def gi(n d:Int):cv:=⟨false,if n=0 then[]else[n],[d]⟩
theorem ahh{n d:Int}(h:oG n d):bP N 59 [D n,D d] (dW (gi n d)):=by
 rcases h with⟨rfl,rfl⟩|⟨rfl,rfl⟩|⟨rfl,rfl⟩|⟨rfl,rfl⟩|⟨rfl,rfl⟩|⟨rfl,A,E⟩
 ·exact avw
 ·exact avx
 ·exact avy
 ·exact avz
 ·exact avA
 ·exact avB (by omega) E
noncomputable def Bb:bF N:= .cM 59 (Int×Int) (λx=>oG x.1 x.2) (λx=>[D x.1,D x.2]) (λx=>dW (gi x.1 x.2)) λx h=>ahh h
@[simp] theorem aVG:Bb.f=59:=rfl
@[simp] theorem aVH{n d:Int}(h:oG n d):Bb.fn [D n,D d]=some (dW (gi n d)):=bF.dK (x:=(n,d)) h λ⟨j6,h2⟩ Z=>by simpa using Z
def lS(c n:Nat):ByteArray:=⟨#[c.toUInt8,(97+n/26%26).toUInt8,(97+n%26).toUInt8]⟩
theorem aD6{c n:Nat}(av:c<256)(aj:n<1000000):bP N 109 [.int .u8 c,D n] (.string (lS c n)):=by
 refine dJ (c3 (ay:=⟨[],[]⟩) ay6 (by kernel_rfl) (by simp[Ya]) ?_);have br:IntKind.i64.wrap ((n:Int)/26)=((n/26:Nat):Int):=by rw[db (by omega) (by omega)];omega
 have bQ:((n/26:Nat):Int).tmod 26=((n/26%26:Nat):Int):=by rw[Int.tmod_eq_emod_of_nonneg (by omega)];omega
 have a3:(n:Int).tmod 26=((n%26:Nat):Int):=by rw[Int.tmod_eq_emod_of_nonneg (by omega)];omega
 have w: ∀k:Nat,k<26->IntKind.u8.wrap (IntKind.i64.wrap (97+(k:Int)))=((97+k:Nat):Int):= λk O=>by rw[db (by omega) (by omega)];show(97+(k:Int))%256=_;omega
 have cr:=w (n/26%26) (by omega);have ea:=w (n%26) (by omega);simp[Ya,ajs];rw[br,bQ,a3,cr,ea];simp only[toBytes,lS,lW,List.map_nil];rfl
noncomputable def oA:bF N:= .cM 109 (Nat×Nat) (λx=>x.1<256/\x.2<1000000) (λx=>[.int .u8 x.1,D x.2]) (λx=> .string (lS x.1 x.2)) λx h=>aD6 h.1 h.2
@[simp] theorem aV2:oA.f=109:=rfl
@[simp] theorem T7{c:Int}{C n:Nat}(av:c=C)(h:C<256/\n<1000000):oA.fn [.int .u8 c,D n]=some (.string (lS C n)):=by subst av;exact bF.dK (x:=(C,n)) h λ⟨j6,h2⟩ Z=>by simp at Z⊢;omega
end Go.Proofs.YtmmkkggfmigppaaGreat
