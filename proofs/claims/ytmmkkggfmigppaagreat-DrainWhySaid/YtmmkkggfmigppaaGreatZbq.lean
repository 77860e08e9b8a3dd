/-
  A part of the proof, shortened by tools of ours.
-/
import Derived.Test.YtmmkkggfmigppaaGreatZbp
set_option linter.all false
set_option maxRecDepth 8000
set_option maxHeartbeats 16000000
namespace Go.Proofs.YtmmkkggfmigppaaGreat
open Go Go.DI Go.Big
def me(x n:Int):Int:=if n<1 then 0 else if x.tmod n<0 then x.tmod n+n else x.tmod n
theorem abE{x n:Int}(h:1<=n):0<=me x n/\me x n<n:=by have A:=Int.tmod_lt_of_pos x (show 0<n by omega);have E:=Int.lt_tmod_of_pos x (show 0<n by omega);unfold me;rw[if_neg (by omega)];split<;>omega
theorem abD{x n:Int}(h:n<1):me x n=0:=by unfold me;rw[if_pos h]
def UI(l:List Int)(i:Nat):Int:=match l[i]? with|some x=>x|none=>(i:Int)%3
def fQ(l:List Int)(i:Nat)(n:Int):Int:=me (UI l i) n
theorem mJ{l:List Int}{i:Nat}{n:Int}(h:1<=n):0<=fQ l i n/\fQ l i n<n:=abE h
theorem aEw{o i:Nat}{l:List Int}{n:Int}{t:G}(Y:i<1000000)(aA:l.length<=140737488355328)(aj:n<=1000000)(aC:t.F o=some ⟨[bq l,D i],true⟩){bu:Value->G->Prop}
 (iF:bu (D (fQ l i n)) (t.aK o (some ⟨[bq l,D (i+1:Nat)],true⟩))):fg N 49 [.pointer (some ⟨o,0,none⟩),D n] t bu:=by
 refine c3 (ay:=⟨[],[]⟩) aAZ (by kernel_rfl) (by simp[CD]) ?_;have bh:=aF aC;have bp:=fB (n:=i) (by omega);have ct:(i:Int).tmod 3=(i:Int)%3:=by rw[Int.tmod_eq_emod_of_nonneg (by omega)]
 have Xo:(some (en.mk [bq l,D ((i:Int)+1)] true))=some ⟨[bq l,D (i+1:Nat)],true⟩:=by simp
 have mW: ∀x:Int,UI l i=x-> ∀uy:Prop,(n<1->fQ l i n=0->uy)->(1<=n-> ¬n<1-> ¬n=0->x.tmod n<0->IntKind.i64.wrap (x.tmod n+n)=fQ l i n->uy)->(1<=n-> ¬n<1-> ¬n=0-> ¬x.tmod n<0->x.tmod n=fQ l i n->uy)->uy:= λx B uy ej eD gg=>by
  by_cases c:n<1
  ·exact ej c (by unfold fQ;exact abD c)
  ·have A:=Int.tmod_lt_of_pos x (show 0<n by omega);have E:=Int.lt_tmod_of_pos x (show 0<n by omega);by_cases c9:x.tmod n<0
   ·exact eD (by omega) c (by omega) c9 (by rw[db (by omega) (by omega)];unfold fQ me;rw[B,if_neg c,if_pos c9])
   ·exact gg (by omega) c (by omega) c9 (by unfold fQ me;rw[B,if_neg c,if_neg c9])
 by_cases q:i<l.length
 ·have a9:(i:Int)<l.length:=(by omega);obtain⟨x,B⟩:=gM q;have cQ:=(cN.1 B).2;refine mW x (by unfold UI;rw[B]) _ (λc e=> ?_) (λck c jv c9 e=> ?_) λck c jv c9 e=> ?_
  ·rw[e]at iF;simp(disch:=omega) [CD,E5,aC,bp,ct,a9,cQ,c];simpa using iF
  ·rw[<-e]at iF;simp(disch:=omega) [CD,E5,aC,bp,ct,a9,cQ,c,jv,c9];simpa using iF
  ·rw[<-e]at iF;simp(disch:=omega) [CD,E5,aC,bp,ct,a9,cQ,c,jv,c9];simpa using iF
 ·have a9: ¬(i:Int)<l.length:=(by omega);refine mW ((i:Int)%3) (by unfold UI;rw[qD (by omega)]) _ (λc e=> ?_) (λck c jv c9 e=> ?_) λck c jv c9 e=> ?_
  ·rw[e]at iF;simp[CD,E5,aC,bp,ct,a9,c];simpa using iF
  ·rw[<-e]at iF;simp[CD,E5,aC,bp,ct,a9,c,jv,c9];simpa using iF
  ·rw[<-e]at iF;simp[CD,E5,aC,bp,ct,a9,c,jv,c9];simpa using iF
open Classical in
noncomputable def It(o:Nat)(n:Int)(t:G)(b:Option en):Option (Value×G):=
 if h: ∃p:List Int×Nat,b=some ⟨[bq p.1,D p.2],true⟩/\p.2<1000000/\p.1.length<=140737488355328/\n<=1000000 then some (D (fQ h.choose.1 h.choose.2 n),t.aK o (some ⟨[bq h.choose.1,D (h.choose.2+1:Nat)],true⟩))else none
@[simp] theorem aEv{o i:Nat}{n:Int}{t:G}{l:List Int}(h:i<1000000/\l.length<=140737488355328/\n<=1000000):It o n t (some ⟨[ai (l.map λx=>[D x]) 1,.int .i64 i],true⟩)=some (D (fQ l i n),t.aK o (some ⟨[bq l,D (i+1:Nat)],true⟩)):=by
  have hX: ∃p:List Int×Nat,(some (en.mk [bq l,D i] true))=some ⟨[bq p.1,D p.2],true⟩/\p.2<1000000/\p.1.length<=140737488355328/\n<=1000000:=⟨(l,i),rfl,h⟩;unfold It;rw[dif_pos hX];have this:=hX.choose_spec.1;generalize hX.choose=p at this⊢;obtain⟨dC,fK⟩:=p;simp only[mP,en.mk.injEq,uw,and_true,aje,anQ,Value.int.injEq,true_and]at this;obtain⟨rfl,E⟩:=this;have:i=fK:=by omega
  rw[this]
noncomputable def kL:jg N:= .cM 49 (Nat×Int) (λx=>[.pointer (some ⟨x.1,0,none⟩),D x.2]) (λx t=>It x.1 x.2 t (t.F x.1)) λ⟨o,n⟩ t r X h bu iF=>by
 simp only[It]at h;split at h
 ·next B=>obtain⟨a,b,c,d⟩:=B.choose_spec;cases h;exact aEw b c d a iF
 ·cases h
@[simp] theorem aQ3:kL.f=49:=rfl
@[simp] theorem aQ4{o:Nat}{n:Int}{t:G}:kL.fn [.pointer (some ⟨o,0,none⟩),.int .i64 n] t=It o n t (t.F o):=jg.dK (x:=(o,n)) λ⟨h2,kP⟩ Z=>by simp at Z⊢;omega
theorem aJT{x n:Int}(aj:n<=1000000):bP N 19 [D x,D n] (D (me x n)):=by
 refine dJ (c3 (ay:=⟨[],[]⟩) azR (by kernel_rfl) (by simp[LR]) ?_);by_cases c:n<1
 ·rw[abD c];simp[LR,Rz,c]
 ·have A:=Int.tmod_lt_of_pos x (show 0<n by omega);have E:=Int.lt_tmod_of_pos x (show 0<n by omega);have jv: ¬n=0:=(by omega);have ck:1<=n:=(by omega);have w:IntKind.i64.wrap (x.tmod n+n)=x.tmod n+n:=db (by omega) (by omega);by_cases c9:x.tmod n<0
  ·have e:me x n=x.tmod n+n:=(by unfold me;rw[if_neg c,if_pos c9]);rw[e];simp[LR,Rz,c,jv,c9,w]
  ·have e:me x n=x.tmod n:=(by unfold me;rw[if_neg c,if_neg c9]);rw[e];simp[LR,Rz,c,jv,c9]
noncomputable def adH:bF N:= .cM 19 (Int×Int) (λx=>x.2<=1000000) (λx=>[D x.1,D x.2]) (λx=>D (me x.1 x.2)) λ_ h=>aJT h
@[simp] theorem aXy:adH.f=19:=rfl
@[simp] theorem aXz{x n:Int}(h:n<=1000000):adH.fn [D x,D n]=some (D (me x n)):=bF.dK (x:=(x,n)) h λ⟨j6,h2⟩ Z=>by simpa using Z
theorem auO{l:List hE}:(l.map e6).flatten.length=l.length*7:=by rw[xl (I:=7) λr ar=>by obtain⟨x,_,rfl⟩:=gx.1 ar;rfl,ll]
def iV(n:Nat)(gb nV iC:Int):hE:=⟨lS 110 n,gb,nV,iC,gi 0 1⟩
theorem aqR:oG 0 1:=by unfold oG;omega
theorem auL{cY jU:Nat}{ds:List hE}{jv ck c9 iq yv BL:Value}{t:G}(dy:t.F cY=some ⟨[jv,ck,c9,bN jU ds.length 7,iq,yv,BL],true⟩)(vW:t.F jU=some ⟨(ds.map e6).flatten,true⟩)(bx:jU≠cY)(aj:ds.length<1000){gb nV iC:Int}{bu:Value->G->Prop}
 (iF: ∀X M4,t.next<=M4->t.next<=X.next->X.F cY=some ⟨[jv,ck,c9,bN M4 (ds++[iV ds.length gb nV iC]).length 7,iq,yv,BL],true⟩->X.F M4=some ⟨((ds++[iV ds.length gb nV iC]).map e6).flatten,true⟩->(∀b,b<t.next->b≠cY->b≠jU->X.F b=t.F b)->bu (D ds.length) X):
 fg N 108 [.pointer (some ⟨cY,0,none⟩),D gb,D nV,D iC] t bu:=by
 refine c3 (ay:=⟨[oA,Bb],[]⟩) ay5 (by kernel_rfl) (by simp[X9]) ?_;have jo:=aF dy;have abi:=aF vW;have ma:oA.fn [.int .u8 110,D ds.length]=some (.string (lS 110 ds.length)):=T7 (C:=110) rfl ⟨by decide,by omega⟩;have aIx:=aqR;have dV:=auO (l:=ds);have Hj:cY≠jU:=bx.symm;have eQ:(ds.length+1)*96<=140737488355328/\ds.length<=9223372036854775806:=by omega
 simp(disch:=first|omega|simp only[bS];omega) [X9,ajr,dy,vW,ma,dV,eQ,eL];refine iF _ (t.next+13) (by omega) (by simp) ?_ ?_ ?_
 ·rw[cb (by simp;omega)];simp
 ·rw[aX (by omega),cb (by simp),hx (by omega)];simp[e6,iV]
 ·intro b hb A E;rw[aX A,aX (by omega),aX E,aX (by omega),G.cl]
def lY(ds:List hE)(k:Nat)(v:Int):Prop:= ∃q,ds[k]?=some q/\q.jR=v
theorem lY.app{ds:List hE}{k:Nat}{v:Int}{x:hE}(h:lY ds k v):lY (ds++[x]) k v:=by obtain⟨q,A,E⟩:=h;exact⟨q,by rw[Bs (cN.1 A).1];exact A,E⟩
theorem lY.cU{ds:List hE}{k:Nat}{v:Int}(h:lY ds k v):k<ds.length:=by obtain⟨q,A,_⟩:=h;exact(cN.1 A).1
structure ti(ds:List hE):Prop where
 rm:ds[0]?=some ⟨⟨#[]⟩,0,-1,0,gi 0 1⟩
 lq: ∀(i:Nat) (d:hE),0<i->ds[i]?=some d->d.name=lS 110 i/\0<=d.parent/\d.parent<i/\lY ds d.parent.toNat (d.jR-1)/\1<=d.jR/\d.jR<=4/\1<=d.iC/\d.iC<=64/\d.pB=gi 0 1
theorem ti.x2{ds:List hE}(h:ti ds):0<ds.length:=(cN.1 h.rm).1
theorem ti.add{ds:List hE}(h:ti ds){gb iC:Int}{p:Nat}(ae:lY ds p (gb-1))(A:1<=gb)(E:gb<=4)(ao:1<=iC)(aS:iC<=64):ti (ds++[iV ds.length gb p iC]) where
 rm:=by rw[Bs h.x2];exact h.rm
 lq i d Y B:=by
  by_cases c:i<ds.length
  ·rw[Bs c]at B;obtain⟨br,bQ,a3,a4,fz⟩:=h.lq i d Y B;exact⟨br,bQ,a3,a4.app,fz⟩
  ·have aA:=(cN.1 B).1;simp only[iD,m8,yj]at aA;have e:i=ds.length:=(by omega);subst e;rw[Br (c8 _)]at B;simp at B;subst B;have:=ae.cU;exact⟨rfl,by simp[iV],by simp[iV];omega,by simpa[iV]using ae.app,A,E,ao,aS,rfl⟩
theorem ze{ds:List hE}{gb iC:Int}{p:Int}:lY (ds++[iV ds.length gb p iC]) ds.length gb:=⟨iV ds.length gb p iC,by simp,rfl⟩
def ss(ds:List hE)(cH:List o5):Prop:= ∀(i:Nat) (x:o5),cH[i]?=some x->x.name=lS 100 i/\0<=x.model/\x.model<2/\ ∃m:Nat,x.y8=m/\lY ds m 4
theorem ss.app{ds:List hE}{cH:List o5}(h:ss ds cH){d:hE}:ss (ds++[d]) cH:= λi x B=>by obtain⟨a,b,c,m,e,f⟩:=h i x B;exact⟨a,b,c,m,e,f.app⟩
theorem ss.add{ds:List hE}{cH:List o5}(h:ss ds cH){m:Nat}(al:lY ds m 4){y:Int}(bX:0<=y)(A:y<2):ss ds (cH++[⟨lS 100 cH.length,y,m⟩]):= λi x B=>by
 by_cases c:i<cH.length
 ·rw[Bs c]at B;exact h i x B
 ·have aA:=(cN.1 B).1;simp only[iD,m8,yj]at aA;have e:i=cH.length:=(by omega);subst e;rw[Br (c8 _)]at B;simp at B;subst B;exact⟨rfl,bX,A,m,rfl,al⟩
def CX:List Value:=[D 0,.slice none 0 0,.slice none 0 0,.slice none 0 0,.slice none 0 0,.slice none 0 0,.slice none 0 0]
structure asB(l:List Int)(i:Nat)(J:Int)(gy gz jD hV:Value)(ds:List hE)(cH:List o5)(jU or:Nat)(t:G):Prop where
 aM:t.F 0=some ⟨[bq l,D i],true⟩
 aE:t.F 1=some ⟨CX,true⟩
 ft:t.F 6=some ⟨[D J,gy,gz,bN jU ds.length 7,bN or cH.length 3,jD,hV],true⟩
 vW:t.F jU=some ⟨(ds.map e6).flatten,true⟩
 eP:t.F or=some ⟨(cH.map fH).flatten,true⟩
 ed:jU≠0/\jU≠1/\jU≠6
 er:or≠0/\or≠1/\or≠6
 lA:jU≠or
def mo(l:List Int)(i:Nat)(J:Int)(gy gz jD hV:Value)(ds:List hE)(cH:List o5)(t:G):Prop:= ∃jU or,asB l i J gy gz jD hV ds cH jU or t
theorem auX{l:List o5}:(l.map fH).flatten.length=l.length*3:=by rw[xl (I:=3) λr ar=>by obtain⟨x,_,rfl⟩:=gx.1 ar;rfl,ll]
def NQ:List Nat:=[0,1,4,5,6,7,8,9,10,11]
theorem Ux{z K:aD}(bX:K 0=z 0)(A:K 1=z 1)(aS:K 4=z 4)(bI:K 5=z 5)(cZ:K 6=z 6)(eg:K 7=z 7)(hf:K 8=z 8)(jj:K 9=z 9)(Ek:K 10=z 10)(PQ:K 11=z 11): ∀k∈NQ,K k=z k:= λk O=>by simp only[NQ,hv,kQ,or_false]at O;rcases O with rfl|rfl|rfl|rfl|rfl|rfl|rfl|rfl|rfl|rfl<;>assumption
theorem auV{l:List Int}(aA:l.length<=140737488355328){J:Int}{gy gz jD hV:Value}{ds:List hE}{m:Nat}(al:lY ds m 4): ∀(k i:Nat) (cH:List o5),ss ds cH->cH.length<=9->i+k<1000000->
 ∃ k0 du,ss ds k0/\k0.length<=9/\min (cH.length+min k 1) 9<=k0.length/\du<=i+k/\ ∀(z:aD) (t:G) (Q:cO->aD->G->Prop),z 0=bC 0->z 5=bC 6->z 11=D m->z 12=D k->mo l i J gy gz jD hV ds cH t->
   (∀K X,(∀s∈NQ,K s=z s)->mo l du J gy gz jD hV ds k0 X->Q (.cF 2) K X)->ee N (.loop E6) z t Q:=by
 intro k;induction k with
 | zero=>intro i cH ar jj Y;refine⟨cH,i,ar,jj,by omega,by omega,λz t Q bG bD fr fM kU a6=> ?_⟩;refine eS (ay:=⟨[oA],[kL]⟩) λbO a1=> ?_;simp(disch:=first|omega|simp only[bS];omega) [E6,fM,-ab,-ah,-aa,-ad,-List.map_map];exact a6 _ _ (Ux (by simp) (by simp) (by simp) (by simp) (by simp) (by simp) (by simp) (by simp) (by simp) (by simp)) kU
 | succ k cj=>
   intro i cH ar jj Y;have bp:IntKind.i64.wrap (k:Int)=(k:Int):=db (by omega) (by omega);have bA:(0:Int)<(k:Int)+1:=(by omega);by_cases aON:cH.length<9
   case neg=>refine⟨cH,i,ar,jj,by omega,by omega,λz t Q bG bD fr fM kU a6=> ?_⟩;refine eS (ay:=⟨[oA],[kL]⟩) λbO a1=> ?_;obtain⟨jU,or,l9⟩:=kU;have ft:=l9.ft;have xS:=aF ft;have OZ: ¬(cH.length:Int)<9:=(by omega);simp(disch:=first|omega|simp only[bS];omega) [E6,bD,fM,bA,OZ,ft,-ab,-ah,-aa,-ad,-List.map_map];exact a6 _ _ (Ux (by simp) (by simp) (by simp) (by simp) (by simp) (by simp) (by simp) (by simp) (by simp) (by simp)) ⟨jU,or,l9⟩
   obtain⟨y,Z⟩: ∃y:Int,y=if fQ l i 4=0 then 1 else 0:=⟨_,rfl⟩
   have Lj:0<=y/\y<2:=(by rw[Z];split<;>omega);obtain⟨k0,du,br,bQ,a3,a4,fz⟩:=cj (i+1) (cH++[⟨lS 100 cH.length,y,m⟩]) (ar.add al Lj.1 Lj.2) (by simp;omega) (by omega);refine⟨k0,du,br,bQ,by simp only[iD,m8,yj]at a3;omega,by omega,λz t Q bG bD fr fM kU a6=> ?_⟩;obtain⟨jU,or,⟨aM,aE,ft,vW,eP,ed,er,lA⟩⟩:=kU;refine eS (ay:=⟨[oA],[kL]⟩) λbO a1=> ?_;have OZ:(cH.length:Int)<9:=(by omega);have dN:=aF aM;have hS:=aF aE;have xS:=aF ft;have abi:=aF vW;have jS:=aF eP;obtain⟨abI,n21,Tx⟩:=er;obtain⟨Is,abG,abH⟩:=ed;have aTx:0≠or:= λe=>abI e.symm;have aTy:6≠or:= λe=>Tx e.symm;have ka:i<1000000/\l.length<=140737488355328/\(4:Int)<=1000000:=⟨by omega,aA,by decide⟩;have ma:oA.fn [.int .u8 100,D cH.length]=some (.string (lS 100 cH.length)):=T7 (C:=100) rfl ⟨by decide,by omega⟩;have dV:=auX (l:=cH);have eQ:(cH.length+1)*32<=140737488355328/\cH.length<=9223372036854775806:=by omega
   have mW: ∀(bT:aD) (bd:G),(∀s∈NQ,bT s=z s)->bT 12=D k->bd.F 0=some ⟨[bq l,D (i+1:Nat)],true⟩->bd.F 1=t.F 1->bd.F 6=some ⟨[D J,gy,gz,bN jU ds.length 7,bN (t.next+10) (cH.length+1) 3,jD,hV],true⟩->bd.F jU=t.F jU->
    bd.F (t.next+10)=some ⟨(cH.map fH).flatten++[gL (lS 100 cH.length),D y,D m],true⟩->ee N (.loop E6) bT bd Q:= λbT bd H KA ho aG l5 rK rM=>by
    refine fz bT bd Q ((H 0 (by decide)).trans bG) ((H 5 (by decide)).trans bD) ((H 11 (by decide)).trans fr) KA ⟨jU,t.next+10,⟨ho,aG.trans aE,?_,rK.trans vW,?_,⟨Is,abG,abH⟩,⟨by omega,by omega,by omega⟩,by omega⟩⟩ λK X mD=>a6 K X λs ga=>(mD s ga).trans (H s ga)
    ·rw[l5];simp
    ·rw[rM];simp[fH]
   by_cases tr:fQ l i 4=0
   ·rw[if_pos tr]at Z;subst Z;simp(disch:=first|omega|simp only[bS];omega) [E6,bG,bD,fr,fM,bA,OZ,aM,ft,eP,ma,dV,eQ,tr,bp,-ab,-ah,-aa,-ad,-List.map_map];refine a1 _ _ (mW _ _ (Ux (by simp) (by simp) (by simp) (by simp) (by simp) (by simp) (by simp) (by simp) (by simp) (by simp)) (by simp[]) ?_ ?_ ?_ ?_ ?_)
    ·simp(disch:=first|omega|simp only[bS];omega) [-ab,-ah,-aa,-ad,-List.map_map]
    ·simp(disch:=first|omega|simp only[bS];omega) [-ab,-ah,-aa,-ad,-List.map_map]
    ·simp(disch:=first|omega|simp only[bS];omega) [-ab,-ah,-aa,-ad,-List.map_map]
    ·simp(disch:=first|omega|simp only[bS];omega) [-ab,-ah,-aa,-ad,-List.map_map]
    ·simp(disch:=first|omega|simp only[bS];omega) [-ab,-ah,-aa,-ad,-List.map_map];exact hx (by omega)
   ·rw[if_neg tr]at Z;subst Z;simp(disch:=first|omega|simp only[bS];omega) [E6,bG,bD,fr,fM,bA,OZ,aM,ft,eP,ma,dV,eQ,tr,bp,-ab,-ah,-aa,-ad,-List.map_map];refine a1 _ _ (mW _ _ (Ux (by simp) (by simp) (by simp) (by simp) (by simp) (by simp) (by simp) (by simp) (by simp) (by simp)) (by simp[]) ?_ ?_ ?_ ?_ ?_)
    ·simp(disch:=first|omega|simp only[bS];omega) [-ab,-ah,-aa,-ad,-List.map_map]
    ·simp(disch:=first|omega|simp only[bS];omega) [-ab,-ah,-aa,-ad,-List.map_map]
    ·simp(disch:=first|omega|simp only[bS];omega) [-ab,-ah,-aa,-ad,-List.map_map]
    ·simp(disch:=first|omega|simp only[bS];omega) [-ab,-ah,-aa,-ad,-List.map_map]
    ·simp(disch:=first|omega|simp only[bS];omega) [-ab,-ah,-aa,-ad,-List.map_map];exact hx (by omega)
theorem nn{o:Nat}{n I:Int}{t:G}{l:List Int}(h:0<=I/\I<1000000/\l.length<=140737488355328/\n<=1000000):It o n t (some ⟨[ai (l.map λx=>[D x]) 1,.int .i64 I],true⟩)=some (D (fQ l I.toNat n),t.aK o (some ⟨[bq l,D (I+1)],true⟩)):=by obtain⟨i,rfl⟩:=j0 h.1;rw[nB];exact aEv (i:=i) ⟨by omega,h.2.2⟩
section
variable {l:List Int} {i:Nat} {J:Int} {gy gz jD hV:Value} {ds:List hE} {cH:List o5} {t:G}
theorem mo.at(h:mo l i J gy gz jD hV ds cH t){I:Int}{du:Nat}(bE:I=du):mo l du J gy gz jD hV ds cH (t.aK 0 (some ⟨[bq l,D I],true⟩)):=by subst bE;obtain⟨jU,or,⟨aM,aE,ft,vW,eP,ed,er,lA⟩⟩:=h;exact⟨jU,or,cb (aF aM),by rw[aX (by decide)];exact aE,by rw[aX (by decide)];exact ft,by rw[aX ed.1];exact vW,by rw[aX er.1];exact eP,ed,er,lA⟩
theorem BS(h:mo l i J gy gz jD hV ds cH t)(aj:ds.length<1000){gb nV iC:Int}{bu:Value->G->Prop}(iF: ∀X,mo l i J gy gz jD hV (ds++[iV ds.length gb nV iC]) cH X->bu (D ds.length) X):fg N 108 [bC 6,D gb,D nV,D iC] t bu:=by
 obtain⟨jU,or,⟨aM,aE,ft,vW,eP,ed,er,lA⟩⟩:=h;refine auL ft vW ed.2.2 aj λX M4 aC B l5 rK Ae=>iF X ⟨M4,or,?_,?_,l5,rK,?_,?_,er,?_⟩
 ·rw[Ae 0 (aF aM) (by decide) (λe=>ed.1 e.symm)];exact aM
 ·rw[Ae 1 (aF aE) (by decide) (λe=>ed.2.1 e.symm)];exact aE
 ·rw[Ae or (aF eP) er.2.2 (λe=>lA e.symm)];exact eP
 ·have:=aF ft;exact⟨by omega,by omega,by omega⟩
 ·have:=aF eP;omega
end
def ad1:List Nat:=[0,1,4,5,6,7,8,9,10]
theorem aIu: ∀k∈ad1,k∈NQ:=by decide
theorem Tp{l:List Int}(aA:l.length<=140737488355328){J:Int}{gy gz jD hV:Value}{ds:List hE}{cH:List o5}{i vo:Nat}(aW:ti ds)(ar:ss ds cH)(jj:cH.length<=9)(Y:i+10<1000000)(O:lY ds vo 3)(aj:ds.length<900):
 ∃ gB k0 du,ti gB/\ss gB k0/\(k0.length<=9/\1<=k0.length)/\gB.length=ds.length+1/\du<=i+4/\(∀a v,lY ds a v->lY gB a v)/\ ∀(z:aD) (t:G) (Q:cO->aD->G->Prop),z 0=bC 0->z 5=bC 6->z 9=D vo->mo l i J gy gz jD hV ds cH t->
   (∀K X,(∀s∈ad1,K s=z s)->mo l du J gy gz jD hV gB k0 X->Q .eR K X)->iK (P:=N) ⟨[oA],[kL]⟩ Zt z t Q:=by
 have eK:=mJ (l:=l) (i:=i) (n:=9) (by decide);have gp:=mJ (l:=l) (i:=i+1) (n:=2) (by decide);obtain⟨bf,ba⟩: ∃bf,bf=8+fQ l i 9:=⟨_,rfl⟩;obtain⟨k,Av⟩:=j0 (show 0<=1+fQ l (i+1) 2 by omega);have axb:=aW.add (gb:=4) (iC:=bf) (p:=vo) O (by decide) (by decide) (by omega) (by omega);obtain⟨k0,du,br,bQ,a3,a4,fz⟩:=auV (l:=l) aA (J:=J) (gy:=gy) (gz:=gz) (jD:=jD) (hV:=hV) (ds:=ds++[iV ds.length 4 vo bf]) (m:=ds.length) ze k (i+2) cH ar.app jj (by omega);refine⟨_,k0,du,axb,br,⟨bQ,by omega⟩,by simp,by omega,λa v h=>h.app,λz t Q bG bD cz kU a6=> ?_⟩;obtain⟨jU,or,al⟩:=kU;have aM:=al.aM;have dN:=aF aM;have aJI:IntKind.i64.wrap (8+fQ l i 9)=8+fQ l i 9:=db (by omega) (by omega);simp(disch:=first|omega|simp only[bS];omega) [Zt,bG,bD,cz,aM,nn,aJI,-ab,-ah,-aa,-ad,-List.map_map];rw[<-ba];refine BS (mo.at ⟨jU,or,al⟩ (du:=i+1) (by omega)) (by omega) λbd A=> ?_;obtain⟨M5,Nd,l9⟩:=A;obtain⟨kK,q0⟩: ∃kK,kK=i+1:=⟨_,rfl⟩;have aE:=l9.aM;rw[<-q0]at aE l9 Av gp;have hS:=aF aE;have cr:IntKind.i64.wrap (1+fQ l kK 2)=(k:Int):=by rw[Av];exact db (by omega) (by omega)
 simp(disch:=first|omega|simp only[bS];omega) [bG,aE,nn,cr,-ab,-ah,-aa,-ad,-List.map_map];refine fz _ _ _ (by simp[bG]) (by simp[bD]) (by simp) (by simp) (mo.at ⟨M5,Nd,l9⟩ (du:=i+2) (by omega)) λK X H q2=> ?_;simp;exact a6 _ _ (λs ga=>(H s (aIu s ga)).trans (by simp only[ad1,hv,kQ,or_false]at ga;rcases ga with rfl|rfl|rfl|rfl|rfl|rfl|rfl|rfl|rfl<;>simp)) q2
theorem ayv:IntKind.i64.wrap 1=1:=db (by decide) (by decide)
def Be:List Nat:=[0,1,4,5,6]
theorem aDT{l:List Int}(aA:l.length<=140737488355328){J:Int}{gy gz jD hV:Value}{ds:List hE}{cH:List o5}{i j cR vo:Nat}(aW:ti ds)(ar:ss ds cH)(jj:cH.length<=9)(aV:j<1000)(Y:i+30<1000000)(aj:ds.length<800)(O:j=0\/(lY ds cR 2/\lY ds vo 3)):
 ∃ (gB:List hE) (k0:List o5) (du aqd apV:Nat),ti gB/\ss gB k0/\(k0.length<=9/\1<=k0.length)/\gB.length<=ds.length+4/\du<=i+9/\lY gB aqd 2/\lY gB apV 3/\ ∀(z:aD) (t:G) (Q:cO->aD->G->Prop),z 0=bC 0->z 5=bC 6->z 8=D cR->z 9=D vo->z 10=D j->mo l i J gy gz jD hV ds cH t->
   (∀K X,(∀s∈Be,K s=z s)->K 8=D aqd->K 9=D apV->K 10=D (j+1:Nat)->mo l du J gy gz jD hV gB k0 X->Q .eR K X)->iK (P:=N) ⟨[oA],[kL]⟩ H9 z t Q:=by
 have bp:=fB (n:=j) (by omega);by_cases GU:j=0
 ·subst GU;have GU:(0:Int)=0:=rfl;have j:Nat:=0;have br:=mJ (l:=l) (i:=i) (n:=17) (by decide);have bQ:=mJ (l:=l) (i:=i+1) (n:=17) (by decide);have a3:=mJ (l:=l) (i:=i+2) (n:=9) (by decide);obtain⟨lV,A⟩: ∃bf,bf=16+fQ l i 17:=⟨_,rfl⟩;obtain⟨m5,E⟩: ∃bf,bf=16+fQ l (i+1) 17:=⟨_,rfl⟩;obtain⟨ny,ao⟩: ∃bf,bf=8+fQ l (i+2) 9:=⟨_,rfl⟩;have rm:lY ds 0 (1-1):=⟨_,aW.rm,rfl⟩;have gI:=aW.add (gb:=1) (iC:=lV) (p:=0) rm (by decide) (by decide) (by omega) (by omega);have hz:=gI.add (gb:=2) (iC:=m5) (p:=ds.length) ze (by decide) (by decide) (by omega) (by omega);have iT:=hz.add (gb:=3) (iC:=ny) (p:=(ds++[iV ds.length 1 (0:Nat) lV]).length) ze (by decide) (by decide) (by omega) (by omega);have aG:(ds++[iV ds.length 1 ((0:Nat):Int) lV]).length=ds.length+1:=(by simp);have aN:(ds++[iV ds.length 1 ((0:Nat):Int) lV]++[iV (ds.length+1) 2 (ds.length:Int) m5]).length=ds.length+2:=(by simp);rw[aG]at hz iT;rw[aN]at iT;have cC:lY (ds++[iV ds.length 1 ((0:Nat):Int) lV]++[iV (ds.length+1) 2 (ds.length:Int) m5]) (ds.length+1) 2:=by
   have:=ze (ds:=ds++[iV ds.length 1 ((0:Nat):Int) lV]) (gb:=2) (iC:=m5) (p:=ds.length);rw[aG]at this;exact this
  have dO:lY (ds++[iV ds.length 1 ((0:Nat):Int) lV]++[iV (ds.length+1) 2 (ds.length:Int) m5]++[iV (ds.length+2) 3 ((ds.length+1:Nat):Int) ny]) (ds.length+2) 3:=(by have:=ze (ds:=ds++[iV ds.length 1 ((0:Nat):Int) lV]++[iV (ds.length+1) 2 (ds.length:Int) m5]) (gb:=3) (iC:=ny) (p:=(ds.length+1:Nat));rw[aN]at this;exact this);obtain⟨gB,k0,du,eH,eN,ha,hn,nE,mT,vP⟩:=Tp (l:=l) aA (J:=J) (gy:=gy) (gz:=gz) (jD:=jD) (hV:=hV) (i:=i+3) iT ar.app.app.app jj (by omega) dO (by simp;omega);refine⟨gB,k0,du,ds.length+1,ds.length+2,eH,eN,ha,by simp at hn;omega,by omega,mT _ _ (cC.app),mT _ _ dO,λz t Q bG bD bm cz ey kU a6=> ?_⟩;obtain⟨jU,or,al⟩:=kU;have aM:=al.aM;have dN:=aF aM;have cr:IntKind.i64.wrap (16+fQ l i 17)=lV:=(by rw[A];exact db (by omega) (by omega));simp(disch:=omega) [H9,bG,bD,ey,aM,nn,cr];refine BS (mo.at ⟨jU,or,al⟩ (du:=i+1) (by omega)) (by omega) λbd jw=> ?_;obtain⟨M5,Nd,l9⟩:=jw;obtain⟨kK,q0⟩: ∃kK,kK=i+1:=⟨_,rfl⟩;have aE:=l9.aM;have hS:=aF aE;rw[<-q0]at aE l9 E bQ;have ea:IntKind.i64.wrap (16+fQ l kK 17)=m5:=(by rw[E];exact db (by omega) (by omega));simp(disch:=omega) [Me,bG,bD,aE,nn,ea];refine BS (ds:=ds++[iV ds.length 1 ((0:Nat):Int) lV]) (mo.at ⟨M5,Nd,l9⟩ (du:=i+2) (by omega)) (by omega) λdR Ak=> ?_;obtain⟨ab0,AW,rS⟩:=Ak;obtain⟨nT,lu⟩: ∃nT,nT=i+2:=⟨_,rfl⟩;have a5:=rS.aM;have jn:=aF a5;rw[<-lu]at a5 rS ao a3;rw[aG]at rS⊢;have ko:IntKind.i64.wrap (8+fQ l nT 9)=ny:=(by rw[ao];exact db (by omega) (by omega));simp(disch:=omega) [bG,bD,a5,nn,ko];refine BS (ds:=ds++[iV ds.length 1 ((0:Nat):Int) lV]++[iV (ds.length+1) 2 (ds.length:Int) m5]) (mo.at ⟨ab0,AW,rS⟩ (du:=i+3) (by omega)) (by omega) λt3 uT=> ?_;rw[aN]at uT⊢;simp;refine vP _ _ _ (by simp[bG]) (by simp[bD]) (by simp) uT λK X H q2=> ?_;have EG:=(H 10 (by decide)).trans (show _=D (0:Nat) by simp[ey]);simp[EG];exact a6 _ _ (λs ga=>by
   simp only[Be,hv,kQ,or_false]at ga;rcases ga with rfl|rfl|rfl|rfl|rfl
   ·simpa using H 0 (by decide)
   ·simpa using H 1 (by decide)
   ·simpa using H 4 (by decide)
   ·simpa using H 5 (by decide)
   ·simpa using H 6 (by decide)) (by simpa using H 8 (by decide)) (by simpa using H 9 (by decide)) (by simp[ayv]) q2
 obtain⟨cC,dO⟩:=O.resolve_left GU;by_cases tr:fQ l i 4=0
 ·skip
  have br:=mJ (l:=l) (i:=(i+1)) (n:=17) (by decide);have bQ:=mJ (l:=l) (i:=(i+1)+1) (n:=17) (by decide);have a3:=mJ (l:=l) (i:=(i+1)+2) (n:=9) (by decide);obtain⟨lV,A⟩: ∃bf,bf=16+fQ l (i+1) 17:=⟨_,rfl⟩;obtain⟨m5,E⟩: ∃bf,bf=16+fQ l ((i+1)+1) 17:=⟨_,rfl⟩;obtain⟨ny,ao⟩: ∃bf,bf=8+fQ l ((i+1)+2) 9:=⟨_,rfl⟩;have rm:lY ds 0 (1-1):=⟨_,aW.rm,rfl⟩;have gI:=aW.add (gb:=1) (iC:=lV) (p:=0) rm (by decide) (by decide) (by omega) (by omega);have hz:=gI.add (gb:=2) (iC:=m5) (p:=ds.length) ze (by decide) (by decide) (by omega) (by omega);have iT:=hz.add (gb:=3) (iC:=ny) (p:=(ds++[iV ds.length 1 (0:Nat) lV]).length) ze (by decide) (by decide) (by omega) (by omega);have aG:(ds++[iV ds.length 1 ((0:Nat):Int) lV]).length=ds.length+1:=(by simp);have aN:(ds++[iV ds.length 1 ((0:Nat):Int) lV]++[iV (ds.length+1) 2 (ds.length:Int) m5]).length=ds.length+2:=(by simp);rw[aG]at hz iT;rw[aN]at iT;have cC:lY (ds++[iV ds.length 1 ((0:Nat):Int) lV]++[iV (ds.length+1) 2 (ds.length:Int) m5]) (ds.length+1) 2:=(by have:=ze (ds:=ds++[iV ds.length 1 ((0:Nat):Int) lV]) (gb:=2) (iC:=m5) (p:=ds.length);rw[aG]at this;exact this);have dO:lY (ds++[iV ds.length 1 ((0:Nat):Int) lV]++[iV (ds.length+1) 2 (ds.length:Int) m5]++[iV (ds.length+2) 3 ((ds.length+1:Nat):Int) ny]) (ds.length+2) 3:=(by have:=ze (ds:=ds++[iV ds.length 1 ((0:Nat):Int) lV]++[iV (ds.length+1) 2 (ds.length:Int) m5]) (gb:=3) (iC:=ny) (p:=(ds.length+1:Nat));rw[aN]at this;exact this);obtain⟨gB,k0,du,eH,eN,ha,hn,nE,mT,vP⟩:=Tp (l:=l) aA (J:=J) (gy:=gy) (gz:=gz) (jD:=jD) (hV:=hV) (i:=(i+1)+3) iT ar.app.app.app jj (by omega) dO (by simp;omega);refine⟨gB,k0,du,ds.length+1,ds.length+2,eH,eN,ha,by simp at hn;omega,by omega,mT _ _ (cC.app),mT _ _ dO,λz t Q bG bD bm cz ey kU a6=> ?_⟩;obtain⟨jU,or,al⟩:=kU;have aM:=al.aM;have dN:=aF aM;have cr:IntKind.i64.wrap (16+fQ l (i+1) 17)=lV:=(by rw[A];exact db (by omega) (by omega));simp(disch:=omega) [H9,bG,bD,ey,aM,nn,GU,tr,cr];refine BS (mo.at ⟨jU,or,al⟩ (du:=(i+1)+1) (by omega)) (by omega) λbd jw=> ?_;obtain⟨M5,Nd,l9⟩:=jw;obtain⟨kK,q0⟩: ∃kK,kK=(i+1)+1:=⟨_,rfl⟩;have aE:=l9.aM;have hS:=aF aE;rw[<-q0]at aE l9 E bQ;have ea:IntKind.i64.wrap (16+fQ l kK 17)=m5:=(by rw[E];exact db (by omega) (by omega));simp(disch:=omega) [Me,bG,bD,aE,nn,ea];refine BS (ds:=ds++[iV ds.length 1 ((0:Nat):Int) lV]) (mo.at ⟨M5,Nd,l9⟩ (du:=(i+1)+2) (by omega)) (by omega) λdR Ak=> ?_;obtain⟨ab0,AW,rS⟩:=Ak;obtain⟨nT,lu⟩: ∃nT,nT=(i+1)+2:=⟨_,rfl⟩;have a5:=rS.aM;have jn:=aF a5;rw[<-lu]at a5 rS ao a3;rw[aG]at rS⊢;have ko:IntKind.i64.wrap (8+fQ l nT 9)=ny:=(by rw[ao];exact db (by omega) (by omega));simp(disch:=omega) [bG,bD,a5,nn,ko];refine BS (ds:=ds++[iV ds.length 1 ((0:Nat):Int) lV]++[iV (ds.length+1) 2 (ds.length:Int) m5]) (mo.at ⟨ab0,AW,rS⟩ (du:=(i+1)+3) (by omega)) (by omega) λt3 uT=> ?_;rw[aN]at uT⊢;simp;refine vP _ _ _ (by simp[bG]) (by simp[bD]) (by simp) uT λK X H q2=> ?_;have EG:=(H 10 (by decide)).trans (show _=D j by simp[ey]);simp[EG,bp];exact a6 _ _ (λs ga=>by
   simp only[Be,hv,kQ,or_false]at ga;rcases ga with rfl|rfl|rfl|rfl|rfl
   ·simpa using H 0 (by decide)
   ·simpa using H 1 (by decide)
   ·simpa using H 4 (by decide)
   ·simpa using H 5 (by decide)
   ·simpa using H 6 (by decide)) (by simpa using H 8 (by decide)) (by simpa using H 9 (by decide)) (by simp[]) q2
 by_cases Ab:fQ l (i+1) 2=0
 ·skip
  have a3:=mJ (l:=l) (i:=i+2) (n:=9) (by decide);obtain⟨ny,ao⟩: ∃bf,bf=8+fQ l (i+2) 9:=⟨_,rfl⟩;have iT:=aW.add (gb:=3) (iC:=ny) (p:=cR) cC (by decide) (by decide) (by omega) (by omega);have anX:lY (ds++[iV ds.length 3 (cR:Int) ny]) ds.length 3:=ze;obtain⟨gB,k0,du,eH,eN,ha,hn,nE,mT,vP⟩:=Tp (l:=l) aA (J:=J) (gy:=gy) (gz:=gz) (jD:=jD) (hV:=hV) (i:=i+3) iT ar.app jj (by omega) anX (by simp;omega);refine⟨gB,k0,du,cR,ds.length,eH,eN,ha,by simp at hn;omega,by omega,mT _ _ cC.app,mT _ _ anX,λz t Q bG bD bm cz ey kU a6=> ?_⟩;obtain⟨jU,or,al⟩:=kU;have aM:=al.aM;have dN:=aF aM;have ko:IntKind.i64.wrap (8+fQ l (i+2) 9)=ny:=(by rw[ao];exact db (by omega) (by omega));have UL:((i:Int)+1+1).toNat=i+2:=(by omega);have a0b:IntKind.i64.wrap (8+fQ l (i+1+1) 9)=ny:=ko;simp(disch:=omega) [H9,Me,bG,bD,bm,ey,aM,nn,GU,tr,Ab,ko,UL];refine BS (mo.at ⟨jU,or,al⟩ (du:=i+3) (by omega)) (by omega) λbd jw=> ?_;simp;refine vP _ _ _ (by simp[bG]) (by simp[bD]) (by simp) jw λK X H q2=> ?_;have EG:=(H 10 (by decide)).trans (show _=D j by simp[ey]);simp(disch:=omega) [EG,bp];exact a6 _ _ (λs ga=>by
   simp only[Be,hv,kQ,or_false]at ga;rcases ga with rfl|rfl|rfl|rfl|rfl
   ·simpa using H 0 (by decide)
   ·simpa using H 1 (by decide)
   ·simpa using H 4 (by decide)
   ·simpa using H 5 (by decide)
   ·simpa using H 6 (by decide)) (by simpa[bm]using H 8 (by decide)) (by simpa[cz]using H 9 (by decide)) (by simp[]) q2
 ·skip
  obtain⟨gB,k0,du,eH,eN,ha,hn,nE,mT,vP⟩:=Tp (l:=l) aA (J:=J) (gy:=gy) (gz:=gz) (jD:=jD) (hV:=hV) (i:=i+2) aW ar jj (by omega) dO (by omega);refine⟨gB,k0,du,cR,vo,eH,eN,ha,by omega,by omega,mT _ _ cC,mT _ _ dO,λz t Q bG bD bm cz ey kU a6=> ?_⟩;obtain⟨jU,or,al⟩:=kU;have aM:=al.aM;have dN:=aF aM;simp(disch:=first|omega|simp only[bS];omega) [H9,Me,bG,ey,aM,nn,GU,tr,Ab,-ab,-ah,-aa,-ad,-List.map_map];refine vP _ _ _ (by simp[bG]) (by simp[bD]) (by simp[cz]) (mo.at ⟨jU,or,al⟩ (du:=i+2) (by omega)) λK X H q2=> ?_;have EG:=(H 10 (by decide)).trans (show _=D j by simp[ey]);simp[EG,bp];exact a6 _ _ (λs ga=>by
   simp only[Be,hv,kQ,or_false]at ga;rcases ga with rfl|rfl|rfl|rfl|rfl
   ·simpa using H 0 (by decide)
   ·simpa using H 1 (by decide)
   ·simpa using H 4 (by decide)
   ·simpa using H 5 (by decide)
   ·simpa using H 6 (by decide)) (by simpa[bm]using H 8 (by decide)) (by simpa[cz]using H 9 (by decide)) (by simp[]) q2
theorem aDU{l:List Int}(aA:l.length<=140737488355328){J:Int}{gy gz jD hV:Value}{W:Nat}(dq:W<=100): ∀(r j i:Nat) (ds:List hE) (cH:List o5) (cR vo:Nat),j+r=W->ti ds->ss ds cH->cH.length<=9->ds.length<=1+4*j->i+10*r+100<1000000->(j=0\/(lY ds cR 2/\lY ds vo 3))->
 ∃ (gB:List hE) (k0:List o5) (du:Nat),ti gB/\ss gB k0/\(k0.length<=9/\(1<=r+cH.length->1<=k0.length))/\gB.length<=1+4*W/\du<=i+10*r/\ ∀(z:aD) (t:G) (Q:cO->aD->G->Prop),z 0=bC 0->z 5=bC 6->z 6=D W->z 8=D cR->z 9=D vo->z 10=D j->mo l i J gy gz jD hV ds cH t->
   (∀K X,(∀s∈Be,K s=z s)->mo l du J gy gz jD hV gB k0 X->Q (.cF 0) K X)->ee N (.loop Sh) z t Q:=by
 intro r;induction r with
 | zero=>intro j i ds cH cR vo aV aW ar jj aj Y O;refine⟨ds,cH,i,aW,ar,⟨jj,by omega⟩,by omega,by omega,λz t Q bG bD bo bm cz ey kU a6=> ?_⟩;refine eS (ay:=⟨[oA],[kL]⟩) λbO a1=> ?_;have c: ¬(j:Int)<W:=(by omega);have ck: ¬j<W:=(by omega);simp[Sh,bo,ey,c];exact a6 _ _ (λs H=>by simp only[Be,hv,kQ,or_false]at H;rcases H with rfl|rfl|rfl|rfl|rfl<;>simp) kU
 | succ r cj=>intro j i ds cH cR vo aV aW ar jj aj Y O;obtain⟨BX,aGO,kK,aGx,aFR,br,bQ,a3,a4,fz,jh,l0,oI⟩:=aDT (l:=l) aA (J:=J) (gy:=gy) (gz:=gz) (jD:=jD) (hV:=hV) (i:=i) (j:=j) aW ar jj (by omega) (by omega) (by omega) O;obtain⟨agU,aGP,nT,eH,eN,ha,hn,nE,mT⟩:=cj (j+1) kK BX aGO aGx aFR (by omega) br bQ a3.1 (by omega) (by omega) (.inr ⟨jh,l0⟩);refine⟨agU,aGP,nT,eH,eN,⟨ha.1,λ_=>ha.2 (by have:=a3.2;omega)⟩,hn,by omega,λz t Q bG bD bo bm cz ey kU a6=> ?_⟩;refine eS (ay:=⟨[oA],[kL]⟩) λbO a1=> ?_;have c:(j:Int)<W:=(by omega);have ck:j<W:=(by omega);simp[Sh,bo,ey,c];refine oI _ _ _ (by simp[bG]) (by simp[bD]) (by simp[bm]) (by simp[cz]) (by simp[ey]) kU λK X H hf awy Ek al=> ?_;have e: ∀s∈Be,K s=z s:= λs ga=>(H s ga).trans (by simp only[Be,hv,kQ,or_false]at ga;rcases ga with rfl|rfl|rfl|rfl|rfl<;>simp);simp;exact a1 _ _ (mT K X Q ((e 0 (by decide)).trans bG) ((e 5 (by decide)).trans bD) ((e 6 (by decide)).trans bo) hf awy Ek al λk5 Gf EF=>a6 k5 Gf λs ga=>(EF s ga).trans (e s ga))
theorem aIy:oG 1 2:=by unfold oG;omega
theorem aFZ{n:Nat}:(((List.replicate n (gi 1 2)).map eL).flatten).length=n*3:=by rw[aFY,Jo]
def NS:List Nat:=[0,1,4,5,14,15,16,17]
theorem aIt{z K:aD}(bX:K 0=z 0)(A:K 1=z 1)(aS:K 4=z 4)(bI:K 5=z 5)(B5:K 14=z 14)(Wn:K 15=z 15)(Wo:K 16=z 16)(Wp:K 17=z 17): ∀k∈NS,K k=z k:= λk O=>by simp only[NS,hv,kQ,or_false]at O;rcases O with rfl|rfl|rfl|rfl|rfl|rfl|rfl|rfl<;>assumption
theorem aGd{P rZ:Nat}{aR:List Nat}{a0 br bQ a3 a4 fz jh l0 oI pM eH eN ha hn nE:Value}{ik:List Int}{m:Int}{R:Nat}(c1:(R:Int)=if m<1 then 1 else m)(yI:R<=100)(ahP: ∀b∈aR,b≠P/\b≠rZ)(PW:rZ≠P){Q:cO->aD->G->Prop}:
 ∀ (r n:Nat) (x1:Nat) (z:aD) (t:G),n+r=R->z 16=D m->z 17=bC P->z 18=D n->t.F P=some ⟨[a0,br,bQ,a3,a4,fz,jh,l0,oI,bN rZ ik.length 1,bN x1 n 3,pM,eH,eN,ha,hn,nE],true⟩->t.F rZ=some ⟨ik.map D,true⟩->t.F x1=some ⟨((List.replicate n (gi 1 2)).map eL).flatten,true⟩->
   x1≠P->x1≠rZ->(∀b∈aR,b≠x1/\b<t.next)->
   (∀K X,(∀s∈NS,K s=z s)->t.next<=X.next->(∀b∈aR,X.F b=t.F b)->X.F P=some ⟨[a0,br,bQ,a3,a4,fz,jh,l0,oI,bq ik,iU (List.replicate R (gi 1 2)),pM,eH,eN,ha,hn,nE],true⟩->Q (.cF 6) K X)->ee N (.loop Mf) z t Q:=by
 intro r;induction r with
 | zero=>
   intro n x1 z t aj vu wG k1 B4 bw eP pe oR dH a6;have la:n=R:=(by omega);subst la;have Th:=aF B4;have bh:=aF bw;have jS:=aF eP;refine vH (o:=rZ) (p:=P) (j:=9) (I:=1) (bJ:=ik.map λx=>[D x]) (by rw[mc];exact bw) u7 B4 (by simp) PW ?_;refine vH (o:=x1) (p:=P) (j:=10) (I:=3) (bJ:=(List.replicate n (gi 1 2)).map eL) (cells:=[a0,br,bQ,a3,a4,fz,jh,l0,oI,bq ik,bN x1 n 3,pM,eH,eN,ha,hn,nE]) ?_ apW ?_ (by simp) pe ?_
   ·rw[aX pe,aX oR];exact eP
   ·rw[cb (by simpa using Th)];simp
   refine eS (ay:=⟨[oA,Bb],[kL]⟩) λbO a1=> ?_;have c: ¬((n:Int)<if m<1 then 1 else m):=(by omega);simp(disch:=omega) [Mf,Zv,vu,k1,c];refine a6 _ _ (aIt (by simp) (by simp) (by simp) (by simp) (by simp) (by simp) (by simp) (by simp)) (by simp) (λb hb=> ?_) ?_
   ·obtain⟨a9,bW⟩:=ahP b hb;obtain⟨cA,fV⟩:=dH b hb;rw[aX a9,aX cA,aX a9,aX bW]
   ·rw[cb (by simpa using Th)];simp
 | succ r cj=>
   intro n x1 z t aj vu wG k1 B4 bw eP pe oR dH a6;refine eS (ay:=⟨[oA,Bb],[kL]⟩) λbO a1=> ?_;have Th:=aF B4;have bh:=aF bw;have jS:=aF eP;have c:(n:Int)<if m<1 then 1 else m:=by omega
   have aIx:=aIy;have bp:=fB (n:=n) (by omega);have dV:=aFZ (n:=n);have aQq:(List.replicate n [Value.bool (gi 1 2).kx,b6 (gi 1 2).a,b6 (gi 1 2).b]).flatten.length=n*3:=(by simpa[eL]using dV);have eQ:(n+1)*56<=140737488355328/\n<=9223372036854775806:=(by omega);have aQO:P≠x1:= λe=>pe e.symm;have axR:rZ≠x1:= λe=>oR e.symm;simp(disch:=first|omega|simp only[bS];omega) [Mf,Zv,vu,wG,k1,c,B4,eP,eL,eQ,bp,-ab,-ah,-aa,-ad,-List.map_map];refine a1 _ _ (cj (n+1) (t.next+4) _ _ (by omega) (by simp[vu]) (by simp[wG]) (by simp) ?_ ?_ ?_ (by omega) (by omega) (λb hb=> ?_) λK X H B awE awL=>a6 K X (λs ga=>(H s ga).trans ?_) (by simp at B;omega) (λb hb=>(awE b hb).trans ?_) awL)
   ·rw[cb (by simp;omega)]
   ·rw[aX (by omega),aX (by omega),aX axR,aX (by omega),cl bh];exact bw
   ·rw[aX (by omega),cb (by simp),hx (by omega),List.replicate_succ'];simp[eL]
   ·have:=(dH b hb).2;exact⟨by omega,by simp;omega⟩
   ·simp only[NS,hv,kQ,or_false]at ga;rcases ga with rfl|rfl|rfl|rfl|rfl|rfl|rfl|rfl<;>simp
   ·obtain⟨a9,bW⟩:=ahP b hb;obtain⟨cA,fV⟩:=dH b hb;rw[aX a9,aX (by omega),aX cA,aX (by omega),G.cl]
theorem ap6{P rZ:Nat}{aR:List Nat}{a0 br bQ a3 a4 fz jh l0 oI pM eH eN ha hn nE:Value}{ik:List Int}{m:Int}{R:Nat}(c1:(R:Int)=if m<1 then 1 else m)(yI:R<=100){z:aD}{t:G}{Q:cO->aD->G->Prop}(vu:z 16=D m)(wG:z 17=bC P)(k1:z 18=D 0)
 (B4:t.F P=some ⟨[a0,br,bQ,a3,a4,fz,jh,l0,oI,bN rZ ik.length 1,.slice none 0 0,pM,eH,eN,ha,hn,nE],true⟩) (bw:t.F rZ=some ⟨ik.map D,true⟩) (PW:rZ≠P) (dH: ∀b∈aR,b≠P/\b≠rZ/\b<t.next)
 (a6: ∀K X,(∀s∈NS,K s=z s)->t.next<=X.next->(∀b∈aR,X.F b=t.F b)->X.F P=some ⟨[a0,br,bQ,a3,a4,fz,jh,l0,oI,bq ik,iU (List.replicate R (gi 1 2)),pM,eH,eN,ha,hn,nE],true⟩->Q (.cF 6) K X):ee N (.loop Mf) z t Q:=by
 have Th:=aF B4;have bh:=aF bw;refine zG (o:=P) (j:=10) (I:=3) B4 rfl ?_;refine aGd (P:=P) (rZ:=rZ) (aR:=aR) (a0:=a0) (br:=br) (bQ:=bQ) (a3:=a3) (a4:=a4) (fz:=fz) (jh:=jh) (l0:=l0) (oI:=oI) (pM:=pM) (eH:=eH) (eN:=eN) (ha:=ha) (hn:=hn) (nE:=nE) (ik:=ik) c1 yI (λb hb=>⟨(dH b hb).1,(dH b hb).2.1⟩) PW R 0 t.next _ _ (by omega) vu wG (by simpa using k1) ?_ ?_ ?_ (by omega) (by omega) (λb hb=> ?_) λK X H B O ae=>a6 K X H (by simp at B;omega) (λb hb=>(O b hb).trans ?_) ae
 ·rw[cb (by simp;omega)];rfl
 ·rw[aX PW,aX (by omega),cl bh];exact bw
 ·rw[aX (by omega),cb (by simp)];simp
 ·have:=(dH b hb).2.2;exact⟨by omega,by simp;omega⟩
 ·obtain⟨a9,bW,cA⟩:=dH b hb;rw[aX a9,aX (by omega),cl cA]
structure OF(x:h3)(n:Nat):Prop where
 eJ:x.name=lS 112 n
 k:1<=x.k/\x.k<=2
 m:0<=x.m/\x.m<=2
 q:x.k<=x.q/\x.q<=x.k+x.m
 ay:x.ay.a=0/\x.ay.b=0/\x.ay.c=0/\0<=x.ay.d/\x.ay.d<=3/\0<=x.ay.e/\x.ay.e<=2
 ik:x.cx=[0,1]\/x.cx=[0]
 py: ∃R:Nat,(R:Int)=(if x.m<1 then 1 else x.m)/\x.py=List.replicate R (gi 1 2)
 qB:x.qB=gi 1 1000
 ni:x.ni=gi 30 1
theorem apu{n R:Nat}{k m q bH dp:Int}{ik:List Int}(A:1<=k/\k<=2)(E:0<=m/\m<=2)(ao:k<=q/\q<=k+m)(aS:0<=bH/\bH<=3)(bI:0<=dp/\dp<=2)(cZ:ik=[0,1]\/ik=[0])(c1:(R:Int)=if m<1 then 1 else m):OF ⟨lS 112 n,k,m,q,⟨0,0,0,bH,dp⟩,ik,List.replicate R (gi 1 2),gi 1 1000,gi 30 1⟩ n:=
 ⟨rfl,A,E,ao,⟨rfl,rfl,rfl,aS.1,aS.2,bI.1,bI.2⟩,cZ,⟨R,c1,rfl⟩,rfl,rfl⟩
def GG(ps:List h3)(aq:Nat):Prop:= ∀(i:Nat) (x:h3),ps[i]?=some x->OF x (aq-i)
theorem GG.add{ps:List h3}{aq:Nat}{x:h3}(h:GG ps aq)(B:OF x (aq-ps.length)):GG (ps++[x]) aq:= λi y Z=>by
 by_cases c:i<ps.length
 ·rw[Bs c]at Z;exact h i y Z
 ·have aA:=(cN.1 Z).1;simp only[iD,m8,yj]at aA;have e:i=ps.length:=(by omega);subst e;rw[Br (c8 _)]at Z;simp at Z;subst Z;exact B
structure asD(l:List Int)(i:Nat)(J:Int)(gy gz n8 n9 hV:Value)(ps:List h3)(op:Nat)(t:G):Prop where
 aM:t.F 0=some ⟨[bq l,D i],true⟩
 aE:t.F 1=some ⟨CX,true⟩
 ft:t.F 6=some ⟨[D J,gy,gz,n8,n9,bN op ps.length 17,hV],true⟩
 ig:t.F op=some ⟨(ps.map dU).flatten,true⟩
 iy:op≠0
 ed:op≠1
 sU:op≠6
def OE(l:List Int)(i:Nat)(J:Int)(gy gz n8 n9 hV:Value)(ps:List h3)(t:G):Prop:= ∃op,asD l i J gy gz n8 n9 hV ps op t
def Ga:List Nat:=[0,1,4,5]
theorem apv{l:List h3}:(l.map dU).flatten.length=l.length*17:=by rw[xl (I:=17) λr ar=>by obtain⟨x,_,rfl⟩:=gx.1 ar;rfl,ll]
theorem aFb{l:List Int}(aA:l.length<=140737488355328){J:Int}{gy gz n8 n9 hV:Value}{aq:Nat}(dM:aq<=100): ∀(r i:Nat) (ps:List h3),ps.length+r=aq->GG ps aq->i+10*r+100<1000000->
 ∃ (kz:List h3) (du:Nat),GG kz aq/\kz.length=aq/\du<=i+10*r/\ ∀(z:aD) (t:G) (Q:cO->aD->G->Prop),z 0=bC 0->z 5=bC 6->z 14=D r->OE l i J gy gz n8 n9 hV ps t->
   (∀K X,(∀s∈Ga,K s=z s)->OE l du J gy gz n8 n9 hV kz X->Q (.cF 4) K X)->ee N (.loop Mg) z t Q:=by
 intro r;induction r with
 | zero=>intro i ps aj ae Y;refine⟨ps,i,ae,by omega,by omega,λz t Q bG bD r9 kU a6=> ?_⟩;refine eS (ay:=⟨[oA,Bb],[kL]⟩) λbO a1=> ?_;simp[Mg,r9];exact a6 _ _ (λs H=>by simp only[Ga,hv,kQ,or_false]at H;rcases H with rfl|rfl|rfl|rfl<;>simp) kU
 | succ r cj=>
   intro i ps aj ae Y;have nX:=mJ (l:=l) (i:=i) (n:=2) (by decide);have eK:=mJ (l:=l) (i:=i+1) (n:=3) (by decide);obtain⟨k,O⟩: ∃k,1+fQ l i 2=k:=⟨_,rfl⟩;obtain⟨m,al⟩: ∃m,fQ l (i+1) 3=m:=⟨_,rfl⟩;rw[al]at eK;have gp:=mJ (l:=l) (i:=i+2) (n:=m+1) (by omega);obtain⟨zq,bg⟩: ∃q,fQ l (i+2) (m+1)=q:=⟨_,rfl⟩;rw[bg]at gp;obtain⟨q,axZ⟩: ∃q,k+zq=q:=⟨_,rfl⟩;have kZ:=mJ (l:=l) (i:=i+3) (n:=4) (by decide);obtain⟨bH,ao⟩: ∃m,fQ l (i+3) 4=m:=⟨_,rfl⟩;rw[ao]at kZ;have ri:=mJ (l:=l) (i:=i+4) (n:=3) (by decide);obtain⟨dp,aS⟩: ∃m,fQ l (i+4) 3=m:=⟨_,rfl⟩;rw[aS]at ri;obtain⟨R,c1⟩: ∃R:Nat,(R:Int)=if m<1 then 1 else m:=⟨(if m<1 then 1 else m).toNat,by split<;>omega⟩
   have yI:R<=2:=(by split at c1<;>omega);have dz:IntKind.i64.wrap (1+fQ l i 2)=k:=(by rw[db (by omega) (by omega)];exact O);have sg:IntKind.i64.wrap (m+1)=m+1:=db (by omega) (by omega);have ar5:IntKind.i64.wrap (k+zq)=q:=(by rw[db (by omega) (by omega)];exact axZ);have g6:IntKind.i64.wrap (r:Int)=(r:Int):=db (by omega) (by omega);have TL:(0:Int)<(r:Int)+1:=(by omega);have Gi:((i:Int)+1).toNat=i+1:=(by omega);have UL:((i:Int)+1+1).toNat=i+2:=(by omega);have arn:((i:Int)+1+1+1).toNat=i+3:=(by omega);have aro:((i:Int)+1+1+1+1).toNat=i+4:=(by omega);have arp:((i:Int)+1+1+1+1+1).toNat=i+5:=(by omega);have ma:oA.fn [.int .u8 112,.int .i64 ((r:Int)+1)]=some (.string (lS 112 (r+1))):=T7 (n:=r+1) (C:=112) rfl ⟨by decide,by omega⟩;have aYP:oG 1 1000:=(by unfold oG;omega);have aYQ:oG 30 1:=(by unfold oG;omega);by_cases J7:fQ l (i+5) 5=0
   ·skip
    obtain⟨kz,du,eH,eN,ha,hn⟩:=cj (i+6) (ps++[⟨lS 112 (r+1),k,m,q,⟨0,0,0,bH,dp⟩,[0],List.replicate R (gi 1 2),gi 1 1000,gi 30 1⟩]) (by simp;omega) (ae.add (by have:aq-ps.length=r+1:=(by omega);rw[this];exact apu ⟨by omega,by omega⟩ ⟨by omega,by omega⟩ ⟨by omega,by omega⟩ ⟨by omega,by omega⟩ ⟨by omega,by omega⟩ (.inr rfl) c1)) (by omega);refine⟨kz,du,eH,eN,by omega,λz t Q bG bD r9 kU a6=> ?_⟩;obtain⟨op,⟨aM,aE,ft,ig,iy,ed,sU⟩⟩:=kU;refine eS (ay:=⟨[oA,Bb],[kL]⟩) λbO a1=> ?_;have dN:=aF aM;have hS:=aF aE;have xS:=aF ft;have FC:=aF ig;simp(disch:=first|omega|simp only[bS];omega) [Mg,Zu,bG,r9,TL,aM,nn,ma,eL,dz,sg,ar5,al,bg,ao,aS,Gi,UL,arn,aro,arp,J7];refine ap6 (P:=t.next+14) (rZ:=t.next+16) (aR:=[0,1,6,op]) (a0:=gL (lS 112 (r+1))) (br:=D k) (bQ:=D m) (a3:=D q) (a4:=D 0) (fz:=D 0) (jh:=D 0) (l0:=D bH) (oI:=D dp) (pM:= .bool (gi 1 1000).kx) (eH:=b6 (gi 1 1000).a) (eN:=b6 (gi 1 1000).b) (ha:= .bool (gi 30 1).kx) (hn:=b6 (gi 30 1).a) (nE:=b6 (gi 30 1).b) (ik:=[0]) (m:=m) (R:=R) c1 (by omega) (by simp) (by simp) (by simp) (by simp(disch:=first|omega|simp only[bS];omega) [-ab,-ah,-aa,-ad,-List.map_map]) (by simp(disch:=first|omega|simp only[bS];omega) [-ab,-ah,-aa,-ad,-List.map_map]) (by omega) (λb hb=> ?_) λK X H B dH gr=> ?_
    ·simp only[hv,kQ,or_false]at hb;simp only[eT,fq];omega
    have xX: ¬0=op:= λe=>iy e.symm;have Ir: ¬1=op:= λe=>ed e.symm;have aoK: ¬6=op:= λe=>sU e.symm;have ho:X.F 0=some ⟨[bq l,D (i+6:Nat)],true⟩:=(dH 0 (by simp)).trans (by simp(disch:=first|omega|simp only[bS];omega) [-ab,-ah,-aa,-ad,-List.map_map];omega);have aG:X.F 1=some ⟨CX,true⟩:=(dH 1 (by simp)).trans (by simp(disch:=first|omega|simp only[bS];omega) [aE,-ab,-ah,-aa,-ad,-List.map_map]);have l5:X.F 6=some ⟨[D J,gy,gz,n8,n9,bN op ps.length 17,hV],true⟩:=(dH 6 (by simp)).trans (by simp(disch:=first|omega|simp only[bS];omega) [ft,-ab,-ah,-aa,-ad,-List.map_map]);have Ke:X.F op=some ⟨(ps.map dU).flatten,true⟩:=(dH op (by simp)).trans (by simp(disch:=first|omega|simp only[bS];omega) [ig,-ab,-ah,-aa,-ad,-List.map_map]);have z0:K 0=bC 0:=(H 0 (by decide)).trans (by simp[bG]);have je:K 1=z 1:=(H 1 (by decide)).trans (by simp);have z4:K 4=z 4:=(H 4 (by decide)).trans (by simp);have rv:K 5=bC 6:=(H 5 (by decide)).trans (by simp[bD]);have ae9:K 14=D ((r:Int)+1):=(H 14 (by decide)).trans (by simp[r9]);have Ol:K 17=bC (t.next+14):=(H 17 (by decide)).trans (by simp);clear H dH B;obtain⟨P,WC⟩: ∃P,P=t.next+14:=⟨_,rfl⟩
    have qs:P≠0/\P≠1/\P≠6/\P≠op:=(by omega);rw[<-WC]at gr Ol;obtain⟨qs,dC,Nh,pp⟩:=qs;have ek:=aF ho;have MU:=aF l5;have mp:=aF Ke;have aDS:=aF gr;have dV:=apv (l:=ps);have eQ:(ps.length+1)*240<=140737488355328/\ps.length<=9223372036854775806:=(by omega);simp(disch:=first|omega|simp only[bS];omega) [rv,ae9,Ol,l5,Ke,gr,dV,eQ,g6,-ab,-ah,-aa,-ad,-List.map_map];refine a1 _ _ (hn _ _ _ (by simp[z0]) (by simp[rv]) (by simp) ⟨X.next+4,?_,?_,?_,?_,by omega,by omega,by omega⟩ λk5 Gf EF K7=>a6 k5 Gf (λs ga=>(EF s ga).trans ?_) K7)
    ·simp(disch:=omega) [ho]
    ·simp(disch:=omega) [aG]
    ·simp(disch:=first|omega|simp only[bS];omega) [-ab,-ah,-aa,-ad,-List.map_map]
    ·simp(disch:=first|omega|simp only[bS];omega) [-ab,-ah,-aa,-ad,-List.map_map];rw[hx (by omega)];simp[dU]
    ·simp only[Ga,hv,kQ,or_false]at ga;rcases ga with rfl|rfl|rfl|rfl<;>simp[z0,je,z4,rv,bG,bD]
   ·skip
    obtain⟨kz,du,eH,eN,ha,hn⟩:=cj (i+6) (ps++[⟨lS 112 (r+1),k,m,q,⟨0,0,0,bH,dp⟩,[0,1],List.replicate R (gi 1 2),gi 1 1000,gi 30 1⟩]) (by simp;omega) (ae.add (by have:aq-ps.length=r+1:=(by omega);rw[this];exact apu ⟨by omega,by omega⟩ ⟨by omega,by omega⟩ ⟨by omega,by omega⟩ ⟨by omega,by omega⟩ ⟨by omega,by omega⟩ (.inl rfl) c1)) (by omega);refine⟨kz,du,eH,eN,by omega,λz t Q bG bD r9 kU a6=> ?_⟩;obtain⟨op,⟨aM,aE,ft,ig,iy,ed,sU⟩⟩:=kU;refine eS (ay:=⟨[oA,Bb],[kL]⟩) λbO a1=> ?_;have dN:=aF aM;have hS:=aF aE;have xS:=aF ft;have FC:=aF ig;simp(disch:=first|omega|simp only[bS];omega) [Mg,Zu,bG,r9,TL,aM,nn,ma,eL,dz,sg,ar5,al,bg,ao,aS,Gi,UL,arn,aro,arp,J7];refine ap6 (P:=t.next+14) (rZ:=t.next+10) (aR:=[0,1,6,op]) (a0:=gL (lS 112 (r+1))) (br:=D k) (bQ:=D m) (a3:=D q) (a4:=D 0) (fz:=D 0) (jh:=D 0) (l0:=D bH) (oI:=D dp) (pM:= .bool (gi 1 1000).kx) (eH:=b6 (gi 1 1000).a) (eN:=b6 (gi 1 1000).b) (ha:= .bool (gi 30 1).kx) (hn:=b6 (gi 30 1).a) (nE:=b6 (gi 30 1).b) (ik:=[0,1]) (m:=m) (R:=R) c1 (by omega) (by simp) (by simp) (by simp) (by simp(disch:=first|omega|simp only[bS];omega) [-ab,-ah,-aa,-ad,-List.map_map]) (by simp(disch:=first|omega|simp only[bS];omega) [-ab,-ah,-aa,-ad,-List.map_map]) (by omega) (λb hb=> ?_) λK X H B dH gr=> ?_
    ·simp only[hv,kQ,or_false]at hb;simp only[eT,fq];omega
    have xX: ¬0=op:= λe=>iy e.symm;have Ir: ¬1=op:= λe=>ed e.symm;have aoK: ¬6=op:= λe=>sU e.symm;have ho:X.F 0=some ⟨[bq l,D (i+6:Nat)],true⟩:=(dH 0 (by simp)).trans (by simp(disch:=first|omega|simp only[bS];omega) [-ab,-ah,-aa,-ad,-List.map_map];omega);have aG:X.F 1=some ⟨CX,true⟩:=(dH 1 (by simp)).trans (by simp(disch:=first|omega|simp only[bS];omega) [aE,-ab,-ah,-aa,-ad,-List.map_map]);have l5:X.F 6=some ⟨[D J,gy,gz,n8,n9,bN op ps.length 17,hV],true⟩:=(dH 6 (by simp)).trans (by simp(disch:=first|omega|simp only[bS];omega) [ft,-ab,-ah,-aa,-ad,-List.map_map]);have Ke:X.F op=some ⟨(ps.map dU).flatten,true⟩:=(dH op (by simp)).trans (by simp(disch:=first|omega|simp only[bS];omega) [ig,-ab,-ah,-aa,-ad,-List.map_map]);have z0:K 0=bC 0:=(H 0 (by decide)).trans (by simp[bG]);have je:K 1=z 1:=(H 1 (by decide)).trans (by simp);have z4:K 4=z 4:=(H 4 (by decide)).trans (by simp);have rv:K 5=bC 6:=(H 5 (by decide)).trans (by simp[bD]);have ae9:K 14=D ((r:Int)+1):=(H 14 (by decide)).trans (by simp[r9]);have Ol:K 17=bC (t.next+14):=(H 17 (by decide)).trans (by simp);clear H dH B;obtain⟨P,WC⟩: ∃P,P=t.next+14:=⟨_,rfl⟩
    have qs:P≠0/\P≠1/\P≠6/\P≠op:=(by omega);rw[<-WC]at gr Ol;obtain⟨qs,dC,Nh,pp⟩:=qs;have ek:=aF ho;have MU:=aF l5;have mp:=aF Ke;have aDS:=aF gr;have dV:=apv (l:=ps);have eQ:(ps.length+1)*240<=140737488355328/\ps.length<=9223372036854775806:=(by omega);simp(disch:=first|omega|simp only[bS];omega) [rv,ae9,Ol,l5,Ke,gr,dV,eQ,g6,-ab,-ah,-aa,-ad,-List.map_map];refine a1 _ _ (hn _ _ _ (by simp[z0]) (by simp[rv]) (by simp) ⟨X.next+4,?_,?_,?_,?_,by omega,by omega,by omega⟩ λk5 Gf EF K7=>a6 k5 Gf (λs ga=>(EF s ga).trans ?_) K7)
    ·simp(disch:=omega) [ho]
    ·simp(disch:=omega) [aG]
    ·simp(disch:=first|omega|simp only[bS];omega) [-ab,-ah,-aa,-ad,-List.map_map]
    ·simp(disch:=first|omega|simp only[bS];omega) [-ab,-ah,-aa,-ad,-List.map_map];rw[hx (by omega)];simp[dU]
    ·simp only[Ga,hv,kQ,or_false]at ga;rcases ga with rfl|rfl|rfl|rfl<;>simp[z0,je,z4,rv,bG,bD]
def GH(vs:List tj)(aq zT:Nat):Prop:= ∀(i:Nat) (x:tj),vs[i]?=some x->x.name=lS 118 (aq-i)/\0<=x.qt/\x.qt<zT
theorem GH.add{vs:List tj}{aq zT:Nat}{x:tj}(h:GH vs aq zT)(B:x.name=lS 118 (aq-vs.length)/\0<=x.qt/\x.qt<zT):GH (vs++[x]) aq zT:= λi y Z=>by
 by_cases c:i<vs.length
 ·rw[Bs c]at Z;exact h i y Z
 ·have aA:=(cN.1 Z).1;simp only[iD,m8,yj]at aA;have e:i=vs.length:=(by omega);subst e;rw[Br (c8 _)]at Z;simp at Z;subst Z;exact B
structure asO(l:List Int)(i:Nat)(J:Int)(gy gz n8 n9 jD:Value)(vs:List tj)(ub:Nat)(t:G):Prop where
 aM:t.F 0=some ⟨[bq l,D i],true⟩
 aE:t.F 1=some ⟨CX,true⟩
 ft:t.F 6=some ⟨[D J,gy,gz,n8,n9,jD,bN ub vs.length 2],true⟩
 pR:t.F ub=some ⟨(vs.map gD).flatten,true⟩
 iy:ub≠0
 ed:ub≠1
 sU:ub≠6
def U9(l:List Int)(i:Nat)(J:Int)(gy gz n8 n9 jD:Value)(vs:List tj)(t:G):Prop:= ∃ub,asO l i J gy gz n8 n9 jD vs ub t
theorem aJC{l:List tj}:(l.map gD).flatten.length=l.length*2:=by rw[xl (I:=2) λr ar=>by obtain⟨x,_,rfl⟩:=gx.1 ar;rfl,ll]
theorem aJA{l:List Int}(aA:l.length<=140737488355328){J:Int}{gy gz n8 n9:Value}{ps:List h3}(pf:1<=ps.length/\ps.length<=1000){aq:Nat}(dM:aq<=1000): ∀(r i:Nat) (vs:List tj),vs.length+r=aq->GH vs aq ps.length->i+r+100<1000000->
 ∃ (Bn:List tj) (du:Nat),GH Bn aq ps.length/\Bn.length=aq/\du<=i+r/\ ∀(z:aD) (t:G) (Q:cO->aD->G->Prop),z 0=bC 0->z 5=bC 6->z 19=D r->U9 l i J gy gz n8 n9 (ai (ps.map dU) 17) vs t->
   (∀K X,(∀s∈Ga,K s=z s)->U9 l du J gy gz n8 n9 (ai (ps.map dU) 17) Bn X->Q (.cF 8) K X)->ee N (.loop Si) z t Q:=by
 intro r;induction r with
 | zero=>intro i vs aj ae Y;refine⟨vs,i,ae,by omega,by omega,λz t Q bG bD lT kU a6=> ?_⟩;refine eS (ay:=⟨[oA],[kL]⟩) λbO a1=> ?_;simp[Si,lT];exact a6 _ _ (λs H=>by simp only[Ga,hv,kQ,or_false]at H;rcases H with rfl|rfl|rfl|rfl<;>simp) kU
 | succ r cj=>
   intro i vs aj ae Y;have nX:=mJ (l:=l) (i:=i) (n:=(ps.length:Int)) (by omega);obtain⟨y,Z⟩: ∃y,fQ l i (ps.length:Int)=y:=⟨_,rfl⟩;rw[Z]at nX;have g6:IntKind.i64.wrap (r:Int)=(r:Int):=db (by omega) (by omega);have TL:(0:Int)<(r:Int)+1:=(by omega);have ma:oA.fn [.int .u8 118,.int .i64 ((r:Int)+1)]=some (.string (lS 118 (r+1))):=T7 (n:=r+1) (C:=118) rfl ⟨by decide,by omega⟩;obtain⟨Bn,du,eH,eN,ha,hn⟩:=cj (i+1) (vs++[⟨lS 118 (r+1),y⟩]) (by simp;omega) (ae.add (by have:aq-vs.length=r+1:=(by omega);rw[this];exact⟨rfl,nX⟩)) (by omega);refine⟨Bn,du,eH,eN,by omega,λz t Q bG bD lT kU a6=> ?_⟩;obtain⟨ub,⟨aM,aE,ft,pR,iy,ed,sU⟩⟩:=kU;refine eS (ay:=⟨[oA],[kL]⟩) λbO a1=> ?_;have dN:=aF aM;have hS:=aF aE;have xS:=aF ft;have gb:=aF pR;have xX: ¬0=ub:= λe=>iy e.symm;have Ir: ¬1=ub:= λe=>ed e.symm;have aoK: ¬6=ub:= λe=>sU e.symm;have dV:=aJC (l:=vs);have eQ:(vs.length+1)*24<=140737488355328/\vs.length<=9223372036854775806:=(by omega);simp(disch:=first|omega|simp only[bS];omega) [Si,bG,bD,lT,TL,aM,ft,pR,nn,ma,Z,dV,eQ,g6,agI,anW,-ab,-ah,-aa,-ad,-List.map_map];refine a1 _ _ (hn _ _ _ (by simp[bG]) (by simp[bD]) (by simp) ⟨t.next+11,?_,?_,?_,?_,by omega,by omega,by omega⟩ λk5 Gf EF K7=>a6 k5 Gf (λs ga=>(EF s ga).trans ?_) K7)
   ·simp(disch:=first|omega|simp only[bS];omega) [-ab,-ah,-aa,-ad,-List.map_map]
   ·simp(disch:=omega) [aE]
   ·simp(disch:=first|omega|simp only[bS];omega) [-ab,-ah,-aa,-ad,-List.map_map]
   ·simp(disch:=first|omega|simp only[bS];omega) [-ab,-ah,-aa,-ad,-List.map_map];rw[hx (by omega)];simp[gD]
   ·simp only[Ga,hv,kQ,or_false]at ga;rcases ga with rfl|rfl|rfl|rfl<;>simp
theorem auN{l:List hE}: ∀r∈l.map e6,r.length=7/\ ∀v∈r,hH v=true:= λr ar=>by obtain⟨x,_,rfl⟩:=gx.1 ar;exact⟨rfl,λv M=>by simp[e6]at M;rcases M with rfl|rfl|rfl|rfl|rfl|rfl|rfl<;>rfl⟩
theorem auW{l:List o5}: ∀r∈l.map fH,r.length=3/\ ∀v∈r,hH v=true:= λr ar=>by obtain⟨x,_,rfl⟩:=gx.1 ar;exact⟨rfl,λv M=>by simp[fH]at M;rcases M with rfl|rfl|rfl<;>rfl⟩
theorem aFd{l:List h3}: ∀r∈l.map dU,r.length=17/\ ∀v∈r,hH v=true:= λr ar=>by obtain⟨x,_,rfl⟩:=gx.1 ar;exact⟨rfl,λv M=>by simp[dU]at M;rcases M with rfl|rfl|rfl|rfl|rfl|rfl|rfl|rfl|rfl|rfl|rfl|rfl|rfl|rfl|rfl|rfl|rfl<;>rfl⟩
theorem arR{l:List tj}: ∀r∈l.map gD,r.length=2/\ ∀v∈r,hH v=true:= λr ar=>by obtain⟨x,_,rfl⟩:=gx.1 ar;exact⟨rfl,λv M=>by simp[gD]at M;rcases M with rfl|rfl<;>rfl⟩
theorem aD7{l:List GB}: ∀r∈l.map gN,r.length=4/\ ∀v∈r,hH v=true:= λr ar=>by obtain⟨x,_,rfl⟩:=gx.1 ar;exact⟨rfl,λv M=>by simp[gN]at M;rcases M with rfl|rfl|rfl|rfl<;>rfl⟩
theorem aDa{l:List lo}: ∀r∈l.map gE,r.length=4/\ ∀v∈r,hH v=true:= λr ar=>by obtain⟨x,_,rfl⟩:=gx.1 ar;exact⟨rfl,λv M=>by simp[gE]at M;rcases M with rfl|rfl|rfl|rfl<;>rfl⟩
def F2:ByteArray:=⟨#[100,105,115,107]⟩
def NC:ByteArray:=⟨#[98,105,103]⟩
def NG:ByteArray:=⟨#[111,108,100]⟩
def xT(I:Int):lo:=⟨F2,[gi 1 1],[[gi 0 1]],[gi 1 I]⟩
def xY:Value:= .slice none 0 0
structure asG(l:List Int)(i:Nat)(J I a b c d:Int)(t:G):Prop where
 aM:t.F 0=some ⟨[bq l,D i],true⟩
 aE:t.F 1=some ⟨CX,true⟩
 ft:t.F 6=some ⟨[D J,bN 19 1 4,bN 36 2 4,bN 41 1 7,.slice none 0 0,.slice none 0 0,.slice none 0 0],true⟩
 yE:t.F 9=some ⟨eL (gi 1 1),true⟩
 PF:t.F 11=some ⟨eL (gi 0 1),true⟩
 PG:t.F 12=some ⟨[bN 11 1 3],true⟩
 ahr:t.F 17=some ⟨eL (gi 1 I),true⟩
 ahs:t.F 19=some ⟨[gL F2,bN 9 1 3,bN 12 1 1,bN 17 1 3],true⟩
 ahw:t.F 36=some ⟨[gL NC,D a,D b,D 0,gL NG,D c,D d,D 0],true⟩
 ahx:t.F 41=some ⟨e6 ⟨⟨#[]⟩,0,-1,0,gi 0 1⟩,true⟩
def xW(a b c d:Int):List GB:=[⟨NC,a,b,0⟩,⟨NG,c,d,0⟩]
theorem acx{x:cv}: ∀r∈[eL x],r.length=3/\ ∀v∈r,hH v=true:= λr ar=>by simp at ar;subst ar;exact⟨rfl,λv M=>by simp[eL]at M;rcases M with rfl|rfl|rfl<;>rfl⟩
theorem aI2{l:List Int}{i:Nat}{J I a b c d:Int}{rI:aB}{z:aD}{t:G}{Q:cO->aD->G->Prop}(h:asG l i J I a b c d t)(aj:t.next=44)
 (a6: ∀X,mo l i J (ai ([xT I].map gE) 4) (ai ((xW a b c d).map gN) 4) xY xY [⟨⟨#[]⟩,0,-1,0,gi 0 1⟩] [] X->ee N rI z X Q):ee N rI z t Q:=by
 obtain⟨aM,aE,ft,yE,PF,PG,ahr,ahs,ahw,ahx⟩:=h;refine vH (o:=11) (p:=12) (j:=0) (I:=3) (bJ:=[eL (gi 0 1)]) (by rw[PF];simp) acx PG rfl (by decide) ?_;refine vH (o:=9) (p:=19) (j:=1) (I:=3) (bJ:=[eL (gi 1 1)]) (cells:=[gL F2,bN 9 1 3,bN 12 1 1,bN 17 1 3]) ?_ acx ?_ rfl (by decide) ?_
 ·rw[aX (by decide),aX (by decide),yE];simp
 ·rw[aX (by decide),aX (by decide),ahs]
 refine vH (o:=12) (p:=19) (j:=2) (I:=1) (bJ:=[[iU [gi 0 1]]]) (cells:=[gL F2,iU [gi 1 1],bN 12 1 1,bN 17 1 3]) ?_ ?_ ?_ rfl (by decide) ?_
 ·rw[aX (by decide),aX (by decide),cb (by simp[aj])];simp
 ·intro r ar;simp at ar;subst ar;exact⟨rfl,λv M=>by simp at M;subst M;rfl⟩
 ·rw[cb (by simp[aj])];simp
 refine vH (o:=17) (p:=19) (j:=3) (I:=3) (bJ:=[eL (gi 1 I)]) (cells:=[gL F2,iU [gi 1 1],ai [[iU [gi 0 1]]] 1,bN 17 1 3]) ?_ acx ?_ rfl (by decide) ?_
 ·repeat rw[aX (by decide)]
  rw[ahr];simp
 ·rw[cb (by simp[aj])];simp
 refine vH (o:=19) (p:=6) (j:=1) (I:=4) (bJ:=[xT I].map gE) (cells:=[D J,bN 19 1 4,bN 36 2 4,bN 41 1 7,.slice none 0 0,.slice none 0 0,.slice none 0 0]) ?_ aDa ?_ rfl (by decide) ?_
 ·rw[cb (by simp[aj])];simp[gE,xT]
 ·repeat rw[aX (by decide)]
  rw[ft]
 refine vH (o:=36) (p:=6) (j:=2) (I:=4) (bJ:=(xW a b c d).map gN) (cells:=[D J,ai ([xT I].map gE) 4,bN 36 2 4,bN 41 1 7,.slice none 0 0,.slice none 0 0,.slice none 0 0]) ?_ aD7 ?_ rfl (by decide) ?_
 ·repeat rw[aX (by decide)]
  rw[ahw];simp[gN,xW]
 ·rw[cb (by simp[aj])];simp
 refine zG (o:=6) (j:=4) (I:=3) (cs:=[D J,ai ([xT I].map gE) 4,ai ((xW a b c d).map gN) 4,bN 41 1 7,.slice none 0 0,.slice none 0 0,.slice none 0 0]) ?_ rfl ?_
 ·rw[cb (by simp[aj])];simp
 refine a6 _ ⟨41,44,⟨?_,?_,?_,?_,?_,by decide,by decide,by decide⟩⟩
 ·simp only[eT,aj];repeat rw[aX (by decide)]
  rw[cl (by simp[aj])];repeat rw[aX (by decide)]
  exact aM
 ·simp only[eT,aj];repeat rw[aX (by decide)]
  rw[cl (by simp[aj])];repeat rw[aX (by decide)]
  exact aE
 ·simp only[eT,aj];rw[cb (by simp[aj])];simp[xY]
 ·simp only[eT,aj];repeat rw[aX (by decide)]
  rw[cl (by simp[aj])];repeat rw[aX (by decide)]
  rw[ahx];simp
 ·simp only[eT,aj];rw[aX (by decide),cb (by simp[aj])];simp
theorem aFc{l:List Int}{i:Nat}{J:Int}{gy gz hV:Value}{ds:List hE}{cH:List o5}{rI:aB}{z:aD}{t:G}{Q:cO->aD->G->Prop}(h:mo l i J gy gz xY hV ds cH t)
 (a6: ∀X,OE l i J gy gz (ai (ds.map e6) 7) (ai (cH.map fH) 3) hV [] X->ee N rI z X Q):ee N rI z t Q:=by
 obtain⟨jU,or,⟨aM,aE,ft,vW,eP,ed,er,lA⟩⟩:=h;obtain⟨Is,abG,abH⟩:=ed;obtain⟨abI,n21,Tx⟩:=er;have dN:=aF aM;have hS:=aF aE;have xS:=aF ft;refine vH (o:=jU) (p:=6) (j:=3) (I:=7) (bJ:=ds.map e6) vW auN ft (by simp) abH ?_;refine vH (o:=or) (p:=6) (j:=4) (I:=3) (bJ:=cH.map fH) (cells:=[D J,gy,gz,ai (ds.map e6) 7,bN or cH.length 3,xY,hV]) ?_ auW ?_ (by simp) Tx ?_
 ·rw[aX Tx,aX (λe=>lA e.symm)];exact eP
 ·rw[cb (by simpa using xS)];simp
 refine zG (o:=6) (j:=5) (I:=17) (cs:=[D J,gy,gz,ai (ds.map e6) 7,ai (cH.map fH) 3,xY,hV]) ?_ rfl ?_
 ·rw[cb (by simpa using xS)];simp
 refine a6 _ ⟨t.next,⟨?_,?_,?_,?_,by omega,by omega,by omega⟩⟩
 ·simp only[eT];rw[aX (by decide),aX (by omega),cl (by simp;omega),aX (by decide),aX (λe=>abI e.symm),aX (by decide),aX (λe=>Is e.symm)];exact aM
 ·simp only[eT];rw[aX (by decide),aX (by omega),cl (by simp;omega),aX (by decide),aX (λe=>n21 e.symm),aX (by decide),aX (λe=>abG e.symm)];exact aE
 ·simp only[eT];rw[cb (by simp;omega)];simp
 ·simp only[eT];rw[aX (by omega),cb (by simp)];simp
theorem aJB{l:List Int}{i:Nat}{J:Int}{gy gz n8 n9:Value}{ps:List h3}{rI:aB}{z:aD}{t:G}{Q:cO->aD->G->Prop}(h:OE l i J gy gz n8 n9 xY ps t)
 (a6: ∀X,U9 l i J gy gz n8 n9 (ai (ps.map dU) 17) [] X->ee N rI z X Q):ee N rI z t Q:=by
 obtain⟨op,⟨aM,aE,ft,ig,iy,ed,sU⟩⟩:=h;have dN:=aF aM;have hS:=aF aE;have xS:=aF ft;refine vH (o:=op) (p:=6) (j:=5) (I:=17) (bJ:=ps.map dU) ig aFd ft (by simp) sU ?_;refine zG (o:=6) (j:=6) (I:=2) (cs:=[D J,gy,gz,n8,n9,ai (ps.map dU) 17,xY]) ?_ rfl ?_
 ·rw[cb (by simpa using xS)];simp
 refine a6 _ ⟨t.next,⟨?_,?_,?_,?_,by omega,by omega,by omega⟩⟩
 ·simp only[eT];rw[aX (by decide),aX (by omega),cl (by simp;omega),aX (by decide),aX (λe=>iy e.symm)];exact aM
 ·simp only[eT];rw[aX (by decide),aX (by omega),cl (by simp;omega),aX (by decide),aX (λe=>ed e.symm)];exact aE
 ·simp only[eT];rw[cb (by simp;omega)];simp
 ·simp only[eT];rw[aX (by omega),cb (by simp)];simp
end Go.Proofs.YtmmkkggfmigppaaGreat
