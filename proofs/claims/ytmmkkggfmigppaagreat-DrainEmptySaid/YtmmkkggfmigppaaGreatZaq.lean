/-
  For every input the law returns true, and each argument reads behind the call as it read before. The last part of the proof; tools of ours have shortened it.
-/
import Derived.ProofKit
import Derived.ShutString
import Derived.Below
import Derived.Carry
import Derived.Test.YtmmkkggfmigppaaGreatZap
set_option linter.all false
set_option maxRecDepth 8000
set_option maxHeartbeats 16000000
namespace Go.Proofs.YtmmkkggfmigppaaGreat
open Go Go.DI Go.Big
def HT:List Nat:=[0,3,4,5,6]
def Ix(u:bl)(cW:List Int):Prop:= ∀y∈cW,-1<=y/\y<u.a2.length
theorem auV{l:List Int}(aC:l.length<=140737488355328){u:bl}(h:fY u)(k1:1<=u.a2.length){v:Nat}(ab:v<u.cb.length): ∀(r:Nat) (cW:List Int) (i:Nat),(cW.length:Int)+r=kj u v->Ix u cW->i+2*r+10<1000000->
    ∃ (te:List Int) (db:Nat),(te.length:Int)=kj u v/\Ix u te/\db<=i+2*r/\ ∀(z:aP) (t:W) (Q:dy->aP->W->Prop) (or:Nat) (aW:List Nat),z 0=cD 0->z 3=cD 1->z 6=Z v->z 7=e6 or cW.length 1->z 8=Z cW.length->
      t.Y 0=some ⟨[dG l,Z i],true⟩->t.Y 1=some ⟨aS u,true⟩->t.Y or=some ⟨cW.map Z,true⟩->or≠0->or≠1->(∀b∈aW,b≠0/\b≠or/\b<t.next)->
      (∀aj aT Hh,(∀s∈HT,aj s=z s)->aj 7=e6 Hh te.length 1->aT.Y 0=some ⟨[dG l,Z db],true⟩->aT.Y 1=some ⟨aS u,true⟩->aT.Y Hh=some ⟨te.map Z,true⟩->Hh≠0->Hh≠1->(∀b∈aW,b≠Hh/\aT.Y b=t.Y b)->t.next<=aT.next->Q (.ba 2) aj aT)->fP al (.loop Cg) z t Q:=by
  have fa:=OB h.ok ab;have ajh:=h.ok.mz;have aEH:(u.a2.length:Int)<=1000000:=by omega
  intro r;induction r with
  | zero=>intro cW i ay ao ai;refine⟨cW,i,by omega,ao,by omega,λz t Q or aW c9 eP fU dW b1 aO hV bX gY ga ea bY=> ?_⟩;refine eC (aB:=⟨[r4,wg u h.ok],[iM]⟩) λcK bk=> ?_;have vP:=bm hV;have c: ¬(cW.length:Int)<kj u v:=(by omega);simp(disch:=first|omega|simp only[DI.ak];omega) [Cg,Gs,Gt,Gu,eP,fU,b1,hV,aS,c,-O,-U,-N,-S,-List.map_map];exact bY _ _ or (λs M=>by simp only[HT,g6,iG,or_false]at M;rcases M with rfl|rfl|rfl|rfl|rfl<;>simp) (by simp[dW]) aO hV bX gY ga (λb hb=>⟨(ea b hb).2.1,rfl⟩) (ev _)
  | succ r cn=>
    intro cW i ay ao ai;have Bj: ∀(t:W) (or:Nat),t.Y or=some ⟨cW.map Z,true⟩->DI.dZ 9 t (e6 or cW.length 1)=some (dG cW):= λt or h=>sx (n:=8) (by rw[zm];exact h) (by simp) xo;have c:(cW.length:Int)<kj u v:=(by omega);have ajA:cW.length<=1000000:=(by omega);have l7:=ks (l:=l) (i:=i) (n:=(u.a2.length:Int)) (by omega);obtain⟨cE,oq⟩:=kS l7.1;have aA:e5 l i (u.a2.length:Int)=(cE:Int):=oq;obtain⟨pU,yZ,ll⟩:=auU h.ok.mz (cW:=cW) (by omega) u.a2.length 0 cE (by omega) (by omega);have AJ:((i:Int)+1).toNat=i+1:=(by omega);by_cases Bc:(pU:Int)∈cW
    · skip
      obtain⟨te,db,c8,dX,gl,gm⟩:=cn (cW++[-1]) (i+1) (by simp;omega) (λy ah=>by
        simp only[kQ,pH]at ah;rcases ah with ah|rfl
        · exact ao y ah
        · omega) (by omega)
      refine⟨te,db,c8,dX,by omega,λz t Q or aW c9 eP fU dW b1 aO hV bX gY ga ea bY=> ?_⟩;refine eC (aB:=⟨[r4,wg u h.ok],[iM]⟩) λcK bk=> ?_;have fq:=bm aO;have vP:=bm hV;have sY:=bm bX;have s5: ¬0=or:= λe=>gY e.symm;have CN: ¬1=or:= λe=>ga e.symm;simp(disch:=first|omega|simp only[DI.ak];omega) [Cg,Gs,Gt,Gu,c9,eP,fU,b1,hV,aS,aO,c,k5,aA,-O,-U,-N,-S,-List.map_map];refine ll _ _ _ 1 or (by simp[eP]) (by simp[dW]) (by simp) (by simp) (by simp(disch:=first|omega|simp only[DI.ak];omega) [hV,aS,-O,-U,-N,-S,-List.map_map]) (by simp(disch:=first|omega|simp only[DI.ak];omega) [bX,-O,-U,-N,-S,-List.map_map]) λbI bO M EF fb=> ?_;have mH:bI 0=cD 0:=(M 0 (by decide)).trans (by simp[c9]);have sb:bI 3=cD 1:=(M 3 (by decide)).trans (by simp[eP]);have tr:bI 4=z 4:=(M 4 (by decide)).trans (by simp);have n9:bI 5=z 5:=(M 5 (by decide)).trans (by simp);have sc:bI 6=Z v:=(M 6 (by decide)).trans (by simp[fU]);have Ij:bI 7=e6 or cW.length 1:=(M 7 (by decide)).trans (by simp[dW]);have Ik:bI 8=Z cW.length:=(M 8 (by decide)).trans (by simp[b1]);have h1:bO.Y 0=some ⟨[dG l,Z ((i:Int)+1)],true⟩:=(fb.2 0).trans (by simp(disch:=first|omega|simp only[DI.ak];omega) [-O,-U,-N,-S,-List.map_map]);have aL:bO.Y 1=some ⟨aS u,true⟩:=(fb.2 1).trans (by simp(disch:=first|omega|simp only[DI.ak];omega) [hV,aS,-O,-U,-N,-S,-List.map_map]);have oo:bO.Y or=some ⟨cW.map Z,true⟩:=(fb.2 or).trans (by simp(disch:=first|omega|simp only[DI.ak];omega) [bX,-O,-U,-N,-S,-List.map_map]);have vd: ∀b∈aW,bO.Y b=t.Y b:= λb hb=>(fb.2 b).trans (by rw[b3 (ea b hb).1]);have jz:bO.next=t.next:=fb.1.trans (by simp)
      clear M fb;have bL:=Bj bO or oo;have rZ:=bm h1;have bd:=bm aL;have Sc:=bm oo;have gD:(cW.length+1)*8<=140737488355328/\cW.length<=9223372036854775806:=(by omega);have cX:IntKind.i64.wrap ((cW.length:Int)+1)=(cW.length:Int)+1:=fl (by omega) (by omega);simp(disch:=first|omega|simp only[DI.ak];omega) [Ij,Ik,EF,oo,bL,Bc,gD,cX,-O,-U,-N,-S,-List.map_map];refine bk _ _ (gm _ _ Q (bO.next+3) aW (by simp[mH]) (by simp[sb]) (by simp[sc]) (by simp) (by simp) ?_ ?_ ?_ (by omega) (by omega) (λb hb=> ?_) λdh iB vW hA fs bU a7 Hq oI fS sB y9=>bY dh iB vW (λs fz=>(hA s fz).trans ?_) fs bU a7 Hq oI fS (λb hb=>⟨(sB b hb).1,(sB b hb).2.trans ?_⟩) (by simp at y9;omega))
      · simp(disch:=first|omega|simp only[DI.ak];omega) [h1,-O,-U,-N,-S,-List.map_map]
      · simp(disch:=first|omega|simp only[DI.ak];omega) [aL,aS,-O,-U,-N,-S,-List.map_map]
      · simp(disch:=first|omega|simp only[DI.ak];omega) [-O,-U,-N,-S,-List.map_map];exact ky (by simp)
      · obtain⟨a7,bD,b4⟩:=ea b hb;exact⟨a7,by omega,by simp;omega⟩
      · simp only[HT,g6,iG,or_false]at fz;rcases fz with rfl|rfl|rfl|rfl|rfl<;>simp[mH,sb,tr,n9,sc,c9,eP,fU]
      · obtain⟨a7,bD,b4⟩:=ea b hb;have e0:b<bO.next:=by omega
        have fT: ¬b=bO.next+2:=by omega
        have nF: ¬b=bO.next+3:=by omega
        simp(disch:=first|omega|simp only[DI.ak];omega) [vd b hb,-O,-U,-N,-S,-List.map_map]
    by_cases Eb:e5 l (i+1) 12=0
    · skip
      obtain⟨te,db,c8,dX,gl,gm⟩:=cn (cW++[-1]) (i+2) (by simp;omega) (λy ah=>by
        simp only[kQ,pH]at ah;rcases ah with ah|rfl
        · exact ao y ah
        · omega) (by omega)
      refine⟨te,db,c8,dX,by omega,λz t Q or aW c9 eP fU dW b1 aO hV bX gY ga ea bY=> ?_⟩;refine eC (aB:=⟨[r4,wg u h.ok],[iM]⟩) λcK bk=> ?_;have fq:=bm aO;have vP:=bm hV;have sY:=bm bX;have s5: ¬0=or:= λe=>gY e.symm;have CN: ¬1=or:= λe=>ga e.symm;simp(disch:=first|omega|simp only[DI.ak];omega) [Cg,Gs,Gt,Gu,c9,eP,fU,b1,hV,aS,aO,c,k5,aA,-O,-U,-N,-S,-List.map_map];refine ll _ _ _ 1 or (by simp[eP]) (by simp[dW]) (by simp) (by simp) (by simp(disch:=first|omega|simp only[DI.ak];omega) [hV,aS,-O,-U,-N,-S,-List.map_map]) (by simp(disch:=first|omega|simp only[DI.ak];omega) [bX,-O,-U,-N,-S,-List.map_map]) λbI bO M EF fb=> ?_;have mH:bI 0=cD 0:=(M 0 (by decide)).trans (by simp[c9]);have sb:bI 3=cD 1:=(M 3 (by decide)).trans (by simp[eP]);have tr:bI 4=z 4:=(M 4 (by decide)).trans (by simp);have n9:bI 5=z 5:=(M 5 (by decide)).trans (by simp);have sc:bI 6=Z v:=(M 6 (by decide)).trans (by simp[fU]);have Ij:bI 7=e6 or cW.length 1:=(M 7 (by decide)).trans (by simp[dW]);have Ik:bI 8=Z cW.length:=(M 8 (by decide)).trans (by simp[b1]);have h1:bO.Y 0=some ⟨[dG l,Z ((i:Int)+1)],true⟩:=(fb.2 0).trans (by simp(disch:=first|omega|simp only[DI.ak];omega) [-O,-U,-N,-S,-List.map_map]);have aL:bO.Y 1=some ⟨aS u,true⟩:=(fb.2 1).trans (by simp(disch:=first|omega|simp only[DI.ak];omega) [hV,aS,-O,-U,-N,-S,-List.map_map]);have oo:bO.Y or=some ⟨cW.map Z,true⟩:=(fb.2 or).trans (by simp(disch:=first|omega|simp only[DI.ak];omega) [bX,-O,-U,-N,-S,-List.map_map]);have vd: ∀b∈aW,bO.Y b=t.Y b:= λb hb=>(fb.2 b).trans (by rw[b3 (ea b hb).1]);have jz:bO.next=t.next:=fb.1.trans (by simp)
      clear M fb;have bL:=Bj bO or oo;have rZ:=bm h1;have bd:=bm aL;have Sc:=bm oo;have gD:(cW.length+1)*8<=140737488355328/\cW.length<=9223372036854775806:=(by omega);have cX:IntKind.i64.wrap ((cW.length:Int)+1)=(cW.length:Int)+1:=fl (by omega) (by omega);simp(disch:=first|omega|simp only[DI.ak];omega) [mH,Ij,Ik,EF,h1,oo,bL,Bc,Eb,k5,gD,cX,AJ,-O,-U,-N,-S,-List.map_map];refine bk _ _ (gm _ _ Q (bO.next+3) aW (by simp[mH]) (by simp[sb]) (by simp[sc]) (by simp) (by simp) ?_ ?_ ?_ (by omega) (by omega) (λb hb=> ?_) λdh iB vW hA fs bU a7 Hq oI fS sB y9=>bY dh iB vW (λs fz=>(hA s fz).trans ?_) fs bU a7 Hq oI fS (λb hb=>⟨(sB b hb).1,(sB b hb).2.trans ?_⟩) (by simp at y9;omega))
      · simp(disch:=first|omega|simp only[DI.ak];omega) [-O,-U,-N,-S,-List.map_map];omega
      · simp(disch:=first|omega|simp only[DI.ak];omega) [aL,aS,-O,-U,-N,-S,-List.map_map]
      · simp(disch:=first|omega|simp only[DI.ak];omega) [-O,-U,-N,-S,-List.map_map];exact ky (by simp)
      · obtain⟨a7,bD,b4⟩:=ea b hb;exact⟨a7,by omega,by simp;omega⟩
      · simp only[HT,g6,iG,or_false]at fz;rcases fz with rfl|rfl|rfl|rfl|rfl<;>simp[mH,sb,tr,n9,sc,c9,eP,fU]
      · obtain⟨a7,bD,b4⟩:=ea b hb;have e0:b<bO.next:=by omega
        have fT: ¬b=bO.next+2:=by omega
        have nF: ¬b=bO.next+3:=by omega
        simp(disch:=first|omega|simp only[DI.ak];omega) [vd b hb,-O,-U,-N,-S,-List.map_map]
    · skip
      obtain⟨te,db,c8,dX,gl,gm⟩:=cn (cW++[(pU:Int)]) (i+2) (by simp;omega) (λy ah=>by
        simp only[kQ,pH]at ah;rcases ah with ah|rfl
        · exact ao y ah
        · omega) (by omega)
      refine⟨te,db,c8,dX,by omega,λz t Q or aW c9 eP fU dW b1 aO hV bX gY ga ea bY=> ?_⟩;refine eC (aB:=⟨[r4,wg u h.ok],[iM]⟩) λcK bk=> ?_;have fq:=bm aO;have vP:=bm hV;have sY:=bm bX;have s5: ¬0=or:= λe=>gY e.symm;have CN: ¬1=or:= λe=>ga e.symm;simp(disch:=first|omega|simp only[DI.ak];omega) [Cg,Gs,Gt,Gu,c9,eP,fU,b1,hV,aS,aO,c,k5,aA,-O,-U,-N,-S,-List.map_map];refine ll _ _ _ 1 or (by simp[eP]) (by simp[dW]) (by simp) (by simp) (by simp(disch:=first|omega|simp only[DI.ak];omega) [hV,aS,-O,-U,-N,-S,-List.map_map]) (by simp(disch:=first|omega|simp only[DI.ak];omega) [bX,-O,-U,-N,-S,-List.map_map]) λbI bO M EF fb=> ?_;have mH:bI 0=cD 0:=(M 0 (by decide)).trans (by simp[c9]);have sb:bI 3=cD 1:=(M 3 (by decide)).trans (by simp[eP]);have tr:bI 4=z 4:=(M 4 (by decide)).trans (by simp);have n9:bI 5=z 5:=(M 5 (by decide)).trans (by simp);have sc:bI 6=Z v:=(M 6 (by decide)).trans (by simp[fU]);have Ij:bI 7=e6 or cW.length 1:=(M 7 (by decide)).trans (by simp[dW]);have Ik:bI 8=Z cW.length:=(M 8 (by decide)).trans (by simp[b1]);have h1:bO.Y 0=some ⟨[dG l,Z ((i:Int)+1)],true⟩:=(fb.2 0).trans (by simp(disch:=first|omega|simp only[DI.ak];omega) [-O,-U,-N,-S,-List.map_map]);have aL:bO.Y 1=some ⟨aS u,true⟩:=(fb.2 1).trans (by simp(disch:=first|omega|simp only[DI.ak];omega) [hV,aS,-O,-U,-N,-S,-List.map_map]);have oo:bO.Y or=some ⟨cW.map Z,true⟩:=(fb.2 or).trans (by simp(disch:=first|omega|simp only[DI.ak];omega) [bX,-O,-U,-N,-S,-List.map_map]);have vd: ∀b∈aW,bO.Y b=t.Y b:= λb hb=>(fb.2 b).trans (by rw[b3 (ea b hb).1]);have jz:bO.next=t.next:=fb.1.trans (by simp)
      clear M fb;have bL:=Bj bO or oo;have rZ:=bm h1;have bd:=bm aL;have Sc:=bm oo;have gD:(cW.length+1)*8<=140737488355328/\cW.length<=9223372036854775806:=(by omega);have cX:IntKind.i64.wrap ((cW.length:Int)+1)=(cW.length:Int)+1:=fl (by omega) (by omega);simp(disch:=first|omega|simp only[DI.ak];omega) [mH,Ij,Ik,EF,h1,oo,bL,Bc,Eb,k5,gD,cX,AJ,-O,-U,-N,-S,-List.map_map];refine bk _ _ (gm _ _ Q (bO.next+3) aW (by simp[mH]) (by simp[sb]) (by simp[sc]) (by simp) (by simp) ?_ ?_ ?_ (by omega) (by omega) (λb hb=> ?_) λdh iB vW hA fs bU a7 Hq oI fS sB y9=>bY dh iB vW (λs fz=>(hA s fz).trans ?_) fs bU a7 Hq oI fS (λb hb=>⟨(sB b hb).1,(sB b hb).2.trans ?_⟩) (by simp at y9;omega))
      · simp(disch:=first|omega|simp only[DI.ak];omega) [-O,-U,-N,-S,-List.map_map];omega
      · simp(disch:=first|omega|simp only[DI.ak];omega) [aL,aS,-O,-U,-N,-S,-List.map_map]
      · simp(disch:=first|omega|simp only[DI.ak];omega) [-O,-U,-N,-S,-List.map_map];exact ky (by simp)
      · obtain⟨a7,bD,b4⟩:=ea b hb;exact⟨a7,by omega,by simp;omega⟩
      · simp only[HT,g6,iG,or_false]at fz;rcases fz with rfl|rfl|rfl|rfl|rfl<;>simp[mH,sb,tr,n9,sc,c9,eP,fU]
      · obtain⟨a7,bD,b4⟩:=ea b hb;have e0:b<bO.next:=by omega
        have fT: ¬b=bO.next+2:=by omega
        have nF: ¬b=bO.next+3:=by omega
        simp(disch:=first|omega|simp only[DI.ak];omega) [vd b hb,-O,-U,-N,-S,-List.map_map]
def tE(u:bl)(L:List (List Int)):Prop:= ∀(w:Nat) (r:List Int),L[w]?=some r->(r.length:Int)=kj u w/\Ix u r
theorem tE.add{u:bl}{L:List (List Int)}{r:List Int}(h:tE u L)(D:(r.length:Int)=kj u L.length)(H:Ix u r):tE u (L++[r]):= λw x G=>by
  by_cases c:w<L.length
  · rw[tv c]at G;exact h w x G
  · have aC:=(ek.1 G).1;simp only[j7,oX,wE]at aC;have e:w=L.length:=(by omega);subst e;rw[uP (ev _)]at G;simp at G;subst G;exact⟨D,H⟩
theorem axC{L:List (List Int)}:(L.map hP).flatten.length=L.length:=by rw[sw (J:=1) λr ay=>by obtain⟨x,_,rfl⟩:=hc.1 ay;rfl,j8,Nat.mul_one]
theorem aeC{L:List (List Int)}: ∀r∈L.map hP,r.length=1/\ ∀v∈r,gP v=true:= λr ay=>by obtain⟨x,_,rfl⟩:=hc.1 ay;exact⟨rfl,λv ab=>by simp[hP]at ab;subst ab;rfl⟩
theorem auW{l:List Int}(aC:l.length<=140737488355328){u:bl}(h:fY u)(k1:1<=u.a2.length): ∀(r:Nat) (L:List (List Int)) (i:Nat),L.length+r=u.cb.length->tE u L->i+20*r+100<1000000->
    ∃ (AZ:List (List Int)) (db:Nat),AZ.length=u.cb.length/\tE u AZ/\db<=i+20*r/\ ∀(z:aP) (t:W) (Q:dy->aP->W->Prop) (pq:Nat),z 0=cD 0->z 3=cD 1->z 5=e6 pq L.length 1->z 6=Z L.length->
      t.Y 0=some ⟨[dG l,Z i],true⟩->t.Y 1=some ⟨aS u,true⟩->t.Y pq=some ⟨(L.map hP).flatten,true⟩->pq≠0->pq≠1->
      (∀aj aT Sp,aj 5=e6 Sp AZ.length 1->aT.Y 0=some ⟨[dG l,Z db],true⟩->aT.Y Sp=some ⟨(AZ.map hP).flatten,true⟩->Sp≠0->Q (.ba 0) aj aT)->fP al (.loop Lg) z t Q:=by
  have zb:=h.ok.r0;intro r;induction r with
  | zero=>intro L i ay ao ai;refine⟨L,i,by omega,ao,by omega,λz t Q pq c9 eP cu fU aO hV bX gY ga bY=> ?_⟩;refine eC (aB:=⟨[r4,wg u h.ok],[iM]⟩) λcK bk=> ?_;have vP:=bm hV;have c: ¬(L.length:Int)<u.cb.length:=(by omega);have bN: ¬L.length<u.cb.length:=(by omega);simp(disch:=first|omega|simp only[DI.ak];omega) [Lg,Rg,Rh,eP,fU,hV,aS,c,-O,-U,-N,-S,-List.map_map];exact bY _ _ pq (by simp[cu]) aO bX gY
  | succ r cn=>
    intro L i ay ao ai;have ab:L.length<u.cb.length:=(by omega);have fa:=OB h.ok ab;obtain⟨cW,km,bw,bJ,cc,eI⟩:=auV (l:=l) aC h k1 ab (kj u L.length).toNat [] i (by simp;omega) (λy ah=>by simp at ah) (by omega);obtain⟨AZ,db,c8,dX,gl,gm⟩:=cn (L++[cW]) km (by simp;omega) (ao.add bw bJ) (by omega);refine⟨AZ,db,c8,dX,by omega,λz t Q pq c9 eP cu fU aO hV bX gY ga bY=> ?_⟩;refine eC (aB:=⟨[r4,wg u h.ok],[iM]⟩) λcK bk=> ?_;have fq:=bm aO;have vP:=bm hV;have ct:=bm bX;have c:(L.length:Int)<u.cb.length:=(by omega);simp(disch:=first|omega|simp only[DI.ak];omega) [Lg,Rg,Rh,eP,fU,hV,aS,c,-O,-U,-N,-S,-List.map_map];refine eI _ _ _ t.next [pq] (by simp[c9]) (by simp[eP]) (by simp[fU]) (by simp) (by simp) ?_ ?_ ?_ (by omega) (by omega) (λb hb=> ?_) λbI bO or M fs V5 Wg iI s5 CN ea ax=> ?_
    · simp(disch:=first|omega|simp only[DI.ak];omega) [aO,-O,-U,-N,-S,-List.map_map]
    · simp(disch:=first|omega|simp only[DI.ak];omega) [hV,aS,-O,-U,-N,-S,-List.map_map]
    · simp(disch:=first|omega|simp only[DI.ak];omega) [-O,-U,-N,-S,-List.map_map]
    · simp only[g6,iG,or_false]at hb;subst hb;exact⟨gY,by omega,by simp;omega⟩
    have mH:bI 0=cD 0:=(M 0 (by decide)).trans (by simp[c9]);have sb:bI 3=cD 1:=(M 3 (by decide)).trans (by simp[eP]);have n9:bI 5=e6 pq L.length 1:=(M 5 (by decide)).trans (by simp[cu]);have sc:bI 6=Z L.length:=(M 6 (by decide)).trans (by simp[fU]);have om:bO.Y pq=some ⟨(L.map hP).flatten,true⟩:=(ea pq (by simp)).2.trans (by simp(disch:=first|omega|simp only[DI.ak];omega) [bX,-O,-U,-N,-S,-List.map_map]);have rZ:=bm V5;have bd:=bm Wg;have hG:=bm om;have Sc:=bm iI;have fy:=axC (L:=L);have fj:or=pq->False:= λe=>(ea pq (by simp)).1 e.symm;clear M ea ax;have cX:IntKind.i64.wrap ((L.length:Int)+1)=(L.length:Int)+1:=fl (by omega) (by omega);have ay: ∀x,(L++[cW]).map hP=x->(L.map hP).flatten++[dG cW]=x.flatten:= λx G=>by subst G;simp[hP]
    have bt:List.take L.length (L.map hP).flatten=(L.map hP).flatten:=ky (by omega);have jf: ¬or=pq:= λe=>by subst e;exact(fj rfl).elim
    simp(disch:=first|omega|simp only[DI.ak];omega) [n9,sc,fs,om,fy,cX,bt,-O,-U,-N,-S,-List.map_map];refine⟨by omega,bk _ _ (sa (o:=or) (p:=bO.next+3) (j:=L.length) (J:=1) (bg:=cW.map λx=>[Z x]) (cells:=(L.map hP).flatten++[e6 or cW.length 1]) ?_ xo ?_ ?_ (by omega) (gm _ _ Q (bO.next+3) (by simp[mH]) (by simp[sb]) ?_ ?_ ?_ ?_ ?_ (by omega) (by omega) bY))⟩
    · rw[b3 (by omega),b3 jf,b3 (by omega),W.e9,zm];exact iI
    · rw[eZ (by simp)]
    · rw[uP (by omega)];simp[fy]
    · simp
    · simp
    · rw[b3 (by omega),b3 (by omega),b3 (by omega),b3 (by omega),b3 (by omega),W.e9];exact V5
    · rw[b3 (by omega),b3 (by omega),b3 (by omega),b3 (by omega),b3 (by omega),W.e9];exact Wg
    · rw[eZ (by simp),List.set_append_right _ _ (by omega)];simp[fy,hP]
theorem MF{t:W}{o l J:Nat}{bg:List (List Value)}(h:t.Y o=some ⟨bg.flatten,true⟩)(ay: ∀r∈bg,r.length=J/\ ∀v∈r,gP v=true)(cZ:o≠0):0∉DI.ei 9 t (e6 o l J):=by
  rw[q5,h];simp only[g6,tx,DB];rintro(e|⟨v,⟨r,EX,ab⟩,G⟩)
  · exact cZ e.symm
  · rw[DI.x2 ((ay r EX).2 v ab)]at G;cases G
theorem auY{l:List Int}(aC:l.length<=140737488355328){i:Nat}(ai:i<600000){u:bl}(h:fY u)(k1:1<=u.a2.length): ∃L db,L.length=u.cb.length/\tE u L/\db<=i+20*u.cb.length/\fQ al 48 [cD 0,.agg (aS u).toArray] (my l i) λv aT=>DI.dZ 9 aT v=some (gS L)/\aT.Y 0=some ⟨[dG l,Z db],true⟩/\0∉ei 9 aT v:=by
  have zb:=h.ok.r0;obtain⟨L,db,c8,dX,gl,gm⟩:=auW (l:=l) aC h k1 u.cb.length [] i (by simp) (λw r ay=>by simp at ay) (by omega);refine⟨L,db,c8,dX,gl,?_⟩;refine dL (aB:=⟨[r4,wg u h.ok],[iM]⟩) ar7 (by kernel_rfl) (by simp[Rf]) ?_;simp(disch:=first|omega|simp only[DI.ak];omega) [Rf,abP,abQ,abR,abS,my,-O,-U,-N,-S,-List.map_map];refine Nx (d:=5) (J:=1) (by simp) ?_;refine gm _ _ _ 3 (by simp) (by simp) (by simp[ir]) (by simp) ?_ ?_ ?_ (by decide) (by decide) λbI bO pq cu aO aQ gY=> ?_
  · rw[b3 (by simp[ir]),e9 (by simp[ir]),b3 (by decide),e9 (by simp[ir]),eZ (by simp[ir])]
  · rw[b3 (by simp[ir]),e9 (by simp[ir]),eZ (by simp[ir])]
  · rw[show((((ir.du 1).a4 0 (some {cells:=[dG l,Z i],own:=true})).du 2).a4 1 (some {cells:=aS u,own:=true})).next=3 from rfl];exact eZ (by simp[ir])
  simp(disch:=first|omega|simp only[DI.ak];omega) [cu,-O,-U,-N,-S,-List.map_map];refine⟨?_,aO,MF aQ aeC gY⟩;have:=sx (n:=8) (t:=bO) (l:=L.length) aQ (by simp) aeC;exact this
def u1(aV:Int)(R:List Int):Prop:= ∀y∈R,0<=y/\y<=aV
theorem u1.set{aV:Int}{R:List Int}(h:u1 aV R){k:Nat}{y:Int}(ah:0<=y/\y<=aV):u1 aV (R.set k y):= λx G=>by
  rcases List.mem_or_eq_of_mem_set G with q|q
  · exact h x q
  · rw[q];exact ah
theorem aw1{l:List Int}(aC:l.length<=140737488355328){n:Nat}(ax:n<=1000){aV:Int}(cC:0<=aV/\aV<=900000): ∀(r k:Nat) (R:List Int) (i:Nat),k+r=n->R.length=n->u1 aV R->i+2*r+10<1000000->
    ∃ (u3:List Int) (db:Nat),u3.length=n/\u1 aV u3/\db<=i+2*r/\ ∀(z:aP) (t:W) (Q:dy->aP->W->Prop) (px:Nat),z 0=cD 0->z 5=e6 px n 1->z 6=Z k->
      t.Y 0=some ⟨[dG l,Z i],true⟩->t.Y px=some ⟨R.map Z,true⟩->px≠0->
      (∀aj aT,aj 5=e6 px n 1->aT.Y 0=some ⟨[dG l,Z db],true⟩->aT.Y px=some ⟨u3.map Z,true⟩->Q (.ba 0) aj aT)->fP al (.loop Ci) z t Q:=by
  intro r;induction r with
  | zero=>intro k R i aa iy ao ai;refine⟨R,i,iy,ao,by omega,λz t Q px c9 cu fU aO iI gY bY=> ?_⟩;refine eC (aB:=⟨[],[iM]⟩) λcK bk=> ?_;have c: ¬(k:Int)<n:=(by omega);simp(disch:=first|omega|simp only[DI.ak];omega) [Ci,GB,cu,fU,c,-O,-U,-N,-S,-List.map_map];exact bY _ _ (by simp[cu]) aO iI
  | succ r cn=>
    intro k R i aa iy ao ai;have WK:k<R.length:=(by omega);obtain⟨x,G⟩:=iW WK;have eh:=(ek.1 G).2;have aEP:=ao x (by rw[<-eh];exact mI WK);have c:(k:Int)<n:=(by omega);have cX:=gT (n:=k) (by omega);have e2:IntKind.i64.wrap (x+1)=x+1:=fl (by omega) (by omega);have AJ:((i:Int)+1).toNat=i+1:=(by omega);have aiZ:((R.map Z).drop k).take 1=[Z x]:=by rw[List.drop_eq_getElem_cons (by simp;omega)];simp[eh]
    by_cases jH:e5 l i 9=0
    · obtain⟨u3,db,c8,dX,gl,gm⟩:=cn (k+1) (R.set k 0) (i+1) (by omega) (by simp[iy]) (ao.set (by omega)) (by omega);refine⟨u3,db,c8,dX,by omega,λz t Q px c9 cu fU aO iI gY bY=> ?_⟩;refine eC (aB:=⟨[],[iM]⟩) λcK bk=> ?_;have fq:=bm aO;have sY:=bm iI;have s5: ¬0=px:= λe=>gY e.symm;have eS:(R.map Z).length=n:=(by simp[iy]);simp(disch:=first|omega|simp only[DI.ak];omega) [Ci,GB,c9,cu,fU,aO,iI,c,jH,cX,k5,eS,-O,-U,-N,-S,-List.map_map];refine⟨by omega,bk _ _ (gm _ _ Q px (by simp[c9]) (by simp[cu]) (by simp) ?_ ?_ gY bY)⟩
      · rw[b3 s5,eZ (by omega)];simp
      · rw[eZ (by simp;omega),List.map_set]
    · by_cases bN:e5 l i 9=1
      · have fC:=ks (l:=l) (i:=i+1) (n:=x+1) (by omega);obtain⟨u3,db,c8,dX,gl,gm⟩:=cn (k+1) (R.set k (e5 l (i+1) (x+1))) (i+2) (by omega) (by simp[iy]) (ao.set (by omega)) (by omega);refine⟨u3,db,c8,dX,by omega,λz t Q px c9 cu fU aO iI gY bY=> ?_⟩;refine eC (aB:=⟨[],[iM]⟩) λcK bk=> ?_;have fq:=bm aO;have sY:=bm iI;have s5: ¬0=px:= λe=>gY e.symm;have eS:(R.map Z).length=n:=(by simp[iy]);simp(disch:=first|omega|simp only[DI.ak];omega) [Ci,GB,c9,cu,fU,aO,iI,c,bN,cX,e2,AJ,k5,eS,aiZ,-O,-U,-N,-S,-List.map_map];refine⟨by omega,bk _ _ (gm _ _ Q px (by simp[c9]) (by simp[cu]) (by simp) ?_ ?_ gY bY)⟩
        · rw[b3 s5,eZ (by omega)];simp;omega
        · rw[eZ (by simp;omega),List.map_set]
      · obtain⟨u3,db,c8,dX,gl,gm⟩:=cn (k+1) R (i+1) (by omega) iy ao (by omega);refine⟨u3,db,c8,dX,by omega,λz t Q px c9 cu fU aO iI gY bY=> ?_⟩;refine eC (aB:=⟨[],[iM]⟩) λcK bk=> ?_;have fq:=bm aO;have sY:=bm iI;have s5: ¬0=px:= λe=>gY e.symm;have eS:(R.map Z).length=n:=(by simp[iy]);simp(disch:=first|omega|simp only[DI.ak];omega) [Ci,GB,c9,cu,fU,aO,c,jH,bN,cX,k5,-O,-U,-N,-S,-List.map_map];refine bk _ _ (gm _ _ Q px (by simp[c9]) (by simp[cu]) (by simp) ?_ ?_ gY bY)
        · rw[eZ (by omega)];simp
        · rw[b3 gY];exact iI
theorem aw6{u:bl}(h:fY u)(aEI:1<=u.a2.length):fQ al 52 [.agg (aS u).toArray,.slice none 0 0] ir λv bO=> ∃o,v=e6 o u.a2.length 1/\bO.Y o=some ⟨(v7 u []).map Z,true⟩:=by
  refine dL (aB:=⟨[uH u h.fN],[]⟩) abU (by kernel_rfl) (by simp[Lh]) ?_;have ab:=h.ok.AP;have k1:=h.ok.mz;simp(disch:=first|omega|simp only[DI.ak];omega) [Lh,abT,abV,abW,abX,abY,aS,ab,-O,-U,-N,-S,-List.map_map];refine Nx (d:=5) (J:=1) (by simp) ?_;refine hI (aB:=⟨[uH u h.fN],[]⟩) (λi z t=>t.Y 0=some ⟨aS u,true⟩/\(∃o,o≠0/\z 5=e6 o i 1/\t.Y o=some ⟨kL i (λj=>Z (MG u [] j)),true⟩)/\z 1= .slice none 0 0/\z 2=cD 0/\z 6=Z i) u.a2.length ?_ ?_ 0 _ _ (ho _) ⟨by simp(disch:=first|omega|simp only[DI.ak];omega) [aS,-O,-U,-N,-S,-List.map_map],⟨2,by decide,by simp,by simp(disch:=first|omega|simp only[DI.ak];omega) [kL,-O,-U,-N,-S,-List.map_map]⟩,by simp,by simp,by simp⟩
  · rintro i z t ai ⟨aO,⟨o,aD,cu,bX⟩,bb,dS,fU⟩ cK bk;obtain⟨x,G⟩:=iW ai;have eh:=(ek.1 G).2;obtain⟨bw,bJ,cc,eI,fp⟩:=h.ok.Ed i x G;obtain⟨m,aw⟩:=kS bw;have ER:m<u.bc.length:=(by omega);obtain⟨y,ah⟩:=iW ER;have nt:=(ek.1 ah).2;have hh:w0 u i=y.ext:=(by simp only[w0,G,aw,rn,ah]);have hb:=h.ok.adA m y ah;have bU:(i:Int)<u.a2.length:=(by omega);have a7:(m:Int)<u.bc.length:=(by omega);have sG:i+1<=u.a2.length:=ai;have b7:=gT (n:=i) (by omega);have fq:=bm aO;have ct:=bm bX;have gD:(i+1)*8<=140737488355328/\i<=9223372036854775806:=(by omega);have EX: ¬(0:Int)=u.a2.length:=(by omega);have JQ: ¬u.a2.length=0:=(by omega);have aEM: ¬0=u.a2.length:=(by omega);have W2: ¬u.a2=[]:= λe=>by rw[e]at JQ;exact JQ rfl
    have ajx:MG u [] i=y.ext:=(by unfold MG;rw[if_neg (by simp;omega),hh]);simp(disch:=first|omega|simp only[DI.ak];omega) [Rk,Ri,Rj,aS,gn,gK,bb,dS,cu,fU,aO,bX,bU,a7,b7,eh,aw,nt,EX,gD,-O,-U,-N,-S,-List.map_map];refine bk _ _ ⟨by simp(disch:=first|omega|simp only[DI.ak];omega) [aO,aS,-O,-U,-N,-S,-List.map_map],⟨t.next+3,by omega,by simp,?_⟩,by simp[bb],by simp[dS],by simp⟩;rw[eZ (by simp),ky (by simp),awV,ajx]
  · rintro z t ⟨aO,⟨o,aD,cu,bX⟩,bb,dS,fU⟩;have fq:=bm aO;simp(disch:=first|omega|simp only[DI.ak];omega) [Rk,Ri,Rj,aS,aO,dS,cu,fU,-O,-U,-N,-S,-List.map_map];rw[bX,awY,SK]
noncomputable def PQ(u:bl)(h:fY u)(ax:1<=u.a2.length):j9 al:= .OF 52 Unit (λ_=>True) (λ_=>[.agg (aS u).toArray,.slice none 0 0]) (λ_=>u.a2.length) (λ_=>1) (λ_=>(v7 u []).map Z) λ_ _=>azu (λv ab=>by simp at ab;rcases ab with rfl|rfl<;>rfl) aj1 (aw6 h ax)
@[simp] theorem aEV{u:bl}{h:fY u}{ax:1<=u.a2.length}:(PQ u h ax).f=52:=rfl
@[simp] theorem aEW{u:bl}{h:fY u}{ax:1<=u.a2.length}{t:W}:(PQ u h ax).fn [.agg #[Z u.ext,au (u.cB.map gF) 4,au (u.bc.map gK) 4,au (u.a0.map dU) 7,au (u.a2.map gn) 3,au (u.cx.map eY) 17,au (u.cb.map g0) 2],.slice none 0 0] t=some (.slice (some ⟨t.next,0,none⟩) u.a2.length 1,(t.du 1).a4 t.next (some ⟨(v7 u []).map Z,true⟩)):=j9.ah8 (x:=()) trivial λy ah=>rfl
theorem aw0{u:bl}(h:fY u):u1 16 (v7 u []):= λy ah=>by
  unfold v7 at ah;obtain⟨d,aA,rfl⟩:=hc.1 ah;have xa:d<u.a2.length:=ob.1 aA;have W2: ¬([]:List Int).length=u.a2.length:=by simp;omega
  simp only[if_neg W2];obtain⟨x,G⟩:=iW xa;obtain⟨bw,bJ,cc,eI,fp⟩:=h.ok.Ed d x G;obtain⟨m,aw⟩:=kS bw;have ER:m<u.bc.length:=by omega
  obtain⟨y,ah⟩:=iW ER;have hh:w0 u d=y.ext:=by simp only[w0,G,aw,rn,ah]
  have hb:=h.ok.adA m y ah;omega
theorem awZ{u:bl}:(v7 u []).length=u.a2.length:=by unfold v7;simp
theorem aw3{l:List Int}(aC:l.length<=140737488355328){i:Nat}(ai:i<600000){u:bl}(h:fY u)(k1:1<=u.a2.length): ∃R db,R.length=u.a2.length/\u1 16 R/\db<=i+2*u.a2.length/\fQ al 61 [cD 0,.agg (aS u).toArray] (my l i) λv aT=>DI.dZ 9 aT v=some (dG R)/\aT.Y 0=some ⟨[dG l,Z db],true⟩/\0∉DI.ei 9 aT v:=by
  have ajh:=h.ok.mz;obtain⟨R,db,c8,dX,gl,gm⟩:=aw1 (l:=l) aC (n:=u.a2.length) (by omega) (aV:=16) (by omega) u.a2.length 0 (v7 u []) i (by omega) awZ (aw0 h) (by omega);refine⟨R,db,c8,dX,gl,?_⟩;refine dL (aB:=⟨[],[iM,PQ u h k1]⟩) asa (by kernel_rfl) (by simp[Rw]) ?_;simp(disch:=first|omega|simp only[DI.ak];omega) [Rw,acg,ach,aci,acj,my,aS,-O,-U,-N,-S,-List.map_map];refine gm _ _ _ 3 (by simp) (by simp) (by simp) ?_ ?_ (by decide) λbI bO cu aO aQ=> ?_
  · rw[b3 (by decide),e9 (by simp[ir]),b3 (by decide),e9 (by simp[ir]),eZ (by simp[ir])]
  · exact eZ (by simp[ir])
  simp(disch:=first|omega|simp only[DI.ak];omega) [cu,-O,-U,-N,-S,-List.map_map];have e:(R.map Z)=(R.map λx=>[Z x]).flatten:=zm.symm;rw[e]at aQ;refine⟨?_,aO,MF aQ xo (by decide)⟩;have:=sx (n:=8) (t:=bO) (l:=u.a2.length) aQ (by simp[c8]) xo;exact this
theorem av5{u:bl}(h:fY u){L:List (List Int)}(aC:L.length=u.cb.length)(aD:tE u L):kV L:=by
  have zb:=h.ok.r0;refine⟨by omega,λr ay=> ?_⟩;obtain⟨w,aZ,e⟩:=kx ay;have PC:L[w]?=some r:=by rw[dx aZ,e]
  have a:=(aD w r PC).1;have b:=OB h.ok (v:=w) (by omega);omega
theorem av6{u:bl}{L:List (List Int)}(aC:L.length=u.cb.length)(aD:tE u L):mC u L=true:=by unfold mC;rw[aX,eD];refine⟨decide_eq_true aC,λw aZ=> ?_⟩;have PD:=ob.1 aZ;obtain⟨r,ay⟩:=iW PD;obtain⟨a,b⟩:=aD w r ay;simp only[ay];unfold x5;rw[aX,eD];refine⟨decide_eq_true a,λy ah=> ?_⟩;have:=b y ah;rw[aX];exact⟨decide_eq_true this.1,decide_eq_true this.2⟩
open Classical in
noncomputable def zU(f:Nat)(args cs jX:List Value)(r:Value)(ok: ∀(t:W) (o:Nat),t.Y o=some ⟨cs,true⟩->fQ al f (.pointer (some ⟨o,0,none⟩)::args) t λv aT=>v=r/\aT=t.a4 o (some ⟨jX,true⟩)):j9 al:=
  ⟨f,λafC t=>if h: ∃o,Value.pointer (some ⟨o,0,none⟩)::args=afC/\t.Y o=some ⟨cs,true⟩then some (r,t.a4 h.choose (some ⟨jX,true⟩))else none,λafC t dF aT h cg j1=>by
    split at h
    · next G=>cases h;have:=ok t _ G.choose_spec.2;rw[G.choose_spec.1]at this;exact this.cd λv aT ⟨a,b⟩=>by rw[a,b];exact j1
    · cases h⟩
theorem at1{f:Nat}{args cs jX:List Value}{r:Value}{ok: ∀(t:W) (o:Nat),t.Y o=some ⟨cs,true⟩->fQ al f (.pointer (some ⟨o,0,none⟩)::args) t λv aT=>v=r/\aT=t.a4 o (some ⟨jX,true⟩)}{t:W}{o:Nat}(h:t.Y o=some ⟨cs,true⟩):
    (zU f args cs jX r ok).fn (.pointer (some ⟨o,0,none⟩)::args) t=some (r,t.a4 o (some ⟨jX,true⟩)):=by
  have hh: ∃q,Value.pointer (some ⟨q,0,none⟩)::args=Value.pointer (some ⟨o,0,none⟩)::args/\t.Y q=some ⟨cs,true⟩:=⟨o,rfl,h⟩;have e:hh.choose=o:=by have:=hh.choose_spec.1;simpa using this
  simp only[zU,dif_pos hh];rw[e]
theorem Dl{l:List Int}{i:Nat}: ∀v∈[dG l,Z i],gP v=true:= λv ab=>by simp at ab;rcases ab with rfl|rfl<;>rfl
theorem ahY{l:List Int}(aC:l.length<=140737488355328){i:Nat}(ai:i<500000){kb:Int}(Bp:kb<=100): ∃u db,Iw u kb/\db<=i+200/\ ∀(t:W) (o:Nat),t.Y o=some ⟨[dG l,Z i],true⟩->fQ al 60 [cD o,Z kb] t λv aT=>v= .agg (aS u).toArray/\aT=t.a4 o (some ⟨[dG l,Z db],true⟩):=by obtain⟨u,db,a,b,c⟩:=ahZ aC ai Bp;exact⟨u,db,a,b,λt o aD=>Ua (by simp) (by simp) Dl Dl (λv ab=>by simp at ab;subst ab;rfl) c aD⟩
theorem auX{l:List Int}(aC:l.length<=140737488355328){i:Nat}(ai:i<600000){u:bl}(h:fY u)(k1:1<=u.a2.length): ∃L db,L.length=u.cb.length/\tE u L/\db<=i+20*u.cb.length/\ ∀(t:W) (o:Nat),t.Y o=some ⟨[dG l,Z i],true⟩->fQ al 48 [cD o,.agg (aS u).toArray] t λv aT=>v=gS L/\aT=t.a4 o (some ⟨[dG l,Z db],true⟩):=by obtain⟨L,db,a,b,ca,c⟩:=auY aC ai h k1;exact⟨L,db,a,b,ca,λt o aD=>Ua (by simp) (by simp) Dl Dl (λv ab=>by simp at ab;subst ab;rfl) c aD⟩
theorem aw2{l:List Int}(aC:l.length<=140737488355328){i:Nat}(ai:i<600000){u:bl}(h:fY u)(k1:1<=u.a2.length): ∃R db,R.length=u.a2.length/\u1 16 R/\db<=i+2*u.a2.length/\ ∀(t:W) (o:Nat),t.Y o=some ⟨[dG l,Z i],true⟩->fQ al 61 [cD o,.agg (aS u).toArray] t λv aT=>v=dG R/\aT=t.a4 o (some ⟨[dG l,Z db],true⟩):=by obtain⟨R,db,a,b,ca,c⟩:=aw3 aC ai h k1;exact⟨R,db,a,b,ca,λt o aD=>Ua (by simp) (by simp) Dl Dl (λv ab=>by simp at ab;subst ab;rfl) c aD⟩
@[simp] theorem aGa{f:Nat}{args cs jX:List Value}{r:Value}{ok: ∀(t:W) (o:Nat),t.Y o=some ⟨cs,true⟩->fQ al f (.pointer (some ⟨o,0,none⟩)::args) t λv aT=>v=r/\aT=t.a4 o (some ⟨jX,true⟩)}:(zU f args cs jX r ok).f=f:=rfl
theorem TR{f:Nat}{args cs jX:List Value}{r:Value}{ok: ∀(t:W) (o:Nat),t.Y o=some ⟨cs,true⟩->fQ al f (.pointer (some ⟨o,0,none⟩)::args) t λv aT=>v=r/\aT=t.a4 o (some ⟨jX,true⟩)}{t:W}{o:Nat}(h:t.Y o=some ⟨cs,true⟩){k:Value->W->Prop}(aa:k r (t.a4 o (some ⟨jX,true⟩))):
    TQ ((zU f args cs jX r ok).fn (.pointer (some ⟨o,0,none⟩)::args) t) k:=by
  rw[at1 h];exact aa
theorem avn{l:List Int}(aC:l.length<=140737488355328): ∃u L R i,Iw u 3/\L.length=u.cb.length/\tE u L/\R.length=u.a2.length/\u1 16 R/\i<=1000/\ ∀t:W,fQ al 18 [dG l] t λv aT=>v= .tuple #[.agg (aS u++[gS L,dG R]).toArray,cD (t.next+4)]/\aT.Y (t.next+4)=some ⟨[dG l,Z i],true⟩:=by
  obtain⟨u,km,bw,bJ,agH⟩:=ahY (l:=l) aC (i:=0) (by decide) (kb:=3) (by decide);have a3:=adi bw (by decide);have k1:1<=u.a2.length/\u.a2.length<=9:=bw.mz;have zb:=a3.ok.r0;obtain⟨L,ln,c8,dX,gl,agZ⟩:=auX (l:=l) aC (i:=km) (by omega) a3 k1.1;obtain⟨R,PO,bN,cI,hq,aho⟩:=aw2 (l:=l) aC (i:=ln) (by omega) a3 k1.1;refine⟨u,L,R,PO,bw,c8,dX,bN,cI,by omega,λt=> ?_⟩;refine dL (aB:=⟨[],[zU 60 [Z 3] _ _ _ agH,zU 48 [.agg (aS u).toArray] _ _ _ agZ,zU 61 [.agg (aS u).toArray] _ _ _ aho]⟩) anz (by kernel_rfl) (by simp[Qw]) ?_;simp(disch:=first|omega|simp only[DI.ak];omega) [Qw,Zo,Zp,Zq,Zr,Zs,-O,-U,-N,-S,-List.map_map];refine TR (by simp(disch:=first|omega|simp only[DI.ak];omega) [-O,-U,-N,-S,-List.map_map]) ?_;have fs:(aS u).length=7:=rfl;have hb:gx [Value.int IntKind.i64 0,Value.slice none 0 0,Value.slice none 0 0,Value.slice none 0 0,Value.slice none 0 0,Value.slice none 0 0,Value.slice none 0 0] 0 (aS u)=aS u:=by simp[gx,aS]
  have bt:List.take 7 (aS u)=aS u:=rfl;simp(disch:=first|omega|simp only[DI.ak];omega) [fs,hb,bt,-O,-U,-N,-S,-List.map_map];refine TR (by simp(disch:=first|omega|simp only[DI.ak];omega) [-O,-U,-N,-S,-List.map_map]) ?_;simp(disch:=first|omega|simp only[DI.ak];omega) [fs,bt,-O,-U,-N,-S,-List.map_map];refine⟨by simp[aS],TR (by simp(disch:=first|omega|simp only[DI.ak];omega) [Vw,-O,-U,-N,-S,-List.map_map]) ?_⟩;simp(disch:=first|omega|simp only[DI.ak];omega) [ac0,-O,-U,-N,-S,-List.map_map];exact⟨by simp[gx,aS],by simp[gx,aS],by simp[gx,aS]⟩
def Uv(m:W)(v:Value)(l:List Int):Prop:=(v= .slice none 0 0/\l=[])\/ ∃b o cs w,v= .slice (some ⟨b,o,none⟩) l.length 1/\m.Y b=some ⟨cs,w⟩/\(cs.drop o).take l.length=l.map Z/\o+l.length<=cs.length
theorem ahj{m:W}{bp:Value}{l:List Int}(aY:Uv m bp l)(aC:l.length<=1000000):fZ al 71 [bp] m λr an=>m.next<=an.next/\(∀b,b<m.next->an.Y b=m.Y b/\an.mp b=m.mp b)/\
    ((l.length=0/\l.map Z=[]/\r= .slice none 0 0)\/ ∃q,m.next<=q/\q<an.next/\r= .slice (some ⟨q,0,none⟩) l.length 1/\an.Y q=some ⟨l.map Z,true⟩):=by
  rcases aY with⟨rfl,rfl⟩|⟨b,o,cs,w,rfl,H,aq,aF⟩
  · rw[Va (by simp)];simp(disch:=first|omega|simp only[aE];omega) [GL,Lu,Lv]
  · have ee:=W.bm H;rw[Va (by simp)];by_cases c5:l.length=0
    · obtain rfl:=pF.1 c5;simp(disch:=first|omega|simp only[aE];omega) [GL,Lu,Lv,H];refine⟨by simpa using aF,λca ft=>⟨by simp(disch:=first|omega|simp only[aE];omega),rfl⟩,⟨m.next,by omega,by omega,rfl,by simp(disch:=first|omega|simp only[aE];omega)⟩⟩
    · simp(disch:=first|omega|simp only[aE];omega) [GL,Lu,Lv,H,c5];refine⟨⟨⟨aF,by omega⟩,by omega⟩,λca ft=>⟨by simp(disch:=first|omega|simp only[aE];omega),rfl⟩,m.next+2,by omega,by omega,rfl,by simp(disch:=first|omega|simp only[aE];omega) [aq]⟩
def tF(t:W)(v:Value)(l:List Int):Prop:=ku t 1 v=true/\kX t 1 v=l.map Z
theorem aj2: ∀{l:List Int} {u:fE} {K:eE} {ys:List Value},bj u K (l.map Z) ys->ys=l.map Z:= λ{l u K ys} h=>by
  apply DA;intro i;cases G:(l.map Z)[i]? with
  | none=>have:=List.getElem?_eq_none_iff.1 G;rw[rm (by rw[<-h.1];exact this)]
  | some x=>have ai:=(ek.1 G).1;obtain⟨y,ah⟩: ∃y,ys[i]?=some y:=⟨_,dx (by rw[<-h.1];exact ai)⟩;have ab:=h.2 i x y G ah;rw[qv,rl]at G;obtain⟨n,_,rfl⟩:=G;rw[ah,ab.p6]
theorem tF.at{K:eE}{u:fE}{t m:W}{v bp:Value}{l:List Int}(h:tF t v l)(M:dR K u t m)(ab:bW u K v bp):Uv m bp l:=by
  have D:=HV M ab h.1;have H:=I2 M ab h.1;rw[h.2]at H;have aq:=aj2 H;rcases AG D with rfl|⟨b,off,len,x,rfl,G,fJ⟩
  · refine .inl ⟨rfl,?_⟩;have:=congrArg List.length aq;simp[fV]at this;exact pF.1 this.symm
  · have ar:fV m 1 (.slice (some ⟨b,off,none⟩) len 1)=(x.cells.drop off).take len:=(by simp[fV,hf,G]);rw[ar]at aq;have eS:len=l.length:=by
      have:=congrArg List.length aq;rw[ni,List.length_drop,j8]at this;omega
    subst eS;exact .inr ⟨b,off,x.cells,x.own,rfl,G,aq,by omega⟩
theorem tF.inj{t:W}{v:Value}{l dj:List Int}(h:tF t v l)(bK:tF t v dj):l=dj:=by have:=h.2.symm.trans bK.2;exact List.map_inj_right (λa b e=>by simpa using e)|>.1 this
theorem tF.nil{t:W}:tF t (.slice none 0 0) []:=⟨rfl,rfl⟩
theorem tF.own{t:W}{o off n:Nat}{cs:List Value}{w:Bool}{l:List Int}(h:t.Y o=some ⟨cs,w⟩)(ax:off+n<=cs.length)(aC:(cs.drop off).take n=l.map Z):tF t (.slice (some ⟨o,off,none⟩) n 1) l:=
  ⟨by simp[ku,hC,fG,h,ax],by simp[kX,hC,fV,hf,h,aC]⟩
theorem ahk{t:W}{v:Value}{l:List Int}(h:tF t v l)(aC:l.length<=1000000):fQ al 71 [v] t λr aT=>r=e6 t.next l.length 1/\aT=(t.du 1).a4 t.next (some ⟨l.map Z,true⟩):=
  azv (by simp[dO]) λK u e1 m M az=>by obtain⟨bp,rfl,ab⟩:=az.m6;exact ahj (h.at M ab) aC
def E9(l:List Value):Option (List Int):=match l with
  |[]=>some []
  | .int .i64 n::l=>(match E9 l with
    |some k=>some (n::k)
    |none=>none)
  |_=>none
theorem Xt: ∀{cs:List Value} {l:List Int},E9 cs=some l->cs=l.map Z
  |[],l,h=>by cases h;rfl
  | .int .i64 n::cs,l,h=>by
    simp only[E9]at h;cases aa:E9 cs with
    |none=>rw[aa]at h;cases h
    |some k=>rw[aa]at h;cases h;rw[Xt aa];rfl
def Vq(k:Nat):lA:= λf args ae=>bif Nat.beq f k then(match args with
  | [v]=>if ku (cr ae) 1 v then(match E9 (kX (cr ae) 1 v)with
    | some l=>if Nat.ble l.length 1000000 then(match nE (A8 ae 1) ae.next (some ⟨l.map Z,true⟩)with
      |some cQ=>some (e6 ae.next l.length 1,cQ)
      |none=>none)else none
    |none=>none)else none
  |_=>none)else none
theorem I6:qw al (Vq 71):= λf args ae r cj aZ h=>by
  unfold Vq at h;cases hb:Nat.beq f 71 with
  |false=>rw[hb]at h;cases h
  | true=>
    rw[hb]at h;simp only[cond_true]at h;obtain rfl:=Nat.eq_of_beq_eq_true hb;split at h
    · next v=>
      split at h
      · next ao=>
        split at h
        · next l aC=>
          split at h
          · next ax=>
            split at h
            · next cQ rH=>cases h;obtain⟨cX,aL⟩:=x0 (aft aZ) rH;rw[adw aZ]at aL;refine⟨cX,?_⟩;rw[aL];exact ahk ⟨ao,Xt aC⟩ (by simpa using ax)
            · cases h
          · cases h
        · cases h
      · cases h
    · cases h
def Ds(x:bT):Bool:=decide (x∈HW)
theorem Ns{x:bT}(h:Ds x=true):x.cV:=by unfold Ds at h;rw[eM]at h;exact h
def RY(x:hS):Bool:=match x.e with
  |[⟨false,[1],[J]⟩]=>decide (2<=J)&&decide (J<200)&&decide (x.s=[⟨false,[1],[1]⟩])&&decide (x.cm=[[⟨false,[],[1]⟩]])
  |_=>false
theorem auQ{x:hS}(h:RY x=true):x.cV:=by
  obtain⟨eG,s,cm,e⟩:=x;unfold RY at h;split at h
  · rename_i J bh;simp only[aX,eM]at h;exact⟨J,h.1.1.1,h.1.1.2,h.1.2,h.2,bh⟩
  · cases h
def Sw(x:ic):Bool:=x.jt.all Ds&&decide (x.jt.length<=20)&&Ds x.oT&&Ds x.fj&&decide (x.bc.length<=20)
theorem awj{x:ic}(h:Sw x=true):ic.fN x:=by simp only[Sw,aX,eD,eM]at h;obtain⟨⟨⟨⟨D,H⟩,aq⟩,aF⟩,br⟩:=h;exact⟨⟨λr ay=>Ns (D r ay),by omega⟩,Ns aq,Ns aF,by omega⟩
def Hs(u:bl):Bool:=u.cB.all RY&&(u.a0.all λd=>Ds d.nJ)&&u.cx.all Sw&&decide (u.cB.length<=100)&&decide (u.bc.length<=100)&&decide (u.a0.length<=100)&&decide (u.a2.length<=100)&&decide (u.cx.length<=100)&&decide (u.cb.length<=100)
theorem SH{u:bl}(h:Hs u=true):bl.fN u:=by simp only[Hs,aX,eD,eM]at h;obtain⟨⟨⟨⟨⟨⟨⟨⟨D,H⟩,aq⟩,aF⟩,br⟩,cR⟩,fs⟩,hz⟩,ix⟩:=h;exact⟨λx G=>auQ (D x G),λx G=>Ns (H x G),λx G=>awj (aq x G),by omega,by omega,by omega,by omega,by omega,by omega⟩
def Sh(T:ByteArray):Bool:=decide (0<T.size/\T.size<=16/\nW (rr T 0)=true/\q8 lG T T.size 0=T.size)
theorem avO{T:ByteArray}(h:Sh T=true):m3 T=true:=Aj (by unfold Sh at h;unfold eG;exact of_decide_eq_true h)
def AN(l:List ByteArray):Bool:=l.all Sh&&decide l.Nodup
theorem H5{l:List ByteArray}(h:AN l=true):ej l=true:=by unfold AN at h;unfold ej;simp only[aX,eD]at h⊢;exact⟨λx G=>avO (h.1 x G),h.2⟩
def H8(u:bl):Bool:=dB u.ext 1 4&&(decide (u.cB.length<=4)&&(decide (u.bc.length<=4)&&(decide (u.a0.length<=40)&&(decide (u.a2.length<=24)&&(decide (u.cx.length<=4)&&(decide (u.cb.length<=12)&&(nn u.a0&&(u.cB.all hS.l6&&(u.bc.all (kq u.cB.length)&&(u.a2.all (kf u.bc.length u.a0)&&(u.cx.all (ib · u.bc.length)&&(u.cb.all (ng u.cx.length)&&(AN (u.cB.map (·.name))&&(AN (u.bc.map (·.name))&&(AN (u.a0.tail.map (·.name)++u.a2.map (·.name))&&(AN (u.cx.map (·.name))&&AN (u.cb.map (·.name))))))))))))))))))
theorem afm{u:bl}(h:H8 u=true):gf u=true:=by unfold H8 at h;unfold gf;simp only[aX]at h⊢;obtain⟨bw,bJ,cc,eI,fp,hv,jx,lf,tH,IF,agx,agy,agz,kP,nd,n8,Np,afg⟩:=h;exact⟨bw,bJ,cc,eI,fp,hv,jx,lf,tH,IF,agx,agy,agz,H5 kP,H5 nd,H5 n8,H5 Np,H5 afg⟩
theorem auK{u:bl}(h:Hs u=true)(ab:H8 u=true):bH al 62 [.agg (aS u).toArray] (.int .i64 0):=by have:=afn (SH h);rw[afm ab]at this;exact this
theorem auJ{u:bl}(h:Hs u=true)(ab:H8 u=true):bH al 87 [.agg (aS u).toArray] (.bool true):=by have:=aeB (SH h);rw[afm ab]at this;exact this
theorem RX{n d:Int}{x:bT}(h:lP n d)(G:fk n d=x):bH al 59 [Z n,Z d] (dp x):=by rw[<-G];exact VX h
section
set_option maxRecDepth 100000
def NY:bl:=⟨1,[⟨⟨#[108]⟩,[⟨false,[1],[1]⟩],[[⟨false,[],[1]⟩]],[⟨false,[1],[2]⟩]⟩],[⟨⟨#[109]⟩,2,1,0⟩],[⟨⟨#[]⟩,0,(-1),0,⟨false,[],[1]⟩⟩,⟨⟨#[97]⟩,1,0,1,⟨false,[],[1]⟩⟩,⟨⟨#[98]⟩,2,1,1,⟨false,[],[1]⟩⟩,⟨⟨#[99]⟩,3,2,1,⟨false,[],[1]⟩⟩,⟨⟨#[100]⟩,4,3,1,⟨false,[],[1]⟩⟩,⟨⟨#[101]⟩,4,3,1,⟨false,[],[1]⟩⟩,⟨⟨#[102]⟩,4,3,1,⟨false,[],[1]⟩⟩],[⟨⟨#[120]⟩,0,4⟩,⟨⟨#[121]⟩,0,5⟩,⟨⟨#[122]⟩,0,6⟩],[⟨⟨#[112]⟩,1,1,1,⟨0,0,0,0,0⟩,[0],[⟨false,[1],[1]⟩],⟨false,[],[1]⟩,⟨false,[],[1]⟩⟩],[⟨⟨#[118]⟩,0⟩]⟩
theorem UN:Hs NY=true:=by decide+kernel
theorem UO:H8 NY=true:=by decide+kernel
def DW:Value:= .agg #[.int .i64 1,au [[.string ⟨#[108]⟩,au [[.bool false,au [[.int .u32 1]] 1,au [[.int .u32 1]] 1]] 3,au [[au [[.bool false,au [] 1,au [[.int .u32 1]] 1]] 3]] 1,au [[.bool false,au [[.int .u32 1]] 1,au [[.int .u32 2]] 1]] 3]] 4,au [[.string ⟨#[109]⟩,.int .i64 2,.int .i64 1,.int .i64 0]] 4,au [[.string ⟨#[]⟩,.int .i64 0,.int .i64 (-1),.int .i64 0,.bool false,au [] 1,au [[.int .u32 1]] 1],[.string ⟨#[97]⟩,.int .i64 1,.int .i64 0,.int .i64 1,.bool false,au [] 1,au [[.int .u32 1]] 1],[.string ⟨#[98]⟩,.int .i64 2,.int .i64 1,.int .i64 1,.bool false,au [] 1,au [[.int .u32 1]] 1],[.string ⟨#[99]⟩,.int .i64 3,.int .i64 2,.int .i64 1,.bool false,au [] 1,au [[.int .u32 1]] 1],[.string ⟨#[100]⟩,.int .i64 4,.int .i64 3,.int .i64 1,.bool false,au [] 1,au [[.int .u32 1]] 1],[.string ⟨#[101]⟩,.int .i64 4,.int .i64 3,.int .i64 1,.bool false,au [] 1,au [[.int .u32 1]] 1],[.string ⟨#[102]⟩,.int .i64 4,.int .i64 3,.int .i64 1,.bool false,au [] 1,au [[.int .u32 1]] 1]] 7,au [[.string ⟨#[120]⟩,.int .i64 0,.int .i64 4],[.string ⟨#[121]⟩,.int .i64 0,.int .i64 5],[.string ⟨#[122]⟩,.int .i64 0,.int .i64 6]] 3,au [[.string ⟨#[112]⟩,.int .i64 1,.int .i64 1,.int .i64 1,.int .i64 0,.int .i64 0,.int .i64 0,.int .i64 0,.int .i64 0,au [[.int .i64 0]] 1,au [[.bool false,au [[.int .u32 1]] 1,au [[.int .u32 1]] 1]] 3,.bool false,au [] 1,au [[.int .u32 1]] 1,.bool false,au [] 1,au [[.int .u32 1]] 1]] 17,au [[.string ⟨#[118]⟩,.int .i64 0]] 2]
theorem UM:DW= .agg (aS NY).toArray:=by rfl
theorem agM:bH al 62 [DW] (.int .i64 0):=by rw[UM];exact auK UN UO
theorem agL:bH al 87 [DW] (.bool true):=by rw[UM];exact auJ UN UO
def agN:List (Nat×bS):=[(17,YT),(20,ZI),(21,ZM),(23,aaw),(25,aa1),(27,abq),(29,abF),(31,abG),(36,abO),(52,Lh),(63,acv),(64,GG),(65,GH),(68,acB),(72,acC),(74,acD),(75,acE),(78,GM),(79,acG),(81,acH),(82,acI),(83,acJ),(84,acK),(85,acL),(115,Fl),(116,J3),(117,XZ),(118,X0),(121,X1),(122,X2),(123,J5),(124,X6),(125,X7),(126,X8),(127,X9),(128,Ya),(129,Yb),(130,Yc),(131,Yd),(132,J7),(180,Kp),(182,Ze),(183,Zf),(184,Zg),(185,Zh),(186,Zi),(234,aaz),(235,aaA),(236,aaB)]
theorem IK:ID al agN:=⟨⟨⟨by kernel_rfl,amD⟩,by kernel_rfl⟩,⟨⟨⟨by kernel_rfl,anX⟩,by kernel_rfl⟩,⟨⟨⟨by kernel_rfl,aoi⟩,by kernel_rfl⟩,⟨⟨⟨by kernel_rfl,aph⟩,by kernel_rfl⟩,⟨⟨⟨by kernel_rfl,aqv⟩,by kernel_rfl⟩,⟨⟨⟨by kernel_rfl,art⟩,by kernel_rfl⟩,⟨⟨⟨by kernel_rfl,arw⟩,by kernel_rfl⟩,⟨⟨⟨by kernel_rfl,arI⟩,by kernel_rfl⟩,⟨⟨⟨by kernel_rfl,ar2⟩,by kernel_rfl⟩,⟨⟨⟨by kernel_rfl,abU⟩,by kernel_rfl⟩,⟨⟨⟨by kernel_rfl,asd⟩,by kernel_rfl⟩,⟨⟨⟨by kernel_rfl,acw⟩,by kernel_rfl⟩,⟨⟨⟨by kernel_rfl,acx⟩,by kernel_rfl⟩,⟨⟨⟨by kernel_rfl,asr⟩,by kernel_rfl⟩,⟨⟨⟨by kernel_rfl,asI⟩,by kernel_rfl⟩,⟨⟨⟨by kernel_rfl,asM⟩,by kernel_rfl⟩,⟨⟨⟨by kernel_rfl,asP⟩,by kernel_rfl⟩,⟨⟨⟨by kernel_rfl,acF⟩,by kernel_rfl⟩,⟨⟨⟨by kernel_rfl,asS⟩,by kernel_rfl⟩,⟨⟨⟨by kernel_rfl,ate⟩,by kernel_rfl⟩,⟨⟨⟨by kernel_rfl,aty⟩,by kernel_rfl⟩,⟨⟨⟨by kernel_rfl,atC⟩,by kernel_rfl⟩,⟨⟨⟨by kernel_rfl,atF⟩,by kernel_rfl⟩,⟨⟨⟨by kernel_rfl,atN⟩,by kernel_rfl⟩,⟨⟨⟨by kernel_rfl,XT⟩,by kernel_rfl⟩,⟨⟨⟨by kernel_rfl,XV⟩,by kernel_rfl⟩,⟨⟨⟨by kernel_rfl,akd⟩,by kernel_rfl⟩,⟨⟨⟨by kernel_rfl,akj⟩,by kernel_rfl⟩,⟨⟨⟨by kernel_rfl,aky⟩,by kernel_rfl⟩,⟨⟨⟨by kernel_rfl,akI⟩,by kernel_rfl⟩,⟨⟨⟨by kernel_rfl,X4⟩,by kernel_rfl⟩,⟨⟨⟨by kernel_rfl,akL⟩,by kernel_rfl⟩,⟨⟨⟨by kernel_rfl,alj⟩,by kernel_rfl⟩,⟨⟨⟨by kernel_rfl,alx⟩,by kernel_rfl⟩,⟨⟨⟨by kernel_rfl,alF⟩,by kernel_rfl⟩,⟨⟨⟨by kernel_rfl,alI⟩,by kernel_rfl⟩,⟨⟨⟨by kernel_rfl,alM⟩,by kernel_rfl⟩,⟨⟨⟨by kernel_rfl,alP⟩,by kernel_rfl⟩,⟨⟨⟨by kernel_rfl,alV⟩,by kernel_rfl⟩,⟨⟨⟨by kernel_rfl,Yf⟩,by kernel_rfl⟩,⟨⟨⟨by kernel_rfl,Za⟩,by kernel_rfl⟩,⟨⟨⟨by kernel_rfl,amL⟩,by kernel_rfl⟩,⟨⟨⟨by kernel_rfl,amT⟩,by kernel_rfl⟩,⟨⟨⟨by kernel_rfl,amV⟩,by kernel_rfl⟩,⟨⟨⟨by kernel_rfl,am5⟩,by kernel_rfl⟩,⟨⟨⟨by kernel_rfl,anj⟩,by kernel_rfl⟩,⟨⟨⟨by kernel_rfl,aoS⟩,by kernel_rfl⟩,⟨⟨⟨by kernel_rfl,aoV⟩,by kernel_rfl⟩,⟨⟨⟨by kernel_rfl,aoZ⟩,by kernel_rfl⟩,trivial⟩⟩⟩⟩⟩⟩⟩⟩⟩⟩⟩⟩⟩⟩⟩⟩⟩⟩⟩⟩⟩⟩⟩⟩⟩⟩⟩⟩⟩⟩⟩⟩⟩⟩⟩⟩⟩⟩⟩⟩⟩⟩⟩⟩⟩⟩⟩⟩⟩
def DX:o2:=[(59,[.int .i64 0,.int .i64 1],.agg #[.bool false,au [] 1,au [[.int .u32 1]] 1]),(59,[.int .i64 1,.int .i64 1],.agg #[.bool false,au [[.int .u32 1]] 1,au [[.int .u32 1]] 1]),(59,[.int .i64 1,.int .i64 2],.agg #[.bool false,au [[.int .u32 1]] 1,au [[.int .u32 2]] 1]),(62,[DW],.int .i64 0),(87,[DW],.bool true)]
theorem IL:tD al DX:=xS (RX (x:=⟨false,[],[1]⟩) (by unfold lP;decide) (by decide+kernel)) (xS (RX (x:=⟨false,[1],[1]⟩) (by unfold lP;decide) (by decide+kernel)) (xS (RX (x:=⟨false,[1],[2]⟩) (by unfold lP;decide) (by decide+kernel)) (xS (agM) (xS (agL) (ado)))))
def UQ:Value:= .agg #[.int .i64 12,.int .i64 0,.int .i64 1,au [[.int .i64 0,.int .i64 2,.int .i64 2,.int .i64 0],[.int .i64 2,.int .i64 3,.int .i64 2,.int .i64 0],[.int .i64 3,.int .i64 4,.int .i64 2,.int .i64 0],[.int .i64 4,.int .i64 5,.int .i64 2,.int .i64 0],[.int .i64 5,.int .i64 6,.int .i64 2,.int .i64 0],[.int .i64 5,.int .i64 7,.int .i64 2,.int .i64 0],[.int .i64 5,.int .i64 8,.int .i64 2,.int .i64 0],[.int .i64 6,.int .i64 9,.int .i64 1,.int .i64 0],[.int .i64 7,.int .i64 10,.int .i64 1,.int .i64 0],[.int .i64 8,.int .i64 11,.int .i64 1,.int .i64 0],[.int .i64 9,.int .i64 1,.int .i64 0,.int .i64 0],[.int .i64 10,.int .i64 1,.int .i64 2,.int .i64 0],[.int .i64 11,.int .i64 1,.int .i64 2,.int .i64 0]] 4]
def UR:Value:= .tuple #[au [[.int .i64 2],[.int .i64 2],[.int .i64 2],[.int .i64 2],[.int .i64 0],[.int .i64 1],[.int .i64 1],[.int .i64 0],[.int .i64 1],[.int .i64 1],[.int .i64 0],[.int .i64 1],[.int .i64 1]] 1,.int .i64 2,au [[.bool true],[.bool false],[.bool false],[.bool false],[.bool false],[.bool false],[.bool false],[.bool false],[.bool false],[.bool false],[.bool false],[.bool false]] 1,.int .i64 0]
theorem agI:bH al 125 [UQ] (UR):=Ei (Dj IK) (hG:=DX) IL I6 (n:=100000) (d:=80) (by kernel_rfl)
def US:Value:= .agg #[.int .i64 12,.int .i64 0,.int .i64 1,au [[.int .i64 0,.int .i64 2,.int .i64 2,.int .i64 0],[.int .i64 2,.int .i64 3,.int .i64 2,.int .i64 0],[.int .i64 3,.int .i64 4,.int .i64 2,.int .i64 0],[.int .i64 4,.int .i64 5,.int .i64 2,.int .i64 0],[.int .i64 5,.int .i64 6,.int .i64 2,.int .i64 0],[.int .i64 5,.int .i64 7,.int .i64 2,.int .i64 0],[.int .i64 5,.int .i64 8,.int .i64 2,.int .i64 0],[.int .i64 6,.int .i64 9,.int .i64 1,.int .i64 0],[.int .i64 7,.int .i64 10,.int .i64 1,.int .i64 0],[.int .i64 8,.int .i64 11,.int .i64 1,.int .i64 0],[.int .i64 9,.int .i64 1,.int .i64 0,.int .i64 0],[.int .i64 10,.int .i64 1,.int .i64 0,.int .i64 0],[.int .i64 11,.int .i64 1,.int .i64 2,.int .i64 0]] 4]
def UT:Value:= .tuple #[au [[.int .i64 1],[.int .i64 1],[.int .i64 1],[.int .i64 1],[.int .i64 0],[.int .i64 0],[.int .i64 1],[.int .i64 0],[.int .i64 0],[.int .i64 1],[.int .i64 0],[.int .i64 0],[.int .i64 1]] 1,.int .i64 1,au [[.bool true],[.bool false],[.bool true],[.bool true],[.bool true],[.bool true],[.bool true],[.bool true],[.bool true],[.bool true],[.bool true],[.bool false]] 1,.int .i64 0]
theorem agJ:bH al 125 [US] (UT):=Ei (Dj IK) (hG:=DX) IL I6 (n:=100000) (d:=80) (by kernel_rfl)
def UU:Value:= .agg #[.int .i64 12,.int .i64 0,.int .i64 1,au [[.int .i64 0,.int .i64 2,.int .i64 2,.int .i64 0],[.int .i64 2,.int .i64 3,.int .i64 2,.int .i64 0],[.int .i64 3,.int .i64 4,.int .i64 2,.int .i64 0],[.int .i64 4,.int .i64 5,.int .i64 2,.int .i64 0],[.int .i64 5,.int .i64 6,.int .i64 2,.int .i64 0],[.int .i64 5,.int .i64 7,.int .i64 2,.int .i64 0],[.int .i64 5,.int .i64 8,.int .i64 2,.int .i64 0],[.int .i64 6,.int .i64 9,.int .i64 1,.int .i64 0],[.int .i64 7,.int .i64 10,.int .i64 1,.int .i64 0],[.int .i64 8,.int .i64 11,.int .i64 1,.int .i64 0],[.int .i64 9,.int .i64 1,.int .i64 2,.int .i64 0],[.int .i64 10,.int .i64 1,.int .i64 0,.int .i64 0],[.int .i64 11,.int .i64 1,.int .i64 2,.int .i64 0]] 4]
def UW:Value:= .tuple #[au [[.int .i64 2],[.int .i64 2],[.int .i64 2],[.int .i64 2],[.int .i64 1],[.int .i64 0],[.int .i64 1],[.int .i64 1],[.int .i64 0],[.int .i64 1],[.int .i64 1],[.int .i64 0],[.int .i64 1]] 1,.int .i64 2,au [[.bool true],[.bool false],[.bool false],[.bool false],[.bool false],[.bool false],[.bool false],[.bool false],[.bool false],[.bool false],[.bool false],[.bool false]] 1,.int .i64 0]
theorem agK:bH al 125 [UU] (UW):=Ei (Dj IK) (hG:=DX) IL I6 (n:=100000) (d:=80) (by kernel_rfl)
def UP:o2:=[(125,[UQ],UR),(125,[US],UT),(125,[UU],UW)]++DX
theorem agO:tD al UP:=xS agI (xS agJ (xS agK (IL)))
theorem agP:bH al 17 [] (.bool true):=Ei (Dj IK) (hG:=UP) agO I6 (n:=100000) (d:=80) (by kernel_rfl)
end
def qc:Value:= .agg #[.int .i64 0,.slice none 0 0,.slice none 0 0,.slice none 0 0,.slice none 0 0,.slice none 0 0,.slice none 0 0]
theorem avN{u:fE}{K:eE}{args ck:List Value}(h:bj u K (qc::args) ck):bj u K (.agg (aS bl.nil).toArray::args) ck:=by
  refine⟨h.1,λi x y G ah=> ?_⟩;cases i with
  |succ i=>exact h.2 (i+1) x y G ah
  | zero=>
    simp at G;subst G;have c5:=h.2 0 qc y rfl ah;obtain⟨ys,rfl,aC⟩:=c5.qV;have a3:ys.toList=[.int .i64 0,.slice none 0 0,.slice none 0 0,.slice none 0 0,.slice none 0 0,.slice none 0 0,.slice none 0 0]:=by
      have ix: ∀{xs ys:List Value},bj u K xs ys->xs.all dO=true->ys=xs:= λ{xs}=>by
        induction xs with
        |nil=>intro ys h _;exact pF.1 h.1.symm
        | cons x xs cn=>
          intro ys h a3;cases ys with
          |nil=>have:=h.1;simp at this
          | cons y ys=>simp only[mK,aX]at a3;have h1:=(h.2 0 x y rfl rfl).hB a3.1;rw[h1,cn (ys:=ys) ⟨by simpa using h.1,λi a b p q=>h.2 (i+1) a b (by simpa using p) (by simpa using q)⟩ a3.2]
      exact ix aC (by decide)
    have e:ys= #[.int .i64 0,.slice none 0 0,.slice none 0 0,.slice none 0 0,.slice none 0 0,.slice none 0 0,.slice none 0 0]:=AU.1 a3;subst e;exact bj.agg (bj.cons (.cv rfl) (bj.cons (.hj rfl) (bj.cons (.hj rfl) (bj.cons (.hj rfl) (bj.cons (.hj rfl) (bj.cons (.hj rfl) (bj.cons (.hj rfl) bj.nil)))))))
theorem ayR{f:Nat}{args:List Value}{r:Value}(h:bH al f (.agg (aS bl.nil).toArray::args) r):bH al f (qc::args) r:= λu m ck dn az=>h u m ck dn (avN az)
theorem ay6:gf bl.nil=false:=by simp[gf,bl.nil,dB]
noncomputable def ayx{P:Program}(a b:bz P)(h:b.f=a.f):bz P:=⟨a.f,λargs=>match a.fn args with
  |some r=>some r
  | none=>b.fn args,λargs r ay=>by
    cases az:a.fn args with
    |some dF=>rw[az]at ay;cases ay;exact a.ok args r az
    |none=>rw[az]at ay;have:=b.ok args r ay;rw[h]at this;exact this⟩
noncomputable def Ti:bz al:= .dM 115 Unit (λ_=>True) (λ_=>[qc]) (λ_=> .bool false) λ_ _=>ayR (by have:=aef (SH (u:=bl.nil) (by decide));rw[ay6]at this;exact this)
@[simp] theorem aJ8:Ti.f=115:=rfl
@[simp] theorem aJ9:Ti.fn [.agg #[.int .i64 0,.slice none 0 0,.slice none 0 0,.slice none 0 0,.slice none 0 0,.slice none 0 0,.slice none 0 0]]=some (.bool false):=bz.eu (x:=()) trivial λ_ _=>rfl
theorem ayl{L:List (List Int)}:bH al 86 [qc,gS L] (.bool false):=by refine ed (dL (aB:=⟨[Ti],[]⟩) acM (by kernel_rfl) (by simp[Cr]) ?_);simp(disch:=first|omega|simp only[DI.ak];omega) [Cr,Lx,Ly,RI,zM,qc,-O,-U,-N,-S,-List.map_map]
noncomputable def Tg:bz al:= .dM 86 (List (List Int)) (λ_=>True) (λL=>[qc,gS L]) (λ_=> .bool false) λ_ _=>ayl
@[simp] theorem aJ2:Tg.f=86:=rfl
@[simp] theorem aJ3{L:List (List Int)}:Tg.fn [.agg #[.int .i64 0,.slice none 0 0,.slice none 0 0,.slice none 0 0,.slice none 0 0,.slice none 0 0,.slice none 0 0],au (L.map hP) 1]=some (.bool false):=bz.eu (x:=L) trivial λy ah=>by simpa using ah
theorem ahN{L:List (List Int)}{n:Int}:bH al 33 [qc,gS L,Z n] (.bool false):=by refine ed (dL (aB:=⟨[Tg],[]⟩) abH (by kernel_rfl) (by simp[zy]) ?_);simp(disch:=first|omega|simp only[DI.ak];omega) [zy,Gk,Gl,Q8,Q9,Gm,qc,-O,-U,-N,-S,-List.map_map]
noncomputable def C3:bz al:= .dM 33 (List (List Int)×Int) (λ_=>True) (λx=>[qc,gS x.1,Z x.2]) (λ_=> .bool false) λ_ _=>ahN
theorem axE{L:List (List Int)}{n:Int}:C3.fn [qc,gS L,Z n]=some (.bool false):=bz.eu (x:=(L,n)) trivial λ⟨qs,ly⟩ ah=>by simpa using ah
theorem axF{u:bl}{args:List Value}:C3.fn (.agg (aS u).toArray::args)=none:=by unfold C3 bz.dM;simp only;rw[dif_neg];rintro⟨x,_,G⟩;simp[qc,aS,au]at G
noncomputable def C4(u:bl)(h:fY u):bz al:=ayx C3 (HK u h) rfl
@[simp] theorem aIK{u:bl}{h:fY u}:(C4 u h).f=33:=rfl
@[simp] theorem aIL{u:bl}{h:fY u}{L:List (List Int)}{n:Int}(cS:kV L):(C4 u h).fn [.agg #[Z u.ext,au (u.cB.map gF) 4,au (u.bc.map gK) 4,au (u.a0.map dU) 7,au (u.a2.map gn) 3,au (u.cx.map eY) 17,au (u.cb.map g0) 2],au (L.map hP) 1,Z n]=some (.bool (pW u L n)):=by
  have D:=axF (u:=u) (args:=[gS L,Z n]);have H:=axG (u:=u) (h:=h) (n:=n) cS;show(match C3.fn (.agg (aS u).toArray::[gS L,Z n])with
    |some r=>some r
    |none=>(HK u h).fn (.agg (aS u).toArray::[gS L,Z n]))=_
  rw[D];exact H
@[simp] theorem aIM{u:bl}{h:fY u}{L:List (List Int)}{n:Int}:(C4 u h).fn [.agg #[.int .i64 0,.slice none 0 0,.slice none 0 0,.slice none 0 0,.slice none 0 0,.slice none 0 0,.slice none 0 0],au (L.map hP) 1,Z n]=some (.bool false):=by
  have D:=axE (L:=L) (n:=n);show(match C3.fn [qc,gS L,Z n]with
    |some r=>some r
    |none=>(HK u h).fn [qc,gS L,Z n])=_
  rw[D]
noncomputable def HD:bz al:= .dM 17 Unit (λ_=>True) (λ_=>[]) (λ_=> .bool true) λ_ _=>agP
@[simp] theorem aIA:HD.f=17:=rfl
@[simp] theorem aIB:HD.fn []=some (.bool true):=bz.eu (x:=()) trivial λ_ _=>rfl
theorem ahM{u:bl}{L:List (List Int)}(M:mC u L=true){d:Nat}(aA:d<u.a2.length):pW u L ((u.a0.length:Int)+d)=decide (((jI L d:Nat):Int)=0):=by
  have ax:m4 u ((u.a0.length:Int)+d)=true:=by simp[m4];omega
  have hb:kW u ((u.a0.length:Int)+d)=[(d:Int)]:=by unfold kW;rw[if_pos (by omega)];congr 1;omega
  rw[Oq M ax,hb];by_cases c:(d:Int)∈L.flatten
  · rw[OC c (by simp)];have:=List.count_pos_iff.2 c;rw[tA];unfold jI;omega
  · rw[OD (λx G=>by simp;rintro rfl;exact c G)];have:=List.count_eq_zero.2 c;rw[decide_eq_true];unfold jI;omega
theorem ahx{l:List Int}(aC:l.length<=140737488355328){kJ:Int}{raw:List (List Int)}(mz:raw.length<=140737488355328)(ay: ∀r∈raw,r.length<=140737488355328):bH al 8 [dG l,Z kJ,gS raw] (.bool true):=by
  obtain⟨u,L,R,aLV,bw,c8,dX,bN,cI,gl,avl⟩:=avn aC;have a3:=adi bw (by decide);have aiu:=av5 (u:=u) (L:=L);have ajC:=av6 (u:=u) (L:=L);have hW:=a3.ok.kr;have k1:=a3.ok.mz;refine ed (dL (aB:=⟨[HD,C4 u a3,HM u a3,Az u a3,HO],[]⟩) atV (by kernel_rfl) (by simp[Lw]) ?_);by_cases az:raw.length<=20
  case neg=>have D:(20:Int)<raw.length:=(by omega);simp(disch:=first|omega|simp only[DI.ak];omega) [Lw,RL,RM,D,-O,-U,-N,-S,-List.map_map]
  have D: ¬(20:Int)<raw.length:=by omega
  simp(disch:=first|omega|simp only[DI.ak];omega) [Lw,RL,RM,acO,D,-O,-U,-N,-S,-List.map_map];refine hI (aB:=⟨[HD,C4 u a3,HM u a3,Az u a3,HO],[]⟩) (λi z t=>z 0=dG l/\z 1=Z kJ/\z 2=gS raw/\z 7=Z i/\ ∀j r,j<i->raw[j]?=some r->r.length<=20) raw.length ?_ ?_ 0 _ _ (ho _) ⟨by simp,by simp,by simp,by simp,λj r bx=>absurd bx (se _)⟩
  · rintro i z t ai ⟨c9,bb,dS,dW,gp⟩ cK bk;obtain⟨r,G⟩:=iW ai;have eh:=(ek.1 G).2;have bU:(i:Int)<raw.length:=(by omega);have b7:=gT (n:=i) (by omega);by_cases bN:(20:Int)<r.length
    · simp(disch:=first|omega|simp only[DI.ak];omega) [LQ,LL,LM,LN,LO,LP,zP,hP,dS,dW,bU,eh,bN,-O,-U,-N,-S,-List.map_map]
    · simp(disch:=first|omega|simp only[DI.ak];omega) [LQ,LL,LM,LN,LO,LP,zP,hP,dS,dW,bU,eh,bN,b7,-O,-U,-N,-S,-List.map_map];refine bk _ _ ⟨by simp[c9],by simp[bb],by simp[dS],by simp,λj dF bx hi=> ?_⟩;by_cases e:j=i
      · subst e;rw[G]at hi;cases hi;omega
      · exact gp j dF (by omega) hi
  · rintro z t ⟨c9,bb,dS,dW,gp⟩;have aEN:kV raw:=⟨by omega,λr ay=>by
      obtain⟨j,bx,rfl⟩:=kx ay;have:=gp j _ bx (dx bx);omega⟩
    simp(disch:=first|omega|simp only[DI.ak];omega) [LQ,LL,LM,c9,dS,dW,-O,-U,-N,-S,-List.map_map];refine(avl _).cd λv bO ⟨ab,aM⟩=> ?_;subst ab;have Mh:t.next+5<bO.next:=by have:=bm aM;simp only[xU]at this;omega
    clear aM;have ix:(aS u++[gS L,dG R]).length=9:=rfl;have aiC:gx [Value.int IntKind.i64 0,Value.slice none 0 0,Value.slice none 0 0,Value.slice none 0 0,Value.slice none 0 0,Value.slice none 0 0,Value.slice none 0 0,Value.slice none 0 0,Value.slice none 0 0] 0 (aS u++[gS L,dG R])=aS u++[gS L,dG R]:=(by simp[gx,aS]);simp(disch:=first|omega|simp only[DI.ak];omega) [ix,aiC,-O,-U,-N,-S,-List.map_map];obtain⟨o,aD⟩: ∃o,o=t.next+5:=⟨_,rfl⟩
    rw[<-aD]at Mh⊢;have aEk:=aiu a3 c8 dX;have aiy:=ajC c8 dX;have mH:IntKind.i64.wrap ((u.a0.length:Int)+u.a2.length)=(u.a0.length:Int)+u.a2.length:=fl (by omega) (by omega);have tq:IntKind.i64.wrap ((u.a0.length:Int)+u.a2.length+1)=(u.a0.length:Int)+u.a2.length+1:=fl (by omega) (by omega);have aie:aS u++[gS L,dG R]=[Z u.ext,au (u.cB.map gF) 4,au (u.bc.map gK) 4,au (u.a0.map dU) 7,au (u.a2.map gn) 3,au (u.cx.map eY) 17,au (u.cb.map g0) 2,gS L,dG R]:=rfl;rw[aie];obtain⟨iB,JT⟩: ∃iB,iB=bO.a4 o (some ⟨[Z u.ext,au (u.cB.map gF) 4,au (u.bc.map gK) 4,au (u.a0.map dU) 7,au (u.a2.map gn) 3,au (u.cx.map eY) 17,au (u.cb.map g0) 2,gS L,dG R],true⟩):=⟨_,rfl⟩;have a8:iB.Y o=some ⟨[Z u.ext,au (u.cB.map gF) 4,au (u.bc.map gK) 4,au (u.a0.map dU) 7,au (u.a2.map gn) 3,au (u.cx.map eY) 17,au (u.cb.map g0) 2,gS L,dG R],true⟩:=(by rw[JT,eZ Mh]);rw[<-JT];have iP:=bm a8;have Mq:(u.a0.length:Int)+u.a2.length+1<=1000000:=(by omega);simp(disch:=first|omega|simp only[DI.ak];omega) [LN,LO,LP,bb,a8,mH,tq,-O,-U,-N,-S,-List.map_map];refine hI (aB:=⟨[HD,C4 u a3,HM u a3,Az u a3,HO],[]⟩) (λi z t=>t.Y o=some ⟨[Z u.ext,au (u.cB.map gF) 4,au (u.bc.map gK) 4,au (u.a0.map dU) 7,au (u.a2.map gn) 3,au (u.cx.map eY) 17,au (u.cb.map g0) 2,gS L,dG R],true⟩/\z 1=Z kJ/\z 2=gS raw/\z 8=cD o/\z 10=Z (oG kJ ((u.a0.length:Int)+u.a2.length+1))/\z 11= .bool true/\z 12=Z i) u.a2.length ?_ ?_ 0 _ _ (ho _) ⟨a8,by simp[bb],by simp[dS],by simp,by simp,by simp,by simp⟩
    · rintro i z t ai ⟨g,bb,dS,b1,j5,uB,tg⟩ cK bk;have au4:=bm g;have bU:(i:Int)<u.a2.length:=(by omega);have b7:=gT (n:=i) (by omega);have cX:IntKind.i64.wrap ((u.a0.length:Int)+i)=(u.a0.length:Int)+i:=fl (by omega) (by omega);have vQ:(mZ u L).length=u.a2.length:=Me;have a7:(i:Int)<(mZ u L).length:=(by omega);have aiW:i<(mZ u L).length:=(by omega);have G:(mZ u L)[i]?=some ((jI L i:Nat):Int):=(by rw[G3,x4 ai]);have eh:(mZ u L)[i]=((jI L i:Nat):Int):=(ek.1 G).2;have bh:=ahM (u:=u) (L:=L) aiy ai;by_cases c:jI L i=0
      · have D4:((jI L i:Nat):Int)=0:=(by omega);rw[decide_eq_true D4]at bh;simp(disch:=first|omega|simp only[DI.ak];omega) [LR,GS,zP,b1,uB,tg,g,bU,b7,cX,vQ,eh,bh,c,-O,-U,-N,-S,-List.map_map];exact bk _ _ ⟨g,by simp[bb],by simp[dS],by simp[b1],by simp[j5],by simp,by simp⟩
      · have D4: ¬((jI L i:Nat):Int)=0:=(by omega);rw[tA D4]at bh;simp(disch:=first|omega|simp only[DI.ak];omega) [LR,GS,zP,b1,uB,tg,g,bU,b7,cX,vQ,eh,bh,c,-O,-U,-N,-S,-List.map_map];exact bk _ _ ⟨g,by simp[bb],by simp[dS],by simp[b1],by simp[j5],by simp,by simp⟩
    · rintro z t ⟨g,bb,dS,b1,j5,uB,tg⟩;have au4:=bm g;simp(disch:=first|omega|simp only[DI.ak];omega) [LR,GS,zP,zP,GS,bb,dS,b1,j5,uB,tg,g,-O,-U,-N,-S,-List.map_map]
abbrev CE:fc:= .slice (.int .i64)
abbrev CZ:fc:= .slice (.slice (.int .i64))
theorem atZ(d:CE.cE):A5 CE d=dG (nj (e:= .int .i64) d):=rfl
theorem aw5(d:CZ.cE):A5 CZ d=gS (nj (e:= .slice (.int .i64)) d):=rfl
theorem aj0(d:(fc.int .i64).cE):A5 (.int .i64) d=Z d:=rfl
theorem RZ{e:fc}{l:List e.cE}(h:xZ (.slice e) l):l.length<=140737488355328:=by have:=e.au6 h.1;simp only[reachBytes]at this;exact jv this (by omega)
theorem at0{d:CE.cE}(h:xZ CE d):(nj (e:= .int .i64) d).length<=140737488355328:=RZ (e:= .int .i64) h
theorem aeu{d:CZ.cE}(h:xZ CZ d):(nj (e:= .slice (.int .i64)) d).length<=140737488355328/\ ∀r∈nj (e:= .slice (.int .i64)) d,r.length<=140737488355328:=
  ⟨RZ (e:= .slice (.int .i64)) h,λr ay=>RZ (e:= .int .i64) (h.2 r ay)⟩
theorem ahw(m:W)(e1:List Value)(h:sg m [CE,.int .i64,CZ] e1):fZ al 8 e1 m λr _=>r= .bool true:=by
  refine auS (λts bt=> ?_) m e1 h;cases bt with
  | @cons _ d _ ck ok M=>
    cases M with
    | @cons _ pU _ yn av2 tW=>
      cases tW with
      | @cons _ gM _ azg adP hA=>cases hA;rw[atZ,aw5,aj0];exact ahx (at0 ok) (aeu adP).1 (aeu adP).2
end Go.Proofs.YtmmkkggfmigppaaGreat
namespace Go.Proofs.YtmmkkggfmigppaaGreat.drainEmptyDone
open Go.ChangeShapes Go.WideShapes Go.ChangeAt Go.RowKit
section
theorem own:ownKnob Tryz.prog.godebug=none:=by kernel_rfl
theorem laidOut:laidOutB Tryz.prog=true:=by kernel_rfl
theorem mixed:Tryz.prog.follows .mixedOrders=true:=by kernel_rfl
set_option maxRecDepth 100000 in
theorem lifted(os:Os)(TF:os.Started)(jT:Type)(enc:TypeId×Value->jT):
    ReturnsInHanded {} Tryz.checked os 8 .any (Rows.drainEmptySpec.pre6 enc Tryz.prog Tryz.f8 Rows.drainEmptyRow.domain false) (Rows.drainEmptySpec.post enc Tryz.prog Tryz.f8 false true false false):=by
  refine returnsInHanded_of_change_sized (C:=Tryz.checked) own TF (by kernel_rfl) Tryz.func8
    (ChangeSpec.witness6 (enc:=enc) (C:=Tryz.checked) false ⟨#[],#[.slice none 0 0,.int .i64 0,.slice none 0 0],[]⟩ 8 (by kernel_rfl) (by kernel_rfl) (by kernel_rfl) (by kernel_rfl)) ?_
  intro fe base args ds Wj U2 Xa w4 aEx ajF _;have xi: ∀(j:Nat) t v,Tryz.f8.params[j]?=some t->args[j]?=some v->Value.okWide Tryz.prog fe .any base t v:=Xa;have aiz:=w4;obtain⟨p,q,Wk,Bp,rfl,WB,hW⟩:=w4;have aiU:Wj=[]:=(trodVars_none Bp).1;have mU: ∀n∈DataW.weightsEach Tryz.prog Tryz.f8.params.toList ds,n<=reachBytes:= λn ax=>by have iL:(DataW.weightsEach Tryz.prog (Tryz.f8.params.toList++Rows.drainEmptySpec.plain.varTypes Tryz.prog) (ds++Wj)).all (· <=reachBytes)=true:=ajF;have:=eD.1 iL n (by rw[aiU];simpa[Rows.drainEmptySpec,ChangeSpec.plain,DataSpec.varTypes]using ax);simpa using this
  have vj:DataW.TrodAll enc Tryz.prog fe 0 (λ_=>true) true Tryz.f8.params.toList args.toList ds p:=Wk;have JG:=Go.DI.auR (f:=8) (n:=12) mixed (ts:=Tryz.f8.params.toList) (kv:=[CE,.int .i64,CZ]) (by kernel_rfl) (λj t v D H=>xi j t v (by simpa using D) H) vj mU (λm e1 h=>ahw m e1 h);rw[Tryz.params8]at vj xi;obtain⟨qo,aMU,aDz,aDA,oI,bU,aEq,rfl,rfl,c5,l7⟩:=trodAll_cons vj;obtain⟨AO,aMV,gZ,yH,fS,a7,rfl,rfl,rfl,D,fC⟩:=trodAll_cons l7;obtain⟨uN,azg,gM,VE,gV,bD,rfl,rfl,rfl,H,g3⟩:=trodAll_cons fC;obtain⟨rfl,rfl,rfl⟩:=trodAll_nil g3;obtain rfl:args= #[qo,AO,uN]:=by cases args;simp_all
  obtain⟨rfl,rfl⟩:=trodVars_none Bp;have avf: ∀x∈oI,x.block<fe.heap.size:=by obtain⟨m,aw⟩:=c5;exact DataW.trod_lt m _ _ _ aw
  have Mh: ∀x∈fS,x.block<fe.heap.size:=by obtain⟨m,aw⟩:=D;exact DataW.trod_lt m _ _ _ aw
  have avg: ∀x∈gV,x.block<fe.heap.size:=by obtain⟨m,aw⟩:=H;exact DataW.trod_lt m _ _ _ aw
  clear Wk Xa;refine JG.mono λe aAB ⟨bh,IM⟩=> ?_;subst bh;exact⟨_,rfl,_,_,_,[],_,[],aiz,trodAll_mk1 (shut_bool (by kernel_rfl) _),(trodAll_cons_mk (Below.trod laidOut (by kernel_rfl) (of_decide_eq_true (by kernel_rfl)) c5 IM avf) (trodAll_cons_mk (Below.trod laidOut (by kernel_rfl) (of_decide_eq_true (by kernel_rfl)) D IM Mh) (trodAll_cons_mk (Below.trod laidOut (by kernel_rfl) (of_decide_eq_true (by kernel_rfl)) H IM avg) trodAll_mk0))),rfl,IM.frame _,λh=>by cases h⟩
set_option maxRecDepth 10000
theorem iV{a b:Bool}(h:a=true)(bK:b=true):(a&&b)=true:=by rw[h,bK];rfl
theorem at5:(Rows.drainEmptyRow.wf (OpenSpec.ofChange Rows.drainEmptySpec))=true:=by kernel_rfl
theorem at6:(laidOutB Tryz.pinned.checked.prog)=true:=by kernel_rfl
theorem auh:(mapsRowed Tryz.pinned.checked.prog)=true:=by kernel_rfl
theorem aus:(Tryz.f8.params.all (Tryz.pinned.checked.prog.readableRec ·))=true:=by kernel_rfl
theorem auv:(namedTie Tryz.pinned.checked.prog Rows.drainEmptyRow.named Rows.drainEmptySpec.vars)=true:=by kernel_rfl
theorem auw:((Rows.drainEmptyRow.stops==[]))=true:=by kernel_rfl
theorem auy:((Tryz.pinned.checked.prog.stops==[]))=true:=by kernel_rfl
theorem auz:((Rows.drainEmptyRow.knobs==[]))=true:=by kernel_rfl
theorem auA:((Tryz.pinned.checked.prog.stopKnobs==[]))=true:=by kernel_rfl
theorem auB:((Rows.drainEmptyRow.inPlace==Tryz.pinned.checked.prog.inPlace 8))=true:=by kernel_rfl
theorem at7:((Rows.drainEmptyRow.unfollowed==Tryz.pinned.checked.prog.unfollowed 8))=true:=by kernel_rfl
theorem at8:((Rows.drainEmptyRow.recurses==Tryz.pinned.checked.prog.recurses 8))=true:=by kernel_rfl
theorem at9:((Rows.drainEmptyRow.named==Tryz.pinned.checked.prog.varsNamed 8))=true:=by kernel_rfl
theorem aua:((Rows.drainEmptyRow.maps==(Tryz.f8.params.toList++Rows.drainEmptySpec.plain.varTypes Tryz.pinned.checked.prog).any (Tryz.pinned.checked.prog.mapsRec ·)))=true:=by kernel_rfl
theorem aub:((Rows.drainEmptyRow.ifaces==(Tryz.f8.params.toList++Rows.drainEmptySpec.plain.varTypes Tryz.pinned.checked.prog).any (Tryz.pinned.checked.prog.ifacesRec ·)))=true:=by kernel_rfl
theorem auc:((Rows.drainEmptyRow.mapsOut==Tryz.pinned.checked.prog.mapsAmong Tryz.f8.resultTypes.toList))=true:=by kernel_rfl
theorem aud:((Rows.drainEmptyRow.loops==(Tryz.f8.params.toList++Rows.drainEmptySpec.plain.varTypes Tryz.pinned.checked.prog).any (Tryz.pinned.checked.prog.loopsFrom ·)))=true:=by kernel_rfl
theorem aue:((Rows.drainEmptyRow.wideKeys==(Tryz.f8.params.toList++Rows.drainEmptySpec.plain.varTypes Tryz.pinned.checked.prog++Tryz.f8.resultTypes.toList).any (Tryz.pinned.checked.prog.wideKeysFrom ·)))=true:=by kernel_rfl
theorem auf:(Rows.drainEmptySpec.vars.all (Tryz.pinned.checked.prog.varReadable ·))=true:=by kernel_rfl
theorem aug:(Tryz.f8.resultTypes.all (λt=>Tryz.pinned.checked.prog.readableRec t&&decide (t<Tryz.pinned.checked.prog.types.size)))=true:=by kernel_rfl
theorem aui:((Rows.drainEmptyRow.ifacesOut==Tryz.f8.resultTypes.toList.any (Tryz.pinned.checked.prog.ifacesRec ·)))=true:=by kernel_rfl
theorem auj:((Rows.drainEmptyRow.loopsOut==Tryz.f8.resultTypes.toList.any (Tryz.pinned.checked.prog.loopsFrom ·)))=true:=by kernel_rfl
theorem auk:((Rows.drainEmptyRow.plainKeys==Tryz.pinned.checked.prog.plainKeys))=true:=by kernel_rfl
theorem aul:(Rows.drainEmptyRow.shortTexts.isNone)=true:=by kernel_rfl
theorem aum:(Tryz.pinned.checked.prog.stopsHeard)=true:=by kernel_rfl
theorem aun:(Tryz.pinned.checked.prog.mayEnter)=true:=by kernel_rfl
theorem auo:((Rows.drainEmptyRow.lifted==Tryz.pinned.checked.prog.liftsFinal))=true:=by kernel_rfl
theorem aup:((Tryz.pinned.checked.prog.make==some Rows.drainEmptyRow.make))=true:=by kernel_rfl
theorem auq:((Rows.drainEmptyRow.kinds==(if Rows.drainEmptyRow.domain.isEmpty then[]else Tryz.f8.params.toList.map λt=>match Tryz.pinned.checked.prog.underlying t with|some (.int k)=>some k|_=>none)))=true:=by kernel_rfl
theorem aur:((Rows.drainEmptyRow.pinned==Rows.drainEmptyRow.pinnedBy))=true:=by kernel_rfl
theorem aut:((Rows.drainEmptyRow.veiled==(Tryz.f8.params.toList++Rows.drainEmptySpec.plain.varTypes Tryz.pinned.checked.prog++Tryz.f8.resultTypes.toList).any (Tryz.pinned.checked.prog.veiledRec ·)))=true:=by kernel_rfl
theorem auu:(Rows.drainEmptyRow.veiledFits Tryz.pinned.checked.prog Tryz.f8.params.toList (Tryz.f8.params.toList++Rows.drainEmptySpec.plain.varTypes Tryz.pinned.checked.prog++Tryz.f8.resultTypes.toList))=true:=by kernel_rfl
theorem auC:joinedFacts Tryz.pinned.checked.prog 8 Tryz.f8 Rows.drainEmptySpec Rows.drainEmptyRow=true:=(iV (iV (iV (iV (iV (iV (iV (iV (iV (iV (iV (iV (iV (iV (iV (iV (iV (iV (iV (iV (iV (iV (iV (iV (iV (iV (iV (iV (iV (iV (iV at5 at6) auh) aus) auv) auw) auy) auz) auA) auB) at7) at8) at9) aua) aub) auc) aud) aue) auf) aug) aui) auj) auk) aul) aum) aun) auo) aup) auq) aur) aut) auu)
theorem over:Rows.drainEmptyRow.holds Tryz.pinned (OpenSpec.ofChange Rows.drainEmptySpec):=
  OpenClaim.holds_of_wide 8 Tryz.f8 rfl rfl rfl rfl rfl rfl rfl ⟨rfl,rfl,rfl,rfl,rfl⟩ rfl rfl rfl rfl rfl (by kernel_rfl) Tryz.func8 auC
    (of_decide_eq_true (by kernel_rfl)) (by unfold Func.isWrapper;first|(rw[if_pos (by decide+kernel)];kernel_rfl)|(rw[if_neg (by decide+kernel)];exact⟨rfl,rfl⟩))
    (λos TF jT enc _=>lifted os TF jT enc)
theorem proved:Rows.DrainEmptySaid:=over
#print axioms proved
end
end Go.Proofs.YtmmkkggfmigppaaGreat.drainEmptyDone
