/-
  A part of the proof, shortened by tools of ours.
-/
import Derived.MapKept
import Derived.Test.YtmmkkggfmigppaaGreatZbc
set_option linter.all false
set_option maxRecDepth 8000
set_option maxHeartbeats 16000000
namespace Go.DI
open Go Go.RowKit
def lX.yA:lX->TypeDesc
 | .int k=> .int k
 | .str=> .string
theorem anN{eX:lX}{v:Value}(h:pY eX v=true):MapKept.IsKey eX.yA v:=by cases eX<;>cases v<;>simp_all [pY,MapKept.IsKey,lX.yA]
theorem S3{eX:lX}{v:Value}(h:pY eX v=true):ew v=true:=by cases eX<;>cases v<;>simp_all [pY,ew]
theorem aui{eX:lX}{a b:Value}(ag:pY eX a=true)(hb:pY eX b=true):Instr.sameNow eX.yA a b=some (qa a b)/\(qa a b=true->a=b):=by
 cases eX with
 | int vc=>cases a<;>simp[pY]at ag;cases b<;>simp[pY]at hb;rename_i bB ed cC er;subst ag;subst hb;have e:(ed==er)=decide (ed=er):=(by by_cases h:ed=er<;>simp[h]);exact⟨by simp only[lX.yA,Instr.sameNow,qa,e,if_true],λh=>by simp only[qa,eF]at h;rw[h]⟩
 | str=>
   cases a<;>simp[pY]at ag;cases b<;>simp[pY]at hb;rename_i x y;have e:(x==y)=decide (x=y):=by
    have:=MapKept.bytes_beq x y;by_cases h:x=y
    ·rw[this.2 h];simp[h]
    ·cases av:(x==y)
     ·simp[h]
     ·exact absurd (this.1 av) h
   exact⟨by simp only[lX.yA,Instr.sameNow,qa,e],λh=>by simp only[qa,eF]at h;rw[h]⟩
theorem agv{P:Program}{t:TypeId}{eX:lX}(h:Pb P t=some eX):P.underlying t=some eX.yA:=by
 unfold Pb at h;split at h<;>cases h
 ·rename_i k O;exact O
 ·rename_i O;exact O
theorem V7{ak:Ren}{eX:lX}{k:Value}(O:pY eX k=true): ∀(es:List (Value×Value)) (de:List MapEntry) (i:Nat),BA ak es de->(es.all λe=>pY eX e.1)=true->
 (jK k es=none/\Instr.findNow eX.yA k de i=some none/\ ∀v,lg k v es=es++[(k,v)])\/
 (∃j e dw,es[j]?=some e/\de[j]?=some dw/\dw.key=k/\jK k es=some e.2/\Instr.findNow eX.yA k de i=some (some (i+j,dw.val))/\ ∀v,lg k v es=es.set j (k,v))
 | [],de,i,h,_=>by have:de=[]:=si.1 h.1.symm;subst this;exact .inl ⟨rfl,rfl,λ_=>rfl⟩
 | e::es,de,i,h,ag=>by
   cases de with
   |nil=>have:=h.1;simp at this
   | cons dw de=>
     simp only[m9,a7]at ag;obtain⟨A,E,ao,aS⟩:=h.2 0 e dw rfl rfl;have Qp:BA ak es de:=⟨by simpa using h.1,λj a b A E=>h.2 (j+1) a b (by simpa using A) (by simpa using E)⟩;obtain⟨ck,c9⟩:=aui O ag.1;cases av:qa k e.1
     ·rw[av,<-E]at ck;rcases V7 O es de (i+1) Qp ag.2 with⟨aE,a5,ch⟩|⟨j,x,hM,aE,a5,ch,dT,gj,ft⟩
      ·exact .inl ⟨by simp[jK,av,aE],by simp[Instr.findNow,ck,a5],λv=>by simp[lg,av,ch]⟩
      ·exact .inr ⟨j+1,x,hM,by simpa using aE,by simpa using a5,ch,by simp[jK,av,dT],by simp[Instr.findNow,ck,gj];omega,λv=>by simp[lg,av,ft]⟩
     ·rw[av,<-E]at ck;exact .inr ⟨0,e,dw,rfl,rfl,by rw[E];exact(c9 av).symm,by simp[jK,av],by simp[Instr.findNow,ck],λv=>by simp[lg,av]⟩
section
variable {P:Program} {w:World} {o:Oper} {a:Act} {ak:Ren} {da:Nat} {z:aD} {m:G} {aP id:Nat}
theorem aKT{e:TypeId}{I:Value}(bE:UN P e=some I):(zeroValue e).run P w= .ok I w/\ew I=true:=by
 unfold UN at bE;split at bE
 ·rename_i i Y;split at bE
  ·rename_i iJ qm;split at bE<;>cases bE;rename_i bb;exact⟨by simp[zeroValue,typeInfo,Y,qm],bb⟩
  ·cases bE
 ·cases bE
theorem dG.aEu(al:dG aP ak m w)(cd:aP<=w.heap.size)(e2:id<m.next)(ar:ak id=none):dG aP (hu ak id ⟨w.heap.size,0,0⟩) (m.hL id []) (w.alloc (.map #[] 0)):=by
 have eW:=sf (l:=⟨w.heap.size,0,0⟩) ar;have kk:(w.alloc (.map #[] 0)).heap.size=w.heap.size+1:=by show(w.heap.push _).size=_;rw[Array.size_push]
 have qk: ∀k,k<w.heap.size->(w.alloc (.map #[] 0)).heap[k]?=w.heap[k]?:= λk O=>by show(w.heap.push _)[k]?=_;rw[Array.getElem?_push,if_neg (by omega)]
 have jy: ∀b,(m.hL id []).F b=if b=id then some ⟨[],true⟩else m.F b:= λb=>by
  unfold G.F G.hL;by_cases h:b=id
  ·subst h;simp[e2]
  ·simp[h]
 have Hh: ∀b l,hu ak id ⟨w.heap.size,0,0⟩ b=some l->(b=id/\l=⟨w.heap.size,0,0⟩)\/(b≠id/\ak b=some l):= λb l h=>by
  unfold hu at h;split at h
  ·rename_i e;cases h;exact .inl ⟨e,rfl⟩
  ·rename_i e;exact .inr ⟨e,h⟩
 refine⟨λb l hb=> ?_,λb l hb=> ?_,λb x B=> ?_,λb x cB hM l c7 A E ao aS bI cZ=> ?_,λb es hb=> ?_,λb es hb=> ?_,λb x l B aC aA=>(by
  rcases Hh b l aA with⟨_,rfl⟩|⟨e,h⟩
  ·exact o7.ao7 (es:= #[]) (bc:=0) (by show(w.heap.push _)[w.heap.size]?=_;simp)
  ·rw[jy,if_neg e]at B;exact(al.tY b x l B aC h).C0 (qk _ (al.mb b l h)))⟩
 ·rcases Hh b l hb with⟨rfl,_⟩|⟨_,h⟩
  ·exact e2
  ·exact al.lq b l h
 ·rcases Hh b l hb with⟨_,rfl⟩|⟨_,h⟩
  ·rw[kk];exact Nat.lt_succ_self _
  ·rw[kk];have:=al.mb b l h;omega
 ·rw[jy]at B;split at B
  ·rename_i e;cases B;exact⟨⟨w.heap.size,0,0⟩,by simp[hu,e],c8 _,λi v M=>by simp at M,λ_=>⟨cd,λi Y=>by simp at Y⟩⟩
  ·obtain⟨l,aE,a5,ch,dT⟩:=al.md b x B;have sG:=al.mb b l aE;have av: ∀i,(w.alloc (.map #[] 0)).cell? ⟨l.c,l.o+i,none⟩=w.cell? ⟨l.c,l.o+i,none⟩:= λi=>World.cell?_of_block (w:=w) (qk l.c sG);have bb: ∀i,(w.alloc (.map #[] 0)).frozen? ⟨l.c,l.o+i,none⟩=w.frozen? ⟨l.c,l.o+i,none⟩:= λi=>World.frozen?_of_block (w:=w) (qk l.c sG);exact⟨l,eW _ _ aE,a5,λi v M=>by obtain⟨a9,bZ,bW,cA⟩:=ch i v M;exact⟨a9,bZ,by rw[av];exact bW,cA.bt eW⟩,λaC=>⟨(dT aC).1,λi Y=>by rw[av,bb];exact(dT aC).2 i Y⟩⟩
 ·rw[jy]at A ao;rcases Hh b l bI with⟨rfl,rfl⟩|⟨e,bI⟩
  ·rcases Hh cB c7 cZ with⟨dw,_⟩|⟨dw,cZ⟩
   ·exact absurd dw.symm aS
   ·have:=al.mb cB c7 cZ;simp only;omega
  ·rcases Hh cB c7 cZ with⟨dw,rfl⟩|⟨dw,cZ⟩
   ·have:=al.mb b l bI;simp only;omega
   ·rw[if_neg e]at A;rw[if_neg dw]at ao;exact al.rN b x cB hM l c7 A E ao aS bI cZ
 ·by_cases e:b=id
  ·exact⟨⟨w.heap.size,0,0⟩,by simp[hu,e]⟩
  ·have:m.mp b=some es:=(by simpa[G.hL,e]using hb);obtain⟨l,aA⟩:=al.xV b es this;exact⟨l,eW _ _ aA⟩
 ·obtain⟨aE,a5⟩:=G.yF hb;by_cases e:b=id
  ·subst e;have:es=[]:=(by simpa[G.hL]using a5.symm);subst this;exact⟨⟨w.heap.size,0,0⟩,#[],0,by simp[hu],cd,by show(w.heap.push _)[w.heap.size]?=_;simp,⟨rfl,λi e dw h=>by simp at h⟩⟩
  ·rw[jy,if_neg e]at aE;have xo:m.mp b=some es:=(by simpa[G.hL,e]using a5);obtain⟨l,de,bc,dC,fK,iz,ky⟩:=al.maps b es (G.kT aE xo);exact⟨l,de,bc,eW _ _ dC,fK,by rw[qk _ (al.mb b l dC)];exact iz,ky.bt eW⟩
theorem aIa{t:TypeId}(b2:o.op= .makeMap t none)(al:dG aP ak m w)(cd:aP<=w.heap.size)(e2:id<m.next)(ar:ak id=none):rC P o .re a aP ak z m w id:=by
 refine⟨.map (some w.heap.size),w.alloc (.map #[] 0),hu ak id ⟨w.heap.size,0,0⟩,.inl ?_,sf ar,zD,?_,al.aEu cd e2 ar,xa rfl rfl rfl rfl cd _⟩
 ·simp only[execOp,b2,Option.map_none,Instr.makeMap,Sem.run_bind];rfl
 ·exact .map (l:=⟨w.heap.size,0,0⟩) (by simp[hu])
theorem dG.aqI(al:dG aP ak m w){b:Nat}{es:List (Value×Value)}{l:vL}{de:Array MapEntry}{bc:Nat}(aH:m.fC b=some es)(aA:ak b=some l)(cd:aP<=l.c)(bV:w.heap[l.c]?=some (.map de bc))
 {fs:List (Value×Value)} {G5:Array MapEntry} {J2:Nat} (ar:BA ak fs G5.toList):dG aP ak (m.hL b fs) {w with heap:=w.heap.setIfInBounds l.c (.map G5 J2)}:=by
 obtain⟨lK,Aj⟩:=G.yF aH;have hb:=G.aF lK;obtain⟨u2,iE⟩:=MapKept.heap_set (o':= .map G5 J2) bV;have jy: ∀cB,(m.hL b fs).F cB=m.F cB:= λcB=>by
  by_cases h:cB=b
  ·subst h;rw[lK];unfold G.F G.hL;simp[hb]
  ·unfold G.F G.hL;simp[h]
 have av: ∀eG:Addr,World.cell? {w with heap:=w.heap.setIfInBounds l.c (.map G5 J2)} eG=w.cell? eG:= λeG=>by
  by_cases h:eG.block=l.c
  ·simp only[World.cell?,h,u2,bV]
  ·exact World.cell?_of_block (w:=w) (iE _ h)
 have bb: ∀eG:Addr,World.frozen? {w with heap:=w.heap.setIfInBounds l.c (.map G5 J2)} eG=w.frozen? eG:= λeG=>by
  by_cases h:eG.block=l.c
  ·simp only[World.frozen?,h,u2,bV]
  ·exact World.frozen?_of_block (w:=w) (iE _ h)
 refine⟨al.lq,λcB c7 cw=>by show c7.c<(w.heap.setIfInBounds _ _).size;rw[Array.size_setIfInBounds];exact al.mb cB c7 cw,λcB x B=> ?_,λeH kE eN m6 hS jn A E ao=>al.rN eH kE eN m6 hS jn (by rw[<-jy];exact A) E (by rw[<-jy];exact ao),λcB Kg iL=> ?_,λcB Kg iL=> ?_,λcB x c7 B aC h5=>(by
  by_cases e:c7.c=l.c
  ·rw[e];exact o7.ao7 u2
  ·exact(al.tY cB x c7 (by rw[<-jy];exact B) aC h5).C0 (iE _ e))⟩
 ·rw[jy]at B;simpa only[av,bb]using al.md cB x B
 ·by_cases e:cB=b
  ·exact⟨l,by rw[e];exact aA⟩
  ·exact al.xV cB Kg (by simpa[G.hL,e]using iL)
 ·obtain⟨aE,a5⟩:=G.yF iL;rw[jy]at aE;by_cases e:cB=b
  ·subst e;have:Kg=fs:=(by simpa[G.hL]using a5.symm);subst this;exact⟨l,G5,J2,aA,cd,u2,ar⟩
  ·have xo:m.mp cB=some Kg:=(by simpa[G.hL,e]using a5);obtain⟨jn,avi,aum,dC,fK,iz,ky⟩:=al.maps cB Kg (G.kT aE xo);have bx:jn.c≠l.c:=al.rN cB _ b _ jn l aE rfl lK e dC aA;exact⟨jn,avi,aum,dC,fK,by rw[iE _ bx];exact iz,ky⟩
theorem aId{t km e:TypeId}{eX:lX}{x k v:Operand}(b2:o.op= .mapUpdate t x k v)(a8:P.underlying t=some (.map km e))(aW:P.underlying km=some eX.yA)(B:di x=true)(O:di k=true)(M:di v=true)
 (H:hl ak da z a) (al:dG aP ak m w) (ax:(an.po eX x k v).ok z m=true):rC P o (.po eX x k v) a aP ak z m w id:=by
 simp only[an.ok]at ax;have ar:=H.S B;cases ba:S z x<;>simp only[ba]at ax<;>try cases ax
 rename_i p;cases p with
 |none=>simp at ax
 | some b=>
   simp only at ax;rw[ba]at ar;obtain⟨l,aA,pV⟩:=ar.Lu;cases aH:m.fC b with
   |none=>simp[aH]at ax
   | some es=>
     simp only[aH,nU,a7]at ax;obtain⟨⟨nP,q1⟩,nj⟩:=ax;obtain⟨c7,de,bc,dC,fK,iz,ky⟩:=al.maps b es aH;rw[aA]at dC;cases dC;have Ew:a.eval k=S z k:=(H.S O).hB (S3 nP);have Qc:=anN nP;have Hu:=H.S M;have pb:(an.po eX x k v).hr id z m=m.hL b (lg (S z k) (S z v) es):=(by simp only[an.hr,ba,y9,aH,Bw]);have hA:(Instr.checkKey false 10000 km (S z k)).run P w= .ok () w:=MapKept.run_checkKey aW Qc false 9999;have ahY: ∀o',Below aP w {w with heap:=w.heap.setIfInBounds l.c o'}:= λo'=>⟨rfl,rfl,rfl,by show _<=(w.heap.setIfInBounds _ _).size;rw[Array.size_setIfInBounds];exact c8 _,λk O=>by show(w.heap.setIfInBounds _ _)[k]?=_;simp[show l.c≠k by omega]⟩;rcases V7 nP es de.toList 0 ky q1 with⟨_,a5,ch⟩|⟨j,kE,m6,aE,a5,ch,_,gj,ft⟩
     ·have jl:(Instr.mapUpdate t (a.eval x) (a.eval k) (a.eval v)).run P w= .ok () {w with heap:=w.heap.setIfInBounds l.c (.map (de.push {key:=S z k,val:=a.eval v,born:=bc}) (bc+1))}:=by
       simp[Instr.mapUpdate,pV,Ew,run_underlying a8,MapKept.run_getObj_map iz,hA,MapKept.run_findKey aW a5,MapKept.run_setObj_map _ iz]
      refine⟨undef,_,ak,.inr ⟨by simp only[execOp,b2,jl,Sem.run_bind,Result.andThen_ok];rfl,rfl⟩,gQ.refl ak,λ_ _=>rfl,dX.undef ak,?_,ahY _⟩;rw[pb,ch];refine al.aqI aH aA fK iz ⟨by simp[ky.1],λi e dw A E=> ?_⟩;simp only[Array.toList_push]at E;rw[zJ]at A E;rw[<-ky.1]at E;split at A
      ·rename_i Y;rw[if_pos Y]at E;exact ky.2 i e dw A E
      ·rename_i Y;rw[if_neg Y]at E;have Hd:i-es.length=0:=(by have:=(cN.1 A).1;simp at this;omega);rw[Hd]at A E;simp at A E;subst A;subst E;exact⟨S3 nP,rfl,nj,Hu⟩
     ·have aV:de[j]?=some m6:=(by simpa using a5);have jl:(Instr.mapUpdate t (a.eval x) (a.eval k) (a.eval v)).run P w= .ok () {w with heap:=w.heap.setIfInBounds l.c (.map (de.modify j λe=>{e with key:=S z k,val:=a.eval v}) bc)}:=by
       simp[Instr.mapUpdate,pV,Ew,run_underlying a8,MapKept.run_getObj_map iz,hA,MapKept.run_findKey aW gj,aV,ch,MapKept.run_keyThatStays Qc,MapKept.run_setObj_map _ iz]
      refine⟨undef,_,ak,.inr ⟨by simp only[execOp,b2,jl,Sem.run_bind,Result.andThen_ok];rfl,rfl⟩,gQ.refl ak,λ_ _=>rfl,dX.undef ak,?_,ahY _⟩;rw[pb,ft];refine al.aqI aH aA fK iz ⟨by simpa using ky.1,λi e dw A E=> ?_⟩;simp only[Om,Array.getElem?_modify]at E;rw[Bu]at A;by_cases yQ:j=i
      ·subst yQ;rw[if_pos rfl,if_pos (by have:=(cN.1 aE).1;exact this)]at A;rw[if_pos rfl,aV]at E;simp at A E;subst A;subst E;exact⟨S3 nP,rfl,nj,Hu⟩
      ·rw[if_neg yQ]at A E;exact ky.2 i e dw A (by simpa using E)
theorem aIc{t km e:TypeId}{eX:lX}{I:Value}{ok:Bool}{x k:Operand}(b2:o.op= .lookup t x k ok)(a8:P.underlying t=some (.map km e))(aW:P.underlying km=some eX.yA)(bE:UN P e=some I)(B:di x=true)(O:di k=true)
 (H:hl ak da z a) (al:dG aP ak m w) (ax:(an.rf eX I ok x k).ok z m=true):rC P o (.rf eX I ok x k) a aP ak z m w id:=by
 obtain⟨aja,ays⟩:=aKT (w:=w) bE;simp only[an.ok]at ax;have hX: ∃(es:List (Value×Value)) (de:Array MapEntry),lQ m (S z x)=some es/\BA ak es de.toList/\((a.eval x= .map none/\de= #[])\/ ∃r bc,a.eval x= .map (some r)/\w.heap[r]?=some (.map de bc)):=by
  have ar:=H.S B;cases ba:S z x<;>simp only[ba,lQ]at ax<;>try cases ax
  rename_i p;cases p with
  | none=>rw[ba]at ar;exact⟨[],#[],rfl,⟨rfl,λi e dw h=>by simp at h⟩,.inl ⟨ar.hB rfl,rfl⟩⟩
  | some b=>
    rw[ba]at ar;obtain⟨l,aA,M⟩:=ar.Lu;cases aH:m.fC b with
    |none=>simp[aH]at ax
    | some es=>obtain⟨c7,de,bc,dC,fK,iz,ky⟩:=al.maps b es aH;rw[aA]at dC;cases dC;exact⟨es,de,aH,ky,.inr ⟨l.c,bc,M,iz⟩⟩
 obtain⟨es,de,aic,Qp,Ap⟩:=hX;rw[aic]at ax;simp only[nU,a7]at ax;obtain⟨nP,q1⟩:=ax;have Ew:a.eval k=S z k:=(H.S O).hB (S3 nP);have Qc:=anN nP;have K2:=V7 nP es de.toList 0 Qp q1;have axk: ∃(v:Value) (bf:Nat×Value) (b:Bool),(Instr.findKey km (S z k) de.toList).run P w= .ok (if b then some (bf.1,bf.2)else none:Option (Nat×Value)) w/\(jK (S z k) es).isSome=b/\(b=true->jK (S z k) es=some v/\dX ak v bf.2):=by
  rcases K2 with⟨aE,a5,_⟩|⟨j,kE,m6,aE,a5,ch,dT,gj,_⟩
  ·exact⟨undef,(0,undef),false,by rw[MapKept.run_findKey aW a5];rfl,by rw[aE];rfl,λh=>by cases h⟩
  ·obtain⟨_,_,_,aS⟩:=Qp.2 j kE m6 aE a5;exact⟨kE.2,(0+j,m6.val),true,by rw[MapKept.run_findKey aW gj];rfl,by rw[dT];rfl,λ_=>⟨dT,aS⟩⟩
 obtain⟨v,bf,b,ej,eD,gg⟩:=axk;have xE:(an.rf eX I ok x k).val id z m=if ok then .tuple #[(jK (S z k) es).getD I,.bool (jK (S z k) es).isSome]else(jK (S z k) es).getD I:=by simp only[an.val,aic,Option.bind_some]
 have jl:(Instr.lookup t (a.eval x) (a.eval k) ok).run P w= .ok (if ok then .tuple #[if b then bf.2 else I,.bool b]else if b then bf.2 else I) w:=by
  have hA: ∀e,(Instr.checkKey e 10000 km (S z k)).run P w= .ok () w:= λe=>MapKept.run_checkKey aW Qc e 9999;rcases Ap with⟨A,E⟩|⟨r,bc,A,E⟩
  ·subst E;cases b
   ·simp[Instr.lookup,A,Ew,run_underlying a8,hA,ej,aja]
   ·simp[Instr.lookup,A,Ew,run_underlying a8,hA,ej]
  ·cases b
   ·simp[Instr.lookup,A,Ew,run_underlying a8,MapKept.run_getObj_map E,hA,ej,aja]
   ·simp[Instr.lookup,A,Ew,run_underlying a8,MapKept.run_getObj_map E,hA,ej]
 refine⟨_,w,ak,.inl (by simp only[execOp,b2,jl,Sem.run_bind,Result.andThen_ok];rfl),gQ.refl ak,λ_ _=>rfl,?_,al,Below.refl _ _⟩;rw[xE];have nj:dX ak ((jK (S z k) es).getD I) (if b then bf.2 else I):=by
  cases b
  ·have:jK (S z k) es=none:=(by simpa using eD);rw[this];exact .c4 ays
  ·obtain⟨aE,a5⟩:=gg rfl;rw[aE];exact a5
 cases ok
 ·exact nj
 ·simp only[if_true];rw[eD];exact dd.tuple (xs:=[_,_]) (ys:=[_,_]) (dd.cons nj (dd.cons (.c4 rfl) (dd.nil ak)))
end
section
variable {P:Program} {w:World} {o:Oper} {a:Act} {ak:Ren} {da:Nat} {z:aD} {m:G} {aP id:Nat}
theorem aFt{k:an}(h:k.pure=true):k.hr id z m=m:=by cases k<;>first|rfl|(simp[an.pure]at h)
theorem aER{k:an}(O:BM P o=some k)(av:k.lx=false)(H:hl ak da z a)(al:dG aP ak m w)(cd:aP<=w.heap.size)(e2:k.fD=true->id<m.next)(ar:k.fD=true->ak id=none)(ax:k.ok z m=true):rC P o k a aP ak z m w id:=by
 by_cases ae:k.pure=true
 ·obtain⟨bZ,A,E⟩:=aFu (w:=w) (m:=m) O ae H ax id;exact⟨bZ,w,ak,A,gQ.refl ak,λ_ _=>rfl,E,by rw[aFt ae];exact al,Below.refl _ _⟩
 ·rcases O1 O with O|rfl
  rotate_left
  ·rw[arw]at ax;cases ax
  unfold GQ at O;split at O
  ·split at O<;>cases O;exact absurd rfl ae
  ·split at O<;>cases O;exact absurd rfl ae
  ·split at O<;>cases O;exact absurd rfl ae
  ·split at O<;>cases O;exact absurd rfl ae
  ·-- nD
   rename_i e b2;split at O<;>cases O;rename_i I bE;exact aH1 b2 bE al cd (e2 rfl) (ar rfl)
  ·-- oK
   rename_i e x b2;split at O<;>cases O;rename_i B;exact aH4 b2 B H ax al cd (e2 rfl) (ar rfl)
  ·(repeat' split at O)<;>cases O<;>exact absurd rfl ae
  ·-- buildSlice
   rename_i t n ps b2;split at O
   ·rename_i e a8;split at O
    ·rename_i I bE;split at O
     ·rename_i h8 bg;split at O<;>cases O;rename_i qh;simp only[a7,eF]at qh;exact aH5 b2 a8 bE bg qh.1 qh.2 H al cd (e2 rfl) (ar rfl) ax
     ·cases O
    ·cases O
   ·cases O
  ·-- hq
   rename_i t x b2;split at O
   ·rename_i dE n xq aj;split at O<;>cases O;rename_i B;exact aH9 b2 xq aj B H al ax
   ·cases O
  ·-- store
   rename_i t x v b2;split at O
   ·rename_i n aj;split at O<;>cases O;rename_i B;simp only[a7]at B;exact aIf b2 aj B.1 B.2 H al ax
   ·cases O
  ·(repeat' split at O)<;>cases O<;>exact absurd rfl ae
  ·(repeat' split at O)<;>cases O<;>exact absurd rfl ae
  ·-- convert
   rename_i s d x b2;split at O
   ·split at O<;>cases O;exact absurd rfl ae
   ·split at O<;>cases O;exact absurd rfl ae
   ·rename_i e b8 ir;split at O
    ·rename_i cp;split at O<;>cases O;rename_i B;exact aH7 b2 b8 ir cp B H al ax
    ·cases O
   ·rename_i e b8 ir;split at O
    ·rename_i cp;split at O<;>cases O;rename_i B;exact aH8 b2 b8 ir cp B H al cd (e2 rfl) (ar rfl) ax
    ·cases O
   ·cases O
  ·-- makeSlice
   rename_i t l c b2;split at O
   ·rename_i e a8;split at O
    ·rename_i I b3 bE Y;split at O<;>cases O;rename_i B;simp only[a7]at B;exact aIb b2 a8 bE Y B.1 B.2 H al cd (e2 rfl) (ar rfl) ax
    ·cases O
   ·cases O
  ·-- slice
   rename_i t x bh Y fP b2;split at O
   ·split at O<;>cases O;exact absurd rfl ae
   ·(repeat' split at O)<;>cases O<;>exact absurd rfl ae
   ·rename_i n e ag;split at O
    ·rename_i I bE;split at O<;>cases O;rename_i qh;simp only[a7,DG]at qh;exact aIe b2 ag bE qh.1.1.1 qh.1.1.2 qh.1.2 qh.2 H al ax
    ·cases O
   ·cases O
  ·(repeat' split at O)<;>cases O<;>exact absurd rfl ae
  ·(repeat' split at O)<;>cases O<;>exact absurd rfl ae
  ·(repeat' split at O)<;>cases O<;>exact absurd rfl ae
  ·(repeat' split at O)<;>cases O<;>exact absurd rfl ae
  ·(repeat' split at O)<;>cases O<;>exact absurd rfl ae
  ·(repeat' split at O)<;>cases O<;>exact absurd rfl ae
  ·(repeat' split at O)<;>cases O<;>exact absurd rfl ae
  ·-- makeMap
   rename_i t r b2;split at O
   ·rename_i k e a8;cases O;exact aIa b2 al cd (e2 rfl) (ar rfl)
   ·cases O
  ·-- lookup
   rename_i t x i ok b2;split at O
   ·rename_i k e a8;split at O
    ·rename_i bc I hA bE;split at O<;>cases O;rename_i B;simp only[a7]at B;exact aIc b2 a8 (agv hA) bE B.1 B.2 H al ax
    ·cases O
   ·cases O
  ·-- mapUpdate
   rename_i t x k v b2;split at O
   ·rename_i km e a8;split at O
    ·rename_i bc hA;split at O<;>cases O;rename_i B;simp only[a7]at B;exact aId b2 a8 (agv hA) B.1.1 B.1.2 B.2 H al ax
    ·cases O
   ·cases O
  ·(repeat' split at O)<;>cases O<;>exact absurd rfl ae
  ·-- l2
   rename_i c b2;unfold JU at O;split at O
   ·split at O<;>cases O;simp[an.lx]at av
   ·(repeat' split at O)<;>cases O<;>simp[an.lx]at av
   ·(repeat' split at O)<;>cases O<;>simp[an.lx]at av
   ·(repeat' split at O)<;>cases O<;>exact absurd rfl ae
   ·rename_i cq;split at O
    ·rename_i x y t bf ag fm;split at O
     ·rename_i e a8;split at O
      ·rename_i b3 Y;split at O
       ·rename_i XF;subst XF;split at O<;>cases O;rename_i B;simp only[a7]at B;obtain⟨⟨A,E⟩,ao⟩:=B;obtain⟨I,bE⟩:=Ou.1 ao;exact aH2 b2 cq ag fm a8 Y bE A E H al cd (e2 rfl) (ar rfl) ax
       ·split at O
        ·rename_i aba Jq ba bE;split at O<;>cases O;rename_i B;simp only[a7]at B;exact aH3 b2 cq ag fm a8 ba Y bE B.1 B.2 H al cd (e2 rfl) (ar rfl) ax
        ·cases O
      ·cases O
     ·cases O
    ·cases O
   ·(repeat' split at O)<;>cases O<;>exact absurd rfl ae
   ·(repeat' split at O)<;>cases O<;>exact absurd rfl ae
   ·(repeat' split at O)<;>cases O<;>exact absurd rfl ae
   ·rename_i cq;split at O
    ·rename_i x t ag fm;split at O
     ·rename_i e a8;split at O
      ·rename_i Jq bE;split at O<;>cases O;rename_i B;exact aH6 b2 cq ag fm a8 bE B H al ax
      ·cases O
     ·cases O
    ·cases O
   ·cases O
  ·cases O
theorem ato{I bytes:Nat}{x y:Operand}(O:BM P o=some (.app I bytes x y))(H:hl ak da z a)(al:dG aP ak m w)(cd:aP<=w.heap.size)(e2:id<m.next)(ar:ak id=none)(ax:(an.app I bytes x y).ok z m=true):
 afn P o I bytes x y a aP ak z m w id:=by
 rcases O1 O with O|bX
 rotate_left
 ·cases bX
 unfold GQ at O;split at O
 case h_27 c b2=>
  unfold JU at O;split at O
  case h_5 cq=>
   split at O
   ·rename_i x y t bf ag fm;split at O
    ·rename_i e a8;split at O
     ·rename_i b3 Y;split at O
      ·rename_i XF;subst XF;split at O<;>cases O;rename_i B;simp only[a7]at B;obtain⟨⟨A,E⟩,ao⟩:=B;obtain⟨I,bE⟩:=Ou.1 ao;exact aqF b2 cq ag fm a8 Y bE A E H al cd e2 ar ax
      ·(repeat' split at O)<;>cases O
     ·cases O
    ·cases O
   ·cases O
  all_goals((repeat' split at O)<;>cases O)
 all_goals((repeat' split at O)<;>cases O)
def GA(P:Program)(f:Nat):Prop:= ∃fn,P.funcs[f]?=some fn∧fn.body.isSome=true∧(fn.name== "runtime.NumGoroutine")=false
theorem aoj{name:String}{r:TypeId×Nat×Option (Bool×Nat)}(h:r∈abr P name):FE P name r.1=some r/\r.1<P.types.size:=by
 unfold abr at h;obtain⟨t,A,E⟩:=yh.1 h;have:r.1=t:=by
  unfold FE at E
  (repeat' split at E)<;>cases E<;>rfl
 subst this;exact⟨E,by simpa using A⟩
theorem aG7{name:String}{t f:Nat}{v:Value}(h:FE P name t=some (t,f,none)/\t<P.types.size):
 (method (P.types.size+Made.depth) t v name).run P w= .ok (f,v) w:=by
 obtain⟨h,dA⟩:=h;unfold FE at h
 (repeat' split at h)<;>cases h
 rename_i WX _ FH K2 ae _ _ _ xi ba Hc;obtain⟨n,aj⟩: ∃n,P.types.size+Made.depth=n+1:=⟨P.types.size+Made.depth-1,by omega⟩;have aiE:FH.path.toList=[]:=by simpa using ae
 rw[aj];simp[method,typeInfo,WX,K2,aiE,follow,Hc,receiverAt,underlying,ba,Place.get]
theorem acY{f:Nat}{args:Array Value}(h:GA P f):(callFunc f args).run P w= .ok (.enter f args) w:=by
 obtain⟨fn,A,E,ao⟩:=h;have aS:fn.body≠none:=by intro hb;simp[hb]at E
 have bI:fn.name≠ "runtime.NumGoroutine" :=by simpa using ao
 simp[callFunc,A,aS,bI]
theorem aHa{bz:Array TypeId}{t:TypeId}{eG:Addr}{x y:String}:Builtin.ssaWrapNilChk_ bz t #[.pointer (some eG),strVal x,strVal y]=pure (.pointer (some eG)):=rfl
theorem aG8{name:String}{t f n:Nat}{dE:Bool}{eG:Addr}{ds:List Value}(h:FE P name t=some (t,f,some (dE,n))/\t<P.types.size)
 (A:dE=true\/n=1) (aA:ds.length=n) (av: ∀(j:Nat) bf,ds[j]?=some bf->w.cell? (eG.add j)=some bf):
 (method (P.types.size+Made.depth) t (.pointer (some eG)) name).run P w= .ok (f,if dE then .agg ds.toArray else ds.headD undef) w:=by
 obtain⟨h,dA⟩:=h;unfold FE at h
 (repeat' split at h)<;>cases h
 rename_i WX _ FH K2 ae _ _ _ xi ba _ _ Hc xq aj;obtain⟨n,Cm⟩: ∃n,P.types.size+Made.depth=n+1:=⟨P.types.size+Made.depth-1,by omega⟩;have aiE:FH.path.toList=[]:=by simpa using ae
 have wi:=ac0 (P:=P) (w:=w) xq aj A aA av;have axT:FH.path= #[]:=by simpa using ae
 rw[Cm];simp[method,typeInfo,WX,K2,follow,Hc,receiverAt,underlying,ba,Place.get,axT,aHa,asAddr,wi]
theorem aqp{name:String}{t f:Nat}{v ap1:Value}{args:Array Value}(al:(method (P.types.size+Made.depth) t v name).run P w= .ok (f,ap1) w)(bb:GA P f):
 (invoke (.fn (.method name) #[]) (#[.iface t v]++args)).run P w= .ok (.enter f (#[ap1]++args)) w:=by
 have bX:(#[Value.iface t v]++args)[0]?=some (.iface t v):=by rw[Ot (by simp)];rfl
 have A:(#[Value.iface t v]++args).extract 1 (#[Value.iface t v]++args).size=args:=by simp
 simp only[invoke,bX,A,callMethod,Sem.run_bind,run_program,Result.andThen_ok,al,acY bb]
def sn(P:Program)(aP:Nat)(b5:Callee):Prop:= ∀f args m r U,b5 f args m=some (r,U)->GA P f/\m.next<=U.next/\(∀b,b<m.next->m.F b=none->U.F b=none)/\
 (∀id x,id<m.next->m.F id=none->b5 f args (m.aK id x)=some (r,U.aK id x))/\
 ∀ ak w (l1:Array Value),dd ak args l1.toList->dG aP ak m w->aP<=w.heap.size->
   Calls P f l1 w λe w'=> ∃v cT,e= .returned v/\gQ ak cT/\(∀b,b<m.next->cT b=ak b)/\dX cT r v/\dG aP cT U w'/\Below aP w w'
theorem auf{k:an}(O:BM P o=some k)(H:hl ak da z a)(al:dG aP ak m w){f:Nat}{args:List Value}(gZ:k.fL z m=some (f,args))(bb:GA P f):
 ∃l1:Array Value,(execOp a.eval o).run P w= .ok (.enter f l1) w/\dd ak args l1.toList:=by
 rcases O1 O with O|rfl
 rotate_left
 ·cases gZ
 unfold GQ at O;split at O
 case h_27 c b2=>
  unfold JU at O;split at O
  ·-- a method cM Vj interface value
   rename_i t name cq;split at O<;>cases O;rename_i qh;simp only[an.fL]at gZ;have ar:=H.S (x:= .tmp t) rfl;split at gZ
   ·rename_i qC v M;rw[M]at ar;obtain⟨bZ,aG,eK⟩:=ar.Lt;split at gZ
    ·rename_i c5 g Ci;simp only[mP,w1]at gZ;obtain⟨rfl,rfl⟩:=gZ;have XG:c5=qC:=(by have:=List.find?_some Ci;simpa using this);subst XG;refine⟨#[bZ]++c.args.map a.eval,?_,by simpa using dd.cons eK (Il H _ qh)⟩;have Xb:=aG7 (w:=w) (v:=bZ) (aoj (List.mem_of_find?_eq_some Ci));simp only[execOp,b2,resolve,cq,Sem.run_bind,aG,Sem.run_pure,Result.andThen_ok];exact aqp Xb bb
    ·rename_i c5 g dE n Ci;split at gZ
     ·rename_i ax;simp only[mP,w1]at gZ;obtain⟨rfl,rfl⟩:=gZ;have XG:c5=qC:=(by have:=List.find?_some Ci;simpa using this);subst XG;simp only[a7,uv,eF]at ax;obtain⟨eG,ds,A,E,ao,aS⟩:=abl al eK ax.1 ax.2;refine⟨#[if dE then .agg ds.toArray else ds.headD undef]++c.args.map a.eval,?_,by simpa using dd.cons aS (Il H _ qh)⟩;have Xb:=aG8 (w:=w) (aoj (List.mem_of_find?_eq_some Ci)) ax.2 E ao;simp only[execOp,b2,resolve,cq,Sem.run_bind,aG,Sem.run_pure,Result.andThen_ok,A];exact aqp Xb bb
     ·cases gZ
    ·cases gZ
   ·cases gZ
  ·-- a named avM
   rename_i g cq;split at O
   ·rename_i fn Hc;split at O<;>cases O;rename_i qh;simp only[a7]at qh;simp only[an.fL,mP,w1]at gZ;obtain⟨rfl,rfl⟩:=gZ;refine⟨c.args.map a.eval,?_,by simpa using Il H _ qh.2⟩;have A:a.eval (.func g)= .func (.func g) #[] #[]:=rfl;simp only[execOp,b2,resolve,cq,Sem.run_bind,A,Deferred.ofValue,Sem.run_pure,Result.andThen_ok,invoke];rw[acY bb];simp
   ·cases O
  ·-- a avM value
   rename_i t cq;split at O<;>cases O;rename_i qh;simp only[an.fL]at gZ;have ar:=H.S (x:= .tmp t) rfl;split at gZ
   ·rename_i g first ks M
    simp only[mP,w1]at gZ;obtain⟨rfl,rfl⟩:=gZ;rw[M]at ar;obtain⟨ys,ds,A,E,ao⟩:=ar.ES;refine⟨ys++c.args.map a.eval++ds,?_,by simpa using(E.p8 (Il H _ qh)).p8 ao⟩;simp only[execOp,b2,resolve,cq,Sem.run_bind,A,Deferred.ofValue,Sem.run_pure,Result.andThen_ok,invoke];rw[acY bb]
   ·cases gZ
  all_goals((repeat' split at O)<;>cases O<;>simp[an.fL]at gZ)
 all_goals((repeat' split at O)<;>cases O<;>simp[an.fL]at gZ)
end
def vx:Value->Option Nat
 | .slice (some a) _ _=>some a.block
 |_=>none
def S1:Value->Bool
 | .int .i64 n=>n==0
 |_=>false
theorem anK{v:Value}(h:S1 v=true):v= .int .i64 0:=by
 unfold S1 at h;split at h
 ·rw[beq_iff_eq]at h;rw[h]
 ·cases h
def Lr(s i y:Value):Bool:=S1 i&&decide (0<fW y)&&decide (vx s≠vx y)&&decide ((fW s+fW y)*8<=140737488355328)
def tP(m:G)(s i y:Value):Bool:=fF m 1 s&&(iQ m s&&(fF m 1 y&&(iQ m y&&Lr s i y)))
def u6(m:G)(s y:Value):G:=((hR m s).bU 1).aK m.next (some ⟨fy m 1 y++fy m 1 s,true⟩)
def xK(m:G)(s y:Value):Value:= .slice (some ⟨m.next,0,none⟩) (fW s+fW y) 1
def tO:List Value->G->Option (Value×G)
 |[s,i,y],m=>if tP m s i y=true then some (xK m s y,u6 m s y)else none
 |_,_=>none
theorem Lq{args:List Value}{m:G}{r:Value}{U:G}(h:tO args m=some (r,U)): ∃s i y,args=[s,i,y]/\tP m s i y=true/\r=xK m s y/\U=u6 m s y:=by
 unfold tO at h;split at h
 ·rename_i s i y;split at h
  ·rename_i ax;cases h;exact⟨s,i,y,rfl,ax,rfl,rfl⟩
  ·cases h
 ·cases h
theorem Ik(m:G)(v:Value):(hR m v).next=m.next:=by unfold hR;split<;>rfl
theorem ayR{args:List Value}{m:G}{r:Value}{U:G}(h:tO args m=some (r,U)):m.next<=U.next:=by
 obtain⟨s,i,y,rfl,_,rfl,rfl⟩:=Lq h;show m.next<=(hR m s).next+1
 rw[Ik];omega
theorem ayS{args:List Value}{m:G}{r:Value}{U:G}(h:tO args m=some (r,U)){b:Nat}(hb:b<m.next)(aH:m.F b=none):U.F b=none:=by
 obtain⟨s,i,y,rfl,_,rfl,rfl⟩:=Lq h;unfold u6;rw[G.mX,if_neg (by omega),G.cl];unfold hR;split
 ·rw[G.mX];split
  ·split<;>rfl
  ·exact aH
 ·exact aH
def Jv(P:Program)(f:Nat):Prop:=GA P f/\ ∀(aP:Nat) args m r U,tO args m=some (r,U)-> ∀ak w (l1:Array Value),dd ak args l1.toList->dG aP ak m w->aP<=w.heap.size->
 Calls P f l1 w λe w'=> ∃v cT,e= .returned v/\gQ ak cT/\(∀b,b<m.next->cT b=ak b)/\dX cT r v/\dG aP cT U w'/\Below aP w w'
open Classical in
noncomputable def kS(P:Program):Nat->Callee
 |0,_,_,_=>none
 | n+1,f,args,m=>match cm P f with
   | some u=>if args.length<=u.da then
    (match e5 (kS P n) n u.body (ij args) m with
    |some (.cF _,_,_)=>none
    |some (_,K,U)=>if mL U K u.j5 then some (m3 U K u.j5,U)else none
    |none=>none)
     else none
   |none=>if Jv P f then tO args m else none
section
variable {P:Program} {w:World} {o:Oper} {a:Act} {ak:Ren} {da:Nat} {z:aD} {m:G} {aP:Nat} {ops:Array Oper} {b5:Callee} {base:Nat}
def zR(P:Program)(ops:Array Oper)(da:Nat)(cG:cS)(o:Oper):Prop:=
 ops[cG.aY]?=some o/\BM P o=some cG.k/\O0 ops o=some cG.g/\o.dst=cG.d/\cG.d.all (λd=>decide (d<da))=true
theorem arS{g:Option (Nat×Bool)}(aH:O0 ops o=some g)(H:hl ak da z a):Region.wanted o (yielded ops a.tmps)=e9 z g:=by
 unfold O0 at aH;split at aH
 ·rename_i h;cases aH;simp[Region.wanted,h,e9]
 ·rename_i j b h;split at aH
  ·rename_i t a8;cases aH;have ar:=H.ow t;simp only[Region.wanted,h,e9,yielded,a8,Option.bind_some];rw[Array.getD_eq_getD_getElem?]at ar;cases M:a.tmps[t]? with
   | none=>
     rw[M]at ar;simp only[Option.getD_none]at ar;cases ba:z t<;>try rfl
     rw[ba]at ar;have:=ar.tR;simp[undef]at this
   | some v=>
     rw[M]at ar;simp only[Bw]at ar;cases ba:z t
     case bool c=>rw[ba]at ar;rw[ar.tR];simp
     all_goals
      rw[ba]at ar;cases v
      case bool c=>cases ar
      all_goals rfl
  ·cases aH
theorem TC{k:an}(h:k.ok z m=true):k.lx=false:=by cases k<;>first|rfl|(simp[an.ok]at h)
theorem aq5{cG:cS}{K:aD}{U:G}(cq:sn P aP b5)(av:zR P ops da cG o)(H:hl ak da z a)(al:dG aP ak m w)(cd:aP<=w.heap.size)(e2:cG.k.fD=true->base+cG.aY<m.next)(ar:cG.k.fD=true->ak (base+cG.aY)=none)
 (jm:iA b5 base cG z m=some (K,U)) {aR:Act->World->Prop} {Q:Exit->Act->World->Prop}
 (dH: ∀ev w' cT,gQ ak cT->(∀b,b<m.next->b≠base+cG.aY->cT b=ak b)->hl cT da K ev->dG aP cT U w'->Below aP w w'->aR ev w'):wpOp P ops Q cG.aY aR a w:=by
 obtain⟨A,E,ao,aS,bI⟩:=av;unfold wpOp;simp only[A];rw[arS ao H];unfold iA at jm;by_cases aQ:e9 z cG.g=true
 ·rw[if_pos aQ]at jm⊢;refine .inl ?_;unfold Oper.wp;cases gZ:cG.k.fL z m with
  | some my=>
    obtain⟨f,args⟩:=my;rw[gZ]at jm;simp only at jm;cases bb:b5 f args m with
    |none=>rw[bb]at jm;cases jm
    | some Jf=>obtain⟨v,cK⟩:=Jf;rw[bb]at jm;simp only[mP,w1]at jm;obtain⟨rfl,rfl⟩:=jm;obtain⟨aE,a5,ch,_,dT⟩:=cq f args m v cK bb;obtain⟨l1,aG,aN⟩:=auf (w:=w) E H al gZ aE;rw[aG,Oper.upon_enter];refine(dT ak w l1 aN al cd).mono λe w' bV=> ?_;obtain⟨bZ,cT,rfl,a9,bW,cA,fV,g9⟩:=bV;rw[aS];exact dH _ _ cT a9 (λb hb _=>bW b hb) ((H.bt a9).aK bI cA) fV g9
  | none=>
    rw[gZ]at jm;simp only at jm;split at jm
    ·rename_i ax;simp only[mP,w1]at jm;obtain⟨rfl,rfl⟩:=jm;obtain⟨bZ,w',cT,y,a9,bW,cA,fV,g9⟩:=aER E (TC ax) H al cd e2 ar ax;have O:=dH (a.put cG.d bZ) w' cT a9 (λb _ hb=>bW b hb) ((H.bt a9).aK bI cA) fV g9;rcases y with y|⟨y,rfl⟩
     ·rw[y,Oper.upon_value,aS];exact O
     ·rw[y,Oper.upon_skip,aS];exact O
    ·cases jm
 ·rw[if_neg aQ]at jm⊢;simp only[mP,w1]at jm;obtain⟨rfl,rfl⟩:=jm;rw[aS];exact dH _ _ ak (gQ.refl ak) (λ_ _ _=>rfl) (H.aK bI (dX.undef ak)) al (Below.refl _ _)
theorem I5{cG:cS}{K:aD}{U:G}(cq:sn P aP b5)(jm:iA b5 base cG z m=some (K,U)):m.next<=U.next:=by
 unfold iA at jm;split at jm
 ·split at jm
  ·split at jm
   ·rename_i bb;cases jm;exact(cq _ _ _ _ _ bb).2.1
   ·cases jm
  ·split at jm
   ·cases jm;cases cG.k<;>simp only[an.hr]<;>try exact c8 _
    ·unfold pD;split<;>try exact c8 _
     split<;>exact c8 _
    ·split
     ·exact c8 _
     ·unfold hR;split<;>exact c8 _
    ·unfold oe;split<;>try exact c8 _
     split<;>exact c8 _
   ·cases jm
 ·cases jm;exact c8 _
theorem PI{b cB:Nat}{x:Option en}(h:m.F b=none)(bx:b≠cB):(m.aK cB x).F b=none:=by rw[G.mX,if_neg bx];exact h
theorem ahC{b cB:Nat}{es:List (Value×Value)}(h:m.F b=none)(bx:b≠cB):(m.hL cB es).F b=none:=by unfold G.F G.hL at*;simp only[if_neg bx];exact h
theorem UD{cG:cS}{K:aD}{U:G}(cq:sn P aP b5)(jm:iA b5 base cG z m=some (K,U)){b:Nat}(hb:b<m.next)(bx:b≠base+cG.aY)(aH:m.F b=none):U.F b=none:=by
 unfold iA at jm;split at jm
 ·split at jm
  ·split at jm
   ·rename_i bb;cases jm;exact(cq _ _ _ _ _ bb).2.2.1 b hb aH
   ·cases jm
  ·split at jm
   ·rename_i ax;cases jm;cases O:cG.k<;>simp only[an.hr]<;>try exact aH
    all_goals try exact PI aH bx
    all_goals try exact ahC aH bx
    ·unfold pD;split
     ·rename_i eG;split
      ·rename_i x B;exact PI aH (λe=>by rw[e,B]at aH;cases aH)
      ·exact aH
     ·exact aH
    ·split
     ·exact aH
     ·refine PI ?_ bx;unfold hR;split
      ·rw[G.mX];split
       ·split<;>rfl
       ·exact aH
      ·exact aH
    ·unfold oe;split
     ·rename_i eG _ _ _;split
      ·rename_i x B;exact PI aH (λe=>by rw[e,B]at aH;cases aH)
      ·exact aH
     ·exact aH
    ·rename_i bc x k v;rw[O]at ax;simp only[an.ok]at ax;cases ba:S z x<;>simp only[ba]at ax<;>try cases ax
     rename_i p;cases p with
     |none=>simp at ax
     | some eN=>
       simp only at ax;cases aii:m.fC eN with
       |none=>simp[aii]at ax
       | some es=>have jj:=(G.yF aii).1;exact ahC aH (λe=>by have dw:b=eN:=e;rw[dw,jj]at aH;cases aH)
   ·cases jm
 ·cases jm;exact aH
theorem s0{cG:cS}{L:List cS}{s:aD×G}(h:lh b5 base (cG::L) z m=some s): ∃bT bn,iA b5 base cG z m=some (bT,bn)/\qQ cG z m bn/\lh b5 base L bT bn=some s:=by
 unfold lh at h;split at h
 ·rename_i bT bn A;split at h
  ·rename_i hA;exact⟨bT,bn,A,hA,h⟩
  ·cases h
 ·cases h
theorem A6{cG:cS}{L:List cS}{s:aD×G}{bT:aD}{bn:G}(A:iA b5 base cG z m=some (bT,bn))(E:qQ cG z m bn)(ao:lh b5 base L bT bn=some s):lh b5 base (cG::L) z m=some s:=by unfold lh;rw[A];simp only[if_pos E,ao]
theorem Nv(cq:sn P aP b5): ∀(L:List cS) (z:aD) (m:G) (s:aD×G),lh b5 base L z m=some s->m.next<=s.2.next
 |[],z,m,s,h=>by simp[lh]at h;subst h;exact c8 _
 | cG::L,z,m,s,h=>by obtain⟨bT,bn,A,_,ao⟩:=s0 h;exact mR (I5 cq A) (Nv cq L _ _ _ ao)
theorem acW(cq:sn P aP b5){b:Nat}(hb:b<base): ∀(L:List cS) (z:aD) (m:G) (s:aD×G),base<=m.next->lh b5 base L z m=some s->m.F b=none->s.2.F b=none
 |[],z,m,s,_,h,aH=>by simp[lh]at h;subst h;exact aH
 | cG::L,z,m,s,aj,h,aH=>by obtain⟨bT,bn,A,_,ao⟩:=s0 h;exact acW cq hb L _ _ _ (mR aj (I5 cq A)) ao (UD cq A (by omega) (by omega) aH)
theorem ab6(cq:sn P aP b5){Q:Exit->Act->World->Prop}{T:List Nat}: ∀(L:List cS) (z:aD) (m:G) (a:Act) (w:World) (ak:Ren) (K:aD) (U:G),
 (∀cG∈L,∃o,zR P ops da cG o)->(L.map (·.aY)).Nodup->hl ak da z a->dG aP ak m w->aP<=w.heap.size->(∀cG∈L,cG.k.fD=true->base+cG.aY<m.next/\ak (base+cG.aY)=none)->lh b5 base L z m=some (K,U)->
 (∀ev w' cT,gQ ak cT->(∀b,b<m.next->(∀cG∈L,b≠base+cG.aY)->cT b=ak b)->hl cT da K ev->dG aP cT U w'->Below aP w w'->wpOps P ops Q T ev w')->wpOps P ops Q (L.map (·.aY)++T) a w
 | [],z,m,a,w,ak,K,U,_,_,H,al,_,_,h,a6=>by simp only[lh,mP,w1]at h;obtain⟨rfl,rfl⟩:=h;exact a6 a w ak (gQ.refl ak) (λ_ _ _=>rfl) H al (Below.refl _ _)
 | cG::L,z,m,a,w,ak,K,U,Ar,eM,H,al,cd,e2,h,a6=>by
   obtain⟨bT,bn,A,_,ao⟩:=s0 h;obtain⟨o,aC⟩:=Ar cG (by simp);simp only[lW,Bx]at eM;rw[lW,uu,wpOps_cons];have ka:=I5 cq A;refine aq5 cq aC H al cd (λh=>(e2 cG (by simp) h).1) (λh=>(e2 cG (by simp) h).2) A λev w' cT a9 bW cA fV g9=> ?_;refine ab6 cq L bT bn ev w' cT K U (λi Y=>Ar i (by simp[Y])) eM.2 cA fV (mR cd g9.size) (λi Y fw=> ?_) ao λbQ ea oE dC fK iz ky zk=> ?_
   ·have:=e2 i (by simp[Y]) fw;refine⟨by omega,?_⟩;rw[bW _ this.1 (λe=>eM.1 (gx.2 ⟨i,Y,by omega⟩))];exact this.2
   ·exact a6 bQ ea oE (a9.trans dC) (λb hb bx=>(fK b (by omega) (λi Y=>bx i (by simp[Y]))).trans (bW b hb (bx cG (by simp)))) iz ky (g9.trans zk)
theorem aC8{cG:cS}(av:zR P ops da cG o)(H:hl ak da z a)(al:dG aP ak m w)(cd:aP<=w.heap.size)(e2:base+cG.aY<m.next)(ar:ak (base+cG.aY)=none)(aA:pl cG z m=true)
 {aR:Act->World->Prop} {Q:Exit->Act->World->Prop}
 (dH: ∀ev w' cT,gQ ak cT->(∀b,b≠base+cG.aY->cT b=ak b)->hl cT da (c0 z cG.d (cG.k.val (base+cG.aY) z m)) ev->dG aP cT (cG.k.hr (base+cG.aY) z m) w'->dG w'.heap.size cT (pW m) w'->Below aP w w'->aR ev w'):wpOp P ops Q cG.aY aR a w:=by
 obtain⟨A,E,ao,aS,bI⟩:=av;obtain⟨aY,d,g,k,bc⟩:=cG;simp only at A E ao aS bI e2 ar dH⊢;simp only[pl,a7,DG]at aA;obtain⟨⟨aH,a8⟩,ax⟩:=aA;subst aH;unfold wpOp;simp only[A];rw[arS ao H,if_pos (show e9 z none=true from rfl)];refine .inl ?_;unfold Oper.wp;split at a8
 ·rename_i I bytes x y;obtain⟨bZ,w',cT,aKG,a9,bW,cA,fV,g9,mg⟩:=ato E H al cd e2 ar ax;have bb:dG w'.heap.size cT (pW m) w':=by
   have jy: ∀b x,(pW m).F b=some x-> ∃bf,m.F b=some bf/\x=HA bf:=by
    intro b x hb;unfold G.F at hb⊢;change (if b<m.next then _ else _)=_ at hb;split at hb
    ·rename_i dA;rw[if_pos dA];simp only[pW,vI]at hb;obtain⟨bf,aE,a5⟩:=hb;exact⟨bf,aE,a5.symm⟩
    ·cases hb
   have aj:((an.app I bytes x y).hr (base+aY) z m).next=m.next:=by
    simp only[an.hr];split
    ·rfl
    ·unfold hR;split<;>rfl
   refine⟨λb l hb=>by have:=fV.lq b l hb;rw[aj]at this;exact this,fV.mb,λb x hb=> ?_,λb x cB hM l c7 hb j4=> ?_,λb es hb=>(by cases hb),λb es hb=> ?_,λb x l hb j4=>(by obtain⟨bf,_,rfl⟩:=jy b x hb;cases j4)⟩
   ·obtain⟨bf,aE,rfl⟩:=jy b x hb;obtain⟨l,aG,aN,ct,_⟩:=al.md b bf aE;refine⟨l,a9 b l aG,aN,λi v M=> ?_,λh=>by cases h⟩;obtain⟨mx,bZ,l5,Ad⟩:=ct i v M;exact⟨mx,bZ,by rw[mg a8 b bf l aE aG i (cN.1 M).1];exact l5,Ad.bt a9⟩
   ·obtain⟨bf,_,rfl⟩:=jy b x hb;cases j4
   ·obtain⟨aE,_⟩:=G.yF hb;obtain⟨bf,_,a5⟩:=jy b _ aE;simp[HA]at a5
  have O:=dH (a.put d bZ) w' cT a9 bW ((H.bt a9).aK bI cA) fV bb g9;rcases aKG with y|⟨y,rfl⟩
  ·rw[y,Oper.upon_value,aS];exact O
  ·rw[y,Oper.upon_skip,aS];exact O
 ·cases a8
theorem aC6{tg:Nat}{oE:Ren}{bn cK:G}{cr ea:World}(cd:tg=cr.heap.size)(A:dG aP ak bn cr)(E:dG tg oE cK ea)(eW:gQ ak oE)(aj:bn.next<=cK.next)(hb:Below tg cr ea):dG aP oE (bn.bU (cK.next-bn.next)) ea:=by
 subst cd;have av: ∀b l,ak b=some l->ea.heap[l.c]?=cr.heap[l.c]?:= λb l h=>hb.block _ (A.mb b l h);have ba: ∀b l c7,ak b=some l->oE b=some c7->c7=l:= λb l c7 h cw=>by have:=eW b l h;rw[cw]at this;cases this;rfl
 refine⟨λb l h=>by have:=E.lq b l h;rw[G.qP];omega,E.mb,λb x B=> ?_,λb x cB hM l c7 B aC h6 bx aA h5=> ?_,λb es h=> ?_,λb es h=> ?_,λb x l B aC aA=> ?_⟩
 ·rw[G.cl]at B;obtain⟨l,aG,aN,ct,gC⟩:=A.md b x B;have v5: ∀i,ea.cell? ⟨l.c,l.o+i,none⟩=cr.cell? ⟨l.c,l.o+i,none⟩:= λi=>by simp only[World.cell?,av b l aG]
  have kv: ∀i,ea.frozen? ⟨l.c,l.o+i,none⟩=cr.frozen? ⟨l.c,l.o+i,none⟩:= λi=>by simp only[World.frozen?,av b l aG]
  refine⟨l,eW b l aG,aN,λi v M=> ?_,λaC=>⟨(gC aC).1,λi Y=>by rw[v5,kv];exact(gC aC).2 i Y⟩⟩;obtain⟨mx,bZ,l5,Ad⟩:=ct i v M;exact⟨mx,bZ,by rw[v5];exact l5,Ad.bt eW⟩
 ·rw[G.cl]at B h6;obtain⟨k,aG,_⟩:=A.md b x B;obtain⟨fk,Pr,_⟩:=A.md cB hM h6;rw[ba b k l aG aA,ba cB fk c7 Pr h5];exact A.rN b x cB hM k fk B aC h6 bx aG Pr
 ·obtain⟨l,e⟩:=A.xV b es h;exact⟨l,eW b l e⟩
 ·obtain⟨aE,a5⟩:=G.yF h;rw[G.cl]at aE;obtain⟨l,de,bc,aG,aN,ct,gC⟩:=A.maps b es (G.kT aE a5);exact⟨l,de,bc,eW b l aG,aN,by rw[av b l aG];exact ct,gC.bt eW⟩
 ·rw[G.cl]at B;obtain⟨k,aG,_⟩:=A.md b x B;rw[ba b k l aG aA];exact(A.tY b x k B aC aG).C0 (av b k aG)
theorem aph(cq:sn P aP b5){Q:Exit->Act->World->Prop}(L:List cS)(z:aD)(m:G)(a:Act)(w:World)(ak:Ren)(K:aD)(U:G)
 (A: ∀cG∈L,∃o,zR P ops da cG o) (E:(L.map (·.aY)).Nodup) (H:hl ak da z a) (al:dG aP ak m w) (cd:aP<=w.heap.size) (ao: ∀cG∈L,cG.k.fD=true->base+cG.aY<m.next/\ak (base+cG.aY)=none) (aS:lh b5 base L z m=some (K,U))
 (a6: ∀ev w' cT,gQ ak cT->(∀b,b<base->b<m.next->cT b=ak b)->hl cT da K ev->dG aP cT U w'->Below aP w w'->Q .normal ev w'):wpOps P ops Q (L.map (·.aY)) a w:=by
 have:=ab6 (T:=[]) (Q:=Q) cq L z m a w ak K U A E H al cd ao aS λev w' cT a9 bW cA fV g9=>a6 ev w' cT a9 (λb hb rP=>bW b rP λcG _=>by omega) cA fV g9
 rwa [sl]at this
end
def an.g6(k:an)(id:Nat)(z:aD)(m:G):List (Nat×Option en):=
 match k with
 | .nD I=>[(id,some ⟨I,true⟩)]
 | .oK x=>[(id,some ⟨ab (S z x),true⟩)]
 | .mv _ _ I ps=>[(id,some ⟨ns I z ps,true⟩)]
 | .store _ x v=>match S z x with
   | .pointer (some a)=>(match m.F a.block with|some b=>[(a.block,some ⟨gV b.cells a.off (ab (S z v)),b.own⟩)]|none=>[])
   |_=>[]
 | .qb x=>[(id,some ⟨IA (w8 (S z x)),true⟩)]
 | .ov _ _ zero l _=>[(id,some ⟨(List.replicate (eZ (S z l)).toNat zero).flatten,true⟩)]
 | .o8 _ _ zero _ l=>[(id,some ⟨(List.replicate (eZ (S z l)).toNat zero).flatten,true⟩)]
 | .app I _ x y=>if fW (S z y)=0 then[]else(match S z x with| .slice (some a) _ _=>[(a.block,none)]|_=>[])++[(id,some ⟨fy m I (S z x)++fy m I (S z y),true⟩)]
 |_=>[]
def ju(m:G)(l:List (Nat×Option en)):G:=l.foldl (λm p=>m.aK p.1 p.2) m
section
variable {P:Program} {z c2:aD} {m cK:G} {aP:Nat} {b5:Callee} {base id:Nat} {k:an}
theorem aop(Ey:k.y6=false):k.hr id z m=ju m (k.g6 id z m):=by
 cases k<;>simp only[an.y6,Bool.true_eq_false]at Ey<;>simp only[an.hr,an.g6,ju,List.foldl_nil,zN]
 ·rename_i n x v;generalize S z x=bf;cases bf<;>try rfl
  rename_i p;cases p with
  |none=>rfl
  | some eG=>simp only[pD];cases m.F eG.block<;>rfl
 ·rename_i I fZ x y;split
  ·rfl
  ·generalize S z x=bf;cases bf<;>try rfl
   rename_i p l c;cases p<;>rfl
theorem Jh: ∀p∈k.g6 id z m,(k.fD=true/\p.1=id/\aa (k.val id z m)=some id)\/ ∃x∈k.o3,aa (S z x)=some p.1:=by
 intro p ae;cases k<;>simp only[an.g6,kQ,rz]at ae
 case nD=>subst ae;exact .inl ⟨rfl,rfl,rfl⟩
 case oK=>subst ae;exact .inl ⟨rfl,rfl,rfl⟩
 case mv=>subst ae;exact .inl ⟨rfl,rfl,rfl⟩
 case qb=>subst ae;exact .inl ⟨rfl,rfl,rfl⟩
 case ov=>subst ae;exact .inl ⟨rfl,rfl,rfl⟩
 case o8=>subst ae;exact .inl ⟨rfl,rfl,rfl⟩
 case store n x v=>
  split at ae
  ·rename_i eG h;split at ae
   ·simp only[rz]at ae;subst ae;exact .inr ⟨x,by simp[an.o3],by simp[h,aa]⟩
   ·cases ae
  ·cases ae
 case app I fZ x y=>
  split at ae
  ·cases ae
  ·rename_i aj;rcases jP.1 ae with h|h
   ·split at h
    ·rename_i eG l c B;simp only[rz]at h;subst h;exact .inr ⟨x,by simp[an.o3],by simp[B,aa]⟩
    ·cases h
   ·simp only[rz]at h;subst h;exact .inl ⟨rfl,rfl,by simp[an.val,aj,aa]⟩
theorem Wh: ∀(l:List (Nat×Option en)) (m:G) (b:Nat),(∀p∈l,p.1≠b)->(ju m l).F b=m.F b
 |[],_,_,_=>rfl
 | p::l,m,b,h=>by show(ju (m.aK p.1 p.2) l).F b=_;rw[Wh l _ b (λq bg=>h q (by simp[bg])),G.mX,if_neg (Ne.symm (h p (by simp)))]
theorem apL{a b:Nat}{x y:Option en}(h:a≠b):(m.aK a x).aK b y=(m.aK b y).aK a x:=by
 unfold G.aK;simp only[G.mk.injEq,true_and,and_true];funext i;by_cases A:i=b
 ·subst A;simp[Ne.symm h]
 ·simp[A]
theorem afJ: ∀(l:List (Nat×Option en)) (m:G) (b:Nat) (x:Option en),(∀p∈l,p.1≠b)->ju (m.aK b x) l=(ju m l).aK b x
 |[],_,_,_,_=>rfl
 | p::l,m,b,x,h=>by show ju ((m.aK b x).aK p.1 p.2) l=(ju (m.aK p.1 p.2) l).aK b x;rw[apL (Ne.symm (h p (by simp))),afJ l _ b x (λq bg=>h q (by simp[bg]))]
theorem afI: ∀(l r:List (Nat×Option en)) (m:G),(∀p∈l,∀q∈r,p.1≠q.1)->ju (ju m l) r=ju (ju m r) l
 |[],_,_,_=>rfl
 | p::l,r,m,h=>by show ju (ju (m.aK p.1 p.2) l) r=ju ((ju m r).aK p.1 p.2) l;rw[afI l r _ (λjV oQ=>h jV (by simp[oQ])),afJ r m p.1 p.2 (λq bg=>Ne.symm (h p (by simp) q bg))]
theorem Vx{b:Nat}(h:m.F b=cK.F b)(off n:Nat):gW m b off n=gW cK b off n:=by unfold gW;rw[h]
theorem Pj(Ey:k.y6=false)(h: ∀x∈k.nu,∀b,aa (S z x)=some b->m.F b=cK.F b):k.ok z m=k.ok z cK/\k.val id z m=k.val id z cK/\k.g6 id z m=k.g6 id z cK:=by
 cases k<;>simp only[an.y6,Bool.true_eq_false]at Ey<;>try exact⟨rfl,rfl,rfl⟩
 case hq dE n x=>
  have A:=h x (by simp[an.nu]);cases M:S z x<;>simp only[an.ok,an.val,an.g6,M,g2,lP,and_self];rename_i p;cases p with
  |none=>simp
  | some eG=>have E:=A eG.block (by simp[M,aa]);simp only[E,Vx E,and_self]
 case s5 I n x=>
  have A:=h x (by simp[an.nu]);cases M:S z x<;>simp only[an.ok,an.val,an.g6,M,g2,and_self];rename_i p;cases p with
  |none=>simp
  | some eG=>have E:=A eG.block (by simp[M,aa]);simp only[E,and_self]
 case store n x v=>
  have A:=h x (by simp[an.nu]);cases M:S z x<;>simp only[an.ok,an.val,an.g6,M,g2,rG,true_and,and_self];rename_i p;cases p with
  |none=>simp
  | some eG=>have E:=A eG.block (by simp[M,aa]);simp only[E,and_self]
 case pN x=>
  have A:=h x (by simp[an.nu]);cases M:S z x<;>simp only[an.ok,an.val,an.g6,M,fF,fy,and_self];rename_i p l c;cases p with
  |none=>simp
  | some eG=>have E:=A eG.block (by simp[M,aa]);simp only[E,Vx E,and_self]
 case app I fZ x y=>
  have A:=h x (by simp[an.nu]);have jw:=h y (by simp[an.nu]);have s: ∀v:Value,(∀b,aa v=some b->m.F b=cK.F b)->fF m I v=fF cK I v/\iQ m v=iQ cK v/\fy m I v=fy cK I v:=by
   intro v M;cases v<;>simp only[fF,iQ,fy,and_self];rename_i p l c;cases p with
   |none=>simp
   | some eG=>have E:=M eG.block (by simp[aa]);simp only[E,Vx E,and_self]
  obtain⟨br,bQ,a3⟩:=s _ A;obtain⟨eH,_,ha⟩:=s _ jw;simp only[an.ok,an.val,an.g6,br,bQ,a3,eH,ha,and_self]
theorem aEN(h:k.ok z m=true): ∀x∈k.nu++k.o3,∀b,aa (S z x)=some b->(m.F b).isSome=true:=by
 have ag: ∀(v:Value) n,g2 m v n=true-> ∀b,aa v=some b->(m.F b).isSome=true:=by intro v n M b hb;obtain⟨cB,off,x,rfl,B,_⟩:=ON M;simp only[aa,mP]at hb;subst hb;rw[B];rfl
 have H: ∀(v:Value) I,fF m I v=true-> ∀b,aa v=some b->(m.F b).isSome=true:=by
  intro v I M b hb;rcases zB M with rfl|⟨cB,off,len,x,rfl,B,_⟩
  ·simp[aa]at hb
  ·simp only[aa,mP]at hb;subst hb;rw[B];rfl
 intro x B b hb;cases k<;>simp only[an.nu,an.o3,sl,kQ]at B
 case hq dE n y=>simp only[rz]at B;subst B;simp only[an.ok,a7]at h;exact ag _ _ h.1 b hb
 case s5 I n y=>simp only[rz]at B;subst B;simp only[an.ok,a7]at h;exact ag _ _ h.1 b hb
 case store n y v=>simp at B;subst B;simp only[an.ok,a7]at h;exact ag _ _ h.1.1.1 b hb
 case pN y=>simp only[rz]at B;subst B;simp only[an.ok,a7]at h;exact H _ _ h.1 b hb
 case hW I y=>simp at B;subst B;simp only[an.ok,a7]at h;exact H _ _ h.1.1 b hb
 case app I fZ y v=>
  simp only[an.ok,a7]at h;simp at B;rcases B with rfl|rfl|rfl
  ·exact H _ _ h.1.1.1.1.1 b hb
  ·exact H _ _ h.1.1.1.2 b hb
  ·exact H _ _ h.1.1.1.1.1 b hb
theorem BZ{x:Operand}(h: ∀t,x= .tmp t->z t=c2 t):S z x=S c2 x:=by cases x<;>first|rfl|exact h _ rfl
theorem TI: ∀(ps:List (Nat×Nat×Operand)) (cs:List Value),(∀p∈ps,S z p.2.2=S c2 p.2.2)->r3 cs z ps=r3 cs c2 ps/\ns cs z ps=ns cs c2 ps
 |[],_,_=>⟨rfl,rfl⟩
 | (a9,bW,cA)::ps,cs,h=>by have bX:S z cA=S c2 cA:=h (a9,bW,cA) (by simp);have A:=(TI ps cs λp ae=>h p (by simp[ae])).1;have E:=(TI ps (gV cs a9 (ab (S c2 cA))) λp ae=>h p (by simp[ae])).2;simp only[r3,m9,ns,bX]at A⊢;exact⟨by rw[A],E⟩
theorem Nb{l:Option Operand}{d:Int}(h: ∀x∈l.toList,S z x=S c2 x):p4 z l=p4 c2 l/\hs z l d=hs c2 l d:=by
 cases l with
 |none=>exact⟨rfl,rfl⟩
 |some x=>have:=h x (by simp);simp[p4,hs,this]
theorem z9(h: ∀x∈k.h0,S z x=S c2 x):k.ok z m=k.ok c2 m/\k.val id z m=k.val id c2 m/\k.g6 id z m=k.g6 id c2 m/\k.fL z m=k.fL c2 m:=by
 cases k<;>simp only[an.h0,hv,kQ,or_false,forall_eq_or_imp,forall_eq,jP]at h
 case vQ I ps=>obtain⟨A,E⟩:=TI ps I λp ae=>h _ (gx.2 ⟨p,ae,rfl⟩);simp only[an.ok,an.val,an.g6,an.fL,A,E,and_self]
 case mv I n cs ps=>obtain⟨A,E⟩:=TI ps cs λp ae=>h _ (gx.2 ⟨p,ae,rfl⟩);simp only[an.ok,an.val,an.g6,an.fL,A,E,and_self]
 case Gc x l r=>have A:= λd=>Nb (l:=l) (d:=d) λy Z=>h.2 y (.inl Z);have E:= λd=>Nb (l:=r) (d:=d) λy Z=>h.2 y (.inr Z);simp only[an.ok,an.val,an.g6,an.fL,h.1,(A 0).1,(E 0).1,λd=>(A d).2,λd=>(E d).2,and_self]
 case wP I x l r=>have A:= λd=>Nb (l:=l) (d:=d) λy Z=>h.2 y (.inl Z);have E:= λd=>Nb (l:=r) (d:=d) λy Z=>h.2 y (.inr Z);simp only[an.ok,an.val,an.g6,an.fL,h.1,(A 0).1,(E 0).1,λd=>(A d).2,λd=>(E d).2,and_self]
 case Bg I x l r fP=>have A:= λd=>Nb (l:=l) (d:=d) λy Z=>h.2.2.2 y Z;simp only[an.ok,an.val,an.g6,an.fL,h.1,h.2.1,h.2.2.1,(A 0).1,λd=>(A d).2,and_self]
 case za fP x xs=>
  have A: ∀(l:List Operand),(∀y∈l,S z y=S c2 y)->(l.all λy=>fu (S z y))=(l.all λy=>fu (S c2 y))/\
   ∀dY,l.foldl (λdY y=>if fP then pZ dY (S z y)else p1 dY (S z y)) dY=l.foldl (λdY y=>if fP then pZ dY (S c2 y)else p1 dY (S c2 y)) dY:=by
   intro l;induction l with
   |nil=>intro _;exact⟨rfl,λ_=>rfl⟩
   | cons y l cj=>intro aA;obtain⟨aE,a5⟩:=cj λI bE=>aA I (by simp[bE]);have:=aA y (by simp);exact⟨by simp only[m9,this,aE],λdY=>by simp only[zN,this,a5]⟩
  obtain⟨aE,a5⟩:=A xs h.2;simp only[an.ok,an.val,an.g6,an.fL,h.1,aE,a5,and_self]
 case zb fn xs ys=>have A:xs.map (S z)=xs.map (S c2):=DJ λy Z=>h y (.inl Z);have E:ys.map (S z)=ys.map (S c2):=DJ λy Z=>h y (.inr Z);simp only[an.ok,an.val,an.g6,an.fL,A,E,and_self]
 case l2 f bz=>have A:bz.map (S z)=bz.map (S c2):=DJ h;simp only[an.ok,an.val,an.g6,an.fL,A,and_self]
 case nc x bz=>have A:bz.map (S z)=bz.map (S c2):=DJ h.2;simp only[an.ok,an.val,an.g6,an.fL,A,h.1,and_self]
 case mE bJ x bz=>have A:bz.map (S z)=bz.map (S c2):=DJ h.2;simp only[an.ok,an.val,an.g6,an.fL,A,h.1,and_self]
 all_goals simp only[an.ok,an.val,an.g6,an.fL,h,and_self]
end
end Go.DI
