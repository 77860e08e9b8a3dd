/-
  A part of the proof of the statement, in texts that tools of ours (wip/shrink.py, irpack.py, relax.py, minify.py, join.py, lay.py) have shortened.
-/
import Derived.MapKept
import Derived.Test.YtkpifdkccdndcaaGreatZab
set_option linter.all false
set_option maxRecDepth 8000
set_option maxHeartbeats 16000000
namespace Go.DI
open Go Go.RowKit
def mu.y0:mu->TypeDesc
  | .int k=> .int k
  | .str=> .string
theorem apj{gJ:mu}{v:Value}(h:q4 gJ v=true):MapKept.IsKey gJ.y0 v:=by cases gJ<;>cases v<;>simp_all [q4,MapKept.IsKey,mu.y0]
theorem UA{gJ:mu}{v:Value}(h:q4 gJ v=true):fy v=true:=by cases gJ<;>cases v<;>simp_all [q4,fy]
theorem av9{gJ:mu}{a b:Value}(aC:q4 gJ a=true)(K:q4 gJ b=true):Instr.sameNow gJ.y0 a b=some (kj a b)/\(kj a b=true->a=b):=by
  cases gJ with
  | int eK=>cases a<;>simp[q4]at aC;cases b<;>simp[q4]at K;rename_i bM du dL dV;subst aC;subst K;have e:(du==dV)=decide (du=dV):=(by by_cases h:du=dV<;>simp[h]);exact⟨by simp only[mu.y0,Instr.sameNow,kj,e,if_true],λh=>by simp only[kj,fU]at h;rw[h]⟩
  | str=>
    cases a<;>simp[q4]at aC;cases b<;>simp[q4]at K;rename_i x y;have e:(x==y)=decide (x=y):=by
      have:=MapKept.bytes_beq x y;by_cases h:x=y
      · rw[this.2 h];simp[h]
      · cases aK:(x==y)
        · simp[h]
        · exact absurd (this.1 aK) h
    exact⟨by simp only[mu.y0,Instr.sameNow,kj,e],λh=>by simp only[kj,fU]at h;rw[h]⟩
theorem ah6{P:Program}{t:TypeId}{gJ:mu}(h:Qe P t=some gJ):P.underlying t=some gJ.y0:=by
  unfold Qe at h;split at h<;>cases h
  · rename_i k aa;exact aa
  · rename_i aa;exact aa
theorem Xv{ak:fC}{gJ:mu}{k:Value}(aa:q4 gJ k=true): ∀(bJ:List (Value×Value)) (eE:List MapEntry) (i:Nat),Cl ak bJ eE->(bJ.all λe=>q4 gJ e.1)=true->
    (jY k bJ=none/\Instr.findNow gJ.y0 k eE i=some none/\ ∀v,m2 k v bJ=bJ++[(k,v)])\/
    (∃j e eD,bJ[j]?=some e/\eE[j]?=some eD/\eD.key=k/\jY k bJ=some e.2/\Instr.findNow gJ.y0 k eE i=some (some (i+j,eD.val))/\ ∀v,m2 k v bJ=bJ.set j (k,v))
  | [],eE,i,h,_=>by have:eE=[]:=pz.1 h.1.symm;subst this;exact .inl ⟨rfl,rfl,λ_=>rfl⟩
  | e::bJ,eE,i,h,aC=>by
    cases eE with
    |nil=>have:=h.1;simp at this
    | cons eD eE=>
      simp only[uh,bK]at aC;obtain⟨B,H,af,aL⟩:=h.2 0 e eD rfl rfl;have Rg:Cl ak bJ eE:=⟨by simpa using h.1,λj a b B H=>h.2 (j+1) a b (by simpa using B) (by simpa using H)⟩;obtain⟨bY,cN⟩:=av9 aa aC.1;cases aK:kj k e.1
      · rw[aK,<-H]at bY;rcases Xv aa bJ eE (i+1) Rg aC.2 with⟨aj,ba,cD⟩|⟨j,x,hY,aj,ba,cD,fs,iU,mc⟩
        · exact .inl ⟨by simp[jY,aK,aj],by simp[Instr.findNow,bY,ba],λv=>by simp[m2,aK,cD]⟩
        · exact .inr ⟨j+1,x,hY,by simpa using aj,by simpa using ba,cD,by simp[jY,aK,fs],by simp[Instr.findNow,bY,iU];omega,λv=>by simp[m2,aK,mc]⟩
      · rw[aK,<-H]at bY;exact .inr ⟨0,e,eD,rfl,rfl,by rw[H];exact(cN aK).symm,by simp[jY,aK],by simp[Instr.findNow,bY],λv=>by simp[m2,aK]⟩
section
variable {P:Program} {w:World} {o:Oper} {a:Act} {ak:fC} {eb:Nat} {u:aM} {m:E} {a9 id:Nat}
theorem aNa{e:TypeId}{O:Value}(cl:V2 P e=some O):(zeroValue e).run P w= .ok O w/\fy O=true:=by
  unfold V2 at cl;split at cl
  · rename_i i ag;split at cl
    · rename_i kW uM;split at cl<;>cases cl;rename_i bs;exact⟨by simp[zeroValue,typeInfo,ag,uM],bs⟩
    · cases cl
  · cases cl
theorem eW.aHM(aN:eW a9 ak m w)(dt:a9<=w.heap.size)(fA:id<m.next)(aH:ak id=none):eW a9 (jF ak id ⟨w.heap.size,0,0⟩) (m.hx id []) (w.alloc (.map #[] 0)):=by
  have fM:=xk (l:=⟨w.heap.size,0,0⟩) aH;have jc:(w.alloc (.map #[] 0)).heap.size=w.heap.size+1:=by show(w.heap.push _).size=_;rw[Array.size_push]
  have Ib: ∀k,k<w.heap.size->(w.alloc (.map #[] 0)).heap[k]?=w.heap[k]?:= λk aa=>by show(w.heap.push _)[k]?=_;rw[Pw,if_neg (by omega)]
  have oJ: ∀b,(m.hx id []).U b=if b=id then some ⟨[],true⟩else m.U b:= λb=>by
    unfold E.U E.hx;by_cases h:b=id
    · subst h;simp[fA]
    · simp[h]
  have L6: ∀b l,jF ak id ⟨w.heap.size,0,0⟩ b=some l->(b=id/\l=⟨w.heap.size,0,0⟩)\/(b≠id/\ak b=some l):= λb l h=>by
    unfold jF at h;split at h
    · rename_i e;cases h;exact .inl ⟨e,rfl⟩
    · rename_i e;exact .inr ⟨e,h⟩
  refine⟨λb l K=> ?_,λb l K=> ?_,λb x F=> ?_,λb x b7 hY l eZ B H af aL cm dK=> ?_,λb bJ K=> ?_,λb bJ K=> ?_⟩
  · rcases L6 b l K with⟨rfl,_⟩|⟨_,h⟩
    · exact fA
    · exact aN.qU b l h
  · rcases L6 b l K with⟨_,rfl⟩|⟨_,h⟩
    · rw[jc];exact Nat.lt_succ_self _
    · rw[jc];have:=aN.oO b l h;omega
  · rw[oJ]at F;split at F
    · rename_i e;cases F;exact⟨⟨w.heap.size,0,0⟩,by simp[jF,e],eB _,λi v S=>by simp at S,λ_=>⟨dt,λi ag=>by simp at ag⟩⟩
    · obtain⟨l,aj,ba,cD,fs⟩:=aN.ph b x F;have uG:=aN.oO b l aj;have aK: ∀i,(w.alloc (.map #[] 0)).cell? ⟨l.c,l.o+i,none⟩=w.cell? ⟨l.c,l.o+i,none⟩:= λi=>World.cell?_of_block (w:=w) (Ib l.c uG);have bs: ∀i,(w.alloc (.map #[] 0)).frozen? ⟨l.c,l.o+i,none⟩=w.frozen? ⟨l.c,l.o+i,none⟩:= λi=>World.frozen?_of_block (w:=w) (Ib l.c uG);exact⟨l,fM _ _ aj,ba,λi v S=>by obtain⟨bC,b2,cq,cZ⟩:=cD i v S;exact⟨bC,b2,by rw[aK];exact cq,cZ.aD fM⟩,λah=>⟨(fs ah).1,λi ag=>by rw[aK,bs];exact(fs ah).2 i ag⟩⟩
  · rw[oJ]at B af;rcases L6 b l cm with⟨rfl,rfl⟩|⟨e,cm⟩
    · rcases L6 b7 eZ dK with⟨eD,_⟩|⟨eD,dK⟩
      · exact absurd eD.symm aL
      · have:=aN.oO b7 eZ dK;simp only;omega
    · rcases L6 b7 eZ dK with⟨eD,rfl⟩|⟨eD,dK⟩
      · have:=aN.oO b l cm;simp only;omega
      · rw[if_neg e]at B;rw[if_neg eD]at af;exact aN.vp b x b7 hY l eZ B H af aL cm dK
  · by_cases e:b=id
    · exact⟨⟨w.heap.size,0,0⟩,by simp[jF,e]⟩
    · have:m.mp b=some bJ:=(by simpa[E.hx,e]using K);obtain⟨l,aE⟩:=aN.yn b bJ this;exact⟨l,fM _ _ aE⟩
  · obtain⟨aj,ba⟩:=E.y8 K;by_cases e:b=id
    · subst e;have:bJ=[]:=(by simpa[E.hx]using ba.symm);subst this;exact⟨⟨w.heap.size,0,0⟩,#[],0,by simp[jF],dt,by show(w.heap.push _)[w.heap.size]?=_;simp,⟨rfl,λi e eD h=>by simp at h⟩⟩
    · rw[oJ,if_neg e]at aj;have qW:m.mp b=some bJ:=(by simpa[E.hx,e]using ba);obtain⟨l,eE,bI,ez,fj,gK,iB⟩:=aN.jB b bJ (E.o7 aj qW);exact⟨l,eE,bI,fM _ _ ez,fj,by rw[Ib _ (aN.oO b l ez)];exact gK,iB.aD fM⟩
theorem aK5{t:TypeId}(cw:o.op= .makeMap t none)(aN:eW a9 ak m w)(dt:a9<=w.heap.size)(fA:id<m.next)(aH:ak id=none):um P o .pj a a9 ak u m w id:=by
  refine⟨.map (some w.heap.size),w.alloc (.map #[] 0),jF ak id ⟨w.heap.size,0,0⟩,.inl ?_,xk aH,Cb,?_,aN.aHM dt fA aH,yU rfl rfl rfl rfl dt _⟩
  · simp only[execOp,cw,Option.map_none,Instr.makeMap,Sem.run_bind];rfl
  · exact .map (l:=⟨w.heap.size,0,0⟩) (by simp[jF])
theorem eW.arO(aN:eW a9 ak m w){b:Nat}{bJ:List (Value×Value)}{l:xA}{eE:Array MapEntry}{bI:Nat}(aq:m.fg b=some bJ)(aE:ak b=some l)(dt:a9<=l.c)(a6:w.heap[l.c]?=some (.map eE bI))
    {gH:List (Value×Value)} {HK:Array MapEntry} {K1:Nat} (aH:Cl ak gH HK.toList):eW a9 ak (m.hx b gH) {w with heap:=w.heap.setIfInBounds l.c (.map HK K1)}:=by
  obtain⟨hu,Fi⟩:=E.y8 aq;have K:=E.aO hu;obtain⟨nn,mV⟩:=MapKept.heap_set (o':= .map HK K1) a6;have oJ: ∀b7,(m.hx b gH).U b7=m.U b7:= λb7=>by
    by_cases h:b7=b
    · subst h;rw[hu];unfold E.U E.hx;simp[K]
    · unfold E.U E.hx;simp[h]
  have aK: ∀fr:Addr,World.cell? {w with heap:=w.heap.setIfInBounds l.c (.map HK K1)} fr=w.cell? fr:= λfr=>by
    by_cases h:fr.block=l.c
    · simp only[World.cell?,h,nn,a6]
    · exact World.cell?_of_block (w:=w) (mV _ h)
  have bs: ∀fr:Addr,World.frozen? {w with heap:=w.heap.setIfInBounds l.c (.map HK K1)} fr=w.frozen? fr:= λfr=>by
    by_cases h:fr.block=l.c
    · simp only[World.frozen?,h,nn,a6]
    · exact World.frozen?_of_block (w:=w) (mV _ h)
  refine⟨aN.qU,λb7 eZ b6=>by show eZ.c<(w.heap.setIfInBounds _ _).size;rw[Array.size_setIfInBounds];exact aN.oO b7 eZ b6,λb7 x F=> ?_,λcM cx dq c8 fP dX B H af=>aN.vp cM cx dq c8 fP dX (by rw[<-oJ];exact B) H (by rw[<-oJ];exact af),λb7 Ld hi=> ?_,λb7 Ld hi=> ?_⟩
  · rw[oJ]at F;simpa only[aK,bs]using aN.ph b7 x F
  · by_cases e:b7=b
    · exact⟨l,by rw[e];exact aE⟩
    · exact aN.yn b7 Ld (by simpa[E.hx,e]using hi)
  · obtain⟨aj,ba⟩:=E.y8 hi;rw[oJ]at aj;by_cases e:b7=b
    · subst e;have:Ld=gH:=(by simpa[E.hx]using ba.symm);subst this;exact⟨l,HK,K1,aE,dt,nn,aH⟩
    · have qW:m.mp b7=some Ld:=(by simpa[E.hx,e]using ba);obtain⟨dX,aw9,awb,ez,fj,gK,iB⟩:=aN.jB b7 Ld (E.o7 aj qW);have dE:dX.c≠l.c:=aN.vp b7 _ b _ dX l aj rfl hu e ez aE;exact⟨dX,aw9,awb,ez,fj,by rw[mV _ dE];exact gK,iB⟩
theorem aK8{t yl e:TypeId}{gJ:mu}{x k v:Operand}(cw:o.op= .mapUpdate t x k v)(bm:P.underlying t=some (.map yl e))(ay:P.underlying yl=some gJ.y0)(F:er x=true)(aa:er k=true)(S:er v=true)
    (M:h2 ak eb u a) (aN:eW a9 ak m w) (aA:(al.p0 gJ x k v).ok u m=true):um P o (.p0 gJ x k v) a a9 ak u m w id:=by
  simp only[al.ok]at aA;have aH:=M.ad F;cases ar:ad u x<;>simp only[ar]at aA<;>try cases aA
  rename_i p;cases p with
  |none=>simp at aA
  | some b=>
    simp only at aA;rw[ar]at aH;obtain⟨l,aE,k1⟩:=aH.Mu;cases aq:m.fg b with
    |none=>simp[aq]at aA
    | some bJ=>
      simp only[aq,mD,bK]at aA;obtain⟨⟨vu,tw⟩,Mn⟩:=aA;obtain⟨eZ,eE,bI,ez,fj,gK,iB⟩:=aN.jB b bJ aq;rw[aE]at ez;cases ez;have Fx:a.eval k=ad u k:=(M.ad aa).kx (UA vu);have Q7:=apj vu;have akl:=M.ad S;have wH:(al.p0 gJ x k v).iH id u m=m.hx b (m2 (ad u k) (ad u v) bJ):=(by simp only[al.iH,ar,DN,aq,Hf]);have jU:(Instr.checkKey false 10000 yl (ad u k)).run P w= .ok () w:=MapKept.run_checkKey ay Q7 false 9999;have ajp: ∀o',Below a9 w {w with heap:=w.heap.setIfInBounds l.c o'}:= λo'=>⟨rfl,rfl,rfl,by show _<=(w.heap.setIfInBounds _ _).size;rw[Array.size_setIfInBounds];exact eB _,λk aa=>by show(w.heap.setIfInBounds _ _)[k]?=_;simp[show l.c≠k by omega]⟩;rcases Xv vu bJ eE.toList 0 iB tw with⟨_,ba,cD⟩|⟨j,cx,c8,aj,ba,cD,_,iU,mc⟩
      · have k0:(Instr.mapUpdate t (a.eval x) (a.eval k) (a.eval v)).run P w= .ok () {w with heap:=w.heap.setIfInBounds l.c (.map (eE.push {key:=ad u k,val:=a.eval v,born:=bI}) (bI+1))}:=by
          simp[Instr.mapUpdate,k1,Fx,run_underlying bm,MapKept.run_getObj_map gK,jU,MapKept.run_findKey ay ba,MapKept.run_setObj_map _ gK]
        refine⟨undef,_,ak,.inr ⟨by simp only[execOp,cw,k0,Sem.run_bind,Result.andThen_ok];rfl,rfl⟩,hM.refl ak,λ_ _=>rfl,eY.undef ak,?_,ajp _⟩;rw[wH,cD];refine aN.arO aq aE fj gK ⟨by simp[iB.1],λi e eD B H=> ?_⟩;simp only[Array.toList_push]at H;rw[Hm]at B H;rw[<-iB.1]at H;split at B
        · rename_i ag;rw[if_pos ag]at H;exact iB.2 i e eD B H
        · rename_i ag;rw[if_neg ag]at H;have CZ:i-bJ.length=0:=(by have:=(dg.1 B).1;simp at this;omega);rw[CZ]at B H;simp at B H;subst B;subst H;exact⟨UA vu,rfl,Mn,akl⟩
      · have c6:eE[j]?=some c8:=(by simpa using ba);have k0:(Instr.mapUpdate t (a.eval x) (a.eval k) (a.eval v)).run P w= .ok () {w with heap:=w.heap.setIfInBounds l.c (.map (eE.modify j λe=>{e with key:=ad u k,val:=a.eval v}) bI)}:=by
          simp[Instr.mapUpdate,k1,Fx,run_underlying bm,MapKept.run_getObj_map gK,jU,MapKept.run_findKey ay iU,c6,cD,MapKept.run_keyThatStays Q7,MapKept.run_setObj_map _ gK]
        refine⟨undef,_,ak,.inr ⟨by simp only[execOp,cw,k0,Sem.run_bind,Result.andThen_ok];rfl,rfl⟩,hM.refl ak,λ_ _=>rfl,eY.undef ak,?_,ajp _⟩;rw[wH,mc];refine aN.arO aq aE fj gK ⟨by simpa using iB.1,λi e eD B H=> ?_⟩;simp only[Pu,Array.getElem?_modify]at H;rw[EA]at B;by_cases tv:j=i
        · subst tv;rw[if_pos rfl,if_pos (by have:=(dg.1 aj).1;exact this)]at B;rw[if_pos rfl,c6]at H;simp at B H;subst B;subst H;exact⟨UA vu,rfl,Mn,akl⟩
        · rw[if_neg tv]at B H;exact iB.2 i e eD B (by simpa using H)
theorem aK7{t yl e:TypeId}{gJ:mu}{O:Value}{ok:Bool}{x k:Operand}(cw:o.op= .lookup t x k ok)(bm:P.underlying t=some (.map yl e))(ay:P.underlying yl=some gJ.y0)(cl:V2 P e=some O)(F:er x=true)(aa:er k=true)
    (M:h2 ak eb u a) (aN:eW a9 ak m w) (aA:(al.pY gJ O ok x k).ok u m=true):um P o (.pY gJ O ok x k) a a9 ak u m w id:=by
  obtain⟨akt,aAh⟩:=aNa (w:=w) cl;simp only[al.ok]at aA;have nH: ∃(bJ:List (Value×Value)) (eE:Array MapEntry),ml m (ad u x)=some bJ/\Cl ak bJ eE.toList/\((a.eval x= .map none/\eE= #[])\/ ∃r bI,a.eval x= .map (some r)/\w.heap[r]?=some (.map eE bI)):=by
    have aH:=M.ad F;cases ar:ad u x<;>simp only[ar,ml]at aA<;>try cases aA
    rename_i p;cases p with
    | none=>rw[ar]at aH;exact⟨[],#[],rfl,⟨rfl,λi e eD h=>by simp at h⟩,.inl ⟨aH.kx rfl,rfl⟩⟩
    | some b=>
      rw[ar]at aH;obtain⟨l,aE,S⟩:=aH.Mu;cases aq:m.fg b with
      |none=>simp[aq]at aA
      | some bJ=>obtain⟨eZ,eE,bI,ez,fj,gK,iB⟩:=aN.jB b bJ aq;rw[aE]at ez;cases ez;exact⟨bJ,eE,aq,iB,.inr ⟨l.c,bI,S,gK⟩⟩
  obtain⟨bJ,eE,H2,Rg,HZ⟩:=nH;rw[H2]at aA;simp only[mD,bK]at aA;obtain⟨vu,tw⟩:=aA;have Fx:a.eval k=ad u k:=(M.ad aa).kx (UA vu);have Q7:=apj vu;have LX:=Xv vu bJ eE.toList 0 Rg tw;have ayQ: ∃(v:Value) (aG:Nat×Value) (b:Bool),(Instr.findKey yl (ad u k) eE.toList).run P w= .ok (if b then some (aG.1,aG.2)else none:Option (Nat×Value)) w/\(jY (ad u k) bJ).isSome=b/\(b=true->jY (ad u k) bJ=some v/\eY ak v aG.2):=by
    rcases LX with⟨aj,ba,_⟩|⟨j,cx,c8,aj,ba,cD,fs,iU,_⟩
    · exact⟨undef,(0,undef),false,by rw[MapKept.run_findKey ay ba];rfl,by rw[aj];rfl,λh=>by cases h⟩
    · obtain⟨_,_,_,aL⟩:=Rg.2 j cx c8 aj ba;exact⟨cx.2,(0+j,c8.val),true,by rw[MapKept.run_findKey ay iU];rfl,by rw[fs];rfl,λ_=>⟨fs,aL⟩⟩
  obtain⟨v,aG,b,ck,cE,eo⟩:=ayQ;have q0:(al.pY gJ O ok x k).val id u m=if ok then .tuple #[(jY (ad u k) bJ).getD O,.bool (jY (ad u k) bJ).isSome]else(jY (ad u k) bJ).getD O:=by simp only[al.val,H2,Option.bind_some]
  have k0:(Instr.lookup t (a.eval x) (a.eval k) ok).run P w= .ok (if ok then .tuple #[if b then aG.2 else O,.bool b]else if b then aG.2 else O) w:=by
    have jU: ∀e,(Instr.checkKey e 10000 yl (ad u k)).run P w= .ok () w:= λe=>MapKept.run_checkKey ay Q7 e 9999;rcases HZ with⟨B,H⟩|⟨r,bI,B,H⟩
    · subst H;cases b
      · simp[Instr.lookup,B,Fx,run_underlying bm,jU,ck,akt]
      · simp[Instr.lookup,B,Fx,run_underlying bm,jU,ck]
    · cases b
      · simp[Instr.lookup,B,Fx,run_underlying bm,MapKept.run_getObj_map H,jU,ck,akt]
      · simp[Instr.lookup,B,Fx,run_underlying bm,MapKept.run_getObj_map H,jU,ck]
  refine⟨_,w,ak,.inl (by simp only[execOp,cw,k0,Sem.run_bind,Result.andThen_ok];rfl),hM.refl ak,λ_ _=>rfl,?_,aN,Below.refl _ _⟩;rw[q0];have Mn:eY ak ((jY (ad u k) bJ).getD O) (if b then aG.2 else O):=by
    cases b
    · have:jY (ad u k) bJ=none:=(by simpa using cE);rw[this];exact .dc aAh
    · obtain⟨aj,ba⟩:=eo rfl;rw[aj];exact ba
  cases ok
  · exact Mn
  · simp only[if_true];rw[cE];exact dW.tuple (xs:=[_,_]) (ys:=[_,_]) (dW.cons Mn (dW.cons (.dc rfl) (dW.nil ak)))
end
section
variable {P:Program} {w:World} {o:Oper} {a:Act} {ak:fC} {eb:Nat} {u:aM} {m:E} {a9 id:Nat}
theorem aIO{k:al}(h:k.pure=true):k.iH id u m=m:=by cases k<;>first|rfl|(simp[al.pure]at h)
theorem aId{k:al}(aa:yV P o=some k)(aK:k.mj=false)(M:h2 ak eb u a)(aN:eW a9 ak m w)(dt:a9<=w.heap.size)(fA:k.gF=true->id<m.next)(aH:k.gF=true->ak id=none)(aA:k.ok u m=true):um P o k a a9 ak u m w id:=by
  by_cases Y:k.pure=true
  · obtain⟨b2,B,H⟩:=aIP (w:=w) (m:=m) aa Y M aA id;exact⟨b2,w,ak,B,hM.refl ak,λ_ _=>rfl,H,by rw[aIO Y];exact aN,Below.refl _ _⟩
  · unfold yV at aa;split at aa
    · split at aa<;>cases aa;exact absurd rfl Y
    · split at aa<;>cases aa;exact absurd rfl Y
    · split at aa<;>cases aa;exact absurd rfl Y
    · split at aa<;>cases aa;exact absurd rfl Y
    · -- eC
      rename_i e cw;split at aa<;>cases aa;rename_i O cl;exact aKY cw cl aN dt (fA rfl) (aH rfl)
    · -- pK
      rename_i e x cw;split at aa<;>cases aa;rename_i F;exact aK0 cw F M aA aN dt (fA rfl) (aH rfl)
    · (repeat' split at aa)<;>cases aa<;>exact absurd rfl Y
    · -- buildSlice
      rename_i t n en cw;split at aa
      · rename_i e bm;split at aa
        · rename_i O cl;split at aa
          · rename_i jD bz;split at aa<;>cases aa;rename_i qi;simp only[bK,fU]at qi;exact aK1 cw bm cl bz qi.1 qi.2 M aN dt (fA rfl) (aH rfl) aA
          · cases aa
        · cases aa
      · cases aa
    · -- fu
      rename_i t x cw;split at aa
      · rename_i df n xS av;split at aa<;>cases aa;rename_i F;exact aK4 cw xS av F M aN aA
      · cases aa
    · -- store
      rename_i t x v cw;split at aa
      · rename_i n av;split at aa<;>cases aa;rename_i F;simp only[bK]at F;exact aLa cw av F.1 F.2 M aN aA
      · cases aa
    · (repeat' split at aa)<;>cases aa<;>exact absurd rfl Y
    · (repeat' split at aa)<;>cases aa<;>exact absurd rfl Y
    · -- convert
      rename_i s d x cw;split at aa
      · split at aa<;>cases aa;exact absurd rfl Y
      · split at aa<;>cases aa;exact absurd rfl Y
      · rename_i e gh g2;split at aa
        · rename_i b8;split at aa<;>cases aa;rename_i F;exact aK2 cw gh g2 b8 F M aN aA
        · cases aa
      · rename_i e gh g2;split at aa
        · rename_i b8;split at aa<;>cases aa;rename_i F;exact aK3 cw gh g2 b8 F M aN dt (fA rfl) (aH rfl) aA
        · cases aa
      · cases aa
    · -- makeSlice
      rename_i t l c cw;split at aa
      · rename_i e bm;split at aa
        · rename_i O cu cl ag;split at aa<;>cases aa;rename_i F;simp only[bK]at F;exact aK6 cw bm cl ag F.1 F.2 M aN dt (fA rfl) (aH rfl) aA
        · cases aa
      · cases aa
    · -- slice
      rename_i t x cK ag fQ cw;split at aa
      · split at aa<;>cases aa;exact absurd rfl Y
      · (repeat' split at aa)<;>cases aa<;>exact absurd rfl Y
      · rename_i n e aC;split at aa
        · rename_i O cl;split at aa<;>cases aa;rename_i qi;simp only[bK,Ev]at qi;exact aK9 cw aC cl qi.1.1.1 qi.1.1.2 qi.1.2 qi.2 M aN aA
        · cases aa
      · cases aa
    · (repeat' split at aa)<;>cases aa<;>exact absurd rfl Y
    · (repeat' split at aa)<;>cases aa<;>exact absurd rfl Y
    · (repeat' split at aa)<;>cases aa<;>exact absurd rfl Y
    · (repeat' split at aa)<;>cases aa<;>exact absurd rfl Y
    · (repeat' split at aa)<;>cases aa<;>exact absurd rfl Y
    · (repeat' split at aa)<;>cases aa<;>exact absurd rfl Y
    · (repeat' split at aa)<;>cases aa<;>exact absurd rfl Y
    · -- makeMap
      rename_i t r cw;split at aa
      · rename_i k e bm;cases aa;exact aK5 cw aN dt (fA rfl) (aH rfl)
      · cases aa
    · -- lookup
      rename_i t x i ok cw;split at aa
      · rename_i k e bm;split at aa
        · rename_i bI O jU cl;split at aa<;>cases aa;rename_i F;simp only[bK]at F;exact aK7 cw bm (ah6 jU) cl F.1 F.2 M aN aA
        · cases aa
      · cases aa
    · -- mapUpdate
      rename_i t x k v cw;split at aa
      · rename_i yl e bm;split at aa
        · rename_i bI jU;split at aa<;>cases aa;rename_i F;simp only[bK]at F;exact aK8 cw bm (ah6 jU) F.1.1 F.1.2 F.2 M aN aA
        · cases aa
      · cases aa
    · (repeat' split at aa)<;>cases aa<;>exact absurd rfl Y
    · -- gl
      rename_i c cw;unfold KR at aa;split at aa
      · split at aa<;>cases aa;simp[al.mj]at aK
      · (repeat' split at aa)<;>cases aa<;>simp[al.mj]at aK
      · (repeat' split at aa)<;>cases aa<;>simp[al.mj]at aK
      · (repeat' split at aa)<;>cases aa<;>exact absurd rfl Y
      · rename_i dz;split at aa
        · rename_i x y t aG aC e6;split at aa
          · rename_i e bm;split at aa
            · rename_i cu ag;split at aa<;>cases aa;rename_i F;simp only[bK,fU]at F;obtain⟨⟨⟨rfl,B⟩,H⟩,af⟩:=F;obtain⟨O,cl⟩:=Pz.1 af;exact aKZ cw dz aC e6 bm ag cl B H M aN dt (fA rfl) (aH rfl) aA
            · cases aa
          · cases aa
        · cases aa
      · (repeat' split at aa)<;>cases aa<;>exact absurd rfl Y
      · (repeat' split at aa)<;>cases aa<;>exact absurd rfl Y
      · cases aa
    · cases aa
theorem aup{O bytes:Nat}{x y:Operand}(aa:yV P o=some (.app O bytes x y))(M:h2 ak eb u a)(aN:eW a9 ak m w)(dt:a9<=w.heap.size)(fA:id<m.next)(aH:ak id=none)(aA:(al.app O bytes x y).ok u m=true):
    ahn P o O bytes x y a a9 ak u m w id:=by
  unfold yV at aa;split at aa
  case h_27 c cw=>
    unfold KR at aa;split at aa
    case h_5 dz=>
      split at aa
      · rename_i x y t aG aC e6;split at aa
        · rename_i e bm;split at aa
          · rename_i cu ag;split at aa<;>cases aa;rename_i F;simp only[bK,fU]at F;obtain⟨⟨⟨rfl,B⟩,H⟩,af⟩:=F;obtain⟨O,cl⟩:=Pz.1 af;exact arM cw dz aC e6 bm ag cl B H M aN dt fA aH aA
          · cases aa
        · cases aa
      · cases aa
    all_goals((repeat' split at aa)<;>cases aa)
  all_goals((repeat' split at aa)<;>cases aa)
def Kw(P:Program)(f:Nat):Prop:= ∃fn,P.funcs[f]?=some fn∧fn.body.isSome=true∧(fn.name== "runtime.NumGoroutine")=false
theorem ap1{name:String}{r:TypeId×Nat×Option (Bool×Nat)}(h:r∈aee P name):GC P name r.1=some r/\r.1<P.types.size:=by
  unfold aee at h;obtain⟨t,B,H⟩:=yF.1 h;have:r.1=t:=by
    unfold GC at H
    (repeat' split at H)<;>cases H<;>rfl
  subst this;exact⟨H,by simpa using B⟩
theorem aKs{name:String}{t f:Nat}{v:Value}(h:GC P name t=some (t,f,none)/\t<P.types.size):
    (method (P.types.size+Made.depth) t v name).run P w= .ok (f,v) w:=by
  obtain⟨h,cg⟩:=h;unfold GC at h
  (repeat' split at h)<;>cases h
  rename_i Ys _ mt LX Y _ _ _ xH ar H3;obtain⟨n,av⟩: ∃n,P.types.size+Made.depth=n+1:=⟨P.types.size+Made.depth-1,by omega⟩;have aj3:mt.path.toList=[]:=by simpa using Y
  rw[av];simp[method,typeInfo,Ys,LX,aj3,follow,H3,receiverAt,underlying,ar,Place.get]
theorem afp{f:Nat}{args:Array Value}(h:Kw P f):(callFunc f args).run P w= .ok (.enter f args) w:=by
  obtain⟨fn,B,H,af⟩:=h;have aL:fn.body≠none:=by intro K;simp[K]at H
  have cm:fn.name≠ "runtime.NumGoroutine" :=by simpa using af
  simp[callFunc,B,aL,cm]
theorem aKv{a1i:Array TypeId}{t:TypeId}{fr:Addr}{x y:String}:Builtin.ssaWrapNilChk_ a1i t #[.pointer (some fr),strVal x,strVal y]=pure (.pointer (some fr)):=rfl
theorem aKt{name:String}{t f n:Nat}{df:Bool}{fr:Addr}{ds:List Value}(h:GC P name t=some (t,f,some (df,n))/\t<P.types.size)
    (B:df=true\/n=1) (aE:ds.length=n) (aK: ∀(j:Nat) aG,ds[j]?=some aG->w.cell? (fr.add j)=some aG):
    (method (P.types.size+Made.depth) t (.pointer (some fr)) name).run P w= .ok (f,if df then .agg ds.toArray else ds.headD undef) w:=by
  obtain⟨h,cg⟩:=h;unfold GC at h
  (repeat' split at h)<;>cases h
  rename_i Ys _ mt LX Y _ _ _ xH ar _ _ H3 xS av;obtain⟨n,vx⟩: ∃n,P.types.size+Made.depth=n+1:=⟨P.types.size+Made.depth-1,by omega⟩;have aj3:mt.path.toList=[]:=by simpa using Y
  have xZ:=afr (P:=P) (w:=w) xS av B aE aK;have azF:mt.path= #[]:=by simpa using Y
  rw[vx];simp[method,typeInfo,Ys,LX,follow,H3,receiverAt,underlying,ar,Place.get,azF,aKv,asAddr,xZ]
theorem arE{name:String}{t f:Nat}{v ara:Value}{args:Array Value}(aN:(method (P.types.size+Made.depth) t v name).run P w= .ok (f,ara) w)(bs:Kw P f):
    (invoke (.fn (.method name) #[]) (#[.iface t v]++args)).run P w= .ok (.enter f (#[ara]++args)) w:=by
  have bH:(#[Value.iface t v]++args)[0]?=some (.iface t v):=by rw[Wq (by simp)];rfl
  have B:(#[Value.iface t v]++args).extract 1 (#[Value.iface t v]++args).size=args:=by simp
  simp only[invoke,bH,B,callMethod,Sem.run_bind,run_program,Result.andThen_ok,aN,afp bs]
def ta(P:Program)(a9:Nat)(dj:Callee):Prop:= ∀f args m r N,dj f args m=some (r,N)->Kw P f/\m.next<=N.next/\(∀b,b<m.next->m.U b=none->N.U b=none)/\
  (∀id x,id<m.next->m.U id=none->dj f args (m.an id x)=some (r,N.an id x))/\
  ∀ ak w (sk:Array Value),dW ak args sk.toList->eW a9 ak m w->a9<=w.heap.size->
    Calls P f sk w λe ee=> ∃v dw,e= .returned v/\hM ak dw/\(∀b,b<m.next->dw b=ak b)/\eY dw r v/\eW a9 dw N ee/\Below a9 w ee
theorem av7{k:al}(aa:yV P o=some k)(M:h2 ak eb u a)(aN:eW a9 ak m w){f:Nat}{args:List Value}(hQ:k.gM u m=some (f,args))(bs:Kw P f):
    ∃sk:Array Value,(execOp a.eval o).run P w= .ok (.enter f sk) w/\dW ak args sk.toList:=by
  unfold yV at aa;split at aa
  case h_27 c cw=>
    unfold KR at aa;split at aa
    · -- a method ek l9 interface value
      rename_i t name dz;split at aa<;>cases aa;rename_i qi;simp only[al.gM]at hQ;have aH:=M.ad (x:= .tmp t) rfl;split at hQ
      · rename_i s0 v S;rw[S]at aH;obtain⟨b2,aX,eT⟩:=aH.Ru;split at hQ
        · rename_i cS g LW;simp only[nA,ui]at hQ;obtain⟨rfl,rfl⟩:=hQ;have YU:cS=s0:=(by have:=List.find?_some LW;simpa using this);subst YU;refine⟨#[b2]++c.args.map a.eval,?_,by simpa using dW.cons eT (JA M _ qi)⟩;have YE:=aKs (w:=w) (v:=b2) (ap1 (List.mem_of_find?_eq_some LW));simp only[execOp,cw,resolve,dz,Sem.run_bind,aX,Sem.run_pure,Result.andThen_ok];exact arE YE bs
        · rename_i cS g df n LW;split at hQ
          · rename_i aA;simp only[nA,ui]at hQ;obtain⟨rfl,rfl⟩:=hQ;have YU:cS=s0:=(by have:=List.find?_some LW;simpa using this);subst YU;simp only[bK,yG,fU]at aA;obtain⟨fr,ds,B,H,af,aL⟩:=ad9 aN eT aA.1 aA.2;refine⟨#[if df then .agg ds.toArray else ds.headD undef]++c.args.map a.eval,?_,by simpa using dW.cons aL (JA M _ qi)⟩;have YE:=aKt (w:=w) (ap1 (List.mem_of_find?_eq_some LW)) aA.2 H af;simp only[execOp,cw,resolve,dz,Sem.run_bind,aX,Sem.run_pure,Result.andThen_ok,B];exact arE YE bs
          · cases hQ
        · cases hQ
      · cases hQ
    · -- a aUq axJ
      rename_i g dz;split at aa
      · rename_i fn H3;split at aa<;>cases aa;rename_i qi;simp only[bK]at qi;simp only[al.gM,nA,ui]at hQ;obtain⟨rfl,rfl⟩:=hQ;refine⟨c.args.map a.eval,?_,by simpa using JA M _ qi.2⟩;have B:a.eval (.func g)= .func (.func g) #[] #[]:=rfl;simp only[execOp,cw,resolve,dz,Sem.run_bind,B,Deferred.ofValue,Sem.run_pure,Result.andThen_ok,invoke];rw[afp bs];simp
      · cases aa
    · -- a axJ value
      rename_i t dz;split at aa<;>cases aa;rename_i qi;simp only[al.gM]at hQ;have aH:=M.ad (x:= .tmp t) rfl;split at hQ
      · rename_i g first lB S
        simp only[nA,ui]at hQ;obtain⟨rfl,rfl⟩:=hQ;rw[S]at aH;obtain⟨ys,ds,B,H,af⟩:=aH.Iu;refine⟨ys++c.args.map a.eval++ds,?_,by simpa using(H.uq (JA M _ qi)).uq af⟩;simp only[execOp,cw,resolve,dz,Sem.run_bind,B,Deferred.ofValue,Sem.run_pure,Result.andThen_ok,invoke];rw[afp bs]
      · cases hQ
    all_goals((repeat' split at aa)<;>cases aa<;>simp[al.gM]at hQ)
  all_goals((repeat' split at aa)<;>cases aa<;>simp[al.gM]at hQ)
end
section
variable {P:Program} {w:World} {o:Oper} {a:Act} {ak:fC} {eb:Nat} {u:aM} {m:E} {a9:Nat} {ops:Array Oper} {dj:Callee} {base:Nat}
def At(P:Program)(ops:Array Oper)(eb:Nat)(cX:cd)(o:Oper):Prop:=
  ops[cX.bb]?=some o/\yV P o=some cX.k/\P4 ops o=some cX.g/\o.dst=cX.d/\cX.d.all (λd=>decide (d<eb))=true
theorem asO{g:Option (Nat×Bool)}(aq:P4 ops o=some g)(M:h2 ak eb u a):Region.wanted o (yielded ops a.tmps)=fY u g:=by
  unfold P4 at aq;split at aq
  · rename_i h;cases aq;simp[Region.wanted,h,fY]
  · rename_i j b h;split at aq
    · rename_i t bm;cases aq;have aH:=M.vV t;simp only[Region.wanted,h,fY,yielded,bm,Option.bind_some];rw[Array.getD_eq_getD_getElem?]at aH;cases S:a.tmps[t]? with
      | none=>
        rw[S]at aH;simp only[Option.getD_none]at aH;cases ar:u t<;>try rfl
        rw[ar]at aH;have:=aH.uN;simp[undef]at this
      | some v=>
        rw[S]at aH;simp only[Hf]at aH;cases ar:u t
        case bool c=>rw[ar]at aH;rw[aH.uN];simp
        all_goals
          rw[ar]at aH;cases v
          case bool c=>cases aH
          all_goals rfl
    · cases aq
theorem Va{k:al}(h:k.ok u m=true):k.mj=false:=by cases k<;>first|rfl|(simp[al.ok]at h)
theorem asb{cX:cd}{ae:aM}{N:E}(dz:ta P a9 dj)(aK:At P ops eb cX o)(M:h2 ak eb u a)(aN:eW a9 ak m w)(dt:a9<=w.heap.size)(fA:cX.k.gF=true->base+cX.bb<m.next)(aH:cX.k.gF=true->ak (base+cX.bb)=none)
    (jW:iX dj base cX u m=some (ae,N)) {aU:Act->World->Prop} {Q:Exit->Act->World->Prop}
    (jb: ∀cI ee dw,hM ak dw->(∀b,b<m.next->b≠base+cX.bb->dw b=ak b)->h2 dw eb ae cI->eW a9 dw N ee->Below a9 w ee->aU cI ee):wpOp P ops Q cX.bb aU a w:=by
  obtain⟨B,H,af,aL,cm⟩:=aK;unfold wpOp;simp only[B];rw[asO af M];unfold iX at jW;by_cases aS:fY u cX.g=true
  · rw[if_pos aS]at jW⊢;refine .inl ?_;unfold Oper.wp;cases hQ:cX.k.gM u m with
    | some mT=>
      obtain⟨f,args⟩:=mT;rw[hQ]at jW;simp only at jW;cases bs:dj f args m with
      |none=>rw[bs]at jW;cases jW
      | some Kj=>obtain⟨v,cc⟩:=Kj;rw[bs]at jW;simp only[nA,ui]at jW;obtain⟨rfl,rfl⟩:=jW;obtain⟨aj,ba,cD,_,fs⟩:=dz f args m v cc bs;obtain⟨sk,aX,bg⟩:=av7 (w:=w) H M aN hQ aj;rw[aX,Oper.upon_enter];refine(fs ak w sk bg aN dt).mono λe ee a6=> ?_;obtain⟨b2,dw,rfl,bC,cq,cZ,fR,gA⟩:=a6;rw[aL];exact jb _ _ dw bC (λb K _=>cq b K) ((M.aD bC).an cm cZ) fR gA
    | none=>
      rw[hQ]at jW;simp only at jW;split at jW
      · rename_i aA;simp only[nA,ui]at jW;obtain⟨rfl,rfl⟩:=jW;obtain⟨b2,ee,dw,y,bC,cq,cZ,fR,gA⟩:=aId H (Va aA) M aN dt fA aH aA;have aa:=jb (a.put cX.d b2) ee dw bC (λb _ K=>cq b K) ((M.aD bC).an cm cZ) fR gA;rcases y with y|⟨y,rfl⟩
        · rw[y,Oper.upon_value,aL];exact aa
        · rw[y,Oper.upon_skip,aL];exact aa
      · cases jW
  · rw[if_neg aS]at jW⊢;simp only[nA,ui]at jW;obtain⟨rfl,rfl⟩:=jW;rw[aL];exact jb _ _ ak (hM.refl ak) (λ_ _ _=>rfl) (M.an cm (eY.undef ak)) aN (Below.refl _ _)
theorem J4{cX:cd}{ae:aM}{N:E}(dz:ta P a9 dj)(jW:iX dj base cX u m=some (ae,N)):m.next<=N.next:=by
  unfold iX at jW;split at jW
  · split at jW
    · split at jW
      · rename_i bs;cases jW;exact(dz _ _ _ _ _ bs).2.1
      · cases jW
    · split at jW
      · cases jW;cases cX.k<;>simp only[al.iH]<;>try exact eB _
        · unfold rq;split<;>try exact eB _
          split<;>exact eB _
        · split
          · exact eB _
          · unfold mY;split<;>exact eB _
      · cases jW
  · cases jW;exact eB _
theorem XN{b b7:Nat}{x:Option fV}(h:m.U b=none)(dE:b≠b7):(m.an b7 x).U b=none:=by rw[E.qg,if_neg dE];exact h
theorem ai7{b b7:Nat}{bJ:List (Value×Value)}(h:m.U b=none)(dE:b≠b7):(m.hx b7 bJ).U b=none:=by unfold E.U E.hx at*;simp only[if_neg dE];exact h
theorem VU{cX:cd}{ae:aM}{N:E}(dz:ta P a9 dj)(jW:iX dj base cX u m=some (ae,N)){b:Nat}(K:b<m.next)(dE:b≠base+cX.bb)(aq:m.U b=none):N.U b=none:=by
  unfold iX at jW;split at jW
  · split at jW
    · split at jW
      · rename_i bs;cases jW;exact(dz _ _ _ _ _ bs).2.2.1 b K aq
      · cases jW
    · split at jW
      · rename_i aA;cases jW;cases aa:cX.k<;>simp only[al.iH]<;>try exact aq
        all_goals try exact XN aq dE
        all_goals try exact ai7 aq dE
        · unfold rq;split
          · rename_i fr;split
            · rename_i x F;exact XN aq (λe=>by rw[e,F]at aq;cases aq)
            · exact aq
          · exact aq
        · split
          · exact aq
          · refine XN ?_ dE;unfold mY;split
            · rw[E.qg];split
              · split<;>rfl
              · exact aq
            · exact aq
        · rename_i bI x k v;rw[aa]at aA;simp only[al.ok]at aA;cases ar:ad u x<;>simp only[ar]at aA<;>try cases aA
          rename_i p;cases p with
          |none=>simp at aA
          | some dq=>
            simp only at aA;cases ajB:m.fg dq with
            |none=>simp[ajB]at aA
            | some bJ=>have mf:=(E.y8 ajB).1;exact ai7 aq (λe=>by have eD:b=dq:=e;rw[eD,mf]at aq;cases aq)
      · cases jW
  · cases jW;exact aq
theorem uY{cX:cd}{L:List cd}{s:aM×E}(h:lL dj base (cX::L) u m=some s): ∃cC bo,iX dj base cX u m=some (cC,bo)/\rF cX u m bo/\lL dj base L cC bo=some s:=by
  unfold lL at h;split at h
  · rename_i cC bo B;split at h
    · rename_i jU;exact⟨cC,bo,B,jU,h⟩
    · cases h
  · cases h
theorem BY{cX:cd}{L:List cd}{s:aM×E}{cC:aM}{bo:E}(B:iX dj base cX u m=some (cC,bo))(H:rF cX u m bo)(af:lL dj base L cC bo=some s):lL dj base (cX::L) u m=some s:=by unfold lL;rw[B];simp only[if_pos H,af]
theorem OS(dz:ta P a9 dj): ∀(L:List cd) (u:aM) (m:E) (s:aM×E),lL dj base L u m=some s->m.next<=s.2.next
  |[],u,m,s,h=>by simp[lL]at h;subst h;exact eB _
  | cX::L,u,m,s,h=>by obtain⟨cC,bo,B,_,af⟩:=uY h;exact nC (J4 dz B) (OS dz L _ _ _ af)
theorem afn(dz:ta P a9 dj){b:Nat}(K:b<base): ∀(L:List cd) (u:aM) (m:E) (s:aM×E),base<=m.next->lL dj base L u m=some s->m.U b=none->s.2.U b=none
  |[],u,m,s,_,h,aq=>by simp[lL]at h;subst h;exact aq
  | cX::L,u,m,s,av,h,aq=>by obtain⟨cC,bo,B,_,af⟩:=uY h;exact afn dz K L _ _ _ (nC av (J4 dz B)) af (VU dz B (by omega) (by omega) aq)
theorem aeC(dz:ta P a9 dj){Q:Exit->Act->World->Prop}{T:List Nat}: ∀(L:List cd) (u:aM) (m:E) (a:Act) (w:World) (ak:fC) (ae:aM) (N:E),
    (∀cX∈L,∃o,At P ops eb cX o)->(L.map (·.bb)).Nodup->h2 ak eb u a->eW a9 ak m w->a9<=w.heap.size->(∀cX∈L,cX.k.gF=true->base+cX.bb<m.next/\ak (base+cX.bb)=none)->lL dj base L u m=some (ae,N)->
    (∀cI ee dw,hM ak dw->(∀b,b<m.next->(∀cX∈L,b≠base+cX.bb)->dw b=ak b)->h2 dw eb ae cI->eW a9 dw N ee->Below a9 w ee->wpOps P ops Q T cI ee)->wpOps P ops Q (L.map (·.bb)++T) a w
  | [],u,m,a,w,ak,ae,N,_,_,M,aN,_,_,h,a1=>by simp only[lL,nA,ui]at h;obtain⟨rfl,rfl⟩:=h;exact a1 a w ak (hM.refl ak) (λ_ _ _=>rfl) M aN (Below.refl _ _)
  | cX::L,u,m,a,w,ak,ae,N,A2,lp,M,aN,dt,fA,h,a1=>by
    obtain⟨cC,bo,B,_,af⟩:=uY h;obtain⟨o,ah⟩:=A2 cX (by simp);simp only[n0,List.nodup_cons]at lp;rw[n0,Cg,wpOps_cons];have hR:=J4 dz B;refine asb dz ah M aN dt (λh=>(fA cX (by simp) h).1) (λh=>(fA cX (by simp) h).2) B λcI ee dw bC cq cZ fR gA=> ?_;refine aeC dz L cC bo cI ee dw ae N (λi ag=>A2 i (by simp[ag])) lp.2 cZ fR (nC dt gA.size) (λi ag gO=> ?_) af λbt fB o0 ez fj gK iB l2=> ?_
    · have:=fA i (by simp[ag]) gO;refine⟨by omega,?_⟩;rw[cq _ this.1 (λe=>lp.1 (iK.2 ⟨i,ag,by omega⟩))];exact this.2
    · exact a1 bt fB o0 (bC.trans ez) (λb K dE=>(fj b (by omega) (λi ag=>dE i (by simp[ag]))).trans (cq b K (dE cX (by simp)))) gK iB (gA.trans l2)
theorem aGF{cX:cd}(aK:At P ops eb cX o)(M:h2 ak eb u a)(aN:eW a9 ak m w)(dt:a9<=w.heap.size)(fA:base+cX.bb<m.next)(aH:ak (base+cX.bb)=none)(aE:pX cX u m=true)
    {aU:Act->World->Prop} {Q:Exit->Act->World->Prop}
    (jb: ∀cI ee dw,hM ak dw->(∀b,b≠base+cX.bb->dw b=ak b)->h2 dw eb (dO u cX.d (cX.k.val (base+cX.bb) u m)) cI->eW a9 dw (cX.k.iH (base+cX.bb) u m) ee->eW ee.heap.size dw (qq m) ee->Below a9 w ee->aU cI ee):wpOp P ops Q cX.bb aU a w:=by
  obtain⟨B,H,af,aL,cm⟩:=aK;obtain⟨bb,d,g,k,bI⟩:=cX;simp only at B H af aL cm fA aH jb⊢;simp only[pX,bK,Ev]at aE;obtain⟨⟨aq,bm⟩,aA⟩:=aE;subst aq;unfold wpOp;simp only[B];rw[asO af M,if_pos (show fY u none=true from rfl)];refine .inl ?_;unfold Oper.wp;split at bm
  · rename_i O bytes x y;obtain⟨b2,ee,dw,aM2,bC,cq,cZ,fR,gA,jC⟩:=aup H M aN dt fA aH aA;have bs:eW ee.heap.size dw (qq m) ee:=by
      have oJ: ∀b x,(qq m).U b=some x-> ∃aG,m.U b=some aG/\x=Iq aG:=by
        intro b x K;unfold E.U at K⊢;change (if b<m.next then _ else _)=_ at K;split at K
        · rename_i cg;rw[if_pos cg];simp only[qq,xq]at K;obtain⟨aG,aj,ba⟩:=K;exact⟨aG,aj,ba.symm⟩
        · cases K
      have av:((al.app O bytes x y).iH (base+bb) u m).next=m.next:=by
        simp only[al.iH];split
        · rfl
        · unfold mY;split<;>rfl
      refine⟨λb l K=>by have:=fR.qU b l K;rw[av]at this;exact this,fR.oO,λb x K=> ?_,λb x b7 hY l eZ K oL=> ?_,λb bJ K=>(by cases K),λb bJ K=> ?_⟩
      · obtain⟨aG,aj,rfl⟩:=oJ b x K;obtain⟨l,aX,bg,dU,_⟩:=aN.ph b aG aj;refine⟨l,bC b l aX,bg,λi v S=> ?_,λh=>by cases h⟩;obtain⟨kF,b2,ni,vn⟩:=dU i v S;exact⟨kF,b2,by rw[jC bm b aG l aj aX i (dg.1 S).1];exact ni,vn.aD bC⟩
      · obtain⟨aG,_,rfl⟩:=oJ b x K;cases oL
      · obtain⟨aj,_⟩:=E.y8 K;obtain⟨aG,_,ba⟩:=oJ b _ aj;simp[Iq]at ba
    have aa:=jb (a.put d b2) ee dw bC cq ((M.aD bC).an cm cZ) fR bs gA;rcases aM2 with y|⟨y,rfl⟩
    · rw[y,Oper.upon_value,aL];exact aa
    · rw[y,Oper.upon_skip,aL];exact aa
  · cases bm
theorem aGD{xx:Nat}{o0:fC}{bo cc:E}{da fB:World}(dt:xx=da.heap.size)(B:eW a9 ak bo da)(H:eW xx o0 cc fB)(fM:hM ak o0)(av:bo.next<=cc.next)(K:Below xx da fB):eW a9 o0 (bo.bx (cc.next-bo.next)) fB:=by
  subst dt;have aK: ∀b l,ak b=some l->fB.heap[l.c]?=da.heap[l.c]?:= λb l h=>K.block _ (B.oO b l h);have ar: ∀b l eZ,ak b=some l->o0 b=some eZ->eZ=l:= λb l eZ h b6=>by have:=fM b l h;rw[b6]at this;cases this;rfl
  refine⟨λb l h=>by have:=H.qU b l h;rw[E.xD];omega,H.oO,λb x F=> ?_,λb x b7 hY l eZ F ah kn dE aE lG=> ?_,λb bJ h=> ?_,λb bJ h=> ?_⟩
  · rw[E.gm]at F;obtain⟨l,aX,bg,dU,ha⟩:=B.ph b x F;have CT: ∀i,fB.cell? ⟨l.c,l.o+i,none⟩=da.cell? ⟨l.c,l.o+i,none⟩:= λi=>by simp only[World.cell?,aK b l aX]
    have e2: ∀i,fB.frozen? ⟨l.c,l.o+i,none⟩=da.frozen? ⟨l.c,l.o+i,none⟩:= λi=>by simp only[World.frozen?,aK b l aX]
    refine⟨l,fM b l aX,bg,λi v S=> ?_,λah=>⟨(ha ah).1,λi ag=>by rw[CT,e2];exact(ha ah).2 i ag⟩⟩;obtain⟨kF,b2,ni,vn⟩:=dU i v S;exact⟨kF,b2,by rw[CT];exact ni,vn.aD fM⟩
  · rw[E.gm]at F kn;obtain⟨k,aX,_⟩:=B.ph b x F;obtain⟨gI,Xl,_⟩:=B.ph b7 hY kn;rw[ar b k l aX aE,ar b7 gI eZ Xl lG];exact B.vp b x b7 hY k gI F ah kn dE aX Xl
  · obtain⟨l,e⟩:=B.yn b bJ h;exact⟨l,fM b l e⟩
  · obtain⟨aj,ba⟩:=E.y8 h;rw[E.gm]at aj;obtain⟨l,eE,bI,aX,bg,dU,ha⟩:=B.jB b bJ (E.o7 aj ba);exact⟨l,eE,bI,fM b l aX,bg,by rw[aK b l aX];exact dU,ha.aD fM⟩
theorem aqK(dz:ta P a9 dj){Q:Exit->Act->World->Prop}(L:List cd)(u:aM)(m:E)(a:Act)(w:World)(ak:fC)(ae:aM)(N:E)
    (B: ∀cX∈L,∃o,At P ops eb cX o) (H:(L.map (·.bb)).Nodup) (M:h2 ak eb u a) (aN:eW a9 ak m w) (dt:a9<=w.heap.size) (af: ∀cX∈L,cX.k.gF=true->base+cX.bb<m.next/\ak (base+cX.bb)=none) (aL:lL dj base L u m=some (ae,N))
    (a1: ∀cI ee dw,hM ak dw->(∀b,b<base->b<m.next->dw b=ak b)->h2 dw eb ae cI->eW a9 dw N ee->Below a9 w ee->Q .normal cI ee):wpOps P ops Q (L.map (·.bb)) a w:=by
  have:=aeC (T:=[]) (Q:=Q) dz L u m a w ak ae N B H M aN dt af aL λcI ee dw bC cq cZ fR gA=>a1 cI ee dw bC (λb K oH=>cq b oH λcX _=>by omega) cZ fR gA
  rwa [An]at this
end
def al.iw(k:al)(id:Nat)(u:aM)(m:E):List (Nat×Option fV):=
  match k with
  | .eC O=>[(id,some ⟨O,true⟩)]
  | .pK x=>[(id,some ⟨ao (ad u x),true⟩)]
  | .jx _ _ O en=>[(id,some ⟨oo O u en,true⟩)]
  | .store _ x v=>match ad u x with
    | .pointer (some a)=>(match m.U a.block with|some b=>[(a.block,some ⟨ku b.cells a.off (ao (ad u v)),b.own⟩)]|none=>[])
    |_=>[]
  | .sn x=>[(id,some ⟨DY (ve (ad u x)),true⟩)]
  | .nN _ _ zero l _=>[(id,some ⟨(List.replicate (gy (ad u l)).toNat zero).flatten,true⟩)]
  | .app O _ x y=>if hL (ad u y)=0 then[]else(match ad u x with| .slice (some a) _ _=>[(a.block,none)]|_=>[])++[(id,some ⟨hX m O (ad u x)++hX m O (ad u y),true⟩)]
  |_=>[]
def j4(m:E)(l:List (Nat×Option fV)):E:=l.foldl (λm p=>m.an p.1 p.2) m
section
variable {P:Program} {u ev:aM} {m cc:E} {a9:Nat} {dj:Callee} {base id:Nat} {k:al}
theorem ap7(FB:k.zC=false):k.iH id u m=j4 m (k.iw id u m):=by
  cases k<;>simp only[al.zC,Bool.true_eq_false]at FB<;>simp only[al.iH,al.iw,j4,List.foldl_nil,qN]
  · rename_i n x v;generalize ad u x=aG;cases aG<;>try rfl
    rename_i p;cases p with
    |none=>rfl
    | some fr=>simp only[rq];cases m.U fr.block<;>rfl
  · rename_i O ur x y;split
    · rfl
    · generalize ad u x=aG;cases aG<;>try rfl
      rename_i p l c;cases p<;>rfl
theorem Kl: ∀p∈k.iw id u m,(k.gF=true/\p.1=id/\ai (k.val id u m)=some id)\/ ∃x∈k.pv,ai (ad u x)=some p.1:=by
  intro p Y;cases k<;>simp only[al.iw,wi,Aj]at Y
  case eC=>subst Y;exact .inl ⟨rfl,rfl,rfl⟩
  case pK=>subst Y;exact .inl ⟨rfl,rfl,rfl⟩
  case jx=>subst Y;exact .inl ⟨rfl,rfl,rfl⟩
  case sn=>subst Y;exact .inl ⟨rfl,rfl,rfl⟩
  case nN=>subst Y;exact .inl ⟨rfl,rfl,rfl⟩
  case store n x v=>
    split at Y
    · rename_i fr h;split at Y
      · simp only[Aj]at Y;subst Y;exact .inr ⟨x,by simp[al.pv],by simp[h,ai]⟩
      · cases Y
    · cases Y
  case app O ur x y=>
    split at Y
    · cases Y
    · rename_i av;rcases mM.1 Y with h|h
      · split at h
        · rename_i fr l c F;simp only[Aj]at h;subst h;exact .inr ⟨x,by simp[al.pv],by simp[F,ai]⟩
        · cases h
      · simp only[Aj]at h;subst h;exact .inl ⟨rfl,rfl,by simp[al.val,av,ai]⟩
theorem XL: ∀(l:List (Nat×Option fV)) (m:E) (b:Nat),(∀p∈l,p.1≠b)->(j4 m l).U b=m.U b
  |[],_,_,_=>rfl
  | p::l,m,b,h=>by show(j4 (m.an p.1 p.2) l).U b=_;rw[XL l _ b (λq bz=>h q (by simp[bz])),E.qg,if_neg (Ne.symm (h p (by simp)))]
theorem aq0{a b:Nat}{x y:Option fV}(h:a≠b):(m.an a x).an b y=(m.an b y).an a x:=by
  unfold E.an;simp only[E.mk.injEq,true_and,and_true];funext i;by_cases B:i=b
  · subst B;simp[Ne.symm h]
  · simp[B]
theorem ahC: ∀(l:List (Nat×Option fV)) (m:E) (b:Nat) (x:Option fV),(∀p∈l,p.1≠b)->j4 (m.an b x) l=(j4 m l).an b x
  |[],_,_,_,_=>rfl
  | p::l,m,b,x,h=>by show j4 ((m.an b x).an p.1 p.2) l=(j4 (m.an p.1 p.2) l).an b x;rw[aq0 (Ne.symm (h p (by simp))),ahC l _ b x (λq bz=>h q (by simp[bz]))]
theorem ahB: ∀(l r:List (Nat×Option fV)) (m:E),(∀p∈l,∀q∈r,p.1≠q.1)->j4 (j4 m l) r=j4 (j4 m r) l
  |[],_,_,_=>rfl
  | p::l,r,m,h=>by show j4 (j4 (m.an p.1 p.2) l) r=j4 ((j4 m r).an p.1 p.2) l;rw[ahB l r _ (λfb wK=>h fb (by simp[wK])),ahC r m p.1 p.2 (λq bz=>Ne.symm (h p (by simp) q bz))]
theorem W6{b:Nat}(h:m.U b=cc.U b)(off n:Nat):jI m b off n=jI cc b off n:=by unfold jI;rw[h]
theorem Qi(FB:k.zC=false)(h: ∀x∈k.l3,∀b,ai (ad u x)=some b->m.U b=cc.U b):k.ok u m=k.ok u cc/\k.val id u m=k.val id u cc/\k.iw id u m=k.iw id u cc:=by
  cases k<;>simp only[al.zC,Bool.true_eq_false]at FB<;>try exact⟨rfl,rfl,rfl⟩
  case fu df n x=>
    have B:=h x (by simp[al.l3]);cases S:ad u x<;>simp only[al.ok,al.val,al.iw,S,g8,k4,and_self];rename_i p;cases p with
    |none=>simp
    | some fr=>have H:=B fr.block (by simp[S,ai]);simp only[H,W6 H,and_self]
  case sY O n x=>
    have B:=h x (by simp[al.l3]);cases S:ad u x<;>simp only[al.ok,al.val,al.iw,S,g8,and_self];rename_i p;cases p with
    |none=>simp
    | some fr=>have H:=B fr.block (by simp[S,ai]);simp only[H,and_self]
  case store n x v=>
    have B:=h x (by simp[al.l3]);cases S:ad u x<;>simp only[al.ok,al.val,al.iw,S,g8,sj,true_and,and_self];rename_i p;cases p with
    |none=>simp
    | some fr=>have H:=B fr.block (by simp[S,ai]);simp only[H,and_self]
  case qR x=>
    have B:=h x (by simp[al.l3]);cases S:ad u x<;>simp only[al.ok,al.val,al.iw,S,ig,hX,and_self];rename_i p l c;cases p with
    |none=>simp
    | some fr=>have H:=B fr.block (by simp[S,ai]);simp only[H,W6 H,and_self]
  case app O ur x y=>
    have B:=h x (by simp[al.l3]);have eh:=h y (by simp[al.l3]);have s: ∀v:Value,(∀b,ai v=some b->m.U b=cc.U b)->ig m O v=ig cc O v/\nX m v=nX cc v/\hX m O v=hX cc O v:=by
      intro v S;cases v<;>simp only[ig,nX,hX,and_self];rename_i p l c;cases p with
      |none=>simp
      | some fr=>have H:=S fr.block (by simp[ai]);simp only[H,W6 H,and_self]
    obtain⟨bh,bt,c1⟩:=s _ B;obtain⟨cM,_,jw⟩:=s _ eh;simp only[al.ok,al.val,al.iw,bh,bt,c1,cM,jw,and_self]
theorem aH9(h:k.ok u m=true): ∀x∈k.l3++k.pv,∀b,ai (ad u x)=some b->(m.U b).isSome=true:=by
  have aC: ∀(v:Value) n,g8 m v n=true-> ∀b,ai v=some b->(m.U b).isSome=true:=by intro v n S b K;obtain⟨b7,off,x,rfl,F,_⟩:=PU S;simp only[ai,nA]at K;subst K;rw[F];rfl
  have M: ∀(v:Value) O,ig m O v=true-> ∀b,ai v=some b->(m.U b).isSome=true:=by
    intro v O S b K;rcases Pa S with rfl|⟨b7,off,len,x,rfl,F,_⟩
    · simp[ai]at K
    · simp only[ai,nA]at K;subst K;rw[F];rfl
  intro x F b K;cases k<;>simp only[al.l3,al.pv,An,wi]at F
  case fu df n y=>simp only[Aj]at F;subst F;simp only[al.ok,bK]at h;exact aC _ _ h.1 b K
  case sY O n y=>simp only[Aj]at F;subst F;simp only[al.ok,bK]at h;exact aC _ _ h.1 b K
  case store n y v=>simp at F;subst F;simp only[al.ok,bK]at h;exact aC _ _ h.1.1.1 b K
  case qR y=>simp only[Aj]at F;subst F;simp only[al.ok,bK]at h;exact M _ _ h.1 b K
  case app O ur y v=>
    simp only[al.ok,bK]at h;simp at F;rcases F with rfl|rfl|rfl
    · exact M _ _ h.1.1.1.1.1 b K
    · exact M _ _ h.1.1.1.2 b K
    · exact M _ _ h.1.1.1.1.1 b K
theorem CC{x:Operand}(h: ∀t,x= .tmp t->u t=ev t):ad u x=ad ev x:=by cases x<;>first|rfl|exact h _ rfl
theorem Ve: ∀(en:List (Nat×Nat×Operand)) (cs:List Value),(∀p∈en,ad u p.2.2=ad ev p.2.2)->sP cs u en=sP cs ev en/\oo cs u en=oo cs ev en
  |[],_,_=>⟨rfl,rfl⟩
  | (bC,cq,cZ)::en,cs,h=>by have bH:ad u cZ=ad ev cZ:=h (bC,cq,cZ) (by simp);have B:=(Ve en cs λp Y=>h p (by simp[Y])).1;have H:=(Ve en (ku cs bC (ao (ad ev cZ))) λp Y=>h p (by simp[Y])).2;simp only[sP,uh,oo,bH]at B⊢;exact⟨by rw[B],H⟩
theorem OC{l:Option Operand}{d:Int}(h: ∀x∈l.toList,ad u x=ad ev x):qF u l=qF ev l/\hT u l d=hT ev l d:=by
  cases l with
  |none=>exact⟨rfl,rfl⟩
  |some x=>have:=h x (by simp);simp[qF,hT,this]
theorem AG(h: ∀x∈k.jg,ad u x=ad ev x):k.ok u m=k.ok ev m/\k.val id u m=k.val id ev m/\k.iw id u m=k.iw id ev m/\k.gM u m=k.gM ev m:=by
  cases k<;>simp only[al.jg,oz,wi,or_false,forall_eq_or_imp,forall_eq,mM]at h
  case hg O en=>obtain⟨B,H⟩:=Ve en O λp Y=>h _ (iK.2 ⟨p,Y,rfl⟩);simp only[al.ok,al.val,al.iw,al.gM,B,H,and_self]
  case jx O n cs en=>obtain⟨B,H⟩:=Ve en cs λp Y=>h _ (iK.2 ⟨p,Y,rfl⟩);simp only[al.ok,al.val,al.iw,al.gM,B,H,and_self]
  case G2 x l r=>have B:= λd=>OC (l:=l) (d:=d) λy ab=>h.2 y (.inl ab);have H:= λd=>OC (l:=r) (d:=d) λy ab=>h.2 y (.inr ab);simp only[al.ok,al.val,al.iw,al.gM,h.1,(B 0).1,(H 0).1,λd=>(B d).2,λd=>(H d).2,and_self]
  case qI O x l r=>have B:= λd=>OC (l:=l) (d:=d) λy ab=>h.2 y (.inl ab);have H:= λd=>OC (l:=r) (d:=d) λy ab=>h.2 y (.inr ab);simp only[al.ok,al.val,al.iw,al.gM,h.1,(B 0).1,(H 0).1,λd=>(B d).2,λd=>(H d).2,and_self]
  case xg O x l r fQ=>have B:= λd=>OC (l:=l) (d:=d) λy ab=>h.2.2.2 y ab;simp only[al.ok,al.val,al.iw,al.gM,h.1,h.2.1,h.2.2.1,(B 0).1,λd=>(B d).2,and_self]
  case yo fQ x xs=>
    have B: ∀(l:List Operand),(∀y∈l,ad u y=ad ev y)->(l.all λy=>gi (ad u y))=(l.all λy=>gi (ad ev y))/\
        ∀eF,l.foldl (λeF y=>if fQ then ra eF (ad u y)else rb eF (ad u y)) eF=l.foldl (λeF y=>if fQ then ra eF (ad ev y)else rb eF (ad ev y)) eF:=by
      intro l;induction l with
      |nil=>intro _;exact⟨rfl,λ_=>rfl⟩
      | cons y l cB=>intro aE;obtain⟨aj,ba⟩:=cB λO cl=>aE O (by simp[cl]);have:=aE y (by simp);exact⟨by simp only[uh,this,aj],λeF=>by simp only[qN,this,ba]⟩
    obtain⟨aj,ba⟩:=B xs h.2;simp only[al.ok,al.val,al.iw,al.gM,h.1,aj,ba,and_self]
  case uR fn xs ys=>have B:xs.map (ad u)=xs.map (ad ev):=uf λy ab=>h y (.inl ab);have H:ys.map (ad u)=ys.map (ad ev):=uf λy ab=>h y (.inr ab);simp only[al.ok,al.val,al.iw,al.gM,B,H,and_self]
  case gl f a1i=>have B:a1i.map (ad u)=a1i.map (ad ev):=uf h;simp only[al.ok,al.val,al.iw,al.gM,B,and_self]
  case ln x a1i=>have B:a1i.map (ad u)=a1i.map (ad ev):=uf h.2;simp only[al.ok,al.val,al.iw,al.gM,B,h.1,and_self]
  case q2 bW x a1i=>have B:a1i.map (ad u)=a1i.map (ad ev):=uf h.2;simp only[al.ok,al.val,al.iw,al.gM,B,h.1,and_self]
  all_goals simp only[al.ok,al.val,al.iw,al.gM,h,and_self]
end
namespace WC
theorem aGh{u:aM}{m:E}{k:al}(h:k.mj=false):k.gM u m=none:=by cases k<;>first|rfl|(simp[al.mj]at h)
theorem aGm{f:aM->E->Option (dp×aM×E)}{j:Nat}{u:aM}{m:E}{r:dp×aM×E}(h:lq f (j+1) u m=some r):
    (∃cC bo,f u m=some (.gu,cC,bo)/\lq f j cC bo=some r)\/(f u m=some r/\r.1≠ .gu):=by
  simp only[lq]at h;split at h
  · rename_i cC bo B;exact .inl ⟨cC,bo,B,h⟩
  · rename_i dE;refine .inr ⟨h,λH=> ?_⟩;obtain⟨eT,fk,hB⟩:=r;cases H;exact dE _ _ h
structure gq(id:Nat)(x:Option fV)(m bB:E):Prop where
  eq:bB=m.an id x
  fa:id<m.next
  j8:m.U id=none
section
variable {id:Nat} {x:Option fV} {m bB:E}
theorem gq.next(W:gq id x m bB):bB.next=m.next:=by rw[W.eq];rfl
theorem gq.mp(W:gq id x m bB):bB.mp=m.mp:=by rw[W.eq];rfl
theorem gq.lk(W:gq id x m bB){b:Nat}{y:fV}(h:m.U b=some y):b≠id:= λay=>by subst ay;rw[W.j8]at h;cases h
theorem gq.XM(W:gq id x m bB){b:Nat}(h:b≠id):bB.U b=m.U b:=by rw[W.eq,E.qg,if_neg h]
theorem gq.U(W:gq id x m bB){b:Nat}{y:fV}(h:m.U b=some y):bB.U b=some y:=by rw[W.XM (W.lk h),h]
theorem gq.fg(W:gq id x m bB){b:Nat}{e:List (Value×Value)}(h:m.fg b=some e):bB.fg b=some e:=by
  unfold E.fg at h⊢;cases aq:m.U b with
  |none=>rw[aq]at h;cases h
  |some y=>rw[aq]at h;rw[W.U aq,W.mp];exact h
theorem gq.XJ(W:gq id x m bB){b:Nat}{e:List (Value×Value)}(h:m.fg b=some e):b≠id:=by
  unfold E.fg at h;cases aq:m.U b with
  |none=>rw[aq]at h;cases h
  |some y=>exact W.lk aq
theorem gq.an(W:gq id x m bB){b:Nat}(K:b≠id)(y:Option fV):gq id x (m.an b y) (bB.an b y) where
  eq:=by rw[W.eq];exact aq0 (by omega)
  fa:=W.fa
  j8:=by rw[E.qg,if_neg (by omega)];exact W.j8
theorem gq.hx(W:gq id x m bB){b:Nat}(K:b≠id)(e:List (Value×Value)):gq id x (m.hx b e) (bB.hx b e) where
  eq:=by
    rw[W.eq];simp only[E.hx,E.an,E.mk.injEq,true_and,and_true];funext i;by_cases B:i=b
    · subst B;simp[K]
    · simp[B]
  fa:=W.fa
  j8:=by have:=W.j8;simp only[E.U,E.hx,show¬id=b by omega,if_false]at this⊢;exact this
theorem gq.bx(W:gq id x m bB)(k:Nat):gq id x (m.bx k) (bB.bx k) where
  eq:=by
    rw[W.eq];simp only[E.bx,E.an,E.mk.injEq,true_and,and_true];funext i;by_cases B:i=id
    · subst B;simp[W.fa]
    · simp[B]
  fa:=by have:=W.fa;show id<m.next+k;omega
  j8:=by rw[E.gm];exact W.j8
theorem gq.g8(W:gq id x m bB){v:Value}{n:Nat}(h:g8 m v n=true):g8 bB v n=true:=by
  unfold DI.g8 at h⊢;split at h
  · rename_i a;simp only[bK]at h⊢;refine⟨h.1,?_⟩;cases aq:m.U a.block with
    |none=>rw[aq]at h;simp at h
    |some x=>rw[aq]at h;rw[W.U aq];exact h.2
  · cases h
theorem gq.sj(W:gq id x m bB){v:Value}(h:sj m v=true):sj bB v=true:=by
  unfold DI.sj at h⊢;split at h
  · rename_i a;cases aq:m.U a.block with
    |none=>rw[aq]at h;cases h
    |some x=>rw[aq]at h;rw[W.U aq];exact h
  · cases h
theorem gq.k4(W:gq id x m bB){v:Value}{n:Nat}{df:Bool}(h:DI.g8 m v n=true):k4 bB df n v=k4 m df n v:=by
  unfold DI.g8 at h;split at h
  · rename_i a;simp only[bK]at h;cases aq:m.U a.block with
    |none=>rw[aq]at h;simp at h
    |some x=>simp only[DI.k4,jI,aq,W.U aq]
  · cases h
theorem gq.rq(W:gq id x m bB){v:Value}{n:Nat}{cs:List Value}(h:DI.g8 m v n=true):gq id x (rq m v cs) (rq bB v cs):=by
  unfold DI.g8 at h;split at h
  · rename_i a;simp only[bK]at h;cases aq:m.U a.block with
    |none=>rw[aq]at h;simp at h
    |some x=>simp only[DI.rq,aq,W.U aq];exact W.an (W.lk aq) _
  · cases h
theorem gq.ig(W:gq id x m bB){v:Value}{O:Nat}(h:ig m O v=true):ig bB O v=true:=by
  unfold DI.ig at h⊢;split at h
  · exact h
  · rename_i a l c;simp only[bK]at h⊢;refine⟨h.1,?_⟩;cases aq:m.U a.block with
    |none=>rw[aq]at h;simp at h
    |some x=>rw[aq]at h;rw[W.U aq];exact h.2
  · cases h
theorem gq.nX(W:gq id x m bB){v:Value}(h:nX m v=true):nX bB v=true:=by
  unfold DI.nX at h⊢;split at h
  · rfl
  · rename_i a l c;cases aq:m.U a.block with
    |none=>rw[aq]at h;cases h
    |some x=>rw[aq]at h;rw[W.U aq];exact h
  · cases h
theorem gq.hX(W:gq id x m bB){v:Value}{O:Nat}(h:DI.ig m O v=true):hX bB O v=hX m O v:=by
  unfold DI.ig at h;split at h
  · rfl
  · rename_i a l c;simp only[bK]at h;cases aq:m.U a.block with
    |none=>rw[aq]at h;simp at h
    |some x=>simp only[DI.hX,jI,aq,W.U aq]
  · cases h
theorem gq.mY(W:gq id x m bB){v:Value}{O:Nat}(h:DI.ig m O v=true):gq id x (mY m v) (mY bB v):=by
  unfold DI.ig at h;split at h
  · exact W
  · rename_i a l c;simp only[bK]at h;cases aq:m.U a.block with
    |none=>rw[aq]at h;simp at h
    |some x=>exact W.an (W.lk aq) _
  · cases h
theorem gq.ml(W:gq id x m bB){v:Value}{bJ:List (Value×Value)}(h:ml m v=some bJ):ml bB v=some bJ:=by
  unfold DI.ml at h⊢;split at h
  · exact h
  · exact W.fg h
  · cases h
theorem Oy(W:gq id x m bB){k:al}{u:aM}(h:k.ok u m=true):k.ok u bB=true:=by
  cases k with
  |sY O n y=>simp only[al.ok,bK]at h⊢;exact⟨W.g8 h.1,h.2⟩
  |fu df n y=>simp only[al.ok,bK]at h⊢;exact⟨W.g8 h.1,h.2⟩
  |store n x v=>simp only[al.ok,bK]at h⊢;exact⟨⟨⟨W.g8 h.1.1.1,W.sj h.1.1.2⟩,h.1.2⟩,h.2⟩
  |qR x=>simp only[al.ok,bK]at h⊢;exact⟨W.ig h.1,by rw[W.hX h.1];exact h.2⟩
  |app O bytes x y=>simp only[al.ok,bK]at h⊢;exact⟨⟨⟨⟨⟨W.ig h.1.1.1.1.1,W.nX h.1.1.1.1.2⟩,W.ig h.1.1.1.2⟩,h.1.1.2⟩,h.1.2⟩,h.2⟩
  | pY bI O o x gJ=>
    simp only[al.ok]at h⊢;cases aN:DI.ml m (ad u x)with
    |none=>rw[aN]at h;cases h
    |some bJ=>rw[aN]at h;rw[W.ml aN];exact h
  | p0 bI x gJ v=>
    simp only[al.ok]at h⊢;split at h
    · rename_i cr b K;cases aN:m.fg b with
      |none=>rw[aN]at h;cases h
      |some bJ=>rw[aN]at h;rw[W.fg aN];exact h
    · cases h
  |_=>exact h
theorem Pm(W:gq id x m bB){k:al}{u:aM}{JI:Nat}(h:k.ok u m=true):k.val JI u bB=k.val JI u m:=by
  cases k with
  |fu df n y=>simp only[al.ok,bK]at h;exact W.k4 h.1
  |qR x=>simp only[al.ok,bK]at h;simp only[al.val,W.hX h.1]
  | pY bI O o x gJ=>
    simp only[al.ok]at h;cases aN:DI.ml m (ad u x)with
    |none=>rw[aN]at h;cases h
    |some bJ=>simp only[al.val,aN,W.ml aN]
  |_=>rfl
theorem Om(W:gq id x m bB){k:al}{u:aM}{JI:Nat}(fA:JI≠id)(h:k.ok u m=true):gq id x (k.iH JI u m) (k.iH JI u bB):=by
  cases k with
  |eC O=>exact W.an fA _
  |pK x=>exact W.an fA _
  |jx a b c d=>exact W.an fA _
  |sn x=>exact W.an fA _
  |nN a b c d e=>exact W.an fA _
  |store n x v=>simp only[al.ok,bK]at h;exact W.rq h.1.1.1
  | app O bytes x y=>
    simp only[al.ok,bK]at h;simp only[al.iH];split
    · exact W
    · rw[W.hX h.1.1.1.1.1,W.hX h.1.1.1.2];exact(W.mY h.1.1.1.1.1).an fA _
  |pj=>exact W.hx fA _
  | p0 bI x gJ v=>
    simp only[al.ok]at h;split at h
    · rename_i cr b K;cases aN:m.fg b with
      |none=>rw[aN]at h;cases h
      |some bJ=>simp only[al.iH,K,DN,aN,W.fg aN];exact W.hx (W.XJ aN) _
    · cases h
  |_=>exact W
theorem P8(W:gq id x m bB){k:al}{u:aM}{mT:Nat×List Value}(h:k.gM u m=some mT):k.gM u bB=some mT:=by
  cases k with
  | q2 bW x args=>
    simp only[al.gM]at h⊢;split at h
    · split at h
      · exact h
      · split at h
        · rename_i aK;simp only[bK]at aK;rw[if_pos (by simp only[bK];exact⟨W.g8 aK.1,aK.2⟩),W.k4 aK.1];exact h
        · cases h
      · cases h
    · cases h
  |_=>exact h
theorem W2{m bB:E}{k:al}{u:aM}(h:k.gM u m=none)(aA:k.ok u m=true):k.gM u bB=none:=by
  refine aGh ?_;cases k with
  |gl f a=>simp[al.ok]at aA
  |ln f a=>simp[al.ok]at aA
  |q2 f a b=>simp[al.ok]at aA
  |_=>rfl
def PH(id:Nat)(x:Option fV)(dj:Callee):Prop:= ∀f a m r N,dj f a m=some (r,N)-> ∀bB,gq id x m bB-> ∃hs,dj f a bB=some (r,hs)/\gq id x N hs
theorem adY{N hs:E}(W:gq id x m bB)(ej:gq id x N hs){u:aM}{bI:List (Operand×Operand)}(h:yk u bI m N):yk u bI bB hs:= λp Y b K=>by
  by_cases ay:b=id
  · subst ay;rw[W.eq,ej.eq,E.qg,E.qg,if_pos rfl,if_pos rfl,if_pos W.fa,if_pos ej.fa]
  · rw[W.XM ay,ej.XM ay];exact h p Y b K
theorem agG{dj:Callee}(dz:PH id x dj)(W:gq id x m bB){base:Nat}(K:id<base){o:cd}{u ae:aM}{N:E}(h:iX dj base o u m=some (ae,N))(aa:rF o u m N):
    ∃hs,iX dj base o u bB=some (ae,hs)/\gq id x N hs/\rF o u bB hs:=by
  unfold iX at h⊢;unfold rF at aa⊢;by_cases aS:fY u o.g=true
  · rw[if_pos aS]at h⊢
    replace aa:=aa aS
    cases aK:o.k.gM u m with
    | none=>
      rw[aK]at h aa;simp only at h aa;split at h
      · rename_i aA;cases h;simp only[W2 aK aA];rw[if_pos (Oy W aA),Pm W aA];exact⟨_,rfl,Om W (by omega) aA,λ_=>aa⟩
      · cases h
    | some mT=>
      obtain⟨f,args⟩:=mT;rw[aK]at h aa;simp only at h aa;cases bs:dj f args m with
      |none=>rw[bs]at h;cases h
      | some Kj=>obtain⟨v,bo⟩:=Kj;rw[bs]at h;cases h;obtain⟨hs,B,ej⟩:=dz _ _ _ _ _ bs bB W;simp only[P8 W aK,B];exact⟨_,rfl,ej,λ_=>adY W ej aa⟩
  · rw[if_neg aS]at h⊢;cases h;exact⟨bB,rfl,W,λh=>absurd h aS⟩
theorem BQ{dj:Callee}(dz:PH id x dj){base:Nat}(K:id<base): ∀{L:List cd} {u ae:aM} {m N bB:E},gq id x m bB->lL dj base L u m=some (ae,N)-> ∃hs,lL dj base L u bB=some (ae,hs)/\gq id x N hs
  |[],_,_,_,_,bB,W,h=>by cases h;exact⟨bB,rfl,W⟩
  | _::_,_,_,_,_,bB,W,h=>by obtain⟨cC,bo,B,H,af⟩:=uY h;obtain⟨lO,aj,e5,ba⟩:=agG dz W K B H;obtain⟨vc,cD,la⟩:=BQ dz K e5 af;exact⟨vc,BY aj ba cD,la⟩
theorem N2{f:aM->E->Option (dp×aM×E)}(bs: ∀u m e ae N,f u m=some (e,ae,N)-> ∀bB,gq id x m bB-> ∃hs,f u bB=some (e,ae,hs)/\gq id x N hs):
    ∀{n:Nat} {u:aM} {m:E} {e:dp} {ae:aM} {N bB:E},lq f n u m=some (e,ae,N)->gq id x m bB-> ∃hs,lq f n u bB=some (e,ae,hs)/\gq id x N hs
  |0,_,_,_,_,_,_,h,_=>by simp[lq]at h
  | n+1,u,m,e,ae,N,bB,h,W=>by
    rcases aGm h with⟨cC,bo,B,H⟩|⟨B,H⟩
    · obtain⟨lO,aj,e5⟩:=bs _ _ _ _ _ B bB W;obtain⟨vc,ba,la⟩:=N2 bs H e5;exact⟨vc,by simp only[lq,aj];exact ba,la⟩
    · obtain⟨lO,aj,e5⟩:=bs _ _ _ _ _ B bB W;refine⟨lO,?_,e5⟩;simp only[lq,aj];cases e with
      |gu=>exact absurd rfl H
      |bw id=>rfl
      |aT=>rfl
theorem gq.qq(W:gq id x m bB):gq id (x.map Iq) (qq m) (qq bB) where
  eq:=by
    rw[W.eq];simp only[DI.qq,E.an,E.mk.injEq,true_and,and_true];funext b;by_cases h:b=id
    · subst h;simp
    · simp[h]
  fa:=W.fa
  j8:=by have:=W.j8;unfold E.U at this⊢;have h:=W.fa;rw[if_pos h]at this;show(if id<m.next then _ else _)=_;rw[if_pos h];simp only[DI.qq,this,Option.map_none]
theorem gq.tZ(W:gq id x m bB){O:Nat}{v:Value}(h:tZ O m v=true):tZ O bB v=true:=by
  unfold DI.tZ at h⊢;split at h
  · rename_i a l c;cases aq:m.U a.block with
    |none=>rw[aq]at h;cases h
    |some x=>rw[aq]at h;rw[W.U aq];exact h
  · rfl
theorem gq.pX(W:gq id x m bB){o:cd}{u:aM}(h:pX o u m=true):pX o u bB=true:=by
  unfold DI.pX at h⊢;simp only[bK]at h⊢;refine⟨⟨h.1.1,?_⟩,Oy W h.2⟩;have:=h.1.2;split at this
  · exact W.tZ this
  · cases this
theorem qe{dj:Callee}(dz: ∀x,PH id x dj){n:Nat}: ∀{c:J} {u ae:aM} {m N bB:E} {e:dp},fx dj n c u m=some (e,ae,N)->gq id x m bB-> ∃hs,fx dj n c u bB=some (e,ae,hs)/\gq id x N hs
  | .skip,_,_,_,_,bB,_,h,W=>by cases h;exact⟨bB,rfl,W⟩
  | .G ops,u,ae,m,N,bB,e,h,W=>by
    simp only[fx]at h⊢;split at h
    · rename_i cC bo aH;cases h;have ej:gq id x (kK ops m) (kK ops bB):=by
        unfold kK;split
        · exact W.bx _
        · exact W
      obtain⟨hs,g,la⟩:=BQ (dz x) (base:=m.next) W.fa ej aH;refine⟨hs,?_,la⟩;rw[W.next,g]
    · cases h
  | .w1 cj o b4,u,ae,m,N,bB,e,h,W=>by
    simp only[fx]at h⊢;split at h
    · rename_i cC bo B;split at h
      · rename_i aA;split at h
        · rename_i ev cc H;cases h;obtain⟨lO,aj,e5⟩:=BQ (dz x) (base:=m.next) W.fa (W.bx _) B;have aa:o.k.ok cC bo=true:=(by unfold DI.pX at aA;simp only[bK]at aA;exact aA.2);obtain⟨vc,ba,la⟩:=BQ (dz _) (base:=m.next) W.fa e5.qq H;rw[W.next,aj];simp only[e5.pX aA,if_true,Pm e5 aa,ba,la.next,e5.next];exact⟨_,rfl,(Om e5 (by have:=W.fa;omega) aa).bx _⟩
        · cases h
      · cases h
    · cases h
  | .D a b,u,ae,m,N,bB,e,h,W=>by
    simp only[fx]at h⊢;split at h
    · rename_i cC bo B;obtain⟨lO,aj,e5⟩:=qe dz B W;obtain⟨vc,ba,la⟩:=qe dz h e5;exact⟨vc,by rw[aj];exact ba,la⟩
    · rename_i dE;obtain⟨lO,aj,e5⟩:=qe dz h W;refine⟨lO,?_,e5⟩;rw[aj];cases e with
      |gu=>exact absurd h (dE _ _)
      |bw id=>rfl
      |aT=>rfl
  | .a8 x a b,u,ae,m,N,bB,e,h,W=>by
    simp only[fx]at h⊢;split at h
    · rename_i B;rw[if_pos B];split at h
      · rename_i H;rw[if_pos H];exact qe dz h W
      · rename_i H;rw[if_neg H];exact qe dz h W
    · cases h
  | .block id c,u,ae,m,N,bB,e,h,W=>by
    simp only[fx]at h⊢;split at h
    · rename_i B;obtain⟨lO,aj,e5⟩:=qe dz B W;rw[aj];simp only;split at h
      · rename_i fA;cases h;exact⟨lO,by rw[if_pos fA],e5⟩
      · rename_i fA;cases h;exact⟨lO,by rw[if_neg fA],e5⟩
    · rename_i dE;obtain⟨lO,aj,e5⟩:=qe dz h W;refine⟨lO,?_,e5⟩;rw[aj];cases e with
      |gu=>rfl
      |bw id=>exact absurd h (dE _ _ _)
      |aT=>rfl
  | .loop c,u,ae,m,N,bB,e,h,W=>by simp only[fx]at h⊢;exact N2 (f:=fx dj n c) (λu m e ae N B bB W=>qe dz B W) h W
  | .bw id,_,_,_,_,bB,_,h,W=>by cases h;exact⟨bB,rfl,W⟩
  | .aT,_,_,_,_,bB,_,h,W=>by cases h;exact⟨bB,rfl,W⟩
theorem GR(W:gq id x m bB){u:aM}{r:nD}(h:sT m u r=true):sT bB u r=true/\tU bB u r=tU m u r:=by
  cases r with
  |bq t=>exact⟨rfl,rfl⟩
  | h8 t df n=>simp only[sT,bK]at h⊢;exact⟨⟨W.g8 h.1,h.2⟩,W.k4 h.1⟩
theorem afb(W:gq id x m bB){u:aM}{bf:List nD}(h:nU m u bf=true):nU bB u bf=true/\oq bB u bf=oq m u bf:=by
  have aH: ∀r∈bf,sT m u r=true:=by simpa[nU]using h
  refine⟨by simp only[nU,hJ];exact λr aN=>(GR W (aH r aN)).1,?_⟩;unfold oq;split
  · exact(GR W (aH _ (by simp))).2
  · rw[uf λr aN=>(GR W (aH r aN)).2]
theorem KV{P:Program}: ∀n x,PH id x (lA P n)
  |0,_=> λf a m r N h=>by simp[lA]at h
  | n+1,x=> λf a m r N h bB W=>by
    simp only[lA]at h⊢;split at h
    · rename_i z dD;split at h
      · rename_i fM;rw[if_pos fM];split at h
        · cases h
        · rename_i e ae bo dE nH;obtain⟨lO,aj,e5⟩:=qe (KV n) nH W;split at h
          · rename_i aH;cases h;obtain⟨ba,cD⟩:=afb e5 aH;rw[aj];refine⟨lO,?_,e5⟩;cases e with
            |gu=>simp only[ba,cD,if_true]
            |aT=>simp only[ba,cD,if_true]
            |bw id=>exact absurd rfl (dE id)
          · cases h
        · cases h
      · cases h
    · cases h
end
end WC
section
variable {P:Program} {u ev:aM} {m cc:E} {a9:Nat} {dj:Callee} {base:Nat}
theorem GG{l:List Nat}{d:Nat}(h:vR l (some d)=true):d∉l:=by simpa[vR]using h
theorem BT{d:Option Nat}{v:Value}{t:Nat}(h:d≠some t):dO u d v t=u t:=by
  cases d with
  |none=>rfl
  | some d=>have:t≠d:= λe=>h (by rw[e]);simp[dO,p4,this]
theorem D3{d e:Option Nat}{aG v:Value}(h: ∀x,d=some x->e≠some x):dO (dO u d aG) e v=dO (dO u e v) d aG:=by
  cases d with
  |none=>rfl
  | some d=>
    cases e with
    |none=>rfl
    | some e=>
      have dE:d≠e:= λx=>h d rfl (by rw[x]);funext t;simp only[dO,p4];by_cases B:t=e
      · subst B;simp[Ne.symm dE]
      · simp[B]
theorem Ef{l:List Operand}{x:Operand}{t:Nat}(F:x∈l)(bm:x= .tmp t):t∈J2 l:=by subst bm;exact yF.2 ⟨_,F,rfl⟩
theorem BW{o:cd}{d:Option Nat}{v:Value}(h:vR o.z5 d=true): ∀x∈o.k.jg,ad (dO u d v) x=ad u x:=by intro x F;refine CC λt bm=>BT λay=> ?_;subst ay;exact GG h (pA _ (Ef F bm))
theorem vU{o:cd}{d:Option Nat}{v:Value}(h:vR o.z5 d=true):fY (dO u d v) o.g=fY u o.g:=by
  cases aq:o.g with
  |none=>rfl
  | some lM=>obtain⟨t,b⟩:=lM;simp only[fY];rw[BT λay=> ?_];subst ay;exact GG h (ow _ (by simp[aq]))
theorem ae3{k:al}: ∀x∈k.l3++k.pv,x∈k.jg:=by
  intro x F;cases k<;>simp[al.l3,al.pv]at F<;>simp[al.jg,F]
  · rcases F with h|h|h<;>simp[h]
theorem agH{o:cd}(aS:fY u o.g=true)(aK:o.k.gM u m=none){s:aM×E}(h:iX dj base o u m=some s):
    o.k.ok u m=true/\s=(dO u o.d (o.k.val (base+o.bb) u m),o.k.iH (base+o.bb) u m):=by
  unfold iX at h;rw[if_pos aS,aK]at h;simp only at h;split at h
  · rename_i aA;cases h;exact⟨aA,rfl⟩
  · cases h
theorem asa{o:cd}(aS:fY u o.g=true)(aK:o.k.gM u m=none)(aA:o.k.ok u m=true):
    iX dj base o u m=some (dO u o.d (o.k.val (base+o.bb) u m),o.k.iH (base+o.bb) u m):=by
  unfold iX;rw[if_pos aS,aK];simp only[aA,if_true]
theorem J6{o:cd}(FB:o.k.zC=false)(aS:fY u o.g=true)(aK:o.k.gM u m=none){s:aM×E}(h:iX dj base o u m=some s):
    o.k.ok u m=true/\s=(dO u o.d (o.k.val (base+o.bb) u m),j4 m (o.k.iw (base+o.bb) u m)):=by
  unfold iX at h;rw[if_pos aS,aK]at h;simp only at h;split at h
  · rename_i aA;cases h;exact⟨aA,by rw[<-ap7 FB]⟩
  · cases h
theorem J7{o:cd}(FB:o.k.zC=false)(aS:fY u o.g=true)(aK:o.k.gM u m=none)(aA:o.k.ok u m=true):
    iX dj base o u m=some (dO u o.d (o.k.val (base+o.bb) u m),j4 m (o.k.iw (base+o.bb) u m)):=by
  unfold iX;rw[if_pos aS,aK];simp only[aA,if_true,ap7 FB]
theorem J5{o:cd}(aS:fY u o.g=true){f:Nat}{args:List Value}(aK:o.k.gM u m=some (f,args)){s:aM×E}(h:iX dj base o u m=some s):
    ∃v N,dj f args m=some (v,N)/\s=(dO u o.d v,N):=by
  unfold iX at h;rw[if_pos aS,aK]at h;simp only at h;split at h
  · rename_i v N bs;cases h;exact⟨v,N,bs,rfl⟩
  · cases h
theorem Pb{o:cd}(aS:fY u o.g=true){f:Nat}{args:List Value}(aK:o.k.gM u m=some (f,args)){v:Value}{N:E}(h:dj f args m=some (v,N)):
    iX dj base o u m=some (dO u o.d v,N):=by
  unfold iX;rw[if_pos aS,aK];simp only[h]
theorem Eg{o:cd}(aS:fY u o.g=false):iX dj base o u m=some (dO u o.d undef,m):=by unfold iX;rw[if_neg (by rw[aS];simp)]
theorem P9{k:al}{mT:Nat×List Value}(h:k.gM u m=some mT):k.mj=true:=by cases k<;>first|rfl|(simp[al.gM]at h)
theorem vF{k:al}(h:k.mj=false):k.gM u m=none:=by cases k<;>first|rfl|(simp[al.mj]at h)
theorem W3{o:cd}(aS:fY u o.g=true)(aK:o.k.gM u m=none){s:aM×E}(h:iX dj base o u m=some s):o.k.mj=false:=
  Va (agH aS aK h).1
def ahk(k i:cd)(u:aM)(m N:E):Prop:=
  fY u i.g=true->match i.k.gM u m with
    |some _=> ∀p∈sN k i,∀b,ai (ad u p.1)=some b->N.U b=m.U b
    |none=> ∀p∈sN k i,∀a b,ai (ad u p.1)=some a->ai (ad u p.2)=some b->a≠b
theorem Qf{o:cd}{d:Option Nat}{v:Value}{N:E}(aH:vR (o.z5++o.ah7) d=true){GB Ok:E}
    (C4:o.k.mj=true->GB=m/\Ok=N) (h:rF o u m N):rF o (dO u d v) GB Ok:=by
  have B:vR o.z5 d=true:=by
    cases d with
    |none=>rfl
    |some d=>simp[vR]at aH⊢;exact aH.1
  have jU: ∀p∈o.bI,ad (dO u d v) p.1=ad u p.1/\ad (dO u d v) p.2=ad u p.2:=by
    intro p Y;constructor
    · refine CC λt bm=>BT λay=> ?_;subst ay;exact GG aH (ow _ (pA _ (Ef (iK.2 ⟨p,Y,rfl⟩) bm)))
    · refine CC λt bm=>BT λay=> ?_;subst ay;exact GG aH (ow _ (ow _ (Ef (iK.2 ⟨p,Y,rfl⟩) bm)))
  intro aS;rw[vU B]at aS;have:=h aS;have hQ:o.k.gM (dO u d v) GB=o.k.gM u m:=by
    rw[(AG (m:=GB) (id:=0) (BW B)).2.2.2];cases Fq:o.k.mj with
    |true=>rw[(C4 Fq).1]
    |false=>rw[vF Fq,vF Fq]
  rw[hQ];cases aK:o.k.gM u m with
  | some mT=>rw[aK]at this;simp only at this⊢;obtain⟨rfl,rfl⟩:=C4 (P9 aK);intro p Y b K;rw[(jU p Y).1]at K;exact this p Y b K
  | none=>rw[aK]at this;simp only[mb,hJ]at this⊢;intro p Y;obtain⟨x,y⟩:=p;have:=this (x,y) Y;simp only at this⊢;rw[(jU _ Y).1,(jU _ Y).2];exact this
theorem aLK{P:Program}{a9:Nat}(dz:ta P a9 dj){k i:cd}{vh:List Nat}{ev n2:aM}{cc gC:E}(Q1:tm k i vh=true)(xW:k.bb≠i.bb)(Yj:i.k.gF=true->m.U (base+i.bb)=none)(cg:i.k.gF=true->base+i.bb<m.next)
    (B:iX dj base k u m=some (ev,cc)) (jU:rF k u m cc) (H:iX dj base i ev cc=some (n2,gC)) (dD:ahk k i ev cc gC):
    ∃cC bo,iX dj base i u m=some (cC,bo)/\iX dj base k cC bo=some (n2,gC)/\rF k cC bo gC/\(i.k.mj=true->fY u i.g=true->m=cc/\bo=gC):=by
  simp only[tm,bK]at Q1;obtain⟨⟨⟨⟨⟨uI,zk⟩,CS⟩,pM⟩,QZ⟩,qj⟩:=Q1
  replace uI:k.k.zC=false:=by simpa using uI
  replace zk:i.k.zC=false:=by simpa using zk
  have zi:vR k.z5 i.d=true:=by
    cases ay:i.d with
    |none=>rfl
    |some d=>rw[ay]at CS;simp[vR]at CS⊢;exact CS.1
  have CW: ∀x,k.d=some x->i.d≠some x:=by intro x F ab;rw[F,ab]at QZ;simp at QZ
  by_cases q1:fY u k.g=true
  · by_cases tE:fY u i.g=true
    · cases sv:k.k.gM u m with
      | some mT=>
        -- k ahW;i asr j8 aUh
        obtain⟨f,args⟩:=mT;have vv:=P9 sv;obtain⟨v,N,aX,bg⟩:=J5 q1 sv B;cases bg;have nI:i.k.mj=false:=by
          by_cases h:i.k.mj=true
          · rw[if_pos h]at qj;simp[vv]at qj
          · simpa using h
        rw[if_neg (by rw[nI];simp),if_pos vv]at qj;simp only[bK,List.isEmpty_iff]at qj;obtain⟨YQ,Y4⟩:=qj;have C6:fY (dO u k.d v) i.g=true:=(by rw[vU pM];exact tE);obtain⟨aA,dU⟩:=J6 zk C6 (vF nI) H;cases dU;obtain⟨bY,cN,dI,_⟩:=AG (k:=i.k) (m:=cc) (id:=base+i.bb) (BW (u:=u) (v:=v) pM);obtain⟨j5,lC,qc⟩:=Qi (k:=i.k) (u:=u) (id:=base+i.bb) (m:=cc) (cc:=m) zk (by rw[YQ];simp);have Q8: ∀p∈i.k.iw (base+i.bb) u m,i.k.gF=true/\p.1=base+i.bb:= λp Y=>by
          rcases Kl (k:=i.k) (id:=base+i.bb) (u:=u) (m:=m) p Y with h|⟨x,F,_⟩
          · exact⟨h.1,h.2.1⟩
          · rw[Y4]at F;cases F
        -- ahf r9 lN new block aU4 agZ lN gl
        have azE: ∀(l:List (Nat×Option fV)) (zR hF:E),(∀p∈l,i.k.gF=true/\p.1=base+i.bb)->dj f args zR=some (v,hF)->(l≠[]->base+i.bb<zR.next/\zR.U (base+i.bb)=none)->
            dj f args (j4 zR l)=some (v,j4 hF l)/\(l=[]\/ ∃y,j4 zR l=zR.an (base+i.bb) y/\j4 hF l=hF.an (base+i.bb) y):=by
          intro l zR hF aE A1 azi;have C4: ∀(l:List (Nat×Option fV)) (x:Option fV),(∀p∈l,p.1=base+i.bb)-> ∃y,∀bk:E,j4 (bk.an (base+i.bb) x) l=bk.an (base+i.bb) y:=by
            intro l;induction l with
            |nil=>intro x _;exact⟨x,λ_=>rfl⟩
            | cons p l cB=>
              intro x Y;obtain⟨y,ab⟩:=cB p.2 (λq bz=>Y q (by simp[bz]));refine⟨y,λbk=> ?_⟩;have e:p.1=base+i.bb:=Y p (by simp);have:(bk.an (base+i.bb) x).an p.1 p.2=bk.an (base+i.bb) p.2:=by rw[e];simp only[E.an,E.mk.injEq,true_and,and_true];funext j;by_cases c6:j=base+i.bb<;>simp[c6]
              show j4 ((bk.an (base+i.bb) x).an p.1 p.2) l=_;rw[this,ab]
          cases l with
          |nil=>exact⟨A1,.inl rfl⟩
          | cons p l=>obtain⟨y,ab⟩:=C4 l p.2 (λq bz=>(aE q (by simp[bz])).2);have e:p.1=base+i.bb:=(aE p (by simp)).2;have qd:j4 zR (p::l)=zR.an (base+i.bb) y:=(by show j4 (zR.an p.1 p.2) l=_;rw[e,ab]);have rH:j4 hF (p::l)=hF.an (base+i.bb) y:=(by show j4 (hF.an p.1 p.2) l=_;rw[e,ab]);rw[qd,rH];obtain⟨cm,dK⟩:=azi (by simp);exact⟨(dz _ _ _ _ _ A1).2.2.2.1 _ y cm dK,.inr ⟨y,rfl,rfl⟩⟩
        obtain⟨ez,fj⟩:=azE (i.k.iw (base+i.bb) u m) m cc Q8 aX (λdE=>by obtain⟨p,Y⟩:=List.exists_mem_of_ne_nil _ dE;have:=(Q8 p Y).1;exact⟨cg this,Yj this⟩);have ajs:k.k.gM u (j4 m (i.k.iw (base+i.bb) u m))=some (f,args):=by
          rcases fj with h|⟨y,ab,_⟩
          · rw[h];exact sv
          · rw[ab];by_cases gO:i.k.gF=true
            · exact WC.P8 ⟨rfl,cg gO,Yj gO⟩ sv
            · have:i.k.iw (base+i.bb) u m=[]:=by
                cases aE:i.k.iw (base+i.bb) u m with
                |nil=>rfl
                |cons p l=>exact absurd (Q8 p (by rw[aE];simp)).1 gO
              rw[this]at ab;rw[<-ab];exact sv
        refine⟨_,_,J7 zk tE (vF nI) (by rw[<-j5,<-bY];exact aA),?_,?_,λh=>by rw[nI]at h;cases h⟩
        · have ayG:k.k.gM (dO u i.d (i.k.val (base+i.bb) u m)) (j4 m (i.k.iw (base+i.bb) u m))=some (f,args):=(by rw[(AG (m:=j4 m (i.k.iw (base+i.bb) u m)) (id:=0) (BW zi)).2.2.2];exact ajs);rw[cN,dI,lC,qc];have:=Pb (dj:=dj) (base:=base) (m:=j4 m (i.k.iw (base+i.bb) u m)) (by rw[vU zi];exact q1) ayG ez;rw[this,D3 CW]
        · rw[dI,qc];refine Qf CS (λ_=>⟨rfl,rfl⟩) (λaS=> ?_);have bH:=jU aS;rw[sv]at bH;rw[ajs];simp only at bH⊢;rcases fj with h|⟨y,ab,FI⟩
          · rw[h];exact bH
          · rw[ab,FI];intro q bz b K;have:=bH q bz b K;by_cases oa:b=base+i.bb
            · subst oa;have av:i.k.iw (base+i.bb) u m=[]\/i.k.gF=true:=by
                cases aE:i.k.iw (base+i.bb) u m with
                |nil=>exact .inl rfl
                |cons p l=>exact .inr (Q8 p (by rw[aE];simp)).1
              rcases av with av|gO
              · rw[av]at ab FI;rw[<-ab,<-FI];exact this
              · rw[E.qg,E.qg,if_pos rfl,if_pos rfl,if_pos (cg gO),if_pos (nz (cg gO) (dz _ _ _ _ _ aX).2.1)]
            · rw[E.qg,E.qg,if_neg oa,if_neg oa];exact this
      | none=>
        have vv:=W3 q1 sv B;obtain⟨YJ,aX⟩:=J6 uI q1 sv B;cases aX;have C6:fY (dO u k.d (k.k.val (base+k.bb) u m)) i.g=true:=(by rw[vU pM];exact tE);obtain⟨bY,cN,dI,ew⟩:=AG (k:=i.k) (m:=j4 m (k.k.iw (base+k.bb) u m)) (id:=base+i.bb) (BW (u:=u) (v:=k.k.val (base+k.bb) u m) pM);have nF:=dD C6;cases hQ:i.k.gM u (j4 m (k.k.iw (base+k.bb) u m))with
        | some mT=>
          -- i ahW;k ahf aUJ
          obtain⟨f,args⟩:=mT;have nI:=P9 hQ;rw[if_pos nI]at qj;simp only[bK,Ak,List.isEmpty_iff]at qj;obtain⟨⟨⟨_,gO⟩,Y4⟩,YR⟩:=qj;have ako:k.k.iw (base+k.bb) u m=[]:=by
            cases aE:k.k.iw (base+k.bb) u m with
            |nil=>rfl
            | cons p l=>
              rcases Kl (k:=k.k) (id:=base+k.bb) (u:=u) (m:=m) p (by rw[aE];simp)with h|⟨x,F,_⟩
              · rw[gO]at h;cases h.1
              · rw[Y4]at F;cases F
          rw[ako]at H nF hQ ew⊢;have C1:j4 m []=m:=rfl;rw[C1]at H nF hQ ew;rw[ew,hQ]at nF;simp only at nF;obtain⟨v,N,aj,ba⟩:=J5 C6 (by rw[ew];exact hQ) H;cases ba;refine⟨_,_,Pb tE hQ aj,?_,?_,λ_ _=>⟨rfl,rfl⟩⟩
          · obtain⟨j5,lC,qc⟩:=Qi (k:=k.k) (u:=u) (id:=base+k.bb) (m:=m) (cc:=gC) uI (λx F b K=>by
              have Y:(x,x)∈sN k i:=(by simp only[sN,nI,if_true];exact iK.2 ⟨x,F,rfl⟩);have aAa:ad (dO u k.d (k.k.val (base+k.bb) u m)) x=ad u x:=CC λt bm=>BT λay=>by have:=hJ.1 YR t (Ef F bm);simp[ay]at this
              exact(nF (x,x) Y b (by rw[aAa];exact K)).symm)
            obtain⟨ck,cE,eo,e8⟩:=AG (k:=k.k) (m:=gC) (id:=base+k.bb) (BW (u:=u) (d:=i.d) (v:=v) zi);have:=J7 (dj:=dj) (base:=base) (m:=gC) (u:=dO u i.d v) (o:=k) uI (by rw[vU zi];exact q1) (vF vv) (by rw[ck,<-j5];exact YJ);rw[this,cE,eo,<-lC,<-qc,ako,D3 CW];rfl
          · exact Qf CS (λh=>by rw[vv]at h;cases h) jU
        | none=>
          -- aUs ahW
          have nI:=W3 (by rw[<-vU pM (u:=u)]at tE;exact tE) (by rw[ew];exact hQ) H;rw[ew,hQ]at nF;simp only at nF;rw[if_neg (by rw[nI];simp),if_neg (by rw[vv];simp)]at qj;simp only[bK,yG,Ak]at qj;obtain⟨gO,YR⟩:=qj;obtain⟨YI,dU⟩:=J6 zk C6 (vF nI) H;rw[bY]at YI;rw[cN,dI]at dU
          -- lN aUZ aPX,at aQG aZv
          have Y7: ∀x∈k.k.l3++k.k.pv,ad (dO u k.d (k.k.val (base+k.bb) u m)) x=ad u x:=(by intro x F;refine CC λt bm=>BT λay=> ?_;have:=hJ.1 YR t (Ef F bm);simp[ay]at this);have Rl: ∀y∈i.k.l3++i.k.pv,ad (dO u k.d (k.k.val (base+k.bb) u m)) y=ad u y:= λy ab=>BW pM y (ae3 y ab);have Re:sN k i=((k.k.pv++(if k.k.gF then Ql k.d else[])).flatMap λx=>(i.k.l3++i.k.pv).map λy=>(x,y))++k.k.l3.flatMap λx=>i.k.pv.map λy=>(x,y):=by simp only[sN,nI,vv,lv,if_false]
          -- aTA ahf do not aHx asP i asr
          have bD: ∀p∈k.k.iw (base+k.bb) u m,∀y∈i.k.l3++i.k.pv,∀b,ai (ad u y)=some b->p.1≠b:=by
            intro p Y y ab b K;rcases Kl (k:=k.k) p Y with⟨aC,e,A0⟩|⟨x,F,lT⟩
            · rcases gO with gO|gO
              · rw[gO]at aC;cases aC
              · obtain⟨d,ay⟩:=Pz.1 gO.1;have:=nF (.tmp d,y) (by
                  rw[Re];refine pA _ (Al.2 ⟨.tmp d,?_,iK.2 ⟨y,ab,rfl⟩⟩);simp[aC,ay,Ql]) (base+k.bb) b (by simp only[ad,ay,dO,p4,if_true];exact A0) (by rw[Rl y ab];exact K)
                rw[e];exact this
            · exact nF (x,y) (by rw[Re];exact pA _ (Al.2 ⟨x,pA _ F,iK.2 ⟨y,ab,rfl⟩⟩)) p.1 b (by rw[Y7 x (ow _ F)];exact lT) (by rw[Rl y ab];exact K)
          obtain⟨j5,lC,qc⟩:=Qi (k:=i.k) (u:=u) (id:=base+i.bb) (m:=j4 m (k.k.iw (base+k.bb) u m)) (cc:=m) zk (λy ab b K=>XL _ _ _ λp Y=>bD p Y y (pA _ ab) b K);rw[j5]at YI;rw[lC,qc]at dU;cases dU
          -- aR9 ahf do not aHx asP k asr
          have asQ: ∀p∈i.k.iw (base+i.bb) u m,∀x∈k.k.l3++k.k.pv,∀b,ai (ad u x)=some b->p.1≠b:=by
            intro p Y x F b K e;rcases Kl (k:=i.k) p Y with⟨aC,bg,A0⟩|⟨y,ab,CR⟩
            · have:=aH9 YJ x F b K;rw[<-e,bg,Yj aC]at this;cases this
            · rcases mM.1 F with kn|kn
              · exact nF (x,y) (by rw[Re];exact ow _ (Al.2 ⟨x,kn,iK.2 ⟨y,ab,rfl⟩⟩)) b p.1 (by rw[Y7 x F];exact K) (by rw[Rl y (ow _ ab)];exact CR) e.symm
              · exact nF (x,y) (by rw[Re];exact pA _ (Al.2 ⟨x,pA _ kn,iK.2 ⟨y,ow _ ab,rfl⟩⟩)) b p.1 (by rw[Y7 x F];exact K) (by rw[Rl y (ow _ ab)];exact CR) e.symm
          have aMA: ∀p∈k.k.iw (base+k.bb) u m,∀q∈i.k.iw (base+i.bb) u m,p.1≠q.1:=by
            intro p Y q bz e;rcases Kl (k:=i.k) q bz with⟨aC,bg,A0⟩|⟨y,ab,CR⟩
            · rcases Kl (k:=k.k) p Y with⟨_,dU,_⟩|⟨x,F,lT⟩
              · omega
              · exact asQ q bz x (ow _ F) p.1 lT e.symm
            · exact bD p Y y (ow _ ab) q.1 CR e
          refine⟨_,_,J7 zk tE (vF nI) YI,?_,?_,λh=>by rw[nI]at h;cases h⟩
          · obtain⟨ck,cE,eo,e8⟩:=AG (k:=k.k) (m:=j4 m (i.k.iw (base+i.bb) u m)) (id:=base+k.bb) (BW (u:=u) (d:=i.d) (v:=i.k.val (base+i.bb) u m) zi);obtain⟨aj,ba,cD⟩:=Qi (k:=k.k) (u:=u) (id:=base+k.bb) (m:=j4 m (i.k.iw (base+i.bb) u m)) (cc:=m) uI (λx F b K=>XL _ _ _ λp Y=>asQ p Y x (pA _ F) b K);have:=J7 (dj:=dj) (base:=base) (m:=j4 m (i.k.iw (base+i.bb) u m)) (u:=dO u i.d (i.k.val (base+i.bb) u m)) (o:=k) uI (by rw[vU zi];exact q1) (vF vv) (by rw[ck,aj];exact YJ);rw[this,cE,eo,ba,cD,D3 CW,ahB _ _ m aMA]
          · exact Qf CS (λh=>by rw[vv]at h;cases h) jU
    · -- i q3 aIp over
      have Mo:fY u i.g=false:=(by simpa using tE);have mV: ∃v,ev=dO u k.d v:=by
        cases sv:k.k.gM u m with
        |some mT=>obtain⟨v,N,_,e⟩:=J5 q1 sv B;cases e;exact⟨v,rfl⟩
        |none=>obtain⟨_,e⟩:=J6 uI q1 sv B;cases e;exact⟨_,rfl⟩
      obtain⟨v,rfl⟩:=mV;rw[Eg (by rw[vU pM];exact Mo)]at H;cases H;refine⟨_,_,Eg Mo,?_,Qf CS (λ_=>⟨rfl,rfl⟩) jU,λ_ h=>absurd h tE⟩;have akn:fY (dO u i.d undef) k.g=true:=(by rw[vU zi];exact q1);obtain⟨ck,cE,eo,e8⟩:=AG (k:=k.k) (m:=m) (id:=base+k.bb) (BW (u:=u) (d:=i.d) (v:=undef) zi);cases sv:k.k.gM u m with
      | some mT=>obtain⟨f,args⟩:=mT;obtain⟨aG,N,aj,ba⟩:=J5 q1 sv B;have aX:=congrArg Prod.fst ba;have bg:=congrArg Prod.snd ba;simp only at aX bg;subst bg;have dU:dO (dO u i.d undef) k.d aG=dO (dO u k.d aG) i.d undef:=(D3 CW).symm;rw[Pb akn (by rw[e8];exact sv) aj,dU,<-aX]
      | none=>obtain⟨aA,ba⟩:=J6 uI q1 sv B;have aX:=congrArg Prod.fst ba;have bg:=congrArg Prod.snd ba;simp only at aX bg;subst bg;have dU:dO (dO u i.d undef) k.d (k.k.val (base+k.bb) u m)=dO (dO u k.d (k.k.val (base+k.bb) u m)) i.d undef:=(D3 CW).symm;rw[J7 uI akn (by rw[e8];exact sv) (by rw[ck];exact aA),cE,eo,dU,<-aX]
  · -- k q3 aIp over
    have akm:fY u k.g=false:=(by simpa using q1);rw[Eg akm]at B;cases B;have tw: ∀v bk,iX dj base k (dO u i.d v) bk=some (dO (dO u i.d v) k.d undef,bk):= λv bk=>Eg (by rw[vU zi];exact akm);have X7: ∀v GB Ok,rF k (dO u i.d v) GB Ok:= λv GB Ok aS=>by rw[vU zi]at aS;exact absurd aS q1
    obtain⟨ck,cE,eo,e8⟩:=AG (k:=i.k) (m:=m) (id:=base+i.bb) (BW (u:=u) (d:=k.d) (v:=undef) pM);by_cases tE:fY u i.g=true
    · have C6:fY (dO u k.d undef) i.g=true:=(by rw[vU pM];exact tE);cases hQ:i.k.gM u m with
      | some mT=>obtain⟨f,args⟩:=mT;obtain⟨aG,N,aj,ba⟩:=J5 C6 (by rw[e8];exact hQ) H;cases ba;exact⟨_,_,Pb tE hQ aj,by rw[tw,D3 CW],X7 _ _ _,λ_ _=>⟨rfl,rfl⟩⟩
      | none=>obtain⟨aA,ba⟩:=J6 zk C6 (by rw[e8];exact hQ) H;have nI:=Va aA;rw[cE,eo]at ba;cases ba;exact⟨_,_,J7 zk tE hQ (by rw[<-ck];exact aA),by rw[tw,D3 CW],X7 _ _ _,λh=>by rw[nI]at h;cases h⟩
    · have Mo:fY u i.g=false:=(by simpa using tE);rw[Eg (by rw[vU pM];exact Mo)]at H;cases H;exact⟨_,_,Eg Mo,by rw[tw,D3 CW],X7 _ _ _,λ_ h=>absurd h tE⟩
end
end Go.DI
