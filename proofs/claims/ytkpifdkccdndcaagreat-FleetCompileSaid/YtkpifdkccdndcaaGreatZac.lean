/-
  A part of the proof of the statement, in texts that tools of ours (wip/shrink.py, irpack.py, relax.py, minify.py, join.py, lay.py) have shortened.
-/
import Derived.MapKept
import Derived.Test.YtkpifdkccdndcaaGreatZab
set_option linter.all false
set_option maxRecDepth 8000
set_option maxHeartbeats 16000000
namespace Go.DI
open Go Go.RowKit
def mx.xY:mx->TypeDesc
  | .int k=> .int k
  | .str=> .string
theorem aku{gu:mx}{v:Value}(h:pj gu v=true):MapKept.IsKey gu.xY v:=by cases gu<;>cases v<;>simp_all [pj,MapKept.IsKey,mx.xY]
theorem RO{gu:mx}{v:Value}(h:pj gu v=true):fg v=true:=by cases gu<;>cases v<;>simp_all [pj,fg]
theorem aqY{gu:mx}{a b:Value}(aE:pj gu a=true)(L:pj gu b=true):Instr.sameNow gu.xY a b=some (o8 a b)/\(o8 a b=true->a=b):=by
  cases gu with
  | int cy=>cases a<;>simp[pj]at aE;cases b<;>simp[pj]at L;rename_i bp fY dc dh;subst aE;subst L;have e:(fY==dh)=decide (fY=dh):=(by by_cases h:fY=dh<;>simp[h]);exact⟨by simp only[mx.xY,Instr.sameNow,o8,e,if_true],λh=>by simp only[o8,decide_eq_true_eq]at h;rw[h]⟩
  | str=>
    cases a<;>simp[pj]at aE;cases b<;>simp[pj]at L;rename_i x y;have e:(x==y)=decide (x=y):=by
      have:=MapKept.bytes_beq x y;by_cases h:x=y
      · rw[this.2 h];simp[h]
      · cases aB:(x==y)
        · simp[h]
        · exact absurd (this.1 aB) h
    exact⟨by simp only[mx.xY,Instr.sameNow,o8,e],λh=>by simp only[o8,decide_eq_true_eq]at h;rw[h]⟩
theorem ac8{P:Program}{t:TypeId}{gu:mx}(h:Nn P t=some gu):P.underlying t=some gu.xY:=by
  unfold Nn at h;split at h<;>cases h
  · rename_i k W;exact W
  · rename_i W;exact W
theorem UA{ax:fE}{gu:mx}{k:Value}(W:pj gu k=true): ∀(bg:List (Value×Value)) (ei:List MapEntry) (i:Nat),A3 ax bg ei->(bg.all λe=>pj gu e.1)=true->
    (cF k bg=none/\Instr.findNow gu.xY k ei i=some none/\ ∀v,dW k v bg=bg++[(k,v)])\/
    (∃j e eW,bg[j]?=some e/\ei[j]?=some eW/\eW.key=k/\cF k bg=some e.2/\Instr.findNow gu.xY k ei i=some (some (i+j,eW.val))/\ ∀v,dW k v bg=bg.set j (k,v))
  | [],ei,i,h,_=>by have:ei=[]:=List.length_eq_zero_iff.1 h.1.symm;subst this;exact .inl ⟨rfl,rfl,λ_=>rfl⟩
  | e::bg,ei,i,h,aE=>by
    cases ei with
    |nil=>have:=h.1;simp at this
    | cons eW ei=>
      simp only[List.all_cons,Bool.and_eq_true]at aE;obtain⟨z,D,Z,aw⟩:=h.2 0 e eW rfl rfl;have Oy:A3 ax bg ei:=⟨by simpa using h.1,λj a b z D=>h.2 (j+1) a b (by simpa using z) (by simpa using D)⟩;obtain⟨cB,eQ⟩:=aqY W aE.1;cases aB:o8 k e.1
      · rw[aB,<-D]at cB;rcases UA W bg ei (i+1) Oy aE.2 with⟨aC,a2,bS⟩|⟨j,x,kC,aC,a2,bS,fA,kp,oh⟩
        · exact .inl ⟨by simp[cF,aB,aC],by simp[Instr.findNow,cB,a2],λv=>by simp[dW,aB,bS]⟩
        · exact .inr ⟨j+1,x,kC,by simpa using aC,by simpa using a2,bS,by simp[cF,aB,fA],by simp[Instr.findNow,cB,kp];omega,λv=>by simp[dW,aB,oh]⟩
      · rw[aB,<-D]at cB;exact .inr ⟨0,e,eW,rfl,rfl,by rw[D];exact(eQ aB).symm,by simp[cF,aB],by simp[Instr.findNow,cB],λv=>by simp[dW,aB]⟩
section
variable {P:Program} {w:World} {o:Oper} {a:Act} {ax:fE} {ek:Nat} {u:aL} {m:B} {bu id:Nat}
theorem aEG{e:TypeId}{O:Value}(bY:S5 P e=some O):(zeroValue e).run P w= .ok O w/\fg O=true:=by
  unfold S5 at bY;split at bY
  · rename_i i aa;split at bY
    · rename_i lb tI;split at bY<;>cases bY;rename_i aI;exact⟨by simp[zeroValue,typeInfo,aa,tI],aI⟩
    · cases bY
  · cases bY
theorem fc.azS(aK:fc bu ax m w)(ev:bu<=w.heap.size)(e4:id<m.next)(aF:ax id=none):fc bu (jz ax id ⟨w.heap.size,0,0⟩) (m.hq id []) (w.alloc (.map #[] 0)):=by
  have fG:=wv (l:=⟨w.heap.size,0,0⟩) aF;have iQ:(w.alloc (.map #[] 0)).heap.size=w.heap.size+1:=by show(w.heap.push _).size=_;rw[Array.size_push]
  have F6: ∀k,k<w.heap.size->(w.alloc (.map #[] 0)).heap[k]?=w.heap[k]?:= λk W=>by show(w.heap.push _)[k]?=_;rw[Array.getElem?_push,if_neg (by omega)]
  have uB: ∀b,(m.hq id []).M b=if b=id then some ⟨[],true⟩else m.M b:= λb=>by
    unfold B.M B.hq;by_cases h:b=id
    · subst h;simp[e4]
    · simp[h]
  have JG: ∀b l,jz ax id ⟨w.heap.size,0,0⟩ b=some l->(b=id/\l=⟨w.heap.size,0,0⟩)\/(b≠id/\ax b=some l):= λb l h=>by
    unfold jz at h;split at h
    · rename_i e;cases h;exact .inl ⟨e,rfl⟩
    · rename_i e;exact .inr ⟨e,h⟩
  refine⟨λb l L=> ?_,λb l L=> ?_,λb x H=> ?_,λb x cQ kC l e5 z D Z aw aX cC=> ?_,λb bg L=> ?_,λb bg L=> ?_⟩
  · rcases JG b l L with⟨rfl,_⟩|⟨_,h⟩
    · exact e4
    · exact aK.ql b l h
  · rcases JG b l L with⟨_,rfl⟩|⟨_,h⟩
    · rw[iQ];exact Nat.lt_succ_self _
    · rw[iQ];have:=aK.rf b l h;omega
  · rw[uB]at H;split at H
    · rename_i e;cases H;exact⟨⟨w.heap.size,0,0⟩,by simp[jz,e],Nat.le_refl _,λi v X=>by simp at X,λ_=>⟨ev,λi aa=>by simp at aa⟩⟩
    · obtain⟨l,aC,a2,bS,fA⟩:=aK.rk b x H;have tA:=aK.rf b l aC;have aB: ∀i,(w.alloc (.map #[] 0)).cell? ⟨l.c,l.o+i,none⟩=w.cell? ⟨l.c,l.o+i,none⟩:= λi=>World.cell?_of_block (w:=w) (F6 l.c tA);have aI: ∀i,(w.alloc (.map #[] 0)).frozen? ⟨l.c,l.o+i,none⟩=w.frozen? ⟨l.c,l.o+i,none⟩:= λi=>World.frozen?_of_block (w:=w) (F6 l.c tA);exact⟨l,fG _ _ aC,a2,λi v X=>by obtain⟨bm,bW,bU,cn⟩:=bS i v X;exact⟨bm,bW,by rw[aB];exact bU,cn.aD fG⟩,λan=>⟨(fA an).1,λi aa=>by rw[aB,aI];exact(fA an).2 i aa⟩⟩
  · rw[uB]at z Z;rcases JG b l aX with⟨rfl,rfl⟩|⟨e,aX⟩
    · rcases JG cQ e5 cC with⟨eW,_⟩|⟨eW,cC⟩
      · exact absurd eW.symm aw
      · have:=aK.rf cQ e5 cC;simp only;omega
    · rcases JG cQ e5 cC with⟨eW,rfl⟩|⟨eW,cC⟩
      · have:=aK.rf b l aX;simp only;omega
      · rw[if_neg e]at z;rw[if_neg eW]at Z;exact aK.wP b x cQ kC l e5 z D Z aw aX cC
  · by_cases e:b=id
    · exact⟨⟨w.heap.size,0,0⟩,by simp[jz,e]⟩
    · have:m.mp b=some bg:=(by simpa[B.hq,e]using L);obtain⟨l,aG⟩:=aK.yI b bg this;exact⟨l,fG _ _ aG⟩
  · obtain⟨aC,a2⟩:=B.Bm L;by_cases e:b=id
    · subst e;have:bg=[]:=(by simpa[B.hq]using a2.symm);subst this;exact⟨⟨w.heap.size,0,0⟩,#[],0,by simp[jz],ev,by show(w.heap.push _)[w.heap.size]?=_;simp,⟨rfl,λi e eW h=>by simp at h⟩⟩
    · rw[uB,if_neg e]at aC;have qt:m.mp b=some bg:=(by simpa[B.hq,e]using a2);obtain⟨l,ei,bx,dK,eO,gk,hN⟩:=aK.kz b bg (B.qv aC qt);exact⟨l,ei,bx,fG _ _ dK,eO,by rw[F6 _ (aK.rf b l dK)];exact gk,hN.aD fG⟩
theorem aCC{t:TypeId}(b7:o.op= .makeMap t none)(aK:fc bu ax m w)(ev:bu<=w.heap.size)(e4:id<m.next)(aF:ax id=none):tf P o .oS a bu ax u m w id:=by
  refine⟨.map (some w.heap.size),w.alloc (.map #[] 0),jz ax id ⟨w.heap.size,0,0⟩,.inl ?_,wv aF,AX,?_,aK.azS ev e4 aF,A7 rfl rfl rfl rfl ev _⟩
  · simp only[execOp,b7,Option.map_none,Instr.makeMap,Sem.run_bind];rfl
  · exact .map (l:=⟨w.heap.size,0,0⟩) (by simp[jz])
theorem fc.am4(aK:fc bu ax m w){b:Nat}{bg:List (Value×Value)}{l:wE}{ei:Array MapEntry}{bx:Nat}(aj:m.c6 b=some bg)(aG:ax b=some l)(ev:bu<=l.c)(cE:w.heap[l.c]?=some (.map ei bx))
    {gA:List (Value×Value)} {FG:Array MapEntry} {IC:Nat} (aF:A3 ax gA FG.toList):fc bu ax (m.hq b gA) {w with heap:=w.heap.setIfInBounds l.c (.map FG IC)}:=by
  obtain⟨hu,vE⟩:=B.Bm aj;have L:=B.aT hu;obtain⟨nY,mE⟩:=MapKept.heap_set (o':= .map FG IC) cE;have uB: ∀cQ,(m.hq b gA).M cQ=m.M cQ:= λcQ=>by
    by_cases h:cQ=b
    · subst h;rw[hu];unfold B.M B.hq;simp[L]
    · unfold B.M B.hq;simp[h]
  have aB: ∀fq:Addr,World.cell? {w with heap:=w.heap.setIfInBounds l.c (.map FG IC)} fq=w.cell? fq:= λfq=>by
    by_cases h:fq.block=l.c
    · simp only[World.cell?,h,nY,cE]
    · exact World.cell?_of_block (w:=w) (mE _ h)
  have aI: ∀fq:Addr,World.frozen? {w with heap:=w.heap.setIfInBounds l.c (.map FG IC)} fq=w.frozen? fq:= λfq=>by
    by_cases h:fq.block=l.c
    · simp only[World.frozen?,h,nY,cE]
    · exact World.frozen?_of_block (w:=w) (mE _ h)
  refine⟨aK.ql,λcQ e5 ca=>by show e5.c<(w.heap.setIfInBounds _ _).size;rw[Array.size_setIfInBounds];exact aK.rf cQ e5 ca,λcQ x H=> ?_,λdt cN dJ di fM dg z D Z=>aK.wP dt cN dJ di fM dg (by rw[<-uB];exact z) D (by rw[<-uB];exact Z),λcQ IT jD=> ?_,λcQ IT jD=> ?_⟩
  · rw[uB]at H;simpa only[aB,aI]using aK.rk cQ x H
  · by_cases e:cQ=b
    · exact⟨l,by rw[e];exact aG⟩
    · exact aK.yI cQ IT (by simpa[B.hq,e]using jD)
  · obtain⟨aC,a2⟩:=B.Bm jD;rw[uB]at aC;by_cases e:cQ=b
    · subst e;have:IT=gA:=(by simpa[B.hq]using a2.symm);subst this;exact⟨l,FG,IC,aG,ev,nY,aF⟩
    · have qt:m.mp cQ=some IT:=(by simpa[B.hq,e]using a2);obtain⟨dg,arY,aq0,dK,eO,gk,hN⟩:=aK.kz cQ IT (B.qv aC qt);have dq:dg.c≠l.c:=aK.wP cQ _ b _ dg l aC rfl hu e dK aG;exact⟨dg,arY,aq0,dK,eO,by rw[mE _ dq];exact gk,hN⟩
theorem aCF{t tM e:TypeId}{gu:mx}{x k v:Operand}(b7:o.op= .mapUpdate t x k v)(bH:P.underlying t=some (.map tM e))(aR:P.underlying tM=some gu.xY)(H:dZ x=true)(W:dZ k=true)(X:dZ v=true)
    (J:jf ax ek u a) (aK:fc bu ax m w) (aA:(av.pl gu x k v).ok u m=true):tf P o (.pl gu x k v) a bu ax u m w id:=by
  simp only[av.ok]at aA;have aF:=J.ab H;cases bk:ab u x<;>simp only[bk]at aA<;>try cases aA
  rename_i p;cases p with
  |none=>simp at aA
  | some b=>
    simp only at aA;rw[bk]at aF;obtain⟨l,aG,ln⟩:=aF.JY;cases aj:m.c6 b with
    |none=>simp[aj]at aA
    | some bg=>
      simp only[aj,eh,Bool.and_eq_true]at aA;obtain⟨⟨tx,r2⟩,JQ⟩:=aA;obtain⟨e5,ei,bx,dK,eO,gk,hN⟩:=aK.kz b bg aj;rw[aG]at dK;cases dK;have DF:a.eval k=ab u k:=(J.ab W).lo (RO tx);have Od:=aku tx;have afx:=J.ab X;have zU:(av.pl gu x k v).kk id u m=m.hq b (dW (ab u k) (ab u v) bg):=(by simp only[av.kk,bk,Cd,aj,Option.getD_some]);have jZ:(Instr.checkKey false 10000 tM (ab u k)).run P w= .ok () w:=MapKept.run_checkKey aR Od false 9999;have aeH: ∀o',Below bu w {w with heap:=w.heap.setIfInBounds l.c o'}:= λo'=>⟨rfl,rfl,rfl,by show _<=(w.heap.setIfInBounds _ _).size;rw[Array.size_setIfInBounds];exact Nat.le_refl _,λk W=>by show(w.heap.setIfInBounds _ _)[k]?=_;simp[show l.c≠k by omega]⟩;rcases UA tx bg ei.toList 0 hN r2 with⟨_,a2,bS⟩|⟨j,cN,di,aC,a2,bS,_,kp,oh⟩
      · have ll:(Instr.mapUpdate t (a.eval x) (a.eval k) (a.eval v)).run P w= .ok () {w with heap:=w.heap.setIfInBounds l.c (.map (ei.push {key:=ab u k,val:=a.eval v,born:=bx}) (bx+1))}:=by
          simp[Instr.mapUpdate,ln,DF,run_underlying bH,MapKept.run_getObj_map gk,jZ,MapKept.run_findKey aR a2,MapKept.run_setObj_map _ gk]
        refine⟨undef,_,ax,.inr ⟨by simp only[execOp,b7,ll,Sem.run_bind,Result.andThen_ok];rfl,rfl⟩,im.refl ax,λ_ _=>rfl,eE.undef ax,?_,aeH _⟩;rw[zU,bS];refine aK.am4 aj aG eO gk ⟨by simp[hN.1],λi e eW z D=> ?_⟩;simp only[Array.toList_push]at D;rw[List.getElem?_append]at z D;rw[<-hN.1]at D;split at z
        · rename_i aa;rw[if_pos aa]at D;exact hN.2 i e eW z D
        · rename_i aa;rw[if_neg aa]at D;have BE:i-bg.length=0:=(by have:=(List.getElem?_eq_some_iff.1 z).1;simp at this;omega);rw[BE]at z D;simp at z D;subst z;subst D;exact⟨RO tx,rfl,JQ,afx⟩
      · have cp:ei[j]?=some di:=(by simpa using a2);have ll:(Instr.mapUpdate t (a.eval x) (a.eval k) (a.eval v)).run P w= .ok () {w with heap:=w.heap.setIfInBounds l.c (.map (ei.modify j λe=>{e with key:=ab u k,val:=a.eval v}) bx)}:=by
          simp[Instr.mapUpdate,ln,DF,run_underlying bH,MapKept.run_getObj_map gk,jZ,MapKept.run_findKey aR kp,cp,bS,MapKept.run_keyThatStays Od,MapKept.run_setObj_map _ gk]
        refine⟨undef,_,ax,.inr ⟨by simp only[execOp,b7,ll,Sem.run_bind,Result.andThen_ok];rfl,rfl⟩,im.refl ax,λ_ _=>rfl,eE.undef ax,?_,aeH _⟩;rw[zU,oh];refine aK.am4 aj aG eO gk ⟨by simpa using hN.1,λi e eW z D=> ?_⟩;simp only[Array.getElem?_toList,Array.getElem?_modify]at D;rw[List.getElem?_set]at z;by_cases sG:j=i
        · subst sG;rw[if_pos rfl,if_pos (by have:=(List.getElem?_eq_some_iff.1 aC).1;exact this)]at z;rw[if_pos rfl,cp]at D;simp at z D;subst z;subst D;exact⟨RO tx,rfl,JQ,afx⟩
        · rw[if_neg sG]at z D;exact hN.2 i e eW z (by simpa using D)
theorem aCE{t tM e:TypeId}{gu:mx}{O:Value}{ok:Bool}{x k:Operand}(b7:o.op= .lookup t x k ok)(bH:P.underlying t=some (.map tM e))(aR:P.underlying tM=some gu.xY)(bY:S5 P e=some O)(H:dZ x=true)(W:dZ k=true)
    (J:jf ax ek u a) (aK:fc bu ax m w) (aA:(av.pY gu O ok x k).ok u m=true):tf P o (.pY gu O ok x k) a bu ax u m w id:=by
  obtain⟨afH,auX⟩:=aEG (w:=w) bY;simp only[av.ok]at aA;have nC: ∃(bg:List (Value×Value)) (ei:Array MapEntry),mv m (ab u x)=some bg/\A3 ax bg ei.toList/\((a.eval x= .map none/\ei= #[])\/ ∃r bx,a.eval x= .map (some r)/\w.heap[r]?=some (.map ei bx)):=by
    have aF:=J.ab H;cases bk:ab u x<;>simp only[bk,mv]at aA<;>try cases aA
    rename_i p;cases p with
    | none=>rw[bk]at aF;exact⟨[],#[],rfl,⟨rfl,λi e eW h=>by simp at h⟩,.inl ⟨aF.lo rfl,rfl⟩⟩
    | some b=>
      rw[bk]at aF;obtain⟨l,aG,X⟩:=aF.JY;cases aj:m.c6 b with
      |none=>simp[aj]at aA
      | some bg=>obtain⟨e5,ei,bx,dK,eO,gk,hN⟩:=aK.kz b bg aj;rw[aG]at dK;cases dK;exact⟨bg,ei,aj,hN,.inr ⟨l.c,bx,X,gk⟩⟩
  obtain⟨bg,ei,F0,Oy,FX⟩:=nC;rw[F0]at aA;simp only[eh,Bool.and_eq_true]at aA;obtain⟨tx,r2⟩:=aA;have DF:a.eval k=ab u k:=(J.ab W).lo (RO tx);have Od:=aku tx;have Jw:=UA tx bg ei.toList 0 Oy r2;have ats: ∃(v:Value) (aJ:Nat×Value) (b:Bool),(Instr.findKey tM (ab u k) ei.toList).run P w= .ok (if b then some (aJ.1,aJ.2)else none:Option (Nat×Value)) w/\(cF (ab u k) bg).isSome=b/\(b=true->cF (ab u k) bg=some v/\eE ax v aJ.2):=by
    rcases Jw with⟨aC,a2,_⟩|⟨j,cN,di,aC,a2,bS,fA,kp,_⟩
    · exact⟨undef,(0,undef),false,by rw[MapKept.run_findKey aR a2];rfl,by rw[aC];rfl,λh=>by cases h⟩
    · obtain⟨_,_,_,aw⟩:=Oy.2 j cN di aC a2;exact⟨cN.2,(0+j,di.val),true,by rw[MapKept.run_findKey aR kp];rfl,by rw[fA];rfl,λ_=>⟨fA,aw⟩⟩
  obtain⟨v,aJ,b,dk,dV,ew⟩:=ats;have qA:(av.pY gu O ok x k).val id u m=if ok then .tuple #[(cF (ab u k) bg).getD O,.bool (cF (ab u k) bg).isSome]else(cF (ab u k) bg).getD O:=by simp only[av.val,F0,Option.bind_some]
  have ll:(Instr.lookup t (a.eval x) (a.eval k) ok).run P w= .ok (if ok then .tuple #[if b then aJ.2 else O,.bool b]else if b then aJ.2 else O) w:=by
    have jZ: ∀e,(Instr.checkKey e 10000 tM (ab u k)).run P w= .ok () w:= λe=>MapKept.run_checkKey aR Od e 9999;rcases FX with⟨z,D⟩|⟨r,bx,z,D⟩
    · subst D;cases b
      · simp[Instr.lookup,z,DF,run_underlying bH,jZ,dk,afH]
      · simp[Instr.lookup,z,DF,run_underlying bH,jZ,dk]
    · cases b
      · simp[Instr.lookup,z,DF,run_underlying bH,MapKept.run_getObj_map D,jZ,dk,afH]
      · simp[Instr.lookup,z,DF,run_underlying bH,MapKept.run_getObj_map D,jZ,dk]
  refine⟨_,w,ax,.inl (by simp only[execOp,b7,ll,Sem.run_bind,Result.andThen_ok];rfl),im.refl ax,λ_ _=>rfl,?_,aK,Below.refl _ _⟩;rw[qA];have JQ:eE ax ((cF (ab u k) bg).getD O) (if b then aJ.2 else O):=by
    cases b
    · have:cF (ab u k) bg=none:=(by simpa using dV);rw[this];exact .c0 auX
    · obtain⟨aC,a2⟩:=ew rfl;rw[aC];exact a2
  cases ok
  · exact JQ
  · simp only[if_true];rw[dV];exact dy.tuple (xs:=[_,_]) (ys:=[_,_]) (dy.cons JQ (dy.cons (.c0 rfl) (dy.nil ax)))
end
section
variable {P:Program} {w:World} {o:Oper} {a:Act} {ax:fE} {ek:Nat} {u:aL} {m:B} {bu id:Nat}
theorem aAS{k:av}(h:k.pure=true):k.kk id u m=m:=by cases k<;>first|rfl|(simp[av.pure]at h)
theorem aAq{k:av}(W:Bb P o=some k)(aB:k.mu=false)(J:jf ax ek u a)(aK:fc bu ax m w)(ev:bu<=w.heap.size)(e4:k.gF=true->id<m.next)(aF:k.gF=true->ax id=none)(aA:k.ok u m=true):tf P o k a bu ax u m w id:=by
  by_cases aq:k.pure=true
  · obtain⟨bW,z,D⟩:=aAT (w:=w) (m:=m) W aq J aA id;exact⟨bW,w,ax,z,im.refl ax,λ_ _=>rfl,D,by rw[aAS aq];exact aK,Below.refl _ _⟩
  · unfold Bb at W;split at W
    · split at W<;>cases W;exact absurd rfl aq
    · split at W<;>cases W;exact absurd rfl aq
    · split at W<;>cases W;exact absurd rfl aq
    · split at W<;>cases W;exact absurd rfl aq
    · -- eR
      rename_i e b7;split at W<;>cases W;rename_i O bY;exact aCv b7 bY aK ev (e4 rfl) (aF rfl)
    · -- o7
      rename_i e x b7;split at W<;>cases W;rename_i H;exact aCx b7 H J aA aK ev (e4 rfl) (aF rfl)
    · (repeat' split at W)<;>cases W<;>exact absurd rfl aq
    · -- buildSlice
      rename_i t n dX b7;split at W
      · rename_i e bH;split at W
        · rename_i O bY;split at W
          · rename_i jv bt;split at W<;>cases W;rename_i nU;simp only[Bool.and_eq_true,decide_eq_true_eq]at nU;exact aCy b7 bH bY bt nU.1 nU.2 J aK ev (e4 rfl) (aF rfl) aA
          · cases W
        · cases W
      · cases W
    · -- fj
      rename_i t x b7;split at W
      · rename_i ep n w0 ak;split at W<;>cases W;rename_i H;exact aCB b7 w0 ak H J aK aA
      · cases W
    · -- store
      rename_i t x v b7;split at W
      · rename_i n ak;split at W<;>cases W;rename_i H;simp only[Bool.and_eq_true]at H;exact aCH b7 ak H.1 H.2 J aK aA
      · cases W
    · (repeat' split at W)<;>cases W<;>exact absurd rfl aq
    · (repeat' split at W)<;>cases W<;>exact absurd rfl aq
    · -- convert
      rename_i s d x b7;split at W
      · split at W<;>cases W;exact absurd rfl aq
      · split at W<;>cases W;exact absurd rfl aq
      · rename_i e dB mm;split at W
        · rename_i bT;split at W<;>cases W;rename_i H;exact aCz b7 dB mm bT H J aK aA
        · cases W
      · rename_i e dB mm;split at W
        · rename_i bT;split at W<;>cases W;rename_i H;exact aCA b7 dB mm bT H J aK ev (e4 rfl) (aF rfl) aA
        · cases W
      · cases W
    · -- makeSlice
      rename_i t l c b7;split at W
      · rename_i e bH;split at W
        · rename_i O b8 bY aa;split at W<;>cases W;rename_i H;simp only[Bool.and_eq_true]at H;exact aCD b7 bH bY aa H.1 H.2 J aK ev (e4 rfl) (aF rfl) aA
        · cases W
      · cases W
    · -- slice
      rename_i t x cZ aa fC b7;split at W
      · split at W<;>cases W;exact absurd rfl aq
      · (repeat' split at W)<;>cases W<;>exact absurd rfl aq
      · rename_i n e aE;split at W
        · rename_i O bY;split at W<;>cases W;rename_i nU;simp only[Bool.and_eq_true,Option.isNone_iff_eq_none]at nU;exact aCG b7 aE bY nU.1.1.1 nU.1.1.2 nU.1.2 nU.2 J aK aA
        · cases W
      · cases W
    · (repeat' split at W)<;>cases W<;>exact absurd rfl aq
    · (repeat' split at W)<;>cases W<;>exact absurd rfl aq
    · (repeat' split at W)<;>cases W<;>exact absurd rfl aq
    · (repeat' split at W)<;>cases W<;>exact absurd rfl aq
    · (repeat' split at W)<;>cases W<;>exact absurd rfl aq
    · (repeat' split at W)<;>cases W<;>exact absurd rfl aq
    · (repeat' split at W)<;>cases W<;>exact absurd rfl aq
    · -- makeMap
      rename_i t r b7;split at W
      · rename_i k e bH;cases W;exact aCC b7 aK ev (e4 rfl) (aF rfl)
      · cases W
    · -- lookup
      rename_i t x i ok b7;split at W
      · rename_i k e bH;split at W
        · rename_i bx O jZ bY;split at W<;>cases W;rename_i H;simp only[Bool.and_eq_true]at H;exact aCE b7 bH (ac8 jZ) bY H.1 H.2 J aK aA
        · cases W
      · cases W
    · -- mapUpdate
      rename_i t x k v b7;split at W
      · rename_i tM e bH;split at W
        · rename_i bx jZ;split at W<;>cases W;rename_i H;simp only[Bool.and_eq_true]at H;exact aCF b7 bH (ac8 jZ) H.1.1 H.1.2 H.2 J aK aA
        · cases W
      · cases W
    · (repeat' split at W)<;>cases W<;>exact absurd rfl aq
    · -- eI
      rename_i c b7;unfold Nd at W;split at W
      · split at W<;>cases W;simp[av.mu]at aB
      · (repeat' split at W)<;>cases W<;>simp[av.mu]at aB
      · (repeat' split at W)<;>cases W<;>simp[av.mu]at aB
      · (repeat' split at W)<;>cases W<;>exact absurd rfl aq
      · rename_i eb;split at W
        · rename_i x y t aJ aE iU;split at W
          · rename_i e bH;split at W
            · rename_i b8 aa;split at W<;>cases W;rename_i H;simp only[Bool.and_eq_true,decide_eq_true_eq]at H;obtain⟨⟨⟨rfl,z⟩,D⟩,Z⟩:=H;obtain⟨O,bY⟩:=Option.isSome_iff_exists.1 Z;exact aCw b7 eb aE iU bH aa bY z D J aK ev (e4 rfl) (aF rfl) aA
            · cases W
          · cases W
        · cases W
      · (repeat' split at W)<;>cases W<;>exact absurd rfl aq
      · (repeat' split at W)<;>cases W<;>exact absurd rfl aq
      · cases W
    · cases W
def H8(P:Program)(f:Nat):Prop:= ∃fn,P.funcs[f]?=some fn∧fn.body.isSome=true∧(fn.name== "runtime.NumGoroutine")=false
theorem ak4{name:String}{r:TypeId×Nat×Option (Bool×Nat)}(h:r∈Z0 P name):ED P name r.1=some r/\r.1<P.types.size:=by
  unfold Z0 at h;obtain⟨t,z,D⟩:=List.mem_filterMap.1 h;have:r.1=t:=by
    unfold ED at D
    (repeat' split at D)<;>cases D<;>rfl
  subst this;exact⟨D,by simpa using z⟩
theorem aCh{name:String}{t f:Nat}{v:Value}(h:ED P name t=some (t,f,none)/\t<P.types.size):
    (method (P.types.size+Made.depth) t v name).run P w= .ok (f,v) w:=by
  obtain⟨h,cM⟩:=h;unfold ED at h
  (repeat' split at h)<;>cases h
  rename_i Vn _ mt Jw aq _ _ _ eF bk BC;obtain⟨n,ak⟩: ∃n,P.types.size+Made.depth=n+1:=⟨P.types.size+Made.depth-1,by omega⟩;have afk:mt.path.toList=[]:=by simpa using aq
  rw[ak];simp[method,typeInfo,Vn,Jw,afk,follow,BC,receiverAt,underlying,bk,Place.get]
theorem aa6{f:Nat}{args:Array Value}(h:H8 P f):(callFunc f args).run P w= .ok (.enter f args) w:=by
  obtain⟨fn,z,D,Z⟩:=h;have aw:fn.body≠none:=by intro L;simp[L]at D
  have aX:fn.name≠ "runtime.NumGoroutine" :=by simpa using Z
  simp[callFunc,z,aw,aX]
theorem aCk{as:Array TypeId}{t:TypeId}{fq:Addr}{x y:String}:Builtin.ssaWrapNilChk_ as t #[.pointer (some fq),strVal x,strVal y]=pure (.pointer (some fq)):=rfl
theorem aCi{name:String}{t f n:Nat}{ep:Bool}{fq:Addr}{b1:List Value}(h:ED P name t=some (t,f,some (ep,n))/\t<P.types.size)
    (z:ep=true\/n=1) (aG:b1.length=n) (aB: ∀(j:Nat) aJ,b1[j]?=some aJ->w.cell? (fq.add j)=some aJ):
    (method (P.types.size+Made.depth) t (.pointer (some fq)) name).run P w= .ok (f,if ep then .agg b1.toArray else b1.headD undef) w:=by
  obtain⟨h,cM⟩:=h;unfold ED at h
  (repeat' split at h)<;>cases h
  rename_i Vn _ mt Jw aq _ _ _ eF bk _ _ BC w0 ak;obtain⟨n,uF⟩: ∃n,P.types.size+Made.depth=n+1:=⟨P.types.size+Made.depth-1,by omega⟩;have afk:mt.path.toList=[]:=by simpa using aq
  have kt:=aa8 (P:=P) (w:=w) w0 ak z aG aB;have aum:mt.path= #[]:=by simpa using aq
  rw[uF];simp[method,typeInfo,Vn,Jw,follow,BC,receiverAt,underlying,bk,Place.get,aum,aCk,asAddr,kt]
theorem amT{name:String}{t f:Nat}{v amo:Value}{args:Array Value}(aK:(method (P.types.size+Made.depth) t v name).run P w= .ok (f,amo) w)(aI:H8 P f):
    (invoke (.fn (.method name) #[]) (#[.iface t v]++args)).run P w= .ok (.enter f (#[amo]++args)) w:=by
  have bB:(#[Value.iface t v]++args)[0]?=some (.iface t v):=by rw[Array.getElem?_append_left (by simp)];rfl
  have z:(#[Value.iface t v]++args).extract 1 (#[Value.iface t v]++args).size=args:=by simp
  simp only[invoke,bB,z,callMethod,Sem.run_bind,run_program,Result.andThen_ok,aK,aa6 aI]
def ud(P:Program)(bu:Nat)(df:Callee):Prop:= ∀f args m r N,df f args m=some (r,N)->H8 P f/\m.next<=N.next/\(∀b,b<m.next->m.M b=none->N.M b=none)/\
  (∀id x,id<m.next->m.M id=none->df f args (m.au id x)=some (r,N.au id x))/\
  ∀ ax w (rJ:Array Value),dy ax args rJ.toList->fc bu ax m w->bu<=w.heap.size->
    Calls P f rJ w λe e1=> ∃v en,e= .returned v/\im ax en/\(∀b,b<m.next->en b=ax b)/\eE en r v/\fc bu en N e1/\Below bu w e1
theorem aqW{k:av}(W:Bb P o=some k)(J:jf ax ek u a)(aK:fc bu ax m w){f:Nat}{args:List Value}(hG:k.gE u m=some (f,args))(aI:H8 P f):
    ∃rJ:Array Value,(execOp a.eval o).run P w= .ok (.enter f rJ) w/\dy ax args rJ.toList:=by
  unfold Bb at W;split at W
  case h_27 c b7=>
    unfold Nd at W;split at W
    · -- a method fJ acB interface value
      rename_i t name eb;split at W<;>cases W;rename_i nU;simp only[av.gE]at hG;have aF:=J.ab (x:= .tmp t) rfl;split at hG
      · rename_i tY v X;rw[X]at aF;obtain⟨bW,aM,e6⟩:=aF.OO;split at hG
        · rename_i cq g Jv;simp only[Option.some.injEq,Prod.mk.injEq]at hG;obtain⟨rfl,rfl⟩:=hG;have VT:cq=tY:=(by have:=List.find?_some Jv;simpa using this);subst VT;refine⟨#[bW]++c.args.map a.eval,?_,by simpa using dy.cons e6 (Hj J _ nU)⟩;have Vy:=aCh (w:=w) (v:=bW) (ak4 (List.mem_of_find?_eq_some Jv));simp only[execOp,b7,resolve,eb,Sem.run_bind,aM,Sem.run_pure,Result.andThen_ok];exact amT Vy aI
        · rename_i cq g ep n Jv;split at hG
          · rename_i aA;simp only[Option.some.injEq,Prod.mk.injEq]at hG;obtain⟨rfl,rfl⟩:=hG;have VT:cq=tY:=(by have:=List.find?_some Jv;simpa using this);subst VT;simp only[Bool.and_eq_true,Bool.or_eq_true,decide_eq_true_eq]at aA;obtain⟨fq,b1,z,D,Z,aw⟩:=ZV aK e6 aA.1 aA.2;refine⟨#[if ep then .agg b1.toArray else b1.headD undef]++c.args.map a.eval,?_,by simpa using dy.cons aw (Hj J _ nU)⟩;have Vy:=aCi (w:=w) (ak4 (List.mem_of_find?_eq_some Jv)) aA.2 D Z;simp only[execOp,b7,resolve,eb,Sem.run_bind,aM,Sem.run_pure,Result.andThen_ok,z];exact amT Vy aI
          · cases hG
        · cases hG
      · cases hG
    · -- a aLC asn
      rename_i g eb;split at W
      · rename_i fn BC;split at W<;>cases W;rename_i nU;simp only[Bool.and_eq_true]at nU;simp only[av.gE,Option.some.injEq,Prod.mk.injEq]at hG;obtain⟨rfl,rfl⟩:=hG;refine⟨c.args.map a.eval,?_,by simpa using Hj J _ nU.2⟩;have z:a.eval (.func g)= .func (.func g) #[] #[]:=rfl;simp only[execOp,b7,resolve,eb,Sem.run_bind,z,Deferred.ofValue,Sem.run_pure,Result.andThen_ok,invoke];rw[aa6 aI];simp
      · cases W
    · -- a asn value
      rename_i t eb;split at W<;>cases W;rename_i nU;simp only[av.gE]at hG;have aF:=J.ab (x:= .tmp t) rfl;split at hG
      · rename_i g first lT X
        simp only[Option.some.injEq,Prod.mk.injEq]at hG;obtain⟨rfl,rfl⟩:=hG;rw[X]at aF;obtain⟨ys,b1,z,D,Z⟩:=aF.Gi;refine⟨ys++c.args.map a.eval++b1,?_,by simpa using(D.th (Hj J _ nU)).th Z⟩;simp only[execOp,b7,resolve,eb,Sem.run_bind,z,Deferred.ofValue,Sem.run_pure,Result.andThen_ok,invoke];rw[aa6 aI]
      · cases hG
    all_goals((repeat' split at W)<;>cases W<;>simp[av.gE]at hG)
  all_goals((repeat' split at W)<;>cases W<;>simp[av.gE]at hG)
end
section
variable {P:Program} {w:World} {o:Oper} {a:Act} {ax:fE} {ek:Nat} {u:aL} {m:B} {bu:Nat} {ops:Array Oper} {df:Callee} {base:Nat}
def CV(P:Program)(ops:Array Oper)(ek:Nat)(dO:b6)(o:Oper):Prop:=
  ops[dO.bc]?=some o/\Bb P o=some dO.k/\Nf ops o=some dO.g/\o.dst=dO.d/\dO.d.all (λd=>decide (d<ek))=true
theorem aDT{g:Option (Nat×Bool)}(aj:Nf ops o=some g)(J:jf ax ek u a):Region.wanted o (yielded ops a.tmps)=fN u g:=by
  unfold Nf at aj;split at aj
  · rename_i h;cases aj;simp[Region.wanted,h,fN]
  · rename_i j b h;split at aj
    · rename_i t bH;cases aj;have aF:=J.u3 t;simp only[Region.wanted,h,fN,yielded,bH,Option.bind_some];rw[Array.getD_eq_getD_getElem?]at aF;cases X:a.tmps[t]? with
      | none=>
        rw[X]at aF;simp only[Option.getD_none]at aF;cases bk:u t<;>try rfl
        rw[bk]at aF;have:=aF.tJ;simp[undef]at this
      | some v=>
        rw[X]at aF;simp only[Option.getD_some]at aF;cases bk:u t
        case bool c=>rw[bk]at aF;rw[aF.tJ];simp
        all_goals
          rw[bk]at aF;cases v
          case bool c=>cases aF
          all_goals rfl
    · cases aj
theorem aaq{k:av}(h:k.ok u m=true):k.mu=false:=by cases k<;>first|rfl|(simp[av.ok]at h)
theorem ank{dO:b6}{ag:aL}{N:B}(eb:ud P bu df)(aB:CV P ops ek dO o)(J:jf ax ek u a)(aK:fc bu ax m w)(ev:bu<=w.heap.size)(e4:dO.k.gF=true->base+dO.bc<m.next)(aF:dO.k.gF=true->ax (base+dO.bc)=none)
    (j0:jb df base dO u m=some (ag,N)) {aV:Act->World->Prop} {Q:Exit->Act->World->Prop}
    (lJ: ∀er e1 en,im ax en->(∀b,b<m.next->b≠base+dO.bc->en b=ax b)->jf en ek ag er->fc bu en N e1->Below bu w e1->aV er e1):wpOp P ops Q dO.bc aV a w:=by
  obtain⟨z,D,Z,aw,aX⟩:=aB;unfold wpOp;simp only[z];rw[aDT Z J];unfold jb at j0;by_cases aO:fN u dO.g=true
  · rw[if_pos aO]at j0⊢;refine .inl ?_;unfold Oper.wp;cases hG:dO.k.gE u m with
    | some mW=>
      obtain⟨f,args⟩:=mW;rw[hG]at j0;simp only at j0;cases aI:df f args m with
      |none=>rw[aI]at j0;cases j0
      | some H0=>obtain⟨v,b4⟩:=H0;rw[aI]at j0;simp only[Option.some.injEq,Prod.mk.injEq]at j0;obtain⟨rfl,rfl⟩:=j0;obtain⟨aC,a2,bS,_,fA⟩:=eb f args m v b4 aI;obtain⟨rJ,aM,a1⟩:=aqW (w:=w) D J aK hG aC;rw[aM,Oper.upon_enter];refine(fA ax w rJ a1 aK ev).mono λe e1 cE=> ?_;obtain⟨bW,en,rfl,bm,bU,cn,fa,fZ⟩:=cE;rw[aw];exact lJ _ _ en bm (λb L _=>bU b L) ((J.aD bm).au aX cn) fa fZ
    | none=>
      rw[hG]at j0;simp only at j0;split at j0
      · rename_i aA;simp only[Option.some.injEq,Prod.mk.injEq]at j0;obtain⟨rfl,rfl⟩:=j0;obtain⟨bW,e1,en,y,bm,bU,cn,fa,fZ⟩:=aAq D (aaq aA) J aK ev e4 aF aA;have W:=lJ (a.put dO.d bW) e1 en bm (λb _ L=>bU b L) ((J.aD bm).au aX cn) fa fZ;rcases y with y|⟨y,rfl⟩
        · rw[y,Oper.upon_value,aw];exact W
        · rw[y,Oper.upon_skip,aw];exact W
      · cases j0
  · rw[if_neg aO]at j0⊢;simp only[Option.some.injEq,Prod.mk.injEq]at j0;obtain⟨rfl,rfl⟩:=j0;rw[aw];exact lJ _ _ ax (im.refl ax) (λ_ _ _=>rfl) (J.au aX (eE.undef ax)) aK (Below.refl _ _)
theorem Mu{dO:b6}{ag:aL}{N:B}(eb:ud P bu df)(j0:jb df base dO u m=some (ag,N)):m.next<=N.next:=by
  unfold jb at j0;split at j0
  · split at j0
    · split at j0
      · rename_i aI;cases j0;exact(eb _ _ _ _ _ aI).2.1
      · cases j0
    · split at j0
      · cases j0;cases dO.k<;>simp only[av.kk]<;>try exact Nat.le_refl _
        · unfold qR;split<;>try exact Nat.le_refl _
          split<;>exact Nat.le_refl _
        · split
          · exact Nat.le_refl _
          · unfold n0;split<;>exact Nat.le_refl _
      · cases j0
  · cases j0;exact Nat.le_refl _
theorem UL{b cQ:Nat}{x:Option fO}(h:m.M b=none)(dq:b≠cQ):(m.au cQ x).M b=none:=by rw[B.pH,if_neg dq];exact h
theorem aes{b cQ:Nat}{bg:List (Value×Value)}(h:m.M b=none)(dq:b≠cQ):(m.hq cQ bg).M b=none:=by unfold B.M B.hq at*;simp only[if_neg dq];exact h
theorem abP{dO:b6}{ag:aL}{N:B}(eb:ud P bu df)(j0:jb df base dO u m=some (ag,N)){b:Nat}(L:b<m.next)(dq:b≠base+dO.bc)(aj:m.M b=none):N.M b=none:=by
  unfold jb at j0;split at j0
  · split at j0
    · split at j0
      · rename_i aI;cases j0;exact(eb _ _ _ _ _ aI).2.2.1 b L aj
      · cases j0
    · split at j0
      · rename_i aA;cases j0;cases W:dO.k<;>simp only[av.kk]<;>try exact aj
        all_goals try exact UL aj dq
        all_goals try exact aes aj dq
        · unfold qR;split
          · rename_i fq;split
            · rename_i x H;exact UL aj (λe=>by rw[e,H]at aj;cases aj)
            · exact aj
          · exact aj
        · split
          · exact aj
          · refine UL ?_ dq;unfold n0;split
            · rw[B.pH];split
              · split<;>rfl
              · exact aj
            · exact aj
        · rename_i bx x k v;rw[W]at aA;simp only[av.ok]at aA;cases bk:ab u x<;>simp only[bk]at aA<;>try cases aA
          rename_i p;cases p with
          |none=>simp at aA
          | some dJ=>
            simp only at aA;cases aeR:m.c6 dJ with
            |none=>simp[aeR]at aA
            | some bg=>have ml:=(B.Bm aeR).1;exact aes aj (λe=>by have eW:b=dJ:=e;rw[eW,ml]at aj;cases aj)
      · cases j0
  · cases j0;exact aj
theorem tW{dO:b6}{br:List b6}{s:aL×B}(h:mN df base (dO::br) u m=some s): ∃c7 bz,jb df base dO u m=some (c7,bz)/\q1 dO u m bz/\mN df base br c7 bz=some s:=by
  unfold mN at h;split at h
  · rename_i c7 bz z;split at h
    · rename_i jZ;exact⟨c7,bz,z,jZ,h⟩
    · cases h
  · cases h
theorem AK{dO:b6}{br:List b6}{s:aL×B}{c7:aL}{bz:B}(z:jb df base dO u m=some (c7,bz))(D:q1 dO u m bz)(Z:mN df base br c7 bz=some s):mN df base (dO::br) u m=some s:=by unfold mN;rw[z];simp only[if_pos D,Z]
theorem amO(eb:ud P bu df): ∀(br:List b6) (u:aL) (m:B) (s:aL×B),mN df base br u m=some s->m.next<=s.2.next
  |[],u,m,s,h=>by simp[mN]at h;subst h;exact Nat.le_refl _
  | dO::br,u,m,s,h=>by obtain⟨c7,bz,z,_,Z⟩:=tW h;exact Nat.le_trans (Mu eb z) (amO eb br _ _ _ Z)
theorem amP(eb:ud P bu df){b:Nat}(L:b<base): ∀(br:List b6) (u:aL) (m:B) (s:aL×B),base<=m.next->mN df base br u m=some s->m.M b=none->s.2.M b=none
  |[],u,m,s,_,h,aj=>by simp[mN]at h;subst h;exact aj
  | dO::br,u,m,s,ak,h,aj=>by obtain⟨c7,bz,z,_,Z⟩:=tW h;exact amP eb L br _ _ _ (Nat.le_trans ak (Mu eb z)) Z (abP eb z (by omega) (by omega) aj)
theorem alY(eb:ud P bu df){Q:Exit->Act->World->Prop}: ∀(br:List b6) (u:aL) (m:B) (a:Act) (w:World) (ax:fE) (ag:aL) (N:B),
    (∀dO∈br,∃o,CV P ops ek dO o)->(br.map (·.bc)).Nodup->jf ax ek u a->fc bu ax m w->bu<=w.heap.size->(∀dO∈br,dO.k.gF=true->base+dO.bc<m.next/\ax (base+dO.bc)=none)->mN df base br u m=some (ag,N)->
    (∀er e1 en,im ax en->(∀b,b<base->b<m.next->en b=ax b)->jf en ek ag er->fc bu en N e1->Below bu w e1->Q .normal er e1)->wpOps P ops Q (br.map (·.bc)) a w
  | [],u,m,a,w,ax,ag,N,_,_,J,aK,_,_,h,bf=>by simp only[mN,Option.some.injEq,Prod.mk.injEq]at h;obtain⟨rfl,rfl⟩:=h;exact bf a w ax (im.refl ax) (λ_ _ _=>rfl) J aK (Below.refl _ _)
  | dO::br,u,m,a,w,ax,ag,N,zQ,lK,J,aK,ev,e4,h,bf=>by
    obtain⟨c7,bz,z,_,Z⟩:=tW h;obtain⟨o,an⟩:=zQ dO (by simp);simp only[List.map_cons,List.nodup_cons]at lK;rw[List.map_cons,wpOps_cons];have hY:=Mu eb z;refine ank eb an J aK ev (λh=>(e4 dO (by simp) h).1) (λh=>(e4 dO (by simp) h).2) z λer e1 en bm bU cn fa fZ=> ?_;refine alY eb br c7 bz er e1 en ag N (λi aa=>zQ i (by simp[aa])) lK.2 cn fa (Nat.le_trans ev fZ.size) (λi aa iE=> ?_) Z λbF fz td dK eO gk hN mK=> ?_
    · have:=e4 i (by simp[aa]) iE;refine⟨by omega,?_⟩;rw[bU _ this.1 (λe=>lK.1 (List.mem_map.2 ⟨i,aa,by omega⟩))];exact this.2
    · exact bf bF fz td (bm.trans dK) (λb L c5=>(eO b L (by omega)).trans (bU b c5 (by omega))) gk hN (fZ.trans mK)
end
def av.hU(k:av)(id:Nat)(u:aL)(m:B):List (Nat×Option fO):=
  match k with
  | .eR O=>[(id,some ⟨O,true⟩)]
  | .o7 x=>[(id,some ⟨al (ab u x),true⟩)]
  | .iT _ _ O dX=>[(id,some ⟨n3 O u dX,true⟩)]
  | .store _ x v=>match ab u x with
    | .pointer (some a)=>(match m.M a.block with|some b=>[(a.block,some ⟨kE b.cells a.off (al (ab u v)),b.own⟩)]|none=>[])
    |_=>[]
  | .rN x=>[(id,some ⟨Cj (ui (ab u x)),true⟩)]
  | .nk _ _ zero l _=>[(id,some ⟨(List.replicate (gd (ab u l)).toNat zero).flatten,true⟩)]
  | .app O _ x y=>if hA (ab u y)=0 then[]else(match ab u x with| .slice (some a) _ _=>[(a.block,none)]|_=>[])++[(id,some ⟨hO m O (ab u x)++hO m O (ab u y),true⟩)]
  |_=>[]
def j8(m:B)(l:List (Nat×Option fO)):B:=l.foldl (λm p=>m.au p.1 p.2) m
section
variable {P:Program} {u fb:aL} {m b4:B} {bu:Nat} {df:Callee} {base id:Nat} {k:av}
theorem alb(DK:k.yx=false):k.kk id u m=j8 m (k.hU id u m):=by
  cases k<;>simp only[av.yx,Bool.true_eq_false]at DK<;>simp only[av.kk,av.hU,j8,List.foldl_nil,List.foldl_cons]
  · rename_i n x v;generalize ab u x=aJ;cases aJ<;>try rfl
    rename_i p;cases p with
    |none=>rfl
    | some fq=>simp only[qR];cases m.M fq.block<;>rfl
  · rename_i O ti x y;split
    · rfl
    · generalize ab u x=aJ;cases aJ<;>try rfl
      rename_i p l c;cases p<;>rfl
theorem H4: ∀p∈k.hU id u m,(k.gF=true/\p.1=id/\ai (k.val id u m)=some id)\/ ∃x∈k.o2,ai (ab u x)=some p.1:=by
  intro p aq;cases k<;>simp only[av.hU,List.not_mem_nil,List.mem_singleton]at aq
  case eR=>subst aq;exact .inl ⟨rfl,rfl,rfl⟩
  case o7=>subst aq;exact .inl ⟨rfl,rfl,rfl⟩
  case iT=>subst aq;exact .inl ⟨rfl,rfl,rfl⟩
  case rN=>subst aq;exact .inl ⟨rfl,rfl,rfl⟩
  case nk=>subst aq;exact .inl ⟨rfl,rfl,rfl⟩
  case store n x v=>
    split at aq
    · rename_i fq h;split at aq
      · simp only[List.mem_singleton]at aq;subst aq;exact .inr ⟨x,by simp[av.o2],by simp[h,ai]⟩
      · cases aq
    · cases aq
  case app O ti x y=>
    split at aq
    · cases aq
    · rename_i ak;rcases List.mem_append.1 aq with h|h
      · split at h
        · rename_i fq l c H;simp only[List.mem_singleton]at h;subst h;exact .inr ⟨x,by simp[av.o2],by simp[H,ai]⟩
        · cases h
      · simp only[List.mem_singleton]at h;subst h;exact .inl ⟨rfl,rfl,by simp[av.val,ak,ai]⟩
theorem UJ: ∀(l:List (Nat×Option fO)) (m:B) (b:Nat),(∀p∈l,p.1≠b)->(j8 m l).M b=m.M b
  |[],_,_,_=>rfl
  | p::l,m,b,h=>by show(j8 (m.au p.1 p.2) l).M b=_;rw[UJ l _ b (λq bt=>h q (by simp[bt])),B.pH,if_neg (Ne.symm (h p (by simp)))]
theorem amd{a b:Nat}{x y:Option fO}(h:a≠b):(m.au a x).au b y=(m.au b y).au a x:=by
  unfold B.au;simp only[B.mk.injEq,true_and,and_true];funext i;by_cases z:i=b
  · subst z;simp[Ne.symm h]
  · simp[z]
theorem acF: ∀(l:List (Nat×Option fO)) (m:B) (b:Nat) (x:Option fO),(∀p∈l,p.1≠b)->j8 (m.au b x) l=(j8 m l).au b x
  |[],_,_,_,_=>rfl
  | p::l,m,b,x,h=>by show j8 ((m.au b x).au p.1 p.2) l=(j8 (m.au p.1 p.2) l).au b x;rw[amd (Ne.symm (h p (by simp))),acF l _ b x (λq bt=>h q (by simp[bt]))]
theorem acE: ∀(l r:List (Nat×Option fO)) (m:B),(∀p∈l,∀q∈r,p.1≠q.1)->j8 (j8 m l) r=j8 (j8 m r) l
  |[],_,_,_=>rfl
  | p::l,r,m,h=>by show j8 (j8 (m.au p.1 p.2) l) r=j8 ((j8 m r).au p.1 p.2) l;rw[acE l r _ (λeM xa=>h eM (by simp[xa])),acF r m p.1 p.2 (λq bt=>Ne.symm (h p (by simp) q bt))]
theorem T1{b:Nat}(h:m.M b=b4.M b)(off n:Nat):ka m b off n=ka b4 b off n:=by unfold ka;rw[h]
theorem Nr(DK:k.yx=false)(h: ∀x∈k.ma,∀b,ai (ab u x)=some b->m.M b=b4.M b):k.ok u m=k.ok u b4/\k.val id u m=k.val id u b4/\k.hU id u m=k.hU id u b4:=by
  cases k<;>simp only[av.yx,Bool.true_eq_false]at DK<;>try exact⟨rfl,rfl,rfl⟩
  case fj ep n x=>
    have z:=h x (by simp[av.ma]);cases X:ab u x<;>simp only[av.ok,av.val,av.hU,X,gZ,lq,and_self];rename_i p;cases p with
    |none=>simp
    | some fq=>have D:=z fq.block (by simp[X,ai]);simp only[D,T1 D,and_self]
  case sq O n x=>
    have z:=h x (by simp[av.ma]);cases X:ab u x<;>simp only[av.ok,av.val,av.hU,X,gZ,and_self];rename_i p;cases p with
    |none=>simp
    | some fq=>have D:=z fq.block (by simp[X,ai]);simp only[D,and_self]
  case store n x v=>
    have z:=h x (by simp[av.ma]);cases X:ab u x<;>simp only[av.ok,av.val,av.hU,X,gZ,rH,true_and,and_self];rename_i p;cases p with
    |none=>simp
    | some fq=>have D:=z fq.block (by simp[X,ai]);simp only[D,and_self]
  case qk x=>
    have z:=h x (by simp[av.ma]);cases X:ab u x<;>simp only[av.ok,av.val,av.hU,X,ik,hO,and_self];rename_i p l c;cases p with
    |none=>simp
    | some fq=>have D:=z fq.block (by simp[X,ai]);simp only[D,T1 D,and_self]
  case app O ti x y=>
    have z:=h x (by simp[av.ma]);have dQ:=h y (by simp[av.ma]);have s: ∀v:Value,(∀b,ai v=some b->m.M b=b4.M b)->ik m O v=ik b4 O v/\nK m v=nK b4 v/\hO m O v=hO b4 O v:=by
      intro v X;cases v<;>simp only[ik,nK,hO,and_self];rename_i p l c;cases p with
      |none=>simp
      | some fq=>have D:=X fq.block (by simp[ai]);simp only[D,T1 D,and_self]
    obtain⟨bn,bF,dp⟩:=s _ z;obtain⟨dt,_,xS⟩:=s _ dQ;simp only[av.ok,av.val,av.hU,bn,bF,dp,dt,xS,and_self]
theorem aAm(h:k.ok u m=true): ∀x∈k.ma++k.o2,∀b,ai (ab u x)=some b->(m.M b).isSome=true:=by
  have aE: ∀(v:Value) n,gZ m v n=true-> ∀b,ai v=some b->(m.M b).isSome=true:=by intro v n X b L;obtain⟨cQ,off,x,rfl,H,_⟩:=M5 X;simp only[ai,Option.some.injEq]at L;subst L;rw[H];rfl
  have J: ∀(v:Value) O,ik m O v=true-> ∀b,ai v=some b->(m.M b).isSome=true:=by
    intro v O X b L;rcases Mt X with rfl|⟨cQ,off,len,x,rfl,H,_⟩
    · simp[ai]at L
    · simp only[ai,Option.some.injEq]at L;subst L;rw[H];rfl
  intro x H b L;cases k<;>simp only[av.ma,av.o2,List.append_nil,List.not_mem_nil]at H
  case fj ep n y=>simp only[List.mem_singleton]at H;subst H;simp only[av.ok,Bool.and_eq_true]at h;exact aE _ _ h.1 b L
  case sq O n y=>simp only[List.mem_singleton]at H;subst H;simp only[av.ok,Bool.and_eq_true]at h;exact aE _ _ h.1 b L
  case store n y v=>simp at H;subst H;simp only[av.ok,Bool.and_eq_true]at h;exact aE _ _ h.1.1.1 b L
  case qk y=>simp only[List.mem_singleton]at H;subst H;simp only[av.ok,Bool.and_eq_true]at h;exact J _ _ h.1 b L
  case app O ti y v=>
    simp only[av.ok,Bool.and_eq_true]at h;simp at H;rcases H with rfl|rfl|rfl
    · exact J _ _ h.1.1.1.1.1 b L
    · exact J _ _ h.1.1.1.2 b L
    · exact J _ _ h.1.1.1.1.1 b L
theorem Bh{x:Operand}(h: ∀t,x= .tmp t->u t=fb t):ab u x=ab fb x:=by cases x<;>first|rfl|exact h _ rfl
theorem Sj: ∀(dX:List (Nat×Nat×Operand)) (cs:List Value),(∀p∈dX,ab u p.2.2=ab fb p.2.2)->sh cs u dX=sh cs fb dX/\n3 cs u dX=n3 cs fb dX
  |[],_,_=>⟨rfl,rfl⟩
  | (bm,bU,cn)::dX,cs,h=>by have bB:ab u cn=ab fb cn:=h (bm,bU,cn) (by simp);have z:=(Sj dX cs λp aq=>h p (by simp[aq])).1;have D:=(Sj dX (kE cs bm (al (ab fb cn))) λp aq=>h p (by simp[aq])).2;simp only[sh,List.all_cons,n3,bB]at z⊢;exact⟨by rw[z],D⟩
theorem L6{l:Option Operand}{d:Int}(h: ∀x∈l.toList,ab u x=ab fb x):p5 u l=p5 fb l/\hJ u l d=hJ fb l d:=by
  cases l with
  |none=>exact⟨rfl,rfl⟩
  |some x=>have:=h x (by simp);simp[p5,hJ,this]
theorem zw(h: ∀x∈k.iY,ab u x=ab fb x):k.ok u m=k.ok fb m/\k.val id u m=k.val id fb m/\k.hU id u m=k.hU id fb m/\k.gE u m=k.gE fb m:=by
  cases k<;>simp only[av.iY,List.mem_cons,List.not_mem_nil,or_false,forall_eq_or_imp,forall_eq,List.mem_append]at h
  case gT O dX=>obtain⟨z,D⟩:=Sj dX O λp aq=>h _ (List.mem_map.2 ⟨p,aq,rfl⟩);simp only[av.ok,av.val,av.hU,av.gE,z,D,and_self]
  case iT O n cs dX=>obtain⟨z,D⟩:=Sj dX cs λp aq=>h _ (List.mem_map.2 ⟨p,aq,rfl⟩);simp only[av.ok,av.val,av.hU,av.gE,z,D,and_self]
  case EZ x l r=>have z:= λd=>L6 (l:=l) (d:=d) λy ah=>h.2 y (.inl ah);have D:= λd=>L6 (l:=r) (d:=d) λy ah=>h.2 y (.inr ah);simp only[av.ok,av.val,av.hU,av.gE,h.1,(z 0).1,(D 0).1,λd=>(z d).2,λd=>(D d).2,and_self]
  case pv O x l r=>have z:= λd=>L6 (l:=l) (d:=d) λy ah=>h.2 y (.inl ah);have D:= λd=>L6 (l:=r) (d:=d) λy ah=>h.2 y (.inr ah);simp only[av.ok,av.val,av.hU,av.gE,h.1,(z 0).1,(D 0).1,λd=>(z d).2,λd=>(D d).2,and_self]
  case wq O x l r fC=>have z:= λd=>L6 (l:=l) (d:=d) λy ah=>h.2.2.2 y ah;simp only[av.ok,av.val,av.hU,av.gE,h.1,h.2.1,h.2.2.1,(z 0).1,λd=>(z d).2,and_self]
  case xy fC x xs=>
    have z: ∀(l:List Operand),(∀y∈l,ab u y=ab fb y)->(l.all λy=>fU (ab u y))=(l.all λy=>fU (ab fb y))/\
        ∀ef,l.foldl (λef y=>if fC then qL ef (ab u y)else qM ef (ab u y)) ef=l.foldl (λef y=>if fC then qL ef (ab fb y)else qM ef (ab fb y)) ef:=by
      intro l;induction l with
      |nil=>intro _;exact⟨rfl,λ_=>rfl⟩
      | cons y l cb=>intro aG;obtain⟨aC,a2⟩:=cb λO bY=>aG O (by simp[bY]);have:=aG y (by simp);exact⟨by simp only[List.all_cons,this,aC],λef=>by simp only[List.foldl_cons,this,a2]⟩
    obtain⟨aC,a2⟩:=z xs h.2;simp only[av.ok,av.val,av.hU,av.gE,h.1,aC,a2,and_self]
  case tP fn xs ys=>have z:xs.map (ab u)=xs.map (ab fb):=List.map_congr_left λy ah=>h y (.inl ah);have D:ys.map (ab u)=ys.map (ab fb):=List.map_congr_left λy ah=>h y (.inr ah);simp only[av.ok,av.val,av.hU,av.gE,z,D,and_self]
  case eI f as=>have z:as.map (ab u)=as.map (ab fb):=List.map_congr_left h;simp only[av.ok,av.val,av.hU,av.gE,z,and_self]
  case lZ x as=>have z:as.map (ab u)=as.map (ab fb):=List.map_congr_left h.2;simp only[av.ok,av.val,av.hU,av.gE,z,h.1,and_self]
  case qB bR x as=>have z:as.map (ab u)=as.map (ab fb):=List.map_congr_left h.2;simp only[av.ok,av.val,av.hU,av.gE,z,h.1,and_self]
  all_goals simp only[av.ok,av.val,av.hU,av.gE,h,and_self]
end
end Go.DI
namespace Go.DI
open Go Go.RowKit
namespace Tx
theorem ays{u:aL}{m:B}{k:av}(h:k.mu=false):k.gE u m=none:=by cases k<;>first|rfl|(simp[av.mu]at h)
theorem ayy{f:aL->B->Option (dr×aL×B)}{j:Nat}{u:aL}{m:B}{r:dr×aL×B}(h:lL f (j+1) u m=some r):
    (∃c7 bz,f u m=some (.gv,c7,bz)/\lL f j c7 bz=some r)\/(f u m=some r/\r.1≠ .gv):=by
  simp only[lL]at h;split at h
  · rename_i c7 bz z;exact .inl ⟨c7,bz,z,h⟩
  · rename_i dq;refine .inr ⟨h,λD=> ?_⟩;obtain⟨e6,fw,iZ⟩:=r;cases D;exact dq _ _ h
structure gC(id:Nat)(x:Option fO)(m bN:B):Prop where
  eq:bN=m.au id x
  cW:id<m.next
  ow:m.M id=none
section
variable {id:Nat} {x:Option fO} {m bN:B}
theorem gC.next(Y:gC id x m bN):bN.next=m.next:=by rw[Y.eq];rfl
theorem gC.mp(Y:gC id x m bN):bN.mp=m.mp:=by rw[Y.eq];rfl
theorem gC.iX(Y:gC id x m bN){b:Nat}{y:fO}(h:m.M b=some y):b≠id:= λaR=>by subst aR;rw[Y.ow]at h;cases h
theorem gC.UK(Y:gC id x m bN){b:Nat}(h:b≠id):bN.M b=m.M b:=by rw[Y.eq,B.pH,if_neg h]
theorem gC.M(Y:gC id x m bN){b:Nat}{y:fO}(h:m.M b=some y):bN.M b=some y:=by rw[Y.UK (Y.iX h),h]
theorem gC.c6(Y:gC id x m bN){b:Nat}{e:List (Value×Value)}(h:m.c6 b=some e):bN.c6 b=some e:=by
  unfold B.c6 at h⊢;cases aj:m.M b with
  |none=>rw[aj]at h;cases h
  |some y=>rw[aj]at h;rw[Y.M aj,Y.mp];exact h
theorem gC.UI(Y:gC id x m bN){b:Nat}{e:List (Value×Value)}(h:m.c6 b=some e):b≠id:=by
  unfold B.c6 at h;cases aj:m.M b with
  |none=>rw[aj]at h;cases h
  |some y=>exact Y.iX aj
theorem gC.au(Y:gC id x m bN){b:Nat}(L:b≠id)(y:Option fO):gC id x (m.au b y) (bN.au b y) where
  eq:=by rw[Y.eq];exact amd (by omega)
  cW:=Y.cW
  ow:=by rw[B.pH,if_neg (by omega)];exact Y.ow
theorem gC.hq(Y:gC id x m bN){b:Nat}(L:b≠id)(e:List (Value×Value)):gC id x (m.hq b e) (bN.hq b e) where
  eq:=by
    rw[Y.eq];simp only[B.hq,B.au,B.mk.injEq,true_and,and_true];funext i;by_cases z:i=b
    · subst z;simp[L]
    · simp[z]
  cW:=Y.cW
  ow:=by have:=Y.ow;simp only[B.M,B.hq,show¬id=b by omega,if_false]at this⊢;exact this
theorem gC.bs(Y:gC id x m bN)(k:Nat):gC id x (m.bs k) (bN.bs k) where
  eq:=by
    rw[Y.eq];simp only[B.bs,B.au,B.mk.injEq,true_and,and_true];funext i;by_cases z:i=id
    · subst z;simp[Y.cW]
    · simp[z]
  cW:=by have:=Y.cW;show id<m.next+k;omega
  ow:=by rw[B.gr];exact Y.ow
theorem gC.gZ(Y:gC id x m bN){v:Value}{n:Nat}(h:gZ m v n=true):gZ bN v n=true:=by
  unfold DI.gZ at h⊢;split at h
  · rename_i a;simp only[Bool.and_eq_true]at h⊢;refine⟨h.1,?_⟩;cases aj:m.M a.block with
    |none=>rw[aj]at h;simp at h
    |some x=>rw[aj]at h;rw[Y.M aj];exact h.2
  · cases h
theorem gC.rH(Y:gC id x m bN){v:Value}(h:rH m v=true):rH bN v=true:=by
  unfold DI.rH at h⊢;split at h
  · rename_i a;cases aj:m.M a.block with
    |none=>rw[aj]at h;cases h
    |some x=>rw[aj]at h;rw[Y.M aj];exact h
  · cases h
theorem gC.lq(Y:gC id x m bN){v:Value}{n:Nat}{ep:Bool}(h:DI.gZ m v n=true):lq bN ep n v=lq m ep n v:=by
  unfold DI.gZ at h;split at h
  · rename_i a;simp only[Bool.and_eq_true]at h;cases aj:m.M a.block with
    |none=>rw[aj]at h;simp at h
    |some x=>simp only[DI.lq,ka,aj,Y.M aj]
  · cases h
theorem gC.qR(Y:gC id x m bN){v:Value}{n:Nat}{cs:List Value}(h:DI.gZ m v n=true):gC id x (qR m v cs) (qR bN v cs):=by
  unfold DI.gZ at h;split at h
  · rename_i a;simp only[Bool.and_eq_true]at h;cases aj:m.M a.block with
    |none=>rw[aj]at h;simp at h
    |some x=>simp only[DI.qR,aj,Y.M aj];exact Y.au (Y.iX aj) _
  · cases h
theorem gC.ik(Y:gC id x m bN){v:Value}{O:Nat}(h:ik m O v=true):ik bN O v=true:=by
  unfold DI.ik at h⊢;split at h
  · exact h
  · rename_i a l c;simp only[Bool.and_eq_true]at h⊢;refine⟨h.1,?_⟩;cases aj:m.M a.block with
    |none=>rw[aj]at h;simp at h
    |some x=>rw[aj]at h;rw[Y.M aj];exact h.2
  · cases h
theorem gC.nK(Y:gC id x m bN){v:Value}(h:nK m v=true):nK bN v=true:=by
  unfold DI.nK at h⊢;split at h
  · rfl
  · rename_i a l c;cases aj:m.M a.block with
    |none=>rw[aj]at h;cases h
    |some x=>rw[aj]at h;rw[Y.M aj];exact h
  · cases h
theorem gC.hO(Y:gC id x m bN){v:Value}{O:Nat}(h:DI.ik m O v=true):hO bN O v=hO m O v:=by
  unfold DI.ik at h;split at h
  · rfl
  · rename_i a l c;simp only[Bool.and_eq_true]at h;cases aj:m.M a.block with
    |none=>rw[aj]at h;simp at h
    |some x=>simp only[DI.hO,ka,aj,Y.M aj]
  · cases h
theorem gC.n0(Y:gC id x m bN){v:Value}{O:Nat}(h:DI.ik m O v=true):gC id x (n0 m v) (n0 bN v):=by
  unfold DI.ik at h;split at h
  · exact Y
  · rename_i a l c;simp only[Bool.and_eq_true]at h;cases aj:m.M a.block with
    |none=>rw[aj]at h;simp at h
    |some x=>exact Y.au (Y.iX aj) _
  · cases h
theorem gC.mv(Y:gC id x m bN){v:Value}{bg:List (Value×Value)}(h:mv m v=some bg):mv bN v=some bg:=by
  unfold DI.mv at h⊢;split at h
  · exact h
  · exact Y.c6 h
  · cases h
theorem aap(Y:gC id x m bN){k:av}{u:aL}(h:k.ok u m=true):k.ok u bN=true:=by
  cases k with
  |sq O n y=>simp only[av.ok,Bool.and_eq_true]at h⊢;exact⟨Y.gZ h.1,h.2⟩
  |fj ep n y=>simp only[av.ok,Bool.and_eq_true]at h⊢;exact⟨Y.gZ h.1,h.2⟩
  |store n x v=>simp only[av.ok,Bool.and_eq_true]at h⊢;exact⟨⟨⟨Y.gZ h.1.1.1,Y.rH h.1.1.2⟩,h.1.2⟩,h.2⟩
  |qk x=>simp only[av.ok,Bool.and_eq_true]at h⊢;exact⟨Y.ik h.1,by rw[Y.hO h.1];exact h.2⟩
  |app O bytes x y=>simp only[av.ok,Bool.and_eq_true]at h⊢;exact⟨⟨⟨⟨⟨Y.ik h.1.1.1.1.1,Y.nK h.1.1.1.1.2⟩,Y.ik h.1.1.1.2⟩,h.1.1.2⟩,h.1.2⟩,h.2⟩
  | pY bx O o x gu=>
    simp only[av.ok]at h⊢;cases aK:DI.mv m (ab u x)with
    |none=>rw[aK]at h;cases h
    |some bg=>rw[aK]at h;rw[Y.mv aK];exact h
  | pl bx x gu v=>
    simp only[av.ok]at h⊢;split at h
    · rename_i cl b L;cases aK:m.c6 b with
      |none=>rw[aK]at h;cases h
      |some bg=>rw[aK]at h;rw[Y.c6 aK];exact h
    · cases h
  |_=>exact h
theorem ab9(Y:gC id x m bN){k:av}{u:aL}{Hs:Nat}(h:k.ok u m=true):k.val Hs u bN=k.val Hs u m:=by
  cases k with
  |fj ep n y=>simp only[av.ok,Bool.and_eq_true]at h;exact Y.lq h.1
  |qk x=>simp only[av.ok,Bool.and_eq_true]at h;simp only[av.val,Y.hO h.1]
  | pY bx O o x gu=>
    simp only[av.ok]at h;cases aK:DI.mv m (ab u x)with
    |none=>rw[aK]at h;cases h
    |some bg=>simp only[av.val,aK,Y.mv aK]
  |_=>rfl
theorem Z3(Y:gC id x m bN){k:av}{u:aL}{Hs:Nat}(e4:Hs≠id)(h:k.ok u m=true):gC id x (k.kk Hs u m) (k.kk Hs u bN):=by
  cases k with
  |eR O=>exact Y.au e4 _
  |o7 x=>exact Y.au e4 _
  |iT a b c d=>exact Y.au e4 _
  |rN x=>exact Y.au e4 _
  |nk a b c d e=>exact Y.au e4 _
  |store n x v=>simp only[av.ok,Bool.and_eq_true]at h;exact Y.qR h.1.1.1
  | app O bytes x y=>
    simp only[av.ok,Bool.and_eq_true]at h;simp only[av.kk];split
    · exact Y
    · rw[Y.hO h.1.1.1.1.1,Y.hO h.1.1.1.2];exact(Y.n0 h.1.1.1.1.1).au e4 _
  |oS=>exact Y.hq e4 _
  | pl bx x gu v=>
    simp only[av.ok]at h;split at h
    · rename_i cl b L;cases aK:m.c6 b with
      |none=>rw[aK]at h;cases h
      |some bg=>simp only[av.kk,L,Cd,aK,Y.c6 aK];exact Y.hq (Y.UI aK) _
    · cases h
  |_=>exact Y
theorem Nh(Y:gC id x m bN){k:av}{u:aL}{mW:Nat×List Value}(h:k.gE u m=some mW):k.gE u bN=some mW:=by
  cases k with
  | qB bR x args=>
    simp only[av.gE]at h⊢;split at h
    · split at h
      · exact h
      · split at h
        · rename_i aB;simp only[Bool.and_eq_true]at aB;rw[if_pos (by simp only[Bool.and_eq_true];exact⟨Y.gZ aB.1,aB.2⟩),Y.lq aB.1];exact h
        · cases h
      · cases h
    · cases h
  |_=>exact h
theorem TW{m bN:B}{k:av}{u:aL}(h:k.gE u m=none)(aA:k.ok u m=true):k.gE u bN=none:=by
  refine ays ?_;cases k with
  |eI f a=>simp[av.ok]at aA
  |lZ f a=>simp[av.ok]at aA
  |qB f a b=>simp[av.ok]at aA
  |_=>rfl
def MU(id:Nat)(x:Option fO)(df:Callee):Prop:= ∀f a m r N,df f a m=some (r,N)-> ∀bN,gC id x m bN-> ∃h1,df f a bN=some (r,h1)/\gC id x N h1
theorem ZJ{N h1:B}(Y:gC id x m bN)(ee:gC id x N h1){u:aL}{bx:List (Operand×Operand)}(h:xt u bx m N):xt u bx bN h1:= λp aq b L=>by
  by_cases aR:b=id
  · subst aR;rw[Y.eq,ee.eq,B.pH,B.pH,if_pos rfl,if_pos rfl,if_pos Y.cW,if_pos ee.cW]
  · rw[Y.UK aR,ee.UK aR];exact h p aq b L
theorem abQ{df:Callee}(eb:MU id x df)(Y:gC id x m bN){base:Nat}(L:id<base){o:b6}{u ag:aL}{N:B}(h:jb df base o u m=some (ag,N))(W:q1 o u m N):
    ∃h1,jb df base o u bN=some (ag,h1)/\gC id x N h1/\q1 o u bN h1:=by
  unfold jb at h⊢;unfold q1 at W⊢;by_cases aO:fN u o.g=true
  · rw[if_pos aO]at h⊢
    replace W:=W aO
    cases aB:o.k.gE u m with
    | none=>
      rw[aB]at h W;simp only at h W;split at h
      · rename_i aA;cases h;simp only[TW aB aA];rw[if_pos (aap Y aA),ab9 Y aA];exact⟨_,rfl,Z3 Y (by omega) aA,λ_=>W⟩
      · cases h
    | some mW=>
      obtain⟨f,args⟩:=mW;rw[aB]at h W;simp only at h W;cases aI:df f args m with
      |none=>rw[aI]at h;cases h
      | some H0=>obtain⟨v,bz⟩:=H0;rw[aI]at h;cases h;obtain⟨h1,z,ee⟩:=eb _ _ _ _ _ aI bN Y;simp only[Nh Y aB,z];exact⟨_,rfl,ee,λ_=>ZJ Y ee W⟩
  · rw[if_neg aO]at h⊢;cases h;exact⟨bN,rfl,Y,λh=>absurd h aO⟩
theorem L3{df:Callee}(eb:MU id x df){base:Nat}(L:id<base): ∀{br:List b6} {u ag:aL} {m N bN:B},gC id x m bN->mN df base br u m=some (ag,N)-> ∃h1,mN df base br u bN=some (ag,h1)/\gC id x N h1
  |[],_,_,_,_,bN,Y,h=>by cases h;exact⟨bN,rfl,Y⟩
  | _::_,_,_,_,_,bN,Y,h=>by obtain⟨c7,bz,z,D,Z⟩:=tW h;obtain⟨my,aC,ft,a2⟩:=abQ eb Y L z D;obtain⟨wF,bS,me⟩:=L3 eb L ft Z;exact⟨wF,AK aC a2 bS,me⟩
theorem Ly{f:aL->B->Option (dr×aL×B)}(aI: ∀u m e ag N,f u m=some (e,ag,N)-> ∀bN,gC id x m bN-> ∃h1,f u bN=some (e,ag,h1)/\gC id x N h1):
    ∀{n:Nat} {u:aL} {m:B} {e:dr} {ag:aL} {N bN:B},lL f n u m=some (e,ag,N)->gC id x m bN-> ∃h1,lL f n u bN=some (e,ag,h1)/\gC id x N h1
  |0,_,_,_,_,_,_,h,_=>by simp[lL]at h
  | n+1,u,m,e,ag,N,bN,h,Y=>by
    rcases ayy h with⟨c7,bz,z,D⟩|⟨z,D⟩
    · obtain⟨my,aC,ft⟩:=aI _ _ _ _ _ z bN Y;obtain⟨wF,a2,me⟩:=Ly aI D ft;exact⟨wF,by simp only[lL,aC];exact a2,me⟩
    · obtain⟨my,aC,ft⟩:=aI _ _ _ _ _ z bN Y;refine⟨my,?_,ft⟩;simp only[lL,aC];cases e with
      |gv=>exact absurd rfl D
      |bI id=>rfl
      |a7=>rfl
theorem pF{df:Callee}(eb:MU id x df){n:Nat}: ∀{c:U} {u ag:aL} {m N bN:B} {e:dr},fK df n c u m=some (e,ag,N)->gC id x m bN-> ∃h1,fK df n c u bN=some (e,ag,h1)/\gC id x N h1
  | .skip,_,_,_,_,bN,_,h,Y=>by cases h;exact⟨bN,rfl,Y⟩
  | .I ops,u,ag,m,N,bN,e,h,Y=>by
    simp only[fK]at h⊢;split at h
    · rename_i c7 bz aF;cases h;have ee:gC id x (k2 ops m) (k2 ops bN):=by
        unfold k2;split
        · exact Y.bs _
        · exact Y
      obtain⟨h1,g,me⟩:=L3 eb (base:=m.next) Y.cW ee aF;refine⟨h1,?_,me⟩;rw[Y.next,g]
    · cases h
  | .E a b,u,ag,m,N,bN,e,h,Y=>by
    simp only[fK]at h⊢;split at h
    · rename_i c7 bz z;obtain⟨my,aC,ft⟩:=pF eb z Y;obtain⟨wF,a2,me⟩:=pF eb h ft;exact⟨wF,by rw[aC];exact a2,me⟩
    · rename_i dq;obtain⟨my,aC,ft⟩:=pF eb h Y;refine⟨my,?_,ft⟩;rw[aC];cases e with
      |gv=>exact absurd h (dq _ _)
      |bI id=>rfl
      |a7=>rfl
  | .bj x a b,u,ag,m,N,bN,e,h,Y=>by
    simp only[fK]at h⊢;split at h
    · rename_i z;rw[if_pos z];split at h
      · rename_i D;rw[if_pos D];exact pF eb h Y
      · rename_i D;rw[if_neg D];exact pF eb h Y
    · cases h
  | .block id c,u,ag,m,N,bN,e,h,Y=>by
    simp only[fK]at h⊢;split at h
    · rename_i z;obtain⟨my,aC,ft⟩:=pF eb z Y;rw[aC];simp only;split at h
      · rename_i e4;cases h;exact⟨my,by rw[if_pos e4],ft⟩
      · rename_i e4;cases h;exact⟨my,by rw[if_neg e4],ft⟩
    · rename_i dq;obtain⟨my,aC,ft⟩:=pF eb h Y;refine⟨my,?_,ft⟩;rw[aC];cases e with
      |gv=>rfl
      |bI id=>exact absurd h (dq _ _ _)
      |a7=>rfl
  | .loop c,u,ag,m,N,bN,e,h,Y=>by simp only[fK]at h⊢;exact Ly (f:=fK df n c) (λu m e ag N z bN Y=>pF eb z Y) h Y
  | .bI id,_,_,_,_,bN,_,h,Y=>by cases h;exact⟨bN,rfl,Y⟩
  | .a7,_,_,_,_,bN,_,h,Y=>by cases h;exact⟨bN,rfl,Y⟩
theorem ER(Y:gC id x m bN){u:aL}{r:nw}(h:sk m u r=true):sk bN u r=true/\s6 bN u r=s6 m u r:=by
  cases r with
  |bA t=>exact⟨rfl,rfl⟩
  | h7 t ep n=>simp only[sk,Bool.and_eq_true]at h⊢;exact⟨⟨Y.gZ h.1,h.2⟩,Y.lq h.1⟩
theorem aaU(Y:gC id x m bN){u:aL}{bb:List nw}(h:nI m u bb=true):nI bN u bb=true/\n4 bN u bb=n4 m u bb:=by
  have aF: ∀r∈bb,sk m u r=true:=by simpa[nI]using h
  refine⟨by simp only[nI,List.all_eq_true];exact λr aK=>(ER Y (aF r aK)).1,?_⟩;unfold n4;split
  · exact(ER Y (aF _ (by simp))).2
  · rw[List.map_congr_left λr aK=>(ER Y (aF r aK)).2]
theorem Iw{P:Program}: ∀n,MU id x (lS P n)
  |0=> λf a m r N h=>by simp[lS]at h
  | n+1=> λf a m r N h bN Y=>by
    simp only[lS]at h⊢;split at h
    · rename_i K de;split at h
      · rename_i fG;rw[if_pos fG];split at h
        · cases h
        · rename_i e ag bz dq nC;obtain⟨my,aC,ft⟩:=pF (Iw n) nC Y;split at h
          · rename_i aF;cases h;obtain⟨a2,bS⟩:=aaU ft aF;rw[aC];refine⟨my,?_,ft⟩;cases e with
            |gv=>simp only[a2,bS,if_true]
            |a7=>simp only[a2,bS,if_true]
            |bI id=>exact absurd rfl (dq id)
          · cases h
        · cases h
      · cases h
    · cases h
end
end Tx
end Go.DI
namespace Go.DI
open Go Go.RowKit
section
variable {P:Program} {u fb:aL} {m b4:B} {bu:Nat} {df:Callee} {base:Nat}
theorem EF{l:List Nat}{d:Nat}(h:uZ l (some d)=true):d∉l:=by simpa[uZ]using h
theorem AG{d:Option Nat}{v:Value}{t:Nat}(h:d≠some t):dA u d v t=u t:=by
  cases d with
  |none=>rfl
  | some d=>have:t≠d:= λe=>h (by rw[e]);simp[dA,qc,this]
theorem Cp{d e:Option Nat}{aJ v:Value}(h: ∀x,d=some x->e≠some x):dA (dA u d aJ) e v=dA (dA u e v) d aJ:=by
  cases d with
  |none=>rfl
  | some d=>
    cases e with
    |none=>rfl
    | some e=>
      have dq:d≠e:= λx=>h d rfl (by rw[x]);funext t;simp only[dA,qc];by_cases z:t=e
      · subst z;simp[Ne.symm dq]
      · simp[z]
theorem Cz{l:List Operand}{x:Operand}{t:Nat}(H:x∈l)(bH:x= .tmp t):t∈HN l:=by subst bH;exact List.mem_filterMap.2 ⟨_,H,rfl⟩
theorem AJ{o:b6}{d:Option Nat}{v:Value}(h:uZ o.yV d=true): ∀x∈o.k.iY,ab (dA u d v) x=ab u x:=by intro x H;refine Bh λt bH=>AG λaR=> ?_;subst aR;exact EF h (List.mem_append_left _ (Cz H bH))
theorem u2{o:b6}{d:Option Nat}{v:Value}(h:uZ o.yV d=true):fN (dA u d v) o.g=fN u o.g:=by
  cases aj:o.g with
  |none=>rfl
  | some ME=>obtain⟨t,b⟩:=ME;simp only[fN];rw[AG λaR=> ?_];subst aR;exact EF h (List.mem_append_right _ (by simp[aj]))
theorem aaN{k:av}: ∀x∈k.ma++k.o2,x∈k.iY:=by
  intro x H;cases k<;>simp[av.ma,av.o2]at H<;>simp[av.iY,H]
  · rcases H with h|h|h<;>simp[h]
theorem abR{o:b6}(aO:fN u o.g=true)(aB:o.k.gE u m=none){s:aL×B}(h:jb df base o u m=some s):
    o.k.ok u m=true/\s=(dA u o.d (o.k.val (base+o.bc) u m),o.k.kk (base+o.bc) u m):=by
  unfold jb at h;rw[if_pos aO,aB]at h;simp only at h;split at h
  · rename_i aA;cases h;exact⟨aA,rfl⟩
  · cases h
theorem aC3{o:b6}(aO:fN u o.g=true)(aB:o.k.gE u m=none)(aA:o.k.ok u m=true):
    jb df base o u m=some (dA u o.d (o.k.val (base+o.bc) u m),o.k.kk (base+o.bc) u m):=by
  unfold jb;rw[if_pos aO,aB];simp only[aA,if_true]
theorem HQ{o:b6}(DK:o.k.yx=false)(aO:fN u o.g=true)(aB:o.k.gE u m=none){s:aL×B}(h:jb df base o u m=some s):
    o.k.ok u m=true/\s=(dA u o.d (o.k.val (base+o.bc) u m),j8 m (o.k.hU (base+o.bc) u m)):=by
  unfold jb at h;rw[if_pos aO,aB]at h;simp only at h;split at h
  · rename_i aA;cases h;exact⟨aA,by rw[<-alb DK]⟩
  · cases h
theorem HR{o:b6}(DK:o.k.yx=false)(aO:fN u o.g=true)(aB:o.k.gE u m=none)(aA:o.k.ok u m=true):
    jb df base o u m=some (dA u o.d (o.k.val (base+o.bc) u m),j8 m (o.k.hU (base+o.bc) u m)):=by
  unfold jb;rw[if_pos aO,aB];simp only[aA,if_true,alb DK]
theorem HP{o:b6}(aO:fN u o.g=true){f:Nat}{args:List Value}(aB:o.k.gE u m=some (f,args)){s:aL×B}(h:jb df base o u m=some s):
    ∃v N,df f args m=some (v,N)/\s=(dA u o.d v,N):=by
  unfold jb at h;rw[if_pos aO,aB]at h;simp only at h;split at h
  · rename_i v N aI;cases h;exact⟨v,N,aI,rfl⟩
  · cases h
theorem Mv{o:b6}(aO:fN u o.g=true){f:Nat}{args:List Value}(aB:o.k.gE u m=some (f,args)){v:Value}{N:B}(h:df f args m=some (v,N)):
    jb df base o u m=some (dA u o.d v,N):=by
  unfold jb;rw[if_pos aO,aB];simp only[h]
theorem CF{o:b6}(aO:fN u o.g=false):jb df base o u m=some (dA u o.d undef,m):=by unfold jb;rw[if_neg (by rw[aO];simp)]
theorem Ni{k:av}{mW:Nat×List Value}(h:k.gE u m=some mW):k.mu=true:=by cases k<;>first|rfl|(simp[av.gE]at h)
theorem vU{k:av}(h:k.mu=false):k.gE u m=none:=by cases k<;>first|rfl|(simp[av.mu]at h)
theorem TX{o:b6}(aO:fN u o.g=true)(aB:o.k.gE u m=none){s:aL×B}(h:jb df base o u m=some s):o.k.mu=false:=
  aaq (abR aO aB h).1
def aco(k i:b6)(u:aL)(m N:B):Prop:=
  fN u i.g=true->match i.k.gE u m with
    |some _=> ∀p∈sg k i,∀b,ai (ab u p.1)=some b->N.M b=m.M b
    |none=> ∀p∈sg k i,∀a b,ai (ab u p.1)=some a->ai (ab u p.2)=some b->a≠b
theorem No{o:b6}{d:Option Nat}{v:Value}{N:B}(aF:uZ (o.yV++o.ac9) d=true){EC LP:B}
    (BM:o.k.mu=true->EC=m/\LP=N) (h:q1 o u m N):q1 o (dA u d v) EC LP:=by
  have z:uZ o.yV d=true:=by
    cases d with
    |none=>rfl
    |some d=>simp[uZ]at aF⊢;exact aF.1
  have jZ: ∀p∈o.bx,ab (dA u d v) p.1=ab u p.1/\ab (dA u d v) p.2=ab u p.2:=by
    intro p aq;constructor
    · refine Bh λt bH=>AG λaR=> ?_;subst aR;exact EF aF (List.mem_append_right _ (List.mem_append_left _ (Cz (List.mem_map.2 ⟨p,aq,rfl⟩) bH)))
    · refine Bh λt bH=>AG λaR=> ?_;subst aR;exact EF aF (List.mem_append_right _ (List.mem_append_right _ (Cz (List.mem_map.2 ⟨p,aq,rfl⟩) bH)))
  intro aO;rw[u2 z]at aO;have:=h aO;have hG:o.k.gE (dA u d v) EC=o.k.gE u m:=by
    rw[(zw (m:=EC) (id:=0) (AJ z)).2.2.2];cases Dx:o.k.mu with
    |true=>rw[(BM Dx).1]
    |false=>rw[vU Dx,vU Dx]
  rw[hG];cases aB:o.k.gE u m with
  | some mW=>rw[aB]at this;simp only at this⊢;obtain⟨rfl,rfl⟩:=BM (Ni aB);intro p aq b L;rw[(jZ p aq).1]at L;exact this p aq b L
  | none=>rw[aB]at this;simp only[mh,List.all_eq_true]at this⊢;intro p aq;obtain⟨x,y⟩:=p;have:=this (x,y) aq;simp only at this⊢;rw[(jZ _ aq).1,(jZ _ aq).2];exact this
theorem aDb{P:Program}{bu:Nat}(eb:ud P bu df){k i:b6}{uk:List Nat}{fb zi:aL}{b4 gI:B}(N5:sA k i uk=true)(ix:k.bc≠i.bc)(Vd:i.k.gF=true->m.M (base+i.bc)=none)(cM:i.k.gF=true->base+i.bc<m.next)
    (z:jb df base k u m=some (fb,b4)) (jZ:q1 k u m b4) (D:jb df base i fb b4=some (zi,gI)) (de:aco k i fb b4 gI):
    ∃c7 bz,jb df base i u m=some (c7,bz)/\jb df base k c7 bz=some (zi,gI)/\q1 k c7 bz gI/\(i.k.mu=true->fN u i.g=true->m=b4/\bz=gI):=by
  simp only[sA,Bool.and_eq_true]at N5;obtain⟨⟨⟨⟨⟨tC,kV⟩,Bw⟩,om⟩,N3⟩,pN⟩:=N5
  replace tC:k.k.yx=false:=by simpa using tC
  replace kV:i.k.yx=false:=by simpa using kV
  have yg:uZ k.yV i.d=true:=by
    cases aR:i.d with
    |none=>rfl
    |some d=>rw[aR]at Bw;simp[uZ]at Bw⊢;exact Bw.1
  have Bz: ∀x,k.d=some x->i.d≠some x:=by intro x H ah;rw[H,ah]at N3;simp at N3
  by_cases r5:fN u k.g=true
  · by_cases sP:fN u i.g=true
    · cases rY:k.k.gE u m with
      | some mW=>
        -- k acZ;i anD ow aLx
        obtain⟨f,args⟩:=mW;have uD:=Ni rY;obtain⟨v,N,aM,a1⟩:=HP r5 rY z;cases a1;have nD:i.k.mu=false:=by
          by_cases h:i.k.mu=true
          · rw[if_pos h]at pN;simp[uD]at pN
          · simpa using h
        rw[if_neg (by rw[nD];simp),if_pos uD]at pN;simp only[Bool.and_eq_true,List.isEmpty_iff]at pN;obtain⟨VN,V1⟩:=pN;have BP:fN (dA u k.d v) i.g=true:=(by rw[u2 om];exact sP);obtain⟨aA,cI⟩:=HQ kV BP (vU nD) D;cases cI;obtain⟨cB,eQ,ht,_⟩:=zw (k:=i.k) (m:=b4) (id:=base+i.bc) (AJ (u:=u) (v:=v) om);obtain⟨mA,oG,zz⟩:=Nr (k:=i.k) (u:=u) (id:=base+i.bc) (m:=b4) (b4:=m) kV (by rw[VN];simp);have Oe: ∀p∈i.k.hU (base+i.bc) u m,i.k.gF=true/\p.1=base+i.bc:= λp aq=>by
          rcases H4 (k:=i.k) (id:=base+i.bc) (u:=u) (m:=m) p aq with h|⟨x,H,_⟩
          · exact⟨h.1,h.2.1⟩
          · rw[V1]at H;cases H
        -- acm sr lX new block aMt ab4 lX eI
        have aul: ∀(l:List (Nat×Option fO)) (yF hp:B),(∀p∈l,i.k.gF=true/\p.1=base+i.bc)->df f args yF=some (v,hp)->(l≠[]->base+i.bc<yF.next/\yF.M (base+i.bc)=none)->
            df f args (j8 yF l)=some (v,j8 hp l)/\(l=[]\/ ∃y,j8 yF l=yF.au (base+i.bc) y/\j8 hp l=hp.au (base+i.bc) y):=by
          intro l yF hp aG zP atY;have BM: ∀(l:List (Nat×Option fO)) (x:Option fO),(∀p∈l,p.1=base+i.bc)-> ∃y,∀a8:B,j8 (a8.au (base+i.bc) x) l=a8.au (base+i.bc) y:=by
            intro l;induction l with
            |nil=>intro x _;exact⟨x,λ_=>rfl⟩
            | cons p l cb=>
              intro x aq;obtain⟨y,ah⟩:=cb p.2 (λq bt=>aq q (by simp[bt]));refine⟨y,λa8=> ?_⟩;have e:p.1=base+i.bc:=aq p (by simp);have:(a8.au (base+i.bc) x).au p.1 p.2=a8.au (base+i.bc) p.2:=by rw[e];simp only[B.au,B.mk.injEq,true_and,and_true];funext j;by_cases cp:j=base+i.bc<;>simp[cp]
              show j8 ((a8.au (base+i.bc) x).au p.1 p.2) l=_;rw[this,ah]
          cases l with
          |nil=>exact⟨zP,.inl rfl⟩
          | cons p l=>obtain⟨y,ah⟩:=BM l p.2 (λq bt=>(aG q (by simp[bt])).2);have e:p.1=base+i.bc:=(aG p (by simp)).2;have pE:j8 yF (p::l)=yF.au (base+i.bc) y:=(by show j8 (yF.au p.1 p.2) l=_;rw[e,ah]);have q3:j8 hp (p::l)=hp.au (base+i.bc) y:=(by show j8 (hp.au p.1 p.2) l=_;rw[e,ah]);rw[pE,q3];obtain⟨aX,cC⟩:=atY (by simp);exact⟨(eb _ _ _ _ _ zP).2.2.2.1 _ y aX cC,.inr ⟨y,rfl,rfl⟩⟩
        obtain⟨dK,eO⟩:=aul (i.k.hU (base+i.bc) u m) m b4 Oe aM (λdq=>by obtain⟨p,aq⟩:=List.exists_mem_of_ne_nil _ dq;have:=(Oe p aq).1;exact⟨cM this,Vd this⟩);have aeK:k.k.gE u (j8 m (i.k.hU (base+i.bc) u m))=some (f,args):=by
          rcases eO with h|⟨y,ah,_⟩
          · rw[h];exact rY
          · rw[ah];by_cases iE:i.k.gF=true
            · exact Tx.Nh ⟨rfl,cM iE,Vd iE⟩ rY
            · have:i.k.hU (base+i.bc) u m=[]:=by
                cases aG:i.k.hU (base+i.bc) u m with
                |nil=>rfl
                |cons p l=>exact absurd (Oe p (by rw[aG];simp)).1 iE
              rw[this]at ah;rw[<-ah];exact rY
        refine⟨_,_,HR kV sP (vU nD) (by rw[<-mA,<-cB];exact aA),?_,?_,λh=>by rw[nD]at h;cases h⟩
        · have atl:k.k.gE (dA u i.d (i.k.val (base+i.bc) u m)) (j8 m (i.k.hU (base+i.bc) u m))=some (f,args):=(by rw[(zw (m:=j8 m (i.k.hU (base+i.bc) u m)) (id:=0) (AJ yg)).2.2.2];exact aeK);rw[eQ,ht,oG,zz];have:=Mv (df:=df) (base:=base) (m:=j8 m (i.k.hU (base+i.bc) u m)) (by rw[u2 yg];exact r5) atl dK;rw[this,Cp Bz]
        · rw[ht,zz];refine No Bw (λ_=>⟨rfl,rfl⟩) (λaO=> ?_);have bB:=jZ aO;rw[rY]at bB;rw[aeK];simp only at bB⊢;rcases eO with h|⟨y,ah,DU⟩
          · rw[h];exact bB
          · rw[ah,DU];intro q bt b L;have:=bB q bt b L;by_cases nT:b=base+i.bc
            · subst nT;have ak:i.k.hU (base+i.bc) u m=[]\/i.k.gF=true:=by
                cases aG:i.k.hU (base+i.bc) u m with
                |nil=>exact .inl rfl
                |cons p l=>exact .inr (Oe p (by rw[aG];simp)).1
              rcases ak with ak|iE
              · rw[ak]at ah DU;rw[<-ah,<-DU];exact this
              · rw[B.pH,B.pH,if_pos rfl,if_pos rfl,if_pos (cM iE),if_pos (Nat.lt_of_lt_of_le (cM iE) (eb _ _ _ _ _ aM).2.1)]
            · rw[B.pH,B.pH,if_neg nT,if_neg nT];exact this
      | none=>
        have uD:=TX r5 rY z;obtain⟨VD,aM⟩:=HQ tC r5 rY z;cases aM;have BP:fN (dA u k.d (k.k.val (base+k.bc) u m)) i.g=true:=(by rw[u2 om];exact sP);obtain⟨cB,eQ,ht,ho⟩:=zw (k:=i.k) (m:=j8 m (k.k.hU (base+k.bc) u m)) (id:=base+i.bc) (AJ (u:=u) (v:=k.k.val (base+k.bc) u m) om);have nA:=de BP;cases hG:i.k.gE u (j8 m (k.k.hU (base+k.bc) u m))with
        | some mW=>
          -- i acZ;k acm aL4
          obtain⟨f,args⟩:=mW;have nD:=Ni hG;rw[if_pos nD]at pN;simp only[Bool.and_eq_true,Bool.not_eq_true',List.isEmpty_iff]at pN;obtain⟨⟨⟨_,iE⟩,V1⟩,VQ⟩:=pN;have afB:k.k.hU (base+k.bc) u m=[]:=by
            cases aG:k.k.hU (base+k.bc) u m with
            |nil=>rfl
            | cons p l=>
              rcases H4 (k:=k.k) (id:=base+k.bc) (u:=u) (m:=m) p (by rw[aG];simp)with h|⟨x,H,_⟩
              · rw[iE]at h;cases h.1
              · rw[V1]at H;cases H
          rw[afB]at D nA hG ho⊢;have yi:j8 m []=m:=rfl;rw[yi]at D nA hG ho;rw[ho,hG]at nA;simp only at nA;obtain⟨v,N,aC,a2⟩:=HP BP (by rw[ho];exact hG) D;cases a2;refine⟨_,_,Mv sP hG aC,?_,?_,λ_ _=>⟨rfl,rfl⟩⟩
          · obtain⟨mA,oG,zz⟩:=Nr (k:=k.k) (u:=u) (id:=base+k.bc) (m:=m) (b4:=gI) tC (λx H b L=>by
              have aq:(x,x)∈sg k i:=(by simp only[sg,nD,if_true];exact List.mem_map.2 ⟨x,H,rfl⟩);have auQ:ab (dA u k.d (k.k.val (base+k.bc) u m)) x=ab u x:=Bh λt bH=>AG λaR=>by have:=List.all_eq_true.1 VQ t (Cz H bH);simp[aR]at this
              exact(nA (x,x) aq b (by rw[auQ];exact L)).symm)
            obtain⟨dk,dV,ew,f4⟩:=zw (k:=k.k) (m:=gI) (id:=base+k.bc) (AJ (u:=u) (d:=i.d) (v:=v) yg);have:=HR (df:=df) (base:=base) (m:=gI) (u:=dA u i.d v) (o:=k) tC (by rw[u2 yg];exact r5) (vU uD) (by rw[dk,<-mA];exact VD);rw[this,dV,ew,<-oG,<-zz,afB,Cp Bz];rfl
          · exact No Bw (λh=>by rw[uD]at h;cases h) jZ
        | none=>
          -- aLJ acZ
          have nD:=TX (by rw[<-u2 om (u:=u)]at sP;exact sP) (by rw[ho];exact hG) D;rw[ho,hG]at nA;simp only at nA;rw[if_neg (by rw[nD];simp),if_neg (by rw[uD];simp)]at pN;simp only[Bool.and_eq_true,Bool.or_eq_true,Bool.not_eq_true']at pN;obtain⟨iE,VQ⟩:=pN;obtain⟨VC,cI⟩:=HQ kV BP (vU nD) D;rw[cB]at VC;rw[eQ,ht]at cI
          -- lX aMo aHd,at aH0 aPT
          have V4: ∀x∈k.k.ma++k.k.o2,ab (dA u k.d (k.k.val (base+k.bc) u m)) x=ab u x:=(by intro x H;refine Bh λt bH=>AG λaR=> ?_;have:=List.all_eq_true.1 VQ t (Cz H bH);simp[aR]at this);have OJ: ∀y∈i.k.ma++i.k.o2,ab (dA u k.d (k.k.val (base+k.bc) u m)) y=ab u y:= λy ah=>AJ om y (aaN y ah);have Ot:sg k i=((k.k.o2++(if k.k.gF then Nw k.d else[])).flatMap λx=>(i.k.ma++i.k.o2).map λy=>(x,y))++k.k.ma.flatMap λx=>i.k.o2.map λy=>(x,y):=by simp only[sg,nD,uD,Bool.false_eq_true,if_false]
          -- aKI acm do not azz anZ i anD
          have bM: ∀p∈k.k.hU (base+k.bc) u m,∀y∈i.k.ma++i.k.o2,∀b,ai (ab u y)=some b->p.1≠b:=by
            intro p aq y ah b L;rcases H4 (k:=k.k) p aq with⟨aE,e,zO⟩|⟨x,H,ux⟩
            · rcases iE with iE|iE
              · rw[iE]at aE;cases aE
              · obtain⟨d,aR⟩:=Option.isSome_iff_exists.1 iE.1;have:=nA (.tmp d,y) (by
                  rw[Ot];refine List.mem_append_left _ (List.mem_flatMap.2 ⟨.tmp d,?_,List.mem_map.2 ⟨y,ah,rfl⟩⟩);simp[aE,aR,Nw]) (base+k.bc) b (by simp only[ab,aR,dA,qc,if_true];exact zO) (by rw[OJ y ah];exact L)
                rw[e];exact this
            · exact nA (x,y) (by rw[Ot];exact List.mem_append_left _ (List.mem_flatMap.2 ⟨x,List.mem_append_left _ H,List.mem_map.2 ⟨y,ah,rfl⟩⟩)) p.1 b (by rw[V4 x (List.mem_append_right _ H)];exact ux) (by rw[OJ y ah];exact L)
          obtain⟨mA,oG,zz⟩:=Nr (k:=i.k) (u:=u) (id:=base+i.bc) (m:=j8 m (k.k.hU (base+k.bc) u m)) (b4:=m) kV (λy ah b L=>UJ _ _ _ λp aq=>bM p aq y (List.mem_append_left _ ah) b L);rw[mA]at VC;rw[oG,zz]at cI;cases cI
          -- aJt acm do not azz anZ k anD
          have an0: ∀p∈i.k.hU (base+i.bc) u m,∀x∈k.k.ma++k.k.o2,∀b,ai (ab u x)=some b->p.1≠b:=by
            intro p aq x H b L e;rcases H4 (k:=i.k) p aq with⟨aE,a1,zO⟩|⟨y,ah,Bv⟩
            · have:=aAm VD x H b L;rw[<-e,a1,Vd aE]at this;cases this
            · rcases List.mem_append.1 H with hH|hH
              · exact nA (x,y) (by rw[Ot];exact List.mem_append_right _ (List.mem_flatMap.2 ⟨x,hH,List.mem_map.2 ⟨y,ah,rfl⟩⟩)) b p.1 (by rw[V4 x H];exact L) (by rw[OJ y (List.mem_append_right _ ah)];exact Bv) e.symm
              · exact nA (x,y) (by rw[Ot];exact List.mem_append_left _ (List.mem_flatMap.2 ⟨x,List.mem_append_left _ hH,List.mem_map.2 ⟨y,List.mem_append_right _ ah,rfl⟩⟩)) b p.1 (by rw[V4 x H];exact L) (by rw[OJ y (List.mem_append_right _ ah)];exact Bv) e.symm
          have aDZ: ∀p∈k.k.hU (base+k.bc) u m,∀q∈i.k.hU (base+i.bc) u m,p.1≠q.1:=by
            intro p aq q bt e;rcases H4 (k:=i.k) q bt with⟨aE,a1,zO⟩|⟨y,ah,Bv⟩
            · rcases H4 (k:=k.k) p aq with⟨_,cI,_⟩|⟨x,H,ux⟩
              · omega
              · exact an0 q bt x (List.mem_append_right _ H) p.1 ux e.symm
            · exact bM p aq y (List.mem_append_right _ ah) q.1 Bv e
          refine⟨_,_,HR kV sP (vU nD) VC,?_,?_,λh=>by rw[nD]at h;cases h⟩
          · obtain⟨dk,dV,ew,f4⟩:=zw (k:=k.k) (m:=j8 m (i.k.hU (base+i.bc) u m)) (id:=base+k.bc) (AJ (u:=u) (d:=i.d) (v:=i.k.val (base+i.bc) u m) yg);obtain⟨aC,a2,bS⟩:=Nr (k:=k.k) (u:=u) (id:=base+k.bc) (m:=j8 m (i.k.hU (base+i.bc) u m)) (b4:=m) tC (λx H b L=>UJ _ _ _ λp aq=>an0 p aq x (List.mem_append_left _ H) b L);have:=HR (df:=df) (base:=base) (m:=j8 m (i.k.hU (base+i.bc) u m)) (u:=dA u i.d (i.k.val (base+i.bc) u m)) (o:=k) tC (by rw[u2 yg];exact r5) (vU uD) (by rw[dk,aC];exact VD);rw[this,dV,ew,a2,bS,Cp Bz,acE _ _ m aDZ]
          · exact No Bw (λh=>by rw[uD]at h;cases h) jZ
    · -- i qG aAD over
      have JR:fN u i.g=false:=(by simpa using sP);have mE: ∃v,fb=dA u k.d v:=by
        cases rY:k.k.gE u m with
        |some mW=>obtain⟨v,N,_,e⟩:=HP r5 rY z;cases e;exact⟨v,rfl⟩
        |none=>obtain⟨_,e⟩:=HQ tC r5 rY z;cases e;exact⟨_,rfl⟩
      obtain⟨v,rfl⟩:=mE;rw[CF (by rw[u2 om];exact JR)]at D;cases D;refine⟨_,_,CF JR,?_,No Bw (λ_=>⟨rfl,rfl⟩) jZ,λ_ h=>absurd h sP⟩;have afA:fN (dA u i.d undef) k.g=true:=(by rw[u2 yg];exact r5);obtain⟨dk,dV,ew,f4⟩:=zw (k:=k.k) (m:=m) (id:=base+k.bc) (AJ (u:=u) (d:=i.d) (v:=undef) yg);cases rY:k.k.gE u m with
      | some mW=>obtain⟨f,args⟩:=mW;obtain⟨aJ,N,aC,a2⟩:=HP r5 rY z;have aM:=congrArg Prod.fst a2;have a1:=congrArg Prod.snd a2;simp only at aM a1;subst a1;have cI:dA (dA u i.d undef) k.d aJ=dA (dA u k.d aJ) i.d undef:=(Cp Bz).symm;rw[Mv afA (by rw[f4];exact rY) aC,cI,<-aM]
      | none=>obtain⟨aA,a2⟩:=HQ tC r5 rY z;have aM:=congrArg Prod.fst a2;have a1:=congrArg Prod.snd a2;simp only at aM a1;subst a1;have cI:dA (dA u i.d undef) k.d (k.k.val (base+k.bc) u m)=dA (dA u k.d (k.k.val (base+k.bc) u m)) i.d undef:=(Cp Bz).symm;rw[HR tC afA (by rw[f4];exact rY) (by rw[dk];exact aA),dV,ew,cI,<-aM]
  · -- k qG aAD over
    have afz:fN u k.g=false:=(by simpa using r5);rw[CF afz]at z;cases z;have r2: ∀v a8,jb df base k (dA u i.d v) a8=some (dA (dA u i.d v) k.d undef,a8):= λv a8=>CF (by rw[u2 yg];exact afz);have U9: ∀v EC LP,q1 k (dA u i.d v) EC LP:= λv EC LP aO=>by rw[u2 yg]at aO;exact absurd aO r5
    obtain⟨dk,dV,ew,f4⟩:=zw (k:=i.k) (m:=m) (id:=base+i.bc) (AJ (u:=u) (d:=k.d) (v:=undef) om);by_cases sP:fN u i.g=true
    · have BP:fN (dA u k.d undef) i.g=true:=(by rw[u2 om];exact sP);cases hG:i.k.gE u m with
      | some mW=>obtain⟨f,args⟩:=mW;obtain⟨aJ,N,aC,a2⟩:=HP BP (by rw[f4];exact hG) D;cases a2;exact⟨_,_,Mv sP hG aC,by rw[r2,Cp Bz],U9 _ _ _,λ_ _=>⟨rfl,rfl⟩⟩
      | none=>obtain⟨aA,a2⟩:=HQ kV BP (by rw[f4];exact hG) D;have nD:=aaq aA;rw[dV,ew]at a2;cases a2;exact⟨_,_,HR kV sP hG (by rw[<-dk];exact aA),by rw[r2,Cp Bz],U9 _ _ _,λh=>by rw[nD]at h;cases h⟩
    · have JR:fN u i.g=false:=(by simpa using sP);rw[CF (by rw[u2 om];exact JR)]at D;cases D;exact⟨_,_,CF JR,by rw[r2,Cp Bz],U9 _ _ _,λ_ h=>absurd h sP⟩
end
end Go.DI
