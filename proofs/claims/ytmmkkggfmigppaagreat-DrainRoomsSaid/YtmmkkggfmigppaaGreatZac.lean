/-
  A part of the proof of the statement, in texts that tools of ours (wip/shrink.py, irpack.py, relax.py, minify.py, join.py, lay.py) have shortened.
-/
import Derived.MapKept
import Derived.Test.YtmmkkggfmigppaaGreatZab
set_option linter.all false
set_option maxRecDepth 8000
set_option maxHeartbeats 16000000
namespace Go.DI
open Go Go.RowKit
section
variable {P:Program} {w:World} {o:Oper} {a:Act} {aj:eE} {cQ:Nat} {z:aM} {m:W} {aX id:Nat}
theorem avk{c4:Type}(xs:Array c4)(x:c4)(f:c4->c4):(xs.push x).modify xs.size f=xs.push (f x):=by
  apply Array.ext_getElem?;intro i;rw[Array.getElem?_modify,IJ,IJ];by_cases h:xs.size=i
  · simp[h]
  · have: ¬i=xs.size:= λe=>h e.symm;simp[h,this]
theorem ax8{s d e:TypeId}{x:Operand}(bx:o.op= .convert s d x)(qQ:P.underlying s=some .string)(ox:P.underlying d=some (.slice e))(bQ:P.underlying e=some (.int .u8))(G:cO x=true)
    (M:gx aj cQ z a) (av:dy aX aj m w) (cK:aX<=w.heap.size) (eg:id<m.next) (az:aj id=none) (ao:(af.ny x).ok z m=true):oo P o (.ny x) a aX aj z m w id:=by
  simp only[af.ok,aY,eO]at ao;obtain⟨D,H⟩:=ao;obtain⟨aK,b,ad⟩:=Io (M.Y G) D;rw[ad]at H;simp only[pZ]at H;have ud:=grownCap_ge w b.size 0 e;have pj:grownCap w b.size 0 e<=maxLen:=grownCap_le_maxLen w _ 0 e (by unfold maxLen;omega);generalize Pp:grownCap w b.size 0 e=cap at ud pj
  let im:Array Value:=(b.data.map λ(x:UInt8)=>Value.int .u8 x.toNat)++Array.replicate (cap-b.size) (Value.int .u8 0)
  have iX:im.size=cap:=by show((b.data.map λ(x:UInt8)=>Value.int .u8 x.toNat)++Array.replicate (cap-b.size) (Value.int .u8 0)).size=cap;simp only[Array.size_append,Array.size_map,Array.size_replicate];have:b.data.size=b.size:=rfl;omega
  have Fe:(w.drew.alloc (.cells im e)).freeze ⟨w.heap.size,im.size,none⟩ 1=w.drew.alloc (.cells im e (im.size,im.size+1)):=by simp only[World.freeze,Nat.one_ne_zero,if_false,World.alloc];congr 1;show(w.heap.push _).modify w.heap.size _=w.heap.push _;rw[avk];simp
  have hs:(Conv.stringToBytes e b).run P w= .ok (.slice (some ⟨w.heap.size,0,none⟩) b.size cap) (w.drew.alloc (.cells im e (im.size,im.size+1))):=by
    have xm:(choose (.appendCap b.size 0 e)).run P w= .ok cap w.drew:=(by rw[<-Pp];rfl);have oA:(newRow e im).run P w.drew= .ok ⟨w.heap.size,0,none⟩ (w.drew.alloc (.cells im e)):=rfl;have aj5:(w.drew.alloc (.cells im e)).shape? w.heap.size=some (e,im.size):=(by show(match(w.heap.push (Obj.cells im e))[w.heap.size]? with|some (.cells c aif _)=>some (aif,c.size)|_=>none)=_;simp);have ajD:(markStringish ⟨w.heap.size,0,none⟩).run P (w.drew.alloc (.cells im e))= .ok () (w.drew.alloc (.cells im e (im.size,im.size+1))):=by
      simp only[markStringish,Sem.run_bind];have:(shape w.heap.size).run P (w.drew.alloc (.cells im e))= .ok (some (e,im.size)) (w.drew.alloc (.cells im e)):=by simp only[shape,Sem.run,aj5]
      rw[this];simp only[Result.andThen_ok];show Result.ok () ((w.drew.alloc (.cells im e)).freeze ⟨w.heap.size,im.size,none⟩ 1)=_;rw[Fe]
    simp only[Conv.stringToBytes,Sem.run_bind,xm,Result.andThen_ok];have aR:(b.data.map λ(b:UInt8)=>Value.int .u8 b.toNat)++Array.replicate (cap-b.size) (Value.int .u8 0)=im:=rfl;rw[aR,oA];simp only[Result.andThen_ok,ajD];rfl
  refine⟨.slice (some ⟨w.heap.size,0,none⟩) b.size cap,_,hi aj id ⟨w.heap.size,0,cap⟩,.inl ?_,rm az,uV,?_,?_,sx (w:=w) (c3:=w.drew) rfl rfl rfl rfl cK (.cells im e (im.size,im.size+1))⟩
  · simp[execOp,bx,aK,ad,convert,underlying,qQ,ox,bQ,hs]
  · simp only[af.val,ad,pZ];exact .slice (off:=0) (l:=⟨w.heap.size,0,cap⟩) (by simp[hi]) (.inr ⟨by simp,by simp⟩) ud pj
  · simp only[af.gu,ad,pZ];refine av.Ap (c3:=w.drew) rfl cK eg az (by simp only[wh,jg,Array.length_toList];exact ud) (by rw[iX];exact dW _) (λi v qY=> ?_) (λi hH=>by simp only;omega);have ke:i<b.data.size:=(by have:=(eB.1 qY).1;simpa[wh]using this);have ake:v= .int .u8 (b.data[i]).toNat:=by
      simp only[wh,qy,DZ,yF ke,Option.map_some,ll]at qY;exact qY.symm
    subst ake;refine⟨rfl,_,?_,.cy rfl⟩;show((b.data.map λ(x:UInt8)=>Value.int .u8 x.toNat)++Array.replicate (cap-b.size) (Value.int .u8 0))[i]?=_;rw[IH (by simpa using ke),Array.getElem?_map,yF ke];rfl
end
def j8.tX:j8->TypeDesc
  | .int k=> .int k
  | .str=> .string
theorem adf{fK:j8}{v:Value}(h:nb fK v=true):MapKept.IsKey fK.tX v:=by cases fK<;>cases v<;>simp_all [nb,MapKept.IsKey,j8.tX]
theorem Mb{fK:j8}{v:Value}(h:nb fK v=true):dQ v=true:=by cases fK<;>cases v<;>simp_all [nb,dQ]
theorem ahF{fK:j8}{a b:Value}(ax:nb fK a=true)(hb:nb fK b=true):Instr.sameNow fK.tX a b=some (nx a b)/\(nx a b=true->a=b):=by
  cases fK with
  | int Sg=>cases a<;>simp[nb]at ax;cases b<;>simp[nb]at hb;rename_i ec gk gY hp;subst ax;subst hb;have e:(gk==hp)=decide (gk=hp):=(by by_cases h:gk=hp<;>simp[h]);exact⟨by simp only[j8.tX,Instr.sameNow,nx,e,if_true],λh=>by simp only[nx,eO]at h;rw[h]⟩
  | str=>
    cases a<;>simp[nb]at ax;cases b<;>simp[nb]at hb;rename_i x y;have e:(x==y)=decide (x=y):=by
      have:=MapKept.bytes_beq x y;by_cases h:x=y
      · rw[this.2 h];simp[h]
      · cases ar:(x==y)
        · simp[h]
        · exact absurd (this.1 ar) h
    exact⟨by simp only[j8.tX,Instr.sameNow,nx,e],λh=>by simp only[nx,eO]at h;rw[h]⟩
theorem VX{P:Program}{t:TypeId}{fK:j8}(h:Jq P t=some fK):P.underlying t=some fK.tX:=by
  unfold Jq at h;split at h<;>cases h
  · rename_i k aa;exact aa
  · rename_i aa;exact aa
theorem OS{aj:eE}{fK:j8}{k:Value}(aa:nb fK k=true): ∀(a9:List (Value×Value)) (c1:List MapEntry) (i:Nat),wX aj a9 c1->(a9.all λe=>nb fK e.1)=true->
    (hE k a9=none/\Instr.findNow fK.tX k c1 i=some none/\ ∀v,iZ k v a9=a9++[(k,v)])\/
    (∃j e dX,a9[j]?=some e/\c1[j]?=some dX/\dX.key=k/\hE k a9=some e.2/\Instr.findNow fK.tX k c1 i=some (some (i+j,dX.val))/\ ∀v,iZ k v a9=a9.set j (k,v))
  | [],c1,i,h,_=>by have:c1=[]:=pO.1 h.1.symm;subst this;exact .inl ⟨rfl,rfl,λ_=>rfl⟩
  | e::a9,c1,i,h,ax=>by
    cases c1 with
    |nil=>have:=h.1;simp at this
    | cons dX c1=>
      simp only[mW,aY]at ax;obtain⟨D,H,aq,aE⟩:=h.2 0 e dX rfl rfl;have Kc:wX aj a9 c1:=⟨by simpa using h.1,λj a b D H=>h.2 (j+1) a b (by simpa using D) (by simpa using H)⟩;obtain⟨ch,c6⟩:=ahF aa ax.1;cases ar:nx k e.1
      · rw[ar,<-H]at ch;rcases OS aa a9 c1 (i+1) Kc ax.2 with⟨aQ,a7,cD⟩|⟨j,x,hM,aQ,a7,cD,dI,gi,fj⟩
        · exact .inl ⟨by simp[hE,ar,aQ],by simp[Instr.findNow,ch,a7],λv=>by simp[iZ,ar,cD]⟩
        · exact .inr ⟨j+1,x,hM,by simpa using aQ,by simpa using a7,cD,by simp[hE,ar,dI],by simp[Instr.findNow,ch,gi];omega,λv=>by simp[iZ,ar,fj]⟩
      · rw[ar,<-H]at ch;exact .inr ⟨0,e,dX,rfl,rfl,by rw[H];exact(c6 ar).symm,by simp[hE,ar],by simp[Instr.findNow,ch],λv=>by simp[iZ,ar]⟩
section
variable {P:Program} {w:World} {o:Oper} {a:Act} {aj:eE} {cQ:Nat} {z:aM} {m:W} {aX id:Nat}
theorem aAb{e:TypeId}{I:Value}(bD:NJ P e=some I):(zeroValue e).run P w= .ok I w/\dQ I=true:=by
  unfold NJ at bD;split at bD
  · rename_i i ak;split at bD
    · rename_i hj nC;split at bD<;>cases bD;rename_i a6;exact⟨by simp[zeroValue,typeInfo,ak,nC],a6⟩
    · cases bD
  · cases bD
theorem dy.avw(av:dy aX aj m w)(cK:aX<=w.heap.size)(eg:id<m.next)(az:aj id=none):dy aX (hi aj id ⟨w.heap.size,0,0⟩) (m.gL id []) (w.alloc (.map #[] 0)):=by
  have e7:=rm (l:=⟨w.heap.size,0,0⟩) az;have iX:(w.alloc (.map #[] 0)).heap.size=w.heap.size+1:=by show(w.heap.push _).size=_;rw[Array.size_push]
  have BS: ∀k,k<w.heap.size->(w.alloc (.map #[] 0)).heap[k]?=w.heap[k]?:= λk aa=>by show(w.heap.push _)[k]?=_;rw[IJ,if_neg (by omega)]
  have pk: ∀b,(m.gL id []).X b=if b=id then some ⟨[],true⟩else m.X b:= λb=>by
    unfold W.X W.gL;by_cases h:b=id
    · subst h;simp[eg]
    · simp[h]
  have Fk: ∀b l,hi aj id ⟨w.heap.size,0,0⟩ b=some l->(b=id/\l=⟨w.heap.size,0,0⟩)\/(b≠id/\aj b=some l):= λb l h=>by
    unfold hi at h;split at h
    · rename_i e;cases h;exact .inl ⟨e,rfl⟩
    · rename_i e;exact .inr ⟨e,h⟩
  refine⟨λb l hb=> ?_,λb l hb=> ?_,λb x G=> ?_,λb x ca hM l de D H aq aE bq cP=> ?_,λb a9 hb=> ?_,λb a9 hb=> ?_⟩
  · rcases Fk b l hb with⟨rfl,_⟩|⟨_,h⟩
    · exact eg
    · exact av.kn b l h
  · rcases Fk b l hb with⟨_,rfl⟩|⟨_,h⟩
    · rw[iX];exact Nat.lt_succ_self _
    · rw[iX];have:=av.lN b l h;omega
  · rw[pk]at G;split at G
    · rename_i e;cases G;exact⟨⟨w.heap.size,0,0⟩,by simp[hi,e],dW _,λi v ad=>by simp at ad,λ_=>⟨cK,λi ak=>by simp at ak⟩⟩
    · obtain⟨l,aQ,a7,cD,dI⟩:=av.lQ b x G;have BP:=av.lN b l aQ;have ar: ∀i,(w.alloc (.map #[] 0)).cell? ⟨l.c,l.o+i,none⟩=w.cell? ⟨l.c,l.o+i,none⟩:= λi=>World.cell?_of_block (w:=w) (BS l.c BP);have a6: ∀i,(w.alloc (.map #[] 0)).frozen? ⟨l.c,l.o+i,none⟩=w.frozen? ⟨l.c,l.o+i,none⟩:= λi=>World.frozen?_of_block (w:=w) (BS l.c BP);exact⟨l,e7 _ _ aQ,a7,λi v ad=>by obtain⟨a3,bu,br,bX⟩:=cD i v ad;exact⟨a3,bu,by rw[ar];exact br,bX.b6 e7⟩,λaC=>⟨(dI aC).1,λi ak=>by rw[ar,a6];exact(dI aC).2 i ak⟩⟩
  · rw[pk]at D aq;rcases Fk b l bq with⟨rfl,rfl⟩|⟨e,bq⟩
    · rcases Fk ca de cP with⟨dX,_⟩|⟨dX,cP⟩
      · exact absurd dX.symm aE
      · have:=av.lN ca de cP;simp only;omega
    · rcases Fk ca de cP with⟨dX,rfl⟩|⟨dX,cP⟩
      · have:=av.lN b l bq;simp only;omega
      · rw[if_neg e]at D;rw[if_neg dX]at aq;exact av.qL b x ca hM l de D H aq aE bq cP
  · by_cases e:b=id
    · exact⟨⟨w.heap.size,0,0⟩,by simp[hi,e]⟩
    · have:m.mp b=some a9:=(by simpa[W.gL,e]using hb);obtain⟨l,aD⟩:=av.tc b a9 this;exact⟨l,e7 _ _ aD⟩
  · obtain⟨aQ,a7⟩:=W.ua hb;by_cases e:b=id
    · subst e;have:a9=[]:=(by simpa[W.gL]using a7.symm);subst this;exact⟨⟨w.heap.size,0,0⟩,#[],0,by simp[hi],cK,by show(w.heap.push _)[w.heap.size]?=_;simp,⟨rfl,λi e dX h=>by simp at h⟩⟩
    · rw[pk,if_neg e]at aQ;have vu:m.mp b=some a9:=(by simpa[W.gL,e]using a7);obtain⟨l,c1,a4,fX,g1,hL,jb⟩:=av.maps b a9 (W.jM aQ vu);exact⟨l,c1,a4,e7 _ _ fX,g1,by rw[BS _ (av.lN b l fX)];exact hL,jb.b6 e7⟩
theorem aya{t:TypeId}(bx:o.op= .makeMap t none)(av:dy aX aj m w)(cK:aX<=w.heap.size)(eg:id<m.next)(az:aj id=none):oo P o .nc a aX aj z m w id:=by
  refine⟨.map (some w.heap.size),w.alloc (.map #[] 0),hi aj id ⟨w.heap.size,0,0⟩,.inl ?_,rm az,uV,?_,av.avw cK eg az,sx rfl rfl rfl rfl cK _⟩
  · simp only[execOp,bx,Option.map_none,Instr.makeMap,Sem.run_bind];rfl
  · exact .map (l:=⟨w.heap.size,0,0⟩) (by simp[hi])
theorem dy.ae2(av:dy aX aj m w){b:Nat}{a9:List (Value×Value)}{l:ss}{c1:Array MapEntry}{a4:Nat}(aF:m.eK b=some a9)(aD:aj b=some l)(cK:aX<=l.c)(aH:w.heap[l.c]?=some (.map c1 a4))
    {eo:List (Value×Value)} {BC:Array MapEntry} {ED:Nat} (az:wX aj eo BC.toList):dy aX aj (m.gL b eo) {w with heap:=w.heap.setIfInBounds l.c (.map BC ED)}:=by
  obtain⟨O0,rL⟩:=W.ua aF;have hb:=W.bn O0;obtain⟨vG,hB⟩:=MapKept.heap_set (o':= .map BC ED) aH;have pk: ∀ca,(m.gL b eo).X ca=m.X ca:= λca=>by
    by_cases h:ca=b
    · subst h;rw[O0];unfold W.X W.gL;simp[hb]
    · unfold W.X W.gL;simp[h]
  have ar: ∀dU:Addr,World.cell? {w with heap:=w.heap.setIfInBounds l.c (.map BC ED)} dU=w.cell? dU:= λdU=>by
    by_cases h:dU.block=l.c
    · simp only[World.cell?,h,vG,aH]
    · exact World.cell?_of_block (w:=w) (hB _ h)
  have a6: ∀dU:Addr,World.frozen? {w with heap:=w.heap.setIfInBounds l.c (.map BC ED)} dU=w.frozen? dU:= λdU=>by
    by_cases h:dU.block=l.c
    · simp only[World.frozen?,h,vG,aH]
    · exact World.frozen?_of_block (w:=w) (hB _ h)
  refine⟨av.kn,λca de bN=>by show de.c<(w.heap.setIfInBounds _ _).size;rw[Array.size_setIfInBounds];exact av.lN ca de bN,λca x G=> ?_,λdk cm ev cU jo jq D H aq=>av.qL dk cm ev cU jo jq (by rw[<-pk];exact D) H (by rw[<-pk];exact aq),λca EK fN=> ?_,λca EK fN=> ?_⟩
  · rw[pk]at G;simpa only[ar,a6]using av.lQ ca x G
  · by_cases e:ca=b
    · exact⟨l,by rw[e];exact aD⟩
    · exact av.tc ca EK (by simpa[W.gL,e]using fN)
  · obtain⟨aQ,a7⟩:=W.ua fN;rw[pk]at aQ;by_cases e:ca=b
    · subst e;have:EK=eo:=(by simpa[W.gL]using a7.symm);subst this;exact⟨l,BC,ED,aD,cK,vG,az⟩
    · have vu:m.mp ca=some EK:=(by simpa[W.gL,e]using a7);obtain⟨jq,ail,ahG,fX,g1,hL,jb⟩:=av.maps ca EK (W.jM aQ vu);have cW:jq.c≠l.c:=av.qL ca _ b _ jq l aQ rfl O0 e fX aD;exact⟨jq,ail,ahG,fX,g1,by rw[hB _ cW];exact hL,jb⟩
theorem ayd{t s7 e:TypeId}{fK:j8}{x k v:Operand}(bx:o.op= .mapUpdate t x k v)(bt:P.underlying t=some (.map s7 e))(ay:P.underlying s7=some fK.tX)(G:cO x=true)(aa:cO k=true)(ad:cO v=true)
    (M:gx aj cQ z a) (av:dy aX aj m w) (ao:(af.lR fK x k v).ok z m=true):oo P o (.lR fK x k v) a aX aj z m w id:=by
  simp only[af.ok]at ao;have az:=M.Y G;cases aS:Y z x<;>simp only[aS]at ao<;>try cases ao
  rename_i p;cases p with
  |none=>simp at ao
  | some b=>
    simp only at ao;rw[aS]at az;obtain⟨l,aD,m7⟩:=az.FH;cases aF:m.eK b with
    |none=>simp[aF]at ao
    | some a9=>
      simp only[aF,kR,aY]at ao;obtain⟨⟨qT,rQ⟩,Fv⟩:=ao;obtain⟨de,c1,a4,fX,g1,hL,jb⟩:=av.maps b a9 aF;rw[aD]at fX;cases fX;have zg:a.eval k=Y z k:=(M.Y aa).hC (Mb qT);have J5:=adf qT;have XK:=M.Y ad;have pl:(af.lR fK x k v).gu id z m=m.gL b (iZ (Y z k) (Y z v) a9):=(by simp only[af.gu,aS,uC,aF,Bg]);have g5:(Instr.checkKey false 10000 s7 (Y z k)).run P w= .ok () w:=MapKept.run_checkKey ay J5 false 9999;have W0: ∀o',Below aX w {w with heap:=w.heap.setIfInBounds l.c o'}:= λo'=>⟨rfl,rfl,rfl,by show _<=(w.heap.setIfInBounds _ _).size;rw[Array.size_setIfInBounds];exact dW _,λk aa=>by show(w.heap.setIfInBounds _ _)[k]?=_;simp[show l.c≠k by omega]⟩;rcases OS qT a9 c1.toList 0 jb rQ with⟨_,a7,cD⟩|⟨j,cm,cU,aQ,a7,cD,_,gi,fj⟩
      · have hs:(Instr.mapUpdate t (a.eval x) (a.eval k) (a.eval v)).run P w= .ok () {w with heap:=w.heap.setIfInBounds l.c (.map (c1.push {key:=Y z k,val:=a.eval v,born:=a4}) (a4+1))}:=by
          simp[Instr.mapUpdate,m7,zg,run_underlying bt,MapKept.run_getObj_map hL,g5,MapKept.run_findKey ay a7,MapKept.run_setObj_map _ hL]
        refine⟨undef,_,aj,.inr ⟨by simp only[execOp,bx,hs,Sem.run_bind,Result.andThen_ok];rfl,rfl⟩,ga.refl aj,λ_ _=>rfl,dB.undef aj,?_,W0 _⟩;rw[pl,cD];refine av.ae2 aF aD g1 hL ⟨by simp[jb.1],λi e dX D H=> ?_⟩;simp only[Array.toList_push]at H;rw[A9]at D H;rw[<-jb.1]at H;split at D
        · rename_i ak;rw[if_pos ak]at H;exact jb.2 i e dX D H
        · rename_i ak;rw[if_neg ak]at H;have BO:i-a9.length=0:=(by have:=(eB.1 D).1;simp at this;omega);rw[BO]at D H;simp at D H;subst D;subst H;exact⟨Mb qT,rfl,Fv,XK⟩
      · have b1:c1[j]?=some cU:=(by simpa using a7);have hs:(Instr.mapUpdate t (a.eval x) (a.eval k) (a.eval v)).run P w= .ok () {w with heap:=w.heap.setIfInBounds l.c (.map (c1.modify j λe=>{e with key:=Y z k,val:=a.eval v}) a4)}:=by
          simp[Instr.mapUpdate,m7,zg,run_underlying bt,MapKept.run_getObj_map hL,g5,MapKept.run_findKey ay gi,b1,cD,MapKept.run_keyThatStays J5,MapKept.run_setObj_map _ hL]
        refine⟨undef,_,aj,.inr ⟨by simp only[execOp,bx,hs,Sem.run_bind,Result.andThen_ok];rfl,rfl⟩,ga.refl aj,λ_ _=>rfl,dB.undef aj,?_,W0 _⟩;rw[pl,fj];refine av.ae2 aF aD g1 hL ⟨by simpa using jb.1,λi e dX D H=> ?_⟩;simp only[DZ,Array.getElem?_modify]at H;rw[u2]at D;by_cases zb:j=i
        · subst zb;rw[if_pos rfl,if_pos (by have:=(eB.1 aQ).1;exact this)]at D;rw[if_pos rfl,b1]at H;simp at D H;subst D;subst H;exact⟨Mb qT,rfl,Fv,XK⟩
        · rw[if_neg zb]at D H;exact jb.2 i e dX D (by simpa using H)
theorem ayc{t s7 e:TypeId}{fK:j8}{I:Value}{ok:Bool}{x k:Operand}(bx:o.op= .lookup t x k ok)(bt:P.underlying t=some (.map s7 e))(ay:P.underlying s7=some fK.tX)(bD:NJ P e=some I)(G:cO x=true)(aa:cO k=true)
    (M:gx aj cQ z a) (av:dy aX aj m w) (ao:(af.nd fK I ok x k).ok z m=true):oo P o (.nd fK I ok x k) a aX aj z m w id:=by
  obtain⟨XR,akp⟩:=aAb (w:=w) bD;simp only[af.ok]at ao;have gQ: ∃(a9:List (Value×Value)) (c1:Array MapEntry),jX m (Y z x)=some a9/\wX aj a9 c1.toList/\((a.eval x= .map none/\c1= #[])\/ ∃r a4,a.eval x= .map (some r)/\w.heap[r]?=some (.map c1 a4)):=by
    have az:=M.Y G;cases aS:Y z x<;>simp only[aS,jX]at ao<;>try cases ao
    rename_i p;cases p with
    | none=>rw[aS]at az;exact⟨[],#[],rfl,⟨rfl,λi e dX h=>by simp at h⟩,.inl ⟨az.hC rfl,rfl⟩⟩
    | some b=>
      rw[aS]at az;obtain⟨l,aD,ad⟩:=az.FH;cases aF:m.eK b with
      |none=>simp[aF]at ao
      | some a9=>obtain⟨de,c1,a4,fX,g1,hL,jb⟩:=av.maps b a9 aF;rw[aD]at fX;cases fX;exact⟨a9,c1,aF,jb,.inr ⟨l.c,a4,ad,hL⟩⟩
  obtain⟨a9,c1,W9,Kc,vy⟩:=gQ;rw[W9]at ao;simp only[kR,aY]at ao;obtain⟨qT,rQ⟩:=ao;have zg:a.eval k=Y z k:=(M.Y aa).hC (Mb qT);have J5:=adf qT;have Fc:=OS qT a9 c1.toList 0 Kc rQ;have ajo: ∃(v:Value) (bo:Nat×Value) (b:Bool),(Instr.findKey s7 (Y z k) c1.toList).run P w= .ok (if b then some (bo.1,bo.2)else none:Option (Nat×Value)) w/\(hE (Y z k) a9).isSome=b/\(b=true->hE (Y z k) a9=some v/\dB aj v bo.2):=by
    rcases Fc with⟨aQ,a7,_⟩|⟨j,cm,cU,aQ,a7,cD,dI,gi,_⟩
    · exact⟨undef,(0,undef),false,by rw[MapKept.run_findKey ay a7];rfl,by rw[aQ];rfl,λh=>by cases h⟩
    · obtain⟨_,_,_,aE⟩:=Kc.2 j cm cU aQ a7;exact⟨cm.2,(0+j,cU.val),true,by rw[MapKept.run_findKey ay gi];rfl,by rw[dI];rfl,λ_=>⟨dI,aE⟩⟩
  obtain⟨v,bo,b,db,dx,f3⟩:=ajo;have xx:(af.nd fK I ok x k).val id z m=if ok then .tuple #[(hE (Y z k) a9).getD I,.bool (hE (Y z k) a9).isSome]else(hE (Y z k) a9).getD I:=by simp only[af.val,W9,Option.bind_some]
  have hs:(Instr.lookup t (a.eval x) (a.eval k) ok).run P w= .ok (if ok then .tuple #[if b then bo.2 else I,.bool b]else if b then bo.2 else I) w:=by
    have g5: ∀e,(Instr.checkKey e 10000 s7 (Y z k)).run P w= .ok () w:= λe=>MapKept.run_checkKey ay J5 e 9999;rcases vy with⟨D,H⟩|⟨r,a4,D,H⟩
    · subst H;cases b
      · simp[Instr.lookup,D,zg,run_underlying bt,g5,db,XR]
      · simp[Instr.lookup,D,zg,run_underlying bt,g5,db]
    · cases b
      · simp[Instr.lookup,D,zg,run_underlying bt,MapKept.run_getObj_map H,g5,db,XR]
      · simp[Instr.lookup,D,zg,run_underlying bt,MapKept.run_getObj_map H,g5,db]
  refine⟨_,w,aj,.inl (by simp only[execOp,bx,hs,Sem.run_bind,Result.andThen_ok];rfl),ga.refl aj,λ_ _=>rfl,?_,av,Below.refl _ _⟩;rw[xx];have Fv:dB aj ((hE (Y z k) a9).getD I) (if b then bo.2 else I):=by
    cases b
    · have:hE (Y z k) a9=none:=(by simpa using dx);rw[this];exact .cy akp
    · obtain⟨aQ,a7⟩:=f3 rfl;rw[aQ];exact a7
  cases ok
  · exact Fv
  · simp only[if_true];rw[dx];exact cV.tuple (xs:=[_,_]) (ys:=[_,_]) (cV.cons Fv (cV.cons (.cy rfl) (cV.nil aj)))
end
section
variable {P:Program} {w:World} {o:Oper} {a:Act} {aj:eE} {cQ:Nat} {z:aM} {m:W} {aX id:Nat}
theorem awi{k:af}(h:k.pure=true):k.gu id z m=m:=by cases k<;>first|rfl|(simp[af.pure]at h)
theorem avV{k:af}(aa:w3 P o=some k)(ar:k.jO=false)(M:gx aj cQ z a)(av:dy aX aj m w)(cK:aX<=w.heap.size)(eg:k.eW=true->id<m.next)(az:k.eW=true->aj id=none)(ao:k.ok z m=true):oo P o k a aX aj z m w id:=by
  by_cases ai:k.pure=true
  · obtain⟨bu,D,H⟩:=awj (w:=w) (m:=m) aa ai M ao id;exact⟨bu,w,aj,D,ga.refl aj,λ_ _=>rfl,H,by rw[awi ai];exact av,Below.refl _ _⟩
  · rcases Jh aa with aa|rfl
    rotate_left
    · rw[afC]at ao;cases ao
    unfold Bt at aa;split at aa
    · split at aa<;>cases aa;exact absurd rfl ai
    · split at aa<;>cases aa;exact absurd rfl ai
    · split at aa<;>cases aa;exact absurd rfl ai
    · split at aa<;>cases aa;exact absurd rfl ai
    · -- dz
      rename_i e bx;split at aa<;>cases aa;rename_i I bD;exact ax1 bx bD av cK (eg rfl) (az rfl)
    · -- l0
      rename_i e x bx;split at aa<;>cases aa;rename_i G;exact ax4 bx G M ao av cK (eg rfl) (az rfl)
    · (repeat' split at aa)<;>cases aa<;>exact absurd rfl ai
    · -- buildSlice
      rename_i t n ps bx;split at aa
      · rename_i e bt;split at aa
        · rename_i I bD;split at aa
          · rename_i hv bc;split at aa<;>cases aa;rename_i nA;simp only[aY,eO]at nA;exact ax5 bx bt bD bc nA.1 nA.2 M av cK (eg rfl) (az rfl) ao
          · cases aa
        · cases aa
      · cases aa
    · -- kx
      rename_i t x bx;split at aa
      · rename_i dd n sN au;split at aa<;>cases aa;rename_i G;exact ax9 bx sN au G M av ao
      · cases aa
    · -- store
      rename_i t x v bx;split at aa
      · rename_i n au;split at aa<;>cases aa;rename_i G;simp only[aY]at G;exact ayf bx au G.1 G.2 M av ao
      · cases aa
    · (repeat' split at aa)<;>cases aa<;>exact absurd rfl ai
    · (repeat' split at aa)<;>cases aa<;>exact absurd rfl ai
    · -- convert
      rename_i s d x bx;split at aa
      · split at aa<;>cases aa;exact absurd rfl ai
      · split at aa<;>cases aa;exact absurd rfl ai
      · rename_i e qQ ox;split at aa
        · rename_i bQ;split at aa<;>cases aa;rename_i G;exact ax7 bx qQ ox bQ G M av ao
        · cases aa
      · rename_i e qQ ox;split at aa
        · rename_i bQ;split at aa<;>cases aa;rename_i G;exact ax8 bx qQ ox bQ G M av cK (eg rfl) (az rfl) ao
        · cases aa
      · cases aa
    · -- makeSlice
      rename_i t l c bx;split at aa
      · rename_i e bt;split at aa
        · rename_i I bC bD ak;split at aa<;>cases aa;rename_i G;simp only[aY]at G;exact ayb bx bt bD ak G.1 G.2 M av cK (eg rfl) (az rfl) ao
        · cases aa
      · cases aa
    · -- slice
      rename_i t x cp ak fk bx;split at aa
      · split at aa<;>cases aa;exact absurd rfl ai
      · (repeat' split at aa)<;>cases aa<;>exact absurd rfl ai
      · rename_i n e ax;split at aa
        · rename_i I bD;split at aa<;>cases aa;rename_i nA;simp only[aY,yG]at nA;exact aye bx ax bD nA.1.1.1 nA.1.1.2 nA.1.2 nA.2 M av ao
        · cases aa
      · cases aa
    · (repeat' split at aa)<;>cases aa<;>exact absurd rfl ai
    · (repeat' split at aa)<;>cases aa<;>exact absurd rfl ai
    · (repeat' split at aa)<;>cases aa<;>exact absurd rfl ai
    · (repeat' split at aa)<;>cases aa<;>exact absurd rfl ai
    · (repeat' split at aa)<;>cases aa<;>exact absurd rfl ai
    · (repeat' split at aa)<;>cases aa<;>exact absurd rfl ai
    · (repeat' split at aa)<;>cases aa<;>exact absurd rfl ai
    · -- makeMap
      rename_i t r bx;split at aa
      · rename_i k e bt;cases aa;exact aya bx av cK (eg rfl) (az rfl)
      · cases aa
    · -- lookup
      rename_i t x i ok bx;split at aa
      · rename_i k e bt;split at aa
        · rename_i a4 I g5 bD;split at aa<;>cases aa;rename_i G;simp only[aY]at G;exact ayc bx bt (VX g5) bD G.1 G.2 M av ao
        · cases aa
      · cases aa
    · -- mapUpdate
      rename_i t x k v bx;split at aa
      · rename_i s7 e bt;split at aa
        · rename_i a4 g5;split at aa<;>cases aa;rename_i G;simp only[aY]at G;exact ayd bx bt (VX g5) G.1.1 G.1.2 G.2 M av ao
        · cases aa
      · cases aa
    · (repeat' split at aa)<;>cases aa<;>exact absurd rfl ai
    · -- dm
      rename_i c bx;unfold Ev at aa;split at aa
      · split at aa<;>cases aa;simp[af.jO]at ar
      · (repeat' split at aa)<;>cases aa<;>simp[af.jO]at ar
      · (repeat' split at aa)<;>cases aa<;>simp[af.jO]at ar
      · (repeat' split at aa)<;>cases aa<;>exact absurd rfl ai
      · rename_i b0;split at aa
        · rename_i x y t bo ax dh;split at aa
          · rename_i e bt;split at aa
            · rename_i bC ak;split at aa
              · rename_i PQ;subst PQ;split at aa<;>cases aa;rename_i G;simp only[aY]at G;obtain⟨⟨D,H⟩,aq⟩:=G;obtain⟨I,bD⟩:=II.1 aq;exact ax2 bx b0 ax dh bt ak bD D H M av cK (eg rfl) (az rfl) ao
              · split at aa
                · rename_i Sk D1 aS bD;split at aa<;>cases aa;rename_i G;simp only[aY]at G;exact ax3 bx b0 ax dh bt aS ak bD G.1 G.2 M av cK (eg rfl) (az rfl) ao
                · cases aa
            · cases aa
          · cases aa
        · cases aa
      · (repeat' split at aa)<;>cases aa<;>exact absurd rfl ai
      · (repeat' split at aa)<;>cases aa<;>exact absurd rfl ai
      · (repeat' split at aa)<;>cases aa<;>exact absurd rfl ai
      · rename_i b0;split at aa
        · rename_i x t ax dh;split at aa
          · rename_i e bt;split at aa
            · rename_i D1 bD;split at aa<;>cases aa;rename_i G;exact ax6 bx b0 ax dh bt bD G M av ao
            · cases aa
          · cases aa
        · cases aa
      · cases aa
    · cases aa
theorem ag4{I bytes:Nat}{x y:Operand}(aa:w3 P o=some (.app I bytes x y))(M:gx aj cQ z a)(av:dy aX aj m w)(cK:aX<=w.heap.size)(eg:id<m.next)(az:aj id=none)(ao:(af.app I bytes x y).ok z m=true):
    U4 P o I bytes x y a aX aj z m w id:=by
  rcases Jh aa with aa|cR
  rotate_left
  · cases cR
  unfold Bt at aa;split at aa
  case h_27 c bx=>
    unfold Ev at aa;split at aa
    case h_5 b0=>
      split at aa
      · rename_i x y t bo ax dh;split at aa
        · rename_i e bt;split at aa
          · rename_i bC ak;split at aa
            · rename_i PQ;subst PQ;split at aa<;>cases aa;rename_i G;simp only[aY]at G;obtain⟨⟨D,H⟩,aq⟩:=G;obtain⟨I,bD⟩:=II.1 aq;exact aeZ bx b0 ax dh bt ak bD D H M av cK eg az ao
            · (repeat' split at aa)<;>cases aa
          · cases aa
        · cases aa
      · cases aa
    all_goals((repeat' split at aa)<;>cases aa)
  all_goals((repeat' split at aa)<;>cases aa)
def D4(P:Program)(f:Nat):Prop:= ∃fn,P.funcs[f]?=some fn∧fn.body.isSome=true∧(fn.name== "runtime.NumGoroutine")=false
theorem adA{name:String}{r:TypeId×Nat×Option (Bool×Nat)}(h:r∈St P name):Ak P name r.1=some r/\r.1<P.types.size:=by
  unfold St at h;obtain⟨t,D,H⟩:=tJ.1 h;have:r.1=t:=by
    unfold Ak at H
    (repeat' split at H)<;>cases H<;>rfl
  subst this;exact⟨H,by simpa using D⟩
theorem axf{name:String}{t f:Nat}{v:Value}(h:Ak P name t=some (t,f,none)/\t<P.types.size):
    (method (P.types.size+Made.depth) t v name).run P w= .ok (f,v) w:=by
  obtain⟨h,ek⟩:=h;unfold Ak at h
  (repeat' split at h)<;>cases h
  rename_i Py _ An Fc ai _ _ _ sC aS BN;obtain⟨n,au⟩: ∃n,P.types.size+Made.depth=n+1:=⟨P.types.size+Made.depth-1,by omega⟩;have Xw:An.path.toList=[]:=by simpa using ai
  rw[au];simp[method,typeInfo,Py,Fc,Xw,follow,BN,receiverAt,underlying,aS,Place.get]
theorem Tl{f:Nat}{args:Array Value}(h:D4 P f):(callFunc f args).run P w= .ok (.enter f args) w:=by
  obtain⟨fn,D,H,aq⟩:=h;have aE:fn.body≠none:=by intro hb;simp[hb]at H
  have bq:fn.name≠ "runtime.NumGoroutine" :=by simpa using aq
  simp[callFunc,D,aE,bq]
theorem axi{bz:Array TypeId}{t:TypeId}{dU:Addr}{x y:String}:Builtin.ssaWrapNilChk_ bz t #[.pointer (some dU),strVal x,strVal y]=pure (.pointer (some dU)):=rfl
theorem axg{name:String}{t f n:Nat}{dd:Bool}{dU:Addr}{ds:List Value}(h:Ak P name t=some (t,f,some (dd,n))/\t<P.types.size)
    (D:dd=true\/n=1) (aD:ds.length=n) (ar: ∀(j:Nat) bo,ds[j]?=some bo->w.cell? (dU.add j)=some bo):
    (method (P.types.size+Made.depth) t (.pointer (some dU)) name).run P w= .ok (f,if dd then .agg ds.toArray else ds.headD undef) w:=by
  obtain⟨h,ek⟩:=h;unfold Ak at h
  (repeat' split at h)<;>cases h
  rename_i Py _ An Fc ai _ _ _ sC aS _ _ BN sN au;obtain⟨n,xu⟩: ∃n,P.types.size+Made.depth=n+1:=⟨P.types.size+Made.depth-1,by omega⟩;have Xw:An.path.toList=[]:=by simpa using ai
  have J7:=Tn (P:=P) (w:=w) sN au D aD ar;have ajS:An.path= #[]:=by simpa using ai
  rw[xu];simp[method,typeInfo,Py,Fc,follow,BN,receiverAt,underlying,aS,Place.get,ajS,axi,asAddr,J7]
theorem aeT{name:String}{t f:Nat}{v aeE:Value}{args:Array Value}(av:(method (P.types.size+Made.depth) t v name).run P w= .ok (f,aeE) w)(a6:D4 P f):
    (invoke (.fn (.method name) #[]) (#[.iface t v]++args)).run P w= .ok (.enter f (#[aeE]++args)) w:=by
  have cR:(#[Value.iface t v]++args)[0]?=some (.iface t v):=by rw[IH (by simp)];rfl
  have D:(#[Value.iface t v]++args).extract 1 (#[Value.iface t v]++args).size=args:=by simp
  simp only[invoke,cR,D,callMethod,Sem.run_bind,run_program,Result.andThen_ok,av,Tl a6]
def o2(P:Program)(aX:Nat)(bG:Callee):Prop:= ∀f args m r an,bG f args m=some (r,an)->D4 P f/\m.next<=an.next/\(∀b,b<m.next->m.X b=none->an.X b=none)/\
  (∀id x,id<m.next->m.X id=none->bG f args (m.a0 id x)=some (r,an.a0 id x))/\
  ∀ aj w (mY:Array Value),cV aj args mY.toList->dy aX aj m w->aX<=w.heap.size->
    Calls P f mY w λe cN=> ∃v cC,e= .returned v/\ga aj cC/\(∀b,b<m.next->cC b=aj b)/\dB cC r v/\dy aX cC an cN/\Below aX w cN
theorem ahE{k:af}(aa:w3 P o=some k)(M:gx aj cQ z a)(av:dy aX aj m w){f:Nat}{args:List Value}(gj:k.fb z m=some (f,args))(a6:D4 P f):
    ∃mY:Array Value,(execOp a.eval o).run P w= .ok (.enter f mY) w/\cV aj args mY.toList:=by
  rcases Jh aa with aa|rfl
  rotate_left
  · cases gj
  unfold Bt at aa;split at aa
  case h_27 c bx=>
    unfold Ev at aa;split at aa
    · -- a method dR Og interface value
      rename_i t name b0;split at aa<;>cases aa;rename_i nA;simp only[af.fb]at gj;have az:=M.Y (x:= .tmp t) rfl;split at gj
      · rename_i nS v ad;rw[ad]at az;obtain⟨bu,aK,fL⟩:=az.FG;split at gj
        · rename_i cJ g Fb;simp only[ll,wU]at gj;obtain⟨rfl,rfl⟩:=gj;have PR:cJ=nS:=(by have:=List.find?_some Fb;simpa using this);subst PR;refine⟨#[bu]++c.args.map a.eval,?_,by simpa using cV.cons fL (C8 M _ nA)⟩;have PE:=axf (w:=w) (v:=bu) (adA (List.mem_of_find?_eq_some Fb));simp only[execOp,bx,resolve,b0,Sem.run_bind,aK,Sem.run_pure,Result.andThen_ok];exact aeT PE a6
        · rename_i cJ g dd n Fb;split at gj
          · rename_i ao;simp only[ll,wU]at gj;obtain⟨rfl,rfl⟩:=gj;have PR:cJ=nS:=(by have:=List.find?_some Fb;simpa using this);subst PR;simp only[aY,rq,eO]at ao;obtain⟨dU,ds,D,H,aq,aE⟩:=Sp av fL ao.1 ao.2;refine⟨#[if dd then .agg ds.toArray else ds.headD undef]++c.args.map a.eval,?_,by simpa using cV.cons aE (C8 M _ nA)⟩;have PE:=axg (w:=w) (adA (List.mem_of_find?_eq_some Fb)) ao.2 H aq;simp only[execOp,bx,resolve,b0,Sem.run_bind,aK,Sem.run_pure,Result.andThen_ok,D];exact aeT PE a6
          · cases gj
        · cases gj
      · cases gj
    · -- a named aiH
      rename_i g b0;split at aa
      · rename_i fn BN;split at aa<;>cases aa;rename_i nA;simp only[aY]at nA;simp only[af.fb,ll,wU]at gj;obtain⟨rfl,rfl⟩:=gj;refine⟨c.args.map a.eval,?_,by simpa using C8 M _ nA.2⟩;have D:a.eval (.func g)= .func (.func g) #[] #[]:=rfl;simp only[execOp,bx,resolve,b0,Sem.run_bind,D,Deferred.ofValue,Sem.run_pure,Result.andThen_ok,invoke];rw[Tl a6];simp
      · cases aa
    · -- a aiH value
      rename_i t b0;split at aa<;>cases aa;rename_i nA;simp only[af.fb]at gj;have az:=M.Y (x:= .tmp t) rfl;split at gj
      · rename_i g first l3 ad
        simp only[ll,wU]at gj;obtain⟨rfl,rfl⟩:=gj;rw[ad]at az;obtain⟨ys,ds,D,H,aq⟩:=az.zz;refine⟨ys++c.args.map a.eval++ds,?_,by simpa using(H.oq (C8 M _ nA)).oq aq⟩;simp only[execOp,bx,resolve,b0,Sem.run_bind,D,Deferred.ofValue,Sem.run_pure,Result.andThen_ok,invoke];rw[Tl a6]
      · cases gj
    all_goals((repeat' split at aa)<;>cases aa<;>simp[af.fb]at gj)
  all_goals((repeat' split at aa)<;>cases aa<;>simp[af.fb]at gj)
end
section
variable {P:Program} {w:World} {o:Oper} {a:Act} {aj:eE} {cQ:Nat} {z:aM} {m:W} {aX:Nat} {ops:Array Oper} {bG:Callee} {base:Nat}
def va(P:Program)(ops:Array Oper)(cQ:Nat)(b8:bp)(o:Oper):Prop:=
  ops[b8.aN]?=some o/\w3 P o=some b8.k/\Jg ops o=some b8.g/\o.dst=b8.d/\b8.d.all (λd=>decide (d<cQ))=true
theorem afP{g:Option (Nat×Bool)}(aF:Jg ops o=some g)(M:gx aj cQ z a):Region.wanted o (yielded ops a.tmps)=eA z g:=by
  unfold Jg at aF;split at aF
  · rename_i h;cases aF;simp[Region.wanted,h,eA]
  · rename_i j b h;split at aF
    · rename_i t bt;cases aF;have az:=M.ml t;simp only[Region.wanted,h,eA,yielded,bt,Option.bind_some];rw[Array.getD_eq_getD_getElem?]at az;cases ad:a.tmps[t]? with
      | none=>
        rw[ad]at az;simp only[Option.getD_none]at az;cases aS:z t<;>try rfl
        rw[aS]at az;have:=az.qd;simp[undef]at this
      | some v=>
        rw[ad]at az;simp only[Bg]at az;cases aS:z t
        case bool c=>rw[aS]at az;rw[az.qd];simp
        all_goals
          rw[aS]at az;cases v
          case bool c=>cases az
          all_goals rfl
    · cases aF
theorem MM{k:af}(h:k.ok z m=true):k.jO=false:=by cases k<;>first|rfl|(simp[af.ok]at h)
theorem afm{b8:bp}{ae:aM}{an:W}(b0:o2 P aX bG)(ar:va P ops cQ b8 o)(M:gx aj cQ z a)(av:dy aX aj m w)(cK:aX<=w.heap.size)(eg:b8.k.eW=true->base+b8.aN<m.next)(az:b8.k.eW=true->aj (base+b8.aN)=none)
    (hI:g9 bG base b8 z m=some (ae,an)) {aT:Act->World->Prop} {Q:Exit->Act->World->Prop}
    (dY: ∀dF cN cC,ga aj cC->(∀b,b<m.next->b≠base+b8.aN->cC b=aj b)->gx cC cQ ae dF->dy aX cC an cN->Below aX w cN->aT dF cN):wpOp P ops Q b8.aN aT a w:=by
  obtain⟨D,H,aq,aE,bq⟩:=ar;unfold wpOp;simp only[D];rw[afP aq M];unfold g9 at hI;by_cases aZ:eA z b8.g=true
  · rw[if_pos aZ]at hI⊢;refine .inl ?_;unfold Oper.wp;cases gj:b8.k.fb z m with
    | some kr=>
      obtain⟨f,args⟩:=kr;rw[gj]at hI;simp only at hI;cases a6:bG f args m with
      |none=>rw[a6]at hI;cases hI
      | some DT=>obtain⟨v,dH⟩:=DT;rw[a6]at hI;simp only[ll,wU]at hI;obtain⟨rfl,rfl⟩:=hI;obtain⟨aQ,a7,cD,_,dI⟩:=b0 f args m v dH a6;obtain⟨mY,aK,aR⟩:=ahE (w:=w) H M av gj aQ;rw[aK,Oper.upon_enter];refine(dI aj w mY aR av cK).mono λe cN aH=> ?_;obtain⟨bu,cC,rfl,a3,br,bX,e1,fY⟩:=aH;rw[aE];exact dY _ _ cC a3 (λb hb _=>br b hb) ((M.b6 a3).a0 bq bX) e1 fY
    | none=>
      rw[gj]at hI;simp only at hI;split at hI
      · rename_i ao;simp only[ll,wU]at hI;obtain⟨rfl,rfl⟩:=hI;obtain⟨bu,cN,cC,y,a3,br,bX,e1,fY⟩:=avV H (MM ao) M av cK eg az ao;have aa:=dY (a.put b8.d bu) cN cC a3 (λb _ hb=>br b hb) ((M.b6 a3).a0 bq bX) e1 fY;rcases y with y|⟨y,rfl⟩
        · rw[y,Oper.upon_value,aE];exact aa
        · rw[y,Oper.upon_skip,aE];exact aa
      · cases hI
  · rw[if_neg aZ]at hI⊢;simp only[ll,wU]at hI;obtain⟨rfl,rfl⟩:=hI;rw[aE];exact dY _ _ aj (ga.refl aj) (λ_ _ _=>rfl) (M.a0 bq (dB.undef aj)) av (Below.refl _ _)
theorem DH{b8:bp}{ae:aM}{an:W}(b0:o2 P aX bG)(hI:g9 bG base b8 z m=some (ae,an)):m.next<=an.next:=by
  unfold g9 at hI;split at hI
  · split at hI
    · split at hI
      · rename_i a6;cases hI;exact(b0 _ _ _ _ _ a6).2.1
      · cases hI
    · split at hI
      · cases hI;cases b8.k<;>simp only[af.gu]<;>try exact dW _
        · unfold nq;split<;>try exact dW _
          split<;>exact dW _
        · split
          · exact dW _
          · unfold kf;split<;>exact dW _
        · unfold mv;split<;>try exact dW _
          split<;>exact dW _
      · cases hI
  · cases hI;exact dW _
theorem JO{b ca:Nat}{x:Option fq}(h:m.X b=none)(cW:b≠ca):(m.a0 ca x).X b=none:=by rw[W.m2,if_neg cW];exact h
theorem WO{b ca:Nat}{a9:List (Value×Value)}(h:m.X b=none)(cW:b≠ca):(m.gL ca a9).X b=none:=by unfold W.X W.gL at*;simp only[if_neg cW];exact h
theorem Ny{b8:bp}{ae:aM}{an:W}(b0:o2 P aX bG)(hI:g9 bG base b8 z m=some (ae,an)){b:Nat}(hb:b<m.next)(cW:b≠base+b8.aN)(aF:m.X b=none):an.X b=none:=by
  unfold g9 at hI;split at hI
  · split at hI
    · split at hI
      · rename_i a6;cases hI;exact(b0 _ _ _ _ _ a6).2.2.1 b hb aF
      · cases hI
    · split at hI
      · rename_i ao;cases hI;cases aa:b8.k<;>simp only[af.gu]<;>try exact aF
        all_goals try exact JO aF cW
        all_goals try exact WO aF cW
        · unfold nq;split
          · rename_i dU;split
            · rename_i x G;exact JO aF (λe=>by rw[e,G]at aF;cases aF)
            · exact aF
          · exact aF
        · split
          · exact aF
          · refine JO ?_ cW;unfold kf;split
            · rw[W.m2];split
              · split<;>rfl
              · exact aF
            · exact aF
        · unfold mv;split
          · rename_i dU _ _ _;split
            · rename_i x G;exact JO aF (λe=>by rw[e,G]at aF;cases aF)
            · exact aF
          · exact aF
        · rename_i a4 x k v;rw[aa]at ao;simp only[af.ok]at ao;cases aS:Y z x<;>simp only[aS]at ao<;>try cases ao
          rename_i p;cases p with
          |none=>simp at ao
          | some ev=>
            simp only at ao;cases Xd:m.eK ev with
            |none=>simp[Xd]at ao
            | some a9=>have iz:=(W.ua Xd).1;exact WO aF (λe=>by have dX:b=ev:=e;rw[dX,iz]at aF;cases aF)
      · cases hI
  · cases hI;exact aF
theorem qo{b8:bp}{L:List bp}{s:aM×W}(h:jG bG base (b8::L) z m=some s): ∃bI bg,g9 bG base b8 z m=some (bI,bg)/\nU b8 z m bg/\jG bG base L bI bg=some s:=by
  unfold jG at h;split at h
  · rename_i bI bg D;split at h
    · rename_i g5;exact⟨bI,bg,D,g5,h⟩
    · cases h
  · cases h
theorem wx{b8:bp}{L:List bp}{s:aM×W}{bI:aM}{bg:W}(D:g9 bG base b8 z m=some (bI,bg))(H:nU b8 z m bg)(aq:jG bG base L bI bg=some s):jG bG base (b8::L) z m=some s:=by unfold jG;rw[D];simp only[if_pos H,aq]
theorem HT(b0:o2 P aX bG): ∀(L:List bp) (z:aM) (m:W) (s:aM×W),jG bG base L z m=some s->m.next<=s.2.next
  |[],z,m,s,h=>by simp[jG]at h;subst h;exact dW _
  | b8::L,z,m,s,h=>by obtain⟨bI,bg,D,_,aq⟩:=qo h;exact kZ (DH b0 D) (HT b0 L _ _ _ aq)
theorem Tj(b0:o2 P aX bG){b:Nat}(hb:b<base): ∀(L:List bp) (z:aM) (m:W) (s:aM×W),base<=m.next->jG bG base L z m=some s->m.X b=none->s.2.X b=none
  |[],z,m,s,_,h,aF=>by simp[jG]at h;subst h;exact aF
  | b8::L,z,m,s,au,h,aF=>by obtain⟨bI,bg,D,_,aq⟩:=qo h;exact Tj b0 hb L _ _ _ (kZ au (DH b0 D)) aq (Ny b0 D (by omega) (by omega) aF)
theorem SS(b0:o2 P aX bG){Q:Exit->Act->World->Prop}{T:List Nat}: ∀(L:List bp) (z:aM) (m:W) (a:Act) (w:World) (aj:eE) (ae:aM) (an:W),
    (∀b8∈L,∃o,va P ops cQ b8 o)->(L.map (·.aN)).Nodup->gx aj cQ z a->dy aX aj m w->aX<=w.heap.size->(∀b8∈L,b8.k.eW=true->base+b8.aN<m.next/\aj (base+b8.aN)=none)->jG bG base L z m=some (ae,an)->
    (∀dF cN cC,ga aj cC->(∀b,b<m.next->(∀b8∈L,b≠base+b8.aN)->cC b=aj b)->gx cC cQ ae dF->dy aX cC an cN->Below aX w cN->wpOps P ops Q T dF cN)->wpOps P ops Q (L.map (·.aN)++T) a w
  | [],z,m,a,w,aj,ae,an,_,_,M,av,_,_,h,bT=>by simp only[jG,ll,wU]at h;obtain⟨rfl,rfl⟩:=h;exact bT a w aj (ga.refl aj) (λ_ _ _=>rfl) M av (Below.refl _ _)
  | b8::L,z,m,a,w,aj,ae,an,vz,hS,M,av,cK,eg,h,bT=>by
    obtain⟨bI,bg,D,_,aq⟩:=qo h;obtain⟨o,aC⟩:=vz b8 (by simp);simp only[ln,List.nodup_cons]at hS;rw[ln,wR,wpOps_cons];have jW:=DH b0 D;refine afm b0 aC M av cK (λh=>(eg b8 (by simp) h).1) (λh=>(eg b8 (by simp) h).2) D λdF cN cC a3 br bX e1 fY=> ?_;refine SS b0 L bI bg dF cN cC ae an (λi ak=>vz i (by simp[ak])) hS.2 bX e1 (kZ cK fY.size) (λi ak fc=> ?_) aq λbJ e3 lW fX g1 hL jb uH=> ?_
    · have:=eg i (by simp[ak]) fc;refine⟨by omega,?_⟩;rw[br _ this.1 (λe=>hS.1 (g4.2 ⟨i,ak,by omega⟩))];exact this.2
    · exact bT bJ e3 lW (a3.trans fX) (λb hb cW=>(g1 b (by omega) (λi ak=>cW i (by simp[ak]))).trans (br b hb (cW b8 (by simp)))) hL jb (fY.trans uH)
theorem aus{b8:bp}(ar:va P ops cQ b8 o)(M:gx aj cQ z a)(av:dy aX aj m w)(cK:aX<=w.heap.size)(eg:base+b8.aN<m.next)(az:aj (base+b8.aN)=none)(aD:mI b8 z m=true)
    {aT:Act->World->Prop} {Q:Exit->Act->World->Prop}
    (dY: ∀dF cN cC,ga aj cC->(∀b,b≠base+b8.aN->cC b=aj b)->gx cC cQ (c0 z b8.d (b8.k.val (base+b8.aN) z m)) dF->dy aX cC (b8.k.gu (base+b8.aN) z m) cN->dy cN.heap.size cC (m8 m) cN->Below aX w cN->aT dF cN):wpOp P ops Q b8.aN aT a w:=by
  obtain⟨D,H,aq,aE,bq⟩:=ar;obtain⟨aN,d,g,k,a4⟩:=b8;simp only at D H aq aE bq eg az dY⊢;simp only[mI,aY,yG]at aD;obtain⟨⟨aF,bt⟩,ao⟩:=aD;subst aF;unfold wpOp;simp only[D];rw[afP aq M,if_pos (show eA z none=true from rfl)];refine .inl ?_;unfold Oper.wp;split at bt
  · rename_i I bytes x y;obtain⟨bu,cN,cC,az1,a3,br,bX,e1,fY,nL⟩:=ag4 H M av cK eg az ao;have a6:dy cN.heap.size cC (m8 m) cN:=by
      have pk: ∀b x,(m8 m).X b=some x-> ∃bo,m.X b=some bo/\x=BY bo:=by
        intro b x hb;unfold W.X at hb⊢;change (if b<m.next then _ else _)=_ at hb;split at hb
        · rename_i ek;rw[if_pos ek];simp only[m8,rn]at hb;obtain⟨bo,aQ,a7⟩:=hb;exact⟨bo,aQ,a7.symm⟩
        · cases hb
      have au:((af.app I bytes x y).gu (base+aN) z m).next=m.next:=by
        simp only[af.gu];split
        · rfl
        · unfold kf;split<;>rfl
      refine⟨λb l hb=>by have:=e1.kn b l hb;rw[au]at this;exact this,e1.lN,λb x hb=> ?_,λb x ca hM l de hb iW=> ?_,λb a9 hb=>(by cases hb),λb a9 hb=> ?_⟩
      · obtain⟨bo,aQ,rfl⟩:=pk b x hb;obtain⟨l,aK,aR,cB,_⟩:=av.lQ b bo aQ;refine⟨l,a3 b l aK,aR,λi v ad=> ?_,λh=>by cases h⟩;obtain⟨mx,bu,kp,qK⟩:=cB i v ad;exact⟨mx,bu,by rw[nL bt b bo l aQ aK i (eB.1 ad).1];exact kp,qK.b6 a3⟩
      · obtain⟨bo,_,rfl⟩:=pk b x hb;cases iW
      · obtain⟨aQ,_⟩:=W.ua hb;obtain⟨bo,_,a7⟩:=pk b _ aQ;simp[BY]at a7
    have aa:=dY (a.put d bu) cN cC a3 br ((M.b6 a3).a0 bq bX) e1 a6 fY;rcases az1 with y|⟨y,rfl⟩
    · rw[y,Oper.upon_value,aE];exact aa
    · rw[y,Oper.upon_skip,aE];exact aa
  · cases bt
theorem auq{sr:Nat}{lW:eE}{bg dH:W}{c3 e3:World}(cK:sr=c3.heap.size)(D:dy aX aj bg c3)(H:dy sr lW dH e3)(e7:ga aj lW)(au:bg.next<=dH.next)(hb:Below sr c3 e3):dy aX lW (bg.dp (dH.next-bg.next)) e3:=by
  subst cK;have ar: ∀b l,aj b=some l->e3.heap[l.c]?=c3.heap[l.c]?:= λb l h=>hb.block _ (D.lN b l h);have aS: ∀b l de,aj b=some l->lW b=some de->de=l:= λb l de h bN=>by have:=e7 b l h;rw[bN]at this;cases this;rfl
  refine⟨λb l h=>by have:=H.kn b l h;rw[W.sy];omega,H.lN,λb x G=> ?_,λb x ca hM l de G aC jk cW aD iV=> ?_,λb a9 h=> ?_,λb a9 h=> ?_⟩
  · rw[W.e6]at G;obtain⟨l,aK,aR,cB,gX⟩:=D.lQ b x G;have xl: ∀i,e3.cell? ⟨l.c,l.o+i,none⟩=c3.cell? ⟨l.c,l.o+i,none⟩:= λi=>by simp only[World.cell?,ar b l aK]
    have fe: ∀i,e3.frozen? ⟨l.c,l.o+i,none⟩=c3.frozen? ⟨l.c,l.o+i,none⟩:= λi=>by simp only[World.frozen?,ar b l aK]
    refine⟨l,e7 b l aK,aR,λi v ad=> ?_,λaC=>⟨(gX aC).1,λi ak=>by rw[xl,fe];exact(gX aC).2 i ak⟩⟩;obtain⟨mx,bu,kp,qK⟩:=cB i v ad;exact⟨mx,bu,by rw[xl];exact kp,qK.b6 e7⟩
  · rw[W.e6]at G jk;obtain⟨k,aK,_⟩:=D.lQ b x G;obtain⟨eX,Wf,_⟩:=D.lQ ca hM jk;rw[aS b k l aK aD,aS ca eX de Wf iV];exact D.qL b x ca hM k eX G aC jk cW aK Wf
  · obtain⟨l,e⟩:=D.tc b a9 h;exact⟨l,e7 b l e⟩
  · obtain⟨aQ,a7⟩:=W.ua h;rw[W.e6]at aQ;obtain⟨l,c1,a4,aK,aR,cB,gX⟩:=D.maps b a9 (W.jM aQ a7);exact⟨l,c1,a4,e7 b l aK,aR,by rw[ar b l aK];exact cB,gX.b6 e7⟩
theorem aei(b0:o2 P aX bG){Q:Exit->Act->World->Prop}(L:List bp)(z:aM)(m:W)(a:Act)(w:World)(aj:eE)(ae:aM)(an:W)
    (D: ∀b8∈L,∃o,va P ops cQ b8 o) (H:(L.map (·.aN)).Nodup) (M:gx aj cQ z a) (av:dy aX aj m w) (cK:aX<=w.heap.size) (aq: ∀b8∈L,b8.k.eW=true->base+b8.aN<m.next/\aj (base+b8.aN)=none) (aE:jG bG base L z m=some (ae,an))
    (bT: ∀dF cN cC,ga aj cC->(∀b,b<base->b<m.next->cC b=aj b)->gx cC cQ ae dF->dy aX cC an cN->Below aX w cN->Q .normal dF cN):wpOps P ops Q (L.map (·.aN)) a w:=by
  have:=SS (T:=[]) (Q:=Q) b0 L z m a w aj ae an D H M av cK aq aE λdF cN cC a3 br bX e1 fY=>bT dF cN cC a3 (λb hb l6=>br b l6 λb8 _=>by omega) bX e1 fY
  rwa [u4]at this
end
def af.gh(k:af)(id:Nat)(z:aM)(m:W):List (Nat×Option fq):=
  match k with
  | .dz I=>[(id,some ⟨I,true⟩)]
  | .l0 x=>[(id,some ⟨O (Y z x),true⟩)]
  | .fR _ _ I ps=>[(id,some ⟨lE I z ps,true⟩)]
  | .store _ x v=>match Y z x with
    | .pointer (some a)=>(match m.X a.block with|some b=>[(a.block,some ⟨gy b.cells a.off (O (Y z v)),b.own⟩)]|none=>[])
    |_=>[]
  | .ny x=>[(id,some ⟨wh (pZ (Y z x)),true⟩)]
  | .jY _ _ zero l _=>[(id,some ⟨(List.replicate (eG (Y z l)).toNat zero).flatten,true⟩)]
  | .lZ _ _ zero _ l=>[(id,some ⟨(List.replicate (eG (Y z l)).toNat zero).flatten,true⟩)]
  | .app I _ x y=>if gv (Y z y)=0 then[]else(match Y z x with| .slice (some a) _ _=>[(a.block,none)]|_=>[])++[(id,some ⟨fZ m I (Y z x)++fZ m I (Y z y),true⟩)]
  |_=>[]
def hN(m:W)(l:List (Nat×Option fq)):W:=l.foldl (λm p=>m.a0 p.1 p.2) m
section
variable {P:Program} {z dj:aM} {m dH:W} {aX:Nat} {bG:Callee} {base id:Nat} {k:af}
theorem adF(zj:k.uv=false):k.gu id z m=hN m (k.gh id z m):=by
  cases k<;>simp only[af.uv,Bool.true_eq_false]at zj<;>simp only[af.gu,af.gh,hN,List.foldl_nil,wS]
  · rename_i n x v;generalize Y z x=bo;cases bo<;>try rfl
    rename_i p;cases p with
    |none=>rfl
    | some dU=>simp only[nq];cases m.X dU.block<;>rfl
  · rename_i I iI x y;split
    · rfl
    · generalize Y z x=bo;cases bo<;>try rfl
      rename_i p l c;cases p<;>rfl
theorem DW: ∀p∈k.gh id z m,(k.eW=true/\p.1=id/\N (k.val id z m)=some id)\/ ∃x∈k.mn,N (Y z x)=some p.1:=by
  intro p ai;cases k<;>simp only[af.gh,iP,oX]at ai
  case dz=>subst ai;exact .inl ⟨rfl,rfl,rfl⟩
  case l0=>subst ai;exact .inl ⟨rfl,rfl,rfl⟩
  case fR=>subst ai;exact .inl ⟨rfl,rfl,rfl⟩
  case ny=>subst ai;exact .inl ⟨rfl,rfl,rfl⟩
  case jY=>subst ai;exact .inl ⟨rfl,rfl,rfl⟩
  case lZ=>subst ai;exact .inl ⟨rfl,rfl,rfl⟩
  case store n x v=>
    split at ai
    · rename_i dU h;split at ai
      · simp only[oX]at ai;subst ai;exact .inr ⟨x,by simp[af.mn],by simp[h,N]⟩
      · cases ai
    · cases ai
  case app I iI x y=>
    split at ai
    · cases ai
    · rename_i au;rcases kE.1 ai with h|h
      · split at h
        · rename_i dU l c G;simp only[oX]at h;subst h;exact .inr ⟨x,by simp[af.mn],by simp[G,N]⟩
        · cases h
      · simp only[oX]at h;subst h;exact .inl ⟨rfl,rfl,by simp[af.val,au,N]⟩
theorem O3: ∀(l:List (Nat×Option fq)) (m:W) (b:Nat),(∀p∈l,p.1≠b)->(hN m l).X b=m.X b
  |[],_,_,_=>rfl
  | p::l,m,b,h=>by show(hN (m.a0 p.1 p.2) l).X b=_;rw[O3 l _ b (λq bc=>h q (by simp[bc])),W.m2,if_neg (Ne.symm (h p (by simp)))]
theorem aez{a b:Nat}{x y:Option fq}(h:a≠b):(m.a0 a x).a0 b y=(m.a0 b y).a0 a x:=by
  unfold W.a0;simp only[W.mk.injEq,true_and,and_true];funext i;by_cases D:i=b
  · subst D;simp[Ne.symm h]
  · simp[D]
theorem Vl: ∀(l:List (Nat×Option fq)) (m:W) (b:Nat) (x:Option fq),(∀p∈l,p.1≠b)->hN (m.a0 b x) l=(hN m l).a0 b x
  |[],_,_,_,_=>rfl
  | p::l,m,b,x,h=>by show hN ((m.a0 b x).a0 p.1 p.2) l=(hN (m.a0 p.1 p.2) l).a0 b x;rw[aez (Ne.symm (h p (by simp))),Vl l _ b x (λq bc=>h q (by simp[bc]))]
theorem Vk: ∀(l r:List (Nat×Option fq)) (m:W),(∀p∈l,∀q∈r,p.1≠q.1)->hN (hN m l) r=hN (hN m r) l
  |[],_,_,_=>rfl
  | p::l,r,m,h=>by show hN (hN (m.a0 p.1 p.2) l) r=hN ((hN m r).a0 p.1 p.2) l;rw[Vk l r _ (λlD vE=>h lD (by simp[vE])),Vl r m p.1 p.2 (λq bc=>Ne.symm (h p (by simp) q bc))]
theorem Ov{b:Nat}(h:m.X b=dH.X b)(off n:Nat):hk m b off n=hk dH b off n:=by unfold hk;rw[h]
theorem Jv(zj:k.uv=false)(h: ∀x∈k.lh,∀b,N (Y z x)=some b->m.X b=dH.X b):k.ok z m=k.ok z dH/\k.val id z m=k.val id z dH/\k.gh id z m=k.gh id z dH:=by
  cases k<;>simp only[af.uv,Bool.true_eq_false]at zj<;>try exact⟨rfl,rfl,rfl⟩
  case kx dd n x=>
    have D:=h x (by simp[af.lh]);cases ad:Y z x<;>simp only[af.ok,af.val,af.gh,ad,gn,kg,and_self];rename_i p;cases p with
    |none=>simp
    | some dU=>have H:=D dU.block (by simp[ad,N]);simp only[H,Ov H,and_self]
  case oT I n x=>
    have D:=h x (by simp[af.lh]);cases ad:Y z x<;>simp only[af.ok,af.val,af.gh,ad,gn,and_self];rename_i p;cases p with
    |none=>simp
    | some dU=>have H:=D dU.block (by simp[ad,N]);simp only[H,and_self]
  case store n x v=>
    have D:=h x (by simp[af.lh]);cases ad:Y z x<;>simp only[af.ok,af.val,af.gh,ad,gn,o9,true_and,and_self];rename_i p;cases p with
    |none=>simp
    | some dU=>have H:=D dU.block (by simp[ad,N]);simp only[H,and_self]
  case mw x=>
    have D:=h x (by simp[af.lh]);cases ad:Y z x<;>simp only[af.ok,af.val,af.gh,ad,fP,fZ,and_self];rename_i p l c;cases p with
    |none=>simp
    | some dU=>have H:=D dU.block (by simp[ad,N]);simp only[H,Ov H,and_self]
  case app I iI x y=>
    have D:=h x (by simp[af.lh]);have jj:=h y (by simp[af.lh]);have s: ∀v:Value,(∀b,N v=some b->m.X b=dH.X b)->fP m I v=fP dH I v/\jS m v=jS dH v/\fZ m I v=fZ dH I v:=by
      intro v ad;cases v<;>simp only[fP,jS,fZ,and_self];rename_i p l c;cases p with
      |none=>simp
      | some dU=>have H:=ad dU.block (by simp[N]);simp only[H,Ov H,and_self]
    obtain⟨bw,bJ,cb⟩:=s _ D;obtain⟨dk,_,gG⟩:=s _ jj;simp only[af.ok,af.val,af.gh,bw,bJ,cb,dk,gG,and_self]
theorem avS(h:k.ok z m=true): ∀x∈k.lh++k.mn,∀b,N (Y z x)=some b->(m.X b).isSome=true:=by
  have ax: ∀(v:Value) n,gn m v n=true-> ∀b,N v=some b->(m.X b).isSome=true:=by intro v n ad b hb;obtain⟨ca,off,x,rfl,G,_⟩:=I5 ad;simp only[N,ll]at hb;subst hb;rw[G];rfl
  have M: ∀(v:Value) I,fP m I v=true-> ∀b,N v=some b->(m.X b).isSome=true:=by
    intro v I ad b hb;rcases AV ad with rfl|⟨ca,off,len,x,rfl,G,_⟩
    · simp[N]at hb
    · simp only[N,ll]at hb;subst hb;rw[G];rfl
  intro x G b hb;cases k<;>simp only[af.lh,af.mn,u4,iP]at G
  case kx dd n y=>simp only[oX]at G;subst G;simp only[af.ok,aY]at h;exact ax _ _ h.1 b hb
  case oT I n y=>simp only[oX]at G;subst G;simp only[af.ok,aY]at h;exact ax _ _ h.1 b hb
  case store n y v=>simp at G;subst G;simp only[af.ok,aY]at h;exact ax _ _ h.1.1.1 b hb
  case mw y=>simp only[oX]at G;subst G;simp only[af.ok,aY]at h;exact M _ _ h.1 b hb
  case hl I y=>simp at G;subst G;simp only[af.ok,aY]at h;exact M _ _ h.1.1 b hb
  case app I iI y v=>
    simp only[af.ok,aY]at h;simp at G;rcases G with rfl|rfl|rfl
    · exact M _ _ h.1.1.1.1.1 b hb
    · exact M _ _ h.1.1.1.2 b hb
    · exact M _ _ h.1.1.1.1.1 b hb
theorem xd{x:Operand}(h: ∀t,x= .tmp t->z t=dj t):Y z x=Y dj x:=by cases x<;>first|rfl|exact h _ rfl
theorem MR: ∀(ps:List (Nat×Nat×Operand)) (cs:List Value),(∀p∈ps,Y z p.2.2=Y dj p.2.2)->pD cs z ps=pD cs dj ps/\lE cs z ps=lE cs dj ps
  |[],_,_=>⟨rfl,rfl⟩
  | (a3,br,bX)::ps,cs,h=>by have cR:Y z bX=Y dj bX:=h (a3,br,bX) (by simp);have D:=(MR ps cs λp ai=>h p (by simp[ai])).1;have H:=(MR ps (gy cs a3 (O (Y dj bX))) λp ai=>h p (by simp[ai])).2;simp only[pD,mW,lE,cR]at D⊢;exact⟨by rw[D],H⟩
theorem HE{l:Option Operand}{d:Int}(h: ∀x∈l.toList,Y z x=Y dj x):nj z l=nj dj l/\gK z l d=gK dj l d:=by
  cases l with
  |none=>exact⟨rfl,rfl⟩
  |some x=>have:=h x (by simp);simp[nj,gK,this]
theorem vn(h: ∀x∈k.gR,Y z x=Y dj x):k.ok z m=k.ok dj m/\k.val id z m=k.val id dj m/\k.gh id z m=k.gh id dj m/\k.fb z m=k.fb dj m:=by
  cases k<;>simp only[af.gR,gT,iP,or_false,forall_eq_or_imp,forall_eq,kE]at h
  case eY I ps=>obtain⟨D,H⟩:=MR ps I λp ai=>h _ (g4.2 ⟨p,ai,rfl⟩);simp only[af.ok,af.val,af.gh,af.fb,D,H,and_self]
  case fR I n cs ps=>obtain⟨D,H⟩:=MR ps cs λp ai=>h _ (g4.2 ⟨p,ai,rfl⟩);simp only[af.ok,af.val,af.gh,af.fb,D,H,and_self]
  case AW x l r=>have D:= λd=>HE (l:=l) (d:=d) λy ag=>h.2 y (.inl ag);have H:= λd=>HE (l:=r) (d:=d) λy ag=>h.2 y (.inr ag);simp only[af.ok,af.val,af.gh,af.fb,h.1,(D 0).1,(H 0).1,λd=>(D d).2,λd=>(H d).2,and_self]
  case mQ I x l r=>have D:= λd=>HE (l:=l) (d:=d) λy ag=>h.2 y (.inl ag);have H:= λd=>HE (l:=r) (d:=d) λy ag=>h.2 y (.inr ag);simp only[af.ok,af.val,af.gh,af.fb,h.1,(D 0).1,(H 0).1,λd=>(D d).2,λd=>(H d).2,and_self]
  case uS I x l r fk=>have D:= λd=>HE (l:=l) (d:=d) λy ag=>h.2.2.2 y ag;simp only[af.ok,af.val,af.gh,af.fb,h.1,h.2.1,h.2.2.1,(D 0).1,λd=>(D d).2,and_self]
  case oJ fk x xs=>
    have D: ∀(l:List Operand),(∀y∈l,Y z y=Y dj y)->(l.all λy=>eT (Y z y))=(l.all λy=>eT (Y dj y))/\
        ∀dC,l.foldl (λdC y=>if fk then nG dC (Y z y)else nH dC (Y z y)) dC=l.foldl (λdC y=>if fk then nG dC (Y dj y)else nH dC (Y dj y)) dC:=by
      intro l;induction l with
      |nil=>intro _;exact⟨rfl,λ_=>rfl⟩
      | cons y l cc=>intro aD;obtain⟨aQ,a7⟩:=cc λI bD=>aD I (by simp[bD]);have:=aD y (by simp);exact⟨by simp only[mW,this,aQ],λdC=>by simp only[wS,this,a7]⟩
    obtain⟨aQ,a7⟩:=D xs h.2;simp only[af.ok,af.val,af.gh,af.fb,h.1,aQ,a7,and_self]
  case td fn xs ys=>have D:xs.map (Y z)=xs.map (Y dj):=yH λy ag=>h y (.inl ag);have H:ys.map (Y z)=ys.map (Y dj):=yH λy ag=>h y (.inr ag);simp only[af.ok,af.val,af.gh,af.fb,D,H,and_self]
  case dm f bz=>have D:bz.map (Y z)=bz.map (Y dj):=yH h;simp only[af.ok,af.val,af.gh,af.fb,D,and_self]
  case iy x bz=>have D:bz.map (Y z)=bz.map (Y dj):=yH h.2;simp only[af.ok,af.val,af.gh,af.fb,D,h.1,and_self]
  case kv a8 x bz=>have D:bz.map (Y z)=bz.map (Y dj):=yH h.2;simp only[af.ok,af.val,af.gh,af.fb,D,h.1,and_self]
  all_goals simp only[af.ok,af.val,af.gh,af.fb,h,and_self]
end
namespace Oa
theorem atE{z:aM}{m:W}{k:af}(h:k.jO=false):k.fb z m=none:=by cases k<;>first|rfl|(simp[af.jO]at h)
theorem atI{f:aM->W->Option (du×aM×W)}{j:Nat}{z:aM}{m:W}{r:du×aM×W}(h:jm f (j+1) z m=some r):
    (∃bI bg,f z m=some (.er,bI,bg)/\jm f j bI bg=some r)\/(f z m=some r/\r.1≠ .er):=by
  simp only[jm]at h;split at h
  · rename_i bI bg D;exact .inl ⟨bI,bg,D,h⟩
  · rename_i cW;refine .inr ⟨h,λH=> ?_⟩;obtain⟨fL,g8,jt⟩:=r;cases H;exact cW _ _ h
structure eR(id:Nat)(x:Option fq)(m ah:W):Prop where
  eq:ah=m.a0 id x
  c2:id<m.next
  iG:m.X id=none
section
variable {id:Nat} {x:Option fq} {m ah:W}
theorem eR.next(K:eR id x m ah):ah.next=m.next:=by rw[K.eq];rfl
theorem eR.mp(K:eR id x m ah):ah.mp=m.mp:=by rw[K.eq];rfl
theorem eR.js(K:eR id x m ah){b:Nat}{y:fq}(h:m.X b=some y):b≠id:= λay=>by subst ay;rw[K.iG]at h;cases h
theorem eR.O4(K:eR id x m ah){b:Nat}(h:b≠id):ah.X b=m.X b:=by rw[K.eq,W.m2,if_neg h]
theorem eR.X(K:eR id x m ah){b:Nat}{y:fq}(h:m.X b=some y):ah.X b=some y:=by rw[K.O4 (K.js h),h]
theorem eR.eK(K:eR id x m ah){b:Nat}{e:List (Value×Value)}(h:m.eK b=some e):ah.eK b=some e:=by
  unfold W.eK at h⊢;cases aF:m.X b with
  |none=>rw[aF]at h;cases h
  |some y=>rw[aF]at h;rw[K.X aF,K.mp];exact h
theorem eR.O2(K:eR id x m ah){b:Nat}{e:List (Value×Value)}(h:m.eK b=some e):b≠id:=by
  unfold W.eK at h;cases aF:m.X b with
  |none=>rw[aF]at h;cases h
  |some y=>exact K.js aF
theorem eR.a0(K:eR id x m ah){b:Nat}(hb:b≠id)(y:Option fq):eR id x (m.a0 b y) (ah.a0 b y) where
  eq:=by rw[K.eq];exact aez (by omega)
  c2:=K.c2
  iG:=by rw[W.m2,if_neg (by omega)];exact K.iG
theorem eR.gL(K:eR id x m ah){b:Nat}(hb:b≠id)(e:List (Value×Value)):eR id x (m.gL b e) (ah.gL b e) where
  eq:=by
    rw[K.eq];simp only[W.gL,W.a0,W.mk.injEq,true_and,and_true];funext i;by_cases D:i=b
    · subst D;simp[hb]
    · simp[D]
  c2:=K.c2
  iG:=by have:=K.iG;simp only[W.X,W.gL,show¬id=b by omega,if_false]at this⊢;exact this
theorem eR.dp(K:eR id x m ah)(k:Nat):eR id x (m.dp k) (ah.dp k) where
  eq:=by
    rw[K.eq];simp only[W.dp,W.a0,W.mk.injEq,true_and,and_true];funext i;by_cases D:i=id
    · subst D;simp[K.c2]
    · simp[D]
  c2:=by have:=K.c2;show id<m.next+k;omega
  iG:=by rw[W.e6];exact K.iG
theorem eR.gn(K:eR id x m ah){v:Value}{n:Nat}(h:gn m v n=true):gn ah v n=true:=by
  unfold DI.gn at h⊢;split at h
  · rename_i a;simp only[aY]at h⊢;refine⟨h.1,?_⟩;cases aF:m.X a.block with
    |none=>rw[aF]at h;simp at h
    |some x=>rw[aF]at h;rw[K.X aF];exact h.2
  · cases h
theorem eR.o9(K:eR id x m ah){v:Value}(h:o9 m v=true):o9 ah v=true:=by
  unfold DI.o9 at h⊢;split at h
  · rename_i a;cases aF:m.X a.block with
    |none=>rw[aF]at h;cases h
    |some x=>rw[aF]at h;rw[K.X aF];exact h
  · cases h
theorem eR.kg(K:eR id x m ah){v:Value}{n:Nat}{dd:Bool}(h:DI.gn m v n=true):kg ah dd n v=kg m dd n v:=by
  unfold DI.gn at h;split at h
  · rename_i a;simp only[aY]at h;cases aF:m.X a.block with
    |none=>rw[aF]at h;simp at h
    |some x=>simp only[DI.kg,hk,aF,K.X aF]
  · cases h
theorem eR.nq(K:eR id x m ah){v:Value}{n:Nat}{cs:List Value}(h:DI.gn m v n=true):eR id x (nq m v cs) (nq ah v cs):=by
  unfold DI.gn at h;split at h
  · rename_i a;simp only[aY]at h;cases aF:m.X a.block with
    |none=>rw[aF]at h;simp at h
    |some x=>simp only[DI.nq,aF,K.X aF];exact K.a0 (K.js aF) _
  · cases h
theorem eR.fP(K:eR id x m ah){v:Value}{I:Nat}(h:fP m I v=true):fP ah I v=true:=by
  unfold DI.fP at h⊢;split at h
  · exact h
  · rename_i a l c;simp only[aY]at h⊢;refine⟨h.1,?_⟩;cases aF:m.X a.block with
    |none=>rw[aF]at h;simp at h
    |some x=>rw[aF]at h;rw[K.X aF];exact h.2
  · cases h
theorem eR.jS(K:eR id x m ah){v:Value}(h:jS m v=true):jS ah v=true:=by
  unfold DI.jS at h⊢;split at h
  · rfl
  · rename_i a l c;cases aF:m.X a.block with
    |none=>rw[aF]at h;cases h
    |some x=>rw[aF]at h;rw[K.X aF];exact h
  · cases h
theorem eR.fZ(K:eR id x m ah){v:Value}{I:Nat}(h:DI.fP m I v=true):fZ ah I v=fZ m I v:=by
  unfold DI.fP at h;split at h
  · rfl
  · rename_i a l c;simp only[aY]at h;cases aF:m.X a.block with
    |none=>rw[aF]at h;simp at h
    |some x=>simp only[DI.fZ,hk,aF,K.X aF]
  · cases h
theorem eR.kf(K:eR id x m ah){v:Value}{I:Nat}(h:DI.fP m I v=true):eR id x (kf m v) (kf ah v):=by
  unfold DI.fP at h;split at h
  · exact K
  · rename_i a l c;simp only[aY]at h;cases aF:m.X a.block with
    |none=>rw[aF]at h;simp at h
    |some x=>exact K.a0 (K.js aF) _
  · cases h
theorem eR.mv(K:eR id x m ah){v:Value}{I:Nat}{cs:List Value}(h:DI.fP m I v=true):eR id x (mv m cs v) (mv ah cs v):=by
  unfold DI.fP at h;split at h
  · exact K
  · rename_i a l c;simp only[aY]at h;cases aF:m.X a.block with
    |none=>rw[aF]at h;simp at h
    |some x=>simp only[DI.mv,aF,K.X aF];exact K.a0 (K.js aF) _
  · cases h
theorem eR.jX(K:eR id x m ah){v:Value}{a9:List (Value×Value)}(h:jX m v=some a9):jX ah v=some a9:=by
  unfold DI.jX at h⊢;split at h
  · exact h
  · exact K.eK h
  · cases h
theorem HB(K:eR id x m ah){k:af}{z:aM}(h:k.ok z m=true):k.ok z ah=true:=by
  cases k with
  |oT I n y=>simp only[af.ok,aY]at h⊢;exact⟨K.gn h.1,h.2⟩
  |kx dd n y=>simp only[af.ok,aY]at h⊢;exact⟨K.gn h.1,h.2⟩
  |store n x v=>simp only[af.ok,aY]at h⊢;exact⟨⟨⟨K.gn h.1.1.1,K.o9 h.1.1.2⟩,h.1.2⟩,h.2⟩
  |mw x=>simp only[af.ok,aY]at h⊢;exact⟨K.fP h.1,by rw[K.fZ h.1];exact h.2⟩
  |app I bytes x y=>simp only[af.ok,aY]at h⊢;exact⟨⟨⟨⟨⟨K.fP h.1.1.1.1.1,K.jS h.1.1.1.1.2⟩,K.fP h.1.1.1.2⟩,h.1.1.2⟩,h.1.2⟩,h.2⟩
  |hl I x=>simp only[af.ok,aY]at h⊢;exact⟨⟨K.fP h.1.1,K.jS h.1.2⟩,h.2⟩
  | nd a4 I o x fK=>
    simp only[af.ok]at h⊢;cases av:DI.jX m (Y z x)with
    |none=>rw[av]at h;cases h
    |some a9=>rw[av]at h;rw[K.jX av];exact h
  | lR a4 x fK v=>
    simp only[af.ok]at h⊢;split at h
    · rename_i ck b hb;cases av:m.eK b with
      |none=>rw[av]at h;cases h
      |some a9=>rw[av]at h;rw[K.eK av];exact h
    · cases h
  |_=>exact h
theorem Iv(K:eR id x m ah){k:af}{z:aM}{Df:Nat}(h:k.ok z m=true):k.val Df z ah=k.val Df z m:=by
  cases k with
  |kx dd n y=>simp only[af.ok,aY]at h;exact K.kg h.1
  |mw x=>simp only[af.ok,aY]at h;simp only[af.val,K.fZ h.1]
  | nd a4 I o x fK=>
    simp only[af.ok]at h;cases av:DI.jX m (Y z x)with
    |none=>rw[av]at h;cases h
    |some a9=>simp only[af.val,av,K.jX av]
  |_=>rfl
theorem Hv(K:eR id x m ah){k:af}{z:aM}{Df:Nat}(eg:Df≠id)(h:k.ok z m=true):eR id x (k.gu Df z m) (k.gu Df z ah):=by
  cases k with
  |dz I=>exact K.a0 eg _
  |l0 x=>exact K.a0 eg _
  |fR a b c d=>exact K.a0 eg _
  |ny x=>exact K.a0 eg _
  |lZ a b c d e=>exact K.a0 eg _
  |hl I x=>simp only[af.ok,aY]at h;exact K.mv h.1.1
  |jY a b c d e=>exact K.a0 eg _
  |store n x v=>simp only[af.ok,aY]at h;exact K.nq h.1.1.1
  | app I bytes x y=>
    simp only[af.ok,aY]at h;simp only[af.gu];split
    · exact K
    · rw[K.fZ h.1.1.1.1.1,K.fZ h.1.1.1.2];exact(K.kf h.1.1.1.1.1).a0 eg _
  |nc=>exact K.gL eg _
  | lR a4 x fK v=>
    simp only[af.ok]at h;split at h
    · rename_i ck b hb;cases av:m.eK b with
      |none=>rw[av]at h;cases h
      |some a9=>simp only[af.gu,hb,uC,av,K.eK av];exact K.gL (K.O2 av) _
    · cases h
  |_=>exact K
theorem Jk(K:eR id x m ah){k:af}{z:aM}{kr:Nat×List Value}(h:k.fb z m=some kr):k.fb z ah=some kr:=by
  cases k with
  | kv a8 x args=>
    simp only[af.fb]at h⊢;split at h
    · split at h
      · exact h
      · split at h
        · rename_i ar;simp only[aY]at ar;rw[if_pos (by simp only[aY];exact⟨K.gn ar.1,ar.2⟩),K.kg ar.1];exact h
        · cases h
      · cases h
    · cases h
  |_=>exact h
theorem Oq{m ah:W}{k:af}{z:aM}(h:k.fb z m=none)(ao:k.ok z m=true):k.fb z ah=none:=by
  refine atE ?_;cases k with
  |dm f a=>simp[af.ok]at ao
  |iy f a=>simp[af.ok]at ao
  |kv f a b=>simp[af.ok]at ao
  |_=>rfl
def IZ(id:Nat)(x:Option fq)(bG:Callee):Prop:= ∀f a m r an,bG f a m=some (r,an)-> ∀ah,eR id x m ah-> ∃cg,bG f a ah=some (r,cg)/\eR id x an cg
theorem Sj{an cg:W}(K:eR id x m ah)(cz:eR id x an cg){z:aM}{a4:List (Operand×Operand)}(h:qg z a4 m an):qg z a4 ah cg:= λp ai b hb=>by
  by_cases ay:b=id
  · subst ay;rw[K.eq,cz.eq,W.m2,W.m2,if_pos rfl,if_pos rfl,if_pos K.c2,if_pos cz.c2]
  · rw[K.O4 ay,cz.O4 ay];exact h p ai b hb
theorem T5{bG:Callee}(b0:IZ id x bG)(K:eR id x m ah){base:Nat}(hb:id<base){o:bp}{z ae:aM}{an:W}(h:g9 bG base o z m=some (ae,an))(aa:nU o z m an):
    ∃cg,g9 bG base o z ah=some (ae,cg)/\eR id x an cg/\nU o z ah cg:=by
  unfold g9 at h⊢;unfold nU at aa⊢;by_cases aZ:eA z o.g=true
  · rw[if_pos aZ]at h⊢
    replace aa:=aa aZ
    cases ar:o.k.fb z m with
    | none=>
      rw[ar]at h aa;simp only at h aa;split at h
      · rename_i ao;cases h;simp only[Oq ar ao];rw[if_pos (HB K ao),Iv K ao];exact⟨_,rfl,Hv K (by omega) ao,λ_=>aa⟩
      · cases h
    | some kr=>
      obtain⟨f,args⟩:=kr;rw[ar]at h aa;simp only at h aa;cases a6:bG f args m with
      |none=>rw[a6]at h;cases h
      | some DT=>obtain⟨v,bg⟩:=DT;rw[a6]at h;cases h;obtain⟨cg,D,cz⟩:=b0 _ _ _ _ _ a6 ah K;simp only[Jk K ar,D];exact⟨_,rfl,cz,λ_=>Sj K cz aa⟩
  · rw[if_neg aZ]at h⊢;cases h;exact⟨ah,rfl,K,λh=>absurd h aZ⟩
theorem wj{bG:Callee}(b0:IZ id x bG){base:Nat}(hb:id<base): ∀{L:List bp} {z ae:aM} {m an ah:W},eR id x m ah->jG bG base L z m=some (ae,an)-> ∃cg,jG bG base L z ah=some (ae,cg)/\eR id x an cg
  |[],_,_,_,_,ah,K,h=>by cases h;exact⟨ah,rfl,K⟩
  | _::_,_,_,_,_,ah,K,h=>by obtain⟨bI,bg,D,H,aq⟩:=qo h;obtain⟨cT,aQ,cq,a7⟩:=T5 b0 K hb D H;obtain⟨fa,cD,fM⟩:=wj b0 hb cq aq;exact⟨fa,wx aQ a7 cD,fM⟩
theorem Hh{f:aM->W->Option (du×aM×W)}(a6: ∀z m e ae an,f z m=some (e,ae,an)-> ∀ah,eR id x m ah-> ∃cg,f z ah=some (e,ae,cg)/\eR id x an cg):
    ∀{n:Nat} {z:aM} {m:W} {e:du} {ae:aM} {an ah:W},jm f n z m=some (e,ae,an)->eR id x m ah-> ∃cg,jm f n z ah=some (e,ae,cg)/\eR id x an cg
  |0,_,_,_,_,_,_,h,_=>by simp[jm]at h
  | n+1,z,m,e,ae,an,ah,h,K=>by
    rcases atI h with⟨bI,bg,D,H⟩|⟨D,H⟩
    · obtain⟨cT,aQ,cq⟩:=a6 _ _ _ _ _ D ah K;obtain⟨fa,a7,fM⟩:=Hh a6 H cq;exact⟨fa,by simp only[jm,aQ];exact a7,fM⟩
    · obtain⟨cT,aQ,cq⟩:=a6 _ _ _ _ _ D ah K;refine⟨cT,?_,cq⟩;simp only[jm,aQ];cases e with
      |er=>exact absurd rfl H
      |bh id=>rfl
      |aI=>rfl
theorem eR.m8(K:eR id x m ah):eR id (x.map BY) (m8 m) (m8 ah) where
  eq:=by
    rw[K.eq];simp only[DI.m8,W.a0,W.mk.injEq,true_and,and_true];funext b;by_cases h:b=id
    · subst h;simp
    · simp[h]
  c2:=K.c2
  iG:=by have:=K.iG;unfold W.X at this⊢;have h:=K.c2;rw[if_pos h]at this;show(if id<m.next then _ else _)=_;rw[if_pos h];simp only[DI.m8,this,Option.map_none]
theorem eR.pN(K:eR id x m ah){I:Nat}{v:Value}(h:pN I m v=true):pN I ah v=true:=by
  unfold DI.pN at h⊢;split at h
  · rename_i a l c;cases aF:m.X a.block with
    |none=>rw[aF]at h;cases h
    |some x=>rw[aF]at h;rw[K.X aF];exact h
  · rfl
theorem eR.mI(K:eR id x m ah){o:bp}{z:aM}(h:mI o z m=true):mI o z ah=true:=by
  unfold DI.mI at h⊢;simp only[aY]at h⊢;refine⟨⟨h.1.1,?_⟩,HB K h.2⟩;have:=h.1.2;split at this
  · exact K.pN this
  · cases this
theorem mZ{bG:Callee}(b0: ∀x,IZ id x bG){n:Nat}: ∀{c:J} {z ae:aM} {m an ah:W} {e:du},ei bG n c z m=some (e,ae,an)->eR id x m ah-> ∃cg,ei bG n c z ah=some (e,ae,cg)/\eR id x an cg
  | .skip,_,_,_,_,ah,_,h,K=>by cases h;exact⟨ah,rfl,K⟩
  | .F ops,z,ae,m,an,ah,e,h,K=>by
    simp only[ei]at h⊢;split at h
    · rename_i bI bg az;cases h;have cz:eR id x (gW ops m) (gW ops ah):=by
        unfold gW;split
        · exact K.dp _
        · exact K
      obtain⟨cg,g,fM⟩:=wj (b0 x) (base:=m.next) K.c2 cz az;refine⟨cg,?_,fM⟩;rw[K.next,g]
    · cases h
  | .qh bP o bR,z,ae,m,an,ah,e,h,K=>by
    simp only[ei]at h⊢;split at h
    · rename_i bI bg D;split at h
      · rename_i ao;split at h
        · rename_i dj dH H;cases h;obtain⟨cT,aQ,cq⟩:=wj (b0 x) (base:=m.next) K.c2 (K.dp _) D;have aa:o.k.ok bI bg=true:=(by unfold DI.mI at ao;simp only[aY]at ao;exact ao.2);obtain⟨fa,a7,fM⟩:=wj (b0 _) (base:=m.next) K.c2 cq.m8 H;rw[K.next,aQ];simp only[cq.mI ao,if_true,Iv cq aa,a7,fM.next,cq.next];exact⟨_,rfl,(Hv cq (by have:=K.c2;omega) aa).dp _⟩
        · cases h
      · cases h
    · cases h
  | .B a b,z,ae,m,an,ah,e,h,K=>by
    simp only[ei]at h⊢;split at h
    · rename_i bI bg D;obtain⟨cT,aQ,cq⟩:=mZ b0 D K;obtain⟨fa,a7,fM⟩:=mZ b0 h cq;exact⟨fa,by rw[aQ];exact a7,fM⟩
    · rename_i cW;obtain⟨cT,aQ,cq⟩:=mZ b0 h K;refine⟨cT,?_,cq⟩;rw[aQ];cases e with
      |er=>exact absurd h (cW _ _)
      |bh id=>rfl
      |aI=>rfl
  | .aV x a b,z,ae,m,an,ah,e,h,K=>by
    simp only[ei]at h⊢;split at h
    · rename_i D;rw[if_pos D];split at h
      · rename_i H;rw[if_pos H];exact mZ b0 h K
      · rename_i H;rw[if_neg H];exact mZ b0 h K
    · cases h
  | .block id c,z,ae,m,an,ah,e,h,K=>by
    simp only[ei]at h⊢;split at h
    · rename_i D;obtain⟨cT,aQ,cq⟩:=mZ b0 D K;rw[aQ];simp only;split at h
      · rename_i eg;cases h;exact⟨cT,by rw[if_pos eg],cq⟩
      · rename_i eg;cases h;exact⟨cT,by rw[if_neg eg],cq⟩
    · rename_i cW;obtain⟨cT,aQ,cq⟩:=mZ b0 h K;refine⟨cT,?_,cq⟩;rw[aQ];cases e with
      |er=>rfl
      |bh id=>exact absurd h (cW _ _ _)
      |aI=>rfl
  | .loop c,z,ae,m,an,ah,e,h,K=>by simp only[ei]at h⊢;exact Hh (f:=ei bG n c) (λz m e ae an D ah K=>mZ b0 D K) h K
  | .bh id,_,_,_,_,ah,_,h,K=>by cases h;exact⟨ah,rfl,K⟩
  | .aI,_,_,_,_,ah,_,h,K=>by cases h;exact⟨ah,rfl,K⟩
theorem AE(K:eR id x m ah){z:aM}{r:k3}(h:oQ m z r=true):oQ ah z r=true/\pG ah z r=pG m z r:=by
  cases r with
  |bL t=>exact⟨rfl,rfl⟩
  | hZ t dd n=>simp only[oQ,aY]at h⊢;exact⟨⟨K.gn h.1,h.2⟩,K.kg h.1⟩
theorem S6(K:eR id x m ah){z:aM}{cl:List k3}(h:kU m z cl=true):kU ah z cl=true/\lj ah z cl=lj m z cl:=by
  have az: ∀r∈cl,oQ m z r=true:=by simpa[kU]using h
  refine⟨by simp only[kU,eQ];exact λr av=>(AE K (az r av)).1,?_⟩;unfold lj;split
  · exact(AE K (az _ (by simp))).2
  · rw[yH λr av=>(AE K (az r av)).2]
theorem Ez{P:Program}: ∀n x,IZ id x (jy P n)
  |0,_=> λf a m r an h=>by simp[jy]at h
  | n+1,x=> λf a m r an h ah K=>by
    simp only[jy]at h⊢;split at h
    · rename_i u dv;split at h
      · rename_i e7;rw[if_pos e7];split at h
        · cases h
        · rename_i e ae bg cW gQ;obtain⟨cT,aQ,cq⟩:=mZ (Ez n) gQ K;split at h
          · rename_i az;cases h;obtain⟨a7,cD⟩:=S6 cq az;rw[aQ];refine⟨cT,?_,cq⟩;cases e with
            |er=>simp only[a7,cD,if_true]
            |aI=>simp only[a7,cD,if_true]
            |bh id=>exact absurd rfl (cW id)
          · cases h
        · cases h
      · cases h
    · cases h
end
end Oa
end Go.DI
