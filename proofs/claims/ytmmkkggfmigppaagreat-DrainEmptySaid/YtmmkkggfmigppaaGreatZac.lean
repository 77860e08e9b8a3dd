/-
  A part of the proof of the statement, in texts that tools of ours (wip/shrink.py, irpack.py, relax.py, minify.py, join.py, lay.py) have shortened.
-/
import Derived.MapKept
import Derived.Test.YtmmkkggfmigppaaGreatZab
set_option linter.all false
set_option maxRecDepth 8000
set_option maxHeartbeats 16000000
namespace Go.DI
open Go Go.RowKit
section
variable {P:Program} {w:World} {o:Oper} {a:Act} {ag:ez} {cM:Nat} {z:aP} {m:W} {aV id:Nat}
theorem avA{c7:Type}(xs:Array c7)(x:c7)(f:c7->c7):(xs.push x).modify xs.size f=xs.push (f x):=by
  apply Array.ext_getElem?;intro i;rw[Array.getElem?_modify,Ip,Ip];by_cases h:xs.size=i
  · simp[h]
  · have: ¬i=xs.size:= λe=>h e.symm;simp[h,this]
theorem ax9{s d e:TypeId}{x:Operand}(bu:o.op= .convert s d x)(qN:P.underlying s=some .string)(oq:P.underlying d=some (.slice e))(bR:P.underlying e=some (.int .u8))(G:cL x=true)
    (M:gw ag cM z a) (aw:dr aV ag m w) (cC:aV<=w.heap.size) (eg:id<m.next) (ay:ag id=none) (ao:(ad.nm x).ok z m=true):og P o (.nm x) a aV ag z m w id:=by
  simp only[ad.ok,aX,eM]at ao;obtain⟨D,H⟩:=ao;obtain⟨aL,b,ab⟩:=HZ (M.X G) D;rw[ab]at H;simp only[pO]at H;have tQ:=grownCap_ge w b.size 0 e;have pc:grownCap w b.size 0 e<=maxLen:=grownCap_le_maxLen w _ 0 e (by unfold maxLen;omega);generalize O7:grownCap w b.size 0 e=cap at tQ pc
  let il:Array Value:=(b.data.map λ(x:UInt8)=>Value.int .u8 x.toNat)++Array.replicate (cap-b.size) (Value.int .u8 0)
  have iL:il.size=cap:=by show((b.data.map λ(x:UInt8)=>Value.int .u8 x.toNat)++Array.replicate (cap-b.size) (Value.int .u8 0)).size=cap;simp only[Array.size_append,Array.size_map,Array.size_replicate];have:b.data.size=b.size:=rfl;omega
  have WB:(w.drew.alloc (.cells il e)).freeze ⟨w.heap.size,il.size,none⟩ 1=w.drew.alloc (.cells il e (il.size,il.size+1)):=by simp only[World.freeze,Nat.one_ne_zero,if_false,World.alloc];congr 1;show(w.heap.push _).modify w.heap.size _=w.heap.push _;rw[avA];simp
  have hs:(Conv.stringToBytes e b).run P w= .ok (.slice (some ⟨w.heap.size,0,none⟩) b.size cap) (w.drew.alloc (.cells il e (il.size,il.size+1))):=by
    have w9:(choose (.appendCap b.size 0 e)).run P w= .ok cap w.drew:=(by rw[<-O7];rfl);have ow:(newRow e il).run P w.drew= .ok ⟨w.heap.size,0,none⟩ (w.drew.alloc (.cells il e)):=rfl;have ajD:(w.drew.alloc (.cells il e)).shape? w.heap.size=some (e,il.size):=(by show(match(w.heap.push (Obj.cells il e))[w.heap.size]? with|some (.cells c ahK _)=>some (ahK,c.size)|_=>none)=_;simp);have ai9:(markStringish ⟨w.heap.size,0,none⟩).run P (w.drew.alloc (.cells il e))= .ok () (w.drew.alloc (.cells il e (il.size,il.size+1))):=by
      simp only[markStringish,Sem.run_bind];have:(shape w.heap.size).run P (w.drew.alloc (.cells il e))= .ok (some (e,il.size)) (w.drew.alloc (.cells il e)):=by simp only[shape,Sem.run,ajD]
      rw[this];simp only[Result.andThen_ok];show Result.ok () ((w.drew.alloc (.cells il e)).freeze ⟨w.heap.size,il.size,none⟩ 1)=_;rw[WB]
    simp only[Conv.stringToBytes,Sem.run_bind,w9,Result.andThen_ok];have aU:(b.data.map λ(b:UInt8)=>Value.int .u8 b.toNat)++Array.replicate (cap-b.size) (Value.int .u8 0)=il:=rfl;rw[aU,ow];simp only[Result.andThen_ok,ai9];rfl
  refine⟨.slice (some ⟨w.heap.size,0,none⟩) b.size cap,_,ha ag id ⟨w.heap.size,0,cap⟩,.inl ?_,rk ay,uM,?_,?_,sm (w:=w) (cX:=w.drew) rfl rfl rfl rfl cC (.cells il e (il.size,il.size+1))⟩
  · simp[execOp,bu,aL,ab,convert,underlying,qN,oq,bR,hs]
  · simp only[ad.val,ab,pO];exact .slice (off:=0) (l:=⟨w.heap.size,0,cap⟩) (by simp[ha]) (.inr ⟨by simp,by simp⟩) tQ pc
  · simp only[ad.gu,ab,pO];refine aw.Ag (cX:=w.drew) rfl cC eg ay (by simp only[vT,j8,Array.length_toList];exact tQ) (by rw[iL];exact ev _) (λi v qU=> ?_) (λi hE=>by simp only;omega);have kD:i<b.data.size:=(by have:=(ek.1 qU).1;simpa[vT]using this);have ajK:v= .int .u8 (b.data[i]).toNat:=by
      simp only[vT,qv,Dx,yr kD,Option.map_some,lL]at qU;exact qU.symm
    subst ajK;refine⟨rfl,_,?_,.cv rfl⟩;show((b.data.map λ(x:UInt8)=>Value.int .u8 x.toNat)++Array.replicate (cap-b.size) (Value.int .u8 0))[i]?=_;rw[Il (by simpa using kD),Array.getElem?_map,yr kD];rfl
end
def jU.tK:jU->TypeDesc
  | .int k=> .int k
  | .str=> .string
theorem acS{fB:jU}{v:Value}(h:nv fB v=true):MapKept.IsKey fB.tK v:=by cases fB<;>cases v<;>simp_all [nv,MapKept.IsKey,jU.tK]
theorem LU{fB:jU}{v:Value}(h:nv fB v=true):dO v=true:=by cases fB<;>cases v<;>simp_all [nv,dO]
theorem ahf{fB:jU}{a b:Value}(az:nv fB a=true)(hb:nv fB b=true):Instr.sameNow fB.tK a b=some (oi a b)/\(oi a b=true->a=b):=by
  cases fB with
  | int RR=>cases a<;>simp[nv]at az;cases b<;>simp[nv]at hb;rename_i eB ga hk hH;subst az;subst hb;have e:(ga==hH)=decide (ga=hH):=(by by_cases h:ga=hH<;>simp[h]);exact⟨by simp only[jU.tK,Instr.sameNow,oi,e,if_true],λh=>by simp only[oi,eM]at h;rw[h]⟩
  | str=>
    cases a<;>simp[nv]at az;cases b<;>simp[nv]at hb;rename_i x y;have e:(x==y)=decide (x=y):=by
      have:=MapKept.bytes_beq x y;by_cases h:x=y
      · rw[this.2 h];simp[h]
      · cases ar:(x==y)
        · simp[h]
        · exact absurd (this.1 ar) h
    exact⟨by simp only[jU.tK,Instr.sameNow,oi,e],λh=>by simp only[oi,eM]at h;rw[h]⟩
theorem Vn{P:Program}{t:TypeId}{fB:jU}(h:I4 P t=some fB):P.underlying t=some fB.tK:=by
  unfold I4 at h;split at h<;>cases h
  · rename_i k aa;exact aa
  · rename_i aa;exact aa
theorem Oz{ag:ez}{fB:jU}{k:Value}(aa:nv fB k=true): ∀(a9:List (Value×Value)) (c2:List MapEntry) (i:Nat),wI ag a9 c2->(a9.all λe=>nv fB e.1)=true->
    (iF k a9=none/\Instr.findNow fB.tK k c2 i=some none/\ ∀v,k4 k v a9=a9++[(k,v)])\/
    (∃j e dY,a9[j]?=some e/\c2[j]?=some dY/\dY.key=k/\iF k a9=some e.2/\Instr.findNow fB.tK k c2 i=some (some (i+j,dY.val))/\ ∀v,k4 k v a9=a9.set j (k,v))
  | [],c2,i,h,_=>by have:c2=[]:=pF.1 h.1.symm;subst this;exact .inl ⟨rfl,rfl,λ_=>rfl⟩
  | e::a9,c2,i,h,az=>by
    cases c2 with
    |nil=>have:=h.1;simp at this
    | cons dY c2=>
      simp only[mK,aX]at az;obtain⟨D,H,aq,aF⟩:=h.2 0 e dY rfl rfl;have JR:wI ag a9 c2:=⟨by simpa using h.1,λj a b D H=>h.2 (j+1) a b (by simpa using D) (by simpa using H)⟩;obtain⟨bN,cI⟩:=ahf aa az.1;cases ar:oi k e.1
      · rw[ar,<-H]at bN;rcases Oz aa a9 c2 (i+1) JR az.2 with⟨aQ,a8,cN⟩|⟨j,x,hJ,aQ,a8,cN,dP,fF,fg⟩
        · exact .inl ⟨by simp[iF,ar,aQ],by simp[Instr.findNow,bN,a8],λv=>by simp[k4,ar,cN]⟩
        · exact .inr ⟨j+1,x,hJ,by simpa using aQ,by simpa using a8,cN,by simp[iF,ar,dP],by simp[Instr.findNow,bN,fF];omega,λv=>by simp[k4,ar,fg]⟩
      · rw[ar,<-H]at bN;exact .inr ⟨0,e,dY,rfl,rfl,by rw[H];exact(cI ar).symm,by simp[iF,ar],by simp[Instr.findNow,bN],λv=>by simp[k4,ar]⟩
section
variable {P:Program} {w:World} {o:Oper} {a:Act} {ag:ez} {cM:Nat} {z:aP} {m:W} {aV id:Nat}
theorem aAc{e:TypeId}{J:Value}(bL:No P e=some J):(zeroValue e).run P w= .ok J w/\dO J=true:=by
  unfold No at bL;split at bL
  · rename_i i ai;split at bL
    · rename_i hd nu;split at bL<;>cases bL;rename_i a3;exact⟨by simp[zeroValue,typeInfo,ai,nu],a3⟩
    · cases bL
  · cases bL
theorem dr.avK(aw:dr aV ag m w)(cC:aV<=w.heap.size)(eg:id<m.next)(ay:ag id=none):dr aV (ha ag id ⟨w.heap.size,0,0⟩) (m.gH id []) (w.alloc (.map #[] 0)):=by
  have fJ:=rk (l:=⟨w.heap.size,0,0⟩) ay;have iL:(w.alloc (.map #[] 0)).heap.size=w.heap.size+1:=by show(w.heap.push _).size=_;rw[Array.size_push]
  have By: ∀k,k<w.heap.size->(w.alloc (.map #[] 0)).heap[k]?=w.heap[k]?:= λk aa=>by show(w.heap.push _)[k]?=_;rw[Ip,if_neg (by omega)]
  have pd: ∀b,(m.gH id []).Y b=if b=id then some ⟨[],true⟩else m.Y b:= λb=>by
    unfold W.Y W.gH;by_cases h:b=id
    · subst h;simp[eg]
    · simp[h]
  have EO: ∀b l,ha ag id ⟨w.heap.size,0,0⟩ b=some l->(b=id/\l=⟨w.heap.size,0,0⟩)\/(b≠id/\ag b=some l):= λb l h=>by
    unfold ha at h;split at h
    · rename_i e;cases h;exact .inl ⟨e,rfl⟩
    · rename_i e;exact .inr ⟨e,h⟩
  refine⟨λb l hb=> ?_,λb l hb=> ?_,λb x G=> ?_,λb x ca hJ l dj D H aq aF br cR=> ?_,λb a9 hb=> ?_,λb a9 hb=> ?_⟩
  · rcases EO b l hb with⟨rfl,_⟩|⟨_,h⟩
    · exact eg
    · exact aw.ke b l h
  · rcases EO b l hb with⟨_,rfl⟩|⟨_,h⟩
    · rw[iL];exact Nat.lt_succ_self _
    · rw[iL];have:=aw.lF b l h;omega
  · rw[pd]at G;split at G
    · rename_i e;cases G;exact⟨⟨w.heap.size,0,0⟩,by simp[ha,e],ev _,λi v ab=>by simp at ab,λ_=>⟨cC,λi ai=>by simp at ai⟩⟩
    · obtain⟨l,aQ,a8,cN,dP⟩:=aw.lI b x G;have Bw:=aw.lF b l aQ;have ar: ∀i,(w.alloc (.map #[] 0)).cell? ⟨l.c,l.o+i,none⟩=w.cell? ⟨l.c,l.o+i,none⟩:= λi=>World.cell?_of_block (w:=w) (By l.c Bw);have a3: ∀i,(w.alloc (.map #[] 0)).frozen? ⟨l.c,l.o+i,none⟩=w.frozen? ⟨l.c,l.o+i,none⟩:= λi=>World.frozen?_of_block (w:=w) (By l.c Bw);exact⟨l,fJ _ _ aQ,a8,λi v ab=>by obtain⟨a7,bq,bD,b4⟩:=cN i v ab;exact⟨a7,bq,by rw[ar];exact bD,b4.cd fJ⟩,λaD=>⟨(dP aD).1,λi ai=>by rw[ar,a3];exact(dP aD).2 i ai⟩⟩
  · rw[pd]at D aq;rcases EO b l br with⟨rfl,rfl⟩|⟨e,br⟩
    · rcases EO ca dj cR with⟨dY,_⟩|⟨dY,cR⟩
      · exact absurd dY.symm aF
      · have:=aw.lF ca dj cR;simp only;omega
    · rcases EO ca dj cR with⟨dY,rfl⟩|⟨dY,cR⟩
      · have:=aw.lF b l br;simp only;omega
      · rw[if_neg e]at D;rw[if_neg dY]at aq;exact aw.qI b x ca hJ l dj D H aq aF br cR
  · by_cases e:b=id
    · exact⟨⟨w.heap.size,0,0⟩,by simp[ha,e]⟩
    · have:m.mp b=some a9:=(by simpa[W.gH,e]using hb);obtain⟨l,aC⟩:=aw.s0 b a9 this;exact⟨l,fJ _ _ aC⟩
  · obtain⟨aQ,a8⟩:=W.tO hb;by_cases e:b=id
    · subst e;have:a9=[]:=(by simpa[W.gH]using a8.symm);subst this;exact⟨⟨w.heap.size,0,0⟩,#[],0,by simp[ha],cC,by show(w.heap.push _)[w.heap.size]?=_;simp,⟨rfl,λi e dY h=>by simp at h⟩⟩
    · rw[pd,if_neg e]at aQ;have vi:m.mp b=some a9:=(by simpa[W.gH,e]using a8);obtain⟨l,c2,a5,fS,gV,h0,iR⟩:=aw.maps b a9 (W.jJ aQ vi);exact⟨l,c2,a5,fJ _ _ fS,gV,by rw[By _ (aw.lF b l fS)];exact h0,iR.cd fJ⟩
theorem ayb{t:TypeId}(bu:o.op= .makeMap t none)(aw:dr aV ag m w)(cC:aV<=w.heap.size)(eg:id<m.next)(ay:ag id=none):og P o .m0 a aV ag z m w id:=by
  refine⟨.map (some w.heap.size),w.alloc (.map #[] 0),ha ag id ⟨w.heap.size,0,0⟩,.inl ?_,rk ay,uM,?_,aw.avK cC eg ay,sm rfl rfl rfl rfl cC _⟩
  · simp only[execOp,bu,Option.map_none,Instr.makeMap,Sem.run_bind];rfl
  · exact .map (l:=⟨w.heap.size,0,0⟩) (by simp[ha])
theorem dr.aeH(aw:dr aV ag m w){b:Nat}{a9:List (Value×Value)}{l:si}{c2:Array MapEntry}{a5:Nat}(aM:m.eJ b=some a9)(aC:ag b=some l)(cC:aV<=l.c)(aJ:w.heap[l.c]?=some (.map c2 a5))
    {fr:List (Value×Value)} {Bi:Array MapEntry} {D9:Nat} (ay:wI ag fr Bi.toList):dr aV ag (m.gH b fr) {w with heap:=w.heap.setIfInBounds l.c (.map Bi D9)}:=by
  obtain⟨OK,yT⟩:=W.tO aM;have hb:=W.bm OK;obtain⟨vs,hA⟩:=MapKept.heap_set (o':= .map Bi D9) aJ;have pd: ∀ca,(m.gH b fr).Y ca=m.Y ca:= λca=>by
    by_cases h:ca=b
    · subst h;rw[OK];unfold W.Y W.gH;simp[hb]
    · unfold W.Y W.gH;simp[h]
  have ar: ∀dV:Addr,World.cell? {w with heap:=w.heap.setIfInBounds l.c (.map Bi D9)} dV=w.cell? dV:= λdV=>by
    by_cases h:dV.block=l.c
    · simp only[World.cell?,h,vs,aJ]
    · exact World.cell?_of_block (w:=w) (hA _ h)
  have a3: ∀dV:Addr,World.frozen? {w with heap:=w.heap.setIfInBounds l.c (.map Bi D9)} dV=w.frozen? dV:= λdV=>by
    by_cases h:dV.block=l.c
    · simp only[World.frozen?,h,vs,aJ]
    · exact World.frozen?_of_block (w:=w) (hA _ h)
  refine⟨aw.ke,λca dj bK=>by show dj.c<(w.heap.setIfInBounds _ _).size;rw[Array.size_setIfInBounds];exact aw.lF ca dj bK,λca x G=> ?_,λc8 cf dX cH iE iP D H aq=>aw.qI c8 cf dX cH iE iP (by rw[<-pd];exact D) H (by rw[<-pd];exact aq),λca Eh ft=> ?_,λca Eh ft=> ?_⟩
  · rw[pd]at G;simpa only[ar,a3]using aw.lI ca x G
  · by_cases e:ca=b
    · exact⟨l,by rw[e];exact aC⟩
    · exact aw.s0 ca Eh (by simpa[W.gH,e]using ft)
  · obtain⟨aQ,a8⟩:=W.tO ft;rw[pd]at aQ;by_cases e:ca=b
    · subst e;have:Eh=fr:=(by simpa[W.gH]using a8.symm);subst this;exact⟨l,Bi,D9,aC,cC,vs,ay⟩
    · have vi:m.mp ca=some Eh:=(by simpa[W.gH,e]using a8);obtain⟨iP,ahQ,ahg,fS,gV,h0,iR⟩:=aw.maps ca Eh (W.jJ aQ vi);have cZ:iP.c≠l.c:=aw.qI ca _ b _ iP l aQ rfl OK e fS aC;exact⟨iP,ahQ,ahg,fS,gV,by rw[hA _ cZ];exact h0,iR⟩
theorem aye{t sV e:TypeId}{fB:jU}{x k v:Operand}(bu:o.op= .mapUpdate t x k v)(bt:P.underlying t=some (.map sV e))(aA:P.underlying sV=some fB.tK)(G:cL x=true)(aa:cL k=true)(ab:cL v=true)
    (M:gw ag cM z a) (aw:dr aV ag m w) (ao:(ad.lJ fB x k v).ok z m=true):og P o (.lJ fB x k v) a aV ag z m w id:=by
  simp only[ad.ok]at ao;have ay:=M.X G;cases aY:X z x<;>simp only[aY]at ao<;>try cases ao
  rename_i p;cases p with
  |none=>simp at ao
  | some b=>
    simp only at ao;rw[aY]at ay;obtain⟨l,aC,mV⟩:=ay.Fb;cases aM:m.eJ b with
    |none=>simp[aM]at ao
    | some a9=>
      simp only[aM,nA,aX]at ao;obtain⟨⟨qQ,rL⟩,zj⟩:=ao;obtain⟨dj,c2,a5,fS,gV,h0,iR⟩:=aw.maps b a9 aM;rw[aC]at fS;cases fS;have y5:a.eval k=X z k:=(M.X aa).hB (LU qQ);have JL:=acS qQ;have Xc:=M.X ab;have mn:(ad.lJ fB x k v).gu id z m=m.gH b (k4 (X z k) (X z v) a9):=(by simp only[ad.gu,aY,um,aM,AV]);have g1:(Instr.checkKey false 10000 sV (X z k)).run P w= .ok () w:=MapKept.run_checkKey aA JL false 9999;have Wp: ∀o',Below aV w {w with heap:=w.heap.setIfInBounds l.c o'}:= λo'=>⟨rfl,rfl,rfl,by show _<=(w.heap.setIfInBounds _ _).size;rw[Array.size_setIfInBounds];exact ev _,λk aa=>by show(w.heap.setIfInBounds _ _)[k]?=_;simp[show l.c≠k by omega]⟩;rcases Oz qQ a9 c2.toList 0 iR rL with⟨_,a8,cN⟩|⟨j,cf,cH,aQ,a8,cN,_,fF,fg⟩
      · have hs:(Instr.mapUpdate t (a.eval x) (a.eval k) (a.eval v)).run P w= .ok () {w with heap:=w.heap.setIfInBounds l.c (.map (c2.push {key:=X z k,val:=a.eval v,born:=a5}) (a5+1))}:=by
          simp[Instr.mapUpdate,mV,y5,run_underlying bt,MapKept.run_getObj_map h0,g1,MapKept.run_findKey aA a8,MapKept.run_setObj_map _ h0]
        refine⟨undef,_,ag,.inr ⟨by simp only[execOp,bu,hs,Sem.run_bind,Result.andThen_ok];rfl,rfl⟩,fW.refl ag,λ_ _=>rfl,dw.undef ag,?_,Wp _⟩;rw[mn,cN];refine aw.aeH aM aC gV h0 ⟨by simp[iR.1],λi e dY D H=> ?_⟩;simp only[Array.toList_push]at H;rw[AS]at D H;rw[<-iR.1]at H;split at D
        · rename_i ai;rw[if_pos ai]at H;exact iR.2 i e dY D H
        · rename_i ai;rw[if_neg ai]at H;have Bv:i-a9.length=0:=(by have:=(ek.1 D).1;simp at this;omega);rw[Bv]at D H;simp at D H;subst D;subst H;exact⟨LU qQ,rfl,zj,Xc⟩
      · have bx:c2[j]?=some cH:=(by simpa using a8);have hs:(Instr.mapUpdate t (a.eval x) (a.eval k) (a.eval v)).run P w= .ok () {w with heap:=w.heap.setIfInBounds l.c (.map (c2.modify j λe=>{e with key:=X z k,val:=a.eval v}) a5)}:=by
          simp[Instr.mapUpdate,mV,y5,run_underlying bt,MapKept.run_getObj_map h0,g1,MapKept.run_findKey aA fF,bx,cN,MapKept.run_keyThatStays JL,MapKept.run_setObj_map _ h0]
        refine⟨undef,_,ag,.inr ⟨by simp only[execOp,bu,hs,Sem.run_bind,Result.andThen_ok];rfl,rfl⟩,fW.refl ag,λ_ _=>rfl,dw.undef ag,?_,Wp _⟩;rw[mn,fg];refine aw.aeH aM aC gV h0 ⟨by simpa using iR.1,λi e dY D H=> ?_⟩;simp only[Dx,Array.getElem?_modify]at H;rw[yw]at D;by_cases y1:j=i
        · subst y1;rw[if_pos rfl,if_pos (by have:=(ek.1 aQ).1;exact this)]at D;rw[if_pos rfl,bx]at H;simp at D H;subst D;subst H;exact⟨LU qQ,rfl,zj,Xc⟩
        · rw[if_neg y1]at D H;exact iR.2 i e dY D (by simpa using H)
theorem ayd{t sV e:TypeId}{fB:jU}{J:Value}{ok:Bool}{x k:Operand}(bu:o.op= .lookup t x k ok)(bt:P.underlying t=some (.map sV e))(aA:P.underlying sV=some fB.tK)(bL:No P e=some J)(G:cL x=true)(aa:cL k=true)
    (M:gw ag cM z a) (aw:dr aV ag m w) (ao:(ad.m1 fB J ok x k).ok z m=true):og P o (.m1 fB J ok x k) a aV ag z m w id:=by
  obtain⟨Xj,ajT⟩:=aAc (w:=w) bL;simp only[ad.ok]at ao;have hh: ∃(a9:List (Value×Value)) (c2:Array MapEntry),jM m (X z x)=some a9/\wI ag a9 c2.toList/\((a.eval x= .map none/\c2= #[])\/ ∃r a5,a.eval x= .map (some r)/\w.heap[r]?=some (.map c2 a5)):=by
    have ay:=M.X G;cases aY:X z x<;>simp only[aY,jM]at ao<;>try cases ao
    rename_i p;cases p with
    | none=>rw[aY]at ay;exact⟨[],#[],rfl,⟨rfl,λi e dY h=>by simp at h⟩,.inl ⟨ay.hB rfl,rfl⟩⟩
    | some b=>
      rw[aY]at ay;obtain⟨l,aC,ab⟩:=ay.Fb;cases aM:m.eJ b with
      |none=>simp[aM]at ao
      | some a9=>obtain⟨dj,c2,a5,fS,gV,h0,iR⟩:=aw.maps b a9 aM;rw[aC]at fS;cases fS;exact⟨a9,c2,aM,iR,.inr ⟨l.c,a5,ab,h0⟩⟩
  obtain⟨a9,c2,Wy,JR,Bt⟩:=hh;rw[Wy]at ao;simp only[nA,aX]at ao;obtain⟨qQ,rL⟩:=ao;have y5:a.eval k=X z k:=(M.X aa).hB (LU qQ);have JL:=acS qQ;have EH:=Oz qQ a9 c2.toList 0 JR rL;have aiS: ∃(v:Value) (bp:Nat×Value) (b:Bool),(Instr.findKey sV (X z k) c2.toList).run P w= .ok (if b then some (bp.1,bp.2)else none:Option (Nat×Value)) w/\(iF (X z k) a9).isSome=b/\(b=true->iF (X z k) a9=some v/\dw ag v bp.2):=by
    rcases EH with⟨aQ,a8,_⟩|⟨j,cf,cH,aQ,a8,cN,dP,fF,_⟩
    · exact⟨undef,(0,undef),false,by rw[MapKept.run_findKey aA a8];rfl,by rw[aQ];rfl,λh=>by cases h⟩
    · obtain⟨_,_,_,aF⟩:=JR.2 j cf cH aQ a8;exact⟨cf.2,(0+j,cH.val),true,by rw[MapKept.run_findKey aA fF];rfl,by rw[dP];rfl,λ_=>⟨dP,aF⟩⟩
  obtain⟨v,bp,b,da,dq,hy⟩:=aiS;have xi:(ad.m1 fB J ok x k).val id z m=if ok then .tuple #[(iF (X z k) a9).getD J,.bool (iF (X z k) a9).isSome]else(iF (X z k) a9).getD J:=by simp only[ad.val,Wy,Option.bind_some]
  have hs:(Instr.lookup t (a.eval x) (a.eval k) ok).run P w= .ok (if ok then .tuple #[if b then bp.2 else J,.bool b]else if b then bp.2 else J) w:=by
    have g1: ∀e,(Instr.checkKey e 10000 sV (X z k)).run P w= .ok () w:= λe=>MapKept.run_checkKey aA JL e 9999;rcases Bt with⟨D,H⟩|⟨r,a5,D,H⟩
    · subst H;cases b
      · simp[Instr.lookup,D,y5,run_underlying bt,g1,da,Xj]
      · simp[Instr.lookup,D,y5,run_underlying bt,g1,da]
    · cases b
      · simp[Instr.lookup,D,y5,run_underlying bt,MapKept.run_getObj_map H,g1,da,Xj]
      · simp[Instr.lookup,D,y5,run_underlying bt,MapKept.run_getObj_map H,g1,da]
  refine⟨_,w,ag,.inl (by simp only[execOp,bu,hs,Sem.run_bind,Result.andThen_ok];rfl),fW.refl ag,λ_ _=>rfl,?_,aw,Below.refl _ _⟩;rw[xi];have zj:dw ag ((iF (X z k) a9).getD J) (if b then bp.2 else J):=by
    cases b
    · have:iF (X z k) a9=none:=(by simpa using dq);rw[this];exact .cv ajT
    · obtain⟨aQ,a8⟩:=hy rfl;rw[aQ];exact a8
  cases ok
  · exact zj
  · simp only[if_true];rw[dq];exact cU.tuple (xs:=[_,_]) (ys:=[_,_]) (cU.cons zj (cU.cons (.cv rfl) (cU.nil ag)))
end
section
variable {P:Program} {w:World} {o:Oper} {a:Act} {ag:ez} {cM:Nat} {z:aP} {m:W} {aV id:Nat}
theorem awr{k:ad}(h:k.pure=true):k.gu id z m=m:=by cases k<;>first|rfl|(simp[ad.pure]at h)
theorem av8{k:ad}(aa:wO P o=some k)(ar:k.jB=false)(M:gw ag cM z a)(aw:dr aV ag m w)(cC:aV<=w.heap.size)(eg:k.eU=true->id<m.next)(ay:k.eU=true->ag id=none)(ao:k.ok z m=true):og P o k a aV ag z m w id:=by
  by_cases af:k.pure=true
  · obtain⟨bq,D,H⟩:=aws (w:=w) (m:=m) aa af M ao id;exact⟨bq,w,ag,D,fW.refl ag,λ_ _=>rfl,H,by rw[awr af];exact aw,Below.refl _ _⟩
  · rcases IU aa with aa|rfl
    rotate_left
    · rw[afc]at ao;cases ao
    unfold A9 at aa;split at aa
    · split at aa<;>cases aa;exact absurd rfl af
    · split at aa<;>cases aa;exact absurd rfl af
    · split at aa<;>cases aa;exact absurd rfl af
    · split at aa<;>cases aa;exact absurd rfl af
    · -- dm
      rename_i e bu;split at aa<;>cases aa;rename_i J bL;exact ax2 bu bL aw cC (eg rfl) (ay rfl)
    · -- lQ
      rename_i e x bu;split at aa<;>cases aa;rename_i G;exact ax5 bu G M ao aw cC (eg rfl) (ay rfl)
    · (repeat' split at aa)<;>cases aa<;>exact absurd rfl af
    · -- buildSlice
      rename_i t n ps bu;split at aa
      · rename_i e bt;split at aa
        · rename_i J bL;split at aa
          · rename_i hu bf;split at aa<;>cases aa;rename_i nq;simp only[aX,eM]at nq;exact ax6 bu bt bL bf nq.1 nq.2 M aw cC (eg rfl) (ay rfl) ao
          · cases aa
        · cases aa
      · cases aa
    · -- kp
      rename_i t x bu;split at aa
      · rename_i dc n sD ax;split at aa<;>cases aa;rename_i G;exact aya bu sD ax G M aw ao
      · cases aa
    · -- store
      rename_i t x v bu;split at aa
      · rename_i n ax;split at aa<;>cases aa;rename_i G;simp only[aX]at G;exact ayg bu ax G.1 G.2 M aw ao
      · cases aa
    · (repeat' split at aa)<;>cases aa<;>exact absurd rfl af
    · (repeat' split at aa)<;>cases aa<;>exact absurd rfl af
    · -- convert
      rename_i s d x bu;split at aa
      · split at aa<;>cases aa;exact absurd rfl af
      · split at aa<;>cases aa;exact absurd rfl af
      · rename_i e qN oq;split at aa
        · rename_i bR;split at aa<;>cases aa;rename_i G;exact ax8 bu qN oq bR G M aw ao
        · cases aa
      · rename_i e qN oq;split at aa
        · rename_i bR;split at aa<;>cases aa;rename_i G;exact ax9 bu qN oq bR G M aw cC (eg rfl) (ay rfl) ao
        · cases aa
      · cases aa
    · -- makeSlice
      rename_i t l c bu;split at aa
      · rename_i e bt;split at aa
        · rename_i J bB bL ai;split at aa<;>cases aa;rename_i G;simp only[aX]at G;exact ayc bu bt bL ai G.1 G.2 M aw cC (eg rfl) (ay rfl) ao
        · cases aa
      · cases aa
    · -- slice
      rename_i t x ct ai fh bu;split at aa
      · split at aa<;>cases aa;exact absurd rfl af
      · (repeat' split at aa)<;>cases aa<;>exact absurd rfl af
      · rename_i n e az;split at aa
        · rename_i J bL;split at aa<;>cases aa;rename_i nq;simp only[aX,yt]at nq;exact ayf bu az bL nq.1.1.1 nq.1.1.2 nq.1.2 nq.2 M aw ao
        · cases aa
      · cases aa
    · (repeat' split at aa)<;>cases aa<;>exact absurd rfl af
    · (repeat' split at aa)<;>cases aa<;>exact absurd rfl af
    · (repeat' split at aa)<;>cases aa<;>exact absurd rfl af
    · (repeat' split at aa)<;>cases aa<;>exact absurd rfl af
    · (repeat' split at aa)<;>cases aa<;>exact absurd rfl af
    · (repeat' split at aa)<;>cases aa<;>exact absurd rfl af
    · (repeat' split at aa)<;>cases aa<;>exact absurd rfl af
    · -- makeMap
      rename_i t r bu;split at aa
      · rename_i k e bt;cases aa;exact ayb bu aw cC (eg rfl) (ay rfl)
      · cases aa
    · -- lookup
      rename_i t x i ok bu;split at aa
      · rename_i k e bt;split at aa
        · rename_i a5 J g1 bL;split at aa<;>cases aa;rename_i G;simp only[aX]at G;exact ayd bu bt (Vn g1) bL G.1 G.2 M aw ao
        · cases aa
      · cases aa
    · -- mapUpdate
      rename_i t x k v bu;split at aa
      · rename_i sV e bt;split at aa
        · rename_i a5 g1;split at aa<;>cases aa;rename_i G;simp only[aX]at G;exact aye bu bt (Vn g1) G.1.1 G.1.2 G.2 M aw ao
        · cases aa
      · cases aa
    · (repeat' split at aa)<;>cases aa<;>exact absurd rfl af
    · -- dA
      rename_i c bu;unfold D2 at aa;split at aa
      · split at aa<;>cases aa;simp[ad.jB]at ar
      · (repeat' split at aa)<;>cases aa<;>simp[ad.jB]at ar
      · (repeat' split at aa)<;>cases aa<;>simp[ad.jB]at ar
      · (repeat' split at aa)<;>cases aa<;>exact absurd rfl af
      · rename_i b5;split at aa
        · rename_i x y t bp az df;split at aa
          · rename_i e bt;split at aa
            · rename_i bB ai;split at aa
              · rename_i Pw;subst Pw;split at aa<;>cases aa;rename_i G;simp only[aX]at G;obtain⟨⟨D,H⟩,aq⟩:=G;obtain⟨J,bL⟩:=Io.1 aq;exact ax3 bu b5 az df bt ai bL D H M aw cC (eg rfl) (ay rfl) ao
              · split at aa
                · rename_i RV DC aY bL;split at aa<;>cases aa;rename_i G;simp only[aX]at G;exact ax4 bu b5 az df bt aY ai bL G.1 G.2 M aw cC (eg rfl) (ay rfl) ao
                · cases aa
            · cases aa
          · cases aa
        · cases aa
      · (repeat' split at aa)<;>cases aa<;>exact absurd rfl af
      · (repeat' split at aa)<;>cases aa<;>exact absurd rfl af
      · (repeat' split at aa)<;>cases aa<;>exact absurd rfl af
      · rename_i b5;split at aa
        · rename_i x t az df;split at aa
          · rename_i e bt;split at aa
            · rename_i DC bL;split at aa<;>cases aa;rename_i G;exact ax7 bu b5 az df bt bL G M aw ao
            · cases aa
          · cases aa
        · cases aa
      · cases aa
    · cases aa
theorem agG{J bytes:Nat}{x y:Operand}(aa:wO P o=some (.app J bytes x y))(M:gw ag cM z a)(aw:dr aV ag m w)(cC:aV<=w.heap.size)(eg:id<m.next)(ay:ag id=none)(ao:(ad.app J bytes x y).ok z m=true):
    Uw P o J bytes x y a aV ag z m w id:=by
  rcases IU aa with aa|c5
  rotate_left
  · cases c5
  unfold A9 at aa;split at aa
  case h_27 c bu=>
    unfold D2 at aa;split at aa
    case h_5 b5=>
      split at aa
      · rename_i x y t bp az df;split at aa
        · rename_i e bt;split at aa
          · rename_i bB ai;split at aa
            · rename_i Pw;subst Pw;split at aa<;>cases aa;rename_i G;simp only[aX]at G;obtain⟨⟨D,H⟩,aq⟩:=G;obtain⟨J,bL⟩:=Io.1 aq;exact aeF bu b5 az df bt ai bL D H M aw cC eg ay ao
            · (repeat' split at aa)<;>cases aa
          · cases aa
        · cases aa
      · cases aa
    all_goals((repeat' split at aa)<;>cases aa)
  all_goals((repeat' split at aa)<;>cases aa)
def DF(P:Program)(f:Nat):Prop:= ∃fn,P.funcs[f]?=some fn∧fn.body.isSome=true∧(fn.name== "runtime.NumGoroutine")=false
theorem adg{name:String}{r:TypeId×Nat×Option (Bool×Nat)}(h:r∈R4 P name):Aa P name r.1=some r/\r.1<P.types.size:=by
  unfold R4 at h;obtain⟨t,D,H⟩:=tw.1 h;have:r.1=t:=by
    unfold Aa at H
    (repeat' split at H)<;>cases H<;>rfl
  subst this;exact⟨H,by simpa using D⟩
theorem axm{name:String}{t f:Nat}{v:Value}(h:Aa P name t=some (t,f,none)/\t<P.types.size):
    (method (P.types.size+Made.depth) t v name).run P w= .ok (f,v) w:=by
  obtain⟨h,ee⟩:=h;unfold Aa at h
  (repeat' split at h)<;>cases h
  rename_i Pf _ Ae EH af _ _ _ ve aY Bu;obtain⟨n,ax⟩: ∃n,P.types.size+Made.depth=n+1:=⟨P.types.size+Made.depth-1,by omega⟩;have WX:Ae.path.toList=[]:=by simpa using af
  rw[ax];simp[method,typeInfo,Pf,EH,WX,follow,Bu,receiverAt,underlying,aY,Place.get]
theorem SU{f:Nat}{args:Array Value}(h:DF P f):(callFunc f args).run P w= .ok (.enter f args) w:=by
  obtain⟨fn,D,H,aq⟩:=h;have aF:fn.body≠none:=by intro hb;simp[hb]at H
  have br:fn.name≠ "runtime.NumGoroutine" :=by simpa using aq
  simp[callFunc,D,aF,br]
theorem axp{bQ:Array TypeId}{t:TypeId}{dV:Addr}{x y:String}:Builtin.ssaWrapNilChk_ bQ t #[.pointer (some dV),strVal x,strVal y]=pure (.pointer (some dV)):=rfl
theorem axn{name:String}{t f n:Nat}{dc:Bool}{dV:Addr}{ds:List Value}(h:Aa P name t=some (t,f,some (dc,n))/\t<P.types.size)
    (D:dc=true\/n=1) (aC:ds.length=n) (ar: ∀(j:Nat) bp,ds[j]?=some bp->w.cell? (dV.add j)=some bp):
    (method (P.types.size+Made.depth) t (.pointer (some dV)) name).run P w= .ok (f,if dc then .agg ds.toArray else ds.headD undef) w:=by
  obtain⟨h,ee⟩:=h;unfold Aa at h
  (repeat' split at h)<;>cases h
  rename_i Pf _ Ae EH af _ _ _ ve aY _ _ Bu sD ax;obtain⟨n,xe⟩: ∃n,P.types.size+Made.depth=n+1:=⟨P.types.size+Made.depth-1,by omega⟩;have WX:Ae.path.toList=[]:=by simpa using af
  have JN:=SW (P:=P) (w:=w) sD ax D aC ar;have ajq:Ae.path= #[]:=by simpa using af
  rw[xe];simp[method,typeInfo,Pf,EH,follow,Bu,receiverAt,underlying,aY,Place.get,ajq,axp,asAddr,JN]
theorem aez{name:String}{t f:Nat}{v aei:Value}{args:Array Value}(aw:(method (P.types.size+Made.depth) t v name).run P w= .ok (f,aei) w)(a3:DF P f):
    (invoke (.fn (.method name) #[]) (#[.iface t v]++args)).run P w= .ok (.enter f (#[aei]++args)) w:=by
  have c5:(#[Value.iface t v]++args)[0]?=some (.iface t v):=by rw[Il (by simp)];rfl
  have D:(#[Value.iface t v]++args).extract 1 (#[Value.iface t v]++args).size=args:=by simp
  simp only[invoke,c5,D,callMethod,Sem.run_bind,run_program,Result.andThen_ok,aw,SU a3]
def o0(P:Program)(aV:Nat)(bF:Callee):Prop:= ∀f args m r an,bF f args m=some (r,an)->DF P f/\m.next<=an.next/\(∀b,b<m.next->m.Y b=none->an.Y b=none)/\
  (∀id x,id<m.next->m.Y id=none->bF f args (m.a4 id x)=some (r,an.a4 id x))/\
  ∀ ag w (mN:Array Value),cU ag args mN.toList->dr aV ag m w->aV<=w.heap.size->
    Calls P f mN w λe cT=> ∃v cA,e= .returned v/\fW ag cA/\(∀b,b<m.next->cA b=ag b)/\dw cA r v/\dr aV cA an cT/\Below aV w cT
theorem ahe{k:ad}(aa:wO P o=some k)(M:gw ag cM z a)(aw:dr aV ag m w){f:Nat}{args:List Value}(gi:k.e8 z m=some (f,args))(a3:DF P f):
    ∃mN:Array Value,(execOp a.eval o).run P w= .ok (.enter f mN) w/\cU ag args mN.toList:=by
  rcases IU aa with aa|rfl
  rotate_left
  · cases gi
  unfold A9 at aa;split at aa
  case h_27 c bu=>
    unfold D2 at aa;split at aa
    · -- a method dM NX interface value
      rename_i t name b5;split at aa<;>cases aa;rename_i nq;simp only[ad.e8]at gi;have ay:=M.X (x:= .tmp t) rfl;split at gi
      · rename_i pD v ab;rw[ab]at ay;obtain⟨bq,aL,fC⟩:=ay.Fa;split at gi
        · rename_i cW g EG;simp only[lL,wF]at gi;obtain⟨rfl,rfl⟩:=gi;have Px:cW=pD:=(by have:=List.find?_some EG;simpa using this);subst Px;refine⟨#[bq]++c.args.map a.eval,?_,by simpa using cU.cons fC (CI M _ nq)⟩;have Pm:=axm (w:=w) (v:=bq) (adg (List.mem_of_find?_eq_some EG));simp only[execOp,bu,resolve,b5,Sem.run_bind,aL,Sem.run_pure,Result.andThen_ok];exact aez Pm a3
        · rename_i cW g dc n EG;split at gi
          · rename_i ao;simp only[lL,wF]at gi;obtain⟨rfl,rfl⟩:=gi;have Px:cW=pD:=(by have:=List.find?_some EG;simpa using this);subst Px;simp only[aX,rp,eM]at ao;obtain⟨dV,ds,D,H,aq,aF⟩:=R0 aw fC ao.1 ao.2;refine⟨#[if dc then .agg ds.toArray else ds.headD undef]++c.args.map a.eval,?_,by simpa using cU.cons aF (CI M _ nq)⟩;have Pm:=axn (w:=w) (adg (List.mem_of_find?_eq_some EG)) ao.2 H aq;simp only[execOp,bu,resolve,b5,Sem.run_bind,aL,Sem.run_pure,Result.andThen_ok,D];exact aez Pm a3
          · cases gi
        · cases gi
      · cases gi
    · -- a named aic
      rename_i g b5;split at aa
      · rename_i fn Bu;split at aa<;>cases aa;rename_i nq;simp only[aX]at nq;simp only[ad.e8,lL,wF]at gi;obtain⟨rfl,rfl⟩:=gi;refine⟨c.args.map a.eval,?_,by simpa using CI M _ nq.2⟩;have D:a.eval (.func g)= .func (.func g) #[] #[]:=rfl;simp only[execOp,bu,resolve,b5,Sem.run_bind,D,Deferred.ofValue,Sem.run_pure,Result.andThen_ok,invoke];rw[SU a3];simp
      · cases aa
    · -- a aic value
      rename_i t b5;split at aa<;>cases aa;rename_i nq;simp only[ad.e8]at gi;have ay:=M.X (x:= .tmp t) rfl;split at gi
      · rename_i g first lT ab
        simp only[lL,wF]at gi;obtain⟨rfl,rfl⟩:=gi;rw[ab]at ay;obtain⟨ys,ds,D,H,aq⟩:=ay.zn;refine⟨ys++c.args.map a.eval++ds,?_,by simpa using(H.oh (CI M _ nq)).oh aq⟩;simp only[execOp,bu,resolve,b5,Sem.run_bind,D,Deferred.ofValue,Sem.run_pure,Result.andThen_ok,invoke];rw[SU a3]
      · cases gi
    all_goals((repeat' split at aa)<;>cases aa<;>simp[ad.e8]at gi)
  all_goals((repeat' split at aa)<;>cases aa<;>simp[ad.e8]at gi)
end
section
variable {P:Program} {w:World} {o:Oper} {a:Act} {ag:ez} {cM:Nat} {z:aP} {m:W} {aV:Nat} {ops:Array Oper} {bF:Callee} {base:Nat}
def uX(P:Program)(ops:Array Oper)(cM:Nat)(b9:bn)(o:Oper):Prop:=
  ops[b9.aN]?=some o/\wO P o=some b9.k/\IT ops o=some b9.g/\o.dst=b9.d/\b9.d.all (λd=>decide (d<cM))=true
theorem afq{g:Option (Nat×Bool)}(aM:IT ops o=some g)(M:gw ag cM z a):Region.wanted o (yielded ops a.tmps)=eH z g:=by
  unfold IT at aM;split at aM
  · rename_i h;cases aM;simp[Region.wanted,h,eH]
  · rename_i j b h;split at aM
    · rename_i t bt;cases aM;have ay:=M.l8 t;simp only[Region.wanted,h,eH,yielded,bt,Option.bind_some];rw[Array.getD_eq_getD_getElem?]at ay;cases ab:a.tmps[t]? with
      | none=>
        rw[ab]at ay;simp only[Option.getD_none]at ay;cases aY:z t<;>try rfl
        rw[aY]at ay;have:=ay.p5;simp[undef]at this
      | some v=>
        rw[ab]at ay;simp only[AV]at ay;cases aY:z t
        case bool c=>rw[aY]at ay;rw[ay.p5];simp
        all_goals
          rw[aY]at ay;cases v
          case bool c=>cases ay
          all_goals rfl
    · cases aM
theorem Mu{k:ad}(h:k.ok z m=true):k.jB=false:=by cases k<;>first|rfl|(simp[ad.ok]at h)
theorem ae0{b9:bn}{aj:aP}{an:W}(b5:o0 P aV bF)(ar:uX P ops cM b9 o)(M:gw ag cM z a)(aw:dr aV ag m w)(cC:aV<=w.heap.size)(eg:b9.k.eU=true->base+b9.aN<m.next)(ay:b9.k.eU=true->ag (base+b9.aN)=none)
    (hF:g4 bF base b9 z m=some (aj,an)) {aW:Act->World->Prop} {Q:Exit->Act->World->Prop}
    (ea: ∀dD cT cA,fW ag cA->(∀b,b<m.next->b≠base+b9.aN->cA b=ag b)->gw cA cM aj dD->dr aV cA an cT->Below aV w cT->aW dD cT):wpOp P ops Q b9.aN aW a w:=by
  obtain⟨D,H,aq,aF,br⟩:=ar;unfold wpOp;simp only[D];rw[afq aq M];unfold g4 at hF;by_cases aZ:eH z b9.g=true
  · rw[if_pos aZ]at hF⊢;refine .inl ?_;unfold Oper.wp;cases gi:b9.k.e8 z m with
    | some ki=>
      obtain⟨f,args⟩:=ki;rw[gi]at hF;simp only at hF;cases a3:bF f args m with
      |none=>rw[a3]at hF;cases hF
      | some Dr=>obtain⟨v,dE⟩:=Dr;rw[a3]at hF;simp only[lL,wF]at hF;obtain⟨rfl,rfl⟩:=hF;obtain⟨aQ,a8,cN,_,dP⟩:=b5 f args m v dE a3;obtain⟨mN,aL,aU⟩:=ahe (w:=w) H M aw gi aQ;rw[aL,Oper.upon_enter];refine(dP ag w mN aU aw cC).mono λe cT aJ=> ?_;obtain⟨bq,cA,rfl,a7,bD,b4,e0,fT⟩:=aJ;rw[aF];exact ea _ _ cA a7 (λb hb _=>bD b hb) ((M.cd a7).a4 br b4) e0 fT
    | none=>
      rw[gi]at hF;simp only at hF;split at hF
      · rename_i ao;simp only[lL,wF]at hF;obtain⟨rfl,rfl⟩:=hF;obtain⟨bq,cT,cA,y,a7,bD,b4,e0,fT⟩:=av8 H (Mu ao) M aw cC eg ay ao;have aa:=ea (a.put b9.d bq) cT cA a7 (λb _ hb=>bD b hb) ((M.cd a7).a4 br b4) e0 fT;rcases y with y|⟨y,rfl⟩
        · rw[y,Oper.upon_value,aF];exact aa
        · rw[y,Oper.upon_skip,aF];exact aa
      · cases hF
  · rw[if_neg aZ]at hF⊢;simp only[lL,wF]at hF;obtain⟨rfl,rfl⟩:=hF;rw[aF];exact ea _ _ ag (fW.refl ag) (λ_ _ _=>rfl) (M.a4 br (dw.undef ag)) aw (Below.refl _ _)
theorem Df{b9:bn}{aj:aP}{an:W}(b5:o0 P aV bF)(hF:g4 bF base b9 z m=some (aj,an)):m.next<=an.next:=by
  unfold g4 at hF;split at hF
  · split at hF
    · split at hF
      · rename_i a3;cases hF;exact(b5 _ _ _ _ _ a3).2.1
      · cases hF
    · split at hF
      · cases hF;cases b9.k<;>simp only[ad.gu]<;>try exact ev _
        · unfold nc;split<;>try exact ev _
          split<;>exact ev _
        · split
          · exact ev _
          · unfold j3;split<;>exact ev _
        · unfold mf;split<;>try exact ev _
          split<;>exact ev _
      · cases hF
  · cases hF;exact ev _
theorem Js{b ca:Nat}{x:Option fm}(h:m.Y b=none)(cZ:b≠ca):(m.a4 ca x).Y b=none:=by rw[W.mR,if_neg cZ];exact h
theorem Wf{b ca:Nat}{a9:List (Value×Value)}(h:m.Y b=none)(cZ:b≠ca):(m.gH ca a9).Y b=none:=by unfold W.Y W.gH at*;simp only[if_neg cZ];exact h
theorem Nf{b9:bn}{aj:aP}{an:W}(b5:o0 P aV bF)(hF:g4 bF base b9 z m=some (aj,an)){b:Nat}(hb:b<m.next)(cZ:b≠base+b9.aN)(aM:m.Y b=none):an.Y b=none:=by
  unfold g4 at hF;split at hF
  · split at hF
    · split at hF
      · rename_i a3;cases hF;exact(b5 _ _ _ _ _ a3).2.2.1 b hb aM
      · cases hF
    · split at hF
      · rename_i ao;cases hF;cases aa:b9.k<;>simp only[ad.gu]<;>try exact aM
        all_goals try exact Js aM cZ
        all_goals try exact Wf aM cZ
        · unfold nc;split
          · rename_i dV;split
            · rename_i x G;exact Js aM (λe=>by rw[e,G]at aM;cases aM)
            · exact aM
          · exact aM
        · split
          · exact aM
          · refine Js ?_ cZ;unfold j3;split
            · rw[W.mR];split
              · split<;>rfl
              · exact aM
            · exact aM
        · unfold mf;split
          · rename_i dV _ _ _;split
            · rename_i x G;exact Js aM (λe=>by rw[e,G]at aM;cases aM)
            · exact aM
          · exact aM
        · rename_i a5 x k v;rw[aa]at ao;simp only[ad.ok]at ao;cases aY:X z x<;>simp only[aY]at ao<;>try cases ao
          rename_i p;cases p with
          |none=>simp at ao
          | some dX=>
            simp only at ao;cases WD:m.eJ dX with
            |none=>simp[WD]at ao
            | some a9=>have ix:=(W.tO WD).1;exact Wf aM (λe=>by have dY:b=dX:=e;rw[dY,ix]at aM;cases aM)
      · cases hF
  · cases hF;exact aM
theorem qg{b9:bn}{L:List bn}{s:aP×W}(h:ju bF base (b9::L) z m=some s): ∃bI bd,g4 bF base b9 z m=some (bI,bd)/\nO b9 z m bd/\ju bF base L bI bd=some s:=by
  unfold ju at h;split at h
  · rename_i bI bd D;split at h
    · rename_i g1;exact⟨bI,bd,D,g1,h⟩
    · cases h
  · cases h
theorem v8{b9:bn}{L:List bn}{s:aP×W}{bI:aP}{bd:W}(D:g4 bF base b9 z m=some (bI,bd))(H:nO b9 z m bd)(aq:ju bF base L bI bd=some s):ju bF base (b9::L) z m=some s:=by unfold ju;rw[D];simp only[if_pos H,aq]
theorem Ht(b5:o0 P aV bF): ∀(L:List bn) (z:aP) (m:W) (s:aP×W),ju bF base L z m=some s->m.next<=s.2.next
  |[],z,m,s,h=>by simp[ju]at h;subst h;exact ev _
  | b9::L,z,m,s,h=>by obtain⟨bI,bd,D,_,aq⟩:=qg h;exact jv (Df b5 D) (Ht b5 L _ _ _ aq)
theorem SR(b5:o0 P aV bF){b:Nat}(hb:b<base): ∀(L:List bn) (z:aP) (m:W) (s:aP×W),base<=m.next->ju bF base L z m=some s->m.Y b=none->s.2.Y b=none
  |[],z,m,s,_,h,aM=>by simp[ju]at h;subst h;exact aM
  | b9::L,z,m,s,ax,h,aM=>by obtain⟨bI,bd,D,_,aq⟩:=qg h;exact SR b5 hb L _ _ _ (jv ax (Df b5 D)) aq (Nf b5 D (by omega) (by omega) aM)
theorem Ss(b5:o0 P aV bF){Q:Exit->Act->World->Prop}{T:List Nat}: ∀(L:List bn) (z:aP) (m:W) (a:Act) (w:World) (ag:ez) (aj:aP) (an:W),
    (∀b9∈L,∃o,uX P ops cM b9 o)->(L.map (·.aN)).Nodup->gw ag cM z a->dr aV ag m w->aV<=w.heap.size->(∀b9∈L,b9.k.eU=true->base+b9.aN<m.next/\ag (base+b9.aN)=none)->ju bF base L z m=some (aj,an)->
    (∀dD cT cA,fW ag cA->(∀b,b<m.next->(∀b9∈L,b≠base+b9.aN)->cA b=ag b)->gw cA cM aj dD->dr aV cA an cT->Below aV w cT->wpOps P ops Q T dD cT)->wpOps P ops Q (L.map (·.aN)++T) a w
  | [],z,m,a,w,ag,aj,an,_,_,M,aw,_,_,h,bY=>by simp only[ju,lL,wF]at h;obtain⟨rfl,rfl⟩:=h;exact bY a w ag (fW.refl ag) (λ_ _ _=>rfl) M aw (Below.refl _ _)
  | b9::L,z,m,a,w,ag,aj,an,vm,hW,M,aw,cC,eg,h,bY=>by
    obtain⟨bI,bd,D,_,aq⟩:=qg h;obtain⟨o,aD⟩:=vm b9 (by simp);simp only[mL,List.nodup_cons]at hW;rw[mL,yy,wpOps_cons];have jL:=Df b5 D;refine ae0 b5 aD M aw cC (λh=>(eg b9 (by simp) h).1) (λh=>(eg b9 (by simp) h).2) D λdD cT cA a7 bD b4 e0 fT=> ?_;refine Ss b5 L bI bd dD cT cA aj an (λi ai=>vm i (by simp[ai])) hW.2 b4 e0 (jv cC fT.size) (λi ai fi=> ?_) aq λbJ e2 lO fS gV h0 iR uu=> ?_
    · have:=eg i (by simp[ai]) fi;refine⟨by omega,?_⟩;rw[bD _ this.1 (λe=>hW.1 (hc.2 ⟨i,ai,by omega⟩))];exact this.2
    · exact bY bJ e2 lO (a7.trans fS) (λb hb cZ=>(gV b (by omega) (λi ai=>cZ i (by simp[ai]))).trans (bD b hb (cZ b9 (by simp)))) h0 iR (fT.trans uu)
theorem auP{b9:bn}(ar:uX P ops cM b9 o)(M:gw ag cM z a)(aw:dr aV ag m w)(cC:aV<=w.heap.size)(eg:base+b9.aN<m.next)(ay:ag (base+b9.aN)=none)(aC:mw b9 z m=true)
    {aW:Act->World->Prop} {Q:Exit->Act->World->Prop}
    (ea: ∀dD cT cA,fW ag cA->(∀b,b≠base+b9.aN->cA b=ag b)->gw cA cM (c1 z b9.d (b9.k.val (base+b9.aN) z m)) dD->dr aV cA (b9.k.gu (base+b9.aN) z m) cT->dr cT.heap.size cA (mW m) cT->Below aV w cT->aW dD cT):wpOp P ops Q b9.aN aW a w:=by
  obtain⟨D,H,aq,aF,br⟩:=ar;obtain⟨aN,d,g,k,a5⟩:=b9;simp only at D H aq aF br eg ay ea⊢;simp only[mw,aX,yt]at aC;obtain⟨⟨aM,bt⟩,ao⟩:=aC;subst aM;unfold wpOp;simp only[D];rw[afq aq M,if_pos (show eH z none=true from rfl)];refine .inl ?_;unfold Oper.wp;split at bt
  · rename_i J bytes x y;obtain⟨bq,cT,cA,az2,a7,bD,b4,e0,fT,nF⟩:=agG H M aw cC eg ay ao;have a3:dr cT.heap.size cA (mW m) cT:=by
      have pd: ∀b x,(mW m).Y b=some x-> ∃bp,m.Y b=some bp/\x=BC bp:=by
        intro b x hb;unfold W.Y at hb⊢;change (if b<m.next then _ else _)=_ at hb;split at hb
        · rename_i ee;rw[if_pos ee];simp only[mW,rl]at hb;obtain⟨bp,aQ,a8⟩:=hb;exact⟨bp,aQ,a8.symm⟩
        · cases hb
      have ax:((ad.app J bytes x y).gu (base+aN) z m).next=m.next:=by
        simp only[ad.gu];split
        · rfl
        · unfold j3;split<;>rfl
      refine⟨λb l hb=>by have:=e0.ke b l hb;rw[ax]at this;exact this,e0.lF,λb x hb=> ?_,λb x ca hJ l dj hb iK=> ?_,λb a9 hb=>(by cases hb),λb a9 hb=> ?_⟩
      · obtain⟨bp,aQ,rfl⟩:=pd b x hb;obtain⟨l,aL,aU,cz,_⟩:=aw.lI b bp aQ;refine⟨l,a7 b l aL,aU,λi v ab=> ?_,λh=>by cases h⟩;obtain⟨mh,bq,kg,qH⟩:=cz i v ab;exact⟨mh,bq,by rw[nF bt b bp l aQ aL i (ek.1 ab).1];exact kg,qH.cd a7⟩
      · obtain⟨bp,_,rfl⟩:=pd b x hb;cases iK
      · obtain⟨aQ,_⟩:=W.tO hb;obtain⟨bp,_,a8⟩:=pd b _ aQ;simp[BC]at a8
    have aa:=ea (a.put d bq) cT cA a7 bD ((M.cd a7).a4 br b4) e0 a3 fT;rcases az2 with y|⟨y,rfl⟩
    · rw[y,Oper.upon_value,aF];exact aa
    · rw[y,Oper.upon_skip,aF];exact aa
  · cases bt
theorem auN{sh:Nat}{lO:ez}{bd dE:W}{cX e2:World}(cC:sh=cX.heap.size)(D:dr aV ag bd cX)(H:dr sh lO dE e2)(fJ:fW ag lO)(ax:bd.next<=dE.next)(hb:Below sh cX e2):dr aV lO (bd.du (dE.next-bd.next)) e2:=by
  subst cC;have ar: ∀b l,ag b=some l->e2.heap[l.c]?=cX.heap[l.c]?:= λb l h=>hb.block _ (D.lF b l h);have aY: ∀b l dj,ag b=some l->lO b=some dj->dj=l:= λb l dj h bK=>by have:=fJ b l h;rw[bK]at this;cases this;rfl
  refine⟨λb l h=>by have:=H.ke b l h;rw[W.sn];omega,H.lF,λb x G=> ?_,λb x ca hJ l dj G aD hi cZ aC iJ=> ?_,λb a9 h=> ?_,λb a9 h=> ?_⟩
  · rw[W.e9]at G;obtain⟨l,aL,aU,cz,gR⟩:=D.lI b x G;have w8: ∀i,e2.cell? ⟨l.c,l.o+i,none⟩=cX.cell? ⟨l.c,l.o+i,none⟩:= λi=>by simp only[World.cell?,ar b l aL]
    have fa: ∀i,e2.frozen? ⟨l.c,l.o+i,none⟩=cX.frozen? ⟨l.c,l.o+i,none⟩:= λi=>by simp only[World.frozen?,ar b l aL]
    refine⟨l,fJ b l aL,aU,λi v ab=> ?_,λaD=>⟨(gR aD).1,λi ai=>by rw[w8,fa];exact(gR aD).2 i ai⟩⟩;obtain⟨mh,bq,kg,qH⟩:=cz i v ab;exact⟨mh,bq,by rw[w8];exact kg,qH.cd fJ⟩
  · rw[W.e9]at G hi;obtain⟨k,aL,_⟩:=D.lI b x G;obtain⟨eW,VG,_⟩:=D.lI ca hJ hi;rw[aY b k l aL aC,aY ca eW dj VG iJ];exact D.qI b x ca hJ k eW G aD hi cZ aL VG
  · obtain⟨l,e⟩:=D.s0 b a9 h;exact⟨l,fJ b l e⟩
  · obtain⟨aQ,a8⟩:=W.tO h;rw[W.e9]at aQ;obtain⟨l,c2,a5,aL,aU,cz,gR⟩:=D.maps b a9 (W.jJ aQ a8);exact⟨l,c2,a5,fJ b l aL,aU,by rw[ar b l aL];exact cz,gR.cd fJ⟩
theorem adW(b5:o0 P aV bF){Q:Exit->Act->World->Prop}(L:List bn)(z:aP)(m:W)(a:Act)(w:World)(ag:ez)(aj:aP)(an:W)
    (D: ∀b9∈L,∃o,uX P ops cM b9 o) (H:(L.map (·.aN)).Nodup) (M:gw ag cM z a) (aw:dr aV ag m w) (cC:aV<=w.heap.size) (aq: ∀b9∈L,b9.k.eU=true->base+b9.aN<m.next/\ag (base+b9.aN)=none) (aF:ju bF base L z m=some (aj,an))
    (bY: ∀dD cT cA,fW ag cA->(∀b,b<base->b<m.next->cA b=ag b)->gw cA cM aj dD->dr aV cA an cT->Below aV w cT->Q .normal dD cT):wpOps P ops Q (L.map (·.aN)) a w:=by
  have:=Ss (T:=[]) (Q:=Q) b5 L z m a w ag aj an D H M aw cC aq aF λdD cT cA a7 bD b4 e0 fT=>bY dD cT cA a7 (λb hb lX=>bD b lX λb9 _=>by omega) b4 e0 fT
  rwa [AW]at this
end
def ad.gg(k:ad)(id:Nat)(z:aP)(m:W):List (Nat×Option fm):=
  match k with
  | .dm J=>[(id,some ⟨J,true⟩)]
  | .lQ x=>[(id,some ⟨O (X z x),true⟩)]
  | .fI _ _ J ps=>[(id,some ⟨lv J z ps,true⟩)]
  | .store _ x v=>match X z x with
    | .pointer (some a)=>(match m.Y a.block with|some b=>[(a.block,some ⟨gx b.cells a.off (O (X z v)),b.own⟩)]|none=>[])
    |_=>[]
  | .nm x=>[(id,some ⟨vT (pO (X z x)),true⟩)]
  | .jq _ _ zero l _=>[(id,some ⟨(List.replicate (eR (X z l)).toNat zero).flatten,true⟩)]
  | .me _ _ zero _ l=>[(id,some ⟨(List.replicate (eR (X z l)).toNat zero).flatten,true⟩)]
  | .app J _ x y=>if gv (X z y)=0 then[]else(match X z x with| .slice (some a) _ _=>[(a.block,none)]|_=>[])++[(id,some ⟨fV m J (X z x)++fV m J (X z y),true⟩)]
  |_=>[]
def hK(m:W)(l:List (Nat×Option fm)):W:=l.foldl (λm p=>m.a4 p.1 p.2) m
section
variable {P:Program} {z dh:aP} {m dE:W} {aV:Nat} {bF:Callee} {base id:Nat} {k:ad}
theorem adm(y8:k.ud=false):k.gu id z m=hK m (k.gg id z m):=by
  cases k<;>simp only[ad.ud,Bool.true_eq_false]at y8<;>simp only[ad.gu,ad.gg,hK,List.foldl_nil,wD]
  · rename_i n x v;generalize X z x=bp;cases bp<;>try rfl
    rename_i p;cases p with
    |none=>rfl
    | some dV=>simp only[nc];cases m.Y dV.block<;>rfl
  · rename_i J o8 x y;split
    · rfl
    · generalize X z x=bp;cases bp<;>try rfl
      rename_i p l c;cases p<;>rfl
theorem Du: ∀p∈k.gg id z m,(k.eU=true/\p.1=id/\N (k.val id z m)=some id)\/ ∃x∈k.ma,N (X z x)=some p.1:=by
  intro p af;cases k<;>simp only[ad.gg,iG,pH]at af
  case dm=>subst af;exact .inl ⟨rfl,rfl,rfl⟩
  case lQ=>subst af;exact .inl ⟨rfl,rfl,rfl⟩
  case fI=>subst af;exact .inl ⟨rfl,rfl,rfl⟩
  case nm=>subst af;exact .inl ⟨rfl,rfl,rfl⟩
  case jq=>subst af;exact .inl ⟨rfl,rfl,rfl⟩
  case me=>subst af;exact .inl ⟨rfl,rfl,rfl⟩
  case store n x v=>
    split at af
    · rename_i dV h;split at af
      · simp only[pH]at af;subst af;exact .inr ⟨x,by simp[ad.ma],by simp[h,N]⟩
      · cases af
    · cases af
  case app J o8 x y=>
    split at af
    · cases af
    · rename_i ax;rcases kQ.1 af with h|h
      · split at h
        · rename_i dV l c G;simp only[pH]at h;subst h;exact .inr ⟨x,by simp[ad.ma],by simp[G,N]⟩
        · cases h
      · simp only[pH]at h;subst h;exact .inl ⟨rfl,rfl,by simp[ad.val,ax,N]⟩
theorem ON: ∀(l:List (Nat×Option fm)) (m:W) (b:Nat),(∀p∈l,p.1≠b)->(hK m l).Y b=m.Y b
  |[],_,_,_=>rfl
  | p::l,m,b,h=>by show(hK (m.a4 p.1 p.2) l).Y b=_;rw[ON l _ b (λq bf=>h q (by simp[bf])),W.mR,if_neg (Ne.symm (h p (by simp)))]
theorem aec{a b:Nat}{x y:Option fm}(h:a≠b):(m.a4 a x).a4 b y=(m.a4 b y).a4 a x:=by
  unfold W.a4;simp only[W.mk.injEq,true_and,and_true];funext i;by_cases D:i=b
  · subst D;simp[Ne.symm h]
  · simp[D]
theorem UL: ∀(l:List (Nat×Option fm)) (m:W) (b:Nat) (x:Option fm),(∀p∈l,p.1≠b)->hK (m.a4 b x) l=(hK m l).a4 b x
  |[],_,_,_,_=>rfl
  | p::l,m,b,x,h=>by show hK ((m.a4 b x).a4 p.1 p.2) l=(hK (m.a4 p.1 p.2) l).a4 b x;rw[aec (Ne.symm (h p (by simp))),UL l _ b x (λq bf=>h q (by simp[bf]))]
theorem UK: ∀(l r:List (Nat×Option fm)) (m:W),(∀p∈l,∀q∈r,p.1≠q.1)->hK (hK m l) r=hK (hK m r) l
  |[],_,_,_=>rfl
  | p::l,r,m,h=>by show hK (hK (m.a4 p.1 p.2) l) r=hK ((hK m r).a4 p.1 p.2) l;rw[UK l r _ (λlu vr=>h lu (by simp[vr])),UL r m p.1 p.2 (λq bf=>Ne.symm (h p (by simp) q bf))]
theorem N8{b:Nat}(h:m.Y b=dE.Y b)(off n:Nat):hf m b off n=hf dE b off n:=by unfold hf;rw[h]
theorem I9(y8:k.ud=false)(h: ∀x∈k.la,∀b,N (X z x)=some b->m.Y b=dE.Y b):k.ok z m=k.ok z dE/\k.val id z m=k.val id z dE/\k.gg id z m=k.gg id z dE:=by
  cases k<;>simp only[ad.ud,Bool.true_eq_false]at y8<;>try exact⟨rfl,rfl,rfl⟩
  case kp dc n x=>
    have D:=h x (by simp[ad.la]);cases ab:X z x<;>simp only[ad.ok,ad.val,ad.gg,ab,gk,j4,and_self];rename_i p;cases p with
    |none=>simp
    | some dV=>have H:=D dV.block (by simp[ab,N]);simp only[H,N8 H,and_self]
  case oR J n x=>
    have D:=h x (by simp[ad.la]);cases ab:X z x<;>simp only[ad.ok,ad.val,ad.gg,ab,gk,and_self];rename_i p;cases p with
    |none=>simp
    | some dV=>have H:=D dV.block (by simp[ab,N]);simp only[H,and_self]
  case store n x v=>
    have D:=h x (by simp[ad.la]);cases ab:X z x<;>simp only[ad.ok,ad.val,ad.gg,ab,gk,o7,true_and,and_self];rename_i p;cases p with
    |none=>simp
    | some dV=>have H:=D dV.block (by simp[ab,N]);simp only[H,and_self]
  case mg x=>
    have D:=h x (by simp[ad.la]);cases ab:X z x<;>simp only[ad.ok,ad.val,ad.gg,ab,fG,fV,and_self];rename_i p l c;cases p with
    |none=>simp
    | some dV=>have H:=D dV.block (by simp[ab,N]);simp only[H,N8 H,and_self]
  case app J o8 x y=>
    have D:=h x (by simp[ad.la]);have iY:=h y (by simp[ad.la]);have s: ∀v:Value,(∀b,N v=some b->m.Y b=dE.Y b)->fG m J v=fG dE J v/\jG m v=jG dE v/\fV m J v=fV dE J v:=by
      intro v ab;cases v<;>simp only[fG,jG,fV,and_self];rename_i p l c;cases p with
      |none=>simp
      | some dV=>have H:=ab dV.block (by simp[N]);simp only[H,N8 H,and_self]
    obtain⟨bw,bJ,cc⟩:=s _ D;obtain⟨c8,_,gl⟩:=s _ iY;simp only[ad.ok,ad.val,ad.gg,bw,bJ,cc,c8,gl,and_self]
theorem av3(h:k.ok z m=true): ∀x∈k.la++k.ma,∀b,N (X z x)=some b->(m.Y b).isSome=true:=by
  have az: ∀(v:Value) n,gk m v n=true-> ∀b,N v=some b->(m.Y b).isSome=true:=by intro v n ab b hb;obtain⟨ca,off,x,rfl,G,_⟩:=IH ab;simp only[N,lL]at hb;subst hb;rw[G];rfl
  have M: ∀(v:Value) J,fG m J v=true-> ∀b,N v=some b->(m.Y b).isSome=true:=by
    intro v J ab b hb;rcases AG ab with rfl|⟨ca,off,len,x,rfl,G,_⟩
    · simp[N]at hb
    · simp only[N,lL]at hb;subst hb;rw[G];rfl
  intro x G b hb;cases k<;>simp only[ad.la,ad.ma,AW,iG]at G
  case kp dc n y=>simp only[pH]at G;subst G;simp only[ad.ok,aX]at h;exact az _ _ h.1 b hb
  case oR J n y=>simp only[pH]at G;subst G;simp only[ad.ok,aX]at h;exact az _ _ h.1 b hb
  case store n y v=>simp at G;subst G;simp only[ad.ok,aX]at h;exact az _ _ h.1.1.1 b hb
  case mg y=>simp only[pH]at G;subst G;simp only[ad.ok,aX]at h;exact M _ _ h.1 b hb
  case hg J y=>simp at G;subst G;simp only[ad.ok,aX]at h;exact M _ _ h.1.1 b hb
  case app J o8 y v=>
    simp only[ad.ok,aX]at h;simp at G;rcases G with rfl|rfl|rfl
    · exact M _ _ h.1.1.1.1.1 b hb
    · exact M _ _ h.1.1.1.2 b hb
    · exact M _ _ h.1.1.1.1.1 b hb
theorem wY{x:Operand}(h: ∀t,x= .tmp t->z t=dh t):X z x=X dh x:=by cases x<;>first|rfl|exact h _ rfl
theorem Mz: ∀(ps:List (Nat×Nat×Operand)) (cs:List Value),(∀p∈ps,X z p.2.2=X dh p.2.2)->pt cs z ps=pt cs dh ps/\lv cs z ps=lv cs dh ps
  |[],_,_=>⟨rfl,rfl⟩
  | (a7,bD,b4)::ps,cs,h=>by have c5:X z b4=X dh b4:=h (a7,bD,b4) (by simp);have D:=(Mz ps cs λp af=>h p (by simp[af])).1;have H:=(Mz ps (gx cs a7 (O (X dh b4))) λp af=>h p (by simp[af])).2;simp only[pt,mK,lv,c5]at D⊢;exact⟨by rw[D],H⟩
theorem Hg{l:Option Operand}{d:Int}(h: ∀x∈l.toList,X z x=X dh x):m7 z l=m7 dh l/\gG z l d=gG dh l d:=by
  cases l with
  |none=>exact⟨rfl,rfl⟩
  |some x=>have:=h x (by simp);simp[m7,gG,this]
theorem va(h: ∀x∈k.gN,X z x=X dh x):k.ok z m=k.ok dh m/\k.val id z m=k.val id dh m/\k.gg id z m=k.gg id dh m/\k.e8 z m=k.e8 dh m:=by
  cases k<;>simp only[ad.gN,g6,iG,or_false,forall_eq_or_imp,forall_eq,kQ]at h
  case eT J ps=>obtain⟨D,H⟩:=Mz ps J λp af=>h _ (hc.2 ⟨p,af,rfl⟩);simp only[ad.ok,ad.val,ad.gg,ad.e8,D,H,and_self]
  case fI J n cs ps=>obtain⟨D,H⟩:=Mz ps cs λp af=>h _ (hc.2 ⟨p,af,rfl⟩);simp only[ad.ok,ad.val,ad.gg,ad.e8,D,H,and_self]
  case AH x l r=>have D:= λd=>Hg (l:=l) (d:=d) λy ah=>h.2 y (.inl ah);have H:= λd=>Hg (l:=r) (d:=d) λy ah=>h.2 y (.inr ah);simp only[ad.ok,ad.val,ad.gg,ad.e8,h.1,(D 0).1,(H 0).1,λd=>(D d).2,λd=>(H d).2,and_self]
  case nb J x l r=>have D:= λd=>Hg (l:=l) (d:=d) λy ah=>h.2 y (.inl ah);have H:= λd=>Hg (l:=r) (d:=d) λy ah=>h.2 y (.inr ah);simp only[ad.ok,ad.val,ad.gg,ad.e8,h.1,(D 0).1,(H 0).1,λd=>(D d).2,λd=>(H d).2,and_self]
  case uJ J x l r fh=>have D:= λd=>Hg (l:=l) (d:=d) λy ah=>h.2.2.2 y ah;simp only[ad.ok,ad.val,ad.gg,ad.e8,h.1,h.2.1,h.2.2.1,(D 0).1,λd=>(D d).2,and_self]
  case oF fh x xs=>
    have D: ∀(l:List Operand),(∀y∈l,X z y=X dh y)->(l.all λy=>eV (X z y))=(l.all λy=>eV (X dh y))/\
        ∀dz,l.foldl (λdz y=>if fh then nB dz (X z y)else nC dz (X z y)) dz=l.foldl (λdz y=>if fh then nB dz (X dh y)else nC dz (X dh y)) dz:=by
      intro l;induction l with
      |nil=>intro _;exact⟨rfl,λ_=>rfl⟩
      | cons y l cn=>intro aC;obtain⟨aQ,a8⟩:=cn λJ bL=>aC J (by simp[bL]);have:=aC y (by simp);exact⟨by simp only[mK,this,aQ],λdz=>by simp only[wD,this,a8]⟩
    obtain⟨aQ,a8⟩:=D xs h.2;simp only[ad.ok,ad.val,ad.gg,ad.e8,h.1,aQ,a8,and_self]
  case s3 fn xs ys=>have D:xs.map (X z)=xs.map (X dh):=yu λy ah=>h y (.inl ah);have H:ys.map (X z)=ys.map (X dh):=yu λy ah=>h y (.inr ah);simp only[ad.ok,ad.val,ad.gg,ad.e8,D,H,and_self]
  case dA f bQ=>have D:bQ.map (X z)=bQ.map (X dh):=yu h;simp only[ad.ok,ad.val,ad.gg,ad.e8,D,and_self]
  case iw x bQ=>have D:bQ.map (X z)=bQ.map (X dh):=yu h.2;simp only[ad.ok,ad.val,ad.gg,ad.e8,D,h.1,and_self]
  case kn bg x bQ=>have D:bQ.map (X z)=bQ.map (X dh):=yu h.2;simp only[ad.ok,ad.val,ad.gg,ad.e8,D,h.1,and_self]
  all_goals simp only[ad.ok,ad.val,ad.gg,ad.e8,h,and_self]
end
namespace NS
theorem atW{z:aP}{m:W}{k:ad}(h:k.jB=false):k.e8 z m=none:=by cases k<;>first|rfl|(simp[ad.jB]at h)
theorem at2{f:aP->W->Option (dy×aP×W)}{j:Nat}{z:aP}{m:W}{r:dy×aP×W}(h:jb f (j+1) z m=some r):
    (∃bI bd,f z m=some (.et,bI,bd)/\jb f j bI bd=some r)\/(f z m=some r/\r.1≠ .et):=by
  simp only[jb]at h;split at h
  · rename_i bI bd D;exact .inl ⟨bI,bd,D,h⟩
  · rename_i cZ;refine .inr ⟨h,λH=> ?_⟩;obtain⟨fC,g3,jF⟩:=r;cases H;exact cZ _ _ h
structure eQ(id:Nat)(x:Option fm)(m ae:W):Prop where
  eq:ae=m.a4 id x
  c0:id<m.next
  jf:m.Y id=none
section
variable {id:Nat} {x:Option fm} {m ae:W}
theorem eQ.next(K:eQ id x m ae):ae.next=m.next:=by rw[K.eq];rfl
theorem eQ.mp(K:eQ id x m ae):ae.mp=m.mp:=by rw[K.eq];rfl
theorem eQ.kr(K:eQ id x m ae){b:Nat}{y:fm}(h:m.Y b=some y):b≠id:= λaA=>by subst aA;rw[K.jf]at h;cases h
theorem eQ.OO(K:eQ id x m ae){b:Nat}(h:b≠id):ae.Y b=m.Y b:=by rw[K.eq,W.mR,if_neg h]
theorem eQ.Y(K:eQ id x m ae){b:Nat}{y:fm}(h:m.Y b=some y):ae.Y b=some y:=by rw[K.OO (K.kr h),h]
theorem eQ.eJ(K:eQ id x m ae){b:Nat}{e:List (Value×Value)}(h:m.eJ b=some e):ae.eJ b=some e:=by
  unfold W.eJ at h⊢;cases aM:m.Y b with
  |none=>rw[aM]at h;cases h
  |some y=>rw[aM]at h;rw[K.Y aM,K.mp];exact h
theorem eQ.OM(K:eQ id x m ae){b:Nat}{e:List (Value×Value)}(h:m.eJ b=some e):b≠id:=by
  unfold W.eJ at h;cases aM:m.Y b with
  |none=>rw[aM]at h;cases h
  |some y=>exact K.kr aM
theorem eQ.a4(K:eQ id x m ae){b:Nat}(hb:b≠id)(y:Option fm):eQ id x (m.a4 b y) (ae.a4 b y) where
  eq:=by rw[K.eq];exact aec (by omega)
  c0:=K.c0
  jf:=by rw[W.mR,if_neg (by omega)];exact K.jf
theorem eQ.gH(K:eQ id x m ae){b:Nat}(hb:b≠id)(e:List (Value×Value)):eQ id x (m.gH b e) (ae.gH b e) where
  eq:=by
    rw[K.eq];simp only[W.gH,W.a4,W.mk.injEq,true_and,and_true];funext i;by_cases D:i=b
    · subst D;simp[hb]
    · simp[D]
  c0:=K.c0
  jf:=by have:=K.jf;simp only[W.Y,W.gH,show¬id=b by omega,if_false]at this⊢;exact this
theorem eQ.du(K:eQ id x m ae)(k:Nat):eQ id x (m.du k) (ae.du k) where
  eq:=by
    rw[K.eq];simp only[W.du,W.a4,W.mk.injEq,true_and,and_true];funext i;by_cases D:i=id
    · subst D;simp[K.c0]
    · simp[D]
  c0:=by have:=K.c0;show id<m.next+k;omega
  jf:=by rw[W.e9];exact K.jf
theorem eQ.gk(K:eQ id x m ae){v:Value}{n:Nat}(h:gk m v n=true):gk ae v n=true:=by
  unfold DI.gk at h⊢;split at h
  · rename_i a;simp only[aX]at h⊢;refine⟨h.1,?_⟩;cases aM:m.Y a.block with
    |none=>rw[aM]at h;simp at h
    |some x=>rw[aM]at h;rw[K.Y aM];exact h.2
  · cases h
theorem eQ.o7(K:eQ id x m ae){v:Value}(h:o7 m v=true):o7 ae v=true:=by
  unfold DI.o7 at h⊢;split at h
  · rename_i a;cases aM:m.Y a.block with
    |none=>rw[aM]at h;cases h
    |some x=>rw[aM]at h;rw[K.Y aM];exact h
  · cases h
theorem eQ.j4(K:eQ id x m ae){v:Value}{n:Nat}{dc:Bool}(h:DI.gk m v n=true):j4 ae dc n v=j4 m dc n v:=by
  unfold DI.gk at h;split at h
  · rename_i a;simp only[aX]at h;cases aM:m.Y a.block with
    |none=>rw[aM]at h;simp at h
    |some x=>simp only[DI.j4,hf,aM,K.Y aM]
  · cases h
theorem eQ.nc(K:eQ id x m ae){v:Value}{n:Nat}{cs:List Value}(h:DI.gk m v n=true):eQ id x (nc m v cs) (nc ae v cs):=by
  unfold DI.gk at h;split at h
  · rename_i a;simp only[aX]at h;cases aM:m.Y a.block with
    |none=>rw[aM]at h;simp at h
    |some x=>simp only[DI.nc,aM,K.Y aM];exact K.a4 (K.kr aM) _
  · cases h
theorem eQ.fG(K:eQ id x m ae){v:Value}{J:Nat}(h:fG m J v=true):fG ae J v=true:=by
  unfold DI.fG at h⊢;split at h
  · exact h
  · rename_i a l c;simp only[aX]at h⊢;refine⟨h.1,?_⟩;cases aM:m.Y a.block with
    |none=>rw[aM]at h;simp at h
    |some x=>rw[aM]at h;rw[K.Y aM];exact h.2
  · cases h
theorem eQ.jG(K:eQ id x m ae){v:Value}(h:jG m v=true):jG ae v=true:=by
  unfold DI.jG at h⊢;split at h
  · rfl
  · rename_i a l c;cases aM:m.Y a.block with
    |none=>rw[aM]at h;cases h
    |some x=>rw[aM]at h;rw[K.Y aM];exact h
  · cases h
theorem eQ.fV(K:eQ id x m ae){v:Value}{J:Nat}(h:DI.fG m J v=true):fV ae J v=fV m J v:=by
  unfold DI.fG at h;split at h
  · rfl
  · rename_i a l c;simp only[aX]at h;cases aM:m.Y a.block with
    |none=>rw[aM]at h;simp at h
    |some x=>simp only[DI.fV,hf,aM,K.Y aM]
  · cases h
theorem eQ.j3(K:eQ id x m ae){v:Value}{J:Nat}(h:DI.fG m J v=true):eQ id x (j3 m v) (j3 ae v):=by
  unfold DI.fG at h;split at h
  · exact K
  · rename_i a l c;simp only[aX]at h;cases aM:m.Y a.block with
    |none=>rw[aM]at h;simp at h
    |some x=>exact K.a4 (K.kr aM) _
  · cases h
theorem eQ.mf(K:eQ id x m ae){v:Value}{J:Nat}{cs:List Value}(h:DI.fG m J v=true):eQ id x (mf m cs v) (mf ae cs v):=by
  unfold DI.fG at h;split at h
  · exact K
  · rename_i a l c;simp only[aX]at h;cases aM:m.Y a.block with
    |none=>rw[aM]at h;simp at h
    |some x=>simp only[DI.mf,aM,K.Y aM];exact K.a4 (K.kr aM) _
  · cases h
theorem eQ.jM(K:eQ id x m ae){v:Value}{a9:List (Value×Value)}(h:jM m v=some a9):jM ae v=some a9:=by
  unfold DI.jM at h⊢;split at h
  · exact h
  · exact K.eJ h
  · cases h
theorem Hd(K:eQ id x m ae){k:ad}{z:aP}(h:k.ok z m=true):k.ok z ae=true:=by
  cases k with
  |oR J n y=>simp only[ad.ok,aX]at h⊢;exact⟨K.gk h.1,h.2⟩
  |kp dc n y=>simp only[ad.ok,aX]at h⊢;exact⟨K.gk h.1,h.2⟩
  |store n x v=>simp only[ad.ok,aX]at h⊢;exact⟨⟨⟨K.gk h.1.1.1,K.o7 h.1.1.2⟩,h.1.2⟩,h.2⟩
  |mg x=>simp only[ad.ok,aX]at h⊢;exact⟨K.fG h.1,by rw[K.fV h.1];exact h.2⟩
  |app J bytes x y=>simp only[ad.ok,aX]at h⊢;exact⟨⟨⟨⟨⟨K.fG h.1.1.1.1.1,K.jG h.1.1.1.1.2⟩,K.fG h.1.1.1.2⟩,h.1.1.2⟩,h.1.2⟩,h.2⟩
  |hg J x=>simp only[ad.ok,aX]at h⊢;exact⟨⟨K.fG h.1.1,K.jG h.1.2⟩,h.2⟩
  | m1 a5 J o x fB=>
    simp only[ad.ok]at h⊢;cases aw:DI.jM m (X z x)with
    |none=>rw[aw]at h;cases h
    |some a9=>rw[aw]at h;rw[K.jM aw];exact h
  | lJ a5 x fB v=>
    simp only[ad.ok]at h⊢;split at h
    · rename_i cl b hb;cases aw:m.eJ b with
      |none=>rw[aw]at h;cases h
      |some a9=>rw[aw]at h;rw[K.eJ aw];exact h
    · cases h
  |_=>exact h
theorem H7(K:eQ id x m ae){k:ad}{z:aP}{CP:Nat}(h:k.ok z m=true):k.val CP z ae=k.val CP z m:=by
  cases k with
  |kp dc n y=>simp only[ad.ok,aX]at h;exact K.j4 h.1
  |mg x=>simp only[ad.ok,aX]at h;simp only[ad.val,K.fV h.1]
  | m1 a5 J o x fB=>
    simp only[ad.ok]at h;cases aw:DI.jM m (X z x)with
    |none=>rw[aw]at h;cases h
    |some a9=>simp only[ad.val,aw,K.jM aw]
  |_=>rfl
theorem G7(K:eQ id x m ae){k:ad}{z:aP}{CP:Nat}(eg:CP≠id)(h:k.ok z m=true):eQ id x (k.gu CP z m) (k.gu CP z ae):=by
  cases k with
  |dm J=>exact K.a4 eg _
  |lQ x=>exact K.a4 eg _
  |fI a b c d=>exact K.a4 eg _
  |nm x=>exact K.a4 eg _
  |me a b c d e=>exact K.a4 eg _
  |hg J x=>simp only[ad.ok,aX]at h;exact K.mf h.1.1
  |jq a b c d e=>exact K.a4 eg _
  |store n x v=>simp only[ad.ok,aX]at h;exact K.nc h.1.1.1
  | app J bytes x y=>
    simp only[ad.ok,aX]at h;simp only[ad.gu];split
    · exact K
    · rw[K.fV h.1.1.1.1.1,K.fV h.1.1.1.2];exact(K.j3 h.1.1.1.1.1).a4 eg _
  |m0=>exact K.gH eg _
  | lJ a5 x fB v=>
    simp only[ad.ok]at h;split at h
    · rename_i cl b hb;cases aw:m.eJ b with
      |none=>rw[aw]at h;cases h
      |some a9=>simp only[ad.gu,hb,um,aw,K.eJ aw];exact K.gH (K.OM aw) _
    · cases h
  |_=>exact K
theorem IX(K:eQ id x m ae){k:ad}{z:aP}{ki:Nat×List Value}(h:k.e8 z m=some ki):k.e8 z ae=some ki:=by
  cases k with
  | kn bg x args=>
    simp only[ad.e8]at h⊢;split at h
    · split at h
      · exact h
      · split at h
        · rename_i ar;simp only[aX]at ar;rw[if_pos (by simp only[aX];exact⟨K.gk ar.1,ar.2⟩),K.j4 ar.1];exact h
        · cases h
      · cases h
    · cases h
  |_=>exact h
theorem N6{m ae:W}{k:ad}{z:aP}(h:k.e8 z m=none)(ao:k.ok z m=true):k.e8 z ae=none:=by
  refine atW ?_;cases k with
  |dA f a=>simp[ad.ok]at ao
  |iw f a=>simp[ad.ok]at ao
  |kn f a b=>simp[ad.ok]at ao
  |_=>rfl
def IC(id:Nat)(x:Option fm)(bF:Callee):Prop:= ∀f a m r an,bF f a m=some (r,an)-> ∀ae,eQ id x m ae-> ∃cj,bF f a ae=some (r,cj)/\eQ id x an cj
theorem RU{an cj:W}(K:eQ id x m ae)(cy:eQ id x an cj){z:aP}{a5:List (Operand×Operand)}(h:p9 z a5 m an):p9 z a5 ae cj:= λp af b hb=>by
  by_cases aA:b=id
  · subst aA;rw[K.eq,cy.eq,W.mR,W.mR,if_pos rfl,if_pos rfl,if_pos K.c0,if_pos cy.c0]
  · rw[K.OO aA,cy.OO aA];exact h p af b hb
theorem TG{bF:Callee}(b5:IC id x bF)(K:eQ id x m ae){base:Nat}(hb:id<base){o:bn}{z aj:aP}{an:W}(h:g4 bF base o z m=some (aj,an))(aa:nO o z m an):
    ∃cj,g4 bF base o z ae=some (aj,cj)/\eQ id x an cj/\nO o z ae cj:=by
  unfold g4 at h⊢;unfold nO at aa⊢;by_cases aZ:eH z o.g=true
  · rw[if_pos aZ]at h⊢
    replace aa:=aa aZ
    cases ar:o.k.e8 z m with
    | none=>
      rw[ar]at h aa;simp only at h aa;split at h
      · rename_i ao;cases h;simp only[N6 ar ao];rw[if_pos (Hd K ao),H7 K ao];exact⟨_,rfl,G7 K (by omega) ao,λ_=>aa⟩
      · cases h
    | some ki=>
      obtain⟨f,args⟩:=ki;rw[ar]at h aa;simp only at h aa;cases a3:bF f args m with
      |none=>rw[a3]at h;cases h
      | some Dr=>obtain⟨v,bd⟩:=Dr;rw[a3]at h;cases h;obtain⟨cj,D,cy⟩:=b5 _ _ _ _ _ a3 ae K;simp only[IX K ar,D];exact⟨_,rfl,cy,λ_=>RU K cy aa⟩
  · rw[if_neg aZ]at h⊢;cases h;exact⟨ae,rfl,K,λh=>absurd h aZ⟩
theorem vV{bF:Callee}(b5:IC id x bF){base:Nat}(hb:id<base): ∀{L:List bn} {z aj:aP} {m an ae:W},eQ id x m ae->ju bF base L z m=some (aj,an)-> ∃cj,ju bF base L z ae=some (aj,cj)/\eQ id x an cj
  |[],_,_,_,_,ae,K,h=>by cases h;exact⟨ae,rfl,K⟩
  | _::_,_,_,_,_,ae,K,h=>by obtain⟨bI,bd,D,H,aq⟩:=qg h;obtain⟨cQ,aQ,cp,a8⟩:=TG b5 K hb D H;obtain⟨e7,cN,fD⟩:=vV b5 hb cp aq;exact⟨e7,v8 aQ a8 cN,fD⟩
theorem GU{f:aP->W->Option (dy×aP×W)}(a3: ∀z m e aj an,f z m=some (e,aj,an)-> ∀ae,eQ id x m ae-> ∃cj,f z ae=some (e,aj,cj)/\eQ id x an cj):
    ∀{n:Nat} {z:aP} {m:W} {e:dy} {aj:aP} {an ae:W},jb f n z m=some (e,aj,an)->eQ id x m ae-> ∃cj,jb f n z ae=some (e,aj,cj)/\eQ id x an cj
  |0,_,_,_,_,_,_,h,_=>by simp[jb]at h
  | n+1,z,m,e,aj,an,ae,h,K=>by
    rcases at2 h with⟨bI,bd,D,H⟩|⟨D,H⟩
    · obtain⟨cQ,aQ,cp⟩:=a3 _ _ _ _ _ D ae K;obtain⟨e7,a8,fD⟩:=GU a3 H cp;exact⟨e7,by simp only[jb,aQ];exact a8,fD⟩
    · obtain⟨cQ,aQ,cp⟩:=a3 _ _ _ _ _ D ae K;refine⟨cQ,?_,cp⟩;simp only[jb,aQ];cases e with
      |et=>exact absurd rfl H
      |ba id=>rfl
      |aG=>rfl
theorem eQ.mW(K:eQ id x m ae):eQ id (x.map BC) (mW m) (mW ae) where
  eq:=by
    rw[K.eq];simp only[DI.mW,W.a4,W.mk.injEq,true_and,and_true];funext b;by_cases h:b=id
    · subst h;simp
    · simp[h]
  c0:=K.c0
  jf:=by have:=K.jf;unfold W.Y at this⊢;have h:=K.c0;rw[if_pos h]at this;show(if id<m.next then _ else _)=_;rw[if_pos h];simp only[DI.mW,this,Option.map_none]
theorem eQ.pC(K:eQ id x m ae){J:Nat}{v:Value}(h:pC J m v=true):pC J ae v=true:=by
  unfold DI.pC at h⊢;split at h
  · rename_i a l c;cases aM:m.Y a.block with
    |none=>rw[aM]at h;cases h
    |some x=>rw[aM]at h;rw[K.Y aM];exact h
  · rfl
theorem eQ.mw(K:eQ id x m ae){o:bn}{z:aP}(h:mw o z m=true):mw o z ae=true:=by
  unfold DI.mw at h⊢;simp only[aX]at h⊢;refine⟨⟨h.1.1,?_⟩,Hd K h.2⟩;have:=h.1.2;split at this
  · exact K.pC this
  · cases this
theorem mP{bF:Callee}(b5: ∀x,IC id x bF){n:Nat}: ∀{c:I} {z aj:aP} {m an ae:W} {e:dy},en bF n c z m=some (e,aj,an)->eQ id x m ae-> ∃cj,en bF n c z ae=some (e,aj,cj)/\eQ id x an cj
  | .skip,_,_,_,_,ae,_,h,K=>by cases h;exact⟨ae,rfl,K⟩
  | .E ops,z,aj,m,an,ae,e,h,K=>by
    simp only[en]at h⊢;split at h
    · rename_i bI bd ay;cases h;have cy:eQ id x (gQ ops m) (gQ ops ae):=by
        unfold gQ;split
        · exact K.du _
        · exact K
      obtain⟨cj,g,fD⟩:=vV (b5 x) (base:=m.next) K.c0 cy ay;refine⟨cj,?_,fD⟩;rw[K.next,g]
    · cases h
  | .qa bP o bV,z,aj,m,an,ae,e,h,K=>by
    simp only[en]at h⊢;split at h
    · rename_i bI bd D;split at h
      · rename_i ao;split at h
        · rename_i dh dE H;cases h;obtain⟨cQ,aQ,cp⟩:=vV (b5 x) (base:=m.next) K.c0 (K.du _) D;have aa:o.k.ok bI bd=true:=(by unfold DI.mw at ao;simp only[aX]at ao;exact ao.2);obtain⟨e7,a8,fD⟩:=vV (b5 _) (base:=m.next) K.c0 cp.mW H;rw[K.next,aQ];simp only[cp.mw ao,if_true,H7 cp aa,a8,fD.next,cp.next];exact⟨_,rfl,(G7 cp (by have:=K.c0;omega) aa).du _⟩
        · cases h
      · cases h
    · cases h
  | .B a b,z,aj,m,an,ae,e,h,K=>by
    simp only[en]at h⊢;split at h
    · rename_i bI bd D;obtain⟨cQ,aQ,cp⟩:=mP b5 D K;obtain⟨e7,a8,fD⟩:=mP b5 h cp;exact⟨e7,by rw[aQ];exact a8,fD⟩
    · rename_i cZ;obtain⟨cQ,aQ,cp⟩:=mP b5 h K;refine⟨cQ,?_,cp⟩;rw[aQ];cases e with
      |et=>exact absurd h (cZ _ _)
      |ba id=>rfl
      |aG=>rfl
  | .aR x a b,z,aj,m,an,ae,e,h,K=>by
    simp only[en]at h⊢;split at h
    · rename_i D;rw[if_pos D];split at h
      · rename_i H;rw[if_pos H];exact mP b5 h K
      · rename_i H;rw[if_neg H];exact mP b5 h K
    · cases h
  | .block id c,z,aj,m,an,ae,e,h,K=>by
    simp only[en]at h⊢;split at h
    · rename_i D;obtain⟨cQ,aQ,cp⟩:=mP b5 D K;rw[aQ];simp only;split at h
      · rename_i eg;cases h;exact⟨cQ,by rw[if_pos eg],cp⟩
      · rename_i eg;cases h;exact⟨cQ,by rw[if_neg eg],cp⟩
    · rename_i cZ;obtain⟨cQ,aQ,cp⟩:=mP b5 h K;refine⟨cQ,?_,cp⟩;rw[aQ];cases e with
      |et=>rfl
      |ba id=>exact absurd h (cZ _ _ _)
      |aG=>rfl
  | .loop c,z,aj,m,an,ae,e,h,K=>by simp only[en]at h⊢;exact GU (f:=en bF n c) (λz m e aj an D ae K=>mP b5 D K) h K
  | .ba id,_,_,_,_,ae,_,h,K=>by cases h;exact⟨ae,rfl,K⟩
  | .aG,_,_,_,_,ae,_,h,K=>by cases h;exact⟨ae,rfl,K⟩
theorem At(K:eQ id x m ae){z:aP}{r:kU}(h:oN m z r=true):oN ae z r=true/\pw ae z r=pw m z r:=by
  cases r with
  |bG t=>exact⟨rfl,rfl⟩
  | hL t dc n=>simp only[oN,aX]at h⊢;exact⟨⟨K.gk h.1,h.2⟩,K.j4 h.1⟩
theorem SF(K:eQ id x m ae){z:aP}{cm:List kU}(h:kK m z cm=true):kK ae z cm=true/\lb ae z cm=lb m z cm:=by
  have ay: ∀r∈cm,oN m z r=true:=by simpa[kK]using h
  refine⟨by simp only[kK,eD];exact λr aw=>(At K (ay r aw)).1,?_⟩;unfold lb;split
  · exact(At K (ay _ (by simp))).2
  · rw[yu λr aw=>(At K (ay r aw)).2]
theorem D6{P:Program}: ∀n x,IC id x (jl P n)
  |0,_=> λf a m r an h=>by simp[jl]at h
  | n+1,x=> λf a m r an h ae K=>by
    simp only[jl]at h⊢;split at h
    · rename_i u dn;split at h
      · rename_i fJ;rw[if_pos fJ];split at h
        · cases h
        · rename_i e aj bd cZ hh;obtain⟨cQ,aQ,cp⟩:=mP (D6 n) hh K;split at h
          · rename_i ay;cases h;obtain⟨a8,cN⟩:=SF cp ay;rw[aQ];refine⟨cQ,?_,cp⟩;cases e with
            |et=>simp only[a8,cN,if_true]
            |aG=>simp only[a8,cN,if_true]
            |ba id=>exact absurd rfl (cZ id)
          · cases h
        · cases h
      · cases h
    · cases h
end
end NS
end Go.DI
