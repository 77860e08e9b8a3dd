/-
  A part of the proof of the statement, in texts that tools of ours (wip/shrink.py, irpack.py, relax.py, minify.py, join.py, lay.py) have shortened.
-/
import Derived.MapKept
import Derived.Test.YtmmkkggfmigppaaGreatZab
set_option linter.all false
set_option maxRecDepth 8000
set_option maxHeartbeats 16000000
namespace Go.DI
open Go Go.RowKit
section
variable {P:Program} {w:World} {o:Oper} {a:Act} {an:eJ} {cZ:Nat} {A:aR} {m:W} {aV id:Nat}
theorem aAL{c4:Type}(xs:Array c4)(x:c4)(f:c4->c4):(xs.push x).modify xs.size f=xs.push (f x):=by
  apply Array.ext_getElem?;intro i;rw[Array.getElem?_modify,Jw,Jw];by_cases h:xs.size=i
  · simp[h]
  · have: ¬i=xs.size:= λe=>h e.symm;simp[h,this]
theorem aDB{s d e:TypeId}{x:Operand}(bB:o.op= .convert s d x)(pd:P.underlying s=some .string)(pb:P.underlying d=some (.slice e))(bZ:P.underlying e=some (.int .u8))(G:cX x=true)
    (K:gK an cZ A a) (ax:dB aV an m w) (cT:aV<=w.heap.size) (ep:id<m.next) (aw:an id=none) (au:(ag.nX x).ok A m=true):o4 P o (.nX x) a aV an A m w id:=by
  simp only[ag.ok,a1,e2]at au;obtain⟨E,I⟩:=au;obtain⟨aJ,b,ad⟩:=Ja (K.Z G) E;rw[ad]at I;simp only[qB]at I;have uX:=grownCap_ge w b.size 0 e;have pY:grownCap w b.size 0 e<=maxLen:=grownCap_le_maxLen w _ 0 e (by unfold maxLen;omega);generalize QO:grownCap w b.size 0 e=cap at uX pY
  let iX:Array Value:=(b.data.map λ(x:UInt8)=>Value.int .u8 x.toNat)++Array.replicate (cap-b.size) (Value.int .u8 0)
  have ju:iX.size=cap:=by show((b.data.map λ(x:UInt8)=>Value.int .u8 x.toNat)++Array.replicate (cap-b.size) (Value.int .u8 0)).size=cap;simp only[Array.size_append,Array.size_map,Array.size_replicate];have:b.data.size=b.size:=rfl;omega
  have qO:(w.drew.alloc (.cells iX e)).freeze ⟨w.heap.size,iX.size,none⟩ 1=w.drew.alloc (.cells iX e (iX.size,iX.size+1)):=by simp only[World.freeze,Nat.one_ne_zero,if_false,World.alloc];congr 1;show(w.heap.push _).modify w.heap.size _=w.heap.push _;rw[aAL];simp
  have hZ:(Conv.stringToBytes e b).run P w= .ok (.slice (some ⟨w.heap.size,0,none⟩) b.size cap) (w.drew.alloc (.cells iX e (iX.size,iX.size+1))):=by
    have yf:(choose (.appendCap b.size 0 e)).run P w= .ok cap w.drew:=(by rw[<-QO];rfl);have pf:(newRow e iX).run P w.drew= .ok ⟨w.heap.size,0,none⟩ (w.drew.alloc (.cells iX e)):=rfl;have amM:(w.drew.alloc (.cells iX e)).shape? w.heap.size=some (e,iX.size):=(by show(match(w.heap.push (Obj.cells iX e))[w.heap.size]? with|some (.cells c akW _)=>some (akW,c.size)|_=>none)=_;simp);have ami:(markStringish ⟨w.heap.size,0,none⟩).run P (w.drew.alloc (.cells iX e))= .ok () (w.drew.alloc (.cells iX e (iX.size,iX.size+1))):=by
      simp only[markStringish,Sem.run_bind];have:(shape w.heap.size).run P (w.drew.alloc (.cells iX e))= .ok (some (e,iX.size)) (w.drew.alloc (.cells iX e)):=by simp only[shape,Sem.run,amM]
      rw[this];simp only[Result.andThen_ok];show Result.ok () ((w.drew.alloc (.cells iX e)).freeze ⟨w.heap.size,iX.size,none⟩ 1)=_;rw[qO]
    simp only[Conv.stringToBytes,Sem.run_bind,yf,Result.andThen_ok];have aU:(b.data.map λ(b:UInt8)=>Value.int .u8 b.toNat)++Array.replicate (cap-b.size) (Value.int .u8 0)=iX:=rfl;rw[aU,pf];simp only[Result.andThen_ok,ami];rfl
  refine⟨.slice (some ⟨w.heap.size,0,none⟩) b.size cap,_,hN an id ⟨w.heap.size,0,cap⟩,.inl ?_,sd aw,vP,?_,?_,th (w:=w) (c8:=w.drew) rfl rfl rfl rfl cT (.cells iX e (iX.size,iX.size+1))⟩
  · simp[execOp,bB,aJ,ad,convert,underlying,pd,pb,bZ,hZ]
  · simp only[ag.val,ad,qB];exact .slice (off:=0) (l:=⟨w.heap.size,0,cap⟩) (by simp[hN]) (.inr ⟨by simp,by simp⟩) uX pY
  · simp only[ag.gG,ad,qB];refine ax.Br (c8:=w.drew) rfl cT ep aw (by simp only[xc,j5,Array.length_toList];exact uX) (by rw[ju];exact ey _) (λi v rL=> ?_) (λi gW=>by simp only;omega);have ln:i<b.data.size:=(by have:=(dO.1 rL).1;simpa[xc]using this);have amU:v= .int .u8 (b.data[i]).toNat:=by
      simp only[xc,oZ,EW,zA ln,Option.map_some,lV]at rL;exact rL.symm
    subst amU;refine⟨rfl,_,?_,.cH rfl⟩;show((b.data.map λ(x:UInt8)=>Value.int .u8 x.toNat)++Array.replicate (cap-b.size) (Value.int .u8 0))[i]?=_;rw[Jt (by simpa using ln),Array.getElem?_map,zA ln];rfl
end
def kD.uQ:kD->TypeDesc
  | .int k=> .int k
  | .str=> .string
theorem afS{fN:kD}{v:Value}(h:n6 fN v=true):MapKept.IsKey fN.uQ v:=by cases fN<;>cases v<;>simp_all [n6,MapKept.IsKey,kD.uQ]
theorem Nj{fN:kD}{v:Value}(h:n6 fN v=true):dZ v=true:=by cases fN<;>cases v<;>simp_all [n6,dZ]
theorem akp{fN:kD}{a b:Value}(aA:n6 fN a=true)(hb:n6 fN b=true):Instr.sameNow fN.uQ a b=some (o7 a b)/\(o7 a b=true->a=b):=by
  cases fN with
  | int TT=>cases a<;>simp[n6]at aA;cases b<;>simp[n6]at hb;rename_i en gb hd hr;subst aA;subst hb;have e:(gb==hr)=decide (gb=hr):=(by by_cases h:gb=hr<;>simp[h]);exact⟨by simp only[kD.uQ,Instr.sameNow,o7,e,if_true],λh=>by simp only[o7,e2]at h;rw[h]⟩
  | str=>
    cases a<;>simp[n6]at aA;cases b<;>simp[n6]at hb;rename_i x y;have e:(x==y)=decide (x=y):=by
      have:=MapKept.bytes_beq x y;by_cases h:x=y
      · rw[this.2 h];simp[h]
      · cases ar:(x==y)
        · simp[h]
        · exact absurd (this.1 ar) h
    exact⟨by simp only[kD.uQ,Instr.sameNow,o7,e],λh=>by simp only[o7,e2]at h;rw[h]⟩
theorem XL{P:Program}{t:TypeId}{fN:kD}(h:Kd P t=some fN):P.underlying t=some fN.uQ:=by
  unfold Kd at h;split at h<;>cases h
  · rename_i k aa;exact aa
  · rename_i aa;exact aa
theorem Qe{an:eJ}{fN:kD}{k:Value}(aa:n6 fN k=true): ∀(bc:List (Value×Value)) (de:List MapEntry) (i:Nat),xR an bc de->(bc.all λe=>n6 fN e.1)=true->
    (jk k bc=none/\Instr.findNow fN.uQ k de i=some none/\ ∀v,lM k v bc=bc++[(k,v)])\/
    (∃j e et,bc[j]?=some e/\de[j]?=some et/\et.key=k/\jk k bc=some e.2/\Instr.findNow fN.uQ k de i=some (some (i+j,et.val))/\ ∀v,lM k v bc=bc.set j (k,v))
  | [],de,i,h,_=>by have:de=[]:=qu.1 h.1.symm;subst this;exact .inl ⟨rfl,rfl,λ_=>rfl⟩
  | e::bc,de,i,h,aA=>by
    cases de with
    |nil=>have:=h.1;simp at this
    | cons et de=>
      simp only[nm,a1]at aA;obtain⟨E,I,av,aH⟩:=h.2 0 e et rfl rfl;have K1:xR an bc de:=⟨by simpa using h.1,λj a b E I=>h.2 (j+1) a b (by simpa using E) (by simpa using I)⟩;obtain⟨bO,cA⟩:=akp aa aA.1;cases ar:o7 k e.1
      · rw[ar,<-I]at bO;rcases Qe aa bc de (i+1) K1 aA.2 with⟨aK,bb,c0⟩|⟨j,x,ic,aK,bb,c0,ea,e9,fo⟩
        · exact .inl ⟨by simp[jk,ar,aK],by simp[Instr.findNow,bO,bb],λv=>by simp[lM,ar,c0]⟩
        · exact .inr ⟨j+1,x,ic,by simpa using aK,by simpa using bb,c0,by simp[jk,ar,ea],by simp[Instr.findNow,bO,e9];omega,λv=>by simp[lM,ar,fo]⟩
      · rw[ar,<-I]at bO;exact .inr ⟨0,e,et,rfl,rfl,by rw[I];exact(cA ar).symm,by simp[jk,ar],by simp[Instr.findNow,bO],λv=>by simp[lM,ar]⟩
section
variable {P:Program} {w:World} {o:Oper} {a:Act} {an:eJ} {cZ:Nat} {A:aR} {m:W} {aV id:Nat}
theorem aFI{e:TypeId}{J:Value}(bK:OR P e=some J):(zeroValue e).run P w= .ok J w/\dZ J=true:=by
  unfold OR at bK;split at bK
  · rename_i i ai;split at bK
    · rename_i hO n5;split at bK<;>cases bK;rename_i aT;exact⟨by simp[zeroValue,typeInfo,ai,n5],aT⟩
    · cases bK
  · cases bK
theorem dB.aAY(ax:dB aV an m w)(cT:aV<=w.heap.size)(ep:id<m.next)(aw:an id=none):dB aV (hN an id ⟨w.heap.size,0,0⟩) (m.g2 id []) (w.alloc (.map #[] 0)):=by
  have fR:=sd (l:=⟨w.heap.size,0,0⟩) aw;have ju:(w.alloc (.map #[] 0)).heap.size=w.heap.size+1:=by show(w.heap.push _).size=_;rw[Array.size_push]
  have CM: ∀k,k<w.heap.size->(w.alloc (.map #[] 0)).heap[k]?=w.heap[k]?:= λk aa=>by show(w.heap.push _)[k]?=_;rw[Jw,if_neg (by omega)]
  have p0: ∀b,(m.g2 id []).X b=if b=id then some ⟨[],true⟩else m.X b:= λb=>by
    unfold W.X W.g2;by_cases h:b=id
    · subst h;simp[ep]
    · simp[h]
  have Gc: ∀b l,hN an id ⟨w.heap.size,0,0⟩ b=some l->(b=id/\l=⟨w.heap.size,0,0⟩)\/(b≠id/\an b=some l):= λb l h=>by
    unfold hN at h;split at h
    · rename_i e;cases h;exact .inl ⟨e,rfl⟩
    · rename_i e;exact .inr ⟨e,h⟩
  refine⟨λb l hb=> ?_,λb l hb=> ?_,λb x G=> ?_,λb x cd ic l dh E I av aH br cW=> ?_,λb bc hb=> ?_,λb bc hb=> ?_⟩
  · rcases Gc b l hb with⟨rfl,_⟩|⟨_,h⟩
    · exact ep
    · exact ax.mf b l h
  · rcases Gc b l hb with⟨_,rfl⟩|⟨_,h⟩
    · rw[ju];exact Nat.lt_succ_self _
    · rw[ju];have:=ax.mi b l h;omega
  · rw[p0]at G;split at G
    · rename_i e;cases G;exact⟨⟨w.heap.size,0,0⟩,by simp[hN,e],ey _,λi v ad=>by simp at ad,λ_=>⟨cT,λi ai=>by simp at ai⟩⟩
    · obtain⟨l,aK,bb,c0,ea⟩:=ax.mn b x G;have CJ:=ax.mi b l aK;have ar: ∀i,(w.alloc (.map #[] 0)).cell? ⟨l.c,l.o+i,none⟩=w.cell? ⟨l.c,l.o+i,none⟩:= λi=>World.cell?_of_block (w:=w) (CM l.c CJ);have aT: ∀i,(w.alloc (.map #[] 0)).frozen? ⟨l.c,l.o+i,none⟩=w.frozen? ⟨l.c,l.o+i,none⟩:= λi=>World.frozen?_of_block (w:=w) (CM l.c CJ);exact⟨l,fR _ _ aK,bb,λi v ad=>by obtain⟨a8,bx,bE,b7⟩:=c0 i v ad;exact⟨a8,bx,by rw[ar];exact bE,b7.b8 fR⟩,λaE=>⟨(ea aE).1,λi ai=>by rw[ar,aT];exact(ea aE).2 i ai⟩⟩
  · rw[p0]at E av;rcases Gc b l br with⟨rfl,rfl⟩|⟨e,br⟩
    · rcases Gc cd dh cW with⟨et,_⟩|⟨et,cW⟩
      · exact absurd et.symm aH
      · have:=ax.mi cd dh cW;simp only;omega
    · rcases Gc cd dh cW with⟨et,rfl⟩|⟨et,cW⟩
      · have:=ax.mi b l br;simp only;omega
      · rw[if_neg e]at E;rw[if_neg et]at av;exact ax.rA b x cd ic l dh E I av aH br cW
  · by_cases e:b=id
    · exact⟨⟨w.heap.size,0,0⟩,by simp[hN,e]⟩
    · have:m.mp b=some bc:=(by simpa[W.g2,e]using hb);obtain⟨l,aB⟩:=ax.ua b bc this;exact⟨l,fR _ _ aB⟩
  · obtain⟨aK,bb⟩:=W.uU hb;by_cases e:b=id
    · subst e;have:bc=[]:=(by simpa[W.g2]using bb.symm);subst this;exact⟨⟨w.heap.size,0,0⟩,#[],0,by simp[hN],cT,by show(w.heap.push _)[w.heap.size]?=_;simp,⟨rfl,λi e et h=>by simp at h⟩⟩
    · rw[p0,if_neg e]at aK;have wB:m.mp b=some bc:=(by simpa[W.g2,e]using bb);obtain⟨l,de,a9,gd,hj,ix,jz⟩:=ax.maps b bc (W.kq aK wB);exact⟨l,de,a9,fR _ _ gd,hj,by rw[CM _ (ax.mi b l gd)];exact ix,jz.b8 fR⟩
theorem aDD{t:TypeId}(bB:o.op= .makeMap t none)(ax:dB aV an m w)(cT:aV<=w.heap.size)(ep:id<m.next)(aw:an id=none):o4 P o .m6 a aV an A m w id:=by
  refine⟨.map (some w.heap.size),w.alloc (.map #[] 0),hN an id ⟨w.heap.size,0,0⟩,.inl ?_,sd aw,vP,?_,ax.aAY cT ep aw,th rfl rfl rfl rfl cT _⟩
  · simp only[execOp,bB,Option.map_none,Instr.makeMap,Sem.run_bind];rfl
  · exact .map (l:=⟨w.heap.size,0,0⟩) (by simp[hN])
theorem dB.ahG(ax:dB aV an m w){b:Nat}{bc:List (Value×Value)}{l:tb}{de:Array MapEntry}{a9:Nat}(aP:m.eS b=some bc)(aB:an b=some l)(cT:aV<=l.c)(aQ:w.heap[l.c]?=some (.map de a9))
    {fG:List (Value×Value)} {Cv:Array MapEntry} {Fx:Nat} (aw:xR an fG Cv.toList):dB aV an (m.g2 b fG) {w with heap:=w.heap.setIfInBounds l.c (.map Cv Fx)}:=by
  obtain⟨Qo,z4⟩:=W.uU aP;have hb:=W.a6 Qo;obtain⟨wK,iP⟩:=MapKept.heap_set (o':= .map Cv Fx) aQ;have p0: ∀cd,(m.g2 b fG).X cd=m.X cd:= λcd=>by
    by_cases h:cd=b
    · subst h;rw[Qo];unfold W.X W.g2;simp[hb]
    · unfold W.X W.g2;simp[h]
  have ar: ∀ef:Addr,World.cell? {w with heap:=w.heap.setIfInBounds l.c (.map Cv Fx)} ef=w.cell? ef:= λef=>by
    by_cases h:ef.block=l.c
    · simp only[World.cell?,h,wK,aQ]
    · exact World.cell?_of_block (w:=w) (iP _ h)
  have aT: ∀ef:Addr,World.frozen? {w with heap:=w.heap.setIfInBounds l.c (.map Cv Fx)} ef=w.frozen? ef:= λef=>by
    by_cases h:ef.block=l.c
    · simp only[World.frozen?,h,wK,aQ]
    · exact World.frozen?_of_block (w:=w) (iP _ h)
  refine⟨ax.mf,λcd dh bS=>by show dh.c<(w.heap.setIfInBounds _ _).size;rw[Array.size_setIfInBounds];exact ax.mi cd dh bS,λcd x G=> ?_,λdd cb ee cG gu ga E I av=>ax.rA dd cb ee cG gu ga (by rw[<-p0];exact E) I (by rw[<-p0];exact av),λcd FE fH=> ?_,λcd FE fH=> ?_⟩
  · rw[p0]at G;simpa only[ar,aT]using ax.mn cd x G
  · by_cases e:cd=b
    · exact⟨l,by rw[e];exact aB⟩
    · exact ax.ua cd FE (by simpa[W.g2,e]using fH)
  · obtain⟨aK,bb⟩:=W.uU fH;rw[p0]at aK;by_cases e:cd=b
    · subst e;have:FE=fG:=(by simpa[W.g2]using bb.symm);subst this;exact⟨l,Cv,Fx,aB,cT,wK,aw⟩
    · have wB:m.mp cd=some FE:=(by simpa[W.g2,e]using bb);obtain⟨ga,ak0,akq,gd,hj,ix,jz⟩:=ax.maps cd FE (W.kq aK wB);have cJ:ga.c≠l.c:=ax.rA cd _ b _ ga l aK rfl Qo e gd aB;exact⟨ga,ak0,akq,gd,hj,by rw[iP _ cJ];exact ix,jz⟩
theorem aDG{t tV e:TypeId}{fN:kD}{x k v:Operand}(bB:o.op= .mapUpdate t x k v)(bA:P.underlying t=some (.map tV e))(aD:P.underlying tV=some fN.uQ)(G:cX x=true)(aa:cX k=true)(ad:cX v=true)
    (K:gK an cZ A a) (ax:dB aV an m w) (au:(ag.l3 fN x k v).ok A m=true):o4 P o (.l3 fN x k v) a aV an A m w id:=by
  simp only[ag.ok]at au;have aw:=K.Z G;cases a2:Z A x<;>simp only[a2]at au<;>try cases au
  rename_i p;cases p with
  |none=>simp at au
  | some b=>
    simp only at au;rw[a2]at aw;obtain⟨l,aB,nB⟩:=aw.Gz;cases aP:m.eS b with
    |none=>simp[aP]at au
    | some bc=>
      simp only[aP,oa,a1]at au;obtain⟨⟨rH,sB⟩,At⟩:=au;obtain⟨dh,de,a9,gd,hj,ix,jz⟩:=ax.maps b bc aP;rw[aB]at gd;cases gd;have Af:a.eval k=Z A k:=(K.Z aa).h7 (Nj rH);have KW:=afS rH;have Zu:=K.Z ad;have p2:(ag.l3 fN x k v).gG id A m=m.g2 b (lM (Z A k) (Z A v) bc):=(by simp only[ag.gG,a2,vt,aP,zG]);have hy:(Instr.checkKey false 10000 tV (Z A k)).run P w= .ok () w:=MapKept.run_checkKey aD KW false 9999;have YJ: ∀o',Below aV w {w with heap:=w.heap.setIfInBounds l.c o'}:= λo'=>⟨rfl,rfl,rfl,by show _<=(w.heap.setIfInBounds _ _).size;rw[Array.size_setIfInBounds];exact ey _,λk aa=>by show(w.heap.setIfInBounds _ _)[k]?=_;simp[show l.c≠k by omega]⟩;rcases Qe rH bc de.toList 0 jz sB with⟨_,bb,c0⟩|⟨j,cb,cG,aK,bb,c0,_,e9,fo⟩
      · have hZ:(Instr.mapUpdate t (a.eval x) (a.eval k) (a.eval v)).run P w= .ok () {w with heap:=w.heap.setIfInBounds l.c (.map (de.push {key:=Z A k,val:=a.eval v,born:=a9}) (a9+1))}:=by
          simp[Instr.mapUpdate,nB,Af,run_underlying bA,MapKept.run_getObj_map ix,hy,MapKept.run_findKey aD bb,MapKept.run_setObj_map _ ix]
        refine⟨undef,_,an,.inr ⟨by simp only[execOp,bB,hZ,Sem.run_bind,Result.andThen_ok];rfl,rfl⟩,gl.refl an,λ_ _=>rfl,dF.undef an,?_,YJ _⟩;rw[p2,c0];refine ax.ahG aP aB hj ix ⟨by simp[jz.1],λi e et E I=> ?_⟩;simp only[Array.toList_push]at I;rw[xI]at E I;rw[<-jz.1]at I;split at E
        · rename_i ai;rw[if_pos ai]at I;exact jz.2 i e et E I
        · rename_i ai;rw[if_neg ai]at I;have CI:i-bc.length=0:=(by have:=(dO.1 E).1;simp at this;omega);rw[CI]at E I;simp at E I;subst E;subst I;exact⟨Nj rH,rfl,At,Zu⟩
      · have bj:de[j]?=some cG:=(by simpa using bb);have hZ:(Instr.mapUpdate t (a.eval x) (a.eval k) (a.eval v)).run P w= .ok () {w with heap:=w.heap.setIfInBounds l.c (.map (de.modify j λe=>{e with key:=Z A k,val:=a.eval v}) a9)}:=by
          simp[Instr.mapUpdate,nB,Af,run_underlying bA,MapKept.run_getObj_map ix,hy,MapKept.run_findKey aD e9,bj,c0,MapKept.run_keyThatStays KW,MapKept.run_setObj_map _ ix]
        refine⟨undef,_,an,.inr ⟨by simp only[execOp,bB,hZ,Sem.run_bind,Result.andThen_ok];rfl,rfl⟩,gl.refl an,λ_ _=>rfl,dF.undef an,?_,YJ _⟩;rw[p2,fo];refine ax.ahG aP aB hj ix ⟨by simpa using jz.1,λi e et E I=> ?_⟩;simp only[EW,Array.getElem?_modify]at I;rw[s5]at E;by_cases yg:j=i
        · subst yg;rw[if_pos rfl,if_pos (by have:=(dO.1 aK).1;exact this)]at E;rw[if_pos rfl,bj]at I;simp at E I;subst E;subst I;exact⟨Nj rH,rfl,At,Zu⟩
        · rw[if_neg yg]at E I;exact jz.2 i e et E (by simpa using I)
theorem aDF{t tV e:TypeId}{fN:kD}{J:Value}{ok:Bool}{x k:Operand}(bB:o.op= .lookup t x k ok)(bA:P.underlying t=some (.map tV e))(aD:P.underlying tV=some fN.uQ)(bK:OR P e=some J)(G:cX x=true)(aa:cX k=true)
    (K:gK an cZ A a) (ax:dB aV an m w) (au:(ag.m7 fN J ok x k).ok A m=true):o4 P o (.m7 fN J ok x k) a aV an A m w id:=by
  obtain⟨ZB,am3⟩:=aFI (w:=w) bK;simp only[ag.ok]at au;have gP: ∃(bc:List (Value×Value)) (de:Array MapEntry),ku m (Z A x)=some bc/\xR an bc de.toList/\((a.eval x= .map none/\de= #[])\/ ∃r a9,a.eval x= .map (some r)/\w.heap[r]?=some (.map de a9)):=by
    have aw:=K.Z G;cases a2:Z A x<;>simp only[a2,ku]at au<;>try cases au
    rename_i p;cases p with
    | none=>rw[a2]at aw;exact⟨[],#[],rfl,⟨rfl,λi e et h=>by simp at h⟩,.inl ⟨aw.h7 rfl,rfl⟩⟩
    | some b=>
      rw[a2]at aw;obtain⟨l,aB,ad⟩:=aw.Gz;cases aP:m.eS b with
      |none=>simp[aP]at au
      | some bc=>obtain⟨dh,de,a9,gd,hj,ix,jz⟩:=ax.maps b bc aP;rw[aB]at gd;cases gd;exact⟨bc,de,aP,jz,.inr ⟨l.c,a9,ad,ix⟩⟩
  obtain⟨bc,de,YT,K1,CF⟩:=gP;rw[YT]at au;simp only[oa,a1]at au;obtain⟨rH,sB⟩:=au;have Af:a.eval k=Z A k:=(K.Z aa).h7 (Nj rH);have KW:=afS rH;have F6:=Qe rH bc de.toList 0 K1 sB;have alZ: ∃(v:Value) (bt:Nat×Value) (b:Bool),(Instr.findKey tV (Z A k) de.toList).run P w= .ok (if b then some (bt.1,bt.2)else none:Option (Nat×Value)) w/\(jk (Z A k) bc).isSome=b/\(b=true->jk (Z A k) bc=some v/\dF an v bt.2):=by
    rcases F6 with⟨aK,bb,_⟩|⟨j,cb,cG,aK,bb,c0,ea,e9,_⟩
    · exact⟨undef,(0,undef),false,by rw[MapKept.run_findKey aD bb];rfl,by rw[aK];rfl,λh=>by cases h⟩
    · obtain⟨_,_,_,aH⟩:=K1.2 j cb cG aK bb;exact⟨cb.2,(0+j,cG.val),true,by rw[MapKept.run_findKey aD e9];rfl,by rw[ea];rfl,λ_=>⟨ea,aH⟩⟩
  obtain⟨v,bt,b,dj,dw,h6⟩:=alZ;have yr:(ag.m7 fN J ok x k).val id A m=if ok then .tuple #[(jk (Z A k) bc).getD J,.bool (jk (Z A k) bc).isSome]else(jk (Z A k) bc).getD J:=by simp only[ag.val,YT,Option.bind_some]
  have hZ:(Instr.lookup t (a.eval x) (a.eval k) ok).run P w= .ok (if ok then .tuple #[if b then bt.2 else J,.bool b]else if b then bt.2 else J) w:=by
    have hy: ∀e,(Instr.checkKey e 10000 tV (Z A k)).run P w= .ok () w:= λe=>MapKept.run_checkKey aD KW e 9999;rcases CF with⟨E,I⟩|⟨r,a9,E,I⟩
    · subst I;cases b
      · simp[Instr.lookup,E,Af,run_underlying bA,hy,dj,ZB]
      · simp[Instr.lookup,E,Af,run_underlying bA,hy,dj]
    · cases b
      · simp[Instr.lookup,E,Af,run_underlying bA,MapKept.run_getObj_map I,hy,dj,ZB]
      · simp[Instr.lookup,E,Af,run_underlying bA,MapKept.run_getObj_map I,hy,dj]
  refine⟨_,w,an,.inl (by simp only[execOp,bB,hZ,Sem.run_bind,Result.andThen_ok];rfl),gl.refl an,λ_ _=>rfl,?_,ax,Below.refl _ _⟩;rw[yr];have At:dF an ((jk (Z A k) bc).getD J) (if b then bt.2 else J):=by
    cases b
    · have:jk (Z A k) bc=none:=(by simpa using dw);rw[this];exact .cH am3
    · obtain⟨aK,bb⟩:=h6 rfl;rw[aK];exact bb
  cases ok
  · exact At
  · simp only[if_true];rw[dw];exact c5.tuple (xs:=[_,_]) (ys:=[_,_]) (c5.cons At (c5.cons (.cH rfl) (c5.nil an)))
end
section
variable {P:Program} {w:World} {o:Oper} {a:Act} {an:eJ} {cZ:Nat} {A:aR} {m:W} {aV id:Nat}
theorem aBL{k:ag}(h:k.pure=true):k.gG id A m=m:=by cases k<;>first|rfl|(simp[ag.pure]at h)
theorem aBn{k:ag}(aa:xW P o=some k)(ar:k.ke=false)(K:gK an cZ A a)(ax:dB aV an m w)(cT:aV<=w.heap.size)(ep:k.e3=true->id<m.next)(aw:k.e3=true->an id=none)(au:k.ok A m=true):o4 P o k a aV an A m w id:=by
  by_cases ab:k.pure=true
  · obtain⟨bx,E,I⟩:=aBM (w:=w) (m:=m) aa ab K au id;exact⟨bx,w,an,E,gl.refl an,λ_ _=>rfl,I,by rw[aBL ab];exact ax,Below.refl _ _⟩
  · rcases J2 aa with aa|rfl
    rotate_left
    · rw[aic]at au;cases au
    unfold Ck at aa;split at aa
    · split at aa<;>cases aa;exact absurd rfl ab
    · split at aa<;>cases aa;exact absurd rfl ab
    · split at aa<;>cases aa;exact absurd rfl ab
    · split at aa<;>cases aa;exact absurd rfl ab
    · -- c9
      rename_i e bB;split at aa<;>cases aa;rename_i J bK;exact aDu bB bK ax cT (ep rfl) (aw rfl)
    · -- mz
      rename_i e x bB;split at aa<;>cases aa;rename_i G;exact aDx bB G K au ax cT (ep rfl) (aw rfl)
    · (repeat' split at aa)<;>cases aa<;>exact absurd rfl ab
    · -- buildSlice
      rename_i t n ps bB;split at aa
      · rename_i e bA;split at aa
        · rename_i J bK;split at aa
          · rename_i h2 bd;split at aa<;>cases aa;rename_i n2;simp only[a1,e2]at n2;exact aDy bB bA bK bd n2.1 n2.2 K ax cT (ep rfl) (aw rfl) au
          · cases aa
        · cases aa
      · cases aa
    · -- k5
      rename_i t x bB;split at aa
      · rename_i dp n tB az;split at aa<;>cases aa;rename_i G;exact aDC bB tB az G K ax au
      · cases aa
    · -- store
      rename_i t x v bB;split at aa
      · rename_i n az;split at aa<;>cases aa;rename_i G;simp only[a1]at G;exact aDI bB az G.1 G.2 K ax au
      · cases aa
    · (repeat' split at aa)<;>cases aa<;>exact absurd rfl ab
    · (repeat' split at aa)<;>cases aa<;>exact absurd rfl ab
    · -- convert
      rename_i s d x bB;split at aa
      · split at aa<;>cases aa;exact absurd rfl ab
      · split at aa<;>cases aa;exact absurd rfl ab
      · rename_i e pd pb;split at aa
        · rename_i bZ;split at aa<;>cases aa;rename_i G;exact aDA bB pd pb bZ G K ax au
        · cases aa
      · rename_i e pd pb;split at aa
        · rename_i bZ;split at aa<;>cases aa;rename_i G;exact aDB bB pd pb bZ G K ax cT (ep rfl) (aw rfl) au
        · cases aa
      · cases aa
    · -- makeSlice
      rename_i t l c bB;split at aa
      · rename_i e bA;split at aa
        · rename_i J bG bK ai;split at aa<;>cases aa;rename_i G;simp only[a1]at G;exact aDE bB bA bK ai G.1 G.2 K ax cT (ep rfl) (aw rfl) au
        · cases aa
      · cases aa
    · -- slice
      rename_i t x cB ai fr bB;split at aa
      · split at aa<;>cases aa;exact absurd rfl ab
      · (repeat' split at aa)<;>cases aa<;>exact absurd rfl ab
      · rename_i n e aA;split at aa
        · rename_i J bK;split at aa<;>cases aa;rename_i n2;simp only[a1,zB]at n2;exact aDH bB aA bK n2.1.1.1 n2.1.1.2 n2.1.2 n2.2 K ax au
        · cases aa
      · cases aa
    · (repeat' split at aa)<;>cases aa<;>exact absurd rfl ab
    · (repeat' split at aa)<;>cases aa<;>exact absurd rfl ab
    · (repeat' split at aa)<;>cases aa<;>exact absurd rfl ab
    · (repeat' split at aa)<;>cases aa<;>exact absurd rfl ab
    · (repeat' split at aa)<;>cases aa<;>exact absurd rfl ab
    · (repeat' split at aa)<;>cases aa<;>exact absurd rfl ab
    · (repeat' split at aa)<;>cases aa<;>exact absurd rfl ab
    · -- makeMap
      rename_i t r bB;split at aa
      · rename_i k e bA;cases aa;exact aDD bB ax cT (ep rfl) (aw rfl)
      · cases aa
    · -- lookup
      rename_i t x i ok bB;split at aa
      · rename_i k e bA;split at aa
        · rename_i a9 J hy bK;split at aa<;>cases aa;rename_i G;simp only[a1]at G;exact aDF bB bA (XL hy) bK G.1 G.2 K ax au
        · cases aa
      · cases aa
    · -- mapUpdate
      rename_i t x k v bB;split at aa
      · rename_i tV e bA;split at aa
        · rename_i a9 hy;split at aa<;>cases aa;rename_i G;simp only[a1]at G;exact aDG bB bA (XL hy) G.1.1 G.1.2 G.2 K ax au
        · cases aa
      · cases aa
    · (repeat' split at aa)<;>cases aa<;>exact absurd rfl ab
    · -- dY
      rename_i c bB;unfold Fq at aa;split at aa
      · split at aa<;>cases aa;simp[ag.ke]at ar
      · (repeat' split at aa)<;>cases aa<;>simp[ag.ke]at ar
      · (repeat' split at aa)<;>cases aa<;>simp[ag.ke]at ar
      · (repeat' split at aa)<;>cases aa<;>exact absurd rfl ab
      · rename_i ca;split at aa
        · rename_i x y t bt aA dr;split at aa
          · rename_i e bA;split at aa
            · rename_i bG ai;split at aa
              · rename_i Rj;subst Rj;split at aa<;>cases aa;rename_i G;simp only[a1]at G;obtain⟨⟨E,I⟩,av⟩:=G;obtain⟨J,bK⟩:=Jv.1 av;exact aDv bB ca aA dr bA ai bK E I K ax cT (ep rfl) (aw rfl) au
              · split at aa
                · rename_i TX EZ a2 bK;split at aa<;>cases aa;rename_i G;simp only[a1]at G;exact aDw bB ca aA dr bA a2 ai bK G.1 G.2 K ax cT (ep rfl) (aw rfl) au
                · cases aa
            · cases aa
          · cases aa
        · cases aa
      · (repeat' split at aa)<;>cases aa<;>exact absurd rfl ab
      · (repeat' split at aa)<;>cases aa<;>exact absurd rfl ab
      · (repeat' split at aa)<;>cases aa<;>exact absurd rfl ab
      · rename_i ca;split at aa
        · rename_i x t aA dr;split at aa
          · rename_i e bA;split at aa
            · rename_i EZ bK;split at aa<;>cases aa;rename_i G;exact aDz bB ca aA dr bA bK G K ax au
            · cases aa
          · cases aa
        · cases aa
      · cases aa
    · cases aa
theorem ajG{J bytes:Nat}{x y:Operand}(aa:xW P o=some (.app J bytes x y))(K:gK an cZ A a)(ax:dB aV an m w)(cT:aV<=w.heap.size)(ep:id<m.next)(aw:an id=none)(au:(ag.app J bytes x y).ok A m=true):
    WN P o J bytes x y a aV an A m w id:=by
  rcases J2 aa with aa|dk
  rotate_left
  · cases dk
  unfold Ck at aa;split at aa
  case h_27 c bB=>
    unfold Fq at aa;split at aa
    case h_5 ca=>
      split at aa
      · rename_i x y t bt aA dr;split at aa
        · rename_i e bA;split at aa
          · rename_i bG ai;split at aa
            · rename_i Rj;subst Rj;split at aa<;>cases aa;rename_i G;simp only[a1]at G;obtain⟨⟨E,I⟩,av⟩:=G;obtain⟨J,bK⟩:=Jv.1 av;exact ahE bB ca aA dr bA ai bK E I K ax cT ep aw au
            · (repeat' split at aa)<;>cases aa
          · cases aa
        · cases aa
      · cases aa
    all_goals((repeat' split at aa)<;>cases aa)
  all_goals((repeat' split at aa)<;>cases aa)
def E2(P:Program)(f:Nat):Prop:= ∃fn,P.funcs[f]?=some fn∧fn.body.isSome=true∧(fn.name== "runtime.NumGoroutine")=false
theorem agh{name:String}{r:TypeId×Nat×Option (Bool×Nat)}(h:r∈T6 P name):Bj P name r.1=some r/\r.1<P.types.size:=by
  unfold T6 at h;obtain⟨t,E,I⟩:=uD.1 h;have:r.1=t:=by
    unfold Bj at I
    (repeat' split at I)<;>cases I<;>rfl
  subst this;exact⟨I,by simpa using E⟩
theorem aCO{name:String}{t f:Nat}{v:Value}(h:Bj P name t=some (t,f,none)/\t<P.types.size):
    (method (P.types.size+Made.depth) t v name).run P w= .ok (f,v) w:=by
  obtain⟨h,ev⟩:=h;unfold Bj at h
  (repeat' split at h)<;>cases h
  rename_i Q1 _ Bn F6 ab _ _ _ wv a2 CH;obtain⟨n,az⟩: ∃n,P.types.size+Made.depth=n+1:=⟨P.types.size+Made.depth-1,by omega⟩;have Zi:Bn.path.toList=[]:=by simpa using ab
  rw[az];simp[method,typeInfo,Q1,F6,Zi,follow,CH,receiverAt,underlying,a2,Place.get]
theorem UW{f:Nat}{args:Array Value}(h:E2 P f):(callFunc f args).run P w= .ok (.enter f args) w:=by
  obtain⟨fn,E,I,av⟩:=h;have aH:fn.body≠none:=by intro hb;simp[hb]at I
  have br:fn.name≠ "runtime.NumGoroutine" :=by simpa using av
  simp[callFunc,E,aH,br]
theorem aCR{bY:Array TypeId}{t:TypeId}{ef:Addr}{x y:String}:Builtin.ssaWrapNilChk_ bY t #[.pointer (some ef),strVal x,strVal y]=pure (.pointer (some ef)):=rfl
theorem aCP{name:String}{t f n:Nat}{dp:Bool}{ef:Addr}{ds:List Value}(h:Bj P name t=some (t,f,some (dp,n))/\t<P.types.size)
    (E:dp=true\/n=1) (aB:ds.length=n) (ar: ∀(j:Nat) bt,ds[j]?=some bt->w.cell? (ef.add j)=some bt):
    (method (P.types.size+Made.depth) t (.pointer (some ef)) name).run P w= .ok (f,if dp then .agg ds.toArray else ds.headD undef) w:=by
  obtain⟨h,ev⟩:=h;unfold Bj at h
  (repeat' split at h)<;>cases h
  rename_i Q1 _ Bn F6 ab _ _ _ wv a2 _ _ CH tB az;obtain⟨n,yk⟩: ∃n,P.types.size+Made.depth=n+1:=⟨P.types.size+Made.depth-1,by omega⟩;have Zi:Bn.path.toList=[]:=by simpa using ab
  have amc:=UY (P:=P) (w:=w) tB az E aB ar;have amz:Bn.path= #[]:=by simpa using ab
  rw[yk];simp[method,typeInfo,Q1,F6,follow,CH,receiverAt,underlying,a2,Place.get,amz,aCR,asAddr,amc]
theorem ahy{name:String}{t f:Nat}{v ahk:Value}{args:Array Value}(ax:(method (P.types.size+Made.depth) t v name).run P w= .ok (f,ahk) w)(aT:E2 P f):
    (invoke (.fn (.method name) #[]) (#[.iface t v]++args)).run P w= .ok (.enter f (#[ahk]++args)) w:=by
  have dk:(#[Value.iface t v]++args)[0]?=some (.iface t v):=by rw[Jt (by simp)];rfl
  have E:(#[Value.iface t v]++args).extract 1 (#[Value.iface t v]++args).size=args:=by simp
  simp only[invoke,dk,E,callMethod,Sem.run_bind,run_program,Result.andThen_ok,ax,UW aT]
def pL(P:Program)(aV:Nat)(bJ:Callee):Prop:= ∀f args m r aq,bJ f args m=some (r,aq)->E2 P f/\m.next<=aq.next/\(∀b,b<m.next->m.X b=none->aq.X b=none)/\
  (∀id x,id<m.next->m.X id=none->bJ f args (m.a0 id x)=some (r,aq.a0 id x))/\
  ∀ an w (nq:Array Value),c5 an args nq.toList->dB aV an m w->aV<=w.heap.size->
    Calls P f nq w λe c3=> ∃v cM,e= .returned v/\gl an cM/\(∀b,b<m.next->cM b=an b)/\dF cM r v/\dB aV cM aq c3/\Below aV w c3
theorem ako{k:ag}(aa:xW P o=some k)(K:gK an cZ A a)(ax:dB aV an m w){f:Nat}{args:List Value}(gA:k.fj A m=some (f,args))(aT:E2 P f):
    ∃nq:Array Value,(execOp a.eval o).run P w= .ok (.enter f nq) w/\c5 an args nq.toList:=by
  rcases J2 aa with aa|rfl
  rotate_left
  · cases gA
  unfold Ck at aa;split at aa
  case h_27 c bB=>
    unfold Fq at aa;split at aa
    · -- a method dN W2 interface value
      rename_i t name ca;split at aa<;>cases aa;rename_i n2;simp only[ag.fj]at gA;have aw:=K.Z (x:= .tmp t) rfl;split at gA
      · rename_i qq v ad;rw[ad]at aw;obtain⟨bx,aJ,fs⟩:=aw.Gy;split at gA
        · rename_i ct g F5;simp only[lV,xO]at gA;obtain⟨rfl,rfl⟩:=gA;have Rk:ct=qq:=(by have:=List.find?_some F5;simpa using this);subst Rk;refine⟨#[bx]++c.args.map a.eval,?_,by simpa using c5.cons fs (D6 K _ n2)⟩;have Q8:=aCO (w:=w) (v:=bx) (agh (List.mem_of_find?_eq_some F5));simp only[execOp,bB,resolve,ca,Sem.run_bind,aJ,Sem.run_pure,Result.andThen_ok];exact ahy Q8 aT
        · rename_i ct g dp n F5;split at gA
          · rename_i au;simp only[lV,xO]at gA;obtain⟨rfl,rfl⟩:=gA;have Rk:ct=qq:=(by have:=List.find?_some F5;simpa using this);subst Rk;simp only[a1,uG,e2]at au;obtain⟨ef,ds,E,I,av,aH⟩:=T1 ax fs au.1 au.2;refine⟨#[if dp then .agg ds.toArray else ds.headD undef]++c.args.map a.eval,?_,by simpa using c5.cons aH (D6 K _ n2)⟩;have Q8:=aCP (w:=w) (agh (List.mem_of_find?_eq_some F5)) au.2 I av;simp only[execOp,bB,resolve,ca,Sem.run_bind,aJ,Sem.run_pure,Result.andThen_ok,E];exact ahy Q8 aT
          · cases gA
        · cases gA
      · cases gA
    · -- a named alk
      rename_i g ca;split at aa
      · rename_i fn CH;split at aa<;>cases aa;rename_i n2;simp only[a1]at n2;simp only[ag.fj,lV,xO]at gA;obtain⟨rfl,rfl⟩:=gA;refine⟨c.args.map a.eval,?_,by simpa using D6 K _ n2.2⟩;have E:a.eval (.func g)= .func (.func g) #[] #[]:=rfl;simp only[execOp,bB,resolve,ca,Sem.run_bind,E,Deferred.ofValue,Sem.run_pure,Result.andThen_ok,invoke];rw[UW aT];simp
      · cases aa
    · -- a alk value
      rename_i t ca;split at aa<;>cases aa;rename_i n2;simp only[ag.fj]at gA;have aw:=K.Z (x:= .tmp t) rfl;split at gA
      · rename_i g first mA ad
        simp only[lV,xO]at gA;obtain⟨rfl,rfl⟩:=gA;rw[ad]at aw;obtain⟨ys,ds,E,I,av⟩:=aw.Aw;refine⟨ys++c.args.map a.eval++ds,?_,by simpa using(I.o6 (D6 K _ n2)).o6 av⟩;simp only[execOp,bB,resolve,ca,Sem.run_bind,E,Deferred.ofValue,Sem.run_pure,Result.andThen_ok,invoke];rw[UW aT]
      · cases gA
    all_goals((repeat' split at aa)<;>cases aa<;>simp[ag.fj]at gA)
  all_goals((repeat' split at aa)<;>cases aa<;>simp[ag.fj]at gA)
end
section
variable {P:Program} {w:World} {o:Oper} {a:Act} {an:eJ} {cZ:Nat} {A:aR} {m:W} {aV:Nat} {ops:Array Oper} {bJ:Callee} {base:Nat}
def vZ(P:Program)(ops:Array Oper)(cZ:Nat)(cl:bp)(o:Oper):Prop:=
  ops[cl.aS]?=some o/\xW P o=some cl.k/\J1 ops o=some cl.g/\o.dst=cl.d/\cl.d.all (λd=>decide (d<cZ))=true
theorem aiq{g:Option (Nat×Bool)}(aP:J1 ops o=some g)(K:gK an cZ A a):Region.wanted o (yielded ops a.tmps)=eR A g:=by
  unfold J1 at aP;split at aP
  · rename_i h;cases aP;simp[Region.wanted,h,eR]
  · rename_i j b h;split at aP
    · rename_i t bA;cases aP;have aw:=K.mL t;simp only[Region.wanted,h,eR,yielded,bA,Option.bind_some];rw[Array.getD_eq_getD_getElem?]at aw;cases ad:a.tmps[t]? with
      | none=>
        rw[ad]at aw;simp only[Option.getD_none]at aw;cases a2:A t<;>try rfl
        rw[a2]at aw;have:=aw.qT;simp[undef]at this
      | some v=>
        rw[ad]at aw;simp only[zG]at aw;cases a2:A t
        case bool c=>rw[a2]at aw;rw[aw.qT];simp
        all_goals
          rw[a2]at aw;cases v
          case bool c=>cases aw
          all_goals rfl
    · cases aP
theorem NS{k:ag}(h:k.ok A m=true):k.ke=false:=by cases k<;>first|rfl|(simp[ag.ok]at h)
theorem ah0{cl:bp}{ak:aR}{aq:W}(ca:pL P aV bJ)(ar:vZ P ops cZ cl o)(K:gK an cZ A a)(ax:dB aV an m w)(cT:aV<=w.heap.size)(ep:cl.k.e3=true->base+cl.aS<m.next)(aw:cl.k.e3=true->an (base+cl.aS)=none)
    (ib:hF bJ base cl A m=some (ak,aq)) {aW:Act->World->Prop} {Q:Exit->Act->World->Prop}
    (dU: ∀dG c3 cM,gl an cM->(∀b,b<m.next->b≠base+cl.aS->cM b=an b)->gK cM cZ ak dG->dB aV cM aq c3->Below aV w c3->aW dG c3):wpOp P ops Q cl.aS aW a w:=by
  obtain⟨E,I,av,aH,br⟩:=ar;unfold wpOp;simp only[E];rw[aiq av K];unfold hF at ib;by_cases a3:eR A cl.g=true
  · rw[if_pos a3]at ib⊢;refine .inl ?_;unfold Oper.wp;cases gA:cl.k.fj A m with
    | some kX=>
      obtain⟨f,args⟩:=kX;rw[gA]at ib;simp only at ib;cases aT:bJ f args m with
      |none=>rw[aT]at ib;cases ib
      | some EO=>obtain⟨v,dR⟩:=EO;rw[aT]at ib;simp only[lV,xO]at ib;obtain⟨rfl,rfl⟩:=ib;obtain⟨aK,bb,c0,_,ea⟩:=ca f args m v dR aT;obtain⟨nq,aJ,aU⟩:=ako (w:=w) I K ax gA aK;rw[aJ,Oper.upon_enter];refine(ea an w nq aU ax cT).mono λe c3 aQ=> ?_;obtain⟨bx,cM,rfl,a8,bE,b7,eH,gi⟩:=aQ;rw[aH];exact dU _ _ cM a8 (λb hb _=>bE b hb) ((K.b8 a8).a0 br b7) eH gi
    | none=>
      rw[gA]at ib;simp only at ib;split at ib
      · rename_i au;simp only[lV,xO]at ib;obtain⟨rfl,rfl⟩:=ib;obtain⟨bx,c3,cM,y,a8,bE,b7,eH,gi⟩:=aBn I (NS au) K ax cT ep aw au;have aa:=dU (a.put cl.d bx) c3 cM a8 (λb _ hb=>bE b hb) ((K.b8 a8).a0 br b7) eH gi;rcases y with y|⟨y,rfl⟩
        · rw[y,Oper.upon_value,aH];exact aa
        · rw[y,Oper.upon_skip,aH];exact aa
      · cases ib
  · rw[if_neg a3]at ib⊢;simp only[lV,xO]at ib;obtain⟨rfl,rfl⟩:=ib;rw[aH];exact dU _ _ an (gl.refl an) (λ_ _ _=>rfl) (K.a0 br (dF.undef an)) ax (Below.refl _ _)
theorem EE{cl:bp}{ak:aR}{aq:W}(ca:pL P aV bJ)(ib:hF bJ base cl A m=some (ak,aq)):m.next<=aq.next:=by
  unfold hF at ib;split at ib
  · split at ib
    · split at ib
      · rename_i aT;cases ib;exact(ca _ _ _ _ _ aT).2.1
      · cases ib
    · split at ib
      · cases ib;cases cl.k<;>simp only[ag.gG]<;>try exact ey _
        · unfold nP;split<;>try exact ey _
          split<;>exact ey _
        · split
          · exact ey _
          · unfold kL;split<;>exact ey _
        · unfold mS;split<;>try exact ey _
          split<;>exact ey _
      · cases ib
  · cases ib;exact ey _
theorem KD{b cd:Nat}{x:Option fB}(h:m.X b=none)(cJ:b≠cd):(m.a0 cd x).X b=none:=by rw[W.nv,if_neg cJ];exact h
theorem Yz{b cd:Nat}{bc:List (Value×Value)}(h:m.X b=none)(cJ:b≠cd):(m.g2 cd bc).X b=none:=by unfold W.X W.g2 at*;simp only[if_neg cJ];exact h
theorem OJ{cl:bp}{ak:aR}{aq:W}(ca:pL P aV bJ)(ib:hF bJ base cl A m=some (ak,aq)){b:Nat}(hb:b<m.next)(cJ:b≠base+cl.aS)(aP:m.X b=none):aq.X b=none:=by
  unfold hF at ib;split at ib
  · split at ib
    · split at ib
      · rename_i aT;cases ib;exact(ca _ _ _ _ _ aT).2.2.1 b hb aP
      · cases ib
    · split at ib
      · rename_i au;cases ib;cases aa:cl.k<;>simp only[ag.gG]<;>try exact aP
        all_goals try exact KD aP cJ
        all_goals try exact Yz aP cJ
        · unfold nP;split
          · rename_i ef;split
            · rename_i x G;exact KD aP (λe=>by rw[e,G]at aP;cases aP)
            · exact aP
          · exact aP
        · split
          · exact aP
          · refine KD ?_ cJ;unfold kL;split
            · rw[W.nv];split
              · split<;>rfl
              · exact aP
            · exact aP
        · unfold mS;split
          · rename_i ef _ _ _;split
            · rename_i x G;exact KD aP (λe=>by rw[e,G]at aP;cases aP)
            · exact aP
          · exact aP
        · rename_i a9 x k v;rw[aa]at au;simp only[ag.ok]at au;cases a2:Z A x<;>simp only[a2]at au<;>try cases au
          rename_i p;cases p with
          |none=>simp at au
          | some ee=>
            simp only at au;cases YY:m.eS ee with
            |none=>simp[YY]at au
            | some bc=>have iZ:=(W.uU YY).1;exact Yz aP (λe=>by have et:b=ee:=e;rw[et,iZ]at aP;cases aP)
      · cases ib
  · cases ib;exact aP
theorem q6{cl:bp}{L:List bp}{s:aR×W}(h:j3 bJ base (cl::L) A m=some s): ∃bQ bk,hF bJ base cl A m=some (bQ,bk)/\oy cl A m bk/\j3 bJ base L bQ bk=some s:=by
  unfold j3 at h;split at h
  · rename_i bQ bk E;split at h
    · rename_i hy;exact⟨bQ,bk,E,hy,h⟩
    · cases h
  · cases h
theorem xn{cl:bp}{L:List bp}{s:aR×W}{bQ:aR}{bk:W}(E:hF bJ base cl A m=some (bQ,bk))(I:oy cl A m bk)(av:j3 bJ base L bQ bk=some s):j3 bJ base (cl::L) A m=some s:=by unfold j3;rw[E];simp only[if_pos I,av]
theorem IH(ca:pL P aV bJ): ∀(L:List bp) (A:aR) (m:W) (s:aR×W),j3 bJ base L A m=some s->m.next<=s.2.next
  |[],A,m,s,h=>by simp[j3]at h;subst h;exact ey _
  | cl::L,A,m,s,h=>by obtain⟨bQ,bk,E,_,av⟩:=q6 h;exact kC (EE ca E) (IH ca L _ _ _ av)
theorem UT(ca:pL P aV bJ){b:Nat}(hb:b<base): ∀(L:List bp) (A:aR) (m:W) (s:aR×W),base<=m.next->j3 bJ base L A m=some s->m.X b=none->s.2.X b=none
  |[],A,m,s,_,h,aP=>by simp[j3]at h;subst h;exact aP
  | cl::L,A,m,s,az,h,aP=>by obtain⟨bQ,bk,E,_,av⟩:=q6 h;exact UT ca hb L _ _ _ (kC az (EE ca E)) av (OJ ca E (by omega) (by omega) aP)
theorem Us(ca:pL P aV bJ){Q:Exit->Act->World->Prop}{T:List Nat}: ∀(L:List bp) (A:aR) (m:W) (a:Act) (w:World) (an:eJ) (ak:aR) (aq:W),
    (∀cl∈L,∃o,vZ P ops cZ cl o)->(L.map (·.aS)).Nodup->gK an cZ A a->dB aV an m w->aV<=w.heap.size->(∀cl∈L,cl.k.e3=true->base+cl.aS<m.next/\an (base+cl.aS)=none)->j3 bJ base L A m=some (ak,aq)->
    (∀dG c3 cM,gl an cM->(∀b,b<m.next->(∀cl∈L,b≠base+cl.aS)->cM b=an b)->gK cM cZ ak dG->dB aV cM aq c3->Below aV w c3->wpOps P ops Q T dG c3)->wpOps P ops Q (L.map (·.aS)++T) a w
  | [],A,m,a,w,an,ak,aq,_,_,K,ax,_,_,h,b2=>by simp only[j3,lV,xO]at h;obtain⟨rfl,rfl⟩:=h;exact b2 a w an (gl.refl an) (λ_ _ _=>rfl) K ax (Below.refl _ _)
  | cl::L,A,m,a,w,an,ak,aq,wE,js,K,ax,cT,ep,h,b2=>by
    obtain⟨bQ,bk,E,_,av⟩:=q6 h;obtain⟨o,aE⟩:=wE cl (by simp);simp only[mO,List.nodup_cons]at js;rw[mO,xK,wpOps_cons];have jf:=EE ca E;refine ah0 ca aE K ax cT (λh=>(ep cl (by simp) h).1) (λh=>(ep cl (by simp) h).2) E λdG c3 cM a8 bE b7 eH gi=> ?_;refine Us ca L bQ bk dG c3 cM ak aq (λi ai=>wE i (by simp[ai])) js.2 b7 eH (kC cT gi.size) (λi ai fv=> ?_) av λbN e7 mx gd hj ix jz vy=> ?_
    · have:=ep i (by simp[ai]) fv;refine⟨by omega,?_⟩;rw[bE _ this.1 (λe=>js.1 (hn.2 ⟨i,ai,by omega⟩))];exact this.2
    · exact b2 bN e7 mx (a8.trans gd) (λb hb cJ=>(hj b (by omega) (λi ai=>cJ i (by simp[ai]))).trans (bE b hb (cJ cl (by simp)))) ix jz (gi.trans vy)
theorem az0{cl:bp}(ar:vZ P ops cZ cl o)(K:gK an cZ A a)(ax:dB aV an m w)(cT:aV<=w.heap.size)(ep:base+cl.aS<m.next)(aw:an (base+cl.aS)=none)(aB:m4 cl A m=true)
    {aW:Act->World->Prop} {Q:Exit->Act->World->Prop}
    (dU: ∀dG c3 cM,gl an cM->(∀b,b≠base+cl.aS->cM b=an b)->gK cM cZ (dc A cl.d (cl.k.val (base+cl.aS) A m)) dG->dB aV cM (cl.k.gG (base+cl.aS) A m) c3->dB c3.heap.size cM (nC m) c3->Below aV w c3->aW dG c3):wpOp P ops Q cl.aS aW a w:=by
  obtain⟨E,I,av,aH,br⟩:=ar;obtain⟨aS,d,g,k,a9⟩:=cl;simp only at E I av aH br ep aw dU⊢;simp only[m4,a1,zB]at aB;obtain⟨⟨aP,bA⟩,au⟩:=aB;subst aP;unfold wpOp;simp only[E];rw[aiq av K,if_pos (show eR A none=true from rfl)];refine .inl ?_;unfold Oper.wp;split at bA
  · rename_i J bytes x y;obtain⟨bx,c3,cM,aFy,a8,bE,b7,eH,gi,og⟩:=ajG I K ax cT ep aw au;have aT:dB c3.heap.size cM (nC m) c3:=by
      have p0: ∀b x,(nC m).X b=some x-> ∃bt,m.X b=some bt/\x=CR bt:=by
        intro b x hb;unfold W.X at hb⊢;change (if b<m.next then _ else _)=_ at hb;split at hb
        · rename_i ev;rw[if_pos ev];simp only[nC,rh]at hb;obtain⟨bt,aK,bb⟩:=hb;exact⟨bt,aK,bb.symm⟩
        · cases hb
      have az:((ag.app J bytes x y).gG (base+aS) A m).next=m.next:=by
        simp only[ag.gG];split
        · rfl
        · unfold kL;split<;>rfl
      refine⟨λb l hb=>by have:=eH.mf b l hb;rw[az]at this;exact this,eH.mi,λb x hb=> ?_,λb x cd ic l dh hb jt=> ?_,λb bc hb=>(by cases hb),λb bc hb=> ?_⟩
      · obtain⟨bt,aK,rfl⟩:=p0 b x hb;obtain⟨l,aJ,aU,cu,_⟩:=ax.mn b bt aK;refine⟨l,a8 b l aJ,aU,λi v ad=> ?_,λh=>by cases h⟩;obtain⟨lD,bx,ka,qJ⟩:=cu i v ad;exact⟨lD,bx,by rw[og bA b bt l aK aJ i (dO.1 ad).1];exact ka,qJ.b8 a8⟩
      · obtain⟨bt,_,rfl⟩:=p0 b x hb;cases jt
      · obtain⟨aK,_⟩:=W.uU hb;obtain⟨bt,_,bb⟩:=p0 b _ aK;simp[CR]at bb
    have aa:=dU (a.put d bx) c3 cM a8 bE ((K.b8 a8).a0 br b7) eH aT gi;rcases aFy with y|⟨y,rfl⟩
    · rw[y,Oper.upon_value,aH];exact aa
    · rw[y,Oper.upon_skip,aH];exact aa
  · cases bA
theorem azY{ta:Nat}{mx:eJ}{bk dR:W}{c8 e7:World}(cT:ta=c8.heap.size)(E:dB aV an bk c8)(I:dB ta mx dR e7)(fR:gl an mx)(az:bk.next<=dR.next)(hb:Below ta c8 e7):dB aV mx (bk.cf (dR.next-bk.next)) e7:=by
  subst cT;have ar: ∀b l,an b=some l->e7.heap[l.c]?=c8.heap[l.c]?:= λb l h=>hb.block _ (E.mi b l h);have a2: ∀b l dh,an b=some l->mx b=some dh->dh=l:= λb l dh h bS=>by have:=fR b l h;rw[bS]at this;cases this;rfl
  refine⟨λb l h=>by have:=I.mf b l h;rw[W.ti];omega,I.mi,λb x G=> ?_,λb x cd ic l dh G aE hQ cJ aB jr=> ?_,λb bc h=> ?_,λb bc h=> ?_⟩
  · rw[W.e0]at G;obtain⟨l,aJ,aU,cu,gO⟩:=E.mn b x G;have ye: ∀i,e7.cell? ⟨l.c,l.o+i,none⟩=c8.cell? ⟨l.c,l.o+i,none⟩:= λi=>by simp only[World.cell?,ar b l aJ]
    have eX: ∀i,e7.frozen? ⟨l.c,l.o+i,none⟩=c8.frozen? ⟨l.c,l.o+i,none⟩:= λi=>by simp only[World.frozen?,ar b l aJ]
    refine⟨l,fR b l aJ,aU,λi v ad=> ?_,λaE=>⟨(gO aE).1,λi ai=>by rw[ye,eX];exact(gO aE).2 i ai⟩⟩;obtain⟨lD,bx,ka,qJ⟩:=cu i v ad;exact⟨lD,bx,by rw[ye];exact ka,qJ.b8 fR⟩
  · rw[W.e0]at G hQ;obtain⟨k,aJ,_⟩:=E.mn b x G;obtain⟨gg,X7,_⟩:=E.mn cd ic hQ;rw[a2 b k l aJ aB,a2 cd gg dh X7 jr];exact E.rA b x cd ic k gg G aE hQ cJ aJ X7
  · obtain⟨l,e⟩:=E.ua b bc h;exact⟨l,fR b l e⟩
  · obtain⟨aK,bb⟩:=W.uU h;rw[W.e0]at aK;obtain⟨l,de,a9,aJ,aU,cu,gO⟩:=E.maps b bc (W.kq aK bb);exact⟨l,de,a9,fR b l aJ,aU,by rw[ar b l aJ];exact cu,gO.b8 fR⟩
theorem agV(ca:pL P aV bJ){Q:Exit->Act->World->Prop}(L:List bp)(A:aR)(m:W)(a:Act)(w:World)(an:eJ)(ak:aR)(aq:W)
    (E: ∀cl∈L,∃o,vZ P ops cZ cl o) (I:(L.map (·.aS)).Nodup) (K:gK an cZ A a) (ax:dB aV an m w) (cT:aV<=w.heap.size) (av: ∀cl∈L,cl.k.e3=true->base+cl.aS<m.next/\an (base+cl.aS)=none) (aH:j3 bJ base L A m=some (ak,aq))
    (b2: ∀dG c3 cM,gl an cM->(∀b,b<base->b<m.next->cM b=an b)->gK cM cZ ak dG->dB aV cM aq c3->Below aV w c3->Q .normal dG c3):wpOps P ops Q (L.map (·.aS)) a w:=by
  have:=Us (T:=[]) (Q:=Q) ca L A m a w an ak aq E I K ax cT av aH λdG c3 cM a8 bE b7 eH gi=>b2 dG c3 cM a8 (λb hb mC=>bE b mC λcl _=>by omega) b7 eH gi
  rwa [B7]at this
end
def ag.gx(k:ag)(id:Nat)(A:aR)(m:W):List (Nat×Option fB):=
  match k with
  | .c9 J=>[(id,some ⟨J,true⟩)]
  | .mz x=>[(id,some ⟨O (Z A x),true⟩)]
  | .gM _ _ J ps=>[(id,some ⟨l5 J A ps,true⟩)]
  | .store _ x v=>match Z A x with
    | .pointer (some a)=>(match m.X a.block with|some b=>[(a.block,some ⟨gL b.cells a.off (O (Z A v)),b.own⟩)]|none=>[])
    |_=>[]
  | .nX x=>[(id,some ⟨xc (qB (Z A x)),true⟩)]
  | .kN _ _ zero l _=>[(id,some ⟨(List.replicate (eZ (Z A l)).toNat zero).flatten,true⟩)]
  | .np _ _ zero _ l=>[(id,some ⟨(List.replicate (eZ (Z A l)).toNat zero).flatten,true⟩)]
  | .app J _ x y=>if gI (Z A y)=0 then[]else(match Z A x with| .slice (some a) _ _=>[(a.block,none)]|_=>[])++[(id,some ⟨gj m J (Z A x)++gj m J (Z A y),true⟩)]
  |_=>[]
def ig(m:W)(l:List (Nat×Option fB)):W:=l.foldl (λm p=>m.a0 p.1 p.2) m
section
variable {P:Program} {A dt:aR} {m dR:W} {aV:Nat} {bJ:Callee} {base id:Nat} {k:ag}
theorem agl(Aj:k.vk=false):k.gG id A m=ig m (k.gx id A m):=by
  cases k<;>simp only[ag.vk,Bool.true_eq_false]at Aj<;>simp only[ag.gG,ag.gx,ig,List.foldl_nil,xL]
  · rename_i n x v;generalize Z A x=bt;cases bt<;>try rfl
    rename_i p;cases p with
    |none=>rfl
    | some ef=>simp only[nP];cases m.X ef.block<;>rfl
  · rename_i J pU x y;split
    · rfl
    · generalize Z A x=bt;cases bt<;>try rfl
      rename_i p l c;cases p<;>rfl
theorem ET: ∀p∈k.gx id A m,(k.e3=true/\p.1=id/\N (k.val id A m)=some id)\/ ∃x∈k.mM,N (Z A x)=some p.1:=by
  intro p ab;cases k<;>simp only[ag.gx,jm,rj]at ab
  case c9=>subst ab;exact .inl ⟨rfl,rfl,rfl⟩
  case mz=>subst ab;exact .inl ⟨rfl,rfl,rfl⟩
  case gM=>subst ab;exact .inl ⟨rfl,rfl,rfl⟩
  case nX=>subst ab;exact .inl ⟨rfl,rfl,rfl⟩
  case kN=>subst ab;exact .inl ⟨rfl,rfl,rfl⟩
  case np=>subst ab;exact .inl ⟨rfl,rfl,rfl⟩
  case store n x v=>
    split at ab
    · rename_i ef h;split at ab
      · simp only[rj]at ab;subst ab;exact .inr ⟨x,by simp[ag.mM],by simp[h,N]⟩
      · cases ab
    · cases ab
  case app J pU x y=>
    split at ab
    · cases ab
    · rename_i az;rcases kk.1 ab with h|h
      · split at h
        · rename_i ef l c G;simp only[rj]at h;subst h;exact .inr ⟨x,by simp[ag.mM],by simp[G,N]⟩
        · cases h
      · simp only[rj]at h;subst h;exact .inl ⟨rfl,rfl,by simp[ag.val,az,N]⟩
theorem Qr: ∀(l:List (Nat×Option fB)) (m:W) (b:Nat),(∀p∈l,p.1≠b)->(ig m l).X b=m.X b
  |[],_,_,_=>rfl
  | p::l,m,b,h=>by show(ig (m.a0 p.1 p.2) l).X b=_;rw[Qr l _ b (λq bd=>h q (by simp[bd])),W.nv,if_neg (Ne.symm (h p (by simp)))]
theorem ahd{a b:Nat}{x y:Option fB}(h:a≠b):(m.a0 a x).a0 b y=(m.a0 b y).a0 a x:=by
  unfold W.a0;simp only[W.mk.injEq,true_and,and_true];funext i;by_cases E:i=b
  · subst E;simp[Ne.symm h]
  · simp[E]
theorem W5: ∀(l:List (Nat×Option fB)) (m:W) (b:Nat) (x:Option fB),(∀p∈l,p.1≠b)->ig (m.a0 b x) l=(ig m l).a0 b x
  |[],_,_,_,_=>rfl
  | p::l,m,b,x,h=>by show ig ((m.a0 b x).a0 p.1 p.2) l=(ig (m.a0 p.1 p.2) l).a0 b x;rw[ahd (Ne.symm (h p (by simp))),W5 l _ b x (λq bd=>h q (by simp[bd]))]
theorem W4: ∀(l r:List (Nat×Option fB)) (m:W),(∀p∈l,∀q∈r,p.1≠q.1)->ig (ig m l) r=ig (ig m r) l
  |[],_,_,_=>rfl
  | p::l,r,m,h=>by show ig (ig (m.a0 p.1 p.2) l) r=ig ((ig m r).a0 p.1 p.2) l;rw[W4 l r _ (λlP p4=>h lP (by simp[p4])),W5 r m p.1 p.2 (λq bd=>Ne.symm (h p (by simp) q bd))]
theorem PK{b:Nat}(h:m.X b=dR.X b)(off n:Nat):hP m b off n=hP dR b off n:=by unfold hP;rw[h]
theorem Kh(Aj:k.vk=false)(h: ∀x∈k.lS,∀b,N (Z A x)=some b->m.X b=dR.X b):k.ok A m=k.ok A dR/\k.val id A m=k.val id A dR/\k.gx id A m=k.gx id A dR:=by
  cases k<;>simp only[ag.vk,Bool.true_eq_false]at Aj<;>try exact⟨rfl,rfl,rfl⟩
  case k5 dp n x=>
    have E:=h x (by simp[ag.lS]);cases ad:Z A x<;>simp only[ag.ok,ag.val,ag.gx,ad,gD,kM,and_self];rename_i p;cases p with
    |none=>simp
    | some ef=>have I:=E ef.block (by simp[ad,N]);simp only[I,PK I,and_self]
  case pC J n x=>
    have E:=h x (by simp[ag.lS]);cases ad:Z A x<;>simp only[ag.ok,ag.val,ag.gx,ad,gD,and_self];rename_i p;cases p with
    |none=>simp
    | some ef=>have I:=E ef.block (by simp[ad,N]);simp only[I,and_self]
  case store n x v=>
    have E:=h x (by simp[ag.lS]);cases ad:Z A x<;>simp only[ag.ok,ag.val,ag.gx,ad,gD,pT,true_and,and_self];rename_i p;cases p with
    |none=>simp
    | some ef=>have I:=E ef.block (by simp[ad,N]);simp only[I,and_self]
  case mT x=>
    have E:=h x (by simp[ag.lS]);cases ad:Z A x<;>simp only[ag.ok,ag.val,ag.gx,ad,fS,gj,and_self];rename_i p l c;cases p with
    |none=>simp
    | some ef=>have I:=E ef.block (by simp[ad,N]);simp only[I,PK I,and_self]
  case app J pU x y=>
    have E:=h x (by simp[ag.lS]);have jF:=h y (by simp[ag.lS]);have s: ∀v:Value,(∀b,N v=some b->m.X b=dR.X b)->fS m J v=fS dR J v/\kj m v=kj dR v/\gj m J v=gj dR J v:=by
      intro v ad;cases v<;>simp only[fS,kj,gj,and_self];rename_i p l c;cases p with
      |none=>simp
      | some ef=>have I:=ad ef.block (by simp[N]);simp only[I,PK I,and_self]
    obtain⟨bu,bN,cn⟩:=s _ E;obtain⟨dd,_,gm⟩:=s _ jF;simp only[ag.ok,ag.val,ag.gx,bu,bN,cn,dd,gm,and_self]
theorem aBi(h:k.ok A m=true): ∀x∈k.lS++k.mM,∀b,N (Z A x)=some b->(m.X b).isSome=true:=by
  have aA: ∀(v:Value) n,gD m v n=true-> ∀b,N v=some b->(m.X b).isSome=true:=by intro v n ad b hb;obtain⟨cd,off,x,rfl,G,_⟩:=JP ad;simp only[N,lV]at hb;subst hb;rw[G];rfl
  have K: ∀(v:Value) J,fS m J v=true-> ∀b,N v=some b->(m.X b).isSome=true:=by
    intro v J ad b hb;rcases BS ad with rfl|⟨cd,off,len,x,rfl,G,_⟩
    · simp[N]at hb
    · simp only[N,lV]at hb;subst hb;rw[G];rfl
  intro x G b hb;cases k<;>simp only[ag.lS,ag.mM,B7,jm]at G
  case k5 dp n y=>simp only[rj]at G;subst G;simp only[ag.ok,a1]at h;exact aA _ _ h.1 b hb
  case pC J n y=>simp only[rj]at G;subst G;simp only[ag.ok,a1]at h;exact aA _ _ h.1 b hb
  case store n y v=>simp at G;subst G;simp only[ag.ok,a1]at h;exact aA _ _ h.1.1.1 b hb
  case mT y=>simp only[rj]at G;subst G;simp only[ag.ok,a1]at h;exact K _ _ h.1 b hb
  case hv J y=>simp at G;subst G;simp only[ag.ok,a1]at h;exact K _ _ h.1.1 b hb
  case app J pU y v=>
    simp only[ag.ok,a1]at h;simp at G;rcases G with rfl|rfl|rfl
    · exact K _ _ h.1.1.1.1.1 b hb
    · exact K _ _ h.1.1.1.2 b hb
    · exact K _ _ h.1.1.1.1.1 b hb
theorem x4{x:Operand}(h: ∀t,x= .tmp t->A t=dt t):Z A x=Z dt x:=by cases x<;>first|rfl|exact h _ rfl
theorem NX: ∀(ps:List (Nat×Nat×Operand)) (cs:List Value),(∀p∈ps,Z A p.2.2=Z dt p.2.2)->qh cs A ps=qh cs dt ps/\l5 cs A ps=l5 cs dt ps
  |[],_,_=>⟨rfl,rfl⟩
  | (a8,bE,b7)::ps,cs,h=>by have dk:Z A b7=Z dt b7:=h (a8,bE,b7) (by simp);have E:=(NX ps cs λp ab=>h p (by simp[ab])).1;have I:=(NX ps (gL cs a8 (O (Z dt b7))) λp ab=>h p (by simp[ab])).2;simp only[qh,nm,l5,dk]at E⊢;exact⟨by rw[E],I⟩
theorem It{l:Option Operand}{d:Int}(h: ∀x∈l.toList,Z A x=Z dt x):nK A l=nK dt l/\g1 A l d=g1 dt l d:=by
  cases l with
  |none=>exact⟨rfl,rfl⟩
  |some x=>have:=h x (by simp);simp[nK,g1,this]
theorem wm(h: ∀x∈k.hh,Z A x=Z dt x):k.ok A m=k.ok dt m/\k.val id A m=k.val id dt m/\k.gx id A m=k.gx id dt m/\k.fj A m=k.fj dt m:=by
  cases k<;>simp only[ag.hh,hH,jm,or_false,forall_eq_or_imp,forall_eq,kk]at h
  case fF J ps=>obtain⟨E,I⟩:=NX ps J λp ab=>h _ (hn.2 ⟨p,ab,rfl⟩);simp only[ag.ok,ag.val,ag.gx,ag.fj,E,I,and_self]
  case gM J n cs ps=>obtain⟨E,I⟩:=NX ps cs λp ab=>h _ (hn.2 ⟨p,ab,rfl⟩);simp only[ag.ok,ag.val,ag.gx,ag.fj,E,I,and_self]
  case BT x l r=>have E:= λd=>It (l:=l) (d:=d) λy af=>h.2 y (.inl af);have I:= λd=>It (l:=r) (d:=d) λy af=>h.2 y (.inr af);simp only[ag.ok,ag.val,ag.gx,ag.fj,h.1,(E 0).1,(I 0).1,λd=>(E d).2,λd=>(I d).2,and_self]
  case nO J x l r=>have E:= λd=>It (l:=l) (d:=d) λy af=>h.2 y (.inl af);have I:= λd=>It (l:=r) (d:=d) λy af=>h.2 y (.inr af);simp only[ag.ok,ag.val,ag.gx,ag.fj,h.1,(E 0).1,(I 0).1,λd=>(E d).2,λd=>(I d).2,and_self]
  case vK J x l r fr=>have E:= λd=>It (l:=l) (d:=d) λy af=>h.2.2.2 y af;simp only[ag.ok,ag.val,ag.gx,ag.fj,h.1,h.2.1,h.2.2.1,(E 0).1,λd=>(E d).2,and_self]
  case pq fr x xs=>
    have E: ∀(l:List Operand),(∀y∈l,Z A y=Z dt y)->(l.all λy=>e4 (Z A y))=(l.all λy=>e4 (Z dt y))/\
        ∀dH,l.foldl (λdH y=>if fr then ob dH (Z A y)else oc dH (Z A y)) dH=l.foldl (λdH y=>if fr then ob dH (Z dt y)else oc dH (Z dt y)) dH:=by
      intro l;induction l with
      |nil=>intro _;exact⟨rfl,λ_=>rfl⟩
      | cons y l cx=>intro aB;obtain⟨aK,bb⟩:=cx λJ bK=>aB J (by simp[bK]);have:=aB y (by simp);exact⟨by simp only[nm,this,aK],λdH=>by simp only[xL,this,bb]⟩
    obtain⟨aK,bb⟩:=E xs h.2;simp only[ag.ok,ag.val,ag.gx,ag.fj,h.1,aK,bb,and_self]
  case ub fn xs ys=>have E:xs.map (Z A)=xs.map (Z dt):=zD λy af=>h y (.inl af);have I:ys.map (Z A)=ys.map (Z dt):=zD λy af=>h y (.inr af);simp only[ag.ok,ag.val,ag.gx,ag.fj,E,I,and_self]
  case dY f bY=>have E:bY.map (Z A)=bY.map (Z dt):=zD h;simp only[ag.ok,ag.val,ag.gx,ag.fj,E,and_self]
  case iN x bY=>have E:bY.map (Z A)=bY.map (Z dt):=zD h.2;simp only[ag.ok,ag.val,ag.gx,ag.fj,E,h.1,and_self]
  case iR bh x bY=>have E:bY.map (Z A)=bY.map (Z dt):=zD h.2;simp only[ag.ok,ag.val,ag.gx,ag.fj,E,h.1,and_self]
  all_goals simp only[ag.ok,ag.val,ag.gx,ag.fj,h,and_self]
end
namespace Pn
theorem ay9{A:aR}{m:W}{k:ag}(h:k.ke=false):k.fj A m=none:=by cases k<;>first|rfl|(simp[ag.ke]at h)
theorem azf{f:aR->W->Option (dA×aR×W)}{j:Nat}{A:aR}{m:W}{r:dA×aR×W}(h:jJ f (j+1) A m=some r):
    (∃bQ bk,f A m=some (.ew,bQ,bk)/\jJ f j bQ bk=some r)\/(f A m=some r/\r.1≠ .ew):=by
  simp only[jJ]at h;split at h
  · rename_i bQ bk E;exact .inl ⟨bQ,bk,E,h⟩
  · rename_i cJ;refine .inr ⟨h,λI=> ?_⟩;obtain⟨fs,g7,jl⟩:=r;cases I;exact cJ _ _ h
structure eY(id:Nat)(x:Option fB)(m ah:W):Prop where
  eq:ah=m.a0 id x
  cV:id<m.next
  hg:m.X id=none
section
variable {id:Nat} {x:Option fB} {m ah:W}
theorem eY.next(M:eY id x m ah):ah.next=m.next:=by rw[M.eq];rfl
theorem eY.mp(M:eY id x m ah):ah.mp=m.mp:=by rw[M.eq];rfl
theorem eY.jN(M:eY id x m ah){b:Nat}{y:fB}(h:m.X b=some y):b≠id:= λaD=>by subst aD;rw[M.hg]at h;cases h
theorem eY.Qs(M:eY id x m ah){b:Nat}(h:b≠id):ah.X b=m.X b:=by rw[M.eq,W.nv,if_neg h]
theorem eY.X(M:eY id x m ah){b:Nat}{y:fB}(h:m.X b=some y):ah.X b=some y:=by rw[M.Qs (M.jN h),h]
theorem eY.eS(M:eY id x m ah){b:Nat}{e:List (Value×Value)}(h:m.eS b=some e):ah.eS b=some e:=by
  unfold W.eS at h⊢;cases aP:m.X b with
  |none=>rw[aP]at h;cases h
  |some y=>rw[aP]at h;rw[M.X aP,M.mp];exact h
theorem eY.Qq(M:eY id x m ah){b:Nat}{e:List (Value×Value)}(h:m.eS b=some e):b≠id:=by
  unfold W.eS at h;cases aP:m.X b with
  |none=>rw[aP]at h;cases h
  |some y=>exact M.jN aP
theorem eY.a0(M:eY id x m ah){b:Nat}(hb:b≠id)(y:Option fB):eY id x (m.a0 b y) (ah.a0 b y) where
  eq:=by rw[M.eq];exact ahd (by omega)
  cV:=M.cV
  hg:=by rw[W.nv,if_neg (by omega)];exact M.hg
theorem eY.g2(M:eY id x m ah){b:Nat}(hb:b≠id)(e:List (Value×Value)):eY id x (m.g2 b e) (ah.g2 b e) where
  eq:=by
    rw[M.eq];simp only[W.g2,W.a0,W.mk.injEq,true_and,and_true];funext i;by_cases E:i=b
    · subst E;simp[hb]
    · simp[E]
  cV:=M.cV
  hg:=by have:=M.hg;simp only[W.X,W.g2,show¬id=b by omega,if_false]at this⊢;exact this
theorem eY.cf(M:eY id x m ah)(k:Nat):eY id x (m.cf k) (ah.cf k) where
  eq:=by
    rw[M.eq];simp only[W.cf,W.a0,W.mk.injEq,true_and,and_true];funext i;by_cases E:i=id
    · subst E;simp[M.cV]
    · simp[E]
  cV:=by have:=M.cV;show id<m.next+k;omega
  hg:=by rw[W.e0];exact M.hg
theorem eY.gD(M:eY id x m ah){v:Value}{n:Nat}(h:gD m v n=true):gD ah v n=true:=by
  unfold DI.gD at h⊢;split at h
  · rename_i a;simp only[a1]at h⊢;refine⟨h.1,?_⟩;cases aP:m.X a.block with
    |none=>rw[aP]at h;simp at h
    |some x=>rw[aP]at h;rw[M.X aP];exact h.2
  · cases h
theorem eY.pT(M:eY id x m ah){v:Value}(h:pT m v=true):pT ah v=true:=by
  unfold DI.pT at h⊢;split at h
  · rename_i a;cases aP:m.X a.block with
    |none=>rw[aP]at h;cases h
    |some x=>rw[aP]at h;rw[M.X aP];exact h
  · cases h
theorem eY.kM(M:eY id x m ah){v:Value}{n:Nat}{dp:Bool}(h:DI.gD m v n=true):kM ah dp n v=kM m dp n v:=by
  unfold DI.gD at h;split at h
  · rename_i a;simp only[a1]at h;cases aP:m.X a.block with
    |none=>rw[aP]at h;simp at h
    |some x=>simp only[DI.kM,hP,aP,M.X aP]
  · cases h
theorem eY.nP(M:eY id x m ah){v:Value}{n:Nat}{cs:List Value}(h:DI.gD m v n=true):eY id x (nP m v cs) (nP ah v cs):=by
  unfold DI.gD at h;split at h
  · rename_i a;simp only[a1]at h;cases aP:m.X a.block with
    |none=>rw[aP]at h;simp at h
    |some x=>simp only[DI.nP,aP,M.X aP];exact M.a0 (M.jN aP) _
  · cases h
theorem eY.fS(M:eY id x m ah){v:Value}{J:Nat}(h:fS m J v=true):fS ah J v=true:=by
  unfold DI.fS at h⊢;split at h
  · exact h
  · rename_i a l c;simp only[a1]at h⊢;refine⟨h.1,?_⟩;cases aP:m.X a.block with
    |none=>rw[aP]at h;simp at h
    |some x=>rw[aP]at h;rw[M.X aP];exact h.2
  · cases h
theorem eY.kj(M:eY id x m ah){v:Value}(h:kj m v=true):kj ah v=true:=by
  unfold DI.kj at h⊢;split at h
  · rfl
  · rename_i a l c;cases aP:m.X a.block with
    |none=>rw[aP]at h;cases h
    |some x=>rw[aP]at h;rw[M.X aP];exact h
  · cases h
theorem eY.gj(M:eY id x m ah){v:Value}{J:Nat}(h:DI.fS m J v=true):gj ah J v=gj m J v:=by
  unfold DI.fS at h;split at h
  · rfl
  · rename_i a l c;simp only[a1]at h;cases aP:m.X a.block with
    |none=>rw[aP]at h;simp at h
    |some x=>simp only[DI.gj,hP,aP,M.X aP]
  · cases h
theorem eY.kL(M:eY id x m ah){v:Value}{J:Nat}(h:DI.fS m J v=true):eY id x (kL m v) (kL ah v):=by
  unfold DI.fS at h;split at h
  · exact M
  · rename_i a l c;simp only[a1]at h;cases aP:m.X a.block with
    |none=>rw[aP]at h;simp at h
    |some x=>exact M.a0 (M.jN aP) _
  · cases h
theorem eY.mS(M:eY id x m ah){v:Value}{J:Nat}{cs:List Value}(h:DI.fS m J v=true):eY id x (mS m cs v) (mS ah cs v):=by
  unfold DI.fS at h;split at h
  · exact M
  · rename_i a l c;simp only[a1]at h;cases aP:m.X a.block with
    |none=>rw[aP]at h;simp at h
    |some x=>simp only[DI.mS,aP,M.X aP];exact M.a0 (M.jN aP) _
  · cases h
theorem eY.ku(M:eY id x m ah){v:Value}{bc:List (Value×Value)}(h:ku m v=some bc):ku ah v=some bc:=by
  unfold DI.ku at h⊢;split at h
  · exact h
  · exact M.eS h
  · cases h
theorem Iq(M:eY id x m ah){k:ag}{A:aR}(h:k.ok A m=true):k.ok A ah=true:=by
  cases k with
  |pC J n y=>simp only[ag.ok,a1]at h⊢;exact⟨M.gD h.1,h.2⟩
  |k5 dp n y=>simp only[ag.ok,a1]at h⊢;exact⟨M.gD h.1,h.2⟩
  |store n x v=>simp only[ag.ok,a1]at h⊢;exact⟨⟨⟨M.gD h.1.1.1,M.pT h.1.1.2⟩,h.1.2⟩,h.2⟩
  |mT x=>simp only[ag.ok,a1]at h⊢;exact⟨M.fS h.1,by rw[M.gj h.1];exact h.2⟩
  |app J bytes x y=>simp only[ag.ok,a1]at h⊢;exact⟨⟨⟨⟨⟨M.fS h.1.1.1.1.1,M.kj h.1.1.1.1.2⟩,M.fS h.1.1.1.2⟩,h.1.1.2⟩,h.1.2⟩,h.2⟩
  |hv J x=>simp only[ag.ok,a1]at h⊢;exact⟨⟨M.fS h.1.1,M.kj h.1.2⟩,h.2⟩
  | m7 a9 J o x fN=>
    simp only[ag.ok]at h⊢;cases ax:DI.ku m (Z A x)with
    |none=>rw[ax]at h;cases h
    |some bc=>rw[ax]at h;rw[M.ku ax];exact h
  | l3 a9 x fN v=>
    simp only[ag.ok]at h⊢;split at h
    · rename_i ch b hb;cases ax:m.eS b with
      |none=>rw[ax]at h;cases h
      |some bc=>rw[ax]at h;rw[M.eS ax];exact h
    · cases h
  |_=>exact h
theorem Jh(M:eY id x m ah){k:ag}{A:aR}{Ec:Nat}(h:k.ok A m=true):k.val Ec A ah=k.val Ec A m:=by
  cases k with
  |k5 dp n y=>simp only[ag.ok,a1]at h;exact M.kM h.1
  |mT x=>simp only[ag.ok,a1]at h;simp only[ag.val,M.gj h.1]
  | m7 a9 J o x fN=>
    simp only[ag.ok]at h;cases ax:DI.ku m (Z A x)with
    |none=>rw[ax]at h;cases h
    |some bc=>simp only[ag.val,ax,M.ku ax]
  |_=>rfl
theorem Ij(M:eY id x m ah){k:ag}{A:aR}{Ec:Nat}(ep:Ec≠id)(h:k.ok A m=true):eY id x (k.gG Ec A m) (k.gG Ec A ah):=by
  cases k with
  |c9 J=>exact M.a0 ep _
  |mz x=>exact M.a0 ep _
  |gM a b c d=>exact M.a0 ep _
  |nX x=>exact M.a0 ep _
  |np a b c d e=>exact M.a0 ep _
  |hv J x=>simp only[ag.ok,a1]at h;exact M.mS h.1.1
  |kN a b c d e=>exact M.a0 ep _
  |store n x v=>simp only[ag.ok,a1]at h;exact M.nP h.1.1.1
  | app J bytes x y=>
    simp only[ag.ok,a1]at h;simp only[ag.gG];split
    · exact M
    · rw[M.gj h.1.1.1.1.1,M.gj h.1.1.1.2];exact(M.kL h.1.1.1.1.1).a0 ep _
  |m6=>exact M.g2 ep _
  | l3 a9 x fN v=>
    simp only[ag.ok]at h;split at h
    · rename_i ch b hb;cases ax:m.eS b with
      |none=>rw[ax]at h;cases h
      |some bc=>simp only[ag.gG,hb,vt,ax,M.eS ax];exact M.g2 (M.Qq ax) _
    · cases h
  |_=>exact M
theorem J5(M:eY id x m ah){k:ag}{A:aR}{kX:Nat×List Value}(h:k.fj A m=some kX):k.fj A ah=some kX:=by
  cases k with
  | iR bh x args=>
    simp only[ag.fj]at h⊢;split at h
    · split at h
      · exact h
      · split at h
        · rename_i ar;simp only[a1]at ar;rw[if_pos (by simp only[a1];exact⟨M.gD ar.1,ar.2⟩),M.kM ar.1];exact h
        · cases h
      · cases h
    · cases h
  |_=>exact h
theorem PI{m ah:W}{k:ag}{A:aR}(h:k.fj A m=none)(au:k.ok A m=true):k.fj A ah=none:=by
  refine ay9 ?_;cases k with
  |dY f a=>simp[ag.ok]at au
  |iN f a=>simp[ag.ok]at au
  |iR f a b=>simp[ag.ok]at au
  |_=>rfl
def JK(id:Nat)(x:Option fB)(bJ:Callee):Prop:= ∀f a m r aq,bJ f a m=some (r,aq)-> ∀ah,eY id x m ah-> ∃cv,bJ f a ah=some (r,cv)/\eY id x aq cv
theorem TW{aq cv:W}(M:eY id x m ah)(cL:eY id x aq cv){A:aR}{a9:List (Operand×Operand)}(h:qZ A a9 m aq):qZ A a9 ah cv:= λp ab b hb=>by
  by_cases aD:b=id
  · subst aD;rw[M.eq,cL.eq,W.nv,W.nv,if_pos rfl,if_pos rfl,if_pos M.cV,if_pos cL.cV]
  · rw[M.Qs aD,cL.Qs aD];exact h p ab b hb
theorem VT{bJ:Callee}(ca:JK id x bJ)(M:eY id x m ah){base:Nat}(hb:id<base){o:bp}{A ak:aR}{aq:W}(h:hF bJ base o A m=some (ak,aq))(aa:oy o A m aq):
    ∃cv,hF bJ base o A ah=some (ak,cv)/\eY id x aq cv/\oy o A ah cv:=by
  unfold hF at h⊢;unfold oy at aa⊢;by_cases a3:eR A o.g=true
  · rw[if_pos a3]at h⊢
    replace aa:=aa a3
    cases ar:o.k.fj A m with
    | none=>
      rw[ar]at h aa;simp only at h aa;split at h
      · rename_i au;cases h;simp only[PI ar au];rw[if_pos (Iq M au),Jh M au];exact⟨_,rfl,Ij M (by omega) au,λ_=>aa⟩
      · cases h
    | some kX=>
      obtain⟨f,args⟩:=kX;rw[ar]at h aa;simp only at h aa;cases aT:bJ f args m with
      |none=>rw[aT]at h;cases h
      | some EO=>obtain⟨v,bk⟩:=EO;rw[aT]at h;cases h;obtain⟨cv,E,cL⟩:=ca _ _ _ _ _ aT ah M;simp only[J5 M ar,E];exact⟨_,rfl,cL,λ_=>TW M cL aa⟩
  · rw[if_neg a3]at h⊢;cases h;exact⟨ah,rfl,M,λh=>absurd h a3⟩
theorem xe{bJ:Callee}(ca:JK id x bJ){base:Nat}(hb:id<base): ∀{L:List bp} {A ak:aR} {m aq ah:W},eY id x m ah->j3 bJ base L A m=some (ak,aq)-> ∃cv,j3 bJ base L A ah=some (ak,cv)/\eY id x aq cv
  |[],_,_,_,_,ah,M,h=>by cases h;exact⟨ah,rfl,M⟩
  | _::_,_,_,_,_,ah,M,h=>by obtain⟨bQ,bk,E,I,av⟩:=q6 h;obtain⟨c2,aK,cC,bb⟩:=VT ca M hb E I;obtain⟨fe,c0,fP⟩:=xe ca hb cC av;exact⟨fe,xn aK bb c0,fP⟩
theorem H4{f:aR->W->Option (dA×aR×W)}(aT: ∀A m e ak aq,f A m=some (e,ak,aq)-> ∀ah,eY id x m ah-> ∃cv,f A ah=some (e,ak,cv)/\eY id x aq cv):
    ∀{n:Nat} {A:aR} {m:W} {e:dA} {ak:aR} {aq ah:W},jJ f n A m=some (e,ak,aq)->eY id x m ah-> ∃cv,jJ f n A ah=some (e,ak,cv)/\eY id x aq cv
  |0,_,_,_,_,_,_,h,_=>by simp[jJ]at h
  | n+1,A,m,e,ak,aq,ah,h,M=>by
    rcases azf h with⟨bQ,bk,E,I⟩|⟨E,I⟩
    · obtain⟨c2,aK,cC⟩:=aT _ _ _ _ _ E ah M;obtain⟨fe,bb,fP⟩:=H4 aT I cC;exact⟨fe,by simp only[jJ,aK];exact bb,fP⟩
    · obtain⟨c2,aK,cC⟩:=aT _ _ _ _ _ E ah M;refine⟨c2,?_,cC⟩;simp only[jJ,aK];cases e with
      |ew=>exact absurd rfl I
      |a7 id=>rfl
      |aF=>rfl
theorem eY.nC(M:eY id x m ah):eY id (x.map CR) (nC m) (nC ah) where
  eq:=by
    rw[M.eq];simp only[DI.nC,W.a0,W.mk.injEq,true_and,and_true];funext b;by_cases h:b=id
    · subst h;simp
    · simp[h]
  cV:=M.cV
  hg:=by have:=M.hg;unfold W.X at this⊢;have h:=M.cV;rw[if_pos h]at this;show(if id<m.next then _ else _)=_;rw[if_pos h];simp only[DI.nC,this,Option.map_none]
theorem eY.qp(M:eY id x m ah){J:Nat}{v:Value}(h:qp J m v=true):qp J ah v=true:=by
  unfold DI.qp at h⊢;split at h
  · rename_i a l c;cases aP:m.X a.block with
    |none=>rw[aP]at h;cases h
    |some x=>rw[aP]at h;rw[M.X aP];exact h
  · rfl
theorem eY.m4(M:eY id x m ah){o:bp}{A:aR}(h:m4 o A m=true):m4 o A ah=true:=by
  unfold DI.m4 at h⊢;simp only[a1]at h⊢;refine⟨⟨h.1.1,?_⟩,Iq M h.2⟩;have:=h.1.2;split at this
  · exact M.qp this
  · cases this
theorem nt{bJ:Callee}(ca: ∀x,JK id x bJ){n:Nat}: ∀{c:H} {A ak:aR} {m aq ah:W} {e:dA},eu bJ n c A m=some (e,ak,aq)->eY id x m ah-> ∃cv,eu bJ n c A ah=some (e,ak,cv)/\eY id x aq cv
  | .skip,_,_,_,_,ah,_,h,M=>by cases h;exact⟨ah,rfl,M⟩
  | .D ops,A,ak,m,aq,ah,e,h,M=>by
    simp only[eu]at h⊢;split at h
    · rename_i bQ bk aw;cases h;have cL:eY id x (hl ops m) (hl ops ah):=by
        unfold hl;split
        · exact M.cf _
        · exact M
      obtain⟨cv,g,fP⟩:=xe (ca x) (base:=m.next) M.cV cL aw;refine⟨cv,?_,fP⟩;rw[M.next,g]
    · cases h
  | .q0 bX o b4,A,ak,m,aq,ah,e,h,M=>by
    simp only[eu]at h⊢;split at h
    · rename_i bQ bk E;split at h
      · rename_i au;split at h
        · rename_i dt dR I;cases h;obtain⟨c2,aK,cC⟩:=xe (ca x) (base:=m.next) M.cV (M.cf _) E;have aa:o.k.ok bQ bk=true:=(by unfold DI.m4 at au;simp only[a1]at au;exact au.2);obtain⟨fe,bb,fP⟩:=xe (ca _) (base:=m.next) M.cV cC.nC I;rw[M.next,aK];simp only[cC.m4 au,if_true,Jh cC aa,bb,fP.next,cC.next];exact⟨_,rfl,(Ij cC (by have:=M.cV;omega) aa).cf _⟩
        · cases h
      · cases h
    · cases h
  | .B a b,A,ak,m,aq,ah,e,h,M=>by
    simp only[eu]at h⊢;split at h
    · rename_i bQ bk E;obtain⟨c2,aK,cC⟩:=nt ca E M;obtain⟨fe,bb,fP⟩:=nt ca h cC;exact⟨fe,by rw[aK];exact bb,fP⟩
    · rename_i cJ;obtain⟨c2,aK,cC⟩:=nt ca h M;refine⟨c2,?_,cC⟩;rw[aK];cases e with
      |ew=>exact absurd h (cJ _ _)
      |a7 id=>rfl
      |aF=>rfl
  | .aM x a b,A,ak,m,aq,ah,e,h,M=>by
    simp only[eu]at h⊢;split at h
    · rename_i E;rw[if_pos E];split at h
      · rename_i I;rw[if_pos I];exact nt ca h M
      · rename_i I;rw[if_neg I];exact nt ca h M
    · cases h
  | .block id c,A,ak,m,aq,ah,e,h,M=>by
    simp only[eu]at h⊢;split at h
    · rename_i E;obtain⟨c2,aK,cC⟩:=nt ca E M;rw[aK];simp only;split at h
      · rename_i ep;cases h;exact⟨c2,by rw[if_pos ep],cC⟩
      · rename_i ep;cases h;exact⟨c2,by rw[if_neg ep],cC⟩
    · rename_i cJ;obtain⟨c2,aK,cC⟩:=nt ca h M;refine⟨c2,?_,cC⟩;rw[aK];cases e with
      |ew=>rfl
      |a7 id=>exact absurd h (cJ _ _ _)
      |aF=>rfl
  | .loop c,A,ak,m,aq,ah,e,h,M=>by simp only[eu]at h⊢;exact H4 (f:=eu bJ n c) (λA m e ak aq E ah M=>nt ca E M) h M
  | .a7 id,_,_,_,_,ah,_,h,M=>by cases h;exact⟨ah,rfl,M⟩
  | .aF,_,_,_,_,ah,_,h,M=>by cases h;exact⟨ah,rfl,M⟩
theorem BF(M:eY id x m ah){A:aR}{r:ld}(h:py m A r=true):py ah A r=true/\qj ah A r=qj m A r:=by
  cases r with
  |bw t=>exact⟨rfl,rfl⟩
  | im t dp n=>simp only[py,a1]at h⊢;exact⟨⟨M.gD h.1,h.2⟩,M.kM h.1⟩
theorem UI(M:eY id x m ah){A:aR}{cy:List ld}(h:k7 m A cy=true):k7 ah A cy=true/\lu ah A cy=lu m A cy:=by
  have aw: ∀r∈cy,py m A r=true:=by simpa[k7]using h
  refine⟨by simp only[k7,eQ];exact λr ax=>(BF M (aw r ax)).1,?_⟩;unfold lu;split
  · exact(BF M (aw _ (by simp))).2
  · rw[zD λr ax=>(BF M (aw r ax)).2]
theorem Fu{P:Program}: ∀n x,JK id x (jV P n)
  |0,_=> λf a m r aq h=>by simp[jV]at h
  | n+1,x=> λf a m r aq h ah M=>by
    simp only[jV]at h⊢;split at h
    · rename_i u dx;split at h
      · rename_i fR;rw[if_pos fR];split at h
        · cases h
        · rename_i e ak bk cJ gP;obtain⟨c2,aK,cC⟩:=nt (Fu n) gP M;split at h
          · rename_i aw;cases h;obtain⟨bb,c0⟩:=UI cC aw;rw[aK];refine⟨c2,?_,cC⟩;cases e with
            |ew=>simp only[bb,c0,if_true]
            |aF=>simp only[bb,c0,if_true]
            |a7 id=>exact absurd rfl (cJ id)
          · cases h
        · cases h
      · cases h
    · cases h
end
end Pn
end Go.DI
