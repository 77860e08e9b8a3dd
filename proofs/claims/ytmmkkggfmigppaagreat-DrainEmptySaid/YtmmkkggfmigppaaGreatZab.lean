/-
  A part of the proof of the statement, in texts that tools of ours (wip/shrink.py, irpack.py, relax.py, minify.py, join.py, lay.py) have shortened.
-/
import Derived.ChangeKeysEq
import Derived.Lib.AppendZeros
import Derived.Test.YtmmkkggfmigppaaGreatZaa
set_option linter.all false
set_option maxRecDepth 8000
set_option maxHeartbeats 16000000
namespace Go.DI
open Go Go.RowKit
section
variable {P:Program} {w:World} {o:Oper} {a:Act}
theorem azB{t:TypeId}{ps:Array (Nat×Operand)}{cells:Array Value}{bB:TypeInfo}{J:Value}{fr:Array Field}(bu:o.op= .build t ps)(ai:P.info? t=some bB)(bL:bB.zero=some J)
    (bt:P.underlying t=some (.struct fr)) (gp:fr.toList.all (λf=>(j6 P f.type).isSome)=true)
    (a3: ∀uw:Nat->Option (Nat×Nat),(∀i,uw i=(fr[i]?).bind λ(f:Field)=>(P.info? f.type).map λbB=>(f.offset,bB.size))->Instr.fill uw J.cells (ps.toList.map λp=>(p.1,a.eval p.2))=some cells):
    iu P o a w (.agg cells) w:=by
  refine .inl ?_;obtain⟨uv,D,H⟩:=avo (P:=P) (w:=w) fr.toList gp;have aq:=a3 (λi=>uv.toArray[i]?) (λi=>by simpa using H i);have br:(fr.mapM (m:=Sem) λ(f:Field)=>do pure (f.offset,<-sizeOf f.type)).run P w= .ok uv.toArray w:=by rw[Array.mapM_eq_mapM_toList];simp only[Sem.run_map,D];rfl
  simp only[execOp,bu,Instr.build,Sem.run_bind,run_underlying bt,zeroValue,typeInfo,run_program,ai,bL,Sem.run_pure,Result.andThen_ok,br];have cR:Instr.fill (λx=>uv[x]?) J.cells (List.map (λx=>(x.fst,a.eval x.snd)) ps.toList)=some cells:=by simpa using aq
  simp[cR]
theorem azJ{t:TypeId}{x:Operand}{i:Nat}{fr:Array Field}{f:Field}{bB:TypeInfo}{b:Bool}{cs:Array Value}(bu:o.op= .field t x i)(bt:P.underlying t=some (.struct fr))(a3:fr[i]?=some f)
    (ai:P.info? f.type=some bB) (hb:n6 P f.type=some b) (G:a.eval x= .agg cs) (ax:f.offset+bB.size<=cs.size) (D:b=true\/bB.size=1):
    iu P o a w (if b then .agg (cs.toList.drop f.offset|>.take bB.size).toArray else cs.toList.getD f.offset undef) w:=by
  refine .inl ?_;have H:=TL (w:=w) hb;simp only[execOp,bu,G,Instr.field,Sem.run_bind,run_underlying bt,Result.andThen_ok,a3,asAgg,Sem.run_pure,part,H];cases b
  · have aq:bB.size=1:=(by simpa using D);have aF:f.offset<cs.size:=(by omega);simp[aF]
  · simp only[if_true,Sem.run_bind,sizeOf,typeInfo,run_program,ai,Sem.run_pure,Result.andThen_ok];congr 3;apply AU.1;simp[Array.toList_extract]
theorem azC{t e:TypeId}{n:Nat}{ps:Array (Nat×Operand)}{cells:Array Value}{bB BE:TypeInfo}{J:Value}(bu:o.op= .build t ps)(ai:P.info? t=some bB)(bL:bB.zero=some J)
    (bt:P.underlying t=some (.array n e)) (bh:P.info? e=some BE)
    (a3:Instr.fill (λi=>some (i*BE.size,BE.size)) J.cells (ps.toList.map λp=>(p.1,a.eval p.2))=some cells):iu P o a w (.agg cells) w:=by
  refine .inl ?_;simp[execOp,bu,Instr.build,run_underlying bt,zeroValue,sizeOf,typeInfo,ai,bL,bh,a3]
theorem aeA(fh:Bool): ∀(xs:List Value) (dz:Value),eV dz=true->(∀x∈xs,eV x=true)->
    (xs.foldlM (m:=Sem) (if fh then Builtin.max2 else Builtin.min2) dz).run P w= .ok (xs.foldl (λdz y=>if fh then nB dz y else nC dz y) dz) w
  |[],_,_,_=>by simp
  | x::xs,dz,h,G=>by have D:((if fh then Builtin.max2 else Builtin.min2) dz x).run P w= .ok (if fh then nB dz x else nC dz x) w:=(by have PG:=G x (by simp);cases dz<;>simp[eV]at h;cases x<;>simp[eV]at PG;cases fh<;>simp[Builtin.max2,Builtin.min2,nB,nC]);have H:eV (if fh then nB dz x else nC dz x)=true:=(by have PG:=G x (by simp);cases dz<;>simp[eV]at h;cases x<;>simp[eV]at PG;cases fh<;>simp[nB,nC,eV]);simp only[List.foldlM_cons,Sem.run_bind,D,Result.andThen_ok,wD];exact aeA fh xs _ H (λy ah=>G y (by simp[ah]))
theorem afJ{c:Call}{fh:Bool}{x:Operand}{xs:List Operand}(bu:o.op= .call c)(ar:c.callee= .builtin (if fh then .max else .min))(az:c.args.toList=x::xs)
    (D:eV (a.eval x)=true) (H: ∀y∈xs,eV (a.eval y)=true):iu P o a w (xs.foldl (λdz y=>if fh then nB dz (a.eval y)else nC dz (a.eval y)) (a.eval x)) w:=by
  refine .inl ?_;have aq:(c.args.map a.eval).toList=a.eval x::xs.map a.eval:=by simp[az]
  have aF:=aeA (P:=P) (w:=w) fh (xs.map a.eval) (a.eval x) D (by simpa using H);rw[List.foldl_map]at aF;cases fh
  · simp only[execOp,bu,resolve,ar,invoke,builtin,Sem.run_bind,Sem.run_pure,Result.andThen_ok,jR,if_false,Builtin.min_,aq];simp only[jR,if_false]at aF;simp[aF]
  · simp only[execOp,bu,resolve,ar,invoke,builtin,Sem.run_bind,Sem.run_pure,Result.andThen_ok,if_true,Builtin.max_,aq];simp only[if_true]at aF;simp[aF]
theorem I0: ∀(eB hk:List oZ) (xs ys:List Value),hU (eB++hk) xs ys=true->hU eB (xs.take eB.length) (ys.take eB.length)=true/\hU hk (xs.drop eB.length) (ys.drop eB.length)=true/\
    lE xs ys=(lE (xs.take eB.length) (ys.take eB.length)&&lE (xs.drop eB.length) (ys.drop eB.length))
  |[],hk,xs,ys,h=>by simpa[hU,lE]using h
  |k::eB,hk,[],ys,h=>by simp[hU]at h
  |k::eB,hk,x::xs,[],h=>by simp[hU]at h
  | k::eB,hk,x::xs,y::ys,h=>by simp only[yy,hU,aX]at h;obtain⟨D,H,aq⟩:=I0 eB hk xs ys h.2;exact⟨by simp[hU,h.1,D],by simpa using H,by simp[lE,aq,yz]⟩
theorem I1: ∀(gz:List oZ) (xs ys:List Value),hU gz xs ys=true->xs.length=gz.length/\ys.length=gz.length
  |[],[],[],_=>by simp
  |[],[],_::_,h=>by simp[hU]at h
  |[],_::_,_,h=>by simp[hU]at h
  |_::_,[],_,h=>by simp[hU]at h
  |_::_,_::_,[],h=>by simp[hU]at h
  | k::gz,x::xs,y::ys,h=>by simp only[hU,aX]at h;have:=I1 gz xs ys h.2;simp[this]
def sl(dc:Bool)(xs:List Value):Value:=if dc then .agg xs.toArray else xs.headD undef
theorem vO{xs:List Value}(h:xs.length=1): ∃x,xs=[x]:=by
  match xs,h with
  |[x],_=>exact⟨x,rfl⟩
theorem My{t:TypeId}{b:Bool}{n off:Nat}{xs:List Value}(hb:n6 P t=some b)(ax:j6 P t=some n)(D:b=true\/n=1)(aC:off+n<=xs.length):
    (part t xs.toArray off).run P w= .ok (sl b ((xs.drop off).take n)) w:=by
  obtain⟨bB,ai,rfl⟩:=ri ax;simp only[part,Sem.run_bind,TL hb,Result.andThen_ok];cases b
  · have H:bB.size=1:=(by simpa using D);have aq:off<xs.length:=(by omega);simp only[jR,if_false,sl,H];simp[dx aq,List.take_one,List.headD]
  · simp only[if_true,Sem.run_bind,sizeOf,typeInfo,run_program,ai,Sem.run_pure,Result.andThen_ok,sl];congr 2;apply AU.1;simp
theorem Ji: ∀(d cE:Nat) (t:TypeId) (gz:List oZ) (xs ys:List Value),su P d t=some gz->d<=cE->hU gz xs ys=true->
    ∃b,n6 P t=some b/\j6 P t=some gz.length/\(b=true\/gz.length=1)/\(Op.equalIn cE t (sl b xs) (sl b ys)).run P w= .ok (lE xs ys) w
  |0,_,_,_,_,_,h,_,_=>by simp[su]at h
  |d+1,0,_,_,_,_,_,h,_=>by omega
  | d+1,cE+1,t,gz,xs,ys,h,oq,aC=>by
    obtain⟨G4,oE⟩:=I1 gz xs ys aC;unfold su at h;split at h
    · rename_i n aY ax;split at h<;>cases h;rename_i e;subst e;obtain⟨x,rfl⟩:=vO G4;obtain⟨y,rfl⟩:=vO oE;refine⟨false,by simp[n6,aY],ax,.inr rfl,?_⟩;cases x<;>cases y<;>simp[hU,wT]at aC;simp only[sl,jR,if_false,List.headD_cons,lE,oi,Bool.and_true];exact run_equalIn_bool' w cE t _ _ aY
    · rename_i k n aY ax;split at h<;>cases h;rename_i e;subst e;obtain⟨x,rfl⟩:=vO G4;obtain⟨y,rfl⟩:=vO oE;refine⟨false,by simp[n6,aY],ax,.inr rfl,?_⟩;cases x<;>cases y<;>simp[hU,wT]at aC;subst aC;simp only[sl,jR,if_false,List.headD_cons,lE,oi,Bool.and_true];exact run_equalIn_int w cE t _ _ _ _ aY
    · rename_i n aY ax;split at h<;>cases h;rename_i e;subst e;obtain⟨x,rfl⟩:=vO G4;obtain⟨y,rfl⟩:=vO oE;refine⟨false,by simp[n6,aY],ax,.inr rfl,?_⟩;cases x<;>cases y<;>simp[hU,wT]at aC;simp only[sl,jR,if_false,List.headD_cons,lE,oi,Bool.and_true];rw[run_equalIn_string w cE t _ _ aY,toList_beq]
    · rename_i fr n aY ax;split at h
      · rename_i aGk y4;split at h
        · rename_i ar;cases h;simp only[aX,eM,uR]at ar;obtain⟨rfl,ox⟩:=ar;refine⟨true,by simp[n6,aY],ax,.inl rfl,?_⟩;simp only[sl,if_true];have WA:P.fieldsOf t=fr:=(by simp[Program.fieldsOf,aY]);rw[run_equalIn_struct w cE t _ _ (by rw[WA];exact aY) ox,WA]
          -- pB aDI,m6 N0 pB fR
          have key: ∀(iX:List Field) (off:Nat) (L8:List oZ),Eg (su P d) iX off=some L8->hU L8 (xs.drop off) (ys.drop off)=true->
              (Op.eqFields cE xs.toArray ys.toArray iX).run P w= .ok (lE (xs.drop off) (ys.drop off)) w:=by
            intro iX;induction iX with
            | nil=>intro off L8 D H;simp[Eg]at D;subst D;cases G:xs.drop off<;>cases ah:ys.drop off<;>simp[G,ah,hU]at H;simp[Op.eqFields,lE]
            | cons f iX cn=>
              intro off L8 D H;simp only[Eg]at D;split at D
              · rename_i ar;simp only[aX,bne_iff_ne,ne_eq,beq_iff_eq]at ar;obtain⟨jK,ET⟩:=ar;split at D
                · rename_i eB qQ;split at D
                  · rename_i hk rL;split at D<;>cases D;rename_i ajs;obtain⟨aQ,a8,cN⟩:=I0 eB hk _ _ H;obtain⟨b,aL,aU,cz,gR⟩:=Ji d cE f.type eB _ _ qQ (by omega) aQ;have iE:=(I1 _ _ _ H);simp only[List.length_drop,j7]at iE;have fS:=My (w:=w) (off:=off) (xs:=xs) aL aU cz (by omega);have gV:=My (w:=w) (off:=off) (xs:=ys) aL aU cz (by omega);simp only[yA]at a8 cN;have aq:=cn (off+eB.length) hk rL a8;simp only[Op.eqFields,jK,ne_eq,not_false_eq_true,if_true,Sem.run_bind,ET,fS,gV,Result.andThen_ok,gR,cN,Sem.run_ite,Sem.run_pure,aq];cases lE (List.take eB.length (List.drop off xs)) (List.take eB.length (List.drop off ys))<;>simp
                  · cases D
                · cases D
              · cases D
          have:=key fr.toList 0 _ y4 (by simpa using aC);simpa using this
        · cases h
      · cases h
    · -- NX array
      rename_i k e n aY ax;split at h
      · rename_i eB y4;split at h
        · rename_i ar;cases h;simp only[aX,eM]at ar;obtain⟨rfl,ajs⟩:=ar;have eS: ∀r:Nat,(List.replicate r eB).flatten.length=r*eB.length:=by
            intro r;induction r with
            |zero=>simp
            |succ r cn=>rw[Iq,qu,j7,cn,kR];omega
          refine⟨true,by simp[n6,aY],by rw[ax,eS],.inl rfl,?_⟩;simp only[sl,if_true];by_cases y2:k=0
          · subst y2;simp only[List.replicate_zero,List.flatten_nil]at aC G4 oE;have aL:xs=[]:=pF.1 G4;have aU:ys=[]:=pF.1 oE;subst aL aU;simp[Op.equalIn,run_underlying aY,lE,sizeOf,typeInfo];cases ai:P.info? e with
            | none=>
              -- pB aDC type zQ aGj,bQ aGb kinds aCx
              exfalso;cases d with
              |zero=>simp[su]at y4
              | succ d=>unfold su at y4;have:j6 P e=none:=(by simp[j6,ai]);simp[this]at y4
            |some i=>simp
          · obtain⟨fB,rfl⟩: ∃fB,k=fB+1:=⟨k-1,by omega⟩;have ll:=aC;rw[Iq,qu]at ll;obtain⟨aQ,_,_⟩:=I0 eB _ xs ys ll;obtain⟨dt,_,aU,_,_⟩:=Ji d cE e eB _ _ y4 (by omega) aQ;obtain⟨bB,ai,iL⟩:=ri aU;have vm:P.cellsOf e=eB.length:=(by simp[Program.cellsOf,ai,iL]);rw[run_equalIn_array w cE xs.toArray ys.toArray aY ai,vm,List.range_eq_range']
            have key: ∀(r j:Nat),hU (List.replicate r eB).flatten (xs.drop (j*eB.length)) (ys.drop (j*eB.length))=true->
                (Op.eqItems cE e eB.length xs.toArray ys.toArray (List.range' j r)).run P w= .ok (lE (xs.drop (j*eB.length)) (ys.drop (j*eB.length))) w:=by
              intro r;induction r with
              | zero=>intro j H;simp only[List.replicate_zero,List.flatten_nil]at H;cases G:xs.drop (j*eB.length)<;>cases ah:ys.drop (j*eB.length)<;>simp[G,ah,hU]at H;simp[Op.eqItems,lE]
              | succ r cn=>intro j H;rw[Iq,qu]at H;obtain⟨aQ,a8,cN⟩:=I0 eB _ _ _ H;obtain⟨b,aL,aU,cz,gR⟩:=Ji d cE e eB _ _ y4 (by omega) aQ;have iE:=I1 _ _ _ H;simp only[List.length_drop,j7]at iE;have fS:=My (w:=w) (off:=j*eB.length) (xs:=xs) aL aU cz (by omega);have gV:=My (w:=w) (off:=j*eB.length) (xs:=ys) aL aU cz (by omega);simp only[yA]at a8 cN;have bx:j*eB.length+eB.length=(j+1)*eB.length:=(by rw[kR];omega);rw[bx]at a8 cN;have aq:=cn (j+1) a8;rw[List.range'_succ];simp only[Op.eqItems,Sem.run_bind,fS,gV,Result.andThen_ok,gR,cN,Sem.run_ite,Sem.run_pure,aq];cases lE (List.take eB.length (List.drop (j*eB.length) xs)) (List.take eB.length (List.drop (j*eB.length) ys))<;>simp
            have:=key (fB+1) 0 (by simpa using aC);simpa using this
        · cases h
      · cases h
    · cases h
termination_by d=>d
theorem azG{op:BinOp}{t yq:TypeId}{x y:Operand}{gz:List oZ}{xs ys:Array Value}(jE:Bool)(bu:o.op= .binOp op t x y yq)(bh:op=if jE then .neq else .eql)(a3:su P 8 t=some gz)
    (aM:P.eqGuardType P.depth t=false) (df:n7 P t= .agg) (G:a.eval x= .agg xs) (ah:a.eval y= .agg ys) (aC:hU gz xs.toList ys.toList=true):
    iu P o a w (.bool (if jE then !lE xs.toList ys.toList else lE xs.toList ys.toList)) w:=by
  obtain⟨b,D,_,_,aF⟩:=Ji (P:=P) (w:=w) 8 10000 t gz xs.toList ys.toList a3 (by omega) aC;have hb:b=true:=by
    unfold n7 at df;unfold n6 at D;split at df<;>first|cases df|skip
    · rename_i aY;simp only[aY]at D;cases D;rfl
    · rename_i aY;simp only[aY]at D;cases D;rfl
  subst hb;simp only[sl,if_true,pG]at aF;refine Ig bu (by rw[G,ah];exact run_eqGuard_agg w op t x y xs ys aM) ?_;rw[G,ah];cases jE
  · simp only[jR,if_false]at bh⊢;subst bh;rw[run_eql_struct,aF];rfl
  · simp only[if_true]at bh⊢;subst bh;rw[run_neq_struct,aF];rfl
end
def ad.pure:ad->Bool
  | .dm _| .lQ _| .fI _ _ _ _| .kp _ _ _| .oR _ _ _| .store _ _ _| .mg _| .nm _| .jq _ _ _ _ _| .app _ _ _ _| .me _ _ _ _ _| .hg _ _| .dA _ _| .iw _ _| .kn _ _ _| .m0| .m1 _ _ _ _ _| .lJ _ _ _ _=>false
  |_=>true
section
variable {P:Program} {w:World} {o:Oper} {a:Act} {ag:ez} {cM:Nat} {z:aP} {m:W}
theorem CI(M:gw ag cM z a): ∀(xs:List Operand),xs.all cL=true->cU ag (xs.map (X z)) (xs.map a.eval)
  |xs,h=>cU.CL _ _ xs λx G=>M.X (eD.1 h x G)
theorem acR{v:Value}(h:eV v=true):dO v=true:=by cases v<;>simp[eV]at h<;>rfl
theorem p8{bp v:Value}(h:dw ag bp v)(ai:eV bp=true):v=bp/\ ∃k n,bp= .int k n:=by cases bp<;>simp[eV]at ai;exact⟨h.p6,_,_,rfl⟩
theorem Sa(fh:Bool)(M:gw ag cM z a): ∀(xs:List Operand) (dz:Value),xs.all cL=true->(xs.all λy=>eV (X z y))=true->
    xs.foldl (λdz y=>if fh then nB dz (a.eval y)else nC dz (a.eval y)) dz=xs.foldl (λdz y=>if fh then nB dz (X z y)else nC dz (X z y)) dz
  |[],_,_,_=>rfl
  | x::xs,dz,D,H=>by simp only[mK,aX]at D H;have:=(p8 (M.X D.1) H.1).1;simp only[wD,this];exact Sa fh M xs _ D.2 H.2
theorem R9(fh:Bool): ∀(xs:List Operand) (dz:Value),eV dz=true->(xs.all λy=>eV (X z y))=true->
    eV (xs.foldl (λdz y=>if fh then nB dz (X z y)else nC dz (X z y)) dz)=true
  |[],_,h,_=>h
  | x::xs,dz,D,H=>by simp only[mK,aX]at H;simp only[wD];refine R9 fh xs _ ?_ H.2;cases dz<;>simp[eV]at D;have aq:=H.1;cases G:X z x<;>simp[G,eV]at aq;cases fh<;>simp[nB,nC,eV]
theorem Vh: ∀(gz:List oZ) (xs ys e1 ck:List Value),hU gz xs ys=true->cU ag xs e1->cU ag ys ck->e1=xs/\ck=ys
  | [],[],[],e1,ck,_,D,H=>by have aL:=D.1;have aU:=H.1;simp at aL aU;exact⟨pF.1 aL.symm,pF.1 aU.symm⟩
  |[],[],_::_,_,_,h,_,_=>by simp[hU]at h
  |[],_::_,_,_,_,h,_,_=>by simp[hU]at h
  |_::_,[],_,_,_,h,_,_=>by simp[hU]at h
  |_::_,_::_,[],_,_,h,_,_=>by simp[hU]at h
  |_::_,_::_,_::_,[],_,_,h,_=>by simp[cU]at h
  |_::_,_::_,_::_,_::_,[],_,_,h=>by simp[cU]at h
  | k::gz,x::xs,y::ys,bp::e1,v::ck,h,D,H=>by simp only[hU,aX]at h;obtain⟨aL,aU⟩:=Vh gz xs ys e1 ck h.2 ⟨by simpa using D.1,λi p q af bf=>D.2 (i+1) p q (by simpa using af) (by simpa using bf)⟩ ⟨by simpa using H.1,λi p q af bf=>H.2 (i+1) p q (by simpa using af) (by simpa using bf)⟩;have fC:=D.2 0 x bp rfl rfl;have g3:=H.2 0 y v rfl rfl;have aC:=h.1;have da:dO x=true/\dO y=true:=(by cases k<;>cases x<;>cases y<;>simp[wT]at aC<;>exact⟨rfl,rfl⟩);exact⟨by rw[aL,fC.hB da.1],by rw[aU,g3.hB da.2]⟩
theorem VN{op:BinOp}{t yq:TypeId}{x y:Operand}{gz:List oZ}(jE:Bool)(bu:o.op= .binOp op t x y yq)(bh:op=if jE then .neq else .eql)(a3:su P 8 t=some gz)
    (aM:P.eqGuardType P.depth t=false) (df:n7 P t= .agg) (M:gw ag cM z a) (G:cL x=true) (ah:cL y=true) (ao:(ad.vf jE gz x y).ok z m=true) (id:Nat):
    ∃bq,iu P o a w bq w/\dw ag ((ad.vf jE gz x y).val id z m) bq:=by
  simp only[ad.ok,aX]at ao;obtain⟨⟨D,H⟩,aq⟩:=ao;have mB:=M.X G;have wa:=M.X ah;simp only[ad.val];cases aY:X z x<;>simp only[aY,rS]at D<;>try cases D
  cases ab:X z y<;>simp only[ab,rS]at H<;>try cases H
  rename_i xs ys;rw[aY]at mB;rw[ab]at wa;obtain⟨e1,aL,fC⟩:=mB.qV;obtain⟨ck,aU,g3⟩:=wa.qV;simp only[aY,ab,O]at aq;obtain⟨aQ,a8⟩:=Vh gz _ _ _ _ aq fC g3;have w1:=AU.1 aQ;have vi:=AU.1 a8;subst w1;subst vi;exact⟨_,azG jE bu bh a3 aM df aL aU aq,.cv rfl⟩
theorem HZ{bp v:Value}(h:dw ag bp v)(ai:kF bp=true):v=bp/\ ∃s,bp= .string s:=by cases bp<;>simp[kF]at ai;exact⟨h.vv,_,rfl⟩
theorem aws{k:ad}(aa:wO P o=some k)(af:k.pure=true)(M:gw ag cM z a)(ao:k.ok z m=true)(id:Nat):
    ∃bq,iu P o a w bq w/\dw ag (k.val id z m) bq:=by
  rcases IU aa with aa|rfl
  rotate_left
  · rw[afc]at ao;cases ao
  unfold A9 at aa;split at aa
  · -- move
    rename_i x bu;split at aa<;>cases aa;rename_i G;exact⟨_,azQ bu,M.X G⟩
  · rename_i x bu;split at aa<;>cases aa;rename_i G;exact⟨_,azz bu,M.X G⟩
  · -- oL
    rename_i c x y bu;split at aa<;>cases aa;rename_i G;simp only[aX]at G;have ar:=M.X G.1.1;simp only[ad.ok]at ao;cases ab:X z c<;>simp[ab,rT]at ao;rw[ab]at ar;refine⟨_,azS bu ar.p5,?_⟩;simp only[ad.val,ab,tI];split
    · exact M.X G.1.2
    · exact M.X G.2
  · -- nilCheck
    rename_i x bu;split at aa<;>cases aa;rename_i G;have ay:=M.X G;simp only[ad.ok]at ao;refine⟨_,azR bu ?_,ay⟩;generalize X z x=bp at ay ao;generalize a.eval x=v at ay;cases ay<;>simp_all [zR];rename_i fn _ _ _ _ _ _ _ _;cases fn<;>simp_all
  · split at aa<;>cases aa;simp[ad.pure]at af
  · split at aa<;>cases aa;simp[ad.pure]at af
  · -- eT
    rename_i t ps bu;split at aa
    · rename_i fr J bt bL;split at aa
      · rename_i hu Pr;split at aa<;>cases aa;rename_i gp;obtain⟨bB,hd,ai,nu,mr,fy,eS⟩:=yj bL;obtain⟨aQ,a8⟩:=VS _ _ Pr;simp only[ad.ok]at ao
        let uw:Nat->Option (Nat×Nat):= λi=>(fr[i]?).bind λ(f:Field)=>(P.info? f.type).map λbB=>(f.offset,bB.size)
        obtain⟨ds,D,H,Ez⟩:=Jk M uw ps.toList hu J hd.cells ⟨aQ,λi p q vr bf=>by obtain⟨aL,aU,f,PT,cz,gR,mh,kg⟩:=a8 i p q vr bf;exact⟨aL,aU,by simp[uw,cz,gR,mh,kg]⟩⟩ (by rw[mr];exact cU.cv ag fy) (λv ab=>vh (eD.1 fy v ab)) ao;refine⟨_,azB (cells:=ds) bu ai nu bt gp (λuv kl=>by have:uv=uw:=funext kl;rw[this];exact D),?_⟩;have:=H.agg Ez;simp only[pG]at this;exact this
      · cases aa
    · rename_i n e J bt bL;split at aa
      · rename_i aLM iL;split at aa<;>cases aa;rename_i hu Pr;obtain⟨bB,hd,ai,nu,mr,fy,eS⟩:=yj bL;obtain⟨BE,bh,rfl⟩:=ri iL;obtain⟨aQ,a8⟩:=Om _ _ Pr;simp only[ad.ok]at ao;obtain⟨ds,D,H,Ez⟩:=Jk M (λi=>some (i*BE.size,BE.size)) ps.toList hu J hd.cells ⟨aQ,λi p q vr bf=>by
          obtain⟨aL,aU,cz,gR⟩:=a8 i p q vr bf;exact⟨aL,aU,by simp[cz,gR]⟩⟩ (by rw[mr];exact cU.cv ag fy) (λv ab=>vh (eD.1 fy v ab)) ao
        refine⟨_,azC (cells:=ds) bu ai nu bt bh D,?_⟩;have:=H.agg Ez;simp only[pG]at this;exact this
      · cases aa
    · cases aa
  · repeat (split at aa<;>try cases aa)
    simp[ad.pure]at af
  · repeat (split at aa<;>try cases aa)
    simp[ad.pure]at af
  · repeat (split at aa<;>try cases aa)
    simp[ad.pure]at af
  · -- binOp
    rename_i op t x y yq bu;split at aa
    · rename_i G;simp only[aX]at G;split at aa
      · rename_i df;split at aa
        · rename_i gz a3;split at aa<;>cases aa;rename_i aM;exact VN false bu rfl a3 (by simpa using aM) df M G.1 G.2 ao id
        · rename_i gz a3;split at aa<;>cases aa;rename_i aM;exact VN true bu rfl a3 (by simpa using aM) df M G.1 G.2 ao id
        · cases aa
      · cases aa;exact azA bu (M.X G.1) (M.X G.2) ao
    · cases aa
  · -- unOp
    rename_i op t x bu;split at aa<;>cases aa;rename_i G;simp only[ad.ok]at ao;have ay:=M.X G;have bh:a.eval x=X z x:=by cases aY:X z x<;>cases op<;>simp[aY,wq]at ao<;>rw[aY]at ay<;>first|exact ay.p6|exact ay.p5
    refine⟨_,azV bu (by rw[bh];exact ao),?_⟩;simp only[ad.val,bh];exact .cv (by cases aY:X z x<;>cases op<;>simp[aY,wq]at ao<;>simp[AM,dO])
  · -- convert
    rename_i s d x bu;split at aa
    · rename_i RR k qN oq;split at aa<;>cases aa;rename_i G;simp only[ad.ok]at ao;obtain⟨e,eW,n,ab⟩:=p8 (M.X G) ao;refine⟨_,azE bu qN oq (by rw[e,ab]),?_⟩;simp only[ad.val,ab,eR];exact .cv rfl
    · rename_i qN oq;split at aa<;>cases aa;rename_i G;simp only[ad.ok]at ao;obtain⟨e,b,ab⟩:=HZ (M.X G) ao;refine⟨_,azF bu qN oq (by rw[e,ab]),?_⟩;simp only[ad.val,ab];exact .cv rfl
    · repeat (split at aa<;>try cases aa)
      simp[ad.pure]at af
    · repeat (split at aa<;>try cases aa)
      simp[ad.pure]at af
    · cases aa
  · repeat (split at aa<;>try cases aa)
    simp[ad.pure]at af
  · -- slice
    rename_i t x ct ai fh bu;split at aa
    · rename_i bt;split at aa<;>cases aa;rename_i ar;simp only[aX,yt]at ar;obtain⟨⟨⟨G,p0⟩,tR⟩,rfl⟩:=ar;simp only[ad.ok,aX,eM]at ao;obtain⟨⟨⟨⟨⟨D,H⟩,aq⟩,aF⟩,br⟩,cR⟩:=ao;obtain⟨e,b,ab⟩:=HZ (M.X G) D;simp only[ab,hY]at br cR;refine⟨_,azU bu bt (by rw[e,ab]) (yE M p0 H 0 (by simpa using aF)) (yE M tR aq b.size (by omega)) (by simp;omega) (by omega),?_⟩;simp only[ad.val,ab,pO,hY];exact .cv rfl
    · rename_i e bt;split at aa
      · rename_i J bL;split at aa
        · split at aa<;>cases aa;rename_i ar;simp only[aX]at ar;obtain⟨⟨G,p0⟩,tR⟩:=ar;simp only[ad.ok,aX,eM]at ao;obtain⟨⟨⟨⟨⟨D,H⟩,aq⟩,aF⟩,br⟩,cR⟩:=ao;obtain⟨bB,hE,rfl⟩:=ri bL;have ay:=M.X G;simp only[ad.val];cases aY:X z x<;>simp only[aY,mE]at D<;>try cases D
          rename_i p len c;rw[aY]at ay;simp only[aY,hY]at br cR;cases p with
          | none=>simp only[aX,beq_iff_eq]at D;obtain⟨rfl,rfl⟩:=D;have ab:=ay.hB rfl;refine⟨_,afL bu bt hE ab (yE M p0 H 0 (by simpa using aF)) (yE M tR aq 0 (by omega)) (by simp;omega) (by omega),?_⟩;have h1:(gG z ct (0:Nat)).toNat=0:=(by simp;omega);have aL:(gG z ai (0:Nat)).toNat=0:=(by simp;omega);rw[h1,aL];simp only[oQ];exact .cv rfl
          | some dV=>
            simp only[aX,beq_iff_eq]at D;obtain⟨l,dD,cap,aC,l0,ab,ax,y6,pc⟩:=ay.mu;obtain⟨_,rfl⟩:=D;refine⟨_,afL bu bt hE ab (yE M p0 H 0 (by simpa using aF)) (yE M tR aq len (by omega)) (by simp;omega) (by omega),?_⟩;simp only[oQ,hY];have PM:gG z ct ((0:Nat):Int)=gG z ct 0:=rfl;rw[PM];generalize cS:(gG z ct 0).toNat=L;generalize aiq:(gG z ai (len:Int)).toNat=jT;have ait:L<=jT:=(by omega);have aEi:jT<=len:=(by omega);by_cases b5:cap=L
            · rw[if_pos b5];exact .slice aC (.inl ⟨by omega,by omega⟩) (by omega) (by omega)
            · rw[if_neg b5];rcases ax with⟨rfl,rfl⟩|⟨rfl,ax⟩
              · omega
              · have az:(⟨l.c,l.o+dV.off,none⟩:Addr).add (L*bB.size)=⟨l.c,l.o+(dV.off+L*bB.size),none⟩:=by
                  unfold Addr.add;split
                  · rename_i c5;rw[c5];simp
                  · simp[oY]
                simp only[Option.map_some,az];refine .slice aC (.inr ⟨rfl,?_⟩) (by omega) (by omega);have:L*bB.size+(cap-L)*bB.size=cap*bB.size:=(by rw[<-kR];congr 1;omega);omega
        · rename_i hG;split at aa
          · rename_i aD;split at aa<;>cases aa;rename_i ar;simp only[aX]at ar;obtain⟨⟨⟨G,p0⟩,tR⟩,tU⟩:=ar;simp only[ad.ok,aX,eM]at ao;obtain⟨⟨⟨⟨⟨⟨⟨D,H⟩,aq⟩,aF⟩,br⟩,cR⟩,fs⟩,hz⟩:=ao;obtain⟨bB,hE,rfl⟩:=ri bL;have ay:=M.X G;simp only[ad.val];obtain⟨ahJ,auF,cn,WG⟩:=p8 (M.X tR) aq;obtain⟨ahL,auH,JY,WH⟩:=p8 (M.X tU) aF;simp only[WG,WH,eR]at cR fs hz⊢;cases aY:X z x<;>simp only[aY,mE]at D<;>try cases D
            rename_i p len c;rw[aY]at ay;simp only[aY,hY]at hz;have Bs:=yE M p0 H 0 (by simpa using br);have PM:gG z ct ((0:Nat):Int)=gG z ct 0:=rfl;rw[PM]at Bs;have Wq: ∃(k:IntKind) (i:Int),a.eval aD= .int k i/\0<=i/\i.toNat=cn.toNat:=⟨auF,cn,by rw[ahJ,WG],by omega,rfl⟩;have JD: ∃(k:IntKind) (i:Int),a.eval hG= .int k i/\0<=i/\i.toNat=JY.toNat:=⟨auH,JY,by rw[ahL,WH],by omega,rfl⟩;cases p with
            | none=>simp only[aX,beq_iff_eq]at D;obtain⟨rfl,rfl⟩:=D;have ab:=ay.hB rfl;refine⟨_,afK bu bt hE ab Bs Wq JD (by omega) (by omega) (by omega),?_⟩;have h1:(gG z ct 0).toNat=0:=(by omega);have aL:cn.toNat=0:=(by omega);have aU:JY.toNat=0:=(by omega);rw[h1,aL,aU];simp only[oQ];exact .cv rfl
            | some dV=>
              simp only[aX,beq_iff_eq]at D;obtain⟨l,dD,cap,aC,l0,ab,ax,y6,pc⟩:=ay.mu;obtain⟨_,rfl⟩:=D;refine⟨_,afK bu bt hE ab Bs Wq JD (by omega) (by omega) (by omega),?_⟩;simp only[oQ];generalize cS:(gG z ct 0).toNat=L;generalize aiq:cn.toNat=jT;generalize aEl:JY.toNat=yC;have ait:L<=jT:=(by omega);have aEh:jT<=yC:=(by omega);have aEm:yC<=len:=(by omega);by_cases b5:yC=L
              · rw[if_pos b5];exact .slice aC (.inl ⟨by omega,by omega⟩) (by omega) (by omega)
              · rw[if_neg b5];rcases ax with⟨rfl,rfl⟩|⟨rfl,ax⟩
                · omega
                · have az:(⟨l.c,l.o+dV.off,none⟩:Addr).add (L*bB.size)=⟨l.c,l.o+(dV.off+L*bB.size),none⟩:=by
                    unfold Addr.add;split
                    · rename_i c5;rw[c5];simp
                    · simp[oY]
                  simp only[Option.map_some,az];refine .slice aC (.inr ⟨rfl,?_⟩) (by omega) (by omega);have ix:L*bB.size+(yC-L)*bB.size=yC*bB.size:=(by rw[<-kR];congr 1;omega);have w3:yC*bB.size<=cap*bB.size:=qt _ (by omega);show dV.off+L*bB.size+(yC-L)*bB.size<=l.n
                  replace ax:dV.off+cap*bB.size<=l.n:=ax
                  omega
          · cases aa
      · cases aa
    · (repeat' split at aa)<;>cases aa
      simp[ad.pure]at af
    · cases aa
  · -- fieldAddr
    rename_i s x i bu;split at aa
    · rename_i fr bt;split at aa
      · rename_i f a3;split at aa
        · rename_i n ax;split at aa<;>cases aa;rename_i ar;simp only[aX,eM]at ar;obtain⟨bB,ai,rfl⟩:=ri ax;simp only[ad.ok]at ao;have ay:=M.X ar.1;simp only[ad.val];cases aY:X z x<;>simp only[aY,qe]at ao<;>try cases ao
          rename_i p;rw[aY]at ay;cases p with
          |none=>cases ao
          | some dV=>obtain⟨l,aC,l0,ab⟩:=ay.p7;refine⟨_,azI bu bt a3 ai ar.2 ab,?_⟩;simp only[vX,oY];exact .cD aC
        · cases aa
      · cases aa
    · cases aa
  · -- field
    rename_i t x i bu;split at aa
    · rename_i fr bt;split at aa
      · rename_i f a3;split at aa
        · rename_i b n hb ax;split at aa<;>cases aa;rename_i G;obtain⟨bB,ai,rfl⟩:=ri ax;simp only[ad.ok,aX,rp,eM]at ao;have ay:=M.X G;simp only[ad.val];cases aY:X z x<;>simp only[aY,Ej]at ao<;>try cases ao.1
          rename_i xs;rw[aY]at ay;obtain⟨ys,ab,aC⟩:=ay.qV;have iL:ys.size=xs.size:=(by have:=aC.1;simp at this;exact this.symm);have aEJ:f.offset+bB.size<=xs.size:=(by simpa using ao.1);refine⟨_,azJ bu bt a3 ai hb ab (by omega) ao.2,?_⟩;simp only[Jj];cases b
          · simp only[jR,if_false];have D:bB.size=1:=(by simpa using ao.2);have ee:f.offset<xs.toList.length:=(by simp;omega);obtain⟨y,ah,sJ⟩:=aC.Y (dx ee);rw[oa,oa,ah,dx ee];exact sJ
          · simp only[if_true];exact((aC.drop _).take _).agg λx G=>ay.agD x (AT (wB G))
        · cases aa
      · cases aa
    · cases aa
  · -- indexAddr
    rename_i t x i bu;split at aa
    · rename_i e bt;split at aa
      · rename_i J bL;split at aa<;>cases aa;rename_i ar;simp only[aX]at ar;obtain⟨bB,ai,rfl⟩:=ri bL;simp only[ad.ok,aX,eM]at ao;obtain⟨⟨⟨D,H⟩,aq⟩,aF⟩:=ao;obtain⟨aU,k,n,ax⟩:=p8 (M.X ar.2) H;have ay:=M.X ar.1;simp only[ad.val];cases aY:X z x<;>simp only[aY,mE]at D<;>try cases D
        rename_i p len c;rw[aY]at ay;simp only[ax,eR]at aq aF⊢;simp only[aY,hY]at aF;cases p with
        | none=>simp only[aX,beq_iff_eq]at D;omega
        | some dV=>
          simp only[aX,beq_iff_eq]at D;obtain⟨l,dD,cap,aC,l0,ab,xe,y6,pc⟩:=ay.mu;rcases xe with⟨rfl,rfl⟩|⟨rfl,xe⟩
          · omega
          · refine⟨_,azK bu bt ai ab (by rw[aU,ax]) aq aF,?_⟩;simp only[wi,oY];exact .cD aC
      · cases aa
    · rename_i len e bt;split at aa
      · rename_i J bL;split at aa<;>cases aa;rename_i ar;simp only[aX]at ar;obtain⟨bB,ai,rfl⟩:=ri bL;simp only[ad.ok,aX,eM]at ao;obtain⟨⟨⟨D,H⟩,aq⟩,aF⟩:=ao;obtain⟨aU,k,n,ax⟩:=p8 (M.X ar.2) H;have ay:=M.X ar.1;simp only[ad.val];cases aY:X z x<;>simp only[aY,qe]at D<;>try cases D
        rename_i p;rw[aY]at ay;simp only[ax,eR]at aq aF⊢;cases p with
        |none=>cases D
        | some dV=>obtain⟨l,aC,l0,ab⟩:=ay.p7;refine⟨_,azL bu bt ai ab (by rw[aU,ax]) aq aF,?_⟩;simp only[vX,oY];exact .cD aC
      · cases aa
    · cases aa
  · -- index
    rename_i t x i bu;split at aa
    · rename_i bt;split at aa<;>cases aa;rename_i ar;simp only[aX]at ar;simp only[ad.ok,aX,eM]at ao;obtain⟨⟨⟨D,H⟩,aq⟩,aF⟩:=ao;obtain⟨aL,b,ab⟩:=HZ (M.X ar.1) D;obtain⟨aU,k,n,ax⟩:=p8 (M.X ar.2) H;simp only[ax,eR]at aq aF;simp only[ab,hY]at aF;refine⟨_,azM bu bt (by rw[aL,ab]) (by rw[aU,ax]) aq aF,?_⟩;simp only[ad.val,ab,ax,pO,eR];exact .cv rfl
    · cases aa
  · -- extract
    rename_i x i bu;split at aa<;>cases aa;rename_i G;have ay:=M.X G;simp only[ad.ok]at ao;simp only[ad.val];cases aY:X z x<;>simp only[aY,Dn]at ao<;>try cases ao
    rename_i xs;rw[aY]at ay;obtain⟨ys,ab,aC⟩:=ay.zo;have ai:i<xs.toList.length:=(by simpa using ao);obtain⟨y,ah,sJ⟩:=aC.Y (dx ai);have kD:i<ys.size:=(by have:=aC.1;simp at this ai;omega);refine⟨_,azH bu ab kD,?_⟩;rw[ab];simp only[AK];rw[oa,oa,ah,dx ai];exact sJ
  · -- makeInterface
    rename_i t x bu;split at aa
    · cases aa
    · rename_i d mT aA;split at aa<;>cases aa;rename_i G;refine⟨.iface t (a.eval x),.inl ?_,.iface (M.X G)⟩;cases d<;>first|exact absurd rfl (mT _)|simp[execOp,bu,Instr.makeInterface,underlying,aA]
    · cases aa
  · -- typeAssert
    rename_i x cP t ok bu;split at aa
    · cases aa
    · rename_i d mT aA;split at aa<;>cases aa;rename_i G;simp only[aX,uR]at G;obtain⟨G,rfl⟩:=G;have ay:=M.X G;simp only[ad.ok]at ao;simp only[ad.val];cases aY:X z x<;>simp only[aY,E8]at ao<;>try cases ao
      rename_i aT v;have:=of_decide_eq_true ao;subst this;rw[aY]at ay;obtain⟨y,ab,ah⟩:=ay.Fa;refine⟨y,.inl ?_,ah⟩;cases d<;>first|exact absurd rfl (mT _)|simp[execOp,bu,Instr.typeAssert,underlying,aA,ab]
    · cases aa
  · repeat (split at aa<;>try cases aa)
    simp[ad.pure]at af
  · repeat (split at aa<;>try cases aa)
    simp[ad.pure]at af
  · repeat (split at aa<;>try cases aa)
    simp[ad.pure]at af
  · -- makeFunc
    rename_i fn x y bu;split at aa<;>cases aa;rename_i ar;simp only[aX]at ar;refine⟨_,azP bu,?_⟩;simp only[ad.val];have fC:=CI M _ ar.1;have g3:=CI M _ ar.2;exact .func (by simp) (by simpa using fC.2) (by simp) (by simpa using g3.2)
  · -- dA
    rename_i c bu;unfold D2 at aa;split at aa
    · split at aa<;>cases aa;simp[ad.pure]at af
    · repeat (split at aa<;>try cases aa)
      simp[ad.pure]at af
    · repeat (split at aa<;>try cases aa)
      simp[ad.pure]at af
    · rename_i ar;split at aa
      · rename_i x t az df;split at aa
        · rename_i bt;split at aa<;>cases aa;rename_i G;simp only[ad.ok]at ao;obtain⟨e,b,ab⟩:=HZ (M.X G) ao;refine⟨_,azN bu ar az df bt (by rw[e,ab]),?_⟩;simp only[ad.val,ab,hY];exact .cv rfl
        · rename_i e bt;split at aa<;>cases aa;rename_i G;simp only[ad.ok]at ao;have ay:=M.X G;simp only[ad.val];cases aY:X z x<;>simp only[aY,xJ]at ao<;>try cases ao
          rename_i p len c;rw[aY]at ay;have ab: ∃q cap,a.eval x= .slice q len cap:=by
            cases p with
            | none=>
              refine⟨none,c,?_⟩;generalize a.eval x=v at ay;cases ay with
              |cv h=>rfl
            |some dV=>obtain⟨_,_,_,_,_,h,_⟩:=ay.mu;exact⟨_,_,h⟩
          obtain⟨q,cap,ab⟩:=ab;exact⟨_,azO bu ar az df bt ab,.cv rfl⟩
        · cases aa
      · cases aa
    · (repeat' split at aa)<;>cases aa<;>simp[ad.pure]at af
    · rename_i ar;split at aa
      · rename_i x xs az;split at aa<;>cases aa;rename_i G;simp only[aX]at G;simp only[ad.ok,aX]at ao;have D:=p8 (M.X G.1) ao.1;have H: ∀y∈xs,eV (a.eval y)=true:= λy ah=>by
          have:=eD.1 ao.2 y ah;rw[(p8 (M.X (eD.1 G.2 y ah)) this).1];exact this
        refine⟨_,afJ (fh:=false) bu (by simpa using ar) az (by rw[D.1];exact ao.1) H,?_⟩;rw[Sa false M xs _ G.2 ao.2,D.1];simp only[ad.val];have aq:=R9 (z:=z) false xs (X z x) ao.1 ao.2;exact .cv (acR aq)
      · cases aa
    · rename_i ar;split at aa
      · rename_i x xs az;split at aa<;>cases aa;rename_i G;simp only[aX]at G;simp only[ad.ok,aX]at ao;have D:=p8 (M.X G.1) ao.1;have H: ∀y∈xs,eV (a.eval y)=true:= λy ah=>by
          have:=eD.1 ao.2 y ah;rw[(p8 (M.X (eD.1 G.2 y ah)) this).1];exact this
        refine⟨_,afJ (fh:=true) bu (by simpa using ar) az (by rw[D.1];exact ao.1) H,?_⟩;rw[Sa true M xs _ G.2 ao.2,D.1];simp only[ad.val];have aq:=R9 (z:=z) true xs (X z x) ao.1 ao.2;exact .cv (acR aq)
      · cases aa
    · -- cap
      rename_i ar;split at aa
      · rename_i x t az df;split at aa
        · rename_i e bt;split at aa<;>cases aa;rename_i G;have ay:=M.X G;simp only[ad.ok]at ao;have aY:X z x= .slice none 0 0:=LW ao;rw[aY]at ay;exact⟨_,azD bu ar az df bt (ay.hB rfl),.cv rfl⟩
        · cases aa
      · cases aa
    · (repeat' split at aa)<;>cases aa<;>simp[ad.pure]at af
    · cases aa
  · cases aa
end
theorem So(v:Value):v.oneCell'=S v:=by cases v<;>rfl
section
variable {P:Program} {w cT:World} {ag:ez} {m:W} {aV:Nat}
def ha(ag:ez)(id:Nat)(l:si):ez:= λb=>if b=id then some l else ag b
theorem rk{id:Nat}{l:si}(h:ag id=none):fW ag (ha ag id l):=by
  intro b dj hb;unfold ha;split
  · rename_i e;rw[e,h]at hb;cases hb
  · exact hb
theorem NW(c o j:Nat):(⟨c,o,none⟩:Addr).add j=⟨c,o+j,none⟩:=by unfold Addr.add;split<;>simp_all
theorem dr.cells(aw:dr aV ag m w){b:Nat}{x:fm}{l:si}(aM:m.Y b=some x)(aC:ag b=some l){off n:Nat}(h:off+n<=x.cells.length):
    ∃ds:List Value,cU ag (hf m b off n) ds/\ds.length=n/\(∀j bp,ds[j]?=some bp->w.cell? ((⟨l.c,l.o+off,none⟩:Addr).add j)=some bp)/\(∀bp∈ds,bp.oneCell'=true):=by
  obtain⟨dj,iJ,eS,ar,_⟩:=aw.lI b x aM;rw[aC]at iJ;cases iJ;have key: ∀j,j<n-> ∃v bq,x.cells[off+j]?=some v/\S v=true/\w.cell? ⟨l.c,l.o+(off+j),none⟩=some bq/\dw ag v bq:=by intro j bx;have ee:off+j<x.cells.length:=(by omega);obtain⟨D,bq,H,aq⟩:=ar (off+j) _ (dx ee);exact⟨_,bq,dx ee,D,H,aq⟩
  refine⟨(List.range n).map λj=>(w.cell? ⟨l.c,l.o+(off+j),none⟩).getD undef,⟨?_,?_⟩,by simp,?_,?_⟩
  · simp[hf,aM];omega
  · intro i bp v aY ab;simp only[hf,aM]at aY;rw[uQ]at aY;split at aY
    · rename_i ai;obtain⟨AO,uN,aQ,a8,cN,dP⟩:=key i ai;rw[yv,aQ]at aY;cases aY;simp[ai,cN]at ab;subst ab;exact dP
    · cases aY
  · intro j bp aY;have bx:j<n:=(by have:=(ek.1 aY).1;simpa using this);obtain⟨AO,uN,aQ,a8,cN,dP⟩:=key j bx;simp[bx,cN]at aY;subst aY;rw[NW,oY];exact cN
  · intro bp aY;simp only[hc,ob]at aY;obtain⟨j,bx,rfl⟩:=aY;obtain⟨AO,uN,aQ,a8,cN,dP⟩:=key j bx;rw[cN];simp only[AV,So];rw[dP.S];exact a8
theorem dr.UG(aw:dr aV ag m w){id C A0 n:Nat}{cs:List Value}(eg:id<m.next)(ay:ag id=none)
    (vo: ∀b x l,m.Y b=some x->ag b=some l->l.c≠C) (iL:w.heap.size<=cT.heap.size) (Jx:C<cT.heap.size) (cC:aV<=C)
    (xg: ∀a:Addr,a.block<w.heap.size->a.block≠C->cT.cell? a=w.cell? a/\cT.frozen? a=w.frozen? a)
    (ajl: ∀k,k<w.heap.size->k≠C->cT.heap[k]?=w.heap[k]?)
    (eS:cs.length<=n) (j0: ∀i v,cs[i]?=some v->S v=true/\ ∃bq,cT.cell? ⟨C,A0+i,none⟩=some bq/\dw ag v bq)
    (ax: ∀i,i<n->(cT.cell? ⟨C,A0+i,none⟩).isSome=true/\cT.frozen? ⟨C,A0+i,none⟩=false):
    dr aV (ha ag id ⟨C,A0,n⟩) (m.a4 id (some ⟨cs,true⟩)) cT:=by
  have fJ:=rk (l:=⟨C,A0,n⟩) ay;refine⟨λb l hb=> ?_,λb l hb=> ?_,λb x G=> ?_,λb x ca hJ l dj D H aq aF br cR=> ?_,λb a9 hb=> ?_,λb a9 hb=> ?_⟩
  · unfold ha at hb;split at hb
    · rename_i e;rw[e];exact eg
    · exact aw.ke b l hb
  · unfold ha at hb;split at hb
    · cases hb;exact Jx
    · exact oW (aw.lF b l hb) iL
  · rw[W.mR]at G;split at G
    · rename_i e;cases G;exact⟨⟨C,A0,n⟩,by simp[ha,e],eS,λi v ab=>by obtain⟨a7,bq,bD,b4⟩:=j0 i v ab;exact⟨a7,bq,bD,b4.cd fJ⟩,λ_=>⟨cC,ax⟩⟩
    · obtain⟨l,aQ,a8,cN,dP⟩:=aw.lI b x G;have Bw:=aw.lF b l aQ;have cZ:=vo b x l G aQ;refine⟨l,fJ _ _ aQ,a8,λi v ab=> ?_,λaD=>⟨(dP aD).1,λi ai=> ?_⟩⟩
      · obtain⟨a7,bq,bD,b4⟩:=cN i v ab;exact⟨a7,bq,by rw[(xg _ Bw cZ).1];exact bD,b4.cd fJ⟩
      · have:=(dP aD).2 i ai;rw[(xg ⟨l.c,l.o+i,none⟩ Bw cZ).1,(xg ⟨l.c,l.o+i,none⟩ Bw cZ).2];exact this
  · rw[W.mR]at D aq;unfold ha at br cR;split at D
    · rename_i e;rw[if_neg (by rw[<-e];exact Ne.symm aF)]at aq;rw[if_pos e]at br;rw[if_neg (by rw[<-e];exact Ne.symm aF)]at cR;cases br;exact Ne.symm (vo ca hJ dj aq cR)
    · rename_i e;rw[if_neg e]at br;split at aq
      · rename_i dY;rw[if_pos dY]at cR;cases cR;exact vo b x l D br
      · rename_i dY;rw[if_neg dY]at cR;exact aw.qI b x ca hJ l dj D H aq aF br cR
  · obtain⟨l,aC⟩:=aw.s0 b a9 hb;exact⟨l,fJ _ _ aC⟩
  · obtain⟨aQ,a8⟩:=W.tO hb;have cZ:b≠id:= λe=>by
      subst e;obtain⟨l,aC⟩:=aw.s0 b a9 a8;rw[ay]at aC;cases aC
    rw[W.mR,if_neg cZ]at aQ;obtain⟨l,c2,a5,fS,gV,h0,iR⟩:=aw.maps b a9 (W.jJ aQ a8);exact⟨l,c2,a5,fJ _ _ fS,gV,by rw[ajl l.c (aw.lF b l fS) (vo b _ l aQ fS)];exact h0,iR.cd fJ⟩
theorem dr.j3(aw:dr aV ag m w)(b:Nat):dr aV ag (m.a4 b none) w:=by
  have aM: ∀ca x,(m.a4 b none).Y ca=some x->ca≠b/\m.Y ca=some x:=by
    intro ca x h;rw[W.mR]at h;split at h
    · split at h<;>cases h
    · rename_i e;exact⟨e,h⟩
  exact⟨aw.ke,aw.lF,λca x G=>aw.lI ca x (aM ca x G).2,λc8 cf dX cH iE iP D H aq=>aw.qI c8 cf dX cH iE iP (aM _ _ D).2 H (aM _ _ aq).2,aw.s0,λca a9 hb=>by obtain⟨aQ,a8⟩:=W.tO hb;exact aw.maps ca a9 (W.jJ (aM _ _ aQ).2 a8)⟩
theorem TA(b k:Nat)(aa:k≠b): ∀(ck:List Value) (o:Nat) (w:World),(w.setCells b o ck).heap[k]?=w.heap[k]?
  |[],_,_=>rfl
  |v::ck,o,w=>by rw[World.setCells,TA b k aa ck];simp[World.setCell,Array.getElem?_modify,Ne.symm aa]
theorem M6(b:Nat): ∀(ck:List Value) (o:Nat) (w:World),(w.setCells b o ck).heap.size=w.heap.size
  |[],_,_=>rfl
  |v::ck,o,w=>by rw[World.setCells,M6 b ck];simp[World.setCell]
theorem IN{aV b:Nat}(hb:aV<=b): ∀(ck:List Value) (o:Nat) (w:World),Below aV w (w.setCells b o ck)
  |[],_,_=>Below.refl _ _
  |v::ck,o,w=>((Below.refl aV w).setCell (p:=⟨b,o,none⟩) hb v).trans (IN hb ck _ _)
theorem U7: ∀(ck:List Value) (off:Nat) (cs:List Value) (i:Nat),off+ck.length<=cs.length->(gx cs off ck)[i]?=if off<=i/\i<off+ck.length then ck[i-off]? else cs[i]?
  |[],off,cs,i,_=>by simp[gx];intro D H;omega
  | v::ck,off,cs,i,h=>by
    simp only[gx];simp only[oX]at h;rw[U7 ck (off+1) (cs.set off v) i (by simp;omega),yw];by_cases D:off=i
    · subst D;rw[if_neg (by omega),if_pos rfl,if_pos (by omega),if_pos (by simp)];simp
    · by_cases H:off+1<=i/\i<off+1+ck.length
      · rw[if_pos H,if_pos ⟨by omega,by simp;omega⟩,show i-off=(i-(off+1))+1 by omega];simp
      · rw[if_neg H,if_neg D,if_neg (by simp;omega)]
theorem dr.store(aw:dr aV ag m w){b:Nat}{x:fm}{l:si}(aM:m.Y b=some x)(aD:x.own=true)(aC:ag b=some l){off:Nat}{cs e1:List Value}(ay:cU ag cs e1)(pf: ∀v∈cs,S v=true)
    (h:off+cs.length<=x.cells.length):dr aV ag (m.a4 b (some ⟨gx x.cells off cs,x.own⟩)) (w.setCells l.c (l.o+off) e1):=by
  have hb:=W.bm aM;have eS:=ay.1;obtain⟨dj,iJ,a7,bD,b4⟩:=aw.lI b x aM;rw[aC]at iJ;cases iJ;have rP: ∀ca hJ L9,m.Y ca=some hJ->ca≠b->ag ca=some L9->L9.c≠l.c:= λca hJ L9 D H aq=>Ne.symm (aw.qI b x ca hJ l L9 aM aD D (Ne.symm H) aC aq);refine⟨aw.ke,λca dj bK=>by rw[M6];exact aw.lF ca dj bK,λca hJ G=> ?_,λc8 cf dX cH iE iP D H aq aF br cR=> ?_,aw.s0,λca a9 ft=> ?_⟩
  · rw[W.mR]at G;split at G
    · rename_i e;cases G;subst e;refine⟨l,aC,by rw[DY];exact a7,λi v ab=> ?_,λ_=>⟨(b4 aD).1,λi ai=> ?_⟩⟩
      · rw[U7 _ _ _ _ h]at ab;split at ab
        · rename_i ai;obtain⟨bp,aY,E1⟩:=ay.Y ab;refine⟨pf v (hR ab),bp,?_,E1⟩;have bx:i-off<e1.length:=(by omega);have:=World.cell?_setCells_in l.c e1 (l.o+off) w (λj EI=>by
            have:=((b4 aD).2 (off+j) (by omega)).1
            rwa [<-oY]at this) (i-off) bx
          rw[show l.o+off+(i-off)=l.o+i by omega]at this;rw[this];rw[dx bx]at aY;exact aY
        · rename_i ai;obtain⟨aQ,bq,a8,cN⟩:=bD i v ab;refine⟨aQ,bq,?_,cN⟩;rw[World.cell?_setCells_out l.c e1 (l.o+off) w _ (λ_ _=>by show l.o+i<l.o+off\/l.o+off+e1.length<=l.o+i;omega)];exact a8
      · have bf:=(b4 aD).2 i ai;refine⟨?_,by rw[World.frozen?_setCells];exact bf.2⟩;by_cases kD:off<=i/\i<off+e1.length
        · have:=World.cell?_setCells_in l.c e1 (l.o+off) w (λj EI=>by
            have:=((b4 aD).2 (off+j) (by omega)).1
            rwa [<-oY]at this) (i-off) (by omega)
          rw[show l.o+off+(i-off)=l.o+i by omega]at this;rw[this];rfl
        · rw[World.cell?_setCells_out l.c e1 (l.o+off) w _ (λ_ _=>by show l.o+i<l.o+off\/l.o+off+e1.length<=l.o+i;omega)];exact bf.1
    · rename_i e;obtain⟨dj,aQ,a8,cN,dP⟩:=aw.lI ca hJ G;have cZ:=rP ca hJ dj G e aQ;have ar: ∀i,(w.setCells l.c (l.o+off) e1).cell? ⟨dj.c,dj.o+i,none⟩=w.cell? ⟨dj.c,dj.o+i,none⟩:= λi=>World.cell?_setCells_out _ _ _ _ _ (λaJ _=>absurd aJ cZ);refine⟨dj,aQ,a8,λi v ab=>by rw[ar];exact cN i v ab,λiK=>⟨(dP iK).1,λi ai=>by rw[ar,World.frozen?_setCells];exact(dP iK).2 i ai⟩⟩
  · have pd: ∀ca hJ,(m.a4 b (some ⟨gx x.cells off cs,x.own⟩)).Y ca=some hJ-> ∃afE,m.Y ca=some afE/\afE.own=hJ.own:=by
      intro ca hJ G;rw[W.mR]at G;split at G
      · rename_i e;cases G;exact⟨x,by rw[e];exact aM,rfl⟩
      · exact⟨hJ,G,rfl⟩
    obtain⟨ly,fS,gV⟩:=pd c8 cf D;obtain⟨tp,h0,iR⟩:=pd dX cH aq;exact aw.qI c8 ly dX tp iE iP fS (by rw[gV];exact H) h0 aF br cR
  · obtain⟨aQ,a8⟩:=W.tO ft;rw[W.mR]at aQ;by_cases e:ca=b
    · subst e;rw[if_pos rfl,if_pos hb]at aQ;injection aQ with aQ;have ar:x.cells=[]:=by
        have:=congrArg (λy=>y.cells.length) aQ;simp only[DY,wE]at this;exact pF.1 this
      have aY:e1=[]:=(by rw[ar]at h;simp at h;exact pF.1 (by rw[<-eS,h.2];rfl));subst aY;have G:x=⟨[],true⟩:=(by cases x;simp at ar aD;rw[ar,aD]);obtain⟨iP,c2,a5,fS,gV,h0,iR⟩:=aw.maps ca a9 (W.jJ (by rw[aM,G]) a8);exact⟨iP,c2,a5,fS,gV,h0,iR⟩
    · rw[if_neg e]at aQ;obtain⟨iP,c2,a5,fS,gV,h0,iR⟩:=aw.maps ca a9 (W.jJ aQ a8);exact⟨iP,c2,a5,fS,gV,by rw[TA _ _ (rP ca _ iP aQ e fS)];exact h0,iR⟩
end
def og(P:Program)(o:Oper)(k:ad)(a:Act)(aV:Nat)(ag:ez)(z:aP)(m:W)(w:World)(id:Nat):Prop:=
  ∃bq cT cA,iu P o a w bq cT/\fW ag cA/\(∀b,b≠id->cA b=ag b)/\dw cA (k.val id z m) bq/\dr aV cA (k.gu id z m) cT/\Below aV w cT
section
variable {P:Program} {w:World} {o:Oper} {a:Act} {ag:ez} {cM:Nat} {z:aP} {m:W} {aV id:Nat}
theorem uM{l:si}: ∀b,b≠id->ha ag id l b=ag b:= λb h=>by simp[ha,h]
theorem dr.Ag(aw:dr aV ag m w){cX:World}(aZ:cX.heap=w.heap)(cC:aV<=w.heap.size)(eg:id<m.next)(ay:ag id=none){cs:List Value}{ds:Array Value}{e:TypeId}{bA:Nat×Nat}{n:Nat}
    (eS:cs.length<=n) (ax:n<=ds.size) (j0: ∀(i:Nat) v,cs[i]?=some v->S v=true/\ ∃bq,ds[i]?=some bq/\dw ag v bq) (fa: ∀i,i<n-> ¬(bA.1<=i/\i<bA.2)):
    dr aV (ha ag id ⟨w.heap.size,0,n⟩) (m.a4 id (some ⟨cs,true⟩)) (cX.alloc (.cells ds e bA)):=by
  have iL:(cX.alloc (.cells ds e bA)).heap.size=w.heap.size+1:=by show(cX.heap.push _).size=_;rw[Array.size_push,aZ]
  have ow:(cX.alloc (.cells ds e bA)).heap[w.heap.size]?=some (.cells ds e bA):=by show(cX.heap.push _)[_]?=_;rw[aZ];simp
  refine aw.UG eg ay (λb x l G aC=>by have:=aw.lF b l aC;omega) (by omega) (by omega) cC (λdV D H=> ?_) (λk D _=>by show(cX.heap.push _)[k]?=_;rw[aZ,Ip,if_neg (by omega)]) eS (λi v ab=> ?_) (λi ai=> ?_)
  · have:(cX.alloc (.cells ds e bA)).heap[dV.block]?=w.heap[dV.block]?:=by
      show(cX.heap.push _)[_]?=_;rw[aZ,Ip,if_neg (by omega)]
    exact⟨World.cell?_of_block (w:=w) this,World.frozen?_of_block (w:=w) this⟩
  · obtain⟨a7,bq,bD,b4⟩:=j0 i v ab;refine⟨a7,bq,?_,b4⟩;simp[World.cell?,ow,bD]
  · have kD:i<ds.size:=(by omega);refine⟨by simp[World.cell?,ow,kD],?_⟩;have:=fa i ai;simp only[World.frozen?,ow,Nat.zero_add];simpa using this
theorem sm{cX:World}(aZ:cX.heap=w.heap)(aD:cX.os=w.os)(bt:cX.tape=w.tape)(aY:cX.output=w.output)(cC:aV<=w.heap.size)(x:Obj):Below aV w (cX.alloc x):=by have:Below aV w cX:=⟨aD,bt,aY,by rw[aZ];exact ev _,λk _=>by rw[aZ]⟩;exact this.alloc (by rw[aZ];exact cC) x
theorem N9{cs:List Value}{ds:Array Value}(h:cU ag cs ds.toList)(D: ∀v∈cs,S v=true): ∀(i:Nat) v,cs[i]?=some v->S v=true/\ ∃bq,ds[i]?=some bq/\dw ag v bq:=by intro i v ab;obtain⟨y,ah,sJ⟩:=h.Y ab;exact⟨D v (hR ab),y,by simpa using ah,sJ⟩
theorem ax2{e:TypeId}{J:List Value}(bu:o.op= .alloc e)(bL:oU P e=some J)(aw:dr aV ag m w)(cC:aV<=w.heap.size)(eg:id<m.next)(ay:ag id=none):og P o (.dm J) a aV ag z m w id:=by
  obtain⟨bB,hd,ai,nu,mr,fy,eS⟩:=yj bL;refine⟨.pointer (some ⟨w.heap.size,0,none⟩),w.alloc (.cells hd.cells e),ha ag id ⟨w.heap.size,0,J.length⟩,.inl ?_,rk ay,uM,?_,?_,sm rfl rfl rfl rfl cC _⟩
  · simp only[execOp,bu,Instr.alloc,Sem.run_bind,zeroValue,typeInfo,run_program,ai,Sem.run_pure,Result.andThen_ok,nu,newVar,newRow];rfl
  · exact .cD (off:=0) (l:=⟨w.heap.size,0,J.length⟩) (by simp[ha])
  · refine aw.Ag rfl cC eg ay (ev _) (by rw[<-mr];simp) (N9 (by rw[mr];exact cU.cv ag fy) λv ab=>vh (eD.1 fy v ab)) (λi _=>by simp)
theorem ax5{e:TypeId}{x:Operand}(bu:o.op= .box e x)(G:cL x=true)(M:gw ag cM z a)(ao:(ad.lQ x).ok z m=true)(aw:dr aV ag m w)(cC:aV<=w.heap.size)(eg:id<m.next)(ay:ag id=none):og P o (.lQ x) a aV ag z m w id:=by
  have ab:=TT (M.X G);have pf:=TS (M.X G) ao;have aC:(a.eval x).cells.size=(O (X z x)).length:=by have:=ab.1;simp at this;exact this.symm
  refine⟨.pointer (some ⟨w.heap.size,0,none⟩),w.alloc (.cells (a.eval x).cells e),ha ag id ⟨w.heap.size,0,(O (X z x)).length⟩,.inl ?_,rk ay,uM,?_,?_,sm rfl rfl rfl rfl cC _⟩
  · simp only[execOp,bu,Instr.box,Sem.run_bind,newVar,newRow];rfl
  · exact .cD (off:=0) (l:=⟨w.heap.size,0,(O (X z x)).length⟩) (by simp[ha])
  · exact aw.Ag rfl cC eg ay (ev _) (by omega) (N9 ab pf) (λi _=>by simp)
theorem IH{v:Value}{n:Nat}(h:gk m v n=true): ∃b off x,v= .pointer (some ⟨b,off,none⟩)/\m.Y b=some x/\off+n<=x.cells.length:=by
  unfold gk at h;split at h
  · rename_i dV;simp only[aX,yt]at h;obtain⟨l0,h⟩:=h;split at h
    · rename_i x G;obtain⟨b,off,aB⟩:=dV;simp only at l0 G h;subst l0;exact⟨b,off,x,rfl,G,by simpa using h⟩
    · cases h
  · cases h
theorem SW{t:TypeId}{dc:Bool}{n:Nat}{dV:Addr}{ds:List Value}(sD:n6 P t=some dc)(ax:j6 P t=some n)(D:dc=true\/n=1)(aC:ds.length=n)(ar: ∀(j:Nat) bp,ds[j]?=some bp->w.cell? (dV.add j)=some bp):
    (loadVar t dV).run P w= .ok (if dc then .agg ds.toArray else ds.headD undef) w:=by
  obtain⟨bB,ai,rfl⟩:=ri ax;simp only[loadVar,Sem.run_bind,TL sD,Result.andThen_ok];cases dc
  · have H:bB.size=1:=(by simpa using D);rw[H]at aC;obtain⟨d,rfl⟩:=vO aC;have aq:=ar 0 d rfl;have e:dV.add 0=dV:=(by simp[Addr.add]);rw[e]at aq;simp only[jR,if_false,List.headD_cons];simp[Go.load,Sem.run,aq]
  · simp only[if_true,Sem.run_bind,sizeOf,typeInfo,run_program,ai,Sem.run_pure,Result.andThen_ok];have:=run_loadCells_list (P:=P) w dV ds ar;rw[aC]at this;simp[this]
theorem R0{dc:Bool}{n:Nat}{v bq:Value}(aw:dr aV ag m w)(ab:dw ag v bq)(ao:gk m v n=true)(D:dc=true\/n=1):
    ∃(dV:Addr) (ds:List Value),bq= .pointer (some dV)/\ds.length=n/\(∀(j:Nat) bp,ds[j]?=some bp->w.cell? (dV.add j)=some bp)/\dw ag (j4 m dc n v) (if dc then .agg ds.toArray else ds.headD undef):=by
  obtain⟨b,off,x,rfl,G,ET⟩:=IH ao;obtain⟨l,aC,_,rfl⟩:=ab.p7;obtain⟨ds,fC,g3,jF,m9⟩:=aw.cells G aC ET;refine⟨_,ds,rfl,g3,jF,?_⟩;simp only[j4];cases dc
  · have H:n=1:=(by simpa using D);subst H;obtain⟨d,rfl⟩:=vO g3;simp only[jR,if_false,List.headD_cons];have eS:=fC.1;simp only[oX,wE]at eS;obtain⟨bp,aY⟩:=vO eS;rw[aY]at fC⊢;exact fC.2 0 bp d rfl rfl
  · refine fC.agg λbp aY=> ?_;obtain⟨dj,iJ,a7,bD,b4⟩:=aw.lI b x G;simp only[hf,G]at aY;obtain⟨i,ai,Pg⟩:=kx (AT (wB aY));exact(bD i bp (by rw[dx ai,Pg])).1
theorem aya{t:TypeId}{x:Operand}{dc:Bool}{n:Nat}(bu:o.op= .load t x)(sD:n6 P t=some dc)(ax:j6 P t=some n)(G:cL x=true)(M:gw ag cM z a)(aw:dr aV ag m w)
    (ao:(ad.kp dc n x).ok z m=true):og P o (.kp dc n x) a aV ag z m w id:=by
  simp only[ad.ok,aX,rp,eM]at ao;obtain⟨dV,ds,D,H,aq,aF⟩:=R0 aw (M.X G) ao.1 ao.2;refine⟨_,w,ag,.inl ?_,fW.refl ag,λ_ _=>rfl,aF,aw,Below.refl _ _⟩;simp only[execOp,bu,D,Instr.loadAt,Instr.sureAddr,Sem.run_bind,Sem.run_pure,Result.andThen_ok,SW sD ax ao.2 H aq]
theorem ayf{t e:TypeId}{x:Operand}{ct ai fh:Option Operand}{n J:Nat}(bu:o.op= .slice t x ct ai fh)(az:P.underlying t=some (.array n e))(bL:j6 P e=some J)
    (G:cL x=true) (D:ct=none) (H:ai=none) (aq:fh=none) (M:gw ag cM z a) (aw:dr aV ag m w) (ao:(ad.oR J n x).ok z m=true):og P o (.oR J n x) a aV ag z m w id:=by
  subst D H aq;simp only[ad.ok,aX,eM]at ao;obtain⟨ao,aEF⟩:=ao;obtain⟨b,off,y,aL,ah,ET⟩:=IH ao;have ay:=M.X G;rw[aL]at ay;obtain⟨l,aC,_,aU⟩:=ay.p7;obtain⟨bB,ai,rfl⟩:=ri bL;obtain⟨dj,iJ,a7,bD,b4⟩:=aw.lI b y ah;rw[aC]at iJ;cases iJ;refine⟨_,w,ag,azT bu az ai aU,fW.refl ag,λ_ _=>rfl,?_,aw,Below.refl _ _⟩;simp only[ad.val,aL,DT];by_cases ax:n=0
  · rw[if_pos ax];subst ax;exact .slice aC (.inl ⟨rfl,rfl⟩) (ev _) (by omega)
  · rw[if_neg ax];have az:(⟨l.c,l.o+off,none⟩:Addr).add (0*bB.size)=⟨l.c,l.o+off,none⟩:=by
      unfold Addr.add;simp
    rw[az];exact .slice aC (.inr ⟨rfl,by simp only[Nat.sub_zero];omega⟩) (ev _) (by omega)
theorem ayg{t:TypeId}{x v:Operand}{n:Nat}(bu:o.op= .store t x v)(ax:j6 P t=some n)(G:cL x=true)(ab:cL v=true)(M:gw ag cM z a)(aw:dr aV ag m w)
    (ao:(ad.store n x v).ok z m=true):og P o (.store n x v) a aV ag z m w id:=by
  simp only[ad.ok,aX,eM]at ao;obtain⟨⟨⟨D,H⟩,ajj⟩,aq⟩:=ao;have pf:=TS (M.X ab) ajj;obtain⟨b,off,y,aL,ah,ET⟩:=IH D;have ay:=M.X G;rw[aL]at ay;obtain⟨l,aC,_,aU⟩:=ay.p7;have iK:y.own=true:=by simpa[aL,o7,ah]using H
  have ar:=TT (M.X ab);obtain⟨bB,ai,rfl⟩:=ri ax;have iL:(a.eval v).cells.size=bB.size:=by have:=ar.1;simp at this;omega
  obtain⟨dj,iJ,a7,bD,b4⟩:=aw.lI b y ah;rw[aC]at iJ;cases iJ;have ajm: ∀bp∈(a.eval v).cells.toList,bp.oneCell'=true:=by intro bp aY;obtain⟨i,hE,Pg⟩:=kx aY;have kD:i<(O (X z v)).length:=(by rw[ar.1];exact hE);have:=(ar.2 i _ bp (dx kD) (by rw[dx hE,Pg])).S;rw[So,this];exact pf _ (mI kD)
  refine⟨undef,w.setCells l.c (l.o+off) (a.eval v).cells.toList,ag,.inr ⟨?_,rfl⟩,fW.refl ag,λ_ _=>rfl,dw.undef ag,?_,IN (b4 iK).1 _ _ _⟩
  · have ox:=run_storeCells_cells (P:=P) l.c (l.o+off) (a.eval v).cells.toList 0 w (λj bx=>by
      have:=((b4 iK).2 (off+j) (by simp at bx;omega)).1
      rwa [<-oY]at this) (λj bx=>by
      have:=((b4 iK).2 (off+j) (by simp at bx;omega)).2
      rwa [<-oY]at this) ajm
    simp only[Nat.add_zero]at ox;simp[execOp,bu,aU,Instr.storeAt,Instr.sureAddr,storeVar,sizeOf,typeInfo,ai,iL,ox]
  · simp only[ad.gu,aL,nc,ah];exact aw.store ah iK aC ar pf (by omega)
end
theorem Jm{J:List Value}(bL:0<J.length): ∀(n i:Nat),i<n*J.length->((List.replicate n J).flatten)[i]?=J[i%J.length]?
  |0,i,h=>by omega
  | n+1,i,h=>by
    rw[Iq,qu,AS];split
    · rename_i ai;rw[Nat.mod_eq_of_lt ai]
    · rename_i ai;have H:i-J.length<n*J.length:=(by rw[kR]at h;omega);rw[Jm bL n _ H,Nat.mod_eq_sub_mod (by omega:J.length<=i)]
theorem yM(J:List Value)(n:Nat):((List.replicate n J).flatten).length=n*J.length:=by simp[List.length_flatten]
theorem Mj{J:Array Value}(bL:0<J.size)(n:Nat):(madeCells J (n*J.size)).toList=(List.replicate n J.toList).flatten:=by
  apply DA;intro i;by_cases ai:i<n*J.size
  · rw[Jm (by simpa using bL) n i (by simpa using ai)];have aw:i%J.size<J.size:=Nat.mod_lt _ bL;simp[madeCells,ai,aw]
  · rw[rm (by rw[Array.length_toList,size_madeCells];omega),rm (by rw[yM];simp;omega)]
theorem Jl{J:List Value}(p:Value->Prop)(h: ∀v∈J,p v)(n:Nat): ∀v∈(List.replicate n J).flatten,p v:=by intro v ab;simp only[DB,List.mem_replicate]at ab;obtain⟨l,⟨_,rfl⟩,H⟩:=ab;exact h v H
section
variable {P:Program} {w:World} {o:Oper} {a:Act} {ag:ez} {cM:Nat} {z:aP} {m:W} {aV id:Nat}
theorem ax6{t e:TypeId}{n:Nat}{ps:Array (Nat×Operand)}{J:List Value}{hu:List (Nat×Nat×Operand)}(bu:o.op= .buildSlice t n ps)(bt:P.underlying t=some (.slice e))(bL:oU P e=some J)
    (bf:yI J.length ps.toList=some hu) (c5:0<J.length) (aEf:n*J.length<=16777216) (M:gw ag cM z a) (aw:dr aV ag m w) (cC:aV<=w.heap.size) (eg:id<m.next) (ay:ag id=none)
    (ao:(ad.fI J.length n (List.replicate n J).flatten hu).ok z m=true):og P o (.fI J.length n (List.replicate n J).flatten hu) a aV ag z m w id:=by
  obtain⟨bB,hd,ai,nu,mr,fy,eS⟩:=yj bL;obtain⟨aQ,a8⟩:=Om _ _ bf;have tX:hd.cells.size=bB.size:=by rw[<-eS,<-mr];simp
  have j0:(madeCells hd.cells (n*hd.cells.size)).toList=(List.replicate n J).flatten:=by rw[Mj (by omega),mr]
  have rJ: ∀v∈(List.replicate n J).flatten,dO v=true:=Jl (λv=>dO v=true) (λv ab=>eD.1 fy v ab) n;simp only[ad.ok]at ao;obtain⟨ds,D,H,Ez⟩:=Jk M (λi=>some (i*bB.size,bB.size)) ps.toList hu (List.replicate n J).flatten (madeCells hd.cells (n*hd.cells.size)) ⟨aQ,λi p q vr bf=>by obtain⟨aL,aU,cz,gR⟩:=a8 i p q vr bf;exact⟨aL,aU,by rw[cz,gR,eS]⟩⟩ (by rw[j0];exact cU.cv ag (eD.2 rJ)) (λv ab=>vh (rJ v ab)) ao;have xa:(lv (List.replicate n J).flatten z hu).length=ds.size:=by have:=H.1;simpa using this
  have kl:(lv (List.replicate n J).flatten z hu).length=n*J.length:=by
    have key: ∀(hu:List (Nat×Nat×Operand)) (cs:List Value),(lv cs z hu).length=cs.length:=by
      intro hu;induction hu with
      |nil=>intro cs;rfl
      |cons q hu cn=>intro cs;obtain⟨a7,bD,b4⟩:=q;simp only[lv];rw[cn,DY]
    rw[key,yM]
  refine⟨.slice (some ⟨w.heap.size,0,none⟩) n n,w.alloc (.cells ds e),ha ag id ⟨w.heap.size,0,ds.size⟩,.inl ?_,rk ay,uM,?_,?_,sm rfl rfl rfl rfl cC _⟩
  · have aq:(ps.map λp=>(p.1,a.eval p.2)).toList=ps.toList.map λp=>(p.1,a.eval p.2):=by simp
    have PN:(zeroValue e).run P w= .ok hd w:=(by simp[zeroValue,typeInfo,ai,nu]);have ail: ¬(2^24<n*bB.size):=(by rw[<-eS];omega);rw[<-aq]at D;simp only[execOp,bu,Instr.buildSlice,Sem.run_bind,run_underlying bt,sizeOf,typeInfo,run_program,ai,Sem.run_pure,Result.andThen_ok,gt_iff_lt,ail,if_false,Sem.run_ite];by_cases vq:n*bB.size=0
    · have p1:madeCells hd.cells (n*hd.cells.size)= #[]:=(by rw[tX,vq];simp[madeCells]);rw[p1]at D;simp only[vq,if_true];have ajc:Array.map (λx=>(#[]:Array Value)[x%(#[]:Array Value).size]!) (Array.range 0)= #[]:=(by simp);rw[ajc,D];simp only[newRow,Sem.run_bind];rfl
    · have p1:Array.map (λx=>hd.cells[x%hd.cells.size]!) (Array.range (n*bB.size))=madeCells hd.cells (n*hd.cells.size):=(by unfold madeCells;rw[tX]);simp only[vq,if_false,PN,Result.andThen_ok,p1,D];simp only[newRow,Sem.run_bind];rfl
  · exact .slice (off:=0) (l:=⟨w.heap.size,0,ds.size⟩) (by simp[ha]) (.inr ⟨rfl,by show 0+n*J.length<=ds.size;omega⟩) (ev _) (by have:n*1<=n*J.length:=Nat.mul_le_mul_left _ c5;unfold maxLen;omega)
  · simp only[ad.gu];exact aw.Ag rfl cC eg ay (by omega) (ev _) (N9 H Ez) (λi _=>by simp)
theorem ayc{t e:TypeId}{bB:TypeInfo}{J:List Value}{l c:Operand}(bu:o.op= .makeSlice t l c)(bt:P.underlying t=some (.slice e))(bL:oU P e=some J)(ai:P.info? e=some bB)(aC:cL l=true)(ar:cL c=true)
    (M:gw ag cM z a) (aw:dr aV ag m w) (cC:aV<=w.heap.size) (eg:id<m.next) (ay:ag id=none)
    (ao:(ad.jq J.length bB.bytes J l c).ok z m=true):og P o (.jq J.length bB.bytes J l c) a aV ag z m w id:=by
  obtain⟨PT,hd,hE,nu,mr,fy,eS⟩:=yj bL;rw[ai]at hE;cases hE;have tX:hd.cells.size=bB.size:=by rw[<-eS,<-mr];simp
  simp only[ad.ok,aX,eM]at ao;obtain⟨⟨⟨⟨⟨⟨D,H⟩,aq⟩,aF⟩,br⟩,cR⟩,fs⟩:=ao;obtain⟨aL,auG,L,cS⟩:=p8 (M.X aC) D;obtain⟨aU,auD,C,Jx⟩:=p8 (M.X ar) H;simp only[cS,Jx,eR]at aq aF br cR;have hs:=run_make (P:=P) w t e bB hd bt ai nu auG auD L C aq aF (by rw[Int.mul_comm];omega) cR;have rJ: ∀v∈(List.replicate L.toNat J).flatten,dO v=true:=Jl (λv=>dO v=true) (λv ab=>eD.1 fy v ab) _;have fJ:L.toNat*J.length<=C.toNat*J.length:=qt _ (by omega);refine⟨_,_,ha ag id ⟨w.heap.size,0,C.toNat*J.length⟩,.inl (by simp only[execOp,bu,aL,aU,cS,Jx,Sem.run_bind,hs,Result.andThen_ok];rfl),rk ay,uM,?_,?_,sm rfl rfl rfl rfl cC _⟩
  · simp only[ad.val,cS,eR];exact .slice (off:=0) (l:=⟨w.heap.size,0,C.toNat*J.length⟩) (by simp[ha]) (.inr ⟨by simp,by simp⟩) (by omega) (by unfold maxLen;omega)
  · simp only[ad.gu,cS,eR];refine aw.Ag rfl cC eg ay (by rw[yM];exact fJ) (by rw[size_madeCells,eS];exact ev _) (λi v ab=> ?_) (λi _=>by simp);have kD:i<L.toNat*J.length:=(by have:=(ek.1 ab).1;rwa [yM]at this);refine⟨vh (rJ v (hR ab)),v,?_,.cv (rJ v (hR ab))⟩;have hz:(madeCells hd.cells (C.toNat*bB.size)).toList=(List.replicate C.toNat J).flatten:=(by rw[<-tX,Mj (by omega),mr]);rw[<-Dx,hz,Jm fs _ _ (by omega)];rw[Jm fs _ _ kD]at ab;exact ab
theorem ad8: ∀(po:List Int) (dz:ByteArray),po.foldl (λr n=>r.push (UInt8.ofNat n.toNat)) dz=dz++⟨(po.map λn=>UInt8.ofNat n.toNat).toArray⟩
  | [],dz=>by simp only[List.foldl_nil,wG];apply ByteArray.ext;simp
  | n::po,dz=>by simp only[wD,mL];rw[ad8 po];apply ByteArray.ext;simp[ByteArray.push]
theorem ax8{s d e:TypeId}{x:Operand}(bu:o.op= .convert s d x)(qN:P.underlying s=some (.slice e))(oq:P.underlying d=some .string)(bR:P.underlying e=some (.int .u8))(G:cL x=true)
    (M:gw ag cM z a) (aw:dr aV ag m w) (ao:(ad.mg x).ok z m=true):og P o (.mg x) a aV ag z m w id:=by
  simp only[ad.ok,aX]at ao;obtain⟨D,H⟩:=ao;have ay:=M.X G;have conv: ∀v,a.eval x=v->(∃p l c,v= .slice p l c)-> ∀b:ByteArray,(Conv.bytesToString v).run P w= .ok (.string b) w->iu P o a w (.string b) w:=by intro v ab ⟨p,l,c,af⟩ b hb;subst af;refine .inl ?_;cases p<;>simp[execOp,bu,ab,convert,underlying,qN,oq,bR,hb]
  cases aY:X z x<;>simp only[aY,fG]at D<;>try cases D
  rename_i p len c;rw[aY]at ay;refine⟨.string (toBytes (fV m 1 (X z x))),w,ag,?_,fW.refl ag,λ_ _=>rfl,.cv rfl,aw,Below.refl _ _⟩;cases p with
  | none=>have ab:=ay.hB (by simpa[dO]using D);refine conv _ ab ⟨_,_,_,rfl⟩ _ ?_;simp only[Conv.bytesToString,aY,fV,toBytes];rfl
  | some dV=>
    simp only[aX,yt,beq_iff_eq]at D;obtain⟨⟨l0,sE⟩,D⟩:=D;split at D
    · rename_i y ah;simp only[Nat.mul_one,eM]at D;obtain⟨l,dD,cap,aC,_,ab,ax,y6,pc⟩:=ay.mu;refine conv _ ab ⟨_,_,_,rfl⟩ _ ?_;simp only[aY,fV,Nat.mul_one]at H⊢;obtain⟨ds,fC,g3,jF,m9⟩:=aw.cells ah aC D;have iq: ∃po:List Int,ds=po.map (Value.int .u8)/\hf m dV.block dV.off len=po.map (Value.int .u8):=by
        have aif: ∀(e1 ck:List Value),e1.all zT=true->cU ag e1 ck-> ∃po:List Int,ck=po.map (Value.int .u8)/\e1=po.map (Value.int .u8):=by
          intro e1;induction e1 with
          |nil=>intro ck _ h;have:=h.1;simp at this;exact⟨[],by simp[pF.1 this.symm],rfl⟩
          | cons bp e1 cn=>
            intro ck az h;cases ck with
            |nil=>have:=h.1;simp at this
            | cons v ck=>simp only[mK,aX]at az;obtain⟨po,aQ,a8⟩:=cn ck az.2 ⟨by simpa using h.1,λi p q af bf=>h.2 (i+1) p q (by simpa using af) (by simpa using bf)⟩;have c5:=h.2 0 bp v rfl rfl;have W9:=az.1;cases bp<;>simp[zT]at W9;rename_i k n;cases k<;>simp at W9;exact⟨n::po,by simp[aQ,c5.p6],by simp[a8]⟩
        exact aif _ _ H fC
      obtain⟨po,aji,WU⟩:=iq;subst aji;rcases ax with⟨rfl,rfl⟩|⟨rfl,ax⟩
      · have vq:po=[]:=(by simp at g3;exact g3);subst vq;have:=run_bytesToString (P:=P) w dD 0 0 [] (by simp[loadCells,loadCellsFrom]);rw[this,WU];rfl
      · have WM:=run_loadCells_list (P:=P) w ⟨l.c,l.o+dV.off,none⟩ _ jF;rw[g3]at WM;rw[run_bytesToString w _ len cap po (by rw[WM]),ad8,WU];congr 2;apply ByteArray.ext;simp[toBytes,byteOf,Function.comp_def]
    · cases D
end
section
variable {P:Program} {w:World} {o:Oper} {a:Act} {ag:ez} {cM:Nat} {z:aP} {m:W} {aV id:Nat}
theorem axe(t pD e:TypeId)(i:TypeInfo)(bt:P.underlying t=some (.slice e))(ai:P.info? e=some i)(base q:Option Addr)(th Ax c:Nat)(ar:th<=Ax):
    (Builtin.append_ #[t,t] pD #[.slice base th Ax,.slice q 0 c]).run P w= .ok (.slice base th Ax) w:=by
  have a3:(Builtin.firstCells i.size 0 (.slice q 0 c)).run P w= .ok #[] w:=by cases q<;>simp[Builtin.firstCells,loadCells,loadCellsFrom]
  cases base<;>simp[Builtin.append_,run_underlying bt,sizeOf,typeInfo,ai,Builtin.lenOf,ar,a3,storeCells]
theorem axd(t pD e:TypeId)(i:TypeInfo)(bt:P.underlying t=some (.slice e))(ai:P.info? e=some i)(c o th Ax:Nat)(dV:Addr)(n Vu:Nat)(kI:List Value)(aC:kI.length=n*i.size)
    (ajg: ∀(j:Nat) bp,kI[j]?=some bp->w.cell? (dV.add j)=some bp) (D: ∀bp∈kI,bp.oneCell'=true) (EY:th+n<=Ax)
    (w8: ∀j,j<kI.length->(w.cell? ⟨c,o+th*i.size+j,none⟩).isSome=true) (fa: ∀j,j<kI.length->w.frozen? ⟨c,o+th*i.size+j,none⟩=false):
    (Builtin.append_ #[t,t] pD #[.slice (some ⟨c,o,none⟩) th Ax,.slice (some dV) n Vu]).run P w= .ok (.slice (some ⟨c,o,none⟩) (th+n) Ax) (w.setCells c (o+th*i.size) kI):=by
  have a3:=run_firstCells_some (P:=P) w i.size n dV n Vu kI aC ajg;have ox:=run_storeCells_cells (P:=P) c (o+th*i.size) kI 0 w (by simpa using w8) (by simpa using fa) D;simp only[Nat.add_zero]at ox;simp[Builtin.append_,run_underlying bt,sizeOf,typeInfo,ai,Builtin.lenOf,EY,a3,NW,ox]
theorem Ie{c:Call}{x y:Operand}{t s:TypeId}{bp v r:Value}{cT:World}(bu:o.op= .call c)(ar:c.callee= .builtin .append)(az:c.args.toList=[x,y])(df:c.argTypes.toList=[t,s])
    (G:a.eval x=bp) (ah:a.eval y=v) (h:(Builtin.append_ #[t,s] o.type #[bp,v]).run P w= .ok r cT):iu P o a w r cT:=by
  refine .inl ?_;have mS:c.args= #[x,y]:=by rw[<-pG (xs:=c.args),az]
  have vl:c.argTypes= #[t,s]:=by rw[<-pG (xs:=c.argTypes),df]
  simp[execOp,bu,resolve,ar,mS,vl,invoke,builtin,G,ah,h]
theorem AG{J:Nat}{v:Value}(h:fG m J v=true):v= .slice none 0 0\/ ∃b off len x,v= .slice (some ⟨b,off,none⟩) len J/\m.Y b=some x/\off+len*J<=x.cells.length:=by
  unfold fG at h;split at h
  · simp only[aX,beq_iff_eq]at h;obtain⟨rfl,rfl⟩:=h;exact .inl rfl
  · rename_i dV l c;simp only[aX,yt,beq_iff_eq]at h;obtain⟨⟨l0,rfl⟩,h⟩:=h;split at h
    · rename_i x G;obtain⟨b,off,aB⟩:=dV;simp only at l0 G h;subst l0;exact .inr ⟨b,off,l,x,rfl,G,by simpa using h⟩
    · cases h
  · cases h
def Uw(P:Program)(o:Oper)(J bytes:Nat)(x y:Operand)(a:Act)(aV:Nat)(ag:ez)(z:aP)(m:W)(w:World)(id:Nat):Prop:=
  ∃ bq cT cA,iu P o a w bq cT/\fW ag cA/\(∀b,b≠id->cA b=ag b)/\dw cA ((ad.app J bytes x y).val id z m) bq/\dr aV cA ((ad.app J bytes x y).gu id z m) cT/\Below aV w cT/\
    (pC J m (X z x)=true-> ∀b bp l,m.Y b=some bp->ag b=some l-> ∀i,i<bp.cells.length->cT.cell? ⟨l.c,l.o+i,none⟩=w.cell? ⟨l.c,l.o+i,none⟩)
theorem U3{n:Nat}{w cT:World}(h:Below n w cT){dV:Addr}(az:dV.block<n):cT.cell? dV=w.cell? dV:=by simp only[World.cell?,h.block _ az]
theorem aeF{c:Call}{x y:Operand}{t e:TypeId}{bB:TypeInfo}{J:List Value}(bu:o.op= .call c)(ar:c.callee= .builtin .append)(az:c.args.toList=[x,y])(df:c.argTypes.toList=[t,t])
    (bt:P.underlying t=some (.slice e)) (ai:P.info? e=some bB) (bL:oU P e=some J) (G:cL x=true) (ah:cL y=true)
    (M:gw ag cM z a) (aw:dr aV ag m w) (cC:aV<=w.heap.size) (eg:id<m.next) (ay:ag id=none)
    (ao:(ad.app bB.size bB.bytes x y).ok z m=true):Uw P o bB.size bB.bytes x y a aV ag z m w id:=by
  obtain⟨PT,hd,hE,nu,mr,fy,eS⟩:=yj bL;rw[ai]at hE;cases hE;have tX:hd.cells.size=bB.size:=by rw[<-eS,<-mr];simp
  simp only[ad.ok,aX,eM]at ao;obtain⟨⟨⟨⟨⟨D,H⟩,aq⟩,aF⟩,br⟩,cR⟩:=ao;have mB:=M.X G;have wa:=M.X ah
  -- pB aLG
  have xk: ∃q yG,a.eval y= .slice q (gv (X z y)) yG:=by
    rcases AG aq with aL|⟨b,off,len,yp,aL,_,_⟩
    · rw[aL]at wa;exact⟨none,0,by rw[aL];exact wa.hB rfl⟩
    · rw[aL]at wa;obtain⟨_,_,_,_,_,g,_⟩:=wa.mu;exact⟨_,_,by rw[aL];exact g⟩
  obtain⟨q,yG,xk⟩:=xk;have mV: ∃p pT,a.eval x= .slice p (gv (X z x)) pT/\gv (X z x)<=pT:=by
    rcases AG D with aL|⟨b,off,len,yp,aL,_,_⟩
    · rw[aL]at mB;exact⟨none,0,by rw[aL];exact mB.hB rfl,by rw[aL];exact ev _⟩
    · rw[aL]at mB;obtain⟨_,_,_,_,_,g,_,a8,_⟩:=mB.mu;exact⟨_,_,by rw[aL];exact g,by rw[aL];exact a8⟩
  by_cases ax:gv (X z y)=0
  · obtain⟨p,pT,mV,fJ⟩:=mV;rw[ax]at xk;refine⟨a.eval x,w,ag,?_,fW.refl ag,λ_ _=>rfl,by simpa only[ad.val,ax,if_true]using mB,by simpa only[ad.gu,ax,if_true]using aw,Below.refl _ _,λ_ _ _ _ _ _ _ _=>rfl⟩;rw[mV];exact Ie bu ar az df mV xk (axe t _ e bB bt ai _ _ _ _ _ fJ)
  · -- aLF wo oh
    rcases AG aq with aL|⟨o8,r1,je,yp,Ow,E6,ajR⟩
    · rw[aL]at ax;exact absurd rfl ax
    rw[Ow]at wa;obtain⟨oE,agQ,D8,Pl,_,xk,Po,aED,_⟩:=wa.mu
    replace Pl:ag o8=some oE:=Pl
    replace Po:(D8=0/\je=0)\/(agQ=⟨oE.c,oE.o+r1,none⟩/\r1+D8*bB.size<=oE.n):=Po
    have Pj:gv (X z y)=je:=(by rw[Ow];rfl);have ajQ:fV m bB.size (X z y)=hf m o8 r1 (je*bB.size):=(by rw[Ow];rfl);rw[Pj]at ax br cR;obtain⟨kI,ga,hH,s6,avE⟩:=aw.cells E6 Pl ajR;rcases Po with⟨_,c5⟩|⟨rfl,_⟩
    · omega
    have xi:(ad.app bB.size bB.bytes x y).val id z m= .slice (some ⟨id,0,none⟩) (gv (X z x)+je) bB.size:=(by simp only[ad.val,Pj,ax,if_false]);have mn:(ad.app bB.size bB.bytes x y).gu id z m=(j3 m (X z x)).a4 id (some ⟨fV m bB.size (X z x)++hf m o8 r1 (je*bB.size),true⟩):=by simp only[ad.gu,Pj,ax,if_false,ajQ]
    -- pB new block,aM3 pB lr m6 aM0
    have Wi: ∀(lr:Nat) (ta:List Value) (rZ:W),dr aV ag rZ w->id<rZ.next->cU ag (fV m bB.size (X z x)) ta->(∀v∈fV m bB.size (X z x),S v=true)->ta.length=gv (X z x)*bB.size->
        lr<gv (X z x)+je->
        dw (ha ag id ⟨w.heap.size,0,grownCap w (gv (X z x)+je) lr e*bB.size⟩) (.slice (some ⟨id,0,none⟩) (gv (X z x)+je) bB.size) (.slice (some ⟨w.heap.size,0,none⟩) (gv (X z x)+je) (grownCap w (gv (X z x)+je) lr e))/\
        dr aV (ha ag id ⟨w.heap.size,0,grownCap w (gv (X z x)+je) lr e*bB.size⟩) (rZ.a4 id (some ⟨fV m bB.size (X z x)++hf m o8 r1 (je*bB.size),true⟩))
          (w.drew.alloc (.cells (ta.toArray++kI.toArray++Builtin.zeroCells hd.cells (grownCap w (gv (X z x)+je) lr e-(gv (X z x)+je))) e)):=by
      intro lr ta rZ xc aiV aD JO zd By;have tQ:=grownCap_ge w (gv (X z x)+je) lr e;have pc:grownCap w (gv (X z x)+je) lr e<=maxLen:=grownCap_le_maxLen w _ lr e (by unfold maxLen;omega);refine⟨.slice (off:=0) (l:=⟨w.heap.size,0,grownCap w (gv (X z x)+je) lr e*bB.size⟩) (by simp[ha]) (.inr ⟨by simp,by simp⟩) tQ pc,?_⟩;have iL:(ta.toArray++kI.toArray++Builtin.zeroCells hd.cells (grownCap w (gv (X z x)+je) lr e-(gv (X z x)+je))).size=grownCap w (gv (X z x)+je) lr e*bB.size:=by simp only[Array.size_append,List.size_toArray,size_zeroCells,tX,zd,hH,<-kR];congr 1;omega
      have EN:cU ag (fV m bB.size (X z x)++hf m o8 r1 (je*bB.size)) (ta++kI):=aD.oh ga;refine xc.Ag (cX:=w.drew) rfl cC aiV ay ?_ (by rw[iL];exact ev _) (λi v ab=> ?_) (λi _=>by simp)
      · rw[EN.1,j7,zd,hH,<-kR];exact qt _ tQ
      · obtain⟨bp,aY,E1⟩:=EN.Y ab;refine⟨?_,bp,?_,E1⟩
        · have:v∈fV m bB.size (X z x)++hf m o8 r1 (je*bB.size):=hR ab;rcases kQ.1 this with h|h
          · exact JO v h
          · obtain⟨dj,iJ,a7,bD,b4⟩:=aw.lI o8 yp E6;simp only[hf,E6]at h;obtain⟨j,bx,EL⟩:=kx (AT (wB h));exact(bD j v (by rw[dx bx,EL])).1
        · rw[Il (by
            have:=(ek.1 aY).1;simpa using this)]
          simpa using aY
    rcases AG D with gX|⟨b,off,len,tn,gX,p2,E3⟩
    · -- nil
      rw[gX]at mB;have mV:=mB.hB rfl;have ll:gv (X z x)=0:=(by rw[gX];rfl);have tP:fV m bB.size (X z x)=[]:=(by rw[gX];rfl);obtain⟨aQ,a8⟩:=Wi 0 [] m aw eg (by rw[tP];exact cU.nil ag) (by rw[tP];simp) (by rw[ll];simp) (by omega);simp only[ll,Nat.zero_add]at aQ a8 br cR;have hs:=run_append_nil (P:=P) w t o.type e bB hd bt ai nu ⟨oE.c,oE.o+r1,none⟩ je D8 kI hH s6 (by omega) (by omega) (by omega);refine⟨_,_,ha ag id ⟨w.heap.size,0,grownCap w je 0 e*bB.size⟩,Ie bu ar az df mV xk hs,rk ay,uM,?_,?_,sm (w:=w) (cX:=w.drew) rfl rfl rfl rfl cC _,λ_ b bp l _ aC i _=>U3 (sm (w:=w) (cX:=w.drew) rfl rfl rfl rfl (ev _) _) (aw.lF b l aC)⟩
      · rw[xi,ll,Nat.zero_add];exact aQ
      · rw[mn,gX];simpa only[j3,fV,uT,Array.empty_append,gX]using a8
    · -- a slice dM pB aC5 own
      rw[gX]at mB;obtain⟨l,dD,cap,aC,_,mV,jL,y6,pc⟩:=mB.mu
      replace aC:ag b=some l:=aC
      replace jL:(cap=0/\len=0)\/(dD=⟨l.c,l.o+off,none⟩/\off+cap*bB.size<=l.n):=jL
      have ll:gv (X z x)=len:=(by rw[gX];rfl);have tP:fV m bB.size (X z x)=hf m b off (len*bB.size):=(by rw[gX];rfl);have iK:tn.own=true:=(by simpa[gX,jG,p2]using H);obtain⟨dj,iJ,a7,bD,b4⟩:=aw.lI b tn p2;rw[aC]at iJ;cases iJ;obtain⟨ta,ij,jO,Sm,av0⟩:=aw.cells p2 aC E3;have pf: ∀v∈hf m b off (len*bB.size),S v=true:=(by intro v ab;simp only[hf,p2]at ab;obtain⟨j,bx,EL⟩:=kx (AT (wB ab));exact(bD j v (by rw[dx bx,EL])).1);have aa:j3 m (X z x)=m.a4 b none:=(by rw[gX];rfl);rw[ll]at br cR;by_cases EY:len+je<=cap
      · -- ayM zQ l9
        rcases jL with⟨c5,_⟩|⟨rfl,jL⟩
        · omega
        have ajd:(len+je)*bB.size<=cap*bB.size:=qt _ EY;rw[kR]at ajd
        have hs:=axd (P:=P) (w:=w) t o.type e bB bt ai l.c (l.o+off) len cap ⟨oE.c,oE.o+r1,none⟩ je D8 kI hH s6 avE EY
          (λj bx=>by
            have:=((b4 iK).2 (off+len*bB.size+j) (by rw[hH]at bx;omega)).1
            rwa [show l.o+(off+len*bB.size+j)=l.o+off+len*bB.size+j by omega]at this)
          (λj bx=>by
            have:=((b4 iK).2 (off+len*bB.size+j) (by rw[hH]at bx;omega)).2
            rwa [show l.o+(off+len*bB.size+j)=l.o+off+len*bB.size+j by omega]at this)
        refine⟨_,_,ha ag id ⟨l.c,l.o+off,l.n-off⟩,Ie bu ar az df mV xk hs,rk ay,uM,?_,?_,IN (b4 iK).1 _ _ _,λbt ca bp dj aY iJ i ai=>World.cell?_setCells_out _ _ _ _ _ (λh _=> ?_)⟩
        · rw[xi,ll];exact .slice (off:=0) (l:=⟨l.c,l.o+off,l.n-off⟩) (by simp[ha]) (.inr ⟨by simp,by show 0+cap*bB.size<=l.n-off;omega⟩) EY pc
        · rw[mn,aa,tP];have EN:cU ag (hf m b off (len*bB.size)++hf m o8 r1 (je*bB.size)) (ta++kI):=ij.oh ga;have rK: ∀j (bx:j<kI.length),(w.setCells l.c (l.o+off+len*bB.size) kI).cell? ⟨l.c,l.o+off+len*bB.size+j,none⟩=some kI[j]:= λj bx=>
            World.cell?_setCells_in l.c kI (l.o+off+len*bB.size) w (λi hE=>by
              have:=((b4 iK).2 (off+len*bB.size+i) (by rw[hH]at hE;omega)).1
              rwa [show l.o+(off+len*bB.size+i)=l.o+off+len*bB.size+i by omega]at this) j bx
          have WW: ∀i,i<len*bB.size\/len*bB.size+kI.length<=i->(w.setCells l.c (l.o+off+len*bB.size) kI).cell? ⟨l.c,l.o+off+i,none⟩=w.cell? ⟨l.c,l.o+off+i,none⟩:= λi hE=>
            World.cell?_setCells_out _ _ _ _ _ (λ_ _=>by show l.o+off+i<_\/_<=l.o+off+i;omega)
          refine(aw.j3 b).UG (by rw[W.aed];exact eg) ay (λca hJ dj hi iJ=> ?_) (by rw[M6];exact ev _) (by rw[M6];exact aw.lF b l aC) (b4 iK).1 (λdV _ cZ=>⟨World.cell?_setCells_out _ _ _ _ _ (λh _=>absurd h cZ),World.frozen?_setCells _ _ _ _ _⟩) (λk _ aa=>TA _ _ aa _ _ _) ?_ (λi v ab=> ?_) (λi hE=> ?_)
          · rw[W.mR]at hi;split at hi
            · split at hi<;>cases hi
            · rename_i cZ;exact Ne.symm (aw.qI b tn ca hJ l dj p2 iK hi (Ne.symm cZ) aC iJ)
          · rw[EN.1,j7,jO,hH];omega
          · obtain⟨bp,aY,E1⟩:=EN.Y ab;have ajb:v∈hf m b off (len*bB.size)++hf m o8 r1 (je*bB.size):=hR ab;refine⟨?_,bp,?_,E1⟩
            · rcases kQ.1 ajb with h|h
              · exact pf v h
              · obtain⟨dj,iJ,fS,gV,h0⟩:=aw.lI o8 yp E6;simp only[hf,E6]at h;obtain⟨j,bx,EL⟩:=kx (AT (wB h));exact(gV j v (by rw[dx bx,EL])).1
            · rw[AS]at aY;split at aY
              · rename_i ee;rw[jO]at ee;rw[WW i (.inl ee)];have:=Sm i bp aY
                rwa [NW]at this
              · rename_i ee;rw[jO]at ee aY;have bx:i-len*bB.size<kI.length:=(ek.1 aY).1;have:=rK _ bx;rw[show l.o+off+len*bB.size+(i-len*bB.size)=l.o+off+i by omega]at this;rw[this];rw[dx bx]at aY;exact aY
          · have bf:=(b4 iK).2 (off+i) (by omega);rw[<-oY]at bf;refine⟨?_,by rw[World.frozen?_setCells];exact bf.2⟩;by_cases kD:i<len*bB.size\/len*bB.size+kI.length<=i
            · rw[WW i kD];exact bf.1
            · have bx:i-len*bB.size<kI.length:=(by omega);have:=rK _ bx;rw[show l.o+off+len*bB.size+(i-len*bB.size)=l.o+off+i by omega]at this;rw[this];rfl
        · left;by_cases e:ca=b
          · subst e;rw[p2]at aY;cases aY;rw[aC]at iJ;cases iJ;simp only[gX,pC,p2,eM]at bt;show l.o+i<l.o+off+len*bB.size;omega
          · exact absurd h (Ne.symm (aw.qI b tn ca bp l dj p2 iK aY (Ne.symm e) aC iJ))
      · -- acV aEd
        obtain⟨aQ,a8⟩:=Wi cap ta (m.a4 b none) (aw.j3 b) (by rw[W.aed];exact eg) (by rw[tP];exact ij) (by rw[tP];exact pf) (by rw[ll];exact jO) (by omega);rw[ll]at aQ a8;have holds: ∀(j:Nat) v,ta[j]?=some v->w.cell? (dD.add j)=some v:=by
          intro j v ab;rcases jL with⟨_,c5⟩|⟨rfl,_⟩
          · subst c5;simp at jO;rw[jO]at ab;simp at ab
          · exact Sm j v ab
        have hs:=run_append_grow (P:=P) w t o.type e bB hd bt ai nu dD len cap ta jO holds ⟨oE.c,oE.o+r1,none⟩ je D8 kI hH s6 (by omega) (by omega) (growslice_fits (by omega) br);refine⟨_,_,ha ag id ⟨w.heap.size,0,grownCap w (len+je) cap e*bB.size⟩,Ie bu ar az df mV xk hs,rk ay,uM,?_,?_,sm (w:=w) (cX:=w.drew) rfl rfl rfl rfl cC _,λ_ b bp l _ aC i _=>U3 (sm (w:=w) (cX:=w.drew) rfl rfl rfl rfl (ev _) _) (aw.lF b l aC)⟩
        · rw[xi,ll];exact aQ
        · rw[mn,aa];exact a8
theorem ax3{c:Call}{x y:Operand}{t e:TypeId}{bB:TypeInfo}{J:List Value}(bu:o.op= .call c)(ar:c.callee= .builtin .append)(az:c.args.toList=[x,y])(df:c.argTypes.toList=[t,t])
    (bt:P.underlying t=some (.slice e)) (ai:P.info? e=some bB) (bL:oU P e=some J) (G:cL x=true) (ah:cL y=true)
    (M:gw ag cM z a) (aw:dr aV ag m w) (cC:aV<=w.heap.size) (eg:id<m.next) (ay:ag id=none)
    (ao:(ad.app bB.size bB.bytes x y).ok z m=true):og P o (.app bB.size bB.bytes x y) a aV ag z m w id:=by
  obtain⟨bq,cT,cA,aQ,a8,cN,dP,fF,fg,_⟩:=aeF bu ar az df bt ai bL G ah M aw cC eg ay ao;exact⟨bq,cT,cA,aQ,a8,cN,dP,fF,fg⟩
theorem ax4{c:Call}{x y:Operand}{t bp e:TypeId}{bB:TypeInfo}{J:List Value}{RV:IntKind}(bu:o.op= .call c)(ar:c.callee= .builtin .append)(az:c.args.toList=[x,y])(df:c.argTypes.toList=[t,bp])
    (bt:P.underlying t=some (.slice e)) (aY:P.underlying bp=some (.int RV)) (ai:P.info? e=some bB) (bL:oU P e=some J) (G:cL x=true) (ah:cL y=true)
    (M:gw ag cM z a) (aw:dr aV ag m w) (cC:aV<=w.heap.size) (eg:id<m.next) (ay:ag id=none)
    (ao:(ad.me J.length bB.bytes J x y).ok z m=true):og P o (.me J.length bB.bytes J x y) a aV ag z m w id:=by
  obtain⟨PT,hd,hE,nu,mr,fy,eS⟩:=yj bL;rw[ai]at hE;cases hE;have tX:hd.cells.size=bB.size:=by rw[<-eS,<-mr];simp
  simp only[ad.ok,aX,eM]at ao;obtain⟨⟨⟨⟨⟨D,H⟩,aq⟩,aF⟩,br⟩,cR⟩:=ao;have mB:=M.X G;rw[LW D]at mB;have mV:=mB.hB rfl;obtain⟨aU,k,dT,np⟩:=p8 (M.X ah) H;simp only[np,eR]at aq aF br;obtain⟨n,rfl⟩: ∃n:Nat,dT=n:=⟨dT.toNat,by omega⟩;have aim:n*bB.bytes<=281474976710656:=by have:((n*bB.bytes:Nat):Int)<=140737488355328:=(by rw[Int.natCast_mul];exact aF);omega
  have hs:=Lib.run_append_nil_zeros (P:=P) w t bp o.type e bB hd k RV bt aY ai nu n (by omega) (by omega) (by omega) aim;have tQ:=grownCap_ge w n 0 e;have pc:grownCap w n 0 e<=maxLen:=grownCap_le_maxLen w _ 0 e (by unfold maxLen;omega);generalize grownCap w n 0 e=It at hs tQ pc;have iL:(Builtin.zeroCells hd.cells n++Builtin.zeroCells hd.cells (It-n)).size=It*bB.size:=by simp only[Array.size_append,size_zeroCells,tX,<-kR];congr 1;omega
  have rJ: ∀v∈(List.replicate n J).flatten,dO v=true:=Jl (λv=>dO v=true) (λv ab=>eD.1 fy v ab) _;refine⟨_,_,ha ag id ⟨w.heap.size,0,It*bB.size⟩,Ie bu ar az df mV (aU.trans np) hs,rk ay,uM,?_,?_,sm (w:=w) (cX:=w.drew) rfl rfl rfl rfl cC _⟩
  · simp only[ad.val,np,eR,rn];exact .slice (off:=0) (l:=⟨w.heap.size,0,It*bB.size⟩) (by simp[ha]) (.inr ⟨by simp,by rw[eS];simp⟩) tQ pc
  · simp only[ad.gu,np,eR,rn];refine aw.Ag (cX:=w.drew) rfl cC eg ay (by rw[yM,eS];exact qt _ tQ) (by rw[iL];exact ev _) (λi v ab=> ?_) (λi _=>by simp);have kD:i<n*J.length:=(by have:=(ek.1 ab).1;rwa [yM]at this);refine⟨vh (rJ v (hR ab)),v,?_,.cv (rJ v (hR ab))⟩;have hz:(Builtin.zeroCells hd.cells n).toList=(List.replicate n J).flatten:=(by rw[<-mr];exact Mj (by omega) n);rw[Il (by rw[size_zeroCells,tX,<-eS];exact kD),<-Dx,hz];exact ab
theorem Uf{c:Call}{x:Operand}{t:TypeId}{bp r:Value}{cT:World}(bu:o.op= .call c)(ar:c.callee= .builtin .clear)(az:c.args.toList=[x])(df:c.argTypes.toList=[t])
    (G:a.eval x=bp) (h:(Builtin.clear_ #[t] o.type #[bp]).run P w= .ok r cT):iu P o a w r cT:=by
  refine .inl ?_;have mS:c.args= #[x]:=by rw[<-pG (xs:=c.args),az]
  have vl:c.argTypes= #[t]:=by rw[<-pG (xs:=c.argTypes),df]
  simp[execOp,bu,resolve,ar,mS,vl,invoke,builtin,G,h]
theorem aee{b:Nat}{y:fm}(h:m.Y b=some y):m.a4 b (some y)=m:=by
  have H:m.iv b=some y:=by
    unfold W.Y at h;split at h
    · exact h
    · cases h
  unfold W.a4;cases m with
  | mk n aCF mp=>
    simp only[W.mk.injEq,true_and,and_true];funext i;split
    · rename_i e;rw[e];exact H.symm
    · rfl
theorem ax7{c:Call}{x:Operand}{t e:TypeId}{J:List Value}(bu:o.op= .call c)(ar:c.callee= .builtin .clear)(az:c.args.toList=[x])(df:c.argTypes.toList=[t])
    (bt:P.underlying t=some (.slice e)) (bL:oU P e=some J) (G:cL x=true) (M:gw ag cM z a) (aw:dr aV ag m w)
    (ao:(ad.hg J x).ok z m=true):og P o (.hg J x) a aV ag z m w id:=by
  obtain⟨bB,hd,ai,nu,mr,fy,eS⟩:=yj bL;have tX:hd.cells.size=bB.size:=by rw[<-eS,<-mr];simp
  simp only[ad.ok,aX,eM]at ao;obtain⟨⟨D,H⟩,aq⟩:=ao;have mB:=M.X G;rcases AG D with gX|⟨b,off,len,tn,gX,p2,E3⟩
  · rw[gX]at mB;have mV:=mB.hB rfl;refine⟨undef,w,ag,Uf bu ar az df mV (by simp[Builtin.clear_,run_underlying bt,undef]),fW.refl ag,λ_ _=>rfl,dw.undef ag,?_,Below.refl _ _⟩;simp only[ad.gu,gX,mf];exact aw
  · rw[gX]at mB;obtain⟨l,dD,cap,aC,_,mV,ax,fJ,_⟩:=mB.mu
    replace aC:ag b=some l:=aC
    replace ax:(cap=0/\len=0)\/(dD=⟨l.c,l.o+off,none⟩/\off+cap*J.length<=l.n):=ax
    have iK:tn.own=true:=(by simpa[gX,jG,p2]using H);obtain⟨dj,iJ,a7,bD,b4⟩:=aw.lI b tn p2;rw[aC]at iJ;cases iJ;have mn:(ad.hg J x).gu id z m=m.a4 b (some ⟨gx tn.cells off (List.replicate len J).flatten,tn.own⟩):=(by simp only[ad.gu,gX,mf,p2]);by_cases c5:len=0
    · subst c5;refine⟨undef,w,ag,Uf bu ar az df mV (by simp[Builtin.clear_,run_underlying bt,undef]),fW.refl ag,λ_ _=>rfl,dw.undef ag,?_,Below.refl _ _⟩;rw[mn];have:m.a4 b (some ⟨gx tn.cells off (List.replicate 0 J).flatten,tn.own⟩)=m:=aee p2;rw[this];exact aw
    · rcases ax with⟨_,aij⟩|⟨rfl,aEy⟩
      · exact absurd aij c5
      have j0:(Builtin.zeroCells hd.cells len).toList=(List.replicate len J).flatten:=(by rw[<-mr];exact Mj (by omega) len);have rJ: ∀v∈(List.replicate len J).flatten,dO v=true:=Jl (λv=>dO v=true) (λv ab=>eD.1 fy v ab) _;have vp:(List.replicate len J).flatten.length=len*J.length:=yM J len;have ox:=run_storeCells_cells (P:=P) l.c (l.o+off) (List.replicate len J).flatten 0 w (λj bx=>by
        have:=((b4 iK).2 (off+j) (by simp only[vp]at bx;omega)).1
        rwa [<-oY]at this) (λj bx=>by
        have:=((b4 iK).2 (off+j) (by simp only[vp]at bx;omega)).2
        rwa [<-oY]at this) (λbp aY=>by rw[So];exact vh (rJ bp aY))
      simp only[Nat.add_zero]at ox;refine⟨undef,w.setCells l.c (l.o+off) (List.replicate len J).flatten,ag,Uf bu ar az df mV ?_,fW.refl ag,λ_ _=>rfl,dw.undef ag,?_,IN (b4 iK).1 _ _ _⟩
      · have PN: ∀w:World,(zeroValue e).run P w= .ok hd w:= λw=>by simp[zeroValue,typeInfo,ai,nu]
        obtain⟨k,rfl⟩: ∃k,len=k+1:=⟨len-1,by omega⟩;simp[Builtin.clear_,run_underlying bt,PN,j0,ox,undef]
      · rw[mn];exact aw.store p2 iK aC (cU.cv ag (eD.2 rJ)) (λv ab=>vh (rJ v ab)) (by rw[vp];exact E3)
end
end Go.DI
