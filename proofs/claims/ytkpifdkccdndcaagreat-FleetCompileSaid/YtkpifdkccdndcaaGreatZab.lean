/-
  A part of the proof of the statement, in texts that tools of ours (wip/shrink.py, irpack.py, relax.py, minify.py, join.py, lay.py) have shortened.
-/
import Derived.ChangeKeysEq
import Derived.Test.YtkpifdkccdndcaaGreatZaa
set_option linter.all false
set_option maxRecDepth 8000
set_option maxHeartbeats 16000000
namespace Go.DI
open Go Go.RowKit
section
variable {P:Program} {w:World} {o:Oper} {a:Act}
theorem aEg{t:TypeId}{dX:Array (Nat×Operand)}{cells:Array Value}{b8:TypeInfo}{O:Value}{gA:Array Field}(b7:o.op= .build t dX)(aa:P.info? t=some b8)(bY:b8.zero=some O)
    (bH:P.underlying t=some (.struct gA)) (w1:gA.toList.all (λf=>(mQ P f.type).isSome)=true)
    (aI: ∀yR:Nat->Option (Nat×Nat),(∀i,yR i=(gA[i]?).bind λ(f:Field)=>(P.info? f.type).map λb8=>(f.offset,b8.size))->Instr.fill yR O.cells (dX.toList.map λp=>(p.1,a.eval p.2))=some cells):
    lH P o a w (.agg cells) w:=by
  refine .inl ?_;obtain⟨yQ,z,D⟩:=azr (P:=P) (w:=w) gA.toList w1;have Z:=aI (λi=>yQ.toArray[i]?) (λi=>by simpa using D i);have aX:(gA.mapM (m:=Sem) λ(f:Field)=>do pure (f.offset,<-sizeOf f.type)).run P w= .ok yQ.toArray w:=by rw[Array.mapM_eq_mapM_toList];simp only[Sem.run_map,z];rfl
  simp only[execOp,b7,Instr.build,Sem.run_bind,run_underlying bH,zeroValue,typeInfo,run_program,aa,bY,Sem.run_pure,Result.andThen_ok,aX];have cC:Instr.fill (λx=>yQ[x]?) O.cells (List.map (λx=>(x.fst,a.eval x.snd)) dX.toList)=some cells:=by simpa using Z
  simp[cC]
theorem aEn{t:TypeId}{x:Operand}{i:Nat}{gA:Array Field}{f:Field}{b8:TypeInfo}{b:Bool}{cs:Array Value}(b7:o.op= .field t x i)(bH:P.underlying t=some (.struct gA))(aI:gA[i]?=some f)
    (aa:P.info? f.type=some b8) (L:rA P f.type=some b) (H:a.eval x= .agg cs) (ak:f.offset+b8.size<=cs.size) (z:b=true\/b8.size=1):
    lH P o a w (if b then .agg (cs.toList.drop f.offset|>.take b8.size).toArray else cs.toList.getD f.offset undef) w:=by
  refine .inl ?_;have D:=ab2 (w:=w) L;simp only[execOp,b7,H,Instr.field,Sem.run_bind,run_underlying bH,Result.andThen_ok,aI,asAgg,Sem.run_pure,part,D];cases b
  · have Z:b8.size=1:=(by simpa using z);have aw:f.offset<cs.size:=(by omega);simp[aw]
  · simp only[if_true,Sem.run_bind,sizeOf,typeInfo,run_program,aa,Sem.run_pure,Result.andThen_ok];congr 3;apply Array.toList_inj.1;simp[Array.toList_extract]
theorem aEh{t e:TypeId}{n:Nat}{dX:Array (Nat×Operand)}{cells:Array Value}{b8 Gg:TypeInfo}{O:Value}(b7:o.op= .build t dX)(aa:P.info? t=some b8)(bY:b8.zero=some O)
    (bH:P.underlying t=some (.array n e)) (aU:P.info? e=some Gg)
    (aI:Instr.fill (λi=>some (i*Gg.size,Gg.size)) O.cells (dX.toList.map λp=>(p.1,a.eval p.2))=some cells):lH P o a w (.agg cells) w:=by
  refine .inl ?_;simp[execOp,b7,Instr.build,run_underlying bH,zeroValue,sizeOf,typeInfo,aa,bY,aU,aI]
theorem amU(fC:Bool): ∀(xs:List Value) (ef:Value),fU ef=true->(∀x∈xs,fU x=true)->
    (xs.foldlM (m:=Sem) (if fC then Builtin.max2 else Builtin.min2) ef).run P w= .ok (xs.foldl (λef y=>if fC then qL ef y else qM ef y) ef) w
  |[],_,_,_=>by simp
  | x::xs,ef,h,H=>by have z:((if fC then Builtin.max2 else Builtin.min2) ef x).run P w= .ok (if fC then qL ef x else qM ef x) w:=(by have V2:=H x (by simp);cases ef<;>simp[fU]at h;cases x<;>simp[fU]at V2;cases fC<;>simp[Builtin.max2,Builtin.min2,qL,qM]);have D:fU (if fC then qL ef x else qM ef x)=true:=(by have V2:=H x (by simp);cases ef<;>simp[fU]at h;cases x<;>simp[fU]at V2;cases fC<;>simp[qL,qM,fU]);simp only[List.foldlM_cons,Sem.run_bind,z,Result.andThen_ok,List.foldl_cons];exact amU fC xs _ D (λy ah=>H y (by simp[ah]))
theorem aoo{c:Call}{fC:Bool}{x:Operand}{xs:List Operand}(b7:o.op= .call c)(aB:c.callee= .builtin (if fC then .max else .min))(aE:c.args.toList=x::xs)
    (z:fU (a.eval x)=true) (D: ∀y∈xs,fU (a.eval y)=true):lH P o a w (xs.foldl (λef y=>if fC then qL ef (a.eval y)else qM ef (a.eval y)) (a.eval x)) w:=by
  refine .inl ?_;have Z:(c.args.map a.eval).toList=a.eval x::xs.map a.eval:=by simp[aE]
  have aw:=amU (P:=P) (w:=w) fC (xs.map a.eval) (a.eval x) z (by simpa using D);rw[List.foldl_map]at aw;cases fC
  · simp only[execOp,b7,resolve,aB,invoke,builtin,Sem.run_bind,Sem.run_pure,Result.andThen_ok,Bool.false_eq_true,if_false,Builtin.min_,Z];simp only[Bool.false_eq_true,if_false]at aw;simp[aw]
  · simp only[execOp,b7,resolve,aB,invoke,builtin,Sem.run_bind,Sem.run_pure,Result.andThen_ok,if_true,Builtin.max_,Z];simp only[if_true]at aw;simp[aw]
theorem Nk: ∀(bp dc:List rE) (xs ys:List Value),kb (bp++dc) xs ys=true->kb bp (xs.take bp.length) (ys.take bp.length)=true/\kb dc (xs.drop bp.length) (ys.drop bp.length)=true/\
    ny xs ys=(ny (xs.take bp.length) (ys.take bp.length)&&ny (xs.drop bp.length) (ys.drop bp.length))
  |[],dc,xs,ys,h=>by simpa[kb,ny]using h
  |k::bp,dc,[],ys,h=>by simp[kb]at h
  |k::bp,dc,x::xs,[],h=>by simp[kb]at h
  | k::bp,dc,x::xs,y::ys,h=>by simp only[List.cons_append,kb,Bool.and_eq_true]at h;obtain⟨z,D,Z⟩:=Nk bp dc xs ys h.2;exact⟨by simp[kb,h.1,z],by simpa using D,by simp[ny,Z,Bool.and_assoc]⟩
theorem Nl: ∀(gG:List rE) (xs ys:List Value),kb gG xs ys=true->xs.length=gG.length/\ys.length=gG.length
  |[],[],[],_=>by simp
  |[],[],_::_,h=>by simp[kb]at h
  |[],_::_,_,h=>by simp[kb]at h
  |_::_,[],_,h=>by simp[kb]at h
  |_::_,_::_,[],h=>by simp[kb]at h
  | k::gG,x::xs,y::ys,h=>by simp only[kb,Bool.and_eq_true]at h;have:=Nl gG xs ys h.2;simp[this]
def wH(ep:Bool)(xs:List Value):Value:=if ep then .agg xs.toArray else xs.headD undef
theorem Aq{xs:List Value}(h:xs.length=1): ∃x,xs=[x]:=by
  match xs,h with
  |[x],_=>exact⟨x,rfl⟩
theorem Si{t:TypeId}{b:Bool}{n off:Nat}{xs:List Value}(L:rA P t=some b)(ak:mQ P t=some n)(z:b=true\/n=1)(aG:off+n<=xs.length):
    (part t xs.toArray off).run P w= .ok (wH b ((xs.drop off).take n)) w:=by
  obtain⟨b8,aa,rfl⟩:=vi ak;simp only[part,Sem.run_bind,ab2 L,Result.andThen_ok];cases b
  · have D:b8.size=1:=(by simpa using z);have Z:off<xs.length:=(by omega);simp only[Bool.false_eq_true,if_false,wH,D];simp[List.getElem?_eq_getElem Z,List.take_one,List.headD]
  · simp only[if_true,Sem.run_bind,sizeOf,typeInfo,run_program,aa,Sem.run_pure,Result.andThen_ok,wH];congr 2;apply Array.toList_inj.1;simp
theorem NB: ∀(d aW:Nat) (t:TypeId) (gG:List rE) (xs ys:List Value),wN P d t=some gG->d<=aW->kb gG xs ys=true->
    ∃b,rA P t=some b/\mQ P t=some gG.length/\(b=true\/gG.length=1)/\(Op.equalIn aW t (wH b xs) (wH b ys)).run P w= .ok (ny xs ys) w
  |0,_,_,_,_,_,h,_,_=>by simp[wN]at h
  |d+1,0,_,_,_,_,_,h,_=>by omega
  | d+1,aW+1,t,gG,xs,ys,h,mm,aG=>by
    obtain⟨uY,qK⟩:=Nl gG xs ys aG;unfold wN at h;split at h
    · rename_i n bk ak;split at h<;>cases h;rename_i e;subst e;obtain⟨x,rfl⟩:=Aq uY;obtain⟨y,rfl⟩:=Aq qK;refine⟨false,by simp[rA,bk],ak,.inr rfl,?_⟩;cases x<;>cases y<;>simp[kb,Bc]at aG;simp only[wH,Bool.false_eq_true,if_false,List.headD_cons,ny,o8,Bool.and_true];exact run_equalIn_bool' w aW t _ _ bk
    · rename_i k n bk ak;split at h<;>cases h;rename_i e;subst e;obtain⟨x,rfl⟩:=Aq uY;obtain⟨y,rfl⟩:=Aq qK;refine⟨false,by simp[rA,bk],ak,.inr rfl,?_⟩;cases x<;>cases y<;>simp[kb,Bc]at aG;subst aG;simp only[wH,Bool.false_eq_true,if_false,List.headD_cons,ny,o8,Bool.and_true];exact run_equalIn_int w aW t _ _ _ _ bk
    · rename_i n bk ak;split at h<;>cases h;rename_i e;subst e;obtain⟨x,rfl⟩:=Aq uY;obtain⟨y,rfl⟩:=Aq qK;refine⟨false,by simp[rA,bk],ak,.inr rfl,?_⟩;cases x<;>cases y<;>simp[kb,Bc]at aG;simp only[wH,Bool.false_eq_true,if_false,List.headD_cons,ny,o8,Bool.and_true];rw[run_equalIn_string w aW t _ _ bk,toList_beq]
    · rename_i gA n bk ak;split at h
      · rename_i aKQ tz;split at h
        · rename_i aB;cases h;simp only[Bool.and_eq_true,decide_eq_true_eq,Bool.not_eq_true']at aB;obtain⟨rfl,c1⟩:=aB;refine⟨true,by simp[rA,bk],ak,.inl rfl,?_⟩;simp only[wH,if_true];have Jx:P.fieldsOf t=gA:=(by simp[Program.fieldsOf,bk]);rw[run_equalIn_struct w aW t _ _ (by rw[Jx];exact bk) c1,Jx]
          -- lX aH9,ha M9 lX hM
          have key: ∀(h9:List Field) (off:Nat) (Ew:List rE),IS (wN P d) h9 off=some Ew->kb Ew (xs.drop off) (ys.drop off)=true->
              (Op.eqFields aW xs.toArray ys.toArray h9).run P w= .ok (ny (xs.drop off) (ys.drop off)) w:=by
            intro h9;induction h9 with
            | nil=>intro off Ew z D;simp[IS]at z;subst z;cases H:xs.drop off<;>cases ah:ys.drop off<;>simp[H,ah,kb]at D;simp[Op.eqFields,ny]
            | cons f h9 cb=>
              intro off Ew z D;simp only[IS]at z;split at z
              · rename_i aB;simp only[Bool.and_eq_true,bne_iff_ne,ne_eq,beq_iff_eq]at aB;obtain⟨bO,JJ⟩:=aB;split at z
                · rename_i bp tx;split at z
                  · rename_i dc r2;split at z<;>cases z;rename_i aup;obtain⟨aC,a2,bS⟩:=Nk bp dc _ _ D;obtain⟨b,aM,a1,cI,fe⟩:=NB d aW f.type bp _ _ tx (by omega) aC;have fM:=(Nl _ _ _ D);simp only[List.length_drop,List.length_append]at fM;have dK:=Si (w:=w) (off:=off) (xs:=xs) aM a1 cI (by omega);have eO:=Si (w:=w) (off:=off) (xs:=ys) aM a1 cI (by omega);simp only[List.drop_drop]at a2 bS;have Z:=cb (off+bp.length) dc r2 a2;simp only[Op.eqFields,bO,ne_eq,not_false_eq_true,if_true,Sem.run_bind,JJ,dK,eO,Result.andThen_ok,fe,bS,Sem.run_ite,Sem.run_pure,Z];cases ny (List.take bp.length (List.drop off xs)) (List.take bp.length (List.drop off ys))<;>simp
                  · cases z
                · cases z
              · cases z
          have:=key gA.toList 0 _ tz (by simpa using aG);simpa using this
        · cases h
      · cases h
    · -- acB array
      rename_i k e n bk ak;split at h
      · rename_i bp tz;split at h
        · rename_i aB;cases h;simp only[Bool.and_eq_true,decide_eq_true_eq]at aB;obtain⟨rfl,aup⟩:=aB;have gH: ∀r:Nat,(List.replicate r bp).flatten.length=r*bp.length:=by
            intro r;induction r with
            |zero=>simp
            |succ r cb=>rw[List.replicate_succ,List.flatten_cons,List.length_append,cb,Nat.add_mul];omega
          refine⟨true,by simp[rA,bk],by rw[ak,gH],.inl rfl,?_⟩;simp only[wH,if_true];by_cases F4:k=0
          · subst F4;simp only[List.replicate_zero,List.flatten_nil]at aG uY qK;have aM:xs=[]:=List.length_eq_zero_iff.1 uY;have a1:ys=[]:=List.length_eq_zero_iff.1 qK;subst aM a1;simp[Op.equalIn,run_underlying bk,ny,sizeOf,typeInfo];cases aa:P.info? e with
            | none=>
              -- lX aH1 type qG ri,as aky aKP aGO
              exfalso;cases d with
              |zero=>simp[wN]at tz
              | succ d=>unfold wN at tz;have:mQ P e=none:=(by simp[mQ,aa]);simp[this]at tz
            |some i=>simp
          · obtain⟨gu,rfl⟩: ∃gu,k=gu+1:=⟨k-1,by omega⟩;have nE:=aG;rw[List.replicate_succ,List.flatten_cons]at nE;obtain⟨aC,_,_⟩:=Nk bp _ xs ys nE;obtain⟨mU,_,a1,_,_⟩:=NB d aW e bp _ _ tz (by omega) aC;obtain⟨b8,aa,iQ⟩:=vi a1;have zQ:P.cellsOf e=bp.length:=(by simp[Program.cellsOf,aa,iQ]);rw[run_equalIn_array w aW xs.toArray ys.toArray bk aa,zQ,List.range_eq_range']
            have key: ∀(r j:Nat),kb (List.replicate r bp).flatten (xs.drop (j*bp.length)) (ys.drop (j*bp.length))=true->
                (Op.eqItems aW e bp.length xs.toArray ys.toArray (List.range' j r)).run P w= .ok (ny (xs.drop (j*bp.length)) (ys.drop (j*bp.length))) w:=by
              intro r;induction r with
              | zero=>intro j D;simp only[List.replicate_zero,List.flatten_nil]at D;cases H:xs.drop (j*bp.length)<;>cases ah:ys.drop (j*bp.length)<;>simp[H,ah,kb]at D;simp[Op.eqItems,ny]
              | succ r cb=>intro j D;rw[List.replicate_succ,List.flatten_cons]at D;obtain⟨aC,a2,bS⟩:=Nk bp _ _ _ D;obtain⟨b,aM,a1,cI,fe⟩:=NB d aW e bp _ _ tz (by omega) aC;have fM:=Nl _ _ _ D;simp only[List.length_drop,List.length_append]at fM;have dK:=Si (w:=w) (off:=j*bp.length) (xs:=xs) aM a1 cI (by omega);have eO:=Si (w:=w) (off:=j*bp.length) (xs:=ys) aM a1 cI (by omega);simp only[List.drop_drop]at a2 bS;have cp:j*bp.length+bp.length=(j+1)*bp.length:=(by rw[Nat.add_mul];omega);rw[cp]at a2 bS;have Z:=cb (j+1) a2;rw[List.range'_succ];simp only[Op.eqItems,Sem.run_bind,dK,eO,Result.andThen_ok,fe,bS,Sem.run_ite,Sem.run_pure,Z];cases ny (List.take bp.length (List.drop (j*bp.length) xs)) (List.take bp.length (List.drop (j*bp.length) ys))<;>simp
            have:=key (gu+1) 0 (by simpa using aG);simpa using this
        · cases h
      · cases h
    · cases h
termination_by d=>d
theorem aEk{op:BinOp}{t CU:TypeId}{x y:Operand}{gG:List rE}{xs ys:Array Value}(bV:Bool)(b7:o.op= .binOp op t x y CU)(aU:op=if bV then .neq else .eql)(aI:wN P 8 t=some gG)
    (aj:P.eqGuardType P.depth t=false) (iU:rB P t= .agg) (H:a.eval x= .agg xs) (ah:a.eval y= .agg ys) (aG:kb gG xs.toList ys.toList=true):
    lH P o a w (.bool (if bV then !ny xs.toList ys.toList else ny xs.toList ys.toList)) w:=by
  obtain⟨b,z,_,_,aw⟩:=NB (P:=P) (w:=w) 8 10000 t gG xs.toList ys.toList aI (by omega) aG;have L:b=true:=by
    unfold rB at iU;unfold rA at z;split at iU<;>first|cases iU|skip
    · rename_i bk;simp only[bk]at z;cases z;rfl
    · rename_i bk;simp only[bk]at z;cases z;rfl
  subst L;simp only[wH,if_true,Array.toArray_toList]at aw;refine MM b7 (by rw[H,ah];exact run_eqGuard_agg w op t x y xs ys aj) ?_;rw[H,ah];cases bV
  · simp only[Bool.false_eq_true,if_false]at aU⊢;subst aU;rw[run_eql_struct,aw];rfl
  · simp only[if_true]at aU⊢;subst aU;rw[run_neq_struct,aw];rfl
end
def av.pure:av->Bool
  | .eR _| .o7 _| .iT _ _ _ _| .fj _ _ _| .sq _ _ _| .store _ _ _| .qk _| .rN _| .nk _ _ _ _ _| .app _ _ _ _| .eI _ _| .lZ _ _| .qB _ _ _| .oS| .pY _ _ _ _ _| .pl _ _ _ _=>false
  |_=>true
section
variable {P:Program} {w:World} {o:Oper} {a:Act} {ax:fE} {ek:Nat} {u:aL} {m:B}
theorem Hj(J:jf ax ek u a): ∀(xs:List Operand),xs.all dZ=true->dy ax (xs.map (ab u)) (xs.map a.eval)
  |xs,h=>dy.Hl _ _ xs λx H=>J.ab (List.all_eq_true.1 h x H)
theorem akt{v:Value}(h:fU v=true):fg v=true:=by cases v<;>simp[fU]at h<;>rfl
theorem uR{aJ v:Value}(h:eE ax aJ v)(aa:fU aJ=true):v=aJ/\ ∃k n,aJ= .int k n:=by cases aJ<;>simp[fU]at aa;exact⟨h.rg,_,_,rfl⟩
theorem Z5(fC:Bool)(J:jf ax ek u a): ∀(xs:List Operand) (ef:Value),xs.all dZ=true->(xs.all λy=>fU (ab u y))=true->
    xs.foldl (λef y=>if fC then qL ef (a.eval y)else qM ef (a.eval y)) ef=xs.foldl (λef y=>if fC then qL ef (ab u y)else qM ef (ab u y)) ef
  |[],_,_,_=>rfl
  | x::xs,ef,z,D=>by simp only[List.all_cons,Bool.and_eq_true]at z D;have:=(uR (J.ab z.1) D.1).1;simp only[List.foldl_cons,this];exact Z5 fC J xs _ z.2 D.2
theorem Z4(fC:Bool): ∀(xs:List Operand) (ef:Value),fU ef=true->(xs.all λy=>fU (ab u y))=true->
    fU (xs.foldl (λef y=>if fC then qL ef (ab u y)else qM ef (ab u y)) ef)=true
  |[],_,h,_=>h
  | x::xs,ef,z,D=>by simp only[List.all_cons,Bool.and_eq_true]at D;simp only[List.foldl_cons];refine Z4 fC xs _ ?_ D.2;cases ef<;>simp[fU]at z;have Z:=D.1;cases H:ab u x<;>simp[H,fU]at Z;cases fC<;>simp[qL,qM,fU]
theorem ac2: ∀(gG:List rE) (xs ys fm c2:List Value),kb gG xs ys=true->dy ax xs fm->dy ax ys c2->fm=xs/\c2=ys
  | [],[],[],fm,c2,_,z,D=>by have aM:=z.1;have a1:=D.1;simp at aM a1;exact⟨List.length_eq_zero_iff.1 aM.symm,List.length_eq_zero_iff.1 a1.symm⟩
  |[],[],_::_,_,_,h,_,_=>by simp[kb]at h
  |[],_::_,_,_,_,h,_,_=>by simp[kb]at h
  |_::_,[],_,_,_,h,_,_=>by simp[kb]at h
  |_::_,_::_,[],_,_,h,_,_=>by simp[kb]at h
  |_::_,_::_,_::_,[],_,_,h,_=>by simp[dy]at h
  |_::_,_::_,_::_,_::_,[],_,_,h=>by simp[dy]at h
  | k::gG,x::xs,y::ys,aJ::fm,v::c2,h,z,D=>by simp only[kb,Bool.and_eq_true]at h;obtain⟨aM,a1⟩:=ac2 gG xs ys fm c2 h.2 ⟨by simpa using z.1,λi p q aq bt=>z.2 (i+1) p q (by simpa using aq) (by simpa using bt)⟩ ⟨by simpa using D.1,λi p q aq bt=>D.2 (i+1) p q (by simpa using aq) (by simpa using bt)⟩;have e6:=z.2 0 x aJ rfl rfl;have fw:=D.2 0 y v rfl rfl;have aG:=h.1;have dk:fg x=true/\fg y=true:=(by cases k<;>cases x<;>cases y<;>simp[Bc]at aG<;>exact⟨rfl,rfl⟩);exact⟨by rw[aM,e6.lo dk.1],by rw[a1,fw.lo dk.2]⟩
theorem adB{op:BinOp}{t CU:TypeId}{x y:Operand}{gG:List rE}(bV:Bool)(b7:o.op= .binOp op t x y CU)(aU:op=if bV then .neq else .eql)(aI:wN P 8 t=some gG)
    (aj:P.eqGuardType P.depth t=false) (iU:rB P t= .agg) (J:jf ax ek u a) (H:dZ x=true) (ah:dZ y=true) (aA:(av.rQ bV gG x y).ok u m=true) (id:Nat):
    ∃bW,lH P o a w bW w/\eE ax ((av.rQ bV gG x y).val id u m) bW:=by
  simp only[av.ok,Bool.and_eq_true]at aA;obtain⟨⟨z,D⟩,Z⟩:=aA;have wj:=J.ab H;have u5:=J.ab ah;simp only[av.val];cases bk:ab u x<;>simp only[bk,tK]at z<;>try cases z
  cases X:ab u y<;>simp only[X,tK]at D<;>try cases D
  rename_i xs ys;rw[bk]at wj;rw[X]at u5;obtain⟨fm,aM,e6⟩:=wj.vQ;obtain⟨c2,a1,fw⟩:=u5.vQ;simp only[bk,X,al]at Z;obtain⟨aC,a2⟩:=ac2 gG _ _ _ _ Z e6 fw;have nz:=Array.toList_inj.1 aC;have qt:=Array.toList_inj.1 a2;subst nz;subst qt;exact⟨_,aEk bV b7 aU aI aj iU aM a1 Z,.c0 rfl⟩
theorem My{aJ v:Value}(h:eE ax aJ v)(aa:nh aJ=true):v=aJ/\ ∃s,aJ= .string s:=by cases aJ<;>simp[nh]at aa;exact⟨h.z0,_,rfl⟩
theorem aAT{k:av}(W:Bb P o=some k)(aq:k.pure=true)(J:jf ax ek u a)(aA:k.ok u m=true)(id:Nat):
    ∃bW,lH P o a w bW w/\eE ax (k.val id u m) bW:=by
  unfold Bb at W;split at W
  · -- move
    rename_i x b7;split at W<;>cases W;rename_i H;exact⟨_,aEu b7,J.ab H⟩
  · rename_i x b7;split at W<;>cases W;rename_i H;exact⟨_,aEe b7,J.ab H⟩
  · -- s4
    rename_i c x y b7;split at W<;>cases W;rename_i H;simp only[Bool.and_eq_true]at H;have aB:=J.ab H.1.1;simp only[av.ok]at aA;cases X:ab u c<;>simp[X,vT]at aA;rw[X]at aB;refine⟨_,aEw b7 aB.tJ,?_⟩;simp only[av.val,X,xR];split
    · exact J.ab H.1.2
    · exact J.ab H.2
  · -- nilCheck
    rename_i x b7;split at W<;>cases W;rename_i H;have aF:=J.ab H;simp only[av.ok]at aA;refine⟨_,aEv b7 ?_,aF⟩;generalize ab u x=aJ at aF aA;generalize a.eval x=v at aF;cases aF<;>simp_all [Eo];rename_i fn _ _ _ _ _ _ _ _;cases fn<;>simp_all
  · split at W<;>cases W;simp[av.pure]at aq
  · split at W<;>cases W;simp[av.pure]at aq
  · -- gT
    rename_i t dX b7;split at W
    · rename_i gA O bH bY;split at W
      · rename_i jv VM;split at W<;>cases W;rename_i w1;obtain⟨b8,lb,aa,tI,pf,oK,gH⟩:=HV bY;obtain⟨aC,a2⟩:=adO _ _ VM;simp only[av.ok]at aA
        let yR:Nat->Option (Nat×Nat):= λi=>(gA[i]?).bind λ(f:Field)=>(P.info? f.type).map λb8=>(f.offset,b8.size)
        obtain⟨b1,z,D,Ji⟩:=NG J yR dX.toList jv O lb.cells ⟨aC,λi p q xa bt=>by obtain⟨aM,a1,f,afP,cI,fe,mi,og⟩:=a2 i p q xa bt;exact⟨aM,a1,by simp[yR,cI,fe,mi,og]⟩⟩ (by rw[pf];exact dy.c0 ax oK) (λv X=>FC (List.all_eq_true.1 oK v X)) aA;refine⟨_,aEg (cells:=b1) b7 aa tI bH w1 (λyQ m0=>by have:yQ=yR:=funext m0;rw[this];exact z),?_⟩;have:=D.agg Ji;simp only[Array.toArray_toList]at this;exact this
      · cases W
    · rename_i n e O bH bY;split at W
      · rename_i Mz iQ;split at W<;>cases W;rename_i jv VM;obtain⟨b8,lb,aa,tI,pf,oK,gH⟩:=HV bY;obtain⟨Gg,aU,rfl⟩:=vi iQ;obtain⟨aC,a2⟩:=Ul _ _ VM;simp only[av.ok]at aA;obtain⟨b1,z,D,Ji⟩:=NG J (λi=>some (i*Gg.size,Gg.size)) dX.toList jv O lb.cells ⟨aC,λi p q xa bt=>by
          obtain⟨aM,a1,cI,fe⟩:=a2 i p q xa bt;exact⟨aM,a1,by simp[cI,fe]⟩⟩ (by rw[pf];exact dy.c0 ax oK) (λv X=>FC (List.all_eq_true.1 oK v X)) aA
        refine⟨_,aEh (cells:=b1) b7 aa tI bH aU z,?_⟩;have:=D.agg Ji;simp only[Array.toArray_toList]at this;exact this
      · cases W
    · cases W
  · repeat (split at W<;>try cases W)
    simp[av.pure]at aq
  · repeat (split at W<;>try cases W)
    simp[av.pure]at aq
  · repeat (split at W<;>try cases W)
    simp[av.pure]at aq
  · -- binOp
    rename_i op t x y CU b7;split at W
    · rename_i H;simp only[Bool.and_eq_true]at H;split at W
      · rename_i iU;split at W
        · rename_i gG aI;split at W<;>cases W;rename_i aj;exact adB false b7 rfl aI (by simpa using aj) iU J H.1 H.2 aA id
        · rename_i gG aI;split at W<;>cases W;rename_i aj;exact adB true b7 rfl aI (by simpa using aj) iU J H.1 H.2 aA id
        · cases W
      · cases W;exact aEf b7 (J.ab H.1) (J.ab H.2) aA
    · cases W
  · -- unOp
    rename_i op t x b7;split at W<;>cases W;rename_i H;simp only[av.ok]at aA;have aF:=J.ab H;have aU:a.eval x=ab u x:=by cases bk:ab u x<;>cases op<;>simp[bk,AV]at aA<;>rw[bk]at aF<;>first|exact aF.rg|exact aF.tJ
    refine⟨_,aEz b7 (by rw[aU];exact aA),?_⟩;simp only[av.val,aU];exact .c0 (by cases bk:ab u x<;>cases op<;>simp[bk,AV]at aA<;>simp[E6,fg])
  · -- convert
    rename_i s d x b7;split at W
    · rename_i cy k dB mm;split at W<;>cases W;rename_i H;simp only[av.ok]at aA;obtain⟨e,gN,n,X⟩:=uR (J.ab H) aA;refine⟨_,aEi b7 dB mm (by rw[e,X]),?_⟩;simp only[av.val,X,gd];exact .c0 rfl
    · rename_i dB mm;split at W<;>cases W;rename_i H;simp only[av.ok]at aA;obtain⟨e,b,X⟩:=My (J.ab H) aA;refine⟨_,aEj b7 dB mm (by rw[e,X]),?_⟩;simp only[av.val,X];exact .c0 rfl
    · repeat (split at W<;>try cases W)
      simp[av.pure]at aq
    · repeat (split at W<;>try cases W)
      simp[av.pure]at aq
    · cases W
  · repeat (split at W<;>try cases W)
    simp[av.pure]at aq
  · -- slice
    rename_i t x cZ aa fC b7;split at W
    · rename_i bH;split at W<;>cases W;rename_i aB;simp only[Bool.and_eq_true,Option.isNone_iff_eq_none]at aB;obtain⟨⟨⟨H,et⟩,ye⟩,rfl⟩:=aB;simp only[av.ok,Bool.and_eq_true,decide_eq_true_eq]at aA;obtain⟨⟨⟨⟨⟨z,D⟩,Z⟩,aw⟩,aX⟩,cC⟩:=aA;obtain⟨e,b,X⟩:=My (J.ab H) z;simp only[X,ic]at aX cC;refine⟨_,aEy b7 bH (by rw[e,X]) (C9 J et D 0 (by simpa using aw)) (C9 J ye Z b.size (by omega)) (by simp;omega) (by omega),?_⟩;simp only[av.val,X,ui,ic];exact .c0 rfl
    · rename_i e bH;split at W
      · rename_i O bY;split at W
        · split at W<;>cases W;rename_i aB;simp only[Bool.and_eq_true]at aB;obtain⟨⟨H,et⟩,ye⟩:=aB;simp only[av.ok,Bool.and_eq_true,decide_eq_true_eq]at aA;obtain⟨⟨⟨⟨⟨z,D⟩,Z⟩,aw⟩,aX⟩,cC⟩:=aA;obtain⟨b8,jE,rfl⟩:=vi bY;have aF:=J.ab H;simp only[av.val];cases bk:ab u x<;>simp only[bk,kA]at z<;>try cases z
          rename_i p len c;rw[bk]at aF;simp only[bk,ic]at aX cC;cases p with
          | none=>simp only[Bool.and_eq_true,beq_iff_eq]at z;obtain⟨rfl,rfl⟩:=z;have X:=aF.lo rfl;refine⟨_,aoq b7 bH jE X (C9 J et D 0 (by simpa using aw)) (C9 J ye Z 0 (by omega)) (by simp;omega) (by omega),?_⟩;have gi:(hJ u cZ (0:Nat)).toNat=0:=(by simp;omega);have aM:(hJ u aa (0:Nat)).toNat=0:=(by simp;omega);rw[gi,aM];simp only[n8];exact .c0 rfl
          | some fq=>
            simp only[Bool.and_eq_true,beq_iff_eq]at z;obtain⟨l,er,cap,aG,mr,X,ak,DH,uy⟩:=aF.r6;obtain⟨_,rfl⟩:=z;refine⟨_,aoq b7 bH jE X (C9 J et D 0 (by simpa using aw)) (C9 J ye Z len (by omega)) (by simp;omega) (by omega),?_⟩;simp only[n8,ic];have zZ:hJ u cZ ((0:Nat):Int)=hJ u cZ 0:=rfl;rw[zZ];generalize kq:(hJ u cZ 0).toNat=br;generalize Jm:(hJ u aa (len:Int)).toNat=kD;have as4:br<=kD:=(by omega);have aIG:kD<=len:=(by omega);by_cases eb:cap=br
            · rw[if_pos eb];exact .slice aG (.inl ⟨by omega,by omega⟩) (by omega) (by omega)
            · rw[if_neg eb];rcases ak with⟨rfl,rfl⟩|⟨rfl,ak⟩
              · omega
              · have aE:(⟨l.c,l.o+fq.off,none⟩:Addr).add (br*b8.size)=⟨l.c,l.o+(fq.off+br*b8.size),none⟩:=by
                  unfold Addr.add;split
                  · rename_i bB;rw[bB];simp
                  · simp[Nat.add_assoc]
                simp only[Option.map_some,aE];refine .slice aG (.inr ⟨rfl,?_⟩) (by omega) (by omega);have:br*b8.size+(cap-br)*b8.size=cap*b8.size:=(by rw[<-Nat.add_mul];congr 1;omega);omega
        · rename_i xz;split at W
          · rename_i an;split at W<;>cases W;rename_i aB;simp only[Bool.and_eq_true]at aB;obtain⟨⟨⟨H,et⟩,ye⟩,lk⟩:=aB;simp only[av.ok,Bool.and_eq_true,decide_eq_true_eq]at aA;obtain⟨⟨⟨⟨⟨⟨⟨z,D⟩,Z⟩,aw⟩,aX⟩,cC⟩,gn⟩,iP⟩:=aA;obtain⟨b8,jE,rfl⟩:=vi bY;have aF:=J.ab H;simp only[av.val];obtain⟨arK,RU,cb,aeY⟩:=uR (J.ab ye) Z;obtain⟨zE,ZK,OL,aeZ⟩:=uR (J.ab lk) aw;simp only[aeY,aeZ,gd]at cC gn iP⊢;cases bk:ab u x<;>simp only[bk,kA]at z<;>try cases z
            rename_i p len c;rw[bk]at aF;simp only[bk,ic]at iP;have N1:=C9 J et D 0 (by simpa using aX);have zZ:hJ u cZ ((0:Nat):Int)=hJ u cZ 0:=rfl;rw[zZ]at N1;have aeI: ∃(k:IntKind) (i:Int),a.eval an= .int k i/\0<=i/\i.toNat=cb.toNat:=⟨RU,cb,by rw[arK,aeY],by omega,rfl⟩;have aeJ: ∃(k:IntKind) (i:Int),a.eval xz= .int k i/\0<=i/\i.toNat=OL.toNat:=⟨ZK,OL,by rw[zE,aeZ],by omega,rfl⟩;cases p with
            | none=>simp only[Bool.and_eq_true,beq_iff_eq]at z;obtain⟨rfl,rfl⟩:=z;have X:=aF.lo rfl;refine⟨_,aop b7 bH jE X N1 aeI aeJ (by omega) (by omega) (by omega),?_⟩;have gi:(hJ u cZ 0).toNat=0:=(by omega);have aM:cb.toNat=0:=(by omega);have a1:OL.toNat=0:=(by omega);rw[gi,aM,a1];simp only[n8];exact .c0 rfl
            | some fq=>
              simp only[Bool.and_eq_true,beq_iff_eq]at z;obtain⟨l,er,cap,aG,mr,X,ak,DH,uy⟩:=aF.r6;obtain⟨_,rfl⟩:=z;refine⟨_,aop b7 bH jE X N1 aeI aeJ (by omega) (by omega) (by omega),?_⟩;simp only[n8];generalize kq:(hJ u cZ 0).toNat=br;generalize Jm:cb.toNat=kD;generalize aIJ:OL.toNat=C0;have as4:br<=kD:=(by omega);have aIF:kD<=C0:=(by omega);have aIK:C0<=len:=(by omega);by_cases eb:C0=br
              · rw[if_pos eb];exact .slice aG (.inl ⟨by omega,by omega⟩) (by omega) (by omega)
              · rw[if_neg eb];rcases ak with⟨rfl,rfl⟩|⟨rfl,ak⟩
                · omega
                · have aE:(⟨l.c,l.o+fq.off,none⟩:Addr).add (br*b8.size)=⟨l.c,l.o+(fq.off+br*b8.size),none⟩:=by
                    unfold Addr.add;split
                    · rename_i bB;rw[bB];simp
                    · simp[Nat.add_assoc]
                  simp only[Option.map_some,aE];refine .slice aG (.inr ⟨rfl,?_⟩) (by omega) (by omega);have ml:br*b8.size+(C0-br)*b8.size=C0*b8.size:=(by rw[<-Nat.add_mul];congr 1;omega);have Jh:C0*b8.size<=cap*b8.size:=Nat.mul_le_mul_right _ (by omega);show fq.off+br*b8.size+(C0-br)*b8.size<=l.n
                  replace ak:fq.off+cap*b8.size<=l.n:=ak
                  omega
          · cases W
      · cases W
    · (repeat' split at W)<;>cases W
      simp[av.pure]at aq
    · cases W
  · -- fieldAddr
    rename_i s x i b7;split at W
    · rename_i gA bH;split at W
      · rename_i f aI;split at W
        · rename_i n ak;split at W<;>cases W;rename_i aB;simp only[Bool.and_eq_true,decide_eq_true_eq]at aB;obtain⟨b8,aa,rfl⟩:=vi ak;simp only[av.ok]at aA;have aF:=J.ab aB.1;simp only[av.val];cases bk:ab u x<;>simp only[bk,s5]at aA<;>try cases aA
          rename_i p;rw[bk]at aF;cases p with
          |none=>cases aA
          | some fq=>obtain⟨l,aG,mr,X⟩:=aF.vR;refine⟨_,aEm b7 bH aI aa aB.2 X,?_⟩;simp only[yS,Nat.add_assoc];exact .bZ aG
        · cases W
      · cases W
    · cases W
  · -- field
    rename_i t x i b7;split at W
    · rename_i gA bH;split at W
      · rename_i f aI;split at W
        · rename_i b n L ak;split at W<;>cases W;rename_i H;obtain⟨b8,aa,rfl⟩:=vi ak;simp only[av.ok,Bool.and_eq_true,Bool.or_eq_true,decide_eq_true_eq]at aA;have aF:=J.ab H;simp only[av.val];cases bk:ab u x<;>simp only[bk,IX]at aA<;>try cases aA.1
          rename_i xs;rw[bk]at aF;obtain⟨ys,X,aG⟩:=aF.vQ;have iQ:ys.size=xs.size:=(by have:=aG.1;simp at this;exact this.symm);have aJl:f.offset+b8.size<=xs.size:=(by simpa using aA.1);refine⟨_,aEn b7 bH aI aa L X (by omega) aA.2,?_⟩;simp only[NF];cases b
          · simp only[Bool.false_eq_true,if_false];have z:b8.size=1:=(by simpa using aA.2);have cM:f.offset<xs.toList.length:=(by simp;omega);obtain⟨y,ah,xf⟩:=aG.M (List.getElem?_eq_getElem cM);rw[List.getD_eq_getElem?_getD,List.getD_eq_getElem?_getD,ah,List.getElem?_eq_getElem cM];exact xf
          · simp only[if_true];exact((aG.drop _).take _).agg λx H=>aF.apd x (List.mem_of_mem_drop (List.mem_of_mem_take H))
        · cases W
      · cases W
    · cases W
  · -- indexAddr
    rename_i t x i b7;split at W
    · rename_i e bH;split at W
      · rename_i O bY;split at W<;>cases W;rename_i aB;simp only[Bool.and_eq_true]at aB;obtain⟨b8,aa,rfl⟩:=vi bY;simp only[av.ok,Bool.and_eq_true,decide_eq_true_eq]at aA;obtain⟨⟨⟨z,D⟩,Z⟩,aw⟩:=aA;obtain⟨a1,k,n,ak⟩:=uR (J.ab aB.2) D;have aF:=J.ab aB.1;simp only[av.val];cases bk:ab u x<;>simp only[bk,kA]at z<;>try cases z
        rename_i p len c;rw[bk]at aF;simp only[ak,gd]at Z aw⊢;simp only[bk,ic]at aw;cases p with
        | none=>simp only[Bool.and_eq_true,beq_iff_eq]at z;omega
        | some fq=>
          simp only[Bool.and_eq_true,beq_iff_eq]at z;obtain⟨l,er,cap,aG,mr,X,uF,DH,uy⟩:=aF.r6;rcases uF with⟨rfl,rfl⟩|⟨rfl,uF⟩
          · omega
          · refine⟨_,aEo b7 bH aa X (by rw[a1,ak]) Z aw,?_⟩;simp only[mP,Nat.add_assoc];exact .bZ aG
      · cases W
    · rename_i len e bH;split at W
      · rename_i O bY;split at W<;>cases W;rename_i aB;simp only[Bool.and_eq_true]at aB;obtain⟨b8,aa,rfl⟩:=vi bY;simp only[av.ok,Bool.and_eq_true,decide_eq_true_eq]at aA;obtain⟨⟨⟨z,D⟩,Z⟩,aw⟩:=aA;obtain⟨a1,k,n,ak⟩:=uR (J.ab aB.2) D;have aF:=J.ab aB.1;simp only[av.val];cases bk:ab u x<;>simp only[bk,s5]at z<;>try cases z
        rename_i p;rw[bk]at aF;simp only[ak,gd]at Z aw⊢;cases p with
        |none=>cases z
        | some fq=>obtain⟨l,aG,mr,X⟩:=aF.vR;refine⟨_,aEp b7 bH aa X (by rw[a1,ak]) Z aw,?_⟩;simp only[yS,Nat.add_assoc];exact .bZ aG
      · cases W
    · cases W
  · -- index
    rename_i t x i b7;split at W
    · rename_i bH;split at W<;>cases W;rename_i aB;simp only[Bool.and_eq_true]at aB;simp only[av.ok,Bool.and_eq_true,decide_eq_true_eq]at aA;obtain⟨⟨⟨z,D⟩,Z⟩,aw⟩:=aA;obtain⟨aM,b,X⟩:=My (J.ab aB.1) z;obtain⟨a1,k,n,ak⟩:=uR (J.ab aB.2) D;simp only[ak,gd]at Z aw;simp only[X,ic]at aw;refine⟨_,aEq b7 bH (by rw[aM,X]) (by rw[a1,ak]) Z aw,?_⟩;simp only[av.val,X,ak,ui,gd];exact .c0 rfl
    · cases W
  · -- extract
    rename_i x i b7;split at W<;>cases W;rename_i H;have aF:=J.ab H;simp only[av.ok]at aA;simp only[av.val];cases bk:ab u x<;>simp only[bk,E4]at aA<;>try cases aA
    rename_i xs;rw[bk]at aF;obtain⟨ys,X,aG⟩:=aF.Gj;have aa:i<xs.toList.length:=(by simpa using aA);obtain⟨y,ah,xf⟩:=aG.M (List.getElem?_eq_getElem aa);have mZ:i<ys.size:=(by have:=aG.1;simp at this aa;omega);refine⟨_,aEl b7 X mZ,?_⟩;rw[X];simp only[CJ];rw[List.getD_eq_getElem?_getD,List.getD_eq_getElem?_getD,ah,List.getElem?_eq_getElem aa];exact xf
  · -- makeInterface
    rename_i t x b7;split at W
    · cases W
    · rename_i d sH aR;split at W<;>cases W;rename_i H;refine⟨.iface t (a.eval x),.inl ?_,.iface (J.ab H)⟩;cases d<;>first|exact absurd rfl (sH _)|simp[execOp,b7,Instr.makeInterface,underlying,aR]
    · cases W
  · -- typeAssert
    rename_i x cd t ok b7;split at W
    · cases W
    · rename_i d sH aR;split at W<;>cases W;rename_i H;simp only[Bool.and_eq_true,Bool.not_eq_true']at H;obtain⟨H,rfl⟩:=H;have aF:=J.ab H;simp only[av.ok]at aA;simp only[av.val];cases bk:ab u x<;>simp only[bk,JW]at aA<;>try cases aA
      rename_i aN v;have:=of_decide_eq_true aA;subst this;rw[bk]at aF;obtain⟨y,X,ah⟩:=aF.OO;refine⟨y,.inl ?_,ah⟩;cases d<;>first|exact absurd rfl (sH _)|simp[execOp,b7,Instr.typeAssert,underlying,aR,X]
    · cases W
  · repeat (split at W<;>try cases W)
    simp[av.pure]at aq
  · repeat (split at W<;>try cases W)
    simp[av.pure]at aq
  · repeat (split at W<;>try cases W)
    simp[av.pure]at aq
  · -- makeFunc
    rename_i fn x y b7;split at W<;>cases W;rename_i aB;simp only[Bool.and_eq_true]at aB;refine⟨_,aEt b7,?_⟩;simp only[av.val];have e6:=Hj J _ aB.1;have fw:=Hj J _ aB.2;exact .func (by simp) (by simpa using e6.2) (by simp) (by simpa using fw.2)
  · -- eI
    rename_i c b7;unfold Nd at W;split at W
    · split at W<;>cases W;simp[av.pure]at aq
    · repeat (split at W<;>try cases W)
      simp[av.pure]at aq
    · repeat (split at W<;>try cases W)
      simp[av.pure]at aq
    · rename_i aB;split at W
      · rename_i x t aE iU;split at W
        · rename_i bH;split at W<;>cases W;rename_i H;simp only[av.ok]at aA;obtain⟨e,b,X⟩:=My (J.ab H) aA;refine⟨_,aEr b7 aB aE iU bH (by rw[e,X]),?_⟩;simp only[av.val,X,ic];exact .c0 rfl
        · rename_i e bH;split at W<;>cases W;rename_i H;simp only[av.ok]at aA;have aF:=J.ab H;simp only[av.val];cases bk:ab u x<;>simp only[bk,yy]at aA<;>try cases aA
          rename_i p len c;rw[bk]at aF;have X: ∃q cap,a.eval x= .slice q len cap:=by
            cases p with
            | none=>
              refine⟨none,c,?_⟩;generalize a.eval x=v at aF;cases aF with
              |c0 h=>rfl
            |some fq=>obtain⟨_,_,_,_,_,h,_⟩:=aF.r6;exact⟨_,_,h⟩
          obtain⟨q,cap,X⟩:=X;exact⟨_,aEs b7 aB aE iU bH X,.c0 rfl⟩
        · cases W
      · cases W
    · repeat (split at W<;>try cases W)
      simp[av.pure]at aq
    · rename_i aB;split at W
      · rename_i x xs aE;split at W<;>cases W;rename_i H;simp only[Bool.and_eq_true]at H;simp only[av.ok,Bool.and_eq_true]at aA;have z:=uR (J.ab H.1) aA.1;have D: ∀y∈xs,fU (a.eval y)=true:= λy ah=>by
          have:=List.all_eq_true.1 aA.2 y ah;rw[(uR (J.ab (List.all_eq_true.1 H.2 y ah)) this).1];exact this
        refine⟨_,aoo (fC:=false) b7 (by simpa using aB) aE (by rw[z.1];exact aA.1) D,?_⟩;rw[Z5 false J xs _ H.2 aA.2,z.1];simp only[av.val];have Z:=Z4 (u:=u) false xs (ab u x) aA.1 aA.2;exact .c0 (akt Z)
      · cases W
    · rename_i aB;split at W
      · rename_i x xs aE;split at W<;>cases W;rename_i H;simp only[Bool.and_eq_true]at H;simp only[av.ok,Bool.and_eq_true]at aA;have z:=uR (J.ab H.1) aA.1;have D: ∀y∈xs,fU (a.eval y)=true:= λy ah=>by
          have:=List.all_eq_true.1 aA.2 y ah;rw[(uR (J.ab (List.all_eq_true.1 H.2 y ah)) this).1];exact this
        refine⟨_,aoo (fC:=true) b7 (by simpa using aB) aE (by rw[z.1];exact aA.1) D,?_⟩;rw[Z5 true J xs _ H.2 aA.2,z.1];simp only[av.val];have Z:=Z4 (u:=u) true xs (ab u x) aA.1 aA.2;exact .c0 (akt Z)
      · cases W
    · cases W
  · cases W
end
theorem alO(v:Value):v.oneCell'=ao v:=by cases v<;>rfl
section
variable {P:Program} {w e1:World} {ax:fE} {m:B} {bu:Nat}
def jz(ax:fE)(id:Nat)(l:wE):fE:= λb=>if b=id then some l else ax b
theorem wv{id:Nat}{l:wE}(h:ax id=none):im ax (jz ax id l):=by
  intro b e5 L;unfold jz;split
  · rename_i e;rw[e,h]at L;cases L
  · exact L
theorem TH(c o j:Nat):(⟨c,o,none⟩:Addr).add j=⟨c,o+j,none⟩:=by unfold Addr.add;split<;>simp_all
theorem fc.cells(aK:fc bu ax m w){b:Nat}{x:fO}{l:wE}(aj:m.M b=some x)(aG:ax b=some l){off n:Nat}(h:off+n<=x.cells.length):
    ∃b1:List Value,dy ax (ka m b off n) b1/\b1.length=n/\(∀j aJ,b1[j]?=some aJ->w.cell? ((⟨l.c,l.o+off,none⟩:Addr).add j)=some aJ)/\(∀aJ∈b1,aJ.oneCell'=true):=by
  obtain⟨e5,mD,gH,aB,_⟩:=aK.rk b x aj;rw[aG]at mD;cases mD;have key: ∀j,j<n-> ∃v bW,x.cells[off+j]?=some v/\ao v=true/\w.cell? ⟨l.c,l.o+(off+j),none⟩=some bW/\eE ax v bW:=by intro j cp;have cM:off+j<x.cells.length:=(by omega);obtain⟨z,bW,D,Z⟩:=aB (off+j) _ (List.getElem?_eq_getElem cM);exact⟨_,bW,List.getElem?_eq_getElem cM,z,D,Z⟩
  refine⟨(List.range n).map λj=>(w.cell? ⟨l.c,l.o+(off+j),none⟩).getD undef,⟨?_,?_⟩,by simp,?_,?_⟩
  · simp[ka,aj];omega
  · intro i aJ v bk X;simp only[ka,aj]at bk;rw[List.getElem?_take]at bk;split at bk
    · rename_i aa;obtain⟨ua,vj,aC,a2,bS,fA⟩:=key i aa;rw[List.getElem?_drop,aC]at bk;cases bk;simp[aa,bS]at X;subst X;exact fA
    · cases bk
  · intro j aJ bk;have cp:j<n:=(by have:=(List.getElem?_eq_some_iff.1 bk).1;simpa using this);obtain⟨ua,vj,aC,a2,bS,fA⟩:=key j cp;simp[cp,bS]at bk;subst bk;rw[TH,Nat.add_assoc];exact bS
  · intro aJ bk;simp only[List.mem_map,List.mem_range]at bk;obtain⟨j,cp,rfl⟩:=bk;obtain⟨ua,vj,aC,a2,bS,fA⟩:=key j cp;rw[bS];simp only[Option.getD_some,alO];rw[fA.ao];exact a2
theorem fc.acz(aK:fc bu ax m w){id C Fp n:Nat}{cs:List Value}(e4:id<m.next)(aF:ax id=none)
    (F1: ∀b x l,m.M b=some x->ax b=some l->l.c≠C) (iQ:w.heap.size<=e1.heap.size) (x7:C<e1.heap.size) (ev:bu<=C)
    (BM: ∀a:Addr,a.block<w.heap.size->a.block≠C->e1.cell? a=w.cell? a/\e1.frozen? a=w.frozen? a)
    (aug: ∀k,k<w.heap.size->k≠C->e1.heap[k]?=w.heap[k]?)
    (gH:cs.length<=n) (jh: ∀i v,cs[i]?=some v->ao v=true/\ ∃bW,e1.cell? ⟨C,Fp+i,none⟩=some bW/\eE ax v bW)
    (ak: ∀i,i<n->(e1.cell? ⟨C,Fp+i,none⟩).isSome=true/\e1.frozen? ⟨C,Fp+i,none⟩=false):
    fc bu (jz ax id ⟨C,Fp,n⟩) (m.au id (some ⟨cs,true⟩)) e1:=by
  have fG:=wv (l:=⟨C,Fp,n⟩) aF;refine⟨λb l L=> ?_,λb l L=> ?_,λb x H=> ?_,λb x cQ kC l e5 z D Z aw aX cC=> ?_,λb bg L=> ?_,λb bg L=> ?_⟩
  · unfold jz at L;split at L
    · rename_i e;rw[e];exact e4
    · exact aK.ql b l L
  · unfold jz at L;split at L
    · cases L;exact x7
    · exact Nat.lt_of_lt_of_le (aK.rf b l L) iQ
  · rw[B.pH]at H;split at H
    · rename_i e;cases H;exact⟨⟨C,Fp,n⟩,by simp[jz,e],gH,λi v X=>by obtain⟨bm,bW,bU,cn⟩:=jh i v X;exact⟨bm,bW,bU,cn.aD fG⟩,λ_=>⟨ev,ak⟩⟩
    · obtain⟨l,aC,a2,bS,fA⟩:=aK.rk b x H;have tA:=aK.rf b l aC;have dq:=F1 b x l H aC;refine⟨l,fG _ _ aC,a2,λi v X=> ?_,λan=>⟨(fA an).1,λi aa=> ?_⟩⟩
      · obtain⟨bm,bW,bU,cn⟩:=bS i v X;exact⟨bm,bW,by rw[(BM _ tA dq).1];exact bU,cn.aD fG⟩
      · have:=(fA an).2 i aa;rw[(BM ⟨l.c,l.o+i,none⟩ tA dq).1,(BM ⟨l.c,l.o+i,none⟩ tA dq).2];exact this
  · rw[B.pH]at z Z;unfold jz at aX cC;split at z
    · rename_i e;rw[if_neg (by rw[<-e];exact Ne.symm aw)]at Z;rw[if_pos e]at aX;rw[if_neg (by rw[<-e];exact Ne.symm aw)]at cC;cases aX;exact Ne.symm (F1 cQ kC e5 Z cC)
    · rename_i e;rw[if_neg e]at aX;split at Z
      · rename_i eW;rw[if_pos eW]at cC;cases cC;exact F1 b x l z aX
      · rename_i eW;rw[if_neg eW]at cC;exact aK.wP b x cQ kC l e5 z D Z aw aX cC
  · obtain⟨l,aG⟩:=aK.yI b bg L;exact⟨l,fG _ _ aG⟩
  · obtain⟨aC,a2⟩:=B.Bm L;have dq:b≠id:= λe=>by
      subst e;obtain⟨l,aG⟩:=aK.yI b bg a2;rw[aF]at aG;cases aG
    rw[B.pH,if_neg dq]at aC;obtain⟨l,ei,bx,dK,eO,gk,hN⟩:=aK.kz b bg (B.qv aC a2);exact⟨l,ei,bx,fG _ _ dK,eO,by rw[aug l.c (aK.rf b l dK) (F1 b _ l aC dK)];exact gk,hN.aD fG⟩
theorem fc.n0(aK:fc bu ax m w)(b:Nat):fc bu ax (m.au b none) w:=by
  have aj: ∀cQ x,(m.au b none).M cQ=some x->cQ≠b/\m.M cQ=some x:=by
    intro cQ x h;rw[B.pH]at h;split at h
    · split at h<;>cases h
    · rename_i e;exact⟨e,h⟩
  exact⟨aK.ql,aK.rf,λcQ x H=>aK.rk cQ x (aj cQ x H).2,λdt cN dJ di fM dg z D Z=>aK.wP dt cN dJ di fM dg (aj _ _ z).2 D (aj _ _ Z).2,aK.yI,λcQ bg L=>by obtain⟨aC,a2⟩:=B.Bm L;exact aK.kz cQ bg (B.qv (aj _ _ aC).2 a2)⟩
theorem abI(b k:Nat)(W:k≠b): ∀(c2:List Value) (o:Nat) (w:World),(w.setCells b o c2).heap[k]?=w.heap[k]?
  |[],_,_=>rfl
  |v::c2,o,w=>by rw[World.setCells,abI b k W c2];simp[World.setCell,Array.getElem?_modify,Ne.symm W]
theorem SQ(b:Nat): ∀(c2:List Value) (o:Nat) (w:World),(w.setCells b o c2).heap.size=w.heap.size
  |[],_,_=>rfl
  |v::c2,o,w=>by rw[World.setCells,SQ b c2];simp[World.setCell]
theorem TN{bu b:Nat}(L:bu<=b): ∀(c2:List Value) (o:Nat) (w:World),Below bu w (w.setCells b o c2)
  |[],_,_=>Below.refl _ _
  |v::c2,o,w=>((Below.refl bu w).setCell (p:=⟨b,o,none⟩) L v).trans (TN L c2 _ _)
theorem acM: ∀(c2:List Value) (off:Nat) (cs:List Value) (i:Nat),off+c2.length<=cs.length->(kE cs off c2)[i]?=if off<=i/\i<off+c2.length then c2[i-off]? else cs[i]?
  |[],off,cs,i,_=>by simp[kE];intro z D;omega
  | v::c2,off,cs,i,h=>by
    simp only[kE];simp only[List.length_cons]at h;rw[acM c2 (off+1) (cs.set off v) i (by simp;omega),List.getElem?_set];by_cases z:off=i
    · subst z;rw[if_neg (by omega),if_pos rfl,if_pos (by omega),if_pos (by simp)];simp
    · by_cases D:off+1<=i/\i<off+1+c2.length
      · rw[if_pos D,if_pos ⟨by omega,by simp;omega⟩,show i-off=(i-(off+1))+1 by omega];simp
      · rw[if_neg D,if_neg z,if_neg (by simp;omega)]
theorem fc.store(aK:fc bu ax m w){b:Nat}{x:fO}{l:wE}(aj:m.M b=some x)(an:x.own=true)(aG:ax b=some l){off:Nat}{cs fm:List Value}(aF:dy ax cs fm)(sJ: ∀v∈cs,ao v=true)
    (h:off+cs.length<=x.cells.length):fc bu ax (m.au b (some ⟨kE x.cells off cs,x.own⟩)) (w.setCells l.c (l.o+off) fm):=by
  have L:=B.aT aj;have gH:=aF.1;obtain⟨e5,mD,bm,bU,cn⟩:=aK.rk b x aj;rw[aG]at mD;cases mD;have afi: ∀cQ kC RV,m.M cQ=some kC->cQ≠b->ax cQ=some RV->RV.c≠l.c:= λcQ kC RV z D Z=>Ne.symm (aK.wP b x cQ kC l RV aj an z (Ne.symm D) aG Z);refine⟨aK.ql,λcQ e5 ca=>by rw[SQ];exact aK.rf cQ e5 ca,λcQ kC H=> ?_,λdt cN dJ di fM dg z D Z aw aX cC=> ?_,aK.yI,λcQ bg jD=> ?_⟩
  · rw[B.pH]at H;split at H
    · rename_i e;cases H;subst e;refine⟨l,aG,by rw[Iq];exact bm,λi v X=> ?_,λ_=>⟨(cn an).1,λi aa=> ?_⟩⟩
      · rw[acM _ _ _ _ h]at X;split at X
        · rename_i aa;obtain⟨aJ,bk,JP⟩:=aF.M X;refine⟨sJ v (List.mem_of_getElem? X),aJ,?_,JP⟩;have cp:i-off<fm.length:=(by omega);have:=World.cell?_setCells_in l.c fm (l.o+off) w (λj JA=>by
            have:=((cn an).2 (off+j) (by omega)).1
            rwa [<-Nat.add_assoc]at this) (i-off) cp
          rw[show l.o+off+(i-off)=l.o+i by omega]at this;rw[this];rw[List.getElem?_eq_getElem cp]at bk;exact bk
        · rename_i aa;obtain⟨aC,bW,a2,bS⟩:=bU i v X;refine⟨aC,bW,?_,bS⟩;rw[World.cell?_setCells_out l.c fm (l.o+off) w _ (λ_ _=>by show l.o+i<l.o+off\/l.o+off+fm.length<=l.o+i;omega)];exact a2
      · have bt:=(cn an).2 i aa;refine⟨?_,by rw[World.frozen?_setCells];exact bt.2⟩;by_cases mZ:off<=i/\i<off+fm.length
        · have:=World.cell?_setCells_in l.c fm (l.o+off) w (λj JA=>by
            have:=((cn an).2 (off+j) (by omega)).1
            rwa [<-Nat.add_assoc]at this) (i-off) (by omega)
          rw[show l.o+off+(i-off)=l.o+i by omega]at this;rw[this];rfl
        · rw[World.cell?_setCells_out l.c fm (l.o+off) w _ (λ_ _=>by show l.o+i<l.o+off\/l.o+off+fm.length<=l.o+i;omega)];exact bt.1
    · rename_i e;obtain⟨e5,aC,a2,bS,fA⟩:=aK.rk cQ kC H;have dq:=afi cQ kC e5 H e aC;have aB: ∀i,(w.setCells l.c (l.o+off) fm).cell? ⟨e5.c,e5.o+i,none⟩=w.cell? ⟨e5.c,e5.o+i,none⟩:= λi=>World.cell?_setCells_out _ _ _ _ _ (λcE _=>absurd cE dq);refine⟨e5,aC,a2,λi v X=>by rw[aB];exact bS i v X,λpS=>⟨(fA pS).1,λi aa=>by rw[aB,World.frozen?_setCells];exact(fA pS).2 i aa⟩⟩
  · have uB: ∀cQ kC,(m.au b (some ⟨kE x.cells off cs,x.own⟩)).M cQ=some kC-> ∃aoh,m.M cQ=some aoh/\aoh.own=kC.own:=by
      intro cQ kC H;rw[B.pH]at H;split at H
      · rename_i e;cases H;exact⟨x,by rw[e];exact aj,rfl⟩
      · exact⟨kC,H,rfl⟩
    obtain⟨jU,dK,eO⟩:=uB dt cN z;obtain⟨rC,gk,hN⟩:=uB dJ di Z;exact aK.wP dt jU dJ rC fM dg dK (by rw[eO];exact D) gk aw aX cC
  · obtain⟨aC,a2⟩:=B.Bm jD;rw[B.pH]at aC;by_cases e:cQ=b
    · subst e;rw[if_pos rfl,if_pos L]at aC;injection aC with aC;have aB:x.cells=[]:=by
        have:=congrArg (λy=>y.cells.length) aC;simp only[Iq,List.length_nil]at this;exact List.length_eq_zero_iff.1 this
      have bk:fm=[]:=(by rw[aB]at h;simp at h;exact List.length_eq_zero_iff.1 (by rw[<-gH,h.2];rfl));subst bk;have H:x=⟨[],true⟩:=(by cases x;simp at aB an;rw[aB,an]);obtain⟨dg,ei,bx,dK,eO,gk,hN⟩:=aK.kz cQ bg (B.qv (by rw[aj,H]) a2);exact⟨dg,ei,bx,dK,eO,gk,hN⟩
    · rw[if_neg e]at aC;obtain⟨dg,ei,bx,dK,eO,gk,hN⟩:=aK.kz cQ bg (B.qv aC a2);exact⟨dg,ei,bx,dK,eO,by rw[abI _ _ (afi cQ _ dg aC e dK)];exact gk,hN⟩
end
def tf(P:Program)(o:Oper)(k:av)(a:Act)(bu:Nat)(ax:fE)(u:aL)(m:B)(w:World)(id:Nat):Prop:=
  ∃bW e1 en,lH P o a w bW e1/\im ax en/\(∀b,b≠id->en b=ax b)/\eE en (k.val id u m) bW/\fc bu en (k.kk id u m) e1/\Below bu w e1
section
variable {P:Program} {w:World} {o:Oper} {a:Act} {ax:fE} {ek:Nat} {u:aL} {m:B} {bu id:Nat}
theorem AX{l:wE}: ∀b,b≠id->jz ax id l b=ax b:= λb h=>by simp[jz,h]
theorem fc.Hr(aK:fc bu ax m w){cS:World}(aO:cS.heap=w.heap)(ev:bu<=w.heap.size)(e4:id<m.next)(aF:ax id=none){cs:List Value}{b1:Array Value}{e:TypeId}{bw:Nat×Nat}{n:Nat}
    (gH:cs.length<=n) (ak:n<=b1.size) (jh: ∀(i:Nat) v,cs[i]?=some v->ao v=true/\ ∃bW,b1[i]?=some bW/\eE ax v bW) (da: ∀i,i<n-> ¬(bw.1<=i/\i<bw.2)):
    fc bu (jz ax id ⟨w.heap.size,0,n⟩) (m.au id (some ⟨cs,true⟩)) (cS.alloc (.cells b1 e bw)):=by
  have iQ:(cS.alloc (.cells b1 e bw)).heap.size=w.heap.size+1:=by show(cS.heap.push _).size=_;rw[Array.size_push,aO]
  have uG:(cS.alloc (.cells b1 e bw)).heap[w.heap.size]?=some (.cells b1 e bw):=by show(cS.heap.push _)[_]?=_;rw[aO];simp
  refine aK.acz e4 aF (λb x l H aG=>by have:=aK.rf b l aG;omega) (by omega) (by omega) ev (λfq z D=> ?_) (λk z _=>by show(cS.heap.push _)[k]?=_;rw[aO,Array.getElem?_push,if_neg (by omega)]) gH (λi v X=> ?_) (λi aa=> ?_)
  · have:(cS.alloc (.cells b1 e bw)).heap[fq.block]?=w.heap[fq.block]?:=by
      show(cS.heap.push _)[_]?=_;rw[aO,Array.getElem?_push,if_neg (by omega)]
    exact⟨World.cell?_of_block (w:=w) this,World.frozen?_of_block (w:=w) this⟩
  · obtain⟨bm,bW,bU,cn⟩:=jh i v X;refine⟨bm,bW,?_,cn⟩;simp[World.cell?,uG,bU]
  · have mZ:i<b1.size:=(by omega);refine⟨by simp[World.cell?,uG,mZ],?_⟩;have:=da i aa;simp only[World.frozen?,uG,Nat.zero_add];simpa using this
theorem A7{cS:World}(aO:cS.heap=w.heap)(an:cS.os=w.os)(bH:cS.tape=w.tape)(bk:cS.output=w.output)(ev:bu<=w.heap.size)(x:Obj):Below bu w (cS.alloc x):=by have:Below bu w cS:=⟨an,bH,bk,by rw[aO];exact Nat.le_refl _,λk _=>by rw[aO]⟩;exact this.alloc (by rw[aO];exact ev) x
theorem T2{cs:List Value}{b1:Array Value}(h:dy ax cs b1.toList)(z: ∀v∈cs,ao v=true): ∀(i:Nat) v,cs[i]?=some v->ao v=true/\ ∃bW,b1[i]?=some bW/\eE ax v bW:=by intro i v X;obtain⟨y,ah,xf⟩:=h.M X;exact⟨z v (List.mem_of_getElem? X),y,by simpa using ah,xf⟩
theorem aCv{e:TypeId}{O:List Value}(b7:o.op= .alloc e)(bY:xJ P e=some O)(aK:fc bu ax m w)(ev:bu<=w.heap.size)(e4:id<m.next)(aF:ax id=none):tf P o (.eR O) a bu ax u m w id:=by
  obtain⟨b8,lb,aa,tI,pf,oK,gH⟩:=HV bY;refine⟨.pointer (some ⟨w.heap.size,0,none⟩),w.alloc (.cells lb.cells e),jz ax id ⟨w.heap.size,0,O.length⟩,.inl ?_,wv aF,AX,?_,?_,A7 rfl rfl rfl rfl ev _⟩
  · simp only[execOp,b7,Instr.alloc,Sem.run_bind,zeroValue,typeInfo,run_program,aa,Sem.run_pure,Result.andThen_ok,tI,newVar,newRow];rfl
  · exact .bZ (off:=0) (l:=⟨w.heap.size,0,O.length⟩) (by simp[jz])
  · refine aK.Hr rfl ev e4 aF (Nat.le_refl _) (by rw[<-pf];simp) (T2 (by rw[pf];exact dy.c0 ax oK) λv X=>FC (List.all_eq_true.1 oK v X)) (λi _=>by simp)
theorem aCx{e:TypeId}{x:Operand}(b7:o.op= .box e x)(H:dZ x=true)(J:jf ax ek u a)(aA:(av.o7 x).ok u m=true)(aK:fc bu ax m w)(ev:bu<=w.heap.size)(e4:id<m.next)(aF:ax id=none):tf P o (.o7 x) a bu ax u m w id:=by
  have X:=ace (J.ab H);have sJ:=acd (J.ab H) aA;have aG:(a.eval x).cells.size=(al (ab u x)).length:=by have:=X.1;simp at this;exact this.symm
  refine⟨.pointer (some ⟨w.heap.size,0,none⟩),w.alloc (.cells (a.eval x).cells e),jz ax id ⟨w.heap.size,0,(al (ab u x)).length⟩,.inl ?_,wv aF,AX,?_,?_,A7 rfl rfl rfl rfl ev _⟩
  · simp only[execOp,b7,Instr.box,Sem.run_bind,newVar,newRow];rfl
  · exact .bZ (off:=0) (l:=⟨w.heap.size,0,(al (ab u x)).length⟩) (by simp[jz])
  · exact aK.Hr rfl ev e4 aF (Nat.le_refl _) (by omega) (T2 X sJ) (λi _=>by simp)
theorem M5{v:Value}{n:Nat}(h:gZ m v n=true): ∃b off x,v= .pointer (some ⟨b,off,none⟩)/\m.M b=some x/\off+n<=x.cells.length:=by
  unfold gZ at h;split at h
  · rename_i fq;simp only[Bool.and_eq_true,Option.isNone_iff_eq_none]at h;obtain⟨mr,h⟩:=h;split at h
    · rename_i x H;obtain⟨b,off,aY⟩:=fq;simp only at mr H h;subst mr;exact⟨b,off,x,rfl,H,by simpa using h⟩
    · cases h
  · cases h
theorem aa8{t:TypeId}{ep:Bool}{n:Nat}{fq:Addr}{b1:List Value}(w0:rA P t=some ep)(ak:mQ P t=some n)(z:ep=true\/n=1)(aG:b1.length=n)(aB: ∀(j:Nat) aJ,b1[j]?=some aJ->w.cell? (fq.add j)=some aJ):
    (loadVar t fq).run P w= .ok (if ep then .agg b1.toArray else b1.headD undef) w:=by
  obtain⟨b8,aa,rfl⟩:=vi ak;simp only[loadVar,Sem.run_bind,ab2 w0,Result.andThen_ok];cases ep
  · have D:b8.size=1:=(by simpa using z);rw[D]at aG;obtain⟨d,rfl⟩:=Aq aG;have Z:=aB 0 d rfl;have e:fq.add 0=fq:=(by simp[Addr.add]);rw[e]at Z;simp only[Bool.false_eq_true,if_false,List.headD_cons];simp[Go.load,Sem.run,Z]
  · simp only[if_true,Sem.run_bind,sizeOf,typeInfo,run_program,aa,Sem.run_pure,Result.andThen_ok];have:=run_loadCells_list (P:=P) w fq b1 aB;rw[aG]at this;simp[this]
theorem ZV{ep:Bool}{n:Nat}{v bW:Value}(aK:fc bu ax m w)(X:eE ax v bW)(aA:gZ m v n=true)(z:ep=true\/n=1):
    ∃(fq:Addr) (b1:List Value),bW= .pointer (some fq)/\b1.length=n/\(∀(j:Nat) aJ,b1[j]?=some aJ->w.cell? (fq.add j)=some aJ)/\eE ax (lq m ep n v) (if ep then .agg b1.toArray else b1.headD undef):=by
  obtain⟨b,off,x,rfl,H,JJ⟩:=M5 aA;obtain⟨l,aG,_,rfl⟩:=X.vR;obtain⟨b1,e6,fw,iZ,nr⟩:=aK.cells H aG JJ;refine⟨_,b1,rfl,fw,iZ,?_⟩;simp only[lq];cases ep
  · have D:n=1:=(by simpa using z);subst D;obtain⟨d,rfl⟩:=Aq fw;simp only[Bool.false_eq_true,if_false,List.headD_cons];have gH:=e6.1;simp only[List.length_cons,List.length_nil]at gH;obtain⟨aJ,bk⟩:=Aq gH;rw[bk]at e6⊢;exact e6.2 0 aJ d rfl rfl
  · refine e6.agg λaJ bk=> ?_;obtain⟨e5,mD,bm,bU,cn⟩:=aK.rk b x H;simp only[ka,H]at bk;obtain⟨i,aa,Vo⟩:=List.getElem_of_mem (List.mem_of_mem_drop (List.mem_of_mem_take bk));exact(bU i aJ (by rw[List.getElem?_eq_getElem aa,Vo])).1
theorem aCB{t:TypeId}{x:Operand}{ep:Bool}{n:Nat}(b7:o.op= .load t x)(w0:rA P t=some ep)(ak:mQ P t=some n)(H:dZ x=true)(J:jf ax ek u a)(aK:fc bu ax m w)
    (aA:(av.fj ep n x).ok u m=true):tf P o (.fj ep n x) a bu ax u m w id:=by
  simp only[av.ok,Bool.and_eq_true,Bool.or_eq_true,decide_eq_true_eq]at aA;obtain⟨fq,b1,z,D,Z,aw⟩:=ZV aK (J.ab H) aA.1 aA.2;refine⟨_,w,ax,.inl ?_,im.refl ax,λ_ _=>rfl,aw,aK,Below.refl _ _⟩;simp only[execOp,b7,z,Instr.loadAt,Instr.sureAddr,Sem.run_bind,Sem.run_pure,Result.andThen_ok,aa8 w0 ak aA.2 D Z]
theorem aCG{t e:TypeId}{x:Operand}{cZ aa fC:Option Operand}{n O:Nat}(b7:o.op= .slice t x cZ aa fC)(aE:P.underlying t=some (.array n e))(bY:mQ P e=some O)
    (H:dZ x=true) (z:cZ=none) (D:aa=none) (Z:fC=none) (J:jf ax ek u a) (aK:fc bu ax m w) (aA:(av.sq O n x).ok u m=true):tf P o (.sq O n x) a bu ax u m w id:=by
  subst z D Z;simp only[av.ok,Bool.and_eq_true,decide_eq_true_eq]at aA;obtain⟨aA,at5⟩:=aA;obtain⟨b,off,y,aM,ah,JJ⟩:=M5 aA;have aF:=J.ab H;rw[aM]at aF;obtain⟨l,aG,_,a1⟩:=aF.vR;obtain⟨b8,aa,rfl⟩:=vi bY;obtain⟨e5,mD,bm,bU,cn⟩:=aK.rk b y ah;rw[aG]at mD;cases mD;refine⟨_,w,ax,aEx b7 aE aa a1,im.refl ax,λ_ _=>rfl,?_,aK,Below.refl _ _⟩;simp only[av.val,aM,Ih];by_cases ak:n=0
  · rw[if_pos ak];subst ak;exact .slice aG (.inl ⟨rfl,rfl⟩) (Nat.le_refl _) (by omega)
  · rw[if_neg ak];have aE:(⟨l.c,l.o+off,none⟩:Addr).add (0*b8.size)=⟨l.c,l.o+off,none⟩:=by
      unfold Addr.add;simp
    rw[aE];exact .slice aG (.inr ⟨rfl,by simp only[Nat.sub_zero];omega⟩) (Nat.le_refl _) (by omega)
theorem aCH{t:TypeId}{x v:Operand}{n:Nat}(b7:o.op= .store t x v)(ak:mQ P t=some n)(H:dZ x=true)(X:dZ v=true)(J:jf ax ek u a)(aK:fc bu ax m w)
    (aA:(av.store n x v).ok u m=true):tf P o (.store n x v) a bu ax u m w id:=by
  simp only[av.ok,Bool.and_eq_true,decide_eq_true_eq]at aA;obtain⟨⟨⟨z,D⟩,auf⟩,Z⟩:=aA;have sJ:=acd (J.ab X) auf;obtain⟨b,off,y,aM,ah,JJ⟩:=M5 z;have aF:=J.ab H;rw[aM]at aF;obtain⟨l,aG,_,a1⟩:=aF.vR;have pS:y.own=true:=by simpa[aM,rH,ah]using D
  have aB:=ace (J.ab X);obtain⟨b8,aa,rfl⟩:=vi ak;have iQ:(a.eval v).cells.size=b8.size:=by have:=aB.1;simp at this;omega
  obtain⟨e5,mD,bm,bU,cn⟩:=aK.rk b y ah;rw[aG]at mD;cases mD;have auj: ∀aJ∈(a.eval v).cells.toList,aJ.oneCell'=true:=by intro aJ bk;obtain⟨i,jE,Vo⟩:=List.getElem_of_mem bk;have mZ:i<(al (ab u v)).length:=(by rw[aB.1];exact jE);have:=(aB.2 i _ aJ (List.getElem?_eq_getElem mZ) (by rw[List.getElem?_eq_getElem jE,Vo])).ao;rw[alO,this];exact sJ _ (List.getElem_mem mZ)
  refine⟨undef,w.setCells l.c (l.o+off) (a.eval v).cells.toList,ax,.inr ⟨?_,rfl⟩,im.refl ax,λ_ _=>rfl,eE.undef ax,?_,TN (cn pS).1 _ _ _⟩
  · have c1:=run_storeCells_cells (P:=P) l.c (l.o+off) (a.eval v).cells.toList 0 w (λj cp=>by
      have:=((cn pS).2 (off+j) (by simp at cp;omega)).1
      rwa [<-Nat.add_assoc]at this) (λj cp=>by
      have:=((cn pS).2 (off+j) (by simp at cp;omega)).2
      rwa [<-Nat.add_assoc]at this) auj
    simp only[Nat.add_zero]at c1;simp[execOp,b7,a1,Instr.storeAt,Instr.sureAddr,storeVar,sizeOf,typeInfo,aa,iQ,c1]
  · simp only[av.kk,aM,qR,ah];exact aK.store ah pS aG aB sJ (by omega)
end
theorem NH{O:List Value}(bY:0<O.length): ∀(n i:Nat),i<n*O.length->((List.replicate n O).flatten)[i]?=O[i%O.length]?
  |0,i,h=>by omega
  | n+1,i,h=>by
    rw[List.replicate_succ,List.flatten_cons,List.getElem?_append];split
    · rename_i aa;rw[Nat.mod_eq_of_lt aa]
    · rename_i aa;have D:i-O.length<n*O.length:=(by rw[Nat.add_mul]at h;omega);rw[NH bY n _ D,Nat.mod_eq_sub_mod (by omega:O.length<=i)]
theorem NI(O:List Value)(n:Nat):((List.replicate n O).flatten).length=n*O.length:=by simp[List.length_flatten]
theorem ak5{O:Array Value}(bY:0<O.size)(n:Nat):(madeCells O (n*O.size)).toList=(List.replicate n O.toList).flatten:=by
  apply List.ext_getElem?;intro i;by_cases aa:i<n*O.size
  · rw[NH (by simpa using bY) n i (by simpa using aa)];have aK:i%O.size<O.size:=Nat.mod_lt _ bY;simp[madeCells,aa,aK]
  · rw[List.getElem?_eq_none (by rw[Array.length_toList,size_madeCells];omega),List.getElem?_eq_none (by rw[NI];simp;omega)]
theorem adR{O:List Value}(p:Value->Prop)(h: ∀v∈O,p v)(n:Nat): ∀v∈(List.replicate n O).flatten,p v:=by intro v X;simp only[List.mem_flatten,List.mem_replicate]at X;obtain⟨l,⟨_,rfl⟩,D⟩:=X;exact h v D
section
variable {P:Program} {w:World} {o:Oper} {a:Act} {ax:fE} {ek:Nat} {u:aL} {m:B} {bu id:Nat}
theorem aCy{t e:TypeId}{n:Nat}{dX:Array (Nat×Operand)}{O:List Value}{jv:List (Nat×Nat×Operand)}(b7:o.op= .buildSlice t n dX)(bH:P.underlying t=some (.slice e))(bY:xJ P e=some O)
    (bt:Dg O.length dX.toList=some jv) (bB:0<O.length) (aIy:n*O.length<=16777216) (J:jf ax ek u a) (aK:fc bu ax m w) (ev:bu<=w.heap.size) (e4:id<m.next) (aF:ax id=none)
    (aA:(av.iT O.length n (List.replicate n O).flatten jv).ok u m=true):tf P o (.iT O.length n (List.replicate n O).flatten jv) a bu ax u m w id:=by
  obtain⟨b8,lb,aa,tI,pf,oK,gH⟩:=HV bY;obtain⟨aC,a2⟩:=Ul _ _ bt;have Gc:lb.cells.size=b8.size:=by rw[<-gH,<-pf];simp
  have jh:(madeCells lb.cells (n*lb.cells.size)).toList=(List.replicate n O).flatten:=by rw[ak5 (by omega),pf]
  have Ju: ∀v∈(List.replicate n O).flatten,fg v=true:=adR (λv=>fg v=true) (λv X=>List.all_eq_true.1 oK v X) n;simp only[av.ok]at aA;obtain⟨b1,z,D,Ji⟩:=NG J (λi=>some (i*b8.size,b8.size)) dX.toList jv (List.replicate n O).flatten (madeCells lb.cells (n*lb.cells.size)) ⟨aC,λi p q xa bt=>by obtain⟨aM,a1,cI,fe⟩:=a2 i p q xa bt;exact⟨aM,a1,by rw[cI,fe,gH]⟩⟩ (by rw[jh];exact dy.c0 ax (List.all_eq_true.2 Ju)) (λv X=>FC (Ju v X)) aA;have N7:(n3 (List.replicate n O).flatten u jv).length=b1.size:=by have:=D.1;simpa using this
  have m0:(n3 (List.replicate n O).flatten u jv).length=n*O.length:=by
    have key: ∀(jv:List (Nat×Nat×Operand)) (cs:List Value),(n3 cs u jv).length=cs.length:=by
      intro jv;induction jv with
      |nil=>intro cs;rfl
      |cons q jv cb=>intro cs;obtain⟨bm,bU,cn⟩:=q;simp only[n3];rw[cb,Iq]
    rw[key,NI]
  refine⟨.slice (some ⟨w.heap.size,0,none⟩) n n,w.alloc (.cells b1 e),jz ax id ⟨w.heap.size,0,b1.size⟩,.inl ?_,wv aF,AX,?_,?_,A7 rfl rfl rfl rfl ev _⟩
  · have Z:(dX.map λp=>(p.1,a.eval p.2)).toList=dX.toList.map λp=>(p.1,a.eval p.2):=by simp
    have auW:(zeroValue e).run P w= .ok lb w:=(by simp[zeroValue,typeInfo,aa,tI]);have asT: ¬(2^24<n*b8.size):=(by rw[<-gH];omega);rw[<-Z]at z;simp only[execOp,b7,Instr.buildSlice,Sem.run_bind,run_underlying bH,sizeOf,typeInfo,run_program,aa,Sem.run_pure,Result.andThen_ok,gt_iff_lt,asT,if_false,Sem.run_ite];by_cases w8:n*b8.size=0
    · have tC:madeCells lb.cells (n*lb.cells.size)= #[]:=(by rw[Gc,w8];simp[madeCells]);rw[tC]at z;simp only[w8,if_true];have at1:Array.map (λx=>(#[]:Array Value)[x%(#[]:Array Value).size]!) (Array.range 0)= #[]:=(by simp);rw[at1,z];simp only[newRow,Sem.run_bind];rfl
    · have tC:Array.map (λx=>lb.cells[x%lb.cells.size]!) (Array.range (n*b8.size))=madeCells lb.cells (n*lb.cells.size):=(by unfold madeCells;rw[Gc]);simp only[w8,if_false,auW,Result.andThen_ok,tC,z];simp only[newRow,Sem.run_bind];rfl
  · exact .slice (off:=0) (l:=⟨w.heap.size,0,b1.size⟩) (by simp[jz]) (.inr ⟨rfl,by show 0+n*O.length<=b1.size;omega⟩) (Nat.le_refl _) (by have:n*1<=n*O.length:=Nat.mul_le_mul_left _ bB;unfold maxLen;omega)
  · simp only[av.kk];exact aK.Hr rfl ev e4 aF (by omega) (Nat.le_refl _) (T2 D Ji) (λi _=>by simp)
theorem aCD{t e:TypeId}{b8:TypeInfo}{O:List Value}{l c:Operand}(b7:o.op= .makeSlice t l c)(bH:P.underlying t=some (.slice e))(bY:xJ P e=some O)(aa:P.info? e=some b8)(aG:dZ l=true)(aB:dZ c=true)
    (J:jf ax ek u a) (aK:fc bu ax m w) (ev:bu<=w.heap.size) (e4:id<m.next) (aF:ax id=none)
    (aA:(av.nk O.length b8.bytes O l c).ok u m=true):tf P o (.nk O.length b8.bytes O l c) a bu ax u m w id:=by
  obtain⟨afP,lb,jE,tI,pf,oK,gH⟩:=HV bY;rw[aa]at jE;cases jE;have Gc:lb.cells.size=b8.size:=by rw[<-gH,<-pf];simp
  simp only[av.ok,Bool.and_eq_true,decide_eq_true_eq]at aA;obtain⟨⟨⟨⟨⟨⟨z,D⟩,Z⟩,aw⟩,aX⟩,cC⟩,gn⟩:=aA;obtain⟨aM,akG,br,kq⟩:=uR (J.ab aG) z;obtain⟨a1,uV,C,x7⟩:=uR (J.ab aB) D;simp only[kq,x7,gd]at Z aw aX cC;have ll:=run_make (P:=P) w t e b8 lb bH aa tI akG uV br C Z aw (by rw[Int.mul_comm];omega) cC;have Ju: ∀v∈(List.replicate br.toNat O).flatten,fg v=true:=adR (λv=>fg v=true) (λv X=>List.all_eq_true.1 oK v X) _;have fG:br.toNat*O.length<=C.toNat*O.length:=Nat.mul_le_mul_right _ (by omega);refine⟨_,_,jz ax id ⟨w.heap.size,0,C.toNat*O.length⟩,.inl (by simp only[execOp,b7,aM,a1,kq,x7,Sem.run_bind,ll,Result.andThen_ok];rfl),wv aF,AX,?_,?_,A7 rfl rfl rfl rfl ev _⟩
  · simp only[av.val,kq,gd];exact .slice (off:=0) (l:=⟨w.heap.size,0,C.toNat*O.length⟩) (by simp[jz]) (.inr ⟨by simp,by simp⟩) (by omega) (by unfold maxLen;omega)
  · simp only[av.kk,kq,gd];refine aK.Hr rfl ev e4 aF (by rw[NI];exact fG) (by rw[size_madeCells,gH];exact Nat.le_refl _) (λi v X=> ?_) (λi _=>by simp);have mZ:i<br.toNat*O.length:=(by have:=(List.getElem?_eq_some_iff.1 X).1;rwa [NI]at this);refine⟨FC (Ju v (List.mem_of_getElem? X)),v,?_,.c0 (Ju v (List.mem_of_getElem? X))⟩;have iP:(madeCells lb.cells (C.toNat*b8.size)).toList=(List.replicate C.toNat O).flatten:=(by rw[<-Gc,ak5 (by omega),pf]);rw[<-Array.getElem?_toList,iP,NH gn _ _ (by omega)];rw[NH gn _ _ mZ]at X;exact X
theorem amc: ∀(n1:List Int) (ef:ByteArray),n1.foldl (λr n=>r.push (UInt8.ofNat n.toNat)) ef=ef++⟨(n1.map λn=>UInt8.ofNat n.toNat).toArray⟩
  | [],ef=>by simp only[List.foldl_nil,List.map_nil];apply ByteArray.ext;simp
  | n::n1,ef=>by simp only[List.foldl_cons,List.map_cons];rw[amc n1];apply ByteArray.ext;simp[ByteArray.push]
theorem aCz{s d e:TypeId}{x:Operand}(b7:o.op= .convert s d x)(dB:P.underlying s=some (.slice e))(mm:P.underlying d=some .string)(bT:P.underlying e=some (.int .u8))(H:dZ x=true)
    (J:jf ax ek u a) (aK:fc bu ax m w) (aA:(av.qk x).ok u m=true):tf P o (.qk x) a bu ax u m w id:=by
  simp only[av.ok,Bool.and_eq_true]at aA;obtain⟨z,D⟩:=aA;have aF:=J.ab H;have conv: ∀v,a.eval x=v->(∃p l c,v= .slice p l c)-> ∀b:ByteArray,(Conv.bytesToString v).run P w= .ok (.string b) w->lH P o a w (.string b) w:=by intro v X ⟨p,l,c,aq⟩ b L;subst aq;refine .inl ?_;cases p<;>simp[execOp,b7,X,convert,underlying,dB,mm,bT,L]
  cases bk:ab u x<;>simp only[bk,ik]at z<;>try cases z
  rename_i p len c;rw[bk]at aF;refine⟨.string (toBytes (hO m 1 (ab u x))),w,ax,?_,im.refl ax,λ_ _=>rfl,.c0 rfl,aK,Below.refl _ _⟩;cases p with
  | none=>have X:=aF.lo (by simpa[fg]using z);refine conv _ X ⟨_,_,_,rfl⟩ _ ?_;simp only[Conv.bytesToString,bk,hO,toBytes];rfl
  | some fq=>
    simp only[Bool.and_eq_true,Option.isNone_iff_eq_none,beq_iff_eq]at z;obtain⟨⟨mr,Bw⟩,z⟩:=z;split at z
    · rename_i y ah;simp only[Nat.mul_one,decide_eq_true_eq]at z;obtain⟨l,er,cap,aG,_,X,ak,DH,uy⟩:=aF.r6;refine conv _ X ⟨_,_,_,rfl⟩ _ ?_;simp only[bk,hO,Nat.mul_one]at D⊢;obtain⟨b1,e6,fw,iZ,nr⟩:=aK.cells ah aG z;have sF: ∃n1:List Int,b1=n1.map (Value.int .u8)/\ka m fq.block fq.off len=n1.map (Value.int .u8):=by
        have asA: ∀(fm c2:List Value),fm.all Hb=true->dy ax fm c2-> ∃n1:List Int,c2=n1.map (Value.int .u8)/\fm=n1.map (Value.int .u8):=by
          intro fm;induction fm with
          |nil=>intro c2 _ h;have:=h.1;simp at this;exact⟨[],by simp[List.length_eq_zero_iff.1 this.symm],rfl⟩
          | cons aJ fm cb=>
            intro c2 aE h;cases c2 with
            |nil=>have:=h.1;simp at this
            | cons v c2=>simp only[List.all_cons,Bool.and_eq_true]at aE;obtain⟨n1,aC,a2⟩:=cb c2 aE.2 ⟨by simpa using h.1,λi p q aq bt=>h.2 (i+1) p q (by simpa using aq) (by simpa using bt)⟩;have bB:=h.2 0 aJ v rfl rfl;have afu:=aE.1;cases aJ<;>simp[Hb]at afu;rename_i k n;cases k<;>simp at afu;exact⟨n::n1,by simp[aC,bB.rg],by simp[a2]⟩
        exact asA _ _ D e6
      obtain⟨n1,aue,afd⟩:=sF;subst aue;rcases ak with⟨rfl,rfl⟩|⟨rfl,ak⟩
      · have w8:n1=[]:=(by simp at fw;exact fw);subst w8;have:=run_bytesToString (P:=P) w er 0 0 [] (by simp[loadCells,loadCellsFrom]);rw[this,afd];rfl
      · have ae1:=run_loadCells_list (P:=P) w ⟨l.c,l.o+fq.off,none⟩ _ iZ;rw[fw]at ae1;rw[run_bytesToString w _ len cap n1 (by rw[ae1]),amc,afd];congr 2;apply ByteArray.ext;simp[toBytes,TQ,Function.comp_def]
    · cases z
end
section
variable {P:Program} {w:World} {o:Oper} {a:Act} {ax:fE} {ek:Nat} {u:aL} {m:B} {bu id:Nat}
theorem aB9(t tY e:TypeId)(i:TypeInfo)(bH:P.underlying t=some (.slice e))(aa:P.info? e=some i)(base q:Option Addr)(xG EW c:Nat)(aB:xG<=EW):
    (Builtin.append_ #[t,t] tY #[.slice base xG EW,.slice q 0 c]).run P w= .ok (.slice base xG EW) w:=by
  have aI:(Builtin.firstCells i.size 0 (.slice q 0 c)).run P w= .ok #[] w:=by cases q<;>simp[Builtin.firstCells,loadCells,loadCellsFrom]
  cases base<;>simp[Builtin.append_,run_underlying bH,sizeOf,typeInfo,aa,Builtin.lenOf,aB,aI,storeCells]
theorem aB8(t tY e:TypeId)(i:TypeInfo)(bH:P.underlying t=some (.slice e))(aa:P.info? e=some i)(c o xG EW:Nat)(fq:Addr)(n adi:Nat)(np:List Value)(aG:np.length=n*i.size)
    (aub: ∀(j:Nat) aJ,np[j]?=some aJ->w.cell? (fq.add j)=some aJ) (z: ∀aJ∈np,aJ.oneCell'=true) (JN:xG+n<=EW)
    (Js: ∀j,j<np.length->(w.cell? ⟨c,o+xG*i.size+j,none⟩).isSome=true) (da: ∀j,j<np.length->w.frozen? ⟨c,o+xG*i.size+j,none⟩=false):
    (Builtin.append_ #[t,t] tY #[.slice (some ⟨c,o,none⟩) xG EW,.slice (some fq) n adi]).run P w= .ok (.slice (some ⟨c,o,none⟩) (xG+n) EW) (w.setCells c (o+xG*i.size) np):=by
  have aI:=run_firstCells_some (P:=P) w i.size n fq n adi np aG aub;have c1:=run_storeCells_cells (P:=P) c (o+xG*i.size) np 0 w (by simpa using Js) (by simpa using da) z;simp only[Nat.add_zero]at c1;simp[Builtin.append_,run_underlying bH,sizeOf,typeInfo,aa,Builtin.lenOf,JN,aI,TH,c1]
theorem Ti{c:Call}{x y:Operand}{t:TypeId}{aJ v r:Value}{e1:World}(b7:o.op= .call c)(aB:c.callee= .builtin .append)(aE:c.args.toList=[x,y])(iU:c.argTypes.toList=[t,t])
    (H:a.eval x=aJ) (ah:a.eval y=v) (h:(Builtin.append_ #[t,t] o.type #[aJ,v]).run P w= .ok r e1):lH P o a w r e1:=by
  refine .inl ?_;have nR:c.args= #[x,y]:=by rw[<-Array.toArray_toList (xs:=c.args),aE]
  have Jn:c.argTypes= #[t,t]:=by rw[<-Array.toArray_toList (xs:=c.argTypes),iU]
  simp[execOp,b7,resolve,aB,nR,Jn,invoke,builtin,H,ah,h]
theorem Mt{O:Nat}{v:Value}(h:ik m O v=true):v= .slice none 0 0\/ ∃b off len x,v= .slice (some ⟨b,off,none⟩) len O/\m.M b=some x/\off+len*O<=x.cells.length:=by
  unfold ik at h;split at h
  · simp only[Bool.and_eq_true,beq_iff_eq]at h;obtain⟨rfl,rfl⟩:=h;exact .inl rfl
  · rename_i fq l c;simp only[Bool.and_eq_true,Option.isNone_iff_eq_none,beq_iff_eq]at h;obtain⟨⟨mr,rfl⟩,h⟩:=h;split at h
    · rename_i x H;obtain⟨b,off,aY⟩:=fq;simp only at mr H h;subst mr;exact .inr ⟨b,off,l,x,rfl,H,by simpa using h⟩
    · cases h
  · cases h
theorem aCw{c:Call}{x y:Operand}{t e:TypeId}{b8:TypeInfo}{O:List Value}(b7:o.op= .call c)(aB:c.callee= .builtin .append)(aE:c.args.toList=[x,y])(iU:c.argTypes.toList=[t,t])
    (bH:P.underlying t=some (.slice e)) (aa:P.info? e=some b8) (bY:xJ P e=some O) (H:dZ x=true) (ah:dZ y=true)
    (J:jf ax ek u a) (aK:fc bu ax m w) (ev:bu<=w.heap.size) (e4:id<m.next) (aF:ax id=none)
    (aA:(av.app b8.size b8.bytes x y).ok u m=true):tf P o (.app b8.size b8.bytes x y) a bu ax u m w id:=by
  obtain⟨afP,lb,jE,tI,pf,oK,gH⟩:=HV bY;rw[aa]at jE;cases jE;have Gc:lb.cells.size=b8.size:=by rw[<-gH,<-pf];simp
  simp only[av.ok,Bool.and_eq_true,decide_eq_true_eq]at aA;obtain⟨⟨⟨⟨⟨z,D⟩,Z⟩,aw⟩,aX⟩,cC⟩:=aA;have wj:=J.ab H;have u5:=J.ab ah
  -- lX aPI
  have uM: ∃q Nt,a.eval y= .slice q (hA (ab u y)) Nt:=by
    rcases Mt Z with aM|⟨b,off,len,CT,aM,_,_⟩
    · rw[aM]at u5;exact⟨none,0,by rw[aM];exact u5.lo rfl⟩
    · rw[aM]at u5;obtain⟨_,_,_,_,_,g,_⟩:=u5.r6;exact⟨_,_,by rw[aM];exact g⟩
  obtain⟨q,Nt,uM⟩:=uM;have ln: ∃p iO,a.eval x= .slice p (hA (ab u x)) iO/\hA (ab u x)<=iO:=by
    rcases Mt z with aM|⟨b,off,len,CT,aM,_,_⟩
    · rw[aM]at wj;exact⟨none,0,by rw[aM];exact wj.lo rfl,by rw[aM];exact Nat.le_refl _⟩
    · rw[aM]at wj;obtain⟨_,_,_,_,_,g,_,a2,_⟩:=wj.r6;exact⟨_,_,by rw[aM];exact g,by rw[aM];exact a2⟩
  by_cases ak:hA (ab u y)=0
  · obtain⟨p,iO,ln,fG⟩:=ln;rw[ak]at uM;refine⟨a.eval x,w,ax,?_,im.refl ax,λ_ _=>rfl,by simpa only[av.val,ak,if_true]using wj,by simpa only[av.kk,ak,if_true]using aK,Below.refl _ _⟩;rw[ln];exact Ti b7 aB aE iU ln uM (aB9 t _ e b8 bH aa _ _ _ _ _ fG)
  · -- aPH sr th
    rcases Mt Z with aM|⟨ti,wa,lO,CT,qm,DW,auU⟩
    · rw[aM]at ak;exact absurd rfl ak
    rw[qm]at u5;obtain⟨qK,apm,Iy,Vx,_,uM,uI,aI8,_⟩:=u5.r6
    replace Vx:ax ti=some qK:=Vx
    replace uI:(Iy=0/\lO=0)\/(apm=⟨qK.c,qK.o+wa,none⟩/\wa+Iy*b8.size<=qK.n):=uI
    have Vt:hA (ab u y)=lO:=(by rw[qm];rfl);have auT:hO m b8.size (ab u y)=ka m ti wa (lO*b8.size):=(by rw[qm];rfl);rw[Vt]at ak aX cC;obtain⟨np,fY,dh,kZ,p0⟩:=aK.cells DW Vx auU;rcases uI with⟨_,bB⟩|⟨rfl,_⟩
    · omega
    have qA:(av.app b8.size b8.bytes x y).val id u m= .slice (some ⟨id,0,none⟩) (hA (ab u x)+lO) b8.size:=(by simp only[av.val,Vt,ak,if_false]);have zU:(av.app b8.size b8.bytes x y).kk id u m=(n0 m (ab u x)).au id (some ⟨hO m b8.size (ab u x)++ka m ti wa (lO*b8.size),true⟩):=by simp only[av.kk,Vt,ak,if_false,auT]
    -- lX new block,aQX lX n2 ha aQV
    have aey: ∀(n2:Nat) (xC:List Value) (dd:B),fc bu ax dd w->id<dd.next->dy ax (hO m b8.size (ab u x)) xC->(∀v∈hO m b8.size (ab u x),ao v=true)->xC.length=hA (ab u x)*b8.size->
        n2<hA (ab u x)+lO->
        eE (jz ax id ⟨w.heap.size,0,grownCap w (hA (ab u x)+lO) n2 e*b8.size⟩) (.slice (some ⟨id,0,none⟩) (hA (ab u x)+lO) b8.size) (.slice (some ⟨w.heap.size,0,none⟩) (hA (ab u x)+lO) (grownCap w (hA (ab u x)+lO) n2 e))/\
        fc bu (jz ax id ⟨w.heap.size,0,grownCap w (hA (ab u x)+lO) n2 e*b8.size⟩) (dd.au id (some ⟨hO m b8.size (ab u x)++ka m ti wa (lO*b8.size),true⟩))
          (w.drew.alloc (.cells (xC.toArray++np.toArray++Builtin.zeroCells lb.cells (grownCap w (hA (ab u x)+lO) n2 e-(hA (ab u x)+lO))) e)):=by
      intro n2 xC dd yi atF an pR DL F6;have iw:=grownCap_ge w (hA (ab u x)+lO) n2 e;have uy:grownCap w (hA (ab u x)+lO) n2 e<=maxLen:=grownCap_le_maxLen w _ n2 e (by unfold maxLen;omega);refine⟨.slice (off:=0) (l:=⟨w.heap.size,0,grownCap w (hA (ab u x)+lO) n2 e*b8.size⟩) (by simp[jz]) (.inr ⟨by simp,by simp⟩) iw uy,?_⟩;have iQ:(xC.toArray++np.toArray++Builtin.zeroCells lb.cells (grownCap w (hA (ab u x)+lO) n2 e-(hA (ab u x)+lO))).size=grownCap w (hA (ab u x)+lO) n2 e*b8.size:=by simp only[Array.size_append,List.size_toArray,size_zeroCells,Gc,DL,dh,<-Nat.add_mul];congr 1;omega
      have JF:dy ax (hO m b8.size (ab u x)++ka m ti wa (lO*b8.size)) (xC++np):=an.th fY;refine yi.Hr (cS:=w.drew) rfl ev atF aF ?_ (by rw[iQ];exact Nat.le_refl _) (λi v X=> ?_) (λi _=>by simp)
      · rw[JF.1,List.length_append,DL,dh,<-Nat.add_mul];exact Nat.mul_le_mul_right _ iw
      · obtain⟨aJ,bk,JP⟩:=JF.M X;refine⟨?_,aJ,?_,JP⟩
        · have:v∈hO m b8.size (ab u x)++ka m ti wa (lO*b8.size):=List.mem_of_getElem? X;rcases List.mem_append.1 this with h|h
          · exact pR v h
          · obtain⟨e5,mD,bm,bU,cn⟩:=aK.rk ti CT DW;simp only[ka,DW]at h;obtain⟨j,cp,JD⟩:=List.getElem_of_mem (List.mem_of_mem_drop (List.mem_of_mem_take h));exact(bU j v (by rw[List.getElem?_eq_getElem cp,JD])).1
        · rw[Array.getElem?_append_left (by
            have:=(List.getElem?_eq_some_iff.1 bk).1;simpa using this)]
          simpa using bk
    rcases Mt z with lj|⟨b,off,len,hl,lj,yo,V5⟩
    · -- nil
      rw[lj]at wj;have ln:=wj.lo rfl;have nE:hA (ab u x)=0:=(by rw[lj];rfl);have yb:hO m b8.size (ab u x)=[]:=(by rw[lj];rfl);obtain⟨aC,a2⟩:=aey 0 [] m aK e4 (by rw[yb];exact dy.nil ax) (by rw[yb];simp) (by rw[nE];simp) (by omega);simp only[nE,Nat.zero_add]at aC a2 aX cC;have ll:=run_append_nil (P:=P) w t o.type e b8 lb bH aa tI ⟨qK.c,qK.o+wa,none⟩ lO Iy np dh kZ (by omega) (by omega) (by omega);refine⟨_,_,jz ax id ⟨w.heap.size,0,grownCap w lO 0 e*b8.size⟩,Ti b7 aB aE iU ln uM ll,wv aF,AX,?_,?_,A7 (w:=w) (cS:=w.drew) rfl rfl rfl rfl ev _⟩
      · rw[qA,nE,Nat.zero_add];exact aC
      · rw[zU,lj];simpa only[n0,hO,List.nil_append,Array.empty_append,lj]using a2
    · -- a slice fJ lX aHl own
      rw[lj]at wj;obtain⟨l,er,cap,aG,_,ln,hY,DH,uy⟩:=wj.r6
      replace aG:ax b=some l:=aG
      replace hY:(cap=0/\len=0)\/(er=⟨l.c,l.o+off,none⟩/\off+cap*b8.size<=l.n):=hY
      have nE:hA (ab u x)=len:=(by rw[lj];rfl);have yb:hO m b8.size (ab u x)=ka m b off (len*b8.size):=(by rw[lj];rfl);have pS:hl.own=true:=(by simpa[lj,nK,yo]using D);obtain⟨e5,mD,bm,bU,cn⟩:=aK.rk b hl yo;rw[aG]at mD;cases mD;obtain⟨xC,b5,dC,fs,g3⟩:=aK.cells yo aG V5;have sJ: ∀v∈ka m b off (len*b8.size),ao v=true:=(by intro v X;simp only[ka,yo]at X;obtain⟨j,cp,JD⟩:=List.getElem_of_mem (List.mem_of_mem_drop (List.mem_of_mem_take X));exact(bU j v (by rw[List.getElem?_eq_getElem cp,JD])).1);have W:n0 m (ab u x)=m.au b none:=(by rw[lj];rfl);rw[nE]at aX cC;by_cases JN:len+lO<=cap
      · -- aDj qG aNq
        rcases hY with⟨bB,_⟩|⟨rfl,hY⟩
        · omega
        have at4:(len+lO)*b8.size<=cap*b8.size:=Nat.mul_le_mul_right _ JN;rw[Nat.add_mul]at at4
        have ll:=aB8 (P:=P) (w:=w) t o.type e b8 bH aa l.c (l.o+off) len cap ⟨qK.c,qK.o+wa,none⟩ lO Iy np dh kZ p0 JN
          (λj cp=>by
            have:=((cn pS).2 (off+len*b8.size+j) (by rw[dh]at cp;omega)).1
            rwa [show l.o+(off+len*b8.size+j)=l.o+off+len*b8.size+j by omega]at this)
          (λj cp=>by
            have:=((cn pS).2 (off+len*b8.size+j) (by rw[dh]at cp;omega)).2
            rwa [show l.o+(off+len*b8.size+j)=l.o+off+len*b8.size+j by omega]at this)
        refine⟨_,_,jz ax id ⟨l.c,l.o+off,l.n-off⟩,Ti b7 aB aE iU ln uM ll,wv aF,AX,?_,?_,TN (cn pS).1 _ _ _⟩
        · rw[qA,nE];exact .slice (off:=0) (l:=⟨l.c,l.o+off,l.n-off⟩) (by simp[jz]) (.inr ⟨by simp,by show 0+cap*b8.size<=l.n-off;omega⟩) JN uy
        · rw[zU,W,yb];have JF:dy ax (ka m b off (len*b8.size)++ka m ti wa (lO*b8.size)) (xC++np):=b5.th fY;have ra: ∀j (cp:j<np.length),(w.setCells l.c (l.o+off+len*b8.size) np).cell? ⟨l.c,l.o+off+len*b8.size+j,none⟩=some np[j]:= λj cp=>
            World.cell?_setCells_in l.c np (l.o+off+len*b8.size) w (λi jE=>by
              have:=((cn pS).2 (off+len*b8.size+i) (by rw[dh]at jE;omega)).1
              rwa [show l.o+(off+len*b8.size+i)=l.o+off+len*b8.size+i by omega]at this) j cp
          have afj: ∀i,i<len*b8.size\/len*b8.size+np.length<=i->(w.setCells l.c (l.o+off+len*b8.size) np).cell? ⟨l.c,l.o+off+i,none⟩=w.cell? ⟨l.c,l.o+off+i,none⟩:= λi jE=>
            World.cell?_setCells_out _ _ _ _ _ (λ_ _=>by show l.o+off+i<_\/_<=l.o+off+i;omega)
          refine(aK.n0 b).acz (by rw[B.ame];exact e4) aF (λcQ kC e5 hH mD=> ?_) (by rw[SQ];exact Nat.le_refl _) (by rw[SQ];exact aK.rf b l aG) (cn pS).1 (λfq _ dq=>⟨World.cell?_setCells_out _ _ _ _ _ (λh _=>absurd h dq),World.frozen?_setCells _ _ _ _ _⟩) (λk _ W=>abI _ _ W _ _ _) ?_ (λi v X=> ?_) (λi jE=> ?_)
          · rw[B.pH]at hH;split at hH
            · split at hH<;>cases hH
            · rename_i dq;exact Ne.symm (aK.wP b hl cQ kC l e5 yo pS hH (Ne.symm dq) aG mD)
          · rw[JF.1,List.length_append,dC,dh];omega
          · obtain⟨aJ,bk,JP⟩:=JF.M X;have at0:v∈ka m b off (len*b8.size)++ka m ti wa (lO*b8.size):=List.mem_of_getElem? X;refine⟨?_,aJ,?_,JP⟩
            · rcases List.mem_append.1 at0 with h|h
              · exact sJ v h
              · obtain⟨e5,mD,dK,eO,gk⟩:=aK.rk ti CT DW;simp only[ka,DW]at h;obtain⟨j,cp,JD⟩:=List.getElem_of_mem (List.mem_of_mem_drop (List.mem_of_mem_take h));exact(eO j v (by rw[List.getElem?_eq_getElem cp,JD])).1
            · rw[List.getElem?_append]at bk;split at bk
              · rename_i cM;rw[dC]at cM;rw[afj i (.inl cM)];have:=fs i aJ bk
                rwa [TH]at this
              · rename_i cM;rw[dC]at cM bk;have cp:i-len*b8.size<np.length:=(List.getElem?_eq_some_iff.1 bk).1;have:=ra _ cp;rw[show l.o+off+len*b8.size+(i-len*b8.size)=l.o+off+i by omega]at this;rw[this];rw[List.getElem?_eq_getElem cp]at bk;exact bk
          · have bt:=(cn pS).2 (off+i) (by omega);rw[<-Nat.add_assoc]at bt;refine⟨?_,by rw[World.frozen?_setCells];exact bt.2⟩;by_cases mZ:i<len*b8.size\/len*b8.size+np.length<=i
            · rw[afj i mZ];exact bt.1
            · have cp:i-len*b8.size<np.length:=(by omega);have:=ra _ cp;rw[show l.o+off+len*b8.size+(i-len*b8.size)=l.o+off+i by omega]at this;rw[this];rfl
      · -- akw aIx
        obtain⟨aC,a2⟩:=aey cap xC (m.au b none) (aK.n0 b) (by rw[B.ame];exact e4) (by rw[yb];exact b5) (by rw[yb];exact sJ) (by rw[nE];exact dC) (by omega);rw[nE]at aC a2;have holds: ∀(j:Nat) v,xC[j]?=some v->w.cell? (er.add j)=some v:=by
          intro j v X;rcases hY with⟨_,bB⟩|⟨rfl,_⟩
          · subst bB;simp at dC;rw[dC]at X;simp at X
          · exact fs j v X
        have ll:=run_append_grow (P:=P) w t o.type e b8 lb bH aa tI er len cap xC dC holds ⟨qK.c,qK.o+wa,none⟩ lO Iy np dh kZ (by omega) (by omega) (growslice_fits (by omega) aX);refine⟨_,_,jz ax id ⟨w.heap.size,0,grownCap w (len+lO) cap e*b8.size⟩,Ti b7 aB aE iU ln uM ll,wv aF,AX,?_,?_,A7 (w:=w) (cS:=w.drew) rfl rfl rfl rfl ev _⟩
        · rw[qA,nE];exact aC
        · rw[zU,W];exact a2
end
section
variable {P:Program} {w:World} {o:Oper} {a:Act} {ax:fE} {ek:Nat} {u:aL} {m:B} {bu id:Nat}
theorem azE{cK:Type}(xs:Array cK)(x:cK)(f:cK->cK):(xs.push x).modify xs.size f=xs.push (f x):=by
  apply Array.ext_getElem?;intro i;rw[Array.getElem?_modify,Array.getElem?_push,Array.getElem?_push];by_cases h:xs.size=i
  · simp[h]
  · have: ¬i=xs.size:= λe=>h e.symm;simp[h,this]
theorem aCA{s d e:TypeId}{x:Operand}(b7:o.op= .convert s d x)(dB:P.underlying s=some .string)(mm:P.underlying d=some (.slice e))(bT:P.underlying e=some (.int .u8))(H:dZ x=true)
    (J:jf ax ek u a) (aK:fc bu ax m w) (ev:bu<=w.heap.size) (e4:id<m.next) (aF:ax id=none) (aA:(av.rN x).ok u m=true):tf P o (.rN x) a bu ax u m w id:=by
  simp only[av.ok,Bool.and_eq_true,decide_eq_true_eq]at aA;obtain⟨z,D⟩:=aA;obtain⟨aM,b,X⟩:=My (J.ab H) z;rw[X]at D;simp only[ui]at D;have iw:=grownCap_ge w b.size 0 e;have uy:grownCap w b.size 0 e<=maxLen:=grownCap_le_maxLen w _ 0 e (by unfold maxLen;omega);generalize U8:grownCap w b.size 0 e=cap at iw uy
  let mz:Array Value:=(b.data.map λ(x:UInt8)=>Value.int .u8 x.toNat)++Array.replicate (cap-b.size) (Value.int .u8 0)
  have iQ:mz.size=cap:=by show((b.data.map λ(x:UInt8)=>Value.int .u8 x.toNat)++Array.replicate (cap-b.size) (Value.int .u8 0)).size=cap;simp only[Array.size_append,Array.size_map,Array.size_replicate];have:b.data.size=b.size:=rfl;omega
  have F2:(w.drew.alloc (.cells mz e)).freeze ⟨w.heap.size,mz.size,none⟩ 1=w.drew.alloc (.cells mz e (mz.size,mz.size+1)):=by simp only[World.freeze,Nat.one_ne_zero,if_false,World.alloc];congr 1;show(w.heap.push _).modify w.heap.size _=w.heap.push _;rw[azE];simp
  have ll:(Conv.stringToBytes e b).run P w= .ok (.slice (some ⟨w.heap.size,0,none⟩) b.size cap) (w.drew.alloc (.cells mz e (mz.size,mz.size+1))):=by
    have atm:(choose (.appendCap b.size 0 e)).run P w= .ok cap w.drew:=(by rw[<-U8];rfl);have uG:(newRow e mz).run P w.drew= .ok ⟨w.heap.size,0,none⟩ (w.drew.alloc (.cells mz e)):=rfl;have auA:(w.drew.alloc (.cells mz e)).shape? w.heap.size=some (e,mz.size):=(by show(match(w.heap.push (Obj.cells mz e))[w.heap.size]? with|some (.cells c arL _)=>some (arL,c.size)|_=>none)=_;simp);have atZ:(markStringish ⟨w.heap.size,0,none⟩).run P (w.drew.alloc (.cells mz e))= .ok () (w.drew.alloc (.cells mz e (mz.size,mz.size+1))):=by
      simp only[markStringish,Sem.run_bind];have:(shape w.heap.size).run P (w.drew.alloc (.cells mz e))= .ok (some (e,mz.size)) (w.drew.alloc (.cells mz e)):=by simp only[shape,Sem.run,auA]
      rw[this];simp only[Result.andThen_ok];show Result.ok () ((w.drew.alloc (.cells mz e)).freeze ⟨w.heap.size,mz.size,none⟩ 1)=_;rw[F2]
    simp only[Conv.stringToBytes,Sem.run_bind,atm,Result.andThen_ok];have a1:(b.data.map λ(b:UInt8)=>Value.int .u8 b.toNat)++Array.replicate (cap-b.size) (Value.int .u8 0)=mz:=rfl;rw[a1,uG];simp only[Result.andThen_ok,atZ];rfl
  refine⟨.slice (some ⟨w.heap.size,0,none⟩) b.size cap,_,jz ax id ⟨w.heap.size,0,cap⟩,.inl ?_,wv aF,AX,?_,?_,A7 (w:=w) (cS:=w.drew) rfl rfl rfl rfl ev (.cells mz e (mz.size,mz.size+1))⟩
  · simp[execOp,b7,aM,X,convert,underlying,dB,mm,bT,ll]
  · simp only[av.val,X,ui];exact .slice (off:=0) (l:=⟨w.heap.size,0,cap⟩) (by simp[jz]) (.inr ⟨by simp,by simp⟩) iw uy
  · simp only[av.kk,X,ui];refine aK.Hr (cS:=w.drew) rfl ev e4 aF (by simp only[Cj,List.length_map,Array.length_toList];exact iw) (by rw[iQ];exact Nat.le_refl _) (λi v sO=> ?_) (λi jE=>by simp only;omega);have mZ:i<b.data.size:=(by have:=(List.getElem?_eq_some_iff.1 sO).1;simpa[Cj]using this);have auJ:v= .int .u8 (b.data[i]).toNat:=by
      simp only[Cj,List.getElem?_map,Array.getElem?_toList,Array.getElem?_eq_getElem mZ,Option.map_some,Option.some.injEq]at sO;exact sO.symm
    subst auJ;refine⟨rfl,_,?_,.c0 rfl⟩;show((b.data.map λ(x:UInt8)=>Value.int .u8 x.toNat)++Array.replicate (cap-b.size) (Value.int .u8 0))[i]?=_;rw[Array.getElem?_append_left (by simpa using mZ),Array.getElem?_map,Array.getElem?_eq_getElem mZ];rfl
end
end Go.DI
