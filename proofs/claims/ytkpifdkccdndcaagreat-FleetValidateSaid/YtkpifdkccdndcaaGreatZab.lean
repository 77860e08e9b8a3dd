/-
  A part of the proof of the statement, in texts that tools of ours (wip/shrink.py, irpack.py, relax.py, minify.py, join.py, lay.py) have shortened.
-/
import Derived.ChangeKeysEq
import Derived.Test.YtkpifdkccdndcaaGreatZaa
set_option linter.all false
set_option maxRecDepth 8000
set_option maxHeartbeats 16000000
namespace Go.DI
open Go Go.RowKit
section
variable {P:Program} {w:World} {o:Oper} {a:Act}
theorem aMI{t:TypeId}{en:Array (Nat×Operand)}{cells:Array Value}{cu:TypeInfo}{O:Value}{gH:Array Field}(cw:o.op= .build t en)(ag:P.info? t=some cu)(cl:cu.zero=some O)
    (bm:P.underlying t=some (.struct gH)) (gf:gH.toList.all (λf=>(mK P f.type).isSome)=true)
    (bs: ∀z1:Nat->Option (Nat×Nat),(∀i,z1 i=(gH[i]?).bind λ(f:Field)=>(P.info? f.type).map λcu=>(f.offset,cu.size))->Instr.fill z1 O.cells (en.toList.map λp=>(p.1,a.eval p.2))=some cells):
    ld P o a w (.agg cells) w:=by
  refine .inl ?_;obtain⟨uV,B,H⟩:=aHn (P:=P) (w:=w) gH.toList gf;have af:=bs (λi=>uV.toArray[i]?) (λi=>by simpa using H i);have cm:(gH.mapM (m:=Sem) λ(f:Field)=>do pure (f.offset,<-sizeOf f.type)).run P w= .ok uV.toArray w:=by rw[Array.mapM_eq_mapM_toList];simp only[Sem.run_map,B];rfl
  simp only[execOp,cw,Instr.build,Sem.run_bind,run_underlying bm,zeroValue,typeInfo,run_program,ag,cl,Sem.run_pure,Result.andThen_ok,cm];have dK:Instr.fill (λx=>uV[x]?) O.cells (List.map (λx=>(x.fst,a.eval x.snd)) en.toList)=some cells:=by simpa using af
  simp[dK]
theorem aMP{t:TypeId}{x:Operand}{i:Nat}{gH:Array Field}{f:Field}{cu:TypeInfo}{b:Bool}{cs:Array Value}(cw:o.op= .field t x i)(bm:P.underlying t=some (.struct gH))(bs:gH[i]?=some f)
    (ag:P.info? f.type=some cu) (K:sa P f.type=some b) (F:a.eval x= .agg cs) (av:f.offset+cu.size<=cs.size) (B:b=true\/cu.size=1):
    ld P o a w (if b then .agg (cs.toList.drop f.offset|>.take cu.size).toArray else cs.toList.getD f.offset undef) w:=by
  refine .inl ?_;have H:=agX (w:=w) K;simp only[execOp,cw,F,Instr.field,Sem.run_bind,run_underlying bm,Result.andThen_ok,bs,asAgg,Sem.run_pure,part,H];cases b
  · have af:cu.size=1:=(by simpa using B);have aL:f.offset<cs.size:=(by omega);simp[aL]
  · simp only[if_true,Sem.run_bind,sizeOf,typeInfo,run_program,ag,Sem.run_pure,Result.andThen_ok];congr 3;apply Array.toList_inj.1;simp[Array.toList_extract]
theorem aMJ{t e:TypeId}{n:Nat}{en:Array (Nat×Operand)}{cells:Array Value}{cu Is:TypeInfo}{O:Value}(cw:o.op= .build t en)(ag:P.info? t=some cu)(cl:cu.zero=some O)
    (bm:P.underlying t=some (.array n e)) (a2:P.info? e=some Is)
    (bs:Instr.fill (λi=>some (i*Is.size,Is.size)) O.cells (en.toList.map λp=>(p.1,a.eval p.2))=some cells):ld P o a w (.agg cells) w:=by
  refine .inl ?_;simp[execOp,cw,Instr.build,run_underlying bm,zeroValue,sizeOf,typeInfo,ag,cl,a2,bs]
theorem arF(fQ:Bool): ∀(xs:List Value) (eF:Value),gi eF=true->(∀x∈xs,gi x=true)->
    (xs.foldlM (m:=Sem) (if fQ then Builtin.max2 else Builtin.min2) eF).run P w= .ok (xs.foldl (λeF y=>if fQ then ra eF y else rb eF y) eF) w
  |[],_,_,_=>by simp
  | x::xs,eF,h,F=>by have B:((if fQ then Builtin.max2 else Builtin.min2) eF x).run P w= .ok (if fQ then ra eF x else rb eF x) w:=(by have Y5:=F x (by simp);cases eF<;>simp[gi]at h;cases x<;>simp[gi]at Y5;cases fQ<;>simp[Builtin.max2,Builtin.min2,ra,rb]);have H:gi (if fQ then ra eF x else rb eF x)=true:=(by have Y5:=F x (by simp);cases eF<;>simp[gi]at h;cases x<;>simp[gi]at Y5;cases fQ<;>simp[ra,rb,gi]);simp only[List.foldlM_cons,Sem.run_bind,B,Result.andThen_ok,qN];exact arF fQ xs _ H (λy ab=>F y (by simp[ab]))
theorem ath{c:Call}{fQ:Bool}{x:Operand}{xs:List Operand}(cw:o.op= .call c)(aK:c.callee= .builtin (if fQ then .max else .min))(aC:c.args.toList=x::xs)
    (B:gi (a.eval x)=true) (H: ∀y∈xs,gi (a.eval y)=true):ld P o a w (xs.foldl (λeF y=>if fQ then ra eF (a.eval y)else rb eF (a.eval y)) (a.eval x)) w:=by
  refine .inl ?_;have af:(c.args.map a.eval).toList=a.eval x::xs.map a.eval:=by simp[aC]
  have aL:=arF (P:=P) (w:=w) fQ (xs.map a.eval) (a.eval x) B (by simpa using H);rw[List.foldl_map]at aL;cases fQ
  · simp only[execOp,cw,resolve,aK,invoke,builtin,Sem.run_bind,Sem.run_pure,Result.andThen_ok,lv,if_false,Builtin.min_,af];simp only[lv,if_false]at aL;simp[aL]
  · simp only[execOp,cw,resolve,aK,invoke,builtin,Sem.run_bind,Sem.run_pure,Result.andThen_ok,if_true,Builtin.max_,af];simp only[if_true]at aL;simp[aL]
theorem Qb: ∀(bM dL:List sg) (xs ys:List Value),g9 (bM++dL) xs ys=true->g9 bM (xs.take bM.length) (ys.take bM.length)=true/\g9 dL (xs.drop bM.length) (ys.drop bM.length)=true/\
    iM xs ys=(iM (xs.take bM.length) (ys.take bM.length)&&iM (xs.drop bM.length) (ys.drop bM.length))
  |[],dL,xs,ys,h=>by simpa[g9,iM]using h
  |k::bM,dL,[],ys,h=>by simp[g9]at h
  |k::bM,dL,x::xs,[],h=>by simp[g9]at h
  | k::bM,dL,x::xs,y::ys,h=>by simp only[Cg,g9,bK]at h;obtain⟨B,H,af⟩:=Qb bM dL xs ys h.2;exact⟨by simp[g9,h.1,B],by simpa using H,by simp[iM,af,Es]⟩
theorem Qc: ∀(gQ:List sg) (xs ys:List Value),g9 gQ xs ys=true->xs.length=gQ.length/\ys.length=gQ.length
  |[],[],[],_=>by simp
  |[],[],_::_,h=>by simp[g9]at h
  |[],_::_,_,h=>by simp[g9]at h
  |_::_,[],_,h=>by simp[g9]at h
  |_::_,_::_,[],h=>by simp[g9]at h
  | k::gQ,x::xs,y::ys,h=>by simp only[g9,bK]at h;have:=Qc gQ xs ys h.2;simp[this]
def xC(df:Bool)(xs:List Value):Value:=if df then .agg xs.toArray else xs.headD undef
theorem BF{xs:List Value}(h:xs.length=1): ∃x,xs=[x]:=by
  match xs,h with
  |[x],_=>exact⟨x,rfl⟩
theorem Vd{t:TypeId}{b:Bool}{n off:Nat}{xs:List Value}(K:sa P t=some b)(av:mK P t=some n)(B:b=true\/n=1)(aE:off+n<=xs.length):
    (part t xs.toArray off).run P w= .ok (xC b ((xs.drop off).take n)) w:=by
  obtain⟨cu,ag,rfl⟩:=v9 av;simp only[part,Sem.run_bind,agX K,Result.andThen_ok];cases b
  · have H:cu.size=1:=(by simpa using B);have af:off<xs.length:=(by omega);simp only[lv,if_false,xC,H];simp[c0 af,List.take_one,List.headD]
  · simp only[if_true,Sem.run_bind,sizeOf,typeInfo,run_program,ag,Sem.run_pure,Result.andThen_ok,xC];congr 2;apply Array.toList_inj.1;simp
theorem Qt: ∀(d cn:Nat) (t:TypeId) (gQ:List sg) (xs ys:List Value),xI P d t=some gQ->d<=cn->g9 gQ xs ys=true->
    ∃b,sa P t=some b/\mK P t=some gQ.length/\(b=true\/gQ.length=1)/\(Op.equalIn cn t (xC b xs) (xC b ys)).run P w= .ok (iM xs ys) w
  |0,_,_,_,_,_,h,_,_=>by simp[xI]at h
  |d+1,0,_,_,_,_,_,h,_=>by omega
  | d+1,cn+1,t,gQ,xs,ys,h,g2,aE=>by
    obtain⟨BG,q7⟩:=Qc gQ xs ys aE;unfold xI at h;split at h
    · rename_i n ar av;split at h<;>cases h;rename_i e;subst e;obtain⟨x,rfl⟩:=BF BG;obtain⟨y,rfl⟩:=BF q7;refine⟨false,by simp[sa,ar],av,.inr rfl,?_⟩;cases x<;>cases y<;>simp[g9,Cw]at aE;simp only[xC,lv,if_false,List.headD_cons,iM,kj,Bool.and_true];exact run_equalIn_bool' w cn t _ _ ar
    · rename_i k n ar av;split at h<;>cases h;rename_i e;subst e;obtain⟨x,rfl⟩:=BF BG;obtain⟨y,rfl⟩:=BF q7;refine⟨false,by simp[sa,ar],av,.inr rfl,?_⟩;cases x<;>cases y<;>simp[g9,Cw]at aE;subst aE;simp only[xC,lv,if_false,List.headD_cons,iM,kj,Bool.and_true];exact run_equalIn_int w cn t _ _ _ _ ar
    · rename_i n ar av;split at h<;>cases h;rename_i e;subst e;obtain⟨x,rfl⟩:=BF BG;obtain⟨y,rfl⟩:=BF q7;refine⟨false,by simp[sa,ar],av,.inr rfl,?_⟩;cases x<;>cases y<;>simp[g9,Cw]at aE;simp only[xC,lv,if_false,List.headD_cons,iM,kj,Bool.and_true];rw[run_equalIn_string w cn t _ _ ar,toList_beq]
    · rename_i gH n ar av;split at h
      · rename_i aTI Fw;split at h
        · rename_i aK;cases h;simp only[bK,fU,Ak]at aK;obtain⟨rfl,rR⟩:=aK;refine⟨true,by simp[sa,ar],av,.inl rfl,?_⟩;simp only[xC,if_true];have ajA:P.fieldsOf t=gH:=(by simp[Program.fieldsOf,ar]);rw[run_equalIn_struct w cn t _ _ (by rw[ajA];exact ar) rR,ajA]
          -- lN aQO,hS P0 lN ir
          have key: ∀(gr:List Field) (off:Nat) (UH:List sg),Lc (xI P d) gr off=some UH->g9 UH (xs.drop off) (ys.drop off)=true->
              (Op.eqFields cn xs.toArray ys.toArray gr).run P w= .ok (iM (xs.drop off) (ys.drop off)) w:=by
            intro gr;induction gr with
            | nil=>intro off UH B H;simp[Lc]at B;subst B;cases F:xs.drop off<;>cases ab:ys.drop off<;>simp[F,ab,g9]at H;simp[Op.eqFields,iM]
            | cons f gr cB=>
              intro off UH B H;simp only[Lc]at B;split at B
              · rename_i aK;simp only[bK,bne_iff_ne,ne_eq,beq_iff_eq]at aK;obtain⟨nJ,Ma⟩:=aK;split at B
                · rename_i bM vu;split at B
                  · rename_i dL tw;split at B<;>cases B;rename_i azI;obtain⟨aj,ba,cD⟩:=Qb bM dL _ _ H;obtain⟨b,aX,bg,dU,ha⟩:=Qt d cn f.type bM _ _ vu (by omega) aj;have fP:=(Qc _ _ _ H);simp only[List.length_drop,mo]at fP;have ez:=Vd (w:=w) (off:=off) (xs:=xs) aX bg dU (by omega);have fj:=Vd (w:=w) (off:=off) (xs:=ys) aX bg dU (by omega);simp only[s9]at ba cD;have af:=cB (off+bM.length) dL tw ba;simp only[Op.eqFields,nJ,ne_eq,not_false_eq_true,if_true,Sem.run_bind,Ma,ez,fj,Result.andThen_ok,ha,cD,Sem.run_ite,Sem.run_pure,af];cases iM (List.take bM.length (List.drop off xs)) (List.take bM.length (List.drop off ys))<;>simp
                  · cases B
                · cases B
              · cases B
          have:=key gH.toList 0 _ Fw (by simpa using aE);simpa using this
        · cases h
      · cases h
    · -- l9 array
      rename_i k e n ar av;split at h
      · rename_i bM Fw;split at h
        · rename_i aK;cases h;simp only[bK,fU]at aK;obtain⟨rfl,azI⟩:=aK;have fN: ∀r:Nat,(List.replicate r bM).flatten.length=r*bM.length:=by
            intro r;induction r with
            |zero=>simp
            |succ r cB=>rw[Ko,u7,mo,cB,mN];omega
          refine⟨true,by simp[sa,ar],by rw[av,fN],.inl rfl,?_⟩;simp only[xC,if_true];by_cases H8:k=0
          · subst H8;simp only[List.replicate_zero,List.flatten_nil]at aE BG q7;have aX:xs=[]:=pz.1 BG;have bg:ys=[]:=pz.1 q7;subst aX bg;simp[Op.equalIn,run_underlying ar,iM,sizeOf,typeInfo];cases ag:P.info? e with
            | none=>
              -- lN aQH type q3 aGv,a1i apn aTH aPy
              exfalso;cases d with
              |zero=>simp[xI]at Fw
              | succ d=>unfold xI at Fw;have:mK P e=none:=(by simp[mK,ag]);simp[this]at Fw
            |some i=>simp
          · obtain⟨gJ,rfl⟩: ∃gJ,k=gJ+1:=⟨k-1,by omega⟩;have mz:=aE;rw[Ko,u7]at mz;obtain⟨aj,_,_⟩:=Qb bM _ xs ys mz;obtain⟨dB,_,bg,_,_⟩:=Qt d cn e bM _ _ Fw (by omega) aj;obtain⟨cu,ag,jc⟩:=v9 bg;have A2:P.cellsOf e=bM.length:=(by simp[Program.cellsOf,ag,jc]);rw[run_equalIn_array w cn xs.toArray ys.toArray ar ag,A2,Kr]
            have key: ∀(r j:Nat),g9 (List.replicate r bM).flatten (xs.drop (j*bM.length)) (ys.drop (j*bM.length))=true->
                (Op.eqItems cn e bM.length xs.toArray ys.toArray (List.range' j r)).run P w= .ok (iM (xs.drop (j*bM.length)) (ys.drop (j*bM.length))) w:=by
              intro r;induction r with
              | zero=>intro j H;simp only[List.replicate_zero,List.flatten_nil]at H;cases F:xs.drop (j*bM.length)<;>cases ab:ys.drop (j*bM.length)<;>simp[F,ab,g9]at H;simp[Op.eqItems,iM]
              | succ r cB=>intro j H;rw[Ko,u7]at H;obtain⟨aj,ba,cD⟩:=Qb bM _ _ _ H;obtain⟨b,aX,bg,dU,ha⟩:=Qt d cn e bM _ _ Fw (by omega) aj;have fP:=Qc _ _ _ H;simp only[List.length_drop,mo]at fP;have ez:=Vd (w:=w) (off:=j*bM.length) (xs:=xs) aX bg dU (by omega);have fj:=Vd (w:=w) (off:=j*bM.length) (xs:=ys) aX bg dU (by omega);simp only[s9]at ba cD;have c6:j*bM.length+bM.length=(j+1)*bM.length:=(by rw[mN];omega);rw[c6]at ba cD;have af:=cB (j+1) ba;rw[List.range'_succ];simp only[Op.eqItems,Sem.run_bind,ez,fj,Result.andThen_ok,ha,cD,Sem.run_ite,Sem.run_pure,af];cases iM (List.take bM.length (List.drop (j*bM.length) xs)) (List.take bM.length (List.drop (j*bM.length) ys))<;>simp
            have:=key (gJ+1) 0 (by simpa using aE);simpa using this
        · cases h
      · cases h
    · cases h
termination_by d=>d
theorem aMM{op:BinOp}{t Ep:TypeId}{x y:Operand}{gQ:List sg}{xs ys:Array Value}(bQ:Bool)(cw:o.op= .binOp op t x y Ep)(a2:op=if bQ then .neq else .eql)(bs:xI P 8 t=some gQ)
    (aq:P.eqGuardType P.depth t=false) (e6:sb P t= .agg) (F:a.eval x= .agg xs) (ab:a.eval y= .agg ys) (aE:g9 gQ xs.toList ys.toList=true):
    ld P o a w (.bool (if bQ then !iM xs.toList ys.toList else iM xs.toList ys.toList)) w:=by
  obtain⟨b,B,_,_,aL⟩:=Qt (P:=P) (w:=w) 8 10000 t gQ xs.toList ys.toList bs (by omega) aE;have K:b=true:=by
    unfold sb at e6;unfold sa at B;split at e6<;>first|cases e6|skip
    · rename_i ar;simp only[ar]at B;cases B;rfl
    · rename_i ar;simp only[ar]at B;cases B;rfl
  subst K;simp only[xC,if_true,wh]at aL;refine Pr cw (by rw[F,ab];exact run_eqGuard_agg w op t x y xs ys aq) ?_;rw[F,ab];cases bQ
  · simp only[lv,if_false]at a2⊢;subst a2;rw[run_eql_struct,aL];rfl
  · simp only[if_true]at a2⊢;subst a2;rw[run_neq_struct,aL];rfl
end
def al.pure:al->Bool
  | .eC _| .pK _| .jx _ _ _ _| .fu _ _ _| .sY _ _ _| .store _ _ _| .qR _| .sn _| .nN _ _ _ _ _| .app _ _ _ _| .gl _ _| .ln _ _| .q2 _ _ _| .pj| .pY _ _ _ _ _| .p0 _ _ _ _=>false
  |_=>true
section
variable {P:Program} {w:World} {o:Oper} {a:Act} {ak:fC} {eb:Nat} {u:aM} {m:E}
theorem JA(M:h2 ak eb u a): ∀(xs:List Operand),xs.all er=true->dW ak (xs.map (ad u)) (xs.map a.eval)
  |xs,h=>dW.JD _ _ xs λx F=>M.ad (hJ.1 h x F)
theorem api{v:Value}(h:gi v=true):fy v=true:=by cases v<;>simp[gi]at h<;>rfl
theorem vG{aG v:Value}(h:eY ak aG v)(ag:gi aG=true):v=aG/\ ∃k n,aG= .int k n:=by cases aG<;>simp[gi]at ag;exact⟨h.qs,_,_,rfl⟩
theorem aek(fQ:Bool)(M:h2 ak eb u a): ∀(xs:List Operand) (eF:Value),xs.all er=true->(xs.all λy=>gi (ad u y))=true->
    xs.foldl (λeF y=>if fQ then ra eF (a.eval y)else rb eF (a.eval y)) eF=xs.foldl (λeF y=>if fQ then ra eF (ad u y)else rb eF (ad u y)) eF
  |[],_,_,_=>rfl
  | x::xs,eF,B,H=>by simp only[uh,bK]at B H;have:=(vG (M.ad B.1) H.1).1;simp only[qN,this];exact aek fQ M xs _ B.2 H.2
theorem aej(fQ:Bool): ∀(xs:List Operand) (eF:Value),gi eF=true->(xs.all λy=>gi (ad u y))=true->
    gi (xs.foldl (λeF y=>if fQ then ra eF (ad u y)else rb eF (ad u y)) eF)=true
  |[],_,h,_=>h
  | x::xs,eF,B,H=>by simp only[uh,bK]at H;simp only[qN];refine aej fQ xs _ ?_ H.2;cases eF<;>simp[gi]at B;have af:=H.1;cases F:ad u x<;>simp[F,gi]at af;cases fQ<;>simp[ra,rb,gi]
theorem ahZ: ∀(gQ:List sg) (xs ys fl dh:List Value),g9 gQ xs ys=true->dW ak xs fl->dW ak ys dh->fl=xs/\dh=ys
  | [],[],[],fl,dh,_,B,H=>by have aX:=B.1;have bg:=H.1;simp at aX bg;exact⟨pz.1 aX.symm,pz.1 bg.symm⟩
  |[],[],_::_,_,_,h,_,_=>by simp[g9]at h
  |[],_::_,_,_,_,h,_,_=>by simp[g9]at h
  |_::_,[],_,_,_,h,_,_=>by simp[g9]at h
  |_::_,_::_,[],_,_,h,_,_=>by simp[g9]at h
  |_::_,_::_,_::_,[],_,_,h,_=>by simp[dW]at h
  |_::_,_::_,_::_,_::_,[],_,_,h=>by simp[dW]at h
  | k::gQ,x::xs,y::ys,aG::fl,v::dh,h,B,H=>by simp only[g9,bK]at h;obtain⟨aX,bg⟩:=ahZ gQ xs ys fl dh h.2 ⟨by simpa using B.1,λi p q Y bz=>B.2 (i+1) p q (by simpa using Y) (by simpa using bz)⟩ ⟨by simpa using H.1,λi p q Y bz=>H.2 (i+1) p q (by simpa using Y) (by simpa using bz)⟩;have eT:=B.2 0 x aG rfl rfl;have fk:=H.2 0 y v rfl rfl;have aE:=h.1;have ck:fy x=true/\fy y=true:=(by cases k<;>cases x<;>cases y<;>simp[Cw]at aE<;>exact⟨rfl,rfl⟩);exact⟨by rw[aX,eT.kx ck.1],by rw[bg,fk.kx ck.2]⟩
theorem aiA{op:BinOp}{t Ep:TypeId}{x y:Operand}{gQ:List sg}(bQ:Bool)(cw:o.op= .binOp op t x y Ep)(a2:op=if bQ then .neq else .eql)(bs:xI P 8 t=some gQ)
    (aq:P.eqGuardType P.depth t=false) (e6:sb P t= .agg) (M:h2 ak eb u a) (F:er x=true) (ab:er y=true) (aA:(al.pL bQ gQ x y).ok u m=true) (id:Nat):
    ∃b2,ld P o a w b2 w/\eY ak ((al.pL bQ gQ x y).val id u m) b2:=by
  simp only[al.ok,bK]at aA;obtain⟨⟨B,H⟩,af⟩:=aA;have xd:=M.ad F;have vW:=M.ad ab;simp only[al.val];cases ar:ad u x<;>simp only[ar,uO]at B<;>try cases B
  cases S:ad u y<;>simp only[S,uO]at H<;>try cases H
  rename_i xs ys;rw[ar]at xd;rw[S]at vW;obtain⟨fl,aX,eT⟩:=xd.wP;obtain⟨dh,bg,fk⟩:=vW.wP;simp only[ar,S,ao]at af;obtain⟨aj,ba⟩:=ahZ gQ _ _ _ _ af eT fk;have lD:=Array.toList_inj.1 aj;have qW:=Array.toList_inj.1 ba;subst lD;subst qW;exact⟨_,aMM bQ cw a2 bs aq e6 aX bg af,.dc rfl⟩
theorem Pd{aG v:Value}(h:eY ak aG v)(ag:nq aG=true):v=aG/\ ∃s,aG= .string s:=by cases aG<;>simp[nq]at ag;exact⟨h.zp,_,rfl⟩
theorem aIP{k:al}(aa:yV P o=some k)(Y:k.pure=true)(M:h2 ak eb u a)(aA:k.ok u m=true)(id:Nat):
    ∃b2,ld P o a w b2 w/\eY ak (k.val id u m) b2:=by
  unfold yV at aa;split at aa
  · -- move
    rename_i x cw;split at aa<;>cases aa;rename_i F;exact⟨_,aMW cw,M.ad F⟩
  · rename_i x cw;split at aa<;>cases aa;rename_i F;exact⟨_,aMG cw,M.ad F⟩
  · -- tR
    rename_i c x y cw;split at aa<;>cases aa;rename_i F;simp only[bK]at F;have aK:=M.ad F.1.1;simp only[al.ok]at aA;cases S:ad u c<;>simp[S,wU]at aA;rw[S]at aK;refine⟨_,aMY cw aK.uN,?_⟩;simp only[al.val,S,yT];split
    · exact M.ad F.1.2
    · exact M.ad F.2
  · -- nilCheck
    rename_i x cw;split at aa<;>cases aa;rename_i F;have aH:=M.ad F;simp only[al.ok]at aA;refine⟨_,aMX cw ?_,aH⟩;generalize ad u x=aG at aH aA;generalize a.eval x=v at aH;cases aH<;>simp_all [Gj];rename_i fn _ _ _ _ _ _ _ _;cases fn<;>simp_all
  · split at aa<;>cases aa;simp[al.pure]at Y
  · split at aa<;>cases aa;simp[al.pure]at Y
  · -- hg
    rename_i t en cw;split at aa
    · rename_i gH O bm cl;split at aa
      · rename_i jD YP;split at aa<;>cases aa;rename_i gf;obtain⟨cu,kW,ag,uM,pT,lU,fN⟩:=Kd cl;obtain⟨aj,ba⟩:=aiI _ _ YP;simp only[al.ok]at aA
        let z1:Nat->Option (Nat×Nat):= λi=>(gH[i]?).bind λ(f:Field)=>(P.info? f.type).map λcu=>(f.offset,cu.size)
        obtain⟨ds,B,H,LJ⟩:=Qx M z1 en.toList jD O kW.cells ⟨aj,λi p q wK bz=>by obtain⟨aX,bg,f,akB,dU,ha,kF,ni⟩:=ba i p q wK bz;exact⟨aX,bg,by simp[z1,dU,ha,kF,ni]⟩⟩ (by rw[pT];exact dW.dc ak lU) (λv S=>HI (hJ.1 lU v S)) aA;refine⟨_,aMI (cells:=ds) cw ag uM bm gf (λuV pS=>by have:uV=z1:=funext pS;rw[this];exact B),?_⟩;have:=H.agg LJ;simp only[wh]at this;exact this
      · cases aa
    · rename_i n e O bm cl;split at aa
      · rename_i agL jc;split at aa<;>cases aa;rename_i jD YP;obtain⟨cu,kW,ag,uM,pT,lU,fN⟩:=Kd cl;obtain⟨Is,a2,rfl⟩:=v9 jc;obtain⟨aj,ba⟩:=Xq _ _ YP;simp only[al.ok]at aA;obtain⟨ds,B,H,LJ⟩:=Qx M (λi=>some (i*Is.size,Is.size)) en.toList jD O kW.cells ⟨aj,λi p q wK bz=>by
          obtain⟨aX,bg,dU,ha⟩:=ba i p q wK bz;exact⟨aX,bg,by simp[dU,ha]⟩⟩ (by rw[pT];exact dW.dc ak lU) (λv S=>HI (hJ.1 lU v S)) aA
        refine⟨_,aMJ (cells:=ds) cw ag uM bm a2 B,?_⟩;have:=H.agg LJ;simp only[wh]at this;exact this
      · cases aa
    · cases aa
  · repeat (split at aa<;>try cases aa)
    simp[al.pure]at Y
  · repeat (split at aa<;>try cases aa)
    simp[al.pure]at Y
  · repeat (split at aa<;>try cases aa)
    simp[al.pure]at Y
  · -- binOp
    rename_i op t x y Ep cw;split at aa
    · rename_i F;simp only[bK]at F;split at aa
      · rename_i e6;split at aa
        · rename_i gQ bs;split at aa<;>cases aa;rename_i aq;exact aiA false cw rfl bs (by simpa using aq) e6 M F.1 F.2 aA id
        · rename_i gQ bs;split at aa<;>cases aa;rename_i aq;exact aiA true cw rfl bs (by simpa using aq) e6 M F.1 F.2 aA id
        · cases aa
      · cases aa;exact aMH cw (M.ad F.1) (M.ad F.2) aA
    · cases aa
  · -- unOp
    rename_i op t x cw;split at aa<;>cases aa;rename_i F;simp only[al.ok]at aA;have aH:=M.ad F;have a2:a.eval x=ad u x:=by cases ar:ad u x<;>cases op<;>simp[ar,Ca]at aA<;>rw[ar]at aH<;>first|exact aH.qs|exact aH.uN
    refine⟨_,aM1 cw (by rw[a2];exact aA),?_⟩;simp only[al.val,a2];exact .dc (by cases ar:ad u x<;>cases op<;>simp[ar,Ca]at aA<;>simp[G9,fy])
  · -- convert
    rename_i s d x cw;split at aa
    · rename_i eK k gh g2;split at aa<;>cases aa;rename_i F;simp only[al.ok]at aA;obtain⟨e,gI,n,S⟩:=vG (M.ad F) aA;refine⟨_,aMK cw gh g2 (by rw[e,S]),?_⟩;simp only[al.val,S,gy];exact .dc rfl
    · rename_i gh g2;split at aa<;>cases aa;rename_i F;simp only[al.ok]at aA;obtain⟨e,b,S⟩:=Pd (M.ad F) aA;refine⟨_,aML cw gh g2 (by rw[e,S]),?_⟩;simp only[al.val,S];exact .dc rfl
    · repeat (split at aa<;>try cases aa)
      simp[al.pure]at Y
    · repeat (split at aa<;>try cases aa)
      simp[al.pure]at Y
    · cases aa
  · repeat (split at aa<;>try cases aa)
    simp[al.pure]at Y
  · -- slice
    rename_i t x cK ag fQ cw;split at aa
    · rename_i bm;split at aa<;>cases aa;rename_i aK;simp only[bK,Ev]at aK;obtain⟨⟨⟨F,eQ⟩,zh⟩,rfl⟩:=aK;simp only[al.ok,bK,fU]at aA;obtain⟨⟨⟨⟨⟨B,H⟩,af⟩,aL⟩,cm⟩,dK⟩:=aA;obtain⟨e,b,S⟩:=Pd (M.ad F) B;simp only[S,ib]at cm dK;refine⟨_,aM0 cw bm (by rw[e,S]) (ES M eQ H 0 (by simpa using aL)) (ES M zh af b.size (by omega)) (by simp;omega) (by omega),?_⟩;simp only[al.val,S,ve,ib];exact .dc rfl
    · rename_i e bm;split at aa
      · rename_i O cl;split at aa
        · split at aa<;>cases aa;rename_i aK;simp only[bK]at aK;obtain⟨⟨F,eQ⟩,zh⟩:=aK;simp only[al.ok,bK,fU]at aA;obtain⟨⟨⟨⟨⟨B,H⟩,af⟩,aL⟩,cm⟩,dK⟩:=aA;obtain⟨cu,jJ,rfl⟩:=v9 cl;have aH:=M.ad F;simp only[al.val];cases ar:ad u x<;>simp only[ar,kr]at B<;>try cases B
          rename_i p len c;rw[ar]at aH;simp only[ar,ib]at cm dK;cases p with
          | none=>simp only[bK,beq_iff_eq]at B;obtain⟨rfl,rfl⟩:=B;have S:=aH.kx rfl;refine⟨_,atj cw bm jJ S (ES M eQ H 0 (by simpa using aL)) (ES M zh af 0 (by omega)) (by simp;omega) (by omega),?_⟩;have iF:(hT u cK (0:Nat)).toNat=0:=(by simp;omega);have aX:(hT u ag (0:Nat)).toNat=0:=(by simp;omega);rw[iF,aX];simp only[ou];exact .dc rfl
          | some fr=>
            simp only[bK,beq_iff_eq]at B;obtain⟨l,cI,cap,aE,nK,S,av,Fy,vs⟩:=aH.rU;obtain⟨_,rfl⟩:=B;refine⟨_,atj cw bm jJ S (ES M eQ H 0 (by simpa using aL)) (ES M zh af len (by omega)) (by simp;omega) (by omega),?_⟩;simp only[ou,ib];have A8:hT u cK ((0:Nat):Int)=hT u cK 0:=rfl;rw[A8];generalize fh:(hT u cK 0).toNat=L;generalize LO:(hT u ag (len:Int)).toNat=kt;have ayo:L<=kt:=(by omega);have aRr:kt<=len:=(by omega);by_cases dz:cap=L
            · rw[if_pos dz];exact .slice aE (.inl ⟨by omega,by omega⟩) (by omega) (by omega)
            · rw[if_neg dz];rcases av with⟨rfl,rfl⟩|⟨rfl,av⟩
              · omega
              · have aC:(⟨l.c,l.o+fr.off,none⟩:Addr).add (L*cu.size)=⟨l.c,l.o+(fr.off+L*cu.size),none⟩:=by
                  unfold Addr.add;split
                  · rename_i bH;rw[bH];simp
                  · simp[u9]
                simp only[Option.map_some,aC];refine .slice aE (.inr ⟨rfl,?_⟩) (by omega) (by omega);have:L*cu.size+(cap-L)*cu.size=cap*cu.size:=(by rw[<-mN];congr 1;omega);omega
        · rename_i yp;split at aa
          · rename_i ah;split at aa<;>cases aa;rename_i aK;simp only[bK]at aK;obtain⟨⟨⟨F,eQ⟩,zh⟩,azn⟩:=aK;simp only[al.ok,bK,fU]at aA;obtain⟨⟨⟨⟨⟨⟨⟨B,H⟩,af⟩,aL⟩,cm⟩,dK⟩,hh⟩,iV⟩:=aA;obtain⟨cu,jJ,rfl⟩:=v9 cl;have aH:=M.ad F;simp only[al.val];obtain⟨awP,aGt,cB,ajH⟩:=vG (M.ad zh) af;obtain⟨AP,aGu,Rr,ajI⟩:=vG (M.ad azn) aL;simp only[ajH,ajI,gy]at dK hh iV⊢;cases ar:ad u x<;>simp only[ar,kr]at B<;>try cases B
            rename_i p len c;rw[ar]at aH;simp only[ar,ib]at iV;have QX:=ES M eQ H 0 (by simpa using cm);have A8:hT u cK ((0:Nat):Int)=hT u cK 0:=rfl;rw[A8]at QX;have ajq: ∃(k:IntKind) (i:Int),a.eval ah= .int k i/\0<=i/\i.toNat=cB.toNat:=⟨aGt,cB,by rw[awP,ajH],by omega,rfl⟩;have ajr: ∃(k:IntKind) (i:Int),a.eval yp= .int k i/\0<=i/\i.toNat=Rr.toNat:=⟨aGu,Rr,by rw[AP,ajI],by omega,rfl⟩;cases p with
            | none=>simp only[bK,beq_iff_eq]at B;obtain⟨rfl,rfl⟩:=B;have S:=aH.kx rfl;refine⟨_,ati cw bm jJ S QX ajq ajr (by omega) (by omega) (by omega),?_⟩;have iF:(hT u cK 0).toNat=0:=(by omega);have aX:cB.toNat=0:=(by omega);have bg:Rr.toNat=0:=(by omega);rw[iF,aX,bg];simp only[ou];exact .dc rfl
            | some fr=>
              simp only[bK,beq_iff_eq]at B;obtain⟨l,cI,cap,aE,nK,S,av,Fy,vs⟩:=aH.rU;obtain⟨_,rfl⟩:=B;refine⟨_,ati cw bm jJ S QX ajq ajr (by omega) (by omega) (by omega),?_⟩;simp only[ou];generalize fh:(hT u cK 0).toNat=L;generalize LO:cB.toNat=kt;generalize aRv:Rr.toNat=EH;have ayo:L<=kt:=(by omega);have aRq:kt<=EH:=(by omega);have XV:EH<=len:=(by omega);by_cases dz:EH=L
              · rw[if_pos dz];exact .slice aE (.inl ⟨by omega,by omega⟩) (by omega) (by omega)
              · rw[if_neg dz];rcases av with⟨rfl,rfl⟩|⟨rfl,av⟩
                · omega
                · have aC:(⟨l.c,l.o+fr.off,none⟩:Addr).add (L*cu.size)=⟨l.c,l.o+(fr.off+L*cu.size),none⟩:=by
                    unfold Addr.add;split
                    · rename_i bH;rw[bH];simp
                    · simp[u9]
                  simp only[Option.map_some,aC];refine .slice aE (.inr ⟨rfl,?_⟩) (by omega) (by omega);have mf:L*cu.size+(EH-L)*cu.size=EH*cu.size:=(by rw[<-mN];congr 1;omega);have QS:EH*cu.size<=cap*cu.size:=s6 _ (by omega);show fr.off+L*cu.size+(EH-L)*cu.size<=l.n
                  replace av:fr.off+cap*cu.size<=l.n:=av
                  omega
          · cases aa
      · cases aa
    · (repeat' split at aa)<;>cases aa
      simp[al.pure]at Y
    · cases aa
  · -- fieldAddr
    rename_i s x i cw;split at aa
    · rename_i gH bm;split at aa
      · rename_i f bs;split at aa
        · rename_i n av;split at aa<;>cases aa;rename_i aK;simp only[bK,fU]at aK;obtain⟨cu,ag,rfl⟩:=v9 av;simp only[al.ok]at aA;have aH:=M.ad aK.1;simp only[al.val];cases ar:ad u x<;>simp only[ar,tS]at aA<;>try cases aA
          rename_i p;rw[ar]at aH;cases p with
          |none=>cases aA
          | some fr=>obtain⟨l,aE,nK,S⟩:=aH.wQ;refine⟨_,aMO cw bm bs ag aK.2 S,?_⟩;simp only[z2,u9];exact .cb aE
        · cases aa
      · cases aa
    · cases aa
  · -- field
    rename_i t x i cw;split at aa
    · rename_i gH bm;split at aa
      · rename_i f bs;split at aa
        · rename_i b n K av;split at aa<;>cases aa;rename_i F;obtain⟨cu,ag,rfl⟩:=v9 av;simp only[al.ok,bK,yG,fU]at aA;have aH:=M.ad F;simp only[al.val];cases ar:ad u x<;>simp only[ar,Lf]at aA<;>try cases aA.1
          rename_i xs;rw[ar]at aH;obtain⟨ys,S,aE⟩:=aH.wP;have jc:ys.size=xs.size:=(by have:=aE.1;simp at this;exact this.symm);have aR1:f.offset+cu.size<=xs.size:=(by simpa using aA.1);refine⟨_,aMP cw bm bs ag K S (by omega) aA.2,?_⟩;simp only[Qw];cases b
          · simp only[lv,if_false];have B:cu.size=1:=(by simpa using aA.2);have cg:f.offset<xs.toList.length:=(by simp;omega);obtain⟨y,ab,x4⟩:=aE.U (c0 cg);rw[mr,mr,ab,c0 cg];exact x4
          · simp only[if_true];exact((aE.drop _).take _).agg λx F=>aH.auj x (Ey (Ez F))
        · cases aa
      · cases aa
    · cases aa
  · -- indexAddr
    rename_i t x i cw;split at aa
    · rename_i e bm;split at aa
      · rename_i O cl;split at aa<;>cases aa;rename_i aK;simp only[bK]at aK;obtain⟨cu,ag,rfl⟩:=v9 cl;simp only[al.ok,bK,fU]at aA;obtain⟨⟨⟨B,H⟩,af⟩,aL⟩:=aA;obtain⟨bg,k,n,av⟩:=vG (M.ad aK.2) H;have aH:=M.ad aK.1;simp only[al.val];cases ar:ad u x<;>simp only[ar,kr]at B<;>try cases B
        rename_i p len c;rw[ar]at aH;simp only[av,gy]at af aL⊢;simp only[ar,ib]at aL;cases p with
        | none=>simp only[bK,beq_iff_eq]at B;omega
        | some fr=>
          simp only[bK,beq_iff_eq]at B;obtain⟨l,cI,cap,aE,nK,S,vx,Fy,vs⟩:=aH.rU;rcases vx with⟨rfl,rfl⟩|⟨rfl,vx⟩
          · omega
          · refine⟨_,aMQ cw bm ag S (by rw[bg,av]) af aL,?_⟩;simp only[mH,u9];exact .cb aE
      · cases aa
    · rename_i len e bm;split at aa
      · rename_i O cl;split at aa<;>cases aa;rename_i aK;simp only[bK]at aK;obtain⟨cu,ag,rfl⟩:=v9 cl;simp only[al.ok,bK,fU]at aA;obtain⟨⟨⟨B,H⟩,af⟩,aL⟩:=aA;obtain⟨bg,k,n,av⟩:=vG (M.ad aK.2) H;have aH:=M.ad aK.1;simp only[al.val];cases ar:ad u x<;>simp only[ar,tS]at B<;>try cases B
        rename_i p;rw[ar]at aH;simp only[av,gy]at af aL⊢;cases p with
        |none=>cases B
        | some fr=>obtain⟨l,aE,nK,S⟩:=aH.wQ;refine⟨_,aMR cw bm ag S (by rw[bg,av]) af aL,?_⟩;simp only[z2,u9];exact .cb aE
      · cases aa
    · cases aa
  · -- index
    rename_i t x i cw;split at aa
    · rename_i bm;split at aa<;>cases aa;rename_i aK;simp only[bK]at aK;simp only[al.ok,bK,fU]at aA;obtain⟨⟨⟨B,H⟩,af⟩,aL⟩:=aA;obtain⟨aX,b,S⟩:=Pd (M.ad aK.1) B;obtain⟨bg,k,n,av⟩:=vG (M.ad aK.2) H;simp only[av,gy]at af aL;simp only[S,ib]at aL;refine⟨_,aMS cw bm (by rw[aX,S]) (by rw[bg,av]) af aL,?_⟩;simp only[al.val,S,av,ve,gy];exact .dc rfl
    · cases aa
  · -- extract
    rename_i x i cw;split at aa<;>cases aa;rename_i F;have aH:=M.ad F;simp only[al.ok]at aA;simp only[al.val];cases ar:ad u x<;>simp only[ar,G7]at aA<;>try cases aA
    rename_i xs;rw[ar]at aH;obtain⟨ys,S,aE⟩:=aH.Iv;have ag:i<xs.toList.length:=(by simpa using aA);obtain⟨y,ab,x4⟩:=aE.U (c0 ag);have qk:i<ys.size:=(by have:=aE.1;simp at this ag;omega);refine⟨_,aMN cw S qk,?_⟩;rw[S];simp only[Ej];rw[mr,mr,ab,c0 ag];exact x4
  · -- makeInterface
    rename_i t x cw;split at aa
    · cases aa
    · rename_i d rP ay;split at aa<;>cases aa;rename_i F;refine⟨.iface t (a.eval x),.inl ?_,.iface (M.ad F)⟩;cases d<;>first|exact absurd rfl (rP _)|simp[execOp,cw,Instr.makeInterface,underlying,ay]
    · cases aa
  · -- typeAssert
    rename_i x bS t ok cw;split at aa
    · cases aa
    · rename_i d rP ay;split at aa<;>cases aa;rename_i F;simp only[bK,Ak]at F;obtain⟨F,rfl⟩:=F;have aH:=M.ad F;simp only[al.ok]at aA;simp only[al.val];cases ar:ad u x<;>simp only[ar,Mr]at aA<;>try cases aA
      rename_i bu v;have:=of_decide_eq_true aA;subst this;rw[ar]at aH;obtain⟨y,S,ab⟩:=aH.Ru;refine⟨y,.inl ?_,ab⟩;cases d<;>first|exact absurd rfl (rP _)|simp[execOp,cw,Instr.typeAssert,underlying,ay,S]
    · cases aa
  · repeat (split at aa<;>try cases aa)
    simp[al.pure]at Y
  · repeat (split at aa<;>try cases aa)
    simp[al.pure]at Y
  · repeat (split at aa<;>try cases aa)
    simp[al.pure]at Y
  · -- makeFunc
    rename_i fn x y cw;split at aa<;>cases aa;rename_i aK;simp only[bK]at aK;refine⟨_,aMV cw,?_⟩;simp only[al.val];have eT:=JA M _ aK.1;have fk:=JA M _ aK.2;exact .func (by simp) (by simpa using eT.2) (by simp) (by simpa using fk.2)
  · -- gl
    rename_i c cw;unfold KR at aa;split at aa
    · split at aa<;>cases aa;simp[al.pure]at Y
    · repeat (split at aa<;>try cases aa)
      simp[al.pure]at Y
    · repeat (split at aa<;>try cases aa)
      simp[al.pure]at Y
    · rename_i aK;split at aa
      · rename_i x t aC e6;split at aa
        · rename_i bm;split at aa<;>cases aa;rename_i F;simp only[al.ok]at aA;obtain⟨e,b,S⟩:=Pd (M.ad F) aA;refine⟨_,aMT cw aK aC e6 bm (by rw[e,S]),?_⟩;simp only[al.val,S,ib];exact .dc rfl
        · rename_i e bm;split at aa<;>cases aa;rename_i F;simp only[al.ok]at aA;have aH:=M.ad F;simp only[al.val];cases ar:ad u x<;>simp only[ar,zD]at aA<;>try cases aA
          rename_i p len c;rw[ar]at aH;have S: ∃q cap,a.eval x= .slice q len cap:=by
            cases p with
            | none=>
              refine⟨none,c,?_⟩;generalize a.eval x=v at aH;cases aH with
              |dc h=>rfl
            |some fr=>obtain⟨_,_,_,_,_,h,_⟩:=aH.rU;exact⟨_,_,h⟩
          obtain⟨q,cap,S⟩:=S;exact⟨_,aMU cw aK aC e6 bm S,.dc rfl⟩
        · cases aa
      · cases aa
    · repeat (split at aa<;>try cases aa)
      simp[al.pure]at Y
    · rename_i aK;split at aa
      · rename_i x xs aC;split at aa<;>cases aa;rename_i F;simp only[bK]at F;simp only[al.ok,bK]at aA;have B:=vG (M.ad F.1) aA.1;have H: ∀y∈xs,gi (a.eval y)=true:= λy ab=>by
          have:=hJ.1 aA.2 y ab;rw[(vG (M.ad (hJ.1 F.2 y ab)) this).1];exact this
        refine⟨_,ath (fQ:=false) cw (by simpa using aK) aC (by rw[B.1];exact aA.1) H,?_⟩;rw[aek false M xs _ F.2 aA.2,B.1];simp only[al.val];have af:=aej (u:=u) false xs (ad u x) aA.1 aA.2;exact .dc (api af)
      · cases aa
    · rename_i aK;split at aa
      · rename_i x xs aC;split at aa<;>cases aa;rename_i F;simp only[bK]at F;simp only[al.ok,bK]at aA;have B:=vG (M.ad F.1) aA.1;have H: ∀y∈xs,gi (a.eval y)=true:= λy ab=>by
          have:=hJ.1 aA.2 y ab;rw[(vG (M.ad (hJ.1 F.2 y ab)) this).1];exact this
        refine⟨_,ath (fQ:=true) cw (by simpa using aK) aC (by rw[B.1];exact aA.1) H,?_⟩;rw[aek true M xs _ F.2 aA.2,B.1];simp only[al.val];have af:=aej (u:=u) true xs (ad u x) aA.1 aA.2;exact .dc (api af)
      · cases aa
    · cases aa
  · cases aa
end
theorem aqA(v:Value):v.oneCell'=au v:=by cases v<;>rfl
section
variable {P:Program} {w ee:World} {ak:fC} {m:E} {a9:Nat}
def jF(ak:fC)(id:Nat)(l:xA):fC:= λb=>if b=id then some l else ak b
theorem xk{id:Nat}{l:xA}(h:ak id=none):hM ak (jF ak id l):=by
  intro b eZ K;unfold jF;split
  · rename_i e;rw[e,h]at K;cases K
  · exact K
theorem WJ(c o j:Nat):(⟨c,o,none⟩:Addr).add j=⟨c,o+j,none⟩:=by unfold Addr.add;split<;>simp_all
theorem eW.cells(aN:eW a9 ak m w){b:Nat}{x:fV}{l:xA}(aq:m.U b=some x)(aE:ak b=some l){off n:Nat}(h:off+n<=x.cells.length):
    ∃ds:List Value,dW ak (jI m b off n) ds/\ds.length=n/\(∀j aG,ds[j]?=some aG->w.cell? ((⟨l.c,l.o+off,none⟩:Addr).add j)=some aG)/\(∀aG∈ds,aG.oneCell'=true):=by
  obtain⟨eZ,lG,fN,aK,_⟩:=aN.ph b x aq;rw[aE]at lG;cases lG;have key: ∀j,j<n-> ∃v b2,x.cells[off+j]?=some v/\au v=true/\w.cell? ⟨l.c,l.o+(off+j),none⟩=some b2/\eY ak v b2:=by intro j c6;have cg:off+j<x.cells.length:=(by omega);obtain⟨B,b2,H,af⟩:=aK (off+j) _ (c0 cg);exact⟨_,b2,c0 cg,B,H,af⟩
  refine⟨(List.range n).map λj=>(w.cell? ⟨l.c,l.o+(off+j),none⟩).getD undef,⟨?_,?_⟩,by simp,?_,?_⟩
  · simp[jI,aq];omega
  · intro i aG v ar S;simp only[jI,aq]at ar;rw[se]at ar;split at ar
    · rename_i ag;obtain⟨uc,wa,aj,ba,cD,fs⟩:=key i ag;rw[rv,aj]at ar;cases ar;simp[ag,cD]at S;subst S;exact fs
    · cases ar
  · intro j aG ar;have c6:j<n:=(by have:=(dg.1 ar).1;simpa using this);obtain⟨uc,wa,aj,ba,cD,fs⟩:=key j c6;simp[c6,cD]at ar;subst ar;rw[WJ,u9];exact cD
  · intro aG ar;simp only[iK,yJ]at ar;obtain⟨j,c6,rfl⟩:=ar;obtain⟨uc,wa,aj,ba,cD,fs⟩:=key j c6;rw[cD];simp only[Hf,aqA];rw[fs.au];exact ba
theorem eW.ahx(aN:eW a9 ak m w){id C Hp n:Nat}{cs:List Value}(fA:id<m.next)(aH:ak id=none)
    (H4: ∀b x l,m.U b=some x->ak b=some l->l.c≠C) (jc:w.heap.size<=ee.heap.size) (y9:C<ee.heap.size) (dt:a9<=C)
    (C4: ∀a:Addr,a.block<w.heap.size->a.block≠C->ee.cell? a=w.cell? a/\ee.frozen? a=w.frozen? a)
    (azA: ∀k,k<w.heap.size->k≠C->ee.heap[k]?=w.heap[k]?)
    (fN:cs.length<=n) (fe: ∀i v,cs[i]?=some v->au v=true/\ ∃b2,ee.cell? ⟨C,Hp+i,none⟩=some b2/\eY ak v b2)
    (av: ∀i,i<n->(ee.cell? ⟨C,Hp+i,none⟩).isSome=true/\ee.frozen? ⟨C,Hp+i,none⟩=false):
    eW a9 (jF ak id ⟨C,Hp,n⟩) (m.an id (some ⟨cs,true⟩)) ee:=by
  have fM:=xk (l:=⟨C,Hp,n⟩) aH;refine⟨λb l K=> ?_,λb l K=> ?_,λb x F=> ?_,λb x b7 hY l eZ B H af aL cm dK=> ?_,λb bJ K=> ?_,λb bJ K=> ?_⟩
  · unfold jF at K;split at K
    · rename_i e;rw[e];exact fA
    · exact aN.qU b l K
  · unfold jF at K;split at K
    · cases K;exact y9
    · exact nz (aN.oO b l K) jc
  · rw[E.qg]at F;split at F
    · rename_i e;cases F;exact⟨⟨C,Hp,n⟩,by simp[jF,e],fN,λi v S=>by obtain⟨bC,b2,cq,cZ⟩:=fe i v S;exact⟨bC,b2,cq,cZ.aD fM⟩,λ_=>⟨dt,av⟩⟩
    · obtain⟨l,aj,ba,cD,fs⟩:=aN.ph b x F;have uG:=aN.oO b l aj;have dE:=H4 b x l F aj;refine⟨l,fM _ _ aj,ba,λi v S=> ?_,λah=>⟨(fs ah).1,λi ag=> ?_⟩⟩
      · obtain⟨bC,b2,cq,cZ⟩:=cD i v S;exact⟨bC,b2,by rw[(C4 _ uG dE).1];exact cq,cZ.aD fM⟩
      · have:=(fs ah).2 i ag;rw[(C4 ⟨l.c,l.o+i,none⟩ uG dE).1,(C4 ⟨l.c,l.o+i,none⟩ uG dE).2];exact this
  · rw[E.qg]at B af;unfold jF at cm dK;split at B
    · rename_i e;rw[if_neg (by rw[<-e];exact Ne.symm aL)]at af;rw[if_pos e]at cm;rw[if_neg (by rw[<-e];exact Ne.symm aL)]at dK;cases cm;exact Ne.symm (H4 b7 hY eZ af dK)
    · rename_i e;rw[if_neg e]at cm;split at af
      · rename_i eD;rw[if_pos eD]at dK;cases dK;exact H4 b x l B cm
      · rename_i eD;rw[if_neg eD]at dK;exact aN.vp b x b7 hY l eZ B H af aL cm dK
  · obtain⟨l,aE⟩:=aN.yn b bJ K;exact⟨l,fM _ _ aE⟩
  · obtain⟨aj,ba⟩:=E.y8 K;have dE:b≠id:= λe=>by
      subst e;obtain⟨l,aE⟩:=aN.yn b bJ ba;rw[aH]at aE;cases aE
    rw[E.qg,if_neg dE]at aj;obtain⟨l,eE,bI,ez,fj,gK,iB⟩:=aN.jB b bJ (E.o7 aj ba);exact⟨l,eE,bI,fM _ _ ez,fj,by rw[azA l.c (aN.oO b l ez) (H4 b _ l aj ez)];exact gK,iB.aD fM⟩
theorem eW.mY(aN:eW a9 ak m w)(b:Nat):eW a9 ak (m.an b none) w:=by
  have aq: ∀b7 x,(m.an b none).U b7=some x->b7≠b/\m.U b7=some x:=by
    intro b7 x h;rw[E.qg]at h;split at h
    · split at h<;>cases h
    · rename_i e;exact⟨e,h⟩
  exact⟨aN.qU,aN.oO,λb7 x F=>aN.ph b7 x (aq b7 x F).2,λcM cx dq c8 fP dX B H af=>aN.vp cM cx dq c8 fP dX (aq _ _ B).2 H (aq _ _ af).2,aN.yn,λb7 bJ K=>by obtain⟨aj,ba⟩:=E.y8 K;exact aN.jB b7 bJ (E.o7 (aq _ _ aj).2 ba)⟩
theorem agz(b k:Nat)(aa:k≠b): ∀(dh:List Value) (o:Nat) (w:World),(w.setCells b o dh).heap[k]?=w.heap[k]?
  |[],_,_=>rfl
  |v::dh,o,w=>by rw[World.setCells,agz b k aa dh];simp[World.setCell,Array.getElem?_modify,Ne.symm aa]
theorem VM(b:Nat): ∀(dh:List Value) (o:Nat) (w:World),(w.setCells b o dh).heap.size=w.heap.size
  |[],_,_=>rfl
  |v::dh,o,w=>by rw[World.setCells,VM b dh];simp[World.setCell]
theorem WQ{a9 b:Nat}(K:a9<=b): ∀(dh:List Value) (o:Nat) (w:World),Below a9 w (w.setCells b o dh)
  |[],_,_=>Below.refl _ _
  |v::dh,o,w=>((Below.refl a9 w).setCell (p:=⟨b,o,none⟩) K v).trans (WQ K dh _ _)
theorem ahK: ∀(dh:List Value) (off:Nat) (cs:List Value) (i:Nat),off+dh.length<=cs.length->(ku cs off dh)[i]?=if off<=i/\i<off+dh.length then dh[i-off]? else cs[i]?
  |[],off,cs,i,_=>by simp[ku];intro B H;omega
  | v::dh,off,cs,i,h=>by
    simp only[ku];simp only[nB]at h;rw[ahK dh (off+1) (cs.set off v) i (by simp;omega),EA];by_cases B:off=i
    · subst B;rw[if_neg (by omega),if_pos rfl,if_pos (by omega),if_pos (by simp)];simp
    · by_cases H:off+1<=i/\i<off+1+dh.length
      · rw[if_pos H,if_pos ⟨by omega,by simp;omega⟩,show i-off=(i-(off+1))+1 by omega];simp
      · rw[if_neg H,if_neg B,if_neg (by simp;omega)]
theorem eW.store(aN:eW a9 ak m w){b:Nat}{x:fV}{l:xA}(aq:m.U b=some x)(ah:x.own=true)(aE:ak b=some l){off:Nat}{cs fl:List Value}(aH:dW ak cs fl)(rQ: ∀v∈cs,au v=true)
    (h:off+cs.length<=x.cells.length):eW a9 ak (m.an b (some ⟨ku x.cells off cs,x.own⟩)) (w.setCells l.c (l.o+off) fl):=by
  have K:=E.aO aq;have fN:=aH.1;obtain⟨eZ,lG,bC,cq,cZ⟩:=aN.ph b x aq;rw[aE]at lG;cases lG;have aj1: ∀b7 hY UI,m.U b7=some hY->b7≠b->ak b7=some UI->UI.c≠l.c:= λb7 hY UI B H af=>Ne.symm (aN.vp b x b7 hY l UI aq ah B (Ne.symm H) aE af);refine⟨aN.qU,λb7 eZ b6=>by rw[VM];exact aN.oO b7 eZ b6,λb7 hY F=> ?_,λcM cx dq c8 fP dX B H af aL cm dK=> ?_,aN.yn,λb7 bJ hi=> ?_⟩
  · rw[E.qg]at F;split at F
    · rename_i e;cases F;subst e;refine⟨l,aE,by rw[KN];exact bC,λi v S=> ?_,λ_=>⟨(cZ ah).1,λi ag=> ?_⟩⟩
      · rw[ahK _ _ _ _ h]at S;split at S
        · rename_i ag;obtain⟨aG,ar,Mm⟩:=aH.U S;refine⟨rQ v (fT S),aG,?_,Mm⟩;have c6:i-off<fl.length:=(by omega);have:=World.cell?_setCells_in l.c fl (l.o+off) w (λj A3=>by
            have:=((cZ ah).2 (off+j) (by omega)).1
            rwa [<-u9]at this) (i-off) c6
          rw[show l.o+off+(i-off)=l.o+i by omega]at this;rw[this];rw[c0 c6]at ar;exact ar
        · rename_i ag;obtain⟨aj,b2,ba,cD⟩:=cq i v S;refine⟨aj,b2,?_,cD⟩;rw[World.cell?_setCells_out l.c fl (l.o+off) w _ (λ_ _=>by show l.o+i<l.o+off\/l.o+off+fl.length<=l.o+i;omega)];exact ba
      · have bz:=(cZ ah).2 i ag;refine⟨?_,by rw[World.frozen?_setCells];exact bz.2⟩;by_cases qk:off<=i/\i<off+fl.length
        · have:=World.cell?_setCells_in l.c fl (l.o+off) w (λj A3=>by
            have:=((cZ ah).2 (off+j) (by omega)).1
            rwa [<-u9]at this) (i-off) (by omega)
          rw[show l.o+off+(i-off)=l.o+i by omega]at this;rw[this];rfl
        · rw[World.cell?_setCells_out l.c fl (l.o+off) w _ (λ_ _=>by show l.o+i<l.o+off\/l.o+off+fl.length<=l.o+i;omega)];exact bz.1
    · rename_i e;obtain⟨eZ,aj,ba,cD,fs⟩:=aN.ph b7 hY F;have dE:=aj1 b7 hY eZ F e aj;have aK: ∀i,(w.setCells l.c (l.o+off) fl).cell? ⟨eZ.c,eZ.o+i,none⟩=w.cell? ⟨eZ.c,eZ.o+i,none⟩:= λi=>World.cell?_setCells_out _ _ _ _ _ (λa6 _=>absurd a6 dE);refine⟨eZ,aj,ba,λi v S=>by rw[aK];exact cD i v S,λoL=>⟨(fs oL).1,λi ag=>by rw[aK,World.frozen?_setCells];exact(fs oL).2 i ag⟩⟩
  · have oJ: ∀b7 hY,(m.an b (some ⟨ku x.cells off cs,x.own⟩)).U b7=some hY-> ∃ate,m.U b7=some ate/\ate.own=hY.own:=by
      intro b7 hY F;rw[E.qg]at F;split at F
      · rename_i e;cases F;exact⟨x,by rw[e];exact aq,rfl⟩
      · exact⟨hY,F,rfl⟩
    obtain⟨gk,ez,fj⟩:=oJ cM cx B;obtain⟨h6,gK,iB⟩:=oJ dq c8 af;exact aN.vp cM gk dq h6 fP dX ez (by rw[fj];exact H) gK aL cm dK
  · obtain⟨aj,ba⟩:=E.y8 hi;rw[E.qg]at aj;by_cases e:b7=b
    · subst e;rw[if_pos rfl,if_pos K]at aj;injection aj with aj;have aK:x.cells=[]:=by
        have:=congrArg (λy=>y.cells.length) aj;simp only[KN,Hh]at this;exact pz.1 this
      have ar:fl=[]:=(by rw[aK]at h;simp at h;exact pz.1 (by rw[<-fN,h.2];rfl));subst ar;have F:x=⟨[],true⟩:=(by cases x;simp at aK ah;rw[aK,ah]);obtain⟨dX,eE,bI,ez,fj,gK,iB⟩:=aN.jB b7 bJ (E.o7 (by rw[aq,F]) ba);exact⟨dX,eE,bI,ez,fj,gK,iB⟩
    · rw[if_neg e]at aj;obtain⟨dX,eE,bI,ez,fj,gK,iB⟩:=aN.jB b7 bJ (E.o7 aj ba);exact⟨dX,eE,bI,ez,fj,by rw[agz _ _ (aj1 b7 _ dX aj e ez)];exact gK,iB⟩
end
def um(P:Program)(o:Oper)(k:al)(a:Act)(a9:Nat)(ak:fC)(u:aM)(m:E)(w:World)(id:Nat):Prop:=
  ∃b2 ee dw,ld P o a w b2 ee/\hM ak dw/\(∀b,b≠id->dw b=ak b)/\eY dw (k.val id u m) b2/\eW a9 dw (k.iH id u m) ee/\Below a9 w ee
section
variable {P:Program} {w:World} {o:Oper} {a:Act} {ak:fC} {eb:Nat} {u:aM} {m:E} {a9 id:Nat}
theorem Cb{l:xA}: ∀b,b≠id->jF ak id l b=ak b:= λb h=>by simp[jF,h]
theorem eW.JH(aN:eW a9 ak m w){da:World}(aS:da.heap=w.heap)(dt:a9<=w.heap.size)(fA:id<m.next)(aH:ak id=none){cs:List Value}{ds:Array Value}{e:TypeId}{bG:Nat×Nat}{n:Nat}
    (fN:cs.length<=n) (av:n<=ds.size) (fe: ∀(i:Nat) v,cs[i]?=some v->au v=true/\ ∃b2,ds[i]?=some b2/\eY ak v b2) (e2: ∀i,i<n-> ¬(bG.1<=i/\i<bG.2)):
    eW a9 (jF ak id ⟨w.heap.size,0,n⟩) (m.an id (some ⟨cs,true⟩)) (da.alloc (.cells ds e bG)):=by
  have jc:(da.alloc (.cells ds e bG)).heap.size=w.heap.size+1:=by show(da.heap.push _).size=_;rw[Array.size_push,aS]
  have sy:(da.alloc (.cells ds e bG)).heap[w.heap.size]?=some (.cells ds e bG):=by show(da.heap.push _)[_]?=_;rw[aS];simp
  refine aN.ahx fA aH (λb x l F aE=>by have:=aN.oO b l aE;omega) (by omega) (by omega) dt (λfr B H=> ?_) (λk B _=>by show(da.heap.push _)[k]?=_;rw[aS,Pw,if_neg (by omega)]) fN (λi v S=> ?_) (λi ag=> ?_)
  · have:(da.alloc (.cells ds e bG)).heap[fr.block]?=w.heap[fr.block]?:=by
      show(da.heap.push _)[_]?=_;rw[aS,Pw,if_neg (by omega)]
    exact⟨World.cell?_of_block (w:=w) this,World.frozen?_of_block (w:=w) this⟩
  · obtain⟨bC,b2,cq,cZ⟩:=fe i v S;refine⟨bC,b2,?_,cZ⟩;simp[World.cell?,sy,cq]
  · have qk:i<ds.size:=(by omega);refine⟨by simp[World.cell?,sy,qk],?_⟩;have:=e2 i ag;simp only[World.frozen?,sy,Nat.zero_add];simpa using this
theorem yU{da:World}(aS:da.heap=w.heap)(ah:da.os=w.os)(bm:da.tape=w.tape)(ar:da.output=w.output)(dt:a9<=w.heap.size)(x:Obj):Below a9 w (da.alloc x):=by have:Below a9 w da:=⟨ah,bm,ar,by rw[aS];exact eB _,λk _=>by rw[aS]⟩;exact this.alloc (by rw[aS];exact dt) x
theorem W7{cs:List Value}{ds:Array Value}(h:dW ak cs ds.toList)(B: ∀v∈cs,au v=true): ∀(i:Nat) v,cs[i]?=some v->au v=true/\ ∃b2,ds[i]?=some b2/\eY ak v b2:=by intro i v S;obtain⟨y,ab,x4⟩:=h.U S;exact⟨B v (fT S),y,by simpa using ab,x4⟩
theorem aKY{e:TypeId}{O:List Value}(cw:o.op= .alloc e)(cl:xi P e=some O)(aN:eW a9 ak m w)(dt:a9<=w.heap.size)(fA:id<m.next)(aH:ak id=none):um P o (.eC O) a a9 ak u m w id:=by
  obtain⟨cu,kW,ag,uM,pT,lU,fN⟩:=Kd cl;refine⟨.pointer (some ⟨w.heap.size,0,none⟩),w.alloc (.cells kW.cells e),jF ak id ⟨w.heap.size,0,O.length⟩,.inl ?_,xk aH,Cb,?_,?_,yU rfl rfl rfl rfl dt _⟩
  · simp only[execOp,cw,Instr.alloc,Sem.run_bind,zeroValue,typeInfo,run_program,ag,Sem.run_pure,Result.andThen_ok,uM,newVar,newRow];rfl
  · exact .cb (off:=0) (l:=⟨w.heap.size,0,O.length⟩) (by simp[jF])
  · refine aN.JH rfl dt fA aH (eB _) (by rw[<-pT];simp) (W7 (by rw[pT];exact dW.dc ak lU) λv S=>HI (hJ.1 lU v S)) (λi _=>by simp)
theorem aK0{e:TypeId}{x:Operand}(cw:o.op= .box e x)(F:er x=true)(M:h2 ak eb u a)(aA:(al.pK x).ok u m=true)(aN:eW a9 ak m w)(dt:a9<=w.heap.size)(fA:id<m.next)(aH:ak id=none):um P o (.pK x) a a9 ak u m w id:=by
  have S:=ag8 (M.ad F);have rQ:=ag7 (M.ad F) aA;have aE:(a.eval x).cells.size=(ao (ad u x)).length:=by have:=S.1;simp at this;exact this.symm
  refine⟨.pointer (some ⟨w.heap.size,0,none⟩),w.alloc (.cells (a.eval x).cells e),jF ak id ⟨w.heap.size,0,(ao (ad u x)).length⟩,.inl ?_,xk aH,Cb,?_,?_,yU rfl rfl rfl rfl dt _⟩
  · simp only[execOp,cw,Instr.box,Sem.run_bind,newVar,newRow];rfl
  · exact .cb (off:=0) (l:=⟨w.heap.size,0,(ao (ad u x)).length⟩) (by simp[jF])
  · exact aN.JH rfl dt fA aH (eB _) (by omega) (W7 S rQ) (λi _=>by simp)
theorem PU{v:Value}{n:Nat}(h:g8 m v n=true): ∃b off x,v= .pointer (some ⟨b,off,none⟩)/\m.U b=some x/\off+n<=x.cells.length:=by
  unfold g8 at h;split at h
  · rename_i fr;simp only[bK,Ev]at h;obtain⟨nK,h⟩:=h;split at h
    · rename_i x F;obtain⟨b,off,a0⟩:=fr;simp only at nK F h;subst nK;exact⟨b,off,x,rfl,F,by simpa using h⟩
    · cases h
  · cases h
theorem afr{t:TypeId}{df:Bool}{n:Nat}{fr:Addr}{ds:List Value}(xS:sa P t=some df)(av:mK P t=some n)(B:df=true\/n=1)(aE:ds.length=n)(aK: ∀(j:Nat) aG,ds[j]?=some aG->w.cell? (fr.add j)=some aG):
    (loadVar t fr).run P w= .ok (if df then .agg ds.toArray else ds.headD undef) w:=by
  obtain⟨cu,ag,rfl⟩:=v9 av;simp only[loadVar,Sem.run_bind,agX xS,Result.andThen_ok];cases df
  · have H:cu.size=1:=(by simpa using B);rw[H]at aE;obtain⟨d,rfl⟩:=BF aE;have af:=aK 0 d rfl;have e:fr.add 0=fr:=(by simp[Addr.add]);rw[e]at af;simp only[lv,if_false,List.headD_cons];simp[Go.load,Sem.run,af]
  · simp only[if_true,Sem.run_bind,sizeOf,typeInfo,run_program,ag,Sem.run_pure,Result.andThen_ok];have:=run_loadCells_list (P:=P) w fr ds aK;rw[aE]at this;simp[this]
theorem ad9{df:Bool}{n:Nat}{v b2:Value}(aN:eW a9 ak m w)(S:eY ak v b2)(aA:g8 m v n=true)(B:df=true\/n=1):
    ∃(fr:Addr) (ds:List Value),b2= .pointer (some fr)/\ds.length=n/\(∀(j:Nat) aG,ds[j]?=some aG->w.cell? (fr.add j)=some aG)/\eY ak (k4 m df n v) (if df then .agg ds.toArray else ds.headD undef):=by
  obtain⟨b,off,x,rfl,F,Ma⟩:=PU aA;obtain⟨l,aE,_,rfl⟩:=S.wQ;obtain⟨ds,eT,fk,hB,js⟩:=aN.cells F aE Ma;refine⟨_,ds,rfl,fk,hB,?_⟩;simp only[k4];cases df
  · have H:n=1:=(by simpa using B);subst H;obtain⟨d,rfl⟩:=BF fk;simp only[lv,if_false,List.headD_cons];have fN:=eT.1;simp only[nB,Hh]at fN;obtain⟨aG,ar⟩:=BF fN;rw[ar]at eT⊢;exact eT.2 0 aG d rfl rfl
  · refine eT.agg λaG ar=> ?_;obtain⟨eZ,lG,bC,cq,cZ⟩:=aN.ph b x F;simp only[jI,F]at ar;obtain⟨i,ag,Yt⟩:=s7 (Ey (Ez ar));exact(cq i aG (by rw[c0 ag,Yt])).1
theorem aK4{t:TypeId}{x:Operand}{df:Bool}{n:Nat}(cw:o.op= .load t x)(xS:sa P t=some df)(av:mK P t=some n)(F:er x=true)(M:h2 ak eb u a)(aN:eW a9 ak m w)
    (aA:(al.fu df n x).ok u m=true):um P o (.fu df n x) a a9 ak u m w id:=by
  simp only[al.ok,bK,yG,fU]at aA;obtain⟨fr,ds,B,H,af,aL⟩:=ad9 aN (M.ad F) aA.1 aA.2;refine⟨_,w,ak,.inl ?_,hM.refl ak,λ_ _=>rfl,aL,aN,Below.refl _ _⟩;simp only[execOp,cw,B,Instr.loadAt,Instr.sureAddr,Sem.run_bind,Sem.run_pure,Result.andThen_ok,afr xS av aA.2 H af]
theorem aK9{t e:TypeId}{x:Operand}{cK ag fQ:Option Operand}{n O:Nat}(cw:o.op= .slice t x cK ag fQ)(aC:P.underlying t=some (.array n e))(cl:mK P e=some O)
    (F:er x=true) (B:cK=none) (H:ag=none) (af:fQ=none) (M:h2 ak eb u a) (aN:eW a9 ak m w) (aA:(al.sY O n x).ok u m=true):um P o (.sY O n x) a a9 ak u m w id:=by
  subst B H af;simp only[al.ok,bK,fU]at aA;obtain⟨aA,azp⟩:=aA;obtain⟨b,off,y,aX,ab,Ma⟩:=PU aA;have aH:=M.ad F;rw[aX]at aH;obtain⟨l,aE,_,bg⟩:=aH.wQ;obtain⟨cu,ag,rfl⟩:=v9 cl;obtain⟨eZ,lG,bC,cq,cZ⟩:=aN.ph b y ab;rw[aE]at lG;cases lG;refine⟨_,w,ak,aMZ cw aC ag bg,hM.refl ak,λ_ _=>rfl,?_,aN,Below.refl _ _⟩;simp only[al.val,aX,KJ];by_cases av:n=0
  · rw[if_pos av];subst av;exact .slice aE (.inl ⟨rfl,rfl⟩) (eB _) (by omega)
  · rw[if_neg av];have aC:(⟨l.c,l.o+off,none⟩:Addr).add (0*cu.size)=⟨l.c,l.o+off,none⟩:=by
      unfold Addr.add;simp
    rw[aC];exact .slice aE (.inr ⟨rfl,by simp only[Nat.sub_zero];omega⟩) (eB _) (by omega)
theorem aLa{t:TypeId}{x v:Operand}{n:Nat}(cw:o.op= .store t x v)(av:mK P t=some n)(F:er x=true)(S:er v=true)(M:h2 ak eb u a)(aN:eW a9 ak m w)
    (aA:(al.store n x v).ok u m=true):um P o (.store n x v) a a9 ak u m w id:=by
  simp only[al.ok,bK,fU]at aA;obtain⟨⟨⟨B,H⟩,azx⟩,af⟩:=aA;have rQ:=ag7 (M.ad S) azx;obtain⟨b,off,y,aX,ab,Ma⟩:=PU B;have aH:=M.ad F;rw[aX]at aH;obtain⟨l,aE,_,bg⟩:=aH.wQ;have oL:y.own=true:=by simpa[aX,sj,ab]using H
  have aK:=ag8 (M.ad S);obtain⟨cu,ag,rfl⟩:=v9 av;have jc:(a.eval v).cells.size=cu.size:=by have:=aK.1;simp at this;omega
  obtain⟨eZ,lG,bC,cq,cZ⟩:=aN.ph b y ab;rw[aE]at lG;cases lG;have azD: ∀aG∈(a.eval v).cells.toList,aG.oneCell'=true:=by intro aG ar;obtain⟨i,jJ,Yt⟩:=s7 ar;have qk:i<(ao (ad u v)).length:=(by rw[aK.1];exact jJ);have:=(aK.2 i _ aG (c0 qk) (by rw[c0 jJ,Yt])).au;rw[aqA,this];exact rQ _ (qM qk)
  refine⟨undef,w.setCells l.c (l.o+off) (a.eval v).cells.toList,ak,.inr ⟨?_,rfl⟩,hM.refl ak,λ_ _=>rfl,eY.undef ak,?_,WQ (cZ oL).1 _ _ _⟩
  · have rR:=run_storeCells_cells (P:=P) l.c (l.o+off) (a.eval v).cells.toList 0 w (λj c6=>by
      have:=((cZ oL).2 (off+j) (by simp at c6;omega)).1
      rwa [<-u9]at this) (λj c6=>by
      have:=((cZ oL).2 (off+j) (by simp at c6;omega)).2
      rwa [<-u9]at this) azD
    simp only[Nat.add_zero]at rR;simp[execOp,cw,bg,Instr.storeAt,Instr.sureAddr,storeVar,sizeOf,typeInfo,ag,jc,rR]
  · simp only[al.iH,aX,rq,ab];exact aN.store ab oL aE aK rQ (by omega)
end
theorem Qy{O:List Value}(cl:0<O.length): ∀(n i:Nat),i<n*O.length->((List.replicate n O).flatten)[i]?=O[i%O.length]?
  |0,i,h=>by omega
  | n+1,i,h=>by
    rw[Ko,u7,Hm];split
    · rename_i ag;rw[Nat.mod_eq_of_lt ag]
    · rename_i ag;have H:i-O.length<n*O.length:=(by rw[mN]at h;omega);rw[Qy cl n _ H,Nat.mod_eq_sub_mod (by omega:O.length<=i)]
theorem Qz(O:List Value)(n:Nat):((List.replicate n O).flatten).length=n*O.length:=by simp[List.length_flatten]
theorem ap2{O:Array Value}(cl:0<O.size)(n:Nat):(madeCells O (n*O.size)).toList=(List.replicate n O.toList).flatten:=by
  apply List.ext_getElem?;intro i;by_cases ag:i<n*O.size
  · rw[Qy (by simpa using cl) n i (by simpa using ag)];have aN:i%O.size<O.size:=Nat.mod_lt _ cl;simp[madeCells,ag,aN]
  · rw[Ai (by rw[Array.length_toList,size_madeCells];omega),Ai (by rw[Qz];simp;omega)]
theorem aiL{O:List Value}(p:Value->Prop)(h: ∀v∈O,p v)(n:Nat): ∀v∈(List.replicate n O).flatten,p v:=by intro v S;simp only[List.mem_flatten,List.mem_replicate]at S;obtain⟨l,⟨_,rfl⟩,H⟩:=S;exact h v H
section
variable {P:Program} {w:World} {o:Oper} {a:Act} {ak:fC} {eb:Nat} {u:aM} {m:E} {a9 id:Nat}
theorem aK1{t e:TypeId}{n:Nat}{en:Array (Nat×Operand)}{O:List Value}{jD:List (Nat×Nat×Operand)}(cw:o.op= .buildSlice t n en)(bm:P.underlying t=some (.slice e))(cl:xi P e=some O)
    (bz:EZ O.length en.toList=some jD) (bH:0<O.length) (aRj:n*O.length<=16777216) (M:h2 ak eb u a) (aN:eW a9 ak m w) (dt:a9<=w.heap.size) (fA:id<m.next) (aH:ak id=none)
    (aA:(al.jx O.length n (List.replicate n O).flatten jD).ok u m=true):um P o (.jx O.length n (List.replicate n O).flatten jD) a a9 ak u m w id:=by
  obtain⟨cu,kW,ag,uM,pT,lU,fN⟩:=Kd cl;obtain⟨aj,ba⟩:=Xq _ _ bz;have Il:kW.cells.size=cu.size:=by rw[<-fN,<-pT];simp
  have fe:(madeCells kW.cells (n*kW.cells.size)).toList=(List.replicate n O).flatten:=by rw[ap2 (by omega),pT]
  have LV: ∀v∈(List.replicate n O).flatten,fy v=true:=aiL (λv=>fy v=true) (λv S=>hJ.1 lU v S) n;simp only[al.ok]at aA;obtain⟨ds,B,H,LJ⟩:=Qx M (λi=>some (i*cu.size,cu.size)) en.toList jD (List.replicate n O).flatten (madeCells kW.cells (n*kW.cells.size)) ⟨aj,λi p q wK bz=>by obtain⟨aX,bg,dU,ha⟩:=ba i p q wK bz;exact⟨aX,bg,by rw[dU,ha,fN]⟩⟩ (by rw[fe];exact dW.dc ak (hJ.2 LV)) (λv S=>HI (LV v S)) aA;have ze:(oo (List.replicate n O).flatten u jD).length=ds.size:=by have:=H.1;simpa using this
  have pS:(oo (List.replicate n O).flatten u jD).length=n*O.length:=by
    have key: ∀(jD:List (Nat×Nat×Operand)) (cs:List Value),(oo cs u jD).length=cs.length:=by
      intro jD;induction jD with
      |nil=>intro cs;rfl
      |cons q jD cB=>intro cs;obtain⟨bC,cq,cZ⟩:=q;simp only[oo];rw[cB,KN]
    rw[key,Qz]
  refine⟨.slice (some ⟨w.heap.size,0,none⟩) n n,w.alloc (.cells ds e),jF ak id ⟨w.heap.size,0,ds.size⟩,.inl ?_,xk aH,Cb,?_,?_,yU rfl rfl rfl rfl dt _⟩
  · have af:(en.map λp=>(p.1,a.eval p.2)).toList=en.toList.map λp=>(p.1,a.eval p.2):=by simp
    have aAg:(zeroValue e).run P w= .ok kW w:=(by simp[zeroValue,typeInfo,ag,uM]);have aye: ¬(2^24<n*cu.size):=(by rw[<-fN];omega);rw[<-af]at B;simp only[execOp,cw,Instr.buildSlice,Sem.run_bind,run_underlying bm,sizeOf,typeInfo,run_program,ag,Sem.run_pure,Result.andThen_ok,gt_iff_lt,aye,if_false,Sem.run_ite];by_cases x0:n*cu.size=0
    · have uI:madeCells kW.cells (n*kW.cells.size)= #[]:=(by rw[Il,x0];simp[madeCells]);rw[uI]at B;simp only[x0,if_true];have azm:Array.map (λx=>(#[]:Array Value)[x%(#[]:Array Value).size]!) (Array.range 0)= #[]:=(by simp);rw[azm,B];simp only[newRow,Sem.run_bind];rfl
    · have uI:Array.map (λx=>kW.cells[x%kW.cells.size]!) (Array.range (n*cu.size))=madeCells kW.cells (n*kW.cells.size):=(by unfold madeCells;rw[Il]);simp only[x0,if_false,aAg,Result.andThen_ok,uI,B];simp only[newRow,Sem.run_bind];rfl
  · exact .slice (off:=0) (l:=⟨w.heap.size,0,ds.size⟩) (by simp[jF]) (.inr ⟨rfl,by show 0+n*O.length<=ds.size;omega⟩) (eB _) (by have:n*1<=n*O.length:=Nat.mul_le_mul_left _ bH;unfold maxLen;omega)
  · simp only[al.iH];exact aN.JH rfl dt fA aH (by omega) (eB _) (W7 H LJ) (λi _=>by simp)
theorem aK6{t e:TypeId}{cu:TypeInfo}{O:List Value}{l c:Operand}(cw:o.op= .makeSlice t l c)(bm:P.underlying t=some (.slice e))(cl:xi P e=some O)(ag:P.info? e=some cu)(aE:er l=true)(aK:er c=true)
    (M:h2 ak eb u a) (aN:eW a9 ak m w) (dt:a9<=w.heap.size) (fA:id<m.next) (aH:ak id=none)
    (aA:(al.nN O.length cu.bytes O l c).ok u m=true):um P o (.nN O.length cu.bytes O l c) a a9 ak u m w id:=by
  obtain⟨akB,kW,jJ,uM,pT,lU,fN⟩:=Kd cl;rw[ag]at jJ;cases jJ;have Il:kW.cells.size=cu.size:=by rw[<-fN,<-pT];simp
  simp only[al.ok,bK,fU]at aA;obtain⟨⟨⟨⟨⟨⟨B,H⟩,af⟩,aL⟩,cm⟩,dK⟩,hh⟩:=aA;obtain⟨aX,apA,L,fh⟩:=vG (M.ad aE) B;obtain⟨bg,vL,C,y9⟩:=vG (M.ad aK) H;simp only[fh,y9,gy]at af aL cm dK;have k0:=run_make (P:=P) w t e cu kW bm ag uM apA vL L C af aL (by rw[m9];omega) dK;have LV: ∀v∈(List.replicate L.toNat O).flatten,fy v=true:=aiL (λv=>fy v=true) (λv S=>hJ.1 lU v S) _;have fM:L.toNat*O.length<=C.toNat*O.length:=s6 _ (by omega);refine⟨_,_,jF ak id ⟨w.heap.size,0,C.toNat*O.length⟩,.inl (by simp only[execOp,cw,aX,bg,fh,y9,Sem.run_bind,k0,Result.andThen_ok];rfl),xk aH,Cb,?_,?_,yU rfl rfl rfl rfl dt _⟩
  · simp only[al.val,fh,gy];exact .slice (off:=0) (l:=⟨w.heap.size,0,C.toNat*O.length⟩) (by simp[jF]) (.inr ⟨by simp,by simp⟩) (by omega) (by unfold maxLen;omega)
  · simp only[al.iH,fh,gy];refine aN.JH rfl dt fA aH (by rw[Qz];exact fM) (by rw[size_madeCells,fN];exact eB _) (λi v S=> ?_) (λi _=>by simp);have qk:i<L.toNat*O.length:=(by have:=(dg.1 S).1;rwa [Qz]at this);refine⟨HI (LV v (fT S)),v,?_,.dc (LV v (fT S))⟩;have iV:(madeCells kW.cells (C.toNat*cu.size)).toList=(List.replicate C.toNat O).flatten:=(by rw[<-Il,ap2 (by omega),pT]);rw[<-Pu,iV,Qy hh _ _ (by omega)];rw[Qy hh _ _ qk]at S;exact S
theorem aqZ: ∀(r3:List Int) (eF:ByteArray),r3.foldl (λr n=>r.push (UInt8.ofNat n.toNat)) eF=eF++⟨(r3.map λn=>UInt8.ofNat n.toNat).toArray⟩
  | [],eF=>by simp only[List.foldl_nil,wj];apply ByteArray.ext;simp
  | n::r3,eF=>by simp only[qN,n0];rw[aqZ r3];apply ByteArray.ext;simp[ByteArray.push]
theorem aK2{s d e:TypeId}{x:Operand}(cw:o.op= .convert s d x)(gh:P.underlying s=some (.slice e))(g2:P.underlying d=some .string)(b8:P.underlying e=some (.int .u8))(F:er x=true)
    (M:h2 ak eb u a) (aN:eW a9 ak m w) (aA:(al.qR x).ok u m=true):um P o (.qR x) a a9 ak u m w id:=by
  simp only[al.ok,bK]at aA;obtain⟨B,H⟩:=aA;have aH:=M.ad F;have conv: ∀v,a.eval x=v->(∃p l c,v= .slice p l c)-> ∀b:ByteArray,(Conv.bytesToString v).run P w= .ok (.string b) w->ld P o a w (.string b) w:=by intro v S ⟨p,l,c,Y⟩ b K;subst Y;refine .inl ?_;cases p<;>simp[execOp,cw,S,convert,underlying,gh,g2,b8,K]
  cases ar:ad u x<;>simp only[ar,ig]at B<;>try cases B
  rename_i p len c;rw[ar]at aH;refine⟨.string (toBytes (hX m 1 (ad u x))),w,ak,?_,hM.refl ak,λ_ _=>rfl,.dc rfl,aN,Below.refl _ _⟩;cases p with
  | none=>have S:=aH.kx (by simpa[fy]using B);refine conv _ S ⟨_,_,_,rfl⟩ _ ?_;simp only[Conv.bytesToString,ar,hX,toBytes];rfl
  | some fr=>
    simp only[bK,Ev,beq_iff_eq]at B;obtain⟨⟨nK,CS⟩,B⟩:=B;split at B
    · rename_i y ab;simp only[Nat.mul_one,fU]at B;obtain⟨l,cI,cap,aE,_,S,av,Fy,vs⟩:=aH.rU;refine conv _ S ⟨_,_,_,rfl⟩ _ ?_;simp only[ar,hX,Nat.mul_one]at H⊢;obtain⟨ds,eT,fk,hB,js⟩:=aN.cells ab aE B;have iN: ∃r3:List Int,ds=r3.map (Value.int .u8)/\jI m fr.block fr.off len=r3.map (Value.int .u8):=by
        have axW: ∀(fl dh:List Value),fl.all Jv=true->dW ak fl dh-> ∃r3:List Int,dh=r3.map (Value.int .u8)/\fl=r3.map (Value.int .u8):=by
          intro fl;induction fl with
          |nil=>intro dh _ h;have:=h.1;simp at this;exact⟨[],by simp[pz.1 this.symm],rfl⟩
          | cons aG fl cB=>
            intro dh aC h;cases dh with
            |nil=>have:=h.1;simp at this
            | cons v dh=>simp only[uh,bK]at aC;obtain⟨r3,aj,ba⟩:=cB dh aC.2 ⟨by simpa using h.1,λi p q Y bz=>h.2 (i+1) p q (by simpa using Y) (by simpa using bz)⟩;have bH:=h.2 0 aG v rfl rfl;have akh:=aC.1;cases aG<;>simp[Jv]at akh;rename_i k n;cases k<;>simp at akh;exact⟨n::r3,by simp[aj,bH.qs],by simp[ba]⟩
        exact axW _ _ H eT
      obtain⟨r3,azw,ajX⟩:=iN;subst azw;rcases av with⟨rfl,rfl⟩|⟨rfl,av⟩
      · have x0:r3=[]:=(by simp at fk;exact fk);subst x0;have:=run_bytesToString (P:=P) w cI 0 0 [] (by simp[loadCells,loadCellsFrom]);rw[this,ajX];rfl
      · have ajN:=run_loadCells_list (P:=P) w ⟨l.c,l.o+fr.off,none⟩ _ hB;rw[fk]at ajN;rw[run_bytesToString w _ len cap r3 (by rw[ajN]),aqZ,ajX];congr 2;apply ByteArray.ext;simp[toBytes,WU,Function.comp_def]
    · cases B
end
section
variable {P:Program} {w:World} {o:Oper} {a:Act} {ak:fC} {eb:Nat} {u:aM} {m:E} {a9 id:Nat}
theorem aKk(t s0 e:TypeId)(i:TypeInfo)(bm:P.underlying t=some (.slice e))(ag:P.info? e=some i)(base q:Option Addr)(yw GZ c:Nat)(aK:yw<=GZ):
    (Builtin.append_ #[t,t] s0 #[.slice base yw GZ,.slice q 0 c]).run P w= .ok (.slice base yw GZ) w:=by
  have bs:(Builtin.firstCells i.size 0 (.slice q 0 c)).run P w= .ok #[] w:=by cases q<;>simp[Builtin.firstCells,loadCells,loadCellsFrom]
  cases base<;>simp[Builtin.append_,run_underlying bm,sizeOf,typeInfo,ag,Builtin.lenOf,aK,bs,storeCells]
theorem aKj(t s0 e:TypeId)(i:TypeInfo)(bm:P.underlying t=some (.slice e))(ag:P.info? e=some i)(c o yw GZ:Nat)(fr:Addr)(n aic:Nat)(nt:List Value)(aE:nt.length=n*i.size)
    (azu: ∀(j:Nat) aG,nt[j]?=some aG->w.cell? (fr.add j)=some aG) (B: ∀aG∈nt,aG.oneCell'=true) (Mh:yw+n<=GZ)
    (CT: ∀j,j<nt.length->(w.cell? ⟨c,o+yw*i.size+j,none⟩).isSome=true) (e2: ∀j,j<nt.length->w.frozen? ⟨c,o+yw*i.size+j,none⟩=false):
    (Builtin.append_ #[t,t] s0 #[.slice (some ⟨c,o,none⟩) yw GZ,.slice (some fr) n aic]).run P w= .ok (.slice (some ⟨c,o,none⟩) (yw+n) GZ) (w.setCells c (o+yw*i.size) nt):=by
  have bs:=run_firstCells_some (P:=P) w i.size n fr n aic nt aE azu;have rR:=run_storeCells_cells (P:=P) c (o+yw*i.size) nt 0 w (by simpa using CT) (by simpa using e2) B;simp only[Nat.add_zero]at rR;simp[Builtin.append_,run_underlying bm,sizeOf,typeInfo,ag,Builtin.lenOf,Mh,bs,WJ,rR]
theorem Wj{c:Call}{x y:Operand}{t:TypeId}{aG v r:Value}{ee:World}(cw:o.op= .call c)(aK:c.callee= .builtin .append)(aC:c.args.toList=[x,y])(e6:c.argTypes.toList=[t,t])
    (F:a.eval x=aG) (ab:a.eval y=v) (h:(Builtin.append_ #[t,t] o.type #[aG,v]).run P w= .ok r ee):ld P o a w r ee:=by
  refine .inl ?_;have n8:c.args= #[x,y]:=by rw[<-wh (xs:=c.args),aC]
  have LP:c.argTypes= #[t,t]:=by rw[<-wh (xs:=c.argTypes),e6]
  simp[execOp,cw,resolve,aK,n8,LP,invoke,builtin,F,ab,h]
theorem Pa{O:Nat}{v:Value}(h:ig m O v=true):v= .slice none 0 0\/ ∃b off len x,v= .slice (some ⟨b,off,none⟩) len O/\m.U b=some x/\off+len*O<=x.cells.length:=by
  unfold ig at h;split at h
  · simp only[bK,beq_iff_eq]at h;obtain⟨rfl,rfl⟩:=h;exact .inl rfl
  · rename_i fr l c;simp only[bK,Ev,beq_iff_eq]at h;obtain⟨⟨nK,rfl⟩,h⟩:=h;split at h
    · rename_i x F;obtain⟨b,off,a0⟩:=fr;simp only at nK F h;subst nK;exact .inr ⟨b,off,l,x,rfl,F,by simpa using h⟩
    · cases h
  · cases h
def ahn(P:Program)(o:Oper)(O bytes:Nat)(x y:Operand)(a:Act)(a9:Nat)(ak:fC)(u:aM)(m:E)(w:World)(id:Nat):Prop:=
  ∃ b2 ee dw,ld P o a w b2 ee/\hM ak dw/\(∀b,b≠id->dw b=ak b)/\eY dw ((al.app O bytes x y).val id u m) b2/\eW a9 dw ((al.app O bytes x y).iH id u m) ee/\Below a9 w ee/\
    (tZ O m (ad u x)=true-> ∀b aG l,m.U b=some aG->ak b=some l-> ∀i,i<aG.cells.length->ee.cell? ⟨l.c,l.o+i,none⟩=w.cell? ⟨l.c,l.o+i,none⟩)
theorem ahE{n:Nat}{w ee:World}(h:Below n w ee){fr:Addr}(aC:fr.block<n):ee.cell? fr=w.cell? fr:=by simp only[World.cell?,h.block _ aC]
theorem arM{c:Call}{x y:Operand}{t e:TypeId}{cu:TypeInfo}{O:List Value}(cw:o.op= .call c)(aK:c.callee= .builtin .append)(aC:c.args.toList=[x,y])(e6:c.argTypes.toList=[t,t])
    (bm:P.underlying t=some (.slice e)) (ag:P.info? e=some cu) (cl:xi P e=some O) (F:er x=true) (ab:er y=true)
    (M:h2 ak eb u a) (aN:eW a9 ak m w) (dt:a9<=w.heap.size) (fA:id<m.next) (aH:ak id=none)
    (aA:(al.app cu.size cu.bytes x y).ok u m=true):ahn P o cu.size cu.bytes x y a a9 ak u m w id:=by
  obtain⟨akB,kW,jJ,uM,pT,lU,fN⟩:=Kd cl;rw[ag]at jJ;cases jJ;have Il:kW.cells.size=cu.size:=by rw[<-fN,<-pT];simp
  simp only[al.ok,bK,fU]at aA;obtain⟨⟨⟨⟨⟨B,H⟩,af⟩,aL⟩,cm⟩,dK⟩:=aA;have xd:=M.ad F;have vW:=M.ad ab
  -- lN aZk
  have vC: ∃q Hy,a.eval y= .slice q (hL (ad u y)) Hy:=by
    rcases Pa af with aX|⟨b,off,len,xo,aX,_,_⟩
    · rw[aX]at vW;exact⟨none,0,by rw[aX];exact vW.kx rfl⟩
    · rw[aX]at vW;obtain⟨_,_,_,_,_,g,_⟩:=vW.rU;exact⟨_,_,by rw[aX];exact g⟩
  obtain⟨q,Hy,vC⟩:=vC;have k1: ∃p EW,a.eval x= .slice p (hL (ad u x)) EW/\hL (ad u x)<=EW:=by
    rcases Pa B with aX|⟨b,off,len,xo,aX,_,_⟩
    · rw[aX]at xd;exact⟨none,0,by rw[aX];exact xd.kx rfl,by rw[aX];exact eB _⟩
    · rw[aX]at xd;obtain⟨_,_,_,_,_,g,_,ba,_⟩:=xd.rU;exact⟨_,_,by rw[aX];exact g,by rw[aX];exact ba⟩
  by_cases av:hL (ad u y)=0
  · obtain⟨p,EW,k1,fM⟩:=k1;rw[av]at vC;refine⟨a.eval x,w,ak,?_,hM.refl ak,λ_ _=>rfl,by simpa only[al.val,av,if_true]using xd,by simpa only[al.iH,av,if_true]using aN,Below.refl _ _,λ_ _ _ _ _ _ _ _=>rfl⟩;rw[k1];exact Wj cw aK aC e6 k1 vC (aKk t _ e cu bm ag _ _ _ _ _ fM)
  · -- aZj r9 uq
    rcases Pa af with aX|⟨ur,w5,lr,xo,AR,FK,aAe⟩
    · rw[aX]at av;exact absurd rfl av
    rw[AR]at vW;obtain⟨q7,auz,KY,YD,_,vC,vy,aRQ,_⟩:=vW.rU
    replace YD:ak ur=some q7:=YD
    replace vy:(KY=0/\lr=0)\/(auz=⟨q7.c,q7.o+w5,none⟩/\w5+KY*cu.size<=q7.n):=vy
    have Yy:hL (ad u y)=lr:=(by rw[AR];rfl);have aAd:hX m cu.size (ad u y)=jI m ur w5 (lr*cu.size):=(by rw[AR];rfl);rw[Yy]at av cm dK;obtain⟨nt,du,dV,p1,DQ⟩:=aN.cells FK YD aAe;rcases vy with⟨_,bH⟩|⟨rfl,_⟩
    · omega
    have q0:(al.app cu.size cu.bytes x y).val id u m= .slice (some ⟨id,0,none⟩) (hL (ad u x)+lr) cu.size:=(by simp only[al.val,Yy,av,if_false]);have wH:(al.app cu.size cu.bytes x y).iH id u m=(mY m (ad u x)).an id (some ⟨hX m cu.size (ad u x)++jI m ur w5 (lr*cu.size),true⟩):=by simp only[al.iH,Yy,av,if_false,aAd]
    -- lN new block,a0B lN om hS a0y
    have ai9: ∀(om:Nat) (yt:List Value) (dv:E),eW a9 ak dv w->id<dv.next->dW ak (hX m cu.size (ad u x)) yt->(∀v∈hX m cu.size (ad u x),au v=true)->yt.length=hL (ad u x)*cu.size->
        om<hL (ad u x)+lr->
        eY (jF ak id ⟨w.heap.size,0,grownCap w (hL (ad u x)+lr) om e*cu.size⟩) (.slice (some ⟨id,0,none⟩) (hL (ad u x)+lr) cu.size) (.slice (some ⟨w.heap.size,0,none⟩) (hL (ad u x)+lr) (grownCap w (hL (ad u x)+lr) om e))/\
        eW a9 (jF ak id ⟨w.heap.size,0,grownCap w (hL (ad u x)+lr) om e*cu.size⟩) (dv.an id (some ⟨hX m cu.size (ad u x)++jI m ur w5 (lr*cu.size),true⟩))
          (w.drew.alloc (.cells (yt.toArray++nt.toArray++Builtin.zeroCells kW.cells (grownCap w (hL (ad u x)+lr) om e-(hL (ad u x)+lr))) e)):=by
      intro om yt dv C1 ay2 ah pQ FC Ib;have H5:=grownCap_ge w (hL (ad u x)+lr) om e;have vs:grownCap w (hL (ad u x)+lr) om e<=maxLen:=grownCap_le_maxLen w _ om e (by unfold maxLen;omega);refine⟨.slice (off:=0) (l:=⟨w.heap.size,0,grownCap w (hL (ad u x)+lr) om e*cu.size⟩) (by simp[jF]) (.inr ⟨by simp,by simp⟩) H5 vs,?_⟩;have jc:(yt.toArray++nt.toArray++Builtin.zeroCells kW.cells (grownCap w (hL (ad u x)+lr) om e-(hL (ad u x)+lr))).size=grownCap w (hL (ad u x)+lr) om e*cu.size:=by simp only[Array.size_append,List.size_toArray,size_zeroCells,Il,FC,dV,<-mN];congr 1;omega
      have L5:dW ak (hX m cu.size (ad u x)++jI m ur w5 (lr*cu.size)) (yt++nt):=ah.uq du;refine C1.JH (da:=w.drew) rfl dt ay2 aH ?_ (by rw[jc];exact eB _) (λi v S=> ?_) (λi _=>by simp)
      · rw[L5.1,mo,FC,dV,<-mN];exact s6 _ H5
      · obtain⟨aG,ar,Mm⟩:=L5.U S;refine⟨?_,aG,?_,Mm⟩
        · have:v∈hX m cu.size (ad u x)++jI m ur w5 (lr*cu.size):=fT S;rcases mM.1 this with h|h
          · exact pQ v h
          · obtain⟨eZ,lG,bC,cq,cZ⟩:=aN.ph ur xo FK;simp only[jI,FK]at h;obtain⟨j,c6,L2⟩:=s7 (Ey (Ez h));exact(cq j v (by rw[c0 c6,L2])).1
        · rw[Wq (by
            have:=(dg.1 ar).1;simpa using this)]
          simpa using ar
    rcases Pa B with mS|⟨b,off,len,g7,mS,vB,Y8⟩
    · -- nil
      rw[mS]at xd;have k1:=xd.kx rfl;have mz:hL (ad u x)=0:=(by rw[mS];rfl);have zd:hX m cu.size (ad u x)=[]:=(by rw[mS];rfl);obtain⟨aj,ba⟩:=ai9 0 [] m aN fA (by rw[zd];exact dW.nil ak) (by rw[zd];simp) (by rw[mz];simp) (by omega);simp only[mz,Nat.zero_add]at aj ba cm dK;have k0:=run_append_nil (P:=P) w t o.type e cu kW bm ag uM ⟨q7.c,q7.o+w5,none⟩ lr KY nt dV p1 (by omega) (by omega) (by omega);refine⟨_,_,jF ak id ⟨w.heap.size,0,grownCap w lr 0 e*cu.size⟩,Wj cw aK aC e6 k1 vC k0,xk aH,Cb,?_,?_,yU (w:=w) (da:=w.drew) rfl rfl rfl rfl dt _,λ_ b aG l _ aE i _=>ahE (yU (w:=w) (da:=w.drew) rfl rfl rfl rfl (eB _) _) (aN.oO b l aE)⟩
      · rw[q0,mz,Nat.zero_add];exact aj
      · rw[wH,mS];simpa only[mY,hX,xv,Array.empty_append,mS]using ba
    · -- a slice ek lN aP5 own
      rw[mS]at xd;obtain⟨l,cI,cap,aE,_,k1,hR,Fy,vs⟩:=xd.rU
      replace aE:ak b=some l:=aE
      replace hR:(cap=0/\len=0)\/(cI=⟨l.c,l.o+off,none⟩/\off+cap*cu.size<=l.n):=hR
      have mz:hL (ad u x)=len:=(by rw[mS];rfl);have zd:hX m cu.size (ad u x)=jI m b off (len*cu.size):=(by rw[mS];rfl);have oL:g7.own=true:=(by simpa[mS,nX,vB]using H);obtain⟨eZ,lG,bC,cq,cZ⟩:=aN.ph b g7 vB;rw[aE]at lG;cases lG;obtain⟨yt,cA,dG,e1,hb⟩:=aN.cells vB aE Y8;have rQ: ∀v∈jI m b off (len*cu.size),au v=true:=(by intro v S;simp only[jI,vB]at S;obtain⟨j,c6,L2⟩:=s7 (Ey (Ez S));exact(cq j v (by rw[c0 c6,L2])).1);have aa:mY m (ad u x)=m.an b none:=(by rw[mS];rfl);rw[mz]at cm dK;by_cases Mh:len+lr<=cap
      · -- aLT q3 aVZ
        rcases hR with⟨bH,_⟩|⟨rfl,hR⟩
        · omega
        have azo:(len+lr)*cu.size<=cap*cu.size:=s6 _ Mh;rw[mN]at azo
        have k0:=aKj (P:=P) (w:=w) t o.type e cu bm ag l.c (l.o+off) len cap ⟨q7.c,q7.o+w5,none⟩ lr KY nt dV p1 DQ Mh
          (λj c6=>by
            have:=((cZ oL).2 (off+len*cu.size+j) (by rw[dV]at c6;omega)).1
            rwa [show l.o+(off+len*cu.size+j)=l.o+off+len*cu.size+j by omega]at this)
          (λj c6=>by
            have:=((cZ oL).2 (off+len*cu.size+j) (by rw[dV]at c6;omega)).2
            rwa [show l.o+(off+len*cu.size+j)=l.o+off+len*cu.size+j by omega]at this)
        refine⟨_,_,jF ak id ⟨l.c,l.o+off,l.n-off⟩,Wj cw aK aC e6 k1 vC k0,xk aH,Cb,?_,?_,WQ (cZ oL).1 _ _ _,λbm b7 aG eZ ar lG i ag=>World.cell?_setCells_out _ _ _ _ _ (λh _=> ?_)⟩
        · rw[q0,mz];exact .slice (off:=0) (l:=⟨l.c,l.o+off,l.n-off⟩) (by simp[jF]) (.inr ⟨by simp,by show 0+cap*cu.size<=l.n-off;omega⟩) Mh vs
        · rw[wH,aa,zd];have L5:dW ak (jI m b off (len*cu.size)++jI m ur w5 (lr*cu.size)) (yt++nt):=cA.uq du;have wG: ∀j (c6:j<nt.length),(w.setCells l.c (l.o+off+len*cu.size) nt).cell? ⟨l.c,l.o+off+len*cu.size+j,none⟩=some nt[j]:= λj c6=>
            World.cell?_setCells_in l.c nt (l.o+off+len*cu.size) w (λi jJ=>by
              have:=((cZ oL).2 (off+len*cu.size+i) (by rw[dV]at jJ;omega)).1
              rwa [show l.o+(off+len*cu.size+i)=l.o+off+len*cu.size+i by omega]at this) j c6
          have aj2: ∀i,i<len*cu.size\/len*cu.size+nt.length<=i->(w.setCells l.c (l.o+off+len*cu.size) nt).cell? ⟨l.c,l.o+off+i,none⟩=w.cell? ⟨l.c,l.o+off+i,none⟩:= λi jJ=>
            World.cell?_setCells_out _ _ _ _ _ (λ_ _=>by show l.o+off+i<_\/_<=l.o+off+i;omega)
          refine(aN.mY b).ahx (by rw[E.aq1];exact fA) aH (λb7 hY eZ kn lG=> ?_) (by rw[VM];exact eB _) (by rw[VM];exact aN.oO b l aE) (cZ oL).1 (λfr _ dE=>⟨World.cell?_setCells_out _ _ _ _ _ (λh _=>absurd h dE),World.frozen?_setCells _ _ _ _ _⟩) (λk _ aa=>agz _ _ aa _ _ _) ?_ (λi v S=> ?_) (λi jJ=> ?_)
          · rw[E.qg]at kn;split at kn
            · split at kn<;>cases kn
            · rename_i dE;exact Ne.symm (aN.vp b g7 b7 hY l eZ vB oL kn (Ne.symm dE) aE lG)
          · rw[L5.1,mo,dG,dV];omega
          · obtain⟨aG,ar,Mm⟩:=L5.U S;have azl:v∈jI m b off (len*cu.size)++jI m ur w5 (lr*cu.size):=fT S;refine⟨?_,aG,?_,Mm⟩
            · rcases mM.1 azl with h|h
              · exact rQ v h
              · obtain⟨eZ,lG,ez,fj,gK⟩:=aN.ph ur xo FK;simp only[jI,FK]at h;obtain⟨j,c6,L2⟩:=s7 (Ey (Ez h));exact(fj j v (by rw[c0 c6,L2])).1
            · rw[Hm]at ar;split at ar
              · rename_i cg;rw[dG]at cg;rw[aj2 i (.inl cg)];have:=e1 i aG ar
                rwa [WJ]at this
              · rename_i cg;rw[dG]at cg ar;have c6:i-len*cu.size<nt.length:=(dg.1 ar).1;have:=wG _ c6;rw[show l.o+off+len*cu.size+(i-len*cu.size)=l.o+off+i by omega]at this;rw[this];rw[c0 c6]at ar;exact ar
          · have bz:=(cZ oL).2 (off+i) (by omega);rw[<-u9]at bz;refine⟨?_,by rw[World.frozen?_setCells];exact bz.2⟩;by_cases qk:i<len*cu.size\/len*cu.size+nt.length<=i
            · rw[aj2 i qk];exact bz.1
            · have c6:i-len*cu.size<nt.length:=(by omega);have:=wG _ c6;rw[show l.o+off+len*cu.size+(i-len*cu.size)=l.o+off+i by omega]at this;rw[this];rfl
        · left;by_cases e:b7=b
          · subst e;rw[vB]at ar;cases ar;rw[aE]at lG;cases lG;simp only[mS,tZ,vB,fU]at bm;show l.o+i<l.o+off+len*cu.size;omega
          · exact absurd h (Ne.symm (aN.vp b g7 b7 aG l eZ vB oL ar (Ne.symm e) aE lG))
      · -- apl aRi
        obtain⟨aj,ba⟩:=ai9 cap yt (m.an b none) (aN.mY b) (by rw[E.aq1];exact fA) (by rw[zd];exact cA) (by rw[zd];exact rQ) (by rw[mz];exact dG) (by omega);rw[mz]at aj ba;have holds: ∀(j:Nat) v,yt[j]?=some v->w.cell? (cI.add j)=some v:=by
          intro j v S;rcases hR with⟨_,bH⟩|⟨rfl,_⟩
          · subst bH;simp at dG;rw[dG]at S;simp at S
          · exact e1 j v S
        have k0:=run_append_grow (P:=P) w t o.type e cu kW bm ag uM cI len cap yt dG holds ⟨q7.c,q7.o+w5,none⟩ lr KY nt dV p1 (by omega) (by omega) (growslice_fits (by omega) cm);refine⟨_,_,jF ak id ⟨w.heap.size,0,grownCap w (len+lr) cap e*cu.size⟩,Wj cw aK aC e6 k1 vC k0,xk aH,Cb,?_,?_,yU (w:=w) (da:=w.drew) rfl rfl rfl rfl dt _,λ_ b aG l _ aE i _=>ahE (yU (w:=w) (da:=w.drew) rfl rfl rfl rfl (eB _) _) (aN.oO b l aE)⟩
        · rw[q0,mz];exact aj
        · rw[wH,aa];exact ba
theorem aKZ{c:Call}{x y:Operand}{t e:TypeId}{cu:TypeInfo}{O:List Value}(cw:o.op= .call c)(aK:c.callee= .builtin .append)(aC:c.args.toList=[x,y])(e6:c.argTypes.toList=[t,t])
    (bm:P.underlying t=some (.slice e)) (ag:P.info? e=some cu) (cl:xi P e=some O) (F:er x=true) (ab:er y=true)
    (M:h2 ak eb u a) (aN:eW a9 ak m w) (dt:a9<=w.heap.size) (fA:id<m.next) (aH:ak id=none)
    (aA:(al.app cu.size cu.bytes x y).ok u m=true):um P o (.app cu.size cu.bytes x y) a a9 ak u m w id:=by
  obtain⟨b2,ee,dw,aj,ba,cD,fs,iU,mc,_⟩:=arM cw aK aC e6 bm ag cl F ab M aN dt fA aH aA;exact⟨b2,ee,dw,aj,ba,cD,fs,iU,mc⟩
end
section
variable {P:Program} {w:World} {o:Oper} {a:Act} {ak:fC} {eb:Nat} {u:aM} {m:E} {a9 id:Nat}
theorem aHz{α:Type}(xs:Array α)(x:α)(f:α->α):(xs.push x).modify xs.size f=xs.push (f x):=by
  apply Array.ext_getElem?;intro i;rw[Array.getElem?_modify,Pw,Pw];by_cases h:xs.size=i
  · simp[h]
  · have: ¬i=xs.size:= λe=>h e.symm;simp[h,this]
theorem aK3{s d e:TypeId}{x:Operand}(cw:o.op= .convert s d x)(gh:P.underlying s=some .string)(g2:P.underlying d=some (.slice e))(b8:P.underlying e=some (.int .u8))(F:er x=true)
    (M:h2 ak eb u a) (aN:eW a9 ak m w) (dt:a9<=w.heap.size) (fA:id<m.next) (aH:ak id=none) (aA:(al.sn x).ok u m=true):um P o (.sn x) a a9 ak u m w id:=by
  simp only[al.ok,bK,fU]at aA;obtain⟨B,H⟩:=aA;obtain⟨aX,b,S⟩:=Pd (M.ad F) B;rw[S]at H;simp only[ve]at H;have H5:=grownCap_ge w b.size 0 e;have vs:grownCap w b.size 0 e<=maxLen:=grownCap_le_maxLen w _ 0 e (by unfold maxLen;omega);generalize X6:grownCap w b.size 0 e=cap at H5 vs
  let mv:Array Value:=(b.data.map λ(x:UInt8)=>Value.int .u8 x.toNat)++Array.replicate (cap-b.size) (Value.int .u8 0)
  have jc:mv.size=cap:=by show((b.data.map λ(x:UInt8)=>Value.int .u8 x.toNat)++Array.replicate (cap-b.size) (Value.int .u8 0)).size=cap;simp only[Array.size_append,Array.size_map,Array.size_replicate];have:b.data.size=b.size:=rfl;omega
  have zf:(w.drew.alloc (.cells mv e)).freeze ⟨w.heap.size,mv.size,none⟩ 1=w.drew.alloc (.cells mv e (mv.size,mv.size+1)):=by simp only[World.freeze,Nat.one_ne_zero,if_false,World.alloc];congr 1;show(w.heap.push _).modify w.heap.size _=w.heap.push _;rw[aHz];simp
  have k0:(Conv.stringToBytes e b).run P w= .ok (.slice (some ⟨w.heap.size,0,none⟩) b.size cap) (w.drew.alloc (.cells mv e (mv.size,mv.size+1))):=by
    have CU:(choose (.appendCap b.size 0 e)).run P w= .ok cap w.drew:=(by rw[<-X6];rfl);have sy:(newRow e mv).run P w.drew= .ok ⟨w.heap.size,0,none⟩ (w.drew.alloc (.cells mv e)):=rfl;have azT:(w.drew.alloc (.cells mv e)).shape? w.heap.size=some (e,mv.size):=(by show(match(w.heap.push (Obj.cells mv e))[w.heap.size]? with|some (.cells c awQ _)=>some (awQ,c.size)|_=>none)=_;simp);have azj:(markStringish ⟨w.heap.size,0,none⟩).run P (w.drew.alloc (.cells mv e))= .ok () (w.drew.alloc (.cells mv e (mv.size,mv.size+1))):=by
      simp only[markStringish,Sem.run_bind];have:(shape w.heap.size).run P (w.drew.alloc (.cells mv e))= .ok (some (e,mv.size)) (w.drew.alloc (.cells mv e)):=by simp only[shape,Sem.run,azT]
      rw[this];simp only[Result.andThen_ok];show Result.ok () ((w.drew.alloc (.cells mv e)).freeze ⟨w.heap.size,mv.size,none⟩ 1)=_;rw[zf]
    simp only[Conv.stringToBytes,Sem.run_bind,CU,Result.andThen_ok];have bg:(b.data.map λ(b:UInt8)=>Value.int .u8 b.toNat)++Array.replicate (cap-b.size) (Value.int .u8 0)=mv:=rfl;rw[bg,sy];simp only[Result.andThen_ok,azj];rfl
  refine⟨.slice (some ⟨w.heap.size,0,none⟩) b.size cap,_,jF ak id ⟨w.heap.size,0,cap⟩,.inl ?_,xk aH,Cb,?_,?_,yU (w:=w) (da:=w.drew) rfl rfl rfl rfl dt (.cells mv e (mv.size,mv.size+1))⟩
  · simp[execOp,cw,aX,S,convert,underlying,gh,g2,b8,k0]
  · simp only[al.val,S,ve];exact .slice (off:=0) (l:=⟨w.heap.size,0,cap⟩) (by simp[jF]) (.inr ⟨by simp,by simp⟩) H5 vs
  · simp only[al.iH,S,ve];refine aN.JH (da:=w.drew) rfl dt fA aH (by simp only[DY,jZ,Array.length_toList];exact H5) (by rw[jc];exact eB _) (λi v qn=> ?_) (λi jJ=>by simp only;omega);have qk:i<b.data.size:=(by have:=(dg.1 qn).1;simpa[DY]using this);have az4:v= .int .u8 (b.data[i]).toNat:=by
      simp only[DY,p6,Pu,Hk qk,Option.map_some,nA]at qn;exact qn.symm
    subst az4;refine⟨rfl,_,?_,.dc rfl⟩;show((b.data.map λ(x:UInt8)=>Value.int .u8 x.toNat)++Array.replicate (cap-b.size) (Value.int .u8 0))[i]?=_;rw[Wq (by simpa using qk),Array.getElem?_map,Hk qk];rfl
end
end Go.DI
