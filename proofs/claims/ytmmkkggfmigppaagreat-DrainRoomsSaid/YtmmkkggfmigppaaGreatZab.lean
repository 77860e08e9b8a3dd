/-
  A part of the proof of the statement, in texts that tools of ours (wip/shrink.py, irpack.py, relax.py, minify.py, join.py, lay.py) have shortened.
-/
import Derived.ChangeKeysEq
import Derived.Lib.AppendZeros
import Derived.Test.YtmmkkggfmigppaaGreatZaa
set_option linter.all false
set_option maxRecDepth 8000
set_option maxHeartbeats 16000000
namespace Go.DI
open Go Go.RowKit
section
variable {P:Program} {w:World} {o:Oper} {a:Act}
theorem azA{t:TypeId}{ps:Array (Nat×Operand)}{cells:Array Value}{bC:TypeInfo}{I:Value}{eo:Array Field}(bx:o.op= .build t ps)(ak:P.info? t=some bC)(bD:bC.zero=some I)
    (bt:P.underlying t=some (.struct eo)) (jU:eo.toList.all (λf=>(ki P f.type).isSome)=true)
    (a6: ∀uJ:Nat->Option (Nat×Nat),(∀i,uJ i=(eo[i]?).bind λ(f:Field)=>(P.info? f.type).map λbC=>(f.offset,bC.size))->Instr.fill uJ I.cells (ps.toList.map λp=>(p.1,a.eval p.2))=some cells):
    iw P o a w (.agg cells) w:=by
  refine .inl ?_;obtain⟨uI,D,H⟩:=au6 (P:=P) (w:=w) eo.toList jU;have aq:=a6 (λi=>uI.toArray[i]?) (λi=>by simpa using H i);have bq:(eo.mapM (m:=Sem) λ(f:Field)=>do pure (f.offset,<-sizeOf f.type)).run P w= .ok uI.toArray w:=by rw[Array.mapM_eq_mapM_toList];simp only[Sem.run_map,D];rfl
  simp only[execOp,bx,Instr.build,Sem.run_bind,run_underlying bt,zeroValue,typeInfo,run_program,ak,bD,Sem.run_pure,Result.andThen_ok,bq];have cP:Instr.fill (λx=>uI[x]?) I.cells (List.map (λx=>(x.fst,a.eval x.snd)) ps.toList)=some cells:=by simpa using aq
  simp[cP]
theorem azI{t:TypeId}{x:Operand}{i:Nat}{eo:Array Field}{f:Field}{bC:TypeInfo}{b:Bool}{cs:Array Value}(bx:o.op= .field t x i)(bt:P.underlying t=some (.struct eo))(a6:eo[i]?=some f)
    (ak:P.info? f.type=some bC) (hb:oc P f.type=some b) (G:a.eval x= .agg cs) (au:f.offset+bC.size<=cs.size) (D:b=true\/bC.size=1):
    iw P o a w (if b then .agg (cs.toList.drop f.offset|>.take bC.size).toArray else cs.toList.getD f.offset undef) w:=by
  refine .inl ?_;have H:=Ue (w:=w) hb;simp only[execOp,bx,G,Instr.field,Sem.run_bind,run_underlying bt,Result.andThen_ok,a6,asAgg,Sem.run_pure,part,H];cases b
  · have aq:bC.size=1:=(by simpa using D);have aE:f.offset<cs.size:=(by omega);simp[aE]
  · simp only[if_true,Sem.run_bind,sizeOf,typeInfo,run_program,ak,Sem.run_pure,Result.andThen_ok];congr 3;apply Bf.1;simp[Array.toList_extract]
theorem azB{t e:TypeId}{n:Nat}{ps:Array (Nat×Operand)}{cells:Array Value}{bC B0:TypeInfo}{I:Value}(bx:o.op= .build t ps)(ak:P.info? t=some bC)(bD:bC.zero=some I)
    (bt:P.underlying t=some (.array n e)) (bb:P.info? e=some B0)
    (a6:Instr.fill (λi=>some (i*B0.size,B0.size)) I.cells (ps.toList.map λp=>(p.1,a.eval p.2))=some cells):iw P o a w (.agg cells) w:=by
  refine .inl ?_;simp[execOp,bx,Instr.build,run_underlying bt,zeroValue,sizeOf,typeInfo,ak,bD,bb,a6]
theorem aeU(fk:Bool): ∀(xs:List Value) (dC:Value),eT dC=true->(∀x∈xs,eT x=true)->
    (xs.foldlM (m:=Sem) (if fk then Builtin.max2 else Builtin.min2) dC).run P w= .ok (xs.foldl (λdC y=>if fk then nG dC y else nH dC y) dC) w
  |[],_,_,_=>by simp
  | x::xs,dC,h,G=>by have D:((if fk then Builtin.max2 else Builtin.min2) dC x).run P w= .ok (if fk then nG dC x else nH dC x) w:=(by have PY:=G x (by simp);cases dC<;>simp[eT]at h;cases x<;>simp[eT]at PY;cases fk<;>simp[Builtin.max2,Builtin.min2,nG,nH]);have H:eT (if fk then nG dC x else nH dC x)=true:=(by have PY:=G x (by simp);cases dC<;>simp[eT]at h;cases x<;>simp[eT]at PY;cases fk<;>simp[nG,nH,eT]);simp only[List.foldlM_cons,Sem.run_bind,D,Result.andThen_ok,wS];exact aeU fk xs _ H (λy ag=>G y (by simp[ag]))
theorem af7{c:Call}{fk:Bool}{x:Operand}{xs:List Operand}(bx:o.op= .call c)(ar:c.callee= .builtin (if fk then .max else .min))(ax:c.args.toList=x::xs)
    (D:eT (a.eval x)=true) (H: ∀y∈xs,eT (a.eval y)=true):iw P o a w (xs.foldl (λdC y=>if fk then nG dC (a.eval y)else nH dC (a.eval y)) (a.eval x)) w:=by
  refine .inl ?_;have aq:(c.args.map a.eval).toList=a.eval x::xs.map a.eval:=by simp[ax]
  have aE:=aeU (P:=P) (w:=w) fk (xs.map a.eval) (a.eval x) D (by simpa using H);rw[List.foldl_map]at aE;cases fk
  · simp only[execOp,bx,resolve,ar,invoke,builtin,Sem.run_bind,Sem.run_pure,Result.andThen_ok,jv,if_false,Builtin.min_,aq];simp only[jv,if_false]at aE;simp[aE]
  · simp only[execOp,bx,resolve,ar,invoke,builtin,Sem.run_bind,Sem.run_pure,Result.andThen_ok,if_true,Builtin.max_,aq];simp only[if_true]at aE;simp[aE]
theorem Jm: ∀(ec gY:List o1) (xs ys:List Value),h0 (ec++gY) xs ys=true->h0 ec (xs.take ec.length) (ys.take ec.length)=true/\h0 gY (xs.drop ec.length) (ys.drop ec.length)=true/\
    lL xs ys=(lL (xs.take ec.length) (ys.take ec.length)&&lL (xs.drop ec.length) (ys.drop ec.length))
  |[],gY,xs,ys,h=>by simpa[h0,lL]using h
  |k::ec,gY,[],ys,h=>by simp[h0]at h
  |k::ec,gY,x::xs,[],h=>by simp[h0]at h
  | k::ec,gY,x::xs,y::ys,h=>by simp only[wR,h0,aY]at h;obtain⟨D,H,aq⟩:=Jm ec gY xs ys h.2;exact⟨by simp[h0,h.1,D],by simpa using H,by simp[lL,aq,yJ]⟩
theorem Jn: ∀(gz:List o1) (xs ys:List Value),h0 gz xs ys=true->xs.length=gz.length/\ys.length=gz.length
  |[],[],[],_=>by simp
  |[],[],_::_,h=>by simp[h0]at h
  |[],_::_,_,h=>by simp[h0]at h
  |_::_,[],_,h=>by simp[h0]at h
  |_::_,_::_,[],h=>by simp[h0]at h
  | k::gz,x::xs,y::ys,h=>by simp only[h0,aY]at h;have:=Jn gz xs ys h.2;simp[this]
def sw(dd:Bool)(xs:List Value):Value:=if dd then .agg xs.toArray else xs.headD undef
theorem v7{xs:List Value}(h:xs.length=1): ∃x,xs=[x]:=by
  match xs,h with
  |[x],_=>exact⟨x,rfl⟩
theorem MQ{t:TypeId}{b:Bool}{n off:Nat}{xs:List Value}(hb:oc P t=some b)(au:ki P t=some n)(D:b=true\/n=1)(aD:off+n<=xs.length):
    (part t xs.toArray off).run P w= .ok (sw b ((xs.drop off).take n)) w:=by
  obtain⟨bC,ak,rfl⟩:=rk au;simp only[part,Sem.run_bind,Ue hb,Result.andThen_ok];cases b
  · have H:bC.size=1:=(by simpa using D);have aq:off<xs.length:=(by omega);simp only[jv,if_false,sw,H];simp[dD aq,List.take_one,List.headD]
  · simp only[if_true,Sem.run_bind,sizeOf,typeInfo,run_program,ak,Sem.run_pure,Result.andThen_ok,sw];congr 2;apply Bf.1;simp
theorem JE: ∀(d cL:Nat) (t:TypeId) (gz:List o1) (xs ys:List Value),sE P d t=some gz->d<=cL->h0 gz xs ys=true->
    ∃b,oc P t=some b/\ki P t=some gz.length/\(b=true\/gz.length=1)/\(Op.equalIn cL t (sw b xs) (sw b ys)).run P w= .ok (lL xs ys) w
  |0,_,_,_,_,_,h,_,_=>by simp[sE]at h
  |d+1,0,_,_,_,_,_,h,_=>by omega
  | d+1,cL+1,t,gz,xs,ys,h,ox,aD=>by
    obtain⟨Ht,oI⟩:=Jn gz xs ys aD;unfold sE at h;split at h
    · rename_i n aS au;split at h<;>cases h;rename_i e;subst e;obtain⟨x,rfl⟩:=v7 Ht;obtain⟨y,rfl⟩:=v7 oI;refine⟨false,by simp[oc,aS],au,.inr rfl,?_⟩;cases x<;>cases y<;>simp[h0,w8]at aD;simp only[sw,jv,if_false,List.headD_cons,lL,nx,Bool.and_true];exact run_equalIn_bool' w cL t _ _ aS
    · rename_i k n aS au;split at h<;>cases h;rename_i e;subst e;obtain⟨x,rfl⟩:=v7 Ht;obtain⟨y,rfl⟩:=v7 oI;refine⟨false,by simp[oc,aS],au,.inr rfl,?_⟩;cases x<;>cases y<;>simp[h0,w8]at aD;subst aD;simp only[sw,jv,if_false,List.headD_cons,lL,nx,Bool.and_true];exact run_equalIn_int w cL t _ _ _ _ aS
    · rename_i n aS au;split at h<;>cases h;rename_i e;subst e;obtain⟨x,rfl⟩:=v7 Ht;obtain⟨y,rfl⟩:=v7 oI;refine⟨false,by simp[oc,aS],au,.inr rfl,?_⟩;cases x<;>cases y<;>simp[h0,w8]at aD;simp only[sw,jv,if_false,List.headD_cons,lL,nx,Bool.and_true];rw[run_equalIn_string w cL t _ _ aS,toList_beq]
    · rename_i eo n aS au;split at h
      · rename_i aGw zf;split at h
        · rename_i ar;cases h;simp only[aY,eO,u1]at ar;obtain⟨rfl,oB⟩:=ar;refine⟨true,by simp[oc,aS],au,.inl rfl,?_⟩;simp only[sw,if_true];have Xb:P.fieldsOf t=eo:=(by simp[Program.fieldsOf,aS]);rw[run_equalIn_struct w cL t _ _ (by rw[Xb];exact aS) oB,Xb]
          -- pM aDP,ni Oj pM gl
          have key: ∀(fw:List Field) (off:Nat) (Mq:List o1),EJ (sE P d) fw off=some Mq->h0 Mq (xs.drop off) (ys.drop off)=true->
              (Op.eqFields cL xs.toArray ys.toArray fw).run P w= .ok (lL (xs.drop off) (ys.drop off)) w:=by
            intro fw;induction fw with
            | nil=>intro off Mq D H;simp[EJ]at D;subst D;cases G:xs.drop off<;>cases ag:ys.drop off<;>simp[G,ag,h0]at H;simp[Op.eqFields,lL]
            | cons f fw cc=>
              intro off Mq D H;simp only[EJ]at D;split at D
              · rename_i ar;simp only[aY,bne_iff_ne,ne_eq,beq_iff_eq]at ar;obtain⟨jV,Fo⟩:=ar;split at D
                · rename_i ec qT;split at D
                  · rename_i gY rQ;split at D<;>cases D;rename_i ajU;obtain⟨aQ,a7,cD⟩:=Jm ec gY _ _ H;obtain⟨b,aK,aR,cB,gX⟩:=JE d cL f.type ec _ _ qT (by omega) aQ;have jo:=(Jn _ _ _ H);simp only[List.length_drop,jI]at jo;have fX:=MQ (w:=w) (off:=off) (xs:=xs) aK aR cB (by omega);have g1:=MQ (w:=w) (off:=off) (xs:=ys) aK aR cB (by omega);simp only[yK]at a7 cD;have aq:=cc (off+ec.length) gY rQ a7;simp only[Op.eqFields,jV,ne_eq,not_false_eq_true,if_true,Sem.run_bind,Fo,fX,g1,Result.andThen_ok,gX,cD,Sem.run_ite,Sem.run_pure,aq];cases lL (List.take ec.length (List.drop off xs)) (List.take ec.length (List.drop off ys))<;>simp
                  · cases D
                · cases D
              · cases D
          have:=key eo.toList 0 _ zf (by simpa using aD);simpa using this
        · cases h
      · cases h
    · -- Og array
      rename_i k e n aS au;split at h
      · rename_i ec zf;split at h
        · rename_i ar;cases h;simp only[aY,eO]at ar;obtain⟨rfl,ajU⟩:=ar;have eS: ∀r:Nat,(List.replicate r ec).flatten.length=r*ec.length:=by
            intro r;induction r with
            |zero=>simp
            |succ r cc=>rw[IK,rp,jI,cc,k0];omega
          refine⟨true,by simp[oc,aS],by rw[au,eS],.inl rfl,?_⟩;simp only[sw,if_true];by_cases zd:k=0
          · subst zd;simp only[List.replicate_zero,List.flatten_nil]at aD Ht oI;have aK:xs=[]:=pO.1 Ht;have aR:ys=[]:=pO.1 oI;subst aK aR;simp[Op.equalIn,run_underlying aS,lL,sizeOf,typeInfo];cases ak:P.info? e with
            | none=>
              -- pM aDJ type z1 aGv,bz aGn kinds aCC
              exfalso;cases d with
              |zero=>simp[sE]at zf
              | succ d=>unfold sE at zf;have:ki P e=none:=(by simp[ki,ak]);simp[this]at zf
            |some i=>simp
          · obtain⟨fK,rfl⟩: ∃fK,k=fK+1:=⟨k-1,by omega⟩;have lv:=aD;rw[IK,rp]at lv;obtain⟨aQ,_,_⟩:=Jm ec _ xs ys lv;obtain⟨dA,_,aR,_,_⟩:=JE d cL e ec _ _ zf (by omega) aQ;obtain⟨bC,ak,iX⟩:=rk aR;have vz:P.cellsOf e=ec.length:=(by simp[Program.cellsOf,ak,iX]);rw[run_equalIn_array w cL xs.toArray ys.toArray aS ak,vz,List.range_eq_range']
            have key: ∀(r j:Nat),h0 (List.replicate r ec).flatten (xs.drop (j*ec.length)) (ys.drop (j*ec.length))=true->
                (Op.eqItems cL e ec.length xs.toArray ys.toArray (List.range' j r)).run P w= .ok (lL (xs.drop (j*ec.length)) (ys.drop (j*ec.length))) w:=by
              intro r;induction r with
              | zero=>intro j H;simp only[List.replicate_zero,List.flatten_nil]at H;cases G:xs.drop (j*ec.length)<;>cases ag:ys.drop (j*ec.length)<;>simp[G,ag,h0]at H;simp[Op.eqItems,lL]
              | succ r cc=>intro j H;rw[IK,rp]at H;obtain⟨aQ,a7,cD⟩:=Jm ec _ _ _ H;obtain⟨b,aK,aR,cB,gX⟩:=JE d cL e ec _ _ zf (by omega) aQ;have jo:=Jn _ _ _ H;simp only[List.length_drop,jI]at jo;have fX:=MQ (w:=w) (off:=j*ec.length) (xs:=xs) aK aR cB (by omega);have g1:=MQ (w:=w) (off:=j*ec.length) (xs:=ys) aK aR cB (by omega);simp only[yK]at a7 cD;have b1:j*ec.length+ec.length=(j+1)*ec.length:=(by rw[k0];omega);rw[b1]at a7 cD;have aq:=cc (j+1) a7;rw[List.range'_succ];simp only[Op.eqItems,Sem.run_bind,fX,g1,Result.andThen_ok,gX,cD,Sem.run_ite,Sem.run_pure,aq];cases lL (List.take ec.length (List.drop (j*ec.length) xs)) (List.take ec.length (List.drop (j*ec.length) ys))<;>simp
            have:=key (fK+1) 0 (by simpa using aD);simpa using this
        · cases h
      · cases h
    · cases h
termination_by d=>d
theorem azF{op:BinOp}{t yD:TypeId}{x y:Operand}{gz:List o1}{xs ys:Array Value}(jR:Bool)(bx:o.op= .binOp op t x y yD)(bb:op=if jR then .neq else .eql)(a6:sE P 8 t=some gz)
    (aF:P.eqGuardType P.depth t=false) (dh:od P t= .agg) (G:a.eval x= .agg xs) (ag:a.eval y= .agg ys) (aD:h0 gz xs.toList ys.toList=true):
    iw P o a w (.bool (if jR then !lL xs.toList ys.toList else lL xs.toList ys.toList)) w:=by
  obtain⟨b,D,_,_,aE⟩:=JE (P:=P) (w:=w) 8 10000 t gz xs.toList ys.toList a6 (by omega) aD;have hb:b=true:=by
    unfold od at dh;unfold oc at D;split at dh<;>first|cases dh|skip
    · rename_i aS;simp only[aS]at D;cases D;rfl
    · rename_i aS;simp only[aS]at D;cases D;rfl
  subst hb;simp only[sw,if_true,pQ]at aE;refine IC bx (by rw[G,ag];exact run_eqGuard_agg w op t x y xs ys aF) ?_;rw[G,ag];cases jR
  · simp only[jv,if_false]at bb⊢;subst bb;rw[run_eql_struct,aE];rfl
  · simp only[if_true]at bb⊢;subst bb;rw[run_neq_struct,aE];rfl
end
def af.pure:af->Bool
  | .dz _| .l0 _| .fR _ _ _ _| .kx _ _ _| .oT _ _ _| .store _ _ _| .mw _| .ny _| .jY _ _ _ _ _| .app _ _ _ _| .lZ _ _ _ _ _| .hl _ _| .dm _ _| .iy _ _| .kv _ _ _| .nc| .nd _ _ _ _ _| .lR _ _ _ _=>false
  |_=>true
section
variable {P:Program} {w:World} {o:Oper} {a:Act} {aj:eE} {cQ:Nat} {z:aM} {m:W}
theorem C8(M:gx aj cQ z a): ∀(xs:List Operand),xs.all cO=true->cV aj (xs.map (Y z)) (xs.map a.eval)
  |xs,h=>cV.Db _ _ xs λx G=>M.Y (eQ.1 h x G)
theorem ade{v:Value}(h:eT v=true):dQ v=true:=by cases v<;>simp[eT]at h<;>rfl
theorem qf{bo v:Value}(h:dB aj bo v)(ak:eT bo=true):v=bo/\ ∃k n,bo= .int k n:=by cases bo<;>simp[eT]at ak;exact⟨h.qe,_,_,rfl⟩
theorem SB(fk:Bool)(M:gx aj cQ z a): ∀(xs:List Operand) (dC:Value),xs.all cO=true->(xs.all λy=>eT (Y z y))=true->
    xs.foldl (λdC y=>if fk then nG dC (a.eval y)else nH dC (a.eval y)) dC=xs.foldl (λdC y=>if fk then nG dC (Y z y)else nH dC (Y z y)) dC
  |[],_,_,_=>rfl
  | x::xs,dC,D,H=>by simp only[mW,aY]at D H;have:=(qf (M.Y D.1) H.1).1;simp only[wS,this];exact SB fk M xs _ D.2 H.2
theorem SA(fk:Bool): ∀(xs:List Operand) (dC:Value),eT dC=true->(xs.all λy=>eT (Y z y))=true->
    eT (xs.foldl (λdC y=>if fk then nG dC (Y z y)else nH dC (Y z y)) dC)=true
  |[],_,h,_=>h
  | x::xs,dC,D,H=>by simp only[mW,aY]at H;simp only[wS];refine SA fk xs _ ?_ H.2;cases dC<;>simp[eT]at D;have aq:=H.1;cases G:Y z x<;>simp[G,eT]at aq;cases fk<;>simp[nG,nH,eT]
theorem VQ: ∀(gz:List o1) (xs ys e2 cj:List Value),h0 gz xs ys=true->cV aj xs e2->cV aj ys cj->e2=xs/\cj=ys
  | [],[],[],e2,cj,_,D,H=>by have aK:=D.1;have aR:=H.1;simp at aK aR;exact⟨pO.1 aK.symm,pO.1 aR.symm⟩
  |[],[],_::_,_,_,h,_,_=>by simp[h0]at h
  |[],_::_,_,_,_,h,_,_=>by simp[h0]at h
  |_::_,[],_,_,_,h,_,_=>by simp[h0]at h
  |_::_,_::_,[],_,_,h,_,_=>by simp[h0]at h
  |_::_,_::_,_::_,[],_,_,h,_=>by simp[cV]at h
  |_::_,_::_,_::_,_::_,[],_,_,h=>by simp[cV]at h
  | k::gz,x::xs,y::ys,bo::e2,v::cj,h,D,H=>by simp only[h0,aY]at h;obtain⟨aK,aR⟩:=VQ gz xs ys e2 cj h.2 ⟨by simpa using D.1,λi p q ai bc=>D.2 (i+1) p q (by simpa using ai) (by simpa using bc)⟩ ⟨by simpa using H.1,λi p q ai bc=>H.2 (i+1) p q (by simpa using ai) (by simpa using bc)⟩;have fL:=D.2 0 x bo rfl rfl;have g8:=H.2 0 y v rfl rfl;have aD:=h.1;have db:dQ x=true/\dQ y=true:=(by cases k<;>cases x<;>cases y<;>simp[w8]at aD<;>exact⟨rfl,rfl⟩);exact⟨by rw[aK,fL.hC db.1],by rw[aR,g8.hC db.2]⟩
theorem Wk{op:BinOp}{t yD:TypeId}{x y:Operand}{gz:List o1}(jR:Bool)(bx:o.op= .binOp op t x y yD)(bb:op=if jR then .neq else .eql)(a6:sE P 8 t=some gz)
    (aF:P.eqGuardType P.depth t=false) (dh:od P t= .agg) (M:gx aj cQ z a) (G:cO x=true) (ag:cO y=true) (ao:(af.vr jR gz x y).ok z m=true) (id:Nat):
    ∃bu,iw P o a w bu w/\dB aj ((af.vr jR gz x y).val id z m) bu:=by
  simp only[af.ok,aY]at ao;obtain⟨⟨D,H⟩,aq⟩:=ao;have mN:=M.Y G;have wz:=M.Y ag;simp only[af.val];cases aS:Y z x<;>simp only[aS,rW]at D<;>try cases D
  cases ad:Y z y<;>simp only[ad,rW]at H<;>try cases H
  rename_i xs ys;rw[aS]at mN;rw[ad]at wz;obtain⟨e2,aK,fL⟩:=mN.q0;obtain⟨cj,aR,g8⟩:=wz.q0;simp only[aS,ad,O]at aq;obtain⟨aQ,a7⟩:=VQ gz _ _ _ _ aq fL g8;have xf:=Bf.1 aQ;have vu:=Bf.1 a7;subst xf;subst vu;exact⟨_,azF jR bx bb a6 aF dh aK aR aq,.cy rfl⟩
theorem Io{bo v:Value}(h:dB aj bo v)(ak:kN bo=true):v=bo/\ ∃s,bo= .string s:=by cases bo<;>simp[kN]at ak;exact⟨h.vJ,_,rfl⟩
theorem awj{k:af}(aa:w3 P o=some k)(ai:k.pure=true)(M:gx aj cQ z a)(ao:k.ok z m=true)(id:Nat):
    ∃bu,iw P o a w bu w/\dB aj (k.val id z m) bu:=by
  rcases Jh aa with aa|rfl
  rotate_left
  · rw[afC]at ao;cases ao
  unfold Bt at aa;split at aa
  · -- move
    rename_i x bx;split at aa<;>cases aa;rename_i G;exact⟨_,azP bx,M.Y G⟩
  · rename_i x bx;split at aa<;>cases aa;rename_i G;exact⟨_,azy bx,M.Y G⟩
  · -- pE
    rename_i c x y bx;split at aa<;>cases aa;rename_i G;simp only[aY]at G;have ar:=M.Y G.1.1;simp only[af.ok]at ao;cases ad:Y z c<;>simp[ad,rX]at ao;rw[ad]at ar;refine⟨_,azR bx ar.qd,?_⟩;simp only[af.val,ad,tU];split
    · exact M.Y G.1.2
    · exact M.Y G.2
  · -- nilCheck
    rename_i x bx;split at aa<;>cases aa;rename_i G;have az:=M.Y G;simp only[af.ok]at ao;refine⟨_,azQ bx ?_,az⟩;generalize Y z x=bo at az ao;generalize a.eval x=v at az;cases az<;>simp_all [z2];rename_i fn _ _ _ _ _ _ _ _;cases fn<;>simp_all
  · split at aa<;>cases aa;simp[af.pure]at ai
  · split at aa<;>cases aa;simp[af.pure]at ai
  · -- eY
    rename_i t ps bx;split at aa
    · rename_i eo I bt bD;split at aa
      · rename_i hv PK;split at aa<;>cases aa;rename_i jU;obtain⟨bC,hj,ak,nC,mF,fC,eS⟩:=yv bD;obtain⟨aQ,a7⟩:=Wp _ _ PK;simp only[af.ok]at ao
        let uJ:Nat->Option (Nat×Nat):= λi=>(eo[i]?).bind λ(f:Field)=>(P.info? f.type).map λbC=>(f.offset,bC.size)
        obtain⟨ds,D,H,E4⟩:=JG M uJ ps.toList hv I hj.cells ⟨aQ,λi p q vE bc=>by obtain⟨aK,aR,f,P9,cB,gX,mx,kp⟩:=a7 i p q vE bc;exact⟨aK,aR,by simp[uJ,cB,gX,mx,kp]⟩⟩ (by rw[mF];exact cV.cy aj fC) (λv ad=>vt (eQ.1 fC v ad)) ao;refine⟨_,azA (cells:=ds) bx ak nC bt jU (λuI k9=>by have:uI=uJ:=funext k9;rw[this];exact D),?_⟩;have:=H.agg E4;simp only[pQ]at this;exact this
      · cases aa
    · rename_i n e I bt bD;split at aa
      · rename_i aLN iX;split at aa<;>cases aa;rename_i hv PK;obtain⟨bC,hj,ak,nC,mF,fC,eS⟩:=yv bD;obtain⟨B0,bb,rfl⟩:=rk iX;obtain⟨aQ,a7⟩:=OJ _ _ PK;simp only[af.ok]at ao;obtain⟨ds,D,H,E4⟩:=JG M (λi=>some (i*B0.size,B0.size)) ps.toList hv I hj.cells ⟨aQ,λi p q vE bc=>by
          obtain⟨aK,aR,cB,gX⟩:=a7 i p q vE bc;exact⟨aK,aR,by simp[cB,gX]⟩⟩ (by rw[mF];exact cV.cy aj fC) (λv ad=>vt (eQ.1 fC v ad)) ao
        refine⟨_,azB (cells:=ds) bx ak nC bt bb D,?_⟩;have:=H.agg E4;simp only[pQ]at this;exact this
      · cases aa
    · cases aa
  · repeat (split at aa<;>try cases aa)
    simp[af.pure]at ai
  · repeat (split at aa<;>try cases aa)
    simp[af.pure]at ai
  · repeat (split at aa<;>try cases aa)
    simp[af.pure]at ai
  · -- binOp
    rename_i op t x y yD bx;split at aa
    · rename_i G;simp only[aY]at G;split at aa
      · rename_i dh;split at aa
        · rename_i gz a6;split at aa<;>cases aa;rename_i aF;exact Wk false bx rfl a6 (by simpa using aF) dh M G.1 G.2 ao id
        · rename_i gz a6;split at aa<;>cases aa;rename_i aF;exact Wk true bx rfl a6 (by simpa using aF) dh M G.1 G.2 ao id
        · cases aa
      · cases aa;exact azz bx (M.Y G.1) (M.Y G.2) ao
    · cases aa
  · -- unOp
    rename_i op t x bx;split at aa<;>cases aa;rename_i G;simp only[af.ok]at ao;have az:=M.Y G;have bb:a.eval x=Y z x:=by cases aS:Y z x<;>cases op<;>simp[aS,wL]at ao<;>rw[aS]at az<;>first|exact az.qe|exact az.qd
    refine⟨_,azU bx (by rw[bb];exact ao),?_⟩;simp only[af.val,bb];exact .cy (by cases aS:Y z x<;>cases op<;>simp[aS,wL]at ao<;>simp[A3,dQ])
  · -- convert
    rename_i s d x bx;split at aa
    · rename_i Sg k qQ ox;split at aa<;>cases aa;rename_i G;simp only[af.ok]at ao;obtain⟨e,eX,n,ad⟩:=qf (M.Y G) ao;refine⟨_,azD bx qQ ox (by rw[e,ad]),?_⟩;simp only[af.val,ad,eG];exact .cy rfl
    · rename_i qQ ox;split at aa<;>cases aa;rename_i G;simp only[af.ok]at ao;obtain⟨e,b,ad⟩:=Io (M.Y G) ao;refine⟨_,azE bx qQ ox (by rw[e,ad]),?_⟩;simp only[af.val,ad];exact .cy rfl
    · repeat (split at aa<;>try cases aa)
      simp[af.pure]at ai
    · repeat (split at aa<;>try cases aa)
      simp[af.pure]at ai
    · cases aa
  · repeat (split at aa<;>try cases aa)
    simp[af.pure]at ai
  · -- slice
    rename_i t x cp ak fk bx;split at aa
    · rename_i bt;split at aa<;>cases aa;rename_i ar;simp only[aY,yG]at ar;obtain⟨⟨⟨G,oz⟩,ue⟩,rfl⟩:=ar;simp only[af.ok,aY,eO]at ao;obtain⟨⟨⟨⟨⟨D,H⟩,aq⟩,aE⟩,bq⟩,cP⟩:=ao;obtain⟨e,b,ad⟩:=Io (M.Y G) D;simp only[ad,h2]at bq cP;refine⟨_,azT bx bt (by rw[e,ad]) (yO M oz H 0 (by simpa using aE)) (yO M ue aq b.size (by omega)) (by simp;omega) (by omega),?_⟩;simp only[af.val,ad,pZ,h2];exact .cy rfl
    · rename_i e bt;split at aa
      · rename_i I bD;split at aa
        · split at aa<;>cases aa;rename_i ar;simp only[aY]at ar;obtain⟨⟨G,oz⟩,ue⟩:=ar;simp only[af.ok,aY,eO]at ao;obtain⟨⟨⟨⟨⟨D,H⟩,aq⟩,aE⟩,bq⟩,cP⟩:=ao;obtain⟨bC,hH,rfl⟩:=rk bD;have az:=M.Y G;simp only[af.val];cases aS:Y z x<;>simp only[aS,mP]at D<;>try cases D
          rename_i p len c;rw[aS]at az;simp only[aS,h2]at bq cP;cases p with
          | none=>simp only[aY,beq_iff_eq]at D;obtain⟨rfl,rfl⟩:=D;have ad:=az.hC rfl;refine⟨_,af9 bx bt hH ad (yO M oz H 0 (by simpa using aE)) (yO M ue aq 0 (by omega)) (by simp;omega) (by omega),?_⟩;have h5:(gK z cp (0:Nat)).toNat=0:=(by simp;omega);have aK:(gK z ak (0:Nat)).toNat=0:=(by simp;omega);rw[h5,aK];simp only[oS];exact .cy rfl
          | some dU=>
            simp only[aY,beq_iff_eq]at D;obtain⟨l,dF,cap,aD,l9,ad,au,zh,pj⟩:=az.mc;obtain⟨_,rfl⟩:=D;refine⟨_,af9 bx bt hH ad (yO M oz H 0 (by simpa using aE)) (yO M ue aq len (by omega)) (by simp;omega) (by omega),?_⟩;simp only[oS,h2];have P2:gK z cp ((0:Nat):Int)=gK z cp 0:=rfl;rw[P2];generalize eZ:(gK z cp 0).toNat=L;generalize aiV:(gK z ak (len:Int)).toNat=j7;have aiX:L<=j7:=(by omega);have aEp:j7<=len:=(by omega);by_cases b0:cap=L
            · rw[if_pos b0];exact .slice aD (.inl ⟨by omega,by omega⟩) (by omega) (by omega)
            · rw[if_neg b0];rcases au with⟨rfl,rfl⟩|⟨rfl,au⟩
              · omega
              · have ax:(⟨l.c,l.o+dU.off,none⟩:Addr).add (L*bC.size)=⟨l.c,l.o+(dU.off+L*bC.size),none⟩:=by
                  unfold Addr.add;split
                  · rename_i cR;rw[cR];simp
                  · simp[o0]
                simp only[Option.map_some,ax];refine .slice aD (.inr ⟨rfl,?_⟩) (by omega) (by omega);have:L*bC.size+(cap-L)*bC.size=cap*bC.size:=(by rw[<-k0];congr 1;omega);omega
        · rename_i hJ;split at aa
          · rename_i aC;split at aa<;>cases aa;rename_i ar;simp only[aY]at ar;obtain⟨⟨⟨G,oz⟩,ue⟩,uh⟩:=ar;simp only[af.ok,aY,eO]at ao;obtain⟨⟨⟨⟨⟨⟨⟨D,H⟩,aq⟩,aE⟩,bq⟩,cP⟩,fB⟩,hA⟩:=ao;obtain⟨bC,hH,rfl⟩:=rk bD;have az:=M.Y G;simp only[af.val];obtain⟨aie,auj,cc,Xf⟩:=qf (M.Y ue) aq;obtain⟨aih,aul,Ki,Xg⟩:=qf (M.Y uh) aE;simp only[Xf,Xg,eG]at cP fB hA⊢;cases aS:Y z x<;>simp only[aS,mP]at D<;>try cases D
            rename_i p len c;rw[aS]at az;simp only[aS,h2]at hA;have y7:=yO M oz H 0 (by simpa using bq);have P2:gK z cp ((0:Nat):Int)=gK z cp 0:=rfl;rw[P2]at y7;have W1: ∃(k:IntKind) (i:Int),a.eval aC= .int k i/\0<=i/\i.toNat=cc.toNat:=⟨auj,cc,by rw[aie,Xf],by omega,rfl⟩;have JZ: ∃(k:IntKind) (i:Int),a.eval hJ= .int k i/\0<=i/\i.toNat=Ki.toNat:=⟨aul,Ki,by rw[aih,Xg],by omega,rfl⟩;cases p with
            | none=>simp only[aY,beq_iff_eq]at D;obtain⟨rfl,rfl⟩:=D;have ad:=az.hC rfl;refine⟨_,af8 bx bt hH ad y7 W1 JZ (by omega) (by omega) (by omega),?_⟩;have h5:(gK z cp 0).toNat=0:=(by omega);have aK:cc.toNat=0:=(by omega);have aR:Ki.toNat=0:=(by omega);rw[h5,aK,aR];simp only[oS];exact .cy rfl
            | some dU=>
              simp only[aY,beq_iff_eq]at D;obtain⟨l,dF,cap,aD,l9,ad,au,zh,pj⟩:=az.mc;obtain⟨_,rfl⟩:=D;refine⟨_,af8 bx bt hH ad y7 W1 JZ (by omega) (by omega) (by omega),?_⟩;simp only[oS];generalize eZ:(gK z cp 0).toNat=L;generalize aiV:cc.toNat=j7;generalize aEr:Ki.toNat=yM;have aiX:L<=j7:=(by omega);have aEo:j7<=yM:=(by omega);have aEs:yM<=len:=(by omega);by_cases b0:yM=L
              · rw[if_pos b0];exact .slice aD (.inl ⟨by omega,by omega⟩) (by omega) (by omega)
              · rw[if_neg b0];rcases au with⟨rfl,rfl⟩|⟨rfl,au⟩
                · omega
                · have ax:(⟨l.c,l.o+dU.off,none⟩:Addr).add (L*bC.size)=⟨l.c,l.o+(dU.off+L*bC.size),none⟩:=by
                    unfold Addr.add;split
                    · rename_i cR;rw[cR];simp
                    · simp[o0]
                  simp only[Option.map_some,ax];refine .slice aD (.inr ⟨rfl,?_⟩) (by omega) (by omega);have iz:L*bC.size+(yM-L)*bC.size=yM*bC.size:=(by rw[<-k0];congr 1;omega);have xh:yM*bC.size<=cap*bC.size:=sn _ (by omega);show dU.off+L*bC.size+(yM-L)*bC.size<=l.n
                  replace au:dU.off+cap*bC.size<=l.n:=au
                  omega
          · cases aa
      · cases aa
    · (repeat' split at aa)<;>cases aa
      simp[af.pure]at ai
    · cases aa
  · -- fieldAddr
    rename_i s x i bx;split at aa
    · rename_i eo bt;split at aa
      · rename_i f a6;split at aa
        · rename_i n au;split at aa<;>cases aa;rename_i ar;simp only[aY,eO]at ar;obtain⟨bC,ak,rfl⟩:=rk au;simp only[af.ok]at ao;have az:=M.Y ar.1;simp only[af.val];cases aS:Y z x<;>simp only[aS,qk]at ao<;>try cases ao
          rename_i p;rw[aS]at az;cases p with
          |none=>cases ao
          | some dU=>obtain⟨l,aD,l9,ad⟩:=az.pv;refine⟨_,azH bx bt a6 ak ar.2 ad,?_⟩;simp only[wm,o0];exact .cF aD
        · cases aa
      · cases aa
    · cases aa
  · -- field
    rename_i t x i bx;split at aa
    · rename_i eo bt;split at aa
      · rename_i f a6;split at aa
        · rename_i b n hb au;split at aa<;>cases aa;rename_i G;obtain⟨bC,ak,rfl⟩:=rk au;simp only[af.ok,aY,rq,eO]at ao;have az:=M.Y G;simp only[af.val];cases aS:Y z x<;>simp only[aS,EM]at ao<;>try cases ao.1
          rename_i xs;rw[aS]at az;obtain⟨ys,ad,aD⟩:=az.q0;have iX:ys.size=xs.size:=(by have:=aD.1;simp at this;exact this.symm);have aER:f.offset+bC.size<=xs.size:=(by simpa using ao.1);refine⟨_,azI bx bt a6 ak hb ad (by omega) ao.2,?_⟩;simp only[JF];cases b
          · simp only[jv,if_false];have D:bC.size=1:=(by simpa using ao.2);have ek:f.offset<xs.toList.length:=(by simp;omega);obtain⟨y,ag,sT⟩:=aD.X (dD ek);rw[mV,mV,ag,dD ek];exact sT
          · simp only[if_true];exact((aD.drop _).take _).agg λx G=>az.ag1 x (Bb (Bc G))
        · cases aa
      · cases aa
    · cases aa
  · -- indexAddr
    rename_i t x i bx;split at aa
    · rename_i e bt;split at aa
      · rename_i I bD;split at aa<;>cases aa;rename_i ar;simp only[aY]at ar;obtain⟨bC,ak,rfl⟩:=rk bD;simp only[af.ok,aY,eO]at ao;obtain⟨⟨⟨D,H⟩,aq⟩,aE⟩:=ao;obtain⟨aR,k,n,au⟩:=qf (M.Y ar.2) H;have az:=M.Y ar.1;simp only[af.val];cases aS:Y z x<;>simp only[aS,mP]at D<;>try cases D
        rename_i p len c;rw[aS]at az;simp only[au,eG]at aq aE⊢;simp only[aS,h2]at aE;cases p with
        | none=>simp only[aY,beq_iff_eq]at D;omega
        | some dU=>
          simp only[aY,beq_iff_eq]at D;obtain⟨l,dF,cap,aD,l9,ad,xu,zh,pj⟩:=az.mc;rcases xu with⟨rfl,rfl⟩|⟨rfl,xu⟩
          · omega
          · refine⟨_,azJ bx bt ak ad (by rw[aR,au]) aq aE,?_⟩;simp only[wG,o0];exact .cF aD
      · cases aa
    · rename_i len e bt;split at aa
      · rename_i I bD;split at aa<;>cases aa;rename_i ar;simp only[aY]at ar;obtain⟨bC,ak,rfl⟩:=rk bD;simp only[af.ok,aY,eO]at ao;obtain⟨⟨⟨D,H⟩,aq⟩,aE⟩:=ao;obtain⟨aR,k,n,au⟩:=qf (M.Y ar.2) H;have az:=M.Y ar.1;simp only[af.val];cases aS:Y z x<;>simp only[aS,qk]at D<;>try cases D
        rename_i p;rw[aS]at az;simp only[au,eG]at aq aE⊢;cases p with
        |none=>cases D
        | some dU=>obtain⟨l,aD,l9,ad⟩:=az.pv;refine⟨_,azK bx bt ak ad (by rw[aR,au]) aq aE,?_⟩;simp only[wm,o0];exact .cF aD
      · cases aa
    · cases aa
  · -- index
    rename_i t x i bx;split at aa
    · rename_i bt;split at aa<;>cases aa;rename_i ar;simp only[aY]at ar;simp only[af.ok,aY,eO]at ao;obtain⟨⟨⟨D,H⟩,aq⟩,aE⟩:=ao;obtain⟨aK,b,ad⟩:=Io (M.Y ar.1) D;obtain⟨aR,k,n,au⟩:=qf (M.Y ar.2) H;simp only[au,eG]at aq aE;simp only[ad,h2]at aE;refine⟨_,azL bx bt (by rw[aK,ad]) (by rw[aR,au]) aq aE,?_⟩;simp only[af.val,ad,au,pZ,eG];exact .cy rfl
    · cases aa
  · -- extract
    rename_i x i bx;split at aa<;>cases aa;rename_i G;have az:=M.Y G;simp only[af.ok]at ao;simp only[af.val];cases aS:Y z x<;>simp only[aS,DQ]at ao<;>try cases ao
    rename_i xs;rw[aS]at az;obtain⟨ys,ad,aD⟩:=az.zA;have ak:i<xs.toList.length:=(by simpa using ao);obtain⟨y,ag,sT⟩:=aD.X (dD ak);have ke:i<ys.size:=(by have:=aD.1;simp at this ak;omega);refine⟨_,azG bx ad ke,?_⟩;rw[ad];simp only[A1];rw[mV,mV,ag,dD ak];exact sT
  · -- makeInterface
    rename_i t x bx;split at aa
    · cases aa
    · rename_i d m5 ay;split at aa<;>cases aa;rename_i G;refine⟨.iface t (a.eval x),.inl ?_,.iface (M.Y G)⟩;cases d<;>first|exact absurd rfl (m5 _)|simp[execOp,bx,Instr.makeInterface,underlying,ay]
    · cases aa
  · -- typeAssert
    rename_i x cS t ok bx;split at aa
    · cases aa
    · rename_i d m5 ay;split at aa<;>cases aa;rename_i G;simp only[aY,u1]at G;obtain⟨G,rfl⟩:=G;have az:=M.Y G;simp only[af.ok]at ao;simp only[af.val];cases aS:Y z x<;>simp only[aS,FE]at ao<;>try cases ao
      rename_i aJ v;have:=of_decide_eq_true ao;subst this;rw[aS]at az;obtain⟨y,ad,ag⟩:=az.FG;refine⟨y,.inl ?_,ag⟩;cases d<;>first|exact absurd rfl (m5 _)|simp[execOp,bx,Instr.typeAssert,underlying,ay,ad]
    · cases aa
  · repeat (split at aa<;>try cases aa)
    simp[af.pure]at ai
  · repeat (split at aa<;>try cases aa)
    simp[af.pure]at ai
  · repeat (split at aa<;>try cases aa)
    simp[af.pure]at ai
  · -- makeFunc
    rename_i fn x y bx;split at aa<;>cases aa;rename_i ar;simp only[aY]at ar;refine⟨_,azO bx,?_⟩;simp only[af.val];have fL:=C8 M _ ar.1;have g8:=C8 M _ ar.2;exact .func (by simp) (by simpa using fL.2) (by simp) (by simpa using g8.2)
  · -- dm
    rename_i c bx;unfold Ev at aa;split at aa
    · split at aa<;>cases aa;simp[af.pure]at ai
    · repeat (split at aa<;>try cases aa)
      simp[af.pure]at ai
    · repeat (split at aa<;>try cases aa)
      simp[af.pure]at ai
    · rename_i ar;split at aa
      · rename_i x t ax dh;split at aa
        · rename_i bt;split at aa<;>cases aa;rename_i G;simp only[af.ok]at ao;obtain⟨e,b,ad⟩:=Io (M.Y G) ao;refine⟨_,azM bx ar ax dh bt (by rw[e,ad]),?_⟩;simp only[af.val,ad,h2];exact .cy rfl
        · rename_i e bt;split at aa<;>cases aa;rename_i G;simp only[af.ok]at ao;have az:=M.Y G;simp only[af.val];cases aS:Y z x<;>simp only[aS,xY]at ao<;>try cases ao
          rename_i p len c;rw[aS]at az;have ad: ∃q cap,a.eval x= .slice q len cap:=by
            cases p with
            | none=>
              refine⟨none,c,?_⟩;generalize a.eval x=v at az;cases az with
              |cy h=>rfl
            |some dU=>obtain⟨_,_,_,_,_,h,_⟩:=az.mc;exact⟨_,_,h⟩
          obtain⟨q,cap,ad⟩:=ad;exact⟨_,azN bx ar ax dh bt ad,.cy rfl⟩
        · cases aa
      · cases aa
    · (repeat' split at aa)<;>cases aa<;>simp[af.pure]at ai
    · rename_i ar;split at aa
      · rename_i x xs ax;split at aa<;>cases aa;rename_i G;simp only[aY]at G;simp only[af.ok,aY]at ao;have D:=qf (M.Y G.1) ao.1;have H: ∀y∈xs,eT (a.eval y)=true:= λy ag=>by
          have:=eQ.1 ao.2 y ag;rw[(qf (M.Y (eQ.1 G.2 y ag)) this).1];exact this
        refine⟨_,af7 (fk:=false) bx (by simpa using ar) ax (by rw[D.1];exact ao.1) H,?_⟩;rw[SB false M xs _ G.2 ao.2,D.1];simp only[af.val];have aq:=SA (z:=z) false xs (Y z x) ao.1 ao.2;exact .cy (ade aq)
      · cases aa
    · rename_i ar;split at aa
      · rename_i x xs ax;split at aa<;>cases aa;rename_i G;simp only[aY]at G;simp only[af.ok,aY]at ao;have D:=qf (M.Y G.1) ao.1;have H: ∀y∈xs,eT (a.eval y)=true:= λy ag=>by
          have:=eQ.1 ao.2 y ag;rw[(qf (M.Y (eQ.1 G.2 y ag)) this).1];exact this
        refine⟨_,af7 (fk:=true) bx (by simpa using ar) ax (by rw[D.1];exact ao.1) H,?_⟩;rw[SB true M xs _ G.2 ao.2,D.1];simp only[af.val];have aq:=SA (z:=z) true xs (Y z x) ao.1 ao.2;exact .cy (ade aq)
      · cases aa
    · -- cap
      rename_i ar;split at aa
      · rename_i x t ax dh;split at aa
        · rename_i e bt;split at aa<;>cases aa;rename_i G;have az:=M.Y G;simp only[af.ok]at ao;have aS:Y z x= .slice none 0 0:=Mc ao;rw[aS]at az;exact⟨_,azC bx ar ax dh bt (az.hC rfl),.cy rfl⟩
        · cases aa
      · cases aa
    · (repeat' split at aa)<;>cases aa<;>simp[af.pure]at ai
    · cases aa
  · cases aa
end
theorem SO(v:Value):v.oneCell'=S v:=by cases v<;>rfl
section
variable {P:Program} {w cN:World} {aj:eE} {m:W} {aX:Nat}
def hi(aj:eE)(id:Nat)(l:ss):eE:= λb=>if b=id then some l else aj b
theorem rm{id:Nat}{l:ss}(h:aj id=none):ga aj (hi aj id l):=by
  intro b de hb;unfold hi;split
  · rename_i e;rw[e,h]at hb;cases hb
  · exact hb
theorem Of(c o j:Nat):(⟨c,o,none⟩:Addr).add j=⟨c,o+j,none⟩:=by unfold Addr.add;split<;>simp_all
theorem dy.cells(av:dy aX aj m w){b:Nat}{x:fq}{l:ss}(aF:m.X b=some x)(aD:aj b=some l){off n:Nat}(h:off+n<=x.cells.length):
    ∃ds:List Value,cV aj (hk m b off n) ds/\ds.length=n/\(∀j bo,ds[j]?=some bo->w.cell? ((⟨l.c,l.o+off,none⟩:Addr).add j)=some bo)/\(∀bo∈ds,bo.oneCell'=true):=by
  obtain⟨de,iV,eS,ar,_⟩:=av.lQ b x aF;rw[aD]at iV;cases iV;have key: ∀j,j<n-> ∃v bu,x.cells[off+j]?=some v/\S v=true/\w.cell? ⟨l.c,l.o+(off+j),none⟩=some bu/\dB aj v bu:=by intro j b1;have ek:off+j<x.cells.length:=(by omega);obtain⟨D,bu,H,aq⟩:=ar (off+j) _ (dD ek);exact⟨_,bu,dD ek,D,H,aq⟩
  refine⟨(List.range n).map λj=>(w.cell? ⟨l.c,l.o+(off+j),none⟩).getD undef,⟨?_,?_⟩,by simp,?_,?_⟩
  · simp[hk,aF];omega
  · intro i bo v aS ad;simp only[hk,aF]at aS;rw[tI]at aS;split at aS
    · rename_i ak;obtain⟨A5,uW,aQ,a7,cD,dI⟩:=key i ak;rw[wP,aQ]at aS;cases aS;simp[ak,cD]at ad;subst ad;exact dI
    · cases aS
  · intro j bo aS;have b1:j<n:=(by have:=(eB.1 aS).1;simpa using this);obtain⟨A5,uW,aQ,a7,cD,dI⟩:=key j b1;simp[b1,cD]at aS;subst aS;rw[Of,o0];exact cD
  · intro bo aS;simp only[g4,qz]at aS;obtain⟨j,b1,rfl⟩:=aS;obtain⟨A5,uW,aQ,a7,cD,dI⟩:=key j b1;rw[cD];simp only[Bg,SO];rw[dI.S];exact a7
theorem dy.Vf(av:dy aX aj m w){id C Bl n:Nat}{cs:List Value}(eg:id<m.next)(az:aj id=none)
    (vB: ∀b x l,m.X b=some x->aj b=some l->l.c≠C) (iX:w.heap.size<=cN.heap.size) (JT:C<cN.heap.size) (cK:aX<=C)
    (xw: ∀a:Addr,a.block<w.heap.size->a.block≠C->cN.cell? a=w.cell? a/\cN.frozen? a=w.frozen? a)
    (ajN: ∀k,k<w.heap.size->k≠C->cN.heap[k]?=w.heap[k]?)
    (eS:cs.length<=n) (iL: ∀i v,cs[i]?=some v->S v=true/\ ∃bu,cN.cell? ⟨C,Bl+i,none⟩=some bu/\dB aj v bu)
    (au: ∀i,i<n->(cN.cell? ⟨C,Bl+i,none⟩).isSome=true/\cN.frozen? ⟨C,Bl+i,none⟩=false):
    dy aX (hi aj id ⟨C,Bl,n⟩) (m.a0 id (some ⟨cs,true⟩)) cN:=by
  have e7:=rm (l:=⟨C,Bl,n⟩) az;refine⟨λb l hb=> ?_,λb l hb=> ?_,λb x G=> ?_,λb x ca hM l de D H aq aE bq cP=> ?_,λb a9 hb=> ?_,λb a9 hb=> ?_⟩
  · unfold hi at hb;split at hb
    · rename_i e;rw[e];exact eg
    · exact av.kn b l hb
  · unfold hi at hb;split at hb
    · cases hb;exact JT
    · exact oY (av.lN b l hb) iX
  · rw[W.m2]at G;split at G
    · rename_i e;cases G;exact⟨⟨C,Bl,n⟩,by simp[hi,e],eS,λi v ad=>by obtain⟨a3,bu,br,bX⟩:=iL i v ad;exact⟨a3,bu,br,bX.b6 e7⟩,λ_=>⟨cK,au⟩⟩
    · obtain⟨l,aQ,a7,cD,dI⟩:=av.lQ b x G;have BP:=av.lN b l aQ;have cW:=vB b x l G aQ;refine⟨l,e7 _ _ aQ,a7,λi v ad=> ?_,λaC=>⟨(dI aC).1,λi ak=> ?_⟩⟩
      · obtain⟨a3,bu,br,bX⟩:=cD i v ad;exact⟨a3,bu,by rw[(xw _ BP cW).1];exact br,bX.b6 e7⟩
      · have:=(dI aC).2 i ak;rw[(xw ⟨l.c,l.o+i,none⟩ BP cW).1,(xw ⟨l.c,l.o+i,none⟩ BP cW).2];exact this
  · rw[W.m2]at D aq;unfold hi at bq cP;split at D
    · rename_i e;rw[if_neg (by rw[<-e];exact Ne.symm aE)]at aq;rw[if_pos e]at bq;rw[if_neg (by rw[<-e];exact Ne.symm aE)]at cP;cases bq;exact Ne.symm (vB ca hM de aq cP)
    · rename_i e;rw[if_neg e]at bq;split at aq
      · rename_i dX;rw[if_pos dX]at cP;cases cP;exact vB b x l D bq
      · rename_i dX;rw[if_neg dX]at cP;exact av.qL b x ca hM l de D H aq aE bq cP
  · obtain⟨l,aD⟩:=av.tc b a9 hb;exact⟨l,e7 _ _ aD⟩
  · obtain⟨aQ,a7⟩:=W.ua hb;have cW:b≠id:= λe=>by
      subst e;obtain⟨l,aD⟩:=av.tc b a9 a7;rw[az]at aD;cases aD
    rw[W.m2,if_neg cW]at aQ;obtain⟨l,c1,a4,fX,g1,hL,jb⟩:=av.maps b a9 (W.jM aQ a7);exact⟨l,c1,a4,e7 _ _ fX,g1,by rw[ajN l.c (av.lN b l fX) (vB b _ l aQ fX)];exact hL,jb.b6 e7⟩
theorem dy.kf(av:dy aX aj m w)(b:Nat):dy aX aj (m.a0 b none) w:=by
  have aF: ∀ca x,(m.a0 b none).X ca=some x->ca≠b/\m.X ca=some x:=by
    intro ca x h;rw[W.m2]at h;split at h
    · split at h<;>cases h
    · rename_i e;exact⟨e,h⟩
  exact⟨av.kn,av.lN,λca x G=>av.lQ ca x (aF ca x G).2,λdk cm ev cU jo jq D H aq=>av.qL dk cm ev cU jo jq (aF _ _ D).2 H (aF _ _ aq).2,av.tc,λca a9 hb=>by obtain⟨aQ,a7⟩:=W.ua hb;exact av.maps ca a9 (W.jM (aF _ _ aQ).2 a7)⟩
theorem TY(b k:Nat)(aa:k≠b): ∀(cj:List Value) (o:Nat) (w:World),(w.setCells b o cj).heap[k]?=w.heap[k]?
  |[],_,_=>rfl
  |v::cj,o,w=>by rw[World.setCells,TY b k aa cj];simp[World.setCell,Array.getElem?_modify,Ne.symm aa]
theorem Nr(b:Nat): ∀(cj:List Value) (o:Nat) (w:World),(w.setCells b o cj).heap.size=w.heap.size
  |[],_,_=>rfl
  |v::cj,o,w=>by rw[World.setCells,Nr b cj];simp[World.setCell]
theorem Jb{aX b:Nat}(hb:aX<=b): ∀(cj:List Value) (o:Nat) (w:World),Below aX w (w.setCells b o cj)
  |[],_,_=>Below.refl _ _
  |v::cj,o,w=>((Below.refl aX w).setCell (p:=⟨b,o,none⟩) hb v).trans (Jb hb cj _ _)
theorem VF: ∀(cj:List Value) (off:Nat) (cs:List Value) (i:Nat),off+cj.length<=cs.length->(gy cs off cj)[i]?=if off<=i/\i<off+cj.length then cj[i-off]? else cs[i]?
  |[],off,cs,i,_=>by simp[gy];intro D H;omega
  | v::cj,off,cs,i,h=>by
    simp only[gy];simp only[pS]at h;rw[VF cj (off+1) (cs.set off v) i (by simp;omega),u2];by_cases D:off=i
    · subst D;rw[if_neg (by omega),if_pos rfl,if_pos (by omega),if_pos (by simp)];simp
    · by_cases H:off+1<=i/\i<off+1+cj.length
      · rw[if_pos H,if_pos ⟨by omega,by simp;omega⟩,show i-off=(i-(off+1))+1 by omega];simp
      · rw[if_neg H,if_neg D,if_neg (by simp;omega)]
theorem dy.store(av:dy aX aj m w){b:Nat}{x:fq}{l:ss}(aF:m.X b=some x)(aC:x.own=true)(aD:aj b=some l){off:Nat}{cs e2:List Value}(az:cV aj cs e2)(pn: ∀v∈cs,S v=true)
    (h:off+cs.length<=x.cells.length):dy aX aj (m.a0 b (some ⟨gy x.cells off cs,x.own⟩)) (w.setCells l.c (l.o+off) e2):=by
  have hb:=W.bn aF;have eS:=az.1;obtain⟨de,iV,a3,br,bX⟩:=av.lQ b x aF;rw[aD]at iV;cases iV;have rU: ∀ca hM Mr,m.X ca=some hM->ca≠b->aj ca=some Mr->Mr.c≠l.c:= λca hM Mr D H aq=>Ne.symm (av.qL b x ca hM l Mr aF aC D (Ne.symm H) aD aq);refine⟨av.kn,λca de bN=>by rw[Nr];exact av.lN ca de bN,λca hM G=> ?_,λdk cm ev cU jo jq D H aq aE bq cP=> ?_,av.tc,λca a9 fN=> ?_⟩
  · rw[W.m2]at G;split at G
    · rename_i e;cases G;subst e;refine⟨l,aD,by rw[Er];exact a3,λi v ad=> ?_,λ_=>⟨(bX aC).1,λi ak=> ?_⟩⟩
      · rw[VF _ _ _ _ h]at ad;split at ad
        · rename_i ak;obtain⟨bo,aS,Fu⟩:=az.X ad;refine⟨pn v (hF ad),bo,?_,Fu⟩;have b1:i-off<e2.length:=(by omega);have:=World.cell?_setCells_in l.c e2 (l.o+off) w (λj zc=>by
            have:=((bX aC).2 (off+j) (by omega)).1
            rwa [<-o0]at this) (i-off) b1
          rw[show l.o+off+(i-off)=l.o+i by omega]at this;rw[this];rw[dD b1]at aS;exact aS
        · rename_i ak;obtain⟨aQ,bu,a7,cD⟩:=br i v ad;refine⟨aQ,bu,?_,cD⟩;rw[World.cell?_setCells_out l.c e2 (l.o+off) w _ (λ_ _=>by show l.o+i<l.o+off\/l.o+off+e2.length<=l.o+i;omega)];exact a7
      · have bc:=(bX aC).2 i ak;refine⟨?_,by rw[World.frozen?_setCells];exact bc.2⟩;by_cases ke:off<=i/\i<off+e2.length
        · have:=World.cell?_setCells_in l.c e2 (l.o+off) w (λj zc=>by
            have:=((bX aC).2 (off+j) (by omega)).1
            rwa [<-o0]at this) (i-off) (by omega)
          rw[show l.o+off+(i-off)=l.o+i by omega]at this;rw[this];rfl
        · rw[World.cell?_setCells_out l.c e2 (l.o+off) w _ (λ_ _=>by show l.o+i<l.o+off\/l.o+off+e2.length<=l.o+i;omega)];exact bc.1
    · rename_i e;obtain⟨de,aQ,a7,cD,dI⟩:=av.lQ ca hM G;have cW:=rU ca hM de G e aQ;have ar: ∀i,(w.setCells l.c (l.o+off) e2).cell? ⟨de.c,de.o+i,none⟩=w.cell? ⟨de.c,de.o+i,none⟩:= λi=>World.cell?_setCells_out _ _ _ _ _ (λaH _=>absurd aH cW);refine⟨de,aQ,a7,λi v ad=>by rw[ar];exact cD i v ad,λiW=>⟨(dI iW).1,λi ak=>by rw[ar,World.frozen?_setCells];exact(dI iW).2 i ak⟩⟩
  · have pk: ∀ca hM,(m.a0 b (some ⟨gy x.cells off cs,x.own⟩)).X ca=some hM-> ∃af2,m.X ca=some af2/\af2.own=hM.own:=by
      intro ca hM G;rw[W.m2]at G;split at G
      · rename_i e;cases G;exact⟨x,by rw[e];exact aF,rfl⟩
      · exact⟨hM,G,rfl⟩
    obtain⟨kD,fX,g1⟩:=pk dk cm D;obtain⟨tD,hL,jb⟩:=pk ev cU aq;exact av.qL dk kD ev tD jo jq fX (by rw[g1];exact H) hL aE bq cP
  · obtain⟨aQ,a7⟩:=W.ua fN;rw[W.m2]at aQ;by_cases e:ca=b
    · subst e;rw[if_pos rfl,if_pos hb]at aQ;injection aQ with aQ;have ar:x.cells=[]:=by
        have:=congrArg (λy=>y.cells.length) aQ;simp only[Er,wT]at this;exact pO.1 this
      have aS:e2=[]:=(by rw[ar]at h;simp at h;exact pO.1 (by rw[<-eS,h.2];rfl));subst aS;have G:x=⟨[],true⟩:=(by cases x;simp at ar aC;rw[ar,aC]);obtain⟨jq,c1,a4,fX,g1,hL,jb⟩:=av.maps ca a9 (W.jM (by rw[aF,G]) a7);exact⟨jq,c1,a4,fX,g1,hL,jb⟩
    · rw[if_neg e]at aQ;obtain⟨jq,c1,a4,fX,g1,hL,jb⟩:=av.maps ca a9 (W.jM aQ a7);exact⟨jq,c1,a4,fX,g1,by rw[TY _ _ (rU ca _ jq aQ e fX)];exact hL,jb⟩
end
def oo(P:Program)(o:Oper)(k:af)(a:Act)(aX:Nat)(aj:eE)(z:aM)(m:W)(w:World)(id:Nat):Prop:=
  ∃bu cN cC,iw P o a w bu cN/\ga aj cC/\(∀b,b≠id->cC b=aj b)/\dB cC (k.val id z m) bu/\dy aX cC (k.gu id z m) cN/\Below aX w cN
section
variable {P:Program} {w:World} {o:Oper} {a:Act} {aj:eE} {cQ:Nat} {z:aM} {m:W} {aX id:Nat}
theorem uV{l:ss}: ∀b,b≠id->hi aj id l b=aj b:= λb h=>by simp[hi,h]
theorem dy.Ap(av:dy aX aj m w){c3:World}(aZ:c3.heap=w.heap)(cK:aX<=w.heap.size)(eg:id<m.next)(az:aj id=none){cs:List Value}{ds:Array Value}{e:TypeId}{bA:Nat×Nat}{n:Nat}
    (eS:cs.length<=n) (au:n<=ds.size) (iL: ∀(i:Nat) v,cs[i]?=some v->S v=true/\ ∃bu,ds[i]?=some bu/\dB aj v bu) (fe: ∀i,i<n-> ¬(bA.1<=i/\i<bA.2)):
    dy aX (hi aj id ⟨w.heap.size,0,n⟩) (m.a0 id (some ⟨cs,true⟩)) (c3.alloc (.cells ds e bA)):=by
  have iX:(c3.alloc (.cells ds e bA)).heap.size=w.heap.size+1:=by show(c3.heap.push _).size=_;rw[Array.size_push,aZ]
  have oA:(c3.alloc (.cells ds e bA)).heap[w.heap.size]?=some (.cells ds e bA):=by show(c3.heap.push _)[_]?=_;rw[aZ];simp
  refine av.Vf eg az (λb x l G aD=>by have:=av.lN b l aD;omega) (by omega) (by omega) cK (λdU D H=> ?_) (λk D _=>by show(c3.heap.push _)[k]?=_;rw[aZ,IJ,if_neg (by omega)]) eS (λi v ad=> ?_) (λi ak=> ?_)
  · have:(c3.alloc (.cells ds e bA)).heap[dU.block]?=w.heap[dU.block]?:=by
      show(c3.heap.push _)[_]?=_;rw[aZ,IJ,if_neg (by omega)]
    exact⟨World.cell?_of_block (w:=w) this,World.frozen?_of_block (w:=w) this⟩
  · obtain⟨a3,bu,br,bX⟩:=iL i v ad;refine⟨a3,bu,?_,bX⟩;simp[World.cell?,oA,br]
  · have ke:i<ds.size:=(by omega);refine⟨by simp[World.cell?,oA,ke],?_⟩;have:=fe i ak;simp only[World.frozen?,oA,Nat.zero_add];simpa using this
theorem sx{c3:World}(aZ:c3.heap=w.heap)(aC:c3.os=w.os)(bt:c3.tape=w.tape)(aS:c3.output=w.output)(cK:aX<=w.heap.size)(x:Obj):Below aX w (c3.alloc x):=by have:Below aX w c3:=⟨aC,bt,aS,by rw[aZ];exact dW _,λk _=>by rw[aZ]⟩;exact this.alloc (by rw[aZ];exact cK) x
theorem Ow{cs:List Value}{ds:Array Value}(h:cV aj cs ds.toList)(D: ∀v∈cs,S v=true): ∀(i:Nat) v,cs[i]?=some v->S v=true/\ ∃bu,ds[i]?=some bu/\dB aj v bu:=by intro i v ad;obtain⟨y,ag,sT⟩:=h.X ad;exact⟨D v (hF ad),y,by simpa using ag,sT⟩
theorem ax1{e:TypeId}{I:List Value}(bx:o.op= .alloc e)(bD:oW P e=some I)(av:dy aX aj m w)(cK:aX<=w.heap.size)(eg:id<m.next)(az:aj id=none):oo P o (.dz I) a aX aj z m w id:=by
  obtain⟨bC,hj,ak,nC,mF,fC,eS⟩:=yv bD;refine⟨.pointer (some ⟨w.heap.size,0,none⟩),w.alloc (.cells hj.cells e),hi aj id ⟨w.heap.size,0,I.length⟩,.inl ?_,rm az,uV,?_,?_,sx rfl rfl rfl rfl cK _⟩
  · simp only[execOp,bx,Instr.alloc,Sem.run_bind,zeroValue,typeInfo,run_program,ak,Sem.run_pure,Result.andThen_ok,nC,newVar,newRow];rfl
  · exact .cF (off:=0) (l:=⟨w.heap.size,0,I.length⟩) (by simp[hi])
  · refine av.Ap rfl cK eg az (dW _) (by rw[<-mF];simp) (Ow (by rw[mF];exact cV.cy aj fC) λv ad=>vt (eQ.1 fC v ad)) (λi _=>by simp)
theorem ax4{e:TypeId}{x:Operand}(bx:o.op= .box e x)(G:cO x=true)(M:gx aj cQ z a)(ao:(af.l0 x).ok z m=true)(av:dy aX aj m w)(cK:aX<=w.heap.size)(eg:id<m.next)(az:aj id=none):oo P o (.l0 x) a aX aj z m w id:=by
  have ad:=Un (M.Y G);have pn:=Um (M.Y G) ao;have aD:(a.eval x).cells.size=(O (Y z x)).length:=by have:=ad.1;simp at this;exact this.symm
  refine⟨.pointer (some ⟨w.heap.size,0,none⟩),w.alloc (.cells (a.eval x).cells e),hi aj id ⟨w.heap.size,0,(O (Y z x)).length⟩,.inl ?_,rm az,uV,?_,?_,sx rfl rfl rfl rfl cK _⟩
  · simp only[execOp,bx,Instr.box,Sem.run_bind,newVar,newRow];rfl
  · exact .cF (off:=0) (l:=⟨w.heap.size,0,(O (Y z x)).length⟩) (by simp[hi])
  · exact av.Ap rfl cK eg az (dW _) (by omega) (Ow ad pn) (λi _=>by simp)
theorem I5{v:Value}{n:Nat}(h:gn m v n=true): ∃b off x,v= .pointer (some ⟨b,off,none⟩)/\m.X b=some x/\off+n<=x.cells.length:=by
  unfold gn at h;split at h
  · rename_i dU;simp only[aY,yG]at h;obtain⟨l9,h⟩:=h;split at h
    · rename_i x G;obtain⟨b,off,aB⟩:=dU;simp only at l9 G h;subst l9;exact⟨b,off,x,rfl,G,by simpa using h⟩
    · cases h
  · cases h
theorem Tn{t:TypeId}{dd:Bool}{n:Nat}{dU:Addr}{ds:List Value}(sN:oc P t=some dd)(au:ki P t=some n)(D:dd=true\/n=1)(aD:ds.length=n)(ar: ∀(j:Nat) bo,ds[j]?=some bo->w.cell? (dU.add j)=some bo):
    (loadVar t dU).run P w= .ok (if dd then .agg ds.toArray else ds.headD undef) w:=by
  obtain⟨bC,ak,rfl⟩:=rk au;simp only[loadVar,Sem.run_bind,Ue sN,Result.andThen_ok];cases dd
  · have H:bC.size=1:=(by simpa using D);rw[H]at aD;obtain⟨d,rfl⟩:=v7 aD;have aq:=ar 0 d rfl;have e:dU.add 0=dU:=(by simp[Addr.add]);rw[e]at aq;simp only[jv,if_false,List.headD_cons];simp[Go.load,Sem.run,aq]
  · simp only[if_true,Sem.run_bind,sizeOf,typeInfo,run_program,ak,Sem.run_pure,Result.andThen_ok];have:=run_loadCells_list (P:=P) w dU ds ar;rw[aD]at this;simp[this]
theorem Sp{dd:Bool}{n:Nat}{v bu:Value}(av:dy aX aj m w)(ad:dB aj v bu)(ao:gn m v n=true)(D:dd=true\/n=1):
    ∃(dU:Addr) (ds:List Value),bu= .pointer (some dU)/\ds.length=n/\(∀(j:Nat) bo,ds[j]?=some bo->w.cell? (dU.add j)=some bo)/\dB aj (kg m dd n v) (if dd then .agg ds.toArray else ds.headD undef):=by
  obtain⟨b,off,x,rfl,G,Fo⟩:=I5 ao;obtain⟨l,aD,_,rfl⟩:=ad.pv;obtain⟨ds,fL,g8,jt,nm⟩:=av.cells G aD Fo;refine⟨_,ds,rfl,g8,jt,?_⟩;simp only[kg];cases dd
  · have H:n=1:=(by simpa using D);subst H;obtain⟨d,rfl⟩:=v7 g8;simp only[jv,if_false,List.headD_cons];have eS:=fL.1;simp only[pS,wT]at eS;obtain⟨bo,aS⟩:=v7 eS;rw[aS]at fL⊢;exact fL.2 0 bo d rfl rfl
  · refine fL.agg λbo aS=> ?_;obtain⟨de,iV,a3,br,bX⟩:=av.lQ b x G;simp only[hk,G]at aS;obtain⟨i,ak,Pz⟩:=mq (Bb (Bc aS));exact(br i bo (by rw[dD ak,Pz])).1
theorem ax9{t:TypeId}{x:Operand}{dd:Bool}{n:Nat}(bx:o.op= .load t x)(sN:oc P t=some dd)(au:ki P t=some n)(G:cO x=true)(M:gx aj cQ z a)(av:dy aX aj m w)
    (ao:(af.kx dd n x).ok z m=true):oo P o (.kx dd n x) a aX aj z m w id:=by
  simp only[af.ok,aY,rq,eO]at ao;obtain⟨dU,ds,D,H,aq,aE⟩:=Sp av (M.Y G) ao.1 ao.2;refine⟨_,w,aj,.inl ?_,ga.refl aj,λ_ _=>rfl,aE,av,Below.refl _ _⟩;simp only[execOp,bx,D,Instr.loadAt,Instr.sureAddr,Sem.run_bind,Sem.run_pure,Result.andThen_ok,Tn sN au ao.2 H aq]
theorem aye{t e:TypeId}{x:Operand}{cp ak fk:Option Operand}{n I:Nat}(bx:o.op= .slice t x cp ak fk)(ax:P.underlying t=some (.array n e))(bD:ki P e=some I)
    (G:cO x=true) (D:cp=none) (H:ak=none) (aq:fk=none) (M:gx aj cQ z a) (av:dy aX aj m w) (ao:(af.oT I n x).ok z m=true):oo P o (.oT I n x) a aX aj z m w id:=by
  subst D H aq;simp only[af.ok,aY,eO]at ao;obtain⟨ao,aEN⟩:=ao;obtain⟨b,off,y,aK,ag,Fo⟩:=I5 ao;have az:=M.Y G;rw[aK]at az;obtain⟨l,aD,_,aR⟩:=az.pv;obtain⟨bC,ak,rfl⟩:=rk bD;obtain⟨de,iV,a3,br,bX⟩:=av.lQ b y ag;rw[aD]at iV;cases iV;refine⟨_,w,aj,azS bx ax ak aR,ga.refl aj,λ_ _=>rfl,?_,av,Below.refl _ _⟩;simp only[af.val,aK,Ej];by_cases au:n=0
  · rw[if_pos au];subst au;exact .slice aD (.inl ⟨rfl,rfl⟩) (dW _) (by omega)
  · rw[if_neg au];have ax:(⟨l.c,l.o+off,none⟩:Addr).add (0*bC.size)=⟨l.c,l.o+off,none⟩:=by
      unfold Addr.add;simp
    rw[ax];exact .slice aD (.inr ⟨rfl,by simp only[Nat.sub_zero];omega⟩) (dW _) (by omega)
theorem ayf{t:TypeId}{x v:Operand}{n:Nat}(bx:o.op= .store t x v)(au:ki P t=some n)(G:cO x=true)(ad:cO v=true)(M:gx aj cQ z a)(av:dy aX aj m w)
    (ao:(af.store n x v).ok z m=true):oo P o (.store n x v) a aX aj z m w id:=by
  simp only[af.ok,aY,eO]at ao;obtain⟨⟨⟨D,H⟩,ajM⟩,aq⟩:=ao;have pn:=Um (M.Y ad) ajM;obtain⟨b,off,y,aK,ag,Fo⟩:=I5 D;have az:=M.Y G;rw[aK]at az;obtain⟨l,aD,_,aR⟩:=az.pv;have iW:y.own=true:=by simpa[aK,o9,ag]using H
  have ar:=Un (M.Y ad);obtain⟨bC,ak,rfl⟩:=rk au;have iX:(a.eval v).cells.size=bC.size:=by have:=ar.1;simp at this;omega
  obtain⟨de,iV,a3,br,bX⟩:=av.lQ b y ag;rw[aD]at iV;cases iV;have ajO: ∀bo∈(a.eval v).cells.toList,bo.oneCell'=true:=by intro bo aS;obtain⟨i,hH,Pz⟩:=mq aS;have ke:i<(O (Y z v)).length:=(by rw[ar.1];exact hH);have:=(ar.2 i _ bo (dD ke) (by rw[dD hH,Pz])).S;rw[SO,this];exact pn _ (nv ke)
  refine⟨undef,w.setCells l.c (l.o+off) (a.eval v).cells.toList,aj,.inr ⟨?_,rfl⟩,ga.refl aj,λ_ _=>rfl,dB.undef aj,?_,Jb (bX iW).1 _ _ _⟩
  · have oB:=run_storeCells_cells (P:=P) l.c (l.o+off) (a.eval v).cells.toList 0 w (λj b1=>by
      have:=((bX iW).2 (off+j) (by simp at b1;omega)).1
      rwa [<-o0]at this) (λj b1=>by
      have:=((bX iW).2 (off+j) (by simp at b1;omega)).2
      rwa [<-o0]at this) ajO
    simp only[Nat.add_zero]at oB;simp[execOp,bx,aR,Instr.storeAt,Instr.sureAddr,storeVar,sizeOf,typeInfo,ak,iX,oB]
  · simp only[af.gu,aK,nq,ag];exact av.store ag iW aD ar pn (by omega)
end
theorem JI{I:List Value}(bD:0<I.length): ∀(n i:Nat),i<n*I.length->((List.replicate n I).flatten)[i]?=I[i%I.length]?
  |0,i,h=>by omega
  | n+1,i,h=>by
    rw[IK,rp,A9];split
    · rename_i ak;rw[Nat.mod_eq_of_lt ak]
    · rename_i ak;have H:i-I.length<n*I.length:=(by rw[k0]at h;omega);rw[JI bD n _ H,Nat.mod_eq_sub_mod (by omega:I.length<=i)]
theorem yX(I:List Value)(n:Nat):((List.replicate n I).flatten).length=n*I.length:=by simp[List.length_flatten]
theorem Mz{I:Array Value}(bD:0<I.size)(n:Nat):(madeCells I (n*I.size)).toList=(List.replicate n I.toList).flatten:=by
  apply Be;intro i;by_cases ak:i<n*I.size
  · rw[JI (by simpa using bD) n i (by simpa using ak)];have av:i%I.size<I.size:=Nat.mod_lt _ bD;simp[madeCells,ak,av]
  · rw[pP (by rw[Array.length_toList,size_madeCells];omega),pP (by rw[yX];simp;omega)]
theorem JH{I:List Value}(p:Value->Prop)(h: ∀v∈I,p v)(n:Nat): ∀v∈(List.replicate n I).flatten,p v:=by intro v ad;simp only[List.mem_flatten,List.mem_replicate]at ad;obtain⟨l,⟨_,rfl⟩,H⟩:=ad;exact h v H
section
variable {P:Program} {w:World} {o:Oper} {a:Act} {aj:eE} {cQ:Nat} {z:aM} {m:W} {aX id:Nat}
theorem ax5{t e:TypeId}{n:Nat}{ps:Array (Nat×Operand)}{I:List Value}{hv:List (Nat×Nat×Operand)}(bx:o.op= .buildSlice t n ps)(bt:P.underlying t=some (.slice e))(bD:oW P e=some I)
    (bc:yT I.length ps.toList=some hv) (cR:0<I.length) (aEm:n*I.length<=16777216) (M:gx aj cQ z a) (av:dy aX aj m w) (cK:aX<=w.heap.size) (eg:id<m.next) (az:aj id=none)
    (ao:(af.fR I.length n (List.replicate n I).flatten hv).ok z m=true):oo P o (.fR I.length n (List.replicate n I).flatten hv) a aX aj z m w id:=by
  obtain⟨bC,hj,ak,nC,mF,fC,eS⟩:=yv bD;obtain⟨aQ,a7⟩:=OJ _ _ bc;have uk:hj.cells.size=bC.size:=by rw[<-eS,<-mF];simp
  have iL:(madeCells hj.cells (n*hj.cells.size)).toList=(List.replicate n I).flatten:=by rw[Mz (by omega),mF]
  have rO: ∀v∈(List.replicate n I).flatten,dQ v=true:=JH (λv=>dQ v=true) (λv ad=>eQ.1 fC v ad) n;simp only[af.ok]at ao;obtain⟨ds,D,H,E4⟩:=JG M (λi=>some (i*bC.size,bC.size)) ps.toList hv (List.replicate n I).flatten (madeCells hj.cells (n*hj.cells.size)) ⟨aQ,λi p q vE bc=>by obtain⟨aK,aR,cB,gX⟩:=a7 i p q vE bc;exact⟨aK,aR,by rw[cB,gX,eS]⟩⟩ (by rw[iL];exact cV.cy aj (eQ.2 rO)) (λv ad=>vt (rO v ad)) ao;have xo:(lE (List.replicate n I).flatten z hv).length=ds.size:=by have:=H.1;simpa using this
  have k9:(lE (List.replicate n I).flatten z hv).length=n*I.length:=by
    have key: ∀(hv:List (Nat×Nat×Operand)) (cs:List Value),(lE cs z hv).length=cs.length:=by
      intro hv;induction hv with
      |nil=>intro cs;rfl
      |cons q hv cc=>intro cs;obtain⟨a3,br,bX⟩:=q;simp only[lE];rw[cc,Er]
    rw[key,yX]
  refine⟨.slice (some ⟨w.heap.size,0,none⟩) n n,w.alloc (.cells ds e),hi aj id ⟨w.heap.size,0,ds.size⟩,.inl ?_,rm az,uV,?_,?_,sx rfl rfl rfl rfl cK _⟩
  · have aq:(ps.map λp=>(p.1,a.eval p.2)).toList=ps.toList.map λp=>(p.1,a.eval p.2):=by simp
    have P3:(zeroValue e).run P w= .ok hj w:=(by simp[zeroValue,typeInfo,ak,nC]);have aiQ: ¬(2^24<n*bC.size):=(by rw[<-eS];omega);rw[<-aq]at D;simp only[execOp,bx,Instr.buildSlice,Sem.run_bind,run_underlying bt,sizeOf,typeInfo,run_program,ak,Sem.run_pure,Result.andThen_ok,gt_iff_lt,aiQ,if_false,Sem.run_ite];by_cases vD:n*bC.size=0
    · have qa:madeCells hj.cells (n*hj.cells.size)= #[]:=(by rw[uk,vD];simp[madeCells]);rw[qa]at D;simp only[vD,if_true];have ajG:Array.map (λx=>(#[]:Array Value)[x%(#[]:Array Value).size]!) (Array.range 0)= #[]:=(by simp);rw[ajG,D];simp only[newRow,Sem.run_bind];rfl
    · have qa:Array.map (λx=>hj.cells[x%hj.cells.size]!) (Array.range (n*bC.size))=madeCells hj.cells (n*hj.cells.size):=(by unfold madeCells;rw[uk]);simp only[vD,if_false,P3,Result.andThen_ok,qa,D];simp only[newRow,Sem.run_bind];rfl
  · exact .slice (off:=0) (l:=⟨w.heap.size,0,ds.size⟩) (by simp[hi]) (.inr ⟨rfl,by show 0+n*I.length<=ds.size;omega⟩) (dW _) (by have:n*1<=n*I.length:=Nat.mul_le_mul_left _ cR;unfold maxLen;omega)
  · simp only[af.gu];exact av.Ap rfl cK eg az (by omega) (dW _) (Ow H E4) (λi _=>by simp)
theorem ayb{t e:TypeId}{bC:TypeInfo}{I:List Value}{l c:Operand}(bx:o.op= .makeSlice t l c)(bt:P.underlying t=some (.slice e))(bD:oW P e=some I)(ak:P.info? e=some bC)(aD:cO l=true)(ar:cO c=true)
    (M:gx aj cQ z a) (av:dy aX aj m w) (cK:aX<=w.heap.size) (eg:id<m.next) (az:aj id=none)
    (ao:(af.jY I.length bC.bytes I l c).ok z m=true):oo P o (.jY I.length bC.bytes I l c) a aX aj z m w id:=by
  obtain⟨P9,hj,hH,nC,mF,fC,eS⟩:=yv bD;rw[ak]at hH;cases hH;have uk:hj.cells.size=bC.size:=by rw[<-eS,<-mF];simp
  simp only[af.ok,aY,eO]at ao;obtain⟨⟨⟨⟨⟨⟨D,H⟩,aq⟩,aE⟩,bq⟩,cP⟩,fB⟩:=ao;obtain⟨aK,auk,L,eZ⟩:=qf (M.Y aD) D;obtain⟨aR,aug,C,JT⟩:=qf (M.Y ar) H;simp only[eZ,JT,eG]at aq aE bq cP;have hs:=run_make (P:=P) w t e bC hj bt ak nC auk aug L C aq aE (by rw[Int.mul_comm];omega) cP;have rO: ∀v∈(List.replicate L.toNat I).flatten,dQ v=true:=JH (λv=>dQ v=true) (λv ad=>eQ.1 fC v ad) _;have e7:L.toNat*I.length<=C.toNat*I.length:=sn _ (by omega);refine⟨_,_,hi aj id ⟨w.heap.size,0,C.toNat*I.length⟩,.inl (by simp only[execOp,bx,aK,aR,eZ,JT,Sem.run_bind,hs,Result.andThen_ok];rfl),rm az,uV,?_,?_,sx rfl rfl rfl rfl cK _⟩
  · simp only[af.val,eZ,eG];exact .slice (off:=0) (l:=⟨w.heap.size,0,C.toNat*I.length⟩) (by simp[hi]) (.inr ⟨by simp,by simp⟩) (by omega) (by unfold maxLen;omega)
  · simp only[af.gu,eZ,eG];refine av.Ap rfl cK eg az (by rw[yX];exact e7) (by rw[size_madeCells,eS];exact dW _) (λi v ad=> ?_) (λi _=>by simp);have ke:i<L.toNat*I.length:=(by have:=(eB.1 ad).1;rwa [yX]at this);refine⟨vt (rO v (hF ad)),v,?_,.cy (rO v (hF ad))⟩;have hA:(madeCells hj.cells (C.toNat*bC.size)).toList=(List.replicate C.toNat I).flatten:=(by rw[<-uk,Mz (by omega),mF]);rw[<-DZ,hA,JI fB _ _ (by omega)];rw[JI fB _ _ ke]at ad;exact ad
theorem aev: ∀(df:List Int) (dC:ByteArray),df.foldl (λr n=>r.push (UInt8.ofNat n.toNat)) dC=dC++⟨(df.map λn=>UInt8.ofNat n.toNat).toArray⟩
  | [],dC=>by simp only[List.foldl_nil,wV];apply ByteArray.ext;simp
  | n::df,dC=>by simp only[wS,ln];rw[aev df];apply ByteArray.ext;simp[ByteArray.push]
theorem ax7{s d e:TypeId}{x:Operand}(bx:o.op= .convert s d x)(qQ:P.underlying s=some (.slice e))(ox:P.underlying d=some .string)(bQ:P.underlying e=some (.int .u8))(G:cO x=true)
    (M:gx aj cQ z a) (av:dy aX aj m w) (ao:(af.mw x).ok z m=true):oo P o (.mw x) a aX aj z m w id:=by
  simp only[af.ok,aY]at ao;obtain⟨D,H⟩:=ao;have az:=M.Y G;have conv: ∀v,a.eval x=v->(∃p l c,v= .slice p l c)-> ∀b:ByteArray,(Conv.bytesToString v).run P w= .ok (.string b) w->iw P o a w (.string b) w:=by intro v ad ⟨p,l,c,ai⟩ b hb;subst ai;refine .inl ?_;cases p<;>simp[execOp,bx,ad,convert,underlying,qQ,ox,bQ,hb]
  cases aS:Y z x<;>simp only[aS,fP]at D<;>try cases D
  rename_i p len c;rw[aS]at az;refine⟨.string (toBytes (fZ m 1 (Y z x))),w,aj,?_,ga.refl aj,λ_ _=>rfl,.cy rfl,av,Below.refl _ _⟩;cases p with
  | none=>have ad:=az.hC (by simpa[dQ]using D);refine conv _ ad ⟨_,_,_,rfl⟩ _ ?_;simp only[Conv.bytesToString,aS,fZ,toBytes];rfl
  | some dU=>
    simp only[aY,yG,beq_iff_eq]at D;obtain⟨⟨l9,sO⟩,D⟩:=D;split at D
    · rename_i y ag;simp only[Nat.mul_one,eO]at D;obtain⟨l,dF,cap,aD,_,ad,au,zh,pj⟩:=az.mc;refine conv _ ad ⟨_,_,_,rfl⟩ _ ?_;simp only[aS,fZ,Nat.mul_one]at H⊢;obtain⟨ds,fL,g8,jt,nm⟩:=av.cells ag aD D;have iu: ∃df:List Int,ds=df.map (Value.int .u8)/\hk m dU.block dU.off len=df.map (Value.int .u8):=by
        have aiJ: ∀(e2 cj:List Value),e2.all z4=true->cV aj e2 cj-> ∃df:List Int,cj=df.map (Value.int .u8)/\e2=df.map (Value.int .u8):=by
          intro e2;induction e2 with
          |nil=>intro cj _ h;have:=h.1;simp at this;exact⟨[],by simp[pO.1 this.symm],rfl⟩
          | cons bo e2 cc=>
            intro cj ax h;cases cj with
            |nil=>have:=h.1;simp at this
            | cons v cj=>simp only[mW,aY]at ax;obtain⟨df,aQ,a7⟩:=cc cj ax.2 ⟨by simpa using h.1,λi p q ai bc=>h.2 (i+1) p q (by simpa using ai) (by simpa using bc)⟩;have cR:=h.2 0 bo v rfl rfl;have XH:=ax.1;cases bo<;>simp[z4]at XH;rename_i k n;cases k<;>simp at XH;exact⟨n::df,by simp[aQ,cR.qe],by simp[a7]⟩
        exact aiJ _ _ H fL
      obtain⟨df,zm,Xt⟩:=iu;subst zm;rcases au with⟨rfl,rfl⟩|⟨rfl,au⟩
      · have vD:df=[]:=(by simp at g8;exact g8);subst vD;have:=run_bytesToString (P:=P) w dF 0 0 [] (by simp[loadCells,loadCellsFrom]);rw[this,Xt];rfl
      · have Xl:=run_loadCells_list (P:=P) w ⟨l.c,l.o+dU.off,none⟩ _ jt;rw[g8]at Xl;rw[run_bytesToString w _ len cap df (by rw[Xl]),aev,Xt];congr 2;apply ByteArray.ext;simp[toBytes,byteOf,Function.comp_def]
    · cases D
end
section
variable {P:Program} {w:World} {o:Oper} {a:Act} {aj:eE} {cQ:Nat} {z:aM} {m:W} {aX id:Nat}
theorem aw7(t nS e:TypeId)(i:TypeInfo)(bt:P.underlying t=some (.slice e))(ak:P.info? e=some i)(base q:Option Addr)(tu AJ c:Nat)(ar:tu<=AJ):
    (Builtin.append_ #[t,t] nS #[.slice base tu AJ,.slice q 0 c]).run P w= .ok (.slice base tu AJ) w:=by
  have a6:(Builtin.firstCells i.size 0 (.slice q 0 c)).run P w= .ok #[] w:=by cases q<;>simp[Builtin.firstCells,loadCells,loadCellsFrom]
  cases base<;>simp[Builtin.append_,run_underlying bt,sizeOf,typeInfo,ak,Builtin.lenOf,ar,a6,storeCells]
theorem aw6(t nS e:TypeId)(i:TypeInfo)(bt:P.underlying t=some (.slice e))(ak:P.info? e=some i)(c o tu AJ:Nat)(dU:Addr)(n V2:Nat)(kS:List Value)(aD:kS.length=n*i.size)
    (ajK: ∀(j:Nat) bo,kS[j]?=some bo->w.cell? (dU.add j)=some bo) (D: ∀bo∈kS,bo.oneCell'=true) (Fs:tu+n<=AJ)
    (xl: ∀j,j<kS.length->(w.cell? ⟨c,o+tu*i.size+j,none⟩).isSome=true) (fe: ∀j,j<kS.length->w.frozen? ⟨c,o+tu*i.size+j,none⟩=false):
    (Builtin.append_ #[t,t] nS #[.slice (some ⟨c,o,none⟩) tu AJ,.slice (some dU) n V2]).run P w= .ok (.slice (some ⟨c,o,none⟩) (tu+n) AJ) (w.setCells c (o+tu*i.size) kS):=by
  have a6:=run_firstCells_some (P:=P) w i.size n dU n V2 kS aD ajK;have oB:=run_storeCells_cells (P:=P) c (o+tu*i.size) kS 0 w (by simpa using xl) (by simpa using fe) D;simp only[Nat.add_zero]at oB;simp[Builtin.append_,run_underlying bt,sizeOf,typeInfo,ak,Builtin.lenOf,Fs,a6,Of,oB]
theorem IB{c:Call}{x y:Operand}{t s:TypeId}{bo v r:Value}{cN:World}(bx:o.op= .call c)(ar:c.callee= .builtin .append)(ax:c.args.toList=[x,y])(dh:c.argTypes.toList=[t,s])
    (G:a.eval x=bo) (ag:a.eval y=v) (h:(Builtin.append_ #[t,s] o.type #[bo,v]).run P w= .ok r cN):iw P o a w r cN:=by
  refine .inl ?_;have m3:c.args= #[x,y]:=by rw[<-pQ (xs:=c.args),ax]
  have vw:c.argTypes= #[t,s]:=by rw[<-pQ (xs:=c.argTypes),dh]
  simp[execOp,bx,resolve,ar,m3,vw,invoke,builtin,G,ag,h]
theorem AV{I:Nat}{v:Value}(h:fP m I v=true):v= .slice none 0 0\/ ∃b off len x,v= .slice (some ⟨b,off,none⟩) len I/\m.X b=some x/\off+len*I<=x.cells.length:=by
  unfold fP at h;split at h
  · simp only[aY,beq_iff_eq]at h;obtain⟨rfl,rfl⟩:=h;exact .inl rfl
  · rename_i dU l c;simp only[aY,yG,beq_iff_eq]at h;obtain⟨⟨l9,rfl⟩,h⟩:=h;split at h
    · rename_i x G;obtain⟨b,off,aB⟩:=dU;simp only at l9 G h;subst l9;exact .inr ⟨b,off,l,x,rfl,G,by simpa using h⟩
    · cases h
  · cases h
def U4(P:Program)(o:Oper)(I bytes:Nat)(x y:Operand)(a:Act)(aX:Nat)(aj:eE)(z:aM)(m:W)(w:World)(id:Nat):Prop:=
  ∃ bu cN cC,iw P o a w bu cN/\ga aj cC/\(∀b,b≠id->cC b=aj b)/\dB cC ((af.app I bytes x y).val id z m) bu/\dy aX cC ((af.app I bytes x y).gu id z m) cN/\Below aX w cN/\
    (pN I m (Y z x)=true-> ∀b bo l,m.X b=some bo->aj b=some l-> ∀i,i<bo.cells.length->cN.cell? ⟨l.c,l.o+i,none⟩=w.cell? ⟨l.c,l.o+i,none⟩)
theorem VB{n:Nat}{w cN:World}(h:Below n w cN){dU:Addr}(ax:dU.block<n):cN.cell? dU=w.cell? dU:=by simp only[World.cell?,h.block _ ax]
theorem aeZ{c:Call}{x y:Operand}{t e:TypeId}{bC:TypeInfo}{I:List Value}(bx:o.op= .call c)(ar:c.callee= .builtin .append)(ax:c.args.toList=[x,y])(dh:c.argTypes.toList=[t,t])
    (bt:P.underlying t=some (.slice e)) (ak:P.info? e=some bC) (bD:oW P e=some I) (G:cO x=true) (ag:cO y=true)
    (M:gx aj cQ z a) (av:dy aX aj m w) (cK:aX<=w.heap.size) (eg:id<m.next) (az:aj id=none)
    (ao:(af.app bC.size bC.bytes x y).ok z m=true):U4 P o bC.size bC.bytes x y a aX aj z m w id:=by
  obtain⟨P9,hj,hH,nC,mF,fC,eS⟩:=yv bD;rw[ak]at hH;cases hH;have uk:hj.cells.size=bC.size:=by rw[<-eS,<-mF];simp
  simp only[af.ok,aY,eO]at ao;obtain⟨⟨⟨⟨⟨D,H⟩,aq⟩,aE⟩,bq⟩,cP⟩:=ao;have mN:=M.Y G;have wz:=M.Y ag
  -- pM aLH
  have xz: ∃q yQ,a.eval y= .slice q (gv (Y z y)) yQ:=by
    rcases AV aq with aK|⟨b,off,len,yC,aK,_,_⟩
    · rw[aK]at wz;exact⟨none,0,by rw[aK];exact wz.hC rfl⟩
    · rw[aK]at wz;obtain⟨_,_,_,_,_,g,_⟩:=wz.mc;exact⟨_,_,by rw[aK];exact g⟩
  obtain⟨q,yQ,xz⟩:=xz;have m7: ∃p p4,a.eval x= .slice p (gv (Y z x)) p4/\gv (Y z x)<=p4:=by
    rcases AV D with aK|⟨b,off,len,yC,aK,_,_⟩
    · rw[aK]at mN;exact⟨none,0,by rw[aK];exact mN.hC rfl,by rw[aK];exact dW _⟩
    · rw[aK]at mN;obtain⟨_,_,_,_,_,g,_,a7,_⟩:=mN.mc;exact⟨_,_,by rw[aK];exact g,by rw[aK];exact a7⟩
  by_cases au:gv (Y z y)=0
  · obtain⟨p,p4,m7,e7⟩:=m7;rw[au]at xz;refine⟨a.eval x,w,aj,?_,ga.refl aj,λ_ _=>rfl,by simpa only[af.val,au,if_true]using mN,by simpa only[af.gu,au,if_true]using av,Below.refl _ _,λ_ _ _ _ _ _ _ _=>rfl⟩;rw[m7];exact IB bx ar ax dh m7 xz (aw7 t _ e bC bt ak _ _ _ _ _ e7)
  · -- aLG wK oq
    rcases AV aq with aK|⟨iI,r5,jr,yC,OP,FA,akn⟩
    · rw[aK]at au;exact absurd rfl au
    rw[OP]at wz;obtain⟨oI,ahe,EB,PD,_,xz,PG,aEL,_⟩:=wz.mc
    replace PD:aj iI=some oI:=PD
    replace PG:(EB=0/\jr=0)\/(ahe=⟨oI.c,oI.o+r5,none⟩/\r5+EB*bC.size<=oI.n):=PG
    have PB:gv (Y z y)=jr:=(by rw[OP];rfl);have akm:fZ m bC.size (Y z y)=hk m iI r5 (jr*bC.size):=(by rw[OP];rfl);rw[PB]at au bq cP;obtain⟨kS,gk,hp,tg,avo⟩:=av.cells FA PD akn;rcases PG with⟨_,cR⟩|⟨rfl,_⟩
    · omega
    have xx:(af.app bC.size bC.bytes x y).val id z m= .slice (some ⟨id,0,none⟩) (gv (Y z x)+jr) bC.size:=(by simp only[af.val,PB,au,if_false]);have pl:(af.app bC.size bC.bytes x y).gu id z m=(kf m (Y z x)).a0 id (some ⟨fZ m bC.size (Y z x)++hk m iI r5 (jr*bC.size),true⟩):=by simp only[af.gu,PB,au,if_false,akm]
    -- pM new block,aM7 pM lC ni aM4
    have WS: ∀(lC:Nat) (tk:List Value) (r3:W),dy aX aj r3 w->id<r3.next->cV aj (fZ m bC.size (Y z x)) tk->(∀v∈fZ m bC.size (Y z x),S v=true)->tk.length=gv (Y z x)*bC.size->
        lC<gv (Y z x)+jr->
        dB (hi aj id ⟨w.heap.size,0,grownCap w (gv (Y z x)+jr) lC e*bC.size⟩) (.slice (some ⟨id,0,none⟩) (gv (Y z x)+jr) bC.size) (.slice (some ⟨w.heap.size,0,none⟩) (gv (Y z x)+jr) (grownCap w (gv (Y z x)+jr) lC e))/\
        dy aX (hi aj id ⟨w.heap.size,0,grownCap w (gv (Y z x)+jr) lC e*bC.size⟩) (r3.a0 id (some ⟨fZ m bC.size (Y z x)++hk m iI r5 (jr*bC.size),true⟩))
          (w.drew.alloc (.cells (tk.toArray++kS.toArray++Builtin.zeroCells hj.cells (grownCap w (gv (Y z x)+jr) lC e-(gv (Y z x)+jr))) e)):=by
      intro lC tk r3 xr ajr aC J9 zo BS;have ud:=grownCap_ge w (gv (Y z x)+jr) lC e;have pj:grownCap w (gv (Y z x)+jr) lC e<=maxLen:=grownCap_le_maxLen w _ lC e (by unfold maxLen;omega);refine⟨.slice (off:=0) (l:=⟨w.heap.size,0,grownCap w (gv (Y z x)+jr) lC e*bC.size⟩) (by simp[hi]) (.inr ⟨by simp,by simp⟩) ud pj,?_⟩;have iX:(tk.toArray++kS.toArray++Builtin.zeroCells hj.cells (grownCap w (gv (Y z x)+jr) lC e-(gv (Y z x)+jr))).size=grownCap w (gv (Y z x)+jr) lC e*bC.size:=by simp only[Array.size_append,List.size_toArray,size_zeroCells,uk,zo,hp,<-k0];congr 1;omega
      have Fj:cV aj (fZ m bC.size (Y z x)++hk m iI r5 (jr*bC.size)) (tk++kS):=aC.oq gk;refine xr.Ap (c3:=w.drew) rfl cK ajr az ?_ (by rw[iX];exact dW _) (λi v ad=> ?_) (λi _=>by simp)
      · rw[Fj.1,jI,zo,hp,<-k0];exact sn _ ud
      · obtain⟨bo,aS,Fu⟩:=Fj.X ad;refine⟨?_,bo,?_,Fu⟩
        · have:v∈fZ m bC.size (Y z x)++hk m iI r5 (jr*bC.size):=hF ad;rcases kE.1 this with h|h
          · exact J9 v h
          · obtain⟨de,iV,a3,br,bX⟩:=av.lQ iI yC FA;simp only[hk,FA]at h;obtain⟨j,b1,Fh⟩:=mq (Bb (Bc h));exact(br j v (by rw[dD b1,Fh])).1
        · rw[IH (by
            have:=(eB.1 aS).1;simpa using this)]
          simpa using aS
    rcases AV D with g2|⟨b,off,len,tC,g2,qb,Fx⟩
    · -- nil
      rw[g2]at mN;have m7:=mN.hC rfl;have lv:gv (Y z x)=0:=(by rw[g2];rfl);have uc:fZ m bC.size (Y z x)=[]:=(by rw[g2];rfl);obtain⟨aQ,a7⟩:=WS 0 [] m av eg (by rw[uc];exact cV.nil aj) (by rw[uc];simp) (by rw[lv];simp) (by omega);simp only[lv,Nat.zero_add]at aQ a7 bq cP;have hs:=run_append_nil (P:=P) w t o.type e bC hj bt ak nC ⟨oI.c,oI.o+r5,none⟩ jr EB kS hp tg (by omega) (by omega) (by omega);refine⟨_,_,hi aj id ⟨w.heap.size,0,grownCap w jr 0 e*bC.size⟩,IB bx ar ax dh m7 xz hs,rm az,uV,?_,?_,sx (w:=w) (c3:=w.drew) rfl rfl rfl rfl cK _,λ_ b bo l _ aD i _=>VB (sx (w:=w) (c3:=w.drew) rfl rfl rfl rfl (dW _) _) (av.lN b l aD)⟩
      · rw[xx,lv,Nat.zero_add];exact aQ
      · rw[pl,g2];simpa only[kf,fZ,tM,Array.empty_append,g2]using a7
    · -- a slice dR pM aDa own
      rw[g2]at mN;obtain⟨l,dF,cap,aD,_,m7,jW,zh,pj⟩:=mN.mc
      replace aD:aj b=some l:=aD
      replace jW:(cap=0/\len=0)\/(dF=⟨l.c,l.o+off,none⟩/\off+cap*bC.size<=l.n):=jW
      have lv:gv (Y z x)=len:=(by rw[g2];rfl);have uc:fZ m bC.size (Y z x)=hk m b off (len*bC.size):=(by rw[g2];rfl);have iW:tC.own=true:=(by simpa[g2,jS,qb]using H);obtain⟨de,iV,a3,br,bX⟩:=av.lQ b tC qb;rw[aD]at iV;cases iV;obtain⟨tk,ik,j0,SM,avN⟩:=av.cells qb aD Fx;have pn: ∀v∈hk m b off (len*bC.size),S v=true:=(by intro v ad;simp only[hk,qb]at ad;obtain⟨j,b1,Fh⟩:=mq (Bb (Bc ad));exact(br j v (by rw[dD b1,Fh])).1);have aa:kf m (Y z x)=m.a0 b none:=(by rw[g2];rfl);rw[lv]at bq cP;by_cases Fs:len+jr<=cap
      · -- ayI z1 gC
        rcases jW with⟨cR,_⟩|⟨rfl,jW⟩
        · omega
        have ajH:(len+jr)*bC.size<=cap*bC.size:=sn _ Fs;rw[k0]at ajH
        have hs:=aw6 (P:=P) (w:=w) t o.type e bC bt ak l.c (l.o+off) len cap ⟨oI.c,oI.o+r5,none⟩ jr EB kS hp tg avo Fs
          (λj b1=>by
            have:=((bX iW).2 (off+len*bC.size+j) (by rw[hp]at b1;omega)).1
            rwa [show l.o+(off+len*bC.size+j)=l.o+off+len*bC.size+j by omega]at this)
          (λj b1=>by
            have:=((bX iW).2 (off+len*bC.size+j) (by rw[hp]at b1;omega)).2
            rwa [show l.o+(off+len*bC.size+j)=l.o+off+len*bC.size+j by omega]at this)
        refine⟨_,_,hi aj id ⟨l.c,l.o+off,l.n-off⟩,IB bx ar ax dh m7 xz hs,rm az,uV,?_,?_,Jb (bX iW).1 _ _ _,λbt ca bo de aS iV i ak=>World.cell?_setCells_out _ _ _ _ _ (λh _=> ?_)⟩
        · rw[xx,lv];exact .slice (off:=0) (l:=⟨l.c,l.o+off,l.n-off⟩) (by simp[hi]) (.inr ⟨by simp,by show 0+cap*bC.size<=l.n-off;omega⟩) Fs pj
        · rw[pl,aa,uc];have Fj:cV aj (hk m b off (len*bC.size)++hk m iI r5 (jr*bC.size)) (tk++kS):=ik.oq gk;have rP: ∀j (b1:j<kS.length),(w.setCells l.c (l.o+off+len*bC.size) kS).cell? ⟨l.c,l.o+off+len*bC.size+j,none⟩=some kS[j]:= λj b1=>
            World.cell?_setCells_in l.c kS (l.o+off+len*bC.size) w (λi hH=>by
              have:=((bX iW).2 (off+len*bC.size+i) (by rw[hp]at hH;omega)).1
              rwa [show l.o+(off+len*bC.size+i)=l.o+off+len*bC.size+i by omega]at this) j b1
          have Xv: ∀i,i<len*bC.size\/len*bC.size+kS.length<=i->(w.setCells l.c (l.o+off+len*bC.size) kS).cell? ⟨l.c,l.o+off+i,none⟩=w.cell? ⟨l.c,l.o+off+i,none⟩:= λi hH=>
            World.cell?_setCells_out _ _ _ _ _ (λ_ _=>by show l.o+off+i<_\/_<=l.o+off+i;omega)
          refine(av.kf b).Vf (by rw[W.aeA];exact eg) az (λca hM de jk iV=> ?_) (by rw[Nr];exact dW _) (by rw[Nr];exact av.lN b l aD) (bX iW).1 (λdU _ cW=>⟨World.cell?_setCells_out _ _ _ _ _ (λh _=>absurd h cW),World.frozen?_setCells _ _ _ _ _⟩) (λk _ aa=>TY _ _ aa _ _ _) ?_ (λi v ad=> ?_) (λi hH=> ?_)
          · rw[W.m2]at jk;split at jk
            · split at jk<;>cases jk
            · rename_i cW;exact Ne.symm (av.qL b tC ca hM l de qb iW jk (Ne.symm cW) aD iV)
          · rw[Fj.1,jI,j0,hp];omega
          · obtain⟨bo,aS,Fu⟩:=Fj.X ad;have ajF:v∈hk m b off (len*bC.size)++hk m iI r5 (jr*bC.size):=hF ad;refine⟨?_,bo,?_,Fu⟩
            · rcases kE.1 ajF with h|h
              · exact pn v h
              · obtain⟨de,iV,fX,g1,hL⟩:=av.lQ iI yC FA;simp only[hk,FA]at h;obtain⟨j,b1,Fh⟩:=mq (Bb (Bc h));exact(g1 j v (by rw[dD b1,Fh])).1
            · rw[A9]at aS;split at aS
              · rename_i ek;rw[j0]at ek;rw[Xv i (.inl ek)];have:=SM i bo aS
                rwa [Of]at this
              · rename_i ek;rw[j0]at ek aS;have b1:i-len*bC.size<kS.length:=(eB.1 aS).1;have:=rP _ b1;rw[show l.o+off+len*bC.size+(i-len*bC.size)=l.o+off+i by omega]at this;rw[this];rw[dD b1]at aS;exact aS
          · have bc:=(bX iW).2 (off+i) (by omega);rw[<-o0]at bc;refine⟨?_,by rw[World.frozen?_setCells];exact bc.2⟩;by_cases ke:i<len*bC.size\/len*bC.size+kS.length<=i
            · rw[Xv i ke];exact bc.1
            · have b1:i-len*bC.size<kS.length:=(by omega);have:=rP _ b1;rw[show l.o+off+len*bC.size+(i-len*bC.size)=l.o+off+i by omega]at this;rw[this];rfl
        · left;by_cases e:ca=b
          · subst e;rw[qb]at aS;cases aS;rw[aD]at iV;cases iV;simp only[g2,pN,qb,eO]at bt;show l.o+i<l.o+off+len*bC.size;omega
          · exact absurd h (Ne.symm (av.qL b tC ca bo l de qb iW aS (Ne.symm e) aD iV))
      · -- adi aEk
        obtain⟨aQ,a7⟩:=WS cap tk (m.a0 b none) (av.kf b) (by rw[W.aeA];exact eg) (by rw[uc];exact ik) (by rw[uc];exact pn) (by rw[lv];exact j0) (by omega);rw[lv]at aQ a7;have holds: ∀(j:Nat) v,tk[j]?=some v->w.cell? (dF.add j)=some v:=by
          intro j v ad;rcases jW with⟨_,cR⟩|⟨rfl,_⟩
          · subst cR;simp at j0;rw[j0]at ad;simp at ad
          · exact SM j v ad
        have hs:=run_append_grow (P:=P) w t o.type e bC hj bt ak nC dF len cap tk j0 holds ⟨oI.c,oI.o+r5,none⟩ jr EB kS hp tg (by omega) (by omega) (growslice_fits (by omega) bq);refine⟨_,_,hi aj id ⟨w.heap.size,0,grownCap w (len+jr) cap e*bC.size⟩,IB bx ar ax dh m7 xz hs,rm az,uV,?_,?_,sx (w:=w) (c3:=w.drew) rfl rfl rfl rfl cK _,λ_ b bo l _ aD i _=>VB (sx (w:=w) (c3:=w.drew) rfl rfl rfl rfl (dW _) _) (av.lN b l aD)⟩
        · rw[xx,lv];exact aQ
        · rw[pl,aa];exact a7
theorem ax2{c:Call}{x y:Operand}{t e:TypeId}{bC:TypeInfo}{I:List Value}(bx:o.op= .call c)(ar:c.callee= .builtin .append)(ax:c.args.toList=[x,y])(dh:c.argTypes.toList=[t,t])
    (bt:P.underlying t=some (.slice e)) (ak:P.info? e=some bC) (bD:oW P e=some I) (G:cO x=true) (ag:cO y=true)
    (M:gx aj cQ z a) (av:dy aX aj m w) (cK:aX<=w.heap.size) (eg:id<m.next) (az:aj id=none)
    (ao:(af.app bC.size bC.bytes x y).ok z m=true):oo P o (.app bC.size bC.bytes x y) a aX aj z m w id:=by
  obtain⟨bu,cN,cC,aQ,a7,cD,dI,gi,fj,_⟩:=aeZ bx ar ax dh bt ak bD G ag M av cK eg az ao;exact⟨bu,cN,cC,aQ,a7,cD,dI,gi,fj⟩
theorem ax3{c:Call}{x y:Operand}{t bo e:TypeId}{bC:TypeInfo}{I:List Value}{Sk:IntKind}(bx:o.op= .call c)(ar:c.callee= .builtin .append)(ax:c.args.toList=[x,y])(dh:c.argTypes.toList=[t,bo])
    (bt:P.underlying t=some (.slice e)) (aS:P.underlying bo=some (.int Sk)) (ak:P.info? e=some bC) (bD:oW P e=some I) (G:cO x=true) (ag:cO y=true)
    (M:gx aj cQ z a) (av:dy aX aj m w) (cK:aX<=w.heap.size) (eg:id<m.next) (az:aj id=none)
    (ao:(af.lZ I.length bC.bytes I x y).ok z m=true):oo P o (.lZ I.length bC.bytes I x y) a aX aj z m w id:=by
  obtain⟨P9,hj,hH,nC,mF,fC,eS⟩:=yv bD;rw[ak]at hH;cases hH;have uk:hj.cells.size=bC.size:=by rw[<-eS,<-mF];simp
  simp only[af.ok,aY,eO]at ao;obtain⟨⟨⟨⟨⟨D,H⟩,aq⟩,aE⟩,bq⟩,cP⟩:=ao;have mN:=M.Y G;rw[Mc D]at mN;have m7:=mN.hC rfl;obtain⟨aR,k,dn,mB⟩:=qf (M.Y ag) H;simp only[mB,eG]at aq aE bq;obtain⟨n,rfl⟩: ∃n:Nat,dn=n:=⟨dn.toNat,by omega⟩;have aiR:n*bC.bytes<=281474976710656:=by have:((n*bC.bytes:Nat):Int)<=140737488355328:=(by rw[Int.natCast_mul];exact aE);omega
  have hs:=Lib.run_append_nil_zeros (P:=P) w t bo o.type e bC hj k Sk bt aS ak nC n (by omega) (by omega) (by omega) aiR;have ud:=grownCap_ge w n 0 e;have pj:grownCap w n 0 e<=maxLen:=grownCap_le_maxLen w _ 0 e (by unfold maxLen;omega);generalize grownCap w n 0 e=IN at hs ud pj;have iX:(Builtin.zeroCells hj.cells n++Builtin.zeroCells hj.cells (IN-n)).size=IN*bC.size:=by simp only[Array.size_append,size_zeroCells,uk,<-k0];congr 1;omega
  have rO: ∀v∈(List.replicate n I).flatten,dQ v=true:=JH (λv=>dQ v=true) (λv ad=>eQ.1 fC v ad) _;refine⟨_,_,hi aj id ⟨w.heap.size,0,IN*bC.size⟩,IB bx ar ax dh m7 (aR.trans mB) hs,rm az,uV,?_,?_,sx (w:=w) (c3:=w.drew) rfl rfl rfl rfl cK _⟩
  · simp only[af.val,mB,eG,pR];exact .slice (off:=0) (l:=⟨w.heap.size,0,IN*bC.size⟩) (by simp[hi]) (.inr ⟨by simp,by rw[eS];simp⟩) ud pj
  · simp only[af.gu,mB,eG,pR];refine av.Ap (c3:=w.drew) rfl cK eg az (by rw[yX,eS];exact sn _ ud) (by rw[iX];exact dW _) (λi v ad=> ?_) (λi _=>by simp);have ke:i<n*I.length:=(by have:=(eB.1 ad).1;rwa [yX]at this);refine⟨vt (rO v (hF ad)),v,?_,.cy (rO v (hF ad))⟩;have hA:(Builtin.zeroCells hj.cells n).toList=(List.replicate n I).flatten:=(by rw[<-mF];exact Mz (by omega) n);rw[IH (by rw[size_zeroCells,uk,<-eS];exact ke),<-DZ,hA];exact ad
theorem UJ{c:Call}{x:Operand}{t:TypeId}{bo r:Value}{cN:World}(bx:o.op= .call c)(ar:c.callee= .builtin .clear)(ax:c.args.toList=[x])(dh:c.argTypes.toList=[t])
    (G:a.eval x=bo) (h:(Builtin.clear_ #[t] o.type #[bo]).run P w= .ok r cN):iw P o a w r cN:=by
  refine .inl ?_;have m3:c.args= #[x]:=by rw[<-pQ (xs:=c.args),ax]
  have vw:c.argTypes= #[t]:=by rw[<-pQ (xs:=c.argTypes),dh]
  simp[execOp,bx,resolve,ar,m3,vw,invoke,builtin,G,h]
theorem aeB{b:Nat}{y:fq}(h:m.X b=some y):m.a0 b (some y)=m:=by
  have H:m.ix b=some y:=by
    unfold W.X at h;split at h
    · exact h
    · cases h
  unfold W.a0;cases m with
  | mk n aCK mp=>
    simp only[W.mk.injEq,true_and,and_true];funext i;split
    · rename_i e;rw[e];exact H.symm
    · rfl
theorem ax6{c:Call}{x:Operand}{t e:TypeId}{I:List Value}(bx:o.op= .call c)(ar:c.callee= .builtin .clear)(ax:c.args.toList=[x])(dh:c.argTypes.toList=[t])
    (bt:P.underlying t=some (.slice e)) (bD:oW P e=some I) (G:cO x=true) (M:gx aj cQ z a) (av:dy aX aj m w)
    (ao:(af.hl I x).ok z m=true):oo P o (.hl I x) a aX aj z m w id:=by
  obtain⟨bC,hj,ak,nC,mF,fC,eS⟩:=yv bD;have uk:hj.cells.size=bC.size:=by rw[<-eS,<-mF];simp
  simp only[af.ok,aY,eO]at ao;obtain⟨⟨D,H⟩,aq⟩:=ao;have mN:=M.Y G;rcases AV D with g2|⟨b,off,len,tC,g2,qb,Fx⟩
  · rw[g2]at mN;have m7:=mN.hC rfl;refine⟨undef,w,aj,UJ bx ar ax dh m7 (by simp[Builtin.clear_,run_underlying bt,undef]),ga.refl aj,λ_ _=>rfl,dB.undef aj,?_,Below.refl _ _⟩;simp only[af.gu,g2,mv];exact av
  · rw[g2]at mN;obtain⟨l,dF,cap,aD,_,m7,au,e7,_⟩:=mN.mc
    replace aD:aj b=some l:=aD
    replace au:(cap=0/\len=0)\/(dF=⟨l.c,l.o+off,none⟩/\off+cap*I.length<=l.n):=au
    have iW:tC.own=true:=(by simpa[g2,jS,qb]using H);obtain⟨de,iV,a3,br,bX⟩:=av.lQ b tC qb;rw[aD]at iV;cases iV;have pl:(af.hl I x).gu id z m=m.a0 b (some ⟨gy tC.cells off (List.replicate len I).flatten,tC.own⟩):=(by simp only[af.gu,g2,mv,qb]);by_cases cR:len=0
    · subst cR;refine⟨undef,w,aj,UJ bx ar ax dh m7 (by simp[Builtin.clear_,run_underlying bt,undef]),ga.refl aj,λ_ _=>rfl,dB.undef aj,?_,Below.refl _ _⟩;rw[pl];have:m.a0 b (some ⟨gy tC.cells off (List.replicate 0 I).flatten,tC.own⟩)=m:=aeB qb;rw[this];exact av
    · rcases au with⟨_,aiO⟩|⟨rfl,aEE⟩
      · exact absurd aiO cR
      have iL:(Builtin.zeroCells hj.cells len).toList=(List.replicate len I).flatten:=(by rw[<-mF];exact Mz (by omega) len);have rO: ∀v∈(List.replicate len I).flatten,dQ v=true:=JH (λv=>dQ v=true) (λv ad=>eQ.1 fC v ad) _;have BQ:(List.replicate len I).flatten.length=len*I.length:=yX I len;have oB:=run_storeCells_cells (P:=P) l.c (l.o+off) (List.replicate len I).flatten 0 w (λj b1=>by
        have:=((bX iW).2 (off+j) (by simp only[BQ]at b1;omega)).1
        rwa [<-o0]at this) (λj b1=>by
        have:=((bX iW).2 (off+j) (by simp only[BQ]at b1;omega)).2
        rwa [<-o0]at this) (λbo aS=>by rw[SO];exact vt (rO bo aS))
      simp only[Nat.add_zero]at oB;refine⟨undef,w.setCells l.c (l.o+off) (List.replicate len I).flatten,aj,UJ bx ar ax dh m7 ?_,ga.refl aj,λ_ _=>rfl,dB.undef aj,?_,Jb (bX iW).1 _ _ _⟩
      · have P3: ∀w:World,(zeroValue e).run P w= .ok hj w:= λw=>by simp[zeroValue,typeInfo,ak,nC]
        obtain⟨k,rfl⟩: ∃k,len=k+1:=⟨len-1,by omega⟩;simp[Builtin.clear_,run_underlying bt,P3,iL,oB,undef]
      · rw[pl];exact av.store qb iW aD (cV.cy aj (eQ.2 rO)) (λv ad=>vt (rO v ad)) (by rw[BQ];exact Fx)
end
end Go.DI
