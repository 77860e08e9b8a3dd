/-
  A part of the proof of the statement, in texts that tools of ours (wip/shrink.py, irpack.py, relax.py, minify.py, join.py, lay.py) have shortened.
-/
import Derived.ChangeKeysEq
import Derived.Lib.AppendZeros
import Derived.Test.YtmmkkggfmigppaaGreatZaa
set_option linter.all false
set_option maxRecDepth 8000
set_option maxHeartbeats 16000000
namespace Go.DI
open Go Go.RowKit
section
variable {P:Program} {w:World} {o:Oper} {a:Act}
theorem aE7{t:TypeId}{ps:Array (Nat×Operand)}{cells:Array Value}{bG:TypeInfo}{J:Value}{fG:Array Field}(bB:o.op= .build t ps)(ai:P.info? t=some bG)(bK:bG.zero=some J)
    (bA:P.underlying t=some (.struct fG)) (hX:fG.toList.all (λf=>(kS P f.type).isSome)=true)
    (aT: ∀vA:Nat->Option (Nat×Nat),(∀i,vA i=(fG[i]?).bind λ(f:Field)=>(P.info? f.type).map λbG=>(f.offset,bG.size))->Instr.fill vA J.cells (ps.toList.map λp=>(p.1,a.eval p.2))=some cells):
    jd P o a w (.agg cells) w:=by
  refine .inl ?_;obtain⟨vz,E,I⟩:=aAy (P:=P) (w:=w) fG.toList hX;have av:=aT (λi=>vz.toArray[i]?) (λi=>by simpa using I i);have br:(fG.mapM (m:=Sem) λ(f:Field)=>do pure (f.offset,<-sizeOf f.type)).run P w= .ok vz.toArray w:=by rw[Array.mapM_eq_mapM_toList];simp only[Sem.run_map,E];rfl
  simp only[execOp,bB,Instr.build,Sem.run_bind,run_underlying bA,zeroValue,typeInfo,run_program,ai,bK,Sem.run_pure,Result.andThen_ok,br];have cW:Instr.fill (λx=>vz[x]?) J.cells (List.map (λx=>(x.fst,a.eval x.snd)) ps.toList)=some cells:=by simpa using av
  simp[cW]
theorem aFf{t:TypeId}{x:Operand}{i:Nat}{fG:Array Field}{f:Field}{bG:TypeInfo}{b:Bool}{cs:Array Value}(bB:o.op= .field t x i)(bA:P.underlying t=some (.struct fG))(aT:fG[i]?=some f)
    (ai:P.info? f.type=some bG) (hb:oU P f.type=some b) (G:a.eval x= .agg cs) (az:f.offset+bG.size<=cs.size) (E:b=true\/bG.size=1):
    jd P o a w (if b then .agg (cs.toList.drop f.offset|>.take bG.size).toArray else cs.toList.getD f.offset undef) w:=by
  refine .inl ?_;have I:=V0 (w:=w) hb;simp only[execOp,bB,G,Instr.field,Sem.run_bind,run_underlying bA,Result.andThen_ok,aT,asAgg,Sem.run_pure,part,I];cases b
  · have av:bG.size=1:=(by simpa using E);have aH:f.offset<cs.size:=(by omega);simp[aH]
  · simp only[if_true,Sem.run_bind,sizeOf,typeInfo,run_program,ai,Sem.run_pure,Result.andThen_ok];congr 3;apply B6.1;simp[Array.toList_extract]
theorem aE8{t e:TypeId}{n:Nat}{ps:Array (Nat×Operand)}{cells:Array Value}{bG CT:TypeInfo}{J:Value}(bB:o.op= .build t ps)(ai:P.info? t=some bG)(bK:bG.zero=some J)
    (bA:P.underlying t=some (.array n e)) (bn:P.info? e=some CT)
    (aT:Instr.fill (λi=>some (i*CT.size,CT.size)) J.cells (ps.toList.map λp=>(p.1,a.eval p.2))=some cells):jd P o a w (.agg cells) w:=by
  refine .inl ?_;simp[execOp,bB,Instr.build,run_underlying bA,zeroValue,sizeOf,typeInfo,ai,bK,bn,aT]
theorem ahz(fr:Bool): ∀(xs:List Value) (dH:Value),e4 dH=true->(∀x∈xs,e4 x=true)->
    (xs.foldlM (m:=Sem) (if fr then Builtin.max2 else Builtin.min2) dH).run P w= .ok (xs.foldl (λdH y=>if fr then ob dH y else oc dH y) dH) w
  |[],_,_,_=>by simp
  | x::xs,dH,h,G=>by have E:((if fr then Builtin.max2 else Builtin.min2) dH x).run P w= .ok (if fr then ob dH x else oc dH x) w:=(by have Rs:=G x (by simp);cases dH<;>simp[e4]at h;cases x<;>simp[e4]at Rs;cases fr<;>simp[Builtin.max2,Builtin.min2,ob,oc]);have I:e4 (if fr then ob dH x else oc dH x)=true:=(by have Rs:=G x (by simp);cases dH<;>simp[e4]at h;cases x<;>simp[e4]at Rs;cases fr<;>simp[ob,oc,e4]);simp only[List.foldlM_cons,Sem.run_bind,E,Result.andThen_ok,xL];exact ahz fr xs _ I (λy af=>G y (by simp[af]))
theorem aiG{c:Call}{fr:Bool}{x:Operand}{xs:List Operand}(bB:o.op= .call c)(ar:c.callee= .builtin (if fr then .max else .min))(aA:c.args.toList=x::xs)
    (E:e4 (a.eval x)=true) (I: ∀y∈xs,e4 (a.eval y)=true):jd P o a w (xs.foldl (λdH y=>if fr then ob dH (a.eval y)else oc dH (a.eval y)) (a.eval x)) w:=by
  refine .inl ?_;have av:(c.args.map a.eval).toList=a.eval x::xs.map a.eval:=by simp[aA]
  have aH:=ahz (P:=P) (w:=w) fr (xs.map a.eval) (a.eval x) E (by simpa using I);rw[List.foldl_map]at aH;cases fr
  · simp only[execOp,bB,resolve,ar,invoke,builtin,Sem.run_bind,Sem.run_pure,Result.andThen_ok,kB,if_false,Builtin.min_,av];simp only[kB,if_false]at aH;simp[aH]
  · simp only[execOp,bB,resolve,ar,invoke,builtin,Sem.run_bind,Sem.run_pure,Result.andThen_ok,if_true,Builtin.max_,av];simp only[if_true]at aH;simp[aH]
theorem J8: ∀(en hd:List pK) (xs ys:List Value),iq (en++hd) xs ys=true->iq en (xs.take en.length) (ys.take en.length)=true/\iq hd (xs.drop en.length) (ys.drop en.length)=true/\
    md xs ys=(md (xs.take en.length) (ys.take en.length)&&md (xs.drop en.length) (ys.drop en.length))
  |[],hd,xs,ys,h=>by simpa[iq,md]using h
  |k::en,hd,[],ys,h=>by simp[iq]at h
  |k::en,hd,x::xs,[],h=>by simp[iq]at h
  | k::en,hd,x::xs,y::ys,h=>by simp only[xK,iq,a1]at h;obtain⟨E,I,av⟩:=J8 en hd xs ys h.2;exact⟨by simp[iq,h.1,E],by simpa using I,by simp[md,av,zI]⟩
theorem J9: ∀(gQ:List pK) (xs ys:List Value),iq gQ xs ys=true->xs.length=gQ.length/\ys.length=gQ.length
  |[],[],[],_=>by simp
  |[],[],_::_,h=>by simp[iq]at h
  |[],_::_,_,h=>by simp[iq]at h
  |_::_,[],_,h=>by simp[iq]at h
  |_::_,_::_,[],h=>by simp[iq]at h
  | k::gQ,x::xs,y::ys,h=>by simp only[iq,a1]at h;have:=J9 gQ xs ys h.2;simp[this]
def tf(dp:Bool)(xs:List Value):Value:=if dp then .agg xs.toArray else xs.headD undef
theorem w5{xs:List Value}(h:xs.length=1): ∃x,xs=[x]:=by
  match xs,h with
  |[x],_=>exact⟨x,rfl⟩
theorem NW{t:TypeId}{b:Bool}{n off:Nat}{xs:List Value}(hb:oU P t=some b)(az:kS P t=some n)(E:b=true\/n=1)(aB:off+n<=xs.length):
    (part t xs.toArray off).run P w= .ok (tf b ((xs.drop off).take n)) w:=by
  obtain⟨bG,ai,rfl⟩:=sb az;simp only[part,Sem.run_bind,V0 hb,Result.andThen_ok];cases b
  · have I:bG.size=1:=(by simpa using E);have av:off<xs.length:=(by omega);simp only[kB,if_false,tf,I];simp[cD av,List.take_one,List.headD]
  · simp only[if_true,Sem.run_bind,sizeOf,typeInfo,run_program,ai,Sem.run_pure,Result.andThen_ok,tf];congr 2;apply B6.1;simp
theorem Kr: ∀(d cO:Nat) (t:TypeId) (gQ:List pK) (xs ys:List Value),tr P d t=some gQ->d<=cO->iq gQ xs ys=true->
    ∃b,oU P t=some b/\kS P t=some gQ.length/\(b=true\/gQ.length=1)/\(Op.equalIn cO t (tf b xs) (tf b ys)).run P w= .ok (md xs ys) w
  |0,_,_,_,_,_,h,_,_=>by simp[tr]at h
  |d+1,0,_,_,_,_,_,h,_=>by omega
  | d+1,cO+1,t,gQ,xs,ys,h,pb,aB=>by
    obtain⟨Ig,po⟩:=J9 gQ xs ys aB;unfold tr at h;split at h
    · rename_i n a2 az;split at h<;>cases h;rename_i e;subst e;obtain⟨x,rfl⟩:=w5 Ig;obtain⟨y,rfl⟩:=w5 po;refine⟨false,by simp[oU,a2],az,.inr rfl,?_⟩;cases x<;>cases y<;>simp[iq,x0]at aB;simp only[tf,kB,if_false,List.headD_cons,md,o7,Bool.and_true];exact run_equalIn_bool' w cO t _ _ a2
    · rename_i k n a2 az;split at h<;>cases h;rename_i e;subst e;obtain⟨x,rfl⟩:=w5 Ig;obtain⟨y,rfl⟩:=w5 po;refine⟨false,by simp[oU,a2],az,.inr rfl,?_⟩;cases x<;>cases y<;>simp[iq,x0]at aB;subst aB;simp only[tf,kB,if_false,List.headD_cons,md,o7,Bool.and_true];exact run_equalIn_int w cO t _ _ _ _ a2
    · rename_i n a2 az;split at h<;>cases h;rename_i e;subst e;obtain⟨x,rfl⟩:=w5 Ig;obtain⟨y,rfl⟩:=w5 po;refine⟨false,by simp[oU,a2],az,.inr rfl,?_⟩;cases x<;>cases y<;>simp[iq,x0]at aB;simp only[tf,kB,if_false,List.headD_cons,md,o7,Bool.and_true];rw[run_equalIn_string w cO t _ _ a2,toList_beq]
    · rename_i fG n a2 az;split at h
      · rename_i aMa Ae;split at h
        · rename_i ar;cases h;simp only[a1,e2,uE]at ar;obtain⟨rfl,ej⟩:=ar;refine⟨true,by simp[oU,a2],az,.inl rfl,?_⟩;simp only[tf,if_true];have YV:P.fieldsOf t=fG:=(by simp[Program.fieldsOf,a2]);rw[run_equalIn_struct w cO t _ _ (by rw[YV];exact a2) ej,YV]
          -- sW aJi,nJ PC sW fW
          have key: ∀(jE:List Field) (off:Nat) (Nv:List pK),FD (tr P d) jE off=some Nv->iq Nv (xs.drop off) (ys.drop off)=true->
              (Op.eqFields cO xs.toArray ys.toArray jE).run P w= .ok (md (xs.drop off) (ys.drop off)) w:=by
            intro jE;induction jE with
            | nil=>intro off Nv E I;simp[FD]at E;subst E;cases G:xs.drop off<;>cases af:ys.drop off<;>simp[G,af,iq]at I;simp[Op.eqFields,md]
            | cons f jE cx=>
              intro off Nv E I;simp only[FD]at E;split at E
              · rename_i ar;simp only[a1,bne_iff_ne,ne_eq,beq_iff_eq]at ar;obtain⟨kr,Gf⟩:=ar;split at E
                · rename_i en rH;split at E
                  · rename_i hd sB;split at E<;>cases E;rename_i amB;obtain⟨aK,bb,c0⟩:=J8 en hd _ _ I;obtain⟨b,aJ,aU,cu,gO⟩:=Kr d cO f.type en _ _ rH (by omega) aK;have gu:=(J9 _ _ _ I);simp only[List.length_drop,kT]at gu;have gd:=NW (w:=w) (off:=off) (xs:=xs) aJ aU cu (by omega);have hj:=NW (w:=w) (off:=off) (xs:=ys) aJ aU cu (by omega);simp only[zJ]at bb c0;have av:=cx (off+en.length) hd sB bb;simp only[Op.eqFields,kr,ne_eq,not_false_eq_true,if_true,Sem.run_bind,Gf,gd,hj,Result.andThen_ok,gO,c0,Sem.run_ite,Sem.run_pure,av];cases md (List.take en.length (List.drop off xs)) (List.take en.length (List.drop off ys))<;>simp
                  · cases E
                · cases E
              · cases E
          have:=key fG.toList 0 _ Ae (by simpa using aB);simpa using this
        · cases h
      · cases h
    · -- W2 array
      rename_i k e n a2 az;split at h
      · rename_i en Ae;split at h
        · rename_i ar;cases h;simp only[a1,e2]at ar;obtain⟨rfl,amB⟩:=ar;have eA: ∀r:Nat,(List.replicate r en).flatten.length=r*en.length:=by
            intro r;induction r with
            |zero=>simp
            |succ r cx=>rw[Jx,oY,kT,cx,ly];omega
          refine⟨true,by simp[oU,a2],by rw[az,eA],.inl rfl,?_⟩;simp only[tf,if_true];by_cases Ac:k=0
          · subst Ac;simp only[List.replicate_zero,List.flatten_nil]at aB Ig po;have aJ:xs=[]:=qu.1 Ig;have aU:ys=[]:=qu.1 po;subst aJ aU;simp[Op.equalIn,run_underlying a2,md,sizeOf,typeInfo];cases ai:P.info? e with
            | none=>
              -- sW aJd type AV aL9,bY aL1 kinds aH8
              exfalso;cases d with
              |zero=>simp[tr]at Ae
              | succ d=>unfold tr at Ae;have:kS P e=none:=(by simp[kS,ai]);simp[this]at Ae
            |some i=>simp
          · obtain⟨fN,rfl⟩: ∃fN,k=fN+1:=⟨k-1,by omega⟩;have l0:=aB;rw[Jx,oY]at l0;obtain⟨aK,_,_⟩:=J8 en _ xs ys l0;obtain⟨dC,_,aU,_,_⟩:=Kr d cO e en _ _ Ae (by omega) aK;obtain⟨bG,ai,ju⟩:=sb aU;have wE:P.cellsOf e=en.length:=(by simp[Program.cellsOf,ai,ju]);rw[run_equalIn_array w cO xs.toArray ys.toArray a2 ai,wE,List.range_eq_range']
            have key: ∀(r j:Nat),iq (List.replicate r en).flatten (xs.drop (j*en.length)) (ys.drop (j*en.length))=true->
                (Op.eqItems cO e en.length xs.toArray ys.toArray (List.range' j r)).run P w= .ok (md (xs.drop (j*en.length)) (ys.drop (j*en.length))) w:=by
              intro r;induction r with
              | zero=>intro j I;simp only[List.replicate_zero,List.flatten_nil]at I;cases G:xs.drop (j*en.length)<;>cases af:ys.drop (j*en.length)<;>simp[G,af,iq]at I;simp[Op.eqItems,md]
              | succ r cx=>intro j I;rw[Jx,oY]at I;obtain⟨aK,bb,c0⟩:=J8 en _ _ _ I;obtain⟨b,aJ,aU,cu,gO⟩:=Kr d cO e en _ _ Ae (by omega) aK;have gu:=J9 _ _ _ I;simp only[List.length_drop,kT]at gu;have gd:=NW (w:=w) (off:=j*en.length) (xs:=xs) aJ aU cu (by omega);have hj:=NW (w:=w) (off:=j*en.length) (xs:=ys) aJ aU cu (by omega);simp only[zJ]at bb c0;have bj:j*en.length+en.length=(j+1)*en.length:=(by rw[ly];omega);rw[bj]at bb c0;have av:=cx (j+1) bb;rw[List.range'_succ];simp only[Op.eqItems,Sem.run_bind,gd,hj,Result.andThen_ok,gO,c0,Sem.run_ite,Sem.run_pure,av];cases md (List.take en.length (List.drop (j*en.length) xs)) (List.take en.length (List.drop (j*en.length) ys))<;>simp
            have:=key (fN+1) 0 (by simpa using aB);simpa using this
        · cases h
      · cases h
    · cases h
termination_by d=>d
theorem aFc{op:BinOp}{t zz:TypeId}{x y:Operand}{gQ:List pK}{xs ys:Array Value}(kh:Bool)(bB:o.op= .binOp op t x y zz)(bn:op=if kh then .neq else .eql)(aT:tr P 8 t=some gQ)
    (aP:P.eqGuardType P.depth t=false) (dr:oV P t= .agg) (G:a.eval x= .agg xs) (af:a.eval y= .agg ys) (aB:iq gQ xs.toList ys.toList=true):
    jd P o a w (.bool (if kh then !md xs.toList ys.toList else md xs.toList ys.toList)) w:=by
  obtain⟨b,E,_,_,aH⟩:=Kr (P:=P) (w:=w) 8 10000 t gQ xs.toList ys.toList aT (by omega) aB;have hb:b=true:=by
    unfold oV at dr;unfold oU at E;split at dr<;>first|cases dr|skip
    · rename_i a2;simp only[a2]at E;cases E;rfl
    · rename_i a2;simp only[a2]at E;cases E;rfl
  subst hb;simp only[tf,if_true,qw]at aH;refine Jo bB (by rw[G,af];exact run_eqGuard_agg w op t x y xs ys aP) ?_;rw[G,af];cases kh
  · simp only[kB,if_false]at bn⊢;subst bn;rw[run_eql_struct,aH];rfl
  · simp only[if_true]at bn⊢;subst bn;rw[run_neq_struct,aH];rfl
end
def ag.pure:ag->Bool
  | .c9 _| .mz _| .gM _ _ _ _| .k5 _ _ _| .pC _ _ _| .store _ _ _| .mT _| .nX _| .kN _ _ _ _ _| .app _ _ _ _| .np _ _ _ _ _| .hv _ _| .dY _ _| .iN _ _| .iR _ _ _| .m6| .m7 _ _ _ _ _| .l3 _ _ _ _=>false
  |_=>true
section
variable {P:Program} {w:World} {o:Oper} {a:Act} {an:eJ} {cZ:Nat} {A:aR} {m:W}
theorem D6(K:gK an cZ A a): ∀(xs:List Operand),xs.all cX=true->c5 an (xs.map (Z A)) (xs.map a.eval)
  |xs,h=>c5.D9 _ _ xs λx G=>K.Z (eQ.1 h x G)
theorem afR{v:Value}(h:e4 v=true):dZ v=true:=by cases v<;>simp[e4]at h<;>rfl
theorem qV{bt v:Value}(h:dF an bt v)(ai:e4 bt=true):v=bt/\ ∃k n,bt= .int k n:=by cases bt<;>simp[e4]at ai;exact⟨h.qU,_,_,rfl⟩
theorem Uc(fr:Bool)(K:gK an cZ A a): ∀(xs:List Operand) (dH:Value),xs.all cX=true->(xs.all λy=>e4 (Z A y))=true->
    xs.foldl (λdH y=>if fr then ob dH (a.eval y)else oc dH (a.eval y)) dH=xs.foldl (λdH y=>if fr then ob dH (Z A y)else oc dH (Z A y)) dH
  |[],_,_,_=>rfl
  | x::xs,dH,E,I=>by simp only[nm,a1]at E I;have:=(qV (K.Z E.1) I.1).1;simp only[xL,this];exact Uc fr K xs _ E.2 I.2
theorem Ub(fr:Bool): ∀(xs:List Operand) (dH:Value),e4 dH=true->(xs.all λy=>e4 (Z A y))=true->
    e4 (xs.foldl (λdH y=>if fr then ob dH (Z A y)else oc dH (Z A y)) dH)=true
  |[],_,h,_=>h
  | x::xs,dH,E,I=>by simp only[nm,a1]at I;simp only[xL];refine Ub fr xs _ ?_ I.2;cases dH<;>simp[e4]at E;have av:=I.1;cases G:Z A x<;>simp[G,e4]at av;cases fr<;>simp[ob,oc,e4]
theorem XF: ∀(gQ:List pK) (xs ys fb cz:List Value),iq gQ xs ys=true->c5 an xs fb->c5 an ys cz->fb=xs/\cz=ys
  | [],[],[],fb,cz,_,E,I=>by have aJ:=E.1;have aU:=I.1;simp at aJ aU;exact⟨qu.1 aJ.symm,qu.1 aU.symm⟩
  |[],[],_::_,_,_,h,_,_=>by simp[iq]at h
  |[],_::_,_,_,_,h,_,_=>by simp[iq]at h
  |_::_,[],_,_,_,h,_,_=>by simp[iq]at h
  |_::_,_::_,[],_,_,h,_,_=>by simp[iq]at h
  |_::_,_::_,_::_,[],_,_,h,_=>by simp[c5]at h
  |_::_,_::_,_::_,_::_,[],_,_,h=>by simp[c5]at h
  | k::gQ,x::xs,y::ys,bt::fb,v::cz,h,E,I=>by simp only[iq,a1]at h;obtain⟨aJ,aU⟩:=XF gQ xs ys fb cz h.2 ⟨by simpa using E.1,λi p q ab bd=>E.2 (i+1) p q (by simpa using ab) (by simpa using bd)⟩ ⟨by simpa using I.1,λi p q ab bd=>I.2 (i+1) p q (by simpa using ab) (by simpa using bd)⟩;have fs:=E.2 0 x bt rfl rfl;have g7:=I.2 0 y v rfl rfl;have aB:=h.1;have dj:dZ x=true/\dZ y=true:=(by cases k<;>cases x<;>cases y<;>simp[x0]at aB<;>exact⟨rfl,rfl⟩);exact⟨by rw[aJ,fs.h7 dj.1],by rw[aU,g7.h7 dj.2]⟩
theorem Yb{op:BinOp}{t zz:TypeId}{x y:Operand}{gQ:List pK}(kh:Bool)(bB:o.op= .binOp op t x y zz)(bn:op=if kh then .neq else .eql)(aT:tr P 8 t=some gQ)
    (aP:P.eqGuardType P.depth t=false) (dr:oV P t= .agg) (K:gK an cZ A a) (G:cX x=true) (af:cX y=true) (au:(ag.wy kh gQ x y).ok A m=true) (id:Nat):
    ∃bx,jd P o a w bx w/\dF an ((ag.wy kh gQ x y).val id A m) bx:=by
  simp only[ag.ok,a1]at au;obtain⟨⟨E,I⟩,av⟩:=au;have nb:=K.Z G;have xp:=K.Z af;simp only[ag.val];cases a2:Z A x<;>simp only[a2,sJ]at E<;>try cases E
  cases ad:Z A y<;>simp only[ad,sJ]at I<;>try cases I
  rename_i xs ys;rw[a2]at nb;rw[ad]at xp;obtain⟨fb,aJ,fs⟩:=nb.rN;obtain⟨cz,aU,g7⟩:=xp.rN;simp only[a2,ad,O]at av;obtain⟨aK,bb⟩:=XF gQ _ _ _ _ av fs g7;have x7:=B6.1 aK;have wB:=B6.1 bb;subst x7;subst wB;exact⟨_,aFc kh bB bn aT aP dr aJ aU av,.cH rfl⟩
theorem Ja{bt v:Value}(h:dF an bt v)(ai:lo bt=true):v=bt/\ ∃s,bt= .string s:=by cases bt<;>simp[lo]at ai;exact⟨h.wN,_,rfl⟩
theorem aBM{k:ag}(aa:xW P o=some k)(ab:k.pure=true)(K:gK an cZ A a)(au:k.ok A m=true)(id:Nat):
    ∃bx,jd P o a w bx w/\dF an (k.val id A m) bx:=by
  rcases J2 aa with aa|rfl
  rotate_left
  · rw[aic]at au;cases au
  unfold Ck at aa;split at aa
  · -- move
    rename_i x bB;split at aa<;>cases aa;rename_i G;exact⟨_,aFm bB,K.Z G⟩
  · rename_i x bB;split at aa<;>cases aa;rename_i G;exact⟨_,aE5 bB,K.Z G⟩
  · -- sQ
    rename_i c x y bB;split at aa<;>cases aa;rename_i G;simp only[a1]at G;have ar:=K.Z G.1.1;simp only[ag.ok]at au;cases ad:Z A c<;>simp[ad,sK]at au;rw[ad]at ar;refine⟨_,aFo bB ar.qT,?_⟩;simp only[ag.val,ad,uM];split
    · exact K.Z G.1.2
    · exact K.Z G.2
  · -- nilCheck
    rename_i x bB;split at aa<;>cases aa;rename_i G;have aw:=K.Z G;simp only[ag.ok]at au;refine⟨_,aFn bB ?_,aw⟩;generalize Z A x=bt at aw au;generalize a.eval x=v at aw;cases aw<;>simp_all [AW];rename_i fn _ _ _ _ _ _ _ _;cases fn<;>simp_all
  · split at aa<;>cases aa;simp[ag.pure]at ab
  · split at aa<;>cases aa;simp[ag.pure]at ab
  · -- fF
    rename_i t ps bB;split at aa
    · rename_i fG J bA bK;split at aa
      · rename_i h2 Rc;split at aa<;>cases aa;rename_i hX;obtain⟨bG,hO,ai,n5,m0,e1,eA⟩:=zs bK;obtain⟨aK,bb⟩:=Yg _ _ Rc;simp only[ag.ok]at au
        let vA:Nat->Option (Nat×Nat):= λi=>(fG[i]?).bind λ(f:Field)=>(P.info? f.type).map λbG=>(f.offset,bG.size)
        obtain⟨ds,E,I,FW⟩:=Kt K vA ps.toList h2 J hO.cells ⟨aK,λi p q p4 bd=>by obtain⟨aJ,aU,f,RH,cu,gO,lD,ka⟩:=bb i p q p4 bd;exact⟨aJ,aU,by simp[vA,cu,gO,lD,ka]⟩⟩ (by rw[m0];exact c5.cH an e1) (λv ad=>wA (eQ.1 e1 v ad)) au;refine⟨_,aE7 (cells:=ds) bB ai n5 bA hX (λvz kd=>by have:vz=vA:=funext kd;rw[this];exact E),?_⟩;have:=I.agg FW;simp only[qw]at this;exact this
      · cases aa
    · rename_i n e J bA bK;split at aa
      · rename_i aRL ju;split at aa<;>cases aa;rename_i h2 Rc;obtain⟨bG,hO,ai,n5,m0,e1,eA⟩:=zs bK;obtain⟨CT,bn,rfl⟩:=sb ju;obtain⟨aK,bb⟩:=P2 _ _ Rc;simp only[ag.ok]at au;obtain⟨ds,E,I,FW⟩:=Kt K (λi=>some (i*CT.size,CT.size)) ps.toList h2 J hO.cells ⟨aK,λi p q p4 bd=>by
          obtain⟨aJ,aU,cu,gO⟩:=bb i p q p4 bd;exact⟨aJ,aU,by simp[cu,gO]⟩⟩ (by rw[m0];exact c5.cH an e1) (λv ad=>wA (eQ.1 e1 v ad)) au
        refine⟨_,aE8 (cells:=ds) bB ai n5 bA bn E,?_⟩;have:=I.agg FW;simp only[qw]at this;exact this
      · cases aa
    · cases aa
  · repeat (split at aa<;>try cases aa)
    simp[ag.pure]at ab
  · repeat (split at aa<;>try cases aa)
    simp[ag.pure]at ab
  · repeat (split at aa<;>try cases aa)
    simp[ag.pure]at ab
  · -- binOp
    rename_i op t x y zz bB;split at aa
    · rename_i G;simp only[a1]at G;split at aa
      · rename_i dr;split at aa
        · rename_i gQ aT;split at aa<;>cases aa;rename_i aP;exact Yb false bB rfl aT (by simpa using aP) dr K G.1 G.2 au id
        · rename_i gQ aT;split at aa<;>cases aa;rename_i aP;exact Yb true bB rfl aT (by simpa using aP) dr K G.1 G.2 au id
        · cases aa
      · cases aa;exact aE6 bB (K.Z G.1) (K.Z G.2) au
    · cases aa
  · -- unOp
    rename_i op t x bB;split at aa<;>cases aa;rename_i G;simp only[ag.ok]at au;have aw:=K.Z G;have bn:a.eval x=Z A x:=by cases a2:Z A x<;>cases op<;>simp[a2,xA]at au<;>rw[a2]at aw<;>first|exact aw.qU|exact aw.qT
    refine⟨_,aFr bB (by rw[bn];exact au),?_⟩;simp only[ag.val,bn];exact .cH (by cases a2:Z A x<;>cases op<;>simp[a2,xA]at au<;>simp[BY,dZ])
  · -- convert
    rename_i s d x bB;split at aa
    · rename_i TT k pd pb;split at aa<;>cases aa;rename_i G;simp only[ag.ok]at au;obtain⟨e,gg,n,ad⟩:=qV (K.Z G) au;refine⟨_,aFa bB pd pb (by rw[e,ad]),?_⟩;simp only[ag.val,ad,eZ];exact .cH rfl
    · rename_i pd pb;split at aa<;>cases aa;rename_i G;simp only[ag.ok]at au;obtain⟨e,b,ad⟩:=Ja (K.Z G) au;refine⟨_,aFb bB pd pb (by rw[e,ad]),?_⟩;simp only[ag.val,ad];exact .cH rfl
    · repeat (split at aa<;>try cases aa)
      simp[ag.pure]at ab
    · repeat (split at aa<;>try cases aa)
      simp[ag.pure]at ab
    · cases aa
  · repeat (split at aa<;>try cases aa)
    simp[ag.pure]at ab
  · -- slice
    rename_i t x cB ai fr bB;split at aa
    · rename_i bA;split at aa<;>cases aa;rename_i ar;simp only[a1,zB]at ar;obtain⟨⟨⟨G,qQ⟩,uY⟩,rfl⟩:=ar;simp only[ag.ok,a1,e2]at au;obtain⟨⟨⟨⟨⟨E,I⟩,av⟩,aH⟩,br⟩,cW⟩:=au;obtain⟨e,b,ad⟩:=Ja (K.Z G) E;simp only[ad,iv]at br cW;refine⟨_,aFq bB bA (by rw[e,ad]) (zO K qQ I 0 (by simpa using aH)) (zO K uY av b.size (by omega)) (by simp;omega) (by omega),?_⟩;simp only[ag.val,ad,qB,iv];exact .cH rfl
    · rename_i e bA;split at aa
      · rename_i J bK;split at aa
        · split at aa<;>cases aa;rename_i ar;simp only[a1]at ar;obtain⟨⟨G,qQ⟩,uY⟩:=ar;simp only[ag.ok,a1,e2]at au;obtain⟨⟨⟨⟨⟨E,I⟩,av⟩,aH⟩,br⟩,cW⟩:=au;obtain⟨bG,gW,rfl⟩:=sb bK;have aw:=K.Z G;simp only[ag.val];cases a2:Z A x<;>simp only[a2,nf]at E<;>try cases E
          rename_i p len c;rw[a2]at aw;simp only[a2,iv]at br cW;cases p with
          | none=>simp only[a1,beq_iff_eq]at E;obtain⟨rfl,rfl⟩:=E;have ad:=aw.h7 rfl;refine⟨_,aiI bB bA gW ad (zO K qQ I 0 (by simpa using aH)) (zO K uY av 0 (by omega)) (by simp;omega) (by omega),?_⟩;have hV:(g1 A cB (0:Nat)).toNat=0:=(by simp;omega);have aJ:(g1 A ai (0:Nat)).toNat=0:=(by simp;omega);rw[hV,aJ];simp only[pB];exact .cH rfl
          | some ef=>
            simp only[a1,beq_iff_eq]at E;obtain⟨l,dG,cap,aB,lK,ad,az,Ag,pY⟩:=aw.m1;obtain⟨_,rfl⟩:=E;refine⟨_,aiI bB bA gW ad (zO K qQ I 0 (by simpa using aH)) (zO K uY av len (by omega)) (by simp;omega) (by omega),?_⟩;simp only[pB,iv];have Rw:g1 A cB ((0:Nat):Int)=g1 A cB 0:=rfl;rw[Rw];generalize ck:(g1 A cB 0).toNat=L;generalize alA:(g1 A ai (len:Int)).toNat=j6;have alD:L<=j6:=(by omega);have aJT:j6<=len:=(by omega);by_cases ca:cap=L
            · rw[if_pos ca];exact .slice aB (.inl ⟨by omega,by omega⟩) (by omega) (by omega)
            · rw[if_neg ca];rcases az with⟨rfl,rfl⟩|⟨rfl,az⟩
              · omega
              · have aA:(⟨l.c,l.o+ef.off,none⟩:Addr).add (L*bG.size)=⟨l.c,l.o+(ef.off+L*bG.size),none⟩:=by
                  unfold Addr.add;split
                  · rename_i dk;rw[dk];simp
                  · simp[pJ]
                simp only[Option.map_some,aA];refine .slice aB (.inr ⟨rfl,?_⟩) (by omega) (by omega);have:L*bG.size+(cap-L)*bG.size=cap*bG.size:=(by rw[<-ly];congr 1;omega);omega
        · rename_i hz;split at aa
          · rename_i aE;split at aa<;>cases aa;rename_i ar;simp only[a1]at ar;obtain⟨⟨⟨G,qQ⟩,uY⟩,u1⟩:=ar;simp only[ag.ok,a1,e2]at au;obtain⟨⟨⟨⟨⟨⟨⟨E,I⟩,av⟩,aH⟩,br⟩,cW⟩,fu⟩,hK⟩:=au;obtain⟨bG,gW,rfl⟩:=sb bK;have aw:=K.Z G;simp only[ag.val];obtain⟨akV,azR,cx,Y0⟩:=qV (K.Z uY) av;obtain⟨akX,azT,La,Y1⟩:=qV (K.Z u1) aH;simp only[Y0,Y1,eZ]at cW fu hK⊢;cases a2:Z A x<;>simp only[a2,nf]at E<;>try cases E
            rename_i p len c;rw[a2]at aw;simp only[a2,iv]at hK;have CE:=zO K qQ I 0 (by simpa using br);have Rw:g1 A cB ((0:Nat):Int)=g1 A cB 0:=rfl;rw[Rw]at CE;have YK: ∃(k:IntKind) (i:Int),a.eval aE= .int k i/\0<=i/\i.toNat=cx.toNat:=⟨azR,cx,by rw[akV,Y0],by omega,rfl⟩;have KO: ∃(k:IntKind) (i:Int),a.eval hz= .int k i/\0<=i/\i.toNat=La.toNat:=⟨azT,La,by rw[akX,Y1],by omega,rfl⟩;cases p with
            | none=>simp only[a1,beq_iff_eq]at E;obtain⟨rfl,rfl⟩:=E;have ad:=aw.h7 rfl;refine⟨_,aiH bB bA gW ad CE YK KO (by omega) (by omega) (by omega),?_⟩;have hV:(g1 A cB 0).toNat=0:=(by omega);have aJ:cx.toNat=0:=(by omega);have aU:La.toNat=0:=(by omega);rw[hV,aJ,aU];simp only[pB];exact .cH rfl
            | some ef=>
              simp only[a1,beq_iff_eq]at E;obtain⟨l,dG,cap,aB,lK,ad,az,Ag,pY⟩:=aw.m1;obtain⟨_,rfl⟩:=E;refine⟨_,aiH bB bA gW ad CE YK KO (by omega) (by omega) (by omega),?_⟩;simp only[pB];generalize ck:(g1 A cB 0).toNat=L;generalize alA:cx.toNat=j6;generalize aJW:La.toNat=zL;have alD:L<=j6:=(by omega);have aJS:j6<=zL:=(by omega);have aJX:zL<=len:=(by omega);by_cases ca:zL=L
              · rw[if_pos ca];exact .slice aB (.inl ⟨by omega,by omega⟩) (by omega) (by omega)
              · rw[if_neg ca];rcases az with⟨rfl,rfl⟩|⟨rfl,az⟩
                · omega
                · have aA:(⟨l.c,l.o+ef.off,none⟩:Addr).add (L*bG.size)=⟨l.c,l.o+(ef.off+L*bG.size),none⟩:=by
                    unfold Addr.add;split
                    · rename_i dk;rw[dk];simp
                    · simp[pJ]
                  simp only[Option.map_some,aA];refine .slice aB (.inr ⟨rfl,?_⟩) (by omega) (by omega);have iZ:L*bG.size+(zL-L)*bG.size=zL*bG.size:=(by rw[<-ly];congr 1;omega);have x9:zL*bG.size<=cap*bG.size:=ri _ (by omega);show ef.off+L*bG.size+(zL-L)*bG.size<=l.n
                  replace az:ef.off+cap*bG.size<=l.n:=az
                  omega
          · cases aa
      · cases aa
    · (repeat' split at aa)<;>cases aa
      simp[ag.pure]at ab
    · cases aa
  · -- fieldAddr
    rename_i s x i bB;split at aa
    · rename_i fG bA;split at aa
      · rename_i f aT;split at aa
        · rename_i n az;split at aa<;>cases aa;rename_i ar;simp only[a1,e2]at ar;obtain⟨bG,ai,rfl⟩:=sb az;simp only[ag.ok]at au;have aw:=K.Z ar.1;simp only[ag.val];cases a2:Z A x<;>simp only[a2,q3]at au<;>try cases au
          rename_i p;rw[a2]at aw;cases p with
          |none=>cases au
          | some ef=>obtain⟨l,aB,lK,ad⟩:=aw.p9;refine⟨_,aFe bB bA aT ai ar.2 ad,?_⟩;simp only[xg,pJ];exact .cw aB
        · cases aa
      · cases aa
    · cases aa
  · -- field
    rename_i t x i bB;split at aa
    · rename_i fG bA;split at aa
      · rename_i f aT;split at aa
        · rename_i b n hb az;split at aa<;>cases aa;rename_i G;obtain⟨bG,ai,rfl⟩:=sb az;simp only[ag.ok,a1,uG,e2]at au;have aw:=K.Z G;simp only[ag.val];cases a2:Z A x<;>simp only[a2,FF]at au<;>try cases au.1
          rename_i xs;rw[a2]at aw;obtain⟨ys,ad,aB⟩:=aw.rN;have ju:ys.size=xs.size:=(by have:=aB.1;simp at this;exact this.symm);have aKm:f.offset+bG.size<=xs.size:=(by simpa using au.1);refine⟨_,aFf bB bA aT ai hb ad (by omega) au.2,?_⟩;simp only[Ks];cases b
          · simp only[kB,if_false];have E:bG.size=1:=(by simpa using au.2);have ev:f.offset<xs.toList.length:=(by simp;omega);obtain⟨y,af,tI⟩:=aB.X (cD ev);rw[la,la,af,cD ev];exact tI
          · simp only[if_true];exact((aB.drop _).take _).agg λx G=>aw.ajD x (B5 (xJ G))
        · cases aa
      · cases aa
    · cases aa
  · -- indexAddr
    rename_i t x i bB;split at aa
    · rename_i e bA;split at aa
      · rename_i J bK;split at aa<;>cases aa;rename_i ar;simp only[a1]at ar;obtain⟨bG,ai,rfl⟩:=sb bK;simp only[ag.ok,a1,e2]at au;obtain⟨⟨⟨E,I⟩,av⟩,aH⟩:=au;obtain⟨aU,k,n,az⟩:=qV (K.Z ar.2) I;have aw:=K.Z ar.1;simp only[ag.val];cases a2:Z A x<;>simp only[a2,nf]at E<;>try cases E
        rename_i p len c;rw[a2]at aw;simp only[az,eZ]at av aH⊢;simp only[a2,iv]at aH;cases p with
        | none=>simp only[a1,beq_iff_eq]at E;omega
        | some ef=>
          simp only[a1,beq_iff_eq]at E;obtain⟨l,dG,cap,aB,lK,ad,yk,Ag,pY⟩:=aw.m1;rcases yk with⟨rfl,rfl⟩|⟨rfl,yk⟩
          · omega
          · refine⟨_,aFg bB bA ai ad (by rw[aU,az]) av aH,?_⟩;simp only[xw,pJ];exact .cw aB
      · cases aa
    · rename_i len e bA;split at aa
      · rename_i J bK;split at aa<;>cases aa;rename_i ar;simp only[a1]at ar;obtain⟨bG,ai,rfl⟩:=sb bK;simp only[ag.ok,a1,e2]at au;obtain⟨⟨⟨E,I⟩,av⟩,aH⟩:=au;obtain⟨aU,k,n,az⟩:=qV (K.Z ar.2) I;have aw:=K.Z ar.1;simp only[ag.val];cases a2:Z A x<;>simp only[a2,q3]at E<;>try cases E
        rename_i p;rw[a2]at aw;simp only[az,eZ]at av aH⊢;cases p with
        |none=>cases E
        | some ef=>obtain⟨l,aB,lK,ad⟩:=aw.p9;refine⟨_,aFh bB bA ai ad (by rw[aU,az]) av aH,?_⟩;simp only[xg,pJ];exact .cw aB
      · cases aa
    · cases aa
  · -- index
    rename_i t x i bB;split at aa
    · rename_i bA;split at aa<;>cases aa;rename_i ar;simp only[a1]at ar;simp only[ag.ok,a1,e2]at au;obtain⟨⟨⟨E,I⟩,av⟩,aH⟩:=au;obtain⟨aJ,b,ad⟩:=Ja (K.Z ar.1) E;obtain⟨aU,k,n,az⟩:=qV (K.Z ar.2) I;simp only[az,eZ]at av aH;simp only[ad,iv]at aH;refine⟨_,aFi bB bA (by rw[aJ,ad]) (by rw[aU,az]) av aH,?_⟩;simp only[ag.val,ad,az,qB,eZ];exact .cH rfl
    · cases aa
  · -- extract
    rename_i x i bB;split at aa<;>cases aa;rename_i G;have aw:=K.Z G;simp only[ag.ok]at au;simp only[ag.val];cases a2:Z A x<;>simp only[a2,EK]at au<;>try cases au
    rename_i xs;rw[a2]at aw;obtain⟨ys,ad,aB⟩:=aw.Ax;have ai:i<xs.toList.length:=(by simpa using au);obtain⟨y,af,tI⟩:=aB.X (cD ai);have ln:i<ys.size:=(by have:=aB.1;simp at this ai;omega);refine⟨_,aFd bB ad ln,?_⟩;rw[ad];simp only[BW];rw[la,la,af,cD ai];exact tI
  · -- makeInterface
    rename_i t x bB;split at aa
    · cases aa
    · rename_i d ny aD;split at aa<;>cases aa;rename_i G;refine⟨.iface t (a.eval x),.inl ?_,.iface (K.Z G)⟩;cases d<;>first|exact absurd rfl (ny _)|simp[execOp,bB,Instr.makeInterface,underlying,aD]
    · cases aa
  · -- typeAssert
    rename_i x c1 t ok bB;split at aa
    · cases aa
    · rename_i d ny aD;split at aa<;>cases aa;rename_i G;simp only[a1,uE]at G;obtain⟨G,rfl⟩:=G;have aw:=K.Z G;simp only[ag.ok]at au;simp only[ag.val];cases a2:Z A x<;>simp only[a2,Gw]at au<;>try cases au
      rename_i aI v;have:=of_decide_eq_true au;subst this;rw[a2]at aw;obtain⟨y,ad,af⟩:=aw.Gy;refine⟨y,.inl ?_,af⟩;cases d<;>first|exact absurd rfl (ny _)|simp[execOp,bB,Instr.typeAssert,underlying,aD,ad]
    · cases aa
  · repeat (split at aa<;>try cases aa)
    simp[ag.pure]at ab
  · repeat (split at aa<;>try cases aa)
    simp[ag.pure]at ab
  · repeat (split at aa<;>try cases aa)
    simp[ag.pure]at ab
  · -- makeFunc
    rename_i fn x y bB;split at aa<;>cases aa;rename_i ar;simp only[a1]at ar;refine⟨_,aFl bB,?_⟩;simp only[ag.val];have fs:=D6 K _ ar.1;have g7:=D6 K _ ar.2;exact .func (by simp) (by simpa using fs.2) (by simp) (by simpa using g7.2)
  · -- dY
    rename_i c bB;unfold Fq at aa;split at aa
    · split at aa<;>cases aa;simp[ag.pure]at ab
    · repeat (split at aa<;>try cases aa)
      simp[ag.pure]at ab
    · repeat (split at aa<;>try cases aa)
      simp[ag.pure]at ab
    · rename_i ar;split at aa
      · rename_i x t aA dr;split at aa
        · rename_i bA;split at aa<;>cases aa;rename_i G;simp only[ag.ok]at au;obtain⟨e,b,ad⟩:=Ja (K.Z G) au;refine⟨_,aFj bB ar aA dr bA (by rw[e,ad]),?_⟩;simp only[ag.val,ad,iv];exact .cH rfl
        · rename_i e bA;split at aa<;>cases aa;rename_i G;simp only[ag.ok]at au;have aw:=K.Z G;simp only[ag.val];cases a2:Z A x<;>simp only[a2,yQ]at au<;>try cases au
          rename_i p len c;rw[a2]at aw;have ad: ∃q cap,a.eval x= .slice q len cap:=by
            cases p with
            | none=>
              refine⟨none,c,?_⟩;generalize a.eval x=v at aw;cases aw with
              |cH h=>rfl
            |some ef=>obtain⟨_,_,_,_,_,h,_⟩:=aw.m1;exact⟨_,_,h⟩
          obtain⟨q,cap,ad⟩:=ad;exact⟨_,aFk bB ar aA dr bA ad,.cH rfl⟩
        · cases aa
      · cases aa
    · (repeat' split at aa)<;>cases aa<;>simp[ag.pure]at ab
    · rename_i ar;split at aa
      · rename_i x xs aA;split at aa<;>cases aa;rename_i G;simp only[a1]at G;simp only[ag.ok,a1]at au;have E:=qV (K.Z G.1) au.1;have I: ∀y∈xs,e4 (a.eval y)=true:= λy af=>by
          have:=eQ.1 au.2 y af;rw[(qV (K.Z (eQ.1 G.2 y af)) this).1];exact this
        refine⟨_,aiG (fr:=false) bB (by simpa using ar) aA (by rw[E.1];exact au.1) I,?_⟩;rw[Uc false K xs _ G.2 au.2,E.1];simp only[ag.val];have av:=Ub (A:=A) false xs (Z A x) au.1 au.2;exact .cH (afR av)
      · cases aa
    · rename_i ar;split at aa
      · rename_i x xs aA;split at aa<;>cases aa;rename_i G;simp only[a1]at G;simp only[ag.ok,a1]at au;have E:=qV (K.Z G.1) au.1;have I: ∀y∈xs,e4 (a.eval y)=true:= λy af=>by
          have:=eQ.1 au.2 y af;rw[(qV (K.Z (eQ.1 G.2 y af)) this).1];exact this
        refine⟨_,aiG (fr:=true) bB (by simpa using ar) aA (by rw[E.1];exact au.1) I,?_⟩;rw[Uc true K xs _ G.2 au.2,E.1];simp only[ag.val];have av:=Ub (A:=A) true xs (Z A x) au.1 au.2;exact .cH (afR av)
      · cases aa
    · -- cap
      rename_i ar;split at aa
      · rename_i x t aA dr;split at aa
        · rename_i e bA;split at aa<;>cases aa;rename_i G;have aw:=K.Z G;simp only[ag.ok]at au;have a2:Z A x= .slice none 0 0:=Nl au;rw[a2]at aw;exact⟨_,aE9 bB ar aA dr bA (aw.h7 rfl),.cH rfl⟩
        · cases aa
      · cases aa
    · (repeat' split at aa)<;>cases aa<;>simp[ag.pure]at ab
    · cases aa
  · cases aa
end
theorem Up(v:Value):v.oneCell'=S v:=by cases v<;>rfl
section
variable {P:Program} {w c3:World} {an:eJ} {m:W} {aV:Nat}
def hN(an:eJ)(id:Nat)(l:tb):eJ:= λb=>if b=id then some l else an b
theorem sd{id:Nat}{l:tb}(h:an id=none):gl an (hN an id l):=by
  intro b dh hb;unfold hN;split
  · rename_i e;rw[e,h]at hb;cases hb
  · exact hb
theorem Pr(c o j:Nat):(⟨c,o,none⟩:Addr).add j=⟨c,o+j,none⟩:=by unfold Addr.add;split<;>simp_all
theorem dB.cells(ax:dB aV an m w){b:Nat}{x:fB}{l:tb}(aP:m.X b=some x)(aB:an b=some l){off n:Nat}(h:off+n<=x.cells.length):
    ∃ds:List Value,c5 an (hP m b off n) ds/\ds.length=n/\(∀j bt,ds[j]?=some bt->w.cell? ((⟨l.c,l.o+off,none⟩:Addr).add j)=some bt)/\(∀bt∈ds,bt.oneCell'=true):=by
  obtain⟨dh,jr,eA,ar,_⟩:=ax.mn b x aP;rw[aB]at jr;cases jr;have key: ∀j,j<n-> ∃v bx,x.cells[off+j]?=some v/\S v=true/\w.cell? ⟨l.c,l.o+(off+j),none⟩=some bx/\dF an v bx:=by intro j bj;have ev:off+j<x.cells.length:=(by omega);obtain⟨E,bx,I,av⟩:=ar (off+j) _ (cD ev);exact⟨_,bx,cD ev,E,I,av⟩
  refine⟨(List.range n).map λj=>(w.cell? ⟨l.c,l.o+(off+j),none⟩).getD undef,⟨?_,?_⟩,by simp,?_,?_⟩
  · simp[hP,aP];omega
  · intro i bt v a2 ad;simp only[hP,aP]at a2;rw[vT]at a2;split at a2
    · rename_i ai;obtain⟨B0,vQ,aK,bb,c0,ea⟩:=key i ai;rw[zE,aK]at a2;cases a2;simp[ai,c0]at ad;subst ad;exact ea
    · cases a2
  · intro j bt a2;have bj:j<n:=(by have:=(dO.1 a2).1;simpa using this);obtain⟨B0,vQ,aK,bb,c0,ea⟩:=key j bj;simp[bj,c0]at a2;subst a2;rw[Pr,pJ];exact c0
  · intro bt a2;simp only[hn,ou]at a2;obtain⟨j,bj,rfl⟩:=a2;obtain⟨B0,vQ,aK,bb,c0,ea⟩:=key j bj;rw[c0];simp only[zG,Up];rw[ea.S];exact bb
theorem dB.WZ(ax:dB aV an m w){id C Ca n:Nat}{cs:List Value}(ep:id<m.next)(aw:an id=none)
    (wG: ∀b x l,m.X b=some x->an b=some l->l.c≠C) (ju:w.heap.size<=c3.heap.size) (KI:C<c3.heap.size) (cT:aV<=C)
    (yp: ∀a:Addr,a.block<w.heap.size->a.block≠C->c3.cell? a=w.cell? a/\c3.frozen? a=w.frozen? a)
    (amu: ∀k,k<w.heap.size->k≠C->c3.heap[k]?=w.heap[k]?)
    (eA:cs.length<=n) (jq: ∀i v,cs[i]?=some v->S v=true/\ ∃bx,c3.cell? ⟨C,Ca+i,none⟩=some bx/\dF an v bx)
    (az: ∀i,i<n->(c3.cell? ⟨C,Ca+i,none⟩).isSome=true/\c3.frozen? ⟨C,Ca+i,none⟩=false):
    dB aV (hN an id ⟨C,Ca,n⟩) (m.a0 id (some ⟨cs,true⟩)) c3:=by
  have fR:=sd (l:=⟨C,Ca,n⟩) aw;refine⟨λb l hb=> ?_,λb l hb=> ?_,λb x G=> ?_,λb x cd ic l dh E I av aH br cW=> ?_,λb bc hb=> ?_,λb bc hb=> ?_⟩
  · unfold hN at hb;split at hb
    · rename_i e;rw[e];exact ep
    · exact ax.mf b l hb
  · unfold hN at hb;split at hb
    · cases hb;exact KI
    · exact pH (ax.mi b l hb) ju
  · rw[W.nv]at G;split at G
    · rename_i e;cases G;exact⟨⟨C,Ca,n⟩,by simp[hN,e],eA,λi v ad=>by obtain⟨a8,bx,bE,b7⟩:=jq i v ad;exact⟨a8,bx,bE,b7.b8 fR⟩,λ_=>⟨cT,az⟩⟩
    · obtain⟨l,aK,bb,c0,ea⟩:=ax.mn b x G;have CJ:=ax.mi b l aK;have cJ:=wG b x l G aK;refine⟨l,fR _ _ aK,bb,λi v ad=> ?_,λaE=>⟨(ea aE).1,λi ai=> ?_⟩⟩
      · obtain⟨a8,bx,bE,b7⟩:=c0 i v ad;exact⟨a8,bx,by rw[(yp _ CJ cJ).1];exact bE,b7.b8 fR⟩
      · have:=(ea aE).2 i ai;rw[(yp ⟨l.c,l.o+i,none⟩ CJ cJ).1,(yp ⟨l.c,l.o+i,none⟩ CJ cJ).2];exact this
  · rw[W.nv]at E av;unfold hN at br cW;split at E
    · rename_i e;rw[if_neg (by rw[<-e];exact Ne.symm aH)]at av;rw[if_pos e]at br;rw[if_neg (by rw[<-e];exact Ne.symm aH)]at cW;cases br;exact Ne.symm (wG cd ic dh av cW)
    · rename_i e;rw[if_neg e]at br;split at av
      · rename_i et;rw[if_pos et]at cW;cases cW;exact wG b x l E br
      · rename_i et;rw[if_neg et]at cW;exact ax.rA b x cd ic l dh E I av aH br cW
  · obtain⟨l,aB⟩:=ax.ua b bc hb;exact⟨l,fR _ _ aB⟩
  · obtain⟨aK,bb⟩:=W.uU hb;have cJ:b≠id:= λe=>by
      subst e;obtain⟨l,aB⟩:=ax.ua b bc bb;rw[aw]at aB;cases aB
    rw[W.nv,if_neg cJ]at aK;obtain⟨l,de,a9,gd,hj,ix,jz⟩:=ax.maps b bc (W.kq aK bb);exact⟨l,de,a9,fR _ _ gd,hj,by rw[amu l.c (ax.mi b l gd) (wG b _ l aK gd)];exact ix,jz.b8 fR⟩
theorem dB.kL(ax:dB aV an m w)(b:Nat):dB aV an (m.a0 b none) w:=by
  have aP: ∀cd x,(m.a0 b none).X cd=some x->cd≠b/\m.X cd=some x:=by
    intro cd x h;rw[W.nv]at h;split at h
    · split at h<;>cases h
    · rename_i e;exact⟨e,h⟩
  exact⟨ax.mf,ax.mi,λcd x G=>ax.mn cd x (aP cd x G).2,λdd cb ee cG gu ga E I av=>ax.rA dd cb ee cG gu ga (aP _ _ E).2 I (aP _ _ av).2,ax.ua,λcd bc hb=>by obtain⟨aK,bb⟩:=W.uU hb;exact ax.maps cd bc (W.kq (aP _ _ aK).2 bb)⟩
theorem VM(b k:Nat)(aa:k≠b): ∀(cz:List Value) (o:Nat) (w:World),(w.setCells b o cz).heap[k]?=w.heap[k]?
  |[],_,_=>rfl
  |v::cz,o,w=>by rw[World.setCells,VM b k aa cz];simp[World.setCell,Array.getElem?_modify,Ne.symm aa]
theorem Oy(b:Nat): ∀(cz:List Value) (o:Nat) (w:World),(w.setCells b o cz).heap.size=w.heap.size
  |[],_,_=>rfl
  |v::cz,o,w=>by rw[World.setCells,Oy b cz];simp[World.setCell]
theorem JX{aV b:Nat}(hb:aV<=b): ∀(cz:List Value) (o:Nat) (w:World),Below aV w (w.setCells b o cz)
  |[],_,_=>Below.refl _ _
  |v::cz,o,w=>((Below.refl aV w).setCell (p:=⟨b,o,none⟩) hb v).trans (JX hb cz _ _)
theorem Xt: ∀(cz:List Value) (off:Nat) (cs:List Value) (i:Nat),off+cz.length<=cs.length->(gL cs off cz)[i]?=if off<=i/\i<off+cz.length then cz[i-off]? else cs[i]?
  |[],off,cs,i,_=>by simp[gL];intro E I;omega
  | v::cz,off,cs,i,h=>by
    simp only[gL];simp only[pI]at h;rw[Xt cz (off+1) (cs.set off v) i (by simp;omega),s5];by_cases E:off=i
    · subst E;rw[if_neg (by omega),if_pos rfl,if_pos (by omega),if_pos (by simp)];simp
    · by_cases I:off+1<=i/\i<off+1+cz.length
      · rw[if_pos I,if_pos ⟨by omega,by simp;omega⟩,show i-off=(i-(off+1))+1 by omega];simp
      · rw[if_neg I,if_neg E,if_neg (by simp;omega)]
theorem dB.store(ax:dB aV an m w){b:Nat}{x:fB}{l:tb}(aP:m.X b=some x)(aE:x.own=true)(aB:an b=some l){off:Nat}{cs fb:List Value}(aw:c5 an cs fb)(p3: ∀v∈cs,S v=true)
    (h:off+cs.length<=x.cells.length):dB aV an (m.a0 b (some ⟨gL x.cells off cs,x.own⟩)) (w.setCells l.c (l.o+off) fb):=by
  have hb:=W.a6 aP;have eA:=aw.1;obtain⟨dh,jr,a8,bE,b7⟩:=ax.mn b x aP;rw[aB]at jr;cases jr;have sF: ∀cd ic Nw,m.X cd=some ic->cd≠b->an cd=some Nw->Nw.c≠l.c:= λcd ic Nw E I av=>Ne.symm (ax.rA b x cd ic l Nw aP aE E (Ne.symm I) aB av);refine⟨ax.mf,λcd dh bS=>by rw[Oy];exact ax.mi cd dh bS,λcd ic G=> ?_,λdd cb ee cG gu ga E I av aH br cW=> ?_,ax.ua,λcd bc fH=> ?_⟩
  · rw[W.nv]at G;split at G
    · rename_i e;cases G;subst e;refine⟨l,aB,by rw[Fl];exact a8,λi v ad=> ?_,λ_=>⟨(b7 aE).1,λi ai=> ?_⟩⟩
      · rw[Xt _ _ _ _ h]at ad;split at ad
        · rename_i ai;obtain⟨bt,a2,Gn⟩:=aw.X ad;refine⟨p3 v (gJ ad),bt,?_,Gn⟩;have bj:i-off<fb.length:=(by omega);have:=World.cell?_setCells_in l.c fb (l.o+off) w (λj oF=>by
            have:=((b7 aE).2 (off+j) (by omega)).1
            rwa [<-pJ]at this) (i-off) bj
          rw[show l.o+off+(i-off)=l.o+i by omega]at this;rw[this];rw[cD bj]at a2;exact a2
        · rename_i ai;obtain⟨aK,bx,bb,c0⟩:=bE i v ad;refine⟨aK,bx,?_,c0⟩;rw[World.cell?_setCells_out l.c fb (l.o+off) w _ (λ_ _=>by show l.o+i<l.o+off\/l.o+off+fb.length<=l.o+i;omega)];exact bb
      · have bd:=(b7 aE).2 i ai;refine⟨?_,by rw[World.frozen?_setCells];exact bd.2⟩;by_cases ln:off<=i/\i<off+fb.length
        · have:=World.cell?_setCells_in l.c fb (l.o+off) w (λj oF=>by
            have:=((b7 aE).2 (off+j) (by omega)).1
            rwa [<-pJ]at this) (i-off) (by omega)
          rw[show l.o+off+(i-off)=l.o+i by omega]at this;rw[this];rfl
        · rw[World.cell?_setCells_out l.c fb (l.o+off) w _ (λ_ _=>by show l.o+i<l.o+off\/l.o+off+fb.length<=l.o+i;omega)];exact bd.1
    · rename_i e;obtain⟨dh,aK,bb,c0,ea⟩:=ax.mn cd ic G;have cJ:=sF cd ic dh G e aK;have ar: ∀i,(w.setCells l.c (l.o+off) fb).cell? ⟨dh.c,dh.o+i,none⟩=w.cell? ⟨dh.c,dh.o+i,none⟩:= λi=>World.cell?_setCells_out _ _ _ _ _ (λaQ _=>absurd aQ cJ);refine⟨dh,aK,bb,λi v ad=>by rw[ar];exact c0 i v ad,λjt=>⟨(ea jt).1,λi ai=>by rw[ar,World.frozen?_setCells];exact(ea jt).2 i ai⟩⟩
  · have p0: ∀cd ic,(m.a0 b (some ⟨gL x.cells off cs,x.own⟩)).X cd=some ic-> ∃aiD,m.X cd=some aiD/\aiD.own=ic.own:=by
      intro cd ic G;rw[W.nv]at G;split at G
      · rename_i e;cases G;exact⟨x,by rw[e];exact aP,rfl⟩
      · exact⟨ic,G,rfl⟩
    obtain⟨nj,gd,hj⟩:=p0 dd cb E;obtain⟨se,ix,jz⟩:=p0 ee cG av;exact ax.rA dd nj ee se gu ga gd (by rw[hj];exact I) ix aH br cW
  · obtain⟨aK,bb⟩:=W.uU fH;rw[W.nv]at aK;by_cases e:cd=b
    · subst e;rw[if_pos rfl,if_pos hb]at aK;injection aK with aK;have ar:x.cells=[]:=by
        have:=congrArg (λy=>y.cells.length) aK;simp only[Fl,xM]at this;exact qu.1 this
      have a2:fb=[]:=(by rw[ar]at h;simp at h;exact qu.1 (by rw[<-eA,h.2];rfl));subst a2;have G:x=⟨[],true⟩:=(by cases x;simp at ar aE;rw[ar,aE]);obtain⟨ga,de,a9,gd,hj,ix,jz⟩:=ax.maps cd bc (W.kq (by rw[aP,G]) bb);exact⟨ga,de,a9,gd,hj,ix,jz⟩
    · rw[if_neg e]at aK;obtain⟨ga,de,a9,gd,hj,ix,jz⟩:=ax.maps cd bc (W.kq aK bb);exact⟨ga,de,a9,gd,hj,by rw[VM _ _ (sF cd _ ga aK e gd)];exact ix,jz⟩
end
def o4(P:Program)(o:Oper)(k:ag)(a:Act)(aV:Nat)(an:eJ)(A:aR)(m:W)(w:World)(id:Nat):Prop:=
  ∃bx c3 cM,jd P o a w bx c3/\gl an cM/\(∀b,b≠id->cM b=an b)/\dF cM (k.val id A m) bx/\dB aV cM (k.gG id A m) c3/\Below aV w c3
section
variable {P:Program} {w:World} {o:Oper} {a:Act} {an:eJ} {cZ:Nat} {A:aR} {m:W} {aV id:Nat}
theorem vP{l:tb}: ∀b,b≠id->hN an id l b=an b:= λb h=>by simp[hN,h]
theorem dB.Br(ax:dB aV an m w){c8:World}(a3:c8.heap=w.heap)(cT:aV<=w.heap.size)(ep:id<m.next)(aw:an id=none){cs:List Value}{ds:Array Value}{e:TypeId}{bF:Nat×Nat}{n:Nat}
    (eA:cs.length<=n) (az:n<=ds.size) (jq: ∀(i:Nat) v,cs[i]?=some v->S v=true/\ ∃bx,ds[i]?=some bx/\dF an v bx) (eX: ∀i,i<n-> ¬(bF.1<=i/\i<bF.2)):
    dB aV (hN an id ⟨w.heap.size,0,n⟩) (m.a0 id (some ⟨cs,true⟩)) (c8.alloc (.cells ds e bF)):=by
  have ju:(c8.alloc (.cells ds e bF)).heap.size=w.heap.size+1:=by show(c8.heap.push _).size=_;rw[Array.size_push,a3]
  have pf:(c8.alloc (.cells ds e bF)).heap[w.heap.size]?=some (.cells ds e bF):=by show(c8.heap.push _)[_]?=_;rw[a3];simp
  refine ax.WZ ep aw (λb x l G aB=>by have:=ax.mi b l aB;omega) (by omega) (by omega) cT (λef E I=> ?_) (λk E _=>by show(c8.heap.push _)[k]?=_;rw[a3,Jw,if_neg (by omega)]) eA (λi v ad=> ?_) (λi ai=> ?_)
  · have:(c8.alloc (.cells ds e bF)).heap[ef.block]?=w.heap[ef.block]?:=by
      show(c8.heap.push _)[_]?=_;rw[a3,Jw,if_neg (by omega)]
    exact⟨World.cell?_of_block (w:=w) this,World.frozen?_of_block (w:=w) this⟩
  · obtain⟨a8,bx,bE,b7⟩:=jq i v ad;refine⟨a8,bx,?_,b7⟩;simp[World.cell?,pf,bE]
  · have ln:i<ds.size:=(by omega);refine⟨by simp[World.cell?,pf,ln],?_⟩;have:=eX i ai;simp only[World.frozen?,pf,Nat.zero_add];simpa using this
theorem th{c8:World}(a3:c8.heap=w.heap)(aE:c8.os=w.os)(bA:c8.tape=w.tape)(a2:c8.output=w.output)(cT:aV<=w.heap.size)(x:Obj):Below aV w (c8.alloc x):=by have:Below aV w c8:=⟨aE,bA,a2,by rw[a3];exact ey _,λk _=>by rw[a3]⟩;exact this.alloc (by rw[a3];exact cT) x
theorem PL{cs:List Value}{ds:Array Value}(h:c5 an cs ds.toList)(E: ∀v∈cs,S v=true): ∀(i:Nat) v,cs[i]?=some v->S v=true/\ ∃bx,ds[i]?=some bx/\dF an v bx:=by intro i v ad;obtain⟨y,af,tI⟩:=h.X ad;exact⟨E v (gJ ad),y,by simpa using af,tI⟩
theorem aDu{e:TypeId}{J:List Value}(bB:o.op= .alloc e)(bK:pF P e=some J)(ax:dB aV an m w)(cT:aV<=w.heap.size)(ep:id<m.next)(aw:an id=none):o4 P o (.c9 J) a aV an A m w id:=by
  obtain⟨bG,hO,ai,n5,m0,e1,eA⟩:=zs bK;refine⟨.pointer (some ⟨w.heap.size,0,none⟩),w.alloc (.cells hO.cells e),hN an id ⟨w.heap.size,0,J.length⟩,.inl ?_,sd aw,vP,?_,?_,th rfl rfl rfl rfl cT _⟩
  · simp only[execOp,bB,Instr.alloc,Sem.run_bind,zeroValue,typeInfo,run_program,ai,Sem.run_pure,Result.andThen_ok,n5,newVar,newRow];rfl
  · exact .cw (off:=0) (l:=⟨w.heap.size,0,J.length⟩) (by simp[hN])
  · refine ax.Br rfl cT ep aw (ey _) (by rw[<-m0];simp) (PL (by rw[m0];exact c5.cH an e1) λv ad=>wA (eQ.1 e1 v ad)) (λi _=>by simp)
theorem aDx{e:TypeId}{x:Operand}(bB:o.op= .box e x)(G:cX x=true)(K:gK an cZ A a)(au:(ag.mz x).ok A m=true)(ax:dB aV an m w)(cT:aV<=w.heap.size)(ep:id<m.next)(aw:an id=none):o4 P o (.mz x) a aV an A m w id:=by
  have ad:=V8 (K.Z G);have p3:=V7 (K.Z G) au;have aB:(a.eval x).cells.size=(O (Z A x)).length:=by have:=ad.1;simp at this;exact this.symm
  refine⟨.pointer (some ⟨w.heap.size,0,none⟩),w.alloc (.cells (a.eval x).cells e),hN an id ⟨w.heap.size,0,(O (Z A x)).length⟩,.inl ?_,sd aw,vP,?_,?_,th rfl rfl rfl rfl cT _⟩
  · simp only[execOp,bB,Instr.box,Sem.run_bind,newVar,newRow];rfl
  · exact .cw (off:=0) (l:=⟨w.heap.size,0,(O (Z A x)).length⟩) (by simp[hN])
  · exact ax.Br rfl cT ep aw (ey _) (by omega) (PL ad p3) (λi _=>by simp)
theorem JP{v:Value}{n:Nat}(h:gD m v n=true): ∃b off x,v= .pointer (some ⟨b,off,none⟩)/\m.X b=some x/\off+n<=x.cells.length:=by
  unfold gD at h;split at h
  · rename_i ef;simp only[a1,zB]at h;obtain⟨lK,h⟩:=h;split at h
    · rename_i x G;obtain⟨b,off,aC⟩:=ef;simp only at lK G h;subst lK;exact⟨b,off,x,rfl,G,by simpa using h⟩
    · cases h
  · cases h
theorem UY{t:TypeId}{dp:Bool}{n:Nat}{ef:Addr}{ds:List Value}(tB:oU P t=some dp)(az:kS P t=some n)(E:dp=true\/n=1)(aB:ds.length=n)(ar: ∀(j:Nat) bt,ds[j]?=some bt->w.cell? (ef.add j)=some bt):
    (loadVar t ef).run P w= .ok (if dp then .agg ds.toArray else ds.headD undef) w:=by
  obtain⟨bG,ai,rfl⟩:=sb az;simp only[loadVar,Sem.run_bind,V0 tB,Result.andThen_ok];cases dp
  · have I:bG.size=1:=(by simpa using E);rw[I]at aB;obtain⟨d,rfl⟩:=w5 aB;have av:=ar 0 d rfl;have e:ef.add 0=ef:=(by simp[Addr.add]);rw[e]at av;simp only[kB,if_false,List.headD_cons];simp[Go.load,Sem.run,av]
  · simp only[if_true,Sem.run_bind,sizeOf,typeInfo,run_program,ai,Sem.run_pure,Result.andThen_ok];have:=run_loadCells_list (P:=P) w ef ds ar;rw[aB]at this;simp[this]
theorem T1{dp:Bool}{n:Nat}{v bx:Value}(ax:dB aV an m w)(ad:dF an v bx)(au:gD m v n=true)(E:dp=true\/n=1):
    ∃(ef:Addr) (ds:List Value),bx= .pointer (some ef)/\ds.length=n/\(∀(j:Nat) bt,ds[j]?=some bt->w.cell? (ef.add j)=some bt)/\dF an (kM m dp n v) (if dp then .agg ds.toArray else ds.headD undef):=by
  obtain⟨b,off,x,rfl,G,Gf⟩:=JP au;obtain⟨l,aB,_,rfl⟩:=ad.p9;obtain⟨ds,fs,g7,jl,nL⟩:=ax.cells G aB Gf;refine⟨_,ds,rfl,g7,jl,?_⟩;simp only[kM];cases dp
  · have I:n=1:=(by simpa using E);subst I;obtain⟨d,rfl⟩:=w5 g7;simp only[kB,if_false,List.headD_cons];have eA:=fs.1;simp only[pI,xM]at eA;obtain⟨bt,a2⟩:=w5 eA;rw[a2]at fs⊢;exact fs.2 0 bt d rfl rfl
  · refine fs.agg λbt a2=> ?_;obtain⟨dh,jr,a8,bE,b7⟩:=ax.mn b x G;simp only[hP,G]at a2;obtain⟨i,ai,Q2⟩:=j4 (B5 (xJ a2));exact(bE i bt (by rw[cD ai,Q2])).1
theorem aDC{t:TypeId}{x:Operand}{dp:Bool}{n:Nat}(bB:o.op= .load t x)(tB:oU P t=some dp)(az:kS P t=some n)(G:cX x=true)(K:gK an cZ A a)(ax:dB aV an m w)
    (au:(ag.k5 dp n x).ok A m=true):o4 P o (.k5 dp n x) a aV an A m w id:=by
  simp only[ag.ok,a1,uG,e2]at au;obtain⟨ef,ds,E,I,av,aH⟩:=T1 ax (K.Z G) au.1 au.2;refine⟨_,w,an,.inl ?_,gl.refl an,λ_ _=>rfl,aH,ax,Below.refl _ _⟩;simp only[execOp,bB,E,Instr.loadAt,Instr.sureAddr,Sem.run_bind,Sem.run_pure,Result.andThen_ok,UY tB az au.2 I av]
theorem aDH{t e:TypeId}{x:Operand}{cB ai fr:Option Operand}{n J:Nat}(bB:o.op= .slice t x cB ai fr)(aA:P.underlying t=some (.array n e))(bK:kS P e=some J)
    (G:cX x=true) (E:cB=none) (I:ai=none) (av:fr=none) (K:gK an cZ A a) (ax:dB aV an m w) (au:(ag.pC J n x).ok A m=true):o4 P o (.pC J n x) a aV an A m w id:=by
  subst E I av;simp only[ag.ok,a1,e2]at au;obtain⟨au,aKi⟩:=au;obtain⟨b,off,y,aJ,af,Gf⟩:=JP au;have aw:=K.Z G;rw[aJ]at aw;obtain⟨l,aB,_,aU⟩:=aw.p9;obtain⟨bG,ai,rfl⟩:=sb bK;obtain⟨dh,jr,a8,bE,b7⟩:=ax.mn b y af;rw[aB]at jr;cases jr;refine⟨_,w,an,aFp bB aA ai aU,gl.refl an,λ_ _=>rfl,?_,ax,Below.refl _ _⟩;simp only[ag.val,aJ,Fh];by_cases az:n=0
  · rw[if_pos az];subst az;exact .slice aB (.inl ⟨rfl,rfl⟩) (ey _) (by omega)
  · rw[if_neg az];have aA:(⟨l.c,l.o+off,none⟩:Addr).add (0*bG.size)=⟨l.c,l.o+off,none⟩:=by
      unfold Addr.add;simp
    rw[aA];exact .slice aB (.inr ⟨rfl,by simp only[Nat.sub_zero];omega⟩) (ey _) (by omega)
theorem aDI{t:TypeId}{x v:Operand}{n:Nat}(bB:o.op= .store t x v)(az:kS P t=some n)(G:cX x=true)(ad:cX v=true)(K:gK an cZ A a)(ax:dB aV an m w)
    (au:(ag.store n x v).ok A m=true):o4 P o (.store n x v) a aV an A m w id:=by
  simp only[ag.ok,a1,e2]at au;obtain⟨⟨⟨E,I⟩,ams⟩,av⟩:=au;have p3:=V7 (K.Z ad) ams;obtain⟨b,off,y,aJ,af,Gf⟩:=JP E;have aw:=K.Z G;rw[aJ]at aw;obtain⟨l,aB,_,aU⟩:=aw.p9;have jt:y.own=true:=by simpa[aJ,pT,af]using I
  have ar:=V8 (K.Z ad);obtain⟨bG,ai,rfl⟩:=sb az;have ju:(a.eval v).cells.size=bG.size:=by have:=ar.1;simp at this;omega
  obtain⟨dh,jr,a8,bE,b7⟩:=ax.mn b y af;rw[aB]at jr;cases jr;have amv: ∀bt∈(a.eval v).cells.toList,bt.oneCell'=true:=by intro bt a2;obtain⟨i,gW,Q2⟩:=j4 a2;have ln:i<(O (Z A v)).length:=(by rw[ar.1];exact gW);have:=(ar.2 i _ bt (cD ln) (by rw[cD gW,Q2])).S;rw[Up,this];exact p3 _ (jQ ln)
  refine⟨undef,w.setCells l.c (l.o+off) (a.eval v).cells.toList,an,.inr ⟨?_,rfl⟩,gl.refl an,λ_ _=>rfl,dF.undef an,?_,JX (b7 jt).1 _ _ _⟩
  · have ej:=run_storeCells_cells (P:=P) l.c (l.o+off) (a.eval v).cells.toList 0 w (λj bj=>by
      have:=((b7 jt).2 (off+j) (by simp at bj;omega)).1
      rwa [<-pJ]at this) (λj bj=>by
      have:=((b7 jt).2 (off+j) (by simp at bj;omega)).2
      rwa [<-pJ]at this) amv
    simp only[Nat.add_zero]at ej;simp[execOp,bB,aU,Instr.storeAt,Instr.sureAddr,storeVar,sizeOf,typeInfo,ai,ju,ej]
  · simp only[ag.gG,aJ,nP,af];exact ax.store af jt aB ar p3 (by omega)
end
theorem Kv{J:List Value}(bK:0<J.length): ∀(n i:Nat),i<n*J.length->((List.replicate n J).flatten)[i]?=J[i%J.length]?
  |0,i,h=>by omega
  | n+1,i,h=>by
    rw[Jx,oY,xI];split
    · rename_i ai;rw[Nat.mod_eq_of_lt ai]
    · rename_i ai;have I:i-J.length<n*J.length:=(by rw[ly]at h;omega);rw[Kv bK n _ I,Nat.mod_eq_sub_mod (by omega:J.length<=i)]
theorem zX(J:List Value)(n:Nat):((List.replicate n J).flatten).length=n*J.length:=by simp[List.length_flatten]
theorem NH{J:Array Value}(bK:0<J.size)(n:Nat):(madeCells J (n*J.size)).toList=(List.replicate n J.toList).flatten:=by
  apply EY;intro i;by_cases ai:i<n*J.size
  · rw[Kv (by simpa using bK) n i (by simpa using ai)];have ax:i%J.size<J.size:=Nat.mod_lt _ bK;simp[madeCells,ai,ax]
  · rw[qv (by rw[Array.length_toList,size_madeCells];omega),qv (by rw[zX];simp;omega)]
theorem Ku{J:List Value}(p:Value->Prop)(h: ∀v∈J,p v)(n:Nat): ∀v∈(List.replicate n J).flatten,p v:=by intro v ad;simp only[List.mem_flatten,List.mem_replicate]at ad;obtain⟨l,⟨_,rfl⟩,I⟩:=ad;exact h v I
section
variable {P:Program} {w:World} {o:Oper} {a:Act} {an:eJ} {cZ:Nat} {A:aR} {m:W} {aV id:Nat}
theorem aDy{t e:TypeId}{n:Nat}{ps:Array (Nat×Operand)}{J:List Value}{h2:List (Nat×Nat×Operand)}(bB:o.op= .buildSlice t n ps)(bA:P.underlying t=some (.slice e))(bK:pF P e=some J)
    (bd:zT J.length ps.toList=some h2) (dk:0<J.length) (aJQ:n*J.length<=16777216) (K:gK an cZ A a) (ax:dB aV an m w) (cT:aV<=w.heap.size) (ep:id<m.next) (aw:an id=none)
    (au:(ag.gM J.length n (List.replicate n J).flatten h2).ok A m=true):o4 P o (.gM J.length n (List.replicate n J).flatten h2) a aV an A m w id:=by
  obtain⟨bG,hO,ai,n5,m0,e1,eA⟩:=zs bK;obtain⟨aK,bb⟩:=P2 _ _ bd;have u6:hO.cells.size=bG.size:=by rw[<-eA,<-m0];simp
  have jq:(madeCells hO.cells (n*hO.cells.size)).toList=(List.replicate n J).flatten:=by rw[NH (by omega),m0]
  have sz: ∀v∈(List.replicate n J).flatten,dZ v=true:=Ku (λv=>dZ v=true) (λv ad=>eQ.1 e1 v ad) n;simp only[ag.ok]at au;obtain⟨ds,E,I,FW⟩:=Kt K (λi=>some (i*bG.size,bG.size)) ps.toList h2 (List.replicate n J).flatten (madeCells hO.cells (n*hO.cells.size)) ⟨aK,λi p q p4 bd=>by obtain⟨aJ,aU,cu,gO⟩:=bb i p q p4 bd;exact⟨aJ,aU,by rw[cu,gO,eA]⟩⟩ (by rw[jq];exact c5.cH an (eQ.2 sz)) (λv ad=>wA (sz v ad)) au;have CG:(l5 (List.replicate n J).flatten A h2).length=ds.size:=by have:=I.1;simpa using this
  have kd:(l5 (List.replicate n J).flatten A h2).length=n*J.length:=by
    have key: ∀(h2:List (Nat×Nat×Operand)) (cs:List Value),(l5 cs A h2).length=cs.length:=by
      intro h2;induction h2 with
      |nil=>intro cs;rfl
      |cons q h2 cx=>intro cs;obtain⟨a8,bE,b7⟩:=q;simp only[l5];rw[cx,Fl]
    rw[key,zX]
  refine⟨.slice (some ⟨w.heap.size,0,none⟩) n n,w.alloc (.cells ds e),hN an id ⟨w.heap.size,0,ds.size⟩,.inl ?_,sd aw,vP,?_,?_,th rfl rfl rfl rfl cT _⟩
  · have av:(ps.map λp=>(p.1,a.eval p.2)).toList=ps.toList.map λp=>(p.1,a.eval p.2):=by simp
    have Rx:(zeroValue e).run P w= .ok hO w:=(by simp[zeroValue,typeInfo,ai,n5]);have alv: ¬(2^24<n*bG.size):=(by rw[<-eA];omega);rw[<-av]at E;simp only[execOp,bB,Instr.buildSlice,Sem.run_bind,run_underlying bA,sizeOf,typeInfo,run_program,ai,Sem.run_pure,Result.andThen_ok,gt_iff_lt,alv,if_false,Sem.run_ite];by_cases wI:n*bG.size=0
    · have qR:madeCells hO.cells (n*hO.cells.size)= #[]:=(by rw[u6,wI];simp[madeCells]);rw[qR]at E;simp only[wI,if_true];have aml:Array.map (λx=>(#[]:Array Value)[x%(#[]:Array Value).size]!) (Array.range 0)= #[]:=(by simp);rw[aml,E];simp only[newRow,Sem.run_bind];rfl
    · have qR:Array.map (λx=>hO.cells[x%hO.cells.size]!) (Array.range (n*bG.size))=madeCells hO.cells (n*hO.cells.size):=(by unfold madeCells;rw[u6]);simp only[wI,if_false,Rx,Result.andThen_ok,qR,E];simp only[newRow,Sem.run_bind];rfl
  · exact .slice (off:=0) (l:=⟨w.heap.size,0,ds.size⟩) (by simp[hN]) (.inr ⟨rfl,by show 0+n*J.length<=ds.size;omega⟩) (ey _) (by have:n*1<=n*J.length:=Nat.mul_le_mul_left _ dk;unfold maxLen;omega)
  · simp only[ag.gG];exact ax.Br rfl cT ep aw (by omega) (ey _) (PL I FW) (λi _=>by simp)
theorem aDE{t e:TypeId}{bG:TypeInfo}{J:List Value}{l c:Operand}(bB:o.op= .makeSlice t l c)(bA:P.underlying t=some (.slice e))(bK:pF P e=some J)(ai:P.info? e=some bG)(aB:cX l=true)(ar:cX c=true)
    (K:gK an cZ A a) (ax:dB aV an m w) (cT:aV<=w.heap.size) (ep:id<m.next) (aw:an id=none)
    (au:(ag.kN J.length bG.bytes J l c).ok A m=true):o4 P o (.kN J.length bG.bytes J l c) a aV an A m w id:=by
  obtain⟨RH,hO,gW,n5,m0,e1,eA⟩:=zs bK;rw[ai]at gW;cases gW;have u6:hO.cells.size=bG.size:=by rw[<-eA,<-m0];simp
  simp only[ag.ok,a1,e2]at au;obtain⟨⟨⟨⟨⟨⟨E,I⟩,av⟩,aH⟩,br⟩,cW⟩,fu⟩:=au;obtain⟨aJ,azS,L,ck⟩:=qV (K.Z aB) E;obtain⟨aU,azP,C,KI⟩:=qV (K.Z ar) I;simp only[ck,KI,eZ]at av aH br cW;have hZ:=run_make (P:=P) w t e bG hO bA ai n5 azS azP L C av aH (by rw[Int.mul_comm];omega) cW;have sz: ∀v∈(List.replicate L.toNat J).flatten,dZ v=true:=Ku (λv=>dZ v=true) (λv ad=>eQ.1 e1 v ad) _;have fR:L.toNat*J.length<=C.toNat*J.length:=ri _ (by omega);refine⟨_,_,hN an id ⟨w.heap.size,0,C.toNat*J.length⟩,.inl (by simp only[execOp,bB,aJ,aU,ck,KI,Sem.run_bind,hZ,Result.andThen_ok];rfl),sd aw,vP,?_,?_,th rfl rfl rfl rfl cT _⟩
  · simp only[ag.val,ck,eZ];exact .slice (off:=0) (l:=⟨w.heap.size,0,C.toNat*J.length⟩) (by simp[hN]) (.inr ⟨by simp,by simp⟩) (by omega) (by unfold maxLen;omega)
  · simp only[ag.gG,ck,eZ];refine ax.Br rfl cT ep aw (by rw[zX];exact fR) (by rw[size_madeCells,eA];exact ey _) (λi v ad=> ?_) (λi _=>by simp);have ln:i<L.toNat*J.length:=(by have:=(dO.1 ad).1;rwa [zX]at this);refine⟨wA (sz v (gJ ad)),v,?_,.cH (sz v (gJ ad))⟩;have hK:(madeCells hO.cells (C.toNat*bG.size)).toList=(List.replicate C.toNat J).flatten:=(by rw[<-u6,NH (by omega),m0]);rw[<-EW,hK,Kv fu _ _ (by omega)];rw[Kv fu _ _ ln]at ad;exact ad
theorem ag9: ∀(qg:List Int) (dH:ByteArray),qg.foldl (λr n=>r.push (UInt8.ofNat n.toNat)) dH=dH++⟨(qg.map λn=>UInt8.ofNat n.toNat).toArray⟩
  | [],dH=>by simp only[List.foldl_nil,xP];apply ByteArray.ext;simp
  | n::qg,dH=>by simp only[xL,mO];rw[ag9 qg];apply ByteArray.ext;simp[ByteArray.push]
theorem aDA{s d e:TypeId}{x:Operand}(bB:o.op= .convert s d x)(pd:P.underlying s=some (.slice e))(pb:P.underlying d=some .string)(bZ:P.underlying e=some (.int .u8))(G:cX x=true)
    (K:gK an cZ A a) (ax:dB aV an m w) (au:(ag.mT x).ok A m=true):o4 P o (.mT x) a aV an A m w id:=by
  simp only[ag.ok,a1]at au;obtain⟨E,I⟩:=au;have aw:=K.Z G;have conv: ∀v,a.eval x=v->(∃p l c,v= .slice p l c)-> ∀b:ByteArray,(Conv.bytesToString v).run P w= .ok (.string b) w->jd P o a w (.string b) w:=by intro v ad ⟨p,l,c,ab⟩ b hb;subst ab;refine .inl ?_;cases p<;>simp[execOp,bB,ad,convert,underlying,pd,pb,bZ,hb]
  cases a2:Z A x<;>simp only[a2,fS]at E<;>try cases E
  rename_i p len c;rw[a2]at aw;refine⟨.string (toBytes (gj m 1 (Z A x))),w,an,?_,gl.refl an,λ_ _=>rfl,.cH rfl,ax,Below.refl _ _⟩;cases p with
  | none=>have ad:=aw.h7 (by simpa[dZ]using E);refine conv _ ad ⟨_,_,_,rfl⟩ _ ?_;simp only[Conv.bytesToString,a2,gj,toBytes];rfl
  | some ef=>
    simp only[a1,zB,beq_iff_eq]at E;obtain⟨⟨lK,tC⟩,E⟩:=E;split at E
    · rename_i y af;simp only[Nat.mul_one,e2]at E;obtain⟨l,dG,cap,aB,_,ad,az,Ag,pY⟩:=aw.m1;refine conv _ ad ⟨_,_,_,rfl⟩ _ ?_;simp only[a2,gj,Nat.mul_one]at I⊢;obtain⟨ds,fs,g7,jl,nL⟩:=ax.cells af aB E;have ja: ∃qg:List Int,ds=qg.map (Value.int .u8)/\hP m ef.block ef.off len=qg.map (Value.int .u8):=by
        have alo: ∀(fb cz:List Value),fb.all AY=true->c5 an fb cz-> ∃qg:List Int,cz=qg.map (Value.int .u8)/\fb=qg.map (Value.int .u8):=by
          intro fb;induction fb with
          |nil=>intro cz _ h;have:=h.1;simp at this;exact⟨[],by simp[qu.1 this.symm],rfl⟩
          | cons bt fb cx=>
            intro cz aA h;cases cz with
            |nil=>have:=h.1;simp at this
            | cons v cz=>simp only[nm,a1]at aA;obtain⟨qg,aK,bb⟩:=cx cz aA.2 ⟨by simpa using h.1,λi p q ab bd=>h.2 (i+1) p q (by simpa using ab) (by simpa using bd)⟩;have dk:=h.2 0 bt v rfl rfl;have Zr:=aA.1;cases bt<;>simp[AY]at Zr;rename_i k n;cases k<;>simp at Zr;exact⟨n::qg,by simp[aK,dk.qU],by simp[bb]⟩
        exact alo _ _ I fs
      obtain⟨qg,amr,Zf⟩:=ja;subst amr;rcases az with⟨rfl,rfl⟩|⟨rfl,az⟩
      · have wI:qg=[]:=(by simp at g7;exact g7);subst wI;have:=run_bytesToString (P:=P) w dG 0 0 [] (by simp[loadCells,loadCellsFrom]);rw[this,Zf];rfl
      · have Y7:=run_loadCells_list (P:=P) w ⟨l.c,l.o+ef.off,none⟩ _ jl;rw[g7]at Y7;rw[run_bytesToString w _ len cap qg (by rw[Y7]),ag9,Zf];congr 2;apply ByteArray.ext;simp[toBytes,byteOf,Function.comp_def]
    · cases E
end
section
variable {P:Program} {w:World} {o:Oper} {a:Act} {an:eJ} {cZ:Nat} {A:aR} {m:W} {aV id:Nat}
theorem aCG(t qq e:TypeId)(i:TypeInfo)(bA:P.underlying t=some (.slice e))(ai:P.info? e=some i)(base q:Option Addr)(uo BJ c:Nat)(ar:uo<=BJ):
    (Builtin.append_ #[t,t] qq #[.slice base uo BJ,.slice q 0 c]).run P w= .ok (.slice base uo BJ) w:=by
  have aT:(Builtin.firstCells i.size 0 (.slice q 0 c)).run P w= .ok #[] w:=by cases q<;>simp[Builtin.firstCells,loadCells,loadCellsFrom]
  cases base<;>simp[Builtin.append_,run_underlying bA,sizeOf,typeInfo,ai,Builtin.lenOf,ar,aT,storeCells]
theorem aCF(t qq e:TypeId)(i:TypeInfo)(bA:P.underlying t=some (.slice e))(ai:P.info? e=some i)(c o uo BJ:Nat)(ef:Addr)(n XU:Nat)(lq:List Value)(aB:lq.length=n*i.size)
    (amp: ∀(j:Nat) bt,lq[j]?=some bt->w.cell? (ef.add j)=some bt) (E: ∀bt∈lq,bt.oneCell'=true) (Gk:uo+n<=BJ)
    (ye: ∀j,j<lq.length->(w.cell? ⟨c,o+uo*i.size+j,none⟩).isSome=true) (eX: ∀j,j<lq.length->w.frozen? ⟨c,o+uo*i.size+j,none⟩=false):
    (Builtin.append_ #[t,t] qq #[.slice (some ⟨c,o,none⟩) uo BJ,.slice (some ef) n XU]).run P w= .ok (.slice (some ⟨c,o,none⟩) (uo+n) BJ) (w.setCells c (o+uo*i.size) lq):=by
  have aT:=run_firstCells_some (P:=P) w i.size n ef n XU lq aB amp;have ej:=run_storeCells_cells (P:=P) c (o+uo*i.size) lq 0 w (by simpa using ye) (by simpa using eX) E;simp only[Nat.add_zero]at ej;simp[Builtin.append_,run_underlying bA,sizeOf,typeInfo,ai,Builtin.lenOf,Gk,aT,Pr,ej]
theorem Jn{c:Call}{x y:Operand}{t s:TypeId}{bt v r:Value}{c3:World}(bB:o.op= .call c)(ar:c.callee= .builtin .append)(aA:c.args.toList=[x,y])(dr:c.argTypes.toList=[t,s])
    (G:a.eval x=bt) (af:a.eval y=v) (h:(Builtin.append_ #[t,s] o.type #[bt,v]).run P w= .ok r c3):jd P o a w r c3:=by
  refine .inl ?_;have nw:c.args= #[x,y]:=by rw[<-qw (xs:=c.args),aA]
  have wD:c.argTypes= #[t,s]:=by rw[<-qw (xs:=c.argTypes),dr]
  simp[execOp,bB,resolve,ar,nw,wD,invoke,builtin,G,af,h]
theorem BS{J:Nat}{v:Value}(h:fS m J v=true):v= .slice none 0 0\/ ∃b off len x,v= .slice (some ⟨b,off,none⟩) len J/\m.X b=some x/\off+len*J<=x.cells.length:=by
  unfold fS at h;split at h
  · simp only[a1,beq_iff_eq]at h;obtain⟨rfl,rfl⟩:=h;exact .inl rfl
  · rename_i ef l c;simp only[a1,zB,beq_iff_eq]at h;obtain⟨⟨lK,rfl⟩,h⟩:=h;split at h
    · rename_i x G;obtain⟨b,off,aC⟩:=ef;simp only at lK G h;subst lK;exact .inr ⟨b,off,l,x,rfl,G,by simpa using h⟩
    · cases h
  · cases h
def WN(P:Program)(o:Oper)(J bytes:Nat)(x y:Operand)(a:Act)(aV:Nat)(an:eJ)(A:aR)(m:W)(w:World)(id:Nat):Prop:=
  ∃ bx c3 cM,jd P o a w bx c3/\gl an cM/\(∀b,b≠id->cM b=an b)/\dF cM ((ag.app J bytes x y).val id A m) bx/\dB aV cM ((ag.app J bytes x y).gG id A m) c3/\Below aV w c3/\
    (qp J m (Z A x)=true-> ∀b bt l,m.X b=some bt->an b=some l-> ∀i,i<bt.cells.length->c3.cell? ⟨l.c,l.o+i,none⟩=w.cell? ⟨l.c,l.o+i,none⟩)
theorem Xp{n:Nat}{w c3:World}(h:Below n w c3){ef:Addr}(aA:ef.block<n):c3.cell? ef=w.cell? ef:=by simp only[World.cell?,h.block _ aA]
theorem ahE{c:Call}{x y:Operand}{t e:TypeId}{bG:TypeInfo}{J:List Value}(bB:o.op= .call c)(ar:c.callee= .builtin .append)(aA:c.args.toList=[x,y])(dr:c.argTypes.toList=[t,t])
    (bA:P.underlying t=some (.slice e)) (ai:P.info? e=some bG) (bK:pF P e=some J) (G:cX x=true) (af:cX y=true)
    (K:gK an cZ A a) (ax:dB aV an m w) (cT:aV<=w.heap.size) (ep:id<m.next) (aw:an id=none)
    (au:(ag.app bG.size bG.bytes x y).ok A m=true):WN P o bG.size bG.bytes x y a aV an A m w id:=by
  obtain⟨RH,hO,gW,n5,m0,e1,eA⟩:=zs bK;rw[ai]at gW;cases gW;have u6:hO.cells.size=bG.size:=by rw[<-eA,<-m0];simp
  simp only[ag.ok,a1,e2]at au;obtain⟨⟨⟨⟨⟨E,I⟩,av⟩,aH⟩,br⟩,cW⟩:=au;have nb:=K.Z G;have xp:=K.Z af
  -- sW aRF
  have yu: ∃q zR,a.eval y= .slice q (gI (Z A y)) zR:=by
    rcases BS av with aJ|⟨b,off,len,zy,aJ,_,_⟩
    · rw[aJ]at xp;exact⟨none,0,by rw[aJ];exact xp.h7 rfl⟩
    · rw[aJ]at xp;obtain⟨_,_,_,_,_,g,_⟩:=xp.m1;exact⟨_,_,by rw[aJ];exact g⟩
  obtain⟨q,zR,yu⟩:=yu;have nB: ∃p qG,a.eval x= .slice p (gI (Z A x)) qG/\gI (Z A x)<=qG:=by
    rcases BS E with aJ|⟨b,off,len,zy,aJ,_,_⟩
    · rw[aJ]at nb;exact⟨none,0,by rw[aJ];exact nb.h7 rfl,by rw[aJ];exact ey _⟩
    · rw[aJ]at nb;obtain⟨_,_,_,_,_,g,_,bb,_⟩:=nb.m1;exact⟨_,_,by rw[aJ];exact g,by rw[aJ];exact bb⟩
  by_cases az:gI (Z A y)=0
  · obtain⟨p,qG,nB,fR⟩:=nB;rw[az]at yu;refine⟨a.eval x,w,an,?_,gl.refl an,λ_ _=>rfl,by simpa only[ag.val,az,if_true]using nb,by simpa only[ag.gG,az,if_true]using ax,Below.refl _ _,λ_ _ _ _ _ _ _ _=>rfl⟩;rw[nB];exact Jn bB ar aA dr nB yu (aCG t _ e bG bA ai _ _ _ _ _ fR)
  · -- aRE hT o6
    rcases BS av with aJ|⟨pU,sP,jL,zy,Qa,Gt,am1⟩
    · rw[aJ]at az;exact absurd rfl az
    rw[Qa]at xp;obtain⟨po,ajZ,Fw,Q7,_,yu,Ra,aKg,_⟩:=xp.m1
    replace Q7:an pU=some po:=Q7
    replace Ra:(Fw=0/\jL=0)\/(ajZ=⟨po.c,po.o+sP,none⟩/\sP+Fw*bG.size<=po.n):=Ra
    have Q5:gI (Z A y)=jL:=(by rw[Qa];rfl);have am0:gj m bG.size (Z A y)=hP m pU sP (jL*bG.size):=(by rw[Qa];rfl);rw[Q5]at az br cW;obtain⟨lq,gb,hr,nG,aAP⟩:=ax.cells Gt Q7 am1;rcases Ra with⟨_,dk⟩|⟨rfl,_⟩
    · omega
    have yr:(ag.app bG.size bG.bytes x y).val id A m= .slice (some ⟨id,0,none⟩) (gI (Z A x)+jL) bG.size:=(by simp only[ag.val,Q5,az,if_false]);have p2:(ag.app bG.size bG.bytes x y).gG id A m=(kL m (Z A x)).a0 id (some ⟨gj m bG.size (Z A x)++hP m pU sP (jL*bG.size),true⟩):=by simp only[ag.gG,Q5,az,if_false,am0]
    -- sW new block,aS0 sW l4 nJ aSY
    have YC: ∀(l4:Nat) (ug:List Value) (sN:W),dB aV an sN w->id<sN.next->c5 an (gj m bG.size (Z A x)) ug->(∀v∈gj m bG.size (Z A x),S v=true)->ug.length=gI (Z A x)*bG.size->
        l4<gI (Z A x)+jL->
        dF (hN an id ⟨w.heap.size,0,grownCap w (gI (Z A x)+jL) l4 e*bG.size⟩) (.slice (some ⟨id,0,none⟩) (gI (Z A x)+jL) bG.size) (.slice (some ⟨w.heap.size,0,none⟩) (gI (Z A x)+jL) (grownCap w (gI (Z A x)+jL) l4 e))/\
        dB aV (hN an id ⟨w.heap.size,0,grownCap w (gI (Z A x)+jL) l4 e*bG.size⟩) (sN.a0 id (some ⟨gj m bG.size (Z A x)++hP m pU sP (jL*bG.size),true⟩))
          (w.drew.alloc (.cells (ug.toArray++lq.toArray++Builtin.zeroCells hO.cells (grownCap w (gI (Z A x)+jL) l4 e-(gI (Z A x)+jL))) e)):=by
      intro l4 ug sN yj al4 aE KY An CM;have uX:=grownCap_ge w (gI (Z A x)+jL) l4 e;have pY:grownCap w (gI (Z A x)+jL) l4 e<=maxLen:=grownCap_le_maxLen w _ l4 e (by unfold maxLen;omega);refine⟨.slice (off:=0) (l:=⟨w.heap.size,0,grownCap w (gI (Z A x)+jL) l4 e*bG.size⟩) (by simp[hN]) (.inr ⟨by simp,by simp⟩) uX pY,?_⟩;have ju:(ug.toArray++lq.toArray++Builtin.zeroCells hO.cells (grownCap w (gI (Z A x)+jL) l4 e-(gI (Z A x)+jL))).size=grownCap w (gI (Z A x)+jL) l4 e*bG.size:=by simp only[Array.size_append,List.size_toArray,size_zeroCells,u6,An,hr,<-ly];congr 1;omega
      have Gb:c5 an (gj m bG.size (Z A x)++hP m pU sP (jL*bG.size)) (ug++lq):=aE.o6 gb;refine yj.Br (c8:=w.drew) rfl cT al4 aw ?_ (by rw[ju];exact ey _) (λi v ad=> ?_) (λi _=>by simp)
      · rw[Gb.1,kT,An,hr,<-ly];exact ri _ uX
      · obtain⟨bt,a2,Gn⟩:=Gb.X ad;refine⟨?_,bt,?_,Gn⟩
        · have:v∈gj m bG.size (Z A x)++hP m pU sP (jL*bG.size):=gJ ad;rcases kk.1 this with h|h
          · exact KY v h
          · obtain⟨dh,jr,a8,bE,b7⟩:=ax.mn pU zy Gt;simp only[hP,Gt]at h;obtain⟨j,bj,F9⟩:=j4 (B5 (xJ h));exact(bE j v (by rw[cD bj,F9])).1
        · rw[Jt (by
            have:=(dO.1 a2).1;simpa using this)]
          simpa using a2
    rcases BS E with hq|⟨b,off,len,uz,hq,qS,Gq⟩
    · -- nil
      rw[hq]at nb;have nB:=nb.h7 rfl;have l0:gI (Z A x)=0:=(by rw[hq];rfl);have uW:gj m bG.size (Z A x)=[]:=(by rw[hq];rfl);obtain⟨aK,bb⟩:=YC 0 [] m ax ep (by rw[uW];exact c5.nil an) (by rw[uW];simp) (by rw[l0];simp) (by omega);simp only[l0,Nat.zero_add]at aK bb br cW;have hZ:=run_append_nil (P:=P) w t o.type e bG hO bA ai n5 ⟨po.c,po.o+sP,none⟩ jL Fw lq hr nG (by omega) (by omega) (by omega);refine⟨_,_,hN an id ⟨w.heap.size,0,grownCap w jL 0 e*bG.size⟩,Jn bB ar aA dr nB yu hZ,sd aw,vP,?_,?_,th (w:=w) (c8:=w.drew) rfl rfl rfl rfl cT _,λ_ b bt l _ aB i _=>Xp (th (w:=w) (c8:=w.drew) rfl rfl rfl rfl (ey _) _) (ax.mi b l aB)⟩
      · rw[yr,l0,Nat.zero_add];exact aK
      · rw[p2,hq];simpa only[kL,gj,uH,Array.empty_append,hq]using bb
    · -- a slice dN sW aIE own
      rw[hq]at nb;obtain⟨l,dG,cap,aB,_,nB,jf,Ag,pY⟩:=nb.m1
      replace aB:an b=some l:=aB
      replace jf:(cap=0/\len=0)\/(dG=⟨l.c,l.o+off,none⟩/\off+cap*bG.size<=l.n):=jf
      have l0:gI (Z A x)=len:=(by rw[hq];rfl);have uW:gj m bG.size (Z A x)=hP m b off (len*bG.size):=(by rw[hq];rfl);have jt:uz.own=true:=(by simpa[hq,kj,qS]using I);obtain⟨dh,jr,a8,bE,b7⟩:=ax.mn b uz qS;rw[aB]at jr;cases jr;obtain⟨ug,iU,kx,Un,aBf⟩:=ax.cells qS aB Gq;have p3: ∀v∈hP m b off (len*bG.size),S v=true:=(by intro v ad;simp only[hP,qS]at ad;obtain⟨j,bj,F9⟩:=j4 (B5 (xJ ad));exact(bE j v (by rw[cD bj,F9])).1);have aa:kL m (Z A x)=m.a0 b none:=(by rw[hq];rfl);rw[l0]at br cW;by_cases Gk:len+jL<=cap
      · -- aEn AV gH
        rcases jf with⟨dk,_⟩|⟨rfl,jf⟩
        · omega
        have amm:(len+jL)*bG.size<=cap*bG.size:=ri _ Gk;rw[ly]at amm
        have hZ:=aCF (P:=P) (w:=w) t o.type e bG bA ai l.c (l.o+off) len cap ⟨po.c,po.o+sP,none⟩ jL Fw lq hr nG aAP Gk
          (λj bj=>by
            have:=((b7 jt).2 (off+len*bG.size+j) (by rw[hr]at bj;omega)).1
            rwa [show l.o+(off+len*bG.size+j)=l.o+off+len*bG.size+j by omega]at this)
          (λj bj=>by
            have:=((b7 jt).2 (off+len*bG.size+j) (by rw[hr]at bj;omega)).2
            rwa [show l.o+(off+len*bG.size+j)=l.o+off+len*bG.size+j by omega]at this)
        refine⟨_,_,hN an id ⟨l.c,l.o+off,l.n-off⟩,Jn bB ar aA dr nB yu hZ,sd aw,vP,?_,?_,JX (b7 jt).1 _ _ _,λbA cd bt dh a2 jr i ai=>World.cell?_setCells_out _ _ _ _ _ (λh _=> ?_)⟩
        · rw[yr,l0];exact .slice (off:=0) (l:=⟨l.c,l.o+off,l.n-off⟩) (by simp[hN]) (.inr ⟨by simp,by show 0+cap*bG.size<=l.n-off;omega⟩) Gk pY
        · rw[p2,aa,uW];have Gb:c5 an (hP m b off (len*bG.size)++hP m pU sP (jL*bG.size)) (ug++lq):=iU.o6 gb;have sA: ∀j (bj:j<lq.length),(w.setCells l.c (l.o+off+len*bG.size) lq).cell? ⟨l.c,l.o+off+len*bG.size+j,none⟩=some lq[j]:= λj bj=>
            World.cell?_setCells_in l.c lq (l.o+off+len*bG.size) w (λi gW=>by
              have:=((b7 jt).2 (off+len*bG.size+i) (by rw[hr]at gW;omega)).1
              rwa [show l.o+(off+len*bG.size+i)=l.o+off+len*bG.size+i by omega]at this) j bj
          have Zh: ∀i,i<len*bG.size\/len*bG.size+lq.length<=i->(w.setCells l.c (l.o+off+len*bG.size) lq).cell? ⟨l.c,l.o+off+i,none⟩=w.cell? ⟨l.c,l.o+off+i,none⟩:= λi gW=>
            World.cell?_setCells_out _ _ _ _ _ (λ_ _=>by show l.o+off+i<_\/_<=l.o+off+i;omega)
          refine(ax.kL b).WZ (by rw[W.ahe];exact ep) aw (λcd ic dh hQ jr=> ?_) (by rw[Oy];exact ey _) (by rw[Oy];exact ax.mi b l aB) (b7 jt).1 (λef _ cJ=>⟨World.cell?_setCells_out _ _ _ _ _ (λh _=>absurd h cJ),World.frozen?_setCells _ _ _ _ _⟩) (λk _ aa=>VM _ _ aa _ _ _) ?_ (λi v ad=> ?_) (λi gW=> ?_)
          · rw[W.nv]at hQ;split at hQ
            · split at hQ<;>cases hQ
            · rename_i cJ;exact Ne.symm (ax.rA b uz cd ic l dh qS jt hQ (Ne.symm cJ) aB jr)
          · rw[Gb.1,kT,kx,hr];omega
          · obtain⟨bt,a2,Gn⟩:=Gb.X ad;have amk:v∈hP m b off (len*bG.size)++hP m pU sP (jL*bG.size):=gJ ad;refine⟨?_,bt,?_,Gn⟩
            · rcases kk.1 amk with h|h
              · exact p3 v h
              · obtain⟨dh,jr,gd,hj,ix⟩:=ax.mn pU zy Gt;simp only[hP,Gt]at h;obtain⟨j,bj,F9⟩:=j4 (B5 (xJ h));exact(hj j v (by rw[cD bj,F9])).1
            · rw[xI]at a2;split at a2
              · rename_i ev;rw[kx]at ev;rw[Zh i (.inl ev)];have:=Un i bt a2
                rwa [Pr]at this
              · rename_i ev;rw[kx]at ev a2;have bj:i-len*bG.size<lq.length:=(dO.1 a2).1;have:=sA _ bj;rw[show l.o+off+len*bG.size+(i-len*bG.size)=l.o+off+i by omega]at this;rw[this];rw[cD bj]at a2;exact a2
          · have bd:=(b7 jt).2 (off+i) (by omega);rw[<-pJ]at bd;refine⟨?_,by rw[World.frozen?_setCells];exact bd.2⟩;by_cases ln:i<len*bG.size\/len*bG.size+lq.length<=i
            · rw[Zh i ln];exact bd.1
            · have bj:i-len*bG.size<lq.length:=(by omega);have:=sA _ bj;rw[show l.o+off+len*bG.size+(i-len*bG.size)=l.o+off+i by omega]at this;rw[this];rfl
        · left;by_cases e:cd=b
          · subst e;rw[qS]at a2;cases a2;rw[aB]at jr;cases jr;simp only[hq,qp,qS,e2]at bA;show l.o+i<l.o+off+len*bG.size;omega
          · exact absurd h (Ne.symm (ax.rA b uz cd bt l dh qS jt a2 (Ne.symm e) aB jr))
      · -- afV aJO
        obtain⟨aK,bb⟩:=YC cap ug (m.a0 b none) (ax.kL b) (by rw[W.ahe];exact ep) (by rw[uW];exact iU) (by rw[uW];exact p3) (by rw[l0];exact kx) (by omega);rw[l0]at aK bb;have holds: ∀(j:Nat) v,ug[j]?=some v->w.cell? (dG.add j)=some v:=by
          intro j v ad;rcases jf with⟨_,dk⟩|⟨rfl,_⟩
          · subst dk;simp at kx;rw[kx]at ad;simp at ad
          · exact Un j v ad
        have hZ:=run_append_grow (P:=P) w t o.type e bG hO bA ai n5 dG len cap ug kx holds ⟨po.c,po.o+sP,none⟩ jL Fw lq hr nG (by omega) (by omega) (growslice_fits (by omega) br);refine⟨_,_,hN an id ⟨w.heap.size,0,grownCap w (len+jL) cap e*bG.size⟩,Jn bB ar aA dr nB yu hZ,sd aw,vP,?_,?_,th (w:=w) (c8:=w.drew) rfl rfl rfl rfl cT _,λ_ b bt l _ aB i _=>Xp (th (w:=w) (c8:=w.drew) rfl rfl rfl rfl (ey _) _) (ax.mi b l aB)⟩
        · rw[yr,l0];exact aK
        · rw[p2,aa];exact bb
theorem aDv{c:Call}{x y:Operand}{t e:TypeId}{bG:TypeInfo}{J:List Value}(bB:o.op= .call c)(ar:c.callee= .builtin .append)(aA:c.args.toList=[x,y])(dr:c.argTypes.toList=[t,t])
    (bA:P.underlying t=some (.slice e)) (ai:P.info? e=some bG) (bK:pF P e=some J) (G:cX x=true) (af:cX y=true)
    (K:gK an cZ A a) (ax:dB aV an m w) (cT:aV<=w.heap.size) (ep:id<m.next) (aw:an id=none)
    (au:(ag.app bG.size bG.bytes x y).ok A m=true):o4 P o (.app bG.size bG.bytes x y) a aV an A m w id:=by
  obtain⟨bx,c3,cM,aK,bb,c0,ea,e9,fo,_⟩:=ahE bB ar aA dr bA ai bK G af K ax cT ep aw au;exact⟨bx,c3,cM,aK,bb,c0,ea,e9,fo⟩
theorem aDw{c:Call}{x y:Operand}{t bt e:TypeId}{bG:TypeInfo}{J:List Value}{TX:IntKind}(bB:o.op= .call c)(ar:c.callee= .builtin .append)(aA:c.args.toList=[x,y])(dr:c.argTypes.toList=[t,bt])
    (bA:P.underlying t=some (.slice e)) (a2:P.underlying bt=some (.int TX)) (ai:P.info? e=some bG) (bK:pF P e=some J) (G:cX x=true) (af:cX y=true)
    (K:gK an cZ A a) (ax:dB aV an m w) (cT:aV<=w.heap.size) (ep:id<m.next) (aw:an id=none)
    (au:(ag.np J.length bG.bytes J x y).ok A m=true):o4 P o (.np J.length bG.bytes J x y) a aV an A m w id:=by
  obtain⟨RH,hO,gW,n5,m0,e1,eA⟩:=zs bK;rw[ai]at gW;cases gW;have u6:hO.cells.size=bG.size:=by rw[<-eA,<-m0];simp
  simp only[ag.ok,a1,e2]at au;obtain⟨⟨⟨⟨⟨E,I⟩,av⟩,aH⟩,br⟩,cW⟩:=au;have nb:=K.Z G;rw[Nl E]at nb;have nB:=nb.h7 rfl;obtain⟨aU,k,gC,uV⟩:=qV (K.Z af) I;simp only[uV,eZ]at av aH br;obtain⟨n,rfl⟩: ∃n:Nat,gC=n:=⟨gC.toNat,by omega⟩;have alw:n*bG.bytes<=281474976710656:=by have:((n*bG.bytes:Nat):Int)<=140737488355328:=(by rw[Int.natCast_mul];exact aH);omega
  have hZ:=Lib.run_append_nil_zeros (P:=P) w t bt o.type e bG hO k TX bA a2 ai n5 n (by omega) (by omega) (by omega) alw;have uX:=grownCap_ge w n 0 e;have pY:grownCap w n 0 e<=maxLen:=grownCap_le_maxLen w _ 0 e (by unfold maxLen;omega);generalize grownCap w n 0 e=JB at hZ uX pY;have ju:(Builtin.zeroCells hO.cells n++Builtin.zeroCells hO.cells (JB-n)).size=JB*bG.size:=by simp only[Array.size_append,size_zeroCells,u6,<-ly];congr 1;omega
  have sz: ∀v∈(List.replicate n J).flatten,dZ v=true:=Ku (λv=>dZ v=true) (λv ad=>eQ.1 e1 v ad) _;refine⟨_,_,hN an id ⟨w.heap.size,0,JB*bG.size⟩,Jn bB ar aA dr nB (aU.trans uV) hZ,sd aw,vP,?_,?_,th (w:=w) (c8:=w.drew) rfl rfl rfl rfl cT _⟩
  · simp only[ag.val,uV,eZ,ot];exact .slice (off:=0) (l:=⟨w.heap.size,0,JB*bG.size⟩) (by simp[hN]) (.inr ⟨by simp,by rw[eA];simp⟩) uX pY
  · simp only[ag.gG,uV,eZ,ot];refine ax.Br (c8:=w.drew) rfl cT ep aw (by rw[zX,eA];exact ri _ uX) (by rw[ju];exact ey _) (λi v ad=> ?_) (λi _=>by simp);have ln:i<n*J.length:=(by have:=(dO.1 ad).1;rwa [zX]at this);refine⟨wA (sz v (gJ ad)),v,?_,.cH (sz v (gJ ad))⟩;have hK:(Builtin.zeroCells hO.cells n).toList=(List.replicate n J).flatten:=(by rw[<-m0];exact NH (by omega) n);rw[Jt (by rw[size_zeroCells,u6,<-eA];exact ln),<-EW,hK];exact ad
theorem Wu{c:Call}{x:Operand}{t:TypeId}{bt r:Value}{c3:World}(bB:o.op= .call c)(ar:c.callee= .builtin .clear)(aA:c.args.toList=[x])(dr:c.argTypes.toList=[t])
    (G:a.eval x=bt) (h:(Builtin.clear_ #[t] o.type #[bt]).run P w= .ok r c3):jd P o a w r c3:=by
  refine .inl ?_;have nw:c.args= #[x]:=by rw[<-qw (xs:=c.args),aA]
  have wD:c.argTypes= #[t]:=by rw[<-qw (xs:=c.argTypes),dr]
  simp[execOp,bB,resolve,ar,nw,wD,invoke,builtin,G,h]
theorem ahf{b:Nat}{y:fB}(h:m.X b=some y):m.a0 b (some y)=m:=by
  have I:m.gV b=some y:=by
    unfold W.X at h;split at h
    · exact h
    · cases h
  unfold W.a0;cases m with
  | mk n aIg mp=>
    simp only[W.mk.injEq,true_and,and_true];funext i;split
    · rename_i e;rw[e];exact I.symm
    · rfl
theorem aDz{c:Call}{x:Operand}{t e:TypeId}{J:List Value}(bB:o.op= .call c)(ar:c.callee= .builtin .clear)(aA:c.args.toList=[x])(dr:c.argTypes.toList=[t])
    (bA:P.underlying t=some (.slice e)) (bK:pF P e=some J) (G:cX x=true) (K:gK an cZ A a) (ax:dB aV an m w)
    (au:(ag.hv J x).ok A m=true):o4 P o (.hv J x) a aV an A m w id:=by
  obtain⟨bG,hO,ai,n5,m0,e1,eA⟩:=zs bK;have u6:hO.cells.size=bG.size:=by rw[<-eA,<-m0];simp
  simp only[ag.ok,a1,e2]at au;obtain⟨⟨E,I⟩,av⟩:=au;have nb:=K.Z G;rcases BS E with hq|⟨b,off,len,uz,hq,qS,Gq⟩
  · rw[hq]at nb;have nB:=nb.h7 rfl;refine⟨undef,w,an,Wu bB ar aA dr nB (by simp[Builtin.clear_,run_underlying bA,undef]),gl.refl an,λ_ _=>rfl,dF.undef an,?_,Below.refl _ _⟩;simp only[ag.gG,hq,mS];exact ax
  · rw[hq]at nb;obtain⟨l,dG,cap,aB,_,nB,az,fR,_⟩:=nb.m1
    replace aB:an b=some l:=aB
    replace az:(cap=0/\len=0)\/(dG=⟨l.c,l.o+off,none⟩/\off+cap*J.length<=l.n):=az
    have jt:uz.own=true:=(by simpa[hq,kj,qS]using I);obtain⟨dh,jr,a8,bE,b7⟩:=ax.mn b uz qS;rw[aB]at jr;cases jr;have p2:(ag.hv J x).gG id A m=m.a0 b (some ⟨gL uz.cells off (List.replicate len J).flatten,uz.own⟩):=(by simp only[ag.gG,hq,mS,qS]);by_cases dk:len=0
    · subst dk;refine⟨undef,w,an,Wu bB ar aA dr nB (by simp[Builtin.clear_,run_underlying bA,undef]),gl.refl an,λ_ _=>rfl,dF.undef an,?_,Below.refl _ _⟩;rw[p2];have:m.a0 b (some ⟨gL uz.cells off (List.replicate 0 J).flatten,uz.own⟩)=m:=ahf qS;rw[this];exact ax
    · rcases az with⟨_,alr⟩|⟨rfl,aJ9⟩
      · exact absurd alr dk
      have jq:(Builtin.zeroCells hO.cells len).toList=(List.replicate len J).flatten:=(by rw[<-m0];exact NH (by omega) len);have sz: ∀v∈(List.replicate len J).flatten,dZ v=true:=Ku (λv=>dZ v=true) (λv ad=>eQ.1 e1 v ad) _;have Ai:(List.replicate len J).flatten.length=len*J.length:=zX J len;have ej:=run_storeCells_cells (P:=P) l.c (l.o+off) (List.replicate len J).flatten 0 w (λj bj=>by
        have:=((b7 jt).2 (off+j) (by simp only[Ai]at bj;omega)).1
        rwa [<-pJ]at this) (λj bj=>by
        have:=((b7 jt).2 (off+j) (by simp only[Ai]at bj;omega)).2
        rwa [<-pJ]at this) (λbt a2=>by rw[Up];exact wA (sz bt a2))
      simp only[Nat.add_zero]at ej;refine⟨undef,w.setCells l.c (l.o+off) (List.replicate len J).flatten,an,Wu bB ar aA dr nB ?_,gl.refl an,λ_ _=>rfl,dF.undef an,?_,JX (b7 jt).1 _ _ _⟩
      · have Rx: ∀w:World,(zeroValue e).run P w= .ok hO w:= λw=>by simp[zeroValue,typeInfo,ai,n5]
        obtain⟨k,rfl⟩: ∃k,len=k+1:=⟨len-1,by omega⟩;simp[Builtin.clear_,run_underlying bA,Rx,jq,ej,undef]
      · rw[p2];exact ax.store qS jt aB (c5.cH an (eQ.2 sz)) (λv ad=>wA (sz v ad)) (by rw[Ai];exact Gq)
end
end Go.DI
