/-
  A part of the proof, shortened by tools of ours.
-/
import Derived.ProofKit
import Derived.ShutString
import Derived.Below
import Derived.Carry
import Derived.Test.YtmmkkggfmigppaaGreatZazaf
set_option linter.all false
set_option maxRecDepth 8000
set_option maxHeartbeats 16000000
namespace Go.Proofs.YtmmkkggfmigppaaGreat.drainReviewsDone
open Go.ChangeShapes Go.WideShapes Go.ChangeAt Go.RowKit
section
theorem own:ownKnob Tryz.prog.godebug=none:=by kernel_rfl
theorem laidOut:laidOutB Tryz.prog=true:=by kernel_rfl
theorem mixed:Tryz.prog.follows .mixedOrders=true:=by kernel_rfl
set_option maxRecDepth 100000 in
theorem lifted(os:Os)(xI:os.Started)(gK:Type)(enc:TypeId×Value->gK):
 ReturnsInHanded {} Tryz.checked os 4 .any (Rows.drainReviewsSpec.pre6 enc Tryz.prog Tryz.f4 Rows.drainReviewsRow.domain false) (Rows.drainReviewsSpec.post enc Tryz.prog Tryz.f4 false true false false):=by
 refine returnsInHanded_of_change_sized (C:=Tryz.checked) own xI (by kernel_rfl) Tryz.func4
  (ChangeSpec.witness6 (enc:=enc) (C:=Tryz.checked) false ⟨#[],#[.slice none 0 0,.slice none 0 0,.int .i64 0,.agg #[.slice none 0 0,.slice none 0 0]],[]⟩ 8 (by kernel_rfl) (by kernel_rfl) (by kernel_rfl) (by kernel_rfl)) ?_
 intro ay base args ds hr OO BR qH ag3 KF _;have tz: ∀(j:Nat) t v,Tryz.f4.params[j]?=some t->args[j]?=some v->Value.okWide Tryz.prog ay .any base t v:=BR;have Kh:=qH;obtain⟨p,q,Bw,ch,rfl,Kr,eW⟩:=qH;have ye:hr=[]:=(trodVars_none ch).1;have nE: ∀n∈DataW.weightsEach Tryz.prog Tryz.f4.params.toList ds,n<=reachBytes:= λn ae=>by have j3:(DataW.weightsEach Tryz.prog (Tryz.f4.params.toList++Rows.drainReviewsSpec.plain.varTypes Tryz.prog) (ds++hr)).all (· <=reachBytes)=true:=KF;have:=dP.1 j3 n (by rw[ye];simpa[Rows.drainReviewsSpec,ChangeSpec.plain,DataSpec.varTypes]using ae);simpa using this
 have dG:DataW.TrodAll enc Tryz.prog ay 0 (λ_=>true) true Tryz.f4.params.toList args.toList ds p:=Bw;have vy:=Go.DI.aah (f:=4) (n:=12) mixed (ts:=Tryz.f4.params.toList) (mX:=[tH,tH,.int .i64,Ui]) (by kernel_rfl) (λj t v A D=>tz j t v (by simpa using A) D) dG nE (λm dp h=>atx m dp h);rw[Tryz.params4]at dG tz;obtain⟨v0,aqu,DA,afS,pb,bC,PN,rfl,rfl,bY,mT⟩:=trodAll_cons dG;obtain⟨q9,aqv,fW,zE,ef,a8,rfl,rfl,rfl,A,ek⟩:=trodAll_cons mT;obtain⟨qk,adC,gI,Vy,e2,bV,rfl,rfl,rfl,D,gm⟩:=trodAll_cons ek;obtain⟨v3,aIn,iO,aNR,hF,cv,rfl,rfl,rfl,ai,kT⟩:=trodAll_cons gm;obtain⟨rfl,rfl,rfl⟩:=trodAll_nil kT;obtain rfl:args= #[v0,q9,qk,v3]:=by cases args;simp_all
 obtain⟨rfl,rfl⟩:=trodVars_none ch;have MC: ∀x∈pb,x.block<ay.heap.size:=by obtain⟨m,ab⟩:=bY;exact DataW.trod_lt m _ _ _ ab
 have Ci: ∀x∈ef,x.block<ay.heap.size:=by obtain⟨m,ab⟩:=A;exact DataW.trod_lt m _ _ _ ab
 have S7: ∀x∈e2,x.block<ay.heap.size:=by obtain⟨m,ab⟩:=D;exact DataW.trod_lt m _ _ _ ab
 have aCH: ∀x∈hF,x.block<ay.heap.size:=by obtain⟨m,ab⟩:=ai;exact DataW.trod_lt m _ _ _ ab
 clear Bw BR;refine vy.mono λe mH ⟨aQ,tb⟩=> ?_;subst aQ;exact⟨_,rfl,_,_,_,[],_,[],Kh,trodAll_mk1 (shut_bool (by kernel_rfl) _),(trodAll_cons_mk (Below.trod laidOut (by kernel_rfl) (of_decide_eq_true (by kernel_rfl)) bY tb MC) (trodAll_cons_mk (Below.trod laidOut (by kernel_rfl) (of_decide_eq_true (by kernel_rfl)) A tb Ci) (trodAll_cons_mk (Below.trod laidOut (by kernel_rfl) (of_decide_eq_true (by kernel_rfl)) D tb S7) (trodAll_cons_mk (Below.trod laidOut (by kernel_rfl) (of_decide_eq_true (by kernel_rfl)) ai tb aCH) trodAll_mk0)))),rfl,tb.frame _,λh=>by cases h⟩
set_option maxRecDepth 10000
theorem eg{a b:Bool}(h:a=true)(cn:b=true):(a&&b)=true:=by rw[h,cn];rfl
theorem L9:(Rows.drainReviewsRow.wf (OpenSpec.ofChange Rows.drainReviewsSpec))=true:=by kernel_rfl
theorem uL:(laidOutB Tryz.pinned.checked.prog)=true:=by kernel_rfl
theorem uM:(mapsRowed Tryz.pinned.checked.prog)=true:=by kernel_rfl
theorem xi:(Tryz.f4.params.all (Tryz.pinned.checked.prog.readableRec ·))=true:=by kernel_rfl
theorem Af:(namedTie Tryz.pinned.checked.prog Rows.drainReviewsRow.named Rows.drainReviewsSpec.vars)=true:=by kernel_rfl
theorem Ag:((Rows.drainReviewsRow.stops==[]))=true:=by kernel_rfl
theorem Ah:((Tryz.pinned.checked.prog.stops==[]))=true:=by kernel_rfl
theorem Ai:((Rows.drainReviewsRow.knobs==[]))=true:=by kernel_rfl
theorem ES:((Tryz.pinned.checked.prog.stopKnobs==[]))=true:=by kernel_rfl
theorem Aj:((Rows.drainReviewsRow.inPlace==Tryz.pinned.checked.prog.inPlace 4))=true:=by kernel_rfl
theorem Ma:((Rows.drainReviewsRow.unfollowed==Tryz.pinned.checked.prog.unfollowed 4))=true:=by kernel_rfl
theorem Mb:((Rows.drainReviewsRow.recurses==Tryz.pinned.checked.prog.recurses 4))=true:=by kernel_rfl
theorem Mc:((Rows.drainReviewsRow.named==Tryz.pinned.checked.prog.varsNamed 4))=true:=by kernel_rfl
theorem Md:((Rows.drainReviewsRow.maps==(Tryz.f4.params.toList++Rows.drainReviewsSpec.plain.varTypes Tryz.pinned.checked.prog).any (Tryz.pinned.checked.prog.mapsRec ·)))=true:=by kernel_rfl
theorem Me:((Rows.drainReviewsRow.ifaces==(Tryz.f4.params.toList++Rows.drainReviewsSpec.plain.varTypes Tryz.pinned.checked.prog).any (Tryz.pinned.checked.prog.ifacesRec ·)))=true:=by kernel_rfl
theorem Mf:((Rows.drainReviewsRow.mapsOut==Tryz.pinned.checked.prog.mapsAmong Tryz.f4.resultTypes.toList))=true:=by kernel_rfl
theorem Mg:((Rows.drainReviewsRow.loops==(Tryz.f4.params.toList++Rows.drainReviewsSpec.plain.varTypes Tryz.pinned.checked.prog).any (Tryz.pinned.checked.prog.loopsFrom ·)))=true:=by kernel_rfl
theorem Mh:((Rows.drainReviewsRow.wideKeys==(Tryz.f4.params.toList++Rows.drainReviewsSpec.plain.varTypes Tryz.pinned.checked.prog++Tryz.f4.resultTypes.toList).any (Tryz.pinned.checked.prog.wideKeysFrom ·)))=true:=by kernel_rfl
theorem Mi:(Rows.drainReviewsSpec.vars.all (Tryz.pinned.checked.prog.varReadable ·))=true:=by kernel_rfl
theorem Mj:(Tryz.f4.resultTypes.all (λt=>Tryz.pinned.checked.prog.readableRec t&&decide (t<Tryz.pinned.checked.prog.types.size)))=true:=by kernel_rfl
theorem Mk:((Rows.drainReviewsRow.ifacesOut==Tryz.f4.resultTypes.toList.any (Tryz.pinned.checked.prog.ifacesRec ·)))=true:=by kernel_rfl
theorem Ml:((Rows.drainReviewsRow.loopsOut==Tryz.f4.resultTypes.toList.any (Tryz.pinned.checked.prog.loopsFrom ·)))=true:=by kernel_rfl
theorem Mm:((Rows.drainReviewsRow.plainKeys==Tryz.pinned.checked.prog.plainKeys))=true:=by kernel_rfl
theorem Mn:(Rows.drainReviewsRow.shortTexts.isNone)=true:=by kernel_rfl
theorem Mo:(Tryz.pinned.checked.prog.stopsHeard)=true:=by kernel_rfl
theorem Mp:(Tryz.pinned.checked.prog.mayEnter)=true:=by kernel_rfl
theorem Mq:((Rows.drainReviewsRow.lifted==Tryz.pinned.checked.prog.liftsFinal))=true:=by kernel_rfl
theorem Mr:((Tryz.pinned.checked.prog.make==some Rows.drainReviewsRow.make))=true:=by kernel_rfl
theorem Ms:((Rows.drainReviewsRow.kinds==(if Rows.drainReviewsRow.domain.isEmpty then[]else Tryz.f4.params.toList.map λt=>match Tryz.pinned.checked.prog.underlying t with|some (.int k)=>some k|_=>none)))=true:=by kernel_rfl
theorem Mt:((Rows.drainReviewsRow.pinned==Rows.drainReviewsRow.pinnedBy))=true:=by kernel_rfl
theorem Mu:((Rows.drainReviewsRow.veiled==(Tryz.f4.params.toList++Rows.drainReviewsSpec.plain.varTypes Tryz.pinned.checked.prog++Tryz.f4.resultTypes.toList).any (Tryz.pinned.checked.prog.veiledRec ·)))=true:=by kernel_rfl
theorem Mv:(Rows.drainReviewsRow.veiledFits Tryz.pinned.checked.prog Tryz.f4.params.toList (Tryz.f4.params.toList++Rows.drainReviewsSpec.plain.varTypes Tryz.pinned.checked.prog++Tryz.f4.resultTypes.toList))=true:=by kernel_rfl
theorem Mw:joinedFacts Tryz.pinned.checked.prog 4 Tryz.f4 Rows.drainReviewsSpec Rows.drainReviewsRow=true:=(eg (eg (eg (eg (eg (eg (eg (eg (eg (eg (eg (eg (eg (eg (eg (eg (eg (eg (eg (eg (eg (eg (eg (eg (eg (eg (eg (eg (eg (eg (eg L9 uL) uM) xi) Af) Ag) Ah) Ai) ES) Aj) Ma) Mb) Mc) Md) Me) Mf) Mg) Mh) Mi) Mj) Mk) Ml) Mm) Mn) Mo) Mp) Mq) Mr) Ms) Mt) Mu) Mv)
theorem over:Rows.drainReviewsRow.holds Tryz.pinned (OpenSpec.ofChange Rows.drainReviewsSpec):=
 OpenClaim.holds_of_wide 4 Tryz.f4 rfl rfl rfl rfl rfl rfl rfl ⟨rfl,rfl,rfl,rfl,rfl⟩ rfl rfl rfl rfl rfl (by kernel_rfl) Tryz.func4 Mw
  (of_decide_eq_true (by kernel_rfl)) (by unfold Func.isWrapper;first|(rw[if_pos (by decide+kernel)];kernel_rfl)|(rw[if_neg (by decide+kernel)];exact⟨rfl,rfl⟩))
  (λos xI gK enc _=>lifted os xI gK enc)
theorem proved:Rows.DrainReviewsSaid:=over
#print axioms proved
end
end Go.Proofs.YtmmkkggfmigppaaGreat.drainReviewsDone
namespace Go.DI
open Go Go.RowKit
section
variable {P:Program} {ax:mG P} {t:H} {z:aC} {c:aw} {Q:cM->aC->H->Prop}
theorem aIB(E:Nat->aC->H->Prop)(n:Nat)(step: ∀i z t,i<n->E i z t-> ∀bM:aC->H->Prop,(∀K af,(E (i+1) K af\/arb (E (i+1)) K af)->bM K af)->ix ax c z t (rM bM Q))
 (My: ∀z t,E n z t->ix ax c z t (rM (λ_ _=>False) Q)): ∀(i:Nat) (z:aC) (t:H),i<=n->E i z t->ec P (.loop c) z t Q:=by
 have key: ∀(r i:Nat) (z:aC) (t:H),i+r=n->E i z t->ec P (.loop c) z t Q:=by
  intro r;induction r with
  | zero=>
    intro i z t W jc;have e:i=n:=(by omega);subst e;refine eF (ax:=ax) λbM a1=> ?_;have A:=My z t jc;refine Dj A λe z t h=> ?_;cases e with
    |eB=>exact h.elim
    |cH id=>exact h
    |e3=>exact h
  | succ r cf=>
    intro i z t W jc;refine eF (ax:=ax) λbM a1=>step i z t (by omega) jc bM λK af bT=>a1 _ _ ?_;rcases bT with bT|⟨o,p,j,G,bI,cells,bt,bR,a3,a4,ft,jh⟩
    ·exact cf (i+1) K af (by omega) bT
    ·exact vc bt bR a3 a4 ft (cf (i+1) K _ (by omega) jh)
 exact λi z t W jc=>key (n-i) i z t (by omega) jc
end
end Go.DI
namespace Go.Proofs.YtmmkkggfmigppaaGreat
open Go Go.DI Go.Big Go.hR
theorem aHq{u:aG}{l k:List Int}(h:l.Perm k):hg u l=hg u k:=by unfold hg;rw[show l.all (nH u)=k.all (nH u)from by rw[Bool.eq_iff_iff,dP,dP];exact⟨λa x B=>a x (h.mem_iff.2 B),λa x B=>a x (h.mem_iff.1 B)⟩];congr 1;exact decide_eq_decide.2 h.nodup_iff
theorem Io{u:aG}(h:fj u){R ao ay:List Int}(bY:(km u R ao ay).2.2=0):hg u (ao++ay)=true/\(km u R ao ay).1=(pO (gh u R) ao ay).1/\(km u R ao ay).2.1=(pO (gh u R) ao ay).2/\hg u ((km u R ao ay).1++(km u R ao ay).2.1)=true/\(km u R ao ay).1.length+(km u R ao ay).2.1.length=ao.length+ay.length:=by
 unfold km at bY⊢;by_cases c:hg u (ao++ay)=true
 ·rw[if_pos c]at bY⊢;have Z:=(aoL (P:=gh u R) (λa b F Z=>aob h a b F Z) ao ay).2.2;refine⟨c,rfl,rfl,?_,aoK⟩;rw[aHq Z];exact c
 ·rw[if_neg c]at bY;cases bY
theorem apn{u:aG}(h:fj u){R ao ay:List Int}{n:Int}(bY:(kx u R ao ay n).2.2=0):kx u R ao ay n=km u R ao (ay++[n])/\(km u R ao (ay++[n])).2.2=0/\nH u n=true:=by
 unfold kx at bY⊢;by_cases c:hg u (ao++ay)=true/\nH u n=true
 ·rw[if_pos c]at bY⊢;by_cases d:n∈ao\/n∈ay
  ·rw[if_pos d]at bY;exact absurd bY (by decide)
  ·rw[if_neg d]at bY⊢;exact⟨rfl,bY,c.2⟩
 ·rw[if_neg c]at bY;exact absurd bY (by decide)
theorem aqy{u:aG}(h:fj u){R ao ay:List Int}{n:Int}(bY:(lr u R ao ay n).2.2=0):lr u R ao ay n=km u R (fo ao n) (fo ay n)/\(km u R (fo ao n) (fo ay n)).2.2=0/\(n∈ao\/n∈ay):=by
 unfold lr at bY⊢;by_cases c:hg u (ao++ay)=true
 ·rw[if_pos c]at bY⊢;by_cases d:n∈ao\/n∈ay
  ·rw[if_pos d]at bY⊢;exact⟨rfl,bY,d⟩
  ·rw[if_neg d]at bY;exact absurd bY (by decide)
 ·rw[if_neg c]at bY;exact absurd bY (by decide)
noncomputable def va(u:aG)(R ao ay:List Int)(k n:Int):Ge:=if k=1 then kx u R ao ay n else if k=2 then lr u R ao ay n else km u R ao ay
theorem aHu{u:aG}(h:fj u){R ao ay:List Int}{k n:Int}(bY:(va u R ao ay k n).2.2=0):hg u ((va u R ao ay k n).1++(va u R ao ay k n).2.1)=true/\(va u R ao ay k n).1.length+(va u R ao ay k n).2.1.length<=ao.length+ay.length+1:=by
 unfold va at bY⊢;by_cases b6:k=1
 ·rw[if_pos b6]at bY⊢;obtain⟨e,hc,_⟩:=apn h bY;obtain⟨_,_,_,a,b⟩:=Io h hc;rw[e];exact⟨a,by rw[b];simp;omega⟩
 ·rw[if_neg b6]at bY⊢;by_cases cR:k=2
  ·rw[if_pos cR]at bY⊢;obtain⟨e,hc,_⟩:=aqy h bY;obtain⟨_,_,_,a,b⟩:=Io h hc;rw[e];have:=An (l:=ao) (x:=n);have:=An (l:=ay) (x:=n);exact⟨a,by omega⟩
  ·rw[if_neg cR]at bY⊢;obtain⟨_,_,_,a,b⟩:=Io h bY;exact⟨a,by omega⟩
theorem aHt{u:aG}{R ao ay:List Int}{k n:Int}:(va u R ao ay k n).1.length+(va u R ao ay k n).2.1.length<=ao.length+ay.length+1:=by
 have:=An (l:=ao) (x:=n);have:=An (l:=ay) (x:=n);have ek:=Nn (u:=u) (R:=R) (ao:=ao) (ay:=ay);have gm:=Nn (u:=u) (R:=R) (ao:=ao) (ay:=ay++[n]);have kT:=Nn (u:=u) (R:=R) (ao:=fo ao n) (ay:=fo ay n);simp only[iv,mC,xN]at gm;unfold va kx lr;split
 ·split
  ·split
   ·simp
   ·omega
  ·simp
 ·split
  ·split
   ·split
    ·omega
    ·simp
   ·simp
  ·omega
abbrev A9:Type:=List Int×List Int×List Int×Int
noncomputable def TQ(u:aG)(h:cE u)(A:1<=u.aZ.length):bx N:= .cK 36 A9 (λx=>x.2.1.length+x.2.2.1.length<=999) (λx=>[.agg (aI u).toArray,bm x.1,.agg (jV x.2.1 x.2.2.1).toArray,E x.2.2.2]) (λx=>il (kx u x.1 x.2.1 x.2.2.1 x.2.2.2)) λx B=>aEf h A B
@[simp] theorem aUE{u:aG}{h:cE u}{A:1<=u.aZ.length}:(TQ u h A).f=36:=rfl
theorem apj{u:aG}{h:cE u}{A:1<=u.aZ.length}{R ao ay:List Int}{n:Int}(ae:ao.length+ay.length<=999):(TQ u h A).fn [.agg #[E u.ext,ad (u.eI.map gf) 4,ad (u.cr.map gp) 4,ad (u.aP.map eG) 7,ad (u.aY.map fk) 3,ad (u.dj.map dE) 17,ad (u.aZ.map ga) 2],ad (R.map λx=>[E x]) 1,.agg #[ad (ao.map λx=>[E x]) 1,ad (ay.map λx=>[E x]) 1],.int .i64 n]=some (il (kx u R ao ay n)):=bx.dx (x:=((R,ao,ay,n):A9)) ae λ⟨ko,h6,mA,vd⟩ Y=>by simpa[and_assoc]using Y
noncomputable def acv(u:aG)(h:cE u)(A:1<=u.aZ.length):bx N:= .cK 76 A9 (λx=>x.2.1.length+x.2.2.1.length<=999) (λx=>[.agg (aI u).toArray,bm x.1,.agg (jV x.2.1 x.2.2.1).toArray,E x.2.2.2]) (λx=>il (kx u x.1 x.2.1 x.2.2.1 x.2.2.2)) λx B=>aFE h A B
@[simp] theorem aVg{u:aG}{h:cE u}{A:1<=u.aZ.length}:(acv u h A).f=76:=rfl
theorem aGo{u:aG}{h:cE u}{A:1<=u.aZ.length}{R ao ay:List Int}{n:Int}(ae:ao.length+ay.length<=999):(acv u h A).fn [.agg #[E u.ext,ad (u.eI.map gf) 4,ad (u.cr.map gp) 4,ad (u.aP.map eG) 7,ad (u.aY.map fk) 3,ad (u.dj.map dE) 17,ad (u.aZ.map ga) 2],ad (R.map λx=>[E x]) 1,.agg #[ad (ao.map λx=>[E x]) 1,ad (ay.map λx=>[E x]) 1],.int .i64 n]=some (il (kx u R ao ay n)):=bx.dx (x:=((R,ao,ay,n):A9)) ae λ⟨ko,h6,mA,vd⟩ Y=>by simpa[and_assoc]using Y
noncomputable def TR(u:aG)(h:cE u)(A:1<=u.aZ.length):bx N:= .cK 32 A9 (λx=>x.2.1.length+x.2.2.1.length<=999) (λx=>[.agg (aI u).toArray,bm x.1,.agg (jV x.2.1 x.2.2.1).toArray,E x.2.2.2]) (λx=>il (lr u x.1 x.2.1 x.2.2.1 x.2.2.2)) λx B=>aEl h A B
@[simp] theorem aUH{u:aG}{h:cE u}{A:1<=u.aZ.length}:(TR u h A).f=32:=rfl
theorem apk{u:aG}{h:cE u}{A:1<=u.aZ.length}{R ao ay:List Int}{n:Int}(ae:ao.length+ay.length<=999):(TR u h A).fn [.agg #[E u.ext,ad (u.eI.map gf) 4,ad (u.cr.map gp) 4,ad (u.aP.map eG) 7,ad (u.aY.map fk) 3,ad (u.dj.map dE) 17,ad (u.aZ.map ga) 2],ad (R.map λx=>[E x]) 1,.agg #[ad (ao.map λx=>[E x]) 1,ad (ay.map λx=>[E x]) 1],.int .i64 n]=some (il (lr u R ao ay n)):=bx.dx (x:=((R,ao,ay,n):A9)) ae λ⟨ko,h6,mA,vd⟩ Y=>by simpa[and_assoc]using Y
noncomputable def acy(u:aG)(h:cE u)(A:1<=u.aZ.length):bx N:= .cK 77 A9 (λx=>x.2.1.length+x.2.2.1.length<=999) (λx=>[.agg (aI u).toArray,bm x.1,.agg (jV x.2.1 x.2.2.1).toArray,E x.2.2.2]) (λx=>il (lr u x.1 x.2.1 x.2.2.1 x.2.2.2)) λx B=>aF7 h A B
@[simp] theorem aVp{u:aG}{h:cE u}{A:1<=u.aZ.length}:(acy u h A).f=77:=rfl
theorem aGp{u:aG}{h:cE u}{A:1<=u.aZ.length}{R ao ay:List Int}{n:Int}(ae:ao.length+ay.length<=999):(acy u h A).fn [.agg #[E u.ext,ad (u.eI.map gf) 4,ad (u.cr.map gp) 4,ad (u.aP.map eG) 7,ad (u.aY.map fk) 3,ad (u.dj.map dE) 17,ad (u.aZ.map ga) 2],ad (R.map λx=>[E x]) 1,.agg #[ad (ao.map λx=>[E x]) 1,ad (ay.map λx=>[E x]) 1],.int .i64 n]=some (il (lr u R ao ay n)):=bx.dx (x:=((R,ao,ay,n):A9)) ae λ⟨ko,h6,mA,vd⟩ Y=>by simpa[and_assoc]using Y
noncomputable abbrev aHm(u:aG)(h:cE u)(A:1<=u.aZ.length):mG N:=⟨[TQ u h A,acv u h A,TR u h A,acy u h A,Ix u h A,Iy u h A,NH,FC],[]⟩
abbrev xU:Type:=Int×Int×Int
abbrev aDE(x:xU):List Value:=[E x.1,E x.2.1,E x.2.2]
abbrev wL(l:List xU):Value:=ad (l.map aDE) 3
structure UQ(u:aG)(L:List (List Int))(ops:List xU)(oJ:Bool)(o cB pd eA i:Nat)(z:aC)(t:H):Prop where
 aHp: ∃R ao ay,R.length=u.aY.length/\hg u (ao++ay)=true/\ao.length+ay.length<=eA+i/\t.I o=some ⟨oz u L R,true⟩/\t.I cB=some ⟨[bm ao,bm ay],true⟩
 e1:t.I pd=some ⟨[.slice none 0 0,.slice none 0 0],true⟩
 bO:z 0=bH o
 bS:z 2=wL ops
 bW:z 3= .bool oJ
 bz:z 5=bH cB
 bl:z 8=bH pd
 e4:z 10=E i
theorem aDR{u:aG}(h:cE u)(A:1<=u.aZ.length)(p4:1<=u.aY.length){L:List (List Int)}{ops:List xU}(Kx:ops.length<=500){oJ:Bool}{o cB pd eA:Nat}(zZ:eA<=400)(fW:o≠cB)(gI:o≠pd)(iO:cB≠pd){Q:cM->aC->H->Prop}{z:aC}{t:H}(gq:UQ u L ops oJ o cB pd eA 0 z t)
 (bb: ∀K af,UQ u L ops oJ o cB pd eA ops.length K af->Q (.cH 0) K af):ec N (.loop qR) z t Q:=by
 have eW:=h.ok.fg;have ic:=h.ok.h2;have bG:=h.ok.hl;refine aIB (ax:=aHm u h A) (λi z t=>UQ u L ops oJ o cB pd eA i z t) ops.length ?_ ?_ 0 z t (gi _) gq
 ·rintro i z t W ⟨⟨R,ao,ay,qF,iR,di,bq,hr⟩,e1,bO,bS,bW,bz,bl,e4⟩ bM a1;obtain⟨⟨yA,fg,Il⟩,B⟩: ∃x,ops[i]?=some x:=⟨_,c1 W⟩;have cS:ops[i]=(yA,fg,Il):=(cG.1 B).2;have bC:(i:Int)<ops.length:=(by omega);have br:=fz (n:=i) (by omega);have bk:=aM bq;have cl:=aM hr;have kR:=aM e1;have D5:ao.length+ay.length<=999:=(by omega);have aho:ao.length+ay.length<=1000:=(by omega);have z0:IntKind.i64.wrap ((u.aP.length:Int)+u.aY.length)=(u.aP.length:Int)+u.aY.length:=cY (by omega) (by omega);have hY:IntKind.i64.wrap ((u.aP.length:Int)+u.aY.length-1)=(u.aP.length:Int)+u.aY.length-1:=cY (by omega) (by omega);have nb:(u.aP.length:Int)+u.aY.length-1<=1000000:=(by omega);have Cn: ∀x,0<=iS x ((u.aP.length:Int)+u.aY.length-1)/\iS x ((u.aP.length:Int)+u.aY.length-1)<(u.aP.length:Int)+u.aY.length-1:= λx=>HX (by omega);have jA: ∀x,IntKind.i64.wrap (1+iS x ((u.aP.length:Int)+u.aY.length-1))=1+iS x ((u.aP.length:Int)+u.aY.length-1):= λx=>cY (by have:=Cn x;omega) (by have:=Cn x;omega);obtain⟨ik,lk⟩: ∃ik,ik=if oJ=true then 1+iS fg ((u.aP.length:Int)+u.aY.length-1)else fg:=⟨_,rfl⟩
  obtain⟨fY,gX⟩: ∃fY,fY=va u R ao ay yA ik:=⟨_,rfl⟩;have Ke:=aHt (u:=u) (R:=R) (ao:=ao) (ay:=ay) (k:=yA) (n:=ik);rw[<-gX]at Ke;have bn:fY.1.length<=1000000/\fY.2.1.length<=1000000:=(by omega);have av:= λj9:fY.2.2=0=>aHu h.ok (u:=u) (R:=R) (ao:=ao) (ay:=ay) (k:=yA) (n:=ik) (by rw[<-gX];exact j9);rw[<-gX]at av;by_cases lz:yA=3
  ·have agR: ¬R.length=0:=(by omega);have aRP:(R.length:Int)<=1000000:=(by omega);have mk:0<=iS ik R.length/\iS ik R.length<R.length:=HX (by omega);obtain⟨aR,dz⟩: ∃aR:Nat,iS ik R.length=aR:=⟨(iS ik R.length).toNat,by omega⟩;rw[dz]at mk;have bK:(aR:Int)<R.length:=(by omega);have cz:aR<R.length:=(by omega);have dV:aR+1<=R.length:=cz;have amU:R.length*8<=140737488355328/\R.length<=9223372036854775807:=(by omega);subst lz;have kM: ∀(K:aC) (af:H) (q:Nat),af.I q=some ⟨(R.set aR (iS Il 4)).map E,true⟩->q≠o->q≠cB->q≠pd->af.I o=some ⟨(oz u L R).set 8 (b7 q R.length 1),true⟩->af.I cB=some ⟨[bm ao,bm ay],true⟩->af.I pd=some ⟨[.slice none 0 0,.slice none 0 0],true⟩->K 0=bH o->K 2=wL ops->K 3= .bool oJ->K 5=bH cB->K 8=bH pd->K 10=E (i+1:Nat)->bM K af:= λK af q jE aD aJ cg aE a2 cj t0 eC t3 nL NV pQ=>by
    refine a1 _ _ (.inr ⟨q,o,8,1,(R.set aR (iS Il 4)).map λx=>[E x],(oz u L R).set 8 (b7 q R.length 1),by rw[l5];exact jE,su,aE,by simp[oz],aD,⟨⟨R.set aR (iS Il 4),ao,ay,by rw[List.length_set];exact qF,iR,by omega,?_,?_⟩,?_,t0,eC,t3,nL,NV,pQ⟩⟩)
    ·rw[cx (by have:=aM aE;simpa using this)];simp[oz]
    ·rw[a7 (λe=>fW e.symm),a7 (λe=>aJ e.symm)];exact a2
    ·rw[a7 (λe=>gI e.symm),a7 (λe=>cg e.symm)];exact cj
   cases oJ
   ·rw[if_neg (by decide)]at lk;subst lk;simp(disch:=first|omega|simp only[DI.aK];omega) [qR,bO,bS,bW,e4,bq,bC,br,cS,agR,dz,bK,dV,amU,l5,-an,-au,-ak,-aq,-List.map_map];refine kM _ _ (t.next+2+4) ?_ (by omega) (by omega) (by omega) ?_ ?_ ?_ (by simp[bO]) (by simp[bS]) (by simp[bW]) (by simp[bz]) (by simp[bl]) (by simp)
    ·rw[List.map_set];simp(disch:=first|omega|simp only[DI.aK];omega) [-an,-au,-ak,-aq,-List.map_map]
    ·simp(disch:=first|omega|simp only[DI.aK];omega) [-an,-au,-ak,-aq,-List.map_map]
    ·simp(disch:=first|omega|simp only[DI.aK];omega) [hr,-an,-au,-ak,-aq,-List.map_map]
    ·simp(disch:=first|omega|simp only[DI.aK];omega) [e1,-an,-au,-ak,-aq,-List.map_map]
   ·rw[if_pos rfl]at lk;have sS:IntKind.i64.wrap ik=ik:=(by rw[lk];exact jA fg);simp(disch:=first|omega|simp only[DI.aK];omega) [qR,bO,bS,bW,e4,bq,bC,br,cS,agR,dz,bK,dV,amU,l5,z0,hY,sS,<-lk,-an,-au,-ak,-aq,-List.map_map];refine kM _ _ (t.next+2+4) ?_ (by omega) (by omega) (by omega) ?_ ?_ ?_ (by simp[bO]) (by simp[bS]) (by simp[bW]) (by simp[bz]) (by simp[bl]) (by simp)
    ·rw[List.map_set];simp(disch:=first|omega|simp only[DI.aK];omega) [-an,-au,-ak,-aq,-List.map_map]
    ·simp(disch:=first|omega|simp only[DI.aK];omega) [-an,-au,-ak,-aq,-List.map_map]
    ·simp(disch:=first|omega|simp only[DI.aK];omega) [hr,-an,-au,-ak,-aq,-List.map_map]
    ·simp(disch:=first|omega|simp only[DI.aK];omega) [e1,-an,-au,-ak,-aq,-List.map_map]
  by_cases b6:yA=1
  ·have x8:fY=kx u R ao ay ik:=(by rw[gX];unfold va;rw[if_pos b6]);have ef:=apj (h:=h) (A:=A) (R:=R) (n:=ik) D5;have e2:=aGo (h:=h) (A:=A) (R:=R) (n:=ik) D5;rw[<-x8]at ef e2;subst b6;cases oJ
   ·rw[if_neg (by decide)]at lk;subst lk;by_cases j9:fY.2.2=0
    ·obtain⟨xu,Ff⟩:=av j9;simp(disch:=first|omega|simp only[DI.aK];omega) [qR,bO,bS,bW,bz,e4,bq,hr,bC,br,cS,ef,e2,j9,il,qB,-oM,-nq,-an,-au,-ak,-aq,-List.map_map];refine a1 _ _ (.inl ⟨⟨R,fY.1,fY.2.1,qF,xu,by omega,?_,?_⟩,?_,by simp[bO],by simp[bS],by simp[bW],by simp[bz],by simp[bl],by simp⟩)
     ·simp(disch:=first|omega|simp only[DI.aK];omega) [bq,-an,-au,-ak,-aq,-List.map_map]
     ·simp(disch:=first|omega|simp only[DI.aK];omega) [-an,-au,-ak,-aq,-List.map_map]
     ·simp(disch:=first|omega|simp only[DI.aK];omega) [e1,-an,-au,-ak,-aq,-List.map_map]
    ·simp(disch:=first|omega|simp only[DI.aK];omega) [qR,bO,bS,bW,bz,e4,bq,hr,bC,br,cS,ef,e2,j9,il,qB,-oM,-nq,-an,-au,-ak,-aq,-List.map_map];refine a1 _ _ (.inl ⟨⟨R,ao,ay,qF,iR,by omega,?_,?_⟩,?_,by simp[bO],by simp[bS],by simp[bW],by simp[bz],by simp[bl],by simp⟩)
     ·simp(disch:=first|omega|simp only[DI.aK];omega) [bq,-an,-au,-ak,-aq,-List.map_map]
     ·simp(disch:=first|omega|simp only[DI.aK];omega) [hr,-an,-au,-ak,-aq,-List.map_map]
     ·simp(disch:=first|omega|simp only[DI.aK];omega) [e1,-an,-au,-ak,-aq,-List.map_map]
   ·rw[if_pos rfl]at lk;have sS:IntKind.i64.wrap ik=ik:=(by rw[lk];exact jA fg);by_cases j9:fY.2.2=0
    ·obtain⟨xu,Ff⟩:=av j9;simp(disch:=first|omega|simp only[DI.aK];omega) [qR,bO,bS,bW,bz,e4,bq,hr,bC,br,cS,ef,e2,j9,il,qB,z0,hY,sS,<-lk,-oM,-nq,-an,-au,-ak,-aq,-List.map_map];refine a1 _ _ (.inl ⟨⟨R,fY.1,fY.2.1,qF,xu,by omega,?_,?_⟩,?_,by simp[bO],by simp[bS],by simp[bW],by simp[bz],by simp[bl],by simp⟩)
     ·simp(disch:=first|omega|simp only[DI.aK];omega) [bq,-an,-au,-ak,-aq,-List.map_map]
     ·simp(disch:=first|omega|simp only[DI.aK];omega) [-an,-au,-ak,-aq,-List.map_map]
     ·simp(disch:=first|omega|simp only[DI.aK];omega) [e1,-an,-au,-ak,-aq,-List.map_map]
    ·simp(disch:=first|omega|simp only[DI.aK];omega) [qR,bO,bS,bW,bz,e4,bq,hr,bC,br,cS,ef,e2,j9,il,qB,z0,hY,sS,<-lk,-oM,-nq,-an,-au,-ak,-aq,-List.map_map];refine a1 _ _ (.inl ⟨⟨R,ao,ay,qF,iR,by omega,?_,?_⟩,?_,by simp[bO],by simp[bS],by simp[bW],by simp[bz],by simp[bl],by simp⟩)
     ·simp(disch:=first|omega|simp only[DI.aK];omega) [bq,-an,-au,-ak,-aq,-List.map_map]
     ·simp(disch:=first|omega|simp only[DI.aK];omega) [hr,-an,-au,-ak,-aq,-List.map_map]
     ·simp(disch:=first|omega|simp only[DI.aK];omega) [e1,-an,-au,-ak,-aq,-List.map_map]
  by_cases cR:yA=2
  ·have x8:fY=lr u R ao ay ik:=(by rw[gX];unfold va;rw[if_neg b6,if_pos cR]);have ef:=apk (h:=h) (A:=A) (R:=R) (n:=ik) D5;have e2:=aGp (h:=h) (A:=A) (R:=R) (n:=ik) D5;rw[<-x8]at ef e2;subst cR;cases oJ
   ·rw[if_neg (by decide)]at lk;subst lk;by_cases j9:fY.2.2=0
    ·obtain⟨xu,Ff⟩:=av j9;simp(disch:=first|omega|simp only[DI.aK];omega) [qR,bO,bS,bW,bz,e4,bq,hr,bC,br,cS,ef,e2,j9,il,qB,-oM,-nq,-an,-au,-ak,-aq,-List.map_map];refine a1 _ _ (.inl ⟨⟨R,fY.1,fY.2.1,qF,xu,by omega,?_,?_⟩,?_,by simp[bO],by simp[bS],by simp[bW],by simp[bz],by simp[bl],by simp⟩)
     ·simp(disch:=first|omega|simp only[DI.aK];omega) [bq,-an,-au,-ak,-aq,-List.map_map]
     ·simp(disch:=first|omega|simp only[DI.aK];omega) [-an,-au,-ak,-aq,-List.map_map]
     ·simp(disch:=first|omega|simp only[DI.aK];omega) [e1,-an,-au,-ak,-aq,-List.map_map]
    ·simp(disch:=first|omega|simp only[DI.aK];omega) [qR,bO,bS,bW,bz,e4,bq,hr,bC,br,cS,ef,e2,j9,il,qB,-oM,-nq,-an,-au,-ak,-aq,-List.map_map];refine a1 _ _ (.inl ⟨⟨R,ao,ay,qF,iR,by omega,?_,?_⟩,?_,by simp[bO],by simp[bS],by simp[bW],by simp[bz],by simp[bl],by simp⟩)
     ·simp(disch:=first|omega|simp only[DI.aK];omega) [bq,-an,-au,-ak,-aq,-List.map_map]
     ·simp(disch:=first|omega|simp only[DI.aK];omega) [hr,-an,-au,-ak,-aq,-List.map_map]
     ·simp(disch:=first|omega|simp only[DI.aK];omega) [e1,-an,-au,-ak,-aq,-List.map_map]
   ·rw[if_pos rfl]at lk;have sS:IntKind.i64.wrap ik=ik:=(by rw[lk];exact jA fg);by_cases j9:fY.2.2=0
    ·obtain⟨xu,Ff⟩:=av j9;simp(disch:=first|omega|simp only[DI.aK];omega) [qR,bO,bS,bW,bz,e4,bq,hr,bC,br,cS,ef,e2,j9,il,qB,z0,hY,sS,<-lk,-oM,-nq,-an,-au,-ak,-aq,-List.map_map];refine a1 _ _ (.inl ⟨⟨R,fY.1,fY.2.1,qF,xu,by omega,?_,?_⟩,?_,by simp[bO],by simp[bS],by simp[bW],by simp[bz],by simp[bl],by simp⟩)
     ·simp(disch:=first|omega|simp only[DI.aK];omega) [bq,-an,-au,-ak,-aq,-List.map_map]
     ·simp(disch:=first|omega|simp only[DI.aK];omega) [-an,-au,-ak,-aq,-List.map_map]
     ·simp(disch:=first|omega|simp only[DI.aK];omega) [e1,-an,-au,-ak,-aq,-List.map_map]
    ·simp(disch:=first|omega|simp only[DI.aK];omega) [qR,bO,bS,bW,bz,e4,bq,hr,bC,br,cS,ef,e2,j9,il,qB,z0,hY,sS,<-lk,-oM,-nq,-an,-au,-ak,-aq,-List.map_map];refine a1 _ _ (.inl ⟨⟨R,ao,ay,qF,iR,by omega,?_,?_⟩,?_,by simp[bO],by simp[bS],by simp[bW],by simp[bz],by simp[bl],by simp⟩)
     ·simp(disch:=first|omega|simp only[DI.aK];omega) [bq,-an,-au,-ak,-aq,-List.map_map]
     ·simp(disch:=first|omega|simp only[DI.aK];omega) [hr,-an,-au,-ak,-aq,-List.map_map]
     ·simp(disch:=first|omega|simp only[DI.aK];omega) [e1,-an,-au,-ak,-aq,-List.map_map]
  ·have x8:fY=km u R ao ay:=(by rw[gX];unfold va;rw[if_neg b6,if_neg cR]);have ef:=oM (u:=u) (h:=h) (A:=A) (R:=R) aho;have e2:=nq (u:=u) (h:=h) (A:=A) (R:=R) aho;rw[<-x8]at ef e2;cases oJ
   ·rw[if_neg (by decide)]at lk;subst lk;by_cases j9:fY.2.2=0
    ·obtain⟨xu,Ff⟩:=av j9;simp(disch:=first|omega|simp only[DI.aK];omega) [qR,bO,bS,bW,bz,e4,bq,hr,bC,br,cS,ef,e2,j9,il,qB,b6,cR,lz,-oM,-nq,-an,-au,-ak,-aq,-List.map_map];refine a1 _ _ (.inl ⟨⟨R,fY.1,fY.2.1,qF,xu,by omega,?_,?_⟩,?_,by simp[bO],by simp[bS],by simp[bW],by simp[bz],by simp[bl],by simp⟩)
     ·simp(disch:=first|omega|simp only[DI.aK];omega) [bq,-an,-au,-ak,-aq,-List.map_map]
     ·simp(disch:=first|omega|simp only[DI.aK];omega) [-an,-au,-ak,-aq,-List.map_map]
     ·simp(disch:=first|omega|simp only[DI.aK];omega) [e1,-an,-au,-ak,-aq,-List.map_map]
    ·simp(disch:=first|omega|simp only[DI.aK];omega) [qR,bO,bS,bW,bz,e4,bq,hr,bC,br,cS,ef,e2,j9,il,qB,b6,cR,lz,-oM,-nq,-an,-au,-ak,-aq,-List.map_map];refine a1 _ _ (.inl ⟨⟨R,ao,ay,qF,iR,by omega,?_,?_⟩,?_,by simp[bO],by simp[bS],by simp[bW],by simp[bz],by simp[bl],by simp⟩)
     ·simp(disch:=first|omega|simp only[DI.aK];omega) [bq,-an,-au,-ak,-aq,-List.map_map]
     ·simp(disch:=first|omega|simp only[DI.aK];omega) [hr,-an,-au,-ak,-aq,-List.map_map]
     ·simp(disch:=first|omega|simp only[DI.aK];omega) [e1,-an,-au,-ak,-aq,-List.map_map]
   ·rw[if_pos rfl]at lk;have sS:IntKind.i64.wrap ik=ik:=(by rw[lk];exact jA fg);by_cases j9:fY.2.2=0
    ·obtain⟨xu,Ff⟩:=av j9;simp(disch:=first|omega|simp only[DI.aK];omega) [qR,bO,bS,bW,bz,e4,bq,hr,bC,br,cS,ef,e2,j9,il,qB,b6,cR,lz,z0,hY,sS,<-lk,-oM,-nq,-an,-au,-ak,-aq,-List.map_map];refine a1 _ _ (.inl ⟨⟨R,fY.1,fY.2.1,qF,xu,by omega,?_,?_⟩,?_,by simp[bO],by simp[bS],by simp[bW],by simp[bz],by simp[bl],by simp⟩)
     ·simp(disch:=first|omega|simp only[DI.aK];omega) [bq,-an,-au,-ak,-aq,-List.map_map]
     ·simp(disch:=first|omega|simp only[DI.aK];omega) [-an,-au,-ak,-aq,-List.map_map]
     ·simp(disch:=first|omega|simp only[DI.aK];omega) [e1,-an,-au,-ak,-aq,-List.map_map]
    ·simp(disch:=first|omega|simp only[DI.aK];omega) [qR,bO,bS,bW,bz,e4,bq,hr,bC,br,cS,ef,e2,j9,il,qB,b6,cR,lz,z0,hY,sS,<-lk,-oM,-nq,-an,-au,-ak,-aq,-List.map_map];refine a1 _ _ (.inl ⟨⟨R,ao,ay,qF,iR,by omega,?_,?_⟩,?_,by simp[bO],by simp[bS],by simp[bW],by simp[bz],by simp[bl],by simp⟩)
     ·simp(disch:=first|omega|simp only[DI.aK];omega) [bq,-an,-au,-ak,-aq,-List.map_map]
     ·simp(disch:=first|omega|simp only[DI.aK];omega) [hr,-an,-au,-ak,-aq,-List.map_map]
     ·simp(disch:=first|omega|simp only[DI.aK];omega) [e1,-an,-au,-ak,-aq,-List.map_map]
 ·rintro z t gq;have bS:=gq.bS;have e4:=gq.e4;simp(disch:=first|omega|simp only[DI.aK];omega) [qR,bS,e4,-an,-au,-ak,-aq,-List.map_map];exact bb _ _ ⟨gq.aHp,gq.e1,by simp[gq.bO],by simp[gq.bS],by simp[gq.bW],by simp[gq.bz],by simp[gq.bl],by simp[gq.e4]⟩
theorem aII{f:Nat}{xs ys:List Value}{t:H}{bA:Value->H->Prop}(h:fc N f ys t bA)(aS:ug xs ys):fc N f xs t bA:= λJ u jf m F az=>h J u jf m F (aS.kR az)
theorem aDT{u:aG}(h:cE u)(A:1<=u.aZ.length)(p4:1<=u.aY.length){L:List (List Int)}{R ao ay:List Int}{ops:List xU}(Kx:ops.length<=500){oJ:Bool}(qF:R.length=u.aY.length)(iR:hg u (ao++ay)=true)(az:ao.length+ay.length<=400){t:H}{o:Nat}(bq:t.I o=some ⟨oz u L R,true⟩):
 fc N 28 [bH o,.agg (jV ao ay).toArray,wL ops,.bool oJ] t λv af=> ∃lS nt mH,lS.length=u.aY.length/\hg u (nt++mH)=true/\nt.length+mH.length<=ao.length+ay.length+ops.length/\v= .tuple #[.agg (jV nt mH).toArray,.bool true]/\af.I o=some ⟨oz u L lS,true⟩:=by
 have bk:=aM bq;refine c2 (ax:=⟨[],[]⟩) azj (by kernel_rfl) (by simp[YL]) ?_;simp[YL,akX];refine aDR h A p4 (L:=L) Kx (oJ:=oJ) (o:=o) (cB:=t.next) (pd:=t.next+1) (eA:=ao.length+ay.length) az (by omega) (by omega) (by omega) ⟨⟨R,ao,ay,qF,iR,by omega,?_,?_⟩,?_,by simp,by simp,by simp,by simp,by simp,by simp⟩ λK af gq=> ?_
 ·simp(disch:=omega) [bq]
 ·simp(disch:=first|omega|simp only[DI.aK];omega)
 ·simp(disch:=first|omega|simp only[DI.aK];omega)
 obtain⟨⟨lS,nt,mH,bt,bR,a3,a4,ft⟩,e1,bO,bS,bW,bz,bl,e4⟩:=gq;have aad:=aM a4;have EW:=aM ft;have xl:=aM e1;have aD:t.next≠t.next+1:=by omega
 have aJ:o≠t.next+1:=by omega
 simp(disch:=first|omega|simp only[DI.aK];omega) [akY,bz,bl,ft,e1,a4];exact⟨lS,bt,nt,mH,bR,a3,⟨rfl,rfl⟩,rfl⟩
theorem aIH{f:Nat}{xs:List Value}{t:H}{bA:Value->H->Prop}(h:fc N f xs t bA):fc N f xs t λv af=>bA v af/\t.next<=af.next:= λJ u jf m F az=>(h J u jf m F az).bD λr U ⟨cU,cy,v,af,A,D,ai,aT⟩=>⟨cU,cy,v,af,⟨A,aT.k5⟩,D,ai,aT⟩
theorem apK{u:aG}:hg u ([]++[])=true:=by simp[hg]
theorem aDS{u:aG}(h:cE u)(A:1<=u.aZ.length)(p4:1<=u.aY.length){L:List (List Int)}{R:List Int}{ops:List xU}(Kx:ops.length<=500){oJ:Bool}(qF:R.length=u.aY.length){t:H}{o:Nat}(bq:t.I o=some ⟨oz u L R,true⟩):
 fc N 28 [bH o,.agg #[.slice none 0 0,.slice none 0 0],wL ops,.bool oJ] t λv af=> ∃lS nt mH,lS.length=u.aY.length/\hg u (nt++mH)=true/\nt.length+mH.length<=ops.length/\v= .tuple #[.agg (jV nt mH).toArray,.bool true]/\af.I o=some ⟨oz u L lS,true⟩:=by
 have:=aDT h A p4 (L:=L) (R:=R) (ao:=[]) (ay:=[]) Kx (oJ:=oJ) qF apK (by simp) bq;refine aII (this.bD λv af ⟨lS,nt,mH,bt,bR,a3,a4⟩=>⟨lS,nt,mH,bt,bR,by simpa using a3,a4⟩) ?_;exact⟨.refl _,pt.agg (xs:=[_,_]) (ys:=[_,_]) ⟨.nil,.nil,trivial⟩,.refl _,.refl _,trivial⟩
theorem atz{l:List Int}(az:l.length<=140737488355328){ops:List xU}{oJ:Bool}:bP N 5 [bm l,wL ops,.bool oJ] (.bool true):=by
 obtain⟨u,L,R,ap4,bt,er,eO,b6,cR,g8,MJ⟩:=aas az;have a5:=Ta bt (by decide);refine du (c2 (ax:=⟨[Iu],[]⟩) azJ (by kernel_rfl) (by simp[RR]) ?_);by_cases fW:(12:Int)<ops.length
 ·simp(disch:=omega) [RR,YV,fW]
 simp(disch:=omega) [RR,YV,alc,fW];refine(MJ _).bD λv bj ⟨M,aH,_⟩=> ?_;subst M;have MA:=aM aH;have Ci:12<bj.next:=MA
 have aap:5<bj.next:=by omega
 have iQ:(aI u++[jO L,bm R]).length=9:=rfl;have Kl:gE [Value.int IntKind.i64 0,Value.slice none 0 0,Value.slice none 0 0,Value.slice none 0 0,Value.slice none 0 0,Value.slice none 0 0,Value.slice none 0 0,Value.slice none 0 0,Value.slice none 0 0] 0 (aI u++[jO L,bm R])=aI u++[jO L,bm R]:=by simp[gE,aI]
 simp(disch:=first|omega|simp only[DI.aK];omega) [iQ,Kl];have fB:(bj.aO 5 (some ⟨aI u++[jO L,bm R],true⟩)).I 5=some ⟨oz u L R,true⟩:=by rw[cx aap];rfl
 generalize bj.aO 5 _=eC at fB⊢;simp(disch:=first|omega|simp only[DI.aK];omega) [ald,-an,-au,-ak,-aq,-List.map_map];refine(aIH (aDS a5 bt.j4.1 bt.h2.1 (L:=L) (R:=R) (by omega) b6 ?_)).bD λv t3 ⟨⟨lS,nt,mH,aD,aJ,cg,M,g⟩,kO⟩=> ?_
 ·exact(cJ (aM fB)).trans fB
 subst M;have EW:=aM g;have aae:eC.next+7<t3.next:=by simp at kO;omega
 simp(disch:=omega) [ale]
abbrev MW:fZ:= .od (.int .i64) (.od (.int .i64) (.od (.int .i64) .unit))
abbrev H8:fZ:= .slice MW
def toOp(d:MW.bU):xU:=(d.1,d.2.1,d.2.2.1)
theorem anW(d:H8.bU):Bc H8 d=wL ((pw (e:=MW) d).map toOp):=by show ad ((pw (e:=MW) d).map (vp MW)) 3=_;unfold wL;rw[List.map_map];congr 1
theorem ast(d:fZ.bool.bU):Bc .bool d= .bool d:=rfl
theorem atw(m:H)(dp:List Value)(h:xQ m [tH,H8,.bool] dp):ep N 5 dp m λr _=>r= .bool true:=by
 refine aai (λts ba=> ?_) m dp h;cases ba with
 | @cons _ d _ vs ok F=>
   cases F with
   | @cons _ lB _ y7 Tn mM=>
     cases mM with
     | @cons _ gI _ adC Ff ie=>cases ie;rw[SM,anW,ast];exact atz (HP ok)
end Go.Proofs.YtmmkkggfmigppaaGreat
namespace Go.Proofs.YtmmkkggfmigppaaGreat.drainPlaysDone
open Go.ChangeShapes Go.WideShapes Go.ChangeAt Go.RowKit
section
theorem own:ownKnob Tryz.prog.godebug=none:=by kernel_rfl
theorem laidOut:laidOutB Tryz.prog=true:=by kernel_rfl
theorem mixed:Tryz.prog.follows .mixedOrders=true:=by kernel_rfl
set_option maxRecDepth 100000 in
theorem lifted(os:Os)(xI:os.Started)(gK:Type)(enc:TypeId×Value->gK):
 ReturnsInHanded {} Tryz.checked os 5 .any (Rows.drainPlaysSpec.pre6 enc Tryz.prog Tryz.f5 Rows.drainPlaysRow.domain false) (Rows.drainPlaysSpec.post enc Tryz.prog Tryz.f5 false true false false):=by
 refine returnsInHanded_of_change_sized (C:=Tryz.checked) own xI (by kernel_rfl) Tryz.func5
  (ChangeSpec.witness6 (enc:=enc) (C:=Tryz.checked) false ⟨#[],#[.slice none 0 0,.slice none 0 0,.bool false],[]⟩ 8 (by kernel_rfl) (by kernel_rfl) (by kernel_rfl) (by kernel_rfl)) ?_
 intro ay base args ds hr OO BR qH ag3 KF _;have tz: ∀(j:Nat) t v,Tryz.f5.params[j]?=some t->args[j]?=some v->Value.okWide Tryz.prog ay .any base t v:=BR;have Kh:=qH;obtain⟨p,q,Bw,ch,rfl,Kr,eW⟩:=qH;have ye:hr=[]:=(trodVars_none ch).1;have nE: ∀n∈DataW.weightsEach Tryz.prog Tryz.f5.params.toList ds,n<=reachBytes:= λn ae=>by have j3:(DataW.weightsEach Tryz.prog (Tryz.f5.params.toList++Rows.drainPlaysSpec.plain.varTypes Tryz.prog) (ds++hr)).all (· <=reachBytes)=true:=KF;have:=dP.1 j3 n (by rw[ye];simpa[Rows.drainPlaysSpec,ChangeSpec.plain,DataSpec.varTypes]using ae);simpa using this
 have dG:DataW.TrodAll enc Tryz.prog ay 0 (λ_=>true) true Tryz.f5.params.toList args.toList ds p:=Bw;have vy:=Go.DI.aah (f:=5) (n:=12) mixed (ts:=Tryz.f5.params.toList) (mX:=[tH,H8,.bool]) (by kernel_rfl) (λj t v A D=>tz j t v (by simpa using A) D) dG nE (λm dp h=>atw m dp h);rw[Tryz.params5]at dG tz;obtain⟨v0,aqu,DA,afS,pb,bC,PN,rfl,rfl,bY,mT⟩:=trodAll_cons dG;obtain⟨q9,aqv,fW,zE,ef,a8,rfl,rfl,rfl,A,ek⟩:=trodAll_cons mT;obtain⟨qk,adC,gI,Vy,e2,bV,rfl,rfl,rfl,D,gm⟩:=trodAll_cons ek;obtain⟨rfl,rfl,rfl⟩:=trodAll_nil gm;obtain rfl:args= #[v0,q9,qk]:=by cases args;simp_all
 obtain⟨rfl,rfl⟩:=trodVars_none ch;have MC: ∀x∈pb,x.block<ay.heap.size:=by obtain⟨m,ab⟩:=bY;exact DataW.trod_lt m _ _ _ ab
 have Ci: ∀x∈ef,x.block<ay.heap.size:=by obtain⟨m,ab⟩:=A;exact DataW.trod_lt m _ _ _ ab
 have S7: ∀x∈e2,x.block<ay.heap.size:=by obtain⟨m,ab⟩:=D;exact DataW.trod_lt m _ _ _ ab
 clear Bw BR;refine vy.mono λe mH ⟨aQ,tb⟩=> ?_;subst aQ;exact⟨_,rfl,_,_,_,[],_,[],Kh,trodAll_mk1 (shut_bool (by kernel_rfl) _),(trodAll_cons_mk (Below.trod laidOut (by kernel_rfl) (of_decide_eq_true (by kernel_rfl)) bY tb MC) (trodAll_cons_mk (Below.trod laidOut (by kernel_rfl) (of_decide_eq_true (by kernel_rfl)) A tb Ci) (trodAll_cons_mk (Below.trod laidOut (by kernel_rfl) (of_decide_eq_true (by kernel_rfl)) D tb S7) trodAll_mk0))),rfl,tb.frame _,λh=>by cases h⟩
set_option maxRecDepth 10000
theorem eg{a b:Bool}(h:a=true)(cn:b=true):(a&&b)=true:=by rw[h,cn];rfl
theorem L9:(Rows.drainPlaysRow.wf (OpenSpec.ofChange Rows.drainPlaysSpec))=true:=by kernel_rfl
theorem uL:(laidOutB Tryz.pinned.checked.prog)=true:=by kernel_rfl
theorem uM:(mapsRowed Tryz.pinned.checked.prog)=true:=by kernel_rfl
theorem xi:(Tryz.f5.params.all (Tryz.pinned.checked.prog.readableRec ·))=true:=by kernel_rfl
theorem Af:(namedTie Tryz.pinned.checked.prog Rows.drainPlaysRow.named Rows.drainPlaysSpec.vars)=true:=by kernel_rfl
theorem Ag:((Rows.drainPlaysRow.stops==[]))=true:=by kernel_rfl
theorem Ah:((Tryz.pinned.checked.prog.stops==[]))=true:=by kernel_rfl
theorem Ai:((Rows.drainPlaysRow.knobs==[]))=true:=by kernel_rfl
theorem ES:((Tryz.pinned.checked.prog.stopKnobs==[]))=true:=by kernel_rfl
theorem Aj:((Rows.drainPlaysRow.inPlace==Tryz.pinned.checked.prog.inPlace 5))=true:=by kernel_rfl
theorem Ma:((Rows.drainPlaysRow.unfollowed==Tryz.pinned.checked.prog.unfollowed 5))=true:=by kernel_rfl
theorem Mb:((Rows.drainPlaysRow.recurses==Tryz.pinned.checked.prog.recurses 5))=true:=by kernel_rfl
theorem Mc:((Rows.drainPlaysRow.named==Tryz.pinned.checked.prog.varsNamed 5))=true:=by kernel_rfl
theorem Md:((Rows.drainPlaysRow.maps==(Tryz.f5.params.toList++Rows.drainPlaysSpec.plain.varTypes Tryz.pinned.checked.prog).any (Tryz.pinned.checked.prog.mapsRec ·)))=true:=by kernel_rfl
theorem Me:((Rows.drainPlaysRow.ifaces==(Tryz.f5.params.toList++Rows.drainPlaysSpec.plain.varTypes Tryz.pinned.checked.prog).any (Tryz.pinned.checked.prog.ifacesRec ·)))=true:=by kernel_rfl
theorem Mf:((Rows.drainPlaysRow.mapsOut==Tryz.pinned.checked.prog.mapsAmong Tryz.f5.resultTypes.toList))=true:=by kernel_rfl
theorem Mg:((Rows.drainPlaysRow.loops==(Tryz.f5.params.toList++Rows.drainPlaysSpec.plain.varTypes Tryz.pinned.checked.prog).any (Tryz.pinned.checked.prog.loopsFrom ·)))=true:=by kernel_rfl
theorem Mh:((Rows.drainPlaysRow.wideKeys==(Tryz.f5.params.toList++Rows.drainPlaysSpec.plain.varTypes Tryz.pinned.checked.prog++Tryz.f5.resultTypes.toList).any (Tryz.pinned.checked.prog.wideKeysFrom ·)))=true:=by kernel_rfl
theorem Mi:(Rows.drainPlaysSpec.vars.all (Tryz.pinned.checked.prog.varReadable ·))=true:=by kernel_rfl
theorem Mj:(Tryz.f5.resultTypes.all (λt=>Tryz.pinned.checked.prog.readableRec t&&decide (t<Tryz.pinned.checked.prog.types.size)))=true:=by kernel_rfl
theorem Mk:((Rows.drainPlaysRow.ifacesOut==Tryz.f5.resultTypes.toList.any (Tryz.pinned.checked.prog.ifacesRec ·)))=true:=by kernel_rfl
theorem Ml:((Rows.drainPlaysRow.loopsOut==Tryz.f5.resultTypes.toList.any (Tryz.pinned.checked.prog.loopsFrom ·)))=true:=by kernel_rfl
theorem Mm:((Rows.drainPlaysRow.plainKeys==Tryz.pinned.checked.prog.plainKeys))=true:=by kernel_rfl
theorem Mn:(Rows.drainPlaysRow.shortTexts.isNone)=true:=by kernel_rfl
theorem Mo:(Tryz.pinned.checked.prog.stopsHeard)=true:=by kernel_rfl
theorem Mp:(Tryz.pinned.checked.prog.mayEnter)=true:=by kernel_rfl
theorem Mq:((Rows.drainPlaysRow.lifted==Tryz.pinned.checked.prog.liftsFinal))=true:=by kernel_rfl
theorem Mr:((Tryz.pinned.checked.prog.make==some Rows.drainPlaysRow.make))=true:=by kernel_rfl
theorem Ms:((Rows.drainPlaysRow.kinds==(if Rows.drainPlaysRow.domain.isEmpty then[]else Tryz.f5.params.toList.map λt=>match Tryz.pinned.checked.prog.underlying t with|some (.int k)=>some k|_=>none)))=true:=by kernel_rfl
theorem Mt:((Rows.drainPlaysRow.pinned==Rows.drainPlaysRow.pinnedBy))=true:=by kernel_rfl
theorem Mu:((Rows.drainPlaysRow.veiled==(Tryz.f5.params.toList++Rows.drainPlaysSpec.plain.varTypes Tryz.pinned.checked.prog++Tryz.f5.resultTypes.toList).any (Tryz.pinned.checked.prog.veiledRec ·)))=true:=by kernel_rfl
theorem Mv:(Rows.drainPlaysRow.veiledFits Tryz.pinned.checked.prog Tryz.f5.params.toList (Tryz.f5.params.toList++Rows.drainPlaysSpec.plain.varTypes Tryz.pinned.checked.prog++Tryz.f5.resultTypes.toList))=true:=by kernel_rfl
theorem Mw:joinedFacts Tryz.pinned.checked.prog 5 Tryz.f5 Rows.drainPlaysSpec Rows.drainPlaysRow=true:=(eg (eg (eg (eg (eg (eg (eg (eg (eg (eg (eg (eg (eg (eg (eg (eg (eg (eg (eg (eg (eg (eg (eg (eg (eg (eg (eg (eg (eg (eg (eg L9 uL) uM) xi) Af) Ag) Ah) Ai) ES) Aj) Ma) Mb) Mc) Md) Me) Mf) Mg) Mh) Mi) Mj) Mk) Ml) Mm) Mn) Mo) Mp) Mq) Mr) Ms) Mt) Mu) Mv)
theorem over:Rows.drainPlaysRow.holds Tryz.pinned (OpenSpec.ofChange Rows.drainPlaysSpec):=
 OpenClaim.holds_of_wide 5 Tryz.f5 rfl rfl rfl rfl rfl rfl rfl ⟨rfl,rfl,rfl,rfl,rfl⟩ rfl rfl rfl rfl rfl (by kernel_rfl) Tryz.func5 Mw
  (of_decide_eq_true (by kernel_rfl)) (by unfold Func.isWrapper;first|(rw[if_pos (by decide+kernel)];kernel_rfl)|(rw[if_neg (by decide+kernel)];exact⟨rfl,rfl⟩))
  (λos xI gK enc _=>lifted os xI gK enc)
theorem proved:Rows.DrainPlaysSaid:=over
#print axioms proved
end
end Go.Proofs.YtmmkkggfmigppaaGreat.drainPlaysDone
