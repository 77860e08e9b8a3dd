/-
  For every input the law returns true, and each argument reads behind the call as it read before. The last part of the proof; tools of ours have shortened it.
-/
import Derived.Test.YtmmkkggfmigppaaGreatZczai
set_option linter.all false
set_option maxRecDepth 8000
set_option maxHeartbeats 16000000
namespace Go.Proofs.YtmmkkggfmigppaaGreat
open Go Go.DI Go.Big
theorem tb: ∀{r s:List Int},r.length=s.length->Ea r s=0->r=s
 |[],[],_,_=>rfl
 | a::r,b::s,d,h=>by
   simp only[Ea]at h;have e:a=b:=by
    by_cases c:a=b
    ·exact c
    ·rw[if_neg c]at h;omega
   rw[e,tb (r:=r) (s:=s) (by simpa using d) (by omega)]
theorem z1: ∀{a b:List (List Int)},MF a b->EY a b=0->a=b
 |[],[],_,_=>rfl
 |[],_::_,h,_=>by have:=h.1;simp at this
 |_::_,[],h,_=>by have:=h.1;simp at this
 | r::a,s::b,h,c=>by simp only[EY]at c;have d:=tb (h.2 0 r s rfl rfl) (by omega);have e:=z1 (a:=a) (b:=b) ⟨by have:=h.1;simpa using this,λv x y f g=>h.2 (v+1) x y (by simpa using f) (by simpa using g)⟩ (by omega);rw[d,e]
variable{L w Fin:List (List Int)}{R fE l:List Int}{u:AY}{b:Bool}{eR:Int}
theorem a7c{b:List Int}(h:IK u R L)(a:IK u b w):MF L w:=⟨by rw[h.len,a.len],λv r s c d=>by have:=h.D8 v r c;have:=a.D8 v s d;omega⟩
theorem pX(a:BW u)(h:IK u R L):EN u L=true:=
 z5 h.len λv r b=>by have:=((Yf a).2 h).D8 v r b;rw[en,this.len,this.ok];simp
theorem r9(h:PQ u R L L):False:=by
 obtain⟨g,T,a,b,c,_⟩:=h;cases T with
 |nil=>exact c rfl
 | cons x T=>obtain⟨v,i,_,_,d,e,f⟩:=b.left x (by simp);exact f (Rc ((a v i _ d).elim id id) e)
theorem nq{L:List (List Int)}{T:List Cn}(h:HD L L T):T=[]:=by
 cases T with
 |nil=>rfl
 | cons x T=>obtain⟨v,i,_,_,a,b,c⟩:=h.left x (by simp);exact absurd (Rc a b) c
theorem g6(h:BW u)(a:IK u R L)(d:ZY u R L Fin eR fE b):Fin=L/\eR=0:=by
 obtain⟨e,f,k,g⟩:=We h (pX h a) d;have i:=g L a;rw[a1q]at i;have c:=a7c a e;have j:DY L Fin=EY L Fin:=by unfold DY;rw[if_pos (Qq c.1 c.2)]
 rw[j]at f;exact⟨(z1 c (by omega)).symm,by omega⟩
theorem aEY(O:l.length<=140737488355328):AL U 14 [AH l] (.bool true):=by
 obtain⟨u,L,R,Ad,f,z,o,Ae,Af,Ah,Q⟩:=jK O;have a:=dn f (by decide);have h:=cP a z o;have p:=mA (u:=u) (L:=L) z o;have Al:1<=u.A1.length/\u.A1.length<=9:=f.Ek;have Am:=f.F4;refine BG (Ak (an:=⟨[Te,Sz u a,YD u a],[]⟩) aE8 (by kernel_rfl) (by simp[lU]) ?_);simp(disch:=first|omega|simp only[DI.A2];omega)[lU,tk,-H,-E,-I,-G,-List.map_map];refine(Q _).AG λv i ⟨d,V⟩=> ?_;subst d;have X:=F V;have Ao:12<i.next:=X
 have Z:(A4 u++[Ag L,AH R]).length=9:=rfl;have A8:C3 [Value.int IntKind.i64 0,Value.slice none 0 0,Value.slice none 0 0,Value.slice none 0 0,Value.slice none 0 0,Value.slice none 0 0,Value.slice none 0 0,Value.slice none 0 0,Value.slice none 0 0] 0 (A4 u++[Ag L,AH R])=A4 u++[Ag L,AH R]:=by simp[C3,A4]
 have A9:5<i.next:=by omega
 simp(disch:=first|omega|simp only[DI.A2];omega)[Z,A8,-H,-E,-I,-G,-List.map_map];have j:(i.A0 5 (some ⟨A4 u++[Ag L,AH R],true⟩)).W 5=some ⟨[Y u.ext,M (u.Bz.map Cc) 4,M (u.Aa.map Ce) 4,M (u.A5.map Bd) 7,M (u.A1.map CB) 3,M (u.Ay.map B3) 17,M (u.A7.map Cd) 2,Ag L,AH R],true⟩:=AT A9;generalize i.A0 5 _=g at j⊢;have AB:=F j;simp(disch:=first|omega|simp only[DI.A2];omega)[qF,j,-H,-E,-I,-G,-List.map_map];refine((Z4 a f.F4.1 h p (R:=R)).O9 (λv d=>by simp at d;rcases d with rfl|rfl|rfl<;>rfl)).AG λv t3 ⟨r,s⟩=> ?_;subst s;rcases r with⟨A,rfl⟩|⟨Fin,eR,fE,b,B,⟨AD,C,rfl⟩|⟨S,T,w,Ap,AF,AJ,rfl⟩⟩
 ·simp(disch:=first|omega|simp only[DI.A2];omega)[Z0,Tl,XP,c8,-H,-E,-I,-G,-List.map_map]
 ·simp(disch:=first|omega|simp only[DI.A2];omega)[Z0,Tl,XP,c8,-H,-E,-I,-G,-List.map_map]
 obtain⟨x,Aq,AK,Ar⟩:=We a.ok p B;have As:=h.1;have D:Fb u Fin:=by have:=dN (R:=R) (l:=S) h;rw[w]at this;exact this
 have At:=D.1;have Au:(Fb u L/\EN u L=true)/\S.length<=1000000:=⟨⟨h,p⟩,by omega⟩;have AM:(DE u R S L).1=Fin:=by rw[w]
 have AN:(DE u R S L).2=S.length:=by rw[w]
 have AO:=pX a.ok x;have AP:L0 u R L=true->S.length=0:= λq=>by
  have AQ:=(Yf a.ok).1 (dM.1 q);obtain⟨rfl,rfl⟩:=g6 a.ok AQ B;rcases AJ with q|q
  ·rw[nq AF]at q;simpa using q
  ·exact(r9 q).elim
 obtain⟨c,k⟩: ∃c,c=(g.AE 13).A0 (g.next+10) (some ⟨[Hr S,Ag Fin,Y eR,AH fE,Y ((S.length:Int)-eR)],true⟩):=⟨_,rfl⟩;have Av:c.next=g.next+13:=by rw[k];simp
 have m:c.W 5=some ⟨[Y u.ext,M (u.Bz.map Cc) 4,M (u.Aa.map Ce) 4,M (u.A5.map Bd) 7,M (u.A1.map CB) 3,M (u.Ay.map B3) 17,M (u.A7.map Cd) 2,Ag L,AH R],true⟩:=by rw[k,A3 (by omega),AU AB];exact j
 have e:c.W (g.next+10)=some ⟨[Hr S,Ag Fin,Y eR,AH fE,Y ((S.length:Int)-eR)],true⟩:=by rw[k];exact AT (by simp)
 simp(disch:=first|omega|simp only[DI.A2];omega)[Z0,-H,-E,-I,-G,-List.map_map];rw[<-k];generalize g.next+10=y at e⊢
 have Aw:=F m;have AR:=F e
 suffices J: ∀n:A6,n 3=AA 5->n 5=AA y->DI.ED (P:=U) ⟨[Te,Sz u a,YD u a],[]⟩ XP n c (DI.ay [.AI 2] λv t=>DI.Az 9 t v=some (.bool true)) by
  cases q:L0 u R L
  ·simp(disch:=first|omega|simp only[DI.A2];omega)[Tl,m,q,-H,-E,-I,-G,-List.map_map];exact J _ (by simp) (by simp)
  ·have AS:=AP q;have AV:S=[]:=Gy.1 AS;simp(disch:=first|omega|simp only[DI.A2];omega)[Tl,m,e,q,AV,-H,-E,-I,-G,-List.map_map];exact J _ (by simp) (by simp)
 intro n AW K;simp(disch:=first|omega|simp only[DI.A2];omega)[XP,AW,K,m,e,AM,AN,-H,-E,-I,-G,-List.map_map];refine((Z4 a f.F4.1 D AO (R:=R)).O9 (λv d=>by simp at d;rcases d with rfl|rfl|rfl<;>rfl)).AG λv t3 ⟨r,s⟩=> ?_;subst s;have AX: ∀b,b<c.next->(c.AE 12).W b=c.W b:= λb hb=>AU hb
 have Ax:=(AX y AR).trans e;have B0:(c.AE 12).next=c.next+12:=rfl
 rcases r with⟨A,rfl⟩|⟨B1,B2,B4,o,N,⟨AD,C,rfl⟩|⟨AY,B5,B6,B7,AZ,Ab,rfl⟩⟩
 ·exact(A AK).elim
 ·exact(C (g6 a.ok x N).1.symm).elim
 obtain⟨rfl,rfl⟩:=g6 a.ok x N;have Ac:AY=[]:=by
  rcases Ab with q|q
  ·rw[nq AZ]at q;exact Gy.1 q
  ·exact(r9 q).elim
 subst Ac;have B8: ¬y=c.next+9:=by omega
 simp(disch:=first|omega|simp only[DI.A2];omega)[c8,K,e,-H,-E,-I,-G,-List.map_map]
theorem a2x(m:V)(a:List Value)(h:MU m [L5] a):Aq U 14 a m λr _=>r= .bool true:=by
 refine kR (λts b=> ?_) m a h;cases b with
 | @cons _ d _ e ok c=>cases c;rw[Xo];exact aEY (dL ok)
end Go.Proofs.YtmmkkggfmigppaaGreat
namespace Go.Proofs.YtmmkkggfmigppaaGreat.rebalanceRestsDone
open Go.ChangeShapes Go.WideShapes Go.ChangeAt Go.RowKit
section
theorem own:ownKnob Tryz.prog.godebug=none:=by kernel_rfl
theorem laidOut:laidOutB Tryz.prog=true:=by kernel_rfl
theorem mixed:Tryz.prog.follows .mixedOrders=true:=by kernel_rfl
set_option maxRecDepth 100000 in
theorem lifted(os:Os)(s:os.Started)(u:Type)(enc:TypeId×Value->u):
 ReturnsInHanded {} Tryz.checked os 14 .any (Rows.rebalanceRestsSpec.pre6 enc Tryz.prog Tryz.f14 Rows.rebalanceRestsRow.domain false) (Rows.rebalanceRestsSpec.post enc Tryz.prog Tryz.f14 false true false false):=by
 refine returnsInHanded_of_change_sized (C:=Tryz.checked) own s (by kernel_rfl) Tryz.func14
  (ChangeSpec.witness6 (enc:=enc) (C:=Tryz.checked) false ⟨#[],#[.slice none 0 0],[]⟩ 8 (by kernel_rfl) (by kernel_rfl) (by kernel_rfl) (by kernel_rfl)) ?_
 intro a base args ds c N d g O w _;have i: ∀(j:Nat) t v,Tryz.f14.params[j]?=some t->args[j]?=some v->Value.okWide Tryz.prog a .any base t v:=d;have y:=g;obtain⟨p,q,k,l,rfl,P,Q⟩:=g;have z:c=[]:=(trodVars_none l).1;have A: ∀n∈DataW.weightsEach Tryz.prog Tryz.f14.params.toList ds,n<=reachBytes:= λn B=>by have D:(DataW.weightsEach Tryz.prog (Tryz.f14.params.toList++Rows.rebalanceRestsSpec.plain.varTypes Tryz.prog) (ds++c)).all (· <=reachBytes)=true:=w;have:=BF.1 D n (by rw[z];simpa[Rows.rebalanceRestsSpec,ChangeSpec.plain,DataSpec.varTypes]using B);simpa using this
 have b:DataW.TrodAll enc Tryz.prog a 0 (λ_=>true) true Tryz.f14.params.toList args.toList ds p:=k;have E:=Go.DI.ij (f:=14) (n:=12) mixed (ts:=Tryz.f14.params.toList) (nR:=[L5]) (by kernel_rfl) (λj t v F G=>i j t v (by simpa using F) G) b A (λm H h=>a2x m H h);rw[Tryz.params14]at b i;obtain⟨v0,S,T,U,I,V,W,rfl,rfl,o,J⟩:=trodAll_cons b;obtain⟨rfl,rfl,rfl⟩:=trodAll_nil J;obtain rfl:args= #[v0]:=by cases args;simp_all
 obtain⟨rfl,rfl⟩:=trodVars_none l;have K: ∀x∈I,x.block<a.heap.size:=by obtain⟨m,L⟩:=o;exact DataW.trod_lt m _ _ _ L
 clear k d;refine E.mono λe X ⟨M,r⟩=> ?_;subst M;exact⟨_,rfl,_,_,_,[],_,[],y,trodAll_mk1 (shut_bool (by kernel_rfl) _),(trodAll_cons_mk (Below.trod laidOut (by kernel_rfl) (of_decide_eq_true (by kernel_rfl)) o r K) trodAll_mk0),rfl,r.frame _,λh=>by cases h⟩
set_option maxRecDepth 10000
theorem BH{a b:Bool}(h:a=true)(c:b=true):(a&&b)=true:=by rw[h,c];rfl
theorem XS:(Rows.rebalanceRestsRow.wf (OpenSpec.ofChange Rows.rebalanceRestsSpec))=true:=by kernel_rfl
theorem K9:(laidOutB Tryz.pinned.checked.prog)=true:=by kernel_rfl
theorem KE:(mapsRowed Tryz.pinned.checked.prog)=true:=by kernel_rfl
theorem LU:(Tryz.f14.params.all (Tryz.pinned.checked.prog.readableRec ·))=true:=by kernel_rfl
theorem O8:(namedTie Tryz.pinned.checked.prog Rows.rebalanceRestsRow.named Rows.rebalanceRestsSpec.vars)=true:=by kernel_rfl
theorem JL:((Rows.rebalanceRestsRow.stops==[]))=true:=by kernel_rfl
theorem Nj:((Tryz.pinned.checked.prog.stops==[]))=true:=by kernel_rfl
theorem O6:((Rows.rebalanceRestsRow.knobs==[]))=true:=by kernel_rfl
theorem QJ:((Tryz.pinned.checked.prog.stopKnobs==[]))=true:=by kernel_rfl
theorem O7:((Rows.rebalanceRestsRow.inPlace==Tryz.pinned.checked.prog.inPlace 14))=true:=by kernel_rfl
theorem UD:((Rows.rebalanceRestsRow.unfollowed==Tryz.pinned.checked.prog.unfollowed 14))=true:=by kernel_rfl
theorem Tq:((Rows.rebalanceRestsRow.recurses==Tryz.pinned.checked.prog.recurses 14))=true:=by kernel_rfl
theorem U9:((Rows.rebalanceRestsRow.named==Tryz.pinned.checked.prog.varsNamed 14))=true:=by kernel_rfl
theorem Tk:((Rows.rebalanceRestsRow.maps==(Tryz.f14.params.toList++Rows.rebalanceRestsSpec.plain.varTypes Tryz.pinned.checked.prog).any (Tryz.pinned.checked.prog.mapsRec ·)))=true:=by kernel_rfl
theorem W4:((Rows.rebalanceRestsRow.ifaces==(Tryz.f14.params.toList++Rows.rebalanceRestsSpec.plain.varTypes Tryz.pinned.checked.prog).any (Tryz.pinned.checked.prog.ifacesRec ·)))=true:=by kernel_rfl
theorem Ux:((Rows.rebalanceRestsRow.mapsOut==Tryz.pinned.checked.prog.mapsAmong Tryz.f14.resultTypes.toList))=true:=by kernel_rfl
theorem W1:((Rows.rebalanceRestsRow.loops==(Tryz.f14.params.toList++Rows.rebalanceRestsSpec.plain.varTypes Tryz.pinned.checked.prog).any (Tryz.pinned.checked.prog.loopsFrom ·)))=true:=by kernel_rfl
theorem UJ:((Rows.rebalanceRestsRow.wideKeys==(Tryz.f14.params.toList++Rows.rebalanceRestsSpec.plain.varTypes Tryz.pinned.checked.prog++Tryz.f14.resultTypes.toList).any (Tryz.pinned.checked.prog.wideKeysFrom ·)))=true:=by kernel_rfl
theorem Vc:(Rows.rebalanceRestsSpec.vars.all (Tryz.pinned.checked.prog.varReadable ·))=true:=by kernel_rfl
theorem Uu:(Tryz.f14.resultTypes.all (λt=>Tryz.pinned.checked.prog.readableRec t&&decide (t<Tryz.pinned.checked.prog.types.size)))=true:=by kernel_rfl
theorem WH:((Rows.rebalanceRestsRow.ifacesOut==Tryz.f14.resultTypes.toList.any (Tryz.pinned.checked.prog.ifacesRec ·)))=true:=by kernel_rfl
theorem V4:((Rows.rebalanceRestsRow.loopsOut==Tryz.f14.resultTypes.toList.any (Tryz.pinned.checked.prog.loopsFrom ·)))=true:=by kernel_rfl
theorem VB:((Rows.rebalanceRestsRow.plainKeys==Tryz.pinned.checked.prog.plainKeys))=true:=by kernel_rfl
theorem Uj:(Rows.rebalanceRestsRow.shortTexts.isNone)=true:=by kernel_rfl
theorem W7:(Tryz.pinned.checked.prog.stopsHeard)=true:=by kernel_rfl
theorem WG:(Tryz.pinned.checked.prog.mayEnter)=true:=by kernel_rfl
theorem Vb:((Rows.rebalanceRestsRow.lifted==Tryz.pinned.checked.prog.liftsFinal))=true:=by kernel_rfl
theorem Up:((Tryz.pinned.checked.prog.make==some Rows.rebalanceRestsRow.make))=true:=by kernel_rfl
theorem VE:((Rows.rebalanceRestsRow.kinds==(if Rows.rebalanceRestsRow.domain.isEmpty then[]else Tryz.f14.params.toList.map λt=>match Tryz.pinned.checked.prog.underlying t with|some (.int k)=>some k|_=>none)))=true:=by kernel_rfl
theorem VO:((Rows.rebalanceRestsRow.pinned==Rows.rebalanceRestsRow.pinnedBy))=true:=by kernel_rfl
theorem Wc:((Rows.rebalanceRestsRow.veiled==(Tryz.f14.params.toList++Rows.rebalanceRestsSpec.plain.varTypes Tryz.pinned.checked.prog++Tryz.f14.resultTypes.toList).any (Tryz.pinned.checked.prog.veiledRec ·)))=true:=by kernel_rfl
theorem Ve:(Rows.rebalanceRestsRow.veiledFits Tryz.pinned.checked.prog Tryz.f14.params.toList (Tryz.f14.params.toList++Rows.rebalanceRestsSpec.plain.varTypes Tryz.pinned.checked.prog++Tryz.f14.resultTypes.toList))=true:=by kernel_rfl
theorem Vq:joinedFacts Tryz.pinned.checked.prog 14 Tryz.f14 Rows.rebalanceRestsSpec Rows.rebalanceRestsRow=true:=(BH (BH (BH (BH (BH (BH (BH (BH (BH (BH (BH (BH (BH (BH (BH (BH (BH (BH (BH (BH (BH (BH (BH (BH (BH (BH (BH (BH (BH (BH (BH XS K9) KE) LU) O8) JL) Nj) O6) QJ) O7) UD) Tq) U9) Tk) W4) Ux) W1) UJ) Vc) Uu) WH) V4) VB) Uj) W7) WG) Vb) Up) VE) VO) Wc) Ve)
theorem over:Rows.rebalanceRestsRow.holds Tryz.pinned (OpenSpec.ofChange Rows.rebalanceRestsSpec):=
 OpenClaim.holds_of_wide 14 Tryz.f14 rfl rfl rfl rfl rfl rfl rfl ⟨rfl,rfl,rfl,rfl,rfl⟩ rfl rfl rfl rfl rfl (by kernel_rfl) Tryz.func14 Vq
  (of_decide_eq_true (by kernel_rfl)) (by unfold Func.isWrapper;first|(rw[if_pos (by decide+kernel)];kernel_rfl)|(rw[if_neg (by decide+kernel)];exact⟨rfl,rfl⟩))
  (λos a b enc _=>lifted os a b enc)
theorem proved:Rows.RebalanceRestsSaid:=over
#print axioms proved
end
end Go.Proofs.YtmmkkggfmigppaaGreat.rebalanceRestsDone
