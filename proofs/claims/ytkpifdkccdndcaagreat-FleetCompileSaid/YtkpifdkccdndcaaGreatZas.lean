/-
  A part of the proof of the statement, in texts that tools of ours (wip/shrink.py, irpack.py, relax.py, minify.py, join.py, lay.py) have shortened.
-/
import Derived.Test.YtkpifdkccdndcaaGreatZar
set_option linter.all false
set_option maxRecDepth 8000
set_option maxHeartbeats 16000000
namespace Go.Proofs.YtkpifdkccdndcaaGreat
open Go Go.DI Go.Big
theorem We{s:ByteArray}: ∀{l:List ByteArray} {i:Nat},dR s l=some i->l[i]?=some s
  |[],i,h=>by cases h
  | x::l,i,h=>by
    simp only[dR]at h;split at h
    · next J=>cases h;simp[J]
    · cases bt:dR s l with
      |none=>rw[bt]at h;cases h
      |some j=>rw[bt]at h;simp at h;subst h;simpa using We bt
theorem ZL{s:ByteArray}{l:List ByteArray}:ri (lh 0 l) s=(dR s l).isSome:=vV
theorem azA{s:ByteArray}{l:List ByteArray}(h:(dR s l).isSome=true):kY (lh 0 l) s=kv s l:=by
  unfold kY kv;rw[Cg];cases aa:dR s l with
  |none=>rw[aa]at h;cases h
  |some i=>simp[gd]
theorem alf{tQ l:List ByteArray}(h:(tQ.all λs=>(dR s l).isSome)=true):tQ.map (kY (lh 0 l))=tQ.map λs=>kv s l:=
  List.map_congr_left λs J=>azA (List.all_eq_true.1 h s J)
theorem afK{l:List ByteArray}: ∀{tQ:List ByteArray},(tQ.all λs=>(dR s l).isSome)=true->((tQ.map λs=>kv s l).Nodup↔tQ.Nodup)
  |[],_=>by simp
  | x::tQ,h=>by
    simp only[List.all_cons,Bool.and_eq_true]at h;rw[List.map_cons,List.nodup_cons,List.nodup_cons,afK h.2];refine and_congr_left λ_=>not_congr ?_;rw[List.mem_map];constructor
    · rintro⟨y,ah,aU⟩;have oq:=List.all_eq_true.1 h.2 y ah;cases H:dR x l with
      |none=>rw[H]at h;cases h.1
      | some i=>
        cases bY:dR y l with
        |none=>rw[bY]at oq;cases oq
        | some j=>rw[D0 H,D0 bY]at aU;have e:i=j:=(by omega);subst e;have z:=We H;have D:=We bY;rw[z]at D;cases D;exact ah
    · intro H;exact⟨x,H,rfl⟩
noncomputable def abx:c8 Tryz.prog:= .fJ 57 (Int×Int×Int×dY) (λ_=>True) (λp=>[S p.1,S p.2.1,S p.2.2.1,.agg #[S p.2.2.2.a,S p.2.2.2.b,S p.2.2.2.c,S p.2.2.2.d,S p.2.2.2.e]]) (λp=> .bool (oX p.1 p.2.1 p.2.2.1 p.2.2.2)) λ_ _=>aBT
@[simp] theorem aOB:abx.f=57:=rfl
@[simp] theorem aOC{k m q a b c d e:Int}:abx.fn [S k,S m,S q,.agg #[S a,S b,S c,S d,S e]]=some (.bool (oX k m q ⟨a,b,c,d,e⟩)):=c8.gX (x:=(k,m,q,(⟨a,b,c,d,e⟩:dY))) trivial λy ah=>by obtain⟨jU,rC,zh,CR,CS,Tf,Tg,Th⟩:=y;simp at ah;obtain⟨z,D,Z,aw,aX,cC,gn,iP⟩:=ah;simp[z,D,Z,aw,aX,cC,gn,iP]
noncomputable def abv:c8 Tryz.prog:= .fJ 58 (Int×List bh×bh×bh) (λp=>(0<=p.1/\p.1<=4)/\((∀x∈p.2.1,x.bM)/\p.2.1.length<1000000)/\p.2.2.1.bM/\p.2.2.2.bM) (λp=>[S p.1,fT p.2.1,eD p.2.2.1,eD p.2.2.2]) (λp=> .bool (ns p.1 p.2.1 p.2.2.1 p.2.2.2)) λ_ h=>arA h.1 h.2.1 h.2.2.1 h.2.2.2
@[simp] theorem aOt:abv.f=58:=rfl
@[simp] theorem aOu{m:Int}{r:List bh}{n dM:Bool}{a b er cQ:List Int}(h:(0<=m/\m<=4)/\((∀x∈r,x.bM)/\r.length<1000000)/\(bh.mk n a b).bM/\(bh.mk dM er cQ).bM):abv.fn [S m,bE (r.map eS) 3,.agg #[.bool n,e3 a,e3 b],.agg #[.bool dM,e3 er,e3 cQ]]=some (.bool (ns m r ⟨n,a,b⟩ ⟨dM,er,cQ⟩)):=c8.gX (x:=(m,r,(⟨n,a,b⟩:bh),(⟨dM,er,cQ⟩:bh))) h λy ah=>by obtain⟨jU,rC,⟨zh,CR,CS⟩,⟨Tf,Tg,Th⟩⟩:=y;simp[eS]at ah;obtain⟨z,D,⟨Z,aw,aX⟩,cC,gn,iP⟩:=ah;simp[z,D,Z,aw,aX,cC,gn,iP]
theorem asi{l:List oD}:(l.map mX).flatten.length=l.length*17:=by rw[tn (O:=17) λr aF=>by obtain⟨x,_,rfl⟩:=List.mem_map.1 aF;rfl,List.length_map]
structure aoD(s:gg)(G:dm)(aQ:Nat->Nat)(i:Nat)(x:mg)(gh nx o:Nat)(u:aL)(t:B):Prop where
  h:kT s G aQ u t
  yW:u 26=S i
  wk:u 27=bZ gh
  amY:u 28=S 0
  SE:u 29=bZ nx
  oY:u 30= .bool (!x.a5.all λs=>(dR s G.gJ).isSome)
  ps:u 31= .bool (!decide x.a5.Nodup)
  hu:t.M gh=some ⟨hc x,true⟩
  tr:t.M nx=some ⟨u4 x (.slice (some ⟨o,0,none⟩) x.a5.length 1),true⟩
  ds:t.M o=some ⟨(x.a5.map λs=>[S (kv s G.gJ)]).flatten,true⟩
  sX: ∀k,k<15->gh≠aQ k
  p2: ∀k,k<15->nx≠aQ k
  ow: ∀k,k<15->o≠aQ k
  fY:gh≠nx
  dh:gh≠o
  kZ:nx≠o
theorem H3{P:Program}{c:U}{u:aL}{t:B}{Q:dr->aL->B->Prop}{o j:Nat}(O:Nat){cs:List Value}(an:t.M o=some ⟨cs,true⟩)(cp:cs[j]?=some (.slice none 0 0))
    (h: ∀aN,aN.next=t.next+1->aN.M o=some ⟨cs.set j (.slice (some ⟨t.next,0,none⟩) 0 O),true⟩->aN.M t.next=some ⟨[],true⟩->(∀a,a<t.next->a≠o->aN.M a=t.M a)->hs P c u aN Q):hs P c u t Q:=by
  have cZ:=aT an;refine ack (O:=O) an cp (h _ (by simp) (bX (by simp;omega)) (by rw[dv (by omega),bX (by simp)]) (λa H ak=> ?_));rw[dv ak,dv (by omega),B.gr]
def HI(G:dm)(x:mg):oD:=⟨x.name,x.k,x.m,x.q,x.aY,x.a5.map (kY (lh 0 G.gJ)),x.hf.map ea,ea x.hS,ea x.ez⟩
theorem aBX{s:gg}(W:s.bM){hD:dm}(z:qn s= .inl hD){s0:Nat->Nat}{cO:aL}{cd:B}(bB:kT s hD s0 cO cd)(yW:cO 26=S 0){Q:dr->aL->B->Prop}
    (pJ: ∀G aQ u t,q6 s= .inl G->kT s G aQ u t->Q (.bI 11) u t) (jY: ∀e p u t,q6 s= .inr (e,p)->Fq e p u t->Q .a7 u t):hs Tryz.prog (.loop Pq) cO cd Q:=by
  have aG:=W.p2;have de:q6 s=fr jx (.inl hD) s.cG:=by rw[q6,z]
  rw[de]at pJ jY;refine aD4 (aY:=⟨[EY,AP,Mm,Mn,abx,abv],[]⟩) (λi u t=> ∃G aQ,fr jx (.inl hD) (s.cG.take i)= .inl G/\kT s G aQ u t/\u 26=S i) s.cG.length ?_ ?_ 0 cO cd (Nat.zero_le _) ⟨hD,s0,by simp[fr],bB,yW⟩
  · rintro i ag aN aa ⟨G,aQ,dB,h,yW⟩ b9 a9;have fH:=(y8 UQ (n:=3000) (λG h=>by cases h;exact Uw W z) aa aG (by decide) dB);obtain⟨nY,mE,xc,tE,uK,VO⟩:=fH;have aI:fr jx (.inl hD) (s.cG.take (i+1))=jx G s.cG[i]:=(by rw[kB (List.getElem?_eq_getElem aa),x1,dB];rfl);have H:s.cG[i]?=some s.cG[i]:=List.getElem?_eq_getElem aa;obtain⟨x,afE⟩: ∃x,x=s.cG[i]:=⟨_,rfl⟩;obtain⟨⟨V7,V9,V3⟩,afD⟩:=W.cG _ (List.getElem_mem aa);rw[<-afE]at aI H V7 V9 V3 afD;have oL:s.cG[i]=x:=afE.symm;have at3:G.gJ.length<1000000:=(by simp[dm.gJ];omega);have bo:IntKind.i64.wrap ((i:Int)+1)=(i:Int)+1:=ct (by omega) (by omega);have bK:(i:Int)<s.cG.length:=(by omega);have a4:aN.M (aQ 0)=some ⟨dT s,true⟩:=h.g 0 (by decide);have cY:=h.cW (k:=0) (by decide);have aH:=h.aH;simp(disch:=first|omega|(simp only[ae,ad,af,DI.ba];omega)) [Pq,agn,agp,agq,agr,ags,agt,hc,dT,aH,yW,bK,oL,a4,eS,-al,-ar,-ai,-ao,-List.map_map];refine H3 (o:=aN.next+8+14) (j:=9) 1 (cs:=u4 x (.slice none 0 0)) ?_ rfl λiG aam FN FM wR=> ?_
    · simp(disch:=first|omega|(simp only[ae,ad,af,DI.ba];omega)) [u4,-al,-ar,-ai,-ao,-List.map_map]
    simp only[ae,ad]at aam FN FM wR;have DC: ∀b,b<aN.next->iG.M b=aN.M b:= λb L=>by rw[wR b (by omega) (by omega),dv (by omega),B.gr,dv (by omega),B.gr]
    have yj:iG.M (aQ 11)=some ⟨fI G.gJ,true⟩:=(by rw[DC _ (h.cW (by decide))];exact h.g 11 (by decide));have c5:iG.M (aN.next+5)=some ⟨hc x,true⟩:=(by rw[wR _ (by omega) (by omega)];simp(disch:=first|omega|(simp only[ae,ad,af,DI.ba];omega)) [hc,-al,-ar,-ai,-ao,-List.map_map]);have aLp:=h.cW (k:=11) (by decide);have Mz:G.a5.length=G.gJ.length:=(by simp[dm.gJ]);have dP:=h.dP;rw[Mz]at dP;refine aBN (x:=x) (oV:=G.gJ) afD at3 (gh:=aN.next+5) (nx:=aN.next+8+14) (eN:=aN.next+24) (ed:=aQ 11) c5 ?_ ?_ yj (by omega) (by omega) (by omega) (by omega) (by omega) ?_ ?_ ?_ ?_ ?_ ?_ λu t o fv hY da tr ds ez oY ps=> ?_
    · rw[FN];rfl
    · exact FM
    · simp(disch:=first|omega|(simp only[ae,ad,af,DI.ba];omega)) [dP,-al,-ar,-ai,-ao,-List.map_map]
    · simp(disch:=first|omega|(simp only[ae,ad,af,DI.ba];omega)) [-al,-ar,-ai,-ao,-List.map_map]
    · simp(disch:=first|omega|(simp only[ae,ad,af,DI.ba];omega)) [-al,-ar,-ai,-ao,-List.map_map]
    · simp(disch:=first|omega|(simp only[ae,ad,af,DI.ba];omega)) [-al,-ar,-ai,-ao,-List.map_map]
    · simp(disch:=first|omega|(simp only[ae,ad,af,DI.ba];omega)) [-al,-ar,-ai,-ao,-List.map_map]
    · simp(disch:=first|omega|(simp only[ae,ad,af,DI.ba];omega)) [-al,-ar,-ai,-ao,-List.map_map]
    have cW: ∀k,k<15->aQ k<aN.next:= λk W=>h.cW W
    have aAc:iG.next=aN.next+25:=by rw[aam]
    have aeD:kT s G aQ u t:=by
      refine h.rM (y2 ?_ ?_ ?_ ?_ ?_ ?_ ?_ ?_ ?_) λb L=>by rw[da b (by omega) (by omega) (by omega),DC b L]
      · exact(fv 1 (by decide)).trans (by simp(disch:=first|omega|(simp only[ae,ad,af,DI.ba];omega)) [-al,-ar,-ai,-ao,-List.map_map])
      · exact(fv 2 (by decide)).trans (by simp(disch:=first|omega|(simp only[ae,ad,af,DI.ba];omega)) [-al,-ar,-ai,-ao,-List.map_map])
      · exact(fv 4 (by decide)).trans (by simp(disch:=first|omega|(simp only[ae,ad,af,DI.ba];omega)) [-al,-ar,-ai,-ao,-List.map_map])
      · exact(fv 8 (by decide)).trans (by simp(disch:=first|omega|(simp only[ae,ad,af,DI.ba];omega)) [-al,-ar,-ai,-ao,-List.map_map])
      · exact(fv 9 (by decide)).trans (by simp(disch:=first|omega|(simp only[ae,ad,af,DI.ba];omega)) [-al,-ar,-ai,-ao,-List.map_map])
      · exact(fv 10 (by decide)).trans (by simp(disch:=first|omega|(simp only[ae,ad,af,DI.ba];omega)) [-al,-ar,-ai,-ao,-List.map_map])
      · exact(fv 11 (by decide)).trans (by simp(disch:=first|omega|(simp only[ae,ad,af,DI.ba];omega)) [-al,-ar,-ai,-ao,-List.map_map])
      · exact(fv 12 (by decide)).trans (by simp(disch:=first|omega|(simp only[ae,ad,af,DI.ba];omega)) [-al,-ar,-ai,-ao,-List.map_map])
      · exact(fv 13 (by decide)).trans (by simp(disch:=first|omega|(simp only[ae,ad,af,DI.ba];omega)) [-al,-ar,-ai,-ao,-List.map_map])
    have U0:aoD s G aQ i x (aN.next+5) (aN.next+8+14) o u t:=(by refine⟨aeD,(fv 26 (by decide)).trans (by simp(disch:=first|omega|(simp only[ae,ad,af,DI.ba];omega)) [yW,-al,-ar,-ai,-ao,-List.map_map]),(fv 27 (by decide)).trans (by simp(disch:=first|omega|(simp only[ae,ad,af,DI.ba];omega)) [-al,-ar,-ai,-ao,-List.map_map]),(fv 28 (by decide)).trans (by simp(disch:=first|omega|(simp only[ae,ad,af,DI.ba];omega)) [-al,-ar,-ai,-ao,-List.map_map]),(fv 29 (by decide)).trans (by simp(disch:=first|omega|(simp only[ae,ad,af,DI.ba];omega)) [-al,-ar,-ai,-ao,-List.map_map]),oY,ps,?_,tr,ds,λk W=>by have:=cW k W;omega,λk W=>by have:=cW k W;omega,λk W=>by have:=cW k W;rcases ez with rfl|ca<;>omega,by omega,by rcases ez with rfl|ca<;>omega,by rcases ez with rfl|ca<;>omega⟩;rw[da _ (by omega) (by omega) (by omega)];exact c5);generalize aN.next+5=gh at U0
    generalize aN.next+8+14=nx at U0
    simp(disch:=first|omega|(simp only[ae,ad,af,DI.ba];omega)) [-al,-ar,-ai,-ao,-List.map_map];clear fv tr ds ez oY ps da hY c5 yj DC wR FM FN aam aAc aeD dP cW a4 cY aH yW h;obtain⟨h,yW,wk,amY,SE,oY,ps,hu,tr,ds,sX,p2,ow,fY,dh,kZ⟩:=U0;have a4:t.M (aQ 0)=some ⟨dT s,true⟩:=h.g 0 (by decide);have aC:t.M (aQ 1)=some ⟨fk,true⟩:=h.g 1 (by decide);have a2:t.M (aQ 2)=some ⟨[S 0,S 0],true⟩:=h.g 2 (by decide);have bS:t.M (aQ 3)=some ⟨hL s G aQ 3,true⟩:=h.g 3 (by decide);simp only[hL]at bS;have cY:=h.cW (k:=0) (by decide);have fM:=h.cW (k:=1) (by decide);have dg:=h.cW (k:=2) (by decide);have pW:=h.cW (k:=3) (by decide);have IG:=h.eZ 1 2 (by decide) (by decide) (by decide);have nn: ∀k,¬t.next+k=aQ 1:= λk=>by omega
    have Sa: ∀k,¬t.next+k=aQ 2:= λk=>by omega
    have aH:=h.aH;have bD:=h.bD;have bL:=h.bL;have b3:=h.b3;have cg:=h.cg;have dP:=h.dP;have fx:=h.fx;have hg:=h.hg;have gw:=h.gw;obtain⟨gU,ia⟩: ∃c,c=fI G.lv:=⟨_,rfl⟩;have kJ:t.M (aQ 13)=some ⟨gU,true⟩:=(by rw[ia];exact h.g 13 (by decide));have RX:=h.cW (k:=13) (by decide);obtain⟨kG,kH,kI⟩:=sY (l:=G.lv) (n:=G.cG.length) (by simp[dm.lv]);rw[<-ia]at kG kH kI;have Ok:G.lv.length<1000000:=(by first|omega|(simp[dm.lv]<;>omega));have iV:=aT hu;have aLm:=aT tr;have cZ:=aT ds;have EE:gh≠aQ 1:=sX 1 (by decide);have aLE:gh≠aQ 2:=sX 2 (by decide);have aLF:gh≠aQ 3:=sX 3 (by decide);have aLG:gh≠aQ 8:=sX 8 (by decide);have aLD:gh≠aQ 13:=sX 13 (by decide);have aL5:nx≠aQ 1:=p2 1 (by decide);have aL7:nx≠aQ 2:=p2 2 (by decide);have aL8:nx≠aQ 3:=p2 3 (by decide);have aL9:nx≠aQ 8:=p2 8 (by decide);have aL6:nx≠aQ 13:=p2 13 (by decide);have aLL:o≠aQ 1:=ow 1 (by decide);have aLN:o≠aQ 2:=ow 2 (by decide);have aLO:o≠aQ 3:=ow 3 (by decide);have aLP:o≠aQ 8:=ow 8 (by decide);have aLM:o≠aQ 13:=ow 13 (by decide);cases bO:gP x.name
    · have c1:jx G x= .inr (1,x.p):=(by simp[jx,oy,bO]);simp(disch:=first|omega|(simp only[ae,ad,af,DI.ba];omega)) [z3,z4,bD,bL,wk,aC,a2,fk,hu,hc,EE,bO,-al,-ar,-ai,-ao,-List.map_map];refine jY 1 _ _ _ (mj (aI.trans c1)) ?_;exact⟨aQ 1,aQ 2,by simp(disch:=first|omega|(simp only[ae,ad,af,DI.ba];omega)) [bD,-al,-ar,-ai,-ao,-List.map_map],by simp(disch:=first|omega|(simp only[ae,ad,af,DI.ba];omega)) [fk,-al,-ar,-ai,-ao,-List.map_map],by simp,by simp(disch:=first|omega|(simp only[ae,ad,af,DI.ba];omega)) [bL,-al,-ar,-ai,-ao,-List.map_map],by simp(disch:=first|omega|(simp only[ae,ad,af,DI.ba];omega)) [-al,-ar,-ai,-ao,-List.map_map]⟩
    · cases aR:(dR x.name G.lv).isSome
      · have ix:=BQ aR;cases uH:oX x.k x.m x.q x.aY
        · have c1:jx G x= .inr (5,x.p):=(by simp[jx,oy,bO,aR,uH]);simp(disch:=first|omega|(simp only[ae,ad,af,DI.ba];omega)) [z3,z4,bD,bL,hg,wk,aC,a2,fk,hu,hc,jq,jw,kJ,kG,kH,kI,EE,bO,ix,uH,-al,-ar,-ai,-ao,-List.map_map];refine jY 5 _ _ _ (mj (aI.trans c1)) ?_;exact⟨aQ 1,aQ 2,by simp(disch:=first|omega|(simp only[ae,ad,af,DI.ba];omega)) [bD,-al,-ar,-ai,-ao,-List.map_map],by simp(disch:=first|omega|(simp only[ae,ad,af,DI.ba];omega)) [fk,-al,-ar,-ai,-ao,-List.map_map],by simp,by simp(disch:=first|omega|(simp only[ae,ad,af,DI.ba];omega)) [bL,-al,-ar,-ai,-ao,-List.map_map],by simp(disch:=first|omega|(simp only[ae,ad,af,DI.ba];omega)) [-al,-ar,-ai,-ao,-List.map_map]⟩
        · have ae5:0<=x.m/\x.m<=4:=by
            have:=uH;simp[oX,cU]at this;omega
          by_cases w3:x.a5=[]
          · have c1:jx G x= .inr (1,x.p):=(by simp[jx,oy,bO,aR,uH,w3]);have nE:(x.a5.length:Int)=0:=(by simp[w3]);have nV:x.a5.length=0:=(by simp[w3]);simp(disch:=first|omega|(simp only[ae,ad,af,DI.ba];omega)) [z3,z4,bD,bL,hg,wk,aC,a2,fk,hu,hc,jq,jw,kJ,kG,kH,kI,EE,bO,ix,uH,nV,-al,-ar,-ai,-ao,-List.map_map];refine jY 1 _ _ _ (mj (aI.trans c1)) ?_;exact⟨aQ 1,aQ 2,by simp(disch:=first|omega|(simp only[ae,ad,af,DI.ba];omega)) [bD,-al,-ar,-ai,-ao,-List.map_map],by simp(disch:=first|omega|(simp only[ae,ad,af,DI.ba];omega)) [fk,-al,-ar,-ai,-ao,-List.map_map],by simp,by simp(disch:=first|omega|(simp only[ae,ad,af,DI.ba];omega)) [bL,-al,-ar,-ai,-ao,-List.map_map],by simp(disch:=first|omega|(simp only[ae,ad,af,DI.ba];omega)) [-al,-ar,-ai,-ao,-List.map_map]⟩
          · have nE: ¬(x.a5.length:Int)=0:=(by simpa using w3);have nV: ¬x.a5.length=0:=(by simpa using w3);cases jX:x.a5.all λs=>(dR s G.gJ).isSome
            · rw[jX]at oY;have Jj:x.a5.all (ri (lh 0 G.gJ))=false:=(by rw[<-jX];congr 1;funext O;exact ZL);have c1:jx G x= .inr (7,x.p):=(by simp[jx,oy,bO,aR,uH,w3,Jj]);simp only[Bool.not_false]at oY;simp(disch:=first|omega|(simp only[ae,ad,af,DI.ba];omega)) [z3,z4,bD,bL,hg,wk,oY,aC,a2,fk,hu,hc,jq,jw,kJ,kG,kH,kI,EE,bO,ix,uH,nV,-al,-ar,-ai,-ao,-List.map_map];refine jY 7 _ _ _ (mj (aI.trans c1)) ?_;exact⟨aQ 1,aQ 2,by simp(disch:=first|omega|(simp only[ae,ad,af,DI.ba];omega)) [bD,-al,-ar,-ai,-ao,-List.map_map],by simp(disch:=first|omega|(simp only[ae,ad,af,DI.ba];omega)) [fk,-al,-ar,-ai,-ao,-List.map_map],by simp,by simp(disch:=first|omega|(simp only[ae,ad,af,DI.ba];omega)) [bL,-al,-ar,-ai,-ao,-List.map_map],by simp(disch:=first|omega|(simp only[ae,ad,af,DI.ba];omega)) [-al,-ar,-ai,-ao,-List.map_map]⟩
            · have Jj:x.a5.all (ri (lh 0 G.gJ))=true:=(by rw[<-jX];congr 1;funext O;exact ZL);have dN:=alf jX;have lK:=afK jX;rw[<-dN]at lK;rw[jX]at oY;simp only[Bool.not_true]at oY;by_cases hF:x.a5.Nodup
              · have Bs:decide x.a5.Nodup=true:=(by simp[hF]);rw[Bs]at ps;simp only[Bool.not_true]at ps;cases Ox:ns x.m x.hf x.hS x.ez
                · have c1:jx G x= .inr (5,x.p):=(by simp[jx,oy,bO,aR,uH,w3,Jj,lK,hF,Ox]);have atn:(0<=x.m/\x.m<=4)/\((∀y∈x.hf,y.bM)/\x.hf.length<1000000)/\x.hS.bM/\x.ez.bM:=⟨ae5,V7,V9,V3⟩;simp(disch:=first|omega|(simp only[ae,ad,af,DI.ba];omega)) [z3,z4,bD,bL,hg,wk,oY,ps,aC,a2,fk,hu,hc,jq,jw,kJ,kG,kH,kI,EE,bO,ix,uH,nV,Ox,-al,-ar,-ai,-ao,-List.map_map];refine jY 5 _ _ _ (mj (aI.trans c1)) ?_;exact⟨aQ 1,aQ 2,by simp(disch:=first|omega|(simp only[ae,ad,af,DI.ba];omega)) [bD,-al,-ar,-ai,-ao,-List.map_map],by simp(disch:=first|omega|(simp only[ae,ad,af,DI.ba];omega)) [fk,-al,-ar,-ai,-ao,-List.map_map],by simp,by simp(disch:=first|omega|(simp only[ae,ad,af,DI.ba];omega)) [bL,-al,-ar,-ai,-ao,-List.map_map],by simp(disch:=first|omega|(simp only[ae,ad,af,DI.ba];omega)) [-al,-ar,-ai,-ao,-List.map_map]⟩
                · have c1:jx G x= .inl {G with cG:=G.cG++[HI G x]}:=(by simp[jx,oy,bO,aR,uH,w3,Jj,lK,hF,Ox,HI]);have atn:(0<=x.m/\x.m<=4)/\((∀y∈x.hf,y.bM)/\x.hf.length<1000000)/\x.hS.bM/\x.ez.bM:=⟨ae5,V7,V9,V3⟩;obtain⟨iO,mY⟩: ∃c,c=(G.cG.map mX).flatten:=⟨_,rfl⟩;have q9:t.M (aQ 8)=some ⟨iO,true⟩:=(by rw[mY];exact h.g 8 (by decide));have uY:=h.cW (k:=8) (by decide);have IH:=h.eZ 3 8 (by decide) (by decide) (by decide);have Nv:=h.eZ 3 13 (by decide) (by decide) (by decide);have IN:=h.eZ 8 13 (by decide) (by decide) (by decide);have h9:iO.length=G.cG.length*17:=(by rw[mY,asi]);have hB:iO.take (G.cG.length*17)=iO:=List.take_of_length_le (by omega);have iH:gU.take G.cG.length=gU:=List.take_of_length_le (by omega);have fV:(G.cG.length+1)*240<=140737488355328/\G.cG.length<=9223372036854775806/\(G.cG.length+1)*16<=140737488355328:=(by omega);simp(disch:=first|omega|(simp only[ae,ad,af,DI.ba];omega)) [z3,z4,agx,b3,hg,yW,wk,amY,SE,oY,ps,bo,hu,tr,hc,u4,jq,jw,kJ,kG,kH,kI,bO,ix,uH,nV,Ox,bS,q9,h9,hB,iH,fV,-al,-ar,-ai,-ao,-List.map_map];have qz:(iO++u4 x (.slice (some ⟨o,0,none⟩) x.a5.length 1)).set (G.cG.length*17+9) (bE (x.a5.map λs=>[S (kv s G.gJ)]) 1)=((G.cG++[HI G x]).map mX).flatten:=by
                    rw[<-sC,<-mY,List.set_append_right _ _ (by omega),h9,show G.cG.length*17+9-G.cG.length*17=9 by omega];congr 1;have BG:(x.a5.map λs=>kv s G.gJ).map (λs=>[S s])=x.a5.map λs=>[S (kv s G.gJ)]:=by rw[List.map_map];rfl
                    simp only[u4,mX,HI,dN,tl,BG,List.set_cons_succ,List.set_cons_zero]
                  refine a9 _ _ ⟨o,t.next+6+4,G.cG.length*17+9,1,x.a5.map (λs=>[S (kv s G.gJ)]),iO++u4 x (.slice (some ⟨o,0,none⟩) x.a5.length 1),?_,?_,?_,?_,?_,⟨_,_,aI.trans c1,h.step 8 13 (dt:=t.next+6+4) (dJ:=t.next+4) (by decide) (by decide) (by omega) (by omega) (by omega) (λk W Z H ak=> ?_) (λk W Z H ak=> ?_) ?_ ?_ ?_ ?_ ?_ ?_ ?_ ?_ ?_ ?_ ?_ ?_,?_⟩⟩
                  · simp(disch:=first|omega|(simp only[ae,ad,af,DI.ba];omega)) [-al,-ar,-ai,-ao,-List.map_map];exact ds
                  · intro r aF;obtain⟨y,_,rfl⟩:=List.mem_map.1 aF;exact⟨rfl,λv X=>by simp at X;subst X;rfl⟩
                  · simp(disch:=first|omega|(simp only[ae,ad,af,DI.ba];omega)) [u4,-al,-ar,-ai,-ao,-List.map_map]
                  · rw[List.getElem?_append_right (by omega),h9,show G.cG.length*17+9-G.cG.length*17=9 by omega,List.length_map];rfl
                  · omega
                  · have L:=h.cW W;have cI:=h.eZ k 3 W (by decide) Z;have lj:=h.eZ k 8 W (by decide) H;have qm:=h.eZ k 13 W (by decide) ak;have aH2:=ow k W;simp(disch:=first|omega|(simp only[ae,ad,af,DI.ba];omega)) [-al,-ar,-ai,-ao,-List.map_map]
                  · rcases v3 W with rfl|rfl|rfl|rfl|rfl|rfl|rfl|rfl|rfl|rfl|rfl|rfl|rfl|rfl|rfl<;>first|rfl|exact absurd rfl Z|exact absurd rfl H|exact absurd rfl ak
                  · simp(disch:=first|omega|(simp only[ae,ad,af,DI.ba];omega)) [hL,c9,-al,-ar,-ai,-ao,-List.map_map]
                  · rw[bX (by simp(disch:=first|omega|(simp only[ae,ad,af,DI.ba];omega)) [-al,-ar,-ai,-ao,-List.map_map]),qz];rfl
                  · rw[show hL s {G with cG:=G.cG++[HI G x]} (c9 (c9 aQ 8 (t.next+6+4)) 13 (t.next+4)) 13=gU++[cz x.name] by rw[ia];simp[hL,dm.lv,fI,HI]];simp(disch:=first|omega|(simp only[ae,ad,af,DI.ba];omega)) [-al,-ar,-ai,-ao,-List.map_map]
                  · simp(disch:=first|omega|(simp only[ae,ad,af,DI.ba];omega)) [aH,-al,-ar,-ai,-ao,-List.map_map]
                  · simp(disch:=first|omega|(simp only[ae,ad,af,DI.ba];omega)) [bD,-al,-ar,-ai,-ao,-List.map_map]
                  · simp(disch:=first|omega|(simp only[ae,ad,af,DI.ba];omega)) [bL,-al,-ar,-ai,-ao,-List.map_map]
                  · simp(disch:=first|omega|(simp only[ae,ad,af,DI.ba];omega)) [b3,-al,-ar,-ai,-ao,-List.map_map]
                  · simp(disch:=first|omega|(simp only[ae,ad,af,DI.ba];omega)) [c9,h.cg,-al,-ar,-ai,-ao,-List.map_map]
                  · simp(disch:=first|omega|(simp only[ae,ad,af,DI.ba];omega)) [c9,h.dP,-al,-ar,-ai,-ao,-List.map_map]
                  · simp(disch:=first|omega|(simp only[ae,ad,af,DI.ba];omega)) [c9,h.fx,-al,-ar,-ai,-ao,-List.map_map]
                  · simp(disch:=first|omega|(simp only[ae,ad,af,DI.ba];omega)) [c9,-al,-ar,-ai,-ao,-List.map_map]
                  · simp(disch:=first|omega|(simp only[ae,ad,af,DI.ba];omega)) [c9,h.gw,-al,-ar,-ai,-ao,-List.map_map]
                  · simp(disch:=first|omega|(simp only[ae,ad,af,DI.ba];omega)) [-al,-ar,-ai,-ao,-List.map_map]
              · have Bs:decide x.a5.Nodup=false:=(by simp[hF]);rw[Bs]at ps;simp only[Bool.not_false]at ps;have c1:jx G x= .inr (8,x.p):=(by simp[jx,oy,bO,aR,uH,w3,Jj,lK,hF]);simp(disch:=first|omega|(simp only[ae,ad,af,DI.ba];omega)) [z3,z4,bD,bL,hg,wk,oY,ps,aC,a2,fk,hu,hc,jq,jw,kJ,kG,kH,kI,EE,bO,ix,uH,nV,-al,-ar,-ai,-ao,-List.map_map];refine jY 8 _ _ _ (mj (aI.trans c1)) ?_;exact⟨aQ 1,aQ 2,by simp(disch:=first|omega|(simp only[ae,ad,af,DI.ba];omega)) [bD,-al,-ar,-ai,-ao,-List.map_map],by simp(disch:=first|omega|(simp only[ae,ad,af,DI.ba];omega)) [fk,-al,-ar,-ai,-ao,-List.map_map],by simp,by simp(disch:=first|omega|(simp only[ae,ad,af,DI.ba];omega)) [bL,-al,-ar,-ai,-ao,-List.map_map],by simp(disch:=first|omega|(simp only[ae,ad,af,DI.ba];omega)) [-al,-ar,-ai,-ao,-List.map_map]⟩
      · obtain⟨j,ix⟩:=JV aR;have c1:jx G x= .inr (8,x.p):=(by simp[jx,oy,bO,aR]);have uU:(0:Int)<=(j:Int):=(by omega);simp(disch:=first|omega|(simp only[ae,ad,af,DI.ba];omega)) [z3,z4,bD,bL,hg,wk,aC,a2,fk,hu,hc,jq,jw,kJ,kG,kH,kI,EE,bO,ix,uU,-al,-ar,-ai,-ao,-List.map_map];refine jY 8 _ _ _ (mj (aI.trans c1)) ?_;exact⟨aQ 1,aQ 2,by simp(disch:=first|omega|(simp only[ae,ad,af,DI.ba];omega)) [bD,-al,-ar,-ai,-ao,-List.map_map],by simp(disch:=first|omega|(simp only[ae,ad,af,DI.ba];omega)) [fk,-al,-ar,-ai,-ao,-List.map_map],by simp,by simp(disch:=first|omega|(simp only[ae,ad,af,DI.ba];omega)) [bL,-al,-ar,-ai,-ao,-List.map_map],by simp(disch:=first|omega|(simp only[ae,ad,af,DI.ba];omega)) [-al,-ar,-ai,-ao,-List.map_map]⟩
  · rintro u t ⟨G,aQ,dB,h,yW⟩;rw[List.take_length]at dB;have a4:t.M (aQ 0)=some ⟨dT s,true⟩:=h.g 0 (by decide);have cY:=h.cW (k:=0) (by decide);have aH:=h.aH;simp(disch:=first|omega|(simp only[ae,ad,af,DI.ba];omega)) [Pq,aH,yW,a4,dT,-al,-ar,-ai,-ao,-List.map_map];exact pJ G aQ _ _ dB (h.rM (y2 (by simp) (by simp) (by simp) (by simp) (by simp) (by simp) (by simp) (by simp) (by simp)) λb L=>by simp(disch:=first|omega|(simp only[ae,ad,af,DI.ba];omega)) [-al,-ar,-ai,-ao,-List.map_map])
theorem adG{s:gg}{e:Int×mf}(h:wQ s= .inr e):mC s= .inr e:=by simp only[mC,q6,qn,pa,h,tp]
theorem Uu{s:gg}{e:Int×mf}(h:pa s= .inr e):mC s= .inr e:=by simp only[mC,q6,qn,h,tp]
theorem adH{s:gg}{e:Int×mf}(h:qn s= .inr e):mC s= .inr e:=by simp only[mC,q6,h,tp]
theorem adI{s:gg}{e:Int×mf}(h:q6 s= .inr e):mC s= .inr e:=by simp only[mC,h,tp]
theorem au9:eg Tryz.prog 33 [S 0] (eD ⟨false,bG 0,bG 1⟩):=amv (n:=0) (by decide) (by decide)
noncomputable def Cu:c8 Tryz.prog:= .fJ 33 Unit (λ_=>True) (λ_=>[S 0]) (λ_=>eD ⟨false,bG 0,bG 1⟩) λ_ _=>au9
@[simp] theorem aN1:Cu.f=33:=rfl
@[simp] theorem aN2:Cu.fn [S 0]=some (eD ⟨false,bG 0,bG 1⟩):=c8.gX (x:=()) trivial λ_ _=>rfl
theorem ana{s:gg}:xH s.ck.length s.a5.length (1+k0 s.a3) (k1 s.a3) s.cG.length s.dH.length=mO s:=by unfold xH mO;have aM:decide ((1:Int)+(k0 s.a3:Int)<=40)=decide (1+k0 s.a3<=40):=decide_eq_decide.2 (by omega);have z:decide ((s.ck.length:Int)<=4)=decide (s.ck.length<=4):=decide_eq_decide.2 (by omega);have D:decide ((s.a5.length:Int)<=4)=decide (s.a5.length<=4):=decide_eq_decide.2 (by omega);have Z:decide ((k1 s.a3:Int)<=24)=decide (k1 s.a3<=24):=decide_eq_decide.2 (by omega);have aw:decide ((s.cG.length:Int)<=4)=decide (s.cG.length<=4):=decide_eq_decide.2 (by omega);have aX:decide ((s.dH.length:Int)<=12)=decide (s.dH.length<=12):=decide_eq_decide.2 (by omega);rw[z,D,Z,aw,aX,aM]
theorem zf{P:Program}{c:U}{u:aL}{t:B}{Q:dr->aL->B->Prop}(d O:Nat)(aR:u d= .slice none 0 0)(h: ∀aN,aN.next=t.next+1->aN.M t.next=some ⟨[],true⟩->(∀a,a<t.next->aN.M a=t.M a)->hs P c (qc u d (.slice (some ⟨t.next,0,none⟩) 0 O)) aN Q):hs P c u t Q:=
  Td (d:=d) (O:=O) aR (h _ (by simp) (bX (by simp)) λa aE=>by rw[dv (by omega),B.gr])
def mI:Nat->Nat
  |0=>0
  |1=>1
  |2=>3
  |3=>10
  |4=>12
  |5=>13
  |6=>8
  |k+7=>14+k
structure Tz(s:gg)(u:aL)(t:B):Prop where
  aH:u 1=bZ 0
  bD:u 2=bZ 1
  bd:u 3=S 0
  bL:u 4=bZ 3
  a4:t.M 0=some ⟨dT s,true⟩
  aC:t.M 1=some ⟨fk,true⟩
  bS:t.M 3=some ⟨[S 0,S 0],true⟩
  kO:t.next=4
theorem aaL{s:gg}(W:s.bM){aY:pB Tryz.prog}(mr:aY=⟨[u9,Cx,Cu],[]⟩)(z:cU s.ext 1 4=true){Q:dr->aL->B->Prop}(h: ∀u t,Tz s u t->u 5=S (1+k0 s.a3)->u 6=S (k1 s.a3)->j6 aY BU u t Q):j6 aY Pl (eu [.agg (dT s).toArray]) yJ Q:=by
  subst mr;have Oh:=W.mH;simp(disch:=first|omega|(simp only[ae,ad,af,DI.ba];omega)) [Pl,WI,agm,ago,dT,z,-al,-ar,-ai,-ao,-List.map_map];refine jn (aY:=⟨[u9],[]⟩) (λi u t=>Tz s u t/\u 5=S (1+k0 (s.a3.take i))/\u 6=S (k1 (s.a3.take i))/\u 7=S i) s.a3.length ?_ ?_ 0 _ _ (Nat.zero_le _) ⟨⟨by simp,by simp,by simp,by simp,by simp(disch:=first|omega|(simp only[ae,ad,af,DI.ba];omega)) [dT,-al,-ar,-ai,-ao,-List.map_map],by simp(disch:=first|omega|(simp only[ae,ad,af,DI.ba];omega)) [fk,-al,-ar,-ai,-ao,-List.map_map],by simp(disch:=first|omega|(simp only[ae,ad,af,DI.ba];omega)) [-al,-ar,-ai,-ao,-List.map_map],by simp⟩,by simp[k0],by simp[k1],by simp⟩
  · rintro i u t aa ⟨⟨aH,bD,bd,bL,a4,aC,bS,kO⟩,cv,db,cP⟩ b9 a9;have H:s.a3[i]?=some s.a3[i]:=List.getElem?_eq_getElem aa;have bo:IntKind.i64.wrap ((i:Int)+1)=(i:Int)+1:=ct (by omega) (by omega);have bK:(i:Int)<s.a3.length:=(by omega);have cY:0<t.next:=by omega
    have dt:k0 (s.a3.take i)<=i:=Nat.le_trans (List.length_filter_le _ _) (by simp;omega);have dJ:k1 (s.a3.take i)<=i:=Nat.le_trans (List.length_filter_le _ _) (by simp;omega);have cS:IntKind.i64.wrap (1+(k0 (s.a3.take i):Int)+1)=1+(k0 (s.a3.take i):Int)+1:=ct (by omega) (by omega);have fz:IntKind.i64.wrap ((k1 (s.a3.take i):Int)+1)=(k1 (s.a3.take i):Int)+1:=ct (by omega) (by omega);have aM:k0 (s.a3.take (i+1))=k0 (s.a3.take i)+if cU s.a3[i].cR 1 4 then 1 else 0:=by rw[kB H,k0,List.filter_append,List.length_append,k0];congr 1;cases h:cU s.a3[i].cR 1 4<;>simp[h]
    have a1:k1 (s.a3.take (i+1))=k1 (s.a3.take i)+if s.a3[i].cR=5 then 1 else 0:=by rw[kB H,k1,List.filter_append,List.length_append,k1];congr 1;by_cases h:s.a3[i].cR=5<;>simp[h]
    by_cases aX:s.a3[i].cR=5
    · have aw:cU s.a3[i].cR 1 4=false:=(by rw[aX];rfl);have asU:cU 5 1 4=false:=rfl;rw[aw]at aM;rw[if_pos aX]at a1;simp(disch:=first|omega|(simp only[ae,ad,af,DI.ba];omega)) [KA,Pn,Po,BU,Kx,Ky,Kz,Kp,Gu,Gv,Ks,Kt,Gy,dT,fl,aH,db,cP,a4,bK,bo,fz,aX,asU,-al,-ar,-ai,-ao,-List.map_map];exact a9 _ _ ⟨⟨by simp[aH],by simp[bD],by simp[bd],by simp[bL],a4,aC,bS,kO⟩,by rw[aM];simp[cv],by rw[a1];simp<;>omega,by simp⟩
    · rw[if_neg aX]at a1;cases aw:cU s.a3[i].cR 1 4<;>rw[aw]at aM
      · simp(disch:=first|omega|(simp only[ae,ad,af,DI.ba];omega)) [KA,Pn,Po,BU,Kx,Ky,Kz,Kp,Gu,Gv,Ks,Kt,Gy,dT,fl,aH,cP,a4,bK,bo,aw,aX,-al,-ar,-ai,-ao,-List.map_map];exact a9 _ _ ⟨⟨by simp[aH],by simp[bD],by simp[bd],by simp[bL],a4,aC,bS,kO⟩,by rw[aM];simp[cv],by rw[a1];simp[db],by simp⟩
      · simp(disch:=first|omega|(simp only[ae,ad,af,DI.ba];omega)) [KA,Pn,Po,BU,Kx,Ky,Kz,Kp,Gu,Gv,Ks,Kt,Gy,dT,fl,aH,cv,cP,a4,bK,bo,cS,aw,aX,-al,-ar,-ai,-ao,-List.map_map];exact a9 _ _ ⟨⟨by simp[aH],by simp[bD],by simp[bd],by simp[bL],a4,aC,bS,kO⟩,by rw[aM];simp<;>omega,by rw[a1];simp[db],by simp⟩
  · rintro u t ⟨⟨aH,bD,bd,bL,a4,aC,bS,kO⟩,cv,db,cP⟩;have cY:0<t.next:=by omega
    rw[List.take_length]at cv db;simp(disch:=first|omega|(simp only[ae,ad,af,DI.ba];omega)) [KA,dT,aH,cP,a4,-al,-ar,-ai,-ao,-List.map_map];exact h _ _ ⟨by simp[aH],by simp[bD],by simp[bd],by simp[bL],a4,aC,bS,kO⟩ (by simp[cv]) (by simp[db])
theorem aAh(i j:Nat)(aa:i<15)(cp:j<15)(h:mI i=mI j):i=j:=by rcases v3 aa with rfl|rfl|rfl|rfl|rfl|rfl|rfl|rfl|rfl|rfl|rfl|rfl|rfl|rfl|rfl<;>rcases v3 cp with rfl|rfl|rfl|rfl|rfl|rfl|rfl|rfl|rfl|rfl|rfl|rfl|rfl|rfl|rfl<;>first|rfl|(simp[mI]at h)
theorem aD7{s:gg}{c:U}{u:aL}{t:B}{Q:dr->aL->B->Prop}(aH:u 1=bZ 0)(bD:u 2=bZ 1)(bL:u 4=bZ 3)(b3:u 8=bZ 10)(cg:u 9= .slice none 0 0)(dP:u 10= .slice none 0 0)(fx:u 11= .slice none 0 0)(hg:u 12= .slice none 0 0)(gw:u 13= .slice none 0 0)(hz:u 14=S 0)
    (a4:t.M 0=some ⟨dT s,true⟩) (aC:t.M 1=some ⟨fk,true⟩) (bS:t.M 3=some ⟨[S 0,S 0],true⟩) (Dr:t.M 8=some ⟨iC mM,true⟩) (wS:t.M 10=some ⟨[S s.ext,.slice none 0 0,.slice none 0 0,.slice (some ⟨8,0,none⟩) 1 7,.slice none 0 0,.slice none 0 0,.slice none 0 0],true⟩) (kO:t.next=12)
    (h: ∀u t,kT s lG mI u t->u 14=S 0->hs Tryz.prog c u t Q):hs Tryz.prog c u t Q:=by
  refine H3 4 (j:=1) wS rfl λec fY cB bn bp=> ?_;refine H3 4 (j:=2) cB rfl λiG dh eQ bF dc=> ?_;refine H3 3 (j:=4) eQ rfl λvh kZ ht dp eK=> ?_;refine H3 17 (j:=5) ht rfl λAT p0 ho eH kX=> ?_;refine H3 2 (j:=6) ho rfl λqT sW ly fo j2=> ?_;have dt:ec.next=13:=by omega
  have dJ:iG.next=14:=by omega
  have xS:vh.next=15:=by omega
  have C7:AT.next=16:=by omega
  have M8:qT.next=17:=by omega
  rw[kO]at bn cB eQ ht ho ly;rw[dt]at bF eQ ht ho ly;rw[dJ]at dp ht ho ly;rw[xS]at eH ho ly;rw[C7]at fo ly;refine zf 9 1 cg λxI Ho fp ni=> ?_;refine zf 10 1 (by simpa using dP) λE3 alu gp oR=> ?_;refine zf 11 1 (by simpa using fx) λMC alv hW Ev=> ?_;refine zf 12 1 (by simpa using hg) λMD azK gD Al=> ?_;refine zf 13 1 (by simpa using gw) λy7 azJ hd LI=> ?_;have C8:xI.next=18:=by omega
  have Im:E3.next=19:=by omega
  have Io:MC.next=20:=by omega
  have Ip:MD.next=21:=by omega
  rw[M8]at fp;rw[C8]at gp;rw[Im]at hW;rw[Io]at gD;rw[Ip]at hd;rw[M8,C8,Im,Io,Ip];have gQ: ∀a,a<17->y7.M a=qT.M a:= λa aE=>by rw[LI a (by omega),Al a (by omega),Ev a (by omega),oR a (by omega),ni a (by omega)]
  have cZ: ∀a,a<12->a≠10->qT.M a=t.M a:= λa aE ak=>by rw[j2 a (by omega) ak,kX a (by omega) ak,eK a (by omega) ak,dc a (by omega) ak,bp a (by omega) ak]
  refine h _ _ ⟨λk W=> ?_,aAh,?_,?_,?_,?_,?_,?_,?_,?_,?_⟩ (by simpa using hz)
  · rcases v3 W with rfl|rfl|rfl|rfl|rfl|rfl|rfl|rfl|rfl|rfl|rfl|rfl|rfl|rfl|rfl
    · rw[mI,gQ 0 (by omega),cZ 0 (by omega) (by omega)];exact a4
    · rw[mI,gQ 1 (by omega),cZ 1 (by omega) (by omega)];exact aC
    · rw[mI,gQ 3 (by omega),cZ 3 (by omega) (by omega)];exact bS
    · rw[mI,gQ 10 (by omega),ly];rfl
    · rw[mI,gQ 12 (by omega),j2 12 (by omega) (by omega),kX 12 (by omega) (by omega),eK 12 (by omega) (by omega),dc 12 (by omega) (by omega)];exact bn
    · rw[mI,gQ 13 (by omega),j2 13 (by omega) (by omega),kX 13 (by omega) (by omega),eK 13 (by omega) (by omega)];exact bF
    · rw[mI,gQ 8 (by omega),cZ 8 (by omega) (by omega),Dr];rfl
    · rw[mI,gQ 14 (by omega),j2 14 (by omega) (by omega),kX 14 (by omega) (by omega)];exact dp
    · rw[mI,gQ 15 (by omega),j2 15 (by omega) (by omega)];exact eH
    · rw[mI,gQ 16 (by omega)];exact fo
    · rw[mI,LI 17 (by omega),Al 17 (by omega),Ev 17 (by omega),oR 17 (by omega)];exact fp
    · rw[mI,LI 18 (by omega),Al 18 (by omega),Ev 18 (by omega)];exact gp
    · rw[mI,LI 19 (by omega),Al 19 (by omega)];exact hW
    · rw[mI,LI 20 (by omega)];exact gD
    · exact hd
  · simpa[mI]using aH
  · simpa[mI]using bD
  · simpa[mI]using bL
  · simpa[mI]using b3
  · simp[mI,lG]
  · simp[mI,lG]
  · simp[mI,lG]
  · simp[mI,lG]
  · simp[mI,lG]
theorem aml{s:gg}(W:s.bM){aY:pB Tryz.prog}(mr:aY=⟨[u9,Cx,Cu],[]⟩)(D:mO s=true){u:aL}{t:B}(h:Tz s u t)(cv:u 5=S (1+k0 s.a3))(db:u 6=S (k1 s.a3)){Q:dr->aL->B->Prop}
    (uw: ∀G aQ u t,mC s= .inl G->kT s G aQ u t->j6 aY Gy u t Q) (bT: ∀e p u t,mC s= .inr (e,p)->Fq e p u t->Q .a7 u t):j6 aY BU u t Q:=by
  subst mr;obtain⟨aH,bD,bd,bL,a4,aC,bS,kO⟩:=h;have iQ:=ana (s:=s);rw[D]at iQ;have cY:0<t.next:=by omega
  simp[BU,Kx,Ky,Kz,dT,aH,cv,db,a4,iQ,kO,eS];refine aD7 (s:=s) (by simp[aH]) (by simp[bD]) (by simp[bL]) (by simp) (by simp) (by simp) (by simp) (by simp) (by simp) (by simp) ?_ ?_ ?_ ?_ ?_ ?_ λu t h hz=> ?_
  · simp(disch:=omega) [a4]
  · simp(disch:=omega) [aC]
  · simp(disch:=omega) [bS]
  · simp(disch:=first|omega|(simp only[ae,ad,af,DI.ba];omega)) [iC,mM]
  · simp(disch:=first|omega|(simp only[ae,ad,af,DI.ba];omega))
  · simp[kO]
  refine aBF W h hz (λG aQ u t dB h=> ?_) (λe p u t aU aF=> ?_)
  · simp[Kp];refine aBM W dB (h.rM (y2 (by simp) (by simp) (by simp) (by simp) (by simp) (by simp) (by simp) (by simp) (by simp)) λb L=>rfl) (by simp) (λG aQ u t dB h=> ?_) (λe p u t aU aF=> ?_)
    · simp[Gu,Gv,Gv,Gu];refine aBS W dB (h.rM (y2 (by simp) (by simp) (by simp) (by simp) (by simp) (by simp) (by simp) (by simp) (by simp)) λb L=>by simp(disch:=first|omega|(simp only[ae,ad,af,DI.ba];omega))) (iV:=t.next) (by simp(disch:=first|omega|(simp only[ae,ad,af,DI.ba];omega)) [AS]) (λk W=>by have:=h.cW W;omega) (by simp) (by simp) (λG aQ u t dB h=> ?_) (λe p u t aU aF=> ?_)
      · simp[Ks];refine aBX W dB (h.rM (y2 (by simp) (by simp) (by simp) (by simp) (by simp) (by simp) (by simp) (by simp) (by simp)) λb L=>rfl) (by simp) (λG aQ u t dB h=> ?_) (λe p u t aU aF=> ?_)
        · simp[Kt];refine aCq W dB (h.rM (y2 (by simp) (by simp) (by simp) (by simp) (by simp) (by simp) (by simp) (by simp) (by simp)) λb L=>rfl) (by simp) (λG aQ u t dB h=> ?_) (λe p u t aU aF=> ?_)
          · simp;exact uw G aQ u t dB h
          · simp;exact bT e p u t aU aF
        · simp;exact bT e p u t (adI aU) aF
      · simp;exact bT e p u t (adH aU) aF
    · simp;exact bT e p u t (Uu aU) aF
  · simp;exact bT e p u t (adG aU) aF
theorem aBf{s:gg}(W:s.bM):eg Tryz.prog 12 [.agg (dT s).toArray] (u0 (lz s).1 (lz s).2.1 (lz s).2.2):=by
  cases z:cU s.ext 1 4
  · have e:lz s=(hC.nil,5,⟨0,0⟩):=(by simp[lz,z]);rw[e];refine HB (iA (g0 (aY:=⟨[u9,Cx,Cu],[]⟩) Pm (by kernel_rfl) (by simp[z2]) ?_));simp[z2,Pl,WI,dT,z]
  · cases D:mO s
    · have e:lz s=(hC.nil,2,⟨0,0⟩):=(by simp[lz,z,D]);rw[e];refine HB (iA (g0 (aY:=⟨[u9,Cx,Cu],[]⟩) Pm (by kernel_rfl) (by simp[z2]) ?_));refine aaL W rfl z λu t ⟨aH,bD,bd,bL,a4,aC,bS,kO⟩ cv db=> ?_;have iQ:=ana (s:=s);rw[D]at iQ;simp[z2,BU,dT,aH,bD,bL,cv,db,a4,aC,bS,iQ,kO,fk]
    · have e:lz s=p6 s.ext (mC s):=(by simp[lz,z,D]);rw[e];cases aF:mC s with
      | inr Fz=>
        obtain⟨Up,p⟩:=Fz;refine HB (iA (g0 (aY:=⟨[u9,Cx,Cu],[]⟩) Pm (by kernel_rfl) (by simp[z2]) ?_));refine aaL W rfl z λu t cp cv db=>aml W rfl D cp cv db (λG aQ u t dB h=> ?_) (λeW eM u t aU cE=> ?_)
        · rw[aF]at dB;cases dB
        · rw[aF]at aU;cases aU;obtain⟨r,q,bD,wW,bd,bL,x6⟩:=cE;simp[z2,bD,bd,bL,wW,x6,fk];exact⟨rfl,rfl,rfl⟩
      | inl G=>
        refine iA (g0 (aY:=⟨[u9,Cx,Cu],[]⟩) Pm (by kernel_rfl) (by simp[z2]) ?_);refine aaL W rfl z λu t cp cv db=>aml W rfl D cp cv db (λeP aQ u t dB h=> ?_) (λeW eM u t aU cE=> ?_)
        · rw[aF]at dB;cases dB;have aC:t.M (aQ 1)=some ⟨fk,true⟩:=h.g 1 (by decide);have a2:t.M (aQ 2)=some ⟨[S 0,S 0],true⟩:=h.g 2 (by decide);have bS:t.M (aQ 3)=some ⟨hL s G aQ 3,true⟩:=h.g 3 (by decide);simp only[hL]at bS;have fM:=h.cW (k:=1) (by decide);have dg:=h.cW (k:=2) (by decide);have pW:=h.cW (k:=3) (by decide);have IG:=h.eZ 1 2 (by decide) (by decide) (by decide);have uu: ∀{cK:Type} {f:cK->List Value} {O k:Nat} {l:List cK},k<15->k≠1->k≠2->(∀x,(f x).length=O/\ ∀v∈f x,j9 v=true)->t.M (aQ k)=some ⟨(l.map f).flatten,true⟩-> ∀cA c4,DI.eJ 7 ((t.au (aQ 1) cA).au (aQ 2) c4) (.slice (some ⟨aQ k,0,none⟩) l.length O)=some (bE (l.map f) O):= λW z D aI aj cA c4=>by
            exact FF (n:=6) (by rw[dv (h.eZ _ _ W (by decide) D),dv (h.eZ _ _ W (by decide) z)];exact aj) (by simp) (amD aI)
          have Ur:=uu (k:=4) (by decide) (by decide) (by decide) akN (h.g 4 (by decide));have Ut:=uu (k:=5) (by decide) (by decide) (by decide) adS (h.g 5 (by decide));have Uq:=uu (k:=6) (by decide) (by decide) (by decide) adL (h.g 6 (by decide));have Uy:=uu (k:=7) (by decide) (by decide) (by decide) adM (h.g 7 (by decide));have Ux:=uu (k:=8) (by decide) (by decide) (by decide) adW (h.g 8 (by decide));have Uz:=uu (k:=9) (by decide) (by decide) (by decide) ad3 (h.g 9 (by decide));simp(disch:=first|omega|(simp only[ae,ad,af,DI.ba];omega)) [z2,Gy,h.bD,h.bL,h.b3,aC,a2,bS,fk,Ur,Ut,Uq,Uy,Ux,Uz,u0,p6,fu]
        · rw[aF]at aU;cases aU
end Go.Proofs.YtkpifdkccdndcaaGreat
namespace Go.Big
def bh.ko(x:bh):Prop:=x.bM/\x.bw.ok=true
structure hk.ko(x:hk):Prop where
  s: ∀r∈x.s,r.ko
  bb: ∀l∈x.bb,∀r∈l,r.ko
  e: ∀r∈x.e,r.ko
  n1:x.s.length<1000000
  sZ:x.bb.length<1000000
  eZ:x.e.length<1000000
  rm: ∀l∈x.bb,l.length<1000000
structure oD.ko(x:oD):Prop where
  hf: ∀r∈x.hf,r.ko
  hS:x.hS.ko
  ez:x.ez.ko
  sZ:x.hf.length<1000000
  dS:x.a5.length<1000000
structure hC.ko(K:hC):Prop where
  ck: ∀x∈K.ck,x.ko
  dG: ∀x∈K.dG,x.fX.ko
  cG: ∀x∈K.cG,x.ko
  rm:K.ck.length<1000000
  dS:K.a5.length<1000000
  iX:K.dG.length<1000000
  sZ:K.gq.length<1000000
  p2:K.cG.length<1000000
  yL:K.dH.length<1000000
end Go.Big
namespace Go.Proofs.YtkpifdkccdndcaaGreat
open Go Go.DI Go.Big
theorem aAw(x:a6):ju x x=0:=by unfold ju;cases(x.bV&&decide (x.n≠0))<;>simp[h8]
theorem aCI{x:bh}(h:x.ko):eg Tryz.prog 32 [eD x,eD x] (.bool true):=by have:=aBZ h.1 h.1 h.2 h.2;rw[aAw]at this;exact this
noncomputable def abC:c8 Tryz.prog:= .fJ 32 bh bh.ko (λx=>[eD x,eD x]) (λ_=> .bool true) λ_ h=>aCI h
@[simp] theorem aO5:abC.f=32:=rfl
@[simp] theorem aO6{n:Bool}{a b:List Int}(h:(bh.mk n a b).ko):abC.fn [.agg #[.bool n,e3 a,e3 b],.agg #[.bool n,e3 a,e3 b]]=some (.bool true):=c8.gX (x:=bh.mk n a b) h λy ah=>by obtain⟨dM,er,cQ⟩:=y;simpa[eS]using ah
theorem aCM{x:bh}(h:x.ko):eg Tryz.prog 60 [eD x,eD x] (.bool true):=by refine iA (g0 (aY:=⟨[SK,abC],[]⟩) axN (by kernel_rfl) (by simp[Y2]) ?_);have z:=h.1;have D:=h.2;simp(disch:=first|omega|(simp only[ae,ad,af];omega)) [Y2,ajw,ajx,ajy,eS,D]
noncomputable def Mp:c8 Tryz.prog:= .fJ 60 bh bh.ko (λx=>[eD x,eD x]) (λ_=> .bool true) λ_ h=>aCM h
@[simp] theorem aOZ:Mp.f=60:=rfl
@[simp] theorem aO0{n:Bool}{a b:List Int}(h:(bh.mk n a b).ko):Mp.fn [.agg #[.bool n,e3 a,e3 b],.agg #[.bool n,e3 a,e3 b]]=some (.bool true):=c8.gX (x:=bh.mk n a b) h λy ah=>by obtain⟨dM,er,cQ⟩:=y;simpa[eS]using ah
theorem aCN{l:List bh}(W: ∀x∈l,x.ko)(ak:l.length<1000000):eg Tryz.prog 62 [fT l,fT l] (.bool true):=by
  refine iA (g0 (aY:=⟨[],[]⟩) axP (by kernel_rfl) (by simp[Y5]) ?_);simp[Y5,ajC,ajD,ajE];refine jn (aY:=⟨[Mp],[]⟩) (λi u t=>u 0=fT l/\u 1=fT l/\u 5=S i) l.length ?_ ?_ 0 _ _ (Nat.zero_le _) ⟨by simp,by simp,by simp⟩
  · rintro i u t aa ⟨bl,aH,cv⟩ b9 a9;have H:l[i]?=some l[i]:=List.getElem?_eq_getElem aa;have bo:IntKind.i64.wrap ((i:Int)+1)=(i:Int)+1:=ct (by omega) (by omega);have bK:(i:Int)<l.length:=(by omega);have aI:=W _ (List.getElem_mem aa);simp(disch:=first|omega|(simp only[ae,ad,af];omega)) [Y6,Q5,Q6,bl,aH,cv,bK,bo,eS,-al,-ar,-ai,-ao,-List.map_map];exact a9 _ _ ⟨by simp[bl],by simp[aH],by simp⟩
  · rintro u t ⟨bl,aH,cv⟩;simp[Y6,Q5,Q6,bl,cv,Q6,Q5]
noncomputable def Mq:c8 Tryz.prog:= .fJ 62 (List bh) (λl=>(∀x∈l,x.ko)/\l.length<1000000) (λl=>[fT l,fT l]) (λ_=> .bool true) λ_ h=>aCN h.1 h.2
@[simp] theorem aO1:Mq.f=62:=rfl
@[simp] theorem aO2{l:List bh}(h:(∀x∈l,x.ko)/\l.length<1000000):Mq.fn [bE (l.map eS) 3,bE (l.map eS) 3]=some (.bool true):=c8.gX (x:=l) h λy ah=>by simpa using ah
theorem avf{l:List Int}(ak:l.length<1000000):eg Tryz.prog 61 [tl l,tl l] (.bool true):=by
  refine iA (g0 (aY:=⟨[],[]⟩) axO (by kernel_rfl) (by simp[Y3]) ?_);simp[Y3,ajz,ajA,ajB];refine jn (aY:=⟨[],[]⟩) (λi u t=>u 0=tl l/\u 1=tl l/\u 5=S i) l.length ?_ ?_ 0 _ _ (Nat.zero_le _) ⟨by simp,by simp,by simp⟩
  · rintro i u t aa ⟨bl,aH,cv⟩ b9 a9;have H:l[i]?=some l[i]:=List.getElem?_eq_getElem aa;have bo:IntKind.i64.wrap ((i:Int)+1)=(i:Int)+1:=ct (by omega) (by omega);have bK:(i:Int)<l.length:=(by omega);simp(disch:=first|omega|(simp only[ae,ad,af];omega)) [Y4,Q3,Q4,bl,aH,cv,bK,bo,-al,-ar,-ai,-ao,-List.map_map];exact a9 _ _ ⟨by simp[bl],by simp[aH],by simp⟩
  · rintro u t ⟨bl,aH,cv⟩;simp[Y4,Q3,Q4,bl,cv,Q4,Q3]
noncomputable def abn:c8 Tryz.prog:= .fJ 61 (List Int) (λl=>l.length<1000000) (λl=>[tl l,tl l]) (λ_=> .bool true) λ_ h=>avf h
@[simp] theorem aN5:abn.f=61:=rfl
@[simp] theorem aN6{l:List Int}(h:l.length<1000000):abn.fn [bE (l.map λs=>[S s]) 1,bE (l.map λs=>[S s]) 1]=some (.bool true):=c8.gX (x:=l) h λy ah=>by simpa using ah
theorem aCT{x:hk}(h:x.ko):eg Tryz.prog 59 [px x,px x] (.bool true):=by
  refine iA (g0 (aY:=⟨[Mq],[]⟩) axM (by kernel_rfl) (by simp[YZ]) ?_);have bn:(∀y∈x.s,y.ko)/\x.s.length<1000000:=⟨h.s,h.n1⟩;have bF:(∀y∈x.e,y.ko)/\x.e.length<1000000:=⟨h.e,h.eZ⟩;simp(disch:=first|omega|(simp only[ae,ad,af];omega)) [YZ,ajt,aju,ajv,j3];refine jn (aY:=⟨[Mq],[]⟩) (λi u t=>t.M 0=some ⟨j3 x,true⟩/\t.M 1=some ⟨j3 x,true⟩/\u 2=bZ 0/\u 3=bZ 1/\u 5=S i) x.bb.length ?_ ?_ 0 _ _ (Nat.zero_le _) ⟨by simp(disch:=first|omega|(simp only[ae,ad,af];omega)) [j3,-al,-ar,-ai,-ao,-List.map_map],by simp(disch:=first|omega|(simp only[ae,ad,af];omega)) [j3,-al,-ar,-ai,-ao,-List.map_map],by simp,by simp,by simp⟩
  · rintro i u t aa ⟨a4,aC,bD,bd,cv⟩ b9 a9;have H:x.bb[i]?=some x.bb[i]:=List.getElem?_eq_getElem aa;have aK:=List.getElem_mem aa;have bo:IntKind.i64.wrap ((i:Int)+1)=(i:Int)+1:=ct (by have:=h.sZ;omega) (by have:=h.sZ;omega);have bK:(i:Int)<x.bb.length:=(by omega);have dp:(∀y∈x.bb[i],y.ko)/\x.bb[i].length<1000000:=⟨h.bb _ aK,h.rm _ aK⟩;simp(disch:=first|omega|(simp only[ae,ad,af];omega)) [Y0,Q1,Q2,j3,a4,aC,bD,bd,cv,bK,bo,-al,-ar,-ai,-ao,-List.map_map];exact a9 _ _ ⟨a4,aC,by simp[bD],by simp[bd],by simp⟩
  · rintro u t ⟨a4,aC,bD,bd,cv⟩;simp[Y0,Q1,Q2,j3,a4,bD,cv,Q2,Q1]
noncomputable def abB:c8 Tryz.prog:= .fJ 59 hk hk.ko (λx=>[px x,px x]) (λ_=> .bool true) λ_ h=>aCT h
@[simp] theorem aO3:abB.f=59:=rfl
@[simp] theorem aO4{n:ByteArray}{s e:List bh}{bb:List (List bh)}(h:(hk.mk n s bb e).ko):abB.fn [.agg #[cz n,bE (s.map eS) 3,bE (bb.map λr=>[fT r]) 1,bE (e.map eS) 3],.agg #[cz n,bE (s.map eS) 3,bE (bb.map λr=>[fT r]) 1,bE (e.map eS) 3]]=some (.bool true):=c8.gX (x:=hk.mk n s bb e) h λy ah=>by obtain⟨dM,er,cQ,eU⟩:=y;simpa[j3]using ah
end Go.Proofs.YtkpifdkccdndcaaGreat
namespace Go.Proofs.YtkpifdkccdndcaaGreat
open Go Go.DI Go.Big
theorem arX{K:hC}(h:K.ko):eg Tryz.prog 13 [.agg (fu K).toArray,.agg (fu K).toArray] (.bool true):=by
  refine iA (g0 (aY:=⟨[],[]⟩) av8 (by kernel_rfl) (by simp[WJ]) ?_);simp[WJ,agZ,ag0,ag5,fu];refine jn (aY:=⟨[abB],[]⟩) (λi u t=>t.M 0=some ⟨fu K,true⟩/\t.M 1=some ⟨fu K,true⟩/\u 2=bZ 0/\u 3=bZ 1/\u 5=S i) K.ck.length ?_ ?_ 0 _ _ (Nat.zero_le _) ⟨by simp[fu],by simp[fu],by simp,by simp,by simp⟩
  · rintro i u t aa ⟨a4,aC,bD,bd,cv⟩ b9 a9;have H:K.ck[i]?=some K.ck[i]:=List.getElem?_eq_getElem aa;have bo:IntKind.i64.wrap ((i:Int)+1)=(i:Int)+1:=ct (by have:=h.rm;omega) (by have:=h.rm;omega);have bK:(i:Int)<K.ck.length:=(by omega);have cY:=aT a4;have fM:=aT aC;have aI:=h.ck _ (List.getElem_mem aa);simp(disch:=first|omega|(simp only[ae,ad,af];omega)) [W4,ag6,Pu,KD,GA,Ec,BV,z6,fu,j3,a4,aC,bD,bd,cv,bK,bo];exact a9 _ _ ⟨by simp(disch:=first|omega|(simp only[ae,ad,af];omega)) [a4,fu,-al,-ar,-ai,-ao,-List.map_map],by simp(disch:=first|omega|(simp only[ae,ad,af];omega)) [aC,fu,-al,-ar,-ai,-ao,-List.map_map],by simp[bD],by simp[bd],by simp⟩
  rintro u t ⟨a4,aC,bD,bd,cv⟩;have cY:=aT a4;have fM:=aT aC;simp[Pu,W4,Pu,fu,a4,bD,cv];refine jn (aY:=⟨[],[]⟩) (λi u t=>t.M 0=some ⟨fu K,true⟩/\t.M 1=some ⟨fu K,true⟩/\u 2=bZ 0/\u 3=bZ 1/\u 6=S i) K.a5.length ?_ ?_ 0 _ _ (Nat.zero_le _) ⟨a4,aC,by simp[bD],by simp[bd],by simp⟩
  · rintro i u t aa ⟨a4,aC,bD,bd,db⟩ b9 a9;have H:K.a5[i]?=some K.a5[i]:=List.getElem?_eq_getElem aa;have bo:IntKind.i64.wrap ((i:Int)+1)=(i:Int)+1:=ct (by have:=h.dS;omega) (by have:=h.dS;omega);have bK:(i:Int)<K.a5.length:=(by omega);have cY:=aT a4;have fM:=aT aC;simp(disch:=first|omega|(simp only[ae,ad,af];omega)) [W5,ag7,KD,GA,Ec,BV,z6,fu,qq,a4,aC,bD,bd,db,bK,bo];exact a9 _ _ ⟨by simp(disch:=first|omega|(simp only[ae,ad,af];omega)) [a4,fu,-al,-ar,-ai,-ao,-List.map_map],by simp(disch:=first|omega|(simp only[ae,ad,af];omega)) [aC,fu,-al,-ar,-ai,-ao,-List.map_map],by simp[bD],by simp[bd],by simp⟩
  rintro u t ⟨a4,aC,bD,bd,db⟩;have cY:=aT a4;have fM:=aT aC;simp[KD,W5,KD,fu,a4,bD,db];refine jn (aY:=⟨[Mp],[]⟩) (λi u t=>t.M 0=some ⟨fu K,true⟩/\t.M 1=some ⟨fu K,true⟩/\u 2=bZ 0/\u 3=bZ 1/\u 7=S i) K.dG.length ?_ ?_ 0 _ _ (Nat.zero_le _) ⟨a4,aC,by simp[bD],by simp[bd],by simp⟩
  · rintro i u t aa ⟨a4,aC,bD,bd,cP⟩ b9 a9;have H:K.dG[i]?=some K.dG[i]:=List.getElem?_eq_getElem aa;have bo:IntKind.i64.wrap ((i:Int)+1)=(i:Int)+1:=ct (by have:=h.iX;omega) (by have:=h.iX;omega);have bK:(i:Int)<K.dG.length:=(by omega);have cY:=aT a4;have fM:=aT aC;have aI:=h.dG _ (List.getElem_mem aa);simp(disch:=first|omega|(simp only[ae,ad,af];omega)) [W6,ag8,ag9,GA,Ec,BV,z6,fu,iC,a4,aC,bD,bd,cP,bK,bo];exact a9 _ _ ⟨by simp(disch:=first|omega|(simp only[ae,ad,af];omega)) [a4,fu,-al,-ar,-ai,-ao,-List.map_map],by simp(disch:=first|omega|(simp only[ae,ad,af];omega)) [aC,fu,-al,-ar,-ai,-ao,-List.map_map],by simp[bD],by simp[bd],by simp⟩
  rintro u t ⟨a4,aC,bD,bd,cP⟩;have cY:=aT a4;have fM:=aT aC;simp[GA,W6,GA,fu,a4,bD,cP];refine jn (aY:=⟨[],[]⟩) (λi u t=>t.M 0=some ⟨fu K,true⟩/\t.M 1=some ⟨fu K,true⟩/\u 2=bZ 0/\u 3=bZ 1/\u 10=S i) K.gq.length ?_ ?_ 0 _ _ (Nat.zero_le _) ⟨a4,aC,by simp[bD],by simp[bd],by simp⟩
  · rintro i u t aa ⟨a4,aC,bD,bd,dP⟩ b9 a9;have H:K.gq[i]?=some K.gq[i]:=List.getElem?_eq_getElem aa;have bo:IntKind.i64.wrap ((i:Int)+1)=(i:Int)+1:=ct (by have:=h.sZ;omega) (by have:=h.sZ;omega);have bK:(i:Int)<K.gq.length:=(by omega);have cY:=aT a4;have fM:=aT aC;simp(disch:=first|omega|(simp only[ae,ad,af];omega)) [W7,ag1,Ec,BV,z6,fu,qp,a4,aC,bD,bd,dP,bK,bo];exact a9 _ _ ⟨by simp(disch:=first|omega|(simp only[ae,ad,af];omega)) [a4,fu,-al,-ar,-ai,-ao,-List.map_map],by simp(disch:=first|omega|(simp only[ae,ad,af];omega)) [aC,fu,-al,-ar,-ai,-ao,-List.map_map],by simp[bD],by simp[bd],by simp⟩
  rintro u t ⟨a4,aC,bD,bd,dP⟩;have cY:=aT a4;have fM:=aT aC;simp[Ec,W7,Ec,fu,a4,bD,dP];refine jn (aY:=⟨[Mp,Mq,abn],[]⟩) (λi u t=>t.M 0=some ⟨fu K,true⟩/\t.M 1=some ⟨fu K,true⟩/\u 2=bZ 0/\u 3=bZ 1/\u 11=S i) K.cG.length ?_ ?_ 0 _ _ (Nat.zero_le _) ⟨a4,aC,by simp[bD],by simp[bd],by simp⟩
  · rintro i u t aa ⟨a4,aC,bD,bd,fx⟩ b9 a9;have H:K.cG[i]?=some K.cG[i]:=List.getElem?_eq_getElem aa;have bo:IntKind.i64.wrap ((i:Int)+1)=(i:Int)+1:=ct (by have:=h.p2;omega) (by have:=h.p2;omega);have bK:(i:Int)<K.cG.length:=(by omega);have cY:=aT a4;have fM:=aT aC;have aq:=h.cG _ (List.getElem_mem aa);have aeP:(∀y∈K.cG[i].hf,y.ko)/\K.cG[i].hf.length<1000000:=⟨aq.hf,aq.sZ⟩;have aI0:=aq.dS;have aI1:=aq.hS;have N9:=aq.ez;simp(disch:=first|omega|(simp only[ae,ad,af];omega)) [W8,ag2,ag3,BV,z6,fu,mX,a4,aC,bD,bd,fx,bK,bo];exact a9 _ _ ⟨by simp(disch:=first|omega|(simp only[ae,ad,af];omega)) [a4,fu,-al,-ar,-ai,-ao,-List.map_map],by simp(disch:=first|omega|(simp only[ae,ad,af];omega)) [aC,fu,-al,-ar,-ai,-ao,-List.map_map],by simp[bD],by simp[bd],by simp⟩
  rintro u t ⟨a4,aC,bD,bd,fx⟩;have cY:=aT a4;have fM:=aT aC;simp[BV,W8,BV,fu,a4,bD,fx];refine jn (aY:=⟨[],[]⟩) (λi u t=>t.M 0=some ⟨fu K,true⟩/\t.M 1=some ⟨fu K,true⟩/\u 2=bZ 0/\u 3=bZ 1/\u 14=S i) K.dH.length ?_ ?_ 0 _ _ (Nat.zero_le _) ⟨a4,aC,by simp[bD],by simp[bd],by simp⟩
  · rintro i u t aa ⟨a4,aC,bD,bd,hz⟩ b9 a9;have H:K.dH[i]?=some K.dH[i]:=List.getElem?_eq_getElem aa;have bo:IntKind.i64.wrap ((i:Int)+1)=(i:Int)+1:=ct (by have:=h.yL;omega) (by have:=h.yL;omega);have bK:(i:Int)<K.dH.length:=(by omega);have cY:=aT a4;have fM:=aT aC;simp(disch:=first|omega|(simp only[ae,ad,af];omega)) [W9,ag4,z6,fu,qs,a4,aC,bD,bd,hz,bK,bo];exact a9 _ _ ⟨by simp(disch:=first|omega|(simp only[ae,ad,af];omega)) [a4,fu,-al,-ar,-ai,-ao,-List.map_map],by simp(disch:=first|omega|(simp only[ae,ad,af];omega)) [aC,fu,-al,-ar,-ai,-ao,-List.map_map],by simp[bD],by simp[bd],by simp⟩
  rintro u t ⟨a4,aC,bD,bd,hz⟩;have cY:=aT a4;have fM:=aT aC;simp[z6,W9,z6,fu,a4,bD,hz]
def tm(l:List ByteArray):List (Value×Value):=l.map λx=>(cz x,.bool true)
theorem ald{s:ByteArray}: ∀{l:List ByteArray},cF (cz s) (tm l)=(dR s l).map λ_=> .bool true
  |[]=>rfl
  | x::l=>by
    simp only[tm,List.map_cons,cF,o8,dR];by_cases h:s=x
    · simp[h]
    · have:=ald (s:=s) (l:=l);simp only[tm]at this;simp only[h,decide_false,if_false,this,Option.map_map,Bool.false_eq_true];rfl
theorem alo{s:ByteArray}: ∀{l:List ByteArray},dR s l=none->dW (cz s) (.bool true) (tm l)=tm (l++[s])
  |[],_=>by simp[tm,dW]
  | x::l,h=>by
    simp only[dR]at h;split at h
    · cases h
    · next J=>have:=alo (s:=s) (l:=l) (by cases bt:dR s l with|none=>rfl|some v=>rw[bt]at h;cases h);simp only[tm]at this;simp only[tm,List.map_cons,dW,o8,J,decide_false,Bool.false_eq_true,if_false,List.cons_append,this]
theorem ayE{s:ByteArray}{l:List ByteArray}:eh .str (cz s) (tm l)=true:=by simp only[eh,tm,pj,Bool.true_and,List.all_map,List.all_eq_true];intro x _;rfl
theorem afM{s:ByteArray}: ∀{l:List ByteArray},s∉l->dR s l=none
  |[],_=>rfl
  | x::l,h=>by simp only[List.mem_cons,not_or]at h;simp only[dR,if_neg h.1,afM h.2];rfl
theorem az6{l:List ByteArray}(h:l.Nodup){i:Nat}(aa:i<l.length):l[i]∉l.take i:= λaK=>by
  obtain⟨j,cp,aU⟩:=List.getElem_of_mem aK;rw[List.getElem_take]at aU;have JA:j<i:=by rw[List.length_take]at cp;omega
  exact(List.pairwise_iff_getElem.1 h j i (by omega) aa JA) aU
theorem aDv{l:List ByteArray}(ak:l.length<1000000)(aE: ∀s∈l,gP s=true)(aR:l.Nodup):eg Tryz.prog 65 [zF l] (.bool true):=by
  refine iA (g0 (aY:=⟨[],[]⟩) axS (by kernel_rfl) (by simp[Zb]) ?_);simp[Zb,ajO,ajP,ajQ];refine jn (aY:=⟨[Ml],[]⟩) (λi u t=>t.c6 0=some (tm (l.take i))/\u 3= .map (some 0)/\u 7=zF l/\u 8=S l.length/\u 9=S i) l.length ?_ ?_ 0 _ _ (Nat.zero_le _) ⟨by simp(disch:=first|omega|(simp only[ae,ad,af];omega)) [tm],by simp,by simp,by simp,by simp⟩
  · rintro i u t aa ⟨vE,bd,cP,b3,cg⟩ b9 a9;have H:l[i]?=some l[i]:=List.getElem?_eq_getElem aa;have bo:IntKind.i64.wrap ((i:Int)+1)=(i:Int)+1:=ct (by omega) (by omega);have bK:(i:Int)<l.length:=(by omega);have bO:=aE _ (List.getElem_mem aa);have e4:=afM (az6 aR aa);have aI:cF (cz l[i]) (tm (l.take i))=none:=(by rw[ald,e4];rfl);have W:eh .str (cz l[i]) (tm (l.take i))=true:=ayE;have jS:=aT (hv vE).1;simp(disch:=first|omega|(simp only[ae,ad,af];omega)) [Zc,Rf,Rg,Rh,Ri,bd,cP,b3,cg,bK,bo,bO,vE,aI,W,-cF,-dW,-eh,-al,-ar,-ai,-ao,-List.map_map];refine a9 _ _ ⟨?_,by simp[bd],by simp[cP],by simp[b3],by simp⟩;rw[kB H,<-alo e4];simp(disch:=omega)
  · rintro u t ⟨vE,bd,cP,b3,cg⟩;simp[Zc,Rf,Rg,Rh,Ri,b3,cg,Ri,Rf,Rg,Rh]
noncomputable def abD:c8 Tryz.prog:= .fJ 65 (List ByteArray) (λl=>l.length<1000000/\(∀s∈l,gP s=true)/\l.Nodup) (λl=>[zF l]) (λ_=> .bool true) λ_ h=>aDv h.1 h.2.1 h.2.2
@[simp] theorem aO9:abD.f=65:=rfl
@[simp] theorem aPa{l:List ByteArray}(h:l.length<1000000/\(∀s∈l,gP s=true)/\l.Nodup):abD.fn [bE (l.map λs=>[cz s]) 1]=some (.bool true):=c8.gX (x:=l) h λy ah=>by simpa using ah
structure oD.lF(x:oD)(n:Nat):Prop where
  num:oX x.k x.m x.q x.aY=true
  eZ:x.a5≠[]
  Sy:ns x.m x.hf x.hS x.ez=true
  hU:(∀y∈x.hf,y.bM)/\x.hf.length<1000000
  aog:x.hS.bM
  anY:x.ez.bM
  amA: ∀m∈x.a5,0<=m/\m<n
  iX:x.a5.Nodup
  len:x.a5.length<1000000
theorem aDQ{x:oD}{n:Nat}(ak:n<1000000)(h:oD.lF x n):eg Tryz.prog 64 [.agg (mX x).toArray,S n] (.bool true):=by
  refine iA (g0 (aY:=⟨[SH,SL],[]⟩) axR (by kernel_rfl) (by simp[Y9]) ?_);obtain⟨z,D,Z,aw,aX,cC,gn,iP,ml⟩:=h;have nE: ¬(x.a5.length:Int)=0:=by simpa using D
  have nV: ¬x.a5.length=0:=by simpa using D
  have Ov:((∀y∈x.hf,y.bM)/\x.hf.length<1000000)/\x.hS.bM/\x.ez.bM:=⟨aw,aX,cC⟩;have atQ:(n:Int)*1<=140737488355328/\n<=140737488355328/\(n:Int)<=140737488355328/\(n:Int)<=9223372036854775807:=by omega
  simp(disch:=first|omega|(simp only[ae,ad,af];omega)) [Y9,ajK,ajL,ajM,ajN,mX,z,Z,nV,atQ,-al,-ar,-ai,-ao,-List.map_map];refine jn (aY:=⟨[oA],[]⟩) (λi u t=> ∃bu:List Bool,bu.length=n/\(∀j:Nat,j<n->bu[j]?=some (decide ((j:Int)∈x.a5.take i)))/\t.M 3=some ⟨bu.map Value.bool,true⟩/\u 1=S n/\u 5= .slice (some ⟨3,0,none⟩) n 1/\u 39=tl x.a5/\u 40=S x.a5.length/\u 41=S i) x.a5.length ?_ ?_ 0 _ _ (Nat.zero_le _) ⟨List.replicate n false,by simp,λj cp=>by simp[cp],by simp(disch:=first|omega|(simp only[ae,ad,af];omega)) [-al,-ar,-ai,-ao,-List.map_map],by simp,by simp,by simp,by simp,by simp⟩
  · rintro i u t aa ⟨bu,pI,ev,wX,aH,cv,ET,AN,EU⟩ b9 a9;have H:x.a5[i]?=some x.a5[i]:=List.getElem?_eq_getElem aa;have bo:IntKind.i64.wrap ((i:Int)+1)=(i:Int)+1:=ct (by omega) (by omega);have cS:IntKind.i64.wrap ((n:Int)-1)=(n:Int)-1:=ct (by omega) (by omega);have bK:(i:Int)<x.a5.length:=(by omega);obtain⟨yi,vJ⟩:=gn _ (List.getElem_mem aa);obtain⟨aV,lJ⟩:=Int.eq_ofNat_of_zero_le yi;have wY:aV<n:=(by omega);have Bq:(aV:Int)<(n:Int):=(by omega);have as2:aV+1<=n:=wY;have ra:cU (aV:Int) 0 ((n:Int)-1)=true:=(by simp[cU];omega);have OH:x.a5[i]?=some (aV:Int):=(by rw[H,lJ]);have auc:(aV:Int)∉x.a5.take i:= λaK=>by
      obtain⟨j,cp,aU⟩:=List.getElem_of_mem aK;rw[List.getElem_take]at aU;have JA:j<i:=(by rw[List.length_take]at cp;omega);exact(List.pairwise_iff_getElem.1 iP j i (by omega) aa JA) (aU.trans lJ.symm)
    have U4:bu[aV]?=some false:=(by rw[ev aV wY];simp[auc]);have Bp:(bu.map Value.bool)[aV]?=some (.bool false):=(by rw[List.getElem?_map,U4];rfl);have azn:=aT wX;have Bo: ∀j:Nat,j<n->(bu.set aV true)[j]?=some (decide ((j:Int)∈x.a5.take (i+1))):= λj cp=>by
      rw[List.getElem?_set,kB OH];by_cases e:aV=j
      · subst e;simp[pI,wY]
      · rw[if_neg e,ev j cp];have: ¬(j:Int)=(aV:Int):=(by omega);simp[this]
    simp(disch:=first|omega|(simp only[ae,ad,af];omega)) [Za,Rb,Rc,Rd,Re,aH,cv,ET,AN,EU,bK,bo,cS,ks,lJ,Bq,as2,pI,Bp,ra,wX,-al,-ar,-ai,-ao,-List.map_map];refine a9 _ _ ⟨bu.set aV true,by simp[pI],Bo,?_,by simp[aH],by simp[cv],by simp[ET],by simp[AN],by simp⟩;simp(disch:=first|omega|(simp only[ae,ad,af];omega))
  · rintro u t ⟨bu,pI,ev,wX,aH,cv,ET,AN,EU⟩;simp(disch:=first|omega|(simp only[ae,ad,af];omega)) [Za,Rb,Rc,Rd,Re,AN,EU,Re,Rb,Rc,Rd]
end Go.Proofs.YtkpifdkccdndcaaGreat
namespace Go.Big
theorem ast{g a b:Int}(aj:0<g)(aE:0<=a)(L:0<=b):kc (g*a) (g*b)=g*kc a b:=by obtain⟨gL,rfl⟩:=Int.eq_ofNat_of_zero_le (Int.le_of_lt aj);obtain⟨cf,rfl⟩:=Int.eq_ofNat_of_zero_le aE;obtain⟨bu,rfl⟩:=Int.eq_ofNat_of_zero_le L;unfold kc;rw[<-Int.natCast_mul,<-Int.natCast_mul,Int.toNat_natCast,Int.toNat_natCast,Int.toNat_natCast,Int.toNat_natCast,Nat.gcd_mul_left,Int.natCast_mul]
theorem ass{a b:Int}(aE:0<=a)(L:0<b):kc (a/kc a b) (b/kc a b)=1:=by
  obtain⟨cf,rfl⟩:=Int.eq_ofNat_of_zero_le aE;obtain⟨bu,rfl⟩:=Int.eq_ofNat_of_zero_le (Int.le_of_lt L);have ev:0<bu:=by omega
  unfold kc;rw[Int.toNat_natCast,Int.toNat_natCast,<-Int.natCast_ediv,<-Int.natCast_ediv,Int.toNat_natCast,Int.toNat_natCast,Nat.gcd_div_gcd_div_gcd_of_pos_right ev];rfl
section
variable {x:a6}
theorem ZW(ak:0<=x.n)(aR:0<x.d): ∃g,0<g/\x.n=g*(ej x).n/\x.d=g*(ej x).d/\kc (ej x).n (ej x).d=1:=by
  refine⟨kc x.n x.d,x5 aR,?_,?_,ass ak aR⟩
  · exact(Int.mul_ediv_cancel' (UH ak)).symm
  · exact(Int.mul_ediv_cancel' (NP (by omega))).symm
theorem R0{bV:Bool}{g n d:Int}(aj:0<g)(ak:0<=n)(aR:0<d):ej ⟨bV,g*n,g*d⟩=ej ⟨bV,n,d⟩:=by
  have aq:(0<g*n)↔0<n:=by
    constructor
    · intro h;by_cases bB:n=0
      · subst bB;simp at h
      · omega
    · exact λh=>Int.mul_pos aj h
  have xa:decide (0<g*n)=decide (0<n):=decide_eq_decide.2 aq;have aI2:=x5 (a:=n) aR;simp only[ej,ast aj ak (by omega:(0:Int)<=d),xa];rw[Int.mul_ediv_mul_of_pos _ _ aj,Int.mul_ediv_mul_of_pos _ _ aj]
theorem ay9(ak:0<=x.n)(aR:0<x.d):ej (ej x)=ej x:=by obtain⟨g,aj,aM,a1,cI⟩:=ZW ak aR;have z:=RZ ak aR;rw[show ej (ej x)=⟨(ej x).bV&&decide (0<(ej x).n),(ej x).n/kc (ej x).n (ej x).d,(ej x).d/kc (ej x).n (ej x).d⟩from rfl,cI,Int.ediv_one,Int.ediv_one];have:(ej x).bV=(x.bV&&decide (0<x.n)):=rfl;rw[this,decide_eq_decide.2 z,Bool.and_assoc,Bool.and_self,<-this]
theorem ZX(H:x.ok=true)(ak:0<=x.n):(ej x).ok=true:=by obtain⟨z,D,Z⟩:=a6.nq.1 H;have:=(xw ak z).2;have:=yE z;exact a6.nq.2 ⟨this.1,by omega,by omega⟩
theorem ak2(H:x.small=true)(ak:0<=x.n):(ej x).small=true:=by have an:=vf H;obtain⟨z,_,_⟩:=a6.nq.1 an;simp only[a6.small,ZX an ak,ay9 ak z,Bool.true_and];simpa[a6.small,an]using H
theorem ao8{s:a6}(J:0<=s.n)(VP:0<s.d)(ak:0<=x.n)(aR:0<x.d):ej (lI s (ej x))=ej (lI s x):=by
  obtain⟨g,aj,aM,a1,_⟩:=ZW ak aR;have tH:=(xw ak aR).1;have afF:=(yE (x:=x) aR).1;have BI:(ej x).bV=(x.bV&&decide (0<x.n)):=rfl;obtain⟨y,ah⟩: ∃y,y=ej x:=⟨_,rfl⟩;rw[<-ah]at aM a1 tH afF BI⊢;have OA:0<s.d*y.d:=Int.mul_pos VP afF;have bp:0<=s.n*y.d:=Int.mul_nonneg J (by omega);have dc:0<=y.n*s.d:=Int.mul_nonneg tH (by omega);have dk:s.n*(g*y.d)=g*(s.n*y.d):=by rw[<-Int.mul_assoc,Int.mul_comm s.n g,Int.mul_assoc]
  have dV:g*y.n*s.d=g*(y.n*s.d):=Int.mul_assoc _ _ _;have ew:s.d*(g*y.d)=g*(s.d*y.d):=by rw[<-Int.mul_assoc,Int.mul_comm s.d g,Int.mul_assoc]
  by_cases bB:0<x.n
  · have dq:y.bV=x.bV:=(by rw[BI];simp[bB]);unfold lI;rw[dq,aM,a1,dk,dV,ew];have fG:(g*(y.n*s.d)<=g*(s.n*y.d))↔y.n*s.d<=s.n*y.d:=⟨λh=>Int.le_of_mul_le_mul_left h aj,λh=>Int.mul_le_mul_of_nonneg_left h (by omega)⟩;by_cases bt:s.bV=x.bV
    · rw[if_pos bt,if_pos bt,<-Int.mul_add,R0 aj (by omega) OA]
    · rw[if_neg bt,if_neg bt];by_cases aG:y.n*s.d<=s.n*y.d
      · rw[if_pos aG,if_pos (fG.2 aG),<-Int.mul_sub,R0 aj (by omega) OA]
      · rw[if_neg aG,if_neg (λh=>aG (fG.1 h)),<-Int.mul_sub,R0 aj (by omega) OA]
  · have hZ:x.n=0:=(by omega);have xg:y.n=0:=by
      rw[hZ]at aM;rcases Int.mul_eq_zero.1 aM.symm with h|h
      · omega
      · exact h
    have key: ∀O:a6,O.n=0->0<=s.n*O.d->lI s O=⟨s.bV,s.n*O.d,s.d*O.d⟩:= λO bY z=>by
      unfold lI;rw[bY,Int.zero_mul];by_cases bt:s.bV=O.bV
      · rw[if_pos bt,Int.add_zero]
      · rw[if_neg bt,if_pos z,Int.sub_zero]
    rw[key y xg bp,key x hZ (Int.mul_nonneg J (by omega)),a1,dk,ew,R0 aj bp OA]
end
theorem ao6{s x:a6}(J:0<=s.n)(VP:0<s.d)(ak:0<=x.n)(aR:0<x.d):0<=(lI s x).n/\0<(lI s x).d:=by
  have z:0<=s.n*x.d:=Int.mul_nonneg J (by omega);have D:0<=x.n*s.d:=Int.mul_nonneg ak (by omega);have Z:0<s.d*x.d:=Int.mul_pos VP aR;unfold lI;split
  · exact⟨by simp only;omega,Z⟩
  · split
    · exact⟨by simp only;omega,Z⟩
    · exact⟨by simp only;omega,Z⟩
theorem ano: ∀{l:List a6} {s:a6},0<=s.n->0<s.d->(∀x∈l,0<=x.n/\x.ok=true)->kl s (l.map ej)=kl s l
  |[],_,_,_,_=>rfl
  | x::l,s,J,aR,h=>by
    obtain⟨z,D⟩:=h x (by simp);obtain⟨Z,_,_⟩:=a6.nq.1 D;have aE:jg s (ej x)=jg s x:=(by unfold jg;rw[D,ZX D z,ao8 J aR z Z]);simp only[List.map_cons,kl,aE];split
    · next bB=>
      have aI:=ao6 J aR z Z;have aU:(jg s x).2=ej (lI s x):=by
        unfold jg at bB⊢;split
        · next aB=>
          rw[if_pos aB]at bB;unfold mw at bB⊢;split
          · rfl
          · next om=>rw[if_neg om]at bB;cases bB
        · next aB=>rw[if_neg aB]at bB;cases bB
      rw[aU];exact ano (xw aI.1 aI.2).1 (yE aI.2).1 λy ah=>h y (by simp[ah])
    · rfl
theorem aAv{x:a6}(ak:0<=x.n)(aR:0<x.d):(ju (ej x) .ha<=0)↔(ju x .ha<=0):=by
  obtain⟨g,aj,aM,a1,_⟩:=ZW ak aR;have BI:(ej x).bV=(x.bV&&decide (0<x.n)):=rfl;have aq:=RZ ak aR;obtain⟨y,ah⟩: ∃y,y=ej x:=⟨_,rfl⟩;rw[<-ah]at aM a1 BI aq⊢;have tH:0<=y.n:=by rw[ah];exact(xw ak aR).1
  have ha:(a6.ha.bV&&decide (a6.ha.n≠0))=false:=rfl;have on:a6.ha.n=1:=rfl;have aAi:a6.ha.d=1:=rfl;unfold ju;rw[ha,on,aAi];have J:(y.bV&&decide (y.n≠0))=(x.bV&&decide (x.n≠0)):=by have bm:decide (y.n≠0)=decide (0<x.n):=decide_eq_decide.2 (by omega);have bU:decide (x.n≠0)=decide (0<x.n):=decide_eq_decide.2 (by omega);rw[bm,bU,BI,Bool.and_assoc,Bool.and_self]
  rw[J];split
  · exact Iff.rfl
  · simp only[Bool.false_eq_true,if_false];have aB: ∀a b:Int,(h8 a b<=0)↔a<=b:= λa b=>by unfold h8;split<;>(try split)<;>omega
    rw[aB,aB,aM,a1,Int.mul_one,Int.one_mul,Int.mul_one,Int.one_mul];exact⟨λh=>Int.mul_le_mul_of_nonneg_left h (by omega),λh=>Int.le_of_mul_le_mul_left h aj⟩
end Go.Big
namespace Go.Proofs.YtkpifdkccdndcaaGreat
open Go Go.DI Go.Big
theorem bh.mH{x:bh}(h:x.bM):0<=x.bw.n:=(il h.1).1
theorem R1{x:bh}(h:x.bM)(an:x.bw.ok=true):(ea x).bw=ej x.bw/\(ea x).bM:=by
  have ak:=bh.mH h;obtain⟨z,D,Z⟩:=a6.nq.1 an;have fM:=xw ak z;have dg:=yE (x:=x.bw) z;have aq:aZ 128<aZ 512:=yU;have e:(rr x.bw).2=ej x.bw:=by rw[HG an ak]
  unfold ea;rw[e];exact⟨TY fM.1 (by omega),TZ fM.1 (by omega) (by omega) (by omega)⟩
theorem As{x:bh}(h:x.bM)(J:x.bw.small=true):(ea x).bM/\(ea x).bw.small=true:=by obtain⟨z,D⟩:=R1 h (vf J);exact⟨D,by rw[z];exact ak2 J (bh.mH h)⟩
theorem ak1{x:bh}(h:x.bM)(J:pq x=true):(ea x).bM/\pq (ea x)=true:=by simp only[pq,Bool.and_eq_true,decide_eq_true_eq]at J⊢;obtain⟨z,D⟩:=R1 h (vf J.1);obtain⟨Z,_,_⟩:=a6.nq.1 (vf J.1);exact⟨D,(As h J.1).2,by rw[z];exact(RZ (bh.mH h) Z).2 J.2⟩
theorem azd{m:Int}{r:List bh}{t h:bh}(aF: ∀x∈r,x.bM)(bH:t.bM)(cE:h.bM)(J:ns m r t h=true):ns m (r.map ea) (ea t) (ea h)=true:=by
  simp only[ns,Bool.and_eq_true,decide_eq_true_eq,List.length_map]at J⊢;obtain⟨z,D,Z,aw,aX⟩:=J;refine⟨z,?_,(As bH Z).2,?_,(As cE aX).2⟩
  · rw[List.all_eq_true]at D⊢;intro y ah;obtain⟨x,H,rfl⟩:=List.mem_map.1 ah;exact(ak1 (aF x H) (D x H)).2
  · simp only[rj,Bool.and_eq_true,decide_eq_true_eq]at aw⊢;obtain⟨aM,_⟩:=R1 bH aw.1;obtain⟨bm,_,_⟩:=a6.nq.1 aw.1;rw[aM];exact⟨ZX aw.1 (bh.mH bH),(aAv (bh.mH bH) bm).2 aw.2⟩
theorem Z2{l:List bh}(W: ∀x∈l,x.bM)(J:(l.map bh.bw).all a6.small=true):(l.map ea).map bh.bw=(l.map bh.bw).map ej:=by rw[List.map_map,List.map_map];refine List.map_congr_left λx H=> ?_;exact(R1 (W x H) (vf (List.all_eq_true.1 J _ (List.mem_map_of_mem H)))).1
theorem TI{l:List a6}(ak: ∀x∈l,0<=x.n)(J:l.all a6.small=true):(l.map ej).all a6.small=true:=by rw[List.all_eq_true]at J⊢;intro y ah;obtain⟨x,H,rfl⟩:=List.mem_map.1 ah;exact ak2 (J x H) (ak x H)
theorem acv{l:List a6}(ak: ∀x∈l,0<=x.n)(J:l.all a6.small=true):hE (l.map ej)=hE l:=by unfold hE;rw[List.map_map];refine List.map_congr_left λx H=> ?_;obtain⟨z,_,_⟩:=a6.nq.1 (vf (List.all_eq_true.1 J x H));exact decide_eq_decide.2 (RZ (ak x H) z)
theorem amE{n:Nat}: ∀{bb:List (List a6)} {i:Nat},(∀r∈bb,∀x∈r,0<=x.n)->pr n i bb=true->pr n i (bb.map (·.map ej))=true/\(bb.map (·.map ej)).map hE=bb.map hE
  |[],_,_,_=>⟨rfl,rfl⟩
  | r::bb,i,ak,h=>by simp only[pr,Bool.and_eq_true]at h;obtain⟨z,D⟩:=h;have dQ:=z;simp only[p7,Bool.and_eq_true,decide_eq_true_eq]at z;obtain⟨bn,bF,dp⟩:=z;have aE:=acv (ak r (by simp)) bF;obtain⟨dt,dJ⟩:=amE (λr aF=>ak r (by simp[aF])) D;refine⟨?_,by simp only[List.map_cons,aE,dJ]⟩;simp only[List.map_cons,pr,Bool.and_eq_true];refine⟨?_,dt⟩;simp only[p7,Bool.and_eq_true,decide_eq_true_eq,List.length_map,aE];exact⟨bn,TI (ak r (by simp)) bF,dp⟩
theorem azc{x:hk}(W:x.bM)(h:x.ox=true):(m5 x).ox=true/\(m5 x).bM/\ ∀l∈(m5 x).bb,l.length<1000000:=by
  have uJ:=hk.Sg W h;obtain⟨bp,dc,eK,kX,j2,ni,oR⟩:=W;simp only[hk.ox,mJ,Bool.and_eq_true,decide_eq_true_eq]at h;obtain⟨⟨⟨⟨⟨⟨⟨⟨⟨cB,eQ⟩,ht⟩,ho⟩,ly⟩,Ba⟩,It⟩,TT⟩,TU⟩,TR⟩:=h;have mH: ∀{l:List bh},(∀r∈l,r.bM)-> ∀y∈l.map bh.bw,0<=y.n:= λaG y ah=>by obtain⟨O,bY,rfl⟩:=List.mem_map.1 ah;exact bh.mH (aG O bY)
  have BL: ∀l∈x.bb,(l.map bh.bw).all a6.small=true:= λl aG=>by obtain⟨i,aa,rfl⟩:=List.getElem_of_mem aG;have:=HJ (j:=i) It (by rw[List.getElem?_map,List.getElem?_eq_getElem aa];rfl);simp only[p7,Bool.and_eq_true]at this;exact this.2.1
  have bg:=Z2 bp ly;have arJ:=Z2 eK Ba;have Up:(x.bb.map (·.map ea)).map (·.map bh.bw)=(x.bb.map (·.map bh.bw)).map (·.map ej):=by rw[List.map_map,List.map_map];exact List.map_congr_left λl aG=>Z2 (dc l aG) (BL l aG)
  have az9: ∀r∈x.bb.map (·.map bh.bw),∀y∈r,0<=y.n:= λr aF y ah=>by obtain⟨l,aG,rfl⟩:=List.mem_map.1 aF;exact mH (dc l aG) y ah
  obtain⟨e6,fw⟩:=amE az9 It;have ae9:(0:Int)<=a6.nil.n/\(0:Int)<a6.nil.d:=by decide
  have auB:kl .nil ((x.s.map bh.bw).map ej)=kl .nil (x.s.map bh.bw):=ano ae9.1 ae9.2 λy ah=>⟨mH bp y ah,vf (List.all_eq_true.1 ly y ah)⟩;refine⟨?_,⟨?_,?_,?_,by simpa[m5]using kX,by simpa[m5]using j2,by simpa[m5]using ni,?_⟩,?_⟩
  · simp only[hk.ox,mJ,m5,bg,arJ,Up,Bool.and_eq_true,decide_eq_true_eq,auB,fw,acv (mH eK) Ba,List.length_map]at cB eQ ht ho It TT TU TR e6⊢;refine⟨⟨⟨⟨⟨⟨⟨⟨⟨cB,eQ⟩,ht⟩,ho⟩,TI (mH bp) ly⟩,TI (mH eK) Ba⟩,e6⟩,TT⟩,TU⟩,TR⟩
  · intro r aF;obtain⟨y,ah,rfl⟩:=List.mem_map.1 aF;exact(As (bp y ah) (List.all_eq_true.1 ly _ (List.mem_map_of_mem ah))).1
  · intro l aG r aF;obtain⟨e5,mD,rfl⟩:=List.mem_map.1 aG;obtain⟨y,ah,rfl⟩:=List.mem_map.1 aF;exact(As (dc e5 mD y ah) (List.all_eq_true.1 (BL e5 mD) _ (List.mem_map_of_mem ah))).1
  · intro r aF;obtain⟨y,ah,rfl⟩:=List.mem_map.1 aF;exact(As (eK y ah) (List.all_eq_true.1 Ba _ (List.mem_map_of_mem ah))).1
  · intro l aG;obtain⟨e5,mD,rfl⟩:=List.mem_map.1 aG;have:=oR e5 mD;simpa using this
  · intro l aG;obtain⟨e5,mD,rfl⟩:=List.mem_map.1 aG;simpa using uJ e5 mD
end Go.Proofs.YtkpifdkccdndcaaGreat
namespace Go.Proofs.YtkpifdkccdndcaaGreat
open Go Go.DI Go.Big
theorem I0{cK:Type}{f:dm->cK->iN}{P:dm->Prop}: ∀{l:List cK} {s:iN} {eP:dm},(∀G x eP,x∈l->f G x= .inl eP->P G->P eP)->fr f s l= .inl eP->(∀G,s= .inl G->P G)->P eP:=by
  intro l;induction l with
  |nil=>intro s eP _ h J;exact J eP h
  | cons x l cb=>
    intro s eP aI h J;cases s with
    |inr e=>rw[tp]at h;cases h
    |inl G=>rw[zH]at h;exact cb (λG y eP ah=>aI G y eP (by simp[ah])) h λhD z=>aI G x hD (by simp) z (J G rfl)
structure IK(b1:List qX)(i:Nat)(d:qX):Prop where
  kP:0<=d.parent
  dK:d.parent<=i
  eO: ∃q,b1[d.parent.toNat]?=some q/\q.cR=d.cR-1
  lC:cU d.cR 1 4=true
  gQ:cU d.gQ 1 64=true
  bM:d.fX.bM
  rz:d.fX.bw.small=true
structure IL(b1:List qX)(n:Nat)(d:zm):Prop where
  dd:0<=d.model
  bz:d.model<n
  kP:0<=d.Z1
  eO: ∃q,b1[d.Z1.toNat]?=some q/\q.cR=4
def tR(l:List ByteArray):Prop:=(∀n∈l,gP n=true)/\l.Nodup
theorem Hp{l:List ByteArray}{s:ByteArray}(h:tR l)(J:gP s=true)(aa:(dR s l).isSome=false):tR (l++[s]):=
  ⟨λn ak=>by
    rcases List.mem_append.1 ak with z|z
    · exact h.1 n z
    · simp at z;subst z;exact J,alJ.2 ⟨h.2,aa⟩⟩
structure qW(G:dm):Prop where
  ck: ∀x∈G.ck,x.bM/\x.ox=true/\ ∀l∈x.bb,l.length<1000000
  nu:tR G.lN
  a5: ∀x∈G.a5,cU x.ext 1 16=true/\cU x.pn 1 64=true/\0<=x.eV/\x.eV<G.ck.length
  zb:tR G.gJ
  wL: ∃l,G.dG=mM::l
  dG: ∀i d,G.dG[i+1]?=some d->IK G.dG i d
  cc: ∀j,0<=j->j<=4->0<=G.cc.at j-> ∃q,G.dG[(G.cc.at j).toNat]?=some q/\q.cR=j
  gq: ∀x∈G.gq,IL G.dG G.a5.length x
  Cn:G.a3.Perm (G.dG.tail.map (·.name)++G.gq.map (·.name))
  nv:tR G.a3
  cG: ∀x∈G.cG,oD.lF x G.a5.length
  gQ:tR G.lv
  dH: ∀x∈G.dH,0<=x.qO/\x.qO<G.cG.length
  zc:tR G.qd
theorem LS:tR []:=⟨λ_ h=>(by cases h),List.nodup_nil⟩
theorem avg:qW lG:=by
  refine⟨?_,LS,?_,LS,⟨[],rfl⟩,?_,?_,?_,?_,LS,?_,LS,?_,LS⟩
  · intro x H;cases H
  · intro x H;cases H
  · intro i d h;simp[lG]at h
  · intro j bB aw aE;have aX:j=0\/j=1\/j=2\/j=3\/j=4:=(by omega);rcases aX with rfl|rfl|rfl|rfl|rfl<;>simp[lG,dY.at]at aE⊢;first|exact⟨mM,rfl,rfl⟩|rfl
  · intro x H;cases H
  · exact List.Perm.refl _
  · intro x H;cases H
  · intro x H;cases H
theorem avi{G eP:dm}{x:xN}(W:x.eV.bM)(h:kQ G x= .inl eP)(aa:qW G):qW eP:=by
  unfold kQ at h;cases z:gP x.eV.name
  · simp[z]at h
  · cases D:(dR x.eV.name G.lN).isSome
    · cases Z:x.eV.ox
      · simp[z,D,Z]at h
      · rw[z,D,Z]at h;simp only[Bool.true_eq_false,Bool.false_eq_true,if_false,Sum.inl.injEq]at h;subst h;obtain⟨fM,dg,pW⟩:=azc W Z;refine⟨λy ah=> ?_,?_,λy ah=> ?_,aa.zb,aa.wL,aa.dG,aa.cc,aa.gq,aa.Cn,aa.nv,aa.cG,aa.gQ,aa.dH,aa.zc⟩
        · rcases List.mem_append.1 ah with ah|ah
          · exact aa.ck y ah
          · simp at ah;subst ah;exact⟨dg,fM,pW⟩
        · have:dm.lN {G with ck:=G.ck++[m5 x.eV]}=G.lN++[x.eV.name]:=(by simp[dm.lN,m5]);rw[this];exact Hp aa.nu z D
        · obtain⟨a,b,c,d⟩:=aa.a5 y ah;exact⟨a,b,c,by simp;omega⟩
    · simp[z,D]at h
theorem avj{G eP:dm}{x:zq}(h:ja G x= .inl eP)(aa:qW G):qW eP:=by
  unfold ja at h;cases z:gP x.name
  · simp[z]at h
  · cases D:(dR x.name G.gJ).isSome
    · cases Z:dR x.eV G.lN with
      |none=>simp[z,D,Z]at h
      | some hx=>
        cases aw:cU x.ext 1 16&&cU x.pn 1 64
        · simp[z,D,Z,aw]at h
        · rw[z,D,Z]at h;simp only[Bool.true_eq_false,Bool.false_eq_true,if_false,aw,if_true,Sum.inl.injEq]at h;subst h;have cM:=Gf Z;simp only[dm.lN,List.length_map]at cM;simp only[Bool.and_eq_true]at aw;refine⟨aa.ck,aa.nu,λy ah=> ?_,?_,aa.wL,aa.dG,aa.cc,λy ah=> ?_,aa.Cn,aa.nv,λy ah=> ?_,aa.gQ,aa.dH,aa.zc⟩
          · rcases List.mem_append.1 ah with ah|ah
            · exact aa.a5 y ah
            · simp at ah;subst ah;exact⟨aw.1,aw.2,by simp,by simp;omega⟩
          · have:dm.gJ {G with a5:=G.a5++[⟨x.name,x.ext,x.pn,(hx:Int)⟩]}=G.gJ++[x.name]:=(by simp[dm.gJ]);rw[this];exact Hp aa.zb z D
          · obtain⟨a,b,c,d⟩:=aa.gq y ah;exact⟨a,by simp;omega,c,d⟩
          · have X:=aa.cG y ah;exact⟨X.num,X.eZ,X.Sy,X.hU,X.aog,X.anY,λm aK=>⟨(X.amA m aK).1,by have:=(X.amA m aK).2;simp;omega⟩,X.iX,X.len⟩
    · simp[z,D]at h
theorem avm{G eP:dm}{x:zr}(h:kR G x= .inl eP)(aa:qW G):qW eP:=by
  unfold kR at h;cases z:gP x.name
  · simp[z]at h
  · cases D:(dR x.name G.qd).isSome
    · cases Z:dR x.qO G.lv with
      |none=>simp[z,D,Z]at h
      | some hx=>
        rw[z,D,Z]at h;simp only[Bool.true_eq_false,Bool.false_eq_true,if_false,Sum.inl.injEq]at h;subst h;have cM:=Gf Z;simp only[dm.lv,List.length_map]at cM;refine⟨aa.ck,aa.nu,aa.a5,aa.zb,aa.wL,aa.dG,aa.cc,aa.gq,aa.Cn,aa.nv,aa.cG,aa.gQ,λy ah=> ?_,?_⟩
        · rcases List.mem_append.1 ah with ah|ah
          · exact aa.dH y ah
          · simp at ah;subst ah;exact⟨by simp,by simp;omega⟩
        · have:dm.qd {G with dH:=G.dH++[⟨x.name,(hx:Int)⟩]}=G.qd++[x.name]:=(by simp[dm.qd]);rw[this];exact Hp aa.zc z D
    · simp[z,D]at h
theorem avl{G eP:dm}{x:mg}(W:mg.bM x/\x.a5.length<1000000)(h:jx G x= .inl eP)(aa:qW G):qW eP:=by
  unfold jx at h;simp only at h;split at h
  · next aU=>
    simp only[Sum.inl.injEq]at h;subst h;unfold oy at aU;cases z:gP x.name
    · simp[z]at aU
    · cases D:(dR x.name G.lv).isSome
      · cases Z:oX x.k x.m x.q x.aY
        · simp[z,D,Z]at aU
        · by_cases aw:x.a5=[]
          · simp[z,D,Z,aw]at aU
          · cases aX:x.a5.all (ri (lh 0 G.gJ))
            · simp[z,D,Z,aw,aX]at aU
            · by_cases cC:(x.a5.map (kY (lh 0 G.gJ))).Nodup
              · cases gn:ns x.m x.hf x.hS x.ez
                · simp[z,D,Z,aw,aX,cC,gn]at aU
                · have jX:x.a5.all (λs=>(dR s G.gJ).isSome)=true:=(by rw[<-aX];congr 1;funext O;exact ZL.symm);obtain⟨⟨⟨Ew,sT⟩,tM,RU⟩,ZK⟩:=W;have fH:=gn;simp only[ns,Bool.and_eq_true]at fH;obtain⟨_,fw,iZ,nr,mL⟩:=fH;refine⟨aa.ck,aa.nu,aa.a5,aa.zb,aa.wL,aa.dG,aa.cc,aa.gq,aa.Cn,aa.nv,λy ah=> ?_,?_,λy ah=> ?_,aa.zc⟩
                  · rcases List.mem_append.1 ah with ah|ah
                    · exact aa.cG y ah
                    · simp at ah;subst ah;refine⟨Z,by simpa using aw,azd Ew tM RU gn,⟨λO bY=> ?_,by simpa using sT⟩,(As tM iZ).1,(As RU mL).1,λm aK=> ?_,cC,by simpa using ZK⟩
                      · obtain⟨w,aO,rfl⟩:=List.mem_map.1 bY;exact(ak1 (Ew w aO) (List.all_eq_true.1 fw w aO)).1
                      · rw[show({name:=x.name,k:=x.k,m:=x.m,q:=x.q,aY:=x.aY,a5:=x.a5.map (kY (lh 0 G.gJ)),hf:=x.hf.map ea,hS:=ea x.hS,ez:=ea x.ez}:oD).a5=x.a5.map (kY (lh 0 G.gJ))from rfl,alf jX]at aK;obtain⟨w,aO,rfl⟩:=List.mem_map.1 aK;have:=List.all_eq_true.1 jX w aO;cases bY:dR w G.gJ with
                        |none=>rw[bY]at this;cases this
                        | some j=>rw[D0 bY];have cp:=Gf bY;simp only[dm.gJ,List.length_map]at cp;exact⟨by omega,by show(j:Int)<(G.a5.length:Int);omega⟩
                  · have:dm.lv {G with cG:=G.cG++[⟨x.name,x.k,x.m,x.q,x.aY,x.a5.map (kY (lh 0 G.gJ)),x.hf.map ea,ea x.hS,ea x.ez⟩]}=G.lv++[x.name]:=(by simp[dm.lv]);rw[this];exact Hp aa.gQ z D
                  · obtain⟨a,b⟩:=aa.dH y ah;exact⟨a,by simp;omega⟩
              · simp[z,D,Z,aw,aX,cC]at aU
      · simp[z,D]at aU
  · cases h
end Go.Proofs.YtkpifdkccdndcaaGreat
