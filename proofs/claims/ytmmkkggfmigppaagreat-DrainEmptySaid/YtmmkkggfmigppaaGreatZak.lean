/-
  A part of the proof of the statement, in texts that tools of ours (wip/shrink.py, irpack.py, relax.py, minify.py, join.py, lay.py) have shortened.
-/
import Derived.Test.YtmmkkggfmigppaaGreatZaf
import Derived.Test.YtmmkkggfmigppaaGreatZaj
set_option linter.all false
set_option maxRecDepth 8000
set_option maxHeartbeats 16000000
namespace Go.DI
open Go Go.RowKit
section
variable {P:Program}
def qx(gC g8:Nat)(K:eE)(u:fE)(t m:W)(hp:ie)(cQ:eA)(jj:aP)(an:W):Prop:= ∃cy cF,dR cy cF (cr cQ) an/\gJ cF cy (kt hp) jj/\eF gC g8 K u t m cy cF (cr cQ) an
theorem Mx{bF:lA}(b5:qw P bF){base gr:Nat}: ∀{ops:List bn} {K:eE} {u:fE} {cG hp:ie} {ae cQ:eA} {m:W} {aj:aP},ops.all Hc=true->uq (ops.map (·.aN))=true->fw ae->dR K u (cr ae) m->gJ u K (kt cG) aj->wJ K u (cr ae) m base gr ops->base<=ae.next->gr<=m.next->
    ur bF base ops cG ae=some (hp,cQ)->fw cQ/\g7 P gr ops aj m λjj an=>qx base gr K u (cr ae) m hp cQ jj an
  | [],K,u,cG,hp,ae,cQ,m,aj,_,_,aZ,M,bE,_,_,_,h=>by cases h;refine⟨aZ,?_⟩;rw[T9];exact⟨K,u,M,bE,eF.refl⟩
  | o::ops,K,u,cG,hp,ae,cQ,m,aj,ao,hW,aZ,M,bE,fa,hb,rN,h=>by
    obtain⟨aN,d,g,k,a5⟩:=o;simp only[mK,aX]at ao;obtain⟨cZ,za⟩:=nodup_cons hW;have tV:=ao.1;simp only[Hc,aX]at tV;have skip: ∀{nM:ie},vZ cG d undef=some nM->ur bF base ops nM ae=some (hp,cQ)->fw cQ/\g7 P gr ops (c1 aj d undef) m λjj an=>qx base gr K u (cr ae) m hp cQ jj an:= λ{nM} af h=>by refine Mx b5 ao.2 za aZ M ?_ (λo aD az=>fa o (by simp[aD]) az) hb rN h;rw[TB af];exact bE.a4 bW.undef
    have Ac: ∀{x:ie×eA},Am bF base ⟨aN,d,g,k,a5⟩ cG ae=some x->ur bF base ops x.1 x.2=some (hp,cQ)->fw cQ/\g7 P gr (⟨aN,d,none,k,a5⟩::ops) aj m λjj an=>qx base gr K u (cr ae) m hp cQ jj an:= λ{x} G h=>by
      -- N0 a dA
      have after: ∀{f:Nat} {args bQ:List Value} {y:ie×eA} {DQ:Value->W->Prop},bj u K args bQ->(match so bF f args ae (k8 (kt cG) (cr ae) a5)with
          | some (r,cj)=>(match vZ cG d r with
            |some kz=>some (kz,cj)
            |none=>none)
          |none=>none)=some x->fw cQ/\fZ P f bQ m (u7 P gr d a5 ops aj m (λjj an=>qx base gr K u (cr ae) m hp cQ jj an)):= λ{f args bQ y DQ} az ar=>by
        split at ar
        · next r e7 D=>
          split at ar
          · next nM H=>
            cases ar;obtain⟨e2,q⟩:=ahc b5 aZ M bE tV.2 az D;have step: ∀{cp:eE} {dv:fE} {dF:Value} {bd:W},dR cp dv (cr e7) bd->bW dv cp r dF->eF (cr ae).next m.next K u (cr ae) m cp dv (cr e7) bd->fw cQ/\g7 P gr ops (c1 aj d dF) bd λjj an=>qx base gr K u (cr ae) m hp cQ jj an:= λ{cp dv dF bd} a8 cN dP=>by
              have zk:gJ dv cp (kt nM) (c1 aj d dF):=(by rw[TB H];exact(bE.cd dP.f dP.e).a4 cN);have y0:wJ cp dv (cr e7) bd base gr ops:= λo aD az=>by
                have ax:=fa o (by simp[aD]) az;refine⟨?_,λo' lZ=> ?_,?_,oW ax.r8 dP.jh,oW ax.qb dP.jr⟩
                · cases bh:cp (base+o.aN)with
                  |none=>rfl
                  | some b=>
                    rcases dP.jz _ _ bh with br|⟨br,_⟩
                    · rw[ax.e]at br;cases br
                    · have:=ax.r8;omega
                · rcases dP.jz _ _ lZ with br|⟨_,br⟩
                  · exact ax.b _ br
                  · have:=ax.qb;omega
                · cases bh:dv (gr+o.aN)with
                  |none=>rfl
                  | some cs=>
                    rcases dP.fn _ _ bh with br|br|⟨o',_,br,_⟩
                    · rw[ax.f]at br;cases br
                    · have:=ax.qb;omega
                    · exact absurd br (ax.b o')
              obtain⟨mG,cn⟩:=Mx b5 ao.2 za e2 a8 zk y0 (jv hb dP.jh) (jv rN dP.jr) h;refine⟨mG,?_⟩;obtain⟨n,bb,dE,hs,fD,iC,bD,b4,e0⟩:=cn;exact⟨n,bb,dE,hs,fD,iC,bD,b4,(dP.yo hb rN).trans e0⟩
            have ajN:fw cQ:=(by obtain⟨n,dF,an,_,_,cp,dv,a8,cN,dP⟩:=q;exact(step a8 cN dP).1);refine⟨ajN,q.cd λdF bd aJ=> ?_⟩;obtain⟨aa,cp,dv,a8,cN,dP⟩:=aJ;exact⟨aa,(step a8 cN dP).2⟩
          · cases ar
        · cases ar
      have Sq: ∀{k:ad},k.jB=false->vU k=true->(k.eU=true->qy K u (cr ae) m (base+aN) (gr+aN))->(if k.hZ (kt cG) (cr ae)&&ig (kt cG) (cr ae) a5 then(match Ad k (base+aN) (kt cG) ae with
          | some cj=>(match some (k.ia (base+aN) (kt cG) (cr ae),cj)with
            | some (r,cj)=>(match vZ cG d r with
              |some kz=>some (kz,cj)
              |none=>none)
            |none=>none)
          |none=>none)else none)=some x->
          fw cQ/\g7 P gr (⟨aN,d,none,k,a5⟩::ops) aj m λjj an=>qx base gr K u (cr ae) m hp cQ jj an:= λ{k} ar aa ax G=>by
        split at G
        · next zc=>
          simp only[aX]at zc;split at G
          · next e7 rH=>
            simp only at G;split at G
            · next nM qN=>
              cases G;obtain⟨e2,aU⟩:=adk aZ rH;obtain⟨D,cp,q⟩:=adQ (gC:=base) (g8:=gr) (id:=base+aN) (mid:=gr+aN) M bE ar aa zc.1 ax (by omega) (by omega);have zk:gJ u cp (kt nM) (c1 aj d (k.val (gr+aN) aj m)):=(by rw[TB qN];exact(bE.cd q.bA.f q.bA.e).a4 q.val);have y0:wJ cp u (cr e7) (k.gu (gr+aN) aj m) base gr ops:= λo aD az=>by
                have ax:=fa o (by simp[aD]) az;have G:=cZ o aD;simp only at G;rw[aU];refine⟨by rw[q.Hj _ (by omega)];exact ax.e,λo' lZ=> ?_,ax.f,oW ax.r8 q.bA.jh,oW ax.qb q.bA.jr⟩;by_cases e:o'=base+aN
                · subst e;rcases q.self with br|br
                  · rw[br]at lZ;exact ax.b _ lZ
                  · rw[br]at lZ;simp only[lL]at lZ;omega
                · rw[q.Hj _ e]at lZ;exact ax.b _ lZ
              have bf:=q.TE;have fa:=q.bA;rw[<-aU]at bf fa;obtain⟨mG,cn⟩:=Mx b5 ao.2 za e2 bf zk y0 (jv hb fa.jh) (jv rN fa.jr) h;refine⟨mG,?_⟩;rw[uO ar];refine⟨D,Vp M bE tV.2 zc.2,?_⟩;obtain⟨n,bb,dE,hs,fD,iC,bD,b4,e0⟩:=cn;exact⟨n,bb,dE,hs,fD,iC,bD,b4,fa.trans e0⟩
            · cases G
          · cases G
        · cases G
      have vq:=fa ⟨aN,d,g,k,a5⟩ (by simp);have y2:=tV.1;have bu:=y2;simp only[vU,aX]at bu;cases k with
      | dA f bQ=>rw[T8];exact after (y:=x) (DQ:= λ_ _=>True) (bE.wZ bu.1) G
      | iw x bQ=>
        simp only[Am]at G;simp only[ad.gN,mK,aX]at bu;split at G
        · next f first lT Py=>have ab:=bE.X bu.1.1;rw[Py]at ab;obtain⟨ys,ds,e,iE,iP⟩:=ab.zn;rw[afz e];exact after (y:=⟨cG,ae⟩) (DQ:= λ_ _=>True) ((iE.oh (bE.wZ bu.1.2)).oh iP) G
        · cases G
      | kn bg x bQ=>
        simp only[Am]at G;simp only[ad.gN,mK,aX]at bu;rw[azq];split at G
        · next pD v Py=>
          have ab:=bE.X bu.1.1;rw[Py]at ab;obtain⟨bq,e,qU⟩:=ab.Fa;rw[e];unfold JX;split at G
          · next a f a3=>simp only[a3];exact after (y:=⟨cG,ae⟩) (DQ:= λ_ _=>True) (bj.cons qU (bE.wZ bu.1.2)) G
          · next a f dc n a3=>
            simp only[a3];split at G
            · next ar=>simp only[aX]at ar;have D:=DR M qU ar.1;obtain⟨w,q⟩:=after (y:=⟨cG,ae⟩) (DQ:= λ_ _=>True) (bj.cons (R1 M qU ar.1 ar.2) (bE.wZ bu.1.2)) G;exact⟨w,by rw[D,ar.2];rfl,q⟩
            · cases G
          · cases G
        · cases G
      |_=>exact Sq rfl y2 vq G
    simp only[ur]at h;split at h
    · next mU=>
      split at h
      · next nM e7 D=>
        cases g with
        |none=>exact Ac D h
        | some g=>obtain⟨j,b⟩:=g;obtain⟨w,q⟩:=Ac D h;refine⟨w,?_⟩;rw[Nw,TX bE,if_pos mU];exact q
      · cases h
    · next mU=>
      split at h
      · next nM D=>
        cases g with
        |none=>exact absurd rfl mU
        | some g=>obtain⟨j,b⟩:=g;obtain⟨w,q⟩:=skip D h;refine⟨w,?_⟩;rw[Nw,TX bE,if_neg mU];exact q
      · cases h
theorem aek{ops:List bn}{ae:eA}(aZ:fw ae):fw (CW ops ae)/\cr (CW ops ae)=gQ ops (cr ae):=by
  unfold CW gQ;split
  · exact⟨aft aZ,adw aZ⟩
  · exact⟨aZ,rfl⟩
theorem awI{bF:lA}(b5:qw P bF){ops:List bn}(ao:mA (.E ops)=true){K:eE}{u:fE}{cG hp:ie}{ae cQ:eA}{m:W}{aj:aP}(aZ:fw ae)(M:dR K u (cr ae) m)(bE:gJ u K (kt cG) aj)(h:ur bF ae.next ops cG (CW ops ae)=some (hp,cQ)):
    fw cQ/\g7 P m.next ops aj (gQ ops m) λjj an=>qx ae.next m.next K u (cr ae) m hp cQ jj an:=by
  simp only[mA,aX]at ao;obtain⟨gg,oo⟩:=aek (ops:=ops) aZ;have tW:dR K u (gQ ops (cr ae)) (gQ ops m):=by
    unfold gQ;split
    · exact N1 M _
    · exact M
  have rI:eF ae.next m.next K u (cr ae) m K u (gQ ops (cr ae)) (gQ ops m):=by
    unfold gQ;split
    · exact IQ M _
    · exact eF.refl
  have vo:wJ K u (gQ ops (cr ae)) (gQ ops m) ae.next m.next ops:= λo aD az=>by
    have EC:(ops.any λo=>o.k.eU)=true:=List.any_eq_true.2 ⟨o,aD,az⟩;have pZ:o.aN<ops.length:=(by simpa using eD.1 ao.2 o aD);refine⟨?_,λo' lZ=> ?_,?_,by simp[gQ,EC,pZ,cr],by simp[gQ,EC,pZ]⟩
    · cases bh:K (ae.next+o.aN)with
      |none=>rfl
      |some b=>have:=(M.c0 _ _ bh).1;simp[cr]at this;omega
    · have:=(M.c0 _ _ lZ).2;omega
    · cases bh:u (m.next+o.aN)with
      |none=>rfl
      |some cs=>obtain⟨⟨w,D⟩,_⟩:=M.bA _ _ bh;have:=bm D;omega
  have gC:ae.next<=(CW ops ae).next:=by have:=rI.jh;rw[<-oo]at this;exact this
  rw[<-oo]at tW rI vo;obtain⟨cX,q⟩:=Mx b5 ao.1.1 ao.1.2 gg tW bE vo gC rI.jr h;refine⟨cX,?_⟩;obtain⟨n,bb,dE,hs,fD,iC,bD,b4,e0⟩:=q;exact⟨n,bb,dE,hs,fD,iC,bD,b4,rI.trans e0⟩
def NP(P:Program)(c:I)(e:dy)(cG:ie)(ae:eA)(hp:ie)(cQ:eA):Prop:=fw cQ/\ ∀(K:eE) (u:fE) (aj:aP) (m:W),dR K u (cr ae) m->gJ u K (kt cG) aj->hD P c aj m λdY jj an=>dY=e/\qx ae.next m.next K u (cr ae) m hp cQ jj an
theorem qx.trans{gC g8 H3 G8:Nat}{K cp:eE}{u dv:fE}{t m bd:W}{cQ:eA}{nM:ie}{e7:eA}{dh:aP}{dE:W}(h:eF gC g8 K u t m cp dv (cr cQ) bd)(bK:qx H3 G8 cp dv (cr cQ) bd nM e7 dh dE)(D:gC<=H3)(H:g8<=G8):qx gC g8 K u t m nM e7 dh dE:=by obtain⟨fD,iC,a,b,c⟩:=bK;exact⟨fD,iC,a,b,h.trans (c.yo D H)⟩
theorem acW{c:I}(ar:mA c=true){f:ie->eA->Option (dy×ie×eA)}(a3: ∀{cG ae e hp cQ},fw ae->f cG ae=some (e,hp,cQ)->NP P c e cG ae hp cQ): ∀{n:Nat} {cG:ie} {ae:eA} {e:dy} {hp:ie} {cQ:eA},fw ae->LY f n cG ae=some (e,hp,cQ)->NP P (.loop c) e cG ae hp cQ
  |0,cG,ae,e,hp,cQ,aZ,h=>by cases h
  | n+1,cG,ae,e,hp,cQ,aZ,h=>by
    simp only[LY]at h;split at h
    · next nM e7 D=>obtain⟨e2,q⟩:=a3 aZ D;obtain⟨mG,b4⟩:=acW ar a3 e2 h;refine⟨mG,λK u aj m M bE=> ?_⟩;refine Dt λcK bk=> ?_;refine(q K u aj m M bE).cd λdY bb bd aJ=> ?_;obtain⟨rfl,cp,dv,aQ,a8,cN⟩:=aJ;refine bk _ _ ((b4 cp dv bb bd aQ a8).cd λaU dS dE aJ=> ?_);obtain⟨rfl,dP⟩:=aJ;exact⟨rfl,qx.trans cN dP cN.jh cN.jr⟩
    · next cZ=>
      obtain⟨e2,q⟩:=a3 aZ h;refine⟨e2,λK u aj m M bE=> ?_⟩;refine Dt λcK bk=> ?_;refine(q K u aj m M bE).cd λdY bb bd aJ=> ?_;obtain⟨rfl,g⟩:=aJ;cases dY with
      |et=>exact absurd h (cZ _ _)
      |ba id=>exact⟨rfl,g⟩
      |aG=>exact⟨rfl,g⟩
end
section
variable {P:Program}
theorem ad7{bF:lA}{f:Nat}{args:List Value}{ae cj:eA}{r:Value}(aZ:fw ae)(h:Aq bF f args ae=some (r,cj)):fw cj:=by
  unfold Aq at h
  repeat' split at h
  all_goals first|cases h|skip
  all_goals first|exact(I7 aZ (by assumption)).1|exact(HP aZ (by assumption)).1
theorem ahd{bF:lA}(b5:qw P bF){f:Nat}{args:List Value}{ae cj:eA}{r:Value}{L:List Nat}(aZ:fw ae)(h:so bF f args ae L=some (r,cj)):fw cj:=by
  cases L with
  |nil=>exact(b5 _ _ _ _ _ aZ h).1
  | cons o l=>
    simp only[so]at h;split at h
    · split at h
      · next uZ ar=>
        split at h
        · next fC cQ D=>
          split at h
          · next e7 H=>cases h;exact(RP (b5 _ _ _ _ _ (Oc aZ ar).1 D).1 H).1
          · cases h
        · exact ad7 aZ h
      · cases h
    · exact ad7 aZ h
theorem av7{bF:lA}(b5:qw P bF){base:Nat}{o:bn}{cG:ie}{ae:eA}{x:ie×eA}(aZ:fw ae)(h:Am bF base o cG ae=some x):fw x.2:=by
  have iS: ∀{f:Nat} {args:List Value} {L:List Nat},(match so bF f args ae L with
      | some (r,cj)=>(match vZ cG o.d r with
        |some kz=>some (kz,cj)
        |none=>none)
      |none=>none)=some x->fw x.2:= λ{f args L} h=>by
    split at h
    · next r e7 D=>
      split at h
      · cases h;exact ahd b5 aZ D
      · cases h
    · cases h
  have plain: ∀{k:ad},(if k.hZ (kt cG) (cr ae)&&ig (kt cG) (cr ae) o.a5 then(match Ad k (base+o.aN) (kt cG) ae with
      | some cj=>(match some (k.ia (base+o.aN) (kt cG) (cr ae),cj)with
        | some (r,cj)=>(match vZ cG o.d r with
          |some kz=>some (kz,cj)
          |none=>none)
        |none=>none)
      |none=>none)else none)=some x->fw x.2:= λ{k} h=>by
    split at h
    · split at h
      · next e7 rH=>
        simp only at h;split at h
        · cases h;exact(adk aZ rH).1
        · cases h
      · cases h
    · cases h
  obtain⟨aN,d,g,k,a5⟩:=o;cases k with
  |dA f bQ=>exact iS h
  | iw y bQ=>
    simp only[Am]at h;split at h
    · exact iS h
    · cases h
  | kn bg y bQ=>
    simp only[Am]at h;split at h
    · split at h
      · exact iS h
      · split at h
        · exact iS h
        · cases h
      · cases h
    · cases h
  |_=>exact plain h
theorem Sr{bF:lA}(b5:qw P bF){base:Nat}: ∀{ops:List bn} {cG hp:ie} {ae cQ:eA},fw ae->ur bF base ops cG ae=some (hp,cQ)->fw cQ
  |[],cG,hp,ae,cQ,aZ,h=>by cases h;exact aZ
  | o::ops,cG,hp,ae,cQ,aZ,h=>by
    simp only[ur]at h;split at h
    · split at h
      · next nM e7 D=>exact Sr b5 (av7 b5 aZ D) h
      · cases h
    · split at h
      · exact Sr b5 aZ h
      · cases h
theorem u9{bF:lA}(b5:qw P bF){n:Nat}: ∀{c:I} {cG hp:ie} {ae cQ:eA} {e:dy},mA c=true->fw ae->pR bF n c cG ae=some (e,hp,cQ)->NP P c e cG ae hp cQ
  | .skip,cG,hp,ae,cQ,e,ao,aZ,h=>by cases h;exact⟨aZ,λK u aj m M bE=>by rw[T7];exact⟨rfl,K,u,M,bE,eF.refl⟩⟩
  | .ba id,cG,hp,ae,cQ,e,ao,aZ,h=>by cases h;exact⟨aZ,λK u aj m M bE=>by rw[T4];exact⟨rfl,K,u,M,bE,eF.refl⟩⟩
  | .aG,cG,hp,ae,cQ,e,ao,aZ,h=>by cases h;exact⟨aZ,λK u aj m M bE=>by rw[T6];exact⟨rfl,K,u,M,bE,eF.refl⟩⟩
  | .qa _ _ _,cG,hp,ae,cQ,e,ao,aZ,h=>by cases h
  | .E ops,cG,hp,ae,cQ,e,ao,aZ,h=>by
    simp only[pR]at h;split at h
    · next nM e7 D=>cases h;exact⟨Sr b5 (aek aZ).1 D,λK u aj m M bE=>by rw[T5];obtain⟨n,bb,dE,ay,q⟩:=(awI b5 ao aZ M bE D).2;exact⟨n,bb,dE,ay,rfl,q⟩⟩
    · cases h
  | .B a b,cG,hp,ae,cQ,e,ao,aZ,h=>by
    simp only[mA,aX]at ao;simp only[pR]at h;split at h
    · next nM e7 D=>obtain⟨e2,q⟩:=u9 b5 ao.1 aZ D;obtain⟨mG,b4⟩:=u9 b5 ao.2 e2 h;refine⟨mG,λK u aj m M bE=> ?_⟩;rw[Nu];refine(q K u aj m M bE).cd λdY bb bd aJ=> ?_;obtain⟨rfl,cp,dv,aQ,a8,cN⟩:=aJ;rw[TJ];refine(b4 cp dv bb bd aQ a8).cd λaU dS dE aJ=> ?_;obtain⟨rfl,dP⟩:=aJ;exact⟨rfl,qx.trans cN dP cN.jh cN.jr⟩
    · next cZ=>
      obtain⟨e2,q⟩:=u9 b5 ao.1 aZ h;refine⟨e2,λK u aj m M bE=> ?_⟩;rw[Nu];refine(q K u aj m M bE).cd λdY bb bd aJ=> ?_;obtain⟨rfl,g⟩:=aJ;cases dY with
      |et=>exact absurd h (cZ _ _)
      |ba id=>exact⟨rfl,g⟩
      |aG=>exact⟨rfl,g⟩
  | .aR c a b,cG,hp,ae,cQ,e,ao,aZ,h=>by
    simp only[mA,aX]at ao;simp only[pR]at h;split at h
    · next ar=>obtain⟨e2,q⟩:=u9 b5 ao.1.2 aZ h;refine⟨e2,λK u aj m M bE=> ?_⟩;have ab:=(bE.X ao.1.1);rw[ar]at ab;rw[Nt,ab.p5];exact⟨rfl,q K u aj m M bE⟩
    · next ar=>obtain⟨e2,q⟩:=u9 b5 ao.2 aZ h;refine⟨e2,λK u aj m M bE=> ?_⟩;have ab:=(bE.X ao.1.1);rw[ar]at ab;rw[Nt,ab.p5];exact⟨rfl,q K u aj m M bE⟩
    · cases h
  | .block id c,cG,hp,ae,cQ,e,ao,aZ,h=>by
    simp only[pR]at h;split at h
    · next iz nM e7 D=>
      obtain⟨e2,q⟩:=u9 (c:=c) b5 ao aZ D;split at h
      · next eg=>cases h;refine⟨e2,λK u aj m M bE=> ?_⟩;rw[H9];refine(q K u aj m M bE).cd λdY bb bd aJ=> ?_;obtain⟨rfl,g⟩:=aJ;rw[A7,if_pos eg];exact⟨rfl,g⟩
      · next eg=>cases h;refine⟨e2,λK u aj m M bE=> ?_⟩;rw[H9];refine(q K u aj m M bE).cd λdY bb bd aJ=> ?_;obtain⟨rfl,g⟩:=aJ;rw[A7,if_neg eg];exact⟨rfl,g⟩
    · next cZ=>
      obtain⟨e2,q⟩:=u9 (c:=c) b5 ao aZ h;refine⟨e2,λK u aj m M bE=> ?_⟩;rw[H9];refine(q K u aj m M bE).cd λdY bb bd aJ=> ?_;obtain⟨rfl,g⟩:=aJ;cases dY with
      |ba iz=>exact absurd h (cZ _ _ _)
      |et=>exact⟨rfl,g⟩
      |aG=>exact⟨rfl,g⟩
  | .loop c,cG,hp,ae,cQ,e,ao,aZ,h=>by simp only[pR]at h;exact acW (c:=c) ao (λaZ h=>u9 b5 ao aZ h) aZ h
def IE(P:Program)(nL:Nat->Option bS):Prop:= ∀f Fn,nL f=some Fn->b2 P f=some Fn/\mA Fn.body=true
def H0:List (Nat×bS)->fo bS
  |[]=> .nil
  |p::l=>fo.set 21 (H0 l) p.1 (some p.2)
def ID(P:Program):List (Nat×bS)->Prop
  |[]=>True
  |p::l=>((z1 p.1=true/\b2 P p.1=some p.2)/\mA p.2.body=true)/\ID P l
theorem Dj: ∀{l:List (Nat×bS)},ID P l->IE P (H0 l).Y
  |[],_=> λf Fn h=>by cases h
  | p::l,h=> λf Fn a3=>by
    have e:(H0 (p::l)).Y f=if f=p.1 then some p.2 else(H0 l).Y f:=fo.sz (xP h.1.1.1)
    rw[e]at a3;split at a3
    · next bh=>cases a3;rw[bh];exact⟨h.1.1.2,h.1.2⟩
    · exact Dj h.2 f Fn a3
end
def qp:Nat->Value->Value->Bool
  |0,_,_=>false
  | n+1,a,b=>match a,b with
    | .bool x,.bool y=>decide (x=y)
    | .int k x,.int eW y=>decide (k=eW)&&decide (x=y)
    | .string s,.string kM=>decide (s.data.toList=kM.data.toList)
    | .nilFunc,.nilFunc=>true
    | .nilIface,.nilIface=>true
    | .pointer none,.pointer none=>true
    | .slice none l J,.slice none dj iT=>Nat.beq l dj&&Nat.beq J iT
    | .agg xs,.agg ys=>vg (qp n) xs.toList ys.toList
    | .tuple xs,.tuple ys=>vg (qp n) xs.toList ys.toList
    | .func (.yield k) xs cs,.func (.yield eW) ys ds=>Nat.beq k eW&&(vg (qp n) xs.toList ys.toList&&vg (qp n) cs.toList ds.toList)
    |_,_=>false
where
  vg (f:Value->Value->Bool):List Value->List Value->Bool
  |[],[]=>true
  |x::l,y::k=>f x y&&vg f l k
  |_,_=>false
theorem Ou{f:Value->Value->Bool}(a3: ∀a b,f a b=true->a=b): ∀{l k:List Value},qp.vg f l k=true->l=k
  |[],[],_=>rfl
  |[],_::_,h=>by cases h
  |_::_,[],h=>by cases h
  | x::l,y::k,h=>by simp only[qp.vg,aX]at h;rw[a3 x y h.1,Ou a3 h.2]
theorem TV: ∀{n:Nat} (a b:Value),qp n a b=true->a=b
  |0,_,_,h=>by cases h
  | n+1,a,b,h=>by
    have cn: ∀a b,qp n a b=true->a=b:= λa b h=>TV a b h;have il: ∀{xs ys:Array Value},qp.vg (qp n) xs.toList ys.toList=true->xs=ys:= λ{xs ys} h=>AU.1 (Ou cn h);simp only[qp]at h;split at h
    · rw[of_decide_eq_true h]
    · simp only[aX,eM]at h;rw[h.1,h.2]
    · next s kM=>have:=of_decide_eq_true h;obtain⟨⟨l⟩⟩:=s;obtain⟨⟨dj⟩⟩:=kM;simp only at this;rw[this]
    · rfl
    · rfl
    · rfl
    · simp only[aX,Nat.beq_eq]at h;rw[h.1,h.2]
    · rw[il h]
    · rw[il h]
    · simp only[aX,Nat.beq_eq]at h;rw[h.1,il h.2.1,il h.2.2]
    · cases h
def tm(n:Nat)(l k:List Value):Bool:=qp.vg (qp n) l k
theorem ay7{n:Nat}{l k:List Value}(h:tm n l k=true):l=k:=Ou (λa b h=>TV a b h) h
abbrev o2:=List (Nat×List Value×Value)
def Ml(f:Nat)(ts:List Value):o2->Option Value
  |[]=>none
  |p::l=>bif Nat.beq p.1 f&&tm 30 p.2.1 ts then some p.2.2 else Ml f ts l
def O3(f:Nat):o2->Bool
  |[]=>false
  |p::l=>Nat.beq p.1 f||O3 f l
def tD(P:Program)(l:o2):Prop:= ∀p∈l,bH P p.1 p.2.1 p.2.2
theorem adn{P:Program}{f:Nat}{ts:List Value}{r:Value}: ∀{l:o2},tD P l->Ml f ts l=some r->bH P f ts r
  |[],_,h=>by cases h
  | p::l,aC,h=>by
    simp only[Ml]at h;cases hb:Nat.beq p.1 f&&tm 30 p.2.1 ts with
    |false=>rw[hb]at h;exact adn (λq bf=>aC q (by simp[bf])) h
    | true=>rw[hb]at h;simp only[cond_true,lL]at h;simp only[aX,Nat.beq_eq]at hb;rw[<-hb.1,<-ay7 hb.2,<-h];exact aC p (by simp)
def RW(hG:o2)(f:Nat)(args:List Value)(ae:eA):Option (Value×eA):=match yO 9 (cr ae) args with
  | some ts=>(match Ml f ts hG with
    | some r=>if mj r then(match yF ae (args.flatMap (ei 9 (cr ae)))with
          |some e7=>some (r,e7)
          |none=>none)
        else(match Dc ae (args.flatMap (ei 9 (cr ae)))with
          |some e7=>some (r,e7)
          |none=>none)
    |none=>none)
  |none=>none
theorem auI{P:Program}{hG:o2}(tU:tD P hG){f:Nat}{args:List Value}{ae cj:eA}{r:Value}(aZ:fw ae)(h:RW hG f args ae=some (r,cj)):fw cj/\fQ P f args (cr ae) λdF aT=>dF=r/\aT=cr cj:=by
  have mi: ∀{ts:List Value},∀af:bH P f ts r,uz [Mv af] f args (cr ae) (λdF aT=>dF=r/\aT=cr cj)->fQ P f args (cr ae) λdF aT=>dF=r/\aT=cr cj:= λ{ts} af q K u bQ m M az=>by refine(Sx M az q).cd λdF an aJ=> ?_;obtain⟨D,cF,l7,aT,⟨rfl,rfl⟩,aq,aF,br⟩:=aJ;exact⟨K,cF,_,_,⟨rfl,rfl⟩,aq,aF,br⟩
  unfold RW at h;split at h
  · next ts E0=>
    split at h
    · next fC ay=>
      have af:bH P f ts fC:=adn tU ay;split at h
      · next fy=>
        split at h
        · next e7 H=>cases h;obtain⟨e2,aU⟩:=I7 aZ H;exact⟨e2,mi af (Mw af E0 ⟨rfl,by rw[if_pos fy,aU]⟩)⟩
        · cases h
      · next fy=>
        split at h
        · next e7 H=>cases h;obtain⟨e2,aU⟩:=HP aZ H;exact⟨e2,mi af (Mw af E0 ⟨rfl,by rw[if_neg fy,aU]⟩)⟩
        · cases h
    · cases h
  · cases h
def En(nL:Nat->Option bS)(hG:o2)(gX:lA)(n:Nat):Nat->lA
  |0=> λ_ _ _=>none
  | d+1=> λf args ae=>match gX f args ae with
    |some x=>some x
    | none=>bif O3 f hG then RW hG f args ae else match nL f with
      |some Fn=>if Nat.ble args.length Fn.cM&&Nat.blt args.length 1000000 then Jh Fn.iS (pR (En nL hG gX n d) n Fn.body (zl args 0 .nil) ae)else none
      |none=>none
theorem V4{P:Program}{nL:Nat->Option bS}(bt:IE P nL){hG:o2}(tU:tD P hG){gX:lA}(hh:qw P gX){n:Nat}: ∀d,qw P (En nL hG gX n d)
  |0=> λf args ae r cj aZ h=>by cases h
  | d+1=> λf args ae r cj aZ h=>by
    simp only[En]at h;cases bh:gX f args ae with
    |some x=>rw[bh]at h;cases h;exact hh _ _ _ _ _ aZ bh
    |none=>
    rw[bh]at h;simp only at h;cases hb:O3 f hG with
    |true=>rw[hb]at h;exact auI tU aZ h
    |false=>
    rw[hb]at h;simp only[cond_false]at h;split at h
    · next Fn a3=>
      obtain⟨dn,ao⟩:=bt f Fn a3;split at h
      · next aC=>
        simp only[aX,Nat.ble_eq,Nat.blt_eq]at aC;cases ar:pR (En nL hG gX n d) n Fn.body (zl args 0 .nil) ae with
        |none=>rw[ar]at h;cases h
        | some x=>
          obtain⟨e,cG,cQ⟩:=x;rw[ar]at h;obtain⟨w,q⟩:=u9 (V4 bt tU hh d) ao aZ ar;have mi:e≠ .ba 0->(∀id,e≠ .ba id)->kK (cr cQ) (kt cG) Fn.iS=true->r=lb (cr cQ) (kt cG) Fn.iS->cj=cQ->fw cj/\fQ P f args (cr ae) λdF aT=>dF=r/\aT=cr cj:= λ_ cZ ay aL aU=>by
            subst aL;subst aU;refine⟨w,λK u bQ m M az=> ?_⟩;rw[r9 dn (by rw[<-az.1];exact aC.1)];refine(q K u (ja bQ) m M (by rw[ayj aC.2];exact gJ.init az)).cd λdY bb bd aJ=> ?_;obtain⟨rfl,cp,dv,aQ,a8,cN⟩:=aJ;obtain⟨a,b⟩:=SG aQ a8 ay;cases dY with
            |ba id=>exact absurd rfl (cZ id)
            |et=>exact⟨a,cp,dv,_,_,⟨rfl,rfl⟩,aQ,b,cN⟩
            |aG=>exact⟨a,cp,dv,_,_,⟨rfl,rfl⟩,aQ,b,cN⟩
          cases e with
          |ba id=>simp only[Jh]at h;cases h
          | et=>
            simp only[Jh]at h;split at h
            · next ay=>cases h;exact mi (by simp) (by simp) ay rfl rfl
            · cases h
          | aG=>
            simp only[Jh]at h;split at h
            · next ay=>cases h;exact mi (by simp) (by simp) ay rfl rfl
            · cases h
      · cases h
    · cases h
def Ov(nL:Nat->Option bS)(hG:o2)(gX:lA)(n d f:Nat)(args:List Value)(r:Value):Bool:=match En nL hG gX n d f args DN with
  | some (v,cQ)=>(match dZ 9 (cr cQ) v with
    |some fC=>qp 30 fC r
    |none=>false)
  |none=>false
theorem Ei{P:Program}{nL:Nat->Option bS}(bt:IE P nL){hG:o2}(tU:tD P hG){gX:lA}(hh:qw P gX){n d f:Nat}{args:List Value}{r:Value}(h:Ov nL hG gX n d f args r=true):bH P f args r:=by
  unfold Ov at h;split at h
  · next v cQ rH=>
    obtain⟨w,q⟩:=V4 bt tU hh d f args DN _ _ afs rH;rw[adv]at q;split at h
    · next fC ay=>have:=TV _ _ h;subst this;exact ed (q.cd λdF aT aJ=>by rw[aJ.1,aJ.2];exact ay)
    · cases h
  · cases h
def adM:lA:= λ_ _ _=>none
theorem avV{P:Program}:qw P adM:= λ_ _ _ _ _ _ h=>by cases h
def VR(nL:Nat->Option bS)(hG:o2)(n d f:Nat)(args:List Value)(r:Value):Bool:=Ov nL hG adM n d f args r
theorem ahR{P:Program}{nL:Nat->Option bS}(bt:IE P nL){hG:o2}(tU:tD P hG){n d f:Nat}{args:List Value}{r:Value}(h:VR nL hG n d f args r=true):bH P f args r:=Ei bt tU avV h
theorem ado{P:Program}:tD P []:= λp af=>by cases af
theorem xS{P:Program}{p:Nat×List Value×Value}{l:o2}(h:bH P p.1 p.2.1 p.2.2)(aC:tD P l):tD P (p::l):= λq bf=>by
  rcases g6.1 bf with rfl|bf
  · exact h
  · exact aC q bf
section
variable {P:Program} {aB:nN P} {t:W} {z:aP} {c:I} {Q:dy->aP->W->Prop}
theorem sa{o p j J:Nat}{bg:List (List Value)}{cells:List Value}(aD:t.Y o=some ⟨bg.flatten,true⟩)(ay: ∀r∈bg,r.length=J/\ ∀v∈r,gP v=true)
    (af:t.Y p=some ⟨cells,true⟩) (bx:cells[j]?=some (.slice (some ⟨o,0,none⟩) bg.length J)) (cZ:o≠p) (h:fP P c z ((t.a4 o none).a4 p (some ⟨cells.set j (au bg J),true⟩)) Q):fP P c z t Q:= λao K u aj m M bE=>by
  obtain⟨iC,eB,hk,iO⟩:=VZ M aD ay af bx cZ;refine(h ao K iC aj m iO (bE.cd eB (fM.refl _))).cd λe bb bd aJ=> ?_;obtain⟨cp,dv,dh,iB,D,H,aq,aF⟩:=aJ;have fi: ∀q x,((t.a4 o none).a4 p (some ⟨cells.set j (au bg J),true⟩)).Y q=some x-> ∃y,t.Y q=some y/\(x.own=true->y.own=true):= λq x G=>by
    by_cases aL:q=p
    · subst aL;exact⟨_,af,λ_=>rfl⟩
    · by_cases aU:q=o
      · subst aU;exact⟨_,aD,λ_=>rfl⟩
      · rw[b3 aL,b3 aU]at G;exact⟨x,G,λh=>h⟩
  have cN:eF t.next m.next K u t m K iC ((t.a4 o none).a4 p (some ⟨cells.set j (au bg J),true⟩)) m:=by
    refine⟨fM.refl _,eB,λ_ _ h=> .inl h,λb cs hb=> ?_,by simp,ev _,λ_ _ _=>rfl,λb hb ⟨q,x,a7,bD,b4⟩=> ?_,λb hb ⟨q,x,a7,bD⟩=> ?_⟩
    · rcases hk b cs hb with br|br
      · exact .inl br
      · exact .inr (.inr ⟨o,_,br,aD⟩)
    · obtain⟨y,ah,E5⟩:=fi q x bD;exact⟨q,y,a7,ah,E5 b4⟩
    · obtain⟨y,ah,_⟩:=fi q x bD;exact⟨q,y,a7,ah⟩
  exact⟨cp,dv,dh,iB,D,H,aq,cN.trans (aF.yo cN.jh (ev _))⟩
end
inductive oe(g:Nat->Nat->Prop):Value->Value->Prop
  |hL {v:Value} (h:gP v=true):oe g v v
  |cD {o o' off:Nat} (h:g o o'):oe g (.pointer (some ⟨o,off,none⟩)) (.pointer (some ⟨o',off,none⟩))
  |slice {o o' off l J:Nat} (h:g o o'):oe g (.slice (some ⟨o,off,none⟩) l J) (.slice (some ⟨o',off,none⟩) l J)
  |agg {xs ys:Array Value} (M:xs.size=ys.size) (h: ∀(i:Nat) (x y:Value),xs[i]?=some x->ys[i]?=some y->oe g x y):oe g (.agg xs) (.agg ys)
  |tuple {xs ys:Array Value} (M:xs.size=ys.size) (h: ∀(i:Nat) (x y:Value),xs[i]?=some x->ys[i]?=some y->oe g x y):oe g (.tuple xs) (.tuple ys)
def pL(g:Nat->Nat->Prop)(l k:List Value):Prop:=l.length=k.length/\ ∀(i:Nat) (x y:Value),l[i]?=some x->k[i]?=some y->oe g x y
theorem oe.l8{g:Nat->Nat->Prop}{u:fE}{cp fD:eE}{v uN:Value}(h:oe g v uN)(aM: ∀o o',g o o'-> ∀b,cp o=some b->fD o'=some b): ∀{w:Value},bW u cp v w->bW u fD uN w:=by
  have il: ∀{xs ys kT:Array Value},xs.size=ys.size->(∀(i:Nat) (x y:Value),xs[i]?=some x->ys[i]?=some y-> ∀{w:Value},bW u cp x w->bW u fD y w)->bj u cp xs.toList kT.toList->ys.size=kT.size/\ ∀(i:Nat) (x y:Value),ys[i]?=some x->kT[i]?=some y->bW u fD x y:= λ{xs ys kT} M cn aC=>by have D:xs.size=kT.size:=(by simpa using aC.1);refine⟨M.symm.trans D,λi x y G ah=> ?_⟩;have ai:i<xs.size:=(by rw[M];exact(tu.1 G).1);exact cn i xs[i] x (yr ai) G (aC.2 i xs[i] y (by simp) (by simpa using ah))
  induction h with
  |hL ar=>exact λab=>(IZ (gW.refl _) ab ar).cd (gW.refl _) (fM.nil _)
  | cD h=>intro w ab;obtain⟨b,aL,_,rfl⟩:=ab.p7;exact .cD (aM _ _ h _ aL)
  | slice h=>
    intro w ab;rcases ab.mu with⟨b,aL,_,rfl⟩|⟨aL,aU,cz,rfl⟩
    · exact .slice (aM _ _ h _ aL)
    · simp only at aL;subst aL;subst cz;exact .oS
  | agg M _ cn=>intro w ab;obtain⟨kT,rfl,aC⟩:=ab.qV;obtain⟨a,b⟩:=il M (λi x y G ah {w}=>cn i x y G ah) aC;exact .agg a b
  | tuple M _ cn=>intro w ab;obtain⟨kT,rfl,aC⟩:=ab.zo;obtain⟨a,b⟩:=il M (λi x y G ah {w}=>cn i x y G ah) aC;exact .tuple a b
theorem pL.l8{g:Nat->Nat->Prop}{u:fE}{cp fD:eE}{l k:List Value}(h:pL g l k)(aM: ∀o o',g o o'-> ∀b,cp o=some b->fD o'=some b){w:List Value}(ab:bj u cp l w):bj u fD k w:=by
  refine⟨h.1.symm.trans ab.1,λi x y G ah=> ?_⟩;have ai:i<l.length:=by rw[h.1];exact(ek.1 G).1
  exact(h.2 i l[i] x (dx ai) G).l8 aM (ab.2 i l[i] y (dx ai) ah)
theorem pL.cells{g:Nat->Nat->Prop}{l:List Value}(h: ∀v∈l,gP v=true):pL g l l:=
  ⟨rfl,λi x y G ah=>by rw[G]at ah;cases ah;exact .hL (h x (hR G))⟩
theorem oe.agE{g:Nat->Nat->Prop}{l k:List Value}(h:pL g l k):oe g (.agg l.toArray) (.agg k.toArray):= .agg (by simpa using h.1) (by simpa using h.2)
theorem pL.nil{g:Nat->Nat->Prop}:pL g [] []:=⟨rfl,by intro i x y h;simp at h⟩
theorem pL.cons{g:Nat->Nat->Prop}{x y:Value}{l k:List Value}(h:oe g x y)(M:pL g l k):pL g (x::l) (y::k):=by
  refine⟨by simp[M.1],λi a b az hb=> ?_⟩;cases i with
  |zero=>simp at az hb;subst az;subst hb;exact h
  |succ i=>exact M.2 i a b (by simpa using az) (by simpa using hb)
def G9:Value->Bool
  | .agg cs=>cs.toList.all gP
  |v=>gP v
theorem adL{g:Nat->Nat->Prop}{v:Value}(h:G9 v=true):oe g v v:=by
  unfold G9 at h;split at h
  · next cs=>have:=oe.agE (g:=g) (pL.cells (l:=cs.toList) λv ab=>eD.1 h v ab);simpa using this
  · exact .hL h
def r2:Nat->List (List Value)->W->W
  |_,[],t=>t
  |i,c::l,t=>r2 (i+1) l (t.a4 i (some ⟨c,true⟩))
@[simp] theorem aHL{i:Nat}{t:W}:r2 i [] t=t:=rfl
@[simp] theorem Hp{i:Nat}{t:W}{c:List Value}{l:List (List Value)}:r2 i (c::l) t=r2 (i+1) l (t.a4 i (some ⟨c,true⟩)):=rfl
theorem aea: ∀{l:List (List Value)} {i:Nat} {t:W},(r2 i l t).next=t.next
  |[],_,_=>rfl
  |c::l,i,t=>by rw[Hp,aea];rfl
theorem Sy: ∀{l:List (List Value)} {i:Nat} {t:W},(r2 i l t).mp=t.mp
  |[],_,_=>rfl
  |c::l,i,t=>by rw[Hp,Sy];rfl
theorem Sz: ∀{l:List (List Value)} {i b:Nat} {t:W},b<i->(r2 i l t).Y b=t.Y b
  |[],_,_,_,_=>rfl
  |c::l,i,b,t,h=>by rw[Hp,Sz (by omega),b3 (by omega)]
theorem ad9: ∀{l:List (List Value)} {i j:Nat} {t:W} {c:List Value},i+l.length<=t.next->l[j]?=some c->(r2 i l t).Y (i+j)=some ⟨c,true⟩
  |[],_,_,_,_,_,h=>by simp at h
  | c::l,i,0,t,x,ax,h=>by simp at h;subst h;simp only[oX]at ax;rw[Hp,Sz (by omega)];exact eZ (by omega)
  | c::l,i,j+1,t,x,ax,h=>by simp only[oX]at ax;have:=ad9 (l:=l) (i:=i+1) (j:=j) (t:=t.a4 i (some ⟨c,true⟩)) (c:=x) (by simp;omega) (by simpa using h);rw[Hp,<-this];congr 1;omega
section
variable {P:Program}
theorem azt{f n:Nat}{args:List Value}{r:Nat->Value}{bs:Nat->List (List Value)}(ax: ∀k,(bs k).length=n)(az: ∀v∈args,G9 v=true)
    (jT:fQ P f args ir λv bO=> ∃sL:List Nat,sL.Nodup/\sL.length=n/\ ∀k,oe (λo o'=> ∃i:Nat,sL[i]?=some o/\o'=k+i) v (r k)/\ ∀(i:Nat) cs,(bs k)[i]?=some cs-> ∃o jX,sL[i]?=some o/\bO.Y o=some ⟨jX,true⟩/\pL (λo o'=> ∃i:Nat,sL[i]?=some o/\o'=k+i) jX cs) (t:W):
    fQ P f args t λv aT=>v=r t.next/\aT=r2 t.next (bs t.next) (t.du n):= λK u bQ m M aC=>by
  have O2:bj u k6 args bQ:=⟨aC.1,λi x y G ah=>(adL (g:= λ_ _=>False) (az x (hR G))).l8 (λ_ _ h=>h.elim) (aC.2 i x y G ah)⟩;obtain⟨p,af⟩: ∃p:W,p=⟨m.next,λb=>if(u b).isSome then m.iv b else none,m.mp⟩:=⟨_,rfl⟩;have ux:p.next=m.next:=by rw[af]
  have Sv:p.mp=m.mp:=by rw[af]
  have q3: ∀b,p.Y b=if(u b).isSome then m.Y b else none:= λb=>by
    rw[af];simp only[W.Y];split
    · rfl
    · split<;>rfl
  have part:u2 p m:=⟨ux,Sv,λb x G=>by
    rw[q3]at G;split at G
    · exact G
    · cases G⟩
  have O0:tC u p:= λb cs hb=>by obtain⟨w,aZ⟩:=(M.bA b cs hb).1;exact⟨w,by rw[q3,hb];exact aZ⟩
  have zh:dR k6 u ir p:=aeL O0;refine(fZ.frame part (jT k6 u bQ p zh O2)).cd λdF bd aJ=> ?_;obtain⟨lu,⟨cp,dv,v,bO,⟨sL,hW,eS,aa⟩,H,aq,aF⟩,bV⟩:=aJ;have xd:m.next<=bd.next:=bV.next
  have aHz:lu.next=bd.next:=bV.part.next
  obtain⟨ay,hb⟩:=aa t.next
  obtain⟨aV,cC⟩: ∃aV,aV=bs t.next:=⟨_,rfl⟩
  rw[<-cC]at hb⊢;have aip:aV.length=n:=by rw[cC];exact ax _
  obtain⟨fD,Jy⟩: ∃fD:eE,fD= λo=>if o<t.next then K o else match sL[o-t.next]? with|some p=>cp p|none=>none:=⟨_,rfl⟩
  have om: ∀o,o<t.next->fD o=K o:= λo h=>by rw[Jy];simp only[if_pos h]
  have jz: ∀o,¬o<t.next->fD o=match sL[o-t.next]? with|some p=>cp p|none=>none:= λo h=>by rw[Jy];simp only[if_neg h]
  have Ot: ∀i p,sL[i]?=some p->fD (t.next+i)=cp p:= λi p h=>by rw[jz _ (by omega),show t.next+i-t.next=i by omega,h]
  have aM: ∀o o',(∃i:Nat,sL[i]?=some o/\o'=t.next+i)-> ∀b,cp o=some b->fD o'=some b:= λo o' ⟨i,D,H⟩ b hb=>by rw[H,Ot i o D];exact hb
  have Ee: ∀p b,cp p=some b->m.next<=b:= λp b h=>(aF.jz p b h).elim (λh=>by cases h) (λh=>by have:=h.2;omega)
  have rC: ∀b cs,dv b=some cs->u b=some cs\/m.next<=b:= λb cs h=>by
    rcases aF.fn b cs h with h|h|⟨o,x,h,_⟩
    · exact .inl h
    · exact .inr (by omega)
    · cases h
  have adH: ∀o,¬o<t.next->K o=none:= λo h=>by
    cases bh:K o with
    |none=>rfl
    |some b=>exact absurd (M.c0 o b bh).1 h
  have Ol:fM K fD:= λo b h=>by rw[om o (M.c0 o b h).1];exact h
  have z2: ∀b,b<m.next->bd.Y b=m.Y b:= λb hb=>by
    cases aM:p.Y b with
    |none=>exact(bV.An b hb aM).1
    |some x=>rw[part.Y b x aM];exact bV.part.Y b x (by rw[aF.k3 b (by rw[ux];exact hb) λ⟨o,x,h,_⟩=>by cases h];exact aM)
  have new: ∀o b,¬o<t.next->fD o=some b-> ∃i p,o=t.next+i/\sL[i]?=some p/\cp p=some b:= λo b h bh=>by
    rw[jz o h]at bh;split at bh
    · next p af=>exact⟨o-t.next,p,by omega,af,bh⟩
    · cases bh
  have bX: ∀o,o<t.next->(r2 t.next aV (t.du n)).Y o=t.Y o:= λo h=>by rw[Sz h,e9 h]
  have CS:(r2 t.next aV (t.du n)).next=t.next+n:=by rw[aea];rfl
  have Wh: ∀o x,¬o<t.next->(r2 t.next aV (t.du n)).Y o=some x-> ∃i cs,o=t.next+i/\aV[i]?=some cs/\x=⟨cs,true⟩:= λo x h G=>by
    have D:=bm G;rw[CS]at D;have ai:o-t.next<aV.length:=by omega
    have H:=ad9 (i:=t.next) (j:=o-t.next) (t:=t.du n) (l:=aV) (c:=aV[o-t.next]) (by rw[aip];simp[W.du]) (dx ai);rw[show t.next+(o-t.next)=o by omega,G]at H;exact⟨o-t.next,_,by omega,dx ai,by cases H;rfl⟩
  refine⟨fD,dv,_,_,⟨rfl,rfl⟩,?_,ay.l8 aM aq,?_⟩
  · refine⟨λo x G=> ?_,λo a9 bh=> ?_,λo aD=> ?_,λo o' b h bK=> ?_,λo b h=> ?_,λb cs h=>⟨by obtain⟨w,aZ⟩:=(H.bA b cs h).1;exact⟨w,bV.part.Y b _ aZ⟩,λo x bR G=> ?_⟩⟩
    · by_cases aD:o<t.next
      · rw[bX o aD]at G;rcases M.hO o x G with⟨b,cs,w,bw,bJ,cc,eI⟩|⟨bw,bJ⟩
        · exact .inl ⟨b,cs,w,by rw[om o aD];exact bw,by rw[z2 b (M.c0 o b bw).2];exact bJ,cc,eI.cd aF.f Ol⟩
        · exact .inr ⟨by rw[om o aD];exact bw,bJ⟩
      · obtain⟨i,cs,rfl,j0,rfl⟩:=Wh o x aD G;obtain⟨p,jX,a7,bD,b4⟩:=hb i cs j0;rcases H.hO p _ bD with⟨b,ds,w,bw,bJ,cc,eI⟩|⟨bw,bJ⟩
        · exact .inl ⟨b,ds,w,by rw[Ot i p a7];exact bw,bV.part.Y b _ bJ,λ_=>cc rfl,b4.l8 aM eI⟩
        · refine .inr ⟨by rw[Ot i p a7];exact bw,?_⟩;simp only at bJ;subst bJ;exact AR b4.1.symm
    · obtain⟨bN,cI⟩:=h2 bh;rw[Sy]at cI;by_cases aD:o<t.next
      · rw[bX o aD]at bN;obtain⟨b,c2,bw,bJ,cc⟩:=M.maps o a9 (jJ bN cI);obtain⟨gZ,gM⟩:=h2 bJ;have Bs:=(M.c0 o b bw).2;refine⟨b,c2,by rw[om o aD];exact bw,?_,cc.cd aF.f Ol⟩;have nS:u b=none:=by
          cases dn:u b with
          |none=>rfl
          |some cs=>have:=(M.bA b cs dn).2 o _ bw bN;cases this
        exact jJ (by rw[z2 b Bs];exact gZ) (by rw[(bV.An b Bs (by rw[q3,nS];rfl)).2.2];exact gM)
      · have:=M.h4 o (adH o aD);rw[show(t.du n).mp=t.mp from rfl,this]at cI;cases cI
    · rw[Sy];by_cases h:o<t.next
      · exact M.h4 o (by rw[<-om o h];exact aD)
      · exact M.h4 o (adH o h)
    · by_cases bN:o<t.next
      · rw[om o bN]at h;by_cases cI:o'<t.next
        · rw[om o' cI]at bK;exact M.inj o o' b h bK
        · obtain⟨i,p,_,_,e⟩:=new o' b cI bK;have:=Ee p b e;have:=(M.c0 o b h).2;omega
      · obtain⟨i,p,aL,aU,cz⟩:=new o b bN h;by_cases cI:o'<t.next
        · rw[om o' cI]at bK;have:=Ee p b cz;have:=(M.c0 o' b bK).2;omega
        · obtain⟨db,lu,da,dq,hy⟩:=new o' b cI bK;have ajt:=H.inj p lu b cz hy;subst ajt;have ai:=(ek.1 aU).1;obtain⟨hE,a8⟩:=ek.1 dq;have aQ:=(ek.1 aU).2;have:i=db:=by
            rcases Nat.lt_trichotomy i db with q|q|q
            · exact absurd (aQ.trans a8.symm) (Im.1 hW i db ai hE q)
            · exact q
            · exact absurd (a8.trans aQ.symm) (Im.1 hW db i hE ai q)
          omega
    · rw[CS];by_cases bN:o<t.next
      · rw[om o bN]at h;have:=M.c0 o b h;exact⟨by omega,by omega⟩
      · obtain⟨i,p,aL,aU,cz⟩:=new o b bN h;have:=(ek.1 aU).1;exact⟨by omega,by have:=(H.c0 p b cz).2;omega⟩
    · by_cases bN:o<t.next
      · rw[om o bN]at bR;rw[bX o bN]at G;rcases rC b cs h with h|h
        · exact(M.bA b cs h).2 o x bR G
        · have:=(M.c0 o b bR).2;omega
      · obtain⟨i,p,aL,aU,cz⟩:=new o b bN bR;obtain⟨db,c,da,dq,hy⟩:=Wh o x bN G;have:db=i:=(by omega);subst this;obtain⟨lu,jX,a7,bD,b4⟩:=hb db c dq;rw[aU]at a7;cases a7;have:=(H.bA b cs h).2 p _ cz bD;cases this
  · refine⟨Ol,aF.f,λo b h=> ?_,λb cs h=>(rC b cs h).elim .inl λh=> .inr (.inl h),by rw[CS];omega,xd,λb hb _=>z2 b hb,λb hb ⟨o,x,a7,bD,b4⟩=> ?_,λb hb ⟨o,x,a7,bD⟩=> ?_⟩
    · by_cases bN:o<t.next
      · rw[om o bN]at h;exact .inl h
      · obtain⟨i,p,aL,aU,cz⟩:=new o b bN h;exact .inr ⟨by omega,Ee p b cz⟩
    · by_cases bN:o<t.next
      · rw[om o bN]at a7;rw[bX o bN]at bD;exact⟨o,x,a7,bD,b4⟩
      · obtain⟨i,p,aL,aU,cz⟩:=new o b bN a7;have:=Ee p b cz;omega
    · by_cases bN:o<t.next
      · rw[om o bN]at a7;rw[bX o bN]at bD;exact⟨o,x,a7,bD⟩
      · obtain⟨i,p,aL,aU,cz⟩:=new o b bN a7;have:=Ee p b cz;omega
end
section
variable {P:Program}
abbrev e6(o n J:Nat):Value:= .slice (some ⟨o,0,none⟩) n J
theorem azu{f n J:Nat}{args cells:List Value}(az: ∀v∈args,G9 v=true)(ar: ∀v∈cells,gP v=true)
    (jT:fQ P f args ir λv bO=> ∃o,v=e6 o n J/\bO.Y o=some ⟨cells,true⟩) (t:W):fQ P f args t λv aT=>v=e6 t.next n J/\aT=(t.du 1).a4 t.next (some ⟨cells,true⟩):=
  azt (r:= λk=>e6 k n J) (bs:= λ_=>[cells]) (n:=1) (λ_=>rfl) az (jT.cd λv bO ⟨o,ab,aM⟩=>⟨[o],by simp,rfl,λk=>⟨by
    rw[ab];exact .slice ⟨0,rfl,rfl⟩,λi cs j0=>by
      cases i with
      |zero=>simp at j0;subst j0;exact⟨o,cells,rfl,aM,pL.cells ar⟩
      |succ i=>simp at j0⟩⟩) t
theorem ayP{f n J:Nat}{args:List Value}{bg:List (List Value)}(ax:n=bg.length)(ay: ∀r∈bg,r.length=J/\ ∀v∈r,gP v=true)
    (jT:fQ P f args ir λv bO=> ∃o,v=e6 o n J/\bO.Y o=some ⟨bg.flatten,true⟩):bH P f args (au bg J):=
  ed (jT.cd λv t ⟨o,ab,aM⟩=>by rw[ab];exact sx (n:=8) aM ax ay)
open Classical in
noncomputable def j9.OF(f:Nat)(ef:Type)(bP:ef->Prop)(enc:ef->List Value)(n J:ef->Nat)(cells:ef->List Value)
    (ok: ∀x,bP x-> ∀t,fQ P f (enc x) t λv aT=>v=e6 t.next (n x) (J x)/\aT=(t.du 1).a4 t.next (some ⟨cells x,true⟩)):j9 P:=
  ⟨f,λargs t=>if h: ∃x,bP x/\enc x=args then some (e6 t.next (n h.choose) (J h.choose),(t.du 1).a4 t.next (some ⟨cells h.choose,true⟩))else none,λargs t r aT h cg j1=>by
    split at h
    · next G=>cases h;have:=ok _ G.choose_spec.1 t;rw[G.choose_spec.2]at this;exact this.cd λv aT ⟨a,b⟩=>by rw[a,b];exact j1
    · cases h⟩
theorem j9.ah8{f:Nat}{ef:Type}{bP:ef->Prop}{enc:ef->List Value}{n J:ef->Nat}{cells:ef->List Value}{ok: ∀x,bP x-> ∀t,fQ P f (enc x) t λv aT=>v=e6 t.next (n x) (J x)/\aT=(t.du 1).a4 t.next (some ⟨cells x,true⟩)}{x:ef}{t:W}(af:bP x)(ai: ∀y,enc y=enc x->y=x):
    (j9.OF (P:=P) f ef bP enc n J cells ok).fn (enc x) t=some (e6 t.next (n x) (J x),(t.du 1).a4 t.next (some ⟨cells x,true⟩)):=by
  have hh: ∃y,bP y/\enc y=enc x:=⟨x,af,rfl⟩;simp only[j9.OF,dif_pos hh];rw[ai _ hh.choose_spec.2]
end
def kL{c7:Type}(n:Nat)(f:Nat->c7):List c7:=(List.range n).map f
section
variable {c7 lM:Type} {n i:Nat} {f g:Nat->c7}
@[simp] theorem awU:(kL n f).length=n:=by simp[kL]
theorem x4(h:i<n):(kL n f)[i]?=some (f i):=by simp[kL,h]
theorem x3(h: ∀j,j<n->f j=g j):kL n f=kL n g:=by unfold kL;exact yu λj bx=>h j (ob.1 bx)
theorem aes{x:c7}:(kL n f).set i x=kL n (λj=>if j=i then x else f j):=by
  apply DA;intro j;rw[yw];by_cases bx:j<n
  · by_cases e:i=j
    · subst e;rw[if_pos rfl,if_pos (by simpa using bx),x4 bx,if_pos rfl]
    · rw[if_neg e,x4 bx,x4 bx,if_neg λh=>e h.symm]
  · have D: ∀(k:Nat->c7),(kL n k)[j]?=none:= λk=>rm (by simp;omega);rw[D,D];split
    · rw[if_neg (by simp;omega)]
    · rfl
theorem SK{h:c7->lM}:(kL n f).map h=kL n λj=>h (f j):=by simp[kL]
theorem aer{x:c7}:List.replicate n x=kL n λ_=>x:=by
  apply DA;intro j;by_cases bx:j<n
  · rw[x4 bx];simp[bx]
  · rw[rm (by simp;omega),rm (by simp;omega)]
theorem awV:kL (n+1) f=kL n f++[f n]:=by simp[kL,List.range_succ]
end
section
variable {P:Program}
open Classical in
theorem Ua{f:Nat}{args cs jX:List Value}{r:Value}(cZ:cs≠[])(aje:jX≠[])(j0: ∀v∈cs,gP v=true)(aiJ: ∀v∈jX,gP v=true)(az: ∀v∈args,G9 v=true)
    (jT:fQ P f (.pointer (some ⟨0,0,none⟩)::args) ((ir.du 1).a4 0 (some ⟨cs,true⟩)) λv bO=>dZ 9 bO v=some r/\bO.Y 0=some ⟨jX,true⟩/\0∉ei 9 bO v) {t:W} {o:Nat} (aD:t.Y o=some ⟨cs,true⟩):
    fQ P f (.pointer (some ⟨o,0,none⟩)::args) t λv aT=>v=r/\aT=t.a4 o (some ⟨jX,true⟩):= λK u bQ m M aC=>by
  obtain⟨b,ds,afr,bR,rN,ajn,WN⟩: ∃b ds w,K o=some b/\m.Y b=some ⟨ds,w⟩/\(true=true->w=true)/\bj u K cs ds:=by
    rcases M.hO o _ aD with⟨b,ds,w,bw,bJ,cc,eI⟩|⟨_,bJ⟩
    · exact⟨b,ds,w,bw,bJ,cc,eI⟩
    · exact absurd bJ cZ
  have ajL:=ajn rfl;subst ajL;have nS:u b=none:=by
    cases dn:u b with
    |none=>rfl
    |some c=>have:=(M.bA b c dn).2 o _ bR aD;cases this
  obtain⟨p,af⟩: ∃p:W,p=⟨m.next,λq=>if(u q).isSome\/q=b then m.iv q else none,m.mp⟩:=⟨_,rfl⟩;have ux:p.next=m.next:=by rw[af]
  have q3: ∀q,p.Y q=if(u q).isSome\/q=b then m.Y q else none:= λq=>by
    rw[af];simp only[W.Y];split
    · rfl
    · split<;>rfl
  have part:u2 p m:=⟨ux,by rw[af],λq x G=>by
    rw[q3]at G;split at G
    · exact G
    · cases G⟩
  obtain⟨yB,Wl⟩: ∃yB:eE,yB= λq=>if q=0 then some b else none:=⟨_,rfl⟩
  have Oh:yB 0=some b:=by rw[Wl];rfl
  have h1: ∀q c,yB q=some c->q=0/\c=b:= λq c h=>by
    rw[Wl]at h;simp only at h;split at h
    · next e=>cases h;exact⟨e,rfl⟩
    · cases h
  have JD:=bm rN;have ayD:((ir.du 1).a4 0 (some (fm.mk cs true))).Y 0=some ⟨cs,true⟩:=eZ (by simp[ir]);have ae1: ∀q x,((ir.du 1).a4 0 (some (fm.mk cs true))).Y q=some x->q=0/\x=⟨cs,true⟩:= λq x G=>by have:=bm G;simp[ir]at this;subst this;rw[ayD]at G;cases G;exact⟨rfl,rfl⟩
  have Vg: ∀{cp fD:eE} {dv:fE} {l k:List Value},(∀v∈l,gP v=true)->bj dv cp l k->bj dv fD l k:= λ{cp fD dv l k} ar h=>(pL.cells (g:= λ_ _=>False) ar).l8 (λ_ _ h=>h.elim) h;have zh:dR yB u ((ir.du 1).a4 0 (some ⟨cs,true⟩)) p:=by
    refine⟨λq x G=> ?_,λq a9 bh=> ?_,λq _=>rfl,λq MC c h bK=>by rw[(h1 q c h).1,(h1 MC c bK).1],λq c h=> ?_,λc fx h=>⟨?_,λq x bf G=> ?_⟩⟩
    · obtain⟨rfl,rfl⟩:=ae1 q x G;exact .inl ⟨b,ds,true,Oh,by rw[q3,if_pos (.inr rfl)];exact rN,λ_=>rfl,Vg j0 WN⟩
    · obtain⟨_,e⟩:=ae1 q _ (h2 bh).1;simp only[fm.mk.injEq,and_true]at e;exact absurd e.symm cZ
    · obtain⟨rfl,rfl⟩:=h1 q c h;exact⟨by simp[ir],by rw[ux];exact JD⟩
    · obtain⟨w,aZ⟩:=(M.bA c fx h).1;exact⟨w,by rw[q3,if_pos (.inl (by rw[h];rfl))];exact aZ⟩
    · obtain⟨rfl,rfl⟩:=h1 q c bf;rw[nS]at h;cases h
  have O2:bj u yB (.pointer (some ⟨0,0,none⟩)::args) bQ:=by
    cases bQ with
    |nil=>have:=aC.1;simp at this
    | cons a A6=>have D:=aC.2 0 _ a rfl rfl;obtain⟨c,eB,_,rfl⟩:=D.p7;simp only at eB;rw[bR]at eB;cases eB;refine bj.cons (.cD Oh) ⟨by simpa using aC.1,λi x y G ah=> ?_⟩;exact(adL (g:= λ_ _=>False) (az x (hR G))).l8 (λ_ _ h=>h.elim) (aC.2 (i+1) x y (by simpa using G) (by simpa using ah))
  refine(fZ.frame part (jT yB u bQ p zh O2)).cd λdF bd aJ=> ?_;obtain⟨lu,⟨cp,dv,v,bO,⟨ay,sE,ajy⟩,H,aq,aF⟩,bV⟩:=aJ;have xd:m.next<=bd.next:=bV.next
  have Jf:cp 0=some b:=aF.e 0 b Oh;have rC: ∀c fx,dv c=some fx->u c=some fx\/m.next<=c:= λc fx h=>by
    rcases aF.fn c fx h with br|br|⟨q,x,br,_⟩
    · exact .inl br
    · exact .inr (by omega)
    · obtain⟨rfl,rfl⟩:=h1 q c br;have:=(H.bA _ fx h).2 0 _ Jf sE;cases this
  have ahF: ∀q c,cp q=some c->c=b\/m.next<=c:= λq c h=>by
    rcases aF.jz q c h with br|br
    · exact .inl (h1 q c br).2
    · exact .inr (by have:=br.2;omega)
  have z2: ∀c,c<m.next->c≠b->bd.Y c=m.Y c:= λc ar w7=>by
    cases aM:p.Y c with
    |none=>exact(bV.An c ar aM).1
    | some x=>rw[part.Y c x aM];refine bV.part.Y c x ?_;rw[aF.k3 c (by rw[ux];exact ar) λ⟨q,x,br,_⟩=>w7 (h1 q c br).2];exact aM
  obtain⟨iC,OX⟩: ∃iC:fE,iC= λc=>match dv c with
    |some fx=>some fx
    |none=>if c≠b/\ ∃q,cp q=some c then(lu.Y c).map (·.cells)else none:=⟨_,rfl⟩
  have Ox:gW dv iC:= λc fx h=>by rw[OX];simp only[h]
  have dq: ∀c fx,iC c=some fx->dv c=some fx\/(m.next<=c/\ ∃w,lu.Y c=some ⟨fx,w⟩):= λc fx h=>by
    rw[OX]at h;simp only at h;split at h
    · next br=>cases h;exact .inl br
    · split at h
      · next br=>
        obtain⟨w7,q,bf⟩:=br;right;refine⟨(ahF q c bf).resolve_left w7,?_⟩;cases aM:lu.Y c with
        |none=>rw[aM]at h;cases h
        |some x=>rw[aM]at h;cases h;exact⟨x.own,rfl⟩
      · cases h
  have azf:bW iC k6 r dF:=Em H Ox 9 aq ay λq bf fi c fx w W0 aM=>by
    rw[OX];simp only;cases OZ:dv c with
    |some pU=>obtain⟨⟨cT,ns⟩,_⟩:=H.bA c pU OZ;rw[aM]at ns;cases ns;rfl
    | none=>
      have w7:c≠b:= λe=>by subst e;have:=H.inj q 0 c W0 Jf;subst this;exact ajy bf
      simp only;rw[if_pos ⟨w7,q,W0⟩,aM];rfl
  obtain⟨yH,cX,pg,WO⟩: ∃yH cX,lu.Y b=some ⟨yH,cX⟩/\(cX=true/\bj dv cp jX yH):=by
    rcases H.hO 0 _ sE with⟨c,d,w,bw,bJ,cc,eI⟩|⟨bw,_⟩
    · rw[Jf]at bw;cases bw;exact⟨d,w,bJ,cc rfl,eI⟩
    · rw[Jf]at bw;cases bw
  have ct:=bm aD;have a8: ∀q,q≠o->(t.a4 o (some ⟨jX,true⟩)).Y q=t.Y q:= λq h=>b3 h;have Wb:(t.a4 o (some (fm.mk jX true))).Y o=some ⟨jX,true⟩:=eZ ct;have Mq: ∀q c,K q=some c->q≠o->c≠b:= λq c h bf e=>bf (M.inj q o b (e▸h) bR);have Oy:gW u iC:=aF.f.trans Ox;refine⟨K,iC,_,_,⟨rfl,rfl⟩,?_,azf.cd (gW.refl _) (fM.nil _),?_⟩
  · refine⟨λq x G=> ?_,λq a9 bh=> ?_,M.h4,M.inj,λq c h=>⟨(M.c0 q c h).1,by have:=(M.c0 q c h).2;omega⟩,λc fx h=>⟨?_,λq x bf G=> ?_⟩⟩
    · by_cases bf:q=o
      · subst bf;rw[Wb]at G;cases G;exact .inl ⟨b,yH,cX,bR,bV.part.Y b _ pg,λ_=>WO.1,(Vg aiJ WO.2).cd Ox (fM.refl _)⟩
      · rw[a8 q bf]at G;rcases M.hO q x G with⟨c,d,w,bw,bJ,cc,eI⟩|bw
        · exact .inl ⟨c,d,w,bw,by rw[z2 c (M.c0 q c bw).2 (Mq q c bw bf)];exact bJ,cc,eI.cd Oy (fM.refl _)⟩
        · exact .inr bw
    · obtain⟨bN,cI⟩:=h2 bh;by_cases bf:q=o
      · subst bf;rw[Wb]at bN;simp only[lL,fm.mk.injEq,and_true]at bN;exact absurd bN aje
      · rw[a8 q bf]at bN;obtain⟨c,c2,bw,bJ,cc⟩:=M.maps q a9 (jJ bN cI);obtain⟨gZ,gM⟩:=h2 bJ;have b5:=(M.c0 q c bw).2;have w7:=Mq q c bw bf;have OZ:u c=none:=by
          cases dn:u c with
          |none=>rfl
          |some d=>have:=(M.bA c d dn).2 q _ bw bN;cases this
        refine⟨c,c2,bw,?_,cc.cd Oy (fM.refl _)⟩;exact jJ (by rw[z2 c b5 w7];exact gZ) (by rw[(bV.An c b5 (by rw[q3,OZ,if_neg (by simp[w7])])).2.2];exact gM)
    · rcases dq c fx h with br|⟨br,w,cR⟩
      · obtain⟨w,aZ⟩:=(H.bA c fx br).1;exact⟨w,bV.part.Y c _ aZ⟩
      · exact⟨w,bV.part.Y c _ cR⟩
    · have ee:=(M.c0 q c bf).2;have dn:u c=some fx:=by
        rcases dq c fx h with br|⟨br,_⟩
        · exact(rC c fx br).resolve_right (by omega)
        · omega
      by_cases xf:q=o
      · subst xf;rw[bR]at bf;cases bf;rw[nS]at dn;cases dn
      · rw[a8 q xf]at G;exact(M.bA c fx dn).2 q x bf G
  · refine⟨fM.refl _,Oy,λ_ _ h=> .inl h,λc fx h=> ?_,ev _,xd,λc ar aZ=> ?_,λc ar ⟨q,x,a7,bD,b4⟩=> ?_,λc ar ⟨q,x,a7,bD⟩=> ?_⟩
    · rcases dq c fx h with br|⟨br,_⟩
      · rcases rC c fx br with cR|cR
        · exact .inl cR
        · exact .inr (.inl cR)
      · exact .inr (.inl br)
    · exact z2 c ar λe=>aZ ⟨o,_,e▸bR,aD,rfl⟩
    · by_cases xf:q=o
      · subst xf;exact⟨q,_,a7,aD,rfl⟩
      · rw[a8 q xf]at bD;exact⟨q,x,a7,bD,b4⟩
    · by_cases xf:q=o
      · subst xf;exact⟨q,_,a7,aD⟩
      · rw[a8 q xf]at bD;exact⟨q,x,a7,bD⟩
end
open Go
section
variable {P:Program} {t m an:W} {K:eE} {u:fE}
theorem aym(M:dR K u t m){q:Nat}{cs:List Value}(bf:m.next<=q)(aju:q<an.next)(aM:an.Y q=some ⟨cs,true⟩)(ax:m.next<=an.next)(aa: ∀b,b<m.next->an.Y b=m.Y b/\an.mp b=m.mp b)(fy:cs.all dO=true):
    dR (gO K t.next q) u ((t.du 1).a4 t.next (some ⟨cs,true⟩)) an/\eF t.next m.next K u t m (gO K t.next q) u ((t.du 1).a4 t.next (some ⟨cs,true⟩)) an:=by
  have bR:K t.next=none:=by
    cases bh:K t.next with
    |none=>rfl
    |some b=>have:=(M.c0 _ _ bh).1;omega
  have yV: ∀{o b:Nat},gO K t.next q o=some b->(o=t.next/\b=q)\/(o≠t.next/\K o=some b):= λ{o b} h=>by
    simp only[gO]at h;split at h
    · next e=>cases h;exact .inl ⟨e,rfl⟩
    · next e=>exact .inr ⟨e,h⟩
  have rP: ∀{o:Nat},o≠t.next->((t.du 1).a4 t.next (some ⟨cs,true⟩)).Y o=t.Y o:= λaD=>by rw[b3 aD,W.e9]
  have aiT: ∀{b:Nat} {a9:List (Value×Value)},b<m.next->m.eJ b=some a9->an.eJ b=some a9:= λ{b a9} hb bh=>by obtain⟨aL,aU⟩:=h2 bh;exact jJ (by rw[(aa b hb).1,aL]) (by rw[(aa b hb).2,aU])
  refine⟨⟨λo x G=> ?_,λo a9 bh=> ?_,λo h=> ?_,λo o' b h bK=> ?_,λo b h=> ?_,λb ds h=> ?_⟩,⟨fM.set bR,gW.refl _,λo b h=> ?_,λb ds h=> .inl h,by simp,ax,λb hb _=>(aa b hb).1,λb hb=> λ⟨o,y,h,bK,qL⟩=> ?_,λb hb=> λ⟨o,y,h,bK⟩=> ?_⟩⟩
  · by_cases aD:o=t.next
    · subst aD;rw[eZ (by simp)]at G;cases G;exact .inl ⟨q,cs,true,by simp[gO],aM,λ_=>rfl,bj.cv fy⟩
    · rw[rP aD]at G;rcases M.hO o x G with⟨b,ds,w,D,H,aq,aF⟩|⟨D,H⟩
      · exact .inl ⟨b,ds,w,by simp[gO,aD,D],by rw[(aa b (M.c0 o b D).2).1,H],aq,aF.cd (gW.refl _) (fM.set bR)⟩
      · exact .inr ⟨by simp[gO,aD,D],H⟩
  · by_cases aD:o=t.next
    · subst aD;have:=(h2 bh).2;rw[show((t.du 1).a4 t.next (some ⟨cs,true⟩)).mp=t.mp from rfl,M.h4 _ bR]at this;cases this
    · rw[sy aD]at bh;obtain⟨aL,aU⟩:=h2 bh;rw[W.e9]at aL;obtain⟨b,c2,D,H,aq⟩:=M.maps o a9 (jJ aL aU);exact⟨b,c2,by simp[gO,aD,D],aiT (M.c0 o b D).2 H,aq.cd (gW.refl _) (fM.set bR)⟩
  · simp only[gO]at h;split at h
    · cases h
    · exact M.h4 o h
  · rcases yV h with⟨bw,bJ⟩|⟨bw,bJ⟩<;>rcases yV bK with⟨bN,cI⟩|⟨bN,cI⟩
    · rw[bw,bN]
    · have:=(M.c0 _ _ cI).2;omega
    · have:=(M.c0 _ _ bJ).2;omega
    · exact M.inj o o' b bJ cI
  · rcases yV h with⟨bw,bJ⟩|⟨bw,bJ⟩
    · subst bw;subst bJ;exact⟨by simp,aju⟩
    · have:=M.c0 o b bJ;simp only[l5,xU];omega
  · obtain⟨⟨w,D⟩,H⟩:=M.bA b ds h;have hb:=bm D;refine⟨⟨w,by rw[(aa b hb).1,D]⟩,λo x aD G=> ?_⟩;rcases yV aD with⟨bw,bJ⟩|⟨bw,bJ⟩
    · omega
    · rw[rP bw]at G;exact H o x bJ G
  · rcases yV h with⟨bw,bJ⟩|⟨bw,bJ⟩
    · exact .inr (by omega)
    · exact .inl bJ
  · rcases yV h with⟨bw,bJ⟩|⟨bw,bJ⟩
    · omega
    · exact⟨o,y,bJ,by rw[rP bw]at bK;exact bK,qL⟩
  · rcases yV h with⟨bw,bJ⟩|⟨bw,bJ⟩
    · omega
    · exact⟨o,y,bJ,by rw[rP bw]at bK;exact bK⟩
theorem ayn(M:dR K u t m)(ax:m.next<=an.next)(aa: ∀b,b<m.next->an.Y b=m.Y b/\an.mp b=m.mp b):
    dR K u ((t.du 1).a4 t.next (some ⟨[],true⟩)) an/\eF t.next m.next K u t m K u ((t.du 1).a4 t.next (some ⟨[],true⟩)) an:=by
  have bR:K t.next=none:=by
    cases bh:K t.next with
    |none=>rfl
    |some b=>have:=(M.c0 _ _ bh).1;omega
  have cZ: ∀{o b:Nat},K o=some b->o≠t.next:= λh e=>by subst e;rw[bR]at h;cases h
  have rP: ∀{o:Nat},o≠t.next->((t.du 1).a4 t.next (some ⟨[],true⟩)).Y o=t.Y o:= λaD=>by rw[b3 aD,W.e9]
  refine⟨⟨λo x G=> ?_,λo a9 bh=> ?_,M.h4,M.inj,λo b h=> ?_,λb ds h=> ?_⟩,⟨fM.refl _,gW.refl _,λo b h=> .inl h,λb ds h=> .inl h,by simp,ax,λb hb _=>(aa b hb).1,λb hb=> λ⟨o,y,h,bK,qL⟩=> ?_,λb hb=> λ⟨o,y,h,bK⟩=> ?_⟩⟩
  · by_cases aD:o=t.next
    · subst aD;rw[eZ (by simp)]at G;cases G;exact .inr ⟨bR,rfl⟩
    · rw[rP aD]at G;rcases M.hO o x G with⟨b,ds,w,D,H,aq,aF⟩|D
      · exact .inl ⟨b,ds,w,D,by rw[(aa b (M.c0 o b D).2).1,H],aq,aF⟩
      · exact .inr D
  · by_cases aD:o=t.next
    · subst aD;have:=(h2 bh).2;rw[show((t.du 1).a4 t.next (some ⟨[],true⟩)).mp=t.mp from rfl,M.h4 _ bR]at this;cases this
    · rw[sy aD]at bh;obtain⟨aL,aU⟩:=h2 bh;rw[W.e9]at aL;obtain⟨b,c2,D,H,aq⟩:=M.maps o a9 (jJ aL aU);obtain⟨eB,hk⟩:=h2 H;have hb:=(M.c0 o b D).2;exact⟨b,c2,D,jJ (by rw[(aa b hb).1,eB]) (by rw[(aa b hb).2,hk]),aq⟩
  · have:=M.c0 o b h;simp only[l5,xU];omega
  · obtain⟨⟨w,D⟩,H⟩:=M.bA b ds h;refine⟨⟨w,by rw[(aa b (bm D)).1,D]⟩,λo x aD G=> ?_⟩;rw[rP (cZ aD)]at G;exact H o x aD G
  · exact⟨o,y,h,by rw[rP (cZ h)]at bK;exact bK,qL⟩
  · exact⟨o,y,h,by rw[rP (cZ h)]at bK;exact bK⟩
theorem azv{f n J:Nat}{args cs:List Value}(fy:cs.all dO=true)
    (jT: ∀(K:eE) (u:fE) (e1:List Value) (m:W),dR K u t m->bj u K args e1->fZ P f e1 m λr an=>m.next<=an.next/\(∀b,b<m.next->an.Y b=m.Y b/\an.mp b=m.mp b)/\
      ((n=0/\cs=[]/\r= .slice none 0 0)\/ ∃q,m.next<=q/\q<an.next/\r= .slice (some ⟨q,0,none⟩) n J/\an.Y q=some ⟨cs,true⟩)):
    fQ P f args t λv aT=>v=e6 t.next n J/\aT=(t.du 1).a4 t.next (some ⟨cs,true⟩):= λK u e1 m M az=>by
  refine(jT K u e1 m M az).cd λr an aJ=> ?_;obtain⟨D,H,⟨aq,aF,br⟩|⟨q,aq,aF,br,cR⟩⟩:=aJ
  · subst aq;subst aF;subst br;obtain⟨aQ,a8⟩:=ayn M D H;exact⟨K,u,_,_,⟨rfl,rfl⟩,aQ,.oS,a8⟩
  · obtain⟨aQ,a8⟩:=aym M aq aF cR D H fy;exact⟨_,u,_,_,⟨rfl,rfl⟩,aQ,by rw[br];exact .slice (by simp[gO]),a8⟩
end
end Go.DI
namespace Go.Proofs.YtmmkkggfmigppaaGreat
open Go Go.DI
abbrev cD(b:Nat):Value:= .pointer (some ⟨b,0,none⟩)
abbrev Z(n:Int):Value:= .int .i64 n
abbrev eN(n:Int):Value:= .int .u32 n
structure Iy(m an:W):Prop where
  next:m.next<=an.next
  Y: ∀b,b<m.next->an.Y b=m.Y b
theorem Iy.refl(m:W):Iy m m:=⟨ev _,λ_ _=>rfl⟩
theorem JJ{l:List Value}{k:Nat}:(List.take 1 (List.drop k l)).head?=l[k]?:=by
  cases h:l.drop k with
  |nil=>rw[List.drop_eq_nil_iff]at h;rw[rm h];rfl
  |cons x xs=>simp;rw[<-List.head?_drop,h];rfl
def nW(n:Int):Bool:=(decide (97<=n)&&decide (n<=122))||(decide (65<=n)&&decide (n<=90))
def sR(n:Int):Bool:=decide (48<=n)&&decide (n<=57)
def lG(n:Int):Bool:=nW n||sR n||decide (n=45)||decide (n=46)
def q8(p:Int->Bool)(T:ByteArray):Nat->Nat->Nat
  |0,_=>0
  |n+1,i=>if p (rr T i)=true then q8 p T n (i+1)+1 else 0
def eG(T:ByteArray):Prop:=0<T.size/\T.size<=16/\nW (rr T 0)=true/\q8 lG T T.size 0=T.size
open Classical in
noncomputable def m3(T:ByteArray):Bool:=decide (eG T)
theorem Aj{T:ByteArray}(h:eG T):m3 T=true:=by simp[m3,h]
theorem xW{T:ByteArray}(h: ¬eG T):m3 T=false:=by simp[m3,h]
theorem VJ{T:ByteArray}(h:T.size=0):T=⟨#[]⟩:=by apply ByteArray.ext;exact Array.eq_empty_of_size_eq_zero h
theorem z4(n:Int)(m:W)(cg:Value->W->Prop):fZ al 231 [.int .u8 n] m cg=cg (.bool (nW n)) m:=by refine(qz.xY ?_).wp;rw[ag6 (by simp)];by_cases D:97<=n<;>by_cases H:n<=122<;>by_cases aq:65<=n<;>by_cases aF:n<=90<;>simp(disch:=first|omega|simp only[aE];omega) [QS,aay,nW,D,H,aq,aF]
theorem Je(n:Int)(m:W)(cg:Value->W->Prop):fZ al 255 [.int .u8 n] m cg=cg (.bool (sR n)) m:=by refine(qz.xY ?_).wp;rw[aha (by simp)];by_cases D:48<=n<;>by_cases H:n<=57<;>simp(disch:=first|omega|simp only[aE];omega) [QZ,abb,sR,D,H]
theorem Xs(n:Int)(m:W)(cg:Value->W->Prop):fZ al 232 [.int .u8 n] m cg=cg (.bool (lG n)) m:=by
  refine(qz.xY ?_).wp;rw[ag7 (by simp)];by_cases D:nW n=true
  · simp(disch:=first|omega|simp only[aE];omega) [zw,B7,z4,lG,D]
  by_cases H:sR n=true
  · simp(disch:=first|omega|simp only[aE];omega) [zw,B7,z4,Je,lG,D,H]
  by_cases aq:n=45
  · subst aq;simp(disch:=first|omega|simp only[aE];omega) [zw,B7,z4,Je,lG,nW,sR]
  by_cases aF:n=46
  · subst aF;simp(disch:=first|omega|simp only[aE];omega) [zw,B7,z4,Je,lG,nW,sR]
  simp(disch:=first|omega|simp only[aE];omega) [zw,B7,z4,Je,lG,D,H,aq,aF]
theorem adI{T:ByteArray}(df:T.size<=16){Q:dy->aP->W->Prop}: ∀(r i:Nat) (m:W) (z:aP),i+r=T.size->z 0= .string T->z 3=Z i->
    (q8 lG T r i=r-> ∀aj,Q (.ba 0) aj m)->(q8 lG T r i≠r-> ∀aj,aj 2= .bool false->Q .aG aj m)->hD al (.loop FW) z m Q
  | 0,i,m,z,ai,c9,eP,a7,bD=>by refine Dt λcK bk=> ?_;have: ¬(i:Int)<T.size:=(by omega);simp(disch:=first|omega|simp only[aE];omega) [FW,Ko,qZ,c9,eP,this];exact a7 rfl _
  | r+1,i,m,z,ai,c9,eP,a7,bD=>by
    refine Dt λcK bk=> ?_;have D:(i:Int)<T.size:=(by omega);have cX:=gT (n:=i) (by omega);by_cases hb:lG (rr T i)=true
    · simp(disch:=first|omega|simp only[aE];omega) [FW,Ko,qZ,Xs,c9,eP,D,hb,cX];refine bk _ _ (adI df r (i+1) _ _ (by omega) (by simp[c9]) (by simp) (λh=>a7 (by simp[q8,hb,h])) (λh=>bD (by simp[q8,hb];exact h)))
    · have ft:lG (rr T i)=false:=(by simpa using hb);simp(disch:=first|omega|simp only[aE];omega) [FW,Ko,qZ,Xs,c9,eP,D,ft];exact bD (by simp[q8,ft]) _ (by simp)
theorem avG(T:ByteArray)(m:W)(cg:Value->W->Prop):fZ al 179 [.string T] m cg=cg (.bool (m3 T)) m:=by
  refine(qz.xY ?_).wp;rw[ag4 (by simp)];by_cases c5:T.size=0
  · have e:=VJ c5;have Ju:(T.size:Int)<1:=(by omega);have ax: ¬eG T:= λh=>by have:=h.1;omega
    simp(disch:=first|omega|simp only[aE];omega) [BX,FT,FU,FV,e];rw[<-e,xW ax]
  · have e: ¬T=⟨#[]⟩:= λh=>c5 (by rw[h];rfl);have Ju:(0:Int)<T.size:=(by omega);have Jv: ¬(T.size:Int)<1:=(by omega);have af:0<T.size:=(by omega);by_cases D:16<T.size
    · have iY:(16:Int)<T.size:=(by omega);have ax: ¬eG T:= λh=>by have:=h.2.1;omega
      simp(disch:=first|omega|simp only[aE];omega) [BX,FT,FU,FV,qZ,e,iY,xW ax]
    · have iY: ¬(16:Int)<T.size:=(by omega);by_cases H:nW (rr T 0)=true
      · simp(disch:=first|omega|simp only[aE];omega) [BX,FT,FU,FV,qZ,z4,e,af,iY,H];refine adI (T:=T) (by omega) T.size 0 _ _ (by omega) (by simp) (by simp) (λh aj=> ?_) (λh aj g=> ?_)
        · simp(disch:=first|omega|simp only[aE];omega) [Aj ⟨by omega,by omega,H,h⟩]
        · have ax: ¬eG T:= λbK=>h bK.2.2.2;simp(disch:=first|omega|simp only[aE];omega) [g,xW ax]
      · have ax: ¬eG T:= λbK=>H bK.2.2.1;have sA:nW (rr T 0)=false:=(by simpa using H);simp(disch:=first|omega|simp only[aE];omega) [BX,FT,FU,FV,qZ,z4,e,af,iY,sA,xW ax]
theorem Av(n:Int)(m:W)(cg:Value->W->Prop):fZ al 237 [.int .u8 n] m cg=cg (.bool (nW n)) m:=by refine(qz.xY ?_).wp;rw[ag8 (by simp)];by_cases D:97<=n<;>by_cases H:n<=122<;>by_cases aq:65<=n<;>by_cases aF:n<=90<;>simp(disch:=first|omega|simp only[aE];omega) [QT,aaC,nW,D,H,aq,aF]
theorem ME(n:Int)(m:W)(cg:Value->W->Prop):fZ al 256 [.int .u8 n] m cg=cg (.bool (sR n)) m:=by refine(qz.xY ?_).wp;rw[ahb (by simp)];by_cases D:48<=n<;>by_cases H:n<=57<;>simp(disch:=first|omega|simp only[aE];omega) [Q0,abc,sR,D,H]
theorem aeo(n:Int)(m:W)(cg:Value->W->Prop):fZ al 238 [.int .u8 n] m cg=cg (.bool (lG n)) m:=by
  refine(qz.xY ?_).wp;rw[ag9 (by simp)];by_cases D:nW n=true
  · simp(disch:=first|omega|simp only[aE];omega) [zx,B8,Av,lG,D]
  by_cases H:sR n=true
  · simp(disch:=first|omega|simp only[aE];omega) [zx,B8,Av,ME,lG,D,H]
  by_cases aq:n=45
  · subst aq;simp(disch:=first|omega|simp only[aE];omega) [zx,B8,Av,ME,lG,nW,sR]
  by_cases aF:n=46
  · subst aF;simp(disch:=first|omega|simp only[aE];omega) [zx,B8,Av,ME,lG,nW,sR]
  simp(disch:=first|omega|simp only[aE];omega) [zx,B8,Av,ME,lG,D,H,aq,aF]
theorem aep{T:ByteArray}(df:T.size<=16){Q:dy->aP->W->Prop}: ∀(r i:Nat) (m:W) (z:aP),i+r=T.size->z 0= .string T->z 3=Z i->
    (q8 lG T r i=r-> ∀aj,Q (.ba 0) aj m)->(q8 lG T r i≠r-> ∀aj,aj 2= .bool false->Q .aG aj m)->hD al (.loop F1) z m Q
  | 0,i,m,z,ai,c9,eP,a7,bD=>by refine Dt λcK bk=> ?_;have: ¬(i:Int)<T.size:=(by omega);simp(disch:=first|omega|simp only[aE];omega) [F1,Kq,qZ,c9,eP,this];exact a7 rfl _
  | r+1,i,m,z,ai,c9,eP,a7,bD=>by
    refine Dt λcK bk=> ?_;have D:(i:Int)<T.size:=(by omega);have cX:=gT (n:=i) (by omega);by_cases hb:lG (rr T i)=true
    · simp(disch:=first|omega|simp only[aE];omega) [F1,Kq,qZ,aeo,c9,eP,D,hb,cX];refine bk _ _ (aep df r (i+1) _ _ (by omega) (by simp[c9]) (by simp) (λh=>a7 (by simp[q8,hb,h])) (λh=>bD (by simp[q8,hb];exact h)))
    · have ft:lG (rr T i)=false:=(by simpa using hb);simp(disch:=first|omega|simp only[aE];omega) [F1,Kq,qZ,aeo,c9,eP,D,ft];exact bD (by simp[q8,ft]) _ (by simp)
theorem aeq(T:ByteArray)(m:W)(cg:Value->W->Prop):fZ al 188 [.string T] m cg=cg (.bool (m3 T)) m:=by
  refine(qz.xY ?_).wp;rw[ag5 (by simp)];by_cases c5:T.size=0
  · have e:=VJ c5;have Ju:(T.size:Int)<1:=(by omega);have ax: ¬eG T:= λh=>by have:=h.1;omega
    simp(disch:=first|omega|simp only[aE];omega) [BY,FY,FZ,F0,qZ,Ju,xW ax]
  · have e: ¬T=⟨#[]⟩:= λh=>c5 (by rw[h];rfl);have Ju:(0:Int)<T.size:=(by omega);have Jv: ¬(T.size:Int)<1:=(by omega);have af:0<T.size:=(by omega);by_cases D:16<T.size
    · have iY:(16:Int)<T.size:=(by omega);have ax: ¬eG T:= λh=>by have:=h.2.1;omega
      simp(disch:=first|omega|simp only[aE];omega) [BY,FY,FZ,F0,qZ,Jv,iY,xW ax]
    · have iY: ¬(16:Int)<T.size:=(by omega);by_cases H:nW (rr T 0)=true
      · simp(disch:=first|omega|simp only[aE];omega) [BY,FY,FZ,F0,qZ,Av,Jv,af,iY,H];refine aep (T:=T) (by omega) T.size 0 _ _ (by omega) (by simp) (by simp) (λh aj=> ?_) (λh aj g=> ?_)
        · simp(disch:=first|omega|simp only[aE];omega) [Aj ⟨by omega,by omega,H,h⟩]
        · have ax: ¬eG T:= λbK=>h bK.2.2.2;simp(disch:=first|omega|simp only[aE];omega) [g,xW ax]
      · have ax: ¬eG T:= λbK=>H bK.2.2.1;have sA:nW (rr T 0)=false:=(by simpa using H);simp(disch:=first|omega|simp only[aE];omega) [BY,FY,FZ,F0,qZ,Av,Jv,af,iY,sA,xW ax]
end Go.Proofs.YtmmkkggfmigppaaGreat
namespace Go.Big
structure bT where
  jE:Bool
  a:List Int
  b:List Int
  deriving DecidableEq
structure eF where
  jE:Bool
  n:Int
  d:Int
  deriving DecidableEq
def eF.nil:eF:=⟨false,0,1⟩
def eF.m6:eF:=⟨false,1,1⟩
def eF.ok(_:eF):Bool:=true
def eF.small(_:eF):Bool:=true
def nD(x y:eF):Int:=if x.n*y.d<y.n*x.d then-1 else if y.n*x.d<x.n*y.d then 1 else 0
def bT.bA(x:bT):eF:=⟨x.jE,x.a.headD 0,x.b.headD 0⟩
def HW:List bT:=[⟨false,[],[1]⟩,⟨false,[1],[1]⟩,⟨false,[1],[2]⟩,⟨false,[1],[1000]⟩,⟨false,[30],[1]⟩]
def bT.cV(x:bT):Prop:=x∈HW
theorem aeR{x:eF}(_:x.small=true):x.ok=true:=rfl
theorem bT.gY{x:bT}(h:x.cV):0<=x.bA.n:=by
  have: ∀y∈HW,0<=y.bA.n:=by decide
  exact this x h
theorem bT.avU{x:bT}(h:x.cV):0<=x.bA.n:=bT.gY h
end Go.Big
namespace Go.Proofs.YtmmkkggfmigppaaGreat
open Go Go.DI Go.Big
abbrev bM(l:List Int):Value:=au (l.map λd=>[eN d]) 1
theorem xQ{c7 lM:Type}{f:c7->lM}(h: ∀x y,f x=f y->x=y): ∀{l dj:List c7},l.map f=dj.map f↔l=dj
  |[],[]=>by simp
  |[],_::_=>by simp
  |_::_,[]=>by simp
  | x::l,y::dj=>by simp only[mL,tz,xQ h];exact⟨λ⟨a,b⟩=>⟨h _ _ a,b⟩,λ⟨a,b⟩=>⟨by rw[a],b⟩⟩
@[simp] theorem aGy{l dj:List Int}:(l.map λd=>[eN d])=(dj.map λd=>[eN d])↔l=dj:=xQ λx y h=>by simpa using h
def dQ(x:bT):List Value:=[.bool x.jE,bM x.a,bM x.b]
theorem awB{x y:bT}:dQ x=dQ y↔x=y:=by obtain⟨a,b,c⟩:=x;obtain⟨dD,ca,lR⟩:=y;simp[dQ]
@[simp] theorem aHS{x:bT}:(dQ x).length=3:=rfl
abbrev dp(x:bT):Value:= .agg (dQ x).toArray
abbrev hx(l:List bT):Value:=au (l.map dQ) 3
@[simp] theorem aHT{l dj:List bT}:l.map dQ=dj.map dQ↔l=dj:=xQ λx y h=>awB.1 h
theorem au5{f:Nat}{ts:List Value}{r:Value}(h: ∀m e1,DG m ts e1->fZ al f e1 m λdF an=>Iy m an/\Iv an r dF):bH al f ts r:=
  ayQ λm e1 az=>(h m e1 az).cd λdF an aJ=>⟨⟨aJ.1.next,aJ.1.Y⟩,aJ.2⟩
theorem avF{T:ByteArray}:bH al 179 [.string T] (.bool (m3 T)):=au5 λm e1 az=>by obtain⟨v,rfl,h⟩:=az.m6;rw[h.vv,avG];exact⟨Iy.refl m,.cv rfl⟩
theorem aeh{l:List bT}: ∀r∈l.map dQ,r.length=3/\ ∀v∈r,gP v=true:= λr ay=>by obtain⟨x,_,rfl⟩:=hc.1 ay;exact⟨rfl,λv ab=>by simp[dQ]at ab;rcases ab with rfl|rfl|rfl<;>rfl⟩
theorem awC{l:List bT}:(l.map dQ).flatten.length=l.length*3:=by rw[sw (J:=3) λr ay=>(aeh r ay).1,j8]
end Go.Proofs.YtmmkkggfmigppaaGreat
namespace Go.Big
structure hS where
  name:ByteArray
  s:List bT
  cm:List (List bT)
  e:List bT
  deriving DecidableEq
def hS.cV(x:hS):Prop:= ∃J,2<=J/\J<200/\x.s=[⟨false,[1],[1]⟩]/\x.cm=[[⟨false,[],[1]⟩]]/\x.e=[⟨false,[1],[J]⟩]
def hS.l6(_:hS):Bool:=true
end Go.Big
namespace Go.Proofs.YtmmkkggfmigppaaGreat
open Go Go.DI Go.Big
abbrev VK(l:List (List bT)):Value:=au (l.map λr=>[hx r]) 1
def gF(x:hS):List Value:=[.string x.name,hx x.s,VK x.cm,hx x.e]
@[simp] theorem aEb{l dj:List (List bT)}:(l.map λr=>[hx r])=(dj.map λr=>[hx r])↔l=dj:=xQ λx y h=>by simpa using h
abbrev yl(x:hS):Value:= .agg (gF x).toArray
theorem lx{c7:Type}{l:List c7}{i:Nat}{x:c7}(h:l[i]?=some x):l.take (i+1)=l.take i++[x]:=by rw[List.take_add_one,h];rfl
end Go.Proofs.YtmmkkggfmigppaaGreat
namespace Go.Big
def dB(a b c:Int):Bool:=decide (b<=a)&&decide (a<=c)
end Go.Big
namespace Go.Proofs.YtmmkkggfmigppaaGreat
open Go Go.DI Go.Big
theorem ajX{a b c:Int}:bH al 110 [Z a,Z b,Z c] (.bool (dB a b c)):=by refine ed (dL (aB:=⟨[],[]⟩) aj7 (by kernel_rfl) (by simp[PZ]) ?_);by_cases h:b<=a<;>simp(disch:=first|omega|simp only[aE];omega) [PZ,XK,XL,h,dB,-O,-U,-N,-S,-List.map_map]
noncomputable def re:bz al:= .dM 110 (Int×Int×Int) (λ⟨a,b,c⟩=>True) (λ⟨a,b,c⟩=>[Z a,Z b,Z c]) (λ⟨a,b,c⟩=> .bool (dB a b c)) (λ⟨a,b,c⟩ h=>ajX)
@[simp] theorem aIV:re.f=110:=rfl
@[simp] theorem aIW{a:Int}{b:Int}{c:Int}:re.fn ([Z a,Z b,Z c])=some (.bool (dB a b c)):=bz.eu (x:=(a,b,c)) trivial λy ah=>by obtain⟨qs,ly,tp⟩:=y;simpa using ah
theorem ym{x:bT}{n:Bool}{a b:List Int}(h:[dp x]=[.agg #[.bool n,bM a,bM b]]):x=⟨n,a,b⟩:=by obtain⟨gU,dD,ca⟩:=x;simpa[dQ]using h
noncomputable def S1(u:Nat)(l:List bT)(p:bT->Bool)(af: ∀x∈l,bH al u [dp x] (.bool (p x))):bz al:= .dM u bT (λx=>x∈l) (λx=>[dp x]) (λx=> .bool (p x)) af
@[simp] theorem aIN{u:Nat}{l:List bT}{p:bT->Bool}{af: ∀x∈l,bH al u [dp x] (.bool (p x))}:(S1 u l p af).f=u:=rfl
@[simp] theorem aIO{u:Nat}{l:List bT}{p:bT->Bool}{af: ∀x∈l,bH al u [dp x] (.bool (p x))}{n:Bool}{a b:List Int}(h:bT.mk n a b∈l):(S1 u l p af).fn [.agg #[.bool n,bM a,bM b]]=some (.bool (p ⟨n,a,b⟩)):=
  bz.eu (x:=bT.mk n a b) h λy ah=>ym ah
theorem UH{u:Nat}{l:List bT}{p:bT->Bool}(ax:l.length<1000000)(af: ∀x∈l,bH al u [dp x] (.bool (p x))):bH al 172 [hx l,.func (.func u) #[] #[]] (.bool (l.all p)):=by
  refine ed (dL (aB:=⟨[],[]⟩) amb (by kernel_rfl) (by simp[Qu]) ?_);simp(disch:=first|omega|simp only[aE];omega) [Qu,Y1,Y2,-O,-U,-N,-S,-List.map_map];refine hI (aB:=⟨[S1 u l p af],[]⟩) (λi z t=>(l.take i).all p=true/\z 1= .func (.func u) #[] #[]/\z 7=hx l/\z 8=Z l.length/\z 9=Z i) l.length ?_ ?_ 0 _ _ (ho _) ⟨by simp,by simp,by simp,by simp,by simp⟩
  · rintro i z t ai ⟨az,bb,dW,b1,hQ⟩ cK bk;have G:l[i]?=some l[i]:=dx ai;have aw:l[i]∈l:=mI ai;have b7:=gT (n:=i) (by omega);have bU:(i:Int)<l.length:=(by omega);cases hb:p l[i]
    · simp(disch:=first|omega|simp only[aE];omega) [Kk,FE,FF,FG,FH,bb,dW,b1,hQ,bU,hb,dQ,-O,-U,-N,-S,-List.map_map];exact⟨_,aw,hb⟩
    · simp(disch:=first|omega|simp only[aE];omega) [Kk,FE,FF,FG,FH,bb,dW,b1,hQ,bU,b7,hb,dQ,-O,-U,-N,-S,-List.map_map];exact bk _ _ ⟨by rw[lx G,sd,az];simp[hb],by simp[bb],by simp[dW],by simp[b1],by simp⟩
  · rintro z t ⟨az,bb,dW,b1,hQ⟩;rw[mJ]at az;simp(disch:=first|omega|simp only[aE];omega) [Kk,FE,FF,FG,FH,b1,hQ,FH,FE,FF,FG,-O,-U,-N,-S,-List.map_map];simpa using az
section
set_option maxRecDepth 100000
def aeQ:List (Nat×bS):=[(59,Li),(107,J2),(138,Kb),(139,Kc),(140,Kd),(167,Kf),(168,Kg),(169,Kh),(170,Ki),(171,Kj),(173,Y3),(174,Y4),(175,Y5),(191,Zu),(192,Zv),(193,Zw),(194,B0),(195,Kw),(196,Kx),(199,ZH),(213,KF),(215,KH),(216,KI),(217,Z3),(218,Z4),(219,KK),(220,aab),(221,KL),(222,KM),(223,aal),(230,aax),(239,aaD),(240,KS),(241,KT),(246,KU),(247,Cc),(248,KX),(249,aa0),(251,KY),(253,K0),(254,aba),(257,abd),(258,abe),(274,aby),(275,abz),(260,K1),(268,K2),(271,K3),(272,abv),(273,Cd),(278,K4)]
theorem ayu:ID al aeQ:=⟨⟨⟨by kernel_rfl,ab0⟩,by kernel_rfl⟩,⟨⟨⟨by kernel_rfl,XB⟩,by kernel_rfl⟩,⟨⟨⟨by kernel_rfl,Yu⟩,by kernel_rfl⟩,⟨⟨⟨by kernel_rfl,Yx⟩,by kernel_rfl⟩,⟨⟨⟨by kernel_rfl,YA⟩,by kernel_rfl⟩,⟨⟨⟨by kernel_rfl,YG⟩,by kernel_rfl⟩,⟨⟨⟨by kernel_rfl,YN⟩,by kernel_rfl⟩,⟨⟨⟨by kernel_rfl,YQ⟩,by kernel_rfl⟩,⟨⟨⟨by kernel_rfl,YV⟩,by kernel_rfl⟩,⟨⟨⟨by kernel_rfl,YZ⟩,by kernel_rfl⟩,⟨⟨⟨by kernel_rfl,amd⟩,by kernel_rfl⟩,⟨⟨⟨by kernel_rfl,amn⟩,by kernel_rfl⟩,⟨⟨⟨by kernel_rfl,amr⟩,by kernel_rfl⟩,⟨⟨⟨by kernel_rfl,anB⟩,by kernel_rfl⟩,⟨⟨⟨by kernel_rfl,anJ⟩,by kernel_rfl⟩,⟨⟨⟨by kernel_rfl,anM⟩,by kernel_rfl⟩,⟨⟨⟨by kernel_rfl,QA⟩,by kernel_rfl⟩,⟨⟨⟨by kernel_rfl,Zy⟩,by kernel_rfl⟩,⟨⟨⟨by kernel_rfl,ZE⟩,by kernel_rfl⟩,⟨⟨⟨by kernel_rfl,anS⟩,by kernel_rfl⟩,⟨⟨⟨by kernel_rfl,ZO⟩,by kernel_rfl⟩,⟨⟨⟨by kernel_rfl,ZT⟩,by kernel_rfl⟩,⟨⟨⟨by kernel_rfl,ZX⟩,by kernel_rfl⟩,⟨⟨⟨by kernel_rfl,an4⟩,by kernel_rfl⟩,⟨⟨⟨by kernel_rfl,an8⟩,by kernel_rfl⟩,⟨⟨⟨by kernel_rfl,Z6⟩,by kernel_rfl⟩,⟨⟨⟨by kernel_rfl,aow⟩,by kernel_rfl⟩,⟨⟨⟨by kernel_rfl,aad⟩,by kernel_rfl⟩,⟨⟨⟨by kernel_rfl,aah⟩,by kernel_rfl⟩,⟨⟨⟨by kernel_rfl,aoA⟩,by kernel_rfl⟩,⟨⟨⟨by kernel_rfl,aoJ⟩,by kernel_rfl⟩,⟨⟨⟨by kernel_rfl,ao7⟩,by kernel_rfl⟩,⟨⟨⟨by kernel_rfl,aaF⟩,by kernel_rfl⟩,⟨⟨⟨by kernel_rfl,aaJ⟩,by kernel_rfl⟩,⟨⟨⟨by kernel_rfl,aaP⟩,by kernel_rfl⟩,⟨⟨⟨by kernel_rfl,QV⟩,by kernel_rfl⟩,⟨⟨⟨by kernel_rfl,aaV⟩,by kernel_rfl⟩,⟨⟨⟨by kernel_rfl,apK⟩,by kernel_rfl⟩,⟨⟨⟨by kernel_rfl,aa3⟩,by kernel_rfl⟩,⟨⟨⟨by kernel_rfl,aa8⟩,by kernel_rfl⟩,⟨⟨⟨by kernel_rfl,ap0⟩,by kernel_rfl⟩,⟨⟨⟨by kernel_rfl,aql⟩,by kernel_rfl⟩,⟨⟨⟨by kernel_rfl,aqr⟩,by kernel_rfl⟩,⟨⟨⟨by kernel_rfl,arc⟩,by kernel_rfl⟩,⟨⟨⟨by kernel_rfl,arp⟩,by kernel_rfl⟩,⟨⟨⟨by kernel_rfl,abg⟩,by kernel_rfl⟩,⟨⟨⟨by kernel_rfl,abm⟩,by kernel_rfl⟩,⟨⟨⟨by kernel_rfl,abt⟩,by kernel_rfl⟩,⟨⟨⟨by kernel_rfl,aqL⟩,by kernel_rfl⟩,⟨⟨⟨by kernel_rfl,Q5⟩,by kernel_rfl⟩,⟨⟨⟨by kernel_rfl,abB⟩,by kernel_rfl⟩,trivial⟩⟩⟩⟩⟩⟩⟩⟩⟩⟩⟩⟩⟩⟩⟩⟩⟩⟩⟩⟩⟩⟩⟩⟩⟩⟩⟩⟩⟩⟩⟩⟩⟩⟩⟩⟩⟩⟩⟩⟩⟩⟩⟩⟩⟩⟩⟩⟩⟩⟩⟩
theorem gb{f:Nat}{args:List Value}{r:Value}(h:VR (H0 aeQ).Y [] 100000 80 f args r=true):bH al f args r:=ahR (Dj ayu) ado h
theorem AQ{p:bT->Prop}(c5:p ⟨false,[],[1]⟩)(D:p ⟨false,[1],[1]⟩)(H:p ⟨false,[1],[2]⟩)(aq:p ⟨false,[1],[1000]⟩)(aF:p ⟨false,[30],[1]⟩){x:bT}(G:x.cV):p x:=by
  simp only[bT.cV,HW,g6,iG,or_false]at G;rcases G with rfl|rfl|rfl|rfl|rfl
  · exact c5
  · exact D
  · exact H
  · exact aq
  · exact aF
theorem PU{x:bT}(aa:x.cV):bH al 170 [dp x] (.bool x.bA.small):=
  AQ (p:= λx=>bH al 170 [dp x] (.bool x.bA.small)) (gb (by kernel_rfl)) (gb (by kernel_rfl)) (gb (by kernel_rfl)) (gb (by kernel_rfl)) (gb (by kernel_rfl)) aa
theorem NU{x:bT}(aa:x.cV):bH al 171 [dp x] (.bool (decide (0<x.bA.n))):=
  AQ (p:= λx=>bH al 171 [dp x] (.bool (decide (0<x.bA.n)))) (gb (by kernel_rfl)) (gb (by kernel_rfl)) (gb (by kernel_rfl)) (gb (by kernel_rfl)) (gb (by kernel_rfl)) aa
theorem au2{x:bT}(aa:x.cV):bH al 230 [dp x] (.bool (decide (nD x.bA .m6<=0))):=
  AQ (p:= λx=>bH al 230 [dp x] (.bool (decide (nD x.bA .m6<=0)))) (gb (by kernel_rfl)) (gb (by kernel_rfl)) (gb (by kernel_rfl)) (gb (by kernel_rfl)) (gb (by kernel_rfl)) aa
theorem aev{x:bT}(aa:x.cV):bH al 140 [dp x] (.bool x.bA.small):=
  AQ (p:= λx=>bH al 140 [dp x] (.bool x.bA.small)) (gb (by kernel_rfl)) (gb (by kernel_rfl)) (gb (by kernel_rfl)) (gb (by kernel_rfl)) (gb (by kernel_rfl)) aa
theorem SO{x:bT}(aa:x.cV)(aGl:x.bA.ok=true):bH al 139 [dp x] (Z (nD x.bA .nil)):=
  AQ (p:= λx=>bH al 139 [dp x] (Z (nD x.bA .nil))) (gb (by kernel_rfl)) (gb (by kernel_rfl)) (gb (by kernel_rfl)) (gb (by kernel_rfl)) (gb (by kernel_rfl)) aa
theorem axz{x:bT}(aa:x.cV):bH al 138 [dp x] (.bool x.bA.ok):=
  AQ (p:= λx=>bH al 138 [dp x] (.bool x.bA.ok)) (gb (by kernel_rfl)) (gb (by kernel_rfl)) (gb (by kernel_rfl)) (gb (by kernel_rfl)) (gb (by kernel_rfl)) aa
theorem awR{x:bT}(aa:x.cV):bH al 199 [dp ⟨false,[1],[1]⟩,dp x] (.bool (decide (nD .m6 x.bA<0))):=
  AQ (p:= λx=>bH al 199 [dp ⟨false,[1],[1]⟩,dp x] (.bool (decide (nD .m6 x.bA<0)))) (gb (by kernel_rfl)) (gb (by kernel_rfl)) (gb (by kernel_rfl)) (gb (by kernel_rfl)) (gb (by kernel_rfl)) aa
theorem qf:bH al 193 [Z 1] (dp ⟨false,[1],[1]⟩):=gb (by kernel_rfl)
theorem ah2:bH al 59 [Z 0,Z 1] (dp ⟨false,[],[1]⟩):=by have h:bH al 59 [Z 0,Z 1] (.agg #[.bool false,.slice none 0 0,bM [1]]):=gb (by kernel_rfl);intro u m ck dn az;refine(h u m ck dn az).cd λr an ⟨D,H,cF,aq,aF,br⟩=>⟨D,H,cF,aq,aF,?_⟩;obtain⟨ys,rfl,aC⟩:=br.qV;obtain⟨a,b,c,e,aQ,a8,cN⟩:=bj.ayN (x:= .bool false) (y:= .slice none 0 0) (J:=bM [1]) aC;have dY:ys= #[a,b,c]:=AU.1 e;subst dY;rw[a8.hB rfl];exact bj.agg (bj.cons aQ (bj.cons (.hj rfl) (bj.cons cN bj.nil)))
theorem ah3:bH al 59 [Z 1,Z 1] (dp ⟨false,[1],[1]⟩):=gb (by kernel_rfl)
theorem ah4:bH al 59 [Z 1,Z 2] (dp ⟨false,[1],[2]⟩):=gb (by kernel_rfl)
theorem ah5:bH al 59 [Z 1,Z 1000] (dp ⟨false,[1],[1000]⟩):=gb (by kernel_rfl)
theorem ah6:bH al 59 [Z 30,Z 1] (dp ⟨false,[30],[1]⟩):=gb (by kernel_rfl)
theorem Hn:bH al 174 [Z 1,Z 1] (.tuple #[dp ⟨false,[1],[1]⟩,Z 0]):=gb (by kernel_rfl)
theorem Ho:bH al 173 [hx [⟨false,[1],[1]⟩]] (.tuple #[dp ⟨false,[1],[1]⟩,Z 0]):=gb (by kernel_rfl)
theorem Hm:bH al 175 [dp ⟨false,[1],[1]⟩,dp ⟨false,[1],[1]⟩] (.tuple #[Z 0,Z 0]):=gb (by kernel_rfl)
theorem ra:bH al 191 [hx [⟨false,[1],[1]⟩]] (.tuple #[dp ⟨false,[1],[1]⟩,Z 0]):=gb (by kernel_rfl)
theorem q9:bH al 192 [dp ⟨false,[1],[1]⟩,dp ⟨false,[1],[1]⟩] (.bool true):=gb (by kernel_rfl)
end
end Go.Proofs.YtmmkkggfmigppaaGreat
