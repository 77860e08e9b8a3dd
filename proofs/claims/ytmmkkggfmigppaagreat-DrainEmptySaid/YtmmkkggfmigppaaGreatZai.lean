/-
  A part of the proof of the statement, in texts that tools of ours (wip/shrink.py, irpack.py, relax.py, minify.py, join.py, lay.py) have shortened.
-/
import Derived.Test.YtmmkkggfmigppaaGreatZah
set_option linter.all false
set_option maxRecDepth 8000
set_option maxHeartbeats 16000000
namespace Go.DI
open Go Go.RowKit
def gO(K:eE)(id mid:Nat):eE:= λo=>if o=id then some mid else K o
section
variable {u:fE} {K:eE} {z aj:aP} {t m:W} {v bq:Value} {id mid gC g8:Nat}
theorem fM.set(h:K id=none):fM K (gO K id mid):= λo b hb=>by
  unfold gO;split
  · next e=>subst e;rw[h]at hb;cases hb
  · exact hb
structure qy(K:eE)(u:fE)(t m:W)(id mid:Nat):Prop where
  e:K id=none
  b: ∀o,K o≠some mid
  f:u mid=none
  r8:id<t.next
  qb:mid<m.next
theorem qy.q1(ax:qy K u t m id mid){o b:Nat}(h:K o=some b):b≠mid:= λe=>by subst e;exact ax.b o h
theorem dR.q1(M:dR K u t m){p o c b:Nat}(h:K p=some c)(bK:K o=some b)(ax:p≠o):c≠b:= λe=>by subst e;exact ax (M.inj p o c h bK)
theorem h2{m:W}{b:Nat}{a9:List (Value×Value)}(h:m.eJ b=some a9):m.Y b=some ⟨[],true⟩/\m.mp b=some a9:=by
  unfold W.eJ at h;cases aM:m.Y b with
  |none=>rw[aM]at h;cases h
  | some x=>
    obtain⟨cs,w⟩:=x;rw[aM]at h;cases cs with
    | nil=>cases w with
      |true=>exact⟨rfl,h⟩
      |false=>cases h
    |cons c cs=>cases h
theorem jJ{m:W}{b:Nat}{a9:List (Value×Value)}(h:m.Y b=some ⟨[],true⟩)(bK:m.mp b=some a9):m.eJ b=some a9:=by unfold W.eJ;rw[h];exact bK
theorem Mr(M:dR K u t m)(ax:qy K u t m id mid){cs kY:List Value}(ar:bj u K cs kY):dR (gO K id mid) u (t.a4 id (some ⟨cs,true⟩)) (m.a4 mid (some ⟨kY,true⟩)) where
  hO o x G:=by
    by_cases aD:o=id
    · subst aD;rw[eZ ax.r8]at G;cases G;exact .inl ⟨mid,kY,true,by simp[gO],eZ ax.qb,λ_=>rfl,ar.cd (gW.refl _) (fM.set ax.e)⟩
    · rw[b3 aD]at G;rcases M.hO o x G with⟨b,ds,w,D,H,aq,aF⟩|⟨D,H⟩
      · exact .inl ⟨b,ds,w,by simp[gO,aD,D],by rw[b3 (ax.q1 D),H],aq,aF.cd (gW.refl _) (fM.set ax.e)⟩
      · exact .inr ⟨by simp[gO,aD,D],H⟩
  maps o a9 bh:=by
    by_cases aD:o=id
    · subst aD;have:=(h2 bh).2;rw[show(t.a4 o (some ⟨cs,true⟩)).mp=t.mp from rfl,M.h4 o ax.e]at this;cases this
    · rw[sy aD]at bh;obtain⟨b,c2,D,H,aq⟩:=M.maps o a9 bh;exact⟨b,c2,by simp[gO,aD,D],by rw[sy (ax.q1 D),H],aq.cd (gW.refl _) (fM.set ax.e)⟩
  h4 o h:=by
    simp only[gO]at h;split at h
    · cases h
    · exact M.h4 o h
  inj o o' b h bK:=by
    simp only[gO]at h bK;split at h
    · cases h;split at bK
      · next a b=>rw[a,b]
      · exact absurd bK (ax.b o')
    · split at bK
      · cases bK;exact absurd h (ax.b o)
      · exact M.inj o o' b h bK
  c0 o b h:=by
    simp only[gO]at h;split at h
    · next e=>cases h;subst e;exact⟨ax.r8,ax.qb⟩
    · exact M.c0 o b h
  bA b ds h:=by
    have hb:b≠mid:= λe=>by subst e;rw[ax.f]at h;cases h
    obtain⟨⟨w,D⟩,H⟩:=M.bA b ds h;refine⟨⟨w,by rw[b3 hb,D]⟩,λo x aD G=> ?_⟩;simp only[gO]at aD;split at aD
    · cases aD;exact absurd rfl hb
    · next cZ=>rw[b3 cZ]at G;exact H o x aD G
theorem adJ(ax:qy K u t m id mid)(D:gC<=id)(H:g8<=mid){x:Option fm}{y:Option fm}:eF gC g8 K u t m (gO K id mid) u (t.a4 id x) (m.a4 mid y) where
  e:=fM.set ax.e
  f:=gW.refl _
  jz o b h:=by
    simp only[gO]at h;split at h
    · next e=>cases h;subst e;exact .inr ⟨D,H⟩
    · exact .inl h
  fn b cs h:= .inl h
  jh:=ev _
  jr:=ev _
  k3 b hb _:=b3 (by omega)
  nh b hb:= λ⟨o,y,h,bK,qL⟩=>by
    simp only[gO]at h;split at h
    · cases h;omega
    · next cZ=>exact⟨o,y,h,by rw[b3 cZ]at bK;exact bK,qL⟩
  mM b hb:= λ⟨o,y,h,bK⟩=>by
    simp only[gO]at h;split at h
    · cases h;omega
    · next cZ=>exact⟨o,y,h,by rw[b3 cZ]at bK;exact bK⟩
theorem avJ(M:dR K u t m)(ax:qy K u t m id mid){a9 c2:List (Value×Value)}(ar:o1 u K a9 c2):dR (gO K id mid) u (t.gH id a9) (m.gH mid c2) where
  hO o x G:=by
    by_cases aD:o=id
    · subst aD;rw[Ew ax.r8]at G;cases G;exact .inl ⟨mid,[],true,by simp[gO],Ew ax.qb,λ_=>rfl,bj.nil⟩
    · rw[ml aD]at G;rcases M.hO o x G with⟨b,ds,w,D,H,aq,aF⟩|⟨D,H⟩
      · exact .inl ⟨b,ds,w,by simp[gO,aD,D],by rw[ml (ax.q1 D),H],aq,aF.cd (gW.refl _) (fM.set ax.e)⟩
      · exact .inr ⟨by simp[gO,aD,D],H⟩
  maps o fr bh:=by
    by_cases aD:o=id
    · subst aD;rw[Eu ax.r8]at bh;cases bh;exact⟨mid,c2,by simp[gO],Eu ax.qb,ar.cd (gW.refl _) (fM.set ax.e)⟩
    · rw[Et aD]at bh;obtain⟨b,c2,D,H,aq⟩:=M.maps o fr bh;exact⟨b,c2,by simp[gO,aD,D],by rw[Et (ax.q1 D),H],aq.cd (gW.refl _) (fM.set ax.e)⟩
  h4 o h:=by
    simp only[gO]at h;split at h
    · cases h
    · next cZ=>show(if o=id then some a9 else t.mp o)=none;rw[if_neg cZ];exact M.h4 o h
  inj:=(Mr M ax (cs:=[]) (kY:=[]) bj.nil).inj
  c0:=(Mr M ax (cs:=[]) (kY:=[]) bj.nil).c0
  bA b ds h:=by
    have hb:b≠mid:= λe=>by subst e;rw[ax.f]at h;cases h
    obtain⟨⟨w,D⟩,H⟩:=M.bA b ds h;refine⟨⟨w,by rw[ml hb,D]⟩,λo x aD G=> ?_⟩;simp only[gO]at aD;split at aD
    · cases aD;exact absurd rfl hb
    · next cZ=>rw[ml cZ]at G;exact H o x aD G
theorem avI(ax:qy K u t m id mid)(D:gC<=id)(H:g8<=mid){a9 c2:List (Value×Value)}:eF gC g8 K u t m (gO K id mid) u (t.gH id a9) (m.gH mid c2) where
  e:=fM.set ax.e
  f:=gW.refl _
  jz o b h:=by
    simp only[gO]at h;split at h
    · next e=>cases h;subst e;exact .inr ⟨D,H⟩
    · exact .inl h
  fn b cs h:= .inl h
  jh:=ev _
  jr:=ev _
  k3 b hb _:=ml (by omega)
  nh b hb:= λ⟨o,y,h,bK,qL⟩=>by
    simp only[gO]at h;split at h
    · cases h;omega
    · next cZ=>exact⟨o,y,h,by rw[ml cZ]at bK;exact bK,qL⟩
  mM b hb:= λ⟨o,y,h,bK⟩=>by
    simp only[gO]at h;split at h
    · cases h;omega
    · next cZ=>exact⟨o,y,h,by rw[ml cZ]at bK;exact bK⟩
theorem afj(M:dR K u t m){o b:Nat}{x:fm}{kY:List Value}{w:Bool}(bR:K o=some b)(G:t.Y o=some x)(aZ:x.own=true)(hb:m.Y b=some ⟨kY,w⟩)
    {ds fx:List Value} (aC:ds.length=x.cells.length) (ar:bj u K ds fx) (Xg:w=true):dR K u (t.a4 o (some ⟨ds,true⟩)) (m.a4 b (some ⟨fx,w⟩)) where
  hO p y ah:=by
    have ee:=M.c0 o b bR;by_cases aD:p=o
    · subst aD;rw[eZ ee.1]at ah;cases ah;exact .inl ⟨b,fx,w,bR,eZ ee.2,λ_=>Xg,ar⟩
    · rw[b3 aD]at ah;rcases M.hO p y ah with⟨c,ds,w,D,H,aq,aF⟩|D
      · exact .inl ⟨c,ds,w,D,by rw[b3 (M.q1 D bR aD),H],aq,aF⟩
      · exact .inr D
  maps p a9 bh:=by
    have ee:=M.c0 o b bR;by_cases aD:p=o
    · subst aD;obtain⟨D,H⟩:=h2 bh;rw[eZ ee.1]at D;have aA:ds=[]:=(by simpa using D);subst aA;have j0:x.cells=[]:=AR aC.symm;have:t.eJ p=some a9:=jJ (by rw[G];obtain⟨a,b⟩:=x;simp at j0 aZ;simp[j0,aZ]) H;obtain⟨ca,c2,aQ,a8,cN⟩:=M.maps p a9 this;rw[bR]at aQ;cases aQ;have yZ:fx=[]:=AR (by rw[<-ar.1];rfl);refine⟨b,c2,bR,?_,cN⟩;subst yZ;subst Xg;exact jJ (eZ ee.2) (h2 a8).2
    · rw[sy aD]at bh;obtain⟨c,c2,D,H,aq⟩:=M.maps p a9 bh;exact⟨c,c2,D,by rw[sy (M.q1 D bR aD),H],aq⟩
  h4:=M.h4
  inj:=M.inj
  c0:=M.c0
  bA c a9 h:=by
    obtain⟨⟨cT,D⟩,H⟩:=M.bA c a9 h;have ar:c≠b:= λe=>by subst e;have:=H o x bR G;rw[aZ]at this;cases this
    refine⟨⟨cT,by rw[b3 ar,D]⟩,λp y af ah=> ?_⟩;have:p≠o:= λe=>by subst e;rw[bR]at af;cases af;exact ar rfl
    rw[b3 this]at ah;exact H p y af ah
theorem Nq(M:dR K u t m){o b:Nat}{x:fm}(bR:K o=some b)(G:t.Y o=some x)(aZ:x.own=true){y J:Option fm}:eF gC g8 K u t m K u (t.a4 o y) (m.a4 b J) where
  e:=fM.refl _
  f:=gW.refl _
  jz o b h:= .inl h
  fn b cs h:= .inl h
  jh:=ev _
  jr:=ev _
  k3 c ar ax:=b3 (λe=>ax (by subst e;exact⟨o,x,bR,G,aZ⟩))
  nh c ar:= λ⟨p,bp,h,bK,qL⟩=>by
    by_cases af:p=o
    · subst af;rw[bR]at h;cases h;exact⟨p,x,bR,G,aZ⟩
    · rw[b3 af]at bK;exact⟨p,bp,h,bK,qL⟩
  mM c ar:= λ⟨p,bp,h,bK⟩=>by
    by_cases af:p=o
    · subst af;rw[bR]at h;cases h;exact⟨p,x,bR,G⟩
    · rw[b3 af]at bK;exact⟨p,bp,h,bK⟩
theorem VD(M:dR K u t m){o:Nat}:dR K u (t.a4 o none) m where
  hO p y ah:=by
    by_cases aD:p=o
    · subst aD;by_cases ee:p<t.next
      · rw[eZ ee]at ah;cases ah
      · have D:(t.a4 p none).Y p=none:=Ev (by simp;omega);rw[D]at ah;cases ah
    · rw[b3 aD]at ah;exact M.hO p y ah
  maps p a9 bh:=by
    by_cases aD:p=o
    · subst aD;have:=(h2 bh).1;by_cases ee:p<t.next
      · rw[eZ ee]at this;cases this
      · have D:(t.a4 p none).Y p=none:=Ev (by simp;omega);rw[D]at this;cases this
    · rw[sy aD]at bh;exact M.maps p a9 bh
  h4:=M.h4
  inj:=M.inj
  c0:=M.c0
  bA c a9 h:=by
    obtain⟨D,H⟩:=M.bA c a9 h;refine⟨D,λp y af ah=> ?_⟩;by_cases aD:p=o
    · subst aD;by_cases ee:p<t.next
      · rw[eZ ee]at ah;cases ah
      · have D:(t.a4 p none).Y p=none:=Ev (by simp;omega);rw[D]at ah;cases ah
    · rw[b3 aD]at ah;exact H p y af ah
theorem VC{o:Nat}:eF gC g8 K u t m K u (t.a4 o none) m where
  e:=fM.refl _
  f:=gW.refl _
  jz o b h:= .inl h
  fn b cs h:= .inl h
  jh:=ev _
  jr:=ev _
  k3 c ar ax:=rfl
  nh c ar:= λ⟨p,bp,h,bK,qL⟩=>by
    by_cases af:p=o
    · subst af;by_cases ee:p<t.next
      · rw[eZ ee]at bK;cases bK
      · have D:(t.a4 p none).Y p=none:=Ev (by simp;omega);rw[D]at bK;cases bK
    · rw[b3 af]at bK;exact⟨p,bp,h,bK,qL⟩
  mM c ar:= λ⟨p,bp,h,bK⟩=>by
    by_cases af:p=o
    · subst af;by_cases ee:p<t.next
      · rw[eZ ee]at bK;cases bK
      · have D:(t.a4 p none).Y p=none:=Ev (by simp;omega);rw[D]at bK;cases bK
    · rw[b3 af]at bK;exact⟨p,bp,h,bK⟩
theorem ac7(M:dR K u t m){o b:Nat}{x:fm}(bR:K o=some b)(G:t.Y o=some x)(aZ:x.own=true):dR K u (t.a4 o none) (m.a4 b none) where
  hO p y ah:=by
    have ee:=M.c0 o b bR;by_cases aD:p=o
    · subst aD;rw[eZ ee.1]at ah;cases ah
    · rw[b3 aD]at ah;rcases M.hO p y ah with⟨c,ds,w,D,H,aq,aF⟩|D
      · exact .inl ⟨c,ds,w,D,by rw[b3 (M.q1 D bR aD),H],aq,aF⟩
      · exact .inr D
  maps p a9 bh:=by
    have ee:=M.c0 o b bR;by_cases aD:p=o
    · subst aD;have:=(h2 bh).1;rw[eZ ee.1]at this;cases this
    · rw[sy aD]at bh;obtain⟨c,c2,D,H,aq⟩:=M.maps p a9 bh;exact⟨c,c2,D,by rw[sy (M.q1 D bR aD),H],aq⟩
  h4:=M.h4
  inj:=M.inj
  c0:=M.c0
  bA c a9 h:=by
    obtain⟨⟨cT,D⟩,H⟩:=M.bA c a9 h;have ar:c≠b:= λe=>by subst e;have:=H o x bR G;rw[aZ]at this;cases this
    refine⟨⟨cT,by rw[b3 ar,D]⟩,λp y af ah=> ?_⟩;have:p≠o:= λe=>by subst e;rw[bR]at af;cases af;exact ar rfl
    rw[b3 this]at ah;exact H p y af ah
theorem av1(s:ByteArray):bj u K (vT s) (vT s):=bj.cv (by simp only[vT,List.all_map,eD];intro b _;rfl)
structure od(gC g8 id mid:Nat)(K:eE)(u:fE)(t m aT an:W)(v bq:Value)(cy:eE):Prop where
  TE:dR cy u aT an
  val:bW u cy v bq
  bA:eF gC g8 K u t m cy u aT an
  Hj: ∀o,o≠id->cy o=K o
  self:cy id=K id\/cy id=some mid
theorem od.new(M:dR K u t m)(ax:qy K u t m id mid)(D:gC<=id)(H:g8<=mid){cs kY:List Value}(ar:bj u K cs kY){v bq:Value}(ab:bW u (gO K id mid) v bq):
    ∃cy,od gC g8 id mid K u t m (t.a4 id (some ⟨cs,true⟩)) (m.a4 mid (some ⟨kY,true⟩)) v bq cy:=
  ⟨gO K id mid,Mr M ax ar,ab,adJ ax D H,λo aD=>by simp[gO,aD],.inr (by simp[gO])⟩
theorem od.Db(M:dR K u t m){v bq:Value}(ab:bW u K v bq): ∃cy,od gC g8 id mid K u t m t m v bq cy:=⟨K,M,ab,eF.refl,λ_ _=>rfl,.inl rfl⟩
theorem adQ(M:dR K u t m)(bE:gJ u K z aj){k:ad}(ar:k.jB=false)(aD:vU k=true)(ao:k.hZ z t=true)(ax:k.eU=true->qy K u t m id mid)(D:gC<=id)(H:g8<=mid):
    k.ok aj m=true/\ ∃cy,od gC g8 id mid K u t m (k.my id z t) (k.gu mid aj m) (k.ia id z t) (k.val mid aj m) cy:=by
  by_cases bf:k.SA=true
  · obtain⟨a,b⟩:=aww M bE bf aD ao id mid;obtain⟨aL,aU⟩:=awv (z:=z) (aj:=aj) (t:=t) (m:=m) bf (id:=id) (iz:=mid);refine⟨a,?_⟩;rw[aL,aU];exact od.Db M b
  · simp only[vU,aX]at aD;obtain⟨az,bL⟩:=aD;have vt:gO K id mid id=some mid:=(by simp[gO]);cases k with
    |dm J=>exact⟨rfl,od.new M (ax rfl) D H (bj.cv bL) (.cD vt)⟩
    | lQ x=>simp[ad.gN]at az;exact⟨(bE.X az).U ao,od.new M (ax rfl) D H (bE.X az).O (.cD vt)⟩
    | fI a n J ps=>have mS: ∀p∈ps,cL p.2.2=true:= λp af=>eD.1 az _ (by simp only[ad.gN];exact List.mem_map_of_mem af);exact⟨adZ bE rfl mS ao,od.new M (ax rfl) D H (St bE (bj.cv bL) mS) (.slice vt)⟩
    | nm x=>simp[ad.gN]at az;simp only[ad.hZ,ad.ok,aX]at ao;have e:=zS (bE.X az) ao.1;simp only[ad.ok,ad.ia,ad.val,ad.my,ad.gu,e,aX];exact⟨ao,od.new M (ax rfl) D H (av1 _) (.slice vt)⟩
    | jq J bytes zero l c=>simp[ad.gN]at az;have EU:=ao;simp only[ad.hZ,ad.ok,aX]at ao;have aL:=pk (bE.X az.1) ao.1.1.1.1.1.1;have aU:=pk (bE.X az.2) ao.1.1.1.1.1.2;simp only[ad.ok,ad.ia,ad.val,ad.my,ad.gu,aL,aU,aX];exact⟨ao,od.new M (ax rfl) D H (bj.flatten (bj.cv bL)) (.slice vt)⟩
    | me J bytes zero x n=>simp[ad.gN]at az;simp only[ad.hZ,ad.ok,aX]at ao;have aL:=pk (bE.X az.2) ao.1.1.1.1.2;have G:=bE.X az.1;have h1:=LW ao.1.1.1.1.1;rw[h1]at G;have aU:=(G.hB rfl).trans h1.symm;simp only[ad.ok,ad.ia,ad.val,ad.my,ad.gu,aL,aU,aX];exact⟨ao,od.new M (ax rfl) D H (bj.flatten (bj.cv bL)) (.slice vt)⟩
    | hg zero x=>
      simp[ad.gN]at az;have G:=bE.X az;simp only[ad.hZ,ad.ok,aX,eM]at ao;obtain⟨⟨aQ,a8⟩,cN⟩:=ao;have mT:hC (X z x)=false:=by cases fA:X z x<;>simp[fA,fG]at aQ<;>rfl
      have w1:=HV M G (J:=zero.length) (by rw[ku,mT];exact aQ);have vi:=aeP M G a8;simp only[ad.ok,ad.ia,ad.val,ad.my,ad.gu,aX,eM];refine⟨⟨⟨w1,vi⟩,cN⟩,?_⟩;cases fA:X z x with
      | slice p l c=>
        rw[fA]at G aQ a8;cases p with
        | none=>have h1:=G.hB (by simpa[fG,dO]using aQ);rw[h1];exact od.Db M bW.undef
        | some dV=>
          obtain⟨wL,A4,IJ⟩:=dV;cases aM:t.Y wL with
          |none=>simp[fG,aM]at aQ
          | some y=>
            have iK:y.own=true:=(by simpa[jG,aM]using a8);have k0:mf t zero (.slice (some ⟨wL,A4,IJ⟩) l c)=t.a4 wL (some ⟨gx y.cells A4 (List.replicate l zero).flatten,y.own⟩):=(by simp only[mf,aM]);rcases G.mu with⟨b,aL,aU,cz⟩|⟨aL,aU,cz,gR⟩
            · simp only at aL aU cz;subst aU;obtain⟨cs,w,a7,bD,b4⟩:=M.qB aL aM;have aZ:=bD iK;subst aZ;rw[k0,cz];simp only[mf,a7,iK];refine⟨K,?_,bW.undef,Nq M aL aM iK,λ_ _=>rfl,.inl rfl⟩;exact afj M aL aM iK a7 (by
                have: ∀(ck:List Value) (cs:List Value) (o:Nat),(gx cs o ck).length=cs.length:=by
                  intro ck;induction ck with
                  |nil=>intro cs o;rfl
                  |cons v ck cn=>intro cs o;simp only[gx,cn,List.length_set]
                exact this _ _ _) (b4.gx _ (bj.flatten (bj.cv bL))) rfl
            · simp only at aL aU cz;subst cz;have mh:t.a4 wL (some ⟨gx y.cells A4 (List.replicate 0 zero).flatten,y.own⟩)=t:=aee aM;rw[k0,mh,gR];exact od.Db M bW.undef
      |_=>simp[fA,fG]at aQ
    | m0=>have:=ax rfl;exact⟨rfl,gO K id mid,avJ M this ⟨rfl,λi e dY a=>by simp at a⟩,.map vt,avI this D H,λo aD=>by simp[gO,aD],.inr vt⟩
    | store n x v=>
      simp[ad.gN]at az;have G:=bE.X az.1;have ab:=bE.X az.2;simp only[ad.hZ,ad.ok,aX,eM]at ao;obtain⟨⟨⟨aQ,a8⟩,cN⟩,dP⟩:=ao;have mT:l2 (X z x)=false:=by cases fA:X z x<;>simp[fA,gk]at aQ<;>rfl
      have w1:=DR M G (n:=n) (by rw[o6,mT];exact aQ);simp only[ad.ok,ad.ia,ad.val,ad.my,ad.gu,aX,eM];cases fA:X z x with
      | pointer p=>
        cases p with
        |none=>simp[fA,gk]at aQ
        | some a=>
          rw[fA]at G aQ a8;obtain⟨b,aL,aU,cz⟩:=G.p7;obtain⟨wL,A4,IJ⟩:=a;simp only at aL aU cz;subst aU;cases aM:t.Y wL with
          |none=>simp[aM]at aQ
          | some y=>
            simp only[agC,aM,eM]at aQ;simp only[UF,aM]at a8;obtain⟨cs,w,a7,bD,b4⟩:=M.qB aL aM;have aZ:=bD a8;subst aZ;rw[cz]at w1⊢;simp only[ayA,aM,a7,UF,a8];refine⟨⟨⟨⟨w1,trivial⟩,ab.U cN⟩,by rw[<-ab.O.1];exact dP⟩,K,?_,bW.undef,Nq M aL aM a8,λ_ _=>rfl,.inl rfl⟩;exact afj M aL aM a8 a7 (by
              have: ∀(ck:List Value) (cs:List Value) (o:Nat),(gx cs o ck).length=cs.length:=by
                intro ck;induction ck with
                |nil=>intro cs o;rfl
                |cons v ck cn=>intro cs o;simp only[gx,cn,List.length_set]
              exact this _ _ _) (b4.gx _ ab.O) rfl
      |_=>simp[fA,gk]at aQ
    | app J bytes x y=>
      simp[ad.gN]at az;have G:=bE.X az.1;have ah:=bE.X az.2;simp only[ad.hZ,aX,eM]at ao;obtain⟨⟨⟨⟨⟨aQ,a8⟩,cN⟩,dP⟩,fF⟩,fg⟩:=ao;have mT:hC (X z x)=false:=by cases fA:X z x<;>simp[fA,fG]at aQ<;>rfl
      have Wa:ku t J (X z x)=true:=(by rw[ku,mT];exact aQ);have w1:=HV M G Wa;have vi:=aeP M G a8;have aid:=HV M ah cN;have Oo:=Nd ah;have On:gv (X z x)=gv (X aj x):=(by rw[<-Nd G,jP,mT];rfl);have pT:bj u K (fV t J (X z x)) (fV m J (X aj x)):=(by have:=I2 M G Wa;rw[kX,mT]at this;exact this);have yG:=I2 M ah cN;simp only[ad.ok,ad.ia,ad.val,ad.my,ad.gu,aX,eM];refine⟨⟨⟨⟨⟨⟨w1,vi⟩,aid⟩,dP⟩,by rw[<-On,<-Oo];exact fF⟩,by rw[<-On,<-Oo];exact fg⟩,?_⟩;rw[<-Oo,<-On];split
      · exact od.Db M G
      · have ow:=ax rfl;have key: ∃bO bd,j3 t (X z x)=bO/\j3 m (X aj x)=bd/\dR K u bO bd/\eF gC g8 K u t m K u bO bd/\bO.next=t.next/\bd.next=m.next:=by
          refine⟨_,_,rfl,rfl,?_⟩;unfold fG at aQ;split at aQ
          · next fA=>rw[fA]at G⊢;have:X aj x=_:=G.hB (by simpa[dO]using aQ);rw[this];exact⟨M,eF.refl,rfl,rfl⟩
          · next a l c fA=>
            rw[fA]at G a8⊢;rcases G.mu with⟨b,aL,aU,cz⟩|⟨aL,aU,cz,gR⟩
            · rw[cz];cases aM:t.Y a.block with
              |none=>simp[jG,aM]at a8
              | some y=>simp only[jG,aM]at a8;exact⟨ac7 M aL aM a8,Nq M aL aM a8,rfl,rfl⟩
            · rw[gR];exact⟨VD M,VC,rfl,rfl⟩
          · cases aQ
        obtain⟨bO,bd,aL,aU,vs,aiR,ahO,ahP⟩:=key;rw[aL,aU];have ajf:qy K u bO bd id mid:=⟨ow.e,ow.b,ow.f,by rw[ahO];exact ow.r8,by rw[ahP];exact ow.qb⟩;obtain⟨cy,q⟩:=od.new (gC:=gC) (g8:=g8) vs ajf D H (pT.oh yG) (v:= .slice (some ⟨id,0,none⟩) (gv (X z x)+jP (X z y)) J) (bq:= .slice (some ⟨mid,0,none⟩) (gv (X z x)+jP (X z y)) J) (.slice vt);exact⟨cy,q.TE,q.val,aiR.trans q.bA,q.Hj,q.self⟩
    | lJ a5 x fB v=>
      simp[ad.gN]at az;have G:=bE.X az.1;have aa:=bE.X az.2.1;have ab:=bE.X az.2.2;simp only[ad.hZ,ad.ok]at ao;split at ao
      · next b fA=>
        cases aw:t.eJ b with
        |none=>simp[aw]at ao
        | some a9=>
          simp only[aw,aX]at ao;obtain⟨c,c2,a7,bD,b4⟩:=M.maps b a9 aw;rw[fA]at G;obtain⟨lR,e0,fT⟩:=G.Fb;rw[a7]at e0;cases e0;obtain⟨fC,g3,jF⟩:=ac6 b4 aa ao.1;simp only[ad.ok,ad.ia,ad.val,ad.my,ad.gu,fA,fT,um,aw,bD,AV,aX];refine⟨⟨fC,ab.S ao.2⟩,K,?_,bW.undef,?_,λ_ _=>rfl,.inl rfl⟩
          · rw[g3];have xb:bW u K (X z fB) (X z fB):=(by rw[g3]at aa;exact aa);have aja:=adE xb ab b4 jF;have ee:=M.c0 b c a7;refine⟨λp y ah=> ?_,λp fr af=> ?_,λp af=> ?_,M.inj,M.c0,λd ds aA=> ?_⟩
            · by_cases ze:p=b
              · subst ze;rw[Ew ee.1]at ah;cases ah;exact .inl ⟨c,[],true,a7,Ew ee.2,λ_=>rfl,bj.nil⟩
              · rw[ml ze]at ah;rcases M.hO p y ah with⟨lR,ds,w,D,H,aq,aF⟩|D
                · exact .inl ⟨lR,ds,w,D,by rw[ml (M.q1 D a7 ze),H],aq,aF⟩
                · exact .inr D
            · by_cases ze:p=b
              · subst ze;rw[Eu ee.1]at af;cases af;exact⟨c,_,a7,Eu ee.2,aja⟩
              · rw[Et ze]at af;obtain⟨lR,c2,D,H,aq⟩:=M.maps p fr af;exact⟨lR,c2,D,by rw[Et (M.q1 D a7 ze),H],aq⟩
            · have cZ:p≠b:= λe=>by subst e;rw[a7]at af;cases af
              show(if p=b then _ else t.mp p)=none;rw[if_neg cZ];exact M.h4 p af
            · obtain⟨⟨cT,aQ⟩,a8⟩:=M.bA d ds aA;have aM:=(h2 aw).1;have Wv:d≠c:= λe=>by subst e;have:=a8 b _ a7 aM;cases this
              refine⟨⟨cT,by rw[ml Wv,aQ]⟩,λp y af ah=> ?_⟩;have:p≠b:= λe=>by subst e;rw[a7]at af;cases af;exact Wv rfl
              rw[ml this]at ah;exact a8 p y af ah
          · have aM:=(h2 aw).1;refine⟨fM.refl _,gW.refl _,λ_ _ h=> .inl h,λ_ _ h=> .inl h,ev _,ev _,λd aA aZ=> ?_,λd aA=> λ⟨p,bp,h,bK,qL⟩=> ?_,λd aA=> λ⟨p,bp,h,bK⟩=> ?_⟩
            · exact ml (λe=>aZ (by subst e;exact⟨b,_,a7,aM,rfl⟩))
            · by_cases af:p=b
              · subst af;rw[a7]at h;cases h;exact⟨p,_,a7,aM,rfl⟩
              · rw[ml af]at bK;exact⟨p,bp,h,bK,qL⟩
            · by_cases af:p=b
              · subst af;rw[a7]at h;cases h;exact⟨p,_,a7,aM⟩
              · rw[ml af]at bK;exact⟨p,bp,h,bK⟩
      · cases ao
    |dA=>cases ar
    |iw=>cases ar
    |kn=>cases ar
    |_=>exact absurd rfl bf
theorem Vp(M:dR K u t m)(bE:gJ u K z aj){a5:List (Operand×Operand)}(az:a5.all (λp=>cL p.1&&cL p.2)=true)(h:ig z t a5=true):o9 aj a5=true:=by
  simp only[o9,ig,eD]at h az⊢;intro p af;have D:=h p af;have H:=az p af;obtain⟨x,y⟩:=p;simp only[aX]at H;simp only at D⊢;have G:=bE.X H.1;have ah:=bE.X H.2;generalize X z x=a at G D;generalize X aj x=dD at G;generalize X z y=b at ah D;generalize X aj y=ca at ah;have ac3: ∀{a dD:Value},bW u K a dD->jC a=true-> ∀c,N dD=some c-> ∃cs,u c=some cs:= λaz ah c ar=>by
    cases az with
    |cv h=>have:=(rR h).2.2;rw[this]at ah;cases ah
    |hX e dn=>simp[N]at ar;subst ar;exact⟨_,dn⟩
    |hj=>simp[N]at ar
    |eO e dn=>simp[N]at ar;subst ar;exact⟨_,dn⟩
    |_=>simp[jC]at ah
  have L5: ∀{a dD:Value},bW u K a dD->jC a=false-> ∀c,N dD=some c-> ∃o,N a=some o/\K o=some c:= λaz ah c ar=>by
    cases az with
    | cv h=>rename_i a;unfold N at ar;split at ar<;>simp[dO]at h ar
    |cD bR=>simp[N]at ar;subst ar;exact⟨_,rfl,bR⟩
    |slice bR=>simp[N]at ar;subst ar;exact⟨_,rfl,bR⟩
    |map bR=>simp[N]at ar;subst ar;exact⟨_,rfl,bR⟩
    |hX e=>subst e;simp at ah
    |hj e=>subst e;simp at ah
    |eO e=>subst e;simp at ah
    |_=>simp[N]at ar
  have ac2: ∀{c:Nat} {cs:List Value} {b:Value} {o:Nat},u c=some cs->N b=some o->DZ t b=true->K o=some c->False:= λ{c cs b o} dn hb aD bR=>by
    simp only[DZ,hb,tc]at aD;cases aM:t.Y o with
    |none=>simp[aM]at aD
    | some x=>simp only[aM]at aD;have:=(M.bA c cs dn).2 o x bR aM;rw[aD]at this;cases this
  cases mS:N dD with
  |none=>rfl
  | some c=>
    cases ft:N ca with
    |none=>rfl
    | some d=>
      simp only;unfold II at D;split at D
      · next NG=>simp only[aX,uR]at D;obtain⟨cs,da⟩:=ac3 G NG c mS;obtain⟨o,dq,hy⟩:=L5 ah D.1 d ft;simp only[bne_iff_ne,ne_eq];intro e;subst e;exact ac2 da dq D.2 hy
      · next NG=>
        split at D
        · next yp=>obtain⟨cs,da⟩:=ac3 ah yp d ft;obtain⟨o,dq,hy⟩:=L5 G (by simpa using NG) c mS;simp only[bne_iff_ne,ne_eq];intro e;subst e;exact ac2 da dq D hy
        · next yp=>obtain⟨o,dq,hy⟩:=L5 G (by simpa using NG) c mS;obtain⟨o',yL,ahU⟩:=L5 ah (by simpa using yp) d ft;rw[dq,yL]at D;simp only[bne_iff_ne,ne_eq]at D⊢;intro e;subst e;exact D (M.inj o o' c hy ahU)
end
def fK{c7 lM:Type}(f:c7->Option lM):List c7->Option (List lM)
  |[]=>some []
  | x::xs=>match f x with
    | some y=>(match fK f xs with
      |some ys=>some (y::ys)
      |none=>none)
    |none=>none
theorem CU{c7 lM:Type}{f:c7->Option lM}: ∀{l:List c7} {dj:List lM},fK f l=some dj->dj.length=l.length/\ ∀(i:Nat) (y:lM),dj[i]?=some y-> ∃x,l[i]?=some x/\f x=some y
  |[],dj,h=>by cases h;exact⟨rfl,λi y h=>by simp at h⟩
  | x::xs,dj,h=>by
    simp only[fK]at h;cases a3:f x with
    |none=>simp[a3]at h
    | some y=>
      cases ay:fK f xs with
      |none=>simp[a3,ay]at h
      | some ys=>
        simp only[a3,ay,lL]at h;subst h;obtain⟨D,H⟩:=CU ay;refine⟨by simp[D],λi J bL=> ?_⟩;cases i with
        |zero=>simp at bL;subst bL;exact⟨x,rfl,a3⟩
        |succ i=>exact H i J (by simpa using bL)
theorem Hf{c7:Type}{f:c7->Option c7}: ∀{l:List c7},(∀x∈l,f x=some x)->fK f l=some l
  |[],_=>rfl
  | x::xs,h=>by have cn:fK f xs=some xs:=Hf λy ah=>h y (Dy _ ah);simp only[fK,h x (by simp),cn]
def lU(J:Nat):Nat->List Value->List (List Value)
  |0,_=>[]
  |n+1,cs=>cs.take J::lU J n (cs.drop J)
theorem Vl(J:Nat): ∀(n:Nat) (cs:List Value),(lU J n cs).length=n
  |0,_=>rfl
  |n+1,cs=>by simp[lU,Vl J n]
theorem Vk{J:Nat}: ∀{n:Nat} {cs:List Value} {i:Nat} {r:List Value},(lU J n cs)[i]?=some r->i<n/\r=(cs.drop (i*J)).take J
  |0,cs,i,r,h=>by simp[lU]at h
  | n+1,cs,i,r,h=>by
    cases i with
    |zero=>simp[lU]at h;subst h;simp
    | succ i=>simp only[lU,Dw]at h;obtain⟨D,H⟩:=Vk h;refine⟨by omega,?_⟩;rw[H,yA,kR];congr 2;omega
theorem Oa{J:Nat}: ∀{bg:List (List Value)},(∀r∈bg,r.length=J)->lU J bg.length bg.flatten=bg
  |[],_=>rfl
  | r::bg,h=>by have D:=h r (by simp);simp only[oX,lU,qu];rw[<-D,List.take_left,List.drop_left,D,Oa λx G=>h x (by simp[G])]
def gP(v:Value):Bool:=dO v||jC v
def dZ:Nat->W->Value->Option Value
  |0,_,v=>if gP v then some v else none
  | n+1,t,v=>if gP v then some v else match v with
    | .slice (some a) l J=>match t.Y a.block with
      | some x=>if a.spot.isNone&&decide (a.off+l*J<=x.cells.length)then
          (match fK (fK (dZ n t)) (lU J l (x.cells.drop a.off))with
            |some bg=>some (au bg J)
            |none=>none)else none
      |none=>none
    | .agg cs=>match fK (dZ n t) cs.toList with
      |some l=>some (.agg l.toArray)
      |none=>none
    | .tuple cs=>match fK (dZ n t) cs.toList with
      |some l=>some (.tuple l.toArray)
      |none=>none
    | .func (.func f) xs cs=>match fK (dZ n t) xs.toList,fK (dZ n t) cs.toList with
      |some l,some k=>some (.func (.func f) l.toArray k.toArray)
      |_,_=>none
    |_=>none
def ei:Nat->W->Value->List Nat
  |0,_,_=>[]
  | n+1,t,v=>if gP v then[]else match v with
    | .slice (some a) _ _=>a.block::(match t.Y a.block with
      |some x=>x.cells.flatMap (ei n t)
      |none=>[])
    | .agg cs=>cs.toList.flatMap (ei n t)
    | .tuple cs=>cs.toList.flatMap (ei n t)
    | .func _ xs cs=>xs.toList.flatMap (ei n t)++cs.toList.flatMap (ei n t)
    |_=>[]
theorem IZ{u dv:fE}{K:eE}(dn:gW u dv){v bq:Value}(ab:bW u K v bq)(ar:gP v=true):bW dv k6 v bq:=by
  cases ab with
  |cv h=>exact .cv h
  |hX e D H aq aF=>exact .hX e (dn _ _ D) H aq λi j r x y a b c=>(aF i j r x y a b c).cd dn (fM.refl _)
  |hj e=>exact .hj e
  |eO e D H aq=>exact .eO e (dn _ _ D) H λj x y a b=>(aq j x y a b).cd dn (fM.refl _)
  |_=>simp[gP,dO,jC]at ar
theorem Em{u dv:fE}{K:eE}{t m:W}(M:dR K u t m)(dn:gW u dv): ∀(n:Nat) {v bq r:Value},bW u K v bq->dZ n t v=some r->(∀o∈ei n t v,(t.Y o).isSome=true-> ∀b cs w,K o=some b->m.Y b=some ⟨cs,w⟩->dv b=some cs)->bW dv k6 r bq
  | 0,v,bq,r,ab,h,_=>by
    simp only[dZ]at h;split at h
    · next ar=>cases h;exact IZ dn ab ar
    · cases h
  | n+1,v,bq,r,ab,h,ay=>by
    simp only[dZ]at h;simp only[ei]at ay;split at h
    · next ar=>cases h;exact IZ dn ab ar
    · next ar=>
      rw[if_neg ar]at ay;have Mg: ∀{xs ys b8:List Value},bj u K xs ys->fK (dZ n t) xs=some b8->(∀o∈xs.flatMap (ei n t),(t.Y o).isSome=true-> ∀b cs w,K o=some b->m.Y b=some ⟨cs,w⟩->dv b=some cs)->bj dv k6 b8 ys:= λaC aD aJ=>by obtain⟨D,H⟩:=CU aD;refine⟨by rw[D,aC.1],λi x y G ah=> ?_⟩;obtain⟨cl,fA,bh⟩:=H i x G;exact Em M dn n (aC.2 i cl y fA ah) bh λo aD=>aJ o (tx.2 ⟨cl,hR fA,aD⟩)
      split at h
      · next a l J=>
        cases aM:t.Y a.block with
        |none=>simp[aM]at h
        | some x=>
          simp only[aM]at h ay;split at h
          · next hb=>
            simp only[aX,eM]at hb;cases Pt:fK (fK (dZ n t)) (lU J l (x.cells.drop a.off))with
            |none=>simp[Pt]at h
            | some bg=>
              simp only[Pt,lL]at h;subst h;obtain⟨aQ,a8⟩:=CU Pt;rw[Vl]at aQ;rcases ab.mu with⟨b,aL,aU,rfl⟩|⟨aL,aU,cz,rfl⟩
              · obtain⟨cs,w,a7,bD,b4⟩:=M.qB aL aM;have aiB:=ay a.block (by simp) (by rw[aM];rfl) b cs w aL a7;rw[<-aQ];have zf: ∀(i:Nat) r,bg[i]?=some r->i<l/\ ∃l7,l7=(x.cells.drop (a.off+i*J)).take J/\fK (dZ n t) l7=some r:= λi r ai=>by
                  obtain⟨l7,eB,hk⟩:=a8 i r ai;obtain⟨iO,vM⟩:=Vk eB;exact⟨iO,l7,by rw[vM,yA],hk⟩
                refine .hX rfl aiB (by rw[aQ,<-b4.1];exact hb.2) (λi r ai=> ?_) λi j r bp y ai bx ah=> ?_
                · obtain⟨iO,l7,vM,z0⟩:=zf i r ai;rw[(CU z0).1,vM];simp;have:(i+1)*J<=l*J:=qt _ iO;rw[kR]at this;omega
                · obtain⟨iO,l7,vM,z0⟩:=zf i r ai;obtain⟨aff,ui,L3⟩:=(CU z0).2 j bp bx;rw[vM,uQ]at ui;split at ui
                  · rw[yv]at ui;refine Em M dn n (b4.2 _ aff y ui ah) L3 λo aD=>ay o ?_;exact Dy _ (tx.2 ⟨aff,hR ui,aD⟩)
                  · cases ui
              · subst cz;have:bg=[]:=AR aQ;subst this;exact .hj rfl
          · cases h
      · next cs=>
        cases aD:fK (dZ n t) cs.toList with
        |none=>simp[aD]at h
        | some l=>simp only[aD,lL]at h;subst h;obtain⟨ys,rfl,aC⟩:=ab.qV;have:=(Mg aC aD ay).agg;simpa using this
      · next cs=>
        cases aD:fK (dZ n t) cs.toList with
        |none=>simp[aD]at h
        | some l=>simp only[aD,lL]at h;subst h;obtain⟨ys,rfl,aC⟩:=ab.zo;have:=(Mg aC aD ay).tuple;simpa using this
      · next f xs cs=>
        cases aD:fK (dZ n t) xs.toList with
        |none=>simp[aD]at h
        | some l=>
          cases ES:fK (dZ n t) cs.toList with
          |none=>simp[aD,ES]at h
          | some k=>simp only[aD,ES,lL]at h;subst h;obtain⟨ys,ds,rfl,aC,aa⟩:=ab.zn;have D:=Mg aC aD λo h=>ay o (kQ.2 (.inl h));have H:=Mg aa ES λo h=>ay o (kQ.2 (.inr h));exact .func (by simpa using D.1) (by simpa using D.2) (by simpa using H.1) (by simpa using H.2)
      · cases h
def yO(n:Nat)(t:W)(args:List Value):Option (List Value):=fK (dZ n t) args
def qm(t:W):List Nat->W
  |[]=>t
  |o::l=>qm (match t.Y o with|some x=>t.a4 o (some ⟨x.cells,false⟩)|none=>t) l
def hg(t:W)(l:List Nat):W:=⟨t.next,t.iv,λo=>if o∈l then none else t.mp o⟩
@[simp] theorem ahl(t:W):hg t []=t:=by simp[hg]
@[simp] theorem aDw(t:W)(l:List Nat)(o:Nat):(hg t l).Y o=t.Y o:=rfl
@[simp] theorem aDx(t:W)(l:List Nat):(hg t l).next=t.next:=rfl
theorem ak:(∀(m:W) (b:Nat) (x:Option fm),(m.a4 b x).next=m.next)/\(∀(m:W) (k:Nat),(m.du k).next=m.next+k)/\(∀(m:W) (b:Nat) (a9:List (Value×Value)),(m.gH b a9).next=m.next)/\ ∀(t:W) (l:List Nat),(hg t l).next=t.next:=⟨λ_ _ _=>rfl,λ_ _=>rfl,λ_ _ _=>rfl,λ_ _=>rfl⟩
@[simp] theorem aLb(t:W):qm t []=t:=rfl
@[simp] theorem M8(t:W)(o:Nat)(l:List Nat):qm t (o::l)=qm (match t.Y o with|some x=>t.a4 o (some ⟨x.cells,false⟩)|none=>t) l:=rfl
theorem TD: ∀(l:List Nat) (t:W),(qm t l).next=t.next
  |[],t=>rfl
  | o::l,t=>by rw[M8,TD l];split<;>rfl
theorem Dd: ∀(l:List Nat) (t:W) (p:Nat) (x:fm),(qm t l).Y p=some x-> ∃y,t.Y p=some y/\x.cells=y.cells/\(x.own=true->y.own=true)/\(p∈l->x.own=false)
  |[],t,p,x,h=>⟨x,h,rfl,λh=>h,λh=>by simp at h⟩
  | o::l,t,p,x,h=>by
    rw[M8]at h;obtain⟨y,D,H,aq,aF⟩:=Dd l _ p x h;cases aM:t.Y o with
    | none=>
      rw[aM]at D;refine⟨y,D,H,aq,λaf=> ?_⟩;rcases g6.1 af with rfl|af
      · simp only at D;rw[aM]at D;cases D
      · exact aF af
    | some J=>
      rw[aM]at D;simp only at D;by_cases Pq:p=o
      · subst Pq;rw[eZ (bm aM)]at D;cases D;have a3:x.own=false:=by
          cases G:x.own with
          |false=>rfl
          |true=>have:=aq G;cases this
        exact⟨J,aM,H,(λG=>by rw[a3]at G;cases G),λ_=>a3⟩
      · rw[b3 Pq]at D;exact⟨y,D,H,aq,λaf=>aF ((g6.1 af).resolve_left Pq)⟩
theorem TC: ∀(l:List Nat) (t:W),(qm t l).mp=t.mp
  |[],t=>rfl
  | o::l,t=>by rw[M8,TC l];split<;>rfl
section
variable (P:Program)
def tC(u:fE)(m:W):Prop:= ∀b cs,u b=some cs-> ∃w,m.Y b=some ⟨cs,w⟩
def bH(f:Nat)(args:List Value)(r:Value):Prop:= ∀(u:fE) (m:W) (bQ:List Value),tC u m->bj u k6 args bQ->
  fZ P f bQ m λdF an=>m.next<=an.next/\(∀b,b<m.next->an.Y b=m.Y b)/\ ∃cF,gW u cF/\tC cF an/\bW cF k6 r dF
def fQ(f:Nat)(args:List Value)(t:W)(cg:Value->W->Prop):Prop:= ∀(K:eE) (u:fE) (bQ:List Value) (m:W),dR K u t m->bj u K args bQ->
  fZ P f bQ m λdF an=> ∃cy cF r aT,cg r aT/\dR cy cF aT an/\bW cF cy r dF/\eF t.next m.next K u t m cy cF aT an
def fP(c:I)(z:aP)(t:W)(Q:dy->aP->W->Prop):Prop:=mA c=true-> ∀(K:eE) (u:fE) (aj:aP) (m:W),dR K u t m->gJ u K z aj->
  hD P c aj m λe jj an=> ∃cy cF bI aT,Q e bI aT/\dR cy cF aT an/\gJ cF cy bI jj/\eF t.next m.next K u t m cy cF aT an
structure bz where
  f:Nat
  fn:List Value->Option Value
  ok: ∀args r,fn args=some r->bH P f args r
structure j9 where
  f:Nat
  fn:List Value->W->Option (Value×W)
  ok: ∀args t r aT,fn args t=some (r,aT)-> ∀cg:Value->W->Prop,cg r aT->fQ P f args t cg
structure nN where
  p:List (bz P)
  i:List (j9 P)
variable {P}
def w5:List (j9 P)->Nat->Bool
  |[],_=>false
  |s::l,f=>s.f==f||w5 l f
def r5:List (j9 P)->Nat->List Value->W->(Value->W->Prop)->Prop
  |[],_,_,_,_=>False
  | s::l,f,args,t,aW=>if s.f=f then(match s.fn args t with
    |some (r,aT)=>aW r aT
    |none=>False)else r5 l f args t aW
def Bq:List (bz P)->Nat->Bool
  |[],_=>false
  |s::l,f=>s.f==f||Bq l f
def tj:List (bz P)->Nat->List Value->(Value->Prop)->Prop
  |[],_,_,_=>False
  | s::l,f,args,cg=>if s.f=f then(match s.fn args with
    |some r=>cg r
    |none=>False)else tj l f args cg
def uz(aB:List (bz P))(f:Nat)(args:List Value)(t:W)(aW:Value->W->Prop):Prop:=match yO 9 t args with
  |some ts=>tj aB f ts λr=>aW r (if mj r then hg t (args.flatMap (ei 9 t))else qm t (args.flatMap (ei 9 t)))
  |none=>False
def Ms(t:W)(o:Nat):Bool:=match t.Y o with|some x=> !x.cells.isEmpty|none=>false
def jY(t:W)(l:List Nat):W:=⟨t.next,λb=>if b∈l then none else t.iv b,t.mp⟩
def lH(t bO:W)(l:List Nat):W:=⟨bO.next,λb=>if b∈l then t.iv b else bO.iv b,bO.mp⟩
def k8(z:aP)(t:W):List (Operand×Operand)->List Nat
  |[]=>[]
  | p::l=>match N (X z p.1)with
    |some o=>if tc t o then o::k8 z t l else k8 z t l
    |none=>k8 z t l
def wQ(aB:nN P)(f:Nat)(args:List Value)(t:W):List Nat->(Value->W->Prop)->Prop
  |[],aW=>if w5 aB.i f then r5 aB.i f args t aW else fQ P f args t aW
  |o::l,aW=>(o::l).all (Ms t)=true/\if w5 aB.i f then r5 aB.i f args (jY t (o::l)) (λr bO=>aW r (lH t bO (o::l)))else fQ P f args (jY t (o::l)) λr bO=>aW r (lH t bO (o::l))
def sq(aB:nN P)(f:Nat)(args:List Value)(t:W)(L:List Nat)(aW:Value->W->Prop):Prop:=
  if Bq aB.p f then uz aB.p f args t aW else wQ aB f args t L aW
def D7(aB:nN P)(v:Value)(args:List Value)(t:W)(L:List Nat)(aW:Value->W->Prop):Prop:=match v with
  | .func (.func f) first lT=>sq aB f (first.toList++args++lT.toList) t L aW
  |_=>False
def js(aB:nN P)(base:Nat)(o:bn)(z:aP)(t:W)(aW:aP->W->Prop):Prop:=match o.k with
  | .dA f bQ=>sq aB f (bQ.map (X z)) t (k8 z t o.a5) λr aT=>aW (c1 z o.d r) aT
  | .iw x bQ=>D7 aB (X z x) (bQ.map (X z)) t (k8 z t o.a5) λr aT=>aW (c1 z o.d r) aT
  | .kn _ _ _=>False
  |k=>k.hZ z t=true/\ig z t o.a5=true/\aW (c1 z o.d (k.ia (base+o.aN) z t)) (k.my (base+o.aN) z t)
def dk(aB:nN P)(base:Nat):List bn->aP->W->(aP->W->Prop)->Prop
  |[],z,t,aW=>aW z t
  |o::bV,z,t,aW=>if eH z o.g=true then js aB base o z t (λz t=>dk aB base bV z t aW)else dk aB base bV (c1 z o.d undef) t aW
def iU(aB:nN P):I->aP->W->(dy->aP->W->Prop)->Prop
  | .skip,z,t,Q=>Q .et z t
  | .E ops,z,t,Q=>dk aB t.next ops z (gQ ops t) (Q .et)
  | .qa _ _ _,_,_,_=>False
  | .B a b,z,t,Q=>iU aB a z t λe z t=>match e with
    | .et=>iU aB b z t Q
    |e=>Q e z t
  | .aR c a b,z,t,Q=>rT (X z c)=true/\if tI (X z c)=true then iU aB a z t Q else iU aB b z t Q
  | .block id c,z,t,Q=>iU aB c z t λe z t=>match e with
    | .ba iz=>if iz=id then Q .et z t else Q (.ba iz) z t
    |e=>Q e z t
  | .loop c,z,t,Q=>fP P (.loop c) z t Q
  | .ba id,z,t,Q=>Q (.ba id) z t
  | .aG,z,t,Q=>Q .aG z t
end
section
variable {P:Program} {u:fE} {K:eE} {t m:W}
theorem aeV{l:List (j9 P)}{f:Nat}{args:List Value}{t:W}{aW:Value->W->Prop}(h:r5 l f args t aW):fQ P f args t aW:=by
  induction l with
  |nil=>exact h.elim
  | cons s l cn=>
    simp only[r5]at h;split at h
    · next e=>
      cases a3:s.fn args t with
      |none=>rw[a3]at h;exact h.elim
      |some axb=>obtain⟨r,aT⟩:=axb;rw[a3]at h;have:=s.ok args t r aT a3 aW h;rw[e]at this;exact this
    · exact cn h
theorem bH.ayZ{f:Nat}{ts bQ:List Value}{r:Value}(h:bH P f ts r)(dn:tC u m)(az:bj u k6 ts bQ):fZ P f bQ m λdF an=>m.next<=an.next/\(∀b,b<m.next->an.Y b=m.Y b/\(u b=none->an.mp b=m.mp b))/\
    ∃cF,gW u cF/\tC cF an/\(∀b cs,cF b=some cs->u b=some cs\/m.next<=b)/\bW cF k6 r dF:=by
  obtain⟨p,af⟩: ∃p:W,p=⟨m.next,λb=>if(u b).isSome then m.iv b else none,m.mp⟩:=⟨_,rfl⟩;have ux:p.next=m.next:=by rw[af]
  have Sv:p.mp=m.mp:=by rw[af]
  have q3: ∀b,p.Y b=if(u b).isSome then m.Y b else none:= λb=>by
    rw[af];simp only[W.Y];split
    · rfl
    · split<;>rfl
  have part:u2 p m:=⟨ux,Sv,λb x G=>by
    rw[q3]at G;split at G
    · exact G
    · cases G⟩
  have O0:tC u p:= λb cs hb=>by obtain⟨w,aZ⟩:=dn b cs hb;exact⟨w,by rw[q3,hb];exact aZ⟩
  refine(fZ.frame part (h u p bQ O0 az)).cd λdF an aJ=> ?_;obtain⟨lu,⟨D,H,cF,aq,aF,br⟩,bV⟩:=aJ;refine⟨bV.next,λb hb=>⟨?_,λax=>(bV.An b hb (by rw[q3,ax];rfl)).2.2⟩,cF,aq,λb cs hb=> ?_,λb cs hb=> ?_,br⟩
  · cases aM:p.Y b with
    |none=>exact(bV.An b hb aM).1
    |some x=>rw[part.Y b x aM];exact bV.part.Y b x (by rw[H b (by rw[ux];exact hb),aM])
  · obtain⟨w,aZ⟩:=aF b cs hb;exact⟨w,bV.part.Y b _ aZ⟩
  · by_cases ee:b<m.next
    · left;obtain⟨w,aZ⟩:=aF b cs hb;cases aM:p.Y b with
      |none=>rw[(bV.An b ee aM).2.1]at aZ;cases aZ
      | some x=>
        rw[H b (by rw[ux];exact ee)]at aZ;rw[q3]at aZ;split at aZ
        · next M=>
          cases Wz:u b with
          |none=>rw[Wz]at M;cases M
          | some kY=>obtain⟨cT,ns⟩:=dn b kY Wz;rw[ns]at aZ;cases aZ;rfl
        · cases aZ
    · exact .inr (by omega)
theorem ahX{v bq:Value}(h:bW u K v bq)(a3:mj v=true):bq=v:=by
  unfold mj at a3;split at a3
  · obtain⟨ys,rfl,aC⟩:=h.qV;rename_i cs;have:ys.toList=cs.toList:=by
      apply List.ext_getElem
      · exact aC.1.symm
      · intro i D H;exact(aC.2 i _ _ (dx H) (dx D)).hB (eD.1 a3 _ (mI H))
    rw[<-pG (xs:=ys),this]
  · obtain⟨ys,rfl,aC⟩:=h.zo;rename_i cs;have:ys.toList=cs.toList:=by
      apply List.ext_getElem
      · exact aC.1.symm
      · intro i D H;exact(aC.2 i _ _ (dx H) (dx D)).hB (eD.1 a3 _ (mI H))
    rw[<-pG (xs:=ys),this]
  · exact h.hB a3
open Classical in
theorem Sx(M:dR K u t m){aB:List (bz P)}{f:Nat}{args bQ:List Value}(az:bj u K args bQ){aW:Value->W->Prop}(h:uz aB f args t aW):
    fZ P f bQ m λdF an=>(∀b,b<m.next->an.Y b=m.Y b)/\ ∃cF r aT,aW r aT/\dR K cF aT an/\bW cF K r dF/\eF t.next m.next K u t m K cF aT an:=by
  unfold uz at h;cases bL:yO 9 t args with
  |none=>rw[bL]at h;exact h.elim
  | some ts=>
    rw[bL]at h;simp only at h;obtain⟨l,aC⟩: ∃l,l=args.flatMap (ei 9 t):=⟨_,rfl⟩;rw[<-aC]at h;have hh: ∃r,bH P f ts r/\aW r (if mj r then hg t l else qm t l):=by
      clear bL aC;induction aB with
      |nil=>exact h.elim
      | cons s aB cn=>
        simp only[tj]at h;split at h
        · next e=>
          cases a3:s.fn ts with
          |none=>rw[a3]at h;exact h.elim
          |some r=>rw[a3]at h;exact⟨r,by have:=s.ok ts r a3;rw[e]at this;exact this,h⟩
        · exact cn h
    obtain⟨r,ay,ea⟩:=hh;obtain⟨dv,EA⟩: ∃dv:fE,dv= λb=>match u b with
      |some cs=>some cs
      |none=>if∃o,o∈l/\K o=some b/\(t.Y o).isSome=true then(m.Y b).map (·.cells)else none:=⟨_,rfl⟩
    have da:gW u dv:= λb cs hb=>by rw[EA];simp[hb]
    have dq: ∀b cs,dv b=some cs->u b=some cs\/(∃o,o∈l/\K o=some b):= λb cs hb=>by
      rw[EA]at hb;simp only at hb;split at hb
      · next D=>rw[D];exact .inl hb
      · split at hb
        · next D=>obtain⟨o,eB,hk,_⟩:=D;exact .inr ⟨o,eB,hk⟩
        · cases hb
    have Bg: ∀b cs,dv b=some cs->u b=some cs\/AX K t b:= λb cs hb=>by
      rw[EA]at hb;simp only at hb;split at hb
      · next D=>rw[D];exact .inl hb
      · split at hb
        · next D=>obtain⟨o,_,hk,iO⟩:=D;obtain⟨x,G⟩:=Io.1 iO;exact .inr ⟨o,x,hk,G⟩
        · cases hb
    have hy:tC dv m:= λb cs hb=>by
      rw[EA]at hb;simp only at hb;split at hb
      · next D=>cases hb;exact(M.bA b _ D).1
      · split at hb
        · cases aM:m.Y b with
          |none=>rw[aM]at hb;cases hb
          |some x=>rw[aM]at hb;cases hb;exact⟨x.own,rfl⟩
        · cases hb
    have kh: ∀o∈l,(t.Y o).isSome=true-> ∀b cs w,K o=some b->m.Y b=some ⟨cs,w⟩->dv b=some cs:= λo aD fi b cs w bR aM=>by
      rw[EA];simp only;cases nS:u b with
      |some ds=>obtain⟨⟨cT,ns⟩,_⟩:=M.bA b ds nS;rw[aM]at ns;cases ns;rfl
      |none=>simp only;rw[if_pos ⟨o,aD,bR,fi⟩,aM];rfl
    have aiA:bj dv k6 ts bQ:=(by obtain⟨D,H⟩:=CU bL;refine⟨by rw[D,az.1],λi x y G ah=> ?_⟩;obtain⟨cl,fA,bh⟩:=H i x G;exact Em M da 9 (az.2 i cl y fA ah) bh λo aD=>kh o (by rw[aC];exact tx.2 ⟨cl,hR fA,aD⟩));refine(ay.ayZ hy aiA).cd λdF an aJ=> ?_;obtain⟨aQ,a8,cF,cN,dP,fF,fg⟩:=aJ;refine⟨λb hb=>(a8 b hb).1,?_⟩;by_cases fy:mj r=true
    · rw[if_pos fy]at ea;refine⟨u,r,_,ea,?_,by rw[ahX fg fy];exact bW.mj fy,?_⟩
      · refine⟨λo x G=> ?_,λo a9 bh=> ?_,λo aD=> ?_,M.inj,λo b h=>⟨(M.c0 o b h).1,oW (M.c0 o b h).2 aQ⟩,λb cs hb=> ?_⟩
        · rcases M.hO o x G with⟨b,cs,w,D,H,aq,aF⟩|D
          · exact .inl ⟨b,cs,w,D,by rw[(a8 b (M.c0 o b D).2).1,H],aq,aF⟩
          · exact .inr D
        · obtain⟨aL,aU⟩:=h2 bh;have zd:o∉l:= λaw=>by simp[hg,aw]at aU
          have cz:t.mp o=some a9:=(by simpa[hg,zd]using aU);obtain⟨b,c2,D,H,aq⟩:=M.maps o a9 (jJ aL cz);refine⟨b,c2,D,?_,aq⟩;obtain⟨aF,br⟩:=h2 H;have hb:=(M.c0 o b D).2;have nS:dv b=none:=by
            cases bf:dv b with
            |none=>rfl
            | some cs=>
              rcases dq b cs bf with cR|⟨o',cR,fs⟩
              · have:=(M.bA b cs cR).2 o _ D aL;cases this
              · rw[M.inj o' o b fs D]at cR;exact absurd cR zd
          exact jJ (by rw[(a8 b hb).1];exact aF) (by rw[(a8 b hb).2 nS];exact br)
        · show(if o∈l then none else t.mp o)=none;rw[M.h4 o aD];simp
        · obtain⟨⟨w,D⟩,H⟩:=M.bA b cs hb;exact⟨⟨w,by rw[(a8 b (bm D)).1,D]⟩,H⟩
      · exact⟨fM.refl _,gW.refl _,λ_ _ h=> .inl h,λ_ _ h=> .inl h,ev _,aQ,λb hb _=>(a8 b hb).1,λb hb aZ=>aZ,λb hb aZ=>aZ⟩
    · rw[if_neg fy]at ea;have OY:=da.trans cN;refine⟨cF,r,_,ea,?_,fg.cd (gW.refl _) (fM.nil _),?_⟩
      · refine⟨λo x G=> ?_,λo a9 bh=> ?_,λo aD=> ?_,M.inj,λo b h=>⟨by rw[TD];exact(M.c0 o b h).1,oW (M.c0 o b h).2 aQ⟩,λb cs hb=> ?_⟩
        · obtain⟨y,ah,aL,aU,_⟩:=Dd l t o x G;rcases M.hO o y ah with⟨b,cs,w,D,H,aq,aF⟩|⟨D,H⟩
          · exact .inl ⟨b,cs,w,D,by rw[(a8 b (M.c0 o b D).2).1,H],λh=>aq (aU h),by rw[aL];exact aF.cd OY (fM.refl _)⟩
          · exact .inr ⟨D,by rw[aL,H]⟩
        · obtain⟨aL,aU⟩:=h2 bh;obtain⟨y,ah,cz,gR,mh⟩:=Dd l t o _ aL;have zd:o∉l:= λaw=>by have:=mh aw;cases this
          have sK:y=⟨[],true⟩:=(by obtain⟨a,b⟩:=y;simp at cz gR;simp[cz,gR]);subst sK;rw[TC]at aU;obtain⟨b,c2,D,H,aq⟩:=M.maps o a9 (jJ ah aU);refine⟨b,c2,D,?_,aq.cd OY (fM.refl _)⟩;obtain⟨aF,br⟩:=h2 H;have hb:=(M.c0 o b D).2;have nS:dv b=none:=by
            cases bf:dv b with
            |none=>rfl
            | some cs=>
              rcases dq b cs bf with cR|⟨o',cR,fs⟩
              · have:=(M.bA b cs cR).2 o _ D ah;cases this
              · rw[M.inj o' o b fs D]at cR;exact absurd cR zd
          exact jJ (by rw[(a8 b hb).1];exact aF) (by rw[(a8 b hb).2 nS];exact br)
        · rw[TC];exact M.h4 o aD
        · refine⟨dP b cs hb,λo x bR G=> ?_⟩;obtain⟨y,ah,aL,aU,cz⟩:=Dd l t o x G;have ft:=(M.c0 o b bR).2;rcases fF b cs hb with cR|cR
          · rcases dq b cs cR with fs|⟨o',fs,hz⟩
            · have ix:=(M.bA b cs fs).2 o y bR ah;cases fA:x.own with
              |false=>rfl
              |true=>rw[aU fA]at ix;cases ix
            · rw[M.inj o' o b hz bR]at fs;exact cz fs
          · omega
      · refine⟨fM.refl _,OY,λ_ _ h=> .inl h,λb cs hb=> ?_,by rw[TD];exact ev _,aQ,λb hb _=>(a8 b hb).1,λb hb aZ=> ?_,λb hb aZ=> ?_⟩
        · rcases fF b cs hb with cR|cR
          · rcases Bg b cs cR with fs|fs
            · exact .inl fs
            · exact .inr (.inr fs)
          · exact .inr (.inl cR)
        · obtain⟨o,x,D,H,aq⟩:=aZ;obtain⟨y,ah,aL,aU,cz⟩:=Dd l t o x H;exact⟨o,y,D,ah,aU aq⟩
        · obtain⟨o,x,D,H⟩:=aZ;obtain⟨y,ah,aL,aU,cz⟩:=Dd l t o x H;exact⟨o,y,D,ah⟩
end
section
variable {t bO:W} {l:List Nat}
@[simp] theorem aDy:(jY t l).next=t.next:=rfl
theorem Od{b:Nat}(h:b∈l):(jY t l).Y b=none:=by simp[jY,W.Y,h]
theorem Jb{b:Nat}(h:b∉l):(jY t l).Y b=t.Y b:=by simp[jY,W.Y,h]
theorem pS{b:Nat}{x:fm}(h:(jY t l).Y b=some x):b∉l/\t.Y b=some x:=by
  by_cases hb:b∈l
  · rw[Od hb]at h;cases h
  · rw[Jb hb]at h;exact⟨hb,h⟩
theorem Oe{b:Nat}(h:b∉l):(jY t l).eJ b=t.eJ b:=by have D:(jY t l).Y b=t.Y b:=Jb h;unfold W.eJ;rw[D];rfl
theorem acZ{b:Nat}(h:b∈l)(ax:t.next<=bO.next)(hb:b<t.next):(lH t bO l).Y b=t.Y b:=by
  have:b<bO.next:=by omega
  simp[lH,W.Y,h,hb,this]
theorem uh{b:Nat}(h:b∉l):(lH t bO l).Y b=bO.Y b:=by simp[lH,W.Y,h]
theorem RQ{b:Nat}(h:b∉l):(lH t bO l).eJ b=bO.eJ b:=by have D:(lH t bO l).Y b=bO.Y b:=uh h;unfold W.eJ;rw[D];rfl
end
section
variable {P:Program} {K:eE} {u:fE} {t m:W} {z aj:aP}
theorem ac4(M:dR K u t m)(bE:gJ u K z aj){a5:List (Operand×Operand)}(az:a5.all (λp=>cL p.1&&cL p.2)=true){an:W}(aa: ∀b,b<m.next->an.Y b=m.Y b):p9 aj a5 m an:=by
  intro p af b hb;simp only[eD]at az;have H:=az p af;simp only[aX]at H;have ab:=bE.X H.1;generalize X z p.1=a at ab;generalize X aj p.1=dD at ab hb;cases ab with
  | cv h=>unfold N at hb;split at hb<;>simp[dO]at h hb
  |cD bR=>simp[N]at hb;subst hb;exact aa _ (M.c0 _ _ bR).2
  |slice bR=>simp[N]at hb;subst hb;exact aa _ (M.c0 _ _ bR).2
  |map bR=>simp[N]at hb;subst hb;exact aa _ (M.c0 _ _ bR).2
  |hX e dn=>simp[N]at hb;subst hb;obtain⟨⟨w,aq⟩,_⟩:=M.bA _ _ dn;exact aa _ (bm aq)
  |eO e dn=>simp[N]at hb;subst hb;obtain⟨⟨w,aq⟩,_⟩:=M.bA _ _ dn;exact aa _ (bm aq)
  |_=>simp[N]at hb
theorem VY{f:Nat}{args bQ:List Value}{cg:Value->W->Prop}{l:List Nat}(aC: ∀o∈l,∃x,t.Y o=some x/\x.cells≠[])(h:fQ P f args (jY t l) cg)(M:dR K u t m)(az:bj u K args bQ):
    fZ P f bQ m λdF bd=>(∀o∈l,∀b,K o=some b->bd.Y b=m.Y b)/\ ∃cp dv r bO,cg r bO/\dR cp dv (lH t bO l) bd/\bW dv cp r dF/\eF t.next m.next K u t m cp dv (lH t bO l) bd:=by
  have zh:dR K u (jY t l) m:=⟨λo x G=>M.hO o x (pS G).2,λo a9 bh=>by have hb:=(pS (h2 bh).1).1;rw[Oe hb]at bh;exact M.maps o a9 bh,M.h4,M.inj,M.c0,λb cs hb=>⟨(M.bA b cs hb).1,λo x bR G=>(M.bA b cs hb).2 o x bR (pS G).2⟩⟩;refine(h K u bQ m zh az).cd λdF bd aJ=> ?_;obtain⟨cp,dv,r,bO,D,H,aq,aF⟩:=aJ;have ax:t.next<=bO.next:=aF.jh
  have gX: ∀o∈l,∃x b cs w,t.Y o=some x/\x.cells≠[]/\K o=some b/\m.Y b=some ⟨cs,w⟩/\(x.own=true->w=true)/\bj u K x.cells cs:= λo aD=>by
    obtain⟨x,G,ar⟩:=aC o aD;rcases M.hO o x G with⟨b,cs,w,bw,bJ,cc,eI⟩|⟨_,bJ⟩
    · exact⟨x,b,cs,w,G,ar,bw,bJ,cc,eI⟩
    · exact absurd bJ ar
  have Af: ∀o∈l,∀b,K o=some b-> ¬AX K (jY t l) b:= λo aD b hb ⟨p,x,af,G⟩=>by have:=M.inj p o b af hb;subst this;rw[Od aD]at G;cases G
  have ac5: ∀o∈l,∀b,K o=some b->bd.Y b=m.Y b:= λo aD b bR=>aF.k3 b (M.c0 o b bR).2 λ⟨p,J,a7,bD,_⟩=>Af o aD b bR ⟨p,J,a7,bD⟩;have OE: ∀o∈l,bO.Y o=none:= λo aD=>by
    obtain⟨x,b,cs,w,bw,bJ,cc,eI,fp,hv⟩:=gX o aD;cases aM:bO.Y o with
    |none=>rfl
    |some y=>exact absurd (aF.mM b (M.c0 o b cc).2 ⟨o,y,aF.e o b cc,aM⟩) (Af o aD b cc)
  have rG: ∀o∈l,(lH t bO l).Y o=t.Y o:= λo aD=>by obtain⟨x,b,cs,w,bw,_⟩:=gX o aD;exact acZ aD ax (bm bw)
  refine⟨ac5,cp,dv,r,bO,D,?_,aq,?_⟩
  · refine⟨λo x G=> ?_,λo a9 bh=> ?_,H.h4,H.inj,H.c0,λb cs hb=>⟨(H.bA b cs hb).1,λo x bR G=> ?_⟩⟩
    · by_cases aD:o∈l
      · rw[rG o aD]at G;obtain⟨y,b,cs,w,bw,bJ,cc,eI,fp,hv⟩:=gX o aD;rw[bw]at G;cases G;exact .inl ⟨b,cs,w,aF.e o b cc,by rw[ac5 o aD b cc];exact eI,fp,hv.cd aF.f aF.e⟩
      · rw[uh aD]at G;exact H.hO o x G
    · by_cases aD:o∈l
      · have:=(h2 bh).1;rw[rG o aD]at this;obtain⟨y,ah,ar⟩:=aC o aD;rw[ah]at this;cases this;exact absurd rfl ar
      · rw[RQ aD]at bh;exact H.maps o a9 bh
    · by_cases aD:o∈l
      · rw[rG o aD]at G;obtain⟨y,ca,kY,w,bw,bJ,cc,eI,fp,hv⟩:=gX o aD;have ft:=aF.e o ca cc;rw[bR]at ft;cases ft;rcases aF.fn b cs hb with q|q|q
        · exact(M.bA b cs q).2 o x cc G
        · have:=(M.c0 o b cc).2;omega
        · exact absurd q (Af o aD b cc)
      · rw[uh aD]at G;exact(H.bA b cs hb).2 o x bR G
  · refine⟨aF.e,aF.f,aF.jz,λb cs hb=> ?_,ax,aF.jr,λb hb aZ=>aF.k3 b hb λ⟨p,J,a7,bD,b4⟩=>aZ ⟨p,J,a7,(pS bD).2,b4⟩,λb hb ⟨o,x,a7,bD,b4⟩=> ?_,λb hb ⟨o,x,a7,bD⟩=> ?_⟩
    · rcases aF.fn b cs hb with q|q|⟨p,J,a7,bD⟩
      · exact .inl q
      · exact .inr (.inl q)
      · exact .inr (.inr ⟨p,J,a7,(pS bD).2⟩)
    · by_cases aD:o∈l
      · obtain⟨y,ca,kY,w,bw,bJ,cc,_⟩:=gX o aD;have ft:=aF.e o ca cc;rw[a7]at ft;cases ft;rw[rG o aD]at bD;exact⟨o,x,cc,bD,b4⟩
      · rw[uh aD]at bD;obtain⟨p,J,fC,g3,jF⟩:=aF.nh b hb ⟨o,x,a7,bD,b4⟩;exact⟨p,J,fC,(pS g3).2,jF⟩
    · by_cases aD:o∈l
      · obtain⟨y,ca,kY,w,bw,bJ,cc,_⟩:=gX o aD;have ft:=aF.e o ca cc;rw[a7]at ft;cases ft;rw[rG o aD]at bD;exact⟨o,x,cc,bD⟩
      · rw[uh aD]at bD;obtain⟨p,J,fC,g3⟩:=aF.mM b hb ⟨o,x,a7,bD⟩;exact⟨p,J,fC,(pS g3).2⟩
theorem L7(M:dR K u t m)(bE:gJ u K z aj){a5:List (Operand×Operand)}(az:a5.all (λp=>cL p.1&&cL p.2)=true){an:W}(aa: ∀b,b<m.next-> ¬DP K t b->an.Y b=m.Y b)(G: ∀o∈k8 z t a5,∀b,K o=some b->an.Y b=m.Y b):p9 aj a5 m an:=by
  intro p af b hb;simp only[eD]at az;have H:=az p af;simp only[aX]at H;have ab:=bE.X H.1;have D: ∀o,N (X z p.1)=some o->tc t o=true->o∈k8 z t a5:=by
    clear G hb ab H az;induction a5 with
    |nil=>cases af
    | cons q l cn=>
      intro o aD aZ;unfold k8;rcases g6.1 af with rfl|af
      · rw[aD];simp only;rw[if_pos aZ];exact List.mem_cons_self
      · have:=cn af o aD aZ;split
        · split
          · exact Dy _ this
          · exact this
        · exact this
  generalize X z p.1=a at ab D;generalize X aj p.1=dD at ab hb;have key: ∀o,N a=some o->K o=some b->an.Y b=m.Y b:= λo aD bR=>by
    cases aZ:tc t o with
    |true=>exact G o (D o aD aZ) b bR
    | false=>refine aa b (M.c0 o b bR).2 λ⟨o',x,aL,aU,cz⟩=> ?_;rw[M.inj o' o b aL bR]at aU;simp[tc,aU,cz]at aZ
  have G0: ∀cs,u b=some cs->an.Y b=m.Y b:= λcs dn=>by obtain⟨⟨w,aq⟩,aF⟩:=M.bA b cs dn;exact aa b (bm aq) λ⟨o',x,aL,aU,cz⟩=>by rw[aF o' x aL aU]at cz;cases cz
  cases ab with
  | cv h=>unfold N at hb;split at hb<;>simp[dO]at h hb
  |cD bR=>simp[N]at hb;subst hb;exact key _ rfl bR
  |slice bR=>simp[N]at hb;subst hb;exact key _ rfl bR
  |map bR=>simp[N]at hb;subst hb;exact key _ rfl bR
  |hX e dn=>simp[N]at hb;subst hb;exact G0 _ dn
  |eO e dn=>simp[N]at hb;subst hb;exact G0 _ dn
  |_=>simp[N]at hb
end
section
variable {P:Program} {u:fE} {K:eE} {t m:W} {z aj:aP}
theorem aGg(M:dR K u t m)(bE:gJ u K z aj){a5:List (Operand×Operand)}(az:a5.all (λp=>cL p.1&&cL p.2)=true)(h:GZ z t a5=true){an:W}(aa: ∀b,b<m.next-> ¬DP K t b->an.Y b=m.Y b):p9 aj a5 m an:=by
  intro p af b hb;simp only[GZ,eD]at h az;have D:=h p af;have H:=az p af;simp only[aX]at H;have ab:=bE.X H.1;generalize X z p.1=a at ab D;generalize X aj p.1=dD at ab hb;have key: ∀o,N a=some o->K o=some b->an.Y b=m.Y b:= λo aD bR=>by rw[aD]at D;refine aa b (M.c0 o b bR).2 λ⟨o',x,aL,aU,cz⟩=> ?_;rw[M.inj o' o b aL bR]at aU;simp[tc,aU,cz]at D
  have G0: ∀cs,u b=some cs->an.Y b=m.Y b:= λcs dn=>by obtain⟨⟨w,aq⟩,aF⟩:=M.bA b cs dn;exact aa b (bm aq) λ⟨o',x,aL,aU,cz⟩=>by rw[aF o' x aL aU]at cz;cases cz
  cases ab with
  | cv h=>unfold N at hb;split at hb<;>simp[dO]at h hb
  |cD bR=>simp[N]at hb;subst hb;exact key _ rfl bR
  |slice bR=>simp[N]at hb;subst hb;exact key _ rfl bR
  |map bR=>simp[N]at hb;subst hb;exact key _ rfl bR
  |hX e dn=>simp[N]at hb;subst hb;exact G0 _ dn
  |eO e dn=>simp[N]at hb;subst hb;exact G0 _ dn
  |_=>simp[N]at hb
theorem Vc(M:dR K u t m)(bE:gJ u K z aj){a5:List (Operand×Operand)}(g1:a5.all (λp=>cL p.1&&cL p.2)=true){aB:nN P}{f:Nat}{args bQ:List Value}(az:bj u K args bQ){aW:Value->W->Prop}(h:sq aB f args t (k8 z t a5) aW):
    fZ P f bQ m λdF an=>p9 aj a5 m an/\ ∃cy cF r aT,aW r aT/\dR cy cF aT an/\bW cF cy r dF/\eF t.next m.next K u t m cy cF aT an:=by
  unfold sq at h;split at h
  · refine(Sx M az h).cd λdF an aJ=> ?_;obtain⟨D,cF,r,aT,H,aq,aF,br⟩:=aJ;exact⟨ac4 M bE g1 D,K,cF,r,aT,H,aq,aF,br⟩
  · cases cS:k8 z t a5 with
    | nil=>
      rw[cS]at h;simp only[wQ]at h;have H:fQ P f args t aW:=by
        split at h
        · exact aeV h
        · exact h
      refine(H K u bQ m M az).cd λdF an aJ=> ?_;obtain⟨cy,cF,r,aT,H,aq,aF,br⟩:=aJ;exact⟨L7 M bE g1 br.k3 (by rw[cS];nofun),cy,cF,r,aT,H,aq,aF,br⟩
    | cons o l=>
      rw[cS]at h;simp only[wQ]at h;have Pk: ∀p∈o::l,∃x,t.Y p=some x/\x.cells≠[]:= λp af=>by
        have:=eD.1 h.1 p af;unfold Ms at this;split at this
        · next x G=>exact⟨x,G,λe=>by rw[e]at this;simp at this⟩
        · cases this
      have H:fQ P f args (jY t (o::l)) λr bO=>aW r (lH t bO (o::l)):=by
        have aq:=h.2;split at aq
        · exact aeV aq
        · exact aq
      refine(VY Pk H M az).cd λdF an aJ=> ?_;obtain⟨eB,cy,cF,l7,aT,aa,aq,aF,br⟩:=aJ;exact⟨L7 M bE g1 br.k3 (by rw[cS];exact eB),cy,cF,l7,_,aa,aq,aF,br⟩
def wJ(K:eE)(u:fE)(t m:W)(base gr:Nat)(ops:List bn):Prop:= ∀o∈ops,o.k.eU=true->qy K u t m (base+o.aN) (gr+o.aN)
theorem nodup_cons{o:bn}{ops:List bn}(h:uq ((o::ops).map (·.aN))=true):(∀p∈ops,p.aN≠o.aN)/\uq (ops.map (·.aN))=true:=by simp only[mL,uq,aX]at h;refine⟨λp af e=> ?_,h.2⟩;have D:=h.1;simp at D;exact D p af e
theorem Nn{aB:nN P}{base gr:Nat}: ∀{ops:List bn} {K:eE} {u:fE} {t m:W} {z aj:aP} {aW:aP->W->Prop},ops.all Hc=true->uq (ops.map (·.aN))=true->dR K u t m->gJ u K z aj->wJ K u t m base gr ops->base<=t.next->gr<=m.next->
    dk aB base ops z t aW->g7 P gr ops aj m λjj an=> ∃cy cF bI aT,aW bI aT/\dR cy cF aT an/\gJ cF cy bI jj/\eF base gr K u t m cy cF aT an
  | [],K,u,t,m,z,aj,aW,_,_,M,bE,_,_,_,h=>by rw[T9];exact⟨K,u,z,t,h,M,bE,eF.refl⟩
  | o::ops,K,u,t,m,z,aj,aW,ao,hW,M,bE,fa,hb,rN,h=>by
    obtain⟨aN,d,g,k,a5⟩:=o;simp only[mK,aX]at ao;obtain⟨cZ,za⟩:=nodup_cons hW;have tV:=ao.1;simp only[Hc,aX]at tV;have skip: ∀{g:Option (Nat×Bool)},dk aB base ops (c1 z d undef) t aW->g7 P gr ops (c1 aj d undef) m λjj an=> ∃cy cF bI aT,aW bI aT/\dR cy cF aT an/\gJ cF cy bI jj/\eF base gr K u t m cy cF aT an:= λh=>
      Nn ao.2 za M (bE.a4 bW.undef) (λo aD az=>fa o (by simp[aD]) az) hb rN h
    have Ac:js aB base ⟨aN,d,g,k,a5⟩ z t (λz t=>dk aB base ops z t aW)->g7 P gr (⟨aN,d,none,k,a5⟩::ops) aj m λjj an=> ∃cy cF bI aT,aW bI aT/\dR cy cF aT an/\gJ cF cy bI jj/\eF base gr K u t m cy cF aT an:= λh=>by
      have after: ∀{dF:Value} {bd:W},(p9 aj a5 m bd/\ ∃cy cF r aT,(dk aB base ops (c1 z d r) aT aW)/\dR cy cF aT bd/\bW cF cy r dF/\eF t.next m.next K u t m cy cF aT bd)->
          u7 P gr d a5 ops aj m (λjj an=> ∃cy cF bI aT,aW bI aT/\dR cy cF aT an/\gJ cF cy bI jj/\eF base gr K u t m cy cF aT an) dF bd:= λ{dF bd} ⟨aa,cp,dv,r,bO,D,H,aq,aF⟩=>by
        refine⟨aa,?_⟩;have zk:gJ dv cp (c1 z d r) (c1 aj d dF):=(bE.cd aF.f aF.e).a4 aq;have y0:wJ cp dv bO bd base gr ops:= λo aD az=>by
          have ax:=fa o (by simp[aD]) az;refine⟨?_,λo' lZ=> ?_,?_,oW ax.r8 aF.jh,oW ax.qb aF.jr⟩
          · cases bh:cp (base+o.aN)with
            |none=>rfl
            | some b=>
              rcases aF.jz _ _ bh with br|⟨br,_⟩
              · rw[ax.e]at br;cases br
              · have:=ax.r8;omega
          · rcases aF.jz _ _ lZ with br|⟨_,br⟩
            · exact ax.b _ br
            · have:=ax.qb;omega
          · cases bh:dv (gr+o.aN)with
            |none=>rfl
            | some cs=>
              rcases aF.fn _ _ bh with br|br|⟨o',_,br,_⟩
              · rw[ax.f]at br;cases br
              · have:=ax.qb;omega
              · exact absurd br (ax.b o')
        have cn:=Nn ao.2 za H zk y0 (jv hb aF.jh) (jv rN aF.jr) D;obtain⟨n,bb,dE,hs,fD,iC,dh,iB,a7,bD,b4,e0⟩:=cn;exact⟨n,bb,dE,hs,fD,iC,dh,iB,a7,bD,b4,(aF.yo hb rN).trans e0⟩
      have Sq: ∀{k:ad},k.jB=false->vU k=true->(k.eU=true->qy K u t m (base+aN) (gr+aN))->(k.hZ z t=true/\ig z t a5=true/\dk aB base ops (c1 z d (k.ia (base+aN) z t)) (k.my (base+aN) z t) aW)->
          g7 P gr (⟨aN,d,none,k,a5⟩::ops) aj m λjj an=> ∃cy cF bI aT,aW bI aT/\dR cy cF aT an/\gJ cF cy bI jj/\eF base gr K u t m cy cF aT an:= λ{k} ar aa ax h=>by
        rw[uO ar];obtain⟨D,cp,q⟩:=adQ (gC:=base) (g8:=gr) (id:=base+aN) (mid:=gr+aN) M bE ar aa h.1 ax (by omega) (by omega);refine⟨D,Vp M bE tV.2 h.2.1,?_⟩;have zk:gJ u cp (c1 z d (k.ia (base+aN) z t)) (c1 aj d (k.val (gr+aN) aj m)):=(bE.cd q.bA.f q.bA.e).a4 q.val;have y0:wJ cp u (k.my (base+aN) z t) (k.gu (gr+aN) aj m) base gr ops:= λo aD az=>by
          have ax:=fa o (by simp[aD]) az;have G:=cZ o aD;simp only at G;refine⟨by rw[q.Hj _ (by omega)];exact ax.e,λo' lZ=> ?_,ax.f,oW ax.r8 q.bA.jh,oW ax.qb q.bA.jr⟩;by_cases e:o'=base+aN
          · subst e;rcases q.self with br|br
            · rw[br]at lZ;exact ax.b _ lZ
            · rw[br]at lZ;simp only[lL]at lZ;omega
          · rw[q.Hj _ e]at lZ;exact ax.b _ lZ
        have cn:=Nn ao.2 za q.TE zk y0 (jv hb q.bA.jh) (jv rN q.bA.jr) h.2.2;obtain⟨n,bb,dE,hs,fD,iC,dh,iB,a7,bD,b4,e0⟩:=cn;exact⟨n,bb,dE,hs,fD,iC,dh,iB,a7,bD,b4,q.bA.trans e0⟩
      have vq:=fa ⟨aN,d,g,k,a5⟩ (by simp);have y2:=tV.1;have bu:=y2;simp only[vU,aX]at bu;cases k with
      | dA f bQ=>rw[T8];exact(Vc M bE tV.2 (bE.wZ bu.1) h).cd λdF bd aJ=>after aJ
      | iw x bQ=>
        simp only[js,D7]at h;simp only[ad.gN,mK,aX]at bu;split at h
        · next f first lT G=>have ab:=bE.X bu.1.1;rw[G]at ab;obtain⟨ys,ds,e,iE,iP⟩:=ab.zn;rw[afz e];exact(Vc M bE tV.2 ((iE.oh (bE.wZ bu.1.2)).oh iP) h).cd λdF bd aJ=>after aJ
        · exact h.elim
      |kn=>exact h.elim
      |_=>exact Sq rfl y2 vq h
    simp only[dk]at h;cases g with
    |none=>exact Ac (by simpa[eH]using h)
    | some g=>
      obtain⟨j,b⟩:=g;rw[Nw,TX bE];split at h
      · next aZ=>rw[if_pos aZ];exact Ac h
      · next aZ=>rw[if_neg aZ];exact skip (g:=none) h
theorem N1(M:dR K u t m)(k:Nat):dR K u (t.du k) (m.du k) where
  hO o x G:=by
    by_cases h:o<t.next
    · rw[e9 h]at G;rcases M.hO o x G with⟨b,cs,w,D,H,aq⟩|D
      · exact .inl ⟨b,cs,w,D,by rw[e9 (bm H),H],aq⟩
      · exact .inr D
    · simp[W.Y,W.du,h]at G
  maps o a9 bh:=by
    by_cases h:o<t.next
    · rw[OL h]at bh;obtain⟨b,c2,D,H,aq⟩:=M.maps o a9 bh;exact⟨b,c2,D,by rw[OL (M.c0 o b D).2,H],aq⟩
    · have:=(h2 bh).1;simp[W.Y,W.du,h]at this
  h4:=M.h4
  inj:=M.inj
  c0 o b h:=by have:=M.c0 o b h;simp only[xU];omega
  bA b cs h:=by obtain⟨⟨w,D⟩,H⟩:=M.bA b cs h;refine⟨⟨w,by rw[e9 (bm D),D]⟩,λo x bR G=> ?_⟩;rw[e9 (M.c0 o b bR).1]at G;exact H o x bR G
theorem IQ(M:dR K u t m)(k:Nat):eF t.next m.next K u t m K u (t.du k) (m.du k) where
  e:=fM.refl _
  f:=gW.refl _
  jz o b h:= .inl h
  fn b cs h:= .inl h
  jh:=by simp
  jr:=by simp
  k3 b hb _:=e9 hb
  nh b hb:= λ⟨o,x,D,H,aq⟩=>⟨o,x,D,by rw[e9 (M.c0 o b D).1]at H;exact H,aq⟩
  mM b hb:= λ⟨o,x,D,H⟩=>⟨o,x,D,by rw[e9 (M.c0 o b D).1]at H;exact H⟩
theorem awK{aB:nN P}{ops:List bn}(ao:mA (.E ops)=true)(M:dR K u t m)(bE:gJ u K z aj){aW:aP->W->Prop}(h:dk aB t.next ops z (gQ ops t) aW):
    g7 P m.next ops aj (gQ ops m) λjj an=> ∃cy cF bI aT,aW bI aT/\dR cy cF aT an/\gJ cF cy bI jj/\eF t.next m.next K u t m cy cF aT an:=by
  simp only[mA,aX]at ao;have tW:dR K u (gQ ops t) (gQ ops m):=by
    unfold gQ;split
    · exact N1 M _
    · exact M
  have rI:eF t.next m.next K u t m K u (gQ ops t) (gQ ops m):=by
    unfold gQ;split
    · exact IQ M _
    · exact eF.refl
  have vo:wJ K u (gQ ops t) (gQ ops m) t.next m.next ops:= λo aD az=>by
    have EC:(ops.any λo=>o.k.eU)=true:=List.any_eq_true.2 ⟨o,aD,az⟩;have pZ:o.aN<ops.length:=(by simpa using eD.1 ao.2 o aD);refine⟨?_,λo' lZ=> ?_,?_,by simp[gQ,EC,pZ],by simp[gQ,EC,pZ]⟩
    · cases bh:K (t.next+o.aN)with
      |none=>rfl
      |some b=>have:=(M.c0 _ _ bh).1;omega
    · have:=(M.c0 _ _ lZ).2;omega
    · cases bh:u (m.next+o.aN)with
      |none=>rfl
      |some cs=>obtain⟨⟨w,D⟩,_⟩:=M.bA _ _ bh;have:=bm D;omega
  have:=Nn ao.1.1 ao.1.2 tW bE vo rI.jh rI.jr h;obtain⟨n,bb,dE,hs,fD,iC,dh,iB,a7,bD,b4,e0⟩:=this;exact⟨n,bb,dE,hs,fD,iC,dh,iB,a7,bD,b4,rI.trans e0⟩
theorem AL{aB:nN P}: ∀{c:I} {z:aP} {t:W} {Q:dy->aP->W->Prop},iU aB c z t Q->fP P c z t Q
  | .skip,z,t,Q,h=> λ_ K u aj m M bE=>by rw[T7];exact⟨K,u,z,t,h,M,bE,eF.refl⟩
  | .ba id,z,t,Q,h=> λ_ K u aj m M bE=>by rw[T4];exact⟨K,u,z,t,h,M,bE,eF.refl⟩
  | .aG,z,t,Q,h=> λ_ K u aj m M bE=>by rw[T6];exact⟨K,u,z,t,h,M,bE,eF.refl⟩
  | .E ops,z,t,Q,h=> λao K u aj m M bE=>by rw[T5];exact awK ao M bE h
  | .qa _ _ _,_,_,_,h=>h.elim
  | .B a b,z,t,Q,h=> λao K u aj m M bE=>by
    simp only[mA,aX]at ao;rw[Nu];refine(AL (c:=a) h ao.1 K u aj m M bE).cd λe bb bd aJ=> ?_;obtain⟨cp,dv,bI,bO,D,H,aq,aF⟩:=aJ;cases e with
    | et=>rw[TJ];refine(AL (c:=b) D ao.2 cp dv bb bd H aq).cd λe dS dE aJ=> ?_;obtain⟨fD,iC,dh,iB,aQ,a8,cN,dP⟩:=aJ;exact⟨fD,iC,dh,iB,aQ,a8,cN,aF.trans (dP.yo aF.jh aF.jr)⟩
    |ba id=>exact⟨cp,dv,bI,bO,D,H,aq,aF⟩
    |aG=>exact⟨cp,dv,bI,bO,D,H,aq,aF⟩
  | .aR c a b,z,t,Q,h=> λao K u aj m M bE=>by
    simp only[mA,aX]at ao;rw[Nt];have e:=acP (bE.X ao.1.1) h.1;rw[e];refine⟨h.1,?_⟩;have H:=h.2;split at H
    · next ar=>rw[if_pos ar];exact AL (c:=a) H ao.1.2 K u aj m M bE
    · next ar=>rw[if_neg ar];exact AL (c:=b) H ao.2 K u aj m M bE
  | .block id c,z,t,Q,h=> λao K u aj m M bE=>by
    rw[H9];refine(AL (c:=c) h ao K u aj m M bE).cd λe bb bd aJ=> ?_;obtain⟨cp,dv,bI,bO,D,H⟩:=aJ;cases e with
    |et=>exact⟨cp,dv,bI,bO,D,H⟩
    |aG=>exact⟨cp,dv,bI,bO,D,H⟩
    | ba iz=>
      rw[A7];simp only at D;split at D
      · next e=>rw[if_pos e];exact⟨cp,dv,bI,bO,D,H⟩
      · next e=>rw[if_neg e];exact⟨cp,dv,bI,bO,D,H⟩
  | .loop c,z,t,Q,h=>h
theorem fP.cd{c:I}{Q wK:dy->aP->W->Prop}(h:fP P c z t Q)(bf: ∀e z t,Q e z t->wK e z t):fP P c z t wK:= λao K u aj m M bE=>(h ao K u aj m M bE).cd λe bb bd aJ=>by obtain⟨cp,dv,bI,bO,D,H⟩:=aJ;exact⟨cp,dv,bI,bO,bf _ _ _ D,H⟩
theorem fQ.cd{f:Nat}{args:List Value}{cg mc:Value->W->Prop}(h:fQ P f args t cg)(bf: ∀r t,cg r t->mc r t):fQ P f args t mc:= λK u bQ m M az=>(h K u bQ m M az).cd λdF bd aJ=>by obtain⟨cp,dv,r,bO,D,H⟩:=aJ;exact⟨cp,dv,r,bO,bf _ _ D,H⟩
theorem eC{aB:nN P}{c:I}{Q:dy->aP->W->Prop}(h: ∀cK:aP->W->Prop,(∀aj aT,fP P (.loop c) aj aT Q->cK aj aT)->iU aB c z t (z5 cK Q)):fP P (.loop c) z t Q:= λao K u aj m M bE=>by
  rw[afy];refine(AL (h (λaj aT=>fP P (.loop c) aj aT Q) (λ_ _ h=>h)) ao K u aj m M bE).cd λe bb bd aJ=> ?_;obtain⟨cp,dv,bI,bO,D,H,aq,aF⟩:=aJ;cases e with
  | et=>rw[ade];refine(D ao cp dv bb bd H aq).cd λe dS dE aJ=> ?_;obtain⟨fD,iC,dh,iB,aQ,a8,cN,dP⟩:=aJ;exact⟨fD,iC,dh,iB,aQ,a8,cN,aF.trans (dP.yo aF.jh aF.jr)⟩
  |ba id=>exact⟨cp,dv,bI,bO,D,H,aq,aF⟩
  |aG=>exact⟨cp,dv,bI,bO,D,H,aq,aF⟩
theorem fQ.drop{f:Nat}{args:List Value}{cg mc:Value->W->Prop}(h:fQ P f args t cg)(aA: ∀r aT,cg r aT-> ∃r6,mc r r6/\r6.next=aT.next/\r6.mp=aT.mp/\ ∀b x,r6.Y b=some x->aT.Y b=some x):fQ P f args t mc:= λK u bQ m M az=>(h K u bQ m M az).cd λdF bd aJ=>by
  obtain⟨cp,dv,r,bO,D,H,aq,aF⟩:=aJ;obtain⟨iB,aQ,a8,cN,dP⟩:=aA r bO D;have yT: ∀o a9,iB.eJ o=some a9->bO.eJ o=some a9:= λo a9 bh=>by obtain⟨aL,aU⟩:=h2 bh;exact jJ (dP _ _ aL) (by rw[<-cN];exact aU)
  refine⟨cp,dv,r,iB,aQ,⟨λo x G=>H.hO o x (dP o x G),λo a9 bh=>H.maps o a9 (yT o a9 bh),λo aD=>by rw[cN];exact H.h4 o aD,H.inj,λo b hb=>by rw[a8];exact H.c0 o b hb,λb cs hb=>⟨(H.bA b cs hb).1,λo x bR G=>(H.bA b cs hb).2 o x bR (dP o x G)⟩⟩,aq,?_⟩;exact⟨aF.e,aF.f,aF.jz,aF.fn,by rw[a8];exact aF.jh,aF.jr,aF.k3,λb hb ⟨o,x,a7,bD,b4⟩=>aF.nh b hb ⟨o,x,a7,dP _ _ bD,b4⟩,λb hb ⟨o,x,a7,bD⟩=>aF.mM b hb ⟨o,x,a7,dP _ _ bD⟩⟩
def aen(cm:List kU)(cg:Value->W->Prop)(e:dy)(z:aP)(t:W):Prop:=match e with| .ba _=>False|_=>kK t z cm=true/\cg (lb t z cm) t
theorem SE(M:dR K u t m)(bE:gJ u K z aj){r:kU}(h:oN t z r=true):oN m aj r=true/\bW u K (pw t z r) (pw m aj r):=by
  cases r with
  |bG x=>exact⟨rfl,bE x⟩
  | hL x dc n=>
    simp only[oN,aX]at h⊢;have mT:l2 (z x)=false:=by have D:=h.1;cases G:z x<;>simp[G,gk]at D<;>rfl
    have D:o6 t (z x) n=true:=(by rw[o6,mT];exact h.1);refine⟨⟨DR M (bE x) D,h.2⟩,?_⟩;have:=R1 M (bE x) D h.2;rw[vR,mT]at this;exact this
theorem SG(M:dR K u t m)(bE:gJ u K z aj){cm:List kU}(h:kK t z cm=true):kK m aj cm=true/\bW u K (lb t z cm) (lb m aj cm):=by
  simp only[kK,eD]at h⊢;refine⟨λr ay=>(SE M bE (h r ay)).1,?_⟩;have aC:bj u K (cm.map (pw t z)) (cm.map (pw m aj)):=bj.CL _ _ _ λr ay=>(SE M bE (h r ay)).2;unfold lb;split
  · exact(SE M bE (h _ (by simp))).2
  · exact aC.tuple
theorem dL{aB:nN P}{f:Nat}{Fn:bS}(dn:b2 P f=some Fn)(ao:mA Fn.body=true){args:List Value}(aC:args.length<=Fn.cM){cg:Value->W->Prop}(h:iU aB Fn.body (ja args) t (aen Fn.iS cg)):fQ P f args t cg:= λK u bQ m M az=>by
  rw[r9 dn (by rw[<-az.1];exact aC)];refine(AL h ao K u (ja bQ) m M (gJ.init az)).cd λe bb bd aJ=> ?_;obtain⟨cp,dv,bI,bO,D,H,aq,aF⟩:=aJ;cases e with
  |ba id=>exact D.elim
  |et=>obtain⟨a,b⟩:=SG H aq D.1;exact⟨a,cp,dv,_,bO,D.2,H,b,aF⟩
  |aG=>obtain⟨a,b⟩:=SG H aq D.1;exact⟨a,cp,dv,_,bO,D.2,H,b,aF⟩
def ir:W:=⟨0,λ_=>none,λ_=>none⟩
theorem adj(o:Nat):ir.Y o=none:=by simp[ir,W.Y]
theorem aeL(dn:tC u m):dR k6 u ir m where
  hO o x G:=by rw[adj]at G;cases G
  maps o a9 bh:=by have:=(h2 bh).1;rw[adj]at this;cases this
  h4 o _:=rfl
  inj o o' b h:=by cases h
  c0 o b h:=by cases h
  bA b cs h:=⟨dn b cs h,λo x bR=>by cases bR⟩
open Classical in
theorem ed{f:Nat}{args:List Value}{r:Value}(h:fQ P f args ir λv t=>dZ 9 t v=some r):bH P f args r:= λu m bQ dn az=>by
  refine(h k6 u bQ m (aeL dn) az).cd λdF an aJ=> ?_;obtain⟨cy,cF,v,aT,D,H,aq,aF⟩:=aJ;refine⟨aF.jr,(λb hb=>aF.k3 b hb λ⟨o,x,e,_⟩=>by cases e),(λb=>match cF b with
    |some cs=>some cs
    |none=>if∃o,cy o=some b then(an.Y b).map (·.cells)else none),λb cs hb=> ?_,λb cs hb=> ?_,?_⟩
  · simp only[aF.f b cs hb]
  · simp only at hb;split at hb
    · next br=>cases hb;exact(H.bA b _ br).1
    · split at hb
      · cases aM:an.Y b with
        |none=>rw[aM]at hb;cases hb
        |some x=>rw[aM]at hb;cases hb;exact⟨x.own,rfl⟩
      · cases hb
  · refine Em H (λb cs hb=>by simp only[hb]) 9 aq D λo aD fi b cs w bR aM=> ?_;cases nS:cF b with
    |some ds=>obtain⟨⟨cT,ns⟩,_⟩:=H.bA b ds nS;rw[aM]at ns;cases ns;rfl
    |none=>rw[if_pos ⟨o,bR⟩,aM];rfl
theorem Nx{c:I}{Q:dy->aP->W->Prop}{d J:Nat}(c5:z d= .slice none 0 0)(h:fP P c (pE z d (.slice (some ⟨t.next,0,none⟩) 0 J)) ((t.du 1).a4 t.next (some ⟨[],true⟩)) Q):fP P c z t Q:= λao K u aj m M bE=>by
  have bR:K t.next=none:=by
    cases bh:K t.next with
    |none=>rfl
    |some b=>have:=(M.c0 _ _ bh).1;omega
  have tW:dR K u ((t.du 1).a4 t.next (some ⟨[],true⟩)) m:=by
    refine⟨λo x G=> ?_,λo a9 bh=> ?_,M.h4,M.inj,λo b h=>⟨by have:=(M.c0 o b h).1;simp only[l5,xU];omega,(M.c0 o b h).2⟩,λb cs hb=> ?_⟩
    · by_cases aD:o=t.next
      · subst aD;rw[eZ (by simp)]at G;cases G;exact .inr ⟨bR,rfl⟩
      · rw[b3 aD,W.e9]at G;exact M.hO o x G
    · by_cases aD:o=t.next
      · subst aD;have:=(h2 bh).2;rw[show((t.du 1).a4 t.next (some ⟨[],true⟩)).mp=t.mp from rfl,M.h4 _ bR]at this;cases this
      · rw[sy aD]at bh;obtain⟨aL,aU⟩:=h2 bh;rw[W.e9]at aL;exact M.maps o a9 (jJ aL aU)
    · obtain⟨D,H⟩:=M.bA b cs hb;refine⟨D,λo x OW G=> ?_⟩;have aD:o≠t.next:= λe=>by subst e;rw[bR]at OW;cases OW
      rw[b3 aD,W.e9]at G;exact H o x OW G
  have ajU:gJ u K (pE z d (.slice (some ⟨t.next,0,none⟩) 0 J)) aj:= λx=>by
    have G:=bE x;simp only[pE];split
    · next e=>subst e;rw[c5]at G;rw[G.hB rfl];exact .oS
    · exact G
  refine(h ao K u aj m tW ajU).cd λe bb bd aJ=> ?_;obtain⟨cp,dv,bI,bO,D,H,aq,aF⟩:=aJ;refine⟨cp,dv,bI,bO,D,H,aq,?_⟩;have aik:eF t.next m.next K u t m K u ((t.du 1).a4 t.next (some ⟨[],true⟩)) m:=⟨fM.refl _,gW.refl _,λ_ _ h=> .inl h,λ_ _ h=> .inl h,by simp,ev _,λ_ _ _=>rfl,λb hb=> λ⟨o,x,aL,aU,cz⟩=>by
    have aD:o≠t.next:= λe=>by subst e;rw[bR]at aL;cases aL
    rw[b3 aD,W.e9]at aU;exact⟨o,x,aL,aU,cz⟩,λb hb=> λ⟨o,x,aL,aU⟩=>by
    have aD:o≠t.next:= λe=>by subst e;rw[bR]at aL;cases aL
    rw[b3 aD,W.e9]at aU;exact⟨o,x,aL,aU⟩⟩
  exact aik.trans (aF.yo (by simp) (ev _))
end
end Go.DI
