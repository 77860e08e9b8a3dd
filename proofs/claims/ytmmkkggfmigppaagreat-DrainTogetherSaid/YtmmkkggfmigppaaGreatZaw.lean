/-
  A part of the proof, shortened by tools of ours.
-/
import Derived.Test.YtmmkkggfmigppaaGreatZav
set_option linter.all false
set_option maxRecDepth 8000
set_option maxHeartbeats 16000000
namespace Go.hR
structure c4 where
 f:Int
 t:Int
 c:Int
 k:Int
structure dH where
 dQ:Int
 dI:Int
 eT:Int
 bp:List c4
def dH.hN(n:dH)(x:Int):Prop:=0<=x/\x<n.dQ
def dH.aDA(n:dH)(a:c4):Prop:=n.hN a.f/\n.hN a.t/\0<=a.c/\a.c<=2147483647
structure dH.iN(n:dH):Prop where
 ee:2<=n.dQ
 Ar:n.dQ<=700
 sh:n.bp.length<=2500
 dI:n.hN n.dI
 eT:n.hN n.eT
 hl:n.dI≠n.eT
 qu: ∀a∈n.bp,n.aDA a
def jT(y x bc:Int):Int:=if y=x then bc else 0
def jy:List c4->List Int->Int->Int
 |a::bu,bc::fs,x=>jT a.f x bc-jT a.t x bc+jy bu fs x
 |_,_,_=>0
def s3(n:dH)(aj:List Int):Prop:=aj.length=n.bp.length/\ ∀(i:Nat) (a:c4) (bc:Int),n.bp[i]?=some a->aj[i]?=some bc->0<=bc/\bc<=a.c
structure mE(n:dH)(aj:List Int):Prop where
 kK:s3 n aj
 Gt: ∀x,n.hN x->x≠n.dI->x≠n.eT->jy n.bp aj x=0
def value(n:dH)(aj:List Int):Int:=jy n.bp aj n.dI
def mi:List c4->(Int->Bool)->Int
 |a::bu,s=>(if s a.f=true/\s a.t=false then a.c else 0)+mi bu s
 |[],_=>0
def pY:List c4->List Int->(Int->Bool)->Int
 |a::bu,bc::fs,s=>(if s a.f=true then bc else 0)-(if s a.t=true then bc else 0)+pY bu fs s
 |_,_,_=>0
def po(s:Int->Bool)(g:Int->Int):Nat->Int
 |0=>0
 |k+1=>po s g k+(if s k=true then g k else 0)
theorem ade(s:Int->Bool)(g h:Int->Int): ∀k,po s (λx=>g x+h x) k=po s g k+po s h k
 |0=>rfl
 | k+1=>by simp only[po,ade s g h k];split<;>omega
theorem adh(s:Int->Bool): ∀k,po s (λ_=>0) k=0
 |0=>rfl
 |k+1=>by simp[po,adh s k]
theorem apU(s:Int->Bool)(y bc:Int): ∀k:Nat,(k:Int)<=y->po s (λx=>jT y x bc) k=0
 |0,_=>rfl
 | k+1,h=>by have:=apU s y bc k (by omega);have e:jT y k bc=0:=if_neg (by omega: ¬y=(k:Int));rw[po,this,e];split<;>rfl
theorem adg(s:Int->Bool)(y bc:Int)(bY:0<=y): ∀k:Nat,y<k->po s (λx=>jT y x bc) k=if s y=true then bc else 0
 |0,h=>by omega
 | k+1,h=>by
   by_cases Y:y=k
   ·subst Y;have e:jT k k bc=bc:=if_pos rfl;rw[po,apU s (k:Int) bc k (sY _),e];split<;>omega
   ·have e:jT y k bc=0:=if_neg Y;rw[po,adg s y bc bY k (by omega),e];split<;>split<;>omega
theorem abd(y x bc:Int):jT y x (-bc)= -jT y x bc:=by unfold jT;split<;>omega
theorem adf(s:Int->Bool)(aA:Nat): ∀(bu:List c4) (fs:List Int),(∀a∈bu,(0<=a.f/\a.f<aA)/\(0<=a.t/\a.t<aA))->po s (jy bu fs) aA=pY bu fs s
 | [],fs,_=>by
   have:jy [] fs= λ_=>0:=by funext x;simp[jy]
   rw[this,adh];simp[pY]
 | a::bu,[],_=>by
   have:jy (a::bu) []= λ_=>0:=by funext x;simp[jy]
   rw[this,adh];simp[pY]
 | a::bu,bc::fs,h=>by
   have e:jy (a::bu) (bc::fs)= λx=>(jT a.f x bc+jT a.t x (-bc))+jy bu fs x:=by funext x;simp only[jy,abd];omega
   obtain⟨A,D⟩:=h a (by simp);rw[e,ade,ade,adg s _ _ A.1 aA A.2,adg s _ _ D.1 aA D.2,adf s aA bu fs (λb hb=>h b (by simp[hb]))];simp only[pY];split<;>split<;>omega
theorem apT(s:Int->Bool)(g:Int->Int)(aA:Nat)(y:Int)(aH: ∀x:Int,0<=x->x<aA->s x=true->x≠y->g x=0): ∀k:Nat,k<=aA->(k:Int)<=y->po s g k=0
 |0,_,_=>rfl
 | k+1,S,Y=>by
   simp only[po,apT s g aA y aH k (by omega) (by omega)];split
   ·rename_i h;rw[aH k (by omega) (by omega) h (by omega)];rfl
   ·rfl
theorem apV(s:Int->Bool)(g:Int->Int)(aA:Nat)(y:Int)(bY:0<=y)(F:s y=true)(aH: ∀x:Int,0<=x->x<aA->s x=true->x≠y->g x=0): ∀k:Nat,k<=aA->y<k->po s g k=g y
 |0,_,h=>by omega
 | k+1,S,h=>by
   by_cases Y:y=k
   ·subst Y;simp only[po,apT s g aA k aH k (by omega) (sY _),F,if_true];omega
   ·simp only[po,apV s g aA y bY F aH k (by omega) (by omega)];split
    ·rename_i cn;rw[aH k (by omega) (by omega) cn (λe=>Y e.symm)];omega
    ·omega
theorem dH.iN.afZ{n:dH}(h:n.iN): ∀a∈n.bp,(0<=a.f/\a.f<(n.dQ.toNat:Int))/\(0<=a.t/\a.t<(n.dQ.toNat:Int)):=by intro a aa;obtain⟨⟨A,D⟩,⟨ai,aT⟩,_⟩:=h.qu a aa;have:=h.ee;omega
theorem aqr{n:dH}(h:n.iN){aj:List Int}(a5:mE n aj){s:Int->Bool}(A:s n.dI=true)(D:s n.eT=false):value n aj=pY n.bp aj s:=by have ae:=h.ee;have F:=h.dI;unfold dH.hN at F;rw[<-adf s n.dQ.toNat n.bp aj h.afZ];exact(apV s (jy n.bp aj) n.dQ.toNat n.dI (by omega) A (λx pq y8 hP xs=>a5.Gt x ⟨pq,by omega⟩ xs (λe=>by rw[e,D]at hP;cases hP)) n.dQ.toNat (c8 _) (by omega)).symm
theorem afD{s:Int->Bool}: ∀(bu:List c4) (fs:List Int),(∀(i:Nat) a bc,bu[i]?=some a->fs[i]?=some bc->0<=bc/\bc<=a.c)->(∀a∈bu,0<=a.c)->pY bu fs s<=mi bu s
 |[],fs,_,_=>by simp[pY,mi]
 | a::bu,[],_,ar=>by
   have: ∀l:List c4,(∀a∈l,0<=a.c)->0<=mi l s:=by
    intro l;induction l with
    |nil=>intro _;simp[mi]
    |cons b l cf=>intro h;have:=cf (λx B=>h x (by simp[B]));have:=h b (by simp);simp only[mi];split<;>omega
   simp only[pY];exact this _ ar
 | a::bu,bc::fs,h,ar=>by have bY:=h 0 a bc rfl rfl;have:=afD (s:=s) bu fs (λi a bc aa en=>h (i+1) a bc (by simpa using aa) (by simpa using en)) (λa aa=>ar a (by simp[aa]));simp only[pY,mi];cases s a.f<;>cases s a.t<;>simp<;>omega
theorem afC{s:Int->Bool}: ∀(bu:List c4) (fs:List Int),fs.length=bu.length->(∀(i:Nat) a bc,bu[i]?=some a->fs[i]?=some bc->(s a.f=true->s a.t=false->bc=a.c)/\(s a.f=false->s a.t=true->bc=0))->pY bu fs s=mi bu s
 |[],fs,_,_=>by simp[pY,mi]
 |a::bu,[],az,_=>by simp at az
 | a::bu,bc::fs,az,h=>by have bY:=h 0 a bc rfl rfl;have:=afC (s:=s) bu fs (by simpa using az) (λi a bc aa en=>h (i+1) a bc (by simpa using aa) (by simpa using en));simp only[pY,mi];cases a5:s a.f<;>cases ba:s a.t<;>simp[a5,ba]at bY⊢ <;>omega
theorem wj{n:dH}(h:n.iN){aj:List Int}(a5:mE n aj){s:Int->Bool}(A:s n.dI=true)(D:s n.eT=false):value n aj<=mi n.bp s:=by rw[aqr h a5 A D];exact afD _ _ a5.kK.2 (λa aa=>(h.qu a aa).2.2.1)
theorem aHI{n:dH}(h:n.iN){aj:List Int}(a5:mE n aj){s:Int->Bool}(A:s n.dI=true)(D:s n.eT=false)
 (ba: ∀(i:Nat) a bc,n.bp[i]?=some a->aj[i]?=some bc->(s a.f=true->s a.t=false->bc=a.c)/\(s a.f=false->s a.t=true->bc=0)):value n aj=mi n.bp s:=by
 rw[aqr h a5 A D];exact afC _ _ a5.kK.1 ba
theorem afk{s:Int->Bool}: ∀(bu:List c4),(∀a∈bu,0<=a.c/\a.c<=2147483647)->0<=mi bu s/\mi bu s<=bu.length*2147483647
 |[],_=>by simp[mi]
 | a::bu,h=>by have bY:=h a (by simp);have:=afk (s:=s) bu (λb hb=>h b (by simp[hb]));simp only[mi,mC,Int.natCast_add,Int.add_mul];split<;>omega
theorem FV{n:dH}(h:n.iN){aj:List Int}(a5:mE n aj):value n aj<=5368709117500:=by have A:=wj h a5 (s:= λx=>decide (x=n.dI)) (by simp) (by have:=h.hl;simp;omega);have D:=(afk (s:= λx=>decide (x=n.dI)) n.bp (λa aa=>(h.qu a aa).2.2)).2;have ai:=h.sh;have:(n.bp.length:Int)*2147483647<=2500*2147483647:=y9 (by omega) (by omega);omega
abbrev hz:=Nat×Bool
def gC(n:dH)(e:hz):Int:=match n.bp[e.1]? with|some a=>if e.2 then a.f else a.t|none=> -1
def hX(n:dH)(e:hz):Int:=match n.bp[e.1]? with|some a=>if e.2 then a.t else a.f|none=> -1
def cN(n:dH)(aj:List Int)(e:hz):Int:=match n.bp[e.1]?,aj[e.1]? with|some a,some bc=>if e.2 then a.c-bc else bc|_,_=>0
theorem yZ{n:dH}{aj:List Int}{e:hz}(h:0<cN n aj e): ∃a bc,n.bp[e.1]?=some a/\aj[e.1]?=some bc:=by
 unfold cN at h;split at h
 ·rename_i a bc A D;exact⟨a,bc,A,D⟩
 ·omega
structure Jc(n:dH)(aj:List Int)(u6:Int->Bool)(fS:Int->hz):Prop where
 dI:u6 n.dI=true
 Jq: ∃tN:Int->Nat,∀x,u6 x=true->x≠n.dI->0<cN n aj (fS x)/\hX n (fS x)=x/\u6 (gC n (fS x))=true/\tN (gC n (fS x))<tN x
 Gr: ∀e,0<cN n aj e->u6 (gC n e)=true->u6 (hX n e)=true
theorem Jc.Ts{n:dH}(ch:n.iN){aj:List Int}(a5:mE n aj){u6:Int->Bool}{fS:Int->hz}(h:Jc n aj u6 fS)(F:u6 n.eT=false):value n aj=mi n.bp u6:=by
 refine aHI ch a5 h.dI F λi a bc aa en=> ?_;have hb:=a5.kK.2 i a bc aa en;refine⟨λA D=> ?_,λA D=> ?_⟩
 ·have:=h.Gr (i,true);simp only[cN,gC,hX,aa,en,if_true]at this;by_cases al:0<a.c-bc
  ·rw[this al A]at D;cases D
  ·omega
 ·have:=h.Gr (i,false);simp only[cN,gC,hX,aa,en]at this;by_cases al:0<bc
  ·have:=this (by simpa using al) (by simpa using D);simp at this;rw[this]at A;cases A
  ·omega
inductive qp(n:dH)(fS:Int->hz):Int->List hz->Prop
 |dI:qp n fS n.dI []
 |cons {x:Int} {l:List hz} (B:x≠n.dI) (ba:hX n (fS x)=x) (h:qp n fS (gC n (fS x)) l):qp n fS x (fS x::l)
theorem Jc.path{n:dH}{aj:List Int}{u6:Int->Bool}{fS:Int->hz}(h:Jc n aj u6 fS){x:Int}(B:u6 x=true):
 ∃l,qp n fS x l/\(∀e∈l,0<cN n aj e)/\(l.map Prod.fst).Nodup:=by
 obtain⟨tN,al⟩:=h.Jq;have Aq: ∀(k:Nat) (x:Int),tN x<=k->u6 x=true-> ∃l,qp n fS x l/\(∀e∈l,0<cN n aj e)/\(l.map Prod.fst).Nodup/\ ∀e∈l,tN (hX n e)<=tN x/\tN (gC n e)<tN (hX n e):=by
  intro k;induction k with
  | zero=>
    intro x S B;by_cases F:x=n.dI
    ·subst F;exact⟨[],.dI,by simp,by simp,by simp⟩
    ·obtain⟨_,_,_,aT⟩:=al x B F;omega
  | succ k cf=>
    intro x S B;by_cases F:x=n.dI
    ·subst F;exact⟨[],.dI,by simp,by simp,by simp⟩
    ·obtain⟨A,D,ai,aT⟩:=al x B F;obtain⟨l,aE,a2,cj,dy⟩:=cf _ (by omega) ai;refine⟨fS x::l,.cons F D aE,?_,?_,?_⟩
     ·intro e aQ;rcases hi.1 aQ with rfl|aQ
      ·exact A
      ·exact a2 e aQ
     ·simp only[lO,A1];refine⟨λab=> ?_,cj⟩;obtain⟨e,aQ,avD⟩:=gG.1 ab;obtain⟨a8,bV⟩:=dy e aQ;have avF:hX n e=x\/gC n e=x:=by
       rw[<-D];unfold hX gC;rw[avD];obtain⟨a,bc,aa,_⟩:=yZ A;rw[aa];cases e.2<;>cases(fS x).2<;>simp
      rcases avF with aD|aD
      ·rw[aD]at a8;omega
      ·rw[aD]at bV;omega
     ·intro e aQ;rcases hi.1 aQ with rfl|aQ
      ·rw[D];exact⟨c8 _,aT⟩
      ·obtain⟨a8,bV⟩:=dy e aQ;exact⟨by omega,bV⟩
 obtain⟨l,aE,a2,cj,_⟩:=Aq _ x (c8 _) B;exact⟨l,aE,a2,cj⟩
def push(aj:List Int)(e:hz)(d:Int):List Int:=match aj[e.1]? with|some bc=>aj.set e.1 (if e.2 then bc+d else bc-d)|none=>aj
def qa(aj:List Int)(l:List hz)(d:Int):List Int:=l.foldl (λaj e=>push aj e d) aj
theorem anw: ∀(bu:List c4) (fs:List Int) (i:Nat) (a:c4) (bc ou x:Int),bu[i]?=some a->fs[i]?=some bc->jy bu (fs.set i ou) x=jy bu fs x+jT a.f x (ou-bc)-jT a.t x (ou-bc)
 |[],_,_,_,_,_,_,h,_=>by simp at h
 |_::_,[],_,_,_,_,_,_,h=>by simp at h
 | b::bu,aJG::fs,0,a,bc,ou,x,A,D=>by simp at A D;subst A;subst D;simp only[List.set_cons_zero,jy,jT];split<;>split<;>omega
 | b::bu,aJG::fs,i+1,a,bc,ou,x,A,D=>by have:=anw bu fs i a bc ou x (by simpa using A) (by simpa using D);simp only[List.set_cons_succ,jy,this];omega
theorem aEj{n:dH}{aj:List Int}{e:hz}(h:0<cN n aj e)(d x:Int):jy n.bp (push aj e d) x=jy n.bp aj x+jT (gC n e) x d-jT (hX n e) x d:=by
 obtain⟨a,bc,aa,en⟩:=yZ h;unfold push gC hX;simp only[aa,en];rw[anw _ _ _ a bc _ x aa en];cases e.2
 ·simp only[je,if_false];have:bc-d-bc= -d:=(by omega);rw[this,abd,abd];omega
 ·simp only[if_true];have:bc+d-bc=d:=(by omega);rw[this]
theorem abg{aj:List Int}{e:hz}{d:Int}:(push aj e d).length=aj.length:=by unfold push;split<;>simp
theorem abh{n:dH}{aj:List Int}{e dd:hz}(h:dd.1≠e.1)(d:Int):cN n (push aj e d) dd=cN n aj dd:=by
 have:(push aj e d)[dd.1]?=aj[dd.1]?:=by
  unfold push;split
  ·rw[Oi (Ne.symm h)]
  ·rfl
 unfold cN;rw[this]
theorem abf{n:dH}{aj:List Int}{e:hz}{d:Int}(hb:s3 n aj)(bY:0<cN n aj e)(aV:0<=d)(A:d<=cN n aj e):s3 n (push aj e d):=by
 refine⟨by rw[abg,hb.1],λi a bc aa en=> ?_⟩;obtain⟨b,ou,wU,tj⟩:=yZ bY;unfold cN at A;unfold push at en;simp only[wU,tj]at A en;rw[AX]at en;split at en
 ·rename_i W;subst W;rw[wU]at aa;cases aa;have:=hb.2 _ _ _ wU tj;split at en
  ·cases en;cases aQ:e.2<;>simp[aQ]at A⊢ <;>omega
  ·cases en
 ·exact hb.2 i a bc aa en
theorem aok{n:dH}{fS:Int->hz}{d:Int}(aV:0<=d): ∀{l:List hz} {x:Int} {aj:List Int},qp n fS x l->s3 n aj->(∀e∈l,0<cN n aj e/\d<=cN n aj e)->(l.map Prod.fst).Nodup->
 s3 n (qa aj l d)/\ ∀y,jy n.bp (qa aj l d) y=jy n.bp aj y+jT n.dI y d-jT x y d
 | [],x,aj,Z,hb,al,ae=>by cases Z;exact⟨hb,λy=>by simp only[qa,List.foldl_nil];omega⟩
 | e::l,x,aj,Z,hb,al,ae=>by
   cases Z with
   | cons B ba Z=>
     simp only[lO,A1]at ae;obtain⟨ek,gm⟩:=al (fS x) (by simp);have tj:=abf hb ek aV gm;have vQ: ∀e∈l,0<cN n (push aj (fS x) d) e/\d<=cN n (push aj (fS x) d) e:=by intro e aQ;rw[abh (λh=>ae.1 (gG.2 ⟨e,aQ,h⟩))];exact al e (by simp[aQ])
     obtain⟨aE,a2⟩:=aok aV Z tj vQ ae.2;refine⟨aE,λy=> ?_⟩;have:=a2 y;rw[aEj ek,ba]at this;simp only[qa,zg]at this⊢;rw[this];omega
theorem OL{n:dH}(ch:n.iN){aj:List Int}(a5:mE n aj){fS:Int->hz}{l:List hz}(Z:qp n fS n.eT l){d:Int}(aV:0<=d)(al: ∀e∈l,0<cN n aj e/\d<=cN n aj e)(ae:(l.map Prod.fst).Nodup):
 mE n (qa aj l d)/\value n (qa aj l d)=value n aj+d:=by
 obtain⟨aE,a2⟩:=aok aV Z a5.kK al ae;refine⟨⟨aE,λx B A D=> ?_⟩,?_⟩
 ·rw[a2,a5.Gt x B A D];simp only[jT];rw[if_neg (Ne.symm A),if_neg (Ne.symm D)];rfl
 ·unfold value;rw[a2];simp only[jT,if_true];rw[if_neg (Ne.symm ch.hl)];omega
theorem aq7{n:dH}(ch:n.iN):mE n (List.replicate n.bp.length 0)/\value n (List.replicate n.bp.length 0)=0:=by
 have bw: ∀(bu:List c4) x,jy bu (List.replicate bu.length 0) x=0:=by
  intro bu x;induction bu with
  |nil=>rfl
  |cons a bu cf=>simp only[mC,I4,jy,cf,jT];split<;>split<;>rfl
 refine⟨⟨⟨by simp,λi a bc aa en=> ?_⟩,λx _ _ _=>bw _ x⟩,bw _ _⟩;rw[List.getElem?_replicate]at en;split at en
 ·cases en;exact⟨sY _,(ch.qu a (fr aa)).2.2.1⟩
 ·cases en
theorem aaK: ∀{xs bs:List c4} {fs:List Int} {x:Int},xs.map (λa=>(a.f,a.t))=bs.map (λa=>(a.f,a.t))->jy xs fs x=jy bs fs x
 |[],[],_,_,_=>rfl
 |[],_::_,_,_,h=>by simp at h
 |_::_,[],_,_,h=>by simp at h
 |a::xs,b::bs,[],x,h=>rfl
 | a::xs,b::bs,bc::fs,x,h=>by simp only[lO,ub,wq]at h;simp only[jy,h.1.1,h.1.2,aaK (fs:=fs) (x:=x) h.2]
theorem aue{n gQ:dH}(A:gQ.dQ=n.dQ)(D:gQ.dI=n.dI)(ai:gQ.eT=n.eT)(ab:n.bp.map (λa=>(a.f,a.t))=gQ.bp.map (λa=>(a.f,a.t)))
 (ar: ∀(i:Nat) a b,n.bp[i]?=some a->gQ.bp[i]?=some b->a.c<=b.c) {aj:List Int} (a5:mE n aj):mE gQ aj/\value gQ aj=value n aj:=by
 have az:n.bp.length=gQ.bp.length:=by simpa using congrArg List.length ab
 refine⟨⟨⟨by rw[a5.kK.1,az],λi b bc hb en=> ?_⟩,λx B F ba=> ?_⟩,?_⟩
 ·have W:i<n.bp.length:=(by rw[az];exact(cG.1 hb).1);have aa:=c1 W;have:=a5.kK.2 i _ bc aa en;have:=ar i _ b aa hb;omega
 ·rw[<-aaK ab];exact a5.Gt x (by simpa[dH.hN,A]using B) (by rw[<-D];exact F) (by rw[<-ai];exact ba)
 ·unfold value;rw[D,aaK ab]
end Go.hR
namespace Go.Proofs.YtmmkkggfmigppaaGreat
open Go Go.DI Go.Big Go.hR
def sO(s:rn)(l:Int):Int:=if l=0 then s.a else if l=1 then s.b else if l=2 then s.c else if l=3 then s.d else s.e
def nI(u:aG)(v:Nat):Nat:=match u.aZ[v]? with|some x=>x.p9.toNat|none=>0
def yH(u:aG)(v i:Nat):Int:=match u.dj[nI u v]? with
 |some p=>if sO p.ax (hD u i)=0 then p.k+p.m else sO p.ax (hD u i)
 |none=>0
def pv(u:aG)(v d:Nat):Bool:=match u.dj[nI u v]?,u.aY[d]? with
 |some p,some x=>decide (x.model∈p.cr)
 |_,_=>false
def gF(u:aG)(v i:Nat):Int:=if i=0 then 2+(v:Int)else 2+u.aZ.length+v*((u.aP.length:Int)-1)+i-1
def dg(u:aG)(d:Nat):Int:=2+(u.aZ.length:Int)*u.aP.length+d
def si(u:aG)(v:Nat):c4:=⟨0,2+v,iF u v,0⟩
def uj(u:aG)(v i:Nat):c4:=⟨gF u v (jL u i),gF u v i,yH u v i,0⟩
def qv(u:aG)(v d:Nat):c4:=⟨gF u v (iD u d),dg u d,1,0⟩
def vj(u:aG)(R:List Int)(d:Nat):c4:=⟨dg u d,1,h4 u R d,0⟩
def qw(u:aG)(v:Nat):List c4:=si u v::((List.range (u.aP.length-1)).map (λj=>uj u v (j+1))++((List.range u.aY.length).filter (pv u v)).map (qv u v))
def dC(u:aG)(R:List Int):List c4:=(List.range u.aZ.length).flatMap (qw u)++(List.range u.aY.length).map (vj u R)
def im(u:aG)(R:List Int):dH:=⟨dg u u.aY.length,0,1,dC u R⟩
def q6(u:aG):Int:=((List.range u.aZ.length).map (iF u)).foldr (· + ·) 0
theorem aC4{a b:Nat}{ao aN:Int}(aa:(a:Int)<=ao)(hb:(b:Int)<=aN)(dG:0<=ao):(a:Int)*b<=ao*aN:=
 Int.le_trans (y9 aa (by omega)) (Ok hb dG)
theorem pz{u:aG}(h:fj u){v i:Nat}(M:v<u.aZ.length)(W:i<u.aP.length):2<=gF u v i/\gF u v i<dg u 0:=by
 have bG:=h.hl;obtain⟨bU,h9⟩: ∃bU:Nat,u.aP.length=bU+1:=⟨u.aP.length-1,by omega⟩;have e:(u.aZ.length:Int)*u.aP.length=u.aZ.length*(bU:Int)+u.aZ.length:=by rw[h9];grind
 have aD:((u.aP.length:Int)-1)=bU:=by omega
 have m:(v:Int)*bU+bU<=u.aZ.length*(bU:Int):=by
  have:((v:Int)+1)*bU<=u.aZ.length*(bU:Int):=y9 (by omega) (by omega)
  grind
 have G:0<=(v:Int)*bU:=A3 (by omega) (by omega);unfold gF dg;split
 ·have jA:0<=(u.aZ.length:Int)*bU:=A3 (by omega) (by omega);omega
 ·rw[aD,e];omega
theorem yJ{u:aG}(h:fj u):dg u u.aY.length<=506/\2<=dg u 0:=by have:=h.fg;have:=h.h2;have:=h.j4;have:=aC4 (a:=u.aZ.length) (b:=u.aP.length) (ao:=12) (aN:=40) (by omega) (by omega) (by omega);have G:0<=(u.aZ.length:Int)*u.aP.length:=A3 (by omega) (by omega);unfold dg;omega
theorem Ic{u:aG}(h:fj u){v:Nat}(M:v<u.aZ.length): ∃p,u.dj[nI u v]?=some p/\p∈u.dj/\nI u v<u.dj.length/\mr p.k p.m p.q p.ax=true/\iF u v=p.k+p.m:=by
 obtain⟨x,B⟩:=gk M;have hb:=h.N4 v x B;have Z:nI u v<u.dj.length:=by unfold nI;simp only[B];omega
 obtain⟨p,oF⟩: ∃p,u.dj[nI u v]?=some p:=⟨_,c1 Z⟩;refine⟨p,oF,fr oF,Z,(h.p9 _ p oF).1,?_⟩;have e:nI u v=x.p9.toNat:=by unfold nI;simp only[B]
 rw[e]at oF;unfold iF;simp only[B,oF]
theorem aC2{u:aG}(h:fj u){v:Nat}(M:v<u.aZ.length)(i:Nat):0<=yH u v i/\yH u v i<=8:=by
 obtain⟨p,A,_,_,aT,_⟩:=Ic h M;simp only[mr,a6,ey]at aT;obtain⟨bt,bR,a3,a4,ft,jh,lU,ox,Ba,Gh⟩:=aT;have:=m9 bt;have:=m9 bR;have:=m9 jh;have:=m9 lU;have:=m9 ox;have:=m9 Ba;have:=m9 Gh;unfold yH sO;simp only[A]
 repeat' split
 all_goals omega
theorem abL{u:aG}(h:fj u)(R:List Int){d:Nat}(aV:d<u.aY.length):0<=h4 u R d/\h4 u R d<=16:=by
 obtain⟨x,B⟩:=gk aV;obtain⟨bt,bR,_⟩:=h.tf d x B;obtain⟨y,Y⟩: ∃y,u.cr[x.model.toNat]?=some y:=⟨_,c1 (by omega)⟩;have hb:=h.HW _ y Y;have e:p0 u d=y.ext:=by unfold p0;simp only[B,Y]
 unfold h4;rw[e];split<;>omega
theorem DB{u:aG}(h:fj u){d:Nat}(aV:d<u.aY.length):iD u d<u.aP.length/\hD u (iD u d)=4:=by
 obtain⟨x,B⟩:=gk aV;obtain⟨_,_,a3,a4,ft⟩:=h.tf d x B;have e:iD u d=x.yD.toNat:=by unfold iD;simp only[B]
 rw[e];exact⟨by omega,ft⟩
theorem ML{u:aG}{v:Nat}{a:c4}:a∈qw u v↔a=si u v\/(∃j,j<u.aP.length-1/\a=uj u v (j+1))\/ ∃d,d<u.aY.length/\pv u v d=true/\a=qv u v d:=by
 unfold qw;simp only[hi,js,gG,om,List.mem_filter];constructor
 ·rintro(h|⟨j,aX,rfl⟩|⟨d,⟨aV,aa⟩,rfl⟩)
  ·exact .inl h
  ·exact .inr (.inl ⟨j,aX,rfl⟩)
  ·exact .inr (.inr ⟨d,aV,aa,rfl⟩)
 ·rintro(h|⟨j,aX,rfl⟩|⟨d,aV,aa,rfl⟩)
  ·exact .inl h
  ·exact .inr (.inl ⟨j,aX,rfl⟩)
  ·exact .inr (.inr ⟨d,⟨aV,aa⟩,rfl⟩)
theorem MK{u:aG}{R:List Int}{a:c4}:a∈dC u R↔(∃v,v<u.aZ.length/\a∈qw u v)\/ ∃d,d<u.aY.length/\a=vj u R d:=by
 unfold dC;simp only[js,wm,om,gG];constructor
 ·rintro(h|⟨d,aV,rfl⟩)
  ·exact .inl h
  ·exact .inr ⟨d,aV,rfl⟩
 ·rintro(h|⟨d,aV,rfl⟩)
  ·exact .inl h
  ·exact .inr ⟨d,aV,rfl⟩
theorem ar5{u:aG}(h:fj u){v:Nat}:(qw u v).length<=64:=by have:=h.fg;have:=h.h2;have:=Oh (pv u v) (List.range u.aY.length);simp only[F6]at this;simp only[qw,mC,iv,k8,F6];omega
theorem Gi{u:aG}(h:fj u): ∀n:Nat,((List.range n).flatMap (qw u)).length<=64*n
 |0=>by simp
 | n+1=>by have:=Gi h n;have:=ar5 h (v:=n);rw[A2,List.flatMap_append,iv];simp only[List.flatMap_cons,List.flatMap_nil,r8];omega
theorem OJ{u:aG}(h:fj u){R:List Int}:(dC u R).length<=792:=by have:=h.h2;have:=h.j4;have:=Gi h u.aZ.length;simp only[dC,iv,k8,F6];omega
theorem Cw{u:aG}(h:fj u)(R:List Int):(im u R).iN:=by
 obtain⟨dY,ee⟩:=yJ h;have bY:dg u u.aY.length=dg u 0+u.aY.length:=by unfold dg;omega
 refine⟨by show 2<=dg u u.aY.length;omega,by show dg u u.aY.length<=700;omega,by have:=OJ h (R:=R);show(dC u R).length<=2500;omega,⟨by show(0:Int)<=0;omega,by show(0:Int)<dg u u.aY.length;omega⟩,⟨by show(0:Int)<=1;omega,by show(1:Int)<dg u u.aY.length;omega⟩,by show(0:Int)≠1;omega,λa aa=> ?_⟩;have fg: ∀x:Int,0<=x->x<dg u u.aY.length->(im u R).hN x:= λx a b=>⟨a,b⟩;rcases MK.1 aa with⟨v,M,ab⟩|⟨d,aV,rfl⟩
 ·have bG:=h.hl;have bZ:=DK h M;rcases ML.1 ab with rfl|⟨j,aX,rfl⟩|⟨d,aV,_,rfl⟩
  ·have:=pz h M (i:=0) bG;simp only[gF,if_true]at this;exact⟨fg 0 (by omega) (by omega),fg _ (by show(0:Int)<=2+v;omega) (by show 2+(v:Int)<_;omega),by show 0<=iF u v;omega,by show iF u v<=2147483647;omega⟩
  ·have lD:j+1<u.aP.length:=(by omega);have:=(h.ni lD (h.vX lD (by omega))).1;have bt:=pz h M (i:=jL u (j+1)) (by omega);have bR:=pz h M lD;have a3:=aC2 h M (j+1);exact⟨fg _ (by show 0<=gF u v (jL u (j+1));omega) (by show gF u v (jL u (j+1))<_;omega),fg _ (by show 0<=gF u v (j+1);omega) (by show gF u v (j+1)<_;omega),a3.1,by show yH u v (j+1)<=2147483647;omega⟩
  ·have bt:=pz h M (DB h aV).1;have e:dg u d=dg u 0+d:=(by unfold dg;omega);exact⟨fg _ (by show 0<=gF u v (iD u d);omega) (by show gF u v (iD u d)<_;omega),fg _ (by show 0<=dg u d;omega) (by show dg u d<_;omega),by show(0:Int)<=1;omega,by show(1:Int)<=2147483647;omega⟩
 ·have e:dg u d=dg u 0+d:=(by unfold dg;omega);have aFr:=abL h R aV;exact⟨fg _ (by show 0<=dg u d;omega) (by show dg u d<_;omega),fg 1 (by omega) (by omega),aFr.1,by show h4 u R d<=2147483647;omega⟩
def Ie(u:aG)(R:List Int):Prop:= ∃aj,mE (im u R) aj/\q6 u<=value (im u R) aj
theorem aD3{u:aG}{R lS:List Int}(al: ∀d,d<u.aY.length->h4 u R d<=h4 u lS d)(h:Ie u R):Ie u lS:=by
 obtain⟨aj,A,D⟩:=h;have ab:(im u R).bp.map (λa=>(a.f,a.t))=(im u lS).bp.map (λa=>(a.f,a.t)):=by show(dC u R).map _=(dC u lS).map _;simp[dC,vj]
 have ar: ∀(i:Nat) (a b:c4),(dC u R)[i]?=some a->(dC u lS)[i]?=some b->a.c<=b.c:= λi a b kD iG=>by
  simp only[dC]at kD iG;rw[zb]at kD iG;split at kD
  ·next c=>rw[if_pos c,kD]at iG;cases iG;exact sY _
  ·next c=>rw[if_neg c]at iG;rw[rh,ve]at kD iG;obtain⟨d,aV,rfl⟩:=kD;obtain⟨lB,uz,rfl⟩:=iG;rw[aV]at uz;cases uz;exact al d (om.1 (fr aV))
 obtain⟨a,b⟩:=aue (n:=im u R) (gQ:=im u lS) rfl rfl rfl ab ar A;exact⟨aj,a,by rw[b];exact D⟩
end Go.Proofs.YtmmkkggfmigppaaGreat
namespace Go.Big
def e6(P:List Int->Bool):List Int->List Int->List Int×List Int
 |a,[]=>(a,[])
 |a,w::dS=>if P (a++[w])then e6 P (a++[w]) dS else((e6 P a dS).1,w::(e6 P a dS).2)
def pZ(P:List Int->Bool):Nat->List Int->List Int->List Int×List Int
 |0,a,w=>(a,w)
 |n+1,a,w=>if a≠[]/\P a=false then pZ P n a.dropLast (a.getLast?.getD 0::w)else(a,w)
def pO(P:List Int->Bool)(a w:List Int):List Int×List Int:=e6 P (pZ P a.length a w).1 (pZ P a.length a w).2
theorem U5{P:List Int->Bool}(ab: ∀a b:List Int,(∀x∈a,x∈b)->P b=true->P a=true): ∀(dS a:List Int),(a=[]\/P a=true)->
 ((e6 P a dS).1=[]\/P (e6 P a dS).1=true)/\(∀x∈a,x∈(e6 P a dS).1)/\(∀w∈(e6 P a dS).2,P ((e6 P a dS).1++[w])=false)/\((e6 P a dS).1++(e6 P a dS).2).Perm (a++dS)
 |[],a,h=>⟨h,λx B=>B,by simp[e6],by simp[e6]⟩
 | w::dS,a,h=>by
   by_cases c:P (a++[w])=true
   ·have e:e6 P a (w::dS)=e6 P (a++[w]) dS:=(by rw[e6,if_pos c]);obtain⟨A,D,ai,aT⟩:=U5 ab dS (a++[w]) (.inr c);rw[e];exact⟨A,λx B=>D x (by simp[B]),ai,by simpa using aT⟩
   ·have e:e6 P a (w::dS)=((e6 P a dS).1,w::(e6 P a dS).2):=(by rw[e6,if_neg c]);obtain⟨A,D,ai,aT⟩:=U5 ab dS a h;rw[e];refine⟨A,D,λx B=> ?_,?_⟩
    ·rcases hi.1 B with rfl|B
     ·cases Z:P ((e6 P a dS).1++[x])with
      |false=>rfl
      | true=>exact absurd (ab (a++[x]) _ (λy Y=>by
       rcases js.1 Y with Y|Y
       ·exact js.2 (.inl (D y Y))
       ·exact js.2 (.inr Y)) Z) c
     ·exact ai x B
    ·refine(List.perm_middle).trans (((aT.cons w)).trans ?_);exact(List.perm_middle).symm
theorem JQ{P:List Int->Bool}: ∀(n:Nat) (a w:List Int),a.length<=n->((pZ P n a w).1=[]\/P (pZ P n a w).1=true)/\(pZ P n a w).1++(pZ P n a w).2=a++w/\(P a=true->pZ P n a w=(a,w))
 |0,a,w,h=>⟨.inl (show a=[] by simpa using h),rfl,λ_=>rfl⟩
 | n+1,a,w,h=>by
   unfold pZ;by_cases c:a≠[]/\P a=false
   ·rw[if_pos c];obtain⟨A,D,_⟩:=JQ (P:=P) n a.dropLast (a.getLast?.getD 0::w) (by simp;omega);refine⟨A,?_,λZ=>absurd c.2 (by rw[Z];simp)⟩;rw[D];have:=List.dropLast_concat_getLast c.1;rw[List.getLast?_eq_some_getLast c.1];simp only[A0]
    conv=>rhs;rw[<-this]
    simp
   ·rw[if_neg c];refine⟨?_,rfl,λ_=>rfl⟩;by_cases e:a=[]
    ·exact .inl e
    ·right;cases Z:P a with
     |true=>rfl
     |false=>exact absurd ⟨e,Z⟩ c
theorem aoL{P:List Int->Bool}(ab: ∀a b:List Int,(∀x∈a,x∈b)->P b=true->P a=true)(a w:List Int):
 ((pO P a w).1=[]\/P (pO P a w).1=true)/\(∀x∈(pO P a w).2,P ((pO P a w).1++[x])=false)/\((pO P a w).1++(pO P a w).2).Perm (a++w):=by
 obtain⟨A,D,_⟩:=JQ (P:=P) a.length a w (c8 _);obtain⟨aE,_,cj,dy⟩:=U5 ab (pZ P a.length a w).2 (pZ P a.length a w).1 A;exact⟨aE,cj,by rw[<-D];exact dy⟩
end Go.Big
namespace Go.Proofs.YtmmkkggfmigppaaGreat
open Go Go.DI Go.Big Go.hR
def mV(u:aG)(R c9:List Int):List Int:=iW u.aY.length λd=>if c9.any (λn=>ly u d n)then 0 else h4 u R d
theorem abM{u:aG}{R c9:List Int}:(mV u R c9).length=u.aY.length:=by rw[mV,TB]
theorem abK{u:aG}(h:fj u){R c9:List Int}{d:Nat}(aV:d<u.aY.length):h4 u (mV u R c9) d=if c9.any (λn=>ly u d n)then 0 else h4 u R d:=by
 have al:=abL h R aV;have e:(mV u R c9).getD d 0=if c9.any (λn=>ly u d n)then 0 else h4 u R d:=by rw[nQ,mV,vZ aV];rfl
 have B:h4 u R d<=p0 u d/\0<=p0 u d:=by obtain⟨x,B⟩:=gk aV;obtain⟨bt,bR,_⟩:=h.tf d x B;obtain⟨y,Y⟩: ∃y,u.cr[x.model.toNat]?=some y:=⟨_,c1 (by omega)⟩;have hb:=h.HW _ y Y;have e:p0 u d=y.ext:=(by unfold p0;simp only[B,Y]);unfold h4;rw[e];split<;>omega
 conv=>lhs;unfold h4
 rw[if_pos abM,e];split<;>omega
def abc(u:aG)(R c9:List Int):Prop:=Ie u (mV u R c9)
theorem aD2{u:aG}(h:fj u){R a b:List Int}(F: ∀x∈a,x∈b)(Z:abc u R b):abc u R a:=by
 refine aD3 (λd aV=> ?_) Z;have:=abL h R aV;rw[abK h aV,abK h aV];by_cases c:a.any (λn=>ly u d n)=true
 ·obtain⟨x,B,hb⟩:=Dd.1 c;rw[if_pos c,if_pos (Dd.2 ⟨x,F x B,hb⟩)];exact sY _
 ·rw[if_neg c];split<;>omega
open Classical in
noncomputable def gh(u:aG)(R c9:List Int):Bool:=decide (abc u R c9)
theorem aob{u:aG}(h:fj u){R:List Int}(a b:List Int)(F: ∀x∈a,x∈b)(Z:gh u R b=true):gh u R a=true:=by
 classical
 exact decide_eq_true (aD2 h F (of_decide_eq_true Z))
end Go.Proofs.YtmmkkggfmigppaaGreat
namespace Go.Big
theorem U4{P:List Int->Bool}{x:Int}: ∀{l a:List Int},e6 P a (l++[x])=if P ((e6 P a l).1++[x])=true then((e6 P a l).1++[x],(e6 P a l).2)else((e6 P a l).1,(e6 P a l).2++[x])
 | [],a=>by simp only[wo,e6]<;>rfl
 | w::l,a=>by
   by_cases c:P (a++[w])=true
   ·simp only[tZ,e6,if_pos c];exact U4
   ·simp only[tZ,e6,if_neg c];rw[U4 (l:=l) (a:=a)];split<;>rfl
theorem aeF{P:List Int->Bool}{a dS:List Int}{i:Nat}{x:Int}(B:dS[i]?=some x):e6 P a (dS.take (i+1))=if P ((e6 P a (dS.take i)).1++[x])=true then((e6 P a (dS.take i)).1++[x],(e6 P a (dS.take i)).2)else((e6 P a (dS.take i)).1,(e6 P a (dS.take i)).2++[x]):=by rw[qm,B];exact U4
theorem U6{P:List Int->Bool}: ∀(l a:List Int),(e6 P a l).2.Sublist l
 |[],a=>by simp[e6]
 | w::l,a=>by
   by_cases c:P (a++[w])=true
   ·simp only[e6,if_pos c];exact(U6 l _).cons w
   ·simp only[e6,if_neg c];exact(U6 l _).cons_cons w
theorem Ji{P:List Int->Bool}: ∀(l a:List Int),(e6 P a l).1.length+(e6 P a l).2.length=a.length+l.length
 |[],a=>by simp[e6]
 | w::l,a=>by
   by_cases c:P (a++[w])=true
   ·simp only[e6,if_pos c];have:=Ji (P:=P) l (a++[w]);simp at this⊢;omega
   ·simp only[e6,if_neg c];have:=Ji (P:=P) l a;simp at this⊢;omega
theorem af8{P:List Int->Bool}{ao ay:List Int}{k:Nat}(S:k<ao.length):pZ P (k+1) (ao.take (k+1)) (ao.drop (k+1)++ay)=if P (ao.take (k+1))=false then pZ P k (ao.take k) (ao.drop k++ay)else(ao.take (k+1),ao.drop (k+1)++ay):=by
 obtain⟨x,B⟩: ∃x,ao[k]?=some x:=⟨_,c1 S⟩;have cS:ao[k]=x:=(cG.1 B).2;have e:ao.take (k+1)=ao.take k++[x]:=by rw[qm,B];rfl
 have bG:ao.take (k+1)≠[]:=by rw[e];simp
 have aJ:ao.drop k=x::ao.drop (k+1):=by rw[rb S,cS]
 rw[pZ];by_cases c:P (ao.take (k+1))=false
 ·rw[if_pos ⟨bG,c⟩,if_pos c,aJ,e];simp
 ·rw[if_neg (λh=>c h.2),if_neg c]
def fo(l:List Int)(x:Int):List Int:=l.filter λy=> !decide (y=x)
theorem S1{l:List Int}{x:Int}(h:x∉l):fo l x=l:=by unfold fo;rw[List.filter_eq_self];intro y Y;have:y≠x:= λe=>h (e▸Y);simp[this]
theorem amR{l r:List Int}{x:Int}(h:(l++x::r).Nodup):fo (l++x::r) x=l++r:=by
 have az:x∉l:= λab=>by rw[AY]at h;exact h.2.2 x ab x (by simp) rfl
 have al:x∉r:= λab=>by rw[AY]at h;exact(A1.1 h.2.1).1 ab
 have e:fo (l++x::r) x=fo l x++fo (x::r) x:=by unfold fo;rw[List.filter_append]
 have aJ:fo (x::r) x=fo r x:=by unfold fo;rw[List.filter_cons];simp
 rw[e,aJ,S1 az,S1 al]
theorem An{l:List Int}{x:Int}:(fo l x).length<=l.length:=Oh _ _
theorem aCn{l:List Int}{x y:Int}:fo (l++[y]) x=if y=x then fo l x else fo l x++[y]:=by unfold fo;rw[List.filter_append];by_cases c:y=x<;>simp[c]
theorem HR{l:List Int}{x y:Int}{i:Nat}(h:l[i]?=some y):fo (l.take (i+1)) x=if y=x then fo (l.take i) x else fo (l.take i) x++[y]:=by rw[qm,h];exact aCn
theorem aCp{P:List Int->Bool}{a dS:List Int}{i:Nat}{x:Int}(B:dS[i]?=some x)(ae:dS.Nodup):fo ((e6 P a (dS.take i)).2++dS.drop i) x=(e6 P a (dS.take i)).2++dS.drop (i+1):=by
 have W:=(cG.1 B).1;have aJ:dS.drop i=x::dS.drop (i+1):=by rw[rb W,(cG.1 B).2]
 have F:((e6 P a (dS.take i)).2++dS.drop i).Sublist dS:=by
  have:=(U6 (P:=P) (dS.take i) a).append (List.Sublist.refl (dS.drop i))
  rwa [List.take_append_drop]at this
 have vJ:=F.nodup ae;rw[aJ]at vJ⊢;exact amR vJ
theorem aIu{P:List Int->Bool}{a dS:List Int}{i:Nat}{x:Int}(B:dS[i]?=some x):(e6 P a (dS.take i)).2++dS.drop i=((e6 P a (dS.take i)).2++[x])++dS.drop (i+1):=by have W:=(cG.1 B).1;rw[rb W,(cG.1 B).2];simp
theorem aoK{P:List Int->Bool}{a w:List Int}:(pO P a w).1.length+(pO P a w).2.length=a.length+w.length:=by unfold pO;have D:=(JQ (P:=P) a.length a w (c8 _)).2.1;have:=Ji (P:=P) (pZ P a.length a w).2 (pZ P a.length a w).1;have ai:=congrArg List.length D;simp only[iv]at ai;omega
end Go.Big
namespace Go.Proofs.YtmmkkggfmigppaaGreat
open Go Go.DI Go.Big
theorem lT.dK{t af:H}{v:Value}{l:List Int}(h:lT t v l)(S: ∀b,b<t.next->af.I b=t.I b):lT af v l:=by
 obtain⟨A,D⟩:=h;cases c:iB v with
 |true=>exact⟨by simpa[kz,c]using A,by simpa[lb,c]using D⟩
 | false=>
   simp only[kz,c,lb,je,if_false]at A D;rcases y4 A with rfl|⟨b,off,len,x,rfl,B,eV⟩
   ·have:l=[]:=(by simpa[fq]using D.symm);subst this;exact lT.nil
   ·refine lT.own (cs:=x.cells) (w:=x.own) (by rw[S b (aM B),B]) (by omega) ?_;simpa[fq,gM,B]using D
theorem adM{t:H}{v:Value}{l:List Int}(h:lT t v l)(az:l.length<=999999){n:Int}:fc N 74 [v,E n] t λr af=> ∃o,t.next<=o/\r=b7 o (l.length+1) 1/\af.I o=some ⟨(l++[n]).map E,true⟩/\ ∀b,b<t.next->af.I b=t.I b:=by
 refine c2 (ax:=⟨[],[G4]⟩) alM (by kernel_rfl) (by simp[R9]) ?_;have ar: ∀k,wI v (t.b0 k)=some (b7 (t.next+k) l.length 1,((t.b0 k).b0 1).aO (t.next+k) (some ⟨l.map E,true⟩)):= λk=>O8 (h.dK λb hb=>cJ hb) (by omega);have e8:(l.length+1)*8<=140737488355328/\l.length<=9223372036854775806:=by omega
 have mN:List.take l.length (l.map E)=l.map E:=h7 (by simp);simp(disch:=first|omega|simp only[DI.aK];omega) [R9,alL,ar,e8,mN];refine⟨t.next+4,by omega,rfl,by rw[cx (by simp)],λb hb=> ?_⟩;rw[a7 (by omega),a7 (by omega),a7 (by omega),a7 (by omega),H.cJ,cJ hb]
theorem at3{t:H}{b:Nat}{x n:Int}{w:Bool}(g:t.I b=some ⟨[E n],w⟩):fc N 122 [E x,bH b] t λr af=>r= .bool (decide (x=n))/\af=t:=by refine c2 (ax:=⟨[],[]⟩) aiB (by kernel_rfl) (by simp[QA]) ?_;simp[QA,aiA,g]
def DG(x:Int)(b:Nat)(t:H):Option (Value×H):=match t.I b with
 | some y=>(match y.cells with
   |[.int .i64 n]=>some (.bool (decide (x=n)),t)
   |_=>none)
 |none=>none
noncomputable def G5:jg N:= .cK 122 (Int×Nat) (λy=>[E y.1,bH y.2]) (λy t=>DG y.1 y.2 t) λ⟨x,b⟩ t r af h bA iA=>by
 simp only[DG]at h;split at h
 ·next y Y=>
  split at h
  ·next n ae=>cases h;obtain⟨cs,w⟩:=y;obtain rfl:cs=[E n]:=ae;exact(at3 Y).bD λv af ⟨a,b⟩=>by rw[a,b];exact iA
  ·cases h
 ·cases h
@[simp] theorem aPs:G5.f=122:=rfl
@[simp] theorem aPt{x:Int}{b:Nat}{t:H}:G5.fn [.int .i64 x,.pointer (some ⟨b,0,none⟩)] t=DG x b t:=jg.dx (x:=(x,b)) (t:=t) λ⟨ko,h6⟩ Y=>by simpa using Y
abbrev Pm(b:Nat):Value:= .func (.func 122) #[] #[bH b]
theorem aw0{t:H}{o b:Nat}{l:List Int}{n:Int}(bq:t.I o=some ⟨l.map E,true⟩)(qE:t.I b=some ⟨[E n],true⟩)(az:l.length<=1000000):
 fc N 182 [b7 o l.length 1,Pm b] t λr af=>af=t/\((n∉l/\r=E (-1))\/ ∃k:Nat,k<l.length/\l[k]?=some n/\n∉l.take k/\r=E k):=by
 refine c2 (ax:=⟨[],[G5]⟩) ajq (by kernel_rfl) (by simp[Q5]) ?_;have bk:=aM bq;have EX:=aM qE;simp[Q5,ajp];refine gR (ax:=⟨[],[G5]⟩) (λi z af=>af=t/\n∉l.take i/\z 0=b7 o l.length 1/\z 1=Pm b/\z 7=E l.length/\z 8=E i) l.length ?_ ?_ 0 _ _ (gi _) ⟨rfl,by simp,by simp,by simp,by simp,by simp⟩
 ·rintro i z af W ⟨rfl,ae,bO,aU,ca,bl⟩ bM a1;obtain⟨x,B⟩:=gk W;have cS:=(cG.1 B).2;have bC:(i:Int)<l.length:=(by omega);have a8:i+1<=l.length:=W;have br:=fz (n:=i) (by omega);by_cases c:x=n
  ·subst c;simp(disch:=first|omega|simp only[DI.aK];omega) [Q6,Lc,bO,aU,ca,bl,bq,qE,bC,a8,cS,fC,DG];exact⟨i,W,B,ae,rfl⟩
  ·simp(disch:=first|omega|simp only[DI.aK];omega) [Q6,Lc,bO,aU,ca,bl,bq,qE,bC,a8,br,cS,fC,DG,c,-an,-au,-ak,-aq,-List.map_map];refine a1 _ _ ⟨rfl,?_,by simp[bO],by simp[aU],by simp[ca],by simp⟩;rw[qm,B];simp[ae];exact λe=>c e.symm
 ·rintro z af ⟨rfl,ae,bO,aU,ca,bl⟩;rw[mY]at ae;simp[Q6,Lc,Lc,ca,bl,ae]
theorem awY{cs vs:List Value}{off:Nat}(A:wv cs)(D:wv vs):wv (gE cs off vs):=Vd (λc=> ∃n:Int,c=E n) vs off cs A D
theorem asp{vs:List Value}: ∀{off k:Nat} {cs:List Value},k<=off->(gE cs off vs).take k=cs.take k:=by
 induction vs with
 |nil=>intro off k cs h;rfl
 | cons v vs cf=>
   intro off k cs h;simp only[gE];rw[cf (by omega)];apply ze;intro i;rw[rf,rf];split
   ·rw[Oi (by omega)]
   ·rfl
def qU(l:List Int)(n:Int)(j:Nat):List Value:=(fo (l.take j) n).map E++(l.map E).drop (fo (l.take j) n).length
theorem S2{l:List Int}{n:Int}{j:Nat}:(fo (l.take j) n).length<=j:=mD An (by rw[ri];omega)
theorem amK{l:List Int}{n:Int}{j:Nat}(aX:j<=l.length):(qU l n j).length=l.length:=by have:=S2 (l:=l) (n:=n) (j:=j);unfold qU;simp;omega
theorem aBO{l:List Int}{n:Int}{j:Nat}{x:Int}(B:l[j]?=some x):(qU l n j)[j]?=some (E x):=by have:=S2 (l:=l) (n:=n) (j:=j);unfold qU;rw[AU (by simpa using this),zd,k8];rw[show(fo (l.take j) n).length+(j-(fo (l.take j) n).length)=j by omega,rh,B];rfl
theorem aBR{l:List Int}{n x:Int}{j:Nat}(B:l[j]?=some x)(c: ¬x=n):(qU l n j).set (fo (l.take j) n).length (E x)=qU l n (j+1):=by have A:=S2 (l:=l) (n:=n) (j:=j);have aX:=(cG.1 B).1;unfold qU;rw[HR B,if_neg c];have bG:(l.map E).drop (fo (l.take j) n).length=((l.map E)[(fo (l.take j) n).length]'(by simp;omega))::(l.map E).drop ((fo (l.take j) n).length+1):=rb _;rw[bG,List.set_append_right _ _ (by simp)];simp
theorem aBQ{l:List Int}{n x:Int}{j:Nat}(B:l[j]?=some x)(c:x=n):qU l n (j+1)=qU l n j:=by unfold qU;rw[HR B,if_pos c]
theorem aBP{l:List Int}{n:Int}{j:Nat}:wv (qU l n j):= λc ar=>by
 unfold qU at ar;rcases js.1 ar with h|h
 ·exact wv.map c h
 ·exact wv.map c (AW h)
theorem ato{t:H}{o b:Nat}{l:List Int}{n:Int}(bq:t.I o=some ⟨l.map E,true⟩)(qE:t.I b=some ⟨[E n],true⟩)(z1:o≠b)(az:l.length<=1000000):
 fc N 121 [b7 o l.length 1,Pm b] t λr af=>r=b7 o (fo l n).length 1/\fa af o (fo l n)/\ ∀q,q<t.next->q≠o->af.I q=t.I q:=by
 refine c2 (ax:=⟨[],[G5]⟩) aiy (by kernel_rfl) (by simp[Qy]) ?_;have bk:=aM bq;have EX:=aM qE;simp[Qy,aix];refine(aw0 bq qE az).bD λr af ⟨ba,al⟩=> ?_;subst ba;rcases al with⟨ae,rfl⟩|⟨k,S,zY,P3,rfl⟩
 ·have e:=S1 ae;have avp:=fa.cK bq;simp[XR,e,avp]
 ·have br:=fz (n:=k) (by omega);have wZ: ¬(k:Int)= -1:=(by omega);simp(disch:=first|omega|simp only[DI.aK];omega) [XR,aiz,wZ,br];have hc:fo (l.take (k+1)) n=l.take k:=(by rw[HR zY,if_pos rfl,S1 P3]);have dD:(l.take k).length=k:=(by rw[ri];omega);refine gR (ax:=⟨[],[G5]⟩) (λi z bj=> ∃j,j=k+1+i/\bj.I o=some ⟨qU l n j,true⟩/\(∀q,q<af.next->q≠o->bj.I q=af.I q)/\(fo (l.take j) n).length<j/\z 0=b7 o l.length 1/\z 1=Pm b/\z 5=E (fo (l.take j) n).length/\z 6=E j) (l.length-(k+1)) ?_ ?_ 0 _ _ (gi _) ?_
  ·rintro i z bj W ⟨j,aX,aE,nB,dm,bO,aU,bz,bB⟩ bM a1;have zW:j<l.length:=(by omega);obtain⟨x,B⟩:=gk zW;have cS:=(cG.1 B).2;have agB:bj.I b=some ⟨[E n],true⟩:=(nB b EX z1.symm).trans qE;have EV:=amK (n:=n) (Nat.le_of_lt zW);have aBU:=aBO (n:=n) B;have amN: ∀h,(qU l n j)[j]'h=E x:= λh=>(cG.1 aBU).2;have bC:(j:Int)<l.length:=(by omega);have a8:j+1<=l.length:=zW;have bV:j<(qU l n j).length:=(by omega);have ct:=fz (n:=j) (by omega);obtain⟨c,ar⟩: ∃c,(fo (l.take j) n).length=c:=⟨_,rfl⟩;rw[ar]at dm bz;have dW:=fz (n:=c) (by omega);have S4:=aM aE;have cv:(c:Int)<l.length:=(by omega);have fQ:c+1<=l.length:=(by omega);by_cases jN:x=n
   ·have aD:=aBQ B jN;have aJ:fo (l.take (j+1)) n=fo (l.take j) n:=(by rw[HR B,if_pos jN]);simp(disch:=first|omega|simp only[DI.aK];omega) [Qz,KX,bO,aU,bB,aE,agB,bC,a8,EV,amN,ct,fC,DG,jN,-an,-au,-ak,-aq,-List.map_map];refine a1 _ _ ⟨j+1,by omega,by rw[aD];exact aE,nB,by rw[aJ,ar];omega,by simp[bO],by simp[aU],by rw[aJ,ar];simp[bz],by simp⟩
   ·have aD:=aBR B jN;rw[ar]at aD;have aJ:fo (l.take (j+1)) n=fo (l.take j) n++[x]:=(by rw[HR B,if_neg jN]);simp(disch:=first|omega|simp only[DI.aK];omega) [Qz,KX,bO,aU,bz,bB,aE,agB,bC,a8,cv,fQ,EV,amN,ct,dW,fC,DG,jN,aD,-an,-au,-ak,-aq,-List.map_map];refine a1 _ _ ⟨j+1,by omega,by rw[cx S4],λq bo tw=>by rw[a7 tw];exact nB q bo tw,by rw[aJ,iv,ar];simp;omega,by simp[bO],by simp[aU],by rw[aJ,iv,ar];simp,by simp⟩
  ·rintro z bj ⟨j,aX,aE,nB,dm,bO,aU,bz,bB⟩;obtain rfl:j=l.length:=(by omega);rw[mY]at dm bz;have EV:=amK (l:=l) (n:=n) (c8 _);obtain⟨c,ar⟩: ∃c,(fo l n).length=c:=⟨_,rfl⟩;rw[ar]at dm bz;obtain⟨d,aV⟩: ∃d,l.length=c+d:=⟨l.length-c,by omega⟩;have S4:=aM aE;have fQ:c<=l.length:=(by omega);have g0:(c:Int)<=l.length:=(by omega);have jj:c+(l.length-c)=l.length:=(by omega);simp[Qz,KX,KX,bO,bz,bB,aE,EV,g0,jj,n1,ar];refine⟨⟨_,cx S4,?_,?_,?_⟩,λq bo tw=> ?_⟩
   ·rw[ar,asp (c8 _)];unfold qU;rw[mY,<-ar];exact List.take_left' (by simp)
   ·rw[Gj,EV,ar];omega
   ·refine awY aBP λv M=> ?_;simp at M;exact⟨0,by first|exact M.2|exact M⟩
   ·rw[a7 tw];exact nB q bo tw
  ·refine⟨k+1,rfl,?_,λq _ _=>rfl,by rw[hc,dD];omega,by simp,by simp,by rw[hc,dD];simp,by simp⟩;rw[bq];unfold qU;rw[hc,dD,<-List.map_drop,<-vf,List.take_append_drop]
theorem aqD{t:H}{v:Value}{l:List Int}(h:lT t v l)(az:l.length<=1000000){n:Int}:fc N 75 [v,E n] t λr af=> ∃o,t.next<=o/\r=b7 o (fo l n).length 1/\fa af o (fo l n)/\ ∀b,b<t.next->af.I b=t.I b:=by
 refine c2 (ax:=⟨[],[G4]⟩) alO (by kernel_rfl) (by simp[Sa]) ?_;obtain⟨bj,rG⟩: ∃bj,bj=(t.b0 2).aO t.next (some ⟨[E n],true⟩):=⟨_,rfl⟩
 have dY:bj.next=t.next+2:=by rw[rG];simp
 have agF: ∀b,b<t.next->bj.I b=t.I b:= λb hb=>by rw[rG,a7 (by omega),cJ hb]
 have aE:bj.I t.next=some ⟨[E n],true⟩:=by rw[rG];exact cx (by simp)
 have ar:wI v bj=some (b7 bj.next l.length 1,(bj.b0 1).aO bj.next (some ⟨l.map E,true⟩)):=O8 (h.dK agF) az;simp[Sa,alN,<-rG,ar];obtain⟨eC,G0⟩: ∃eC,eC=(bj.b0 1).aO bj.next (some ⟨l.map E,true⟩):=⟨_,rfl⟩
 have agG: ∀b,b<bj.next->eC.I b=bj.I b:= λb hb=>by rw[G0,a7 (by omega),cJ hb]
 have a2:eC.I bj.next=some ⟨l.map E,true⟩:=by rw[G0];exact cx (by simp)
 have ee:eC.next=bj.next+1:=by rw[G0];simp
 rw[<-G0];refine(ato (o:=bj.next) (b:=t.next) a2 (by rw[agG _ (by omega)];exact aE) (by omega) az (n:=n)).bD λr t3 ⟨al,ai,BK⟩=> ?_;subst al;simp;exact⟨bj.next,by omega,rfl,ai,λb hb=>by rw[BK b (by omega) (by omega),agG b (by omega),agF b hb]⟩
open Go Go.DI
section
set_option maxRecDepth 100000
def EM:cp N 31:=⟨_,by conv=>lhs;reduce⟩
def azx:aw:=aF (a:=bg EM.1.body 160351) ⟨_,by conv=>lhs;reduce⟩
def azy:aw:=aF (a:= λx=>bh 313 x (bg EM.1.body 607)) ⟨_,by conv=>lhs;reduce⟩ azx
def azz:aw:=aF (a:=bg EM.1.body 1215) ⟨_,by conv=>lhs;reduce⟩
def azw:aw:=aF (a:=bg EM.1.body 511) ⟨_,by conv=>lhs;reduce⟩
def azv:aw:=aF (a:= λx=>bh 3 x (bg EM.1.body 255)) ⟨_,by conv=>lhs;reduce⟩ azw
def azu:aw:=aF (a:= λx y=>bh 3 y (bh 18 x (bg EM.1.body 127))) ⟨_,by conv=>lhs;reduce⟩ azz azv
def azs:aw:=aF (a:= λx y=>bh 127 y (bh 607 x EM.1.body)) ⟨_,by conv=>lhs;reduce⟩ azy azu
def ak0:b8:=⟨135,[.bJ 6],azs⟩
theorem azt:cd N 31=some ak0:=by kernel_rfl
def ZX:cp N 37:=⟨_,by conv=>lhs;reduce⟩
def ak5:aw:=aF (a:=bg ZX.1.body 63) ⟨_,by conv=>lhs;reduce⟩
def YP:aw:=aF (a:= λx=>bh 3 x (bg ZX.1.body 31)) ⟨_,by conv=>lhs;reduce⟩ ak5
def ak4:aw:=aF (a:= λx=>bh 31 x ZX.1.body) ⟨_,by conv=>lhs;reduce⟩ YP
def YO:b8:=⟨36,[.bJ 4,.bJ 5],ak4⟩
theorem azC:cd N 37=some YO:=by kernel_rfl
def B8:cp N 79:=⟨_,by conv=>lhs;reduce⟩
def az0:aw:=aF (a:=bg B8.1.body 4954495) ⟨_,by conv=>lhs;reduce⟩
def az1:aw:=aF (a:= λx=>bh 2419 x (bg B8.1.body 2431)) ⟨_,by conv=>lhs;reduce⟩ az0
def az2:aw:=aF (a:=bg B8.1.body 4863) ⟨_,by conv=>lhs;reduce⟩
def azX:aw:=aF (a:=bg B8.1.body 1023) ⟨_,by conv=>lhs;reduce⟩
def azW:aw:=aF (a:= λx y=>bh 3 y (bh 18 x (bg B8.1.body 511))) ⟨_,by conv=>lhs;reduce⟩ az2 azX
def azZ:aw:=aF (a:= λx y=>bh 15 y (bh 75 x (bg B8.1.body 63))) ⟨_,by conv=>lhs;reduce⟩ az1 azW
def azY:aw:=aF (a:= λx=>bh 3 x (bg B8.1.body 31)) ⟨_,by conv=>lhs;reduce⟩ azZ
def azU:aw:=aF (a:= λx=>bh 31 x B8.1.body) ⟨_,by conv=>lhs;reduce⟩ azY
def alQ:b8:=⟨110,[.ha 4 true 3,.bJ 5],azU⟩
theorem azV:cd N 79=some alQ:=by kernel_rfl
def Ae:cp N 81:=⟨_,by conv=>lhs;reduce⟩
def LS:aw:=aF (a:=bg Ae.1.body 76951) ⟨_,by conv=>lhs;reduce⟩
def LU:aw:=aF (a:=bg Ae.1.body 81047) ⟨_,by conv=>lhs;reduce⟩
def Zc:aw:=aF (a:= λx=>bh 9 x (bg Ae.1.body 15511)) ⟨_,by conv=>lhs;reduce⟩ LU
def Zb:aw:=aF (a:= λx y=>bh 3 y (bh 18 x (bg Ae.1.body 7319))) ⟨_,by conv=>lhs;reduce⟩ LS Zc
def Se:aw:=aF (a:= λx=>bh 57 x (bg Ae.1.body 151)) ⟨_,by conv=>lhs;reduce⟩ Zb
def Sf:aw:=aF (a:=bg Ae.1.body 607) ⟨_,by conv=>lhs;reduce⟩
def alV:aw:=aF (a:=bg Ae.1.body 127) ⟨_,by conv=>lhs;reduce⟩
def alU:aw:=aF (a:= λx y=>bh 7 y (bh 37 x (bg Ae.1.body 31))) ⟨_,by conv=>lhs;reduce⟩ Sf alV
def alS:aw:=aF (a:= λx y=>bh 31 y (bh 151 x Ae.1.body)) ⟨_,by conv=>lhs;reduce⟩ Se alU
def Sd:b8:=⟨151,[.ha 4 true 4,.bJ 5],alS⟩
theorem alT:cd N 81=some Sd:=by kernel_rfl
def aBx:cp N 82:=⟨_,by conv=>lhs;reduce⟩
def Zd:aw:=aF (a:=aBx.1.body) ⟨_,by conv=>lhs;reduce⟩
def LV:b8:=⟨25,[.bJ 6],Zd⟩
theorem alW:cd N 82=some LV:=by kernel_rfl
def aBy:cp N 83:=⟨_,by conv=>lhs;reduce⟩
def alX:aw:=aF (a:=aBy.1.body) ⟨_,by conv=>lhs;reduce⟩
def Sg:b8:=⟨15,[.bJ 4],alX⟩
theorem alY:cd N 83=some Sg:=by kernel_rfl
def Z2:cp N 85:=⟨_,by conv=>lhs;reduce⟩
def Ze:aw:=aF (a:=bg Z2.1.body 75) ⟨_,by conv=>lhs;reduce⟩
def Si:aw:=aF (a:=bg Z2.1.body 15) ⟨_,by conv=>lhs;reduce⟩
def al0:aw:=aF (a:= λx y=>bh 15 y (bh 75 x Z2.1.body)) ⟨_,by conv=>lhs;reduce⟩ Ze Si
def Sh:b8:=⟨18,[.bJ 2],al0⟩
theorem al1:cd N 85=some Sh:=by kernel_rfl
def SG:cp N 90:=⟨_,by conv=>lhs;reduce⟩
def LZ:aw:=aF (a:=bg SG.1.body 20043) ⟨_,by conv=>lhs;reduce⟩
def HK:aw:=aF (a:= λx=>bh 313 x (bg SG.1.body 75)) ⟨_,by conv=>lhs;reduce⟩ LZ
def ama:aw:=aF (a:=bg SG.1.body 15) ⟨_,by conv=>lhs;reduce⟩
def al9:aw:=aF (a:= λx y=>bh 15 y (bh 75 x SG.1.body)) ⟨_,by conv=>lhs;reduce⟩ HK ama
def Zk:b8:=⟨74,[.bJ 6],al9⟩
theorem aAb:cd N 90=some Zk:=by kernel_rfl
def L0:cp N 118:=⟨_,by conv=>lhs;reduce⟩
def Hc:aw:=aF (a:=bg L0.1.body 2431) ⟨_,by conv=>lhs;reduce⟩
def aiv:aw:=aF (a:=bg L0.1.body 511) ⟨_,by conv=>lhs;reduce⟩
def aiw:aw:=aF (a:= λx y=>bh 15 y (bh 75 x (bg L0.1.body 63))) ⟨_,by conv=>lhs;reduce⟩ Hc aiv
def XQ:aw:=aF (a:= λx=>bh 3 x (bg L0.1.body 31)) ⟨_,by conv=>lhs;reduce⟩ aiw
def ait:aw:=aF (a:= λx=>bh 31 x L0.1.body) ⟨_,by conv=>lhs;reduce⟩ XQ
def Qx:b8:=⟨94,[.bJ 4,.bJ 5],ait⟩
theorem aiu:cd N 118=some Qx:=by kernel_rfl
def xf:cp N 124:=⟨_,by conv=>lhs;reduce⟩
def QE:aw:=aF (a:=bg xf.1.body 1238623) ⟨_,by conv=>lhs;reduce⟩
def Hd:aw:=aF (a:=bg xf.1.body 4974175) ⟨_,by conv=>lhs;reduce⟩
def KZ:aw:=aF (a:=bg xf.1.body 5236319) ⟨_,by conv=>lhs;reduce⟩
def XU:aw:=aF (a:= λx=>bh 9 x (bg xf.1.body 1042015)) ⟨_,by conv=>lhs;reduce⟩ KZ
def XT:aw:=aF (a:= λx y=>bh 3 y (bh 18 x (bg xf.1.body 517727))) ⟨_,by conv=>lhs;reduce⟩ Hd XU
def XS:aw:=aF (a:= λx=>bh 3 x (bg xf.1.body 255583)) ⟨_,by conv=>lhs;reduce⟩ XT
def QF:aw:=aF (a:= λx y=>bh 499 y (bh 2419 x (bg xf.1.body 607))) ⟨_,by conv=>lhs;reduce⟩ QE XS
def QG:aw:=aF (a:=bg xf.1.body 1215) ⟨_,by conv=>lhs;reduce⟩
def aiH:aw:=aF (a:=bg xf.1.body 255) ⟨_,by conv=>lhs;reduce⟩
def aiG:aw:=aF (a:= λx y=>bh 3 y (bh 18 x (bg xf.1.body 127))) ⟨_,by conv=>lhs;reduce⟩ QG aiH
def aiE:aw:=aF (a:= λx y=>bh 127 y (bh 607 x xf.1.body)) ⟨_,by conv=>lhs;reduce⟩ QF aiG
def QD:b8:=⟨156,[.ha 4 true 4,.bJ 5],aiE⟩
theorem aiF:cd N 124=some QD:=by kernel_rfl
def Zt:cp N 126:=⟨_,by conv=>lhs;reduce⟩
def XX:aw:=aF (a:=bg Zt.1.body 75) ⟨_,by conv=>lhs;reduce⟩
def QJ:aw:=aF (a:=bg Zt.1.body 15) ⟨_,by conv=>lhs;reduce⟩
def aiL:aw:=aF (a:= λx y=>bh 15 y (bh 75 x Zt.1.body)) ⟨_,by conv=>lhs;reduce⟩ XX QJ
def QI:b8:=⟨32,[.bJ 2],aiL⟩
theorem aiM:cd N 126=some QI:=by kernel_rfl
def aAl:cp N 127:=⟨_,by conv=>lhs;reduce⟩
def aiN:aw:=aF (a:=aAl.1.body) ⟨_,by conv=>lhs;reduce⟩
def QK:b8:=⟨7,[.bJ 4],aiN⟩
theorem aiO:cd N 127=some QK:=by kernel_rfl
def aAm:cp N 128:=⟨_,by conv=>lhs;reduce⟩
def XY:aw:=aF (a:=aAm.1.body) ⟨_,by conv=>lhs;reduce⟩
def K0:b8:=⟨24,[.bJ 6],XY⟩
theorem aiP:cd N 128=some K0:=by kernel_rfl
def aAn:cp N 129:=⟨_,by conv=>lhs;reduce⟩
def aiQ:aw:=aF (a:=aAn.1.body) ⟨_,by conv=>lhs;reduce⟩
def QL:b8:=⟨13,[.bJ 4],aiQ⟩
theorem aiR:cd N 129=some QL:=by kernel_rfl
def aAH:cp N 183:=⟨_,by conv=>lhs;reduce⟩
def ajr:aw:=aF (a:=aAH.1.body) ⟨_,by conv=>lhs;reduce⟩
def Q7:b8:=⟨16,[],ajr⟩
theorem ajs:cd N 183=some Q7:=by kernel_rfl
end
end Go.Proofs.YtmmkkggfmigppaaGreat
