/-
  A part of the proof of the statement, in texts that tools of ours (wip/shrink.py, irpack.py, relax.py, minify.py, join.py, lay.py) have shortened.
-/
import Derived.LoopN
import Derived.StillTail
import Derived.Test.YtmmkkggfmigppaaGreatZac
set_option linter.all false
set_option maxRecDepth 8000
set_option maxHeartbeats 16000000
namespace Go.DI
open Go Go.RowKit
section
variable {P:Program} {A dt:aR} {m dR:W} {aV:Nat} {bJ:Callee} {base:Nat}
theorem Bs{l:List Nat}{d:Nat}(h:rU l (some d)=true):d∉l:=by simpa[rU]using h
theorem xi{d:Option Nat}{v:Value}{t:Nat}(h:d≠some t):dc A d v t=A t:=by
  cases d with
  |none=>rfl
  | some d=>have:t≠d:= λe=>h (by rw[e]);simp[dc,qt,this]
theorem za{d e:Option Nat}{bt v:Value}(h: ∀x,d=some x->e≠some x):dc (dc A d bt) e v=dc (dc A e v) d bt:=by
  cases d with
  |none=>rfl
  | some d=>
    cases e with
    |none=>rfl
    | some e=>
      have cJ:d≠e:= λx=>h d rfl (by rw[x]);funext t;simp only[dc,qt];by_cases E:t=e
      · subst E;simp[Ne.symm cJ]
      · simp[E]
theorem zm{l:List Operand}{x:Operand}{t:Nat}(G:x∈l)(bA:x= .tmp t):t∈ED l:=by subst bA;exact uD.2 ⟨_,G,rfl⟩
theorem xl{o:bp}{d:Option Nat}{v:Value}(h:rU o.vE d=true): ∀x∈o.k.hh,Z (dc A d v) x=Z A x:=by intro x G;refine x4 λt bA=>xi λaD=> ?_;subst aD;exact Bs h (mN _ (zm G bA))
theorem r0{o:bp}{d:Option Nat}{v:Value}(h:rU o.vE d=true):eR (dc A d v) o.g=eR A o.g:=by
  cases aP:o.g with
  |none=>rfl
  | some om=>obtain⟨t,b⟩:=om;simp only[eR];rw[xi λaD=> ?_];subst aD;exact Bs h (l7 _ (by simp[aP]))
theorem UE{k:ag}: ∀x∈k.lS++k.mM,x∈k.hh:=by
  intro x G;cases k<;>simp[ag.lS,ag.mM]at G<;>simp[ag.hh,G]
  · rcases G with h|h|h<;>simp[h]
theorem VU{o:bp}(a3:eR A o.g=true)(ar:o.k.fj A m=none){s:aR×W}(h:hF bJ base o A m=some s):
    o.k.ok A m=true/\s=(dc A o.d (o.k.val (base+o.aS) A m),o.k.gG (base+o.aS) A m):=by
  unfold hF at h;rw[if_pos a3,ar]at h;simp only at h;split at h
  · rename_i au;cases h;exact⟨au,rfl⟩
  · cases h
theorem ahZ{o:bp}(a3:eR A o.g=true)(ar:o.k.fj A m=none)(au:o.k.ok A m=true):
    hF bJ base o A m=some (dc A o.d (o.k.val (base+o.aS) A m),o.k.gG (base+o.aS) A m):=by
  unfold hF;rw[if_pos a3,ar];simp only[au,if_true]
theorem EG{o:bp}(Aj:o.k.vk=false)(a3:eR A o.g=true)(ar:o.k.fj A m=none){s:aR×W}(h:hF bJ base o A m=some s):
    o.k.ok A m=true/\s=(dc A o.d (o.k.val (base+o.aS) A m),ig m (o.k.gx (base+o.aS) A m)):=by
  unfold hF at h;rw[if_pos a3,ar]at h;simp only at h;split at h
  · rename_i au;cases h;exact⟨au,by rw[<-agl Aj]⟩
  · cases h
theorem EH{o:bp}(Aj:o.k.vk=false)(a3:eR A o.g=true)(ar:o.k.fj A m=none)(au:o.k.ok A m=true):
    hF bJ base o A m=some (dc A o.d (o.k.val (base+o.aS) A m),ig m (o.k.gx (base+o.aS) A m)):=by
  unfold hF;rw[if_pos a3,ar];simp only[au,if_true,agl Aj]
theorem EF{o:bp}(a3:eR A o.g=true){f:Nat}{args:List Value}(ar:o.k.fj A m=some (f,args)){s:aR×W}(h:hF bJ base o A m=some s):
    ∃v aq,bJ f args m=some (v,aq)/\s=(dc A o.d v,aq):=by
  unfold hF at h;rw[if_pos a3,ar]at h;simp only at h;split at h
  · rename_i v aq aT;cases h;exact⟨v,aq,aT,rfl⟩
  · cases h
theorem I8{o:bp}(a3:eR A o.g=true){f:Nat}{args:List Value}(ar:o.k.fj A m=some (f,args)){v:Value}{aq:W}(h:bJ f args m=some (v,aq)):
    hF bJ base o A m=some (dc A o.d v,aq):=by
  unfold hF;rw[if_pos a3,ar];simp only[h]
theorem zo{o:bp}(a3:eR A o.g=false):hF bJ base o A m=some (dc A o.d undef,m):=by unfold hF;rw[if_neg (by rw[a3];simp)]
theorem J6{k:ag}{kX:Nat×List Value}(h:k.fj A m=some kX):k.ke=true:=by cases k<;>first|rfl|(simp[ag.fj]at h)
theorem rP{k:ag}(h:k.ke=false):k.fj A m=none:=by cases k<;>first|rfl|(simp[ag.ke]at h)
theorem PJ{o:bp}(a3:eR A o.g=true)(ar:o.k.fj A m=none){s:aR×W}(h:hF bJ base o A m=some s):o.k.ke=false:=
  NS (VU a3 ar h).1
def WK(k i:bp)(A:aR)(m aq:W):Prop:=
  eR A i.g=true->match i.k.fj A m with
    |some _=> ∀p∈pw k i,∀b,N (Z A p.1)=some b->aq.X b=m.X b
    |none=> ∀p∈pw k i,∀a b,N (Z A p.1)=some a->N (Z A p.2)=some b->a≠b
theorem Ke{o:bp}{d:Option Nat}{v:Value}{aq:W}(aw:rU (o.vE++o.XM) d=true){Bi Ii:W}
    (yp:o.k.ke=true->Bi=m/\Ii=aq) (h:oy o A m aq):oy o (dc A d v) Bi Ii:=by
  have E:rU o.vE d=true:=by
    cases d with
    |none=>rfl
    |some d=>simp[rU]at aw⊢;exact aw.1
  have hy: ∀p∈o.a9,Z (dc A d v) p.1=Z A p.1/\Z (dc A d v) p.2=Z A p.2:=by
    intro p ab;constructor
    · refine x4 λt bA=>xi λaD=> ?_;subst aD;exact Bs aw (l7 _ (mN _ (zm (hn.2 ⟨p,ab,rfl⟩) bA)))
    · refine x4 λt bA=>xi λaD=> ?_;subst aD;exact Bs aw (l7 _ (l7 _ (zm (hn.2 ⟨p,ab,rfl⟩) bA)))
  intro a3;rw[r0 E]at a3;have:=h a3;have gA:o.k.fj (dc A d v) Bi=o.k.fj A m:=by
    rw[(wm (m:=Bi) (id:=0) (xl E)).2.2.2];cases Aa:o.k.ke with
    |true=>rw[(yp Aa).1]
    |false=>rw[rP Aa,rP Aa]
  rw[gA];cases ar:o.k.fj A m with
  | some kX=>rw[ar]at this;simp only at this⊢;obtain⟨rfl,rfl⟩:=yp (J6 ar);intro p ab b hb;rw[(hy p ab).1]at hb;exact this p ab b hb
  | none=>rw[ar]at this;simp only[pV,eQ]at this⊢;intro p ab;obtain⟨x,y⟩:=p;have:=this (x,y) ab;simp only at this⊢;rw[(hy _ ab).1,(hy _ ab).2];exact this
theorem aEd{P:Program}{aV:Nat}(ca:pL P aV bJ){k i:bp}{rv:List Nat}{dt xQ:aR}{dR m5:W}(KS:pW k i rv=true)(qP:k.aS≠i.aS)(QX:i.k.e3=true->m.X (base+i.aS)=none)(ev:i.k.e3=true->base+i.aS<m.next)
    (E:hF bJ base k A m=some (dt,dR)) (hy:oy k A m dR) (I:hF bJ base i dt dR=some (xQ,m5)) (dx:WK k i dt dR m5):
    ∃bQ bk,hF bJ base i A m=some (bQ,bk)/\hF bJ base k bQ bk=some (xQ,m5)/\oy k bQ bk m5/\(i.k.ke=true->eR A i.g=true->m=dR/\bk=m5):=by
  simp only[pW,a1]at KS;obtain⟨⟨⟨⟨⟨qR,u0⟩,tC⟩,mX⟩,KQ⟩,rF⟩:=KS
  replace qR:k.k.vk=false:=by simpa using qR
  replace u0:i.k.vk=false:=by simpa using u0
  have uZ:rU k.vE i.d=true:=by
    cases aD:i.d with
    |none=>rfl
    |some d=>rw[aD]at tC;simp[rU]at tC⊢;exact tC.1
  have wF: ∀x,k.d=some x->i.d≠some x:=by intro x G af;rw[G,af]at KQ;simp at KQ
  by_cases pg:eR A k.g=true
  · by_cases p8:eR A i.g=true
    · cases pe:k.k.fj A m with
      | some kX=>
        -- k XC;i aib hg aMy
        obtain⟨f,args⟩:=kX;have rI:=J6 pe;obtain⟨v,aq,aJ,aU⟩:=EF pg pe E;cases aU;have lH:i.k.ke=false:=by
          by_cases h:i.k.ke=true
          · rw[if_pos h]at rF;simp[rI]at rF
          · simpa using h
        rw[if_neg (by rw[lH];simp),if_pos rI]at rF;simp only[a1,List.isEmpty_iff]at rF;obtain⟨Rd,Rr⟩:=rF;have yt:eR (dc A k.d v) i.g=true:=(by rw[r0 mX];exact p8);obtain⟨au,cu⟩:=EG u0 yt (rP lH) I;cases cu;obtain⟨bO,cA,gz,_⟩:=wm (k:=i.k) (m:=dR) (id:=base+i.aS) (xl (A:=A) (v:=v) mX);obtain⟨g5,gN,jo⟩:=Kh (k:=i.k) (A:=A) (id:=base+i.aS) (m:=dR) (dR:=m) u0 (by rw[Rd];simp);have KX: ∀p∈i.k.gx (base+i.aS) A m,i.k.e3=true/\p.1=base+i.aS:= λp ab=>by
          rcases ET (k:=i.k) (id:=base+i.aS) (A:=A) (m:=m) p ab with h|⟨x,G,_⟩
          · exact⟨h.1,h.2.1⟩
          · rw[Rr]at G;cases G
        -- Wq hT sW new block aNt aSC sW dY
        have amy: ∀(l:List (Nat×Option fB)) (vs gF:W),(∀p∈l,i.k.e3=true/\p.1=base+i.aS)->bJ f args vs=some (v,gF)->(l≠[]->base+i.aS<vs.next/\vs.X (base+i.aS)=none)->
            bJ f args (ig vs l)=some (v,ig gF l)/\(l=[]\/ ∃y,ig vs l=vs.a0 (base+i.aS) y/\ig gF l=gF.a0 (base+i.aS) y):=by
          intro l vs gF aB KR amh;have yp: ∀(l:List (Nat×Option fB)) (x:Option fB),(∀p∈l,p.1=base+i.aS)-> ∃y,∀cF:W,ig (cF.a0 (base+i.aS) x) l=cF.a0 (base+i.aS) y:=by
            intro l;induction l with
            |nil=>intro x _;exact⟨x,λ_=>rfl⟩
            | cons p l cx=>
              intro x ab;obtain⟨y,af⟩:=cx p.2 (λq bd=>ab q (by simp[bd]));refine⟨y,λcF=> ?_⟩;have e:p.1=base+i.aS:=ab p (by simp);have:(cF.a0 (base+i.aS) x).a0 p.1 p.2=cF.a0 (base+i.aS) p.2:=by rw[e];simp only[W.a0,W.mk.injEq,true_and,and_true];funext j;by_cases bj:j=base+i.aS<;>simp[bj]
              show ig ((cF.a0 (base+i.aS) x).a0 p.1 p.2) l=_;rw[this,af]
          cases l with
          |nil=>exact⟨KR,.inl rfl⟩
          | cons p l=>obtain⟨y,af⟩:=yp l p.2 (λq bd=>(aB q (by simp[bd])).2);have e:p.1=base+i.aS:=(aB p (by simp)).2;have akS:ig vs (p::l)=vs.a0 (base+i.aS) y:=(by show ig (vs.a0 p.1 p.2) l=_;rw[e,af]);have akT:ig gF (p::l)=gF.a0 (base+i.aS) y:=(by show ig (gF.a0 p.1 p.2) l=_;rw[e,af]);rw[akS,akT];obtain⟨br,cW⟩:=amh (by simp);exact⟨(ca _ _ _ _ _ KR).2.2.2.1 _ y br cW,.inr ⟨y,rfl,rfl⟩⟩
        obtain⟨gd,hj⟩:=amy (i.k.gx (base+i.aS) A m) m dR KX aJ (λcJ=>by obtain⟨p,ab⟩:=List.exists_mem_of_ne_nil _ cJ;have:=(KX p ab).1;exact⟨ev this,QX this⟩);have YL:k.k.fj A (ig m (i.k.gx (base+i.aS) A m))=some (f,args):=by
          rcases hj with h|⟨y,af,_⟩
          · rw[h];exact pe
          · rw[af];by_cases fv:i.k.e3=true
            · exact Pn.J5 ⟨rfl,ev fv,QX fv⟩ pe
            · have:i.k.gx (base+i.aS) A m=[]:=by
                cases aB:i.k.gx (base+i.aS) A m with
                |nil=>rfl
                |cons p l=>exact absurd (KX p (by rw[aB];simp)).1 fv
              rw[this]at af;rw[<-af];exact pe
        refine⟨_,_,EH u0 p8 (rP lH) (by rw[<-g5,<-bO];exact au),?_,?_,λh=>by rw[lH]at h;cases h⟩
        · have alQ:k.k.fj (dc A i.d (i.k.val (base+i.aS) A m)) (ig m (i.k.gx (base+i.aS) A m))=some (f,args):=(by rw[(wm (m:=ig m (i.k.gx (base+i.aS) A m)) (id:=0) (xl uZ)).2.2.2];exact YL);rw[cA,gz,gN,jo];have:=I8 (bJ:=bJ) (base:=base) (m:=ig m (i.k.gx (base+i.aS) A m)) (by rw[r0 uZ];exact pg) alQ gd;rw[this,za wF]
        · rw[gz,jo];refine Ke tC (λ_=>⟨rfl,rfl⟩) (λa3=> ?_);have dk:=hy a3;rw[pe]at dk;rw[YL];simp only at dk⊢;rcases hj with h|⟨y,af,Gs⟩
          · rw[h];exact dk
          · rw[af,Gs];intro q bd b hb;have:=dk q bd b hb;by_cases F1:b=base+i.aS
            · subst F1;have az:i.k.gx (base+i.aS) A m=[]\/i.k.e3=true:=by
                cases aB:i.k.gx (base+i.aS) A m with
                |nil=>exact .inl rfl
                |cons p l=>exact .inr (KX p (by rw[aB];simp)).1
              rcases az with az|fv
              · rw[az]at af Gs;rw[<-af,<-Gs];exact this
              · rw[W.nv,W.nv,if_pos rfl,if_pos rfl,if_pos (ev fv),if_pos (pH (ev fv) (ca _ _ _ _ _ aJ).2.1)]
            · rw[W.nv,W.nv,if_neg F1,if_neg F1];exact this
      | none=>
        have rI:=PJ pg pe E;obtain⟨Am,aJ⟩:=EG qR pg pe E;cases aJ;have yt:eR (dc A k.d (k.k.val (base+k.aS) A m)) i.g=true:=(by rw[r0 mX];exact p8);obtain⟨bO,cA,gz,hJ⟩:=wm (k:=i.k) (m:=ig m (k.k.gx (base+k.aS) A m)) (id:=base+i.aS) (xl (A:=A) (v:=k.k.val (base+k.aS) A m) mX);have pc:=dx yt;cases gA:i.k.fj A (ig m (k.k.gx (base+k.aS) A m))with
        | some kX=>
          -- i XC;k Wq aM2
          obtain⟨f,args⟩:=kX;have lH:=J6 gA;rw[if_pos lH]at rF;simp only[a1,uE,List.isEmpty_iff]at rF;obtain⟨⟨⟨_,fv⟩,Rr⟩,Rh⟩:=rF;have Zx:k.k.gx (base+k.aS) A m=[]:=by
            cases aB:k.k.gx (base+k.aS) A m with
            |nil=>rfl
            | cons p l=>
              rcases ET (k:=k.k) (id:=base+k.aS) (A:=A) (m:=m) p (by rw[aB];simp)with h|⟨x,G,_⟩
              · rw[fv]at h;cases h.1
              · rw[Rr]at G;cases G
          rw[Zx]at I pc gA hJ⊢;have yj:ig m []=m:=rfl;rw[yj]at I pc gA hJ;rw[hJ,gA]at pc;simp only at pc;obtain⟨v,aq,aK,bb⟩:=EF yt (by rw[hJ];exact gA) I;cases bb;refine⟨_,_,I8 p8 gA aK,?_,?_,λ_ _=>⟨rfl,rfl⟩⟩
          · obtain⟨g5,gN,jo⟩:=Kh (k:=k.k) (A:=A) (id:=base+k.aS) (m:=m) (dR:=m5) qR (λx G b hb=>by
              have ab:(x,x)∈pw k i:=(by simp only[pw,lH,if_true];exact hn.2 ⟨x,G,rfl⟩);have amZ:Z (dc A k.d (k.k.val (base+k.aS) A m)) x=Z A x:=x4 λt bA=>xi λaD=>by have:=eQ.1 Rh t (zm G bA);simp[aD]at this
              exact(pc (x,x) ab b (by rw[amZ];exact hb)).symm)
            obtain⟨dj,dw,h6,kW⟩:=wm (k:=k.k) (m:=m5) (id:=base+k.aS) (xl (A:=A) (d:=i.d) (v:=v) uZ);have:=EH (bJ:=bJ) (base:=base) (m:=m5) (A:=dc A i.d v) (o:=k) qR (by rw[r0 uZ];exact pg) (rP rI) (by rw[dj,<-g5];exact Am);rw[this,dw,h6,<-gN,<-jo,Zx,za wF];rfl
          · exact Ke tC (λh=>by rw[rI]at h;cases h) hy
        | none=>
          -- aMK XC
          have lH:=PJ (by rw[<-r0 mX (A:=A)]at p8;exact p8) (by rw[hJ];exact gA) I;rw[hJ,gA]at pc;simp only at pc;rw[if_neg (by rw[lH];simp),if_neg (by rw[rI];simp)]at rF;simp only[a1,uG,uE]at rF;obtain⟨fv,Rh⟩:=rF;obtain⟨Rb,cu⟩:=EG u0 yt (rP lH) I;rw[bO]at Rb;rw[cA,gz]at cu
          -- sW aNl aIy,at aJc aRU
          have Rt: ∀x∈k.k.lS++k.k.mM,Z (dc A k.d (k.k.val (base+k.aS) A m)) x=Z A x:=(by intro x G;refine x4 λt bA=>xi λaD=> ?_;have:=eQ.1 Rh t (zm G bA);simp[aD]at this);have K6: ∀y∈i.k.lS++i.k.mM,Z (dc A k.d (k.k.val (base+k.aS) A m)) y=Z A y:= λy af=>xl mX y (UE y af);have KZ:pw k i=((k.k.mM++(if k.k.e3 then Kk k.d else[])).flatMap λx=>(i.k.lS++i.k.mM).map λy=>(x,y))++k.k.lS.flatMap λx=>i.k.mM.map λy=>(x,y):=by simp only[pw,lH,rI,kB,if_false]
          -- aL2 Wq do not aAD aiu i aib
          have c7: ∀p∈k.k.gx (base+k.aS) A m,∀y∈i.k.lS++i.k.mM,∀b,N (Z A y)=some b->p.1≠b:=by
            intro p ab y af b hb;rcases ET (k:=k.k) p ab with⟨aA,e,QM⟩|⟨x,G,QN⟩
            · rcases fv with fv|fv
              · rw[fv]at aA;cases aA
              · obtain⟨d,aD⟩:=Jv.1 fv.1;have:=pc (.tmp d,y) (by
                  rw[KZ];refine mN _ (uF.2 ⟨.tmp d,?_,hn.2 ⟨y,af,rfl⟩⟩);simp[aA,aD,Kk]) (base+k.aS) b (by simp only[Z,aD,dc,qt,if_true];exact QM) (by rw[K6 y af];exact hb)
                rw[e];exact this
            · exact pc (x,y) (by rw[KZ];exact mN _ (uF.2 ⟨x,mN _ G,hn.2 ⟨y,af,rfl⟩⟩)) p.1 b (by rw[Rt x (l7 _ G)];exact QN) (by rw[K6 y af];exact hb)
          obtain⟨g5,gN,jo⟩:=Kh (k:=i.k) (A:=A) (id:=base+i.aS) (m:=ig m (k.k.gx (base+k.aS) A m)) (dR:=m) u0 (λy af b hb=>Qr _ _ _ λp ab=>c7 p ab y (mN _ af) b hb);rw[g5]at Rb;rw[gN,jo]at cu;cases cu
          -- aKs Wq do not aAD aiu k aib
          have aiv: ∀p∈i.k.gx (base+i.aS) A m,∀x∈k.k.lS++k.k.mM,∀b,N (Z A x)=some b->p.1≠b:=by
            intro p ab x G b hb e;rcases ET (k:=i.k) p ab with⟨aA,aU,QM⟩|⟨y,af,KP⟩
            · have:=aBi Am x G b hb;rw[<-e,aU,QX aA]at this;cases this
            · rcases kk.1 G with hQ|hQ
              · exact pc (x,y) (by rw[KZ];exact l7 _ (uF.2 ⟨x,hQ,hn.2 ⟨y,af,rfl⟩⟩)) b p.1 (by rw[Rt x G];exact hb) (by rw[K6 y (l7 _ af)];exact KP) e.symm
              · exact pc (x,y) (by rw[KZ];exact mN _ (uF.2 ⟨x,mN _ hQ,hn.2 ⟨y,l7 _ af,rfl⟩⟩)) b p.1 (by rw[Rt x G];exact hb) (by rw[K6 y (l7 _ af)];exact KP) e.symm
          have aEY: ∀p∈k.k.gx (base+k.aS) A m,∀q∈i.k.gx (base+i.aS) A m,p.1≠q.1:=by
            intro p ab q bd e;rcases ET (k:=i.k) q bd with⟨aA,aU,QM⟩|⟨y,af,KP⟩
            · rcases ET (k:=k.k) p ab with⟨_,cu,_⟩|⟨x,G,QN⟩
              · omega
              · exact aiv q bd x (l7 _ G) p.1 QN e.symm
            · exact c7 p ab y (l7 _ af) q.1 KP e
          refine⟨_,_,EH u0 p8 (rP lH) Rb,?_,?_,λh=>by rw[lH]at h;cases h⟩
          · obtain⟨dj,dw,h6,kW⟩:=wm (k:=k.k) (m:=ig m (i.k.gx (base+i.aS) A m)) (id:=base+k.aS) (xl (A:=A) (d:=i.d) (v:=i.k.val (base+i.aS) A m) uZ);obtain⟨aK,bb,c0⟩:=Kh (k:=k.k) (A:=A) (id:=base+k.aS) (m:=ig m (i.k.gx (base+i.aS) A m)) (dR:=m) qR (λx G b hb=>Qr _ _ _ λp ab=>aiv p ab x (mN _ G) b hb);have:=EH (bJ:=bJ) (base:=base) (m:=ig m (i.k.gx (base+i.aS) A m)) (A:=dc A i.d (i.k.val (base+i.aS) A m)) (o:=k) qR (by rw[r0 uZ];exact pg) (rP rI) (by rw[dj,aK];exact Am);rw[this,dw,h6,bb,c0,za wF,W4 _ _ m aEY]
          · exact Ke tC (λh=>by rw[rI]at h;cases h) hy
    · -- i AV aBt over
      have Gp:eR A i.g=false:=(by simpa using p8);have iP: ∃v,dt=dc A k.d v:=by
        cases pe:k.k.fj A m with
        |some kX=>obtain⟨v,aq,_,e⟩:=EF pg pe E;cases e;exact⟨v,rfl⟩
        |none=>obtain⟨_,e⟩:=EG qR pg pe E;cases e;exact⟨_,rfl⟩
      obtain⟨v,rfl⟩:=iP;rw[zo (by rw[r0 mX];exact Gp)]at I;cases I;refine⟨_,_,zo Gp,?_,Ke tC (λ_=>⟨rfl,rfl⟩) hy,λ_ h=>absurd h p8⟩;have Zw:eR (dc A i.d undef) k.g=true:=(by rw[r0 uZ];exact pg);obtain⟨dj,dw,h6,kW⟩:=wm (k:=k.k) (m:=m) (id:=base+k.aS) (xl (A:=A) (d:=i.d) (v:=undef) uZ);cases pe:k.k.fj A m with
      | some kX=>obtain⟨f,args⟩:=kX;obtain⟨bt,aq,aK,bb⟩:=EF pg pe E;have aJ:=congrArg Prod.fst bb;have aU:=congrArg Prod.snd bb;simp only at aJ aU;subst aU;have cu:dc (dc A i.d undef) k.d bt=dc (dc A k.d bt) i.d undef:=(za wF).symm;rw[I8 Zw (by rw[kW];exact pe) aK,cu,<-aJ]
      | none=>obtain⟨au,bb⟩:=EG qR pg pe E;have aJ:=congrArg Prod.fst bb;have aU:=congrArg Prod.snd bb;simp only at aJ aU;subst aU;have cu:dc (dc A i.d undef) k.d (k.k.val (base+k.aS) A m)=dc (dc A k.d (k.k.val (base+k.aS) A m)) i.d undef:=(za wF).symm;rw[EH qR Zw (by rw[kW];exact pe) (by rw[dj];exact au),dw,h6,cu,<-aJ]
  · -- k AV aBt over
    have Zv:eR A k.g=false:=(by simpa using pg);rw[zo Zv]at E;cases E;have sB: ∀v cF,hF bJ base k (dc A i.d v) cF=some (dc (dc A i.d v) k.d undef,cF):= λv cF=>zo (by rw[r0 uZ];exact Zv);have QP: ∀v Bi Ii,oy k (dc A i.d v) Bi Ii:= λv Bi Ii a3=>by rw[r0 uZ]at a3;exact absurd a3 pg
    obtain⟨dj,dw,h6,kW⟩:=wm (k:=i.k) (m:=m) (id:=base+i.aS) (xl (A:=A) (d:=k.d) (v:=undef) mX);by_cases p8:eR A i.g=true
    · have yt:eR (dc A k.d undef) i.g=true:=(by rw[r0 mX];exact p8);cases gA:i.k.fj A m with
      | some kX=>obtain⟨f,args⟩:=kX;obtain⟨bt,aq,aK,bb⟩:=EF yt (by rw[kW];exact gA) I;cases bb;exact⟨_,_,I8 p8 gA aK,by rw[sB,za wF],QP _ _ _,λ_ _=>⟨rfl,rfl⟩⟩
      | none=>obtain⟨au,bb⟩:=EG u0 yt (by rw[kW];exact gA) I;have lH:=NS au;rw[dw,h6]at bb;cases bb;exact⟨_,_,EH u0 p8 gA (by rw[<-dj];exact au),by rw[sB,za wF],QP _ _ _,λh=>by rw[lH]at h;cases h⟩
    · have Gp:eR A i.g=false:=(by simpa using p8);rw[zo (by rw[r0 mX];exact Gp)]at I;cases I;exact⟨_,_,zo Gp,by rw[sB,za wF],QP _ _ _,λ_ h=>absurd h p8⟩
end
def sk(l:List bp):List Nat:=l.filterMap (·.d)
section
variable {P:Program} {aV:Nat} {bJ:Callee} {base:Nat} {ops:Array Oper} {cZ:Nat}
theorem Kg{k i:bp}{b cd:List Nat}(h: ∀t∈cd,t∈b)(ar:pW k i b=true):pW k i cd=true:=by
  have Ze: ∀t,(!b.contains t)=true->(!cd.contains t)=true:=by intro t bA;simp at bA⊢;exact λaQ=>bA (h t aQ)
  have hX: ∀l:List Nat,(l.all λt=> !b.contains t&&k.d !=some t)=true->(l.all λt=> !cd.contains t&&k.d !=some t)=true:=by intro l aB;rw[eQ]at aB⊢;intro t bA;have:=aB t bA;rw[a1]at this⊢;exact⟨Ze t this.1,this.2⟩
  simp only[pW,a1]at ar⊢;refine⟨ar.1,?_⟩;have mX:=ar.2;split at mX
  · rename_i E;rw[if_pos E];simp only[a1]at mX⊢;exact⟨mX.1,hX _ mX.2⟩
  · rename_i E;rw[if_neg E];split at mX
    · rename_i I;rw[if_pos I];exact mX
    · rename_i I;rw[if_neg I];simp only[a1,uG]at mX⊢;refine⟨mX.1.imp id λav=>⟨av.1,?_⟩,hX _ mX.2⟩;cases aD:k.d with
      |none=>rfl
      |some d=>rw[aD]at av;exact Ze d av.2
theorem ahY{o:bp}{A ak:aR}{m aq:W}(h:hF bJ base o A m=some (ak,aq)){t:Nat}(bA:o.d≠some t):ak t=A t:=by
  unfold hF at h;split at h
  · split at h
    · split at h
      · cases h;exact xi bA
      · cases h
    · split at h
      · cases h;exact xi bA
      · cases h
  · cases h;exact xi bA
theorem move(ca:pL P aV bJ){i:bp}{post:List bp}{ahH:aR×W}: ∀(bX:List bp) (A:aR) (m:W),j3 bJ base (bX++i::post) A m=some ahH->
    (∀eo k C,bX=eo++k::C->pW k i (sk C)=true/\ ∀p∈pw k i,p∈i.a9)->(∀k∈bX,k.aS≠i.aS)->(i.k.e3=true->m.X (base+i.aS)=none/\base+i.aS<m.next)->
    ∃bQ bk uI hz NK,hF bJ base i A m=some (bQ,bk)/\j3 bJ base (bX++post) bQ bk=some ahH/\oy i uI hz NK/\(∀t,t∉sk bX->uI t=A t)/\(i.k.ke=true->eR A i.g=true->hz=m/\NK=bk)
  | [],A,m,h,_,_,_=>by obtain⟨bQ,bk,E,I,av⟩:=q6 h;exact⟨bQ,bk,A,m,bk,E,av,I,λ_ _=>rfl,λ_ _=>⟨rfl,rfl⟩⟩
  | k::bX,A,m,h,ar,qP,aT=>by
    obtain⟨dt,dR,E,I,av⟩:=q6 h;have Y6:=qP k (by simp);have F2:=ar [] k bX rfl;obtain⟨xQ,m5,uI,hz,NK,aK,bb,c0,ea,e9⟩:=move ca bX dt dR av (λeo gg C e=>ar (k::eo) gg C (by rw[e];rfl)) (λgg rG=>qP gg (by simp[rG])) (λfv=>⟨OJ ca E (aT fv).2 (by omega) (aT fv).1,pH (aT fv).2 (EE ca E)⟩)
    -- aiu i vE AV not aS9 by aRT aj1 afV
    have CN: ∀t,t∈i.vE->t∉sk bX:=(by intro t bA aD;obtain⟨gg,rG,Ad⟩:=uD.1 aD;obtain⟨eo,C,e⟩:=List.append_of_mem rG;have:=(ar (k::eo) gg C (by rw[e];rfl)).1;simp only[pW,a1]at this;rw[Ad]at this;exact Bs this.1.1.2 bA);have Rq:eR uI i.g=eR dt i.g:=by
      cases aP:i.g with
      |none=>rfl
      |some om=>obtain⟨t,b⟩:=om;simp only[eR];rw[ea t (CN t (l7 _ (by simp[aP])))]
    have QU: ∀x∈i.k.hh,Z uI x=Z dt x:= λx G=>x4 λt bA=>ea t (CN t (mN _ (zm G bA)));have dx:WK k i dt dR m5:=by
      intro a3;have hy:=c0 (by rw[Rq];exact a3);have gA:i.k.fj uI hz=i.k.fj dt dR:=by
        rw[(wm (m:=hz) (id:=0) QU).2.2.2];cases Aa:i.k.ke with
        |true=>rw[(e9 Aa a3).1]
        |false=>rw[rP Aa,rP Aa]
      rw[gA]at hy;have tD:=F2.1;simp only[pW,a1]at tD;obtain⟨_,tD⟩:=tD;cases bd:i.k.fj dt dR with
      | some kX=>
        have lH:=J6 bd;rw[bd]at hy;simp only at hy⊢;obtain⟨rfl,rfl⟩:=e9 lH a3;rw[if_pos lH]at tD;simp only[a1]at tD;intro p ab b hb;have nz:=ab;simp only[pw,lH,if_true]at nz;obtain⟨x,G,rfl⟩:=hn.1 nz;refine hy _ (F2.2 _ ab) b ?_;rw[show Z uI x=Z dt x from x4 λt bA=>ea t (λaD=> ?_)]
        · exact hb
        · have:=eQ.1 tD.2 t (zm G bA);simp at this;exact this.1 aD
      | none=>
        rw[bd]at hy;simp only[pV,eQ]at hy;simp only;intro p ab a b aA hb e;by_cases lH:i.k.ke=true
        · -- W2 aNm aRP aQ7 dY aIz aIJ:afV aJ2 not run
          have:=PJ a3 bd aK;rw[lH]at this;cases this
        rw[if_neg lH]at tD;by_cases rI:k.k.ke=true
        · simp only[pw,if_neg lH,if_pos rI]at ab;cases ab
        rw[if_neg rI]at tD;simp only[a1,uG,uE]at tD;have nz:=ab;simp only[pw,if_neg lH,if_neg rI]at nz;have Zq: ∀x∈k.k.lS++k.k.mM,Z uI x=Z dt x:= λx G=>x4 λt bA=>ea t λaD=>by have:=eQ.1 tD.2 t (zm G bA);simp at this;exact this.1 aD
        have p5:Z uI p.1=Z dt p.1/\Z uI p.2=Z dt p.2:=by
          rcases kk.1 nz with aH|aH
          · obtain⟨x,G,br⟩:=uF.1 aH;obtain⟨y,af,rfl⟩:=hn.1 br;refine⟨?_,QU y (UE y af)⟩;rcases kk.1 G with cW|cW
            · exact Zq x (l7 _ cW)
            · split at cW
              · rename_i fv;rcases tD.1 with fu|fu
                · rw[fv]at fu;cases fu
                · cases aD:k.d with
                  |none=>rw[aD]at cW;cases cW
                  | some d=>rw[aD]at cW fu;simp only[Kk,rj]at cW;subst cW;exact ea d (Bs fu.2)
              · cases cW
          · obtain⟨x,G,br⟩:=uF.1 aH;obtain⟨y,af,rfl⟩:=hn.1 br;exact⟨Zq x (mN _ G),QU y (UE y (l7 _ af))⟩
        have:=hy p (F2.2 p ab);obtain⟨x,y⟩:=p;simp only at this aA hb p5;rw[p5.1,p5.2,aA,hb]at this;simp[e]at this
    obtain⟨bQ,bk,a8,bE,b7,eH⟩:=aEd ca F2.1 Y6 (λfv=>(aT fv).1) (λfv=>(aT fv).2) E I aK dx;refine⟨bQ,bk,uI,hz,NK,a8,xn bE b7 bb,c0,λt bA=> ?_,λbr cW=> ?_⟩
    · have amP:t∉sk bX:= λaD=>bA (by
        obtain⟨gg,rG,Ad⟩:=uD.1 aD;exact uD.2 ⟨gg,by simp[rG],Ad⟩)
      have amQ:k.d≠some t:= λaD=>bA (uD.2 ⟨k,by simp,aD⟩);rw[ea t amP,ahY E amQ]
    · have Zd:rU i.vE k.d=true:=by
        have:=F2.1;simp only[pW,a1]at this;exact this.1.1.2
      have Ro:eR dt i.g=true:=by
        cases aP:i.g with
        |none=>rfl
        | some om=>
          obtain⟨t,b⟩:=om;rw[aP]at cW;simp only[eR]at cW⊢;rw[ahY E (t:=t) λaD=> ?_]
          · exact cW
          · rw[aD]at Zd;exact Bs Zd (l7 _ (by simp[aP]))
      obtain⟨rfl,rfl⟩:=e9 br Ro;exact⟨(eH br cW).1.symm,(eH br cW).2.symm⟩
def o1(hG:List Nat):List bp->Prop
  |[]=>True
  |k::b4=>(∀bX i post,b4=bX++i::post->(hG.getD i.aS 0).testBit k.aS=true\/(pW k i (sk bX)=true/\ ∀p∈pw k i,p∈i.a9))/\o1 hG b4
theorem o1.qC{hG:List Nat}: ∀(eo:List bp) (k:bp) (C:List bp) (i:bp) (cO:List bp),o1 hG (eo++k::C++i::cO)->(hG.getD i.aS 0).testBit k.aS=true\/(pW k i (sk C)=true/\ ∀p∈pw k i,p∈i.a9)
  |[],_,C,i,cO,h=>h.1 C i cO rfl
  |_::eo,k,C,i,cO,h=>o1.qC eo k C i cO h.2
theorem o1.ahn{hG:List Nat}: ∀(eo:List bp) (x:bp) (C:List bp),o1 hG (eo++x::C)->o1 hG (eo++C)
  |[],_,_,h=>h.2
  | k::eo,x,C,h=>by
    refine⟨λbX i post e=> ?_,o1.ahn eo x C h.2⟩;rcases List.append_eq_append_iff.1 e with⟨bY,aJ,aU⟩|⟨bs,aJ,aU⟩
    · -- i aMo PC x
      have:=h.1 (eo++x::bY) i post (by rw[aU];simp);refine this.imp id λaQ=>⟨Kg (λt bA=> ?_) aQ.1,aQ.2⟩;rw[aJ]at bA;obtain⟨gg,rG,Ad⟩:=uD.1 bA;refine uD.2 ⟨gg,?_,Ad⟩;rcases kk.1 rG with E|E
      · exact mN _ E
      · exact l7 _ (by simp[E])
    · cases bs with
      | nil=>simp only[B7]at aJ;simp only[uH]at aU;have:=h.1 (eo++[x]) i post (by rw[<-aU];simp);refine this.imp id λaQ=>⟨Kg (λt bA=> ?_) aQ.1,aQ.2⟩;rw[<-aJ]at bA;obtain⟨gg,rG,Ad⟩:=uD.1 bA;exact uD.2 ⟨gg,mN _ rG,Ad⟩
      | cons b bs=>simp only[xK,s7]at aU;obtain⟨rfl,aU⟩:=aU;exact h.1 bX i (bs++x::C) (by rw[aJ];simp)
theorem aAA{hG:List Nat}{o:Oper}{b:Nat}(h:(NI hG o).testBit b=true): ∃e∈o.after,Region.binds .any e=true/\(e.on=b\/(hG.getD e.on 0).testBit b=true):=by
  unfold NI at h;have key: ∀(l:List Edge) (s:Nat),(l.foldl (λs e=>if Region.binds .any e then s|||2^e.on|||hG.getD e.on 0 else s) s).testBit b=true->s.testBit b=true\/ ∃e∈l,Region.binds .any e=true/\(e.on=b\/(hG.getD e.on 0).testBit b=true):=by
    intro l;induction l with
    |nil=>intro s h;exact .inl h
    | cons e l cx=>
      intro s h;simp only[xL]at h;rcases cx _ h with E|⟨et,alU,I⟩
      · split at E
        · rename_i hb;simp only[Nat.testBit_or,uG,Nat.testBit_two_pow,e2]at E;rcases E with(E|E)|E
          · exact .inl E
          · exact .inr ⟨e,by simp,hb,.inl E⟩
          · exact .inr ⟨e,by simp,hb,.inr E⟩
        · exact .inl E
      · exact .inr ⟨et,by simp[alU],I⟩
  rcases key _ 0 h with E|⟨e,bn,I⟩
  · simp at E
  · exact⟨e,by simpa using bn,I⟩
theorem T7{ih:Nat->Prop}(YO: ∀j hM,ops[j]?=some hM->ih j-> ∀e∈hM.after,Region.binds .any e=true->ih e.on):
    ∀ (l:List Oper) (dH:List Nat),(∀j,l[j]?=ops[dH.length+j]?)->
      (∀j,j<dH.length-> ∀hM,ops[j]?=some hM->(∀e∈hM.after,Region.binds .any e=true->ih e.on)-> ∀b,(dH.getD j 0).testBit b=true->ih b)->
      ∀j hM,ops[j]?=some hM->(∀e∈hM.after,Region.binds .any e=true->ih e.on)-> ∀b,((y2 l dH).getD j 0).testBit b=true->ih b
  | [],dH,aB,KN,j,hM,bj,aD,b,hb=>by
    simp only[y2]at hb;by_cases h:j<dH.length
    · exact KN j h hM bj aD b hb
    · rw[la,qv (by omega)]at hb;simp at hb
  | o::l,dH,aB,KN,j,hM,bj,aD,b,hb=>by
    have aE:ops[dH.length]?=some o:=(by have:=aB 0;simpa using this.symm);refine T7 YO l (dH++[NI dH o]) (λi=>by have:=aB (i+1);simp at this⊢;rw[this];congr 1;omega) (λi ai Bw CL YS cd fH=> ?_) j hM bj aD b hb;simp only[kT,pI,xM]at ai;by_cases h:i<dH.length
    · rw[la,sf h,<-la]at fH;exact KN i h Bw CL YS cd fH
    · have ln:i=dH.length:=(by omega);subst ln;rw[la,s4 (ey _)]at fH;simp only[Nat.sub_self,List.getElem?_cons_zero,zG]at fH;have:Bw=o:=Option.some.inj (CL.symm.trans aE);subst this;obtain⟨e,bn,F1,I⟩:=aAA fH;have Zg:=YS e bn F1;rcases I with rfl|I
      · exact Zg
      · by_cases av:e.on<dH.length
        · have gP: ∃NR,ops[e.on]?=some NR:=by
            have K:dH.length<ops.size:=(uC.1 aE).1;exact⟨ops[e.on],zA (by omega)⟩
          obtain⟨NR,hY⟩:=gP;exact KN e.on av NR hY (YO e.on NR hY Zg) cd I
        · rw[la,qv (by omega)]at I;simp at I
end
section
variable {P:Program} {aV:Nat} {bJ:Callee} {base:Nat} {ops:Array Oper} {cZ:Nat}
theorem NC{ih:Array Bool}{i j:Nat}(ai:i<ih.size):(ih.setIfInBounds i true).getD j false=true↔(j=i\/ih.getD j false=true):=by
  by_cases h:i=j
  · subst h;simp[ai]
  · rw[getD_set_ne false h];constructor
    · exact .inr
    · rintro(bS|bS)
      · exact absurd bS.symm h
      · exact bS
theorem W3(ca:pL P aV bJ){Q:Exit->Act->World->Prop}{aiX:aR}{ago:W}{PB:Nat}: ∀(kH:Nat) (L:List bp) (ih:Array Bool) (A:aR) (m:W) (a:Act) (w:World) (an:eJ),
    L.length=kH->ih.size=ops.size->(∀j,j<ops.size->(ih.getD j false=true↔ ∀cl∈L,cl.aS≠j))->
    (∀j hM,ops[j]?=some hM->ih.getD j false=true-> ∀e∈hM.after,Region.binds .any e=true->ih.getD e.on false=true)->
    (∀cl∈L,∃o,vZ P ops cZ cl o)->(L.map (·.aS)).Nodup->o1 (y2 ops.toList []) L->
    (∀bX cl post,L=bX++cl::post-> ∀hM,ops[cl.aS]?=some hM-> ∀e∈hM.after,Region.binds .any e=true->ih.getD e.on false=true\/ ∃k∈bX,k.aS=e.on)->
    gK an cZ A a->dB aV an m w->aV<=w.heap.size->PB<=base->(∀cl∈L,cl.k.e3=true->base+cl.aS<m.next/\m.X (base+cl.aS)=none/\an (base+cl.aS)=none)->base<=m.next->
    j3 bJ base L A m=some (aiX,ago)->
    (∀dG c3 cM,gl an cM->(∀b,b<PB->cM b=an b)->gK cM cZ aiX dG->dB aV cM ago c3->Below aV w c3->Q .normal dG c3)->wpAny P .any ops Q kH ih a w
  | 0,L,ih,A,m,a,w,an,eA,ju,Ah,_,_,_,_,_,K,ax,_,_,_,_,hZ,b2=>by have ck:L=[]:=qu.1 eA;subst ck;simp only[j3,lV,xO]at hZ;obtain⟨rfl,rfl⟩:=hZ;refine⟨?_,b2 a w an (gl.refl an) (λ_ _=>rfl) K ax (Below.refl _ _)⟩;apply List.eq_nil_iff_forall_not_mem.2;intro i ai;obtain⟨E,hM,I,_⟩:=mem_ready.1 ai;have ev:i<ops.size:=(uC.1 I).1;have:=(Ah i ev).2 (by simp);rw[getD_both E]at this;cases this
  | kH+1,L,ih,A,m,a,w,an,eA,ju,Ah,YM,wE,js,YZ,K3,K,ax,cT,ll,ep,aJ7,hZ,b2=>by
    refine⟨λRd=> ?_,λi ai=> ?_⟩
    · -- sW first dN aNo AV ready
      exfalso;cases L with
      |nil=>simp at eA
      | cons cl L=>
        obtain⟨o,aE⟩:=wE cl (by simp);have ev:cl.aS<ops.size:=(uC.1 aE.1).1;have p2:cl.aS∈Region.ready .any ops ih:=by
          refine mem_ready.2 ⟨?_,o,aE.1,λe bn hb=> ?_⟩
          · have:ih.getD cl.aS false≠true:= λh=>(Ah cl.aS ev).1 h cl (by simp) rfl;exact getD_in (by rw[ju];exact ev) (by simpa using this)
          · rcases K3 [] cl L rfl o aE.1 e bn hb with h|⟨k,aa,_⟩
            · exact h
            · cases aa
        rw[Rd]at p2;cases p2
    · obtain⟨amR,Bw,CL,YR⟩:=mem_ready.1 ai;have ev:i<ops.size:=(uC.1 CL).1;have amS:ih.getD i false=false:=getD_both amR;have sA: ∃cl∈L,cl.aS=i:=by
        by_cases h: ∃cl∈L,cl.aS=i
        · exact h
        · exfalso;have:=(Ah i ev).2 (λcl k0 e=>h ⟨cl,k0,e⟩);rw[amS]at this;cases this
      obtain⟨cl,k0,rfl⟩:=sA;obtain⟨bX,post,rfl⟩:=List.append_of_mem k0;simp only[vV,mO,vU,List.nodup_cons]at js;have Gi: ∀k∈bX,k.aS≠cl.aS:= λk aa e=>js.2.2 k.aS (hn.2 ⟨k,aa,rfl⟩) cl.aS (by simp) e;have KS: ∀eo k C,bX=eo++k::C->pW k cl (sk C)=true/\ ∀p∈pw k cl,p∈cl.a9:=by
        intro eo k C e;subst e;rcases o1.qC eo k C cl post (by simpa using YZ)with h|h
        · exfalso;have aa:ih.getD k.aS false=true:=T7 (ops:=ops) (ih:= λj=>ih.getD j false=true) YM ops.toList [] (by simp) (by simp) cl.aS Bw CL YR k.aS h;obtain⟨aBh,Gg⟩:=wE k (by simp);exact(Ah k.aS (uC.1 Gg.1).1).1 aa k (by simp) rfl
        · exact h
      have KV:=ep cl (by simp);obtain⟨bQ,bk,_,_,_,E,I,_,_,_⟩:=move ca bX A m hZ KS Gi (λfv=>⟨(KV fv).2.1,(KV fv).1⟩);obtain⟨o,aE⟩:=wE cl (by simp);have jf:=EE ca E;refine ah0 ca aE K ax cT (λfv=>(KV fv).1) (λfv=>(KV fv).2.2) E λdG c3 cM a8 bE b7 eH gi=> ?_;refine W3 ca kH (bX++post) (ih.setIfInBounds cl.aS true) bQ bk dG c3 cM (by simp at eA⊢;omega) (by simp[ju]) (λj bj=> ?_) (λj hM sE bj e bn hb=> ?_) (λk aa=>wE k (by
          rcases kk.1 aa with h|h
          · exact mN _ h
          · exact l7 _ (by simp[h]))) ?_ (o1.ahn bX cl post YZ) (λaBG k ag4 e hM sE qL bn hb=> ?_) b7 eH (kC cT gi.size) ll (λk aa fv=> ?_) (by omega) I (λbN e7 mx gd hj ix jz vy=>b2 bN e7 mx (a8.trans gd) (λb hb=>(hj b hb).trans (bE b (by omega) (by omega))) ix jz (gi.trans vy))
      · rw[NC (by rw[ju];exact ev)];constructor
        · rintro(rfl|h) k aa e
          · rcases kk.1 aa with h|h
            · exact Gi k h e
            · exact js.2.1.1 (hn.2 ⟨k,h,e⟩)
          · refine(Ah j bj).1 h k ?_ e;rcases kk.1 aa with h|h
            · exact mN _ h
            · exact l7 _ (by simp[h])
        · intro h;by_cases e:j=cl.aS
          · exact .inl e
          · refine .inr ((Ah j bj).2 λk aa et=> ?_);rcases kk.1 aa with bS|bS
            · exact h k (mN _ bS) et
            · rcases hH.1 bS with bS|bS
              · subst bS;exact e et.symm
              · exact h k (l7 _ bS) et
      · rw[NC (by rw[ju];exact ev)]at bj⊢;rcases bj with rfl|bj
        · have:hM=Bw:=Option.some.inj (sE.symm.trans CL);subst this;exact .inr (YR e bn hb)
        · exact .inr (YM j hM sE bj e bn hb)
      · simp only[vV,vU];exact⟨js.1,js.2.1.2,λx G y af=>js.2.2 x G y (by simp[af])⟩
      · rw[NC (by rw[ju];exact ev)];rcases List.append_eq_append_iff.1 e with⟨bY,aJ,aU⟩|⟨bs,aJ,aU⟩
        · rcases K3 (bX++cl::bY) k ag4 (by rw[aU];simp) hM sE qL bn hb with h|⟨gg,rG,cu⟩
          · exact .inl (.inr h)
          · rcases kk.1 rG with h|h
            · exact .inr ⟨gg,by rw[aJ];exact mN _ h,cu⟩
            · rcases hH.1 h with h|h
              · subst h;exact .inl (.inl cu.symm)
              · exact .inr ⟨gg,by rw[aJ];exact l7 _ h,cu⟩
        · cases bs with
          | nil=>
            simp only[B7]at aJ;simp only[uH]at aU;rcases K3 (bX++[cl]) k ag4 (by rw[<-aU];simp) hM sE qL bn hb with h|⟨gg,rG,cu⟩
            · exact .inl (.inr h)
            · rcases kk.1 rG with h|h
              · exact .inr ⟨gg,by rw[<-aJ];exact h,cu⟩
              · simp only[rj]at h;subst h;exact .inl (.inl cu.symm)
          | cons b bs=>
            simp only[xK,s7]at aU;obtain⟨rfl,aU⟩:=aU;rcases K3 aBG k (bs++cl::post) (by rw[aJ];simp) hM sE qL bn hb with h|h
            · exact .inl (.inr h)
            · exact .inr h
      · have sB:k∈bX++cl::post:=by
          rcases kk.1 aa with h|h
          · exact mN _ h
          · exact l7 _ (by simp[h])
        have Y6:k.aS≠cl.aS:=by
          rcases kk.1 aa with h|h
          · exact Gi k h
          · exact λe=>js.2.1.1 (hn.2 ⟨k,h,e⟩)
        obtain⟨aK,bb,c0⟩:=ep k sB fv;exact⟨by omega,OJ ca E aK (by omega) bb,by rw[bE _ aK (by omega)];exact c0⟩
theorem Xx{aS:Nat}{cl:bp}(h:J3 P ops cZ aS=some cl):cl.aS=aS/\ ∃o,vZ P ops cZ cl o:=by
  unfold J3 at h;split at h
  · rename_i o aE;split at h
    · rename_i k g aa aP;split at h
      · rename_i aD;cases h;exact⟨rfl,o,aE,aa,aP,rfl,aD⟩
      · cases h
    · cases h
  · cases h
theorem PF: ∀(H6:List Nat) (L:List bp),Cl P ops cZ H6=some L->L.map (·.aS)=H6/\ ∀cl∈L,∃o,vZ P ops cZ cl o
  |[],L,h=>by simp[Cl]at h;subst h;simp
  | aS::r,L,h=>by
    simp only[Cl]at h;split at h
    · rename_i cl b4 E I;cases h;obtain⟨e,o,aE⟩:=Xx E;obtain⟨aK,bb⟩:=PF r b4 I;refine⟨by simp[e,aK],λk aa=> ?_⟩;rcases hH.1 aa with rfl|aa
      · exact⟨o,aE⟩
      · exact bb k aa
    · cases h
theorem XK{hG:List Nat}{i:bp}: ∀(lR:List bp) (rv:List Nat),Kc hG i lR rv=true->(∀p∈tl hG i lR,p∈i.a9)->
    ∀eo k C,lR=eo++k::C->(hG.getD i.aS 0).testBit k.aS=true\/(pW k i (rv++sk eo)=true/\ ∀p∈pw k i,p∈i.a9)
  |[],_,_,_,eo,k,C,e=>by simp at e
  | x::lR,rv,h,hy,eo,k,C,e=>by
    simp only[Kc,a1,uG]at h;cases eo with
    | nil=>
      simp only[uH,s7]at e;obtain⟨rfl,rfl⟩:=e;rcases h.1 with E|E
      · exact .inl E
      · by_cases hb:(hG.getD i.aS 0).testBit x.aS=true
        · exact .inl hb
        · refine .inr ⟨by simpa[sk]using E,λp ab=>hy p ?_⟩;simp only[tl,if_neg hb];exact mN _ ab
    | cons a eo=>
      simp only[xK,s7]at e;obtain⟨rfl,rfl⟩:=e;have:=XK (eo++k::C) (rv++x.d.toList) h.2 (λp ab=>hy p (by simp only[tl];exact l7 _ ab)) eo k C rfl;refine this.imp id λaQ=>⟨Kg (λt bA=> ?_) aQ.1,aQ.2⟩;simp only[sk,List.filterMap_cons]at bA⊢;cases aD:x.d with
      |none=>rw[aD]at bA;simpa using bA
      |some d=>rw[aD]at bA;simpa using bA
theorem Xw{hG:List Nat}: ∀(H6:List Nat) (lR:List bp) (L:List bp),Fs P ops cZ hG H6 lR=some L->o1 hG lR.reverse->
    L.map (·.aS)=H6/\(∀cl∈L,∃o,vZ P ops cZ cl o)/\o1 hG (lR.reverse++L)/\
    (∀bX cl post,L=bX++cl::post-> ∀hM,ops[cl.aS]?=some hM-> ∀e∈hM.after,Region.binds .any e=true-> ∃k∈lR.reverse++bX,k.aS=e.on)
  | [],lR,L,h,aP=>by simp[Fs]at h;subst h;exact⟨rfl,by simp,by simpa using aP,by simp⟩
  | aS::r,lR,L,h,aP=>by
    simp only[Fs]at h;split at h
    · rename_i iU E;split at h
      · rename_i hy;split at h
        · rename_i b4 amI;cases h;simp only[a1]at hy;obtain⟨aJ,op,bB⟩:=Xx E;have ar:vZ P ops cZ ⟨iU.aS,iU.d,iU.g,iU.k,tl hG iU lR⟩ op:=bB;have pf:o1 hG (bp.mk iU.aS iU.d iU.g iU.k (tl hG iU lR)::lR).reverse:=by
            rw[List.reverse_cons];have lK:=XK lR [] hy.1 (λp ab=>by
              have: ∀(l:List bp),tl hG ⟨iU.aS,iU.d,iU.g,iU.k,tl hG iU lR⟩ l=tl hG iU l:=by
                intro l;induction l with
                |nil=>rfl
                |cons x l cx=>simp only[tl];rw[cx];rfl
              rw[this]at ab;exact ab)
            -- sW new nJ PC all
            have key: ∀(l:List bp) (x:bp),o1 hG l->(∀eo k C,l=eo++k::C->(hG.getD x.aS 0).testBit k.aS=true\/(pW k x (sk C)=true/\ ∀p∈pw k x,p∈x.a9))->o1 hG (l++[x]):=by
              intro l x;induction l with
              |nil=>intro _ _;exact⟨by intro bX i post e;simp at e,trivial⟩
              | cons k l cx=>
                intro aB G;refine⟨λbX i post e=> ?_,cx aB.2 λeo gg C e=>G (k::eo) gg C (by rw[e];rfl)⟩;rcases List.append_eq_append_iff.1 e with⟨bY,aJ,aU⟩|⟨bs,aJ,aU⟩
                · cases bY with
                  | nil=>simp only[uH,s7]at aU;obtain⟨rfl,_⟩:=aU;simp only[B7]at aJ;subst aJ;exact G [] k bX rfl
                  |cons y bY=>simp at aU
                · cases bs with
                  | nil=>simp only[uH,s7]at aU;obtain⟨rfl,_⟩:=aU;simp only[B7]at aJ;subst aJ;exact G [] k l rfl
                  | cons y bs=>simp only[xK,s7]at aU;obtain⟨rfl,aU⟩:=aU;exact aB.1 bX i bs aJ
            refine key _ _ aP λeo k C e=> ?_;have et:lR=C.reverse++k::eo.reverse:=by have:=congrArg List.reverse e;simpa using this
            refine(lK C.reverse k eo.reverse et).imp id λaQ=>⟨Kg (λt bA=> ?_) aQ.1,aQ.2⟩;simp only[sk,uH,uD,List.mem_reverse]at bA⊢;exact bA
          obtain⟨aK,bb,c0,ea⟩:=Xw r _ b4 amI pf;refine⟨by simp[aJ,aK],λk aa=> ?_,by simpa using c0,λbX cl post e hM sE qL bn hb=> ?_⟩
          · rcases hH.1 aa with rfl|aa
            · exact⟨op,ar⟩
            · exact bb k aa
          · cases bX with
            | nil=>
              simp only[uH,s7]at e;obtain⟨rfl,_⟩:=e;have br:=hy.2;simp only[aJ]at sE;simp only[aia,sE]at br;simp only[eQ,uG,uE,List.any_eq_true,beq_iff_eq]at br;rcases br qL (by simpa using bn)with cW|⟨k,aa,cW⟩
              · rw[hb]at cW;cases cW
              · exact⟨k,by simpa using aa,cW⟩
            | cons x bX=>simp only[xK,s7]at e;obtain⟨rfl,e⟩:=e;obtain⟨k,aa,cW⟩:=ea bX cl post e hM sE qL bn hb;exact⟨k,by simpa using aa,cW⟩
        · cases h
      · cases h
    · cases h
end
def dA.hT:dA->Exit
  | .ew=> .normal
  | .a7 id=> .exit id
  | .aF=> .ret
section
variable {P:Program} {aV:Nat} {bJ:Callee} {cZ n:Nat}
theorem agN: ∀(l:List Nat),vw l=true->l.Nodup
  |[],_=>List.nodup_nil
  | x::l,h=>by simp only[vw,a1,uE,List.contains_eq_mem,decide_eq_false_iff_not]at h;exact List.nodup_cons.2 ⟨h.1,agN l h.2⟩
theorem aBu{l:List Nat}(h:Uv n l=true):l.Nodup/\(∀i,i∈l↔i<n)/\l.length=n:=by simp only[Uv,a1,e2,eQ,ou,List.contains_iff_mem]at h;obtain⟨⟨⟨E,I⟩,av⟩,aH⟩:=h;exact⟨agN l I,λi=>⟨λai=>av i ai,λai=>aH i ai⟩,E⟩
theorem alp{m:W}{b:Nat}(h:m.next<=b):m.X b=none:=by unfold W.X;rw[if_neg (by omega)]
theorem IF(L:List bp)(m:W):m.next<=(hl L m).next/\((∃o∈L,o.k.e3=true)->(hl L m).next=m.next+L.length):=by
  unfold hl;split
  · exact⟨by rw[W.ti];omega,λ_=>rfl⟩
  · rename_i h;refine⟨ey _,λ⟨o,aE,I⟩=>absurd (List.any_eq_true.2 ⟨o,aE,I⟩) h⟩
theorem ahl(L:List bp)(m:W)(b:Nat):(hl L m).X b=m.X b:=by
  unfold hl;split
  · exact W.e0 m _ b
  · rfl
theorem dB.hl{m:W}{w:World}{an:eJ}(h:dB aV an m w)(L:List bp):dB aV an (Go.DI.hl L m) w:=by
  unfold Go.DI.hl;split
  · exact h.cf _
  · exact h
theorem XH{ops:Array Oper}{Q:Exit->Act->World->Prop}(bA:ah4 ops=true)(yf:XG (y2 ops.toList []) ops.size=true): ∀(kH k:Nat) (ih:Array Bool) (a:Act) (w:World),k+kH=ops.size->ih.size=ops.size->
    (∀j,j<ops.size->(ih.getD j false=true↔j<k))->wpOps P ops Q (List.range' k kH) a w->wpAny P .any ops Q kH ih a w
  | 0,k,ih,a,w,aa,ju,aB,h=>by refine⟨?_,h⟩;apply List.eq_nil_iff_forall_not_mem.2;intro i ai;obtain⟨E,hM,I,_⟩:=mem_ready.1 ai;have ev:i<ops.size:=(uC.1 I).1;have:=(aB i ev).2 (by omega);rw[getD_both E]at this;cases this
  | kH+1,k,ih,a,w,aa,ju,aB,h=>by
    have Ga:k<ops.size:=(by omega);have VV: ∀j hM,ops[j]?=some hM-> ∀e∈hM.after,Region.binds .any e=true->e.on<j:=by
      intro j hM bj e bn hb;have ev:j<ops.size:=(uC.1 bj).1;have:=eQ.1 bA j (ou.2 ev);simp only[bj,eQ,uG,uE,e2]at this;rcases this e (by simpa using bn)with h|h
      · rw[hb]at h;cases h
      · exact h
    have ca: ∀j hM,ops[j]?=some hM->ih.getD j false=true-> ∀e∈hM.after,Region.binds .any e=true->ih.getD e.on false=true:=(by intro j hM bj al9 e bn hb;have ev:j<ops.size:=(uC.1 bj).1;have E:=VV j hM bj e bn hb;have I:=(aB j ev).1 al9;exact(aB e.on (by omega)).2 (by omega));rw[List.range'_succ,wpOps_cons]at h;have step: ∀i∈Region.ready .any ops ih,i=k:=by
      intro i ai;obtain⟨E,Bw,I,av⟩:=mem_ready.1 ai;have ev:i<ops.size:=(uC.1 I).1;have az: ¬i<k:= λamb=>by have:=(aB i ev).2 amb;rw[getD_both E]at this;cases this
      by_cases e:i=k
      · exact e
      · exfalso;have hb:((y2 ops.toList []).getD i 0).testBit k=true:=by
          have:=eQ.1 yf i (ou.2 ev);exact eQ.1 this k (ou.2 (by omega))
        have:=T7 (ops:=ops) (ih:= λj=>ih.getD j false=true) ca ops.toList [] (by simp) (by simp) i Bw I av k hb;have:=(aB k Ga).1 this;omega
    refine⟨λaw=> ?_,λi ai=> ?_⟩
    · exfalso;obtain⟨o,aE⟩: ∃o,ops[k]?=some o:=⟨ops[k],zA Ga⟩;have p2:k∈Region.ready .any ops ih:=by
        refine mem_ready.2 ⟨?_,o,aE,λe bn hb=> ?_⟩
        · have:ih.getD k false≠true:= λh=>by have:=(aB k Ga).1 h;omega
          exact getD_in (by rw[ju];exact Ga) (by simpa using this)
        · exact(aB e.on (by have:=VV k o aE e bn hb;omega)).2 (VV k o aE e bn hb)
      rw[aw]at p2;cases p2
    · have e:=step i ai;subst e;refine wpOp_mono (λa w h=>XH bA yf kH (i+1) _ a w (by omega) (by simp[ju]) (λj bj=> ?_) h) h;rw[NC (by rw[ju];exact Ga),aB j bj];omega
theorem XW: ∀{L:List bp} {r:List bp×bp×List bp},Fz L=some r->L=r.1++r.2.1::r.2.2/\r.2.1.k.e3=true
  |[],_,h=>by simp[Fz]at h
  | o::L,r,h=>by
    unfold Fz at h;split at h
    · rename_i aa;cases h;exact⟨rfl,by simp[aa,ag.e3]⟩
    · simp only[rh]at h;obtain⟨⟨a,b,c⟩,E,I⟩:=h;obtain⟨aK,bb⟩:=XW E;subst I;exact⟨by simp only at aK⊢;rw[aK];rfl,bb⟩
theorem azZ(mY:P.follows .mixedOrders=true)(ca: ∀aV,pL P aV bJ){id:Nat}{ops:Array Oper}{rz:Bool}{pj:H}(ar:PE P cZ ops rz=some pj){A ak:aR}{m aq:W}{e:dA}
    (h:eu bJ n pj A m=some (e,ak,aq)) {a:Act} {w:World} {an:eJ} (K:gK an cZ A a) (ax:dB aV an m w) (cT:aV<=w.heap.size) {Q:Exit->Act->World->Prop}
    (b2: ∀dG c3 cM,gl an cM->(∀b,b<m.next->cM b=an b)->gK cM cZ ak dG->dB aV cM aq c3->Below aV w c3->Q e.hT dG c3):(Code.region id ops rz).wp P Q a w:=by
  have CQ: ∀b,m.next<=b->an b=none:=by
    intro b hb;cases aw:an b with
    |none=>rfl
    |some l=>have:=ax.mf b l aw;omega
  unfold PE at ar;split at ar
  · rename_i yf;split at ar
    · rename_i L ck;simp only[rh]at ar;obtain⟨⟨bX,eo,b4⟩,QQ,rfl⟩:=ar;obtain⟨E,I⟩:=PF _ _ ck;obtain⟨aJ,fv⟩:=XW QQ;simp only at aJ fv;subst aJ;have eA:bX.length+(b4.length+1)=ops.size:=(by have:=congrArg List.length E;simpa using this);have js:((bX++eo::b4).map (·.aS)).Nodup:=(by rw[E];exact List.nodup_range);have qP: ∀cl∈bX++eo::b4,cl.aS<ops.size:= λcl k0=>by
        have:cl.aS∈(bX++eo::b4).map (·.aS):=hn.2 ⟨cl,k0,rfl⟩;rw[E,ou]at this;exact this
      rw[vV,mO,vU,List.nodup_cons]at js;simp only[eu]at h;split at h
      · rename_i bQ bk Zn;split at h
        · rename_i au;split at h
          · rename_i dt dR Zo;cases h;have jf:m.next+ops.size<=bk.next:=by have:=IH (ca aV) _ _ _ _ Zn;rw[W.ti,eA]at this;exact this
            have CK:(eo.k.gG (m.next+eo.aS) bQ bk).next=bk.next:=by
              unfold m4 at au;simp only[a1]at au;have:=au.1.2;split at this
              · rename_i aa;rw[aa];simp only[ag.gG];split
                · rfl
                · unfold kL;split<;>rfl
              · cases this
            have Ak:bk.next<=dR.next:=IH (ca aV) _ _ _ _ Zo
            have key: ∀cg,dB aV an m cg->aV<=cg.heap.size->Below aV w cg->wpOps P ops Q (List.range ops.size) a cg:=by
              intro cg yj Qy ll;rw[<-E,vV,mO];refine Us (base:=m.next) (ca aV) bX A _ a cg an bQ bk (λcl k0=>I cl (by simp[k0])) js.1 K (yj.cf _) Qy (λcl k0 _=>⟨by rw[W.ti,eA];have:=qP cl (by simp[k0]);omega,CQ _ (by omega)⟩) Zn λbu c8 mw a8 bE b7 eH gi=> ?_;obtain⟨aM5,kZ⟩:=I eo (by simp);have aJR:=qP eo (by simp);rw[wpOps_cons];refine az0 (base:=m.next) kZ b7 eH (kC Qy gi.size) (by omega) ?_ au λbN e7 mx gd hj ix jz vy Ix=> ?_
              · rw[bE _ (by rw[W.ti,eA];omega) (λcl k0 e=>js.2.2 cl.aS (hn.2 ⟨cl,k0,rfl⟩) eo.aS (by simp) (by omega))];exact CQ _ (by omega)
              · refine agV (base:=m.next) (ca e7.heap.size) b4 _ (nC bk) bN e7 mx ak dR (λcl k0=>I cl (by simp[k0])) js.2.1.2 ix vy (ey _) (λcl k0 _=>⟨?_,?_⟩) Zo λcn ni aFT fs g7 jl nL xk=> ?_
                · show _<bk.next
                  have:=qP cl (by simp[k0]);omega
                · have G:=qP cl (by simp[k0]);have cJ:cl.aS≠eo.aS:= λe=>js.2.1.1 (hn.2 ⟨cl,k0,e⟩);rw[hj _ (by omega),bE _ (by rw[W.ti,eA];omega) (λk aa e=>js.2.2 k.aS (hn.2 ⟨k,aa,rfl⟩) cl.aS (by simp only[hH,hn];exact .inr ⟨cl,k0,rfl⟩) (by omega))];exact CQ _ (by omega)
                · have fR:aV<=e7.heap.size:=kC Qy (kC gi.size Ix.size);refine b2 cn ni aFT (a8.trans (gd.trans fs)) (λb hb=> ?_) jl ?_ (ll.trans (gi.trans (Ix.trans (xk.mono fR))))
                  · rw[g7 b hb (by show b<bk.next;omega),hj b (by omega),bE b (by rw[W.ti];omega) (λ_ _=>by omega)]
                  · have:=azY rfl jz nL fs (by rw[CK];exact Ak) xk
                    rwa [CK]at this
            cases rz
            · exact wp_region (key w ax cT (Below.refl _ _))
            · simp only[Bool.not_true,Bool.false_or,a1]at yf;refine wp_region_any mY ?_;refine XH yf.2.1 yf.2.2 ops.size 0 _ a _ (by omega) (by simp) (λj bj=>by rw[getD_replicate_false];simp) ?_;rw[<-List.range_eq_range'];exact key _ (ax.aiw rfl) cT ⟨rfl,rfl,rfl,ey _,λ_ _=>rfl⟩
          · cases h
        · cases h
      · cases h
    · cases ar
  · cases ar
theorem aB8(mY:P.follows .mixedOrders=true)(ca:pL P aV bJ){id:Nat}{ops:Array Oper}{rz:Bool}{pj:H}(ar:J4 P cZ ops rz=some pj){A ak:aR}{m aq:W}{e:dA}
    (h:eu bJ n pj A m=some (e,ak,aq)) {a:Act} {w:World} {an:eJ} (K:gK an cZ A a) (ax:dB aV an m w) (cT:aV<=w.heap.size) {Q:Exit->Act->World->Prop}
    (b2: ∀dG c3 cM,gl an cM->(∀b,b<m.next->cM b=an b)->gK cM cZ ak dG->dB aV cM aq c3->Below aV w c3->Q e.hT dG c3):(Code.region id ops rz).wp P Q a w:=by
  have CQ: ∀b,m.next<=b->an b=none:=by
    intro b hb;cases aw:an b with
    |none=>rfl
    |some l=>have:=ax.mf b l aw;omega
  cases rz
  · simp only[J4]at ar;split at ar
    · rename_i L ck;cases ar;obtain⟨E,I⟩:=PF _ _ ck;simp only[eu]at h;split at h
      · rename_i bQ bk hZ;cases h;have eA:L.length=ops.size:=(by have:=congrArg List.length E;simpa using this);refine wp_region ?_;rw[<-E];refine agV (base:=m.next) ca L A _ a w an ak aq I (by rw[E];exact List.nodup_range) K (ax.hl L) cT (λcl k0 fv=> ?_) hZ λdG c3 cM a8 bE b7 eH gi=>b2 dG c3 cM a8 (λb hb=>bE b hb (by have:=(IF L m).1;omega)) b7 eH gi;have:cl.aS∈L.map (·.aS):=hn.2 ⟨cl,k0,rfl⟩;rw[E,ou]at this;exact⟨by rw[(IF L m).2 ⟨cl,k0,fv⟩];omega,CQ _ (by omega)⟩
      · cases h
    · cases ar
  · simp only[J4]at ar;split at ar
    · rename_i amA;split at ar
      · rename_i L ck;cases ar;obtain⟨gd,hj,ix⟩:=aBu amA;obtain⟨E,I,av,aH⟩:=Xw _ [] L ck trivial;simp only[List.reverse_nil,uH]at av aH;simp only[eu]at h;split at h
        · rename_i bQ bk hZ;cases h;have eA:L.length=ops.size:=(by rw[<-ix,<-E];simp);have lJ:dB aV an (hl L m) {w with drawn:=w.drawn+1}:=(ax.hl L).aiw rfl;refine wp_region_any mY ?_;refine W3 (base:=m.next) (PB:=m.next) ca ops.size L _ A _ a _ an eA (by simp) (λj bj=> ?_) (λj hM _ aB=>by rw[getD_replicate_false]at aB;cases aB) I (by rw[E];exact gd) av (λbX cl post e hM sE qL bn hb=> .inr (aH bX cl post e hM sE qL bn hb)) K lJ cT (ey _) (λcl k0 fv=> ?_) (IF L m).1 hZ λdG c3 cM a8 bE b7 eH gi=>b2 dG c3 cM a8 bE b7 eH (Below.trans (a:=w) (b:={w with drawn:=w.drawn+1}) ⟨rfl,rfl,rfl,ey _,λ_ _=>rfl⟩ gi)
          · rw[getD_replicate_false];constructor
            · intro h;cases h
            · intro h;exfalso;have:j∈L.map (·.aS):=(by rw[E,hj];exact bj);obtain⟨cl,k0,e⟩:=hn.1 this;exact h cl k0 e
          · have:cl.aS∈L.map (·.aS):=hn.2 ⟨cl,k0,rfl⟩;rw[E,hj]at this;exact⟨by rw[(IF L m).2 ⟨cl,k0,fv⟩];omega,by rw[ahl];exact alp (by omega),CQ _ (by omega)⟩
        · cases h
      · cases ar
    · cases ar
theorem H5{f:aR->W->Option (dA×aR×W)}{j:Nat}{A:aR}{m:W}{r:dA×aR×W}(h:jJ f (j+1) A m=some r):
    (∃bQ bk,f A m=some (.ew,bQ,bk)/\jJ f j bQ bk=some r)\/(f A m=some r/\r.1≠ .ew):=by
  simp only[jJ]at h;split at h
  · rename_i bQ bk E;exact .inl ⟨bQ,bk,E,h⟩
  · rename_i E;refine .inr ⟨h,λe=> ?_⟩;obtain⟨fs,g7,jl⟩:=r;simp only at e;subst e;exact E _ _ h
theorem sm(ca:pL P aV bJ): ∀(c:H) (A:aR) (m:W) (e:dA) (ak:aR) (aq:W),eu bJ n c A m=some (e,ak,aq)->m.next<=aq.next/\ ∀b,b<m.next->m.X b=none->aq.X b=none
  | .skip,A,m,e,ak,aq,h=>by simp[eu]at h;obtain⟨_,_,rfl⟩:=h;exact⟨ey _,λ_ _ h=>h⟩
  | .D ops,A,m,e,ak,aq,h=>by
    simp only[eu]at h;split at h
    · rename_i bQ bk hZ;cases h;have E:=IH ca ops A _ _ hZ;have I:=(IF ops m).1;exact⟨by simp only at E;omega,λb hb aP=>UT ca hb ops A _ _ I hZ (by rw[ahl];exact aP)⟩
    · cases h
  | .q0 bX o b4,A,m,e,ak,aq,h=>by
    simp only[eu]at h;split at h
    · rename_i bQ bk E;split at h
      · rename_i au;split at h
        · rename_i dt dR I;cases h;have aK:=IH ca _ _ _ _ E;rw[W.ti]at aK;have ej:hF bJ m.next o bQ bk=some (dc bQ o.d (o.k.val (m.next+o.aS) bQ bk),o.k.gG (m.next+o.aS) bQ bk):=by
            unfold m4 at au;simp only[a1,zB]at au;refine ahZ ?_ (rP (NS au.2)) au.2;rw[au.1.1];rfl
          have bb:=EE ca ej;rw[W.ti];refine⟨by simp only at aK;omega,λb hb aP=> ?_⟩;rw[W.e0];exact OJ ca ej (by simp only at aK;omega) (by omega) (UT ca hb bX A _ _ (by rw[W.ti];omega) E (by rw[W.e0];exact aP))
        · cases h
      · cases h
    · cases h
  | .B c d,A,m,e,ak,aq,h=>by
    simp only[eu]at h;split at h
    · rename_i bQ bk E;obtain⟨bu,bN⟩:=sm ca c A m _ bQ bk E;obtain⟨dd,ee⟩:=sm ca d bQ bk _ _ _ h;exact⟨by omega,λb hb aP=>ee b (by omega) (bN b hb aP)⟩
    · exact sm ca c A m _ _ _ h
  | .aM x c d,A,m,e,ak,aq,h=>by
    simp only[eu]at h;split at h
    · split at h
      · exact sm ca c A m _ _ _ h
      · exact sm ca d A m _ _ _ h
    · cases h
  | .block id c,A,m,e,ak,aq,h=>by
    simp only[eu]at h;split at h
    · rename_i jg bQ bk E;have:=sm ca c A m _ bQ bk E;split at h<;>cases h<;>exact this
    · exact sm ca c A m _ _ _ h
  | .loop c,A,m,e,ak,aq,h=>by
    simp only[eu]at h;have key: ∀(j:Nat) (A:aR) (m:W),jJ (eu bJ n c) j A m=some (e,ak,aq)->m.next<=aq.next/\ ∀b,b<m.next->m.X b=none->aq.X b=none:=by
      intro j;induction j with
      |zero=>intro A m h;simp[jJ]at h
      | succ j cx=>
        intro A m h;rcases H5 h with⟨bQ,bk,E,I⟩|⟨E,_⟩
        · obtain⟨bu,bN⟩:=sm ca c A m _ bQ bk E;obtain⟨dd,ee⟩:=cx bQ bk I;exact⟨by omega,λb hb aP=>ee b (by omega) (bN b hb aP)⟩
        · exact sm ca c A m _ _ _ E
    exact key n A m h
  | .a7 id,A,m,e,ak,aq,h=>by simp[eu]at h;obtain⟨_,_,rfl⟩:=h;exact⟨ey _,λ_ _ h=>h⟩
  | .aF,A,m,e,ak,aq,h=>by simp[eu]at h;obtain⟨_,_,rfl⟩:=h;exact⟨ey _,λ_ _ h=>h⟩
theorem ah9{e:dA}(h:e≠ .ew):e.hT≠ .normal:=by cases e<;>simp[dA.hT]at h⊢
theorem ah5{aW:Act->World->Prop}{Q:Exit->Act->World->Prop}{e:Exit}{a:Act}{w:World}(h:e≠ .normal)(bd:Q e a w):Exit.then aW Q e a w:=by cases e<;>first|exact bd|exact absurd rfl h
theorem uO(mY:P.follows .mixedOrders=true)(ca: ∀aV,pL P aV bJ): ∀(c:Code) (pj:H),qD P cZ c=some pj-> ∀(A:aR) (m:W) (e:dA) (ak:aR) (aq:W),eu bJ n pj A m=some (e,ak,aq)->
    ∀(a:Act) (w:World) (an:eJ),gK an cZ A a->dB aV an m w->aV<=w.heap.size-> ∀(Q:Exit->Act->World->Prop),
    (∀dG c3 cM,gl an cM->(∀b,b<m.next->cM b=an b)->gK cM cZ ak dG->dB aV cM aq c3->Below aV w c3->Q e.hT dG c3)->c.wp P Q a w
  | .skip,pj,ar,A,m,e,ak,aq,h,a,w,an,K,ax,cT,Q,b2=>by cases ar;simp[eu]at h;obtain⟨rfl,rfl,rfl⟩:=h;exact wp_skip (b2 a w an (gl.refl an) (λ_ _=>rfl) K ax (Below.refl _ _))
  | .region id ops rz,pj,ar,A,m,e,ak,aq,h,a,w,an,K,ax,cT,Q,b2=>by
    simp only[qD]at ar;split at ar
    · rename_i c aB;cases ar;exact azZ mY ca aB h K ax cT b2
    · exact aB8 mY (ca aV) ar h K ax cT b2
  | .seq c d,pj,ar,A,m,e,ak,aq,h,a,w,an,K,ax,cT,Q,b2=>by
    simp only[qD]at ar;split at ar
    · rename_i x y G af;cases ar;refine wp_seq ?_;simp only[eu]at h;split at h
      · rename_i bQ bk E;refine uO mY ca c x G A m _ bQ bk E a w an K ax cT _ λbu c8 mw a8 bE b7 eH gi=> ?_;have az:=(sm (ca aV) x A m _ bQ bk E).1;refine uO mY ca d y af bQ bk e ak aq h bu c8 mw b7 eH (kC cT gi.size) Q λbN e7 mx gd hj ix jz vy=> ?_;exact b2 bN e7 mx (a8.trans gd) (λb hb=>(hj b (by omega)).trans (bE b hb)) ix jz (gi.trans vy)
      · rename_i cJ;refine uO mY ca c x G A m _ ak aq h a w an K ax cT _ λbu c8 mw a8 bE b7 eH gi=> ?_;refine ah5 (ah9 λbn=> ?_) (b2 bu c8 mw a8 bE b7 eH gi);subst bn;exact cJ _ _ h
    · cases ar
  | .cond x c d,pj,ar,A,m,e,ak,aq,h,a,w,an,K,ax,cT,Q,b2=>by
    simp only[qD]at ar;split at ar
    · rename_i y J af bK;split at ar<;>cases ar;rename_i G;simp only[eu]at h;split at h
      · rename_i hb;have aw:=K.Z G;cases ad:Z A x<;>simp[ad,sK]at hb;rename_i t;rw[ad]at aw h;refine wp_cond aw.qT ?_;simp only[uM]at h;cases t
        · exact uO mY ca d J bK A m e ak aq h a w an K ax cT Q b2
        · exact uO mY ca c y af A m e ak aq h a w an K ax cT Q b2
      · cases h
    · cases ar
  | .block id c,pj,ar,A,m,e,ak,aq,h,a,w,an,K,ax,cT,Q,b2=>by
    simp only[qD]at ar;split at ar
    · rename_i x G;cases ar;refine wp_block ?_;simp only[eu]at h;split at h
      · rename_i jg bQ bk E;refine uO mY ca c x G A m _ bQ bk E a w an K ax cT _ λbu c8 mw a8 bE b7 eH gi=> ?_;show if jg=id then Q .normal bu c8 else Q (.exit jg) bu c8
        split at h
        · rename_i bn;cases h;rw[if_pos bn];exact b2 bu c8 mw a8 bE b7 eH gi
        · rename_i bn;cases h;rw[if_neg bn];exact b2 bu c8 mw a8 bE b7 eH gi
      · rename_i cJ;refine uO mY ca c x G A m _ ak aq h a w an K ax cT _ λbu c8 mw a8 bE b7 eH gi=> ?_;have:=b2 bu c8 mw a8 bE b7 eH gi;cases e with
        |ew=>exact this
        |aF=>exact this
        |a7 jg=>exact absurd h (cJ _ _ _)
    · cases ar
  | .loop c,pj,ar,A,m,e,ak,aq,h,a,w,an,K,ax,cT,Q,b2=>by
    simp only[qD]at ar;split at ar
    · rename_i x G;cases ar;simp only[eu]at h;refine wp_loop_rounds n ?_
      have key: ∀(j:Nat) (A:aR) (m:W) (a:Act) (w:World) (an:eJ),jJ (eu bJ n x) j A m=some (e,ak,aq)->gK an cZ A a->dB aV an m w->aV<=w.heap.size->
          (∀dG c3 cM,gl an cM->(∀b,b<m.next->cM b=an b)->gK cM cZ ak dG->dB aV cM aq c3->Below aV w c3->Q e.hT dG c3)->Code.rounds P c Q j a w:=by
        intro j;induction j with
        |zero=>intro A m a w an h;simp[jJ]at h
        | succ j cx=>
          intro A m a w an h K ax cT b2;rw[rounds_succ];rcases H5 h with⟨bQ,bk,E,I⟩|⟨E,cJ⟩
          · have az:=(sm (ca aV) x A m _ bQ bk E).1;refine uO mY ca c x G A m _ bQ bk E a w an K ax cT _ λbu c8 mw a8 bE b7 eH gi=> ?_;exact cx bQ bk bu c8 mw I b7 eH (kC cT gi.size) λbN e7 mx gd hj ix jz vy=>b2 bN e7 mx (a8.trans gd) (λb hb=>(hj b (by omega)).trans (bE b hb)) ix jz (gi.trans vy)
          · refine uO mY ca c x G A m _ ak aq E a w an K ax cT _ λbu c8 mw a8 bE b7 eH gi=> ?_;exact ah5 (ah9 cJ) (b2 bu c8 mw a8 bE b7 eH gi)
      exact key n A m a w an h K ax cT b2
    · cases ar
  | .exit id,pj,ar,A,m,e,ak,aq,h,a,w,an,K,ax,cT,Q,b2=>by cases ar;simp[eu]at h;obtain⟨rfl,rfl,rfl⟩:=h;exact wp_exit (b2 a w an (gl.refl an) (λ_ _=>rfl) K ax (Below.refl _ _))
  | .ret,pj,ar,A,m,e,ak,aq,h,a,w,an,K,ax,cT,Q,b2=>by cases ar;simp[eu]at h;obtain⟨rfl,rfl,rfl⟩:=h;exact wp_ret (b2 a w an (gl.refl an) (λ_ _=>rfl) K ax (Below.refl _ _))
  | .rangeFunc _ _ _ _,_,ar,_,_,_,_,_,_,_,_,_,_,_,_,_,_=>by cases ar
  | .scope _,_,ar,_,_,_,_,_,_,_,_,_,_,_,_,_,_=>by cases ar
  | .label _,_,ar,_,_,_,_,_,_,_,_,_,_,_,_,_,_=>by cases ar
  | .goto _,_,ar,_,_,_,_,_,_,_,_,_,_,_,_,_,_=>by cases ar
  | .refuse _,_,ar,_,_,_,_,_,_,_,_,_,_,_,_,_,_=>by cases ar
def Em(a:Act):ResultVar->Sem Value
  | .tmp t=>Pure.pure (a.tmps.getD t undef)
  | .cell x t=>do loadVar t (<-asAddr (a.tmps.getD x undef))
theorem PG: ∀(l:List ResultVar) (cy:List ld),wh P cZ l=some cy-> ∀{A:aR} {m:W} {a:Act} {w:World} {an:eJ},gK an cZ A a->dB aV an m w->k7 m A cy=true->
    ∃cz:List Value,(l.mapM (m:=Sem) (Em a)).run P w= .ok cz w/\c5 an (cy.map (qj m A)) cz
  | [],cy,h,A,m,a,w,an,K,ax,au=>by simp[wh]at h;subst h;exact⟨[],by simp,c5.nil an⟩
  | .tmp t::r,cy,h,A,m,a,w,an,K,ax,au=>by
    simp only[wh]at h;split at h
    · rename_i l aB;split at h<;>cases h;simp only[k7,nm,a1]at au;obtain⟨cz,E,I⟩:=PG r l aB K ax au.2;refine⟨a.tmps.getD t undef::cz,?_,c5.cons (K.mL t) I⟩;have p3:(Em a (.tmp t)).run P w= .ok (a.tmps.getD t undef) w:=rfl;simp only[List.mapM_cons,Sem.run_bind,p3,Result.andThen_ok,E,Sem.run_pure]
    · cases h
  | .cell x t::r,cy,h,A,m,a,w,an,K,ax,au=>by
    simp only[wh]at h;split at h
    · rename_i dp n l tB az aB;split at h<;>cases h;simp only[k7,nm,a1,py,uG,e2]at au;obtain⟨cz,E,I⟩:=PG r l aB K ax au.2;obtain⟨ef,ds,aJ,aU,cu,gO⟩:=T1 ax (K.mL x) au.1.1 au.1.2;refine⟨_::cz,?_,c5.cons gO I⟩;have p3:(Em a (.cell x t)).run P w= .ok (if dp then .agg ds.toArray else ds.headD undef) w:=by
        simp only[Em,Sem.run_bind,aJ,asAddr,Sem.run_pure,Result.andThen_ok,UY tB az au.1.2 aU cu]
      simp only[List.mapM_cons,Sem.run_bind,p3,Result.andThen_ok,E,Sem.run_pure]
    · cases h
theorem aCc{fn:Func}{cy:List ld}(h:wh P cZ fn.results.toList=some cy){A:aR}{m:W}{a:Act}{w:World}{an:eJ}(K:gK an cZ A a)(ax:dB aV an m w)(au:k7 m A cy=true):
    ∃v,(results fn a.tmps).run P w= .ok v w/\dF an (lu m A cy) v:=by
  obtain⟨cz,E,I⟩:=PG _ _ h K ax au;refine⟨if h:cz.toArray.size=1 then cz.toArray[0]else .tuple cz.toArray,?_,?_⟩
  · unfold results;simp only[Sem.run_bind];rw[Array.mapM_eq_mapM_toList];simp only[Sem.run_map];have aT:(List.mapM (m:=Sem) (Em a) fn.results.toList).run P w= .ok cz w:=E;change (((Sem.run P (List.mapM (m:=Sem) (Em a) fn.results.toList) w).andThen _).andThen _)=_;rw[aT];rfl
  · have eA:=I.1
    match cy,cz,I,eA with
    |[r],[v],I,_=>exact I.2 0 _ _ rfl rfl
    |[],[],I,_=>exact dF.undef an
    |[_],[],_,aB=>simp at aB
    |[_],_::_::_,_,aB=>simp at aB
    |[],_::_,_,aB=>simp at aB
    |_::_::_,[],_,aB=>simp at aB
    |_::_::_,[_],_,aB=>simp at aB
    | fs::g7::cy,B0::vQ::cz,I,_=>simp only[lu,List.size_toArray,pI];rw[dif_neg (by omega)];exact I.tuple
theorem akc{f:Nat}{u:bM}(h:bW P f=some u): ∃fn c,P.funcs[f]?=some fn∧fn.body=some c∧(fn.name== "runtime.NumGoroutine")=false∧qD P fn.ntmps c=some u.body∧wh P fn.ntmps fn.results.toList=some u.jA∧u.cZ=fn.ntmps:=by
  unfold bW at h;split at h
  · rename_i fn CH;split at h
    · cases h
    · rename_i kr;split at h
      · rename_i c ar;split at h
        · rename_i b cy hb aw;cases h;exact⟨fn,c,CH,ar,by simpa using kr,hb,aw,rfl⟩
        · cases h
      · cases h
  · cases h
theorem am9{an:eJ}{args:List Value}{nq:Array Value}(h:c5 an args nq.toList)(fR:args.length<=cZ):gK an cZ (jI args) {tmps:=nq++Array.replicate (cZ-nq.size) undef,defers:=[]}:=by
  have aB:nq.size=args.length:=by have:=h.1;simp at this;exact this.symm
  refine⟨by simp;omega,rfl,λt=> ?_⟩;simp only[jI];rw[la,Array.getD_eq_getD_getElem?];by_cases bA:t<args.length
  · obtain⟨y,af,tI⟩:=h.X (cD bA);rw[cD bA,Jt (by omega)];rw[EW]at af;rw[af];exact tI
  · rw[qv (by omega)];rw[Array.getElem?_append_right (by omega),Array.getElem?_replicate];split<;>exact dF.undef an
theorem XB(mY:P.follows .mixedOrders=true): ∀k aV,pL P aV (jV P k)
  |0,aV,f,args,m,r,aq,h=>by simp[jV]at h
  | k+1,aV,f,args,m,r,aq,h=>by
    have cx:=XB mY k;have Zk: ∀id x,id<m.next->m.X id=none->jV P (k+1) f args (m.a0 id x)=some (r,aq.a0 id x):= λid x E I=>by obtain⟨cv,aK,bb⟩:=Pn.Fu (k+1) x f args m r aq h (m.a0 id x) ⟨rfl,E,I⟩;rw[aK,bb.eq]
    simp only[jV]at h;split at h
    · rename_i u dx;obtain⟨fn,c,E,I,av,aH,br,cW⟩:=akc dx;split at h
      · rename_i fR
        have Bl: ∀(e:dA) (ak:aR) (bk:W),eu (jV P k) k u.body (jI args) m=some (e,ak,bk)->(∀id,e≠ .a7 id)->k7 bk ak u.jA=true->lu bk ak u.jA=r->bk=aq->
            E2 P f/\m.next<=aq.next/\(∀b,b<m.next->m.X b=none->aq.X b=none)/\
            (∀id x,id<m.next->m.X id=none->jV P (k+1) f args (m.a0 id x)=some (r,aq.a0 id x))/\
            ∀ an w (nq:Array Value),c5 an args nq.toList->dB aV an m w->aV<=w.heap.size->
              Calls P f nq w λe c3=> ∃v cM,e= .returned v/\gl an cM/\(∀b,b<m.next->cM b=an b)/\dF cM r v/\dB aV cM aq c3/\Below aV w c3:=by
          intro e ak bk gP cJ au aw lJ;subst aw;subst lJ;have kr:=sm (cx aV) u.body _ _ _ _ _ gP;refine⟨⟨fn,E,by rw[I];rfl,av⟩,kr.1,kr.2,Zk,λan w nq aA ax cT=> ?_⟩;refine calls_of_wp E I ?_;rw[cW]at fR;refine uO mY cx c u.body aH (jI args) m e ak bk gP _ w an (am9 aA fR) ax cT _ λdG c3 cM a8 bE b7 eH gi=> ?_;obtain⟨v,aK,bb⟩:=aCc br b7 eH au
          have Zj:dG.defers=[]/\ ∃v,(results fn dG.tmps).run P c3= .ok v c3/\(λ(e:Ending) (c3:World)=> ∃v cM,e= .returned v/\gl an cM/\(∀b,b<m.next->cM b=an b)/\dF cM (lu bk ak u.jA) v/\dB aV cM bk c3/\Below aV w c3) (.returned v) c3:=
            ⟨b7.defers,v,aK,v,cM,rfl,a8,bE,bb,eH,gi⟩
          cases e with
          |ew=>exact Zj
          |aF=>exact Zj
          |a7 id=>exact absurd rfl (cJ id)
        split at h
        · cases h
        · rename_i e ak bk cJ gP;split at h
          · rename_i au;cases h;exact Bl e ak aq gP (λid bn=>cJ id bn) au rfl rfl
          · cases h
        · cases h
      · cases h
    · cases h
end
section b8
variable {bJ x1:Callee}
def Jy(bJ x1:Callee):Prop:= ∀f a m r,bJ f a m=some r->x1 f a m=some r
theorem aEa(h:Jy bJ x1){base:Nat}{o:bp}{A:aR}{m:W}{r:aR×W}(K:hF bJ base o A m=some r):hF x1 base o A m=some r:=by
  unfold hF at K⊢;by_cases a3:eR A o.g=true
  · rw[if_pos a3]at K⊢;cases ar:o.k.fj A m with
    |none=>rw[ar]at K;exact K
    | some kX=>
      obtain⟨f,args⟩:=kX;rw[ar]at K;simp only at K⊢;cases aT:bJ f args m with
      |none=>rw[aT]at K;cases K
      |some EO=>rw[aT]at K;rw[h _ _ _ _ aT];exact K
  · rw[if_neg a3]at K⊢;exact K
theorem BI(h:Jy bJ x1){base:Nat}: ∀{L:List bp} {A:aR} {m:W} {r:aR×W},j3 bJ base L A m=some r->j3 x1 base L A m=some r
  |[],_,_,_,K=>K
  | _::_,_,_,_,K=>by obtain⟨bQ,bk,E,I,av⟩:=q6 K;exact xn (aEa h E) I (BI h av)
theorem No{f g:aR->W->Option (dA×aR×W)}(h: ∀A m r,f A m=some r->g A m=some r): ∀{n ho:Nat} {A:aR} {m:W} {r:dA×aR×W},n<=ho->jJ f n A m=some r->jJ g ho A m=some r
  |0,_,_,_,_,_,K=>by simp[jJ]at K
  |n+1,0,_,_,_,az,_=>by omega
  | n+1,ho+1,A,m,r,az,K=>by
    rcases H5 K with⟨bQ,bk,E,I⟩|⟨E,I⟩
    · simp only[jJ,h _ _ _ E];exact No h (by omega) I
    · obtain⟨fs,g7,jl⟩:=r;simp only[jJ,h _ _ _ E];cases fs with
      |ew=>exact absurd rfl I
      |a7 id=>rfl
      |aF=>rfl
theorem uS(h:Jy bJ x1){n ho:Nat}(az:n<=ho): ∀{c:H} {A:aR} {m:W} {r:dA×aR×W},eu bJ n c A m=some r->eu x1 ho c A m=some r
  | .skip,_,_,_,K=>K
  | .D ops,A,m,r,K=>by
    simp only[eu]at K⊢;split at K
    · rename_i aw;rw[BI h aw];exact K
    · cases K
  | .q0 bX o b4,A,m,r,K=>by
    simp only[eu]at K⊢;split at K
    · rename_i E;split at K
      · rename_i au;split at K
        · rename_i I;rw[BI h E];simp only[au,if_true,BI h I];exact K
        · cases K
      · cases K
    · cases K
  | .B a b,A,m,r,K=>by
    simp only[eu]at K⊢;split at K
    · rename_i E;rw[uS h az E];exact uS h az K
    · rename_i cJ;rw[uS h az K];obtain⟨fs,g7,jl⟩:=r;cases fs with
      |ew=>exact absurd K (cJ _ _)
      |a7 id=>rfl
      |aF=>rfl
  | .aM x a b,A,m,r,K=>by
    simp only[eu]at K⊢;split at K
    · rename_i E;rw[if_pos E];split at K
      · rename_i I;rw[if_pos I];exact uS h az K
      · rename_i I;rw[if_neg I];exact uS h az K
    · cases K
  | .block id c,A,m,r,K=>by
    simp only[eu]at K⊢;split at K
    · rename_i E;rw[uS h az E];exact K
    · rename_i cJ;rw[uS h az K];obtain⟨fs,g7,jl⟩:=r;cases fs with
      |ew=>rfl
      |a7 id=>exact absurd K (cJ _ _ _)
      |aF=>rfl
  | .loop c,A,m,r,K=>by simp only[eu]at K⊢;exact No (λA m r E=>uS h az E) az K
  | .a7 id,_,_,_,K=>K
  | .aF,_,_,_,K=>K
theorem xX{P:Program}: ∀{n ho:Nat},n<=ho->Jy (jV P n) (jV P ho)
  |0,_,_=> λf a m r h=>by simp[jV]at h
  |n+1,0,az=>by omega
  | n+1,ho+1,az=> λf a m r h=>by
    simp only[jV]at h⊢;split at h
    · rename_i u dx;split at h
      · rename_i fR;rw[if_pos fR];split at h
        · cases h
        · rename_i e ak aq cJ gP;rw[uS (xX (by omega:n<=ho)) (by omega:n<=ho) gP];cases e with
          |ew=>exact h
          |aF=>exact h
          |a7 id=>exact absurd rfl (cJ id)
        · cases h
      · cases h
    · cases h
end b8
section wp
variable (P:Program)
def gp(f:Nat)(args:List Value)(m:W)(cj:Value->W->Prop):Prop:= ∃n r aq,jV P n f args m=some (r,aq)/\cj r aq
def ia(c:H)(A:aR)(m:W)(Q:dA->aR->W->Prop):Prop:= ∃n e ak aq,eu (jV P n) n c A m=some (e,ak,aq)/\Q e ak aq
def hI(base:Nat)(ops:List bp)(A:aR)(m:W)(aW:aR->W->Prop):Prop:= ∃n ak aq,j3 (jV P n) base ops A m=some (ak,aq)/\aW ak aq
def OO(b:H)(Q:dA->aR->W->Prop)(e:dA)(A:aR)(m:W):Prop:=match e with| .ew=>ia P b A m Q|e=>Q e A m
def Fo(id:Nat)(Q:dA->aR->W->Prop)(e:dA)(A:aR)(m:W):Prop:=match e with| .a7 jg=>if jg=id then Q .ew A m else Q (.a7 jg) A m|e=>Q e A m
def ND(c:H)(Q:dA->aR->W->Prop)(e:dA)(A:aR)(m:W):Prop:=match e with| .ew=>ia P (.loop c) A m Q|e=>Q e A m
def r1(cy:List ld)(cj:Value->W->Prop)(e:dA)(A:aR)(m:W):Prop:=match e with| .a7 _=>False|_=>k7 m A cy=true/\cj (lu m A cy) m
def wi(base:Nat)(d:Option Nat)(a9:List (Operand×Operand))(b4:List bp)(A:aR)(m:W)(aW:aR->W->Prop)(r:Value)(aq:W):Prop:=qZ A a9 m aq/\hI P base b4 (dc A d r) aq aW
variable {P} {A:aR} {m:W} {Q:dA->aR->W->Prop}
theorem VW{b:H}:OO P b Q .ew A m=ia P b A m Q:=rfl
theorem aEl{b:H}{id:Nat}:OO P b Q (.a7 id) A m=Q (.a7 id) A m:=rfl
theorem aEm{b:H}:OO P b Q .aF A m=Q .aF A m:=rfl
theorem aj8{id:Nat}:Fo id Q .ew A m=Q .ew A m:=rfl
theorem Ch{id jg:Nat}:Fo id Q (.a7 jg) A m=if jg=id then Q .ew A m else Q (.a7 jg) A m:=rfl
theorem aj9{id:Nat}:Fo id Q .aF A m=Q .aF A m:=rfl
theorem agd{c:H}:ND P c Q .ew A m=ia P (.loop c) A m Q:=rfl
theorem aAk{c:H}{id:Nat}:ND P c Q (.a7 id) A m=Q (.a7 id) A m:=rfl
theorem aAl{c:H}:ND P c Q .aF A m=Q .aF A m:=rfl
theorem aCd{u:List ld}{cj:Value->W->Prop}:r1 u cj .ew A m=(k7 m A u=true/\cj (lu m A u) m):=rfl
theorem aCe{u:List ld}{cj:Value->W->Prop}:r1 u cj .aF A m=(k7 m A u=true/\cj (lu m A u) m):=rfl
theorem Cs{n ho:Nat}(h:n<=ho){c:H}{r:dA×aR×W}(K:eu (jV P n) n c A m=some r):eu (jV P ho) ho c A m=some r:=uS (xX h) h K
theorem Wm:ia P .skip A m Q=Q .ew A m:=by refine propext ⟨λ⟨n,e,ak,aq,h,q⟩=> ?_,λh=>⟨0,_,_,_,rfl,h⟩⟩;cases h;exact q
theorem Wj{id:Nat}:ia P (.a7 id) A m Q=Q (.a7 id) A m:=by refine propext ⟨λ⟨n,e,ak,aq,h,q⟩=> ?_,λh=>⟨0,_,_,_,rfl,h⟩⟩;cases h;exact q
theorem Wl:ia P .aF A m Q=Q .aF A m:=by refine propext ⟨λ⟨n,e,ak,aq,h,q⟩=> ?_,λh=>⟨0,_,_,_,rfl,h⟩⟩;cases h;exact q
theorem Wk{ops:List bp}:ia P (.D ops) A m Q=hI P m.next ops A (hl ops m) (Q .ew):=by
  refine propext ⟨λ⟨n,e,ak,aq,h,q⟩=> ?_,λ⟨n,ak,aq,h,q⟩=>⟨n,.ew,ak,aq,by simp only[eu,h],q⟩⟩;simp only[eu]at h;split at h
  · rename_i aw;cases h;exact⟨n,_,_,aw,q⟩
  · cases h
def Ib(o:bp)(Q:dA->aR->W->Prop)(id:Nat)(bQ:aR)(bk:W)(dt:aR)(dR:W):Prop:=Q .ew dt ((o.k.gG id bQ bk).cf (dR.next-bk.next))
theorem aix{bX:List bp}{o:bp}{b4:List bp}:ia P (.q0 bX o b4) A m Q=hI P m.next bX A (m.cf (bX.length+(b4.length+1))) λbQ bk=>
    m4 o bQ bk=true/\hI P m.next b4 (dc bQ o.d (o.k.val (m.next+o.aS) bQ bk)) (nC bk) (Ib o Q (m.next+o.aS) bQ bk):=by
  refine propext ⟨λ⟨n,e,ak,aq,h,q⟩=> ?_,λ⟨n,bQ,bk,h,au,hr,dt,dR,I,q⟩=>⟨max n hr,.ew,dt,_,by simp only[eu,BI (xX (Nat.le_max_left n hr)) h,au,if_true,BI (xX (Nat.le_max_right n hr)) I],q⟩⟩;simp only[eu]at h;split at h
  · rename_i bQ bk E;split at h
    · rename_i au;split at h
      · rename_i dt dR I;cases h;exact⟨n,bQ,bk,E,au,n,_,dR,I,q⟩
      · cases h
    · cases h
  · cases h
theorem OZ{a b:H}:ia P (.B a b) A m Q=ia P a A m (OO P b Q):=by
  refine propext ⟨λ⟨n,e,ak,aq,h,q⟩=> ?_,λ⟨n,e,ak,aq,h,q⟩=> ?_⟩
  · simp only[eu]at h;split at h
    · rename_i bQ bk E;exact⟨n,.ew,bQ,bk,E,n,e,ak,aq,h,q⟩
    · rename_i cJ;refine⟨n,e,ak,aq,h,?_⟩;cases e with
      |ew=>exact absurd h (cJ _ _)
      |a7 id=>exact q
      |aF=>exact q
  · cases e with
    | ew=>obtain⟨hr,aU,dt,dR,I,bE⟩:=q;refine⟨max n hr,aU,dt,dR,?_,bE⟩;simp only[eu,Cs (Nat.le_max_left n hr) h];exact Cs (Nat.le_max_right n hr) I
    |a7 id=>exact⟨n,_,ak,aq,by simp only[eu,h],q⟩
    |aF=>exact⟨n,_,ak,aq,by simp only[eu,h],q⟩
theorem OY{c:Operand}{a b:H}:ia P (.aM c a b) A m Q=(sK (Z A c)=true/\if uM (Z A c)=true then ia P a A m Q else ia P b A m Q):=by
  refine propext ⟨λ⟨n,e,ak,aq,h,q⟩=> ?_,λ⟨E,I⟩=> ?_⟩
  · simp only[eu]at h;split at h
    · rename_i E;refine⟨E,?_⟩;split at h
      · rename_i I;rw[if_pos I];exact⟨n,e,ak,aq,h,q⟩
      · rename_i I;rw[if_neg I];exact⟨n,e,ak,aq,h,q⟩
    · cases h
  · split at I
    · rename_i av;obtain⟨n,e,ak,aq,h,q⟩:=I;exact⟨n,e,ak,aq,by simp only[eu,if_pos E,if_pos av,h],q⟩
    · rename_i av;obtain⟨n,e,ak,aq,h,q⟩:=I;exact⟨n,e,ak,aq,by simp only[eu,if_pos E,if_neg av,h],q⟩
theorem Ji{id:Nat}{c:H}:ia P (.block id c) A m Q=ia P c A m (Fo id Q):=by
  refine propext ⟨λ⟨n,e,ak,aq,h,q⟩=> ?_,λ⟨n,e,ak,aq,h,q⟩=> ?_⟩
  · simp only[eu]at h;split at h
    · rename_i jg bQ bk E;refine⟨n,.a7 jg,bQ,bk,E,?_⟩;rw[Ch];split at h
      · rename_i bn;cases h;rw[if_pos bn];exact q
      · rename_i bn;cases h;rw[if_neg bn];exact q
    · rename_i cJ;refine⟨n,e,ak,aq,h,?_⟩;cases e with
      |ew=>exact q
      |a7 jg=>exact absurd h (cJ _ _ _)
      |aF=>exact q
  · cases e with
    |ew=>exact⟨n,.ew,ak,aq,by simp only[eu,h],q⟩
    |aF=>exact⟨n,.aF,ak,aq,by simp only[eu,h],q⟩
    | a7 jg=>
      rw[Ch]at q;split at q
      · rename_i bn;exact⟨n,.ew,ak,aq,by simp only[eu,h,if_pos bn],q⟩
      · rename_i bn;exact⟨n,.a7 jg,ak,aq,by simp only[eu,h,if_neg bn],q⟩
theorem aiy{c:H}:ia P (.loop c) A m Q=ia P c A m (ND P c Q):=by
  refine propext ⟨λ⟨n,e,ak,aq,h,q⟩=> ?_,λ⟨n,e,ak,aq,h,q⟩=> ?_⟩
  · simp only[eu]at h;cases n with
    |zero=>simp[jJ]at h
    | succ n=>
      rcases H5 h with⟨bQ,bk,E,I⟩|⟨E,I⟩
      · refine⟨n+1,.ew,bQ,bk,E,n+1,e,ak,aq,?_,q⟩;simp only[eu];exact No (λ_ _ _ h=>h) (by omega) I
      · refine⟨n+1,e,ak,aq,E,?_⟩;cases e with
        |ew=>exact absurd rfl I
        |a7 id=>exact q
        |aF=>exact q
  · cases e with
    | ew=>obtain⟨hr,aU,dt,dR,I,bE⟩:=q;refine⟨max n hr+1,aU,dt,dR,?_,bE⟩;simp only[eu]at I⊢;have E:eu (jV P (max n hr+1)) (max n hr+1) c A m=some (.ew,ak,aq):=Cs (by omega) h;simp only[jJ,E];exact No (λ_ _ _ h=>Cs (by omega) h) (by omega) I
    |a7 id=>exact⟨n+1,_,ak,aq,by simp only[eu,jJ];rw[Cs (by omega:n<=n+1) h],q⟩
    |aF=>exact⟨n+1,_,ak,aq,by simp only[eu,jJ];rw[Cs (by omega:n<=n+1) h],q⟩
theorem sY{f:Nat}{args:List Value}{cj:Value->W->Prop}{u:bM}(dx:bW P f=some u)(aB:args.length<=u.cZ):gp P f args m cj=ia P u.body (jI args) m (r1 u.jA cj):=by
  refine propext ⟨λ⟨n,r,aq,h,q⟩=> ?_,λ⟨n,e,ak,aq,h,q⟩=> ?_⟩
  · cases n with
    |zero=>simp[jV]at h
    | succ n=>
      simp only[jV,dx,if_pos aB]at h;split at h
      · cases h
      · rename_i e ak bk cJ gP;split at h
        · rename_i au;cases h;refine⟨n,e,ak,aq,gP,?_⟩;cases e with
          |ew=>exact⟨au,q⟩
          |aF=>exact⟨au,q⟩
          |a7 id=>exact absurd rfl (cJ id)
        · cases h
      · cases h
  · cases e with
    |ew=>exact⟨n+1,_,aq,by simp only[jV,dx,if_pos aB,h,q.1,if_true],q.2⟩
    |aF=>exact⟨n+1,_,aq,by simp only[jV,dx,if_pos aB,h,q.1,if_true],q.2⟩
    |a7 id=>exact q.elim
def rp(P:Program)(f:Nat)(args:List Value)(m:W)(r:Value)(aq:W):Prop:= ∃n,jV P n f args m=some (r,aq)
theorem rp.wp{f:Nat}{args:List Value}{r:Value}{aq:W}(h:rp P f args m r aq){cj:Value->W->Prop}:gp P f args m cj=cj r aq:=by obtain⟨n,az⟩:=h;refine propext ⟨λ⟨ho,dL,T5,bS,q⟩=> ?_,λq=>⟨n,r,aq,az,q⟩⟩;have E:=xX (Nat.le_max_left n ho) _ _ _ _ az;have I:=xX (Nat.le_max_right n ho) _ _ _ _ bS;rw[E]at I;cases I;exact q
theorem rp.y7{f:Nat}{args:List Value}{r:Value}{aq:W}(h:gp P f args m λdL T5=>dL=r/\T5=aq):rp P f args m r aq:=by obtain⟨n,dL,T5,E,rfl,rfl⟩:=h;exact⟨n,E⟩
theorem gp.aF{f:Nat}{args:List Value}{cj:Value->W->Prop}(h:gp P f args m cj): ∃r aq,rp P f args m r aq/\cj r aq:=by obtain⟨n,r,aq,E,q⟩:=h;exact⟨r,aq,⟨n,E⟩,q⟩
theorem gp.b8{f:Nat}{args:List Value}{cj mP:Value->W->Prop}(h:gp P f args m cj)(bd: ∀r aq,cj r aq->mP r aq):gp P f args m mP:=by obtain⟨n,r,aq,E,q⟩:=h;exact⟨n,r,aq,E,bd _ _ q⟩
theorem ia.b8{c:H}{xT:dA->aR->W->Prop}(h:ia P c A m Q)(bd: ∀e ak aq,Q e ak aq->xT e ak aq):ia P c A m xT:=by obtain⟨n,e,ak,aq,E,q⟩:=h;exact⟨n,e,ak,aq,E,bd _ _ _ q⟩
variable {aW:aR->W->Prop} {base aS:Nat} {b4:List bp} {d:Option Nat} {g:Option (Nat×Bool)} {a9:List (Operand×Operand)}
theorem Wo:hI P base [] A m aW=aW A m:=by refine propext ⟨λ⟨n,ak,aq,h,q⟩=> ?_,λh=>⟨0,_,_,rfl,h⟩⟩;cases h;exact q
theorem aCE{n ho:Nat}(h:n<=ho){L:List bp}{r:aR×W}(K:j3 (jV P n) base L A m=some r):j3 (jV P ho) base L A m=some r:=BI (xX h) K
theorem vS{k:ag}(aa:k.ke=false):hI P base (⟨aS,d,none,k,a9⟩::b4) A m aW=(k.ok A m=true/\pV A a9=true/\hI P base b4 (dc A d (k.val (base+aS) A m)) (k.gG (base+aS) A m) aW):=by
  have gA:k.fj A m=none:=rP aa;refine propext ⟨λ⟨n,ak,aq,h,q⟩=> ?_,λ⟨E,I,n,ak,aq,av,q⟩=> ?_⟩
  · obtain⟨bQ,bk,E,I,av⟩:=q6 h;obtain⟨au,e⟩:=VU (o:=⟨aS,d,none,k,a9⟩) rfl gA E;cases e;have aH:=I rfl;simp only[gA]at aH;exact⟨au,aH,n,ak,aq,av,q⟩
  · refine⟨n,ak,aq,xn (ahZ (o:=⟨aS,d,none,k,a9⟩) rfl gA E) (λ_=> ?_) av,q⟩;simp only[gA];exact I
theorem O1{k:ag}{t:Nat}{b:Bool}:hI P base (⟨aS,d,some (t,b),k,a9⟩::b4) A m aW=if eR A (some (t,b))=true then hI P base (⟨aS,d,none,k,a9⟩::b4) A m aW else hI P base b4 (dc A d undef) m aW:=by
  split
  · rename_i a3;have ej: ∀bJ:Callee,hF bJ base ⟨aS,d,some (t,b),k,a9⟩ A m=hF bJ base ⟨aS,d,none,k,a9⟩ A m:= λbJ=>by
      unfold hF;simp only[a3,if_true,show eR A none=true from rfl]
    have YP: ∀aq,oy ⟨aS,d,some (t,b),k,a9⟩ A m aq↔oy ⟨aS,d,none,k,a9⟩ A m aq:= λaq=>⟨λh _=>h a3,λh _=>h rfl⟩;refine propext ⟨λ⟨n,ak,aq,h,q⟩=> ?_,λ⟨n,ak,aq,h,q⟩=> ?_⟩
    · obtain⟨bQ,bk,E,I,av⟩:=q6 h;exact⟨n,ak,aq,xn (by rw[<-ej];exact E) ((YP _).1 I) av,q⟩
    · obtain⟨bQ,bk,E,I,av⟩:=q6 h;exact⟨n,ak,aq,xn (by rw[ej];exact E) ((YP _).2 I) av,q⟩
  · rename_i a3;have n4:eR A (some (t,b))=false:=(by simpa using a3);refine propext ⟨λ⟨n,ak,aq,h,q⟩=> ?_,λ⟨n,ak,aq,h,q⟩=> ?_⟩
    · obtain⟨bQ,bk,E,I,av⟩:=q6 h;rw[zo (o:=⟨aS,d,some (t,b),k,a9⟩) n4]at E;cases E;exact⟨n,ak,aq,av,q⟩
    · exact⟨n,ak,aq,xn (zo (o:=⟨aS,d,some (t,b),k,a9⟩) n4) (λh=>absurd h a3) h,q⟩
theorem O0{k:ag}{f:Nat}{args:List Value}(gA:k.fj A m=some (f,args)):hI P base (⟨aS,d,none,k,a9⟩::b4) A m aW=gp P f args m (wi P base d a9 b4 A m aW):=by
  refine propext ⟨λ⟨n,ak,aq,h,q⟩=> ?_,λ⟨n,r,bk,h,E,hr,dt,dR,I,q⟩=> ?_⟩
  · obtain⟨bQ,bk,E,I,av⟩:=q6 h;obtain⟨v,dR,aK,bb⟩:=EF (o:=⟨aS,d,none,k,a9⟩) rfl gA E;cases bb;have aH:=I rfl;simp only[gA]at aH;exact⟨n,v,_,aK,aH,n,ak,aq,av,q⟩
  · refine⟨max n hr,dt,dR,xn (I8 (o:=⟨aS,d,none,k,a9⟩) rfl gA (xX (Nat.le_max_left n hr) _ _ _ _ h)) (λ_=> ?_) (aCE (Nat.le_max_right n hr) I),q⟩;simp only[gA];exact E
theorem Wn{f:Nat}{bY:List Operand}:hI P base (⟨aS,d,none,.dY f bY,a9⟩::b4) A m aW=gp P f (bY.map (Z A)) m (wi P base d a9 b4 A m aW):=O0 rfl
theorem aiz{x:Operand}{bY:List Operand}{f:Nat}{first mA:Array Value}(h:Z A x= .func (.func f) first mA):
    hI P base (⟨aS,d,none,.iN x bY,a9⟩::b4) A m aW=gp P f (first.toList++bY.map (Z A)++mA.toList) m (wi P base d a9 b4 A m aW):=O0 (by simp only[ag.fj,h])
theorem Ft{r:Value}{aq:W}:wi P base d [] b4 A m aW r aq=hI P base b4 (dc A d r) aq aW:=by simp[wi,qZ]
theorem akr:pV A []=true:=rfl
end wp
theorem dB.empty{aV:Nat}{w:World}:dB aV (λ_=>none) ⟨0,λ_=>none,λ_=>none⟩ w where
  mf:= λ_ _ h=>by cases h
  mi:= λ_ _ h=>by cases h
  mn:= λb x h=>by unfold W.X at h;split at h<;>cases h
  rA:= λb x cd ic l dh h=>by unfold W.X at h;split at h<;>cases h
  ua:= λ_ _ h=>by cases h
  maps:= λb bc h=>by simp only[W.eS,W.X,xN,if_false]at h;cases h
end Go.DI
