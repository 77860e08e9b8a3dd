/-
  A part of the proof of the statement, in texts that tools of ours (wip/shrink.py, irpack.py, relax.py, minify.py, join.py, lay.py) have shortened.
-/
import Derived.LoopN
import Derived.StillTail
import Derived.Test.YtmmkkggfmigppaaGreatZac
set_option linter.all false
set_option maxRecDepth 8000
set_option maxHeartbeats 16000000
namespace Go.DI
open Go Go.RowKit
section
variable {P:Program} {z dh:aP} {m dE:W} {aV:Nat} {bF:Callee} {base:Nat}
theorem Ah{l:List Nat}{d:Nat}(h:q2 l (some d)=true):d∉l:=by simpa[q2]using h
theorem vY{d:Option Nat}{v:Value}{t:Nat}(h:d≠some t):c1 z d v t=z t:=by
  cases d with
  |none=>rfl
  | some d=>have:t≠d:= λe=>h (by rw[e]);simp[c1,pE,this]
theorem x1{d e:Option Nat}{bp v:Value}(h: ∀x,d=some x->e≠some x):c1 (c1 z d bp) e v=c1 (c1 z e v) d bp:=by
  cases d with
  |none=>rfl
  | some d=>
    cases e with
    |none=>rfl
    | some e=>
      have cZ:d≠e:= λx=>h d rfl (by rw[x]);funext t;simp only[c1,pE];by_cases D:t=e
      · subst D;simp[Ne.symm cZ]
      · simp[D]
theorem yf{l:List Operand}{x:Operand}{t:Nat}(G:x∈l)(bt:x= .tmp t):t∈De l:=by subst bt;exact tw.2 ⟨_,G,rfl⟩
theorem v5{o:bn}{d:Option Nat}{v:Value}(h:q2 o.uA d=true): ∀x∈o.k.gN,X (c1 z d v) x=X z x:=by intro x G;refine wY λt bt=>vY λaA=> ?_;subst aA;exact Ah h (mb _ (yf G bt))
theorem q6{o:bn}{d:Option Nat}{v:Value}(h:q2 o.uA d=true):eH (c1 z d v) o.g=eH z o.g:=by
  cases aM:o.g with
  |none=>rfl
  | some nK=>obtain⟨t,b⟩:=nK;simp only[eH];rw[vY λaA=> ?_];subst aA;exact Ah h (lz _ (by simp[aM]))
theorem SC{k:ad}: ∀x∈k.la++k.ma,x∈k.gN:=by
  intro x G;cases k<;>simp[ad.la,ad.ma]at G<;>simp[ad.gN,G]
  · rcases G with h|h|h<;>simp[h]
theorem TH{o:bn}(aZ:eH z o.g=true)(ar:o.k.e8 z m=none){s:aP×W}(h:g4 bF base o z m=some s):
    o.k.ok z m=true/\s=(c1 z o.d (o.k.val (base+o.aN) z m),o.k.gu (base+o.aN) z m):=by
  unfold g4 at h;rw[if_pos aZ,ar]at h;simp only at h;split at h
  · rename_i ao;cases h;exact⟨ao,rfl⟩
  · cases h
theorem aeZ{o:bn}(aZ:eH z o.g=true)(ar:o.k.e8 z m=none)(ao:o.k.ok z m=true):
    g4 bF base o z m=some (c1 z o.d (o.k.val (base+o.aN) z m),o.k.gu (base+o.aN) z m):=by
  unfold g4;rw[if_pos aZ,ar];simp only[ao,if_true]
theorem Dh{o:bn}(y8:o.k.ud=false)(aZ:eH z o.g=true)(ar:o.k.e8 z m=none){s:aP×W}(h:g4 bF base o z m=some s):
    o.k.ok z m=true/\s=(c1 z o.d (o.k.val (base+o.aN) z m),hK m (o.k.gg (base+o.aN) z m)):=by
  unfold g4 at h;rw[if_pos aZ,ar]at h;simp only at h;split at h
  · rename_i ao;cases h;exact⟨ao,by rw[<-adm y8]⟩
  · cases h
theorem Di{o:bn}(y8:o.k.ud=false)(aZ:eH z o.g=true)(ar:o.k.e8 z m=none)(ao:o.k.ok z m=true):
    g4 bF base o z m=some (c1 z o.d (o.k.val (base+o.aN) z m),hK m (o.k.gg (base+o.aN) z m)):=by
  unfold g4;rw[if_pos aZ,ar];simp only[ao,if_true,adm y8]
theorem Dg{o:bn}(aZ:eH z o.g=true){f:Nat}{args:List Value}(ar:o.k.e8 z m=some (f,args)){s:aP×W}(h:g4 bF base o z m=some s):
    ∃v an,bF f args m=some (v,an)/\s=(c1 z o.d v,an):=by
  unfold g4 at h;rw[if_pos aZ,ar]at h;simp only at h;split at h
  · rename_i v an a3;cases h;exact⟨v,an,a3,rfl⟩
  · cases h
theorem HX{o:bn}(aZ:eH z o.g=true){f:Nat}{args:List Value}(ar:o.k.e8 z m=some (f,args)){v:Value}{an:W}(h:bF f args m=some (v,an)):
    g4 bF base o z m=some (c1 z o.d v,an):=by
  unfold g4;rw[if_pos aZ,ar];simp only[h]
theorem yh{o:bn}(aZ:eH z o.g=false):g4 bF base o z m=some (c1 z o.d undef,m):=by unfold g4;rw[if_neg (by rw[aZ];simp)]
theorem IY{k:ad}{ki:Nat×List Value}(h:k.e8 z m=some ki):k.jB=true:=by cases k<;>first|rfl|(simp[ad.e8]at h)
theorem qW{k:ad}(h:k.jB=false):k.e8 z m=none:=by cases k<;>first|rfl|(simp[ad.jB]at h)
theorem N7{o:bn}(aZ:eH z o.g=true)(ar:o.k.e8 z m=none){s:aP×W}(h:g4 bF base o z m=some s):o.k.jB=false:=
  Mu (TH aZ ar h).1
def Uu(k i:bn)(z:aP)(m an:W):Prop:=
  eH z i.g=true->match i.k.e8 z m with
    |some _=> ∀p∈oJ k i,∀b,N (X z p.1)=some b->an.Y b=m.Y b
    |none=> ∀p∈oJ k i,∀a b,N (X z p.1)=some a->N (X z p.2)=some b->a≠b
theorem I5{o:bn}{d:Option Nat}{v:Value}{an:W}(ay:q2 (o.uA++o.Vo) d=true){z9 G6:W}
    (xg:o.k.jB=true->z9=m/\G6=an) (h:nO o z m an):nO o (c1 z d v) z9 G6:=by
  have D:q2 o.uA d=true:=by
    cases d with
    |none=>rfl
    |some d=>simp[q2]at ay⊢;exact ay.1
  have g1: ∀p∈o.a5,X (c1 z d v) p.1=X z p.1/\X (c1 z d v) p.2=X z p.2:=by
    intro p af;constructor
    · refine wY λt bt=>vY λaA=> ?_;subst aA;exact Ah ay (lz _ (mb _ (yf (hc.2 ⟨p,af,rfl⟩) bt)))
    · refine wY λt bt=>vY λaA=> ?_;subst aA;exact Ah ay (lz _ (lz _ (yf (hc.2 ⟨p,af,rfl⟩) bt)))
  intro aZ;rw[q6 D]at aZ;have:=h aZ;have gi:o.k.e8 (c1 z d v) z9=o.k.e8 z m:=by
    rw[(va (m:=z9) (id:=0) (v5 D)).2.2.2];cases yY:o.k.jB with
    |true=>rw[(xg yY).1]
    |false=>rw[qW yY,qW yY]
  rw[gi];cases ar:o.k.e8 z m with
  | some ki=>rw[ar]at this;simp only at this⊢;obtain⟨rfl,rfl⟩:=xg (IY ar);intro p af b hb;rw[(g1 p af).1]at hb;exact this p af b hb
  | none=>rw[ar]at this;simp only[o9,eD]at this⊢;intro p af;obtain⟨x,y⟩:=p;have:=this (x,y) af;simp only at this⊢;rw[(g1 _ af).1,(g1 _ af).2];exact this
theorem ayC{P:Program}{aV:Nat}(b5:o0 P aV bF){k i:bn}{qE:List Nat}{dh wH:aP}{dE mx:W}(JH:pa k i qE=true)(pZ:k.aN≠i.aN)(Pd:i.k.eU=true->m.Y (base+i.aN)=none)(ee:i.k.eU=true->base+i.aN<m.next)
    (D:g4 bF base k z m=some (dh,dE)) (g1:nO k z m dE) (H:g4 bF base i dh dE=some (wH,mx)) (dn:Uu k i dh dE mx):
    ∃bI bd,g4 bF base i z m=some (bI,bd)/\g4 bF base k bI bd=some (wH,mx)/\nO k bI bd mx/\(i.k.jB=true->eH z i.g=true->m=dE/\bd=mx):=by
  simp only[pa,aX]at JH;obtain⟨⟨⟨⟨⟨p1,tT⟩,sE⟩,mm⟩,JF⟩,qO⟩:=JH
  replace p1:k.k.ud=false:=by simpa using p1
  replace tT:i.k.ud=false:=by simpa using tT
  have tS:q2 k.uA i.d=true:=by
    cases aA:i.d with
    |none=>rfl
    |some d=>rw[aA]at sE;simp[q2]at sE⊢;exact sE.1
  have vn: ∀x,k.d=some x->i.d≠some x:=by intro x G ah;rw[G,ah]at JF;simp at JF
  by_cases oy:eH z k.g=true
  · by_cases pj:eH z i.g=true
    · cases ou:k.k.e8 z m with
      | some ki=>
        -- k Ve;i afb jf aGH
        obtain⟨f,args⟩:=ki;have qR:=IY ou;obtain⟨v,an,aL,aU⟩:=Dg oy ou D;cases aU;have kZ:i.k.jB=false:=by
          by_cases h:i.k.jB=true
          · rw[if_pos h]at qO;simp[qR]at qO
          · simpa using h
        rw[if_neg (by rw[kZ];simp),if_pos qR]at qO;simp only[aX,List.isEmpty_iff]at qO;obtain⟨Ps,PF⟩:=qO;have xj:eH (c1 z k.d v) i.g=true:=(by rw[q6 mm];exact pj);obtain⟨ao,cz⟩:=Dh tT xj (qW kZ) H;cases cz;obtain⟨bN,cI,hq,_⟩:=va (k:=i.k) (m:=dE) (id:=base+i.aN) (v5 (z:=z) (v:=v) mm);obtain⟨gZ,gM,kd⟩:=I9 (k:=i.k) (z:=z) (id:=base+i.aN) (m:=dE) (dE:=m) tT (by rw[Ps];simp);have JM: ∀p∈i.k.gg (base+i.aN) z m,i.k.eU=true/\p.1=base+i.aN:= λp af=>by
          rcases Du (k:=i.k) (id:=base+i.aN) (z:=z) (m:=m) p af with h|⟨x,G,_⟩
          · exact⟨h.1,h.2.1⟩
          · rw[PF]at G;cases G
        -- Ub wo pB new block aHx aME pB dA
        have ajp: ∀(l:List (Nat×Option fm)) (uk gr:W),(∀p∈l,i.k.eU=true/\p.1=base+i.aN)->bF f args uk=some (v,gr)->(l≠[]->base+i.aN<uk.next/\uk.Y (base+i.aN)=none)->
            bF f args (hK uk l)=some (v,hK gr l)/\(l=[]\/ ∃y,hK uk l=uk.a4 (base+i.aN) y/\hK gr l=gr.a4 (base+i.aN) y):=by
          intro l uk gr aC JG ai8;have xg: ∀(l:List (Nat×Option fm)) (x:Option fm),(∀p∈l,p.1=base+i.aN)-> ∃y,∀cr:W,hK (cr.a4 (base+i.aN) x) l=cr.a4 (base+i.aN) y:=by
            intro l;induction l with
            |nil=>intro x _;exact⟨x,λ_=>rfl⟩
            | cons p l cn=>
              intro x af;obtain⟨y,ah⟩:=cn p.2 (λq bf=>af q (by simp[bf]));refine⟨y,λcr=> ?_⟩;have e:p.1=base+i.aN:=af p (by simp);have:(cr.a4 (base+i.aN) x).a4 p.1 p.2=cr.a4 (base+i.aN) p.2:=by rw[e];simp only[W.a4,W.mk.injEq,true_and,and_true];funext j;by_cases bx:j=base+i.aN<;>simp[bx]
              show hK ((cr.a4 (base+i.aN) x).a4 p.1 p.2) l=_;rw[this,ah]
          cases l with
          |nil=>exact⟨JG,.inl rfl⟩
          | cons p l=>obtain⟨y,ah⟩:=xg l p.2 (λq bf=>(aC q (by simp[bf])).2);have e:p.1=base+i.aN:=(aC p (by simp)).2;have ahG:hK uk (p::l)=uk.a4 (base+i.aN) y:=(by show hK (uk.a4 p.1 p.2) l=_;rw[e,ah]);have ahH:hK gr (p::l)=gr.a4 (base+i.aN) y:=(by show hK (gr.a4 p.1 p.2) l=_;rw[e,ah]);rw[ahG,ahH];obtain⟨br,cR⟩:=ai8 (by simp);exact⟨(b5 _ _ _ _ _ JG).2.2.2.1 _ y br cR,.inr ⟨y,rfl,rfl⟩⟩
        obtain⟨fS,gV⟩:=ajp (i.k.gg (base+i.aN) z m) m dE JM aL (λcZ=>by obtain⟨p,af⟩:=List.exists_mem_of_ne_nil _ cZ;have:=(JM p af).1;exact⟨ee this,Pd this⟩);have Wr:k.k.e8 z (hK m (i.k.gg (base+i.aN) z m))=some (f,args):=by
          rcases gV with h|⟨y,ah,_⟩
          · rw[h];exact ou
          · rw[ah];by_cases fi:i.k.eU=true
            · exact NS.IX ⟨rfl,ee fi,Pd fi⟩ ou
            · have:i.k.gg (base+i.aN) z m=[]:=by
                cases aC:i.k.gg (base+i.aN) z m with
                |nil=>rfl
                |cons p l=>exact absurd (JM p (by rw[aC];simp)).1 fi
              rw[this]at ah;rw[<-ah];exact ou
        refine⟨_,_,Di tT pj (qW kZ) (by rw[<-gZ,<-bN];exact ao),?_,?_,λh=>by rw[kZ]at h;cases h⟩
        · have aiI:k.k.e8 (c1 z i.d (i.k.val (base+i.aN) z m)) (hK m (i.k.gg (base+i.aN) z m))=some (f,args):=(by rw[(va (m:=hK m (i.k.gg (base+i.aN) z m)) (id:=0) (v5 tS)).2.2.2];exact Wr);rw[cI,hq,gM,kd];have:=HX (bF:=bF) (base:=base) (m:=hK m (i.k.gg (base+i.aN) z m)) (by rw[q6 tS];exact oy) aiI fS;rw[this,x1 vn]
        · rw[hq,kd];refine I5 sE (λ_=>⟨rfl,rfl⟩) (λaZ=> ?_);have c5:=g1 aZ;rw[ou]at c5;rw[Wr];simp only at c5⊢;rcases gV with h|⟨y,ah,E5⟩
          · rw[h];exact c5
          · rw[ah,E5];intro q bf b hb;have:=c5 q bf b hb;by_cases ED:b=base+i.aN
            · subst ED;have ax:i.k.gg (base+i.aN) z m=[]\/i.k.eU=true:=by
                cases aC:i.k.gg (base+i.aN) z m with
                |nil=>exact .inl rfl
                |cons p l=>exact .inr (JM p (by rw[aC];simp)).1
              rcases ax with ax|fi
              · rw[ax]at ah E5;rw[<-ah,<-E5];exact this
              · rw[W.mR,W.mR,if_pos rfl,if_pos rfl,if_pos (ee fi),if_pos (oW (ee fi) (b5 _ _ _ _ _ aL).2.1)]
            · rw[W.mR,W.mR,if_neg ED,if_neg ED];exact this
      | none=>
        have qR:=N7 oy ou D;obtain⟨zc,aL⟩:=Dh p1 oy ou D;cases aL;have xj:eH (c1 z k.d (k.k.val (base+k.aN) z m)) i.g=true:=(by rw[q6 mm];exact pj);obtain⟨bN,cI,hq,iH⟩:=va (k:=i.k) (m:=hK m (k.k.gg (base+k.aN) z m)) (id:=base+i.aN) (v5 (z:=z) (v:=k.k.val (base+k.aN) z m) mm);have ot:=dn xj;cases gi:i.k.e8 z (hK m (k.k.gg (base+k.aN) z m))with
        | some ki=>
          -- i Ve;k Ub aG7
          obtain⟨f,args⟩:=ki;have kZ:=IY gi;rw[if_pos kZ]at qO;simp only[aX,uR,List.isEmpty_iff]at qO;obtain⟨⟨⟨_,fi⟩,PF⟩,Pv⟩:=qO;have Xf:k.k.gg (base+k.aN) z m=[]:=by
            cases aC:k.k.gg (base+k.aN) z m with
            |nil=>rfl
            | cons p l=>
              rcases Du (k:=k.k) (id:=base+k.aN) (z:=z) (m:=m) p (by rw[aC];simp)with h|⟨x,G,_⟩
              · rw[fi]at h;cases h.1
              · rw[PF]at G;cases G
          rw[Xf]at H ot gi iH⊢;have xc:hK m []=m:=rfl;rw[xc]at H ot gi iH;rw[iH,gi]at ot;simp only at ot;obtain⟨v,an,aQ,a8⟩:=Dg xj (by rw[iH];exact gi) H;cases a8;refine⟨_,_,HX pj gi aQ,?_,?_,λ_ _=>⟨rfl,rfl⟩⟩
          · obtain⟨gZ,gM,kd⟩:=I9 (k:=k.k) (z:=z) (id:=base+k.aN) (m:=m) (dE:=mx) p1 (λx G b hb=>by
              have af:(x,x)∈oJ k i:=(by simp only[oJ,kZ,if_true];exact hc.2 ⟨x,G,rfl⟩);have ajP:X (c1 z k.d (k.k.val (base+k.aN) z m)) x=X z x:=wY λt bt=>vY λaA=>by have:=eD.1 Pv t (yf G bt);simp[aA]at this
              exact(ot (x,x) af b (by rw[ajP];exact hb)).symm)
            obtain⟨da,dq,hy,kh⟩:=va (k:=k.k) (m:=mx) (id:=base+k.aN) (v5 (z:=z) (d:=i.d) (v:=v) tS);have:=Di (bF:=bF) (base:=base) (m:=mx) (z:=c1 z i.d v) (o:=k) p1 (by rw[q6 tS];exact oy) (qW qR) (by rw[da,<-gZ];exact zc);rw[this,dq,hy,<-gM,<-kd,Xf,x1 vn];rfl
          · exact I5 sE (λh=>by rw[qR]at h;cases h) g1
        | none=>
          -- aGR Ve
          have kZ:=N7 (by rw[<-q6 mm (z:=z)]at pj;exact pj) (by rw[iH];exact gi) H;rw[iH,gi]at ot;simp only at ot;rw[if_neg (by rw[kZ];simp),if_neg (by rw[qR];simp)]at qO;simp only[aX,rp,uR]at qO;obtain⟨fi,Pv⟩:=qO;obtain⟨Pp,cz⟩:=Dh tT xj (qW kZ) H;rw[bN]at Pp;rw[cI,hq]at cz
          -- pB aHp aCX,at aDB aLW
          have PI: ∀x∈k.k.la++k.k.ma,X (c1 z k.d (k.k.val (base+k.aN) z m)) x=X z x:=(by intro x G;refine wY λt bt=>vY λaA=> ?_;have:=eD.1 Pv t (yf G bt);simp[aA]at this);have JW: ∀y∈i.k.la++i.k.ma,X (c1 z k.d (k.k.val (base+k.aN) z m)) y=X z y:= λy ah=>v5 mm y (SC y ah);have JP:oJ k i=((k.k.ma++(if k.k.eU then Jd k.d else[])).flatMap λx=>(i.k.la++i.k.ma).map λy=>(x,y))++k.k.la.flatMap λx=>i.k.ma.map λy=>(x,y):=by simp only[oJ,kZ,qR,jR,if_false]
          -- aGc Ub do not avt afu i afb
          have cV: ∀p∈k.k.gg (base+k.aN) z m,∀y∈i.k.la++i.k.ma,∀b,N (X z y)=some b->p.1≠b:=by
            intro p af y ah b hb;rcases Du (k:=k.k) p af with⟨az,e,O5⟩|⟨x,G,O6⟩
            · rcases fi with fi|fi
              · rw[fi]at az;cases az
              · obtain⟨d,aA⟩:=Io.1 fi.1;have:=ot (.tmp d,y) (by
                  rw[JP];refine mb _ (tx.2 ⟨.tmp d,?_,hc.2 ⟨y,ah,rfl⟩⟩);simp[az,aA,Jd]) (base+k.aN) b (by simp only[X,aA,c1,pE,if_true];exact O5) (by rw[JW y ah];exact hb)
                rw[e];exact this
            · exact ot (x,y) (by rw[JP];exact mb _ (tx.2 ⟨x,mb _ G,hc.2 ⟨y,ah,rfl⟩⟩)) p.1 b (by rw[PI x (lz _ G)];exact O6) (by rw[JW y ah];exact hb)
          obtain⟨gZ,gM,kd⟩:=I9 (k:=i.k) (z:=z) (id:=base+i.aN) (m:=hK m (k.k.gg (base+k.aN) z m)) (dE:=m) tT (λy ah b hb=>ON _ _ _ λp af=>cV p af y (mb _ ah) b hb);rw[gZ]at Pp;rw[gM,kd]at cz;cases cz
          -- aEQ Ub do not avt afu k afb
          have afv: ∀p∈i.k.gg (base+i.aN) z m,∀x∈k.k.la++k.k.ma,∀b,N (X z x)=some b->p.1≠b:=by
            intro p af x G b hb e;rcases Du (k:=i.k) p af with⟨az,aU,O5⟩|⟨y,ah,JE⟩
            · have:=av3 zc x G b hb;rw[<-e,aU,Pd az]at this;cases this
            · rcases kQ.1 G with hi|hi
              · exact ot (x,y) (by rw[JP];exact lz _ (tx.2 ⟨x,hi,hc.2 ⟨y,ah,rfl⟩⟩)) b p.1 (by rw[PI x G];exact hb) (by rw[JW y (lz _ ah)];exact JE) e.symm
              · exact ot (x,y) (by rw[JP];exact mb _ (tx.2 ⟨x,mb _ hi,hc.2 ⟨y,lz _ ah,rfl⟩⟩)) b p.1 (by rw[PI x G];exact hb) (by rw[JW y (lz _ ah)];exact JE) e.symm
          have azp: ∀p∈k.k.gg (base+k.aN) z m,∀q∈i.k.gg (base+i.aN) z m,p.1≠q.1:=by
            intro p af q bf e;rcases Du (k:=i.k) q bf with⟨az,aU,O5⟩|⟨y,ah,JE⟩
            · rcases Du (k:=k.k) p af with⟨_,cz,_⟩|⟨x,G,O6⟩
              · omega
              · exact afv q bf x (lz _ G) p.1 O6 e.symm
            · exact cV p af y (lz _ ah) q.1 JE e
          refine⟨_,_,Di tT pj (qW kZ) Pp,?_,?_,λh=>by rw[kZ]at h;cases h⟩
          · obtain⟨da,dq,hy,kh⟩:=va (k:=k.k) (m:=hK m (i.k.gg (base+i.aN) z m)) (id:=base+k.aN) (v5 (z:=z) (d:=i.d) (v:=i.k.val (base+i.aN) z m) tS);obtain⟨aQ,a8,cN⟩:=I9 (k:=k.k) (z:=z) (id:=base+k.aN) (m:=hK m (i.k.gg (base+i.aN) z m)) (dE:=m) p1 (λx G b hb=>ON _ _ _ λp af=>afv p af x (mb _ G) b hb);have:=Di (bF:=bF) (base:=base) (m:=hK m (i.k.gg (base+i.aN) z m)) (z:=c1 z i.d (i.k.val (base+i.aN) z m)) (o:=k) p1 (by rw[q6 tS];exact oy) (qW qR) (by rw[da,aQ];exact zc);rw[this,dq,hy,a8,cN,x1 vn,UK _ _ m azp]
          · exact I5 sE (λh=>by rw[qR]at h;cases h) g1
    · -- i zQ awc over
      have E2:eH z i.g=false:=(by simpa using pj);have hA: ∃v,dh=c1 z k.d v:=by
        cases ou:k.k.e8 z m with
        |some ki=>obtain⟨v,an,_,e⟩:=Dg oy ou D;cases e;exact⟨v,rfl⟩
        |none=>obtain⟨_,e⟩:=Dh p1 oy ou D;cases e;exact⟨_,rfl⟩
      obtain⟨v,rfl⟩:=hA;rw[yh (by rw[q6 mm];exact E2)]at H;cases H;refine⟨_,_,yh E2,?_,I5 sE (λ_=>⟨rfl,rfl⟩) g1,λ_ h=>absurd h pj⟩;have Xe:eH (c1 z i.d undef) k.g=true:=(by rw[q6 tS];exact oy);obtain⟨da,dq,hy,kh⟩:=va (k:=k.k) (m:=m) (id:=base+k.aN) (v5 (z:=z) (d:=i.d) (v:=undef) tS);cases ou:k.k.e8 z m with
      | some ki=>obtain⟨f,args⟩:=ki;obtain⟨bp,an,aQ,a8⟩:=Dg oy ou D;have aL:=congrArg Prod.fst a8;have aU:=congrArg Prod.snd a8;simp only at aL aU;subst aU;have cz:c1 (c1 z i.d undef) k.d bp=c1 (c1 z k.d bp) i.d undef:=(x1 vn).symm;rw[HX Xe (by rw[kh];exact ou) aQ,cz,<-aL]
      | none=>obtain⟨ao,a8⟩:=Dh p1 oy ou D;have aL:=congrArg Prod.fst a8;have aU:=congrArg Prod.snd a8;simp only at aL aU;subst aU;have cz:c1 (c1 z i.d undef) k.d (k.k.val (base+k.aN) z m)=c1 (c1 z k.d (k.k.val (base+k.aN) z m)) i.d undef:=(x1 vn).symm;rw[Di p1 Xe (by rw[kh];exact ou) (by rw[da];exact ao),dq,hy,cz,<-aL]
  · -- k zQ awc over
    have Xd:eH z k.g=false:=(by simpa using oy);rw[yh Xd]at D;cases D;have rL: ∀v cr,g4 bF base k (c1 z i.d v) cr=some (c1 (c1 z i.d v) k.d undef,cr):= λv cr=>yh (by rw[q6 tS];exact Xd);have O8: ∀v z9 G6,nO k (c1 z i.d v) z9 G6:= λv z9 G6 aZ=>by rw[q6 tS]at aZ;exact absurd aZ oy
    obtain⟨da,dq,hy,kh⟩:=va (k:=i.k) (m:=m) (id:=base+i.aN) (v5 (z:=z) (d:=k.d) (v:=undef) mm);by_cases pj:eH z i.g=true
    · have xj:eH (c1 z k.d undef) i.g=true:=(by rw[q6 mm];exact pj);cases gi:i.k.e8 z m with
      | some ki=>obtain⟨f,args⟩:=ki;obtain⟨bp,an,aQ,a8⟩:=Dg xj (by rw[kh];exact gi) H;cases a8;exact⟨_,_,HX pj gi aQ,by rw[rL,x1 vn],O8 _ _ _,λ_ _=>⟨rfl,rfl⟩⟩
      | none=>obtain⟨ao,a8⟩:=Dh tT xj (by rw[kh];exact gi) H;have kZ:=Mu ao;rw[dq,hy]at a8;cases a8;exact⟨_,_,Di tT pj gi (by rw[<-da];exact ao),by rw[rL,x1 vn],O8 _ _ _,λh=>by rw[kZ]at h;cases h⟩
    · have E2:eH z i.g=false:=(by simpa using pj);rw[yh (by rw[q6 mm];exact E2)]at H;cases H;exact⟨_,_,yh E2,by rw[rL,x1 vn],O8 _ _ _,λ_ h=>absurd h pj⟩
end
def ry(l:List bn):List Nat:=l.filterMap (·.d)
section
variable {P:Program} {aV:Nat} {bF:Callee} {base:Nat} {ops:Array Oper} {cM:Nat}
theorem I8{k i:bn}{b ca:List Nat}(h: ∀t∈ca,t∈b)(ar:pa k i b=true):pa k i ca=true:=by
  have WT: ∀t,(!b.contains t)=true->(!ca.contains t)=true:=by intro t bt;simp at bt⊢;exact λaJ=>bt (h t aJ)
  have gp: ∀l:List Nat,(l.all λt=> !b.contains t&&k.d !=some t)=true->(l.all λt=> !ca.contains t&&k.d !=some t)=true:=by intro l aC;rw[eD]at aC⊢;intro t bt;have:=aC t bt;rw[aX]at this⊢;exact⟨WT t this.1,this.2⟩
  simp only[pa,aX]at ar⊢;refine⟨ar.1,?_⟩;have mm:=ar.2;split at mm
  · rename_i D;rw[if_pos D];simp only[aX]at mm⊢;exact⟨mm.1,gp _ mm.2⟩
  · rename_i D;rw[if_neg D];split at mm
    · rename_i H;rw[if_pos H];exact mm
    · rename_i H;rw[if_neg H];simp only[aX,rp]at mm⊢;refine⟨mm.1.imp id λaq=>⟨aq.1,?_⟩,gp _ mm.2⟩;cases aA:k.d with
      |none=>rfl
      |some d=>rw[aA]at aq;exact WT d aq.2
theorem aeY{o:bn}{z aj:aP}{m an:W}(h:g4 bF base o z m=some (aj,an)){t:Nat}(bt:o.d≠some t):aj t=z t:=by
  unfold g4 at h;split at h
  · split at h
    · split at h
      · cases h;exact vY bt
      · cases h
    · split at h
      · cases h;exact vY bt
      · cases h
  · cases h;exact vY bt
theorem move(b5:o0 P aV bF){i:bn}{post:List bn}{aeI:aP×W}: ∀(bP:List bn) (z:aP) (m:W),ju bF base (bP++i::post) z m=some aeI->
    (∀ef k C,bP=ef++k::C->pa k i (ry C)=true/\ ∀p∈oJ k i,p∈i.a5)->(∀k∈bP,k.aN≠i.aN)->(i.k.eU=true->m.Y (base+i.aN)=none/\base+i.aN<m.next)->
    ∃bI bd tB hG Mm,g4 bF base i z m=some (bI,bd)/\ju bF base (bP++post) bI bd=some aeI/\nO i tB hG Mm/\(∀t,t∉ry bP->tB t=z t)/\(i.k.jB=true->eH z i.g=true->hG=m/\Mm=bd)
  | [],z,m,h,_,_,_=>by obtain⟨bI,bd,D,H,aq⟩:=qg h;exact⟨bI,bd,z,m,bd,D,aq,H,λ_ _=>rfl,λ_ _=>⟨rfl,rfl⟩⟩
  | k::bP,z,m,h,ar,pZ,a3=>by
    obtain⟨dh,dE,D,H,aq⟩:=qg h;have WL:=pZ k (by simp);have EE:=ar [] k bP rfl;obtain⟨wH,mx,tB,hG,Mm,aQ,a8,cN,dP,fF⟩:=move b5 bP dh dE aq (λef eW C e=>ar (k::ef) eW C (by rw[e];rfl)) (λeW qP=>pZ eW (by simp[qP])) (λfi=>⟨Nf b5 D (a3 fi).2 (by omega) (a3 fi).1,oW (a3 fi).2 (Df b5 D)⟩)
    -- afu i uA zQ not aNc by aLU U2 acV
    have W3: ∀t,t∈i.uA->t∉ry bP:=(by intro t bt aA;obtain⟨eW,qP,y3⟩:=tw.1 aA;obtain⟨ef,C,e⟩:=List.append_of_mem qP;have:=(ar (k::ef) eW C (by rw[e];rfl)).1;simp only[pa,aX]at this;rw[y3]at this;exact Ah this.1.1.2 bt);have PE:eH tB i.g=eH dh i.g:=by
      cases aM:i.g with
      |none=>rfl
      |some nK=>obtain⟨t,b⟩:=nK;simp only[eH];rw[dP t (W3 t (lz _ (by simp[aM])))]
    have Pc: ∀x∈i.k.gN,X tB x=X dh x:= λx G=>wY λt bt=>dP t (W3 t (mb _ (yf G bt)));have dn:Uu k i dh dE mx:=by
      intro aZ;have g1:=cN (by rw[PE];exact aZ);have gi:i.k.e8 tB hG=i.k.e8 dh dE:=by
        rw[(va (m:=hG) (id:=0) Pc).2.2.2];cases yY:i.k.jB with
        |true=>rw[(fF yY aZ).1]
        |false=>rw[qW yY,qW yY]
      rw[gi]at g1;have sF:=EE.1;simp only[pa,aX]at sF;obtain⟨_,sF⟩:=sF;cases bf:i.k.e8 dh dE with
      | some ki=>
        have kZ:=IY bf;rw[bf]at g1;simp only at g1⊢;obtain⟨rfl,rfl⟩:=fF kZ aZ;rw[if_pos kZ]at sF;simp only[aX]at sF;intro p af b hb;have kE:=af;simp only[oJ,kZ,if_true]at kE;obtain⟨x,G,rfl⟩:=hc.1 kE;refine g1 _ (EE.2 _ af) b ?_;rw[show X tB x=X dh x from wY λt bt=>dP t (λaA=> ?_)]
        · exact hb
        · have:=eD.1 sF.2 t (yf G bt);simp at this;exact this.1 aA
      | none=>
        rw[bf]at g1;simp only[o9,eD]at g1;simp only;intro p af a b az hb e;by_cases kZ:i.k.jB=true
        · -- NX aHq aLQ aLa dA aCY aDa:acV aEr not run
          have:=N7 aZ bf aQ;rw[kZ]at this;cases this
        rw[if_neg kZ]at sF;by_cases qR:k.k.jB=true
        · simp only[oJ,if_neg kZ,if_pos qR]at af;cases af
        rw[if_neg qR]at sF;simp only[aX,rp,uR]at sF;have kE:=af;simp only[oJ,if_neg kZ,if_neg qR]at kE;have W7: ∀x∈k.k.la++k.k.ma,X tB x=X dh x:= λx G=>wY λt bt=>dP t λaA=>by have:=eD.1 sF.2 t (yf G bt);simp at this;exact this.1 aA
        have pg:X tB p.1=X dh p.1/\X tB p.2=X dh p.2:=by
          rcases kQ.1 kE with aF|aF
          · obtain⟨x,G,br⟩:=tx.1 aF;obtain⟨y,ah,rfl⟩:=hc.1 br;refine⟨?_,Pc y (SC y ah)⟩;rcases kQ.1 G with cR|cR
            · exact W7 x (lz _ cR)
            · split at cR
              · rename_i fi;rcases sF.1 with fs|fs
                · rw[fi]at fs;cases fs
                · cases aA:k.d with
                  |none=>rw[aA]at cR;cases cR
                  | some d=>rw[aA]at cR fs;simp only[Jd,pH]at cR;subst cR;exact dP d (Ah fs.2)
              · cases cR
          · obtain⟨x,G,br⟩:=tx.1 aF;obtain⟨y,ah,rfl⟩:=hc.1 br;exact⟨W7 x (mb _ G),Pc y (SC y (lz _ ah))⟩
        have:=g1 p (EE.2 p af);obtain⟨x,y⟩:=p;simp only at this az hb pg;rw[pg.1,pg.2,az,hb]at this;simp[e]at this
    obtain⟨bI,bd,a7,bD,b4,e0⟩:=ayC b5 EE.1 WL (λfi=>(a3 fi).1) (λfi=>(a3 fi).2) D H aQ dn;refine⟨bI,bd,tB,hG,Mm,a7,v8 bD b4 a8,cN,λt bt=> ?_,λbr cR=> ?_⟩
    · have ajG:t∉ry bP:= λaA=>bt (by
        obtain⟨eW,qP,y3⟩:=tw.1 aA;exact tw.2 ⟨eW,by simp[qP],y3⟩)
      have JT:k.d≠some t:= λaA=>bt (tw.2 ⟨k,by simp,aA⟩);rw[dP t ajG,aeY D JT]
    · have WS:q2 i.uA k.d=true:=by
        have:=EE.1;simp only[pa,aX]at this;exact this.1.1.2
      have PC:eH dh i.g=true:=by
        cases aM:i.g with
        |none=>rfl
        | some nK=>
          obtain⟨t,b⟩:=nK;rw[aM]at cR;simp only[eH]at cR⊢;rw[aeY D (t:=t) λaA=> ?_]
          · exact cR
          · rw[aA]at WS;exact Ah WS (lz _ (by simp[aM]))
      obtain⟨rfl,rfl⟩:=fF br PC;exact⟨(e0 br cR).1.symm,(e0 br cR).2.symm⟩
def oc(g5:List Nat):List bn->Prop
  |[]=>True
  |k::bV=>(∀bP i post,bV=bP++i::post->(g5.getD i.aN 0).testBit k.aN=true\/(pa k i (ry bP)=true/\ ∀p∈oJ k i,p∈i.a5))/\oc g5 bV
theorem oc.qB{g5:List Nat}: ∀(ef:List bn) (k:bn) (C:List bn) (i:bn) (cE:List bn),oc g5 (ef++k::C++i::cE)->(g5.getD i.aN 0).testBit k.aN=true\/(pa k i (ry C)=true/\ ∀p∈oJ k i,p∈i.a5)
  |[],_,C,i,cE,h=>h.1 C i cE rfl
  |_::ef,k,C,i,cE,h=>oc.qB ef k C i cE h.2
theorem oc.ael{g5:List Nat}: ∀(ef:List bn) (x:bn) (C:List bn),oc g5 (ef++x::C)->oc g5 (ef++C)
  |[],_,_,h=>h.2
  | k::ef,x,C,h=>by
    refine⟨λbP i post e=> ?_,oc.ael ef x C h.2⟩;rcases List.append_eq_append_iff.1 e with⟨bQ,aL,aU⟩|⟨bs,aL,aU⟩
    · -- i aGx N0 x
      have:=h.1 (ef++x::bQ) i post (by rw[aU];simp);refine this.imp id λaJ=>⟨I8 (λt bt=> ?_) aJ.1,aJ.2⟩;rw[aL]at bt;obtain⟨eW,qP,y3⟩:=tw.1 bt;refine tw.2 ⟨eW,?_,y3⟩;rcases kQ.1 qP with D|D
      · exact mb _ D
      · exact lz _ (by simp[D])
    · cases bs with
      | nil=>simp only[AW]at aL;simp only[uT]at aU;have:=h.1 (ef++[x]) i post (by rw[<-aU];simp);refine this.imp id λaJ=>⟨I8 (λt bt=> ?_) aJ.1,aJ.2⟩;rw[<-aL]at bt;obtain⟨eW,qP,y3⟩:=tw.1 bt;exact tw.2 ⟨eW,mb _ qP,y3⟩
      | cons b bs=>simp only[yy,tz]at aU;obtain⟨rfl,aU⟩:=aU;exact h.1 bP i (bs++x::C) (by rw[aL];simp)
theorem avq{g5:List Nat}{o:Oper}{b:Nat}(h:(Mk g5 o).testBit b=true): ∃e∈o.after,Region.binds .any e=true/\(e.on=b\/(g5.getD e.on 0).testBit b=true):=by
  unfold Mk at h;have key: ∀(l:List Edge) (s:Nat),(l.foldl (λs e=>if Region.binds .any e then s|||2^e.on|||g5.getD e.on 0 else s) s).testBit b=true->s.testBit b=true\/ ∃e∈l,Region.binds .any e=true/\(e.on=b\/(g5.getD e.on 0).testBit b=true):=by
    intro l;induction l with
    |nil=>intro s h;exact .inl h
    | cons e l cn=>
      intro s h;simp only[wD]at h;rcases cn _ h with D|⟨dY,aiN,H⟩
      · split at D
        · rename_i hb;simp only[Nat.testBit_or,rp,Nat.testBit_two_pow,eM]at D;rcases D with(D|D)|D
          · exact .inl D
          · exact .inr ⟨e,by simp,hb,.inl D⟩
          · exact .inr ⟨e,by simp,hb,.inr D⟩
        · exact .inl D
      · exact .inr ⟨dY,by simp[aiN],H⟩
  rcases key _ 0 h with D|⟨e,bh,H⟩
  · simp at D
  · exact⟨e,by simpa using bh,H⟩
theorem R5{hN:Nat->Prop}(Wt: ∀j g9,ops[j]?=some g9->hN j-> ∀e∈g9.after,Region.binds .any e=true->hN e.on):
    ∀ (l:List Oper) (dz:List Nat),(∀j,l[j]?=ops[dz.length+j]?)->
      (∀j,j<dz.length-> ∀g9,ops[j]?=some g9->(∀e∈g9.after,Region.binds .any e=true->hN e.on)-> ∀b,(dz.getD j 0).testBit b=true->hN b)->
      ∀j g9,ops[j]?=some g9->(∀e∈g9.after,Region.binds .any e=true->hN e.on)-> ∀b,((xR l dz).getD j 0).testBit b=true->hN b
  | [],dz,aC,JC,j,g9,bx,aA,b,hb=>by
    simp only[xR]at hb;by_cases h:j<dz.length
    · exact JC j h g9 bx aA b hb
    · rw[oa,rm (by omega)]at hb;simp at hb
  | o::l,dz,aC,JC,j,g9,bx,aA,b,hb=>by
    have aD:ops[dz.length]?=some o:=(by have:=aC 0;simpa using this.symm);refine R5 Wt l (dz++[Mk dz o]) (λi=>by have:=aC (i+1);simp at this⊢;rw[this];congr 1;omega) (λi ai Al Bx Wx ca ft=> ?_) j g9 bx aA b hb;simp only[j7,oX,wE]at ai;by_cases h:i<dz.length
    · rw[oa,tv h,<-oa]at ft;exact JC i h Al Bx Wx ca ft
    · have kD:i=dz.length:=(by omega);subst kD;rw[oa,uP (ev _)]at ft;simp only[Nat.sub_self,List.getElem?_cons_zero,AV]at ft;have:Al=o:=Option.some.inj (Bx.symm.trans aD);subst this;obtain⟨e,bh,ED,H⟩:=avq ft;have WV:=Wx e bh ED;rcases H with rfl|H
      · exact WV
      · by_cases aq:e.on<dz.length
        · have hh: ∃Mt,ops[e.on]?=some Mt:=by
            have M:dz.length<ops.size:=(tu.1 aD).1;exact⟨ops[e.on],yr (by omega)⟩
          obtain⟨Mt,hr⟩:=hh;exact JC e.on aq Mt hr (Wt e.on Mt hr WV) ca H
        · rw[oa,rm (by omega)]at H;simp at H
end
section
variable {P:Program} {aV:Nat} {bF:Callee} {base:Nat} {ops:Array Oper} {cM:Nat}
theorem Md{hN:Array Bool}{i j:Nat}(ai:i<hN.size):(hN.setIfInBounds i true).getD j false=true↔(j=i\/hN.getD j false=true):=by
  by_cases h:i=j
  · subst h;simp[ai]
  · rw[getD_set_ne false h];constructor
    · exact .inr
    · rintro(bK|bK)
      · exact absurd bK.symm h
      · exact bK
theorem UJ(b5:o0 P aV bF){Q:Exit->Act->World->Prop}{af0:aP}{adp:W}{NZ:Nat}: ∀(jZ:Nat) (L:List bn) (hN:Array Bool) (z:aP) (m:W) (a:Act) (w:World) (ag:ez),
    L.length=jZ->hN.size=ops.size->(∀j,j<ops.size->(hN.getD j false=true↔ ∀b9∈L,b9.aN≠j))->
    (∀j g9,ops[j]?=some g9->hN.getD j false=true-> ∀e∈g9.after,Region.binds .any e=true->hN.getD e.on false=true)->
    (∀b9∈L,∃o,uX P ops cM b9 o)->(L.map (·.aN)).Nodup->oc (xR ops.toList []) L->
    (∀bP b9 post,L=bP++b9::post-> ∀g9,ops[b9.aN]?=some g9-> ∀e∈g9.after,Region.binds .any e=true->hN.getD e.on false=true\/ ∃k∈bP,k.aN=e.on)->
    gw ag cM z a->dr aV ag m w->aV<=w.heap.size->NZ<=base->(∀b9∈L,b9.k.eU=true->base+b9.aN<m.next/\m.Y (base+b9.aN)=none/\ag (base+b9.aN)=none)->base<=m.next->
    ju bF base L z m=some (af0,adp)->
    (∀dD cT cA,fW ag cA->(∀b,b<NZ->cA b=ag b)->gw cA cM af0 dD->dr aV cA adp cT->Below aV w cT->Q .normal dD cT)->wpAny P .any ops Q jZ hN a w
  | 0,L,hN,z,m,a,w,ag,eS,iL,y7,_,_,_,_,_,M,aw,_,_,_,_,hs,bY=>by have cS:L=[]:=pF.1 eS;subst cS;simp only[ju,lL,wF]at hs;obtain⟨rfl,rfl⟩:=hs;refine⟨?_,bY a w ag (fW.refl ag) (λ_ _=>rfl) M aw (Below.refl _ _)⟩;apply List.eq_nil_iff_forall_not_mem.2;intro i ai;obtain⟨D,g9,H,_⟩:=mem_ready.1 ai;have ee:i<ops.size:=(tu.1 H).1;have:=(y7 i ee).2 (by simp);rw[getD_both D]at this;cases this
  | jZ+1,L,hN,z,m,a,w,ag,eS,iL,y7,Ws,vm,hW,WE,JU,M,aw,cC,kC,eg,aEw,hs,bY=>by
    refine⟨λPs=> ?_,λi ai=> ?_⟩
    · -- pB first dM aHt zQ ready
      exfalso;cases L with
      |nil=>simp at eS
      | cons b9 L=>
        obtain⟨o,aD⟩:=vm b9 (by simp);have ee:b9.aN<ops.size:=(tu.1 aD.1).1;have mn:b9.aN∈Region.ready .any ops hN:=by
          refine mem_ready.2 ⟨?_,o,aD.1,λe bh hb=> ?_⟩
          · have:hN.getD b9.aN false≠true:= λh=>(y7 b9.aN ee).1 h b9 (by simp) rfl;exact getD_in (by rw[iL];exact ee) (by simpa using this)
          · rcases JU [] b9 L rfl o aD.1 e bh hb with h|⟨k,aa,_⟩
            · exact h
            · cases aa
        rw[Ps]at mn;cases mn
    · obtain⟨ajH,Al,Bx,Ww⟩:=mem_ready.1 ai;have ee:i<ops.size:=(tu.1 Bx).1;have ajI:hN.getD i false=false:=getD_both ajH;have rK: ∃b9∈L,b9.aN=i:=by
        by_cases h: ∃b9∈L,b9.aN=i
        · exact h
        · exfalso;have:=(y7 i ee).2 (λb9 kk e=>h ⟨b9,kk,e⟩);rw[ajI]at this;cases this
      obtain⟨b9,kk,rfl⟩:=rK;obtain⟨bP,post,rfl⟩:=List.append_of_mem kk;simp only[uS,mL,yx,List.nodup_cons]at hW;have Bz: ∀k∈bP,k.aN≠b9.aN:= λk aa e=>hW.2.2 k.aN (hc.2 ⟨k,aa,rfl⟩) b9.aN (by simp) e;have JH: ∀ef k C,bP=ef++k::C->pa k b9 (ry C)=true/\ ∀p∈oJ k b9,p∈b9.a5:=by
        intro ef k C e;subst e;rcases oc.qB ef k C b9 post (by simpa using WE)with h|h
        · exfalso;have aa:hN.getD k.aN false=true:=R5 (ops:=ops) (hN:= λj=>hN.getD j false=true) Ws ops.toList [] (by simp) (by simp) b9.aN Al Bx Ww k.aN h;obtain⟨av2,EU⟩:=vm k (by simp);exact(y7 k.aN (tu.1 EU.1).1).1 aa k (by simp) rfl
        · exact h
      have JK:=eg b9 (by simp);obtain⟨bI,bd,_,_,_,D,H,_,_,_⟩:=move b5 bP z m hs JH Bz (λfi=>⟨(JK fi).2.1,(JK fi).1⟩);obtain⟨o,aD⟩:=vm b9 (by simp);have jL:=Df b5 D;refine ae0 b5 aD M aw cC (λfi=>(JK fi).1) (λfi=>(JK fi).2.2) D λdD cT cA a7 bD b4 e0 fT=> ?_;refine UJ b5 jZ (bP++post) (hN.setIfInBounds b9.aN true) bI bd dD cT cA (by simp at eS⊢;omega) (by simp[iL]) (λj bx=> ?_) (λj g9 rO bx e bh hb=> ?_) (λk aa=>vm k (by
          rcases kQ.1 aa with h|h
          · exact mb _ h
          · exact lz _ (by simp[h]))) ?_ (oc.ael bP b9 post WE) (λawo k ad3 e g9 rO rz bh hb=> ?_) b4 e0 (jv cC fT.size) kC (λk aa fi=> ?_) (by omega) H (λbJ e2 lO fS gV h0 iR uu=>bY bJ e2 lO (a7.trans fS) (λb hb=>(gV b hb).trans (bD b (by omega) (by omega))) h0 iR (fT.trans uu))
      · rw[Md (by rw[iL];exact ee)];constructor
        · rintro(rfl|h) k aa e
          · rcases kQ.1 aa with h|h
            · exact Bz k h e
            · exact hW.2.1.1 (hc.2 ⟨k,h,e⟩)
          · refine(y7 j bx).1 h k ?_ e;rcases kQ.1 aa with h|h
            · exact mb _ h
            · exact lz _ (by simp[h])
        · intro h;by_cases e:j=b9.aN
          · exact .inl e
          · refine .inr ((y7 j bx).2 λk aa dY=> ?_);rcases kQ.1 aa with bK|bK
            · exact h k (mb _ bK) dY
            · rcases g6.1 bK with bK|bK
              · subst bK;exact e dY.symm
              · exact h k (lz _ bK) dY
      · rw[Md (by rw[iL];exact ee)]at bx⊢;rcases bx with rfl|bx
        · have:g9=Al:=Option.some.inj (rO.symm.trans Bx);subst this;exact .inr (Ww e bh hb)
        · exact .inr (Ws j g9 rO bx e bh hb)
      · simp only[uS,yx];exact⟨hW.1,hW.2.1.2,λx G y ah=>hW.2.2 x G y (by simp[ah])⟩
      · rw[Md (by rw[iL];exact ee)];rcases List.append_eq_append_iff.1 e with⟨bQ,aL,aU⟩|⟨bs,aL,aU⟩
        · rcases JU (bP++b9::bQ) k ad3 (by rw[aU];simp) g9 rO rz bh hb with h|⟨eW,qP,cz⟩
          · exact .inl (.inr h)
          · rcases kQ.1 qP with h|h
            · exact .inr ⟨eW,by rw[aL];exact mb _ h,cz⟩
            · rcases g6.1 h with h|h
              · subst h;exact .inl (.inl cz.symm)
              · exact .inr ⟨eW,by rw[aL];exact lz _ h,cz⟩
        · cases bs with
          | nil=>
            simp only[AW]at aL;simp only[uT]at aU;rcases JU (bP++[b9]) k ad3 (by rw[<-aU];simp) g9 rO rz bh hb with h|⟨eW,qP,cz⟩
            · exact .inl (.inr h)
            · rcases kQ.1 qP with h|h
              · exact .inr ⟨eW,by rw[<-aL];exact h,cz⟩
              · simp only[pH]at h;subst h;exact .inl (.inl cz.symm)
          | cons b bs=>
            simp only[yy,tz]at aU;obtain⟨rfl,aU⟩:=aU;rcases JU awo k (bs++b9::post) (by rw[aL];simp) g9 rO rz bh hb with h|h
            · exact .inl (.inr h)
            · exact .inr h
      · have rL:k∈bP++b9::post:=by
          rcases kQ.1 aa with h|h
          · exact mb _ h
          · exact lz _ (by simp[h])
        have WL:k.aN≠b9.aN:=by
          rcases kQ.1 aa with h|h
          · exact Bz k h
          · exact λe=>hW.2.1.1 (hc.2 ⟨k,h,e⟩)
        obtain⟨aQ,a8,cN⟩:=eg k rL fi;exact⟨by omega,Nf b5 D aQ (by omega) a8,by rw[bD _ aQ (by omega)];exact cN⟩
theorem U9{aN:Nat}{b9:bn}(h:IV P ops cM aN=some b9):b9.aN=aN/\ ∃o,uX P ops cM b9 o:=by
  unfold IV at h;split at h
  · rename_i o aD;split at h
    · rename_i k g aa aM;split at h
      · rename_i aA;cases h;exact⟨rfl,o,aD,aa,aM,rfl,aA⟩
      · cases h
    · cases h
  · cases h
theorem N3: ∀(GW:List Nat) (L:List bn),Ba P ops cM GW=some L->L.map (·.aN)=GW/\ ∀b9∈L,∃o,uX P ops cM b9 o
  |[],L,h=>by simp[Ba]at h;subst h;simp
  | aN::r,L,h=>by
    simp only[Ba]at h;split at h
    · rename_i b9 bV D H;cases h;obtain⟨e,o,aD⟩:=U9 D;obtain⟨aQ,a8⟩:=N3 r bV H;refine⟨by simp[e,aQ],λk aa=> ?_⟩;rcases g6.1 aa with rfl|aa
      · exact⟨o,aD⟩
      · exact a8 k aa
    · cases h
theorem Vm{g5:List Nat}{i:bn}: ∀(k9:List bn) (qE:List Nat),I3 g5 i k9 qE=true->(∀p∈sr g5 i k9,p∈i.a5)->
    ∀ef k C,k9=ef++k::C->(g5.getD i.aN 0).testBit k.aN=true\/(pa k i (qE++ry ef)=true/\ ∀p∈oJ k i,p∈i.a5)
  |[],_,_,_,ef,k,C,e=>by simp at e
  | x::k9,qE,h,g1,ef,k,C,e=>by
    simp only[I3,aX,rp]at h;cases ef with
    | nil=>
      simp only[uT,tz]at e;obtain⟨rfl,rfl⟩:=e;rcases h.1 with D|D
      · exact .inl D
      · by_cases hb:(g5.getD i.aN 0).testBit x.aN=true
        · exact .inl hb
        · refine .inr ⟨by simpa[ry]using D,λp af=>g1 p ?_⟩;simp only[sr,if_neg hb];exact mb _ af
    | cons a ef=>
      simp only[yy,tz]at e;obtain⟨rfl,rfl⟩:=e;have:=Vm (ef++k::C) (qE++x.d.toList) h.2 (λp af=>g1 p (by simp only[sr];exact lz _ af)) ef k C rfl;refine this.imp id λaJ=>⟨I8 (λt bt=> ?_) aJ.1,aJ.2⟩;simp only[ry,List.filterMap_cons]at bt⊢;cases aA:x.d with
      |none=>rw[aA]at bt;simpa using bt
      |some d=>rw[aA]at bt;simpa using bt
theorem U8{g5:List Nat}: ∀(GW:List Nat) (k9:List bn) (L:List bn),D3 P ops cM g5 GW k9=some L->oc g5 k9.reverse->
    L.map (·.aN)=GW/\(∀b9∈L,∃o,uX P ops cM b9 o)/\oc g5 (k9.reverse++L)/\
    (∀bP b9 post,L=bP++b9::post-> ∀g9,ops[b9.aN]?=some g9-> ∀e∈g9.after,Region.binds .any e=true-> ∃k∈k9.reverse++bP,k.aN=e.on)
  | [],k9,L,h,aM=>by simp[D3]at h;subst h;exact⟨rfl,by simp,by simpa using aM,by simp⟩
  | aN::r,k9,L,h,aM=>by
    simp only[D3]at h;split at h
    · rename_i ij D;split at h
      · rename_i g1;split at h
        · rename_i bV ajz;cases h;simp only[aX]at g1;obtain⟨aL,op,bu⟩:=U9 D;have ar:uX P ops cM ⟨ij.aN,ij.d,ij.g,ij.k,sr g5 ij k9⟩ op:=bu;have ow:oc g5 (bn.mk ij.aN ij.d ij.g ij.k (sr g5 ij k9)::k9).reverse:=by
            rw[List.reverse_cons];have l0:=Vm k9 [] g1.1 (λp af=>by
              have: ∀(l:List bn),sr g5 ⟨ij.aN,ij.d,ij.g,ij.k,sr g5 ij k9⟩ l=sr g5 ij l:=by
                intro l;induction l with
                |nil=>rfl
                |cons x l cn=>simp only[sr];rw[cn];rfl
              rw[this]at af;exact af)
            -- pB new m6 N0 all
            have key: ∀(l:List bn) (x:bn),oc g5 l->(∀ef k C,l=ef++k::C->(g5.getD x.aN 0).testBit k.aN=true\/(pa k x (ry C)=true/\ ∀p∈oJ k x,p∈x.a5))->oc g5 (l++[x]):=by
              intro l x;induction l with
              |nil=>intro _ _;exact⟨by intro bP i post e;simp at e,trivial⟩
              | cons k l cn=>
                intro aC G;refine⟨λbP i post e=> ?_,cn aC.2 λef eW C e=>G (k::ef) eW C (by rw[e];rfl)⟩;rcases List.append_eq_append_iff.1 e with⟨bQ,aL,aU⟩|⟨bs,aL,aU⟩
                · cases bQ with
                  | nil=>simp only[uT,tz]at aU;obtain⟨rfl,_⟩:=aU;simp only[AW]at aL;subst aL;exact G [] k bP rfl
                  |cons y bQ=>simp at aU
                · cases bs with
                  | nil=>simp only[uT,tz]at aU;obtain⟨rfl,_⟩:=aU;simp only[AW]at aL;subst aL;exact G [] k l rfl
                  | cons y bs=>simp only[yy,tz]at aU;obtain⟨rfl,aU⟩:=aU;exact aC.1 bP i bs aL
            refine key _ _ aM λef k C e=> ?_;have dY:k9=C.reverse++k::ef.reverse:=by have:=congrArg List.reverse e;simpa using this
            refine(l0 C.reverse k ef.reverse dY).imp id λaJ=>⟨I8 (λt bt=> ?_) aJ.1,aJ.2⟩;simp only[ry,uT,tw,List.mem_reverse]at bt⊢;exact bt
          obtain⟨aQ,a8,cN,dP⟩:=U8 r _ bV ajz ow;refine⟨by simp[aL,aQ],λk aa=> ?_,by simpa using cN,λbP b9 post e g9 rO rz bh hb=> ?_⟩
          · rcases g6.1 aa with rfl|aa
            · exact⟨op,ar⟩
            · exact a8 k aa
          · cases bP with
            | nil=>
              simp only[uT,tz]at e;obtain⟨rfl,_⟩:=e;have br:=g1.2;simp only[aL]at rO;simp only[afa,rO]at br;simp only[eD,rp,uR,List.any_eq_true,beq_iff_eq]at br;rcases br rz (by simpa using bh)with cR|⟨k,aa,cR⟩
              · rw[hb]at cR;cases cR
              · exact⟨k,by simpa using aa,cR⟩
            | cons x bP=>simp only[yy,tz]at e;obtain⟨rfl,e⟩:=e;obtain⟨k,aa,cR⟩:=dP bP b9 post e g9 rO rz bh hb;exact⟨k,by simpa using aa,cR⟩
        · cases h
      · cases h
    · cases h
end
def dy.wo:dy->Exit
  | .et=> .normal
  | .ba id=> .exit id
  | .aG=> .ret
section
variable {P:Program} {aV:Nat} {bF:Callee} {cM n:Nat}
theorem adN: ∀(l:List Nat),uq l=true->l.Nodup
  |[],_=>List.nodup_nil
  | x::l,h=>by simp only[uq,aX,uR,List.contains_eq_mem,decide_eq_false_iff_not]at h;exact List.nodup_cons.2 ⟨h.1,adN l h.2⟩
theorem awg{l:List Nat}(h:Su n l=true):l.Nodup/\(∀i,i∈l↔i<n)/\l.length=n:=by simp only[Su,aX,eM,eD,ob,List.contains_iff_mem]at h;obtain⟨⟨⟨D,H⟩,aq⟩,aF⟩:=h;exact⟨adN l H,λi=>⟨λai=>aq i ai,λai=>aF i ai⟩,D⟩
theorem aih{m:W}{b:Nat}(h:m.next<=b):m.Y b=none:=by unfold W.Y;rw[if_neg (by omega)]
theorem Hr(L:List bn)(m:W):m.next<=(gQ L m).next/\((∃o∈L,o.k.eU=true)->(gQ L m).next=m.next+L.length):=by
  unfold gQ;split
  · exact⟨by rw[W.sn];omega,λ_=>rfl⟩
  · rename_i h;refine⟨ev _,λ⟨o,aD,H⟩=>absurd (List.any_eq_true.2 ⟨o,aD,H⟩) h⟩
theorem aej(L:List bn)(m:W)(b:Nat):(gQ L m).Y b=m.Y b:=by
  unfold gQ;split
  · exact W.e9 m _ b
  · rfl
theorem dr.gQ{m:W}{w:World}{ag:ez}(h:dr aV ag m w)(L:List bn):dr aV ag (Go.DI.gQ L m) w:=by
  unfold Go.DI.gQ;split
  · exact h.du _
  · exact h
theorem Vj{ops:Array Oper}{Q:Exit->Act->World->Prop}(bt:ae4 ops=true)(w9:Vi (xR ops.toList []) ops.size=true): ∀(jZ k:Nat) (hN:Array Bool) (a:Act) (w:World),k+jZ=ops.size->hN.size=ops.size->
    (∀j,j<ops.size->(hN.getD j false=true↔j<k))->wpOps P ops Q (List.range' k jZ) a w->wpAny P .any ops Q jZ hN a w
  | 0,k,hN,a,w,aa,iL,aC,h=>by refine⟨?_,h⟩;apply List.eq_nil_iff_forall_not_mem.2;intro i ai;obtain⟨D,g9,H,_⟩:=mem_ready.1 ai;have ee:i<ops.size:=(tu.1 H).1;have:=(aC i ee).2 (by omega);rw[getD_both D]at this;cases this
  | jZ+1,k,hN,a,w,aa,iL,aC,h=>by
    have EM:k<ops.size:=(by omega);have TI: ∀j g9,ops[j]?=some g9-> ∀e∈g9.after,Region.binds .any e=true->e.on<j:=by
      intro j g9 bx e bh hb;have ee:j<ops.size:=(tu.1 bx).1;have:=eD.1 bt j (ob.2 ee);simp only[bx,eD,rp,uR,eM]at this;rcases this e (by simpa using bh)with h|h
      · rw[hb]at h;cases h
      · exact h
    have b5: ∀j g9,ops[j]?=some g9->hN.getD j false=true-> ∀e∈g9.after,Region.binds .any e=true->hN.getD e.on false=true:=(by intro j g9 bx ai1 e bh hb;have ee:j<ops.size:=(tu.1 bx).1;have D:=TI j g9 bx e bh hb;have H:=(aC j ee).1 ai1;exact(aC e.on (by omega)).2 (by omega));rw[List.range'_succ,wpOps_cons]at h;have step: ∀i∈Region.ready .any ops hN,i=k:=by
      intro i ai;obtain⟨D,Al,H,aq⟩:=mem_ready.1 ai;have ee:i<ops.size:=(tu.1 H).1;have ax: ¬i<k:= λai3=>by have:=(aC i ee).2 ai3;rw[getD_both D]at this;cases this
      by_cases e:i=k
      · exact e
      · exfalso;have hb:((xR ops.toList []).getD i 0).testBit k=true:=by
          have:=eD.1 w9 i (ob.2 ee);exact eD.1 this k (ob.2 (by omega))
        have:=R5 (ops:=ops) (hN:= λj=>hN.getD j false=true) b5 ops.toList [] (by simp) (by simp) i Al H aq k hb;have:=(aC k EM).1 this;omega
    refine⟨λay=> ?_,λi ai=> ?_⟩
    · exfalso;obtain⟨o,aD⟩: ∃o,ops[k]?=some o:=⟨ops[k],yr EM⟩;have mn:k∈Region.ready .any ops hN:=by
        refine mem_ready.2 ⟨?_,o,aD,λe bh hb=> ?_⟩
        · have:hN.getD k false≠true:= λh=>by have:=(aC k EM).1 h;omega
          exact getD_in (by rw[iL];exact EM) (by simpa using this)
        · exact(aC e.on (by have:=TI k o aD e bh hb;omega)).2 (TI k o aD e bh hb)
      rw[ay]at mn;cases mn
    · have e:=step i ai;subst e;refine wpOp_mono (λa w h=>Vj bt w9 jZ (i+1) _ a w (by omega) (by simp[iL]) (λj bx=> ?_) h) h;rw[Md (by rw[iL];exact EM),aC j bx];omega
theorem Vv: ∀{L:List bn} {r:List bn×bn×List bn},Ea L=some r->L=r.1++r.2.1::r.2.2/\r.2.1.k.eU=true
  |[],_,h=>by simp[Ea]at h
  | o::L,r,h=>by
    unfold Ea at h;split at h
    · rename_i aa;cases h;exact⟨rfl,by simp[aa,ad.eU]⟩
    · simp only[rl]at h;obtain⟨⟨a,b,c⟩,D,H⟩:=h;obtain⟨aQ,a8⟩:=Vv D;subst H;exact⟨by simp only at aQ⊢;rw[aQ];rfl,a8⟩
theorem auO(mo:P.follows .mixedOrders=true)(b5: ∀aV,o0 P aV bF){id:Nat}{ops:Array Oper}{qG:Bool}{oA:I}(ar:N2 P cM ops qG=some oA){z aj:aP}{m an:W}{e:dy}
    (h:en bF n oA z m=some (e,aj,an)) {a:Act} {w:World} {ag:ez} (M:gw ag cM z a) (aw:dr aV ag m w) (cC:aV<=w.heap.size) {Q:Exit->Act->World->Prop}
    (bY: ∀dD cT cA,fW ag cA->(∀b,b<m.next->cA b=ag b)->gw cA cM aj dD->dr aV cA an cT->Below aV w cT->Q e.wo dD cT):(Code.region id ops qG).wp P Q a w:=by
  have BB: ∀b,m.next<=b->ag b=none:=by
    intro b hb;cases ay:ag b with
    |none=>rfl
    |some l=>have:=aw.ke b l ay;omega
  unfold N2 at ar;split at ar
  · rename_i w9;split at ar
    · rename_i L cS;simp only[rl]at ar;obtain⟨⟨bP,ef,bV⟩,O9,rfl⟩:=ar;obtain⟨D,H⟩:=N3 _ _ cS;obtain⟨aL,fi⟩:=Vv O9;simp only at aL fi;subst aL;have eS:bP.length+(bV.length+1)=ops.size:=(by have:=congrArg List.length D;simpa using this);have hW:((bP++ef::bV).map (·.aN)).Nodup:=(by rw[D];exact List.nodup_range);have pZ: ∀b9∈bP++ef::bV,b9.aN<ops.size:= λb9 kk=>by
        have:b9.aN∈(bP++ef::bV).map (·.aN):=hc.2 ⟨b9,kk,rfl⟩;rw[D,ob]at this;exact this
      rw[uS,mL,yx,List.nodup_cons]at hW;simp only[en]at h;split at h
      · rename_i bI bd W4;split at h
        · rename_i ao;split at h
          · rename_i dh dE W5;cases h;have jL:m.next+ops.size<=bd.next:=by have:=Ht (b5 aV) _ _ _ _ W4;rw[W.sn,eS]at this;exact this
            have xd:(ef.k.gu (m.next+ef.aN) bI bd).next=bd.next:=by
              unfold mw at ao;simp only[aX]at ao;have:=ao.1.2;split at this
              · rename_i aa;rw[aa];simp only[ad.gu];split
                · rfl
                · unfold j3;split<;>rfl
              · cases this
            have y9:bd.next<=dE.next:=Ht (b5 aV) _ _ _ _ W5
            have key: ∀b7,dr aV ag m b7->aV<=b7.heap.size->Below aV w b7->wpOps P ops Q (List.range ops.size) a b7:=by
              intro b7 xc OU kC;rw[<-D,uS,mL];refine Ss (base:=m.next) (b5 aV) bP z _ a b7 ag bI bd (λb9 kk=>H b9 (by simp[kk])) hW.1 M (xc.du _) OU (λb9 kk _=>⟨by rw[W.sn,eS];have:=pZ b9 (by simp[kk]);omega,BB _ (by omega)⟩) W4 λbw cX lN a7 bD b4 e0 fT=> ?_;obtain⟨aHa,vj⟩:=H ef (by simp);have aEg:=pZ ef (by simp);rw[wpOps_cons];refine auP (base:=m.next) vj b4 e0 (jv OU fT.size) (by omega) ?_ ao λbJ e2 lO fS gV h0 iR uu Hk=> ?_
              · rw[bD _ (by rw[W.sn,eS];omega) (λb9 kk e=>hW.2.2 b9.aN (hc.2 ⟨b9,kk,rfl⟩) ef.aN (by simp) (by omega))];exact BB _ (by omega)
              · refine adW (base:=m.next) (b5 e2.heap.size) bV _ (mW bd) bJ e2 lO aj dE (λb9 kk=>H b9 (by simp[kk])) hW.2.1.2 h0 uu (ev _) (λb9 kk _=>⟨?_,?_⟩) W5 λcc mG aAn fC g3 jF m9 v3=> ?_
                · show _<bd.next
                  have:=pZ b9 (by simp[kk]);omega
                · have G:=pZ b9 (by simp[kk]);have cZ:b9.aN≠ef.aN:= λe=>hW.2.1.1 (hc.2 ⟨b9,kk,e⟩);rw[gV _ (by omega),bD _ (by rw[W.sn,eS];omega) (λk aa e=>hW.2.2 k.aN (hc.2 ⟨k,aa,rfl⟩) b9.aN (by simp only[g6,hc];exact .inr ⟨b9,kk,rfl⟩) (by omega))];exact BB _ (by omega)
                · have fJ:aV<=e2.heap.size:=jv OU (jv fT.size Hk.size);refine bY cc mG aAn (a7.trans (fS.trans fC)) (λb hb=> ?_) jF ?_ (kC.trans (fT.trans (Hk.trans (v3.mono fJ))))
                  · rw[g3 b hb (by show b<bd.next;omega),gV b (by omega),bD b (by rw[W.sn];omega) (λ_ _=>by omega)]
                  · have:=auN rfl iR m9 fC (by rw[xd];exact y9) v3
                    rwa [xd]at this
            cases qG
            · exact wp_region (key w aw cC (Below.refl _ _))
            · simp only[Bool.not_true,Bool.false_or,aX]at w9;refine wp_region_any mo ?_;refine Vj w9.2.1 w9.2.2 ops.size 0 _ a _ (by omega) (by simp) (λj bx=>by rw[getD_replicate_false];simp) ?_;rw[<-List.range_eq_range'];exact key _ (aw.afw rfl) cC ⟨rfl,rfl,rfl,ev _,λ_ _=>rfl⟩
          · cases h
        · cases h
      · cases h
    · cases ar
  · cases ar
theorem awJ(mo:P.follows .mixedOrders=true)(b5:o0 P aV bF){id:Nat}{ops:Array Oper}{qG:Bool}{oA:I}(ar:IW P cM ops qG=some oA){z aj:aP}{m an:W}{e:dy}
    (h:en bF n oA z m=some (e,aj,an)) {a:Act} {w:World} {ag:ez} (M:gw ag cM z a) (aw:dr aV ag m w) (cC:aV<=w.heap.size) {Q:Exit->Act->World->Prop}
    (bY: ∀dD cT cA,fW ag cA->(∀b,b<m.next->cA b=ag b)->gw cA cM aj dD->dr aV cA an cT->Below aV w cT->Q e.wo dD cT):(Code.region id ops qG).wp P Q a w:=by
  have BB: ∀b,m.next<=b->ag b=none:=by
    intro b hb;cases ay:ag b with
    |none=>rfl
    |some l=>have:=aw.ke b l ay;omega
  cases qG
  · simp only[IW]at ar;split at ar
    · rename_i L cS;cases ar;obtain⟨D,H⟩:=N3 _ _ cS;simp only[en]at h;split at h
      · rename_i bI bd hs;cases h;have eS:L.length=ops.size:=(by have:=congrArg List.length D;simpa using this);refine wp_region ?_;rw[<-D];refine adW (base:=m.next) b5 L z _ a w ag aj an H (by rw[D];exact List.nodup_range) M (aw.gQ L) cC (λb9 kk fi=> ?_) hs λdD cT cA a7 bD b4 e0 fT=>bY dD cT cA a7 (λb hb=>bD b hb (by have:=(Hr L m).1;omega)) b4 e0 fT;have:b9.aN∈L.map (·.aN):=hc.2 ⟨b9,kk,rfl⟩;rw[D,ob]at this;exact⟨by rw[(Hr L m).2 ⟨b9,kk,fi⟩];omega,BB _ (by omega)⟩
      · cases h
    · cases ar
  · simp only[IW]at ar;split at ar
    · rename_i ajr;split at ar
      · rename_i L cS;cases ar;obtain⟨fS,gV,h0⟩:=awg ajr;obtain⟨D,H,aq,aF⟩:=U8 _ [] L cS trivial;simp only[List.reverse_nil,uT]at aq aF;simp only[en]at h;split at h
        · rename_i bI bd hs;cases h;have eS:L.length=ops.size:=(by rw[<-h0,<-D];simp);have k0:dr aV ag (gQ L m) {w with drawn:=w.drawn+1}:=(aw.gQ L).afw rfl;refine wp_region_any mo ?_;refine UJ (base:=m.next) (NZ:=m.next) b5 ops.size L _ z _ a _ ag eS (by simp) (λj bx=> ?_) (λj g9 _ aC=>by rw[getD_replicate_false]at aC;cases aC) H (by rw[D];exact fS) aq (λbP b9 post e g9 rO rz bh hb=> .inr (aF bP b9 post e g9 rO rz bh hb)) M k0 cC (ev _) (λb9 kk fi=> ?_) (Hr L m).1 hs λdD cT cA a7 bD b4 e0 fT=>bY dD cT cA a7 bD b4 e0 (Below.trans (a:=w) (b:={w with drawn:=w.drawn+1}) ⟨rfl,rfl,rfl,ev _,λ_ _=>rfl⟩ fT)
          · rw[getD_replicate_false];constructor
            · intro h;cases h
            · intro h;exfalso;have:j∈L.map (·.aN):=(by rw[D,gV];exact bx);obtain⟨b9,kk,e⟩:=hc.1 this;exact h b9 kk e
          · have:b9.aN∈L.map (·.aN):=hc.2 ⟨b9,kk,rfl⟩;rw[D,gV]at this;exact⟨by rw[(Hr L m).2 ⟨b9,kk,fi⟩];omega,by rw[aej];exact aih (by omega),BB _ (by omega)⟩
        · cases h
      · cases ar
    · cases ar
theorem GV{f:aP->W->Option (dy×aP×W)}{j:Nat}{z:aP}{m:W}{r:dy×aP×W}(h:jb f (j+1) z m=some r):
    (∃bI bd,f z m=some (.et,bI,bd)/\jb f j bI bd=some r)\/(f z m=some r/\r.1≠ .et):=by
  simp only[jb]at h;split at h
  · rename_i bI bd D;exact .inl ⟨bI,bd,D,h⟩
  · rename_i D;refine .inr ⟨h,λe=> ?_⟩;obtain⟨fC,g3,jF⟩:=r;simp only at e;subst e;exact D _ _ h
theorem rA(b5:o0 P aV bF): ∀(c:I) (z:aP) (m:W) (e:dy) (aj:aP) (an:W),en bF n c z m=some (e,aj,an)->m.next<=an.next/\ ∀b,b<m.next->m.Y b=none->an.Y b=none
  | .skip,z,m,e,aj,an,h=>by simp[en]at h;obtain⟨_,_,rfl⟩:=h;exact⟨ev _,λ_ _ h=>h⟩
  | .E ops,z,m,e,aj,an,h=>by
    simp only[en]at h;split at h
    · rename_i bI bd hs;cases h;have D:=Ht b5 ops z _ _ hs;have H:=(Hr ops m).1;exact⟨by simp only at D;omega,λb hb aM=>SR b5 hb ops z _ _ H hs (by rw[aej];exact aM)⟩
    · cases h
  | .qa bP o bV,z,m,e,aj,an,h=>by
    simp only[en]at h;split at h
    · rename_i bI bd D;split at h
      · rename_i ao;split at h
        · rename_i dh dE H;cases h;have aQ:=Ht b5 _ _ _ _ D;rw[W.sn]at aQ;have ox:g4 bF m.next o bI bd=some (c1 bI o.d (o.k.val (m.next+o.aN) bI bd),o.k.gu (m.next+o.aN) bI bd):=by
            unfold mw at ao;simp only[aX,yt]at ao;refine aeZ ?_ (qW (Mu ao.2)) ao.2;rw[ao.1.1];rfl
          have a8:=Df b5 ox;rw[W.sn];refine⟨by simp only at aQ;omega,λb hb aM=> ?_⟩;rw[W.e9];exact Nf b5 ox (by simp only at aQ;omega) (by omega) (SR b5 hb bP z _ _ (by rw[W.sn];omega) D (by rw[W.e9];exact aM))
        · cases h
      · cases h
    · cases h
  | .B c d,z,m,e,aj,an,h=>by
    simp only[en]at h;split at h
    · rename_i bI bd D;obtain⟨bw,bJ⟩:=rA b5 c z m _ bI bd D;obtain⟨c8,dX⟩:=rA b5 d bI bd _ _ _ h;exact⟨by omega,λb hb aM=>dX b (by omega) (bJ b hb aM)⟩
    · exact rA b5 c z m _ _ _ h
  | .aR x c d,z,m,e,aj,an,h=>by
    simp only[en]at h;split at h
    · split at h
      · exact rA b5 c z m _ _ _ h
      · exact rA b5 d z m _ _ _ h
    · cases h
  | .block id c,z,m,e,aj,an,h=>by
    simp only[en]at h;split at h
    · rename_i iz bI bd D;have:=rA b5 c z m _ bI bd D;split at h<;>cases h<;>exact this
    · exact rA b5 c z m _ _ _ h
  | .loop c,z,m,e,aj,an,h=>by
    simp only[en]at h;have key: ∀(j:Nat) (z:aP) (m:W),jb (en bF n c) j z m=some (e,aj,an)->m.next<=an.next/\ ∀b,b<m.next->m.Y b=none->an.Y b=none:=by
      intro j;induction j with
      |zero=>intro z m h;simp[jb]at h
      | succ j cn=>
        intro z m h;rcases GV h with⟨bI,bd,D,H⟩|⟨D,_⟩
        · obtain⟨bw,bJ⟩:=rA b5 c z m _ bI bd D;obtain⟨c8,dX⟩:=cn bI bd H;exact⟨by omega,λb hb aM=>dX b (by omega) (bJ b hb aM)⟩
        · exact rA b5 c z m _ _ _ D
    exact key n z m h
  | .ba id,z,m,e,aj,an,h=>by simp[en]at h;obtain⟨_,_,rfl⟩:=h;exact⟨ev _,λ_ _ h=>h⟩
  | .aG,z,m,e,aj,an,h=>by simp[en]at h;obtain⟨_,_,rfl⟩:=h;exact⟨ev _,λ_ _ h=>h⟩
theorem ae9{e:dy}(h:e≠ .et):e.wo≠ .normal:=by cases e<;>simp[dy.wo]at h⊢
theorem ae5{aW:Act->World->Prop}{Q:Exit->Act->World->Prop}{e:Exit}{a:Act}{w:World}(h:e≠ .normal)(bf:Q e a w):Exit.then aW Q e a w:=by cases e<;>first|exact bf|exact absurd rfl h
theorem tJ(mo:P.follows .mixedOrders=true)(b5: ∀aV,o0 P aV bF): ∀(c:Code) (oA:I),pQ P cM c=some oA-> ∀(z:aP) (m:W) (e:dy) (aj:aP) (an:W),en bF n oA z m=some (e,aj,an)->
    ∀(a:Act) (w:World) (ag:ez),gw ag cM z a->dr aV ag m w->aV<=w.heap.size-> ∀(Q:Exit->Act->World->Prop),
    (∀dD cT cA,fW ag cA->(∀b,b<m.next->cA b=ag b)->gw cA cM aj dD->dr aV cA an cT->Below aV w cT->Q e.wo dD cT)->c.wp P Q a w
  | .skip,oA,ar,z,m,e,aj,an,h,a,w,ag,M,aw,cC,Q,bY=>by cases ar;simp[en]at h;obtain⟨rfl,rfl,rfl⟩:=h;exact wp_skip (bY a w ag (fW.refl ag) (λ_ _=>rfl) M aw (Below.refl _ _))
  | .region id ops qG,oA,ar,z,m,e,aj,an,h,a,w,ag,M,aw,cC,Q,bY=>by
    simp only[pQ]at ar;split at ar
    · rename_i c aC;cases ar;exact auO mo b5 aC h M aw cC bY
    · exact awJ mo (b5 aV) ar h M aw cC bY
  | .seq c d,oA,ar,z,m,e,aj,an,h,a,w,ag,M,aw,cC,Q,bY=>by
    simp only[pQ]at ar;split at ar
    · rename_i x y G ah;cases ar;refine wp_seq ?_;simp only[en]at h;split at h
      · rename_i bI bd D;refine tJ mo b5 c x G z m _ bI bd D a w ag M aw cC _ λbw cX lN a7 bD b4 e0 fT=> ?_;have ax:=(rA (b5 aV) x z m _ bI bd D).1;refine tJ mo b5 d y ah bI bd e aj an h bw cX lN b4 e0 (jv cC fT.size) Q λbJ e2 lO fS gV h0 iR uu=> ?_;exact bY bJ e2 lO (a7.trans fS) (λb hb=>(gV b (by omega)).trans (bD b hb)) h0 iR (fT.trans uu)
      · rename_i cZ;refine tJ mo b5 c x G z m _ aj an h a w ag M aw cC _ λbw cX lN a7 bD b4 e0 fT=> ?_;refine ae5 (ae9 λbh=> ?_) (bY bw cX lN a7 bD b4 e0 fT);subst bh;exact cZ _ _ h
    · cases ar
  | .cond x c d,oA,ar,z,m,e,aj,an,h,a,w,ag,M,aw,cC,Q,bY=>by
    simp only[pQ]at ar;split at ar
    · rename_i y J ah bL;split at ar<;>cases ar;rename_i G;simp only[en]at h;split at h
      · rename_i hb;have ay:=M.X G;cases ab:X z x<;>simp[ab,rT]at hb;rename_i t;rw[ab]at ay h;refine wp_cond ay.p5 ?_;simp only[tI]at h;cases t
        · exact tJ mo b5 d J bL z m e aj an h a w ag M aw cC Q bY
        · exact tJ mo b5 c y ah z m e aj an h a w ag M aw cC Q bY
      · cases h
    · cases ar
  | .block id c,oA,ar,z,m,e,aj,an,h,a,w,ag,M,aw,cC,Q,bY=>by
    simp only[pQ]at ar;split at ar
    · rename_i x G;cases ar;refine wp_block ?_;simp only[en]at h;split at h
      · rename_i iz bI bd D;refine tJ mo b5 c x G z m _ bI bd D a w ag M aw cC _ λbw cX lN a7 bD b4 e0 fT=> ?_;show if iz=id then Q .normal bw cX else Q (.exit iz) bw cX
        split at h
        · rename_i bh;cases h;rw[if_pos bh];exact bY bw cX lN a7 bD b4 e0 fT
        · rename_i bh;cases h;rw[if_neg bh];exact bY bw cX lN a7 bD b4 e0 fT
      · rename_i cZ;refine tJ mo b5 c x G z m _ aj an h a w ag M aw cC _ λbw cX lN a7 bD b4 e0 fT=> ?_;have:=bY bw cX lN a7 bD b4 e0 fT;cases e with
        |et=>exact this
        |aG=>exact this
        |ba iz=>exact absurd h (cZ _ _ _)
    · cases ar
  | .loop c,oA,ar,z,m,e,aj,an,h,a,w,ag,M,aw,cC,Q,bY=>by
    simp only[pQ]at ar;split at ar
    · rename_i x G;cases ar;simp only[en]at h;refine wp_loop_rounds n ?_
      have key: ∀(j:Nat) (z:aP) (m:W) (a:Act) (w:World) (ag:ez),jb (en bF n x) j z m=some (e,aj,an)->gw ag cM z a->dr aV ag m w->aV<=w.heap.size->
          (∀dD cT cA,fW ag cA->(∀b,b<m.next->cA b=ag b)->gw cA cM aj dD->dr aV cA an cT->Below aV w cT->Q e.wo dD cT)->Code.rounds P c Q j a w:=by
        intro j;induction j with
        |zero=>intro z m a w ag h;simp[jb]at h
        | succ j cn=>
          intro z m a w ag h M aw cC bY;rw[rounds_succ];rcases GV h with⟨bI,bd,D,H⟩|⟨D,cZ⟩
          · have ax:=(rA (b5 aV) x z m _ bI bd D).1;refine tJ mo b5 c x G z m _ bI bd D a w ag M aw cC _ λbw cX lN a7 bD b4 e0 fT=> ?_;exact cn bI bd bw cX lN H b4 e0 (jv cC fT.size) λbJ e2 lO fS gV h0 iR uu=>bY bJ e2 lO (a7.trans fS) (λb hb=>(gV b (by omega)).trans (bD b hb)) h0 iR (fT.trans uu)
          · refine tJ mo b5 c x G z m _ aj an D a w ag M aw cC _ λbw cX lN a7 bD b4 e0 fT=> ?_;exact ae5 (ae9 cZ) (bY bw cX lN a7 bD b4 e0 fT)
      exact key n z m a w ag h M aw cC bY
    · cases ar
  | .exit id,oA,ar,z,m,e,aj,an,h,a,w,ag,M,aw,cC,Q,bY=>by cases ar;simp[en]at h;obtain⟨rfl,rfl,rfl⟩:=h;exact wp_exit (bY a w ag (fW.refl ag) (λ_ _=>rfl) M aw (Below.refl _ _))
  | .ret,oA,ar,z,m,e,aj,an,h,a,w,ag,M,aw,cC,Q,bY=>by cases ar;simp[en]at h;obtain⟨rfl,rfl,rfl⟩:=h;exact wp_ret (bY a w ag (fW.refl ag) (λ_ _=>rfl) M aw (Below.refl _ _))
  | .rangeFunc _ _ _ _,_,ar,_,_,_,_,_,_,_,_,_,_,_,_,_,_=>by cases ar
  | .scope _,_,ar,_,_,_,_,_,_,_,_,_,_,_,_,_,_=>by cases ar
  | .label _,_,ar,_,_,_,_,_,_,_,_,_,_,_,_,_,_=>by cases ar
  | .goto _,_,ar,_,_,_,_,_,_,_,_,_,_,_,_,_,_=>by cases ar
  | .refuse _,_,ar,_,_,_,_,_,_,_,_,_,_,_,_,_,_=>by cases ar
def CX(a:Act):ResultVar->Sem Value
  | .tmp t=>Pure.pure (a.tmps.getD t undef)
  | .cell x t=>do loadVar t (<-asAddr (a.tmps.getD x undef))
theorem N4: ∀(l:List ResultVar) (cm:List kU),u6 P cM l=some cm-> ∀{z:aP} {m:W} {a:Act} {w:World} {ag:ez},gw ag cM z a->dr aV ag m w->kK m z cm=true->
    ∃ck:List Value,(l.mapM (m:=Sem) (CX a)).run P w= .ok ck w/\cU ag (cm.map (pw m z)) ck
  | [],cm,h,z,m,a,w,ag,M,aw,ao=>by simp[u6]at h;subst h;exact⟨[],by simp,cU.nil ag⟩
  | .tmp t::r,cm,h,z,m,a,w,ag,M,aw,ao=>by
    simp only[u6]at h;split at h
    · rename_i l aC;split at h<;>cases h;simp only[kK,mK,aX]at ao;obtain⟨ck,D,H⟩:=N4 r l aC M aw ao.2;refine⟨a.tmps.getD t undef::ck,?_,cU.cons (M.l8 t) H⟩;have pf:(CX a (.tmp t)).run P w= .ok (a.tmps.getD t undef) w:=rfl;simp only[List.mapM_cons,Sem.run_bind,pf,Result.andThen_ok,D,Sem.run_pure]
    · cases h
  | .cell x t::r,cm,h,z,m,a,w,ag,M,aw,ao=>by
    simp only[u6]at h;split at h
    · rename_i dc n l sD ax aC;split at h<;>cases h;simp only[kK,mK,aX,oN,rp,eM]at ao;obtain⟨ck,D,H⟩:=N4 r l aC M aw ao.2;obtain⟨dV,ds,aL,aU,cz,gR⟩:=R0 aw (M.l8 x) ao.1.1 ao.1.2;refine⟨_::ck,?_,cU.cons gR H⟩;have pf:(CX a (.cell x t)).run P w= .ok (if dc then .agg ds.toArray else ds.headD undef) w:=by
        simp only[CX,Sem.run_bind,aL,asAddr,Sem.run_pure,Result.andThen_ok,SW sD ax ao.1.2 aU cz]
      simp only[List.mapM_cons,Sem.run_bind,pf,Result.andThen_ok,D,Sem.run_pure]
    · cases h
theorem awO{fn:Func}{cm:List kU}(h:u6 P cM fn.results.toList=some cm){z:aP}{m:W}{a:Act}{w:World}{ag:ez}(M:gw ag cM z a)(aw:dr aV ag m w)(ao:kK m z cm=true):
    ∃v,(results fn a.tmps).run P w= .ok v w/\dw ag (lb m z cm) v:=by
  obtain⟨ck,D,H⟩:=N4 _ _ h M aw ao;refine⟨if h:ck.toArray.size=1 then ck.toArray[0]else .tuple ck.toArray,?_,?_⟩
  · unfold results;simp only[Sem.run_bind];rw[Array.mapM_eq_mapM_toList];simp only[Sem.run_map];have a3:(List.mapM (m:=Sem) (CX a) fn.results.toList).run P w= .ok ck w:=D;change (((Sem.run P (List.mapM (m:=Sem) (CX a) fn.results.toList) w).andThen _).andThen _)=_;rw[a3];rfl
  · have eS:=H.1
    match cm,ck,H,eS with
    |[r],[v],H,_=>exact H.2 0 _ _ rfl rfl
    |[],[],H,_=>exact dw.undef ag
    |[_],[],_,aC=>simp at aC
    |[_],_::_::_,_,aC=>simp at aC
    |[],_::_,_,aC=>simp at aC
    |_::_::_,[],_,aC=>simp at aC
    |_::_::_,[_],_,aC=>simp at aC
    | fC::g3::cm,AO::uN::ck,H,_=>simp only[lb,List.size_toArray,oX];rw[dif_neg (by omega)];exact H.tuple
theorem ag2{f:Nat}{u:bS}(h:b2 P f=some u): ∃fn c,P.funcs[f]?=some fn∧fn.body=some c∧(fn.name== "runtime.NumGoroutine")=false∧pQ P fn.ntmps c=some u.body∧u6 P fn.ntmps fn.results.toList=some u.iS∧u.cM=fn.ntmps:=by
  unfold b2 at h;split at h
  · rename_i fn Bu;split at h
    · cases h
    · rename_i jK;split at h
      · rename_i c ar;split at h
        · rename_i b cm hb ay;cases h;exact⟨fn,c,Bu,ar,by simpa using jK,hb,ay,rfl⟩
        · cases h
      · cases h
  · cases h
theorem ajY{ag:ez}{args:List Value}{mN:Array Value}(h:cU ag args mN.toList)(fJ:args.length<=cM):gw ag cM (ja args) {tmps:=mN++Array.replicate (cM-mN.size) undef,defers:=[]}:=by
  have aC:mN.size=args.length:=by have:=h.1;simp at this;exact this.symm
  refine⟨by simp;omega,rfl,λt=> ?_⟩;simp only[ja];rw[oa,Array.getD_eq_getD_getElem?];by_cases bt:t<args.length
  · obtain⟨y,ah,sJ⟩:=h.Y (dx bt);rw[dx bt,Il (by omega)];rw[Dx]at ah;rw[ah];exact sJ
  · rw[rm (by omega)];rw[Array.getElem?_append_right (by omega),Array.getElem?_replicate];split<;>exact dw.undef ag
theorem Vd(mo:P.follows .mixedOrders=true): ∀k aV,o0 P aV (jl P k)
  |0,aV,f,args,m,r,an,h=>by simp[jl]at h
  | k+1,aV,f,args,m,r,an,h=>by
    have cn:=Vd mo k;have WZ: ∀id x,id<m.next->m.Y id=none->jl P (k+1) f args (m.a4 id x)=some (r,an.a4 id x):= λid x D H=>by obtain⟨cj,aQ,a8⟩:=NS.D6 (k+1) x f args m r an h (m.a4 id x) ⟨rfl,D,H⟩;rw[aQ,a8.eq]
    simp only[jl]at h;split at h
    · rename_i u dn;obtain⟨fn,c,D,H,aq,aF,br,cR⟩:=ag2 dn;split at h
      · rename_i fJ
        have Ac: ∀(e:dy) (aj:aP) (bd:W),en (jl P k) k u.body (ja args) m=some (e,aj,bd)->(∀id,e≠ .ba id)->kK bd aj u.iS=true->lb bd aj u.iS=r->bd=an->
            DF P f/\m.next<=an.next/\(∀b,b<m.next->m.Y b=none->an.Y b=none)/\
            (∀id x,id<m.next->m.Y id=none->jl P (k+1) f args (m.a4 id x)=some (r,an.a4 id x))/\
            ∀ ag w (mN:Array Value),cU ag args mN.toList->dr aV ag m w->aV<=w.heap.size->
              Calls P f mN w λe cT=> ∃v cA,e= .returned v/\fW ag cA/\(∀b,b<m.next->cA b=ag b)/\dw cA r v/\dr aV cA an cT/\Below aV w cT:=by
          intro e aj bd hh cZ ao ay k0;subst ay;subst k0;have jK:=rA (cn aV) u.body _ _ _ _ _ hh;refine⟨⟨fn,D,by rw[H];rfl,aq⟩,jK.1,jK.2,WZ,λag w mN az aw cC=> ?_⟩;refine calls_of_wp D H ?_;rw[cR]at fJ;refine tJ mo cn c u.body aF (ja args) m e aj bd hh _ w ag (ajY az fJ) aw cC _ λdD cT cA a7 bD b4 e0 fT=> ?_;obtain⟨v,aQ,a8⟩:=awO br b4 e0 ao
          have WY:dD.defers=[]/\ ∃v,(results fn dD.tmps).run P cT= .ok v cT/\(λ(e:Ending) (cT:World)=> ∃v cA,e= .returned v/\fW ag cA/\(∀b,b<m.next->cA b=ag b)/\dw cA (lb bd aj u.iS) v/\dr aV cA bd cT/\Below aV w cT) (.returned v) cT:=
            ⟨b4.defers,v,aQ,v,cA,rfl,a7,bD,a8,e0,fT⟩
          cases e with
          |et=>exact WY
          |aG=>exact WY
          |ba id=>exact absurd rfl (cZ id)
        split at h
        · cases h
        · rename_i e aj bd cZ hh;split at h
          · rename_i ao;cases h;exact Ac e aj an hh (λid bh=>cZ id bh) ao rfl rfl
          · cases h
        · cases h
      · cases h
    · cases h
end
section cd
variable {bF wU:Callee}
def Ir(bF wU:Callee):Prop:= ∀f a m r,bF f a m=some r->wU f a m=some r
theorem ayz(h:Ir bF wU){base:Nat}{o:bn}{z:aP}{m:W}{r:aP×W}(M:g4 bF base o z m=some r):g4 wU base o z m=some r:=by
  unfold g4 at M⊢;by_cases aZ:eH z o.g=true
  · rw[if_pos aZ]at M⊢;cases ar:o.k.e8 z m with
    |none=>rw[ar]at M;exact M
    | some ki=>
      obtain⟨f,args⟩:=ki;rw[ar]at M;simp only at M⊢;cases a3:bF f args m with
      |none=>rw[a3]at M;cases M
      |some Dr=>rw[a3]at M;rw[h _ _ _ _ a3];exact M
  · rw[if_neg aZ]at M⊢;exact M
theorem Aw(h:Ir bF wU){base:Nat}: ∀{L:List bn} {z:aP} {m:W} {r:aP×W},ju bF base L z m=some r->ju wU base L z m=some r
  |[],_,_,_,M=>M
  | _::_,_,_,_,M=>by obtain⟨bI,bd,D,H,aq⟩:=qg M;exact v8 (ayz h D) H (Aw h aq)
theorem LZ{f g:aP->W->Option (dy×aP×W)}(h: ∀z m r,f z m=some r->g z m=some r): ∀{n gU:Nat} {z:aP} {m:W} {r:dy×aP×W},n<=gU->jb f n z m=some r->jb g gU z m=some r
  |0,_,_,_,_,_,M=>by simp[jb]at M
  |n+1,0,_,_,_,ax,_=>by omega
  | n+1,gU+1,z,m,r,ax,M=>by
    rcases GV M with⟨bI,bd,D,H⟩|⟨D,H⟩
    · simp only[jb,h _ _ _ D];exact LZ h (by omega) H
    · obtain⟨fC,g3,jF⟩:=r;simp only[jb,h _ _ _ D];cases fC with
      |et=>exact absurd rfl H
      |ba id=>rfl
      |aG=>rfl
theorem tL(h:Ir bF wU){n gU:Nat}(ax:n<=gU): ∀{c:I} {z:aP} {m:W} {r:dy×aP×W},en bF n c z m=some r->en wU gU c z m=some r
  | .skip,_,_,_,M=>M
  | .E ops,z,m,r,M=>by
    simp only[en]at M⊢;split at M
    · rename_i ay;rw[Aw h ay];exact M
    · cases M
  | .qa bP o bV,z,m,r,M=>by
    simp only[en]at M⊢;split at M
    · rename_i D;split at M
      · rename_i ao;split at M
        · rename_i H;rw[Aw h D];simp only[ao,if_true,Aw h H];exact M
        · cases M
      · cases M
    · cases M
  | .B a b,z,m,r,M=>by
    simp only[en]at M⊢;split at M
    · rename_i D;rw[tL h ax D];exact tL h ax M
    · rename_i cZ;rw[tL h ax M];obtain⟨fC,g3,jF⟩:=r;cases fC with
      |et=>exact absurd M (cZ _ _)
      |ba id=>rfl
      |aG=>rfl
  | .aR x a b,z,m,r,M=>by
    simp only[en]at M⊢;split at M
    · rename_i D;rw[if_pos D];split at M
      · rename_i H;rw[if_pos H];exact tL h ax M
      · rename_i H;rw[if_neg H];exact tL h ax M
    · cases M
  | .block id c,z,m,r,M=>by
    simp only[en]at M⊢;split at M
    · rename_i D;rw[tL h ax D];exact M
    · rename_i cZ;rw[tL h ax M];obtain⟨fC,g3,jF⟩:=r;cases fC with
      |et=>rfl
      |ba id=>exact absurd M (cZ _ _ _)
      |aG=>rfl
  | .loop c,z,m,r,M=>by simp only[en]at M⊢;exact LZ (λz m r D=>tL h ax D) ax M
  | .ba id,_,_,_,M=>M
  | .aG,_,_,_,M=>M
theorem wP{P:Program}: ∀{n gU:Nat},n<=gU->Ir (jl P n) (jl P gU)
  |0,_,_=> λf a m r h=>by simp[jl]at h
  |n+1,0,ax=>by omega
  | n+1,gU+1,ax=> λf a m r h=>by
    simp only[jl]at h⊢;split at h
    · rename_i u dn;split at h
      · rename_i fJ;rw[if_pos fJ];split at h
        · cases h
        · rename_i e aj an cZ hh;rw[tL (wP (by omega:n<=gU)) (by omega:n<=gU) hh];cases e with
          |et=>exact h
          |aG=>exact h
          |ba id=>exact absurd rfl (cZ id)
        · cases h
      · cases h
    · cases h
end cd
section wp
variable (P:Program)
def fZ(f:Nat)(args:List Value)(m:W)(cg:Value->W->Prop):Prop:= ∃n r an,jl P n f args m=some (r,an)/\cg r an
def hD(c:I)(z:aP)(m:W)(Q:dy->aP->W->Prop):Prop:= ∃n e aj an,en (jl P n) n c z m=some (e,aj,an)/\Q e aj an
def g7(base:Nat)(ops:List bn)(z:aP)(m:W)(aW:aP->W->Prop):Prop:= ∃n aj an,ju (jl P n) base ops z m=some (aj,an)/\aW aj an
def Nk(b:I)(Q:dy->aP->W->Prop)(e:dy)(z:aP)(m:W):Prop:=match e with| .et=>hD P b z m Q|e=>Q e z m
def D0(id:Nat)(Q:dy->aP->W->Prop)(e:dy)(z:aP)(m:W):Prop:=match e with| .ba iz=>if iz=id then Q .et z m else Q (.ba iz) z m|e=>Q e z m
def Mf(c:I)(Q:dy->aP->W->Prop)(e:dy)(z:aP)(m:W):Prop:=match e with| .et=>hD P (.loop c) z m Q|e=>Q e z m
def q7(cm:List kU)(cg:Value->W->Prop)(e:dy)(z:aP)(m:W):Prop:=match e with| .ba _=>False|_=>kK m z cm=true/\cg (lb m z cm) m
def u7(base:Nat)(d:Option Nat)(a5:List (Operand×Operand))(bV:List bn)(z:aP)(m:W)(aW:aP->W->Prop)(r:Value)(an:W):Prop:=p9 z a5 m an/\g7 P base bV (c1 z d r) an aW
variable {P} {z:aP} {m:W} {Q:dy->aP->W->Prop}
theorem TJ{b:I}:Nk P b Q .et z m=hD P b z m Q:=rfl
theorem ayK{b:I}{id:Nat}:Nk P b Q (.ba id) z m=Q (.ba id) z m:=rfl
theorem ayL{b:I}:Nk P b Q .aG z m=Q .aG z m:=rfl
theorem agX{id:Nat}:D0 id Q .et z m=Q .et z m:=rfl
theorem A7{id iz:Nat}:D0 id Q (.ba iz) z m=if iz=id then Q .et z m else Q (.ba iz) z m:=rfl
theorem agY{id:Nat}:D0 id Q .aG z m=Q .aG z m:=rfl
theorem ade{c:I}:Mf P c Q .et z m=hD P (.loop c) z m Q:=rfl
theorem au9{c:I}{id:Nat}:Mf P c Q (.ba id) z m=Q (.ba id) z m:=rfl
theorem ava{c:I}:Mf P c Q .aG z m=Q .aG z m:=rfl
theorem awP{u:List kU}{cg:Value->W->Prop}:q7 u cg .et z m=(kK m z u=true/\cg (lb m z u) m):=rfl
theorem awQ{u:List kU}{cg:Value->W->Prop}:q7 u cg .aG z m=(kK m z u=true/\cg (lb m z u) m):=rfl
theorem Bf{n gU:Nat}(h:n<=gU){c:I}{r:dy×aP×W}(M:en (jl P n) n c z m=some r):en (jl P gU) gU c z m=some r:=tL (wP h) h M
theorem T7:hD P .skip z m Q=Q .et z m:=by refine propext ⟨λ⟨n,e,aj,an,h,q⟩=> ?_,λh=>⟨0,_,_,_,rfl,h⟩⟩;cases h;exact q
theorem T4{id:Nat}:hD P (.ba id) z m Q=Q (.ba id) z m:=by refine propext ⟨λ⟨n,e,aj,an,h,q⟩=> ?_,λh=>⟨0,_,_,_,rfl,h⟩⟩;cases h;exact q
theorem T6:hD P .aG z m Q=Q .aG z m:=by refine propext ⟨λ⟨n,e,aj,an,h,q⟩=> ?_,λh=>⟨0,_,_,_,rfl,h⟩⟩;cases h;exact q
theorem T5{ops:List bn}:hD P (.E ops) z m Q=g7 P m.next ops z (gQ ops m) (Q .et):=by
  refine propext ⟨λ⟨n,e,aj,an,h,q⟩=> ?_,λ⟨n,aj,an,h,q⟩=>⟨n,.et,aj,an,by simp only[en,h],q⟩⟩;simp only[en]at h;split at h
  · rename_i ay;cases h;exact⟨n,_,_,ay,q⟩
  · cases h
def G1(o:bn)(Q:dy->aP->W->Prop)(id:Nat)(bI:aP)(bd:W)(dh:aP)(dE:W):Prop:=Q .et dh ((o.k.gu id bI bd).du (dE.next-bd.next))
theorem afx{bP:List bn}{o:bn}{bV:List bn}:hD P (.qa bP o bV) z m Q=g7 P m.next bP z (m.du (bP.length+(bV.length+1))) λbI bd=>
    mw o bI bd=true/\g7 P m.next bV (c1 bI o.d (o.k.val (m.next+o.aN) bI bd)) (mW bd) (G1 o Q (m.next+o.aN) bI bd):=by
  refine propext ⟨λ⟨n,e,aj,an,h,q⟩=> ?_,λ⟨n,bI,bd,h,ao,hH,dh,dE,H,q⟩=>⟨max n hH,.et,dh,_,by simp only[en,Aw (wP (Nat.le_max_left n hH)) h,ao,if_true,Aw (wP (Nat.le_max_right n hH)) H],q⟩⟩;simp only[en]at h;split at h
  · rename_i bI bd D;split at h
    · rename_i ao;split at h
      · rename_i dh dE H;cases h;exact⟨n,bI,bd,D,ao,n,_,dE,H,q⟩
      · cases h
    · cases h
  · cases h
theorem Nu{a b:I}:hD P (.B a b) z m Q=hD P a z m (Nk P b Q):=by
  refine propext ⟨λ⟨n,e,aj,an,h,q⟩=> ?_,λ⟨n,e,aj,an,h,q⟩=> ?_⟩
  · simp only[en]at h;split at h
    · rename_i bI bd D;exact⟨n,.et,bI,bd,D,n,e,aj,an,h,q⟩
    · rename_i cZ;refine⟨n,e,aj,an,h,?_⟩;cases e with
      |et=>exact absurd h (cZ _ _)
      |ba id=>exact q
      |aG=>exact q
  · cases e with
    | et=>obtain⟨hH,aU,dh,dE,H,bD⟩:=q;refine⟨max n hH,aU,dh,dE,?_,bD⟩;simp only[en,Bf (Nat.le_max_left n hH) h];exact Bf (Nat.le_max_right n hH) H
    |ba id=>exact⟨n,_,aj,an,by simp only[en,h],q⟩
    |aG=>exact⟨n,_,aj,an,by simp only[en,h],q⟩
theorem Nt{c:Operand}{a b:I}:hD P (.aR c a b) z m Q=(rT (X z c)=true/\if tI (X z c)=true then hD P a z m Q else hD P b z m Q):=by
  refine propext ⟨λ⟨n,e,aj,an,h,q⟩=> ?_,λ⟨D,H⟩=> ?_⟩
  · simp only[en]at h;split at h
    · rename_i D;refine⟨D,?_⟩;split at h
      · rename_i H;rw[if_pos H];exact⟨n,e,aj,an,h,q⟩
      · rename_i H;rw[if_neg H];exact⟨n,e,aj,an,h,q⟩
    · cases h
  · split at H
    · rename_i aq;obtain⟨n,e,aj,an,h,q⟩:=H;exact⟨n,e,aj,an,by simp only[en,if_pos D,if_pos aq,h],q⟩
    · rename_i aq;obtain⟨n,e,aj,an,h,q⟩:=H;exact⟨n,e,aj,an,by simp only[en,if_pos D,if_neg aq,h],q⟩
theorem H9{id:Nat}{c:I}:hD P (.block id c) z m Q=hD P c z m (D0 id Q):=by
  refine propext ⟨λ⟨n,e,aj,an,h,q⟩=> ?_,λ⟨n,e,aj,an,h,q⟩=> ?_⟩
  · simp only[en]at h;split at h
    · rename_i iz bI bd D;refine⟨n,.ba iz,bI,bd,D,?_⟩;rw[A7];split at h
      · rename_i bh;cases h;rw[if_pos bh];exact q
      · rename_i bh;cases h;rw[if_neg bh];exact q
    · rename_i cZ;refine⟨n,e,aj,an,h,?_⟩;cases e with
      |et=>exact q
      |ba iz=>exact absurd h (cZ _ _ _)
      |aG=>exact q
  · cases e with
    |et=>exact⟨n,.et,aj,an,by simp only[en,h],q⟩
    |aG=>exact⟨n,.aG,aj,an,by simp only[en,h],q⟩
    | ba iz=>
      rw[A7]at q;split at q
      · rename_i bh;exact⟨n,.et,aj,an,by simp only[en,h,if_pos bh],q⟩
      · rename_i bh;exact⟨n,.ba iz,aj,an,by simp only[en,h,if_neg bh],q⟩
theorem afy{c:I}:hD P (.loop c) z m Q=hD P c z m (Mf P c Q):=by
  refine propext ⟨λ⟨n,e,aj,an,h,q⟩=> ?_,λ⟨n,e,aj,an,h,q⟩=> ?_⟩
  · simp only[en]at h;cases n with
    |zero=>simp[jb]at h
    | succ n=>
      rcases GV h with⟨bI,bd,D,H⟩|⟨D,H⟩
      · refine⟨n+1,.et,bI,bd,D,n+1,e,aj,an,?_,q⟩;simp only[en];exact LZ (λ_ _ _ h=>h) (by omega) H
      · refine⟨n+1,e,aj,an,D,?_⟩;cases e with
        |et=>exact absurd rfl H
        |ba id=>exact q
        |aG=>exact q
  · cases e with
    | et=>obtain⟨hH,aU,dh,dE,H,bD⟩:=q;refine⟨max n hH+1,aU,dh,dE,?_,bD⟩;simp only[en]at H⊢;have D:en (jl P (max n hH+1)) (max n hH+1) c z m=some (.et,aj,an):=Bf (by omega) h;simp only[jb,D];exact LZ (λ_ _ _ h=>Bf (by omega) h) (by omega) H
    |ba id=>exact⟨n+1,_,aj,an,by simp only[en,jb];rw[Bf (by omega:n<=n+1) h],q⟩
    |aG=>exact⟨n+1,_,aj,an,by simp only[en,jb];rw[Bf (by omega:n<=n+1) h],q⟩
theorem r9{f:Nat}{args:List Value}{cg:Value->W->Prop}{u:bS}(dn:b2 P f=some u)(aC:args.length<=u.cM):fZ P f args m cg=hD P u.body (ja args) m (q7 u.iS cg):=by
  refine propext ⟨λ⟨n,r,an,h,q⟩=> ?_,λ⟨n,e,aj,an,h,q⟩=> ?_⟩
  · cases n with
    |zero=>simp[jl]at h
    | succ n=>
      simp only[jl,dn,if_pos aC]at h;split at h
      · cases h
      · rename_i e aj bd cZ hh;split at h
        · rename_i ao;cases h;refine⟨n,e,aj,an,hh,?_⟩;cases e with
          |et=>exact⟨ao,q⟩
          |aG=>exact⟨ao,q⟩
          |ba id=>exact absurd rfl (cZ id)
        · cases h
      · cases h
  · cases e with
    |et=>exact⟨n+1,_,an,by simp only[jl,dn,if_pos aC,h,q.1,if_true],q.2⟩
    |aG=>exact⟨n+1,_,an,by simp only[jl,dn,if_pos aC,h,q.1,if_true],q.2⟩
    |ba id=>exact q.elim
def qz(P:Program)(f:Nat)(args:List Value)(m:W)(r:Value)(an:W):Prop:= ∃n,jl P n f args m=some (r,an)
theorem qz.wp{f:Nat}{args:List Value}{r:Value}{an:W}(h:qz P f args m r an){cg:Value->W->Prop}:fZ P f args m cg=cg r an:=by obtain⟨n,ax⟩:=h;refine propext ⟨λ⟨gU,dF,R3,bK,q⟩=> ?_,λq=>⟨n,r,an,ax,q⟩⟩;have D:=wP (Nat.le_max_left n gU) _ _ _ _ ax;have H:=wP (Nat.le_max_right n gU) _ _ _ _ bK;rw[D]at H;cases H;exact q
theorem qz.xY{f:Nat}{args:List Value}{r:Value}{an:W}(h:fZ P f args m λdF R3=>dF=r/\R3=an):qz P f args m r an:=by obtain⟨n,dF,R3,D,rfl,rfl⟩:=h;exact⟨n,D⟩
theorem fZ.aG{f:Nat}{args:List Value}{cg:Value->W->Prop}(h:fZ P f args m cg): ∃r an,qz P f args m r an/\cg r an:=by obtain⟨n,r,an,D,q⟩:=h;exact⟨r,an,⟨n,D⟩,q⟩
theorem fZ.cd{f:Nat}{args:List Value}{cg mc:Value->W->Prop}(h:fZ P f args m cg)(bf: ∀r an,cg r an->mc r an):fZ P f args m mc:=by obtain⟨n,r,an,D,q⟩:=h;exact⟨n,r,an,D,bf _ _ q⟩
theorem hD.cd{c:I}{wK:dy->aP->W->Prop}(h:hD P c z m Q)(bf: ∀e aj an,Q e aj an->wK e aj an):hD P c z m wK:=by obtain⟨n,e,aj,an,D,q⟩:=h;exact⟨n,e,aj,an,D,bf _ _ _ q⟩
variable {aW:aP->W->Prop} {base aN:Nat} {bV:List bn} {d:Option Nat} {g:Option (Nat×Bool)} {a5:List (Operand×Operand)}
theorem T9:g7 P base [] z m aW=aW z m:=by refine propext ⟨λ⟨n,aj,an,h,q⟩=> ?_,λh=>⟨0,_,_,rfl,h⟩⟩;cases h;exact q
theorem axc{n gU:Nat}(h:n<=gU){L:List bn}{r:aP×W}(M:ju (jl P n) base L z m=some r):ju (jl P gU) base L z m=some r:=Aw (wP h) M
theorem uO{k:ad}(aa:k.jB=false):g7 P base (⟨aN,d,none,k,a5⟩::bV) z m aW=(k.ok z m=true/\o9 z a5=true/\g7 P base bV (c1 z d (k.val (base+aN) z m)) (k.gu (base+aN) z m) aW):=by
  have gi:k.e8 z m=none:=qW aa;refine propext ⟨λ⟨n,aj,an,h,q⟩=> ?_,λ⟨D,H,n,aj,an,aq,q⟩=> ?_⟩
  · obtain⟨bI,bd,D,H,aq⟩:=qg h;obtain⟨ao,e⟩:=TH (o:=⟨aN,d,none,k,a5⟩) rfl gi D;cases e;have aF:=H rfl;simp only[gi]at aF;exact⟨ao,aF,n,aj,an,aq,q⟩
  · refine⟨n,aj,an,v8 (aeZ (o:=⟨aN,d,none,k,a5⟩) rfl gi D) (λ_=> ?_) aq,q⟩;simp only[gi];exact H
theorem Nw{k:ad}{t:Nat}{b:Bool}:g7 P base (⟨aN,d,some (t,b),k,a5⟩::bV) z m aW=if eH z (some (t,b))=true then g7 P base (⟨aN,d,none,k,a5⟩::bV) z m aW else g7 P base bV (c1 z d undef) m aW:=by
  split
  · rename_i aZ;have ox: ∀bF:Callee,g4 bF base ⟨aN,d,some (t,b),k,a5⟩ z m=g4 bF base ⟨aN,d,none,k,a5⟩ z m:= λbF=>by
      unfold g4;simp only[aZ,if_true,show eH z none=true from rfl]
    have Wu: ∀an,nO ⟨aN,d,some (t,b),k,a5⟩ z m an↔nO ⟨aN,d,none,k,a5⟩ z m an:= λan=>⟨λh _=>h aZ,λh _=>h rfl⟩;refine propext ⟨λ⟨n,aj,an,h,q⟩=> ?_,λ⟨n,aj,an,h,q⟩=> ?_⟩
    · obtain⟨bI,bd,D,H,aq⟩:=qg h;exact⟨n,aj,an,v8 (by rw[<-ox];exact D) ((Wu _).1 H) aq,q⟩
    · obtain⟨bI,bd,D,H,aq⟩:=qg h;exact⟨n,aj,an,v8 (by rw[ox];exact D) ((Wu _).2 H) aq,q⟩
  · rename_i aZ;have ns:eH z (some (t,b))=false:=(by simpa using aZ);refine propext ⟨λ⟨n,aj,an,h,q⟩=> ?_,λ⟨n,aj,an,h,q⟩=> ?_⟩
    · obtain⟨bI,bd,D,H,aq⟩:=qg h;rw[yh (o:=⟨aN,d,some (t,b),k,a5⟩) ns]at D;cases D;exact⟨n,aj,an,aq,q⟩
    · exact⟨n,aj,an,v8 (yh (o:=⟨aN,d,some (t,b),k,a5⟩) ns) (λh=>absurd h aZ) h,q⟩
theorem Nv{k:ad}{f:Nat}{args:List Value}(gi:k.e8 z m=some (f,args)):g7 P base (⟨aN,d,none,k,a5⟩::bV) z m aW=fZ P f args m (u7 P base d a5 bV z m aW):=by
  refine propext ⟨λ⟨n,aj,an,h,q⟩=> ?_,λ⟨n,r,bd,h,D,hH,dh,dE,H,q⟩=> ?_⟩
  · obtain⟨bI,bd,D,H,aq⟩:=qg h;obtain⟨v,dE,aQ,a8⟩:=Dg (o:=⟨aN,d,none,k,a5⟩) rfl gi D;cases a8;have aF:=H rfl;simp only[gi]at aF;exact⟨n,v,_,aQ,aF,n,aj,an,aq,q⟩
  · refine⟨max n hH,dh,dE,v8 (HX (o:=⟨aN,d,none,k,a5⟩) rfl gi (wP (Nat.le_max_left n hH) _ _ _ _ h)) (λ_=> ?_) (axc (Nat.le_max_right n hH) H),q⟩;simp only[gi];exact D
theorem T8{f:Nat}{bQ:List Operand}:g7 P base (⟨aN,d,none,.dA f bQ,a5⟩::bV) z m aW=fZ P f (bQ.map (X z)) m (u7 P base d a5 bV z m aW):=Nv rfl
theorem afz{x:Operand}{bQ:List Operand}{f:Nat}{first lT:Array Value}(h:X z x= .func (.func f) first lT):
    g7 P base (⟨aN,d,none,.iw x bQ,a5⟩::bV) z m aW=fZ P f (first.toList++bQ.map (X z)++lT.toList) m (u7 P base d a5 bV z m aW):=Nv (by simp only[ad.e8,h])
theorem D5{r:Value}{an:W}:u7 P base d [] bV z m aW r an=g7 P base bV (c1 z d r) an aW:=by simp[u7,p9]
theorem ahh:o9 z []=true:=rfl
end wp
theorem dr.empty{aV:Nat}{w:World}:dr aV (λ_=>none) ⟨0,λ_=>none,λ_=>none⟩ w where
  ke:= λ_ _ h=>by cases h
  lF:= λ_ _ h=>by cases h
  lI:= λb x h=>by unfold W.Y at h;split at h<;>cases h
  qI:= λb x ca hJ l dj h=>by unfold W.Y at h;split at h<;>cases h
  s0:= λ_ _ h=>by cases h
  maps:= λb a9 h=>by simp only[W.eJ,W.Y,se,if_false]at h;cases h
end Go.DI
