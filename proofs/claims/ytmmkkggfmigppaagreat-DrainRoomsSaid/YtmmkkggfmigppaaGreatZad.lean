/-
  A part of the proof of the statement, in texts that tools of ours (wip/shrink.py, irpack.py, relax.py, minify.py, join.py, lay.py) have shortened.
-/
import Derived.LoopN
import Derived.StillTail
import Derived.Test.YtmmkkggfmigppaaGreatZac
set_option linter.all false
set_option maxRecDepth 8000
set_option maxHeartbeats 16000000
namespace Go.DI
open Go Go.RowKit
section
variable {P:Program} {z dj:aM} {m dH:W} {aX:Nat} {bG:Callee} {base:Nat}
theorem Ar{l:List Nat}{d:Nat}(h:q6 l (some d)=true):d∉l:=by simpa[q6]using h
theorem wo{d:Option Nat}{v:Value}{t:Nat}(h:d≠some t):c0 z d v t=z t:=by
  cases d with
  |none=>rfl
  | some d=>have:t≠d:= λe=>h (by rw[e]);simp[c0,mm,this]
theorem yf{d e:Option Nat}{bo v:Value}(h: ∀x,d=some x->e≠some x):c0 (c0 z d bo) e v=c0 (c0 z e v) d bo:=by
  cases d with
  |none=>rfl
  | some d=>
    cases e with
    |none=>rfl
    | some e=>
      have cW:d≠e:= λx=>h d rfl (by rw[x]);funext t;simp only[c0,mm];by_cases D:t=e
      · subst D;simp[Ne.symm cW]
      · simp[D]
theorem yq{l:List Operand}{x:Operand}{t:Nat}(G:x∈l)(bt:x= .tmp t):t∈DF l:=by subst bt;exact tJ.2 ⟨_,G,rfl⟩
theorem wv{o:bp}{d:Option Nat}{v:Value}(h:q6 o.uN d=true): ∀x∈o.k.gR,Y (c0 z d v) x=Y z x:=by intro x G;refine xd λt bt=>wo λay=> ?_;subst ay;exact Ar h (mo _ (yq G bt))
theorem q9{o:bp}{d:Option Nat}{v:Value}(h:q6 o.uN d=true):eA (c0 z d v) o.g=eA z o.g:=by
  cases aF:o.g with
  |none=>rfl
  | some nQ=>obtain⟨t,b⟩:=nQ;simp only[eA];rw[wo λay=> ?_];subst ay;exact Ar h (lG _ (by simp[aF]))
theorem S3{k:af}: ∀x∈k.lh++k.mn,x∈k.gR:=by
  intro x G;cases k<;>simp[af.lh,af.mn]at G<;>simp[af.gR,G]
  · rcases G with h|h|h<;>simp[h]
theorem T6{o:bp}(aZ:eA z o.g=true)(ar:o.k.fb z m=none){s:aM×W}(h:g9 bG base o z m=some s):
    o.k.ok z m=true/\s=(c0 z o.d (o.k.val (base+o.aN) z m),o.k.gu (base+o.aN) z m):=by
  unfold g9 at h;rw[if_pos aZ,ar]at h;simp only at h;split at h
  · rename_i ao;cases h;exact⟨ao,rfl⟩
  · cases h
theorem afl{o:bp}(aZ:eA z o.g=true)(ar:o.k.fb z m=none)(ao:o.k.ok z m=true):
    g9 bG base o z m=some (c0 z o.d (o.k.val (base+o.aN) z m),o.k.gu (base+o.aN) z m):=by
  unfold g9;rw[if_pos aZ,ar];simp only[ao,if_true]
theorem DK{o:bp}(zj:o.k.uv=false)(aZ:eA z o.g=true)(ar:o.k.fb z m=none){s:aM×W}(h:g9 bG base o z m=some s):
    o.k.ok z m=true/\s=(c0 z o.d (o.k.val (base+o.aN) z m),hN m (o.k.gh (base+o.aN) z m)):=by
  unfold g9 at h;rw[if_pos aZ,ar]at h;simp only at h;split at h
  · rename_i ao;cases h;exact⟨ao,by rw[<-adF zj]⟩
  · cases h
theorem DL{o:bp}(zj:o.k.uv=false)(aZ:eA z o.g=true)(ar:o.k.fb z m=none)(ao:o.k.ok z m=true):
    g9 bG base o z m=some (c0 z o.d (o.k.val (base+o.aN) z m),hN m (o.k.gh (base+o.aN) z m)):=by
  unfold g9;rw[if_pos aZ,ar];simp only[ao,if_true,adF zj]
theorem DJ{o:bp}(aZ:eA z o.g=true){f:Nat}{args:List Value}(ar:o.k.fb z m=some (f,args)){s:aM×W}(h:g9 bG base o z m=some s):
    ∃v an,bG f args m=some (v,an)/\s=(c0 z o.d v,an):=by
  unfold g9 at h;rw[if_pos aZ,ar]at h;simp only at h;split at h
  · rename_i v an a6;cases h;exact⟨v,an,a6,rfl⟩
  · cases h
theorem Il{o:bp}(aZ:eA z o.g=true){f:Nat}{args:List Value}(ar:o.k.fb z m=some (f,args)){v:Value}{an:W}(h:bG f args m=some (v,an)):
    g9 bG base o z m=some (c0 z o.d v,an):=by
  unfold g9;rw[if_pos aZ,ar];simp only[h]
theorem yt{o:bp}(aZ:eA z o.g=false):g9 bG base o z m=some (c0 z o.d undef,m):=by unfold g9;rw[if_neg (by rw[aZ];simp)]
theorem Jl{k:af}{kr:Nat×List Value}(h:k.fb z m=some kr):k.jO=true:=by cases k<;>first|rfl|(simp[af.fb]at h)
theorem q1{k:af}(h:k.jO=false):k.fb z m=none:=by cases k<;>first|rfl|(simp[af.jO]at h)
theorem Ot{o:bp}(aZ:eA z o.g=true)(ar:o.k.fb z m=none){s:aM×W}(h:g9 bG base o z m=some s):o.k.jO=false:=
  MM (T6 aZ ar h).1
def UZ(k i:bp)(z:aM)(m an:W):Prop:=
  eA z i.g=true->match i.k.fb z m with
    |some _=> ∀p∈oN k i,∀b,N (Y z p.1)=some b->an.X b=m.X b
    |none=> ∀p∈oN k i,∀a b,N (Y z p.1)=some a->N (Y z p.2)=some b->a≠b
theorem Jr{o:bp}{d:Option Nat}{v:Value}{an:W}(az:q6 (o.uN++o.VY) d=true){Aj Hu:W}
    (xw:o.k.jO=true->Aj=m/\Hu=an) (h:nU o z m an):nU o (c0 z d v) Aj Hu:=by
  have D:q6 o.uN d=true:=by
    cases d with
    |none=>rfl
    |some d=>simp[q6]at az⊢;exact az.1
  have g5: ∀p∈o.a4,Y (c0 z d v) p.1=Y z p.1/\Y (c0 z d v) p.2=Y z p.2:=by
    intro p ai;constructor
    · refine xd λt bt=>wo λay=> ?_;subst ay;exact Ar az (lG _ (mo _ (yq (g4.2 ⟨p,ai,rfl⟩) bt)))
    · refine xd λt bt=>wo λay=> ?_;subst ay;exact Ar az (lG _ (lG _ (yq (g4.2 ⟨p,ai,rfl⟩) bt)))
  intro aZ;rw[q9 D]at aZ;have:=h aZ;have gj:o.k.fb (c0 z d v) Aj=o.k.fb z m:=by
    rw[(vn (m:=Aj) (id:=0) (wv D)).2.2.2];cases y8:o.k.jO with
    |true=>rw[(xw y8).1]
    |false=>rw[q1 y8,q1 y8]
  rw[gj];cases ar:o.k.fb z m with
  | some kr=>rw[ar]at this;simp only at this⊢;obtain⟨rfl,rfl⟩:=xw (Jl ar);intro p ai b hb;rw[(g5 p ai).1]at hb;exact this p ai b hb
  | none=>rw[ar]at this;simp only[pd,eQ]at this⊢;intro p ai;obtain⟨x,y⟩:=p;have:=this (x,y) ai;simp only at this⊢;rw[(g5 _ ai).1,(g5 _ ai).2];exact this
theorem ayy{P:Program}{aX:Nat}(b0:o2 P aX bG){k i:bp}{qH:List Nat}{dj wW:aM}{dH mf:W}(J3:pe k i qH=true)(p9:k.aN≠i.aN)(Pw:i.k.eW=true->m.X (base+i.aN)=none)(ek:i.k.eW=true->base+i.aN<m.next)
    (D:g9 bG base k z m=some (dj,dH)) (g5:nU k z m dH) (H:g9 bG base i dj dH=some (wW,mf)) (dv:UZ k i dj dH mf):
    ∃bI bg,g9 bG base i z m=some (bI,bg)/\g9 bG base k bI bg=some (wW,mf)/\nU k bI bg mf/\(i.k.jO=true->eA z i.g=true->m=dH/\bg=mf):=by
  simp only[pe,aY]at J3;obtain⟨⟨⟨⟨⟨qa,ug⟩,sO⟩,mC⟩,J1⟩,qR⟩:=J3
  replace qa:k.k.uv=false:=by simpa using qa
  replace ug:i.k.uv=false:=by simpa using ug
  have uf:q6 k.uN i.d=true:=by
    cases ay:i.d with
    |none=>rfl
    |some d=>rw[ay]at sO;simp[q6]at sO⊢;exact sO.1
  have vA: ∀x,k.d=some x->i.d≠some x:=by intro x G ag;rw[G,ag]at J1;simp at J1
  by_cases oC:eA z k.g=true
  · by_cases pr:eA z i.g=true
    · cases oy:k.k.fb z m with
      | some kr=>
        -- k VN;i afB iG aGT
        obtain⟨f,args⟩:=kr;have qU:=Jl oy;obtain⟨v,an,aK,aR⟩:=DJ oC oy D;cases aR;have k7:i.k.jO=false:=by
          by_cases h:i.k.jO=true
          · rw[if_pos h]at qR;simp[qU]at qR
          · simpa using h
        rw[if_neg (by rw[k7];simp),if_pos qU]at qR;simp only[aY,List.isEmpty_iff]at qR;obtain⟨PL,PX⟩:=qR;have xy:eA (c0 z k.d v) i.g=true:=(by rw[q9 mC];exact pr);obtain⟨ao,cB⟩:=DK ug xy (q1 k7) H;cases cB;obtain⟨ch,c6,iq,_⟩:=vn (k:=i.k) (m:=dH) (id:=base+i.aN) (wv (z:=z) (v:=v) mC);obtain⟨hP,hd,iT⟩:=Jv (k:=i.k) (z:=z) (id:=base+i.aN) (m:=dH) (dH:=m) ug (by rw[PL];simp);have J6: ∀p∈i.k.gh (base+i.aN) z m,i.k.eW=true/\p.1=base+i.aN:= λp ai=>by
          rcases DW (k:=i.k) (id:=base+i.aN) (z:=z) (m:=m) p ai with h|⟨x,G,_⟩
          · exact⟨h.1,h.2.1⟩
          · rw[PX]at G;cases G
        -- UF wK pM new block aHH aMI pM dm
        have ajR: ∀(l:List (Nat×Option fq)) (uB gr:W),(∀p∈l,i.k.eW=true/\p.1=base+i.aN)->bG f args uB=some (v,gr)->(l≠[]->base+i.aN<uB.next/\uB.X (base+i.aN)=none)->
            bG f args (hN uB l)=some (v,hN gr l)/\(l=[]\/ ∃y,hN uB l=uB.a0 (base+i.aN) y/\hN gr l=gr.a0 (base+i.aN) y):=by
          intro l uB gr aD J2 ajC;have xw: ∀(l:List (Nat×Option fq)) (x:Option fq),(∀p∈l,p.1=base+i.aN)-> ∃y,∀cv:W,hN (cv.a0 (base+i.aN) x) l=cv.a0 (base+i.aN) y:=by
            intro l;induction l with
            |nil=>intro x _;exact⟨x,λ_=>rfl⟩
            | cons p l cc=>
              intro x ai;obtain⟨y,ag⟩:=cc p.2 (λq bc=>ai q (by simp[bc]));refine⟨y,λcv=> ?_⟩;have e:p.1=base+i.aN:=ai p (by simp);have:(cv.a0 (base+i.aN) x).a0 p.1 p.2=cv.a0 (base+i.aN) p.2:=by rw[e];simp only[W.a0,W.mk.injEq,true_and,and_true];funext j;by_cases b1:j=base+i.aN<;>simp[b1]
              show hN ((cv.a0 (base+i.aN) x).a0 p.1 p.2) l=_;rw[this,ag]
          cases l with
          |nil=>exact⟨J2,.inl rfl⟩
          | cons p l=>obtain⟨y,ag⟩:=xw l p.2 (λq bc=>(aD q (by simp[bc])).2);have e:p.1=base+i.aN:=(aD p (by simp)).2;have aib:hN uB (p::l)=uB.a0 (base+i.aN) y:=(by show hN (uB.a0 p.1 p.2) l=_;rw[e,ag]);have aic:hN gr (p::l)=gr.a0 (base+i.aN) y:=(by show hN (gr.a0 p.1 p.2) l=_;rw[e,ag]);rw[aib,aic];obtain⟨bq,cP⟩:=ajC (by simp);exact⟨(b0 _ _ _ _ _ J2).2.2.2.1 _ y bq cP,.inr ⟨y,rfl,rfl⟩⟩
        obtain⟨fX,g1⟩:=ajR (i.k.gh (base+i.aN) z m) m dH J6 aK (λcW=>by obtain⟨p,ai⟩:=List.exists_mem_of_ne_nil _ cW;have:=(J6 p ai).1;exact⟨ek this,Pw this⟩);have W2:k.k.fb z (hN m (i.k.gh (base+i.aN) z m))=some (f,args):=by
          rcases g1 with h|⟨y,ag,_⟩
          · rw[h];exact oy
          · rw[ag];by_cases fc:i.k.eW=true
            · exact Oa.Jk ⟨rfl,ek fc,Pw fc⟩ oy
            · have:i.k.gh (base+i.aN) z m=[]:=by
                cases aD:i.k.gh (base+i.aN) z m with
                |nil=>rfl
                |cons p l=>exact absurd (J6 p (by rw[aD];simp)).1 fc
              rw[this]at ag;rw[<-ag];exact oy
        refine⟨_,_,DL ug pr (q1 k7) (by rw[<-hP,<-ch];exact ao),?_,?_,λh=>by rw[k7]at h;cases h⟩
        · have ajc:k.k.fb (c0 z i.d (i.k.val (base+i.aN) z m)) (hN m (i.k.gh (base+i.aN) z m))=some (f,args):=(by rw[(vn (m:=hN m (i.k.gh (base+i.aN) z m)) (id:=0) (wv uf)).2.2.2];exact W2);rw[c6,iq,hd,iT];have:=Il (bG:=bG) (base:=base) (m:=hN m (i.k.gh (base+i.aN) z m)) (by rw[q9 uf];exact oC) ajc fX;rw[this,yf vA]
        · rw[iq,iT];refine Jr sO (λ_=>⟨rfl,rfl⟩) (λaZ=> ?_);have cR:=g5 aZ;rw[oy]at cR;rw[W2];simp only at cR⊢;rcases g1 with h|⟨y,ag,Fz⟩
          · rw[h];exact cR
          · rw[ag,Fz];intro q bc b hb;have:=cR q bc b hb;by_cases E8:b=base+i.aN
            · subst E8;have au:i.k.gh (base+i.aN) z m=[]\/i.k.eW=true:=by
                cases aD:i.k.gh (base+i.aN) z m with
                |nil=>exact .inl rfl
                |cons p l=>exact .inr (J6 p (by rw[aD];simp)).1
              rcases au with au|fc
              · rw[au]at ag Fz;rw[<-ag,<-Fz];exact this
              · rw[W.m2,W.m2,if_pos rfl,if_pos rfl,if_pos (ek fc),if_pos (oY (ek fc) (b0 _ _ _ _ _ aK).2.1)]
            · rw[W.m2,W.m2,if_neg E8,if_neg E8];exact this
      | none=>
        have qU:=Ot oC oy D;obtain⟨zn,aK⟩:=DK qa oC oy D;cases aK;have xy:eA (c0 z k.d (k.k.val (base+k.aN) z m)) i.g=true:=(by rw[q9 mC];exact pr);obtain⟨ch,c6,iq,iS⟩:=vn (k:=i.k) (m:=hN m (k.k.gh (base+k.aN) z m)) (id:=base+i.aN) (wv (z:=z) (v:=k.k.val (base+k.aN) z m) mC);have mA:=dv xy;cases gj:i.k.fb z (hN m (k.k.gh (base+k.aN) z m))with
        | some kr=>
          -- i VN;k UF aHi
          obtain⟨f,args⟩:=kr;have k7:=Jl gj;rw[if_pos k7]at qR;simp only[aY,u1,List.isEmpty_iff]at qR;obtain⟨⟨⟨_,fc⟩,PX⟩,PO⟩:=qR;have XN:k.k.gh (base+k.aN) z m=[]:=by
            cases aD:k.k.gh (base+k.aN) z m with
            |nil=>rfl
            | cons p l=>
              rcases DW (k:=k.k) (id:=base+k.aN) (z:=z) (m:=m) p (by rw[aD];simp)with h|⟨x,G,_⟩
              · rw[fc]at h;cases h.1
              · rw[PX]at G;cases G
          rw[XN]at H mA gj iS⊢;have xr:hN m []=m:=rfl;rw[xr]at H mA gj iS;rw[iS,gj]at mA;simp only at mA;obtain⟨v,an,aQ,a7⟩:=DJ xy (by rw[iS];exact gj) H;cases a7;refine⟨_,_,Il pr gj aQ,?_,?_,λ_ _=>⟨rfl,rfl⟩⟩
          · obtain⟨hP,hd,iT⟩:=Jv (k:=k.k) (z:=z) (id:=base+k.aN) (m:=m) (dH:=mf) qa (λx G b hb=>by
              have ai:(x,x)∈oN k i:=(by simp only[oN,k7,if_true];exact g4.2 ⟨x,G,rfl⟩);have akl:Y (c0 z k.d (k.k.val (base+k.aN) z m)) x=Y z x:=xd λt bt=>wo λay=>by have:=eQ.1 PO t (yq G bt);simp[ay]at this
              exact(mA (x,x) ai b (by rw[akl];exact hb)).symm)
            obtain⟨db,dx,f3,kq⟩:=vn (k:=k.k) (m:=mf) (id:=base+k.aN) (wv (z:=z) (d:=i.d) (v:=v) uf);have:=DL (bG:=bG) (base:=base) (m:=mf) (z:=c0 z i.d v) (o:=k) qa (by rw[q9 uf];exact oC) (q1 qU) (by rw[db,<-hP];exact zn);rw[this,dx,f3,<-hd,<-iT,XN,yf vA];rfl
          · exact Jr sO (λh=>by rw[qU]at h;cases h) g5
        | none=>
          -- aG2 VN
          have k7:=Ot (by rw[<-q9 mC (z:=z)]at pr;exact pr) (by rw[iS];exact gj) H;rw[iS,gj]at mA;simp only at mA;rw[if_neg (by rw[k7];simp),if_neg (by rw[qU];simp)]at qR;simp only[aY,rq,u1]at qR;obtain⟨fc,PO⟩:=qR;obtain⟨PI,cB⟩:=DK ug xy (q1 k7) H;rw[ch]at PI;rw[c6,iq]at cB
          -- pM aHA aC2,at aDI aLX
          have PZ: ∀x∈k.k.lh++k.k.mn,Y (c0 z k.d (k.k.val (base+k.aN) z m)) x=Y z x:=(by intro x G;refine xd λt bt=>wo λay=> ?_;have:=eQ.1 PO t (yq G bt);simp[ay]at this);have Kg: ∀y∈i.k.lh++i.k.mn,Y (c0 z k.d (k.k.val (base+k.aN) z m)) y=Y z y:= λy ag=>wv mC y (S3 y ag);have Ka:oN k i=((k.k.mn++(if k.k.eW then Jz k.d else[])).flatMap λx=>(i.k.lh++i.k.mn).map λy=>(x,y))++k.k.lh.flatMap λx=>i.k.mn.map λy=>(x,y):=by simp only[oN,k7,qU,jv,if_false]
          -- aGo UF do not avb afT i afB
          have cY: ∀p∈k.k.gh (base+k.aN) z m,∀y∈i.k.lh++i.k.mn,∀b,N (Y z y)=some b->p.1≠b:=by
            intro p ai y ag b hb;rcases DW (k:=k.k) p ai with⟨ax,e,Pn⟩|⟨x,G,Po⟩
            · rcases fc with fc|fc
              · rw[fc]at ax;cases ax
              · obtain⟨d,ay⟩:=II.1 fc.1;have:=mA (.tmp d,y) (by
                  rw[Ka];refine mo _ (tK.2 ⟨.tmp d,?_,g4.2 ⟨y,ag,rfl⟩⟩);simp[ax,ay,Jz]) (base+k.aN) b (by simp only[Y,ay,c0,mm,if_true];exact Pn) (by rw[Kg y ag];exact hb)
                rw[e];exact this
            · exact mA (x,y) (by rw[Ka];exact mo _ (tK.2 ⟨x,mo _ G,g4.2 ⟨y,ag,rfl⟩⟩)) p.1 b (by rw[PZ x (lG _ G)];exact Po) (by rw[Kg y ag];exact hb)
          obtain⟨hP,hd,iT⟩:=Jv (k:=i.k) (z:=z) (id:=base+i.aN) (m:=hN m (k.k.gh (base+k.aN) z m)) (dH:=m) ug (λy ag b hb=>O3 _ _ _ λp ai=>cY p ai y (mo _ ag) b hb);rw[hP]at PI;rw[hd,iT]at cB;cases cB
          -- aEX UF do not avb afT k afB
          have afU: ∀p∈i.k.gh (base+i.aN) z m,∀x∈k.k.lh++k.k.mn,∀b,N (Y z x)=some b->p.1≠b:=by
            intro p ai x G b hb e;rcases DW (k:=i.k) p ai with⟨ax,aR,Pn⟩|⟨y,ag,J0⟩
            · have:=avS zn x G b hb;rw[<-e,aR,Pw ax]at this;cases this
            · rcases kE.1 G with jk|jk
              · exact mA (x,y) (by rw[Ka];exact lG _ (tK.2 ⟨x,jk,g4.2 ⟨y,ag,rfl⟩⟩)) b p.1 (by rw[PZ x G];exact hb) (by rw[Kg y (lG _ ag)];exact J0) e.symm
              · exact mA (x,y) (by rw[Ka];exact mo _ (tK.2 ⟨x,mo _ jk,g4.2 ⟨y,lG _ ag,rfl⟩⟩)) b p.1 (by rw[PZ x G];exact hb) (by rw[Kg y (lG _ ag)];exact J0) e.symm
          have azn: ∀p∈k.k.gh (base+k.aN) z m,∀q∈i.k.gh (base+i.aN) z m,p.1≠q.1:=by
            intro p ai q bc e;rcases DW (k:=i.k) q bc with⟨ax,aR,Pn⟩|⟨y,ag,J0⟩
            · rcases DW (k:=k.k) p ai with⟨_,cB,_⟩|⟨x,G,Po⟩
              · omega
              · exact afU q bc x (lG _ G) p.1 Po e.symm
            · exact cY p ai y (lG _ ag) q.1 J0 e
          refine⟨_,_,DL ug pr (q1 k7) PI,?_,?_,λh=>by rw[k7]at h;cases h⟩
          · obtain⟨db,dx,f3,kq⟩:=vn (k:=k.k) (m:=hN m (i.k.gh (base+i.aN) z m)) (id:=base+k.aN) (wv (z:=z) (d:=i.d) (v:=i.k.val (base+i.aN) z m) uf);obtain⟨aQ,a7,cD⟩:=Jv (k:=k.k) (z:=z) (id:=base+k.aN) (m:=hN m (i.k.gh (base+i.aN) z m)) (dH:=m) qa (λx G b hb=>O3 _ _ _ λp ai=>afU p ai x (mo _ G) b hb);have:=DL (bG:=bG) (base:=base) (m:=hN m (i.k.gh (base+i.aN) z m)) (z:=c0 z i.d (i.k.val (base+i.aN) z m)) (o:=k) qa (by rw[q9 uf];exact oC) (q1 qU) (by rw[db,aQ];exact zn);rw[this,dx,f3,a7,cD,yf vA,Vk _ _ m azn]
          · exact Jr sO (λh=>by rw[qU]at h;cases h) g5
    · -- i z1 av0 over
      have Fw:eA z i.g=false:=(by simpa using pr);have hB: ∃v,dj=c0 z k.d v:=by
        cases oy:k.k.fb z m with
        |some kr=>obtain⟨v,an,_,e⟩:=DJ oC oy D;cases e;exact⟨v,rfl⟩
        |none=>obtain⟨_,e⟩:=DK qa oC oy D;cases e;exact⟨_,rfl⟩
      obtain⟨v,rfl⟩:=hB;rw[yt (by rw[q9 mC];exact Fw)]at H;cases H;refine⟨_,_,yt Fw,?_,Jr sO (λ_=>⟨rfl,rfl⟩) g5,λ_ h=>absurd h pr⟩;have XM:eA (c0 z i.d undef) k.g=true:=(by rw[q9 uf];exact oC);obtain⟨db,dx,f3,kq⟩:=vn (k:=k.k) (m:=m) (id:=base+k.aN) (wv (z:=z) (d:=i.d) (v:=undef) uf);cases oy:k.k.fb z m with
      | some kr=>obtain⟨f,args⟩:=kr;obtain⟨bo,an,aQ,a7⟩:=DJ oC oy D;have aK:=congrArg Prod.fst a7;have aR:=congrArg Prod.snd a7;simp only at aK aR;subst aR;have cB:c0 (c0 z i.d undef) k.d bo=c0 (c0 z k.d bo) i.d undef:=(yf vA).symm;rw[Il XM (by rw[kq];exact oy) aQ,cB,<-aK]
      | none=>obtain⟨ao,a7⟩:=DK qa oC oy D;have aK:=congrArg Prod.fst a7;have aR:=congrArg Prod.snd a7;simp only at aK aR;subst aR;have cB:c0 (c0 z i.d undef) k.d (k.k.val (base+k.aN) z m)=c0 (c0 z k.d (k.k.val (base+k.aN) z m)) i.d undef:=(yf vA).symm;rw[DL qa XM (by rw[kq];exact oy) (by rw[db];exact ao),dx,f3,cB,<-aK]
  · -- k z1 av0 over
    have XL:eA z k.g=false:=(by simpa using oC);rw[yt XL]at D;cases D;have rQ: ∀v cv,g9 bG base k (c0 z i.d v) cv=some (c0 (c0 z i.d v) k.d undef,cv):= λv cv=>yt (by rw[q9 uf];exact XL);have Pr: ∀v Aj Hu,nU k (c0 z i.d v) Aj Hu:= λv Aj Hu aZ=>by rw[q9 uf]at aZ;exact absurd aZ oC
    obtain⟨db,dx,f3,kq⟩:=vn (k:=i.k) (m:=m) (id:=base+i.aN) (wv (z:=z) (d:=k.d) (v:=undef) mC);by_cases pr:eA z i.g=true
    · have xy:eA (c0 z k.d undef) i.g=true:=(by rw[q9 mC];exact pr);cases gj:i.k.fb z m with
      | some kr=>obtain⟨f,args⟩:=kr;obtain⟨bo,an,aQ,a7⟩:=DJ xy (by rw[kq];exact gj) H;cases a7;exact⟨_,_,Il pr gj aQ,by rw[rQ,yf vA],Pr _ _ _,λ_ _=>⟨rfl,rfl⟩⟩
      | none=>obtain⟨ao,a7⟩:=DK ug xy (by rw[kq];exact gj) H;have k7:=MM ao;rw[dx,f3]at a7;cases a7;exact⟨_,_,DL ug pr gj (by rw[<-db];exact ao),by rw[rQ,yf vA],Pr _ _ _,λh=>by rw[k7]at h;cases h⟩
    · have Fw:eA z i.g=false:=(by simpa using pr);rw[yt (by rw[q9 mC];exact Fw)]at H;cases H;exact⟨_,_,yt Fw,by rw[rQ,yf vA],Pr _ _ _,λ_ h=>absurd h pr⟩
end
def rB(l:List bp):List Nat:=l.filterMap (·.d)
section
variable {P:Program} {aX:Nat} {bG:Callee} {base:Nat} {ops:Array Oper} {cQ:Nat}
theorem Ju{k i:bp}{b ca:List Nat}(h: ∀t∈ca,t∈b)(ar:pe k i b=true):pe k i ca=true:=by
  have Xs: ∀t,(!b.contains t)=true->(!ca.contains t)=true:=by intro t bt;simp at bt⊢;exact λaH=>bt (h t aH)
  have jU: ∀l:List Nat,(l.all λt=> !b.contains t&&k.d !=some t)=true->(l.all λt=> !ca.contains t&&k.d !=some t)=true:=by intro l aD;rw[eQ]at aD⊢;intro t bt;have:=aD t bt;rw[aY]at this⊢;exact⟨Xs t this.1,this.2⟩
  simp only[pe,aY]at ar⊢;refine⟨ar.1,?_⟩;have mC:=ar.2;split at mC
  · rename_i D;rw[if_pos D];simp only[aY]at mC⊢;exact⟨mC.1,jU _ mC.2⟩
  · rename_i D;rw[if_neg D];split at mC
    · rename_i H;rw[if_pos H];exact mC
    · rename_i H;rw[if_neg H];simp only[aY,rq]at mC⊢;refine⟨mC.1.imp id λaq=>⟨aq.1,?_⟩,jU _ mC.2⟩;cases ay:k.d with
      |none=>rfl
      |some d=>rw[ay]at aq;exact Xs d aq.2
theorem afk{o:bp}{z ae:aM}{m an:W}(h:g9 bG base o z m=some (ae,an)){t:Nat}(bt:o.d≠some t):ae t=z t:=by
  unfold g9 at h;split at h
  · split at h
    · split at h
      · cases h;exact wo bt
      · cases h
    · split at h
      · cases h;exact wo bt
      · cases h
  · cases h;exact wo bt
theorem move(b0:o2 P aX bG){i:bp}{post:List bp}{ae3:aM×W}: ∀(bP:List bp) (z:aM) (m:W),jG bG base (bP++i::post) z m=some ae3->
    (∀cf k C,bP=cf++k::C->pe k i (rB C)=true/\ ∀p∈oN k i,p∈i.a4)->(∀k∈bP,k.aN≠i.aN)->(i.k.eW=true->m.X (base+i.aN)=none/\base+i.aN<m.next)->
    ∃bI bg tN hJ MC,g9 bG base i z m=some (bI,bg)/\jG bG base (bP++post) bI bg=some ae3/\nU i tN hJ MC/\(∀t,t∉rB bP->tN t=z t)/\(i.k.jO=true->eA z i.g=true->hJ=m/\MC=bg)
  | [],z,m,h,_,_,_=>by obtain⟨bI,bg,D,H,aq⟩:=qo h;exact⟨bI,bg,z,m,bg,D,aq,H,λ_ _=>rfl,λ_ _=>⟨rfl,rfl⟩⟩
  | k::bP,z,m,h,ar,p9,a6=>by
    obtain⟨dj,dH,D,H,aq⟩:=qo h;have Xk:=p9 k (by simp);have E9:=ar [] k bP rfl;obtain⟨wW,mf,tN,hJ,MC,aQ,a7,cD,dI,gi⟩:=move b0 bP dj dH aq (λcf eX C e=>ar (k::cf) eX C (by rw[e];rfl)) (λeX qS=>p9 eX (by simp[qS])) (λfc=>⟨Ny b0 D (a6 fc).2 (by omega) (a6 fc).1,oY (a6 fc).2 (DH b0 D)⟩)
    -- afT i uN z1 not aNg by aLV Vz adi
    have BU: ∀t,t∈i.uN->t∉rB bP:=(by intro t bt ay;obtain⟨eX,qS,ze⟩:=tJ.1 ay;obtain⟨cf,C,e⟩:=List.append_of_mem qS;have:=(ar (k::cf) eX C (by rw[e];rfl)).1;simp only[pe,aY]at this;rw[ze]at this;exact Ar this.1.1.2 bt);have PW:eA tN i.g=eA dj i.g:=by
      cases aF:i.g with
      |none=>rfl
      |some nQ=>obtain⟨t,b⟩:=nQ;simp only[eA];rw[dI t (BU t (lG _ (by simp[aF])))]
    have Pv: ∀x∈i.k.gR,Y tN x=Y dj x:= λx G=>xd λt bt=>dI t (BU t (mo _ (yq G bt)));have dv:UZ k i dj dH mf:=by
      intro aZ;have g5:=cD (by rw[PW];exact aZ);have gj:i.k.fb tN hJ=i.k.fb dj dH:=by
        rw[(vn (m:=hJ) (id:=0) Pv).2.2.2];cases y8:i.k.jO with
        |true=>rw[(gi y8 aZ).1]
        |false=>rw[q1 y8,q1 y8]
      rw[gj]at g5;have sP:=E9.1;simp only[pe,aY]at sP;obtain⟨_,sP⟩:=sP;cases bc:i.k.fb dj dH with
      | some kr=>
        have k7:=Jl bc;rw[bc]at g5;simp only at g5⊢;obtain⟨rfl,rfl⟩:=gi k7 aZ;rw[if_pos k7]at sP;simp only[aY]at sP;intro p ai b hb;have kM:=ai;simp only[oN,k7,if_true]at kM;obtain⟨x,G,rfl⟩:=g4.1 kM;refine g5 _ (E9.2 _ ai) b ?_;rw[show Y tN x=Y dj x from xd λt bt=>dI t (λay=> ?_)]
        · exact hb
        · have:=eQ.1 sP.2 t (yq G bt);simp at this;exact this.1 ay
      | none=>
        rw[bc]at g5;simp only[pd,eQ]at g5;simp only;intro p ai a b ax hb e;by_cases k7:i.k.jO=true
        · -- Og aHB aLR aLb dm aC3 aDf:adi aEx not run
          have:=Ot aZ bc aQ;rw[k7]at this;cases this
        rw[if_neg k7]at sP;by_cases qU:k.k.jO=true
        · simp only[oN,if_neg k7,if_pos qU]at ai;cases ai
        rw[if_neg qU]at sP;simp only[aY,rq,u1]at sP;have kM:=ai;simp only[oN,if_neg k7,if_neg qU]at kM;have XF: ∀x∈k.k.lh++k.k.mn,Y tN x=Y dj x:= λx G=>xd λt bt=>dI t λay=>by have:=eQ.1 sP.2 t (yq G bt);simp at this;exact this.1 ay
        have po:Y tN p.1=Y dj p.1/\Y tN p.2=Y dj p.2:=by
          rcases kE.1 kM with aE|aE
          · obtain⟨x,G,bq⟩:=tK.1 aE;obtain⟨y,ag,rfl⟩:=g4.1 bq;refine⟨?_,Pv y (S3 y ag)⟩;rcases kE.1 G with cP|cP
            · exact XF x (lG _ cP)
            · split at cP
              · rename_i fc;rcases sP.1 with fB|fB
                · rw[fc]at fB;cases fB
                · cases ay:k.d with
                  |none=>rw[ay]at cP;cases cP
                  | some d=>rw[ay]at cP fB;simp only[Jz,oX]at cP;subst cP;exact dI d (Ar fB.2)
              · cases cP
          · obtain⟨x,G,bq⟩:=tK.1 aE;obtain⟨y,ag,rfl⟩:=g4.1 bq;exact⟨XF x (mo _ G),Pv y (S3 y (lG _ ag))⟩
        have:=g5 p (E9.2 p ai);obtain⟨x,y⟩:=p;simp only at this ax hb po;rw[po.1,po.2,ax,hb]at this;simp[e]at this
    obtain⟨bI,bg,a3,br,bX,e1⟩:=ayy b0 E9.1 Xk (λfc=>(a6 fc).1) (λfc=>(a6 fc).2) D H aQ dv;refine⟨bI,bg,tN,hJ,MC,a3,wx br bX a7,cD,λt bt=> ?_,λbq cP=> ?_⟩
    · have aj8:t∉rB bP:= λay=>bt (by
        obtain⟨eX,qS,ze⟩:=tJ.1 ay;exact tJ.2 ⟨eX,by simp[qS],ze⟩)
      have aj9:k.d≠some t:= λay=>bt (tJ.2 ⟨k,by simp,ay⟩);rw[dI t aj8,afk D aj9]
    · have Xr:q6 i.uN k.d=true:=by
        have:=E9.1;simp only[pe,aY]at this;exact this.1.1.2
      have akf:eA dj i.g=true:=by
        cases aF:i.g with
        |none=>rfl
        | some nQ=>
          obtain⟨t,b⟩:=nQ;rw[aF]at cP;simp only[eA]at cP⊢;rw[afk D (t:=t) λay=> ?_]
          · exact cP
          · rw[ay]at Xr;exact Ar Xr (lG _ (by simp[aF]))
      obtain⟨rfl,rfl⟩:=gi bq akf;exact⟨(e1 bq cP).1.symm,(e1 bq cP).2.symm⟩
def oi(ha:List Nat):List bp->Prop
  |[]=>True
  |k::bR=>(∀bP i post,bR=bP++i::post->(ha.getD i.aN 0).testBit k.aN=true\/(pe k i (rB bP)=true/\ ∀p∈oN k i,p∈i.a4))/\oi ha bR
theorem oi.pc{ha:List Nat}: ∀(cf:List bp) (k:bp) (C:List bp) (i:bp) (cL:List bp),oi ha (cf++k::C++i::cL)->(ha.getD i.aN 0).testBit k.aN=true\/(pe k i (rB C)=true/\ ∀p∈oN k i,p∈i.a4)
  |[],_,C,i,cL,h=>h.1 C i cL rfl
  |_::cf,k,C,i,cL,h=>oi.pc cf k C i cL h.2
theorem oi.aeH{ha:List Nat}: ∀(cf:List bp) (x:bp) (C:List bp),oi ha (cf++x::C)->oi ha (cf++C)
  |[],_,_,h=>h.2
  | k::cf,x,C,h=>by
    refine⟨λbP i post e=> ?_,oi.aeH cf x C h.2⟩;rcases List.append_eq_append_iff.1 e with⟨bz,aK,aR⟩|⟨bs,aK,aR⟩
    · -- i aGJ Oj x
      have:=h.1 (cf++x::bz) i post (by rw[aR];simp);refine this.imp id λaH=>⟨Ju (λt bt=> ?_) aH.1,aH.2⟩;rw[aK]at bt;obtain⟨eX,qS,ze⟩:=tJ.1 bt;refine tJ.2 ⟨eX,?_,ze⟩;rcases kE.1 qS with D|D
      · exact mo _ D
      · exact lG _ (by simp[D])
    · cases bs with
      | nil=>simp only[u4]at aK;simp only[tM]at aR;have:=h.1 (cf++[x]) i post (by rw[<-aR];simp);refine this.imp id λaH=>⟨Ju (λt bt=> ?_) aH.1,aH.2⟩;rw[<-aK]at bt;obtain⟨eX,qS,ze⟩:=tJ.1 bt;exact tJ.2 ⟨eX,mo _ qS,ze⟩
      | cons b bs=>simp only[wR,so]at aR;obtain⟨rfl,aR⟩:=aR;exact h.1 bP i (bs++x::C) (by rw[aK];simp)
theorem au8{ha:List Nat}{o:Oper}{b:Nat}(h:(MA ha o).testBit b=true): ∃e∈o.after,Region.binds .any e=true/\(e.on=b\/(ha.getD e.on 0).testBit b=true):=by
  unfold MA at h;have key: ∀(l:List Edge) (s:Nat),(l.foldl (λs e=>if Region.binds .any e then s|||2^e.on|||ha.getD e.on 0 else s) s).testBit b=true->s.testBit b=true\/ ∃e∈l,Region.binds .any e=true/\(e.on=b\/(ha.getD e.on 0).testBit b=true):=by
    intro l;induction l with
    |nil=>intro s h;exact .inl h
    | cons e l cc=>
      intro s h;simp only[wS]at h;rcases cc _ h with D|⟨dX,ajh,H⟩
      · split at D
        · rename_i hb;simp only[Nat.testBit_or,rq,Nat.testBit_two_pow,eO]at D;rcases D with(D|D)|D
          · exact .inl D
          · exact .inr ⟨e,by simp,hb,.inl D⟩
          · exact .inr ⟨e,by simp,hb,.inr D⟩
        · exact .inl D
      · exact .inr ⟨dX,by simp[ajh],H⟩
  rcases key _ 0 h with D|⟨e,bb,H⟩
  · simp at D
  · exact⟨e,by simpa using bb,H⟩
theorem Su{hV:Nat->Prop}(W4: ∀j hh,ops[j]?=some hh->hV j-> ∀e∈hh.after,Region.binds .any e=true->hV e.on):
    ∀ (l:List Oper) (dC:List Nat),(∀j,l[j]?=ops[dC.length+j]?)->
      (∀j,j<dC.length-> ∀hh,ops[j]?=some hh->(∀e∈hh.after,Region.binds .any e=true->hV e.on)-> ∀b,(dC.getD j 0).testBit b=true->hV b)->
      ∀j hh,ops[j]?=some hh->(∀e∈hh.after,Region.binds .any e=true->hV e.on)-> ∀b,((x7 l dC).getD j 0).testBit b=true->hV b
  | [],dC,aD,JY,j,hh,b1,ay,b,hb=>by
    simp only[x7]at hb;by_cases h:j<dC.length
    · exact JY j h hh b1 ay b hb
    · rw[mV,pP (by omega)]at hb;simp at hb
  | o::l,dC,aD,JY,j,hh,b1,ay,b,hb=>by
    have aC:ops[dC.length]?=some o:=(by have:=aD 0;simpa using this.symm);refine Su W4 l (dC++[MA dC o]) (λi=>by have:=aD (i+1);simp at this⊢;rw[this];congr 1;omega) (λi ak Av BR W8 ca fN=> ?_) j hh b1 ay b hb;simp only[jI,pS,wT]at ak;by_cases h:i<dC.length
    · rw[mV,tH h,<-mV]at fN;exact JY i h Av BR W8 ca fN
    · have ke:i=dC.length:=(by omega);subst ke;rw[mV,u0 (dW _)]at fN;simp only[Nat.sub_self,List.getElem?_cons_zero,Bg]at fN;have:Av=o:=Option.some.inj (BR.symm.trans aC);subst this;obtain⟨e,bb,E8,H⟩:=au8 fN;have Xu:=W8 e bb E8;rcases H with rfl|H
      · exact Xu
      · by_cases aq:e.on<dC.length
        · have gQ: ∃ML,ops[e.on]?=some ML:=by
            have M:dC.length<ops.size:=(tG.1 aC).1;exact⟨ops[e.on],yF (by omega)⟩
          obtain⟨ML,hr⟩:=gQ;exact JY e.on aq ML hr (W4 e.on ML hr Xu) ca H
        · rw[mV,pP (by omega)]at H;simp at H
end
section
variable {P:Program} {aX:Nat} {bG:Callee} {base:Nat} {ops:Array Oper} {cQ:Nat}
theorem Mv{hV:Array Bool}{i j:Nat}(ak:i<hV.size):(hV.setIfInBounds i true).getD j false=true↔(j=i\/hV.getD j false=true):=by
  by_cases h:i=j
  · subst h;simp[ak]
  · rw[getD_set_ne false h];constructor
    · exact .inr
    · rintro(bN|bN)
      · exact absurd bN.symm h
      · exact bN
theorem Vj(b0:o2 P aX bG){Q:Exit->Act->World->Prop}{agp:aM}{adI:W}{Oi:Nat}: ∀(kd:Nat) (L:List bp) (hV:Array Bool) (z:aM) (m:W) (a:Act) (w:World) (aj:eE),
    L.length=kd->hV.size=ops.size->(∀j,j<ops.size->(hV.getD j false=true↔ ∀b8∈L,b8.aN≠j))->
    (∀j hh,ops[j]?=some hh->hV.getD j false=true-> ∀e∈hh.after,Region.binds .any e=true->hV.getD e.on false=true)->
    (∀b8∈L,∃o,va P ops cQ b8 o)->(L.map (·.aN)).Nodup->oi (x7 ops.toList []) L->
    (∀bP b8 post,L=bP++b8::post-> ∀hh,ops[b8.aN]?=some hh-> ∀e∈hh.after,Region.binds .any e=true->hV.getD e.on false=true\/ ∃k∈bP,k.aN=e.on)->
    gx aj cQ z a->dy aX aj m w->aX<=w.heap.size->Oi<=base->(∀b8∈L,b8.k.eW=true->base+b8.aN<m.next/\m.X (base+b8.aN)=none/\aj (base+b8.aN)=none)->base<=m.next->
    jG bG base L z m=some (agp,adI)->
    (∀dF cN cC,ga aj cC->(∀b,b<Oi->cC b=aj b)->gx cC cQ agp dF->dy aX cC adI cN->Below aX w cN->Q .normal dF cN)->wpAny P .any ops Q kd hV a w
  | 0,L,hV,z,m,a,w,aj,eS,iX,zi,_,_,_,_,_,M,av,_,_,_,_,hs,bT=>by have eZ:L=[]:=pO.1 eS;subst eZ;simp only[jG,ll,wU]at hs;obtain⟨rfl,rfl⟩:=hs;refine⟨?_,bT a w aj (ga.refl aj) (λ_ _=>rfl) M av (Below.refl _ _)⟩;apply List.eq_nil_iff_forall_not_mem.2;intro i ak;obtain⟨D,hh,H,_⟩:=mem_ready.1 ak;have ek:i<ops.size:=(tG.1 H).1;have:=(zi i ek).2 (by simp);rw[getD_both D]at this;cases this
  | kd+1,L,hV,z,m,a,w,aj,eS,iX,zi,W3,vz,hS,Xe,Ke,M,av,cK,kL,eg,aEC,hs,bT=>by
    refine⟨λPL=> ?_,λi ak=> ?_⟩
    · -- pM first dR aHD z1 ready
      exfalso;cases L with
      |nil=>simp at eS
      | cons b8 L=>
        obtain⟨o,aC⟩:=vz b8 (by simp);have ek:b8.aN<ops.size:=(tG.1 aC.1).1;have pl:b8.aN∈Region.ready .any ops hV:=by
          refine mem_ready.2 ⟨?_,o,aC.1,λe bb hb=> ?_⟩
          · have:hV.getD b8.aN false≠true:= λh=>(zi b8.aN ek).1 h b8 (by simp) rfl;exact getD_in (by rw[iX];exact ek) (by simpa using this)
          · rcases Ke [] b8 L rfl o aC.1 e bb hb with h|⟨k,aa,_⟩
            · exact h
            · cases aa
        rw[PL]at pl;cases pl
    · obtain⟨akb,Av,BR,W7⟩:=mem_ready.1 ak;have ek:i<ops.size:=(tG.1 BR).1;have akc:hV.getD i false=false:=getD_both akb;have rP: ∃b8∈L,b8.aN=i:=by
        by_cases h: ∃b8∈L,b8.aN=i
        · exact h
        · exfalso;have:=(zi i ek).2 (λb8 ks e=>h ⟨b8,ks,e⟩);rw[akc]at this;cases this
      obtain⟨b8,ks,rfl⟩:=rP;obtain⟨bP,post,rfl⟩:=List.append_of_mem ks;simp only[tL,ln,wQ,List.nodup_cons]at hS;have BT: ∀k∈bP,k.aN≠b8.aN:= λk aa e=>hS.2.2 k.aN (g4.2 ⟨k,aa,rfl⟩) b8.aN (by simp) e;have J3: ∀cf k C,bP=cf++k::C->pe k b8 (rB C)=true/\ ∀p∈oN k b8,p∈b8.a4:=by
        intro cf k C e;subst e;rcases oi.pc cf k C b8 post (by simpa using Xe)with h|h
        · exfalso;have aa:hV.getD k.aN false=true:=Su (ops:=ops) (hV:= λj=>hV.getD j false=true) W3 ops.toList [] (by simp) (by simp) b8.aN Av BR W7 k.aN h;obtain⟨aeb,Fp⟩:=vz k (by simp);exact(zi k.aN (tG.1 Fp.1).1).1 aa k (by simp) rfl
        · exact h
      have J4:=eg b8 (by simp);obtain⟨bI,bg,_,_,_,D,H,_,_,_⟩:=move b0 bP z m hs J3 BT (λfc=>⟨(J4 fc).2.1,(J4 fc).1⟩);obtain⟨o,aC⟩:=vz b8 (by simp);have jW:=DH b0 D;refine afm b0 aC M av cK (λfc=>(J4 fc).1) (λfc=>(J4 fc).2.2) D λdF cN cC a3 br bX e1 fY=> ?_;refine Vj b0 kd (bP++post) (hV.setIfInBounds b8.aN true) bI bg dF cN cC (by simp at eS⊢;omega) (by simp[iX]) (λj b1=> ?_) (λj hh rT b1 e bb hb=> ?_) (λk aa=>vz k (by
          rcases kE.1 aa with h|h
          · exact mo _ h
          · exact lG _ (by simp[h]))) ?_ (oi.aeH bP b8 post Xe) (λawb k aeq e hh rT rC bb hb=> ?_) bX e1 (kZ cK fY.size) kL (λk aa fc=> ?_) (by omega) H (λbJ e3 lW fX g1 hL jb uH=>bT bJ e3 lW (a3.trans fX) (λb hb=>(g1 b hb).trans (br b (by omega) (by omega))) hL jb (fY.trans uH))
      · rw[Mv (by rw[iX];exact ek)];constructor
        · rintro(rfl|h) k aa e
          · rcases kE.1 aa with h|h
            · exact BT k h e
            · exact hS.2.1.1 (g4.2 ⟨k,h,e⟩)
          · refine(zi j b1).1 h k ?_ e;rcases kE.1 aa with h|h
            · exact mo _ h
            · exact lG _ (by simp[h])
        · intro h;by_cases e:j=b8.aN
          · exact .inl e
          · refine .inr ((zi j b1).2 λk aa dX=> ?_);rcases kE.1 aa with bN|bN
            · exact h k (mo _ bN) dX
            · rcases gT.1 bN with bN|bN
              · subst bN;exact e dX.symm
              · exact h k (lG _ bN) dX
      · rw[Mv (by rw[iX];exact ek)]at b1⊢;rcases b1 with rfl|b1
        · have:hh=Av:=Option.some.inj (rT.symm.trans BR);subst this;exact .inr (W7 e bb hb)
        · exact .inr (W3 j hh rT b1 e bb hb)
      · simp only[tL,wQ];exact⟨hS.1,hS.2.1.2,λx G y ag=>hS.2.2 x G y (by simp[ag])⟩
      · rw[Mv (by rw[iX];exact ek)];rcases List.append_eq_append_iff.1 e with⟨bz,aK,aR⟩|⟨bs,aK,aR⟩
        · rcases Ke (bP++b8::bz) k aeq (by rw[aR];simp) hh rT rC bb hb with h|⟨eX,qS,cB⟩
          · exact .inl (.inr h)
          · rcases kE.1 qS with h|h
            · exact .inr ⟨eX,by rw[aK];exact mo _ h,cB⟩
            · rcases gT.1 h with h|h
              · subst h;exact .inl (.inl cB.symm)
              · exact .inr ⟨eX,by rw[aK];exact lG _ h,cB⟩
        · cases bs with
          | nil=>
            simp only[u4]at aK;simp only[tM]at aR;rcases Ke (bP++[b8]) k aeq (by rw[<-aR];simp) hh rT rC bb hb with h|⟨eX,qS,cB⟩
            · exact .inl (.inr h)
            · rcases kE.1 qS with h|h
              · exact .inr ⟨eX,by rw[<-aK];exact h,cB⟩
              · simp only[oX]at h;subst h;exact .inl (.inl cB.symm)
          | cons b bs=>
            simp only[wR,so]at aR;obtain⟨rfl,aR⟩:=aR;rcases Ke awb k (bs++b8::post) (by rw[aK];simp) hh rT rC bb hb with h|h
            · exact .inl (.inr h)
            · exact .inr h
      · have rQ:k∈bP++b8::post:=by
          rcases kE.1 aa with h|h
          · exact mo _ h
          · exact lG _ (by simp[h])
        have Xk:k.aN≠b8.aN:=by
          rcases kE.1 aa with h|h
          · exact BT k h
          · exact λe=>hS.2.1.1 (g4.2 ⟨k,h,e⟩)
        obtain⟨aQ,a7,cD⟩:=eg k rQ fc;exact⟨by omega,Ny b0 D aQ (by omega) a7,by rw[br _ aQ (by omega)];exact cD⟩
theorem VI{aN:Nat}{b8:bp}(h:Ji P ops cQ aN=some b8):b8.aN=aN/\ ∃o,va P ops cQ b8 o:=by
  unfold Ji at h;split at h
  · rename_i o aC;split at h
    · rename_i k g aa aF;split at h
      · rename_i ay;cases h;exact⟨rfl,o,aC,aa,aF,rfl,ay⟩
      · cases h
    · cases h
  · cases h
theorem Om: ∀(Hj:List Nat) (L:List bp),Bu P ops cQ Hj=some L->L.map (·.aN)=Hj/\ ∀b8∈L,∃o,va P ops cQ b8 o
  |[],L,h=>by simp[Bu]at h;subst h;simp
  | aN::r,L,h=>by
    simp only[Bu]at h;split at h
    · rename_i b8 bR D H;cases h;obtain⟨e,o,aC⟩:=VI D;obtain⟨aQ,a7⟩:=Om r bR H;refine⟨by simp[e,aQ],λk aa=> ?_⟩;rcases gT.1 aa with rfl|aa
      · exact⟨o,aC⟩
      · exact a7 k aa
    · cases h
theorem VW{ha:List Nat}{i:bp}: ∀(lg:List bp) (qH:List Nat),Jp ha i lg qH=true->(∀p∈sB ha i lg,p∈i.a4)->
    ∀cf k C,lg=cf++k::C->(ha.getD i.aN 0).testBit k.aN=true\/(pe k i (qH++rB cf)=true/\ ∀p∈oN k i,p∈i.a4)
  |[],_,_,_,cf,k,C,e=>by simp at e
  | x::lg,qH,h,g5,cf,k,C,e=>by
    simp only[Jp,aY,rq]at h;cases cf with
    | nil=>
      simp only[tM,so]at e;obtain⟨rfl,rfl⟩:=e;rcases h.1 with D|D
      · exact .inl D
      · by_cases hb:(ha.getD i.aN 0).testBit x.aN=true
        · exact .inl hb
        · refine .inr ⟨by simpa[rB]using D,λp ai=>g5 p ?_⟩;simp only[sB,if_neg hb];exact mo _ ai
    | cons a cf=>
      simp only[wR,so]at e;obtain⟨rfl,rfl⟩:=e;have:=VW (cf++k::C) (qH++x.d.toList) h.2 (λp ai=>g5 p (by simp only[sB];exact lG _ ai)) cf k C rfl;refine this.imp id λaH=>⟨Ju (λt bt=> ?_) aH.1,aH.2⟩;simp only[rB,List.filterMap_cons]at bt⊢;cases ay:x.d with
      |none=>rw[ay]at bt;simpa using bt
      |some d=>rw[ay]at bt;simpa using bt
theorem VG{ha:List Nat}: ∀(Hj:List Nat) (lg:List bp) (L:List bp),Ew P ops cQ ha Hj lg=some L->oi ha lg.reverse->
    L.map (·.aN)=Hj/\(∀b8∈L,∃o,va P ops cQ b8 o)/\oi ha (lg.reverse++L)/\
    (∀bP b8 post,L=bP++b8::post-> ∀hh,ops[b8.aN]?=some hh-> ∀e∈hh.after,Region.binds .any e=true-> ∃k∈lg.reverse++bP,k.aN=e.on)
  | [],lg,L,h,aF=>by simp[Ew]at h;subst h;exact⟨rfl,by simp,by simpa using aF,by simp⟩
  | aN::r,lg,L,h,aF=>by
    simp only[Ew]at h;split at h
    · rename_i ik D;split at h
      · rename_i g5;split at h
        · rename_i bR aj2;cases h;simp only[aY]at g5;obtain⟨aK,op,bx⟩:=VI D;have ar:va P ops cQ ⟨ik.aN,ik.d,ik.g,ik.k,sB ha ik lg⟩ op:=bx;have oA:oi ha (bp.mk ik.aN ik.d ik.g ik.k (sB ha ik lg)::lg).reverse:=by
            rw[List.reverse_cons];have l9:=VW lg [] g5.1 (λp ai=>by
              have: ∀(l:List bp),sB ha ⟨ik.aN,ik.d,ik.g,ik.k,sB ha ik lg⟩ l=sB ha ik l:=by
                intro l;induction l with
                |nil=>rfl
                |cons x l cc=>simp only[sB];rw[cc];rfl
              rw[this]at ai;exact ai)
            -- pM new ni Oj all
            have key: ∀(l:List bp) (x:bp),oi ha l->(∀cf k C,l=cf++k::C->(ha.getD x.aN 0).testBit k.aN=true\/(pe k x (rB C)=true/\ ∀p∈oN k x,p∈x.a4))->oi ha (l++[x]):=by
              intro l x;induction l with
              |nil=>intro _ _;exact⟨by intro bP i post e;simp at e,trivial⟩
              | cons k l cc=>
                intro aD G;refine⟨λbP i post e=> ?_,cc aD.2 λcf eX C e=>G (k::cf) eX C (by rw[e];rfl)⟩;rcases List.append_eq_append_iff.1 e with⟨bz,aK,aR⟩|⟨bs,aK,aR⟩
                · cases bz with
                  | nil=>simp only[tM,so]at aR;obtain⟨rfl,_⟩:=aR;simp only[u4]at aK;subst aK;exact G [] k bP rfl
                  |cons y bz=>simp at aR
                · cases bs with
                  | nil=>simp only[tM,so]at aR;obtain⟨rfl,_⟩:=aR;simp only[u4]at aK;subst aK;exact G [] k l rfl
                  | cons y bs=>simp only[wR,so]at aR;obtain⟨rfl,aR⟩:=aR;exact aD.1 bP i bs aK
            refine key _ _ aF λcf k C e=> ?_;have dX:lg=C.reverse++k::cf.reverse:=by have:=congrArg List.reverse e;simpa using this
            refine(l9 C.reverse k cf.reverse dX).imp id λaH=>⟨Ju (λt bt=> ?_) aH.1,aH.2⟩;simp only[rB,tM,tJ,List.mem_reverse]at bt⊢;exact bt
          obtain⟨aQ,a7,cD,dI⟩:=VG r _ bR aj2 oA;refine⟨by simp[aK,aQ],λk aa=> ?_,by simpa using cD,λbP b8 post e hh rT rC bb hb=> ?_⟩
          · rcases gT.1 aa with rfl|aa
            · exact⟨op,ar⟩
            · exact a7 k aa
          · cases bP with
            | nil=>
              simp only[tM,so]at e;obtain⟨rfl,_⟩:=e;have bq:=g5.2;simp only[aK]at rT;simp only[afA,rT]at bq;simp only[eQ,rq,u1,List.any_eq_true,beq_iff_eq]at bq;rcases bq rC (by simpa using bb)with cP|⟨k,aa,cP⟩
              · rw[hb]at cP;cases cP
              · exact⟨k,by simpa using aa,cP⟩
            | cons x bP=>simp only[wR,so]at e;obtain⟨rfl,e⟩:=e;obtain⟨k,aa,cP⟩:=dI bP b8 post e hh rT rC bb hb;exact⟨k,by simpa using aa,cP⟩
        · cases h
      · cases h
    · cases h
end
def du.wK:du->Exit
  | .er=> .normal
  | .bh id=> .exit id
  | .aI=> .ret
section
variable {P:Program} {aX:Nat} {bG:Callee} {cQ n:Nat}
theorem ad8: ∀(l:List Nat),uE l=true->l.Nodup
  |[],_=>List.nodup_nil
  | x::l,h=>by simp only[uE,aY,u1,List.contains_eq_mem,decide_eq_false_iff_not]at h;exact List.nodup_cons.2 ⟨h.1,ad8 l h.2⟩
theorem av3{l:List Nat}(h:SV n l=true):l.Nodup/\(∀i,i∈l↔i<n)/\l.length=n:=by simp only[SV,aY,eO,eQ,qz,List.contains_iff_mem]at h;obtain⟨⟨⟨D,H⟩,aq⟩,aE⟩:=h;exact⟨ad8 l H,λi=>⟨λak=>aq i ak,λak=>aE i ak⟩,D⟩
theorem aiK{m:W}{b:Nat}(h:m.next<=b):m.X b=none:=by unfold W.X;rw[if_neg (by omega)]
theorem HP(L:List bp)(m:W):m.next<=(gW L m).next/\((∃o∈L,o.k.eW=true)->(gW L m).next=m.next+L.length):=by
  unfold gW;split
  · exact⟨by rw[W.sy];omega,λ_=>rfl⟩
  · rename_i h;refine⟨dW _,λ⟨o,aC,H⟩=>absurd (List.any_eq_true.2 ⟨o,aC,H⟩) h⟩
theorem aeF(L:List bp)(m:W)(b:Nat):(gW L m).X b=m.X b:=by
  unfold gW;split
  · exact W.e6 m _ b
  · rfl
theorem dy.gW{m:W}{w:World}{aj:eE}(h:dy aX aj m w)(L:List bp):dy aX aj (Go.DI.gW L m) w:=by
  unfold Go.DI.gW;split
  · exact h.dp _
  · exact h
theorem VS{ops:Array Oper}{Q:Exit->Act->World->Prop}(bt:afu ops=true)(xm:VR (x7 ops.toList []) ops.size=true): ∀(kd k:Nat) (hV:Array Bool) (a:Act) (w:World),k+kd=ops.size->hV.size=ops.size->
    (∀j,j<ops.size->(hV.getD j false=true↔j<k))->wpOps P ops Q (List.range' k kd) a w->wpAny P .any ops Q kd hV a w
  | 0,k,hV,a,w,aa,iX,aD,h=>by refine⟨?_,h⟩;apply List.eq_nil_iff_forall_not_mem.2;intro i ak;obtain⟨D,hh,H,_⟩:=mem_ready.1 ak;have ek:i<ops.size:=(tG.1 H).1;have:=(aD i ek).2 (by omega);rw[getD_both D]at this;cases this
  | kd+1,k,hV,a,w,aa,iX,aD,h=>by
    have Fi:k<ops.size:=(by omega);have Ua: ∀j hh,ops[j]?=some hh-> ∀e∈hh.after,Region.binds .any e=true->e.on<j:=by
      intro j hh b1 e bb hb;have ek:j<ops.size:=(tG.1 b1).1;have:=eQ.1 bt j (qz.2 ek);simp only[b1,eQ,rq,u1,eO]at this;rcases this e (by simpa using bb)with h|h
      · rw[hb]at h;cases h
      · exact h
    have b0: ∀j hh,ops[j]?=some hh->hV.getD j false=true-> ∀e∈hh.after,Region.binds .any e=true->hV.getD e.on false=true:=(by intro j hh b1 ajv e bb hb;have ek:j<ops.size:=(tG.1 b1).1;have D:=Ua j hh b1 e bb hb;have H:=(aD j ek).1 ajv;exact(aD e.on (by omega)).2 (by omega));rw[List.range'_succ,wpOps_cons]at h;have step: ∀i∈Region.ready .any ops hV,i=k:=by
      intro i ak;obtain⟨D,Av,H,aq⟩:=mem_ready.1 ak;have ek:i<ops.size:=(tG.1 H).1;have au: ¬i<k:= λajx=>by have:=(aD i ek).2 ajx;rw[getD_both D]at this;cases this
      by_cases e:i=k
      · exact e
      · exfalso;have hb:((x7 ops.toList []).getD i 0).testBit k=true:=by
          have:=eQ.1 xm i (qz.2 ek);exact eQ.1 this k (qz.2 (by omega))
        have:=Su (ops:=ops) (hV:= λj=>hV.getD j false=true) b0 ops.toList [] (by simp) (by simp) i Av H aq k hb;have:=(aD k Fi).1 this;omega
    refine⟨λaz=> ?_,λi ak=> ?_⟩
    · exfalso;obtain⟨o,aC⟩: ∃o,ops[k]?=some o:=⟨ops[k],yF Fi⟩;have pl:k∈Region.ready .any ops hV:=by
        refine mem_ready.2 ⟨?_,o,aC,λe bb hb=> ?_⟩
        · have:hV.getD k false≠true:= λh=>by have:=(aD k Fi).1 h;omega
          exact getD_in (by rw[iX];exact Fi) (by simpa using this)
        · exact(aD e.on (by have:=Ua k o aC e bb hb;omega)).2 (Ua k o aC e bb hb)
      rw[az]at pl;cases pl
    · have e:=step i ak;subst e;refine wpOp_mono (λa w h=>VS bt xm kd (i+1) _ a w (by omega) (by simp[iX]) (λj b1=> ?_) h) h;rw[Mv (by rw[iX];exact Fi),aD j b1];omega
theorem V4: ∀{L:List bp} {r:List bp×bp×List bp},EE L=some r->L=r.1++r.2.1::r.2.2/\r.2.1.k.eW=true
  |[],_,h=>by simp[EE]at h
  | o::L,r,h=>by
    unfold EE at h;split at h
    · rename_i aa;cases h;exact⟨rfl,by simp[aa,af.eW]⟩
    · simp only[rn]at h;obtain⟨⟨a,b,c⟩,D,H⟩:=h;obtain⟨aQ,a7⟩:=V4 D;subst H;exact⟨by simp only at aQ⊢;rw[aQ];rfl,a7⟩
theorem aur(mD:P.follows .mixedOrders=true)(b0: ∀aX,o2 P aX bG){id:Nat}{ops:Array Oper}{qJ:Bool}{oE:J}(ar:Ol P cQ ops qJ=some oE){z ae:aM}{m an:W}{e:du}
    (h:ei bG n oE z m=some (e,ae,an)) {a:Act} {w:World} {aj:eE} (M:gx aj cQ z a) (av:dy aX aj m w) (cK:aX<=w.heap.size) {Q:Exit->Act->World->Prop}
    (bT: ∀dF cN cC,ga aj cC->(∀b,b<m.next->cC b=aj b)->gx cC cQ ae dF->dy aX cC an cN->Below aX w cN->Q e.wK dF cN):(Code.region id ops qJ).wp P Q a w:=by
  have BW: ∀b,m.next<=b->aj b=none:=by
    intro b hb;cases az:aj b with
    |none=>rfl
    |some l=>have:=av.kn b l az;omega
  unfold Ol at ar;split at ar
  · rename_i xm;split at ar
    · rename_i L eZ;simp only[rn]at ar;obtain⟨⟨bP,cf,bR⟩,Ps,rfl⟩:=ar;obtain⟨D,H⟩:=Om _ _ eZ;obtain⟨aK,fc⟩:=V4 Ps;simp only at aK fc;subst aK;have eS:bP.length+(bR.length+1)=ops.size:=(by have:=congrArg List.length D;simpa using this);have hS:((bP++cf::bR).map (·.aN)).Nodup:=(by rw[D];exact List.nodup_range);have p9: ∀b8∈bP++cf::bR,b8.aN<ops.size:= λb8 ks=>by
        have:b8.aN∈(bP++cf::bR).map (·.aN):=g4.2 ⟨b8,ks,rfl⟩;rw[D,qz]at this;exact this
      rw[tL,ln,wQ,List.nodup_cons]at hS;simp only[ei]at h;split at h
      · rename_i bI bg XC;split at h
        · rename_i ao;split at h
          · rename_i dj dH XD;cases h;have jW:m.next+ops.size<=bg.next:=by have:=HT (b0 aX) _ _ _ _ XC;rw[W.sy,eS]at this;exact this
            have xt:(cf.k.gu (m.next+cf.aN) bI bg).next=bg.next:=by
              unfold mI at ao;simp only[aY]at ao;have:=ao.1.2;split at this
              · rename_i aa;rw[aa];simp only[af.gu];split
                · rfl
                · unfold kf;split<;>rfl
              · cases this
            have zk:bg.next<=dH.next:=HT (b0 aX) _ _ _ _ XD
            have key: ∀bZ,dy aX aj m bZ->aX<=bZ.heap.size->Below aX w bZ->wpOps P ops Q (List.range ops.size) a bZ:=by
              intro bZ xr Pa kL;rw[<-D,tL,ln];refine SS (base:=m.next) (b0 aX) bP z _ a bZ aj bI bg (λb8 ks=>H b8 (by simp[ks])) hS.1 M (xr.dp _) Pa (λb8 ks _=>⟨by rw[W.sy,eS];have:=p9 b8 (by simp[ks]);omega,BW _ (by omega)⟩) XC λbw c3 lV a3 br bX e1 fY=> ?_;obtain⟨aHl,ub⟩:=H cf (by simp);have aEn:=p9 cf (by simp);rw[wpOps_cons];refine aus (base:=m.next) ub bX e1 (kZ Pa fY.size) (by omega) ?_ ao λbJ e3 lW fX g1 hL jb uH HI=> ?_
              · rw[br _ (by rw[W.sy,eS];omega) (λb8 ks e=>hS.2.2 b8.aN (g4.2 ⟨b8,ks,rfl⟩) cf.aN (by simp) (by omega))];exact BW _ (by omega)
              · refine aei (base:=m.next) (b0 e3.heap.size) bR _ (m8 bg) bJ e3 lW ae dH (λb8 ks=>H b8 (by simp[ks])) hS.2.1.2 hL uH (dW _) (λb8 ks _=>⟨?_,?_⟩) XD λcb mT aAm fL g8 jt nm wu=> ?_
                · show _<bg.next
                  have:=p9 b8 (by simp[ks]);omega
                · have G:=p9 b8 (by simp[ks]);have cW:b8.aN≠cf.aN:= λe=>hS.2.1.1 (g4.2 ⟨b8,ks,e⟩);rw[g1 _ (by omega),br _ (by rw[W.sy,eS];omega) (λk aa e=>hS.2.2 k.aN (g4.2 ⟨k,aa,rfl⟩) b8.aN (by simp only[gT,g4];exact .inr ⟨b8,ks,rfl⟩) (by omega))];exact BW _ (by omega)
                · have e7:aX<=e3.heap.size:=kZ Pa (kZ fY.size HI.size);refine bT cb mT aAm (a3.trans (fX.trans fL)) (λb hb=> ?_) jt ?_ (kL.trans (fY.trans (HI.trans (wu.mono e7))))
                  · rw[g8 b hb (by show b<bg.next;omega),g1 b (by omega),br b (by rw[W.sy];omega) (λ_ _=>by omega)]
                  · have:=auq rfl jb nm fL (by rw[xt];exact zk) wu
                    rwa [xt]at this
            cases qJ
            · exact wp_region (key w av cK (Below.refl _ _))
            · simp only[Bool.not_true,Bool.false_or,aY]at xm;refine wp_region_any mD ?_;refine VS xm.2.1 xm.2.2 ops.size 0 _ a _ (by omega) (by simp) (λj b1=>by rw[getD_replicate_false];simp) ?_;rw[<-List.range_eq_range'];exact key _ (av.afV rfl) cK ⟨rfl,rfl,rfl,dW _,λ_ _=>rfl⟩
          · cases h
        · cases h
      · cases h
    · cases ar
  · cases ar
theorem awA(mD:P.follows .mixedOrders=true)(b0:o2 P aX bG){id:Nat}{ops:Array Oper}{qJ:Bool}{oE:J}(ar:Jj P cQ ops qJ=some oE){z ae:aM}{m an:W}{e:du}
    (h:ei bG n oE z m=some (e,ae,an)) {a:Act} {w:World} {aj:eE} (M:gx aj cQ z a) (av:dy aX aj m w) (cK:aX<=w.heap.size) {Q:Exit->Act->World->Prop}
    (bT: ∀dF cN cC,ga aj cC->(∀b,b<m.next->cC b=aj b)->gx cC cQ ae dF->dy aX cC an cN->Below aX w cN->Q e.wK dF cN):(Code.region id ops qJ).wp P Q a w:=by
  have BW: ∀b,m.next<=b->aj b=none:=by
    intro b hb;cases az:aj b with
    |none=>rfl
    |some l=>have:=av.kn b l az;omega
  cases qJ
  · simp only[Jj]at ar;split at ar
    · rename_i L eZ;cases ar;obtain⟨D,H⟩:=Om _ _ eZ;simp only[ei]at h;split at h
      · rename_i bI bg hs;cases h;have eS:L.length=ops.size:=(by have:=congrArg List.length D;simpa using this);refine wp_region ?_;rw[<-D];refine aei (base:=m.next) b0 L z _ a w aj ae an H (by rw[D];exact List.nodup_range) M (av.gW L) cK (λb8 ks fc=> ?_) hs λdF cN cC a3 br bX e1 fY=>bT dF cN cC a3 (λb hb=>br b hb (by have:=(HP L m).1;omega)) bX e1 fY;have:b8.aN∈L.map (·.aN):=g4.2 ⟨b8,ks,rfl⟩;rw[D,qz]at this;exact⟨by rw[(HP L m).2 ⟨b8,ks,fc⟩];omega,BW _ (by omega)⟩
      · cases h
    · cases ar
  · simp only[Jj]at ar;split at ar
    · rename_i ajT;split at ar
      · rename_i L eZ;cases ar;obtain⟨fX,g1,hL⟩:=av3 ajT;obtain⟨D,H,aq,aE⟩:=VG _ [] L eZ trivial;simp only[List.reverse_nil,tM]at aq aE;simp only[ei]at h;split at h
        · rename_i bI bg hs;cases h;have eS:L.length=ops.size:=(by rw[<-hL,<-D];simp);have k8:dy aX aj (gW L m) {w with drawn:=w.drawn+1}:=(av.gW L).afV rfl;refine wp_region_any mD ?_;refine Vj (base:=m.next) (Oi:=m.next) b0 ops.size L _ z _ a _ aj eS (by simp) (λj b1=> ?_) (λj hh _ aD=>by rw[getD_replicate_false]at aD;cases aD) H (by rw[D];exact fX) aq (λbP b8 post e hh rT rC bb hb=> .inr (aE bP b8 post e hh rT rC bb hb)) M k8 cK (dW _) (λb8 ks fc=> ?_) (HP L m).1 hs λdF cN cC a3 br bX e1 fY=>bT dF cN cC a3 br bX e1 (Below.trans (a:=w) (b:={w with drawn:=w.drawn+1}) ⟨rfl,rfl,rfl,dW _,λ_ _=>rfl⟩ fY)
          · rw[getD_replicate_false];constructor
            · intro h;cases h
            · intro h;exfalso;have:j∈L.map (·.aN):=(by rw[D,g1];exact b1);obtain⟨b8,ks,e⟩:=g4.1 this;exact h b8 ks e
          · have:b8.aN∈L.map (·.aN):=g4.2 ⟨b8,ks,rfl⟩;rw[D,g1]at this;exact⟨by rw[(HP L m).2 ⟨b8,ks,fc⟩];omega,by rw[aeF];exact aiK (by omega),BW _ (by omega)⟩
        · cases h
      · cases ar
    · cases ar
theorem Hi{f:aM->W->Option (du×aM×W)}{j:Nat}{z:aM}{m:W}{r:du×aM×W}(h:jm f (j+1) z m=some r):
    (∃bI bg,f z m=some (.er,bI,bg)/\jm f j bI bg=some r)\/(f z m=some r/\r.1≠ .er):=by
  simp only[jm]at h;split at h
  · rename_i bI bg D;exact .inl ⟨bI,bg,D,h⟩
  · rename_i D;refine .inr ⟨h,λe=> ?_⟩;obtain⟨fL,g8,jt⟩:=r;simp only at e;subst e;exact D _ _ h
theorem rD(b0:o2 P aX bG): ∀(c:J) (z:aM) (m:W) (e:du) (ae:aM) (an:W),ei bG n c z m=some (e,ae,an)->m.next<=an.next/\ ∀b,b<m.next->m.X b=none->an.X b=none
  | .skip,z,m,e,ae,an,h=>by simp[ei]at h;obtain⟨_,_,rfl⟩:=h;exact⟨dW _,λ_ _ h=>h⟩
  | .F ops,z,m,e,ae,an,h=>by
    simp only[ei]at h;split at h
    · rename_i bI bg hs;cases h;have D:=HT b0 ops z _ _ hs;have H:=(HP ops m).1;exact⟨by simp only at D;omega,λb hb aF=>Tj b0 hb ops z _ _ H hs (by rw[aeF];exact aF)⟩
    · cases h
  | .qh bP o bR,z,m,e,ae,an,h=>by
    simp only[ei]at h;split at h
    · rename_i bI bg D;split at h
      · rename_i ao;split at h
        · rename_i dj dH H;cases h;have aQ:=HT b0 _ _ _ _ D;rw[W.sy]at aQ;have oB:g9 bG m.next o bI bg=some (c0 bI o.d (o.k.val (m.next+o.aN) bI bg),o.k.gu (m.next+o.aN) bI bg):=by
            unfold mI at ao;simp only[aY,yG]at ao;refine afl ?_ (q1 (MM ao.2)) ao.2;rw[ao.1.1];rfl
          have a7:=DH b0 oB;rw[W.sy];refine⟨by simp only at aQ;omega,λb hb aF=> ?_⟩;rw[W.e6];exact Ny b0 oB (by simp only at aQ;omega) (by omega) (Tj b0 hb bP z _ _ (by rw[W.sy];omega) D (by rw[W.e6];exact aF))
        · cases h
      · cases h
    · cases h
  | .B c d,z,m,e,ae,an,h=>by
    simp only[ei]at h;split at h
    · rename_i bI bg D;obtain⟨bw,bJ⟩:=rD b0 c z m _ bI bg D;obtain⟨dk,ev⟩:=rD b0 d bI bg _ _ _ h;exact⟨by omega,λb hb aF=>ev b (by omega) (bJ b hb aF)⟩
    · exact rD b0 c z m _ _ _ h
  | .aV x c d,z,m,e,ae,an,h=>by
    simp only[ei]at h;split at h
    · split at h
      · exact rD b0 c z m _ _ _ h
      · exact rD b0 d z m _ _ _ h
    · cases h
  | .block id c,z,m,e,ae,an,h=>by
    simp only[ei]at h;split at h
    · rename_i iB bI bg D;have:=rD b0 c z m _ bI bg D;split at h<;>cases h<;>exact this
    · exact rD b0 c z m _ _ _ h
  | .loop c,z,m,e,ae,an,h=>by
    simp only[ei]at h;have key: ∀(j:Nat) (z:aM) (m:W),jm (ei bG n c) j z m=some (e,ae,an)->m.next<=an.next/\ ∀b,b<m.next->m.X b=none->an.X b=none:=by
      intro j;induction j with
      |zero=>intro z m h;simp[jm]at h
      | succ j cc=>
        intro z m h;rcases Hi h with⟨bI,bg,D,H⟩|⟨D,_⟩
        · obtain⟨bw,bJ⟩:=rD b0 c z m _ bI bg D;obtain⟨dk,ev⟩:=cc bI bg H;exact⟨by omega,λb hb aF=>ev b (by omega) (bJ b hb aF)⟩
        · exact rD b0 c z m _ _ _ D
    exact key n z m h
  | .bh id,z,m,e,ae,an,h=>by simp[ei]at h;obtain⟨_,_,rfl⟩:=h;exact⟨dW _,λ_ _ h=>h⟩
  | .aI,z,m,e,ae,an,h=>by simp[ei]at h;obtain⟨_,_,rfl⟩:=h;exact⟨dW _,λ_ _ h=>h⟩
theorem afz{e:du}(h:e≠ .er):e.wK≠ .normal:=by cases e<;>simp[du.wK]at h⊢
theorem afv{aT:Act->World->Prop}{Q:Exit->Act->World->Prop}{e:Exit}{a:Act}{w:World}(h:e≠ .normal)(bc:Q e a w):Exit.then aT Q e a w:=by cases e<;>first|exact bc|exact absurd rfl h
theorem tV(mD:P.follows .mixedOrders=true)(b0: ∀aX,o2 P aX bG): ∀(c:Code) (oE:J),p1 P cQ c=some oE-> ∀(z:aM) (m:W) (e:du) (ae:aM) (an:W),ei bG n oE z m=some (e,ae,an)->
    ∀(a:Act) (w:World) (aj:eE),gx aj cQ z a->dy aX aj m w->aX<=w.heap.size-> ∀(Q:Exit->Act->World->Prop),
    (∀dF cN cC,ga aj cC->(∀b,b<m.next->cC b=aj b)->gx cC cQ ae dF->dy aX cC an cN->Below aX w cN->Q e.wK dF cN)->c.wp P Q a w
  | .skip,oE,ar,z,m,e,ae,an,h,a,w,aj,M,av,cK,Q,bT=>by cases ar;simp[ei]at h;obtain⟨rfl,rfl,rfl⟩:=h;exact wp_skip (bT a w aj (ga.refl aj) (λ_ _=>rfl) M av (Below.refl _ _))
  | .region id ops qJ,oE,ar,z,m,e,ae,an,h,a,w,aj,M,av,cK,Q,bT=>by
    simp only[p1]at ar;split at ar
    · rename_i c aD;cases ar;exact aur mD b0 aD h M av cK bT
    · exact awA mD (b0 aX) ar h M av cK bT
  | .seq c d,oE,ar,z,m,e,ae,an,h,a,w,aj,M,av,cK,Q,bT=>by
    simp only[p1]at ar;split at ar
    · rename_i x y G ag;cases ar;refine wp_seq ?_;simp only[ei]at h;split at h
      · rename_i bI bg D;refine tV mD b0 c x G z m _ bI bg D a w aj M av cK _ λbw c3 lV a3 br bX e1 fY=> ?_;have au:=(rD (b0 aX) x z m _ bI bg D).1;refine tV mD b0 d y ag bI bg e ae an h bw c3 lV bX e1 (kZ cK fY.size) Q λbJ e3 lW fX g1 hL jb uH=> ?_;exact bT bJ e3 lW (a3.trans fX) (λb hb=>(g1 b (by omega)).trans (br b hb)) hL jb (fY.trans uH)
      · rename_i cW;refine tV mD b0 c x G z m _ ae an h a w aj M av cK _ λbw c3 lV a3 br bX e1 fY=> ?_;refine afv (afz λbb=> ?_) (bT bw c3 lV a3 br bX e1 fY);subst bb;exact cW _ _ h
    · cases ar
  | .cond x c d,oE,ar,z,m,e,ae,an,h,a,w,aj,M,av,cK,Q,bT=>by
    simp only[p1]at ar;split at ar
    · rename_i y I ag bD;split at ar<;>cases ar;rename_i G;simp only[ei]at h;split at h
      · rename_i hb;have az:=M.Y G;cases ad:Y z x<;>simp[ad,rX]at hb;rename_i t;rw[ad]at az h;refine wp_cond az.qd ?_;simp only[tU]at h;cases t
        · exact tV mD b0 d I bD z m e ae an h a w aj M av cK Q bT
        · exact tV mD b0 c y ag z m e ae an h a w aj M av cK Q bT
      · cases h
    · cases ar
  | .block id c,oE,ar,z,m,e,ae,an,h,a,w,aj,M,av,cK,Q,bT=>by
    simp only[p1]at ar;split at ar
    · rename_i x G;cases ar;refine wp_block ?_;simp only[ei]at h;split at h
      · rename_i iB bI bg D;refine tV mD b0 c x G z m _ bI bg D a w aj M av cK _ λbw c3 lV a3 br bX e1 fY=> ?_;show if iB=id then Q .normal bw c3 else Q (.exit iB) bw c3
        split at h
        · rename_i bb;cases h;rw[if_pos bb];exact bT bw c3 lV a3 br bX e1 fY
        · rename_i bb;cases h;rw[if_neg bb];exact bT bw c3 lV a3 br bX e1 fY
      · rename_i cW;refine tV mD b0 c x G z m _ ae an h a w aj M av cK _ λbw c3 lV a3 br bX e1 fY=> ?_;have:=bT bw c3 lV a3 br bX e1 fY;cases e with
        |er=>exact this
        |aI=>exact this
        |bh iB=>exact absurd h (cW _ _ _)
    · cases ar
  | .loop c,oE,ar,z,m,e,ae,an,h,a,w,aj,M,av,cK,Q,bT=>by
    simp only[p1]at ar;split at ar
    · rename_i x G;cases ar;simp only[ei]at h;refine wp_loop_rounds n ?_
      have key: ∀(j:Nat) (z:aM) (m:W) (a:Act) (w:World) (aj:eE),jm (ei bG n x) j z m=some (e,ae,an)->gx aj cQ z a->dy aX aj m w->aX<=w.heap.size->
          (∀dF cN cC,ga aj cC->(∀b,b<m.next->cC b=aj b)->gx cC cQ ae dF->dy aX cC an cN->Below aX w cN->Q e.wK dF cN)->Code.rounds P c Q j a w:=by
        intro j;induction j with
        |zero=>intro z m a w aj h;simp[jm]at h
        | succ j cc=>
          intro z m a w aj h M av cK bT;rw[rounds_succ];rcases Hi h with⟨bI,bg,D,H⟩|⟨D,cW⟩
          · have au:=(rD (b0 aX) x z m _ bI bg D).1;refine tV mD b0 c x G z m _ bI bg D a w aj M av cK _ λbw c3 lV a3 br bX e1 fY=> ?_;exact cc bI bg bw c3 lV H bX e1 (kZ cK fY.size) λbJ e3 lW fX g1 hL jb uH=>bT bJ e3 lW (a3.trans fX) (λb hb=>(g1 b (by omega)).trans (br b hb)) hL jb (fY.trans uH)
          · refine tV mD b0 c x G z m _ ae an D a w aj M av cK _ λbw c3 lV a3 br bX e1 fY=> ?_;exact afv (afz cW) (bT bw c3 lV a3 br bX e1 fY)
      exact key n z m a w aj h M av cK bT
    · cases ar
  | .exit id,oE,ar,z,m,e,ae,an,h,a,w,aj,M,av,cK,Q,bT=>by cases ar;simp[ei]at h;obtain⟨rfl,rfl,rfl⟩:=h;exact wp_exit (bT a w aj (ga.refl aj) (λ_ _=>rfl) M av (Below.refl _ _))
  | .ret,oE,ar,z,m,e,ae,an,h,a,w,aj,M,av,cK,Q,bT=>by cases ar;simp[ei]at h;obtain⟨rfl,rfl,rfl⟩:=h;exact wp_ret (bT a w aj (ga.refl aj) (λ_ _=>rfl) M av (Below.refl _ _))
  | .rangeFunc _ _ _ _,_,ar,_,_,_,_,_,_,_,_,_,_,_,_,_,_=>by cases ar
  | .scope _,_,ar,_,_,_,_,_,_,_,_,_,_,_,_,_,_=>by cases ar
  | .label _,_,ar,_,_,_,_,_,_,_,_,_,_,_,_,_,_=>by cases ar
  | .goto _,_,ar,_,_,_,_,_,_,_,_,_,_,_,_,_,_=>by cases ar
  | .refuse _,_,ar,_,_,_,_,_,_,_,_,_,_,_,_,_,_=>by cases ar
def Dn(a:Act):ResultVar->Sem Value
  | .tmp t=>Pure.pure (a.tmps.getD t undef)
  | .cell x t=>do loadVar t (<-asAddr (a.tmps.getD x undef))
theorem On: ∀(l:List ResultVar) (cl:List k3),vj P cQ l=some cl-> ∀{z:aM} {m:W} {a:Act} {w:World} {aj:eE},gx aj cQ z a->dy aX aj m w->kU m z cl=true->
    ∃cj:List Value,(l.mapM (m:=Sem) (Dn a)).run P w= .ok cj w/\cV aj (cl.map (pG m z)) cj
  | [],cl,h,z,m,a,w,aj,M,av,ao=>by simp[vj]at h;subst h;exact⟨[],by simp,cV.nil aj⟩
  | .tmp t::r,cl,h,z,m,a,w,aj,M,av,ao=>by
    simp only[vj]at h;split at h
    · rename_i l aD;split at h<;>cases h;simp only[kU,mW,aY]at ao;obtain⟨cj,D,H⟩:=On r l aD M av ao.2;refine⟨a.tmps.getD t undef::cj,?_,cV.cons (M.ml t) H⟩;have pn:(Dn a (.tmp t)).run P w= .ok (a.tmps.getD t undef) w:=rfl;simp only[List.mapM_cons,Sem.run_bind,pn,Result.andThen_ok,D,Sem.run_pure]
    · cases h
  | .cell x t::r,cl,h,z,m,a,w,aj,M,av,ao=>by
    simp only[vj]at h;split at h
    · rename_i dd n l sN au aD;split at h<;>cases h;simp only[kU,mW,aY,oQ,rq,eO]at ao;obtain⟨cj,D,H⟩:=On r l aD M av ao.2;obtain⟨dU,ds,aK,aR,cB,gX⟩:=Sp av (M.ml x) ao.1.1 ao.1.2;refine⟨_::cj,?_,cV.cons gX H⟩;have pn:(Dn a (.cell x t)).run P w= .ok (if dd then .agg ds.toArray else ds.headD undef) w:=by
        simp only[Dn,Sem.run_bind,aK,asAddr,Sem.run_pure,Result.andThen_ok,Tn sN au ao.1.2 aR cB]
      simp only[List.mapM_cons,Sem.run_bind,pn,Result.andThen_ok,D,Sem.run_pure]
    · cases h
theorem awE{fn:Func}{cl:List k3}(h:vj P cQ fn.results.toList=some cl){z:aM}{m:W}{a:Act}{w:World}{aj:eE}(M:gx aj cQ z a)(av:dy aX aj m w)(ao:kU m z cl=true):
    ∃v,(results fn a.tmps).run P w= .ok v w/\dB aj (lj m z cl) v:=by
  obtain⟨cj,D,H⟩:=On _ _ h M av ao;refine⟨if h:cj.toArray.size=1 then cj.toArray[0]else .tuple cj.toArray,?_,?_⟩
  · unfold results;simp only[Sem.run_bind];rw[Array.mapM_eq_mapM_toList];simp only[Sem.run_map];have a6:(List.mapM (m:=Sem) (Dn a) fn.results.toList).run P w= .ok cj w:=D;change (((Sem.run P (List.mapM (m:=Sem) (Dn a) fn.results.toList) w).andThen _).andThen _)=_;rw[a6];rfl
  · have eS:=H.1
    match cl,cj,H,eS with
    |[r],[v],H,_=>exact H.2 0 _ _ rfl rfl
    |[],[],H,_=>exact dB.undef aj
    |[_],[],_,aD=>simp at aD
    |[_],_::_::_,_,aD=>simp at aD
    |[],_::_,_,aD=>simp at aD
    |_::_::_,[],_,aD=>simp at aD
    |_::_::_,[_],_,aD=>simp at aD
    | fL::g8::cl,A5::uW::cj,H,_=>simp only[lj,List.size_toArray,pS];rw[dif_neg (by omega)];exact H.tuple
theorem ahs{f:Nat}{u:bU}(h:b3 P f=some u): ∃fn c,P.funcs[f]?=some fn∧fn.body=some c∧(fn.name== "runtime.NumGoroutine")=false∧p1 P fn.ntmps c=some u.body∧vj P fn.ntmps fn.results.toList=some u.jc∧u.cQ=fn.ntmps:=by
  unfold b3 at h;split at h
  · rename_i fn BN;split at h
    · cases h
    · rename_i jV;split at h
      · rename_i c ar;split at h
        · rename_i b cl hb az;cases h;exact⟨fn,c,BN,ar,by simpa using jV,hb,az,rfl⟩
        · cases h
      · cases h
  · cases h
theorem akx{aj:eE}{args:List Value}{mY:Array Value}(h:cV aj args mY.toList)(e7:args.length<=cQ):gx aj cQ (jl args) {tmps:=mY++Array.replicate (cQ-mY.size) undef,defers:=[]}:=by
  have aD:mY.size=args.length:=by have:=h.1;simp at this;exact this.symm
  refine⟨by simp;omega,rfl,λt=> ?_⟩;simp only[jl];rw[mV,Array.getD_eq_getD_getElem?];by_cases bt:t<args.length
  · obtain⟨y,ag,sT⟩:=h.X (dD bt);rw[dD bt,IH (by omega)];rw[DZ]at ag;rw[ag];exact sT
  · rw[pP (by omega)];rw[Array.getElem?_append_right (by omega),Array.getElem?_replicate];split<;>exact dB.undef aj
theorem VM(mD:P.follows .mixedOrders=true): ∀k aX,o2 P aX (jy P k)
  |0,aX,f,args,m,r,an,h=>by simp[jy]at h
  | k+1,aX,f,args,m,r,an,h=>by
    have cc:=VM mD k;have Xy: ∀id x,id<m.next->m.X id=none->jy P (k+1) f args (m.a0 id x)=some (r,an.a0 id x):= λid x D H=>by obtain⟨cg,aQ,a7⟩:=Oa.Ez (k+1) x f args m r an h (m.a0 id x) ⟨rfl,D,H⟩;rw[aQ,a7.eq]
    simp only[jy]at h;split at h
    · rename_i u dv;obtain⟨fn,c,D,H,aq,aE,bq,cP⟩:=ahs dv;split at h
      · rename_i e7
        have wb: ∀(e:du) (ae:aM) (bg:W),ei (jy P k) k u.body (jl args) m=some (e,ae,bg)->(∀id,e≠ .bh id)->kU bg ae u.jc=true->lj bg ae u.jc=r->bg=an->
            D4 P f/\m.next<=an.next/\(∀b,b<m.next->m.X b=none->an.X b=none)/\
            (∀id x,id<m.next->m.X id=none->jy P (k+1) f args (m.a0 id x)=some (r,an.a0 id x))/\
            ∀ aj w (mY:Array Value),cV aj args mY.toList->dy aX aj m w->aX<=w.heap.size->
              Calls P f mY w λe cN=> ∃v cC,e= .returned v/\ga aj cC/\(∀b,b<m.next->cC b=aj b)/\dB cC r v/\dy aX cC an cN/\Below aX w cN:=by
          intro e ae bg gQ cW ao az k8;subst az;subst k8;have jV:=rD (cc aX) u.body _ _ _ _ _ gQ;refine⟨⟨fn,D,by rw[H];rfl,aq⟩,jV.1,jV.2,Xy,λaj w mY ax av cK=> ?_⟩;refine calls_of_wp D H ?_;rw[cP]at e7;refine tV mD cc c u.body aE (jl args) m e ae bg gQ _ w aj (akx ax e7) av cK _ λdF cN cC a3 br bX e1 fY=> ?_;obtain⟨v,aQ,a7⟩:=awE bq bX e1 ao
          have Xx:dF.defers=[]/\ ∃v,(results fn dF.tmps).run P cN= .ok v cN/\(λ(e:Ending) (cN:World)=> ∃v cC,e= .returned v/\ga aj cC/\(∀b,b<m.next->cC b=aj b)/\dB cC (lj bg ae u.jc) v/\dy aX cC bg cN/\Below aX w cN) (.returned v) cN:=
            ⟨bX.defers,v,aQ,v,cC,rfl,a3,br,a7,e1,fY⟩
          cases e with
          |er=>exact Xx
          |aI=>exact Xx
          |bh id=>exact absurd rfl (cW id)
        split at h
        · cases h
        · rename_i e ae bg cW gQ;split at h
          · rename_i ao;cases h;exact wb e ae an gQ (λid bb=>cW id bb) ao rfl rfl
          · cases h
        · cases h
      · cases h
    · cases h
end
section b6
variable {bG w9:Callee}
def IL(bG w9:Callee):Prop:= ∀f a m r,bG f a m=some r->w9 f a m=some r
theorem ayu(h:IL bG w9){base:Nat}{o:bp}{z:aM}{m:W}{r:aM×W}(M:g9 bG base o z m=some r):g9 w9 base o z m=some r:=by
  unfold g9 at M⊢;by_cases aZ:eA z o.g=true
  · rw[if_pos aZ]at M⊢;cases ar:o.k.fb z m with
    |none=>rw[ar]at M;exact M
    | some kr=>
      obtain⟨f,args⟩:=kr;rw[ar]at M;simp only at M⊢;cases a6:bG f args m with
      |none=>rw[a6]at M;cases M
      |some DT=>rw[a6]at M;rw[h _ _ _ _ a6];exact M
  · rw[if_neg aZ]at M⊢;exact M
theorem AH(h:IL bG w9){base:Nat}: ∀{L:List bp} {z:aM} {m:W} {r:aM×W},jG bG base L z m=some r->jG w9 base L z m=some r
  |[],_,_,_,M=>M
  | _::_,_,_,_,M=>by obtain⟨bI,bg,D,H,aq⟩:=qo M;exact wx (ayu h D) H (AH h aq)
theorem Mh{f g:aM->W->Option (du×aM×W)}(h: ∀z m r,f z m=some r->g z m=some r): ∀{n g0:Nat} {z:aM} {m:W} {r:du×aM×W},n<=g0->jm f n z m=some r->jm g g0 z m=some r
  |0,_,_,_,_,_,M=>by simp[jm]at M
  |n+1,0,_,_,_,au,_=>by omega
  | n+1,g0+1,z,m,r,au,M=>by
    rcases Hi M with⟨bI,bg,D,H⟩|⟨D,H⟩
    · simp only[jm,h _ _ _ D];exact Mh h (by omega) H
    · obtain⟨fL,g8,jt⟩:=r;simp only[jm,h _ _ _ D];cases fL with
      |er=>exact absurd rfl H
      |bh id=>rfl
      |aI=>rfl
theorem tY(h:IL bG w9){n g0:Nat}(au:n<=g0): ∀{c:J} {z:aM} {m:W} {r:du×aM×W},ei bG n c z m=some r->ei w9 g0 c z m=some r
  | .skip,_,_,_,M=>M
  | .F ops,z,m,r,M=>by
    simp only[ei]at M⊢;split at M
    · rename_i az;rw[AH h az];exact M
    · cases M
  | .qh bP o bR,z,m,r,M=>by
    simp only[ei]at M⊢;split at M
    · rename_i D;split at M
      · rename_i ao;split at M
        · rename_i H;rw[AH h D];simp only[ao,if_true,AH h H];exact M
        · cases M
      · cases M
    · cases M
  | .B a b,z,m,r,M=>by
    simp only[ei]at M⊢;split at M
    · rename_i D;rw[tY h au D];exact tY h au M
    · rename_i cW;rw[tY h au M];obtain⟨fL,g8,jt⟩:=r;cases fL with
      |er=>exact absurd M (cW _ _)
      |bh id=>rfl
      |aI=>rfl
  | .aV x a b,z,m,r,M=>by
    simp only[ei]at M⊢;split at M
    · rename_i D;rw[if_pos D];split at M
      · rename_i H;rw[if_pos H];exact tY h au M
      · rename_i H;rw[if_neg H];exact tY h au M
    · cases M
  | .block id c,z,m,r,M=>by
    simp only[ei]at M⊢;split at M
    · rename_i D;rw[tY h au D];exact M
    · rename_i cW;rw[tY h au M];obtain⟨fL,g8,jt⟩:=r;cases fL with
      |er=>rfl
      |bh id=>exact absurd M (cW _ _ _)
      |aI=>rfl
  | .loop c,z,m,r,M=>by simp only[ei]at M⊢;exact Mh (λz m r D=>tY h au D) au M
  | .bh id,_,_,_,M=>M
  | .aI,_,_,_,M=>M
theorem w4{P:Program}: ∀{n g0:Nat},n<=g0->IL (jy P n) (jy P g0)
  |0,_,_=> λf a m r h=>by simp[jy]at h
  |n+1,0,au=>by omega
  | n+1,g0+1,au=> λf a m r h=>by
    simp only[jy]at h⊢;split at h
    · rename_i u dv;split at h
      · rename_i e7;rw[if_pos e7];split at h
        · cases h
        · rename_i e ae an cW gQ;rw[tY (w4 (by omega:n<=g0)) (by omega:n<=g0) gQ];cases e with
          |er=>exact h
          |aI=>exact h
          |bh id=>exact absurd rfl (cW id)
        · cases h
      · cases h
    · cases h
end b6
section wp
variable (P:Program)
def gd(f:Nat)(args:List Value)(m:W)(cd:Value->W->Prop):Prop:= ∃n r an,jy P n f args m=some (r,an)/\cd r an
def hG(c:J)(z:aM)(m:W)(Q:du->aM->W->Prop):Prop:= ∃n e ae an,ei (jy P n) n c z m=some (e,ae,an)/\Q e ae an
def hc(base:Nat)(ops:List bp)(z:aM)(m:W)(aT:aM->W->Prop):Prop:= ∃n ae an,jG (jy P n) base ops z m=some (ae,an)/\aT ae an
def NF(b:J)(Q:du->aM->W->Prop)(e:du)(z:aM)(m:W):Prop:=match e with| .er=>hG P b z m Q|e=>Q e z m
def Et(id:Nat)(Q:du->aM->W->Prop)(e:du)(z:aM)(m:W):Prop:=match e with| .bh iB=>if iB=id then Q .er z m else Q (.bh iB) z m|e=>Q e z m
def Mw(c:J)(Q:du->aM->W->Prop)(e:du)(z:aM)(m:W):Prop:=match e with| .er=>hG P (.loop c) z m Q|e=>Q e z m
def ra(cl:List k3)(cd:Value->W->Prop)(e:du)(z:aM)(m:W):Prop:=match e with| .bh _=>False|_=>kU m z cl=true/\cd (lj m z cl) m
def vk(base:Nat)(d:Option Nat)(a4:List (Operand×Operand))(bR:List bp)(z:aM)(m:W)(aT:aM->W->Prop)(r:Value)(an:W):Prop:=qg z a4 m an/\hc P base bR (c0 z d r) an aT
variable {P} {z:aM} {m:W} {Q:du->aM->W->Prop}
theorem Ub{b:J}:NF P b Q .er z m=hG P b z m Q:=rfl
theorem ayG{b:J}{id:Nat}:NF P b Q (.bh id) z m=Q (.bh id) z m:=rfl
theorem ayH{b:J}:NF P b Q .aI z m=Q .aI z m:=rfl
theorem ahm{id:Nat}:Et id Q .er z m=Q .er z m:=rfl
theorem Br{id iB:Nat}:Et id Q (.bh iB) z m=if iB=id then Q .er z m else Q (.bh iB) z m:=rfl
theorem ahn{id:Nat}:Et id Q .aI z m=Q .aI z m:=rfl
theorem adx{c:J}:Mw P c Q .er z m=hG P (.loop c) z m Q:=rfl
theorem auP{c:J}{id:Nat}:Mw P c Q (.bh id) z m=Q (.bh id) z m:=rfl
theorem auQ{c:J}:Mw P c Q .aI z m=Q .aI z m:=rfl
theorem awF{u:List k3}{cd:Value->W->Prop}:ra u cd .er z m=(kU m z u=true/\cd (lj m z u) m):=rfl
theorem awG{u:List k3}{cd:Value->W->Prop}:ra u cd .aI z m=(kU m z u=true/\cd (lj m z u) m):=rfl
theorem Bz{n g0:Nat}(h:n<=g0){c:J}{r:du×aM×W}(M:ei (jy P n) n c z m=some r):ei (jy P g0) g0 c z m=some r:=tY (w4 h) h M
theorem UB:hG P .skip z m Q=Q .er z m:=by refine propext ⟨λ⟨n,e,ae,an,h,q⟩=> ?_,λh=>⟨0,_,_,_,rfl,h⟩⟩;cases h;exact q
theorem Uy{id:Nat}:hG P (.bh id) z m Q=Q (.bh id) z m:=by refine propext ⟨λ⟨n,e,ae,an,h,q⟩=> ?_,λh=>⟨0,_,_,_,rfl,h⟩⟩;cases h;exact q
theorem UA:hG P .aI z m Q=Q .aI z m:=by refine propext ⟨λ⟨n,e,ae,an,h,q⟩=> ?_,λh=>⟨0,_,_,_,rfl,h⟩⟩;cases h;exact q
theorem Uz{ops:List bp}:hG P (.F ops) z m Q=hc P m.next ops z (gW ops m) (Q .er):=by
  refine propext ⟨λ⟨n,e,ae,an,h,q⟩=> ?_,λ⟨n,ae,an,h,q⟩=>⟨n,.er,ae,an,by simp only[ei,h],q⟩⟩;simp only[ei]at h;split at h
  · rename_i az;cases h;exact⟨n,_,_,az,q⟩
  · cases h
def Hq(o:bp)(Q:du->aM->W->Prop)(id:Nat)(bI:aM)(bg:W)(dj:aM)(dH:W):Prop:=Q .er dj ((o.k.gu id bI bg).dp (dH.next-bg.next))
theorem afW{bP:List bp}{o:bp}{bR:List bp}:hG P (.qh bP o bR) z m Q=hc P m.next bP z (m.dp (bP.length+(bR.length+1))) λbI bg=>
    mI o bI bg=true/\hc P m.next bR (c0 bI o.d (o.k.val (m.next+o.aN) bI bg)) (m8 bg) (Hq o Q (m.next+o.aN) bI bg):=by
  refine propext ⟨λ⟨n,e,ae,an,h,q⟩=> ?_,λ⟨n,bI,bg,h,ao,hp,dj,dH,H,q⟩=>⟨max n hp,.er,dj,_,by simp only[ei,AH (w4 (Nat.le_max_left n hp)) h,ao,if_true,AH (w4 (Nat.le_max_right n hp)) H],q⟩⟩;simp only[ei]at h;split at h
  · rename_i bI bg D;split at h
    · rename_i ao;split at h
      · rename_i dj dH H;cases h;exact⟨n,bI,bg,D,ao,n,_,dH,H,q⟩
      · cases h
    · cases h
  · cases h
theorem NP{a b:J}:hG P (.B a b) z m Q=hG P a z m (NF P b Q):=by
  refine propext ⟨λ⟨n,e,ae,an,h,q⟩=> ?_,λ⟨n,e,ae,an,h,q⟩=> ?_⟩
  · simp only[ei]at h;split at h
    · rename_i bI bg D;exact⟨n,.er,bI,bg,D,n,e,ae,an,h,q⟩
    · rename_i cW;refine⟨n,e,ae,an,h,?_⟩;cases e with
      |er=>exact absurd h (cW _ _)
      |bh id=>exact q
      |aI=>exact q
  · cases e with
    | er=>obtain⟨hp,aR,dj,dH,H,br⟩:=q;refine⟨max n hp,aR,dj,dH,?_,br⟩;simp only[ei,Bz (Nat.le_max_left n hp) h];exact Bz (Nat.le_max_right n hp) H
    |bh id=>exact⟨n,_,ae,an,by simp only[ei,h],q⟩
    |aI=>exact⟨n,_,ae,an,by simp only[ei,h],q⟩
theorem NO{c:Operand}{a b:J}:hG P (.aV c a b) z m Q=(rX (Y z c)=true/\if tU (Y z c)=true then hG P a z m Q else hG P b z m Q):=by
  refine propext ⟨λ⟨n,e,ae,an,h,q⟩=> ?_,λ⟨D,H⟩=> ?_⟩
  · simp only[ei]at h;split at h
    · rename_i D;refine⟨D,?_⟩;split at h
      · rename_i H;rw[if_pos H];exact⟨n,e,ae,an,h,q⟩
      · rename_i H;rw[if_neg H];exact⟨n,e,ae,an,h,q⟩
    · cases h
  · split at H
    · rename_i aq;obtain⟨n,e,ae,an,h,q⟩:=H;exact⟨n,e,ae,an,by simp only[ei,if_pos D,if_pos aq,h],q⟩
    · rename_i aq;obtain⟨n,e,ae,an,h,q⟩:=H;exact⟨n,e,ae,an,by simp only[ei,if_pos D,if_neg aq,h],q⟩
theorem Ix{id:Nat}{c:J}:hG P (.block id c) z m Q=hG P c z m (Et id Q):=by
  refine propext ⟨λ⟨n,e,ae,an,h,q⟩=> ?_,λ⟨n,e,ae,an,h,q⟩=> ?_⟩
  · simp only[ei]at h;split at h
    · rename_i iB bI bg D;refine⟨n,.bh iB,bI,bg,D,?_⟩;rw[Br];split at h
      · rename_i bb;cases h;rw[if_pos bb];exact q
      · rename_i bb;cases h;rw[if_neg bb];exact q
    · rename_i cW;refine⟨n,e,ae,an,h,?_⟩;cases e with
      |er=>exact q
      |bh iB=>exact absurd h (cW _ _ _)
      |aI=>exact q
  · cases e with
    |er=>exact⟨n,.er,ae,an,by simp only[ei,h],q⟩
    |aI=>exact⟨n,.aI,ae,an,by simp only[ei,h],q⟩
    | bh iB=>
      rw[Br]at q;split at q
      · rename_i bb;exact⟨n,.er,ae,an,by simp only[ei,h,if_pos bb],q⟩
      · rename_i bb;exact⟨n,.bh iB,ae,an,by simp only[ei,h,if_neg bb],q⟩
theorem afX{c:J}:hG P (.loop c) z m Q=hG P c z m (Mw P c Q):=by
  refine propext ⟨λ⟨n,e,ae,an,h,q⟩=> ?_,λ⟨n,e,ae,an,h,q⟩=> ?_⟩
  · simp only[ei]at h;cases n with
    |zero=>simp[jm]at h
    | succ n=>
      rcases Hi h with⟨bI,bg,D,H⟩|⟨D,H⟩
      · refine⟨n+1,.er,bI,bg,D,n+1,e,ae,an,?_,q⟩;simp only[ei];exact Mh (λ_ _ _ h=>h) (by omega) H
      · refine⟨n+1,e,ae,an,D,?_⟩;cases e with
        |er=>exact absurd rfl H
        |bh id=>exact q
        |aI=>exact q
  · cases e with
    | er=>obtain⟨hp,aR,dj,dH,H,br⟩:=q;refine⟨max n hp+1,aR,dj,dH,?_,br⟩;simp only[ei]at H⊢;have D:ei (jy P (max n hp+1)) (max n hp+1) c z m=some (.er,ae,an):=Bz (by omega) h;simp only[jm,D];exact Mh (λ_ _ _ h=>Bz (by omega) h) (by omega) H
    |bh id=>exact⟨n+1,_,ae,an,by simp only[ei,jm];rw[Bz (by omega:n<=n+1) h],q⟩
    |aI=>exact⟨n+1,_,ae,an,by simp only[ei,jm];rw[Bz (by omega:n<=n+1) h],q⟩
theorem si{f:Nat}{args:List Value}{cd:Value->W->Prop}{u:bU}(dv:b3 P f=some u)(aD:args.length<=u.cQ):gd P f args m cd=hG P u.body (jl args) m (ra u.jc cd):=by
  refine propext ⟨λ⟨n,r,an,h,q⟩=> ?_,λ⟨n,e,ae,an,h,q⟩=> ?_⟩
  · cases n with
    |zero=>simp[jy]at h
    | succ n=>
      simp only[jy,dv,if_pos aD]at h;split at h
      · cases h
      · rename_i e ae bg cW gQ;split at h
        · rename_i ao;cases h;refine⟨n,e,ae,an,gQ,?_⟩;cases e with
          |er=>exact⟨ao,q⟩
          |aI=>exact⟨ao,q⟩
          |bh id=>exact absurd rfl (cW id)
        · cases h
      · cases h
  · cases e with
    |er=>exact⟨n+1,_,an,by simp only[jy,dv,if_pos aD,h,q.1,if_true],q.2⟩
    |aI=>exact⟨n+1,_,an,by simp only[jy,dv,if_pos aD,h,q.1,if_true],q.2⟩
    |bh id=>exact q.elim
def qD(P:Program)(f:Nat)(args:List Value)(m:W)(r:Value)(an:W):Prop:= ∃n,jy P n f args m=some (r,an)
theorem qD.wp{f:Nat}{args:List Value}{r:Value}{an:W}(h:qD P f args m r an){cd:Value->W->Prop}:gd P f args m cd=cd r an:=by obtain⟨n,au⟩:=h;refine propext ⟨λ⟨g0,dV,Ss,bN,q⟩=> ?_,λq=>⟨n,r,an,au,q⟩⟩;have D:=w4 (Nat.le_max_left n g0) _ _ _ _ au;have H:=w4 (Nat.le_max_right n g0) _ _ _ _ bN;rw[D]at H;cases H;exact q
theorem qD.yd{f:Nat}{args:List Value}{r:Value}{an:W}(h:gd P f args m λdV Ss=>dV=r/\Ss=an):qD P f args m r an:=by obtain⟨n,dV,Ss,D,rfl,rfl⟩:=h;exact⟨n,D⟩
theorem gd.aI{f:Nat}{args:List Value}{cd:Value->W->Prop}(h:gd P f args m cd): ∃r an,qD P f args m r an/\cd r an:=by obtain⟨n,r,an,D,q⟩:=h;exact⟨r,an,⟨n,D⟩,q⟩
theorem gd.b6{f:Nat}{args:List Value}{cd mr:Value->W->Prop}(h:gd P f args m cd)(bc: ∀r an,cd r an->mr r an):gd P f args m mr:=by obtain⟨n,r,an,D,q⟩:=h;exact⟨n,r,an,D,bc _ _ q⟩
theorem hG.b6{c:J}{w0:du->aM->W->Prop}(h:hG P c z m Q)(bc: ∀e ae an,Q e ae an->w0 e ae an):hG P c z m w0:=by obtain⟨n,e,ae,an,D,q⟩:=h;exact⟨n,e,ae,an,D,bc _ _ _ q⟩
variable {aT:aM->W->Prop} {base aN:Nat} {bR:List bp} {d:Option Nat} {g:Option (Nat×Bool)} {a4:List (Operand×Operand)}
theorem UD:hc P base [] z m aT=aT z m:=by refine propext ⟨λ⟨n,ae,an,h,q⟩=> ?_,λh=>⟨0,_,_,rfl,h⟩⟩;cases h;exact q
theorem aw5{n g0:Nat}(h:n<=g0){L:List bp}{r:aM×W}(M:jG (jy P n) base L z m=some r):jG (jy P g0) base L z m=some r:=AH (w4 h) M
theorem uY{k:af}(aa:k.jO=false):hc P base (⟨aN,d,none,k,a4⟩::bR) z m aT=(k.ok z m=true/\pd z a4=true/\hc P base bR (c0 z d (k.val (base+aN) z m)) (k.gu (base+aN) z m) aT):=by
  have gj:k.fb z m=none:=q1 aa;refine propext ⟨λ⟨n,ae,an,h,q⟩=> ?_,λ⟨D,H,n,ae,an,aq,q⟩=> ?_⟩
  · obtain⟨bI,bg,D,H,aq⟩:=qo h;obtain⟨ao,e⟩:=T6 (o:=⟨aN,d,none,k,a4⟩) rfl gj D;cases e;have aE:=H rfl;simp only[gj]at aE;exact⟨ao,aE,n,ae,an,aq,q⟩
  · refine⟨n,ae,an,wx (afl (o:=⟨aN,d,none,k,a4⟩) rfl gj D) (λ_=> ?_) aq,q⟩;simp only[gj];exact H
theorem NR{k:af}{t:Nat}{b:Bool}:hc P base (⟨aN,d,some (t,b),k,a4⟩::bR) z m aT=if eA z (some (t,b))=true then hc P base (⟨aN,d,none,k,a4⟩::bR) z m aT else hc P base bR (c0 z d undef) m aT:=by
  split
  · rename_i aZ;have oB: ∀bG:Callee,g9 bG base ⟨aN,d,some (t,b),k,a4⟩ z m=g9 bG base ⟨aN,d,none,k,a4⟩ z m:= λbG=>by
      unfold g9;simp only[aZ,if_true,show eA z none=true from rfl]
    have W5: ∀an,nU ⟨aN,d,some (t,b),k,a4⟩ z m an↔nU ⟨aN,d,none,k,a4⟩ z m an:= λan=>⟨λh _=>h aZ,λh _=>h rfl⟩;refine propext ⟨λ⟨n,ae,an,h,q⟩=> ?_,λ⟨n,ae,an,h,q⟩=> ?_⟩
    · obtain⟨bI,bg,D,H,aq⟩:=qo h;exact⟨n,ae,an,wx (by rw[<-oB];exact D) ((W5 _).1 H) aq,q⟩
    · obtain⟨bI,bg,D,H,aq⟩:=qo h;exact⟨n,ae,an,wx (by rw[oB];exact D) ((W5 _).2 H) aq,q⟩
  · rename_i aZ;have mb:eA z (some (t,b))=false:=(by simpa using aZ);refine propext ⟨λ⟨n,ae,an,h,q⟩=> ?_,λ⟨n,ae,an,h,q⟩=> ?_⟩
    · obtain⟨bI,bg,D,H,aq⟩:=qo h;rw[yt (o:=⟨aN,d,some (t,b),k,a4⟩) mb]at D;cases D;exact⟨n,ae,an,aq,q⟩
    · exact⟨n,ae,an,wx (yt (o:=⟨aN,d,some (t,b),k,a4⟩) mb) (λh=>absurd h aZ) h,q⟩
theorem NQ{k:af}{f:Nat}{args:List Value}(gj:k.fb z m=some (f,args)):hc P base (⟨aN,d,none,k,a4⟩::bR) z m aT=gd P f args m (vk P base d a4 bR z m aT):=by
  refine propext ⟨λ⟨n,ae,an,h,q⟩=> ?_,λ⟨n,r,bg,h,D,hp,dj,dH,H,q⟩=> ?_⟩
  · obtain⟨bI,bg,D,H,aq⟩:=qo h;obtain⟨v,dH,aQ,a7⟩:=DJ (o:=⟨aN,d,none,k,a4⟩) rfl gj D;cases a7;have aE:=H rfl;simp only[gj]at aE;exact⟨n,v,_,aQ,aE,n,ae,an,aq,q⟩
  · refine⟨max n hp,dj,dH,wx (Il (o:=⟨aN,d,none,k,a4⟩) rfl gj (w4 (Nat.le_max_left n hp) _ _ _ _ h)) (λ_=> ?_) (aw5 (Nat.le_max_right n hp) H),q⟩;simp only[gj];exact D
theorem UC{f:Nat}{bz:List Operand}:hc P base (⟨aN,d,none,.dm f bz,a4⟩::bR) z m aT=gd P f (bz.map (Y z)) m (vk P base d a4 bR z m aT):=NQ rfl
theorem afY{x:Operand}{bz:List Operand}{f:Nat}{first l3:Array Value}(h:Y z x= .func (.func f) first l3):
    hc P base (⟨aN,d,none,.iy x bz,a4⟩::bR) z m aT=gd P f (first.toList++bz.map (Y z)++l3.toList) m (vk P base d a4 bR z m aT):=NQ (by simp only[af.fb,h])
theorem Ey{r:Value}{an:W}:vk P base d [] bR z m aT r an=hc P base bR (c0 z d r) an aT:=by simp[vk,qg]
theorem ahH:pd z []=true:=rfl
end wp
theorem dy.empty{aX:Nat}{w:World}:dy aX (λ_=>none) ⟨0,λ_=>none,λ_=>none⟩ w where
  kn:= λ_ _ h=>by cases h
  lN:= λ_ _ h=>by cases h
  lQ:= λb x h=>by unfold W.X at h;split at h<;>cases h
  qL:= λb x ca hM l de h=>by unfold W.X at h;split at h<;>cases h
  tc:= λ_ _ h=>by cases h
  maps:= λb a9 h=>by simp only[W.eK,W.X,Nat.not_lt_zero,if_false]at h;cases h
end Go.DI
