/-
  A part of the proof of the statement, in texts that tools of ours (wip/shrink.py, irpack.py, relax.py, minify.py, join.py, lay.py) have shortened.
-/
import Derived.Test.YtkpifdkccdndcaaGreatZap
set_option linter.all false
set_option maxRecDepth 8000
set_option maxHeartbeats 16000000
namespace Go.Proofs.YtkpifdkccdndcaaGreat
open Go Go.DI Go.Big
theorem IZ{cK:Type}{f:cK->List Value}{O:Nat}{l:List cK}(h: ∀x,(f x).length=O):(l.map f).flatten.length=l.length*O:=by rw[tn (O:=O) λr aF=>by obtain⟨x,_,rfl⟩:=List.mem_map.1 aF;exact h x,List.length_map]
theorem adA{s:ByteArray}{l:List ByteArray}: ∀v,cF (cz s) (lh 0 l)=some v-> ∃hx,v=S hx:= λv h=>by
  rw[Cg]at h;cases bt:dR s l with
  |none=>rw[bt]at h;cases h
  |some i=>rw[bt]at h;simp at h;exact⟨_,h.symm⟩
theorem ady{s:ByteArray}{l:List ByteArray}{hx:Int}(h:cF (cz s) (lh 0 l)=some (S hx)): ∃i:Nat,dR s l=some i/\hx=i:=by
  rw[Cg]at h;cases bt:dR s l with
  |none=>rw[bt]at h;cases h
  |some i=>rw[bt]at h;simp at h;exact⟨i,rfl,h.symm⟩
theorem adz{s:ByteArray}{l:List ByteArray}(h:cF (cz s) (lh 0 l)=none):dR s l=none:=by
  rw[Cg]at h;cases bt:dR s l with
  |none=>rfl
  |some i=>rw[bt]at h;cases h
theorem azC{d:o5}{ext:Int}{G:dm}{t:B}{x:zq}(h:Fh d ext G t)(ak:G.a5.length<1000000){az:Value->B->Prop}(j1: ∀aN,lf d ext (ja G x) aN->az (.tuple #[]) aN):hn Tryz.prog 40 [bZ d.c,.agg (nL x).toArray] t az:=by
  obtain⟨g5,eL,g4,g6,fW,hR,cY,cy,h⟩:=h;have iX:=h.iX;have aW: ∀i j (aa:i<j) (cp:j<12),([d.c,d.gV,d.eC,d.iL,d.gW,d.l8,g5,eL,g4,g6,fW,hR]:List Nat)[i]'(by simp;omega)≠([d.c,d.gV,d.eC,d.iL,d.gW,d.l8,g5,eL,g4,g6,fW,hR]:List Nat)[j]'(by simpa using cp):= λi j aa cp=>IJ iX i j aa (by simpa using cp);refine azD (x:=x) (c:=d.c) (eL:=eL) (gV:=d.gV) (eC:=d.eC) (n:=G.a5.length) h.c h.qu (IZ λ_=>rfl) ak h.eC Am h.gV Am (aW 0 7 (by decide) (by decide)).symm (aW 0 2 (by decide) (by decide)).symm (aW 2 7 (by decide) (by decide)) (aW 1 2 (by decide) (by decide)) (aW 0 1 (by decide) (by decide)).symm (λaM a1 hx cI e6 fw aN o' fe bw mi og tk=>j1 aN ?_) adA (λaN e aM a1 cI fe=>j1 aN ?_)
  · have e4:=v9 (by rw[<-vV];exact a1);obtain⟨i,bm,rfl⟩:=ady cI;have c1:ja G x= .inl {G with a5:=G.a5++[⟨x.name,x.ext,x.pn,i⟩]}:=(by simp[ja,aM,e4,bm,e6,fw]);rw[c1];have iW:= λ(b:Nat) (O:fO) (L:t.M b=some O) (ak:b∉[d.c,eL,d.eC])=>(bw.M b (aT L) ak).trans L;have jS:= λ(b:Nat) (O:List (Value×Value)) (L:t.c6 b=some O) (ak:b∉[d.c,eL,d.eC])=>(bw.map b (aT (hv L).1) ak).trans L
    refine⟨g5,o',g4,g6,fW,hR,cY,cy,?_,iW _ _ h.vz (hI (aW 0 6 (by decide) (by decide)).symm (aW 6 7 (by decide) (by decide)) (aW 2 6 (by decide) (by decide)).symm),?_,iW _ _ h.vy (hI (aW 0 8 (by decide) (by decide)).symm (aW 7 8 (by decide) (by decide)).symm (aW 2 8 (by decide) (by decide)).symm),iW _ _ h.vB (hI (aW 0 9 (by decide) (by decide)).symm (aW 7 9 (by decide) (by decide)).symm (aW 2 9 (by decide) (by decide)).symm),iW _ _ h.vA (hI (aW 0 10 (by decide) (by decide)).symm (aW 7 10 (by decide) (by decide)).symm (aW 2 10 (by decide) (by decide)).symm),iW _ _ h.rV (hI (aW 0 11 (by decide) (by decide)).symm (aW 7 11 (by decide) (by decide)).symm (aW 2 11 (by decide) (by decide)).symm),
      jS _ _ h.gV (hI (aW 0 1 (by decide) (by decide)).symm (aW 1 7 (by decide) (by decide)) (aW 1 2 (by decide) (by decide))),?_,jS _ _ h.iL (hI (aW 0 3 (by decide) (by decide)).symm (aW 3 7 (by decide) (by decide)) (aW 2 3 (by decide) (by decide)).symm),jS _ _ h.gW (hI (aW 0 4 (by decide) (by decide)).symm (aW 4 7 (by decide) (by decide)) (aW 2 4 (by decide) (by decide)).symm),jS _ _ h.l8 (hI (aW 0 5 (by decide) (by decide)).symm (aW 5 7 (by decide) (by decide)) (aW 2 5 (by decide) (by decide)).symm),?_⟩
    · simpa using mi
    · rw[og,sC]
    · rw[tk,LR e4 (by simp[dm.gJ])];simp[dm.gJ]
    · exact Hw iX (λb L e=>by have:=h.cW b L;omega) 7
  · have c1:ja G x= .inr (e,x.p)/\e≠0:=by
      cases bm:gP x.name
      · have:=aM bm;subst this;simp[ja,bm]
      · cases bU:(dR x.name G.gJ).isSome
        · rcases cI bm (by rw[vV];exact bU)with⟨cn,rfl⟩|⟨cn,fa,rfl⟩
          · simp[ja,bm,bU,adz cn]
          · rw[vV]at cn;obtain⟨i,fZ⟩:=Option.isSome_iff_exists.1 cn;simp[ja,bm,bU,fZ];simpa using fa
        · have:=a1 bm (by rw[vV];exact bU);subst this;simp[ja,bm,bU]
    rw[c1.1];exact⟨c1.2,fe⟩
theorem aDO{d:o5}{ext:Int}{G:dm}{t:B}{x:zr}(h:Fh d ext G t)(ak:G.dH.length<1000000){az:Value->B->Prop}(j1: ∀aN,lf d ext (kR G x) aN->az (.tuple #[]) aN):hn Tryz.prog 46 [bZ d.c,.agg (qS x).toArray] t az:=by
  obtain⟨g5,eL,g4,g6,fW,hR,cY,cy,h⟩:=h;have iX:=h.iX;have aW: ∀i j (aa:i<j) (cp:j<12),([d.c,d.gV,d.eC,d.iL,d.gW,d.l8,g5,eL,g4,g6,fW,hR]:List Nat)[i]'(by simp;omega)≠([d.c,d.gV,d.eC,d.iL,d.gW,d.l8,g5,eL,g4,g6,fW,hR]:List Nat)[j]'(by simpa using cp):= λi j aa cp=>IJ iX i j aa (by simpa using cp);refine aDP (x:=x) (c:=d.c) (eL:=hR) (gV:=d.gW) (eC:=d.l8) (n:=G.dH.length) h.c h.rV (IZ λ_=>rfl) ak h.l8 Am h.gW Am (aW 0 11 (by decide) (by decide)).symm (aW 0 5 (by decide) (by decide)).symm (aW 5 11 (by decide) (by decide)) (aW 4 5 (by decide) (by decide)) (aW 0 4 (by decide) (by decide)).symm (λaM a1 hx cI aN o' fe bw mi og tk=>j1 aN ?_) adA (λaN e aM a1 cI fe=>j1 aN ?_)
  · have e4:=v9 (by rw[<-vV];exact a1);obtain⟨i,bm,rfl⟩:=ady cI;have c1:kR G x= .inl {G with dH:=G.dH++[⟨x.name,i⟩]}:=(by simp[kR,aM,e4,bm]);rw[c1];have iW:= λ(b:Nat) (O:fO) (L:t.M b=some O) (ak:b∉[d.c,hR,d.l8])=>(bw.M b (aT L) ak).trans L;have jS:= λ(b:Nat) (O:List (Value×Value)) (L:t.c6 b=some O) (ak:b∉[d.c,hR,d.l8])=>(bw.map b (aT (hv L).1) ak).trans L
    refine⟨g5,eL,g4,g6,fW,o',cY,cy,?_,iW _ _ h.vz (hI (aW 0 6 (by decide) (by decide)).symm (aW 6 11 (by decide) (by decide)) (aW 5 6 (by decide) (by decide)).symm),iW _ _ h.qu (hI (aW 0 7 (by decide) (by decide)).symm (aW 7 11 (by decide) (by decide)) (aW 5 7 (by decide) (by decide)).symm),iW _ _ h.vy (hI (aW 0 8 (by decide) (by decide)).symm (aW 8 11 (by decide) (by decide)) (aW 5 8 (by decide) (by decide)).symm),iW _ _ h.vB (hI (aW 0 9 (by decide) (by decide)).symm (aW 9 11 (by decide) (by decide)) (aW 5 9 (by decide) (by decide)).symm),iW _ _ h.vA (hI (aW 0 10 (by decide) (by decide)).symm (aW 10 11 (by decide) (by decide)) (aW 5 10 (by decide) (by decide)).symm),?_,
      jS _ _ h.gV (hI (aW 0 1 (by decide) (by decide)).symm (aW 1 11 (by decide) (by decide)) (aW 1 5 (by decide) (by decide))),jS _ _ h.eC (hI (aW 0 2 (by decide) (by decide)).symm (aW 2 11 (by decide) (by decide)) (aW 2 5 (by decide) (by decide))),jS _ _ h.iL (hI (aW 0 3 (by decide) (by decide)).symm (aW 3 11 (by decide) (by decide)) (aW 3 5 (by decide) (by decide))),jS _ _ h.gW (hI (aW 0 4 (by decide) (by decide)).symm (aW 4 11 (by decide) (by decide)) (aW 4 5 (by decide) (by decide))),?_,?_⟩
    · simpa using mi
    · rw[og,sC]
    · rw[tk,LR e4 (by simp[dm.qd])];simp[dm.qd]
    · exact Hw iX (λb L e=>by have:=h.cW b L;omega) 11
  · have c1:kR G x= .inr (e,x.p)/\e≠0:=by
      cases bm:gP x.name
      · have:=aM bm;subst this;simp[kR,bm]
      · cases bU:(dR x.name G.qd).isSome
        · obtain⟨cn,rfl⟩:=cI bm (by rw[vV];exact bU);simp[kR,bm,bU,adz cn]
        · have:=a1 bm (by rw[vV];exact bU);subst this;simp[kR,bm,bU]
    rw[c1.1];exact⟨c1.2,fe⟩
theorem az1{x:k4}{sB:Bool}{m6:Option Int}{cc:dY}{n:Nat}{e:Int}(h:gy x sB m6 cc n= .q5 e):e≠0:=by
  unfold gy at h
  repeat' split at h
  all_goals first|(cases h;done)|(simp only[Tt.q5.injEq]at h;omega)
theorem alE{x:k4}{m6:Option Int}{cc:dY}{n:Nat}{d:Tt}(h:gy x true m6 cc n=d): ∃e,d= .q5 e:=by
  unfold gy at h;split at h
  · exact⟨_,h.symm⟩
  · exact⟨_,h.symm⟩
theorem az3{d:o5}{ext:Int}{G:dm}{t:B}{x:k4}(W:x.fX.bM)(h:Fh d ext G t)(ak:G.dG.length<1000000)(qy:G.gq.length<1000000){az:Value->B->Prop}(j1: ∀aN,lf d ext (hP G x) aN->az (.tuple #[]) aN):hn Tryz.prog 42 [bZ d.c,.agg (fl x).toArray] t az:=by
  obtain⟨g5,eL,g4,g6,fW,hR,cY,cy,h⟩:=h;have iX:=h.iX;have aW: ∀i j (aa:i<j) (cp:j<12),([d.c,d.gV,d.eC,d.iL,d.gW,d.l8,g5,eL,g4,g6,fW,hR]:List Nat)[i]'(by simp;omega)≠([d.c,d.gV,d.eC,d.iL,d.gW,d.l8,g5,eL,g4,g6,fW,hR]:List Nat)[j]'(by simpa using cp):= λi j aa cp=>IJ iX i j aa (by simpa using cp);have kV:cF (cz x.model) (lh 0 G.gJ)=((dR x.model G.gJ).map λi=>(i:Int)).map λi=>S i:=by rw[Cg];cases dR x.model G.gJ<;>simp
  have zR:(dR x.name G.a3).isSome=(cF (cz x.name) (uo G.a3)).isSome:=ayv.symm;refine az5 (x:=x) W (c:=d.c) (g4:=g4) (g6:=g6) (eC:=d.eC) (iL:=d.iL) (qN:=G.dG.length) (Aw:=G.gq.length) (cc:=G.cc) h.c h.vy h.vB (IZ λ_=>rfl) (IZ λ_=>rfl) ak qy h.iL ayD h.eC Am (aW 0 8 (by decide) (by decide)).symm (aW 0 9 (by decide) (by decide)).symm (aW 0 3 (by decide) (by decide)).symm (aW 0 2 (by decide) (by decide)).symm (aW 2 3 (by decide) (by decide)) (aW 3 8 (by decide) (by decide)) (aW 3 9 (by decide) (by decide)) (aW 8 9 (by decide) (by decide)) kV (λBf aM aN o' fe bw mi og tk=>j1 aN ?_) (λBf iV aM aN o' fe bw mi og tk=>j1 aN ?_) (λe aM aN fe=>j1 aN ?_)
  · have e4:dR x.name G.a3=none:=by
      cases bt:dR x.name G.a3 with
      |none=>rfl
      |some i=>rw[<-zR,bt]at aM;obtain⟨e,aU⟩:=alE aM;cases aU
    have c1:hP G x= .inl {G with gq:=G.gq++[Bf],a3:=G.a3++[x.name]}:=(by simp only[hP,zR,aM]);rw[c1];have iW:= λ(b:Nat) (O:fO) (L:t.M b=some O) (ak:b∉[d.c,g6,d.iL])=>(bw.M b (aT L) ak).trans L;have jS:= λ(b:Nat) (O:List (Value×Value)) (L:t.c6 b=some O) (ak:b∉[d.c,g6,d.iL])=>(bw.map b (aT (hv L).1) ak).trans L
    refine⟨g5,eL,g4,o',fW,hR,cY,cy,?_,iW _ _ h.vz (hI (aW 0 6 (by decide) (by decide)).symm (aW 6 9 (by decide) (by decide)) (aW 3 6 (by decide) (by decide)).symm),iW _ _ h.qu (hI (aW 0 7 (by decide) (by decide)).symm (aW 7 9 (by decide) (by decide)) (aW 3 7 (by decide) (by decide)).symm),iW _ _ h.vy (hI (aW 0 8 (by decide) (by decide)).symm (aW 8 9 (by decide) (by decide)) (aW 3 8 (by decide) (by decide)).symm),?_,iW _ _ h.vA (hI (aW 0 10 (by decide) (by decide)).symm (aW 9 10 (by decide) (by decide)).symm (aW 3 10 (by decide) (by decide)).symm),iW _ _ h.rV (hI (aW 0 11 (by decide) (by decide)).symm (aW 9 11 (by decide) (by decide)).symm (aW 3 11 (by decide) (by decide)).symm),
      jS _ _ h.gV (hI (aW 0 1 (by decide) (by decide)).symm (aW 1 9 (by decide) (by decide)) (aW 1 3 (by decide) (by decide))),jS _ _ h.eC (hI (aW 0 2 (by decide) (by decide)).symm (aW 2 9 (by decide) (by decide)) (aW 2 3 (by decide) (by decide))),?_,jS _ _ h.gW (hI (aW 0 4 (by decide) (by decide)).symm (aW 4 9 (by decide) (by decide)) (aW 3 4 (by decide) (by decide)).symm),jS _ _ h.l8 (hI (aW 0 5 (by decide) (by decide)).symm (aW 5 9 (by decide) (by decide)) (aW 3 5 (by decide) (by decide)).symm),?_⟩
    · simpa using mi
    · rw[og,sC]
    · rw[tk,Z8 e4]
    · exact Hw iX (λb L e=>by have:=h.cW b L;omega) 9
  · have e4:dR x.name G.a3=none:=by
      cases bt:dR x.name G.a3 with
      |none=>rfl
      |some i=>rw[<-zR,bt]at aM;obtain⟨e,aU⟩:=alE aM;cases aU
    have c1:hP G x= .inl {G with dG:=G.dG++[Bf],a3:=G.a3++[x.name],cc:=iV}:=(by simp only[hP,zR,aM]);rw[c1];have iW:= λ(b:Nat) (O:fO) (L:t.M b=some O) (ak:b∉[d.c,g4,d.iL])=>(bw.M b (aT L) ak).trans L;have jS:= λ(b:Nat) (O:List (Value×Value)) (L:t.c6 b=some O) (ak:b∉[d.c,g4,d.iL])=>(bw.map b (aT (hv L).1) ak).trans L
    refine⟨g5,eL,o',g6,fW,hR,cY,cy,?_,iW _ _ h.vz (hI (aW 0 6 (by decide) (by decide)).symm (aW 6 8 (by decide) (by decide)) (aW 3 6 (by decide) (by decide)).symm),iW _ _ h.qu (hI (aW 0 7 (by decide) (by decide)).symm (aW 7 8 (by decide) (by decide)) (aW 3 7 (by decide) (by decide)).symm),?_,iW _ _ h.vB (hI (aW 0 9 (by decide) (by decide)).symm (aW 8 9 (by decide) (by decide)).symm (aW 3 9 (by decide) (by decide)).symm),iW _ _ h.vA (hI (aW 0 10 (by decide) (by decide)).symm (aW 8 10 (by decide) (by decide)).symm (aW 3 10 (by decide) (by decide)).symm),iW _ _ h.rV (hI (aW 0 11 (by decide) (by decide)).symm (aW 8 11 (by decide) (by decide)).symm (aW 3 11 (by decide) (by decide)).symm),
      jS _ _ h.gV (hI (aW 0 1 (by decide) (by decide)).symm (aW 1 8 (by decide) (by decide)) (aW 1 3 (by decide) (by decide))),jS _ _ h.eC (hI (aW 0 2 (by decide) (by decide)).symm (aW 2 8 (by decide) (by decide)) (aW 2 3 (by decide) (by decide))),?_,jS _ _ h.gW (hI (aW 0 4 (by decide) (by decide)).symm (aW 4 8 (by decide) (by decide)) (aW 3 4 (by decide) (by decide)).symm),jS _ _ h.l8 (hI (aW 0 5 (by decide) (by decide)).symm (aW 5 8 (by decide) (by decide)) (aW 3 5 (by decide) (by decide)).symm),?_⟩
    · simpa using mi
    · rw[og,sC]
    · rw[tk,Z8 e4]
    · exact Hw iX (λb L e=>by have:=h.cW b L;omega) 8
  · have c1:hP G x= .inr (e,x.p):=(by simp only[hP,zR,aM]);rw[c1];exact⟨az1 aM,fe⟩
theorem aAN{d:o5}{ext:Int}{G:dm}{t:B}{x:mg}(W:mg.bM x)(BH:x.a5.length<1000000)(h:Fh d ext G t)(ak:G.cG.length<1000000)(qy:G.a5.length<1000000){az:Value->B->Prop}(j1: ∀aN,lf d ext (jx G x) aN->az (.tuple #[]) aN):hn Tryz.prog 44 [bZ d.c,.agg (hc x).toArray] t az:=by
  obtain⟨g5,eL,g4,g6,fW,hR,cY,cy,h⟩:=h;have iX:=h.iX;have aW: ∀i j (aa:i<j) (cp:j<12),([d.c,d.gV,d.eC,d.iL,d.gW,d.l8,g5,eL,g4,g6,fW,hR]:List Nat)[i]'(by simp;omega)≠([d.c,d.gV,d.eC,d.iL,d.gW,d.l8,g5,eL,g4,g6,fW,hR]:List Nat)[j]'(by simpa using cp):= λi j aa cp=>IJ iX i j aa (by simpa using cp);have zR:(dR x.name G.lv).isSome=(cF (cz x.name) (lh 0 G.lv)).isSome:=vV.symm;refine aAO (x:=x) W BH (c:=d.c) (eL:=eL) (fW:=fW) (eC:=d.eC) (gW:=d.gW) (lQ:=G.a5.length) (oU:=G.cG.length) h.c h.vA (IZ λ_=>rfl) ak qy h.gW Am h.eC (λ_=>Am) (λs v X=> ?_) (aW 0 10 (by decide) (by decide)).symm (aW 0 4 (by decide) (by decide)).symm (aW 4 10 (by decide) (by decide)) (aW 2 4 (by decide) (by decide)) (aW 0 2 (by decide) (by decide)).symm (aW 2 10 (by decide) (by decide)) (λaM aN o' fM bp fe bw mi og tk=>j1 aN ?_) (λaN e aM a1 fe=>j1 aN ?_)
  · rw[Cg]at X;cases bt:dR s G.gJ with
    |none=>rw[bt]at X;cases X
    | some i=>rw[bt]at X;simp at X;have:=Gf bt;simp[dm.gJ]at this;exact⟨i,X.symm,by omega,by omega⟩
  · have e4:dR x.name G.lv=none:=by
      cases bt:dR x.name G.lv with
      |none=>rfl
      | some i=>
        rw[<-zR,bt]at aM;unfold oy at aM;split at aM
        · cases aM
        · simp at aM
    have c1:jx G x= .inl {G with cG:=G.cG++[⟨x.name,x.k,x.m,x.q,x.aY,x.a5.map (kY (lh 0 G.gJ)),x.hf.map ea,ea x.hS,ea x.ez⟩]}:=(by simp only[jx,zR,aM,if_true]);rw[c1];have iW:= λ(b:Nat) (O:fO) (L:t.M b=some O) (ak:b∉[d.c,fW,d.gW])=>(bw.M b (aT L) ak).trans L;have jS:= λ(b:Nat) (O:List (Value×Value)) (L:t.c6 b=some O) (ak:b∉[d.c,fW,d.gW])=>(bw.map b (aT (hv L).1) ak).trans L
    refine⟨g5,eL,g4,g6,o',hR,fM,bp,?_,iW _ _ h.vz (hI (aW 0 6 (by decide) (by decide)).symm (aW 6 10 (by decide) (by decide)) (aW 4 6 (by decide) (by decide)).symm),iW _ _ h.qu (hI (aW 0 7 (by decide) (by decide)).symm (aW 7 10 (by decide) (by decide)) (aW 4 7 (by decide) (by decide)).symm),iW _ _ h.vy (hI (aW 0 8 (by decide) (by decide)).symm (aW 8 10 (by decide) (by decide)) (aW 4 8 (by decide) (by decide)).symm),iW _ _ h.vB (hI (aW 0 9 (by decide) (by decide)).symm (aW 9 10 (by decide) (by decide)) (aW 4 9 (by decide) (by decide)).symm),?_,iW _ _ h.rV (hI (aW 0 11 (by decide) (by decide)).symm (aW 10 11 (by decide) (by decide)).symm (aW 4 11 (by decide) (by decide)).symm),
      jS _ _ h.gV (hI (aW 0 1 (by decide) (by decide)).symm (aW 1 10 (by decide) (by decide)) (aW 1 4 (by decide) (by decide))),jS _ _ h.eC (hI (aW 0 2 (by decide) (by decide)).symm (aW 2 10 (by decide) (by decide)) (aW 2 4 (by decide) (by decide))),jS _ _ h.iL (hI (aW 0 3 (by decide) (by decide)).symm (aW 3 10 (by decide) (by decide)) (aW 3 4 (by decide) (by decide))),?_,jS _ _ h.l8 (hI (aW 0 5 (by decide) (by decide)).symm (aW 5 10 (by decide) (by decide)) (aW 4 5 (by decide) (by decide)).symm),?_⟩
    · simpa using mi
    · rw[og,sC]
    · rw[tk,LR e4 (by simp[dm.lv])];simp[dm.lv]
    · exact Hw iX (λb L e=>by have:=h.cW b L;omega) 10
  · have c1:jx G x= .inr (e,x.p):=(by simp only[jx,zR,aM,a1,if_false]);rw[c1];exact⟨a1,fe⟩
theorem x1{cK:Type}{f:dm->cK->iN}{s:iN}{l:List cK}{x:cK}:fr f s (l++[x])=CE f (fr f s l) x:=by simp only[fr,List.foldl_append,List.foldl_cons,List.foldl_nil]
theorem I2{t:B}{k i:Nat}{cA:Option fO}(aa:t.next<=i):qe t ((t.bs k).au i cA) [] where
  next:=by simp
  M b L _:=by rw[dv (by omega),gr L]
  map b L _:=by rw[rX (by omega),wU L]
theorem arE{d:o5}{ext:Int}{l:List xN}(aG:l.length<1000000){s:iN}{t:B}{az:Value->B->Prop}(c1:lf d ext s t)(aO: ∀x∈l,x.eV.bM)(fH: ∀i G,i<l.length->fr kQ s (l.take i)= .inl G->G.ck.length<1000000)(j1: ∀aN,lf d ext (fr kQ s l) aN->az (.tuple #[]) aN):hn Tryz.prog 37 [bZ d.c,bE (l.map pt) 6,.func (.func 38) #[bZ d.c] #[]] t az:=by
  refine g0 (aY:=⟨[],[]⟩) axm (by kernel_rfl) (by simp[YG]) ?_;simp[YG,ai5];refine jn (aY:=⟨[],[]⟩) (λi u t=>lf d ext (fr kQ s (l.take i)) t/\u 0=bZ d.c/\u 2= .func (.func 38) #[bZ d.c] #[]/\u 8=bE (l.map pt) 6/\u 9=S l.length/\u 10=S i) l.length ?_ ?_ 0 _ _ (Nat.zero_le _) ⟨by simpa[fr]using c1,by simp,by simp,by simp,by simp,by simp⟩
  · rintro i u t aa ⟨J,bl,bD,b3,cg,dP⟩ b9 a9;have H:l[i]?=some l[i]:=List.getElem?_eq_getElem aa;have bo:IntKind.i64.wrap ((i:Int)+1)=(i:Int)+1:=ct (by omega) (by omega);have bK:(i:Int)<l.length:=(by omega);have aI:fr kQ s (l.take (i+1))=CE kQ (fr kQ s (l.take i)) l[i]:=(by rw[kB H];exact x1);cases aF:fr kQ s (l.take i)with
    | inl G=>rw[aF]at aI J;obtain⟨g5,eL,g4,g6,fW,hR,cY,cy,oo⟩:=J;have aB:=oo.c;have m1:=aT aB;simp(disch:=first|omega|(simp only[ae,ad,af];omega)) [Qx,Qu,Qv,Qw,bl,bD,b3,cg,dP,bK,aB,pt];refine ayP (x:=l[i]) (aO _ (List.getElem_mem aa)) ⟨g5,eL,g4,g6,fW,hR,cY,cy,oo.Bj (I2 (by omega))⟩ (fH i G aa aF) λaN bH=> ?_;simp(disch:=omega) [dP,bo];exact a9 _ _ ⟨by rw[aI];exact bH,by simp[bl],by simp[bD],by simp[b3],by simp[cg],by simp⟩
    | inr e=>rw[aF]at aI J;obtain⟨aU,dF,bn,bF,dp,eH,fo,fp,gp,hW,gD,hd,g8,h2,h3,h4,h5,h6,aB⟩:=J;have m1:=aT aB;simp(disch:=first|omega|(simp only[ae,ad,af];omega)) [Qx,Qu,Qv,Qw,bl,b3,cg,dP,bK,bo,aB,aU,pt,-al,-ar,-ai,-ao,-List.map_map];refine a9 _ _ ⟨by rw[aI];exact⟨aU,gf.mk (Eq.trans (b:=t.M d.c) (by simp(disch:=first|omega|(simp only[ae,ad,af];omega)) [-al,-ar,-ai,-ao,-List.map_map]) aB)⟩,by simp[bl],by simp[bD],by simp[b3],by simp[cg],by simp⟩
  · rintro u t ⟨J,bl,bD,b3,cg,dP⟩;rw[List.take_length]at J;simp[Qx,Qu,Qv,Qw,cg,dP];exact j1 t J
theorem arF{d:o5}{ext:Int}{l:List zq}(aG:l.length<1000000){s:iN}{t:B}{az:Value->B->Prop}(c1:lf d ext s t)(fH: ∀i G,i<l.length->fr ja s (l.take i)= .inl G->G.a5.length<1000000)(j1: ∀aN,lf d ext (fr ja s l) aN->az (.tuple #[]) aN):hn Tryz.prog 39 [bZ d.c,bE (l.map nL) 6,.func (.func 40) #[bZ d.c] #[]] t az:=by
  refine g0 (aY:=⟨[],[]⟩) axo (by kernel_rfl) (by simp[YH]) ?_;simp[YH,ai6];refine jn (aY:=⟨[],[]⟩) (λi u t=>lf d ext (fr ja s (l.take i)) t/\u 0=bZ d.c/\u 2= .func (.func 40) #[bZ d.c] #[]/\u 8=bE (l.map nL) 6/\u 9=S l.length/\u 10=S i) l.length ?_ ?_ 0 _ _ (Nat.zero_le _) ⟨by simpa[fr]using c1,by simp,by simp,by simp,by simp,by simp⟩
  · rintro i u t aa ⟨J,bl,bD,b3,cg,dP⟩ b9 a9;have H:l[i]?=some l[i]:=List.getElem?_eq_getElem aa;have bo:IntKind.i64.wrap ((i:Int)+1)=(i:Int)+1:=ct (by omega) (by omega);have bK:(i:Int)<l.length:=(by omega);have aI:fr ja s (l.take (i+1))=CE ja (fr ja s (l.take i)) l[i]:=(by rw[kB H];exact x1);cases aF:fr ja s (l.take i)with
    | inl G=>rw[aF]at aI J;obtain⟨g5,eL,g4,g6,fW,hR,cY,cy,oo⟩:=J;have aB:=oo.c;have m1:=aT aB;simp(disch:=first|omega|(simp only[ae,ad,af];omega)) [QB,Qy,Qz,QA,bl,bD,b3,cg,dP,bK,aB,nL];refine azC (x:=l[i]) ⟨g5,eL,g4,g6,fW,hR,cY,cy,oo.Bj (I2 (by omega))⟩ (fH i G aa aF) λaN bH=> ?_;simp(disch:=omega) [dP,bo];exact a9 _ _ ⟨by rw[aI];exact bH,by simp[bl],by simp[bD],by simp[b3],by simp[cg],by simp⟩
    | inr e=>rw[aF]at aI J;obtain⟨aU,dF,bn,bF,dp,eH,fo,fp,gp,hW,gD,hd,g8,h2,h3,h4,h5,h6,aB⟩:=J;have m1:=aT aB;simp(disch:=first|omega|(simp only[ae,ad,af];omega)) [QB,Qy,Qz,QA,bl,b3,cg,dP,bK,bo,aB,aU,nL,-al,-ar,-ai,-ao,-List.map_map];refine a9 _ _ ⟨by rw[aI];exact⟨aU,gf.mk (Eq.trans (b:=t.M d.c) (by simp(disch:=first|omega|(simp only[ae,ad,af];omega)) [-al,-ar,-ai,-ao,-List.map_map]) aB)⟩,by simp[bl],by simp[bD],by simp[b3],by simp[cg],by simp⟩
  · rintro u t ⟨J,bl,bD,b3,cg,dP⟩;rw[List.take_length]at J;simp[QB,Qy,Qz,QA,cg,dP];exact j1 t J
theorem arG{d:o5}{ext:Int}{l:List k4}(aG:l.length<1000000){s:iN}{t:B}{az:Value->B->Prop}(c1:lf d ext s t)(aO: ∀x∈l,x.fX.bM)(fH: ∀i G,i<l.length->fr hP s (l.take i)= .inl G->G.dG.length<1000000/\G.gq.length<1000000)(j1: ∀aN,lf d ext (fr hP s l) aN->az (.tuple #[]) aN):hn Tryz.prog 41 [bZ d.c,bE (l.map fl) 9,.func (.func 42) #[bZ d.c] #[]] t az:=by
  refine g0 (aY:=⟨[],[]⟩) axq (by kernel_rfl) (by simp[YI]) ?_;simp[YI,ai7];refine jn (aY:=⟨[],[]⟩) (λi u t=>lf d ext (fr hP s (l.take i)) t/\u 0=bZ d.c/\u 2= .func (.func 42) #[bZ d.c] #[]/\u 8=bE (l.map fl) 9/\u 9=S l.length/\u 10=S i) l.length ?_ ?_ 0 _ _ (Nat.zero_le _) ⟨by simpa[fr]using c1,by simp,by simp,by simp,by simp,by simp⟩
  · rintro i u t aa ⟨J,bl,bD,b3,cg,dP⟩ b9 a9;have H:l[i]?=some l[i]:=List.getElem?_eq_getElem aa;have bo:IntKind.i64.wrap ((i:Int)+1)=(i:Int)+1:=ct (by omega) (by omega);have bK:(i:Int)<l.length:=(by omega);have aI:fr hP s (l.take (i+1))=CE hP (fr hP s (l.take i)) l[i]:=(by rw[kB H];exact x1);cases aF:fr hP s (l.take i)with
    | inl G=>rw[aF]at aI J;obtain⟨g5,eL,g4,g6,fW,hR,cY,cy,oo⟩:=J;have aB:=oo.c;have m1:=aT aB;simp(disch:=first|omega|(simp only[ae,ad,af];omega)) [QF,QC,QD,QE,bl,bD,b3,cg,dP,bK,aB,fl];refine az3 (x:=l[i]) (aO _ (List.getElem_mem aa)) ⟨g5,eL,g4,g6,fW,hR,cY,cy,oo.Bj (I2 (by omega))⟩ (fH i G aa aF).1 (fH i G aa aF).2 λaN bH=> ?_;simp(disch:=omega) [dP,bo];exact a9 _ _ ⟨by rw[aI];exact bH,by simp[bl],by simp[bD],by simp[b3],by simp[cg],by simp⟩
    | inr e=>rw[aF]at aI J;obtain⟨aU,dF,bn,bF,dp,eH,fo,fp,gp,hW,gD,hd,g8,h2,h3,h4,h5,h6,aB⟩:=J;have m1:=aT aB;simp(disch:=first|omega|(simp only[ae,ad,af];omega)) [QF,QC,QD,QE,bl,b3,cg,dP,bK,bo,aB,aU,fl,-al,-ar,-ai,-ao,-List.map_map];refine a9 _ _ ⟨by rw[aI];exact⟨aU,gf.mk (Eq.trans (b:=t.M d.c) (by simp(disch:=first|omega|(simp only[ae,ad,af];omega)) [-al,-ar,-ai,-ao,-List.map_map]) aB)⟩,by simp[bl],by simp[bD],by simp[b3],by simp[cg],by simp⟩
  · rintro u t ⟨J,bl,bD,b3,cg,dP⟩;rw[List.take_length]at J;simp[QF,QC,QD,QE,cg,dP];exact j1 t J
theorem arH{d:o5}{ext:Int}{l:List mg}(aG:l.length<1000000){s:iN}{t:B}{az:Value->B->Prop}(c1:lf d ext s t)(aO: ∀x∈l,mg.bM x/\x.a5.length<1000000)(fH: ∀i G,i<l.length->fr jx s (l.take i)= .inl G->G.cG.length<1000000/\G.a5.length<1000000)(j1: ∀aN,lf d ext (fr jx s l) aN->az (.tuple #[]) aN):hn Tryz.prog 43 [bZ d.c,bE (l.map hc) 19,.func (.func 44) #[bZ d.c] #[]] t az:=by
  refine g0 (aY:=⟨[],[]⟩) axs (by kernel_rfl) (by simp[YJ]) ?_;simp[YJ,ai8];refine jn (aY:=⟨[],[]⟩) (λi u t=>lf d ext (fr jx s (l.take i)) t/\u 0=bZ d.c/\u 2= .func (.func 44) #[bZ d.c] #[]/\u 8=bE (l.map hc) 19/\u 9=S l.length/\u 10=S i) l.length ?_ ?_ 0 _ _ (Nat.zero_le _) ⟨by simpa[fr]using c1,by simp,by simp,by simp,by simp,by simp⟩
  · rintro i u t aa ⟨J,bl,bD,b3,cg,dP⟩ b9 a9;have H:l[i]?=some l[i]:=List.getElem?_eq_getElem aa;have bo:IntKind.i64.wrap ((i:Int)+1)=(i:Int)+1:=ct (by omega) (by omega);have bK:(i:Int)<l.length:=(by omega);have aI:fr jx s (l.take (i+1))=CE jx (fr jx s (l.take i)) l[i]:=(by rw[kB H];exact x1);cases aF:fr jx s (l.take i)with
    | inl G=>rw[aF]at aI J;obtain⟨g5,eL,g4,g6,fW,hR,cY,cy,oo⟩:=J;have aB:=oo.c;have m1:=aT aB;simp(disch:=first|omega|(simp only[ae,ad,af];omega)) [QJ,QG,QH,QI,bl,bD,b3,cg,dP,bK,aB,hc];refine aAN (x:=l[i]) (aO _ (List.getElem_mem aa)).1 (aO _ (List.getElem_mem aa)).2 ⟨g5,eL,g4,g6,fW,hR,cY,cy,oo.Bj (I2 (by omega))⟩ (fH i G aa aF).1 (fH i G aa aF).2 λaN bH=> ?_;simp(disch:=omega) [dP,bo];exact a9 _ _ ⟨by rw[aI];exact bH,by simp[bl],by simp[bD],by simp[b3],by simp[cg],by simp⟩
    | inr e=>rw[aF]at aI J;obtain⟨aU,dF,bn,bF,dp,eH,fo,fp,gp,hW,gD,hd,g8,h2,h3,h4,h5,h6,aB⟩:=J;have m1:=aT aB;simp(disch:=first|omega|(simp only[ae,ad,af];omega)) [QJ,QG,QH,QI,bl,b3,cg,dP,bK,bo,aB,aU,hc,-al,-ar,-ai,-ao,-List.map_map];refine a9 _ _ ⟨by rw[aI];exact⟨aU,gf.mk (Eq.trans (b:=t.M d.c) (by simp(disch:=first|omega|(simp only[ae,ad,af];omega)) [-al,-ar,-ai,-ao,-List.map_map]) aB)⟩,by simp[bl],by simp[bD],by simp[b3],by simp[cg],by simp⟩
  · rintro u t ⟨J,bl,bD,b3,cg,dP⟩;rw[List.take_length]at J;simp[QJ,QG,QH,QI,cg,dP];exact j1 t J
theorem arI{d:o5}{ext:Int}{l:List zr}(aG:l.length<1000000){s:iN}{t:B}{az:Value->B->Prop}(c1:lf d ext s t)(fH: ∀i G,i<l.length->fr kR s (l.take i)= .inl G->G.dH.length<1000000)(j1: ∀aN,lf d ext (fr kR s l) aN->az (.tuple #[]) aN):hn Tryz.prog 45 [bZ d.c,bE (l.map qS) 4,.func (.func 46) #[bZ d.c] #[]] t az:=by
  refine g0 (aY:=⟨[],[]⟩) axu (by kernel_rfl) (by simp[YK]) ?_;simp[YK,ai9];refine jn (aY:=⟨[],[]⟩) (λi u t=>lf d ext (fr kR s (l.take i)) t/\u 0=bZ d.c/\u 2= .func (.func 46) #[bZ d.c] #[]/\u 8=bE (l.map qS) 4/\u 9=S l.length/\u 10=S i) l.length ?_ ?_ 0 _ _ (Nat.zero_le _) ⟨by simpa[fr]using c1,by simp,by simp,by simp,by simp,by simp⟩
  · rintro i u t aa ⟨J,bl,bD,b3,cg,dP⟩ b9 a9;have H:l[i]?=some l[i]:=List.getElem?_eq_getElem aa;have bo:IntKind.i64.wrap ((i:Int)+1)=(i:Int)+1:=ct (by omega) (by omega);have bK:(i:Int)<l.length:=(by omega);have aI:fr kR s (l.take (i+1))=CE kR (fr kR s (l.take i)) l[i]:=(by rw[kB H];exact x1);cases aF:fr kR s (l.take i)with
    | inl G=>rw[aF]at aI J;obtain⟨g5,eL,g4,g6,fW,hR,cY,cy,oo⟩:=J;have aB:=oo.c;have m1:=aT aB;simp(disch:=first|omega|(simp only[ae,ad,af];omega)) [QN,QK,QL,QM,bl,bD,b3,cg,dP,bK,aB,qS];refine aDO (x:=l[i]) ⟨g5,eL,g4,g6,fW,hR,cY,cy,oo.Bj (I2 (by omega))⟩ (fH i G aa aF) λaN bH=> ?_;simp(disch:=omega) [dP,bo];exact a9 _ _ ⟨by rw[aI];exact bH,by simp[bl],by simp[bD],by simp[b3],by simp[cg],by simp⟩
    | inr e=>rw[aF]at aI J;obtain⟨aU,dF,bn,bF,dp,eH,fo,fp,gp,hW,gD,hd,g8,h2,h3,h4,h5,h6,aB⟩:=J;have m1:=aT aB;simp(disch:=first|omega|(simp only[ae,ad,af];omega)) [QN,QK,QL,QM,bl,b3,cg,dP,bK,bo,aB,aU,qS,-al,-ar,-ai,-ao,-List.map_map];refine a9 _ _ ⟨by rw[aI];exact⟨aU,gf.mk (Eq.trans (b:=t.M d.c) (by simp(disch:=first|omega|(simp only[ae,ad,af];omega)) [-al,-ar,-ai,-ao,-List.map_map]) aB)⟩,by simp[bl],by simp[bD],by simp[b3],by simp[cg],by simp⟩
  · rintro u t ⟨J,bl,bD,b3,cg,dP⟩;rw[List.take_length]at J;simp[QN,QK,QL,QM,cg,dP];exact j1 t J
end Go.Proofs.YtkpifdkccdndcaaGreat
namespace Go.DI
open Go
def o9(t:B)(l:List Nat):B:=⟨t.next,λb=>if b∈l then none else t.mV b,t.mp⟩
def Aj(t ec:B)(l:List Nat):B:=⟨ec.next,λb=>if b∈l then t.mV b else ec.mV b,ec.mp⟩
structure MX(ec aN:B):Prop where
  next:aN.next=ec.next
  M: ∀b x,ec.M b=some x->aN.M b=some x
  map: ∀b bg,ec.c6 b=some bg->aN.c6 b=some bg
section
variable {P:Program} {t ec:B} {l:List Nat}
@[simp] theorem aHN:(o9 t l).next=t.next:=rfl
theorem adk{b:Nat}(h:b∈l):(o9 t l).M b=none:=by simp[o9,B.M,h]
theorem Ns{b:Nat}(h:b∉l):(o9 t l).M b=t.M b:=by simp[o9,B.M,h]
theorem xW{b:Nat}{x:fO}(h:(o9 t l).M b=some x):b∉l/\t.M b=some x:=by
  by_cases L:b∈l
  · rw[adk L]at h;cases h
  · rw[Ns L]at h;exact⟨L,h⟩
theorem T8{b:Nat}(h:b∉l):(o9 t l).c6 b=t.c6 b:=by have z:(o9 t l).M b=t.M b:=Ns h;unfold B.c6;rw[z];rfl
theorem ayA{b:Nat}(h:b∈l)(ak:t.next<=ec.next)(L:b<t.next):(Aj t ec l).M b=t.M b:=by
  have:b<ec.next:=by omega
  simp[Aj,B.M,h,L,this]
theorem Hf{b:Nat}(h:b∉l):(Aj t ec l).M b=ec.M b:=by simp[Aj,B.M,h]
theorem akA{b:Nat}(h:b∉l):(Aj t ec l).c6 b=ec.c6 b:=by have z:(Aj t ec l).M b=ec.M b:=Hf h;unfold B.c6;rw[z];rfl
theorem hn.frame{f:Nat}{args:List Value}{az:Value->B->Prop}(aG: ∀o∈l,∃x,t.M o=some x/\x.cells≠[])(h:hn P f args (o9 t l) az):
    hn P f args t λr aN=> ∃ec,az r ec/\MX ec (o9 aN l)/\t.next<=aN.next/\ ∀o∈l,aN.M o=t.M o:= λY K asq m J aE=>by
  have auz:gM Y K (o9 t l) m:=⟨λo x H=>J.m7 o x (xW H).2,λo bg aU=>by have L:=(xW (hv aU).1).1;rw[T8 L]at aU;exact J.kz o bg aU,J.nm,J.inj,J.cW,λb cs L=>⟨(J.bw b cs L).1,λo x bT H=>(J.bw b cs L).2 o x bT (xW H).2⟩⟩;refine(h Y K asq m auz aE).aD λhb bz cE=> ?_;obtain⟨ft,gR,r,ec,z,D,Z,aw⟩:=cE;have ak:t.next<=ec.next:=aw.n9
  have lj: ∀o∈l,∃x b cs w,t.M o=some x/\x.cells≠[]/\Y o=some b/\m.M b=some ⟨cs,w⟩/\(x.own=true->w=true)/\b2 K Y x.cells cs:= λo an=>by
    obtain⟨x,H,aB⟩:=aG o an;rcases J.m7 o x H with⟨b,cs,w,bn,bF,dp,eH⟩|⟨_,bF⟩
    · exact⟨x,b,cs,w,H,aB,bn,bF,dp,eH⟩
    · exact absurd bF aB
  have Z9: ∀o∈l,∀b,Y o=some b-> ¬H6 Y (o9 t l) b:= λo an b L ⟨p,x,aq,H⟩=>by have:=J.inj p o b aq L;subst this;rw[adk an]at H;cases H
  have adY: ∀o∈l,ec.M o=none:= λo an=>by
    obtain⟨x,b,cs,w,bn,bF,dp,eH,fo,fp⟩:=lj o an;cases aj:ec.M o with
    |none=>rfl
    |some y=>exact absurd (aw.rI b (J.cW o b dp).2 ⟨o,y,aw.e o b dp,aj⟩) (Z9 o an b dp)
  have FL: ∀o∈l,(Aj t ec l).M o=t.M o:= λo an=>by obtain⟨x,b,cs,w,bn,_⟩:=lj o an;exact ayA an ak (aT bn)
  have DQ:MX ec (o9 (Aj t ec l) l):=⟨rfl,λb x L=>by
      have:b∉l:= λaK=>by rw[adY b aK]at L;cases L
      rw[Ns this,Hf this];exact L,λb bg L=>by
      have:b∉l:= λaK=>by have:=(hv L).1;rw[adY b aK]at this;cases this
      rw[T8 this,akA this];exact L⟩
  refine⟨ft,gR,r,Aj t ec l,⟨ec,z,DQ,ak,FL⟩,?_,Z,?_⟩
  · refine⟨λo x H=> ?_,λo bg aU=> ?_,D.nm,D.inj,D.cW,λb cs L=>⟨(D.bw b cs L).1,λo x bT H=> ?_⟩⟩
    · by_cases an:o∈l
      · rw[FL o an]at H;obtain⟨y,b,cs,w,bn,bF,dp,eH,fo,fp⟩:=lj o an;rw[bn]at H;cases H;exact .inl ⟨b,cs,w,aw.e o b dp,by rw[aw.sd b (J.cW o b dp).2 λ⟨p,O,bm,bU,_⟩=>Z9 o an b dp ⟨p,O,bm,bU⟩];exact eH,fo,fp.aD aw.f aw.e⟩
      · rw[Hf an]at H;exact D.m7 o x H
    · by_cases an:o∈l
      · have:=(hv aU).1;rw[FL o an]at this;obtain⟨y,ah,aB⟩:=aG o an;rw[ah]at this;cases this;exact absurd rfl aB
      · rw[akA an]at aU;exact D.kz o bg aU
    · by_cases an:o∈l
      · rw[FL o an]at H;obtain⟨y,cQ,oF,w,bn,bF,dp,eH,fo,fp⟩:=lj o an;have jD:=aw.e o cQ dp;rw[bT]at jD;cases jD;rcases aw.fn b cs L with q|q|q
        · exact(J.bw b cs q).2 o x dp H
        · have:=(J.cW o b dp).2;omega
        · exact absurd q (Z9 o an b dp)
      · rw[Hf an]at H;exact(D.bw b cs L).2 o x bT H
  · refine⟨aw.e,aw.f,aw.nf,λb cs L=> ?_,ak,aw.oT,λb L aO=>aw.sd b L λ⟨p,O,bm,bU,cn⟩=>aO ⟨p,O,bm,(xW bU).2,cn⟩,λb L ⟨o,x,bm,bU,cn⟩=> ?_,λb L ⟨o,x,bm,bU⟩=> ?_⟩
    · rcases aw.fn b cs L with q|q|⟨p,O,bm,bU⟩
      · exact .inl q
      · exact .inr (.inl q)
      · exact .inr (.inr ⟨p,O,bm,(xW bU).2⟩)
    · by_cases an:o∈l
      · obtain⟨y,cQ,oF,w,bn,bF,dp,_⟩:=lj o an;have jD:=aw.e o cQ dp;rw[bm]at jD;cases jD;rw[FL o an]at bU;exact⟨o,x,dp,bU,cn⟩
      · rw[Hf an]at bU;obtain⟨p,O,e6,fw,iZ⟩:=aw.ss b L ⟨o,x,bm,bU,cn⟩;exact⟨p,O,e6,(xW fw).2,iZ⟩
    · by_cases an:o∈l
      · obtain⟨y,cQ,oF,w,bn,bF,dp,_⟩:=lj o an;have jD:=aw.e o cQ dp;rw[bm]at jD;cases jD;rw[FL o an]at bU;exact⟨o,x,dp,bU⟩
      · rw[Hf an]at bU;obtain⟨p,O,e6,fw⟩:=aw.rI b L ⟨o,x,bm,bU⟩;exact⟨p,O,e6,(xW fw).2⟩
def sx(r hb:Value):Prop:= ∀(K:jA) (Y:hj) (v:Value),cw K Y r v->cw K Y hb v
theorem sx.refl(r:Value):sx r r:= λ_ _ _ h=>h
theorem sx.nil{O:Nat}:sx (.slice none 0 0) (bE [] O):= λK Y v h=>by rw[h.lo rfl];exact .ki rfl
def vq:List Value->List Value->Prop
  |[],[]=>True
  |x::xs,y::ys=>sx x y/\vq xs ys
  |_,_=>False
theorem vq.len: ∀{xs ys:List Value},vq xs ys->xs.length=ys.length
  |[],[],_=>rfl
  |x::xs,y::ys,h=>by simp[vq.len h.2]
  |[],_::_,h=>h.elim
  |_::_,[],h=>h.elim
theorem vq.M: ∀{xs ys:List Value},vq xs ys-> ∀(i:Nat) (x y:Value),xs[i]?=some x->ys[i]?=some y->sx x y
  |[],[],_,i,x,y,z,_=>by simp at z
  |x::xs,y::ys,h,0,a,b,z,D=>by simp at z D;subst z;subst D;exact h.1
  |x::xs,y::ys,h,i+1,a,b,z,D=>vq.M h.2 i a b (by simpa using z) (by simpa using D)
  |[],_::_,h,_,_,_,_,_=>h.elim
  |_::_,[],h,_,_,_,_,_=>h.elim
theorem vq.lr{xs ys mT:List Value}(h:vq xs ys){K:jA}{Y:hj}(aG:b2 K Y xs mT):b2 K Y ys mT:=by refine⟨by rw[<-h.len];exact aG.1,λi y O ah bY=> ?_⟩;have aa:=(List.getElem?_eq_some_iff.1 ah).1;have H:xs[i]?=some (xs[i]'(by rw[h.len];exact aa)):=List.getElem?_eq_getElem _;exact h.M i _ y H ah K Y O (aG.2 i _ O H bY)
theorem sx.agg{xs ys:List Value}(h:vq xs ys):sx (.agg xs.toArray) (.agg ys.toArray):= λK Y v X=>by obtain⟨mT,rfl,aG⟩:=X.vQ;have:=(h.lr (by simpa using aG)).agg;simpa using this
theorem sx.tuple{xs ys:List Value}(h:vq xs ys):sx (.tuple xs.toArray) (.tuple ys.toArray):= λK Y v X=>by obtain⟨mT,rfl,aG⟩:=X.Gj;have:=(h.lr (by simpa using aG)).tuple;simpa using this
theorem eg.aDS{f:Nat}{args:List Value}{r hb:Value}(h:eg P f args r)(aO:sx r hb):eg P f args hb:= λK m asq de aE=>(h K m asq de aE).aD λx N cE=>by obtain⟨z,D,dI,Z,aw,aX⟩:=cE;exact⟨z,D,dI,Z,aw,aO dI _ _ aX⟩
end
end Go.DI
namespace Go.Proofs.YtkpifdkccdndcaaGreat
open Go Go.DI Go.Big
noncomputable def yZ:c8 Tryz.prog:= .fJ 34 (Int) (λn=>0<=n/\n<18446744073709551616) (λn=>[br n]) (λn=>e3 (bG n)) (λn h=>azp h.1 h.2)
@[simp] theorem aOh:yZ.f=34:=rfl
@[simp] theorem aOi{n:Int}(h:0<=n/\n<18446744073709551616):yZ.fn ([br n])=some (e3 (bG n)):=c8.gX (x:=n) h λy ah=>by simpa using ah
noncomputable def y0(s:gg)(ak:s.a3.length<1000000):c8 Tryz.prog:= .fJ 36 Unit (λ_=>True) (λ_=>[.agg (dT s).toArray]) (λ_=> .bool (mO s)) λ_ _=>aCR ak
@[simp] theorem aO7{s:gg}{ak:s.a3.length<1000000}:(y0 s ak).f=36:=rfl
@[simp] theorem aO8{s:gg}{ak:s.a3.length<1000000}:(y0 s ak).fn [.agg #[S s.ext,bE (s.ck.map pt) 6,bE (s.a5.map nL) 6,bE (s.a3.map fl) 9,bE (s.cG.map hc) 19,bE (s.dH.map qS) 4]]=some (.bool (mO s)):=c8.gX (x:=()) trivial λ_ _=>rfl
def mM:qX:=⟨⟨#[]⟩,0,-1,0,⟨false,bG 0,bG 1⟩⟩
def lG:dm:=⟨[],[],[mM],[],[],[],[],⟨0,-1,-1,-1,-1⟩⟩
theorem tp{cK:Type}{f:dm->cK->iN}{e:Int×mf}{l:List cK}:fr f (.inr e) l= .inr e:=by
  induction l with
  |nil=>rfl
  |cons x l cb=>simpa[fr,CE]using cb
theorem zH{cK:Type}{f:dm->cK->iN}{G:dm}{x:cK}{l:List cK}:fr f (.inl G) (x::l)=fr f (f G x) l:=rfl
def CX{cK:Type}(f:dm->cK->iN):Prop:= ∀G x eP n,f G x= .inl eP->G.small n->eP.small (n+1)
theorem HO{G:dm}{n k:Nat}(h:G.small n)(W:n<=k):G.small k:=by obtain⟨z,D,Z,aw,aX,cC⟩:=h;exact⟨by omega,by omega,by omega,by omega,by omega,by omega⟩
theorem I1{cK:Type}{f:dm->cK->iN}(aI:CX f): ∀{l:List cK} {s:iN} {eP:dm} {n:Nat},fr f s l= .inl eP->(∀G,s= .inl G->G.small n)->eP.small (n+l.length):=by
  intro l;induction l with
  |nil=>intro s eP n h J;exact J eP h
  | cons x l cb=>
    intro s eP n h J;cases s with
    |inr e=>rw[tp]at h;cases h
    | inl G=>rw[zH]at h;have:=cb (n:=n+1) h λhD z=>aI G x hD n z (J G rfl);refine HO this (by simp;omega)
theorem UN:CX kQ:= λG x eP n h J=>by
  obtain⟨z,D,Z,aw,aX,cC⟩:=J;unfold kQ at h
  repeat' split at h
  all_goals cases h
  refine⟨?_,?_,?_,?_,?_,?_⟩<;>simp<;>omega
theorem UO:CX ja:= λG x eP n h J=>by
  obtain⟨z,D,Z,aw,aX,cC⟩:=J;unfold ja at h
  repeat' split at h
  all_goals cases h
  refine⟨?_,?_,?_,?_,?_,?_⟩<;>simp<;>omega
theorem UP:CX hP:= λG x eP n h J=>by
  obtain⟨z,D,Z,aw,aX,cC⟩:=J;unfold hP at h;split at h;all_goals cases h
  all_goals(refine⟨?_,?_,?_,?_,?_,?_⟩<;>simp<;>omega)
theorem UQ:CX jx:= λG x eP n h J=>by
  obtain⟨z,D,Z,aw,aX,cC⟩:=J;unfold jx at h;simp only at h;split at h;all_goals cases h
  refine⟨?_,?_,?_,?_,?_,?_⟩<;>simp<;>omega
theorem aex:CX kR:= λG x eP n h J=>by
  obtain⟨z,D,Z,aw,aX,cC⟩:=J;unfold kR at h
  repeat' split at h
  all_goals cases h
  refine⟨?_,?_,?_,?_,?_,?_⟩<;>simp<;>omega
structure _root_.Go.Big.gg.bM(s:gg):Prop where
  ck: ∀x∈s.ck,x.eV.bM
  a3: ∀x∈s.a3,x.fX.bM
  cG: ∀x∈s.cG,mg.bM x/\x.a5.length<1000000
  rm:s.ck.length<1000
  dS:s.a5.length<1000
  mH:s.a3.length<1000
  p2:s.cG.length<1000
  yL:s.dH.length<1000
noncomputable def wQ(s:gg):iN:=fr kQ (.inl lG) s.ck
noncomputable def pa(s:gg):iN:=fr ja (wQ s) s.a5
noncomputable def qn(s:gg):iN:=fr hP (pa s) s.a3
noncomputable def q6(s:gg):iN:=fr jx (qn s) s.cG
noncomputable def mC(s:gg):iN:=fr kR (q6 s) s.dH
theorem TB:lG.small 1:=⟨by simp[lG],by simp[lG],by simp[lG],by simp[lG],by simp[lG],by simp[lG]⟩
theorem Us{s:gg}(W:s.bM){G:dm}(h:wQ s= .inl G):G.small 1000:=HO (I1 UN h λG h=>by cases h;exact TB) (by have:=W.rm;omega)
theorem Uv{s:gg}(W:s.bM){G:dm}(h:pa s= .inl G):G.small 2000:=HO (I1 UO h λG h=>Us W h) (by have:=W.dS;omega)
theorem Uw{s:gg}(W:s.bM){G:dm}(h:qn s= .inl G):G.small 3000:=HO (I1 UP h λG h=>Uv W h) (by have:=W.mH;omega)
theorem adJ{s:gg}(W:s.bM){G:dm}(h:q6 s= .inl G):G.small 4000:=HO (I1 UQ h λG h=>Uw W h) (by have:=W.p2;omega)
theorem y8{cK:Type}{f:dm->cK->iN}(aI:CX f){l:List cK}{s:iN}{n i:Nat}(J: ∀G,s= .inl G->G.small n)(aa:i<l.length)(aG:l.length<1000)(ak:n<=10000){G:dm}(h:fr f s (l.take i)= .inl G):G.small 100000:=
  HO (I1 aI h J) (by rw[List.length_take];omega)
theorem zl.sub{d:o5}{ext:Int}{G:dm}{t aN:B}{g5 eL g4 g6 fW hR:Nat}{cY cy:Value}(h:zl d ext G t g5 eL g4 g6 fW hR cY cy)(J:MX t aN):zl d ext G aN g5 eL g4 g6 fW hR cY cy:=
  ⟨J.M _ _ h.c,J.M _ _ h.vz,J.M _ _ h.qu,J.M _ _ h.vy,J.M _ _ h.vB,J.M _ _ h.vA,J.M _ _ h.rV,J.map _ _ h.gV,J.map _ _ h.eC,J.map _ _ h.iL,J.map _ _ h.gW,J.map _ _ h.l8,h.iX⟩
theorem lf.sub{d:o5}{ext:Int}{s:iN}{t aN:B}(h:lf d ext s t)(J:MX t aN):lf d ext s aN:=by
  cases s with
  |inl G=>obtain⟨g5,eL,g4,g6,fW,hR,cY,cy,z⟩:=h;exact⟨g5,eL,g4,g6,fW,hR,cY,cy,z.sub J⟩
  | inr e=>obtain⟨bB,_,_,_,_,_,_,_,_,_,_,_,_,_,_,_,_,_,z⟩:=h;exact⟨bB,gf.mk (J.M _ _ z)⟩
theorem lf.bs{d:o5}{ext:Int}{s:iN}{t:B}{k:Nat}(h:lf d ext s t):lf d ext s (t.bs k):=h.Bj ⟨by simp,λb L _=>gr L,λb L _=>wU L⟩
theorem amD{cK:Type}{f:cK->List Value}{O:Nat}{l:List cK}(h: ∀x,(f x).length=O/\ ∀v∈f x,j9 v=true): ∀r∈l.map f,r.length=O/\ ∀v∈r,j9 v=true:= λr aF=>by obtain⟨x,_,rfl⟩:=List.mem_map.1 aF;exact h x
theorem akN(x:hk):(j3 x).length=4/\ ∀v∈j3 x,j9 v=true:=⟨rfl,λv X=>by simp[j3]at X;rcases X with rfl|rfl|rfl|rfl<;>rfl⟩
theorem adS(x:H9):(qq x).length=4/\ ∀v∈qq x,j9 v=true:=⟨rfl,λv X=>by simp[qq]at X;rcases X with rfl|rfl|rfl|rfl<;>rfl⟩
theorem adL(x:qX):(iC x).length=7/\ ∀v∈iC x,j9 v=true:=⟨rfl,λv X=>by simp[iC]at X;rcases X with rfl|rfl|rfl|rfl|rfl|rfl|rfl<;>rfl⟩
theorem adM(x:zm):(qp x).length=3/\ ∀v∈qp x,j9 v=true:=⟨rfl,λv X=>by simp[qp]at X;rcases X with rfl|rfl|rfl<;>rfl⟩
theorem adW(x:oD):(mX x).length=17/\ ∀v∈mX x,j9 v=true:=⟨rfl,λv X=>by simp[mX]at X;rcases X with rfl|rfl|rfl|rfl|rfl|rfl|rfl|rfl|rfl|rfl|rfl|rfl|rfl|rfl|rfl|rfl|rfl<;>rfl⟩
theorem ad3(x:Ia):(qs x).length=2/\ ∀v∈qs x,j9 v=true:=⟨rfl,λv X=>by simp[qs]at X;rcases X with rfl|rfl<;>rfl⟩
def u0(K:hC)(e:Int)(p:mf):Value:= .tuple #[.agg (fu K).toArray,S e,.agg #[S p.l,S p.c]]
def p6(ext:Int):iN->hC×Int×mf
  | .inl G=>(⟨ext,G.ck,G.a5,G.dG,G.gq,G.cG,G.dH⟩,0,⟨0,0⟩)
  | .inr (e,p)=>(hC.nil,e,p)
noncomputable def lz(s:gg):hC×Int×mf:=
  if cU s.ext 1 4=false then(hC.nil,5,⟨0,0⟩)else if mO s=false then(hC.nil,2,⟨0,0⟩)else p6 s.ext (mC s)
theorem HB{e:Int}{p:mf}{f:Nat}{args:List Value}(h:eg Tryz.prog f args (.tuple #[.agg #[S 0,.slice none 0 0,.slice none 0 0,.slice none 0 0,.slice none 0 0,.slice none 0 0,.slice none 0 0],S e,.agg #[S p.l,S p.c]])):eg Tryz.prog f args (u0 hC.nil e p):=
  h.aDS (sx.tuple (xs:=[_,_,_]) (ys:=[_,_,_]) ⟨sx.agg (xs:=[_,_,_,_,_,_,_]) (ys:=[_,_,_,_,_,_,_]) ⟨.refl _,.nil,.nil,.nil,.nil,.nil,.nil,trivial⟩,.refl _,.refl _,trivial⟩)
theorem TC{aY:pB Tryz.prog}{c:U}{cO:aL}{cd:B}{Q:dr->aL->B->Prop}(P:aL->B->Prop)(aq:P cO cd)(h: ∀u t,P u t->j6 aY c u t Q):j6 aY c cO cd Q:=h _ _ aq
def fk:List Value:=[S 0,.slice none 0 0,.slice none 0 0,.slice none 0 0,.slice none 0 0,.slice none 0 0,.slice none 0 0]
structure aoC(s:gg)(u:aL)(t:B):Prop where
  aH:u 1=bZ 0
  bD:u 2=bZ 1
  bd:u 3=S 0
  bL:u 4=bZ 3
  cv:u 5=bZ 10
  a4:t.M 0=some ⟨dT s,true⟩
  aC:t.M 1=some ⟨fk,true⟩
  bS:t.M 3=some ⟨[S 0,S 0],true⟩
  wS:t.M 10=some ⟨[S s.ext,.slice none 0 0,.slice none 0 0,.slice (some ⟨17,0,none⟩) 1 7,.slice none 0 0,.slice none 0 0,.slice none 0 0,.map (some 4),.map (some 5),.map (some 6),.map (some 7),.map (some 8),S 0,S (-1),S (-1),S (-1),S (-1),S 0,S 0,S 0],true⟩
  FH:t.M 17=some ⟨iC mM,true⟩
  h0:t.c6 4=some []
  g2:t.c6 5=some []
  ie:t.c6 6=some []
  nF:t.c6 7=some []
  xx:t.c6 8=some []
  kO:t.next=22
theorem T6{s:gg}{ak:s.a3.length<1000000}{Q:dr->aL->B->Prop}(h: ∀u t,aoC s u t->j6 ⟨[oA,yZ,y0 s ak],[pU]⟩ Kj u t Q):j6 ⟨[oA,yZ,y0 s ak],[pU]⟩ O6 (eu [.agg (dT s).toArray]) yJ Q:=by simp(disch:=first|omega|(simp only[ae,ad,af];omega)) [O6,af2,af3,af4,af5,dT,-al,-ar,-ai,-ao,-List.map_map];refine h _ _ ⟨?_,?_,?_,?_,?_,?_,?_,?_,?_,?_,?_,?_,?_,?_,?_,?_⟩;all_goals first|(simp;done)|(simp[dT,fk,iC,mM];done)|(simp[dT,fk,iC,mM];rfl)|trace_state
theorem ML{f:Nat}{args:List Value}{t:B}{az:Value->B->Prop}{o j:Nat}(O:Nat){cs:List Value}(an:t.M o=some ⟨cs,true⟩)(cp:cs[j]?=some (.slice none 0 0))
    (h: ∀aN,aN.next=t.next+1->aN.M o=some ⟨cs.set j (.slice (some ⟨t.next,0,none⟩) 0 O),true⟩->aN.M t.next=some ⟨[],true⟩->(∀a x,t.M a=some x->a≠o->aN.M a=some x)->(∀a x,t.c6 a=some x->a≠o->aN.c6 a=some x)->hn Tryz.prog f args aN az):hn Tryz.prog f args t az:=by
  have cZ:=aT an;refine aEa (O:=O) an cp (h _ (by simp) (bX (by simp;omega)) (by rw[dv (by omega),bX (by simp)]) (λa x H ak=> ?_) (λa x H ak=> ?_))
  · have:=aT H;rw[dv ak,dv (by omega),B.gr];exact H
  · have:=aT (hv H).1;rw[rX ak,rX (by omega),wU this];exact H
def uO:o5:=⟨10,4,5,6,7,8⟩
def cY:List Nat:=[0,1,3]
theorem aD9{f:Nat}{args:List Value}{t:B}{az:Value->B->Prop}{s:gg}{bq:Nat}(kO:t.next=bq)(hF:22<=bq)(a4:t.M 0=some ⟨dT s,true⟩)(aC:t.M 1=some ⟨fk,true⟩)(bS:t.M 3=some ⟨[S 0,S 0],true⟩)
    (wS:t.M 10=some ⟨[S s.ext,.slice none 0 0,.slice none 0 0,.slice (some ⟨17,0,none⟩) 1 7,.slice none 0 0,.slice none 0 0,.slice none 0 0,.map (some 4),.map (some 5),.map (some 6),.map (some 7),.map (some 8),S 0,S (-1),S (-1),S (-1),S (-1),S 0,S 0,S 0],true⟩)
    (FH:t.M 17=some ⟨iC mM,true⟩) (h0:t.c6 4=some []) (g2:t.c6 5=some []) (ie:t.c6 6=some []) (nF:t.c6 7=some []) (xx:t.c6 8=some [])
    (h: ∀aN,lf uO s.ext (.inl lG) (o9 aN cY)->aN.M 0=some ⟨dT s,true⟩->aN.M 1=some ⟨fk,true⟩->aN.M 3=some ⟨[S 0,S 0],true⟩->hn Tryz.prog f args aN az):hn Tryz.prog f args t az:=by
  refine ML 4 (j:=1) wS rfl λec fY cB bn bp cS=> ?_;refine ML 4 (j:=2) cB rfl λiG dh eQ bF dc fz=> ?_;refine ML 3 (j:=4) eQ rfl λvh kZ ht dp eK hT=> ?_;refine ML 17 (j:=5) ht rfl λAT p0 ho eH kX hK=> ?_;refine ML 2 (j:=6) ho rfl λqT sW ly fo j2 iI=> ?_;have gu: ∀a x,t.M a=some x->a≠10->qT.M a=some x:= λa x H ak=>j2 a x (kX a x (eK a x (dc a x (bp a x H ak) ak) ak) ak) ak;have LK: ∀a x,t.c6 a=some x->a≠10->qT.c6 a=some x:= λa x H ak=>iI a x (hK a x (hT a x (fz a x (cS a x H ak) ak) ak) ak) ak;have Db: ∀a x,a∉cY->qT.M a=some x->(o9 qT cY).M a=some x:= λa x ak H=>by rw[Ns ak];exact H
  have pD: ∀a x,a∉cY->qT.c6 a=some x->(o9 qT cY).c6 a=some x:= λa x ak H=>by rw[T8 ak];exact H
  have dt:ec.next=bq+1:=by omega
  have dJ:iG.next=bq+2:=by omega
  have xS:vh.next=bq+3:=by omega
  have C7:AT.next=bq+4:=by omega
  rw[kO]at bn cB eQ ht ho ly;rw[dt]at bF eQ ht ho ly;rw[dJ]at dp ht ho ly;rw[xS]at eH ho ly;rw[C7]at fo ly;have LW: ∀a,22<=a->a∉cY:= λa aE h=>by simp[cY]at h;omega
  refine h qT ⟨bq,bq+1,17,bq+2,bq+3,bq+4,S 0,S 0,?_⟩ (gu _ _ a4 (by decide)) (gu _ _ aC (by decide)) (gu _ _ bS (by decide));refine⟨?_,?_,?_,?_,?_,?_,?_,?_,?_,?_,?_,?_,?_⟩
  · exact Db _ _ (by decide) (by rw[uO,ly];rfl)
  · exact Db _ _ (LW _ (by omega)) (j2 _ _ (kX _ _ (eK _ _ (dc _ _ bn (by omega)) (by omega)) (by omega)) (by omega))
  · exact Db _ _ (LW _ (by omega)) (j2 _ _ (kX _ _ (eK _ _ bF (by omega)) (by omega)) (by omega))
  · exact Db _ _ (by decide) (gu _ _ (by rw[FH];rfl) (by decide))
  · exact Db _ _ (LW _ (by omega)) (j2 _ _ (kX _ _ dp (by omega)) (by omega))
  · exact Db _ _ (LW _ (by omega)) (j2 _ _ eH (by omega))
  · exact Db _ _ (LW _ (by omega)) fo
  · exact pD _ _ (by decide) (LK _ _ h0 (by decide))
  · exact pD _ _ (by decide) (LK _ _ g2 (by decide))
  · exact pD _ _ (by decide) (LK _ _ ie (by decide))
  · exact pD _ _ (by decide) (LK _ _ nF (by decide))
  · exact pD _ _ (by decide) (LK _ _ xx (by decide))
  · simp only[uO,List.nodup_cons,List.mem_cons,List.not_mem_nil,or_false,not_or,List.nodup_nil,and_true,not_false_eq_true];refine⟨?_,?_,?_,?_,?_,?_,?_,?_,?_,?_,?_⟩<;>omega
structure MT(s:gg)(r:iN)(u:aL)(t:B):Prop where
  aH:u 1=bZ 0
  bD:u 2=bZ 1
  bd:u 3=S 0
  bL:u 4=bZ 3
  cv:u 5=bZ 10
  a4:t.M 0=some ⟨dT s,true⟩
  aC:t.M 1=some ⟨fk,true⟩
  bS:t.M 3=some ⟨[S 0,S 0],true⟩
  wu:lf uO s.ext r (o9 t cY)
theorem MK{f:Nat}{args:List Value}{s:gg}{r hb:iN}{t:B}{az:Value->B->Prop}(a4:t.M 0=some ⟨dT s,true⟩)(aC:t.M 1=some ⟨fk,true⟩)(bS:t.M 3=some ⟨[S 0,S 0],true⟩)
    (h:hn Tryz.prog f args (o9 t cY) λv aN=>v= .tuple #[]/\lf uO s.ext hb aN) (j1: ∀aN,aN.M 0=some ⟨dT s,true⟩->aN.M 1=some ⟨fk,true⟩->aN.M 3=some ⟨[S 0,S 0],true⟩->lf uO s.ext hb (o9 aN cY)->az (.tuple #[]) aN):hn Tryz.prog f args t az:=by
  refine(hn.frame (l:=cY) (λo an=> ?_) h).aD λv aN ⟨ec,⟨X,z⟩,D,Z,aw⟩=> ?_
  · simp only[cY,List.mem_cons,List.not_mem_nil,or_false]at an;rcases an with rfl|rfl|rfl
    · exact⟨_,a4,by simp[dT]⟩
    · exact⟨_,aC,by simp[fk]⟩
    · exact⟨_,bS,by simp⟩
  · subst X;exact j1 aN (by rw[aw 0 (by decide)];exact a4) (by rw[aw 1 (by decide)];exact aC) (by rw[aw 3 (by decide)];exact bS) (z.sub D)
theorem adh{s:gg}(W:s.bM){ak:s.a3.length<1000000}(z:cU s.ext 1 4=true)(D:mO s=true){Q:dr->aL->B->Prop}(h: ∀u t,MT s (mC s) u t->j6 ⟨[oA,yZ,y0 s ak],[pU]⟩ Gt u t Q):j6 ⟨[oA,yZ,y0 s ak],[pU]⟩ O6 (eu [.agg (dT s).toArray]) yJ Q:=by refine T6 λu t ⟨aH,bD,bd,bL,cv,a4,aC,bS,wS,FH,h0,g2,ie,nF,xx,kO⟩=> ?_;simp[Kj,dT,z,D,aH,cv,a4,wS,kO];refine aD9 (bq:=26) (s:=s) (by simp[kO]) (by decide) (by simpa[kO,gr]using a4) (by simpa[kO,gr]using aC) (by simpa[kO,gr]using bS) (by simpa[kO,gr]using wS) (by simpa[kO,gr]using FH) (by simpa[kO,wU]using h0) (by simpa[kO,wU]using g2) (by simpa[kO,wU]using ie) (by simpa[kO,wU]using nF) (by simpa[kO,wU]using xx) λt c1 a4 aC bS=> ?_;refine MK (r:= .inl lG) (hb:=wQ s) a4 aC bS (arE (d:=uO) (l:=s.ck) (by have:=W.rm;omega) c1 W.ck (λi G aa h=>by have:=(y8 UN (n:=1) (λG h=>by cases h;exact TB) aa W.rm (by decide) h).1;omega) λaN h=>⟨rfl,h⟩) λaN gi aM cI fe=> ?_;simp;refine TC (MT s (wQ s)) ⟨by simp[aH],by simp[bD],by simp[bd],by simp[bL],by simp[cv],gi,aM,cI,fe⟩ λu t ⟨aH,bD,bd,bL,cv,a4,aC,bS,wu⟩=> ?_;simp[af6,dT,aH,cv,a4];refine MK (r:=wQ s) (hb:=pa s) (by simpa using a4) (by simpa using aC) (by simpa using bS) (arF (d:=uO) (l:=s.a5) (by have:=W.dS;omega) wu (λi G aa h=>by have:=(y8 UO (n:=1000) (λG h=>Us W h) aa W.dS (by decide) h).2.1;omega) λaN h=>⟨rfl,h⟩) λaN gi aM cI fe=> ?_;simp;refine TC (MT s (pa s)) ⟨by simp[aH],by simp[bD],by simp[bd],by simp[bL],by simp[cv],gi,aM,cI,fe⟩ λu t ⟨aH,bD,bd,bL,cv,a4,aC,bS,wu⟩=> ?_;simp[af7,dT,aH,cv,a4];refine MK (r:=pa s) (hb:=qn s) (by simpa using a4) (by simpa using aC) (by simpa using bS) (arG (d:=uO) (l:=s.a3) (by have:=W.mH;omega) wu W.a3 (λi G aa h=>by have:=y8 UP (n:=2000) (λG h=>Uv W h) aa W.mH (by decide) h;exact⟨by have:=this.2.2.1;omega,by have:=this.2.2.2.1;omega⟩) λaN h=>⟨rfl,h⟩) λaN gi aM cI fe=> ?_;simp;refine TC (MT s (qn s)) ⟨by simp[aH],by simp[bD],by simp[bd],by simp[bL],by simp[cv],gi,aM,cI,fe⟩ λu t ⟨aH,bD,bd,bL,cv,a4,aC,bS,wu⟩=> ?_;simp[af8,dT,aH,cv,a4];refine MK (r:=qn s) (hb:=q6 s) (by simpa using a4) (by simpa using aC) (by simpa using bS) (arH (d:=uO) (l:=s.cG) (by have:=W.p2;omega) wu W.cG (λi G aa h=>by have:=y8 UQ (n:=3000) (λG h=>Uw W h) aa W.p2 (by decide) h;exact⟨by have:=this.2.2.2.2.1;omega,by have:=this.2.1;omega⟩) λaN h=>⟨rfl,h⟩) λaN gi aM cI fe=> ?_;simp[dT,aH,cv,gi];refine MK (r:=q6 s) (hb:=mC s) (by simpa using gi) (by simpa using aM) (by simpa using cI) (arI (d:=uO) (l:=s.dH) (by have:=W.yL;omega) fe (λi G aa h=>by have:=(y8 aex (n:=4000) (λG h=>adJ W h) aa W.yL (by decide) h).2.2.2.2.2;omega) λaN h=>⟨rfl,h⟩) λaN gi aM cI fe=> ?_;simp;exact h _ _ ⟨by simp[aH],by simp[bD],by simp[bd],by simp[bL],by simp[cv],gi,aM,cI,fe⟩
theorem T7{s:gg}(W:s.bM):eg Tryz.prog 11 [.agg (dT s).toArray] (u0 (lz s).1 (lz s).2.1 (lz s).2.2):=by
  have ak:s.a3.length<1000000:=by have:=W.mH;omega
  cases z:cU s.ext 1 4
  · have e:lz s=(hC.nil,5,⟨0,0⟩):=(by simp[lz,z]);rw[e];refine HB (iA (g0 (aY:=⟨[oA,yZ,y0 s ak],[pU]⟩) O7 (by kernel_rfl) (by simp[z1]) ?_));refine T6 λu t ⟨aH,bD,bd,bL,cv,a4,aC,bS,wS,FH,h0,g2,ie,nF,xx,kO⟩=> ?_;simp[z1,Kj,Gt,Ki,dT,z,aH,bD,bL,cv,a4,aC,bS,wS,kO,fk]
  · cases D:mO s
    · have e:lz s=(hC.nil,2,⟨0,0⟩):=(by simp[lz,z,D]);rw[e];refine HB (iA (g0 (aY:=⟨[oA,yZ,y0 s ak],[pU]⟩) O7 (by kernel_rfl) (by simp[z1]) ?_));refine T6 λu t ⟨aH,bD,bd,bL,cv,a4,aC,bS,wS,FH,h0,g2,ie,nF,xx,kO⟩=> ?_;simp[z1,Kj,Gt,Ki,dT,z,D,aH,bD,bL,cv,a4,aC,bS,wS,kO,fk]
    · have e:lz s=p6 s.ext (mC s):=(by simp[lz,z,D]);rw[e];cases aF:mC s with
      | inr Fz=>
        obtain⟨Up,p⟩:=Fz;refine HB (iA (g0 (aY:=⟨[oA,yZ,y0 s ak],[pU]⟩) O7 (by kernel_rfl) (by simp[z1]) ?_));refine adh W z D λu t ⟨aH,bD,bd,bL,cv,a4,aC,bS,wu⟩=> ?_;rw[aF]at wu;obtain⟨aU,dF,bn,bF,dp,eH,fo,fp,gp,hW,gD,hd,g8,h2,h3,h4,h5,h6,aB⟩:=wu;have nU:=(xW aB).2;have m1:10<t.next:=aT nU
        simp only[uO]at nU;simp(disch:=first|omega|(simp only[ae,ad,af];omega)) [z1,Gt,Ki,bD,bL,cv,aC,bS,nU,aU,fk];exact⟨rfl,rfl,rfl⟩
      | inl G=>
        refine iA (g0 (aY:=⟨[oA,yZ,y0 s ak],[pU]⟩) O7 (by kernel_rfl) (by simp[z1]) ?_);refine adh W z D λu t ⟨aH,bD,bd,bL,cv,a4,aC,bS,wu⟩=> ?_;rw[aF]at wu;obtain⟨g5,eL,g4,g6,fW,hR,aKR,cy,oo⟩:=wu;have aB:=(xW oo.c).2;simp only[uO]at aB;have m1:10<t.next:=aT aB
        have uu: ∀{cK:Type} {f:cK->List Value} {O o:Nat} {l:List cK},(∀x,(f x).length=O/\ ∀v∈f x,j9 v=true)->(o9 t Go.Proofs.YtkpifdkccdndcaaGreat.cY).M o=some ⟨(l.map f).flatten,true⟩-> ∀cA c4,DI.eJ 7 ((t.au 1 cA).au 3 c4) (.slice (some ⟨o,0,none⟩) l.length O)=some (bE (l.map f) O):= λaI aj cA c4=>by obtain⟨z,D⟩:=xW aj;simp only[Go.Proofs.YtkpifdkccdndcaaGreat.cY,List.mem_cons,List.not_mem_nil,or_false,not_or]at z;exact FF (n:=6) (by rw[dv z.2.2,dv z.2.1];exact D) (by simp) (amD aI)
        have Ur:=uu akN oo.vz;have Ut:=uu adS oo.qu;have Uq:=uu adL oo.vy;have Uy:=uu adM oo.vB;have Ux:=uu adW oo.vA;have Uz:=uu ad3 oo.rV;simp(disch:=first|omega|(simp only[ae,ad,af];omega)) [z1,Gt,Ki,bD,bL,cv,aC,bS,aB,fk,Ur,Ut,Uq,Uy,Ux,Uz,u0,p6,fu]
end Go.Proofs.YtkpifdkccdndcaaGreat
namespace Go.Proofs.YtkpifdkccdndcaaGreat
open Go Go.DI
def QX:U:= .E (.block 1 (.E (.I [A 0 26 0,A 1 27 6,cL 2 28 9 26 27,aP 3 29 0 28,aS 4 30 29,A 5 31 5,eX 6 32 30 31]) (.bj (F 32) (.E (.I [A 0 33 0,A 1 34 6,cL 2 35 9 33 34,aP 3 36 0 35,aS 4 37 36,A 5 38 5,lM 6 39 38 1,eA 7 40 .eql (F 37) (F 39),A 8 4 40]) (.a7)) (.skip)))) (.I [A 0 24 6,lM 1 25 24 1,A 2 6 25])
def Lg:U:= .E (.E (.I [A 0 22 6,sc 1 23 22 0]) (.bj (F 23) (.skip) (.bI 0))) QX
def Lf:U:= .E (.I [dE 0 4 false]) (.a7)
def Le:U:= .E (.E (.I [A 0 20 1,lM 1 21 20 1,A 2 6 21]) (.block 0 (.loop Lg))) Lf
def Ld:U:= .E (.E (.I [A 0 18 5,kL 1 19 18 1]) (.bj (F 19) (.E (.I [dE 0 4 true]) (.a7)) (.skip))) Le
def Lc:U:= .E (.E (.I [A 0 12 5,oO 1 13 12 1,A 2 14 13,fi 3 15 14 5,oQ 4 16 14 15 5,dL 5 17 14 16]) (.bj (F 17) (.E (.I [dE 0 4 false]) (.a7)) (.skip))) Ld
def Lb:U:= .E (.I [A 0 7 0,A 1 8 1,cL 2 9 9 7 8,aP 3 10 0 9,aS 4 11 10,A 5 5 11]) Lc
def La:U:=
  .E (
  .I [
 dE 0 4 false]) Lb
def GZ:dn:=⟨41,[.bA 4],La⟩
theorem axC:dj Tryz.prog 52=some GZ:=by kernel_rfl
def Q1:U:= .E (.block 1 (.E (.I [aP 0 43 2 2,aS 1 44 43,A 2 45 5,cL 3 46 1 44 45,aS 4 47 46,aP 5 48 2 3,aS 6 49 48,A 7 50 5,cL 8 51 1 49 50,aS 9 52 51,gj 10 53 62 47 52,iF 11 54 53]) (.bj (F 54) (.E (.I [dE 0 4 false]) (.a7)) (.skip)))) (.I [A 0 41 5,eB 1 42 41,A 2 5 42])
def Y0:U:= .E (.E (.I [A 0 36 5,aP 1 37 2 2,aS 2 38 37,cu 3 39 38,eX 4 40 36 39]) (.bj (F 40) (.skip) (.bI 0))) Q1
def Q2:U:= .E (.I [dE 0 4 true]) (.a7)
def ajv:U:= .E (.E (.I [bQ 0 5 0]) (.block 0 (.loop Y0))) Q2
def aju:U:= .E (.E (.I [aP 0 6 0 2,aS 1 7 6,aP 2 8 0 3,aS 3 9 8,eA 4 10 .neq (F 7) (F 9),A 5 11 10,eG 6 12 11 1 2,e8 7 13 11 12,eG 8 14 11 1 3,e8 9 15 11 14,uS 10 16 11 62 13 15,jR 11 17 11 16,dL 12 18 11 17,A 13 19 18,eG 14 20 19 3 2,e8 15 21 19 20,eG 16 22 19 3 3,e8 17 23 19 22,uS 18 24 19 62 21 23,jR 19 25 19 24,dL 20 26 19 25,A 21 27 26,eG 22 28 27 2 2,e8 23 29 27 28,lB 24 30 27 29,eG 25 31 27 2 3,e8 26 32 27 31,lB 27 33 27 32,qI 28 34 27 30 33,dL 29 35 27 34]) (.bj (F 35) (.E (.I [dE 0 4 false]) (.a7)) (.skip))) ajv
def ajt:U:=
  .E (
  .I [
 hi 0 2 0,
 hi 1 3 1,
 dE 2 4 false]) aju
def YZ:dn:=⟨55,[.bA 4],ajt⟩
theorem axM:dj Tryz.prog 59=some YZ:=by kernel_rfl
def ajy:U:= .E (.I [c3 0 14 3 2,c3 2 16 3 3,lp 1 15 (.eI 54 [F 14]) [(F 3,F 3)],cj 3 17 54 [F 16],bP 4 18 (.gz .eql .bool (F 15) (F 17)),A 5 19 18,iq 6 20 19 0 2,iy 7 21 19 20,iq 8 22 19 0 3,iy 9 23 19 22,dz 10 24 19 true (.gz .eql .bool (F 21) (F 23)),e7 11 25 19 24,A 12 26 25,iq 13 27 26 1 2,iy 14 28 26 27,iq 15 29 26 1 3,iy 16 30 26 29,dz 17 31 26 true (.eI 111 [F 28,F 30]),e7 18 32 26 31,A 19 33 32,iq 20 34 33 2 2,iy 21 35 33 34,iq 22 36 33 2 3,iy 23 37 33 36,dz 24 38 33 true (.eI 111 [F 35,F 37]),e7 25 39 33 38,A 26 4 39]) (.a7)
def ajx:U:= .E (.E (.I [c3 0 5 3 2,cj 1 6 54 [F 5],A 2 7 6,ou 3 8 7 3 3,oP 4 9 7 54 8,e7 5 10 7 9]) (.bj (F 10) (.E (.I [c3 0 11 3 2,c3 1 12 3 3,gj 2 13 32 11 12,A 3 4 13]) (.a7)) (.skip))) ajy
def ajw:U:=
  .E (
  .I [
 hi 0 2 0,
 hi 1 3 1,
 dE 2 4 false]) ajx
def Y2:dn:=⟨40,[.bA 4],ajw⟩
theorem axN:dj Tryz.prog 60=some Y2:=by kernel_rfl
def Q5:U:= .E (.block 1 (.E (.I [A 0 17 0,A 1 18 5,cL 2 19 3 17 18,c3 3 20 3 19,A 4 21 1,A 5 22 5,cL 6 23 3 21 22,c3 7 24 3 23,gj 8 25 60 20 24,iF 9 26 25]) (.bj (F 26) (.E (.I [dE 0 4 false]) (.a7)) (.skip)))) (.I [A 0 15 5,eB 1 16 15,A 2 5 16])
def Y6:U:= .E (.E (.I [A 0 11 5,A 1 12 0,cu 2 13 12,eX 3 14 11 13]) (.bj (F 14) (.skip) (.bI 0))) Q5
def Q6:U:= .E (.I [dE 0 4 true]) (.a7)
def ajE:U:= .E (.E (.I [bQ 0 5 0]) (.block 0 (.loop Y6))) Q6
def ajD:U:= .E (.E (.I [A 0 6 0,cu 1 7 6,A 2 8 1,cu 3 9 8,eA 4 10 .neq (F 7) (F 9)]) (.bj (F 10) (.E (.I [dE 0 4 false]) (.a7)) (.skip))) ajE
def ajC:U:=
  .E (
  .I [
 dE 0 4 false]) ajD
def Y5:dn:=⟨27,[.bA 4],ajC⟩
theorem axP:dj Tryz.prog 62=some Y5:=by kernel_rfl
end Go.Proofs.YtkpifdkccdndcaaGreat
namespace Go.Proofs.YtkpifdkccdndcaaGreat
open Go Go.DI Go.Big
theorem aDW{a b c:Int}:eg Tryz.prog 47 [S a,S b,S c] (.bool (cU a b c)):=by
  refine iA (g0 (aY:=⟨[],[]⟩) axw (by kernel_rfl) (by simp[QO]) ?_);by_cases h:b<=a
  · have ca:a>=b:=h;simp[QO,YL,YM,h,cU]
  · have ca: ¬a>=b:=h;simp[QO,YL,YM,h,cU]
noncomputable def u9:c8 Tryz.prog:= .fJ 47 (Int×Int×Int) (λ⟨a,b,c⟩=>True) (λ⟨a,b,c⟩=>[S a,S b,S c]) (λ⟨a,b,c⟩=> .bool (cU a b c)) (λ⟨a,b,c⟩ h=>aDW)
@[simp] theorem aPj:u9.f=47:=rfl
@[simp] theorem aPk{a:Int}{b:Int}{c:Int}:u9.fn ([S a,S b,S c])=some (.bool (cU a b c)):=c8.gX (x:=(a,b,c)) trivial λy ah=>by obtain⟨o3,jU,rC⟩:=y;simpa using ah
def xH(a b c d e f:Int):Bool:=decide (a<=4)&&(decide (b<=4)&&(decide (c<=40)&&(decide (d<=24)&&(decide (e<=4)&&decide (f<=12)))))
theorem aB1{a b c d e f:Int}:eg Tryz.prog 48 [S a,S b,S c,S d,S e,S f] (.bool (xH a b c d e f)):=by
  refine iA (g0 (aY:=⟨[],[]⟩) axx (by kernel_rfl) (by simp[B3]) ?_);by_cases z:a<=4
  · by_cases D:b<=4
    · by_cases Z:c<=40
      · by_cases aw:d<=24
        · by_cases aX:e<=4
          · simp[B3,Ej,Ek,z,D,Z,aw,aX,xH]
          · simp[B3,Ej,Ek,z,D,Z,aw,aX,xH]
        · simp[B3,Ej,Ek,z,D,Z,aw,xH]
      · simp[B3,Ej,Ek,z,D,Z,xH]
    · simp[B3,Ej,Ek,z,D,xH]
  · simp[B3,Ej,Ek,z,xH]
noncomputable def Cx:c8 Tryz.prog:= .fJ 48 (Int×Int×Int×Int×Int×Int) (λ⟨a,b,c,d,e,f⟩=>True) (λ⟨a,b,c,d,e,f⟩=>[S a,S b,S c,S d,S e,S f]) (λ⟨a,b,c,d,e,f⟩=> .bool (xH a b c d e f)) (λ⟨a,b,c,d,e,f⟩ h=>aB1)
@[simp] theorem aOH:Cx.f=48:=rfl
@[simp] theorem aOI{a:Int}{b:Int}{c:Int}{d:Int}{e:Int}{f:Int}:Cx.fn ([S a,S b,S c,S d,S e,S f])=some (.bool (xH a b c d e f)):=c8.gX (x:=(a,b,c,d,e,f)) trivial λy ah=>by obtain⟨o3,jU,rC,zh,CR,CS⟩:=y;simpa using ah
def kv(s:ByteArray)(l:List ByteArray):Int:=match dR s l with
  |none=> -1
  |some i=>i
theorem Wd{s:ByteArray}{l:List ByteArray}: ∀{i:Nat},(∀j (h:j<l.length),j<i->l[j]≠s)->i<=l.length->dR s l=(dR s (l.drop i)).map (· +i)
  |0,_,_=>by simp
  | i+1,h,aa=>by rw[Wd (i:=i) (λj cp atJ=>h j cp (by omega)) (by omega)];have H:l.drop i=l[i]::l.drop (i+1):=List.drop_eq_getElem_cons (by omega);have dq: ¬s=l[i]:= λe=>h i (by omega) (by omega) e.symm;rw[H];simp only[dR,if_neg dq,Option.map_map];congr 1;funext k;simp only[Function.comp_apply];omega
theorem au5{l:List ByteArray}{s:ByteArray}(ak:l.length<1000000):eg Tryz.prog 50 [zF l,cz s] (S (kv s l)):=by
  refine iA (g0 (aY:=⟨[],[]⟩) axA (by kernel_rfl) (by simp[YR]) ?_);simp[YR,ajh,aji];refine jn (aY:=⟨[],[]⟩) (λi u t=>(∀j (h:j<l.length),j<i->l[j]≠s)/\u 0=zF l/\u 1=cz s/\u 5=S i) l.length ?_ ?_ 0 _ _ (Nat.zero_le _) ⟨by simp,by simp,by simp,by simp⟩
  · rintro i u t aa ⟨aE,bl,aH,cv⟩ b9 a9;have H:l[i]?=some l[i]:=List.getElem?_eq_getElem aa;have bo:IntKind.i64.wrap ((i:Int)+1)=(i:Int)+1:=ct (by omega) (by omega);have bK:(i:Int)<l.length:=(by omega);by_cases L:l[i]=s
    · have e:kv s l=i:=by
        unfold kv;rw[Wd aE (by omega),List.drop_eq_getElem_cons aa];simp[dR,L]
      simp(disch:=omega) [QU,K8,K9,bl,aH,cv,bK,L,e]
    · simp(disch:=first|omega|(simp only[ae,ad,af];omega)) [QU,K8,K9,bl,aH,cv,bK,bo,L,-al,-ar,-ai,-ao,-List.map_map];exact a9 _ _ ⟨λj cp atJ=>by
        by_cases e:j=i
        · subst e;exact L
        · exact aE j cp (by omega),by simp[bl],by simp[aH],by simp⟩
  · rintro u t ⟨aE,bl,aH,cv⟩;have e:kv s l= -1:=by
      unfold kv;rw[Wd aE (Nat.le_refl _),List.drop_length];rfl
    simp[QU,K8,K9,bl,cv,K9,K8,e]
noncomputable def AP:c8 Tryz.prog:= .fJ 50 (List ByteArray×ByteArray) (λp=>p.1.length<1000000) (λp=>[zF p.1,cz p.2]) (λp=>S (kv p.2 p.1)) λ_ h=>au5 h
@[simp] theorem aNU:AP.f=50:=rfl
@[simp] theorem aCu{l:List ByteArray}{s:ByteArray}(h:l.length<1000000):AP.fn [bE (l.map λs=>[cz s]) 1,cz s]=some (S (kv s l)):=c8.gX (x:=(l,s)) h λy ah=>by obtain⟨jU,rC⟩:=y;simp at ah;obtain⟨z,D⟩:=ah;rw[z,D]
theorem au2{s:ByteArray}{l:List ByteArray}:(0<=kv s l)=((dR s l).isSome=true):=by unfold kv;cases dR s l<;>simp
theorem D0{s:ByteArray}{l:List ByteArray}{i:Nat}(h:dR s l=some i):kv s l=i:=by unfold kv;rw[h]
theorem aB2{x:bh}(W:x.bM):eg Tryz.prog 53 [eD x] (.bool x.bw.small):=pX λm fm aE=>by obtain⟨v,rfl,h⟩:=aE.ha;exact(aa2 (tD W h)).aD λr N ⟨z,D⟩=>⟨z,by rw[D];exact .c0 rfl⟩
theorem aB4{l:List bh}{n:Nat}(W: ∀x∈l,x.bM)(ak:n<1000000):eg Tryz.prog 29 [fT l,S n] (.bool (decide (l.length=n)&&l.all λx=>x.bw.small)):=pX λm fm aE=>by obtain⟨v,w,rfl,h,ca⟩:=aE.MG;rw[ca.rg];refine(Sx (VE W h) ak).aD λr N ⟨z,D⟩=>⟨z,?_⟩;rw[D,List.length_map,List.all_map];exact .c0 rfl
noncomputable def SI:c8 Tryz.prog:= .fJ 53 bh bh.bM (λx=>[eD x]) (λx=> .bool x.bw.small) λ_ W=>aB2 W
@[simp] theorem aOJ:SI.f=53:=rfl
@[simp] theorem aOK{n:Bool}{a b:List Int}(h:(bh.mk n a b).bM):SI.fn [.agg #[.bool n,e3 a,e3 b]]=some (.bool (bh.mk n a b).bw.small):=c8.gX (x:=bh.mk n a b) h λy ah=>CL ah
noncomputable def Mn:c8 Tryz.prog:= .fJ 55 bh bh.bM (λx=>[eD x]) (λx=> .tuple #[eD (ea x),S (rr x.bw).1]) λ_ W=>aBY W
@[simp] theorem aOD:Mn.f=55:=rfl
@[simp] theorem aOE{n:Bool}{a b:List Int}(h:(bh.mk n a b).bM):Mn.fn [.agg #[.bool n,e3 a,e3 b]]=some (.tuple #[eD (ea ⟨n,a,b⟩),S (rr (bh.mk n a b).bw).1]):=
  c8.gX (x:=bh.mk n a b) h λy ah=>by simpa[aaI]using ah
noncomputable def Mo:c8 Tryz.prog:= .fJ 30 bh (λx=>x.bM/\x.bw.ok=true) (λx=>[eD x]) (λx=>S (ju x.bw .nil)) λ_ W=>aB0 W.1 W.2
@[simp] theorem aOF:Mo.f=30:=rfl
@[simp] theorem aOG{n:Bool}{a b:List Int}(h:(bh.mk n a b).bM/\(bh.mk n a b).bw.ok=true):Mo.fn [.agg #[.bool n,e3 a,e3 b]]=some (S (ju (bh.mk n a b).bw .nil)):=c8.gX (x:=bh.mk n a b) h λy ah=>CL ah
noncomputable def SK:c8 Tryz.prog:= .fJ 54 bh bh.bM (λx=>[eD x]) (λx=> .bool x.bw.ok) λ_ W=>aCm W
@[simp] theorem aON:SK.f=54:=rfl
@[simp] theorem aOO{n:Bool}{a b:List Int}(h:(bh.mk n a b).bM):SK.fn [.agg #[.bool n,e3 a,e3 b]]=some (.bool (bh.mk n a b).bw.ok):=c8.gX (x:=bh.mk n a b) h λy ah=>CL ah
theorem aAu{x:a6}(bB:0<=x.n):(ju x .nil=0)=(x.n=0):=by
  have e:x.n*a6.nil.d=x.n:=by show x.n*1=x.n;omega
  have a1:a6.nil.n*x.d=0:=by show 0*x.d=0;omega
  have cI:(a6.nil.bV&&decide (a6.nil.n≠0))=false:=rfl;unfold ju;rw[e,a1,cI];apply propext;by_cases bY:x.n=0
  · simp[bY,h8]
  · simp only[bY,iff_false];cases x.bV
    · simp only[Bool.false_and,Bool.false_eq_true,if_false];unfold h8;split<;>(try split)<;>omega
    · simp[bY]
theorem al0{x:a6}(bB:0<=x.n):(ju x .nil=0)= ¬(0<x.n):=by rw[aAu bB];apply propext;omega
theorem aBJ{eY:List bh}(W: ∀x∈eY,x.bM)(ak:eY.length<1000000):eg Tryz.prog 56 [fT eY] (fT (eY.map ea)):=by
  refine iA (g0 (aY:=⟨[],[]⟩) axJ (by kernel_rfl) (by simp[YX]) ?_);simp[YX,ajq,ajr,ajs];refine Td (d:=3) (O:=3) (by simp) ?_;refine jn (aY:=⟨[Mn],[]⟩) (λi u t=> ∃o,t.M o=some ⟨(((eY.take i).map ea).map eS).flatten,true⟩/\u 0=fT eY/\u 3= .slice (some ⟨o,0,none⟩) i 3/\u 4=S i) eY.length ?_ ?_ 0 _ _ (Nat.zero_le _) ⟨yJ.next,by simp,by simp,by simp,by simp⟩
  · rintro i u t aa ⟨o,aj,bl,bd,bL⟩ b9 a9;have H:eY[i]?=some eY[i]:=List.getElem?_eq_getElem aa;have r5:eY[i].bM:=W _ (List.getElem_mem aa);have bo:IntKind.i64.wrap ((i:Int)+1)=(i:Int)+1:=ct (by omega) (by omega);have bK:(i:Int)<eY.length:=(by omega);have h9:(((eY.take i).map ea).map eS).flatten.length=i*3:=(by rw[amj,List.length_map,List.length_take];congr 1;omega);obtain⟨cs,jh⟩: ∃cs,cs=(((eY.take i).map ea).map eS).flatten:=⟨_,rfl⟩;rw[<-jh]at aj h9;have hB:cs.take (i*3)=cs:=List.take_of_length_le (by omega);have ZZ:=aT aj;have fV:(i+1)*56<=140737488355328/\i<=9223372036854775806:=(by omega);simp(disch:=first|omega|(simp only[ae,ad,af];omega)) [YY,QY,QZ,bl,bd,bL,bK,bo,aj,h9,hB,eS,fV,-al,-ar,-ai,-ao,-List.map_map];have e:(((eY.take (i+1)).map ea).map eS).flatten=cs++eS (ea eY[i]):=(by rw[kB H,jh,List.map_append,List.map_append,List.flatten_append,List.map_cons,List.map_nil,List.map_cons,List.map_nil,List.flatten_cons,List.flatten_nil,List.append_nil]);refine a9 _ _ ⟨t.next+11+3,?_,by simp[bl],by simp,by simp⟩;rw[e];simp(disch:=first|omega|(simp only[ae,ad,af];omega)) [eS,-al,-ar,-ai,-ao,-List.map_map]
  · rintro u t ⟨o,aj,bl,bd,bL⟩;rw[List.take_length]at aj;simp[YY,QY,QZ,bl,bd,bL,QZ,QY];exact FF (n:=8) (l:=eY.length) (bR:=(eY.map ea).map eS) aj (by simp) aaJ
noncomputable def Mm:c8 Tryz.prog:= .fJ 56 (List bh) (λl=>(∀x∈l,x.bM)/\l.length<1000000) (λl=>[fT l]) (λl=>fT (l.map ea)) λ_ h=>aBJ h.1 h.2
@[simp] theorem aOx:Mm.f=56:=rfl
@[simp] theorem aOy{l:List bh}(h:(∀x∈l,x.bM)/\l.length<1000000):Mm.fn [bE (l.map eS) 3]=some (fT (l.map ea)):=c8.gX (x:=l) h λy ah=>by simpa using ah
theorem aBE{x:hk}(W:x.bM)(oR: ∀l∈x.bb,l.length<1000000):eg Tryz.prog 51 [px x] (px (m5 x)):=by
  refine iA (g0 (aY:=⟨[Mm],[]⟩) axB (by kernel_rfl) (by simp[YS]) ?_);obtain⟨bp,dc,eK,kX,j2,ni,_⟩:=W;have bn:(∀r∈x.s,r.bM)/\x.s.length<1000000:=⟨bp,kX⟩;have bF:(∀r∈x.e,r.bM)/\x.e.length<1000000:=⟨eK,ni⟩;simp(disch:=first|omega|(simp only[ae,ad,af];omega)) [YS,ajj,ajk,ajl,j3,-al,-ar,-ai,-ao,-List.map_map];refine ack (o:=11) (j:=2) (O:=1) (bX (by simp)) rfl ?_;refine jn (aY:=⟨[Mm],[]⟩) (λi u t=> ∃o cs C5,cs=(((x.bb.take i).map (·.map ea)).map λr=>[fT r]).flatten/\o≠11/\o≠0/\o≠1/\t.M 11=some ⟨[.string x.name,fT (x.s.map ea),.slice (some ⟨o,0,none⟩) i 1,fT (x.e.map ea)],true⟩/\t.M o=some ⟨cs,true⟩/\t.M 0=some ⟨j3 x,true⟩/\t.M 1=some ⟨[.string ⟨#[]⟩,.slice none 0 0,.slice none 0 0,.slice none 0 0],true⟩/\u 1=bZ 0/\u 2=bZ 1/\u 3=bZ 11/\u 4=S i/\C5=0) x.bb.length ?_ ?_ 0 _ _ (Nat.zero_le _) ⟨13,[],0,by simp,by decide,by decide,by decide,by simp(disch:=first|omega|(simp only[ae,ad,af];omega)) [-al,-ar,-ai,-ao,-List.map_map],by simp(disch:=first|omega|(simp only[ae,ad,af];omega)) [-al,-ar,-ai,-ao,-List.map_map],by simp(disch:=first|omega|(simp only[ae,ad,af];omega)) [j3,-al,-ar,-ai,-ao,-List.map_map],by simp(disch:=first|omega|(simp only[ae,ad,af];omega)) [-al,-ar,-ai,-ao,-List.map_map],by simp,by simp,by simp,by simp,rfl⟩
  · rintro i u t aa ⟨o,cs,C5,jh,fY,dh,kZ,bS,ds,a4,aC,aH,bD,bd,bL,rfl⟩ b9 a9;have H:x.bb[i]?=some x.bb[i]:=List.getElem?_eq_getElem aa;have aK:x.bb[i]∈x.bb:=List.getElem_mem aa;have bo:IntKind.i64.wrap ((i:Int)+1)=(i:Int)+1:=ct (by omega) (by omega);have bK:(i:Int)<x.bb.length:=(by omega);have dt:(∀r∈x.bb[i],r.bM)/\x.bb[i].length<1000000:=⟨dc _ aK,oR _ aK⟩;have pW:=aT bS;have cZ:=aT ds;have cY:=aT a4;have fM:=aT aC;have h9:cs.length=i:=(by rw[jh,ad1];simp;omega);have hB:cs.take i=cs:=List.take_of_length_le (by omega);have fV:(i+1)*24<=140737488355328/\i<=9223372036854775806:=(by omega);simp(disch:=first|omega|(simp only[ae,ad,af];omega)) [YT,QV,QW,aH,bd,bL,bK,bo,bS,ds,a4,h9,hB,fV,j3,-al,-ar,-ai,-ao,-List.map_map];refine a9 _ _ ⟨t.next+9,cs++[fT (x.bb[i].map ea)],0,?_,?_,?_,?_,?_,?_,?_,?_,?_,?_,?_,?_,rfl⟩
    · rw[kB H,jh,List.map_append,List.map_append,List.flatten_append];rfl
    all_goals first|omega|(simp(disch:=first|omega|(simp only[ae,ad,af];omega)) [aH,bD,bd,a4,aC,j3,-al,-ar,-ai,-ao,-List.map_map])
  · rintro u t ⟨o,cs,C5,jh,fY,dh,kZ,bS,ds,a4,aC,aH,bD,bd,bL,rfl⟩;rw[List.take_length]at jh;have pW:=aT bS;have fM:=aT aC;have F2: ∀cA,DI.eJ 8 (t.au 1 cA) (.slice (some ⟨o,0,none⟩) x.bb.length 1)=some (wM (x.bb.map (·.map ea))):= λcA=>FF (n:=7) (by rw[dv kZ,ds,jh]) (by simp) ad0;have lr:t.M 11=some ⟨[.string x.name,fT (x.s.map ea),.slice (some ⟨o,0,none⟩) x.bb.length 1,fT (x.e.map ea)],true⟩:=bS;simp(disch:=first|omega|(simp only[ae,ad,af];omega)) [YT,QV,QW,QW,QV,aH,bD,bd,bL,bS,a4,aC,F2,j3,m5,-al,-ar,-ai,-ao,-List.map_map]
noncomputable def abw:c8 Tryz.prog:= .fJ 51 hk (λx=>x.bM/\ ∀l∈x.bb,l.length<1000000) (λx=>[px x]) (λx=>px (m5 x)) λ_ h=>aBE h.1 h.2
@[simp] theorem aOv:abw.f=51:=rfl
@[simp] theorem aOw{n:ByteArray}{s e:List bh}{bb:List (List bh)}(h:(hk.mk n s bb e).bM/\ ∀l∈bb,l.length<1000000):abw.fn [.agg #[cz n,bE (s.map eS) 3,bE (bb.map λr=>[fT r]) 1,bE (e.map eS) 3]]=some (px (m5 ⟨n,s,bb,e⟩)):=c8.gX (x:=hk.mk n s bb e) h λy ah=>by obtain⟨dM,er,cQ,eU⟩:=y;simpa[j3]using ah
def um(k m:Int):Bool:=decide (1<=k)&&(decide (k<=6)&&(decide (0<=m)&&(decide (m<=4)&&decide (k+m<=8))))
theorem arb{k m:Int}:eg Tryz.prog 108 [S k,S m] (.bool (um k m)):=by
  refine iA (g0 (aY:=⟨[],[]⟩) avB (by kernel_rfl) (by simp[D6]) ?_);by_cases z:1<=k
  · have dQ:k>=1:=z;by_cases D:k<=6
    · by_cases Z:0<=m
      · have hh:m>=0:=Z;by_cases aw:m<=4
        · have bo:IntKind.i64.wrap (k+m)=k+m:=ct (by omega) (by omega);simp[D6,Gp,Gq,z,D,Z,aw,bo,um]
        · simp[D6,Gp,Gq,z,D,Z,aw,um]
      · have hh: ¬m>=0:=Z;simp[D6,Gp,Gq,z,D,Z,um]
    · simp[D6,Gp,Gq,z,D,um]
  · have dQ: ¬k>=1:=z;simp[D6,Gp,Gq,z,um]
noncomputable def SG:c8 Tryz.prog:= .fJ 108 (Int×Int) (λ⟨k,m⟩=>True) (λ⟨k,m⟩=>[S k,S m]) (λ⟨k,m⟩=> .bool (um k m)) (λ⟨k,m⟩ h=>arb)
@[simp] theorem aNM:SG.f=108:=rfl
@[simp] theorem aNN{k:Int}{m:Int}:SG.fn ([S k,S m])=some (.bool (um k m)):=c8.gX (x:=(k,m)) trivial λy ah=>by obtain⟨o3,jU⟩:=y;simpa using ah
theorem ara{k m:Int}:um k m=(cU k 1 6&&(cU m 0 4&&decide (k+m<=8))):=by simp only[um,cU,Bool.and_assoc]
def E1(s:dY):Bool:=cU s.b 0 8&&(cU s.c 0 8&&(cU s.d 0 8&&cU s.e 0 8))
theorem aBT{k m q:Int}{s:dY}:eg Tryz.prog 57 [S k,S m,S q,.agg #[S s.a,S s.b,S s.c,S s.d,S s.e]] (.bool (oX k m q s)):=by
  refine iA (g0 (aY:=⟨[SG,u9],[]⟩) axK (by kernel_rfl) (by simp[G0]) ?_);have e:oX k m q s=(um k m&&(cU q k (k+m)&&(decide (s.a=0)&&E1 s))):=by
    rw[ara];by_cases aE:s.a=0
    · simp[oX,E1,aE,show cU 0 0 8=true from rfl,Bool.and_assoc]
    · simp[oX,E1,aE]
  rw[e];cases z:um k m
  · simp[G0,Li,Lj,Lk,B4,z]
  · have bo:IntKind.i64.wrap (k+m)=k+m:=(by simp[um]at z;exact ct (by omega) (by omega));cases D:cU q k (k+m)
    · simp[G0,Li,Lj,Lk,B4,z,D,bo]
    · by_cases Z:s.a=0
      · simp[G0,Li,Lj,Lk,z,D,Z,bo];refine jn (aY:=⟨[SG,u9],[]⟩) (λi u t=>(∀j:Nat,j<i->cU (s.at ((j:Int)+1)) 0 8=true)/\t.M 0=some ⟨[S 0,S s.b,S s.c,S s.d,S s.e],true⟩/\u 7=bZ 0/\u 9=S ((i:Int)+1)) 4 ?_ ?_ 0 _ _ (Nat.zero_le _) ⟨by simp,by simp,by simp,by simp⟩
        · rintro i u t aa ⟨aE,a4,cP,cg⟩ b9 a9;have cY:=aT a4;have aw:i=0\/i=1\/i=2\/i=3:=(by omega);cases L:cU (s.at ((i:Int)+1)) 0 8
          · have a1:E1 s=false:=by
              rcases aw with rfl|rfl|rfl|rfl<;>simp[dY.at]at L<;>simp[E1,L]
            rcases aw with rfl|rfl|rfl|rfl<;>simp[dY.at]at L<;>simp[Q0,Ll,B4,cP,cg,a4,L,a1]
          · have ak: ∀j:Nat,j<i+1->cU (s.at ((j:Int)+1)) 0 8=true:= λj cp=>by
              by_cases e:j=i
              · subst e;exact L
              · exact aE j (by omega)
            rcases aw with rfl|rfl|rfl|rfl<;>simp[dY.at]at L<;>simp[Q0,Ll,B4,cP,cg,a4,L]<;>exact a9 _ _ ⟨ak,a4,by simp[cP],by simp;rfl⟩
        · rintro u t ⟨aE,a4,cP,cg⟩;have a1:E1 s=true:=by
            have kP:=aE 0 (by decide);have dK:=aE 1 (by decide);have eO:=aE 2 (by decide);have gk:=aE 3 (by decide);simp[dY.at]at kP dK eO gk;simp[E1,kP,dK,eO,gk]
          simp[Q0,Ll,B4,B4,Ll,cg,a1]
      · simp[G0,Li,Lj,Lk,B4,z,D,Z,bo]
noncomputable def SJ(n:Nat)(ak:n<1000000):c8 Tryz.prog:= .fJ 29 (List bh) (λl=> ∀x∈l,x.bM) (λl=>[fT l,S n]) (λl=> .bool (decide (l.length=n)&&l.all λx=>x.bw.small)) λ_ h=>aB4 h ak
@[simp] theorem aOL{n:Nat}{ak:n<1000000}:(SJ n ak).f=29:=rfl
@[simp] theorem aOM{n:Nat}{ak:n<1000000}{l:List bh}(h: ∀x∈l,x.bM):(SJ n ak).fn [bE (l.map eS) 3,S n]=some (.bool (decide (l.length=n)&&l.all λx=>x.bw.small)):=c8.gX (x:=l) h λy ah=>by simpa using ah
theorem bh.gO{x:bh}(h:x.bM):0<=x.bw.n:=(il h.1).1
theorem aBp{m:Int}(bB:0<=m)(aw:m<=4){l:List bh}(W:(∀x∈l,x.bM)/\l.length<1000000):eg Tryz.prog 109 [fT l,S m] (.bool (decide ((l.length:Int)=if 1>m then 1 else m)&&l.all pq)):=by
  obtain⟨n,ak⟩: ∃n:Nat,(if 1>m then(1:Int)else m)=n:=⟨(if 1>m then(1:Int)else m).toNat,by split<;>omega⟩;have uF:(if m<1 then(1:Int)else m)=n:=ak;have l0:n<1000000:=by split at ak<;>omega
  rw[ak];have gi:decide ((l.length:Int)=(n:Int))=decide (l.length=n):=by congr 1;apply propext;omega
  rw[gi];refine iA (g0 (aY:=⟨[SJ n l0,Mo],[]⟩) avC (by kernel_rfl) (by simp[OQ]) ?_);obtain⟨tx,r2⟩:=W;cases z:(decide (l.length=n)&&l.all λx=>x.bw.small)
  · have e:(decide (l.length=n)&&l.all pq)=false:=by
      by_cases aG:l.length=n
      · simp only[aG,decide_true,Bool.true_and,List.all_eq_false]at z⊢;obtain⟨x,H,h⟩:=z;exact⟨x,H,by simp only[pq,Bool.and_eq_true,not_and];intro ca;exact absurd ca h⟩
      · simp[aG]
    rw[e];simp(disch:=omega) [OQ,Wr,Ws,Wt,Gr,uF,z]
  · simp(disch:=first|omega|(simp only[ae,ad,af];omega)) [OQ,Wr,Ws,Wt,uF,z];simp only[Bool.and_eq_true,decide_eq_true_eq]at z;obtain⟨aG,z⟩:=z;have eF:decide (l.length=n)=true:=(by simp[aG]);rw[eF,Bool.true_and];refine jn (aY:=⟨[SJ n l0,Mo],[]⟩) (λi u t=>(l.take i).all pq=true/\u 0=fT l/\u 5=S i) l.length ?_ ?_ 0 _ _ (Nat.zero_le _) ⟨by simp,by simp,by simp⟩
    · rintro i u t aa ⟨aE,bl,cv⟩ b9 a9;have H:l[i]?=some l[i]:=List.getElem?_eq_getElem aa;have aK:l[i]∈l:=List.getElem_mem aa;have bo:IntKind.i64.wrap ((i:Int)+1)=(i:Int)+1:=ct (by omega) (by omega);have bK:(i:Int)<l.length:=(by omega);have fH:=List.all_eq_true.1 z _ aK;have OG:l[i].bM/\l[i].bw.ok=true:=⟨tx _ aK,vf fH⟩;have bY:=al0 (bh.gO OG.1);by_cases aq:0<l[i].bw.n
      · have DX: ¬ju l[i].bw .nil=0:=(by rw[bY];exact λh=>h aq);simp(disch:=first|omega|(simp only[ae,ad,af];omega)) [OR,J8,Gr,bl,cv,bK,bo,eS,DX];exact a9 _ _ ⟨by rw[kB H,List.all_append,aE];simp[pq,fH,aq],by simp[bl],by simp⟩
      · have DX:ju l[i].bw .nil=0:=(by rw[bY];exact aq);simp(disch:=omega) [OR,J8,Gr,bl,cv,bK,eS,DX];exact⟨_,aK,by simp[pq,aq]⟩
    · rintro u t ⟨aE,bl,cv⟩;rw[List.take_length]at aE;simp[OR,J8,Gr,bl,cv,Gr,J8];simpa using aE
theorem ada(a b:Int):h8 a b= -h8 b a:=by unfold h8;split<;>split<;>(try split)<;>omega
theorem aAt(x y:a6):ju x y= -ju y x:=by
  unfold ju;cases(x.bV&&decide (x.n≠0))<;>cases(y.bV&&decide (y.n≠0))<;>simp
  · exact ada _ _
  · exact ada _ _
theorem avc:xj 1= .ha:=rfl
noncomputable def abm(o:bh)(h:eg Tryz.prog 33 [S 1] (eD o)):c8 Tryz.prog:= .fJ 33 Unit (λ_=>True) (λ_=>[S 1]) (λ_=>eD o) λ_ _=>h
@[simp] theorem aN3{o:bh}{h:eg Tryz.prog 33 [S 1] (eD o)}:(abm o h).f=33:=rfl
@[simp] theorem aN4{o:bh}{h:eg Tryz.prog 33 [S 1] (eD o)}:(abm o h).fn [S 1]=some (eD o):=c8.gX (x:=()) trivial λ_ _=>rfl
noncomputable def abp(o:bh)(h: ∀x:bh,(x.bM/\x.bw.ok=true)->eg Tryz.prog 110 [eD o,eD x] (.bool (!rj x.bw))):c8 Tryz.prog:= .fJ 110 bh (λx=>x.bM/\x.bw.ok=true) (λx=>[eD o,eD x]) (λx=> .bool (!rj x.bw)) h
@[simp] theorem aN9{o:bh}{h: ∀x:bh,(x.bM/\x.bw.ok=true)->eg Tryz.prog 110 [eD o,eD x] (.bool (!rj x.bw))}:(abp o h).f=110:=rfl
@[simp] theorem aOa{o:bh}{h: ∀x:bh,(x.bM/\x.bw.ok=true)->eg Tryz.prog 110 [eD o,eD x] (.bool (!rj x.bw))}{n:Bool}{a b:List Int}(H:(bh.mk n a b).bM/\(bh.mk n a b).bw.ok=true):(abp o h).fn [.agg #[.bool o.bV,e3 o.a,e3 o.b],.agg #[.bool n,e3 a,e3 b]]=some (.bool (!rj (bh.mk n a b).bw)):=
  c8.gX (x:=bh.mk n a b) H λy ah=>by obtain⟨dM,er,cQ⟩:=y;simpa[eS]using ah
theorem ayW(x:bh)(H:x.bM/\x.bw.ok=true):eg Tryz.prog 110 [eD (qj .ha),eD x] (.bool (!rj x.bw)):=by
  have h:=aBG alP H.1 (by rw[aar];exact EJ) H.2;have e:decide (ju (qj .ha).bw x.bw<0)= !rj x.bw:=by
    rw[aar,rj,H.2,aAt,Bool.true_and];by_cases aq:ju x.bw .ha<=0
    · simp[aq]<;>omega
    · simp[aq]<;>omega
  rw[<-e];exact h
noncomputable def abA(m:Int)(h:0<=m/\m<=4):c8 Tryz.prog:= .fJ 109 (List bh) (λl=>(∀x∈l,x.bM)/\l.length<1000000) (λl=>[fT l,S m]) (λl=> .bool (decide ((l.length:Int)=if 1>m then 1 else m)&&l.all pq)) λ_ W=>aBp h.1 h.2 W
@[simp] theorem aOX{m:Int}{h:0<=m/\m<=4}:(abA m h).f=109:=rfl
@[simp] theorem aOY{m:Int}{h:0<=m/\m<=4}{l:List bh}(W:(∀x∈l,x.bM)/\l.length<1000000):(abA m h).fn [bE (l.map eS) 3,S m]=some (.bool (decide ((l.length:Int)=if 1>m then 1 else m)&&l.all pq)):=c8.gX (x:=l) W λy ah=>by simpa using ah
theorem arB{o:bh}(an:eg Tryz.prog 33 [S 1] (eD o))(aG: ∀x:bh,(x.bM/\x.bw.ok=true)->eg Tryz.prog 110 [eD o,eD x] (.bool (!rj x.bw))){m:Int}(aK:0<=m/\m<=4){r:List bh}{t h:bh}(aF:(∀x∈r,x.bM)/\r.length<1000000)(bH:t.bM)(cE:h.bM):
    eg Tryz.prog 58 [S m,fT r,eD t,eD h] (.bool (ns m r t h)):=by
  refine iA (g0 (aY:=⟨[abA m aK,SI,abm o an,abp o aG],[]⟩) axL (by kernel_rfl) (by simp[G1]) ?_);have e:ns m r t h=((decide ((r.length:Int)=if 1>m then 1 else m)&&r.all pq)&&(t.bw.small&&(rj t.bw&&h.bw.small))):=by unfold ns;rw[Bool.and_assoc]
  rw[e];cases z:(decide ((r.length:Int)=if 1>m then 1 else m)&&r.all pq)
  · simp(disch:=omega) [G1,Lm,Ln,eS,z]
  · cases D:t.bw.small
    · simp(disch:=first|omega|(simp only[ae,ad,af];omega)) [G1,Lm,Ln,eS,z,D]
    · have aJm:t.bM/\t.bw.ok=true:=⟨bH,vf D⟩;cases Z:rj t.bw
      · simp(disch:=first|omega|(simp only[ae,ad,af];omega)) [G1,Lm,Ln,eS,z,D,Z]
      · simp(disch:=first|omega|(simp only[ae,ad,af];omega)) [G1,Lm,Ln,eS,z,D,Z]
theorem arA{m:Int}(aK:0<=m/\m<=4){r:List bh}{t h:bh}(aF:(∀x∈r,x.bM)/\r.length<1000000)(bH:t.bM)(cE:h.bM):eg Tryz.prog 58 [S m,fT r,eD t,eD h] (.bool (ns m r t h)):=
  arB (o:=qj .ha) (by have:=amv (n:=1) (by decide) (by decide);rw[avc]at this;exact this) ayW aK aF bH cE
end Go.Proofs.YtkpifdkccdndcaaGreat
