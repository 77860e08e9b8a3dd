/-
  A part of the proof of the statement, in texts that tools of ours (wip/shrink.py, irpack.py, relax.py, minify.py, join.py, lay.py) have shortened.
-/
import Derived.Test.YtkpifdkccdndcaaGreatZao
set_option linter.all false
set_option maxRecDepth 8000
set_option maxHeartbeats 16000000
namespace Go.Proofs.YtkpifdkccdndcaaGreat
open Go Go.DI Go.Big
noncomputable def fS(l:List ByteArray):Bool:=l.all pl&&decide l.Nodup
theorem aqu{α:Type}{l:List α}{i:Nat}(ag:i<l.length)(h:(l.take i).Nodup)(av:l[i]∉l.take i):(l.take (i+1)).Nodup:=by rw[l6 (c0 ag),EB];exact⟨h,by simp,λa aC b K=>by simp at K;subst K;exact λe=>av (e▸aC)⟩
theorem akw{s:ByteArray}: ∀{l:List ByteArray} {k:Nat},og s l=some k->s∈l
  |[],k,h=>by cases h
  | x::l,k,h=>by
    simp only[og]at h;split at h
    · next e=>exact e▸List.mem_cons_self ..
    · cases bz:og s l with
      |none=>rw[bz]at h;cases h
      |some j=>exact Pv _ (akw bz)
theorem aeg{s:ByteArray}: ∀{l:List ByteArray},s∈l->og s l≠none
  |[],h=>by cases h
  | x::l,h=>by
    simp only[og];split
    · exact λh=>by cases h
    · next e=>
      have aN:s∈l:=by
        rcases oz.1 h with rfl|h
        · exact absurd rfl e
        · exact h
      have:=aeg aN;intro bz;cases cl:og s l with
      |none=>exact this cl
      |some k=>rw[cl]at bz;cases bz
theorem awI{l:List ByteArray}{i:Nat}(ag:i<l.length)(h:l[i]∈l.take i):fS l=false:=by unfold fS;rw[Hl];exact .inr (Er λay=>aHW ay ag h)
theorem aHY{l:List ByteArray}{i:Nat}(ag:i<l.length)(h:pl l[i]=false):fS l=false:=by unfold fS;rw[Hl];exact .inl (by rw[Kp];exact⟨_,qM ag,by simp[h]⟩)
theorem aMc{l:List ByteArray}(av:l.length<1000000):c4 Z 65 [ux l] (.bool (fS l)):=by
  refine gR (ga (a0:=⟨[],[]⟩) aEx (by kernel_rfl) (by simp[ac0]) ?_);simp[ac0,aot,aou,aov];refine hC (a0:=⟨[OZ],[]⟩) (λi u t=>((l.take i).all pl=true/\(l.take i).Nodup)/\t.fg 0=some (tp (l.take i))/\u 3= .map (some 0)/\u 7=ux l/\u 8=X l.length/\u 9=X i) l.length ?_ ?_ 0 _ _ (hf _) ⟨by simp,by simp[tp],by simp,by simp,by simp,by simp⟩
  · rintro i u t ag ⟨⟨aC,ay⟩,Fi,bA,c7,ch,e4⟩ cp aZ;have F:l[i]?=some l[i]:=c0 ag;have bc:=e7 (n:=i) (by omega);have bn:(i:Int)<l.length:=(by omega);have aa:mD .str (ei l[i]) (tp (l.take i))=true:=aGs;have apV:=aO (j6 Fi).1;cases nJ:pl l[i]
    · have ar:=aHY ag nJ;simp(disch:=omega) [NK,Ja,Jb,Jc,Jd,c7,ch,e4,bn,nJ,ar]
    · cases fA:og l[i] (l.take i)with
      | some k=>have ar:=awI ag (akw fA);have bs:jY (ei l[i]) (tp (l.take i))=some (.bool true):=(by rw[aei,fA];rfl);simp(disch:=first|omega|simp only[b3];omega) [NK,Ja,Jb,Jc,Jd,bA,c7,ch,e4,bn,nJ,Fi,bs,aa,ar,-jY,-m2,-mD,-ao,-aB,-ai,-au,-List.map_map]
      | none=>have bs:jY (ei l[i]) (tp (l.take i))=none:=(by rw[aei,fA];rfl);have rP:l[i]∉l.take i:= λaN=>aeg aN fA;simp(disch:=first|omega|simp only[b3];omega) [NK,Ja,Jb,Jc,Jd,bA,c7,ch,e4,bn,bc,nJ,Fi,bs,aa,-jY,-m2,-mD,-ao,-aB,-ai,-au,-List.map_map];refine aZ _ _ ⟨⟨by rw[l6 F,xt,aC];simp[nJ],aqu ag ay rP⟩,?_,by simp[bA],by simp[c7],by simp[ch],by simp⟩;rw[l6 F,<-aqh fA];simp(disch:=omega)
  · rintro u t ⟨⟨aC,ay⟩,Fi,bA,c7,ch,e4⟩;rw[kM]at aC ay;have ar:fS l=true:=(by simp[fS,aC,ay]);simp[NK,Ja,Jb,Jc,Jd,ch,e4,Jd,Ja,Jb,Jc,ar]
noncomputable def ags:cf Z:= .ek 65 (List ByteArray) (λl=>l.length<1000000) (λl=>[ux l]) (λl=> .bool (fS l)) λ_ h=>aMc h
@[simp] theorem aYE:ags.f=65:=rfl
@[simp] theorem aYF{l:List ByteArray}(h:l.length<1000000):ags.fn [aQ (l.map λs=>[ei s]) 1]=some (.bool (fS l)):=cf.eP (x:=l) h λy ab=>by simpa using ab
theorem As.fa{d:Aw}{ext:Int}{ax:n3}{t:E}{rf kp re rh rg ri:Nat}{et eK:Value}(h:As d ext ax t rf kp re rh rg ri et eK): ∀b∈[d.c,d.zM,d.zN,d.zO,d.zP,d.zQ,rf,kp,re,rh,rg,ri],b<t.next:=by
  intro b K;simp only[oz,wi,or_false]at K;rcases K with rfl|rfl|rfl|rfl|rfl|rfl|rfl|rfl|rfl|rfl|rfl|rfl
  · exact aO h.c
  · exact aO (j6 h.zM).1
  · exact aO (j6 h.zN).1
  · exact aO (j6 h.zO).1
  · exact aO (j6 h.zP).1
  · exact aO (j6 h.zQ).1
  · exact aO h.Lu
  · exact aO h.xO
  · exact aO h.Lt
  · exact aO h.Lx
  · exact aO h.Lw
  · exact aO h.AW
end Go.Proofs.YtkpifdkccdndcaaGreat
namespace Go.DI
open Go
def vl(t:E)(l:List Nat):E:=⟨t.next,λb=>if b∈l then none else t.mw b,t.mp⟩
def BB(t eu:E)(l:List Nat):E:=⟨eu.next,λb=>if b∈l then t.mw b else eu.mw b,eu.mp⟩
structure PM(eu bu:E):Prop where
  next:bu.next=eu.next
  U: ∀b x,eu.U b=some x->bu.U b=some x
  map: ∀b bJ,eu.fg b=some bJ->bu.fg b=some bJ
section
variable {P:Program} {t eu:E} {l:List Nat}
@[simp] theorem aQy:(vl t l).next=t.next:=rfl
theorem aif{b:Nat}(h:b∈l):(vl t l).U b=none:=by simp[vl,E.U,h]
theorem Xb{b:Nat}(h:b∉l):(vl t l).U b=t.U b:=by simp[vl,E.U,h]
theorem EV{b:Nat}{x:fV}(h:(vl t l).U b=some x):b∉l/\t.U b=some x:=by
  by_cases K:b∈l
  · rw[aif K]at h;cases h
  · rw[Xb K]at h;exact⟨K,h⟩
theorem aih{b:Nat}(h:b∉l):(vl t l).fg b=t.fg b:=by have B:(vl t l).U b=t.U b:=Xb h;unfold E.fg;rw[B];rfl
theorem aGo{b:Nat}(h:b∈l)(av:t.next<=eu.next)(K:b<t.next):(BB t eu l).U b=t.U b:=by
  have:b<eu.next:=by omega
  simp[BB,E.U,h,K,this]
theorem Jy{b:Nat}(h:b∉l):(BB t eu l).U b=eu.U b:=by simp[BB,E.U,h]
theorem apr{b:Nat}(h:b∉l):(BB t eu l).fg b=eu.fg b:=by have B:(BB t eu l).U b=eu.U b:=Jy h;unfold E.fg;rw[B];rfl
theorem iE.frame{f:Nat}{args:List Value}{aI:Value->E->Prop}(aE: ∀o∈l,∃x,t.U o=some x/\x.cells≠[])(h:iE P f args (vl t l) aI):
    iE P f args t λr bu=> ∃eu,aI r eu/\PM eu (vl bu l)/\t.next<=bu.next/\ ∀o∈l,bu.U o=t.U o:= λW z a1i m M aC=>by
  have azS:gx W z (vl t l) m:=⟨λo x F=>M.lu o x (EV F).2,λo bJ a2=>by have K:=(EV (j6 a2).1).1;rw[aih K]at a2;exact M.jB o bJ a2,M.lI,M.inj,M.fa,λb cs K=>⟨(M.bG b cs K).1,λo x b8 F=>(M.bG b cs K).2 o x b8 (EV F).2⟩⟩;refine(h W z a1i m azS aC).aD λhy bo a6=> ?_;obtain⟨e5,gS,r,eu,B,H,af,aL⟩:=a6;have av:t.next<=eu.next:=aL.ov
  have mS: ∀o∈l,∃x b cs w,t.U o=some x/\x.cells≠[]/\W o=some b/\m.U b=some ⟨cs,w⟩/\(x.own=true->w=true)/\b5 z W x.cells cs:= λo ah=>by
    obtain⟨x,F,aK⟩:=aE o ah;rcases M.lu o x F with⟨b,cs,w,bh,bt,c1,e0⟩|⟨_,bt⟩
    · exact⟨x,b,cs,w,F,aK,bh,bt,c1,e0⟩
    · exact absurd bt aK
  have aeo: ∀o∈l,∀b,W o=some b-> ¬Kt W (vl t l) b:= λo ah b K ⟨p,x,Y,F⟩=>by have:=M.inj p o b Y K;subst this;rw[aif ah]at F;cases F
  have aiP: ∀o∈l,eu.U o=none:= λo ah=>by
    obtain⟨x,b,cs,w,bh,bt,c1,e0,hK,h3⟩:=mS o ah;cases aq:eu.U o with
    |none=>rfl
    |some y=>exact absurd (aL.rC b (M.fa o b c1).2 ⟨o,y,aL.e o b c1,aq⟩) (aeo o ah b c1)
  have HR: ∀o∈l,(BB t eu l).U o=t.U o:= λo ah=>by obtain⟨x,b,cs,w,bh,_⟩:=mS o ah;exact aGo ah av (aO bh)
  have FF:PM eu (vl (BB t eu l) l):=⟨rfl,λb x K=>by
      have:b∉l:= λaN=>by rw[aiP b aN]at K;cases K
      rw[Xb this,Jy this];exact K,λb bJ K=>by
      have:b∉l:= λaN=>by have:=(j6 K).1;rw[aiP b aN]at this;cases this
      rw[aih this,apr this];exact K⟩
  refine⟨e5,gS,r,BB t eu l,⟨eu,B,FF,av,HR⟩,?_,af,?_⟩
  · refine⟨λo x F=> ?_,λo bJ a2=> ?_,H.lI,H.inj,H.fa,λb cs K=>⟨(H.bG b cs K).1,λo x b8 F=> ?_⟩⟩
    · by_cases ah:o∈l
      · rw[HR o ah]at F;obtain⟨y,b,cs,w,bh,bt,c1,e0,hK,h3⟩:=mS o ah;rw[bh]at F;cases F;exact .inl ⟨b,cs,w,aL.e o b c1,by rw[aL.rW b (M.fa o b c1).2 λ⟨p,O,bC,cq,_⟩=>aeo o ah b c1 ⟨p,O,bC,cq⟩];exact e0,hK,h3.aD aL.f aL.e⟩
      · rw[Jy ah]at F;exact H.lu o x F
    · by_cases ah:o∈l
      · have:=(j6 a2).1;rw[HR o ah]at this;obtain⟨y,ab,aK⟩:=aE o ah;rw[ab]at this;cases this;exact absurd rfl aK
      · rw[apr ah]at a2;exact H.jB o bJ a2
    · by_cases ah:o∈l
      · rw[HR o ah]at F;obtain⟨y,b7,o3,w,bh,bt,c1,e0,hK,h3⟩:=mS o ah;have hi:=aL.e o b7 c1;rw[b8]at hi;cases hi;rcases aL.fn b cs K with q|q|q
        · exact(M.bG b cs q).2 o x c1 F
        · have:=(M.fa o b c1).2;omega
        · exact absurd q (aeo o ah b c1)
      · rw[Jy ah]at F;exact(H.bG b cs K).2 o x b8 F
  · refine⟨aL.e,aL.f,aL.mR,λb cs K=> ?_,av,aL.oS,λb K aS=>aL.rW b K λ⟨p,O,bC,cq,cZ⟩=>aS ⟨p,O,bC,(EV cq).2,cZ⟩,λb K ⟨o,x,bC,cq,cZ⟩=> ?_,λb K ⟨o,x,bC,cq⟩=> ?_⟩
    · rcases aL.fn b cs K with q|q|⟨p,O,bC,cq⟩
      · exact .inl q
      · exact .inr (.inl q)
      · exact .inr (.inr ⟨p,O,bC,(EV cq).2⟩)
    · by_cases ah:o∈l
      · obtain⟨y,b7,o3,w,bh,bt,c1,_⟩:=mS o ah;have hi:=aL.e o b7 c1;rw[bC]at hi;cases hi;rw[HR o ah]at cq;exact⟨o,x,c1,cq,cZ⟩
      · rw[Jy ah]at cq;obtain⟨p,O,eT,fk,hB⟩:=aL.ud b K ⟨o,x,bC,cq,cZ⟩;exact⟨p,O,eT,(EV fk).2,hB⟩
    · by_cases ah:o∈l
      · obtain⟨y,b7,o3,w,bh,bt,c1,_⟩:=mS o ah;have hi:=aL.e o b7 c1;rw[bC]at hi;cases hi;rw[HR o ah]at cq;exact⟨o,x,c1,cq⟩
      · rw[Jy ah]at cq;obtain⟨p,O,eT,fk⟩:=aL.rC b K ⟨o,x,bC,cq⟩;exact⟨p,O,eT,(EV fk).2⟩
def td(r hy:Value):Prop:= ∀(z:iS) (W:gZ) (v:Value),cQ z W r v->cQ z W hy v
theorem td.refl(r:Value):td r r:= λ_ _ _ h=>h
theorem td.nil{O:Nat}:td (.slice none 0 0) (aQ [] O):= λz W v h=>by rw[h.kx rfl];exact .jK rfl
def wo:List Value->List Value->Prop
  |[],[]=>True
  |x::xs,y::ys=>td x y/\wo xs ys
  |_,_=>False
theorem wo.len: ∀{xs ys:List Value},wo xs ys->xs.length=ys.length
  |[],[],_=>rfl
  |x::xs,y::ys,h=>by simp[wo.len h.2]
  |[],_::_,h=>h.elim
  |_::_,[],h=>h.elim
theorem wo.U: ∀{xs ys:List Value},wo xs ys-> ∀(i:Nat) (x y:Value),xs[i]?=some x->ys[i]?=some y->td x y
  |[],[],_,i,x,y,B,_=>by simp at B
  |x::xs,y::ys,h,0,a,b,B,H=>by simp at B H;subst B;subst H;exact h.1
  |x::xs,y::ys,h,i+1,a,b,B,H=>wo.U h.2 i a b (by simpa using B) (by simpa using H)
  |[],_::_,h,_,_,_,_,_=>h.elim
  |_::_,[],h,_,_,_,_,_=>h.elim
theorem wo.qy{xs ys mO:List Value}(h:wo xs ys){z:iS}{W:gZ}(aE:b5 z W xs mO):b5 z W ys mO:=by refine⟨by rw[<-h.len];exact aE.1,λi y O ab cl=> ?_⟩;have ag:=(dg.1 ab).1;have F:xs[i]?=some (xs[i]'(by rw[h.len];exact ag)):=c0 _;exact h.U i _ y F ab z W O (aE.2 i _ O F cl)
theorem td.agg{xs ys:List Value}(h:wo xs ys):td (.agg xs.toArray) (.agg ys.toArray):= λz W v S=>by obtain⟨mO,rfl,aE⟩:=S.wP;have:=(h.qy (by simpa using aE)).agg;simpa using this
theorem td.tuple{xs ys:List Value}(h:wo xs ys):td (.tuple xs.toArray) (.tuple ys.toArray):= λz W v S=>by obtain⟨mO,rfl,aE⟩:=S.Iv;have:=(h.qy (by simpa using aE)).tuple;simpa using this
theorem c4.aMw{f:Nat}{args:List Value}{r hy:Value}(h:c4 P f args r)(aS:td r hy):c4 P f args hy:= λz m a1i dD aC=>(h z m a1i dD aC).aD λx N a6=>by obtain⟨B,H,dH,af,aL,cm⟩:=a6;exact⟨B,H,dH,af,aL,aS dH _ _ cm⟩
end
end Go.DI
namespace Go.Proofs.YtkpifdkccdndcaaGreat
open Go Go.DI Go.Big
noncomputable def OY:cf Z:= .ek 34 (Int) (λn=>0<=n/\n<18446744073709551616) (λn=>[L n]) (λn=>dy (bL n)) (λn h=>aHl h.1 h.2)
@[simp] theorem aW2:OY.f=34:=rfl
@[simp] theorem aW3{n:Int}(h:0<=n/\n<18446744073709551616):OY.fn ([L n])=some (dy (bL n)):=cf.eP (x:=n) h λy ab=>by simpa using ab
def z6:gp:=⟨⟨#[]⟩,0,-1,0,⟨false,bL 0,bL 1⟩⟩
def KE:n3:=⟨[],[],[z6],[],[],[],[],⟨0,-1,-1,-1,-1⟩⟩
structure _root_.Go.Big.pD.bD(s:pD):Prop where
  bO: ∀x∈s.bO,x.qw.bD
  qA: ∀x∈s.qA,x.ju.bD
  bT: ∀x∈s.bT,EK.bD x/\x.aR.length<1000000
  r1:s.bO.length<1000
  de:s.aR.length<1000
  vS:s.qA.length<1000
  je:s.bT.length<1000
  zX:s.cP.length<1000
theorem As.sub{d:Aw}{ext:Int}{ax:n3}{t bu:E}{rf kp re rh rg ri:Nat}{et eK:Value}(h:As d ext ax t rf kp re rh rg ri et eK)(M:PM t bu):As d ext ax bu rf kp re rh rg ri et eK:=
  ⟨M.U _ _ h.c,M.U _ _ h.Lu,M.U _ _ h.xO,M.U _ _ h.Lt,M.U _ _ h.Lx,M.U _ _ h.Lw,M.U _ _ h.AW,M.map _ _ h.zM,M.map _ _ h.zN,M.map _ _ h.zO,M.map _ _ h.zP,M.map _ _ h.zQ,h.lk⟩
theorem Ay.sub{d:Aw}{ext:Int}{s:PI}{t bu:E}(h:Ay d ext s t)(M:PM t bu):Ay d ext s bu:=by
  cases s with
  |inl ax=>obtain⟨rf,kp,re,rh,rg,ri,et,eK,B⟩:=h;exact⟨rf,kp,re,rh,rg,ri,et,eK,B.sub M⟩
  | inr e=>obtain⟨bH,_,_,_,_,_,_,_,_,_,_,_,_,_,_,_,_,_,B⟩:=h;exact⟨bH,Kv.mk (M.U _ _ B)⟩
theorem Ay.bx{d:Aw}{ext:Int}{s:PI}{t:E}{k:Nat}(h:Ay d ext s t):Ay d ext s (t.bx k):=h.Xz ⟨by simp,λb K _=>gm K,λb K _=>QP K⟩
theorem BX{α:Type}{f:α->List Value}{O:Nat}{l:List α}(h: ∀x,(f x).length=O/\ ∀v∈f x,il v=true): ∀r∈l.map f,r.length=O/\ ∀v∈r,il v=true:= λr aH=>by obtain⟨x,_,rfl⟩:=iK.1 aH;exact h x
def aHO:List Value:=[X 0,.slice none 0 0,.slice none 0 0,.slice none 0 0,.slice none 0 0,.slice none 0 0,.slice none 0 0]
def et:List Nat:=[0,1,3]
open Go Go.DI
def anh:J:= .D (.block 1 (.D (.G [aY 0 73 1 2,aP 1 74 73,A 2 75 5,b9 3 76 6 74 75,aY 4 77 0 76,ct 5 78 4 77,aY 6 79 1 3,aP 7 80 79,A 8 81 5,b9 9 82 6 80 81,aY 10 83 0 82,ct 11 84 4 83,gj 12 85 59 78 84,im 13 86 85]) (.a8 (I 86) (.D (.G [ca 0 4 false]) (.aT)) (.skip)))) (.G [A 0 71 5,dA 1 72 71,A 2 5 72])
def ab2:J:= .D (.D (.G [A 0 66 5,aY 1 67 1 2,aP 2 68 67,bZ 3 69 68,dR 4 70 66 69]) (.a8 (I 70) (.skip) (.bw 0))) anh
def anj:J:= .D (.G [aY 0 104 0 7,aP 1 105 104,aY 2 106 0 8,aP 3 107 106,kJ 4 108 105 107,A 5 109 108,dr 6 110 109 1 7,dZ 7 111 109 110,dr 8 112 109 1 8,dZ 9 113 109 112,k2 10 114 109 111 113,dx 11 115 109 114,A 12 116 115,dr 13 117 116 2 7,dZ 14 118 116 117,dr 15 119 116 2 8,dZ 16 120 116 119,k2 17 121 116 118 120,dx 18 122 116 121,A 19 123 122,dr 20 124 123 3 7,dZ 21 125 123 124,dr 22 126 123 3 8,dZ 23 127 123 126,k2 24 128 123 125 127,dx 25 129 123 128]) (.a8 (I 129) (.D (.G [ca 0 4 false]) (.aT)) (.skip))
def ani:J:= .D (.block 3 (.D (.G [aY 0 94 2 2,aP 1 95 94,A 2 96 6,b9 3 97 6 95 96,ct 4 98 6 97,aY 5 99 2 3,aP 6 100 99,A 7 101 6,b9 8 102 6 100 101,ct 9 103 6 102,bV 10 7 (.eC [.string ⟨#[]⟩,bd,bd,.string ⟨#[]⟩,bd,bd]),bV 11 8 (.eC [.string ⟨#[]⟩,bd,bd,.string ⟨#[]⟩,bd,bd]),⟨12,none,none,.store 6 (I 7) (I 98),[(I 102,I 7),(I 99,I 7)]⟩,c9 13 6 8 103]) anj)) (.G [A 0 92 6,dA 1 93 92,A 2 6 93])
def ab3:J:= .D (.D (.G [A 0 87 6,aY 1 88 2 2,aP 2 89 88,bZ 3 90 89,dR 4 91 87 90]) (.a8 (I 91) (.skip) (.bw 2))) ani
def anl:J:= .D (.G [aY 0 147 0 10,aP 1 148 147,aY 2 149 0 11,aP 3 150 149,kJ 4 151 148 150,A 5 152 151,dr 6 153 152 1 10,dZ 7 154 152 153,dr 8 155 152 1 11,dZ 9 156 152 155,k2 10 157 152 154 156,dx 11 158 152 157,A 12 159 158,dr 13 160 159 2 10,dZ 14 161 159 160,dr 15 162 159 2 11,dZ 16 163 159 162,k2 17 164 159 161 163,dx 18 165 159 164,A 19 166 165,dr 20 167 166 6 10,dZ 21 168 166 167,dr 22 169 166 6 11,dZ 23 170 166 169,k2 24 171 166 168 170,dx 25 172 166 171,A 26 173 172,dr 27 174 173 3 10,kH 28 175 173 3 174,dr 29 176 173 3 11,kH 30 177 173 3 176,sG 31 178 173 60 175 177,jN 32 179 173 178,dx 33 180 173 179]) (.a8 (I 180) (.D (.G [ca 0 4 false]) (.aT)) (.skip))
def ank:J:= .D (.block 5 (.D (.G [aY 0 137 3 2,aP 1 138 137,A 2 139 9,b9 3 140 9 138 139,ct 4 141 9 140,aY 5 142 3 3,aP 6 143 142,A 7 144 9,b9 8 145 9 143 144,ct 9 146 9 145,bV 10 10 (.eC [bd,.string ⟨#[]⟩,bd,.bool false,aW,aW,.string ⟨#[]⟩,bd,bd]),bV 11 11 (.eC [bd,.string ⟨#[]⟩,bd,.bool false,aW,aW,.string ⟨#[]⟩,bd,bd]),⟨12,none,none,.store 9 (I 10) (I 141),[(I 145,I 10),(I 142,I 10)]⟩,c9 13 9 11 146]) anl)) (.G [A 0 135 9,dA 1 136 135,A 2 9 136])
def ab4:J:= .D (.D (.G [A 0 130 9,aY 1 131 3 2,aP 2 132 131,bZ 3 133 132,dR 4 134 130 133]) (.a8 (I 134) (.skip) (.bw 4))) ank
def ane:J:= .D (.G [aY 0 198 0 13,aP 1 199 198,aY 2 200 0 14,aP 3 201 200,kJ 4 202 199 201,A 5 203 202,dr 6 204 203 1 13,dZ 7 205 203 204,dr 8 206 203 1 14,dZ 9 207 203 206,k2 10 208 203 205 207,dx 11 209 203 208,A 12 210 209,dr 13 211 210 2 13,dZ 14 212 210 211,dr 15 213 210 2 14,dZ 16 214 210 213,k2 17 215 210 212 214,dx 18 216 210 215,A 19 217 216,dr 20 218 217 3 13,dZ 21 219 217 218,dr 22 220 217 3 14,dZ 23 221 217 220,k2 24 222 217 219 221,dx 25 223 217 222,A 26 224 223,dr 27 225 224 4 13,kH 28 226 224 5 225,dr 29 227 224 4 14,kH 30 228 224 5 227,ef 31 229 224 false (.pL true [.int,.int,.int,.int,.int] (I 226) (I 228)),dx 32 230 224 229,A 33 231 230,dr 34 232 231 9 13,dZ 35 233 231 232,dr 36 234 231 9 14,dZ 37 235 231 234,sG 38 236 231 71 233 235,jN 39 237 231 236,dx 40 238 231 237,A 41 239 238,dr 42 240 239 10 13,dZ 43 241 239 240,dr 44 242 239 10 14,dZ 45 243 239 242,sG 46 244 239 62 241 243,jN 47 245 239 244,dx 48 246 239 245,A 49 247 246,dr 50 248 247 11 13,kH 51 249 247 3 248,dr 52 250 247 11 14,kH 53 251 247 3 250,sG 54 252 247 60 249 251,jN 55 253 247 252,dx 56 254 247 253,A 57 255 254,dr 58 256 255 14 13,kH 59 257 255 3 256,dr 60 258 255 14 14,kH 61 259 255 3 258,sG 62 260 255 60 257 259,jN 63 261 255 260,dx 64 262 255 261]) (.a8 (I 262) (.D (.G [ca 0 4 false]) (.aT)) (.skip))
def anc:J:= .D (.block 7 (.D (.G [aY 0 188 4 2,aP 1 189 188,A 2 190 12,b9 3 191 19 189 190,ct 4 192 19 191,aY 5 193 4 3,aP 6 194 193,A 7 195 12,b9 8 196 19 194 195,ct 9 197 19 196,bV 10 13 (.eC [.string ⟨#[]⟩,bd,bd,bd,bd,bd,bd,bd,bd,aW,aW,.bool false,aW,aW,.bool false,aW,aW,bd,bd]),bV 11 14 (.eC [.string ⟨#[]⟩,bd,bd,bd,bd,bd,bd,bd,bd,aW,aW,.bool false,aW,aW,.bool false,aW,aW,bd,bd]),⟨12,none,none,.store 19 (I 13) (I 192),[(I 196,I 13),(I 193,I 13)]⟩,c9 13 19 14 197]) ane)) (.G [A 0 186 12,dA 1 187 186,A 2 12 187])
def ab5:J:= .D (.D (.G [A 0 181 12,aY 1 182 4 2,aP 2 183 182,bZ 3 184 183,dR 4 185 181 184]) (.a8 (I 185) (.skip) (.bw 6))) anc
def anf:J:= .D (.block 9 (.D (.G [aY 0 270 5 2,aP 1 271 270,A 2 272 15,b9 3 273 4 271 272,aY 4 274 0 273,aP 5 275 274,aY 6 276 5 3,aP 7 277 276,A 8 278 15,b9 9 279 4 277 278,aY 10 280 0 279,aP 11 281 280,kJ 12 282 275 281,A 13 283 282,dr 14 284 283 5 2,dZ 15 285 283 284,fX 16 286 283 15,vH 17 287 283 4 285 286,dr 18 288 283 1 287,dZ 19 289 283 288,dr 20 290 283 5 3,dZ 21 291 283 290,fX 22 292 283 15,vH 23 293 283 4 291 292,dr 24 294 283 1 293,dZ 25 295 283 294,k2 26 296 283 289 295,dx 27 297 283 296]) (.a8 (I 297) (.D (.G [ca 0 4 false]) (.aT)) (.skip)))) (.G [A 0 268 15,dA 1 269 268,A 2 15 269])
def ab6:J:= .D (.D (.G [A 0 263 15,aY 1 264 5 2,aP 2 265 264,bZ 3 266 265,dR 4 267 263 266]) (.a8 (I 267) (.skip) (.bw 8))) anf
def Dl:J:= .D (.G [ca 0 4 true]) (.aT)
def F7:J:= .D (.D (.G [b0 0 15 0]) (.block 8 (.loop ab6))) Dl
def IU:J:= .D (.D (.G [b0 0 12 0]) (.block 6 (.loop ab5))) F7
def Nh:J:= .D (.D (.G [b0 0 9 0]) (.block 4 (.loop ab4))) IU
def S6:J:= .D (.D (.G [b0 0 6 0]) (.block 2 (.loop ab3))) Nh
def ang:J:= .D (.D (.G [b0 0 5 0]) (.block 0 (.loop ab2))) S6
def anb:J:= .D (.D (.G [aY 0 16 0 2,aP 1 17 16,aY 2 18 0 3,aP 3 19 18,kJ 4 20 17 19,A 5 21 20,dr 6 22 21 1 2,dZ 7 23 21 22,iq 8 24 21 23,dr 9 25 21 1 3,dZ 10 26 21 25,iq 11 27 21 26,k2 12 28 21 24 27,dx 13 29 21 28,A 14 30 29,dr 15 31 30 2 2,dZ 16 32 30 31,iq 17 33 30 32,dr 18 34 30 2 3,dZ 19 35 30 34,iq 20 36 30 35,k2 21 37 30 33 36,dx 22 38 30 37,A 23 39 38,dr 24 40 39 3 2,dZ 25 41 39 40,iq 26 42 39 41,dr 27 43 39 3 3,dZ 28 44 39 43,iq 29 45 39 44,k2 30 46 39 42 45,dx 31 47 39 46,A 32 48 47,dr 33 49 48 4 2,dZ 34 50 48 49,iq 35 51 48 50,dr 36 52 48 4 3,dZ 37 53 48 52,iq 38 54 48 53,k2 39 55 48 51 54,dx 40 56 48 55,A 41 57 56,dr 42 58 57 5 2,dZ 43 59 57 58,iq 44 60 57 59,dr 45 61 57 5 3,dZ 46 62 57 61,iq 47 63 57 62,k2 48 64 57 60 63,dx 49 65 57 64]) (.a8 (I 65) (.D (.G [ca 0 4 false]) (.aT)) (.skip))) ang
def ana:J:=
  .D (
  .G [
 ft 0 2 0,
 ft 1 3 1,
 ca 2 4 false]) anb
def ab1:cR:=⟨298,[.bq 4],ana⟩
theorem aDF:cO Z 19=some ab1:=by kernel_rfl
def NB:J:= .D (.block 1 (.D (.G [aY 0 43 2 2,aP 1 44 43,A 2 45 5,b9 3 46 1 44 45,aP 4 47 46,aY 5 48 2 3,aP 6 49 48,A 7 50 5,b9 8 51 1 49 50,aP 9 52 51,gj 10 53 62 47 52,im 11 54 53]) (.a8 (I 54) (.D (.G [ca 0 4 false]) (.aT)) (.skip)))) (.G [A 0 41 5,dA 1 42 41,A 2 5 42])
def TB:J:= .D (.D (.G [A 0 36 5,aY 1 37 2 2,aP 2 38 37,bZ 3 39 38,dR 4 40 36 39]) (.a8 (I 40) (.skip) (.bw 0))) NB
def Bj:J:= .D (.G [ca 0 4 true]) (.aT)
def I3:J:= .D (.D (.G [b0 0 5 0]) (.block 0 (.loop TB))) Bj
def I2:J:= .D (.D (.G [aY 0 6 0 2,aP 1 7 6,aY 2 8 0 3,aP 3 9 8,kJ 4 10 7 9,A 5 11 10,dr 6 12 11 1 2,dZ 7 13 11 12,dr 8 14 11 1 3,dZ 9 15 11 14,sG 10 16 11 62 13 15,jN 11 17 11 16,dx 12 18 11 17,A 13 19 18,dr 14 20 19 3 2,dZ 15 21 19 20,dr 16 22 19 3 3,dZ 17 23 19 22,sG 18 24 19 62 21 23,jN 19 25 19 24,dx 20 26 19 25,A 21 27 26,dr 22 28 27 2 2,dZ 23 29 27 28,iq 24 30 27 29,dr 25 31 27 2 3,dZ 26 32 27 31,iq 27 33 27 32,k2 28 34 27 30 33,dx 29 35 27 34]) (.a8 (I 35) (.D (.G [ca 0 4 false]) (.aT)) (.skip))) I3
def I1:J:=
  .D (
  .G [
 ft 0 2 0,
 ft 1 3 1,
 ca 2 4 false]) I2
def Ga:cR:=⟨55,[.bq 4],I1⟩
theorem aEq:cO Z 59=some Ga:=by kernel_rfl
def Gd:J:= .D (.G [ct 0 14 3 2,ct 2 16 3 3,wW 1 15 54 14 3 3,cF 3 17 54 [I 16],bV 4 18 (.gL .eql .bool (I 15) (I 17)),A 5 19 18,dk 6 20 19 0 2,dF 7 21 19 20,dk 8 22 19 0 3,dF 9 23 19 22,ef 10 24 19 true (.gL .eql .bool (I 21) (I 23)),dd 11 25 19 24,A 12 26 25,dk 13 27 26 1 2,dF 14 28 26 27,dk 15 29 26 1 3,dF 16 30 26 29,tK 17 31 26 111 28 30,dd 18 32 26 31,A 19 33 32,dk 20 34 33 2 2,dF 21 35 33 34,dk 22 36 33 2 3,dF 23 37 33 36,tK 24 38 33 111 35 37,dd 25 39 33 38,A 26 4 39]) (.aT)
def Gc:J:= .D (.D (.G [ct 0 5 3 2,cF 1 6 54 [I 5],A 2 7 6,jM 3 8 7 3 3,nr 4 9 7 54 8,dd 5 10 7 9]) (.a8 (I 10) (.D (.G [ct 0 11 3 2,ct 1 12 3 3,gj 2 13 32 11 12,A 3 4 13]) (.aT)) (.skip))) Gd
def Gb:J:=
  .D (
  .G [
 ft 0 2 0,
 ft 1 3 1,
 ca 2 4 false]) Gc
def Dt:cR:=⟨40,[.bq 4],Gb⟩
theorem aEs:cO Z 60=some Dt:=by kernel_rfl
def ND:J:= .D (.block 1 (.D (.G [A 0 17 0,A 1 18 5,b9 2 19 3 17 18,ct 3 20 3 19,A 4 21 1,A 5 22 5,b9 6 23 3 21 22,ct 7 24 3 23,gj 8 25 60 20 24,im 9 26 25]) (.a8 (I 26) (.D (.G [ca 0 4 false]) (.aT)) (.skip)))) (.G [A 0 15 5,dA 1 16 15,A 2 5 16])
def TH:J:= .D (.D (.G [A 0 11 5,A 1 12 0,bZ 2 13 12,dR 3 14 11 13]) (.a8 (I 14) (.skip) (.bw 0))) ND
def I5:J:= .D (.G [ca 0 4 true]) (.aT)
def acZ:J:= .D (.D (.G [b0 0 5 0]) (.block 0 (.loop TH))) I5
def acY:J:= .D (.D (.G [A 0 6 0,bZ 1 7 6,A 2 8 1,bZ 3 9 8,kJ 4 10 7 9]) (.a8 (I 10) (.D (.G [ca 0 4 false]) (.aT)) (.skip))) acZ
def acX:J:=
  .D (
  .G [
 ca 0 4 false]) acY
def TG:cR:=⟨27,[.bq 4],acX⟩
theorem aEu:cO Z 62=some TG:=by kernel_rfl
def NS:J:= .D (.block 1 (.D (.G [A 0 17 0,A 1 18 5,b9 2 19 1 17 18,aP 3 20 19,A 4 21 1,A 5 22 5,b9 6 23 1 21 22,aP 7 24 23,kJ 8 25 20 24]) (.a8 (I 25) (.D (.G [ca 0 4 false]) (.aT)) (.skip)))) (.G [A 0 15 5,dA 1 16 15,A 2 5 16])
def T6:J:= .D (.D (.G [A 0 11 5,A 1 12 0,bZ 2 13 12,dR 3 14 11 13]) (.a8 (I 14) (.skip) (.bw 0))) NS
def Jl:J:= .D (.G [ca 0 4 true]) (.aT)
def adq:J:= .D (.D (.G [b0 0 5 0]) (.block 0 (.loop T6))) Jl
def adp:J:= .D (.D (.G [A 0 6 0,bZ 1 7 6,A 2 8 1,bZ 3 9 8,kJ 4 10 7 9]) (.a8 (I 10) (.D (.G [ca 0 4 false]) (.aT)) (.skip))) adq
def ado:J:=
  .D (
  .G [
 ca 0 4 false]) adp
def T5:cR:=⟨26,[.bq 4],ado⟩
theorem aEE:cO Z 71=some T5:=by kernel_rfl
def adt:J:= .D (.G [aY 0 5 0 2,aP 1 6 5,aY 2 7 0 3,aP 3 8 7,eJ 4 9 .eql (I 6) (I 8),A 5 10 9,dk 6 11 10 1 2,dF 7 12 10 11,dk 8 13 10 1 3,dF 9 14 10 13,vJ 10 15 10 114 12 14 115,dd 11 16 10 15,A 12 17 16,dk 13 18 17 2 2,dF 14 19 17 18,dk 15 20 17 2 3,dF 16 21 17 20,vJ 17 22 17 117 19 21 118,dd 18 23 17 22,A 19 24 23,dk 20 25 24 3 2,dF 21 26 24 25,dk 22 27 24 3 3,dF 23 28 24 27,vJ 24 29 24 119 26 28 120,dd 25 30 24 29,A 26 31 30,dk 27 32 31 4 2,dF 28 33 31 32,dk 29 34 31 4 3,dF 30 35 31 34,vJ 31 36 31 122 33 35 123,dd 32 37 31 36,A 33 38 37,dk 34 39 38 5 2,dF 35 40 38 39,dk 36 41 38 5 3,dF 37 42 38 41,vJ 38 43 38 124 40 42 125,dd 39 44 38 43,A 40 4 44]) (.aT)
def ads:J:=
  .D (
  .G [
 ft 0 2 0,
 ft 1 3 1,
 ca 2 4 false]) adt
def T7:cR:=⟨45,[.bq 4],ads⟩
theorem aEQ:cO Z 74=some T7:=by kernel_rfl
def ML:J:= .D (.block 1 (.D (.G [A 0 17 0,A 1 18 5,b9 2 19 1 17 18,aP 3 20 19,A 4 21 1,A 5 22 5,b9 6 23 1 21 22,aP 7 24 23,kJ 8 25 20 24]) (.a8 (I 25) (.D (.G [ca 0 4 false]) (.aT)) (.skip)))) (.G [A 0 15 5,dA 1 16 15,A 2 5 16])
def RM:J:= .D (.D (.G [A 0 11 5,A 1 12 0,bZ 2 13 12,dR 3 14 11 13]) (.a8 (I 14) (.skip) (.bw 0))) ML
def ID:J:= .D (.G [ca 0 4 true]) (.aT)
def ZD:J:= .D (.D (.G [b0 0 5 0]) (.block 0 (.loop RM))) ID
def ZC:J:= .D (.D (.G [A 0 6 0,bZ 1 7 6,A 2 8 1,bZ 3 9 8,kJ 4 10 7 9]) (.a8 (I 10) (.D (.G [ca 0 4 false]) (.aT)) (.skip))) ZD
def ZB:J:=
  .D (
  .G [
 ca 0 4 false]) ZC
def RL:cR:=⟨26,[.bq 4],ZB⟩
theorem aAN:cO Z 111=some RL:=by kernel_rfl
def aAZ:J:= .D (.G [A 0 18 2,A 1 19 0,A 2 20 7,b9 3 21 6 19 20,ct 4 22 6 21,A 5 23 1,A 6 24 7,b9 7 25 6 23 24,ct 8 26 6 25,sH 9 27,im 10 28 27]) (.a8 (I 28) (.D (.G [ca 0 6 false]) (.aT)) (.skip))
def aAY:J:= .D (.block 1 (.D (.G [A 0 17 15,A 1 7 17]) aAZ)) (.G [dA 0 29 15,A 1 15 29])
def aAX:J:= .D (.a8 (I 16) (.skip) (.bw 0)) aAY
def aA1:J:= .D (.G [dR 0 16 15 14]) aAX
def aA0:J:= .D (.G [ca 0 6 true]) (.aT)
def aAW:J:= .D (.D (.G [A 0 13 0,bZ 1 14 13,b0 2 15 0]) (.block 0 (.loop aA1))) aA0
def aAV:J:= .D (.D (.G [A 0 8 0,bZ 1 9 8,A 2 10 1,bZ 3 11 10,kJ 4 12 9 11]) (.a8 (I 12) (.D (.G [ca 0 6 false]) (.aT)) (.skip))) aAW
def aAT:J:=
  .D (
  .G [
 ca 0 6 false]) aAV
def aAS:cR:=⟨30,[.bq 6],aAT⟩
theorem aAU:cO Z 114=some aAS:=by kernel_rfl
def ZG:J:= .D (.G [aY 0 5 0 2,ct 1 6 4 5,aY 2 7 0 3,ct 3 8 4 7,gj 4 9 116 6 8,A 5 4 9]) (.aT)
def ZF:J:=
  .D (
  .G [
 ft 0 2 0,
 ft 1 3 1,
 ca 2 4 false]) ZG
def RP:cR:=⟨10,[.bq 4],ZF⟩
theorem aA2:cO Z 115=some RP:=by kernel_rfl
def Ba:J:= .D (.G [aY 0 5 0 2,aP 1 6 5,aY 2 7 0 3,aP 3 8 7,eJ 4 9 .eql (I 6) (I 8),A 5 10 9,dk 6 11 10 1 2,dF 7 12 10 11,dk 8 13 10 1 3,dF 9 14 10 13,tK 10 15 10 149 12 14,dd 11 16 10 15,A 12 17 16,dk 13 18 17 2 2,dF 14 19 17 18,dk 15 20 17 2 3,dF 16 21 17 20,vJ 17 22 17 150 19 21 149,dd 18 23 17 22,A 19 24 23,dk 20 25 24 3 2,dF 21 26 24 25,dk 22 27 24 3 3,dF 23 28 24 27,tK 24 29 24 149 26 28,dd 25 30 24 29,A 26 4 30]) (.aT)
def A9:J:=
  .D (
  .G [
 ft 0 2 0,
 ft 1 3 1,
 ca 2 4 false]) Ba
def x8:cR:=⟨31,[.bq 4],A9⟩
theorem akO:cO Z 116=some x8:=by kernel_rfl
def aBa:J:= .D (.G [A 0 18 2,A 1 19 0,A 2 20 7,b9 3 21 6 19 20,ct 4 22 6 21,A 5 23 1,A 6 24 7,b9 7 25 6 23 24,ct 8 26 6 25,sH 9 27,im 10 28 27]) (.a8 (I 28) (.D (.G [ca 0 6 false]) (.aT)) (.skip))
def aA9:J:= .D (.block 1 (.D (.G [A 0 17 15,A 1 7 17]) aBa)) (.G [dA 0 29 15,A 1 15 29])
def aA8:J:= .D (.a8 (I 16) (.skip) (.bw 0)) aA9
def aBc:J:= .D (.G [dR 0 16 15 14]) aA8
def aBb:J:= .D (.G [ca 0 6 true]) (.aT)
def aA7:J:= .D (.D (.G [A 0 13 0,bZ 1 14 13,b0 2 15 0]) (.block 0 (.loop aBc))) aBb
def aA6:J:= .D (.D (.G [A 0 8 0,bZ 1 9 8,A 2 10 1,bZ 3 11 10,kJ 4 12 9 11]) (.a8 (I 12) (.D (.G [ca 0 6 false]) (.aT)) (.skip))) aA7
def aA4:J:=
  .D (
  .G [
 ca 0 6 false]) aA6
def aA3:cR:=⟨30,[.bq 6],aA4⟩
theorem aA5:cO Z 117=some aA3:=by kernel_rfl
def aBk:J:= .D (.G [A 0 18 2,A 1 19 0,A 2 20 7,b9 3 21 9 19 20,ct 4 22 9 21,A 5 23 1,A 6 24 7,b9 7 25 9 23 24,ct 8 26 9 25,sH 9 27,im 10 28 27]) (.a8 (I 28) (.D (.G [ca 0 6 false]) (.aT)) (.skip))
def aBj:J:= .D (.block 1 (.D (.G [A 0 17 15,A 1 7 17]) aBk)) (.G [dA 0 29 15,A 1 15 29])
def aBi:J:= .D (.a8 (I 16) (.skip) (.bw 0)) aBj
def aBm:J:= .D (.G [dR 0 16 15 14]) aBi
def aBl:J:= .D (.G [ca 0 6 true]) (.aT)
def aBh:J:= .D (.D (.G [A 0 13 0,bZ 1 14 13,b0 2 15 0]) (.block 0 (.loop aBm))) aBl
def aBg:J:= .D (.D (.G [A 0 8 0,bZ 1 9 8,A 2 10 1,bZ 3 11 10,kJ 4 12 9 11]) (.a8 (I 12) (.D (.G [ca 0 6 false]) (.aT)) (.skip))) aBh
def aBe:J:=
  .D (
  .G [
 ca 0 6 false]) aBg
def aBd:cR:=⟨30,[.bq 6],aBe⟩
theorem aBf:cO Z 119=some aBd:=by kernel_rfl
def FV:J:= .D (.G [A 0 20 5,lY 1 21 20 0,A 2 4 21]) (.aT)
def FX:J:= .D (.G [ct 0 22 3 2,ct 2 24 3 3,wW 1 23 91 22 3 3,cF 3 25 91 [I 24],bV 4 26 (.gL .eql .bool (I 23) (I 25)),A 5 27 26,dk 6 28 27 0 2,dF 7 29 27 28,dk 8 30 27 0 3,dF 9 31 27 30,ef 10 32 27 true (.gL .eql .bool (I 29) (I 31)),dd 11 33 27 32,A 12 34 33,dk 13 35 34 1 2,dF 14 36 34 35,dk 15 37 34 1 3,dF 16 38 34 37,gT 17 39 34 7,ef 18 40 34 true (.gl 152 [I 36,I 38,I 39]),dd 19 41 34 40,A 20 42 41,dk 21 43 42 2 2,dF 22 44 42 43,dk 23 45 42 2 3,dF 24 46 42 45,gT 25 47 42 7,ef 26 48 42 true (.gl 152 [I 44,I 46,I 47]),dd 27 49 42 48,A 28 4 49]) (.aT)
def FW:J:= .D (.G [bV 0 7 (.pk (.func 151))]) FX
def FU:J:= .D (.D (.G [ct 0 8 3 2,cF 1 9 91 [I 8],A 2 10 9,jM 3 11 10 3 3,nr 4 12 10 91 11,dd 5 13 10 12]) (.a8 (I 13) (.D (.G [ct 0 15 3 2,ct 1 16 3 3,gj 2 17 27 15 16,A 3 14 17,dN 4 18 0 14,dN 5 19 1 14,A 6 5 18,A 7 6 19]) FV) (.skip))) FW
def FT:J:=
  .D (
  .G [
 ft 0 2 0,
 ft 1 3 1,
 ca 2 4 false]) FU
def Dd:cR:=⟨50,[.bq 4],FT⟩
theorem aBn:cO Z 121=some Dd:=by kernel_rfl
def aBv:J:= .D (.G [A 0 18 2,A 1 19 0,A 2 20 7,b9 3 21 19 19 20,ct 4 22 19 21,A 5 23 1,A 6 24 7,b9 7 25 19 23 24,ct 8 26 19 25,sH 9 27,im 10 28 27]) (.a8 (I 28) (.D (.G [ca 0 6 false]) (.aT)) (.skip))
def aBu:J:= .D (.block 1 (.D (.G [A 0 17 15,A 1 7 17]) aBv)) (.G [dA 0 29 15,A 1 15 29])
def aBt:J:= .D (.a8 (I 16) (.skip) (.bw 0)) aBu
def aBx:J:= .D (.G [dR 0 16 15 14]) aBt
def aBw:J:= .D (.G [ca 0 6 true]) (.aT)
def aBs:J:= .D (.D (.G [A 0 13 0,bZ 1 14 13,b0 2 15 0]) (.block 0 (.loop aBx))) aBw
def aBr:J:= .D (.D (.G [A 0 8 0,bZ 1 9 8,A 2 10 1,bZ 3 11 10,kJ 4 12 9 11]) (.a8 (I 12) (.D (.G [ca 0 6 false]) (.aT)) (.skip))) aBs
def aBp:J:=
  .D (
  .G [
 ca 0 6 false]) aBr
def aBo:cR:=⟨30,[.bq 6],aBp⟩
theorem aBq:cO Z 122=some aBo:=by kernel_rfl
def aBF:J:= .D (.G [A 0 18 2,A 1 19 0,A 2 20 7,b9 3 21 4 19 20,ct 4 22 4 21,A 5 23 1,A 6 24 7,b9 7 25 4 23 24,ct 8 26 4 25,sH 9 27,im 10 28 27]) (.a8 (I 28) (.D (.G [ca 0 6 false]) (.aT)) (.skip))
def aBE:J:= .D (.block 1 (.D (.G [A 0 17 15,A 1 7 17]) aBF)) (.G [dA 0 29 15,A 1 15 29])
def aBD:J:= .D (.a8 (I 16) (.skip) (.bw 0)) aBE
def aBH:J:= .D (.G [dR 0 16 15 14]) aBD
def aBG:J:= .D (.G [ca 0 6 true]) (.aT)
def aBC:J:= .D (.D (.G [A 0 13 0,bZ 1 14 13,b0 2 15 0]) (.block 0 (.loop aBH))) aBG
def aBB:J:= .D (.D (.G [A 0 8 0,bZ 1 9 8,A 2 10 1,bZ 3 11 10,kJ 4 12 9 11]) (.a8 (I 12) (.D (.G [ca 0 6 false]) (.aT)) (.skip))) aBC
def aBz:J:=
  .D (
  .G [
 ca 0 6 false]) aBB
def aBy:cR:=⟨30,[.bq 6],aBz⟩
theorem aBA:cO Z 124=some aBy:=by kernel_rfl
def aaz:J:= .D (.G [A 0 5 0,A 1 6 1,cF 2 7 167 [I 5,I 6,.func 121],A 3 4 7]) (.aT)
def aay:J:=
  .D (
  .G [
 ca 0 4 false]) aaz
def MZ:cR:=⟨8,[.bq 4],aay⟩
theorem alO:cO Z 149=some MZ:=by kernel_rfl
def aCv:J:= .D (.G [A 0 18 2,A 1 19 0,A 2 20 7,b9 3 21 1 19 20,aP 4 22 21,A 5 23 1,A 6 24 7,b9 7 25 1 23 24,aP 8 26 25,sH 9 27,im 10 28 27]) (.a8 (I 28) (.D (.G [ca 0 6 false]) (.aT)) (.skip))
def aCu:J:= .D (.block 1 (.D (.G [A 0 17 15,A 1 7 17]) aCv)) (.G [dA 0 29 15,A 1 15 29])
def aCt:J:= .D (.a8 (I 16) (.skip) (.bw 0)) aCu
def aCx:J:= .D (.G [dR 0 16 15 14]) aCt
def aCw:J:= .D (.G [ca 0 6 true]) (.aT)
def aCs:J:= .D (.D (.G [A 0 13 0,bZ 1 14 13,b0 2 15 0]) (.block 0 (.loop aCx))) aCw
def aCr:J:= .D (.D (.G [A 0 8 0,bZ 1 9 8,A 2 10 1,bZ 3 11 10,kJ 4 12 9 11]) (.a8 (I 12) (.D (.G [ca 0 6 false]) (.aT)) (.skip))) aCs
def aCq:J:=
  .D (
  .G [
 ca 0 6 false]) aCr
def aCp:cR:=⟨30,[.bq 6],aCq⟩
theorem alY:cO Z 150=some aCp:=by kernel_rfl
def al0:J:= .D (.G [A 0 5 0,A 1 6 1,eJ 2 7 .eql (I 5) (I 6),A 3 4 7]) (.aT)
def alZ:J:=
  .D (
  .G [
 ca 0 4 false]) al0
def aaB:cR:=⟨8,[.bq 4],alZ⟩
theorem aCy:cO Z 151=some aaB:=by kernel_rfl
def aCG:J:= .D (.G [A 0 18 2,A 1 19 0,A 2 20 7,b9 3 21 1 19 20,aP 4 22 21,A 5 23 1,A 6 24 7,b9 7 25 1 23 24,aP 8 26 25,sH 9 27,im 10 28 27]) (.a8 (I 28) (.D (.G [ca 0 6 false]) (.aT)) (.skip))
def aCF:J:= .D (.block 1 (.D (.G [A 0 17 15,A 1 7 17]) aCG)) (.G [dA 0 29 15,A 1 15 29])
def aCE:J:= .D (.a8 (I 16) (.skip) (.bw 0)) aCF
def aCI:J:= .D (.G [dR 0 16 15 14]) aCE
def aCH:J:= .D (.G [ca 0 6 true]) (.aT)
def aCD:J:= .D (.D (.G [A 0 13 0,bZ 1 14 13,b0 2 15 0]) (.block 0 (.loop aCI))) aCH
def aCC:J:= .D (.D (.G [A 0 8 0,bZ 1 9 8,A 2 10 1,bZ 3 11 10,kJ 4 12 9 11]) (.a8 (I 12) (.D (.G [ca 0 6 false]) (.aT)) (.skip))) aCD
def aCA:J:=
  .D (
  .G [
 ca 0 6 false]) aCC
def aCz:cR:=⟨30,[.bq 6],aCA⟩
theorem aCB:cO Z 152=some aCz:=by kernel_rfl
def aDl:J:= .D (.G [A 0 18 2,A 1 19 0,A 2 20 7,b9 3 21 3 19 20,ct 4 22 3 21,A 5 23 1,A 6 24 7,b9 7 25 3 23 24,ct 8 26 3 25,sH 9 27,im 10 28 27]) (.a8 (I 28) (.D (.G [ca 0 6 false]) (.aT)) (.skip))
def aDk:J:= .D (.block 1 (.D (.G [A 0 17 15,A 1 7 17]) aDl)) (.G [dA 0 29 15,A 1 15 29])
def aDj:J:= .D (.a8 (I 16) (.skip) (.bw 0)) aDk
def aDn:J:= .D (.G [dR 0 16 15 14]) aDj
def aDm:J:= .D (.G [ca 0 6 true]) (.aT)
def aDi:J:= .D (.D (.G [A 0 13 0,bZ 1 14 13,b0 2 15 0]) (.block 0 (.loop aDn))) aDm
def aDh:J:= .D (.D (.G [A 0 8 0,bZ 1 9 8,A 2 10 1,bZ 3 11 10,kJ 4 12 9 11]) (.a8 (I 12) (.D (.G [ca 0 6 false]) (.aT)) (.skip))) aDi
def aDg:J:=
  .D (
  .G [
 ca 0 6 false]) aDh
def aDf:cR:=⟨30,[.bq 6],aDg⟩
theorem amy:cO Z 167=some aDf:=by kernel_rfl
theorem aMy{a b c:Int}:c4 Z 47 [X a,X b,X c] (.bool (eG a b c)):=by
  refine gR (ga (a0:=⟨[],[]⟩) aEb (by kernel_rfl) (by simp[Tt]) ?_);by_cases h:b<=a
  · have b6:a>=b:=h;simp[Tt,acJ,acK,h,eG]
  · have b6: ¬a>=b:=h;simp[Tt,acJ,acK,h,eG]
noncomputable def v3:cf Z:= .ek 47 (Int×Int×Int) (λ⟨a,b,c⟩=>True) (λ⟨a,b,c⟩=>[X a,X b,X c]) (λ⟨a,b,c⟩=> .bool (eG a b c)) (λ⟨a,b,c⟩ h=>aMy)
@[simp] theorem aYS:v3.f=47:=rfl
@[simp] theorem aYT{a:Int}{b:Int}{c:Int}:v3.fn ([X a,X b,X c])=some (.bool (eG a b c)):=cf.eP (x:=(a,b,c)) trivial λy ab=>by obtain⟨pw,gk,h6⟩:=y;simpa using ab
def v5(a b c d e f:Int):Bool:=decide (a<=4)&&(decide (b<=4)&&(decide (c<=40)&&(decide (d<=24)&&(decide (e<=4)&&decide (f<=12)))))
theorem aJ4{a b c d e f:Int}:c4 Z 48 [X a,X b,X c,X d,X e,X f] (.bool (v5 a b c d e f)):=by
  refine gR (ga (a0:=⟨[],[]⟩) aEc (by kernel_rfl) (by simp[Dr]) ?_);by_cases B:a<=4
  · by_cases H:b<=4
    · by_cases af:c<=40
      · by_cases aL:d<=24
        · by_cases cm:e<=4
          · simp[Dr,F8,F9,B,H,af,aL,cm,v5]
          · simp[Dr,F8,F9,B,H,af,aL,cm,v5]
        · simp[Dr,F8,F9,B,H,af,aL,v5]
      · simp[Dr,F8,F9,B,H,af,v5]
    · simp[Dr,F8,F9,B,H,v5]
  · simp[Dr,F8,F9,B,v5]
noncomputable def JZ:cf Z:= .ek 48 (Int×Int×Int×Int×Int×Int) (λ⟨a,b,c,d,e,f⟩=>True) (λ⟨a,b,c,d,e,f⟩=>[X a,X b,X c,X d,X e,X f]) (λ⟨a,b,c,d,e,f⟩=> .bool (v5 a b c d e f)) (λ⟨a,b,c,d,e,f⟩ h=>aJ4)
@[simp] theorem aXV:JZ.f=48:=rfl
@[simp] theorem aXW{a:Int}{b:Int}{c:Int}{d:Int}{e:Int}{f:Int}:JZ.fn ([X a,X b,X c,X d,X e,X f])=some (.bool (v5 a b c d e f)):=cf.eP (x:=(a,b,c,d,e,f)) trivial λy ab=>by obtain⟨pw,gk,h6,px,s4,xn⟩:=y;simpa using ab
def C8(s:ByteArray)(l:List ByteArray):Int:=match og s l with
  |none=> -1
  |some i=>i
theorem Zi{s:ByteArray}{l:List ByteArray}: ∀{i:Nat},(∀j (h:j<l.length),j<i->l[j]≠s)->i<=l.length->og s l=(og s (l.drop i)).map (· +i)
  |0,_,_=>by simp
  | i+1,h,ag=>by rw[Zi (i:=i) (λj c6 ay4=>h j c6 (by omega)) (by omega)];have F:l.drop i=l[i]::l.drop (i+1):=Wr (by omega);have dE: ¬s=l[i]:= λe=>h i (by omega) (by omega) e.symm;rw[F];simp only[og,if_neg dE,Option.map_map];congr 1;funext k;simp only[Function.comp_apply];omega
theorem akA{l:List ByteArray}{s:ByteArray}(av:l.length<1000000):c4 Z 50 [ux l,ei s] (X (C8 s l)):=by
  refine gR (ga (a0:=⟨[],[]⟩) aEf (by kernel_rfl) (by simp[acL]) ?_);simp[acL,aoe,aof];refine hC (a0:=⟨[],[]⟩) (λi u t=>(∀j (h:j<l.length),j<i->l[j]≠s)/\u 0=ux l/\u 1=ei s/\u 5=X i) l.length ?_ ?_ 0 _ _ (hf _) ⟨by simp,by simp,by simp,by simp⟩
  · rintro i u t ag ⟨aC,b1,aw,cv⟩ cp aZ;have F:l[i]?=some l[i]:=c0 ag;have bc:=e7 (n:=i) (by omega);have bn:(i:Int)<l.length:=(by omega);by_cases K:l[i]=s
    · have e:C8 s l=i:=by
        unfold C8;rw[Zi aC (by omega),Wr ag];simp[og,K]
      simp(disch:=omega) [Tv,Ns,Nt,b1,aw,cv,bn,K,e]
    · simp(disch:=first|omega|simp only[b3];omega) [Tv,Ns,Nt,b1,aw,cv,bn,bc,K,-ao,-aB,-ai,-au,-List.map_map];exact aZ _ _ ⟨λj c6 ay4=>by
        by_cases e:j=i
        · subst e;exact K
        · exact aC j c6 (by omega),by simp[b1],by simp[aw],by simp⟩
  · rintro u t ⟨aC,b1,aw,cv⟩;have e:C8 s l= -1:=by
      unfold C8;rw[Zi aC (eB _),List.drop_length];rfl
    simp[Tv,Ns,Nt,b1,cv,Nt,Ns,e]
theorem aJ5{x:aV}(aa:x.bD):c4 Z 53 [eV x] (.bool x.bG.small):=q6 λm fl aC=>by obtain⟨v,rfl,h⟩:=aC.hS;exact(afl (uJ aa h)).aD λr N ⟨B,H⟩=>⟨B,by rw[H];exact .dc rfl⟩
theorem aJ7{l:List aV}{n:Nat}(aa: ∀x∈l,x.bD)(av:n<1000000):c4 Z 29 [dQ l,X n] (.bool (decide (l.length=n)&&l.all λx=>x.bG.small)):=q6 λm fl aC=>by obtain⟨v,w,rfl,h,b6⟩:=aC.Kc;rw[b6.qs];refine(Vu (YK aa h) av).aD λr N ⟨B,H⟩=>⟨B,?_⟩;rw[H,jZ,List.all_map];exact .dc rfl
noncomputable def VE:cf Z:= .ek 53 aV aV.bD (λx=>[eV x]) (λx=> .bool x.bG.small) λ_ aa=>aJ5 aa
@[simp] theorem aXX:VE.f=53:=rfl
@[simp] theorem aXY{n:Bool}{a b:List Int}(h:(aV.mk n a b).bD):VE.fn [.agg #[.bool n,dy a,dy b]]=some (.bool (aV.mk n a b).bG.small):=cf.eP (x:=aV.mk n a b) h λy ab=>Ek ab
noncomputable def O3:cf Z:= .ek 55 aV aV.bD (λx=>[eV x]) (λx=> .tuple #[eV (hE x),X (rl x.bG).1]) λ_ aa=>aJ1 aa
@[simp] theorem aXR:O3.f=55:=rfl
@[simp] theorem aXS{n:Bool}{a b:List Int}(h:(aV.mk n a b).bD):O3.fn [.agg #[.bool n,dy a,dy b]]=some (.tuple #[eV (hE ⟨n,a,b⟩),X (rl (aV.mk n a b).bG).1]):=
  cf.eP (x:=aV.mk n a b) h λy ab=>by simpa[GP]using ab
noncomputable def Eb:cf Z:= .ek 30 aV (λx=>x.bD/\x.bG.ok=true) (λx=>[eV x]) (λx=>X (iI x.bG .nil)) λ_ aa=>aJ3 aa.1 aa.2
@[simp] theorem aXT:Eb.f=30:=rfl
@[simp] theorem aXU{n:Bool}{a b:List Int}(h:(aV.mk n a b).bD/\(aV.mk n a b).bG.ok=true):Eb.fn [.agg #[.bool n,dy a,dy b]]=some (X (iI (aV.mk n a b).bG .nil)):=cf.eP (x:=aV.mk n a b) h λy ab=>Ek ab
noncomputable def G1:cf Z:= .ek 54 aV aV.bD (λx=>[eV x]) (λx=> .bool x.bG.ok) λ_ aa=>aKH aa
@[simp] theorem aX3:G1.f=54:=rfl
@[simp] theorem aX4{n:Bool}{a b:List Int}(h:(aV.mk n a b).bD):G1.fn [.agg #[.bool n,dy a,dy b]]=some (.bool (aV.mk n a b).bG.ok):=cf.eP (x:=aV.mk n a b) h λy ab=>Ek ab
theorem aeD{x:bp}(bH:0<=x.n):(iI x .nil=0)=(x.n=0):=by
  have e:x.n*bp.nil.d=x.n:=by show x.n*1=x.n;omega
  have bg:bp.nil.n*x.d=0:=by show 0*x.d=0;omega
  have dU:(bp.nil.bQ&&decide (bp.nil.n≠0))=false:=rfl;unfold iI;rw[e,bg,dU];apply propext;by_cases cl:x.n=0
  · simp[cl,ix]
  · simp only[cl,iff_false];cases x.bQ
    · simp only[Ao,lv,if_false];unfold ix;split<;>(try split)<;>omega
    · simp[cl]
theorem aIh{x:bp}(bH:0<=x.n):(iI x .nil=0)= ¬(0<x.n):=by rw[aeD bH];apply propext;omega
theorem aJR{bN:List aV}(aa: ∀x∈bN,x.bD)(av:bN.length<1000000):c4 Z 56 [dQ bN] (dQ (bN.map hE)):=by
  refine gR (ga (a0:=⟨[],[]⟩) aEn (by kernel_rfl) (by simp[acR]) ?_);simp[acR,aon,aoo,aop];refine ahd (d:=3) (O:=3) (by simp) ?_;refine hC (a0:=⟨[O3],[]⟩) (λi u t=> ∃o,t.U o=some ⟨(((bN.take i).map hE).map ec).flatten,true⟩/\u 0=dQ bN/\u 3= .slice (some ⟨o,0,none⟩) i 3/\u 4=X i) bN.length ?_ ?_ 0 _ _ (hf _) ⟨rY.next,by simp,by simp,by simp,by simp⟩
  · rintro i u t ag ⟨o,aq,b1,bA,fv⟩ cp aZ;have F:bN[i]?=some bN[i]:=c0 ag;have q1:bN[i].bD:=aa _ (qM ag);have bc:=e7 (n:=i) (by omega);have bn:(i:Int)<bN.length:=(by omega);have gr:(((bN.take i).map hE).map ec).flatten.length=i*3:=(by rw[aq6,jZ,k9];congr 1;omega);obtain⟨cs,fe⟩: ∃cs,cs=(((bN.take i).map hE).map ec).flatten:=⟨_,rfl⟩;rw[<-fe]at aq gr;have hd:cs.take (i*3)=cs:=fw (by omega);have aHk:=aO aq;have gv:(i+1)*56<=140737488355328/\i<=9223372036854775806:=(by omega);simp(disch:=first|omega|simp only[b3];omega) [acS,Ty,Tz,b1,bA,fv,bn,bc,aq,gr,hd,ec,gv,-ao,-aB,-ai,-au,-List.map_map];have e:(((bN.take (i+1)).map hE).map ec).flatten=cs++ec (hE bN[i]):=(by rw[l6 F,fe,oy,oy,Px,n0,wj,n0,wj,u7,List.flatten_nil,An]);refine aZ _ _ ⟨t.next+11+3,?_,by simp[b1],by simp,by simp⟩;rw[e];simp(disch:=first|omega|simp only[b3];omega) [ec,-ao,-aB,-ai,-au,-List.map_map]
  · rintro u t ⟨o,aq,b1,bA,fv⟩;rw[kM]at aq;simp[acS,Ty,Tz,b1,bA,fv,Tz,Ty];exact E3 (n:=8) (l:=bN.length) (bW:=(bN.map hE).map ec) aq (by simp) ae0
noncomputable def O2:cf Z:= .ek 56 (List aV) (λl=>(∀x∈l,x.bD)/\l.length<1000000) (λl=>[dQ l]) (λl=>dQ (l.map hE)) λ_ h=>aJR h.1 h.2
@[simp] theorem aXN:O2.f=56:=rfl
@[simp] theorem aXO{l:List aV}(h:(∀x∈l,x.bD)/\l.length<1000000):O2.fn [aQ (l.map ec) 3]=some (dQ (l.map hE)):=cf.eP (x:=l) h λy ab=>by simpa using ab
theorem aJM{x:dY}(aa:x.bD)(qv: ∀l∈x.bf,l.length<1000000):c4 Z 51 [nZ x] (nZ (tN x)):=by
  refine gR (ga (a0:=⟨[O2],[]⟩) aEg (by kernel_rfl) (by simp[acM]) ?_);obtain⟨bM,dL,fp,ns,mX,pg,_⟩:=aa;have bh:(∀r∈x.s,r.bD)/\x.s.length<1000000:=⟨bM,ns⟩;have bt:(∀r∈x.e,r.bD)/\x.e.length<1000000:=⟨fp,pg⟩;simp(disch:=first|omega|simp only[b3];omega) [acM,aog,aoh,aoi,fH,-ao,-aB,-ai,-au,-List.map_map];refine ahe (o:=11) (j:=2) (O:=1) (cW (by simp)) rfl ?_;refine hC (a0:=⟨[O2],[]⟩) (λi u t=> ∃o cs EO,cs=(((x.bf.take i).map (·.map hE)).map λr=>[dQ r]).flatten/\o≠11/\o≠0/\o≠1/\t.U 11=some ⟨[.string x.name,dQ (x.s.map hE),.slice (some ⟨o,0,none⟩) i 1,dQ (x.e.map hE)],true⟩/\t.U o=some ⟨cs,true⟩/\t.U 0=some ⟨fH x,true⟩/\t.U 1=some ⟨[.string ⟨#[]⟩,.slice none 0 0,.slice none 0 0,.slice none 0 0],true⟩/\u 1=cb 0/\u 2=cb 1/\u 3=cb 11/\u 4=X i/\EO=0) x.bf.length ?_ ?_ 0 _ _ (hf _) ⟨13,[],0,by simp,by decide,by decide,by decide,by simp(disch:=first|omega|simp only[b3];omega) [-ao,-aB,-ai,-au,-List.map_map],by simp(disch:=first|omega|simp only[b3];omega) [-ao,-aB,-ai,-au,-List.map_map],by simp(disch:=first|omega|simp only[b3];omega) [fH,-ao,-aB,-ai,-au,-List.map_map],by simp(disch:=first|omega|simp only[b3];omega) [-ao,-aB,-ai,-au,-List.map_map],by simp,by simp,by simp,by simp,rfl⟩
  · rintro i u t ag ⟨o,cs,EO,fe,du,dV,p1,cD,bj,aJ,aj,aw,bR,bA,fv,rfl⟩ cp aZ;have F:x.bf[i]?=some x.bf[i]:=c0 ag;have aN:x.bf[i]∈x.bf:=qM ag;have bc:=e7 (n:=i) (by omega);have bn:(i:Int)<x.bf.length:=(by omega);have cM:(∀r∈x.bf[i],r.bD)/\x.bf[i].length<1000000:=⟨dL _ aN,qv _ aN⟩;have DJ:=aO cD;have cK:=aO bj;have et:=aO aJ;have fP:=aO aj;have gr:cs.length=i:=(by rw[fe,aiT];simp;omega);have hd:cs.take i=cs:=fw (by omega);have gv:(i+1)*24<=140737488355328/\i<=9223372036854775806:=(by omega);simp(disch:=first|omega|simp only[b3];omega) [acN,Tw,Tx,aw,bA,fv,bn,bc,cD,bj,aJ,gr,hd,gv,fH,-ao,-aB,-ai,-au,-List.map_map];refine aZ _ _ ⟨t.next+9,cs++[dQ (x.bf[i].map hE)],0,?_,?_,?_,?_,?_,?_,?_,?_,?_,?_,?_,?_,rfl⟩
    · rw[l6 F,fe,oy,oy,Px];rfl
    all_goals first|omega|(simp(disch:=first|omega|simp only[b3];omega) [aw,bR,bA,aJ,aj,fH,-ao,-aB,-ai,-au,-List.map_map])
  · rintro u t ⟨o,cs,EO,fe,du,dV,p1,cD,bj,aJ,aj,aw,bR,bA,fv,rfl⟩;rw[kM]at fe;have DJ:=aO cD;have fP:=aO aj;have zf: ∀cV,DI.eg 8 (t.an 1 cV) (.slice (some ⟨o,0,none⟩) x.bf.length 1)=some (oF (x.bf.map (·.map hE))):= λcV=>E3 (n:=7) (by rw[dC p1,bj,fe]) (by simp) aiS;have qy:t.U 11=some ⟨[.string x.name,dQ (x.s.map hE),.slice (some ⟨o,0,none⟩) x.bf.length 1,dQ (x.e.map hE)],true⟩:=cD;simp(disch:=first|omega|simp only[b3];omega) [acN,Tw,Tx,Tx,Tw,aw,bR,bA,fv,cD,aJ,aj,zf,fH,tN,-ao,-aB,-ai,-au,-List.map_map]
noncomputable def aga:cf Z:= .ek 51 dY (λx=>x.bD/\ ∀l∈x.bf,l.length<1000000) (λx=>[nZ x]) (λx=>nZ (tN x)) λ_ h=>aJM h.1 h.2
@[simp] theorem aXL:aga.f=51:=rfl
@[simp] theorem aXM{n:ByteArray}{s e:List aV}{bf:List (List aV)}(h:(dY.mk n s bf e).bD/\ ∀l∈bf,l.length<1000000):aga.fn [.agg #[ei n,aQ (s.map ec) 3,aQ (bf.map λr=>[dQ r]) 1,aQ (e.map ec) 3]]=some (nZ (tN ⟨n,s,bf,e⟩)):=cf.eP (x:=dY.mk n s bf e) h λy ab=>by obtain⟨cz,cI,b7,eH⟩:=y;simpa[fH]using ab
def vk(k m:Int):Bool:=decide (1<=k)&&(decide (k<=6)&&(decide (0<=m)&&(decide (m<=4)&&decide (k+m<=8))))
theorem awn{k m:Int}:c4 Z 108 [X k,X m] (.bool (vk k m)):=by
  refine gR (ga (a0:=⟨[],[]⟩) aAI (by kernel_rfl) (by simp[FR]) ?_);by_cases B:1<=k
  · have eh:k>=1:=B;by_cases H:k<=6
    · by_cases af:0<=m
      · have g1:m>=0:=af;by_cases aL:m<=4
        · have bc:IntKind.i64.wrap (k+m)=k+m:=fo (by omega) (by omega);simp[FR,IA,IB,B,H,af,aL,bc,vk]
        · simp[FR,IA,IB,B,H,af,aL,vk]
      · have g1: ¬m>=0:=af;simp[FR,IA,IB,B,H,af,vk]
    · simp[FR,IA,IB,B,H,vk]
  · have eh: ¬k>=1:=B;simp[FR,IA,IB,B,vk]
noncomputable def VB:cf Z:= .ek 108 (Int×Int) (λ⟨k,m⟩=>True) (λ⟨k,m⟩=>[X k,X m]) (λ⟨k,m⟩=> .bool (vk k m)) (λ⟨k,m⟩ h=>awn)
@[simp] theorem aWl:VB.f=108:=rfl
@[simp] theorem aWm{k:Int}{m:Int}:VB.fn ([X k,X m])=some (.bool (vk k m)):=cf.eP (x:=(k,m)) trivial λy ab=>by obtain⟨pw,gk⟩:=y;simpa using ab
theorem awm{k m:Int}:vk k m=(eG k 1 6&&(eG m 0 4&&decide (k+m<=8))):=by simp only[vk,eG,Es]
def G3(s:j2):Bool:=eG s.b 0 8&&(eG s.c 0 8&&(eG s.d 0 8&&eG s.e 0 8))
theorem aJX{k m q:Int}{s:j2}:c4 Z 57 [X k,X m,X q,.agg #[X s.a,X s.b,X s.c,X s.d,X s.e]] (.bool (pn k m q s)):=by
  refine gR (ga (a0:=⟨[VB,v3],[]⟩) aEo (by kernel_rfl) (by simp[IZ]) ?_);have e:pn k m q s=(vk k m&&(eG q k (k+m)&&(decide (s.a=0)&&G3 s))):=by
    rw[awm];by_cases aC:s.a=0
    · simp[pn,G3,aC,show eG 0 0 8=true from rfl,Es]
    · simp[pn,G3,aC]
  rw[e];cases B:vk k m
  · simp[IZ,Nv,Nw,Nx,Ds,B]
  · have bc:IntKind.i64.wrap (k+m)=k+m:=(by simp[vk]at B;exact fo (by omega) (by omega));cases H:eG q k (k+m)
    · simp[IZ,Nv,Nw,Nx,Ds,B,H,bc]
    · by_cases af:s.a=0
      · simp[IZ,Nv,Nw,Nx,B,H,af,bc];refine hC (a0:=⟨[VB,v3],[]⟩) (λi u t=>(∀j:Nat,j<i->eG (s.at ((j:Int)+1)) 0 8=true)/\t.U 0=some ⟨[X 0,X s.b,X s.c,X s.d,X s.e],true⟩/\u 7=cb 0/\u 9=X ((i:Int)+1)) 4 ?_ ?_ 0 _ _ (hf _) ⟨by simp,by simp,by simp,by simp⟩
        · rintro i u t ag ⟨aC,aJ,c7,e4⟩ cp aZ;have et:=aO aJ;have aL:i=0\/i=1\/i=2\/i=3:=(by omega);cases K:eG (s.at ((i:Int)+1)) 0 8
          · have bg:G3 s=false:=by
              rcases aL with rfl|rfl|rfl|rfl<;>simp[j2.at]at K<;>simp[G3,K]
            rcases aL with rfl|rfl|rfl|rfl<;>simp[j2.at]at K<;>simp[TA,Ny,Ds,c7,e4,aJ,K,bg]
          · have av: ∀j:Nat,j<i+1->eG (s.at ((j:Int)+1)) 0 8=true:= λj c6=>by
              by_cases e:j=i
              · subst e;exact K
              · exact aC j (by omega)
            rcases aL with rfl|rfl|rfl|rfl<;>simp[j2.at]at K<;>simp[TA,Ny,Ds,c7,e4,aJ,K]<;>exact aZ _ _ ⟨av,aJ,by simp[c7],by simp;rfl⟩
        · rintro u t ⟨aC,aJ,c7,e4⟩;have bg:G3 s=true:=by
            have po:=aC 0 (by decide);have ez:=aC 1 (by decide);have fj:=aC 2 (by decide);have gK:=aC 3 (by decide);simp[j2.at]at po ez fj gK;simp[G3,po,ez,fj,gK]
          simp[TA,Ny,Ds,Ds,Ny,e4,bg]
      · simp[IZ,Nv,Nw,Nx,Ds,B,H,af,bc]
noncomputable def VF(n:Nat)(av:n<1000000):cf Z:= .ek 29 (List aV) (λl=> ∀x∈l,x.bD) (λl=>[dQ l,X n]) (λl=> .bool (decide (l.length=n)&&l.all λx=>x.bG.small)) λ_ h=>aJ7 h av
@[simp] theorem aXZ{n:Nat}{av:n<1000000}:(VF n av).f=29:=rfl
@[simp] theorem aX0{n:Nat}{av:n<1000000}{l:List aV}(h: ∀x∈l,x.bD):(VF n av).fn [aQ (l.map ec) 3,X n]=some (.bool (decide (l.length=n)&&l.all λx=>x.bG.small)):=cf.eP (x:=l) h λy ab=>by simpa using ab
theorem aV.dm{x:aV}(h:x.bD):0<=x.bG.n:=(ih h.1).1
theorem aJr{m:Int}(bH:0<=m)(aL:m<=4){l:List aV}(aa:(∀x∈l,x.bD)/\l.length<1000000):c4 Z 109 [dQ l,X m] (.bool (decide ((l.length:Int)=if 1>m then 1 else m)&&l.all sR)):=by
  obtain⟨n,av⟩: ∃n:Nat,(if 1>m then(1:Int)else m)=n:=⟨(if 1>m then(1:Int)else m).toNat,by split<;>omega⟩;have vx:(if m<1 then(1:Int)else m)=n:=av;have oK:n<1000000:=by split at av<;>omega
  rw[av];have iF:decide ((l.length:Int)=(n:Int))=decide (l.length=n):=by congr 1;apply propext;omega
  rw[iF];refine gR (ga (a0:=⟨[VF n oK,Eb],[]⟩) aAJ (by kernel_rfl) (by simp[Rw]) ?_);obtain⟨vu,tw⟩:=aa;cases B:(decide (l.length=n)&&l.all λx=>x.bG.small)
  · have e:(decide (l.length=n)&&l.all sR)=false:=by
      by_cases aE:l.length=n
      · simp only[aE,decide_true,oY,Kp]at B⊢;obtain⟨x,F,h⟩:=B;exact⟨x,F,by simp only[sR,bK,not_and];intro b6;exact absurd b6 h⟩
      · simp[aE]
    rw[e];simp(disch:=omega) [Rw,Zv,Zw,Zx,IC,vx,B]
  · simp(disch:=first|omega|simp only[b3];omega) [Rw,Zv,Zw,Zx,vx,B];simp only[bK,fU]at B;obtain⟨aE,B⟩:=B;have xH:decide (l.length=n)=true:=(by simp[aE]);rw[xH,oY];refine hC (a0:=⟨[VF n oK,Eb],[]⟩) (λi u t=>(l.take i).all sR=true/\u 0=dQ l/\u 5=X i) l.length ?_ ?_ 0 _ _ (hf _) ⟨by simp,by simp,by simp⟩
    · rintro i u t ag ⟨aC,b1,cv⟩ cp aZ;have F:l[i]?=some l[i]:=c0 ag;have aN:l[i]∈l:=qM ag;have bc:=e7 (n:=i) (by omega);have bn:(i:Int)<l.length:=(by omega);have Mj:=hJ.1 B _ aN;have Y3:l[i].bD/\l[i].bG.ok=true:=⟨vu _ aN,J3 Mj⟩;have cl:=aIh (aV.dm Y3.1);by_cases Y:0<l[i].bG.n
      · have Zd: ¬iI l[i].bG .nil=0:=(by rw[cl];exact λh=>h Y);simp(disch:=first|omega|simp only[b3];omega) [Rx,ME,IC,b1,cv,bn,bc,ec,Zd];exact aZ _ _ ⟨by rw[l6 F,xt,aC];simp[sR,Mj,Y],by simp[b1],by simp⟩
      · have Zd:iI l[i].bG .nil=0:=(by rw[cl];exact Y);simp(disch:=omega) [Rx,ME,IC,b1,cv,bn,ec,Zd];exact⟨_,aN,by simp[sR,Y]⟩
    · rintro u t ⟨aC,b1,cv⟩;rw[kM]at aC;simp[Rx,ME,IC,b1,cv,IC,ME];simpa using aC
theorem ah8(a b:Int):ix a b= -ix b a:=by unfold ix;split<;>split<;>(try split)<;>omega
theorem aIg(x y:bp):iI x y= -iI y x:=by
  unfold iI;cases(x.bQ&&decide (x.n≠0))<;>cases(y.bQ&&decide (y.n≠0))<;>simp
  · exact ah8 _ _
  · exact ah8 _ _
theorem aAr:x7 1= .hS:=rfl
noncomputable def afO(o:aV)(h:c4 Z 33 [X 1] (eV o)):cf Z:= .ek 33 Unit (λ_=>True) (λ_=>[X 1]) (λ_=>eV o) λ_ _=>h
@[simp] theorem aWM{o:aV}{h:c4 Z 33 [X 1] (eV o)}:(afO o h).f=33:=rfl
@[simp] theorem aWN{o:aV}{h:c4 Z 33 [X 1] (eV o)}:(afO o h).fn [X 1]=some (eV o):=cf.eP (x:=()) trivial λ_ _=>rfl
noncomputable def afS(o:aV)(h: ∀x:aV,(x.bD/\x.bG.ok=true)->c4 Z 110 [eV o,eV x] (.bool (!sJ x.bG))):cf Z:= .ek 110 aV (λx=>x.bD/\x.bG.ok=true) (λx=>[eV o,eV x]) (λx=> .bool (!sJ x.bG)) h
@[simp] theorem aWU{o:aV}{h: ∀x:aV,(x.bD/\x.bG.ok=true)->c4 Z 110 [eV o,eV x] (.bool (!sJ x.bG))}:(afS o h).f=110:=rfl
@[simp] theorem aWV{o:aV}{h: ∀x:aV,(x.bD/\x.bG.ok=true)->c4 Z 110 [eV o,eV x] (.bool (!sJ x.bG))}{n:Bool}{a b:List Int}(F:(aV.mk n a b).bD/\(aV.mk n a b).bG.ok=true):(afS o h).fn [.agg #[.bool o.bQ,dy o.a,dy o.b],.agg #[.bool n,dy a,dy b]]=some (.bool (!sJ (aV.mk n a b).bG)):=
  cf.eP (x:=aV.mk n a b) F λy ab=>by obtain⟨cz,cI,b7⟩:=y;simpa[ec]using ab
theorem aGO(x:aV)(F:x.bD/\x.bG.ok=true):c4 Z 110 [eV (qQ .hS),eV x] (.bool (!sJ x.bG)):=by
  have h:=aJN aqB F.1 (by rw[aeB];exact GL) F.2;have e:decide (iI (qQ .hS).bG x.bG<0)= !sJ x.bG:=by
    rw[aeB,sJ,F.2,aIg,oY];by_cases Y:iI x.bG .hS<=0
    · simp[Y]<;>omega
    · simp[Y]<;>omega
  rw[<-e];exact h
noncomputable def agf(m:Int)(h:0<=m/\m<=4):cf Z:= .ek 109 (List aV) (λl=>(∀x∈l,x.bD)/\l.length<1000000) (λl=>[dQ l,X m]) (λl=> .bool (decide ((l.length:Int)=if 1>m then 1 else m)&&l.all sR)) λ_ aa=>aJr h.1 h.2 aa
@[simp] theorem aYd{m:Int}{h:0<=m/\m<=4}:(agf m h).f=109:=rfl
@[simp] theorem aYe{m:Int}{h:0<=m/\m<=4}{l:List aV}(aa:(∀x∈l,x.bD)/\l.length<1000000):(agf m h).fn [aQ (l.map ec) 3,X m]=some (.bool (decide ((l.length:Int)=if 1>m then 1 else m)&&l.all sR)):=cf.eP (x:=l) aa λy ab=>by simpa using ab
theorem awK{o:aV}(ah:c4 Z 33 [X 1] (eV o))(aE: ∀x:aV,(x.bD/\x.bG.ok=true)->c4 Z 110 [eV o,eV x] (.bool (!sJ x.bG))){m:Int}(aN:0<=m/\m<=4){r:List aV}{t h:aV}(aH:(∀x∈r,x.bD)/\r.length<1000000)(bm:t.bD)(a6:h.bD):
    c4 Z 58 [X m,dQ r,eV t,eV h] (.bool (rk m r t h)):=by
  refine gR (ga (a0:=⟨[agf m aN,VE,afO o ah,afS o aE],[]⟩) aEp (by kernel_rfl) (by simp[I0]) ?_);have e:rk m r t h=((decide ((r.length:Int)=if 1>m then 1 else m)&&r.all sR)&&(t.bG.small&&(sJ t.bG&&h.bG.small))):=by unfold rk;rw[Es]
  rw[e];cases B:(decide ((r.length:Int)=if 1>m then 1 else m)&&r.all sR)
  · simp(disch:=omega) [I0,Nz,NA,ec,B]
  · cases H:t.bG.small
    · simp(disch:=first|omega|simp only[b3];omega) [I0,Nz,NA,ec,B,H]
    · have aR2:t.bD/\t.bG.ok=true:=⟨bm,J3 H⟩;cases af:sJ t.bG
      · simp(disch:=first|omega|simp only[b3];omega) [I0,Nz,NA,ec,B,H,af]
      · simp(disch:=first|omega|simp only[b3];omega) [I0,Nz,NA,ec,B,H,af]
theorem awJ{m:Int}(aN:0<=m/\m<=4){r:List aV}{t h:aV}(aH:(∀x∈r,x.bD)/\r.length<1000000)(bm:t.bD)(a6:h.bD):c4 Z 58 [X m,dQ r,eV t,eV h] (.bool (rk m r t h)):=
  awK (o:=qQ .hS) (by have:=ari (n:=1) (by decide) (by decide);rw[aAr]at this;exact this) aGO aN aH bm a6
def DK(L:Int)(l:List l8):Option Int:=(l.reverse.find? λx=>decide (x.g3<L)).map (·.g3)
theorem aGC{L:Int}:DK L []=none:=rfl
theorem DL{L:Int}{l:List l8}{x:l8}:DK L (l++[x])=if x.g3<L then some x.g3 else DK L l:=by simp only[DK,List.reverse_append,List.reverse_cons,List.reverse_nil,xv,List.singleton_append,List.find?_cons];by_cases h:x.g3<L<;>simp[h]
structure yN(cj:List l8)(jd qy:j2):Prop where
  a:jd.a=0
  UN: ∀x∈cj,eG x.g3 1 5=true
  b:0<=jd.b↔DK 2 cj=some 1
  c:0<=jd.c↔DK 3 cj=some 2
  d:0<=jd.d↔DK 4 cj=some 3
  e:0<=jd.e↔DK 5 cj=some 4
  tT:qy.a=0
  fE:0<=jd.b->qy.b=jd.b
  GQ:0<=jd.c->qy.c=jd.c
  l3:0<=jd.d->qy.d=jd.d
  ae7:0<=jd.e->qy.e=jd.e
theorem yN.init:yN [] ⟨0,-1,-1,-1,-1⟩ ⟨0,0,0,0,0⟩:=by refine⟨rfl,λ_ h=>(by cases h),?_,?_,?_,?_,rfl,?_,?_,?_,?_⟩<;>simp[aGC]
theorem rT{a b c:Int}:eG a b c=true↔b<=a/\a<=c:=by simp[eG]
theorem axl{L:Int}(h:eG L 1 5=true):L=1\/L=2\/L=3\/L=4\/L=5:=by rw[rT]at h;omega
theorem yN.parent{cj:List l8}{jd qy:j2}(h:yN cj jd qy){L:Int}(fh:eG L 1 5=true)(bH:0<=jd.at (L-1)):qy.at (L-1)=jd.at (L-1):=by
  rcases axl fh with rfl|rfl|rfl|rfl|rfl<;>simp[j2.at,h.a,h.tT]at bH⊢
  · exact h.fE bH
  · exact h.GQ bH
  · exact h.l3 bH
  · exact h.ae7 bH
theorem yN.Xi{cj:List l8}{jd qy:j2}(h:yN cj jd qy){x:l8}(F:x.g3=5):yN (cj++[x]) jd qy where
  a:=h.a
  UN y ab:=by
    rcases mM.1 ab with ab|ab
    · exact h.UN y ab
    · simp at ab;subst ab;rw[F];rfl
  b:=by rw[DL,F];exact h.b
  c:=by rw[DL,F];exact h.c
  d:=by rw[DL,F];exact h.d
  e:=by rw[DL,F];exact h.e
  tT:=h.tT
  fE:=h.fE
  GQ:=h.GQ
  l3:=h.l3
  ae7:=h.ae7
def _root_.Go.Big.j2.O7(s:j2)(i v:Int):j2:=if i=0 then{s with a:=v}else if i=1 then{s with b:=v}else if i=2 then{s with c:=v}else if i=3 then{s with d:=v}else{s with e:=v}
theorem yN.qU{cj:List l8}{jd qy:j2}(h:yN cj jd qy){x:l8}{n:Int}(av:0<=n)(F:eG x.g3 1 4=true):yN (cj++[x]) (jd.an x.g3 n) (qy.O7 x.g3 n):=by
  have xZ: ∀y∈cj++[x],eG y.g3 1 5=true:= λy ab=>by
    rcases mM.1 ab with ab|ab
    · exact h.UN y ab
    · simp at ab;subst ab;rw[rT]at F⊢;omega
  have aL:x.g3=1\/x.g3=2\/x.g3=3\/x.g3=4:=by rw[rT]at F;omega
  rcases aL with e|e|e|e
  · refine⟨?_,xZ,?_,?_,?_,?_,?_,?_,?_,?_,?_⟩<;>simp[j2.an,j2.O7,e,DL,h.a,h.tT,av]
  · refine⟨?_,xZ,?_,?_,?_,?_,?_,?_,?_,?_,?_⟩<;>simp[j2.an,j2.O7,e,DL,h.a,h.tT,av,h.b];intro q;exact h.fE (h.b.2 q)
  · refine⟨?_,xZ,?_,?_,?_,?_,?_,?_,?_,?_,?_⟩<;>simp[j2.an,j2.O7,e,DL,h.a,h.tT,av,h.b,h.c]
    · intro q;exact h.fE (h.b.2 q)
    · intro q;exact h.GQ (h.c.2 q)
  · refine⟨?_,xZ,?_,?_,?_,?_,?_,?_,?_,?_,?_⟩<;>simp[j2.an,j2.O7,e,DL,h.a,h.tT,av,h.b,h.c,h.d]
    · intro q;exact h.fE (h.b.2 q)
    · intro q;exact h.GQ (h.c.2 q)
    · intro q;exact h.l3 (h.d.2 q)
def ed{α:Type}(f:Nat->α)(i:Nat)(v:α):Nat->α:= λk=>if k=i then v else f k
@[simp] theorem ua{α:Type}{f:Nat->α}{i:Nat}{v:α}:ed f i v i=v:=by simp[ed]
theorem ny{α:Type}{f:Nat->α}{i k:Nat}{v:α}(h:k≠i):ed f i v k=f k:=by simp[ed,h]
def e3(l:List ByteArray):List Value:=(l.map λs=>[ei s]).flatten
def Hw(s:pD)(ax:n3)(bE:Nat->Nat):Nat->List Value
  |0=>jQ s
  |1=>aHO
  |2=>[X 0,X 0]
  |3=>[X s.ext,.slice (some ⟨bE 4,0,none⟩) ax.bO.length 4,.slice (some ⟨bE 5,0,none⟩) ax.aR.length 4,.slice (some ⟨bE 6,0,none⟩) ax.br.length 7,.slice (some ⟨bE 7,0,none⟩) ax.c5.length 3,.slice (some ⟨bE 8,0,none⟩) ax.bT.length 17,.slice (some ⟨bE 9,0,none⟩) ax.cP.length 2]
  |4=>(ax.bO.map fH).flatten
  |5=>(ax.aR.map hD).flatten
  |6=>(ax.br.map eL).flatten
  |7=>(ax.c5.map hO).flatten
  |8=>(ax.bT.map eR).flatten
  |9=>(ax.cP.map iy).flatten
  |10=>e3 ax.nM
  |11=>e3 ax.nP
  |12=>e3 ax.qA
  |13=>e3 ax.oT
  |_=>e3 ax.m8
structure yO(s:pD)(ax:n3)(bE:Nat->Nat)(u:aM)(t:E):Prop where
  g: ∀k,k<15->t.U (bE k)=some ⟨Hw s ax bE k,true⟩
  inj: ∀i j,i<15->j<15->bE i=bE j->i=j
  aw:u 1=cb (bE 0)
  bR:u 2=cb (bE 1)
  fv:u 4=cb (bE 2)
  ch:u 8=cb (bE 3)
  e4:u 9= .slice (some ⟨bE 10,0,none⟩) ax.bO.length 1
  jE:u 10= .slice (some ⟨bE 11,0,none⟩) ax.aR.length 1
  hc:u 11= .slice (some ⟨bE 12,0,none⟩) ax.qA.length 1
  kA:u 12= .slice (some ⟨bE 13,0,none⟩) ax.bT.length 1
  iJ:u 13= .slice (some ⟨bE 14,0,none⟩) ax.cP.length 1
theorem yO.fa{s:pD}{ax:n3}{bE:Nat->Nat}{u:aM}{t:E}(h:yO s ax bE u t){k:Nat}(aa:k<15):bE k<t.next:=aO (h.g k aa)
theorem yO.rZ{s:pD}{ax:n3}{bE:Nat->Nat}{u:aM}{t:E}(h:yO s ax bE u t)(i j:Nat)(ag:i<15)(c6:j<15)(tv:i≠j):bE i≠bE j:= λe=>tv (h.inj i j ag c6 e)
theorem yO.step{s:pD}{ax yP:n3}{bE:Nat->Nat}{u ae:aM}{t bu:E}(h:yO s ax bE u t)(x y:Nat){cM dq:Nat}(F:4<=x/\x<10)(ab:10<=y/\y<15)(uD:t.next<=cM)(oH:t.next<=dq)(K:cM≠dq)
    (bG: ∀k,k<15->k≠3->k≠x->k≠y->bu.U (bE k)=t.U (bE k))
    (aK: ∀k,k<15->k≠3->k≠x->k≠y->Hw s yP (ed (ed bE x cM) y dq) k=Hw s ax bE k)
    (cD:bu.U (bE 3)=some ⟨Hw s yP (ed (ed bE x cM) y dq) 3,true⟩) (AY:bu.U cM=some ⟨Hw s yP (ed (ed bE x cM) y dq) x,true⟩) (ax7:bu.U dq=some ⟨Hw s yP (ed (ed bE x cM) y dq) y,true⟩)
    (aw:ae 1=cb (bE 0)) (bR:ae 2=cb (bE 1)) (fv:ae 4=cb (bE 2)) (ch:ae 8=cb (bE 3)) (e4:ae 9= .slice (some ⟨ed bE y dq 10,0,none⟩) yP.bO.length 1) (jE:ae 10= .slice (some ⟨ed bE y dq 11,0,none⟩) yP.aR.length 1)
    (hc:ae 11= .slice (some ⟨ed bE y dq 12,0,none⟩) yP.qA.length 1) (kA:ae 12= .slice (some ⟨ed bE y dq 13,0,none⟩) yP.bT.length 1) (iJ:ae 13= .slice (some ⟨ed bE y dq 14,0,none⟩) yP.cP.length 1):yO s yP (ed (ed bE x cM) y dq) ae bu:=by
  have iF: ∀k,k≠x->k≠y->ed (ed bE x cM) y dq k=bE k:= λk B H=>by rw[ny H,ny B]
  have mS:ed (ed bE x cM) y dq x=cM:=by rw[ny (by omega),ua]
  have AR:ed (ed bE x cM) y dq y=dq:=ua;have aX: ∀k,10<=k->ed (ed bE x cM) y dq k=ed bE y dq k:= λk aa=>by
    by_cases Yu:k=y
    · subst Yu;simp
    · rw[ny Yu,ny Yu,ny (by omega)]
  refine⟨λk aa=> ?_,λi j ag c6 tv=> ?_,?_,?_,?_,?_,?_,?_,?_,?_,?_⟩
  · by_cases af:k=3
    · subst af;rw[iF 3 (by omega) (by omega)];exact cD
    · by_cases B:k=x
      · subst B;rw[mS];exact AY
      · by_cases H:k=y
        · subst H;rw[AR];exact ax7
        · rw[iF k B H,aK k aa af B H,bG k aa af B H];exact h.g k aa
  · have fa: ∀k,k<15->k≠x->k≠y->ed (ed bE x cM) y dq k<t.next:= λk aa B H=>by rw[iF k B H];exact h.fa aa
    by_cases rS:i=x
    · by_cases Bz:j=x
      · omega
      · by_cases BA:j=y
        · rw[rS,BA,mS,AR]at tv;exact absurd tv K
        · have:=fa j c6 Bz BA;rw[<-tv,rS,mS]at this;omega
    · by_cases tF:i=y
      · by_cases Bz:j=x
        · rw[tF,Bz,mS,AR]at tv;exact absurd tv.symm K
        · by_cases BA:j=y
          · omega
          · have:=fa j c6 Bz BA;rw[<-tv,tF,AR]at this;omega
      · by_cases Bz:j=x
        · have:=fa i ag rS tF;rw[tv,Bz,mS]at this;omega
        · by_cases BA:j=y
          · have:=fa i ag rS tF;rw[tv,BA,AR]at this;omega
          · rw[iF i rS tF,iF j Bz BA]at tv;exact h.inj i j ag c6 tv
  · rw[iF 0 (by omega) (by omega)];exact aw
  · rw[iF 1 (by omega) (by omega)];exact bR
  · rw[iF 2 (by omega) (by omega)];exact fv
  · rw[iF 3 (by omega) (by omega)];exact ch
  · rw[aX 10 (by omega)];exact e4
  · rw[aX 11 (by omega)];exact jE
  · rw[aX 12 (by omega)];exact hc
  · rw[aX 13 (by omega)];exact kA
  · rw[aX 14 (by omega)];exact iJ
def aLr:List Nat:=[1,2,4,8,9,10,11,12,13]
theorem yO.kD{s:pD}{ax:n3}{bE:Nat->Nat}{u ae:aM}{t bu:E}(h:yO s ax bE u t)(M: ∀k∈aLr,ae k=u k)(bm: ∀b,b<t.next->bu.U b=t.U b):yO s ax bE ae bu:=
  ⟨λk aa=>by rw[bm _ (h.fa aa)];exact h.g k aa,h.inj,(M 1 (by decide)).trans h.aw,(M 2 (by decide)).trans h.bR,(M 4 (by decide)).trans h.fv,(M 8 (by decide)).trans h.ch,(M 9 (by decide)).trans h.e4,(M 10 (by decide)).trans h.jE,(M 11 (by decide)).trans h.hc,(M 12 (by decide)).trans h.kA,(M 13 (by decide)).trans h.iJ⟩
theorem Oo{l:List ByteArray}: ∀r∈l.map (λs=>[ei s]),r.length=1/\ ∀v∈r,il v=true:= λr aH=>by obtain⟨x,_,rfl⟩:=iK.1 aH;exact⟨rfl,λv S=>by simp at S;subst S;rfl⟩
theorem JK{l:List ByteArray}{n:Nat}(av:l.length=n):(∀t,gV (gV (DI.eg 8 t)) (n5 1 n (e3 l))=some (l.map λs=>[ei s]))/\(∀t,(e3 l).flatMap (gd 8 t)=[])/\(e3 l).length=n:=by
  have cl: ∀r∈l.map (λs=>[ei s]),r.length=1:= λr h=>(Oo r h).1;have af:(e3 l).length=n:=by rw[e3,CH cl,jZ,av,Nat.mul_one]
  refine⟨λt=> ?_,λt=>aq9 λv S=> ?_,af⟩
  · have:=W9 cl;rw[jZ,av]at this;rw[e3,this];exact GM λr h=>GM λv S=>y4 ((Oo r h).2 v S)
  · obtain⟨r,aH,qn⟩:=List.mem_flatten.1 S;exact(Oo r aH).2 v qn
theorem BN{l:List ByteArray}{s:ByteArray}:e3 (l++[s])=e3 l++[ei s]:=by simp[e3]
noncomputable def agc:cf Z:= .ek 10 dY dY.bD (λx=>[nZ x]) (λx=> .bool x.oj) λ_ h=>aKK h
@[simp] theorem aX5:agc.f=10:=rfl
@[simp] theorem aX6{n:ByteArray}{s e:List aV}{bf:List (List aV)}(h:(dY.mk n s bf e).bD):agc.fn [.agg #[ei n,aQ (s.map ec) 3,aQ (bf.map λr=>[dQ r]) 1,aQ (e.map ec) 3]]=some (.bool (dY.mk n s bf e).oj):=cf.eP (x:=dY.mk n s bf e) h λy ab=>ag3 ab
end Go.Proofs.YtkpifdkccdndcaaGreat
namespace Go.DI
open Go Go.RowKit
section
variable {P:Program} {a0:si P} {t:E} {u:aM} {c:J} {Q:dp->aM->E->Prop}
theorem ata{o p j O:Nat}{bW:List (List Value)}{cells:List Value}(ah:t.U o=some ⟨bW.flatten,true⟩)(aH: ∀r∈bW,r.length=O/\ ∀v∈r,il v=true)
    (Y:t.U p=some ⟨cells,true⟩) (c6:cells[j]?=some (.slice (some ⟨o,0,none⟩) bW.length O)) (dE:o≠p) (h:gD P c u ((t.an o none).an p (some ⟨cells.set j (aQ bW O),true⟩)) Q):gD P c u t Q:= λaA W z ae m M cL=>by
  obtain⟨lx,bM,dL,fp⟩:=aiO M ah aH Y c6 dE;refine(h aA W lx ae m fp (cL.aD bM (h7.refl _))).aD λe aw bo a6=> ?_;obtain⟨e5,gS,ev,ks,B,H,af,aL⟩:=a6;have gO: ∀q x,((t.an o none).an p (some ⟨cells.set j (aQ bW O),true⟩)).U q=some x-> ∃y,t.U q=some y/\(x.own=true->y.own=true):= λq x F=>by
    by_cases aX:q=p
    · subst aX;exact⟨_,Y,λ_=>rfl⟩
    · by_cases bg:q=o
      · subst bg;exact⟨_,ah,λ_=>rfl⟩
      · rw[dC aX,dC bg]at F;exact⟨x,F,λh=>h⟩
  have cD:bp t.next m.next W z t m W lx ((t.an o none).an p (some ⟨cells.set j (aQ bW O),true⟩)) m:=by
    refine⟨h7.refl _,bM,λ_ _ h=> .inl h,λb cs K=> ?_,by simp,eB _,λ_ _ _=>rfl,λb K ⟨q,x,bC,cq,cZ⟩=> ?_,λb K ⟨q,x,bC,cq⟩=> ?_⟩
    · rcases dL b cs K with cm|cm
      · exact .inl cm
      · exact .inr (.inr ⟨o,_,cm,ah⟩)
    · obtain⟨y,ab,FI⟩:=gO q x cq;exact⟨q,y,bC,ab,FI cZ⟩
    · obtain⟨y,ab,_⟩:=gO q x cq;exact⟨q,y,bC,ab⟩
  exact⟨e5,gS,ev,ks,B,H,af,cD.trans (aL.Hd cD.ov (eB _))⟩
def att(X:aM->E->Prop)(u:aM)(t:E):Prop:= ∃(o p j O:Nat) (bW:List (List Value)) (cells:List Value),t.U o=some ⟨bW.flatten,true⟩/\(∀r∈bW,r.length=O/\ ∀v∈r,il v=true)/\t.U p=some ⟨cells,true⟩/\
  cells[j]?=some (.slice (some ⟨o,0,none⟩) bW.length O)/\o≠p/\X u ((t.an o none).an p (some ⟨cells.set j (aQ bW O),true⟩))
theorem as9(X:Nat->aM->E->Prop)(n:Nat)(step: ∀i u t,i<n->X i u t-> ∀cp:aM->E->Prop,(∀ae bu,att (X (i+1)) ae bu->cp ae bu)->lb a0 c u t (ym cp Q))
    (ad2: ∀u t,X n u t->lb a0 c u t (ym (λ_ _=>False) Q)): ∀(i:Nat) (u:aM) (t:E),i<=n->X i u t->gD P (.loop c) u t Q:=by
  have key: ∀(r i:Nat) (u:aM) (t:E),i+r=n->X i u t->gD P (.loop c) u t Q:=by
    intro r;induction r with
    | zero=>
      intro i u t ag xQ;have e:i=n:=(by omega);subst e;refine ru (a0:=a0) λcp aZ=> ?_;have B:=ad2 u t xQ;refine EM B λe u t h=> ?_;cases e with
      |gu=>exact h.elim
      |bw id=>exact h
      |aT=>exact h
    | succ r cB=>intro i u t ag xQ;exact ru (a0:=a0) λcp aZ=>step i u t (by omega) xQ cp λae bu ⟨o,p,j,O,bW,cells,bh,bt,c1,e0,hK,h3⟩=>aZ _ _ (ata bh bt c1 e0 hK (cB (i+1) ae _ (by omega) h3))
  exact λi u t ag xQ=>key (n-i) i u t (by omega) xQ
end
end Go.DI
namespace Go.Proofs.YtkpifdkccdndcaaGreat
open Go Go.DI Go.Big
noncomputable def agb:cf Z:= .ek 57 (Int×Int×Int×j2) (λ_=>True) (λp=>[X p.1,X p.2.1,X p.2.2.1,.agg #[X p.2.2.2.a,X p.2.2.2.b,X p.2.2.2.c,X p.2.2.2.d,X p.2.2.2.e]]) (λp=> .bool (pn p.1 p.2.1 p.2.2.1 p.2.2.2)) λ_ _=>aJX
@[simp] theorem aXP:agb.f=57:=rfl
@[simp] theorem aXQ{k m q a b c d e:Int}:agb.fn [X k,X m,X q,.agg #[X a,X b,X c,X d,X e]]=some (.bool (pn k m q ⟨a,b,c,d,e⟩)):=cf.eP (x:=(k,m,q,(⟨a,b,c,d,e⟩:j2))) trivial λy ab=>by obtain⟨gk,h6,px,s4,xn,He,Wh,Wi⟩:=y;simp at ab;obtain⟨B,H,af,aL,cm,dK,hh,iV⟩:=ab;simp[B,H,af,aL,cm,dK,hh,iV]
noncomputable def af7:cf Z:= .ek 58 (Int×List aV×aV×aV) (λp=>(0<=p.1/\p.1<=4)/\((∀x∈p.2.1,x.bD)/\p.2.1.length<1000000)/\p.2.2.1.bD/\p.2.2.2.bD) (λp=>[X p.1,dQ p.2.1,eV p.2.2.1,eV p.2.2.2]) (λp=> .bool (rk p.1 p.2.1 p.2.2.1 p.2.2.2)) λ_ h=>awJ h.1 h.2.1 h.2.2.1 h.2.2.2
@[simp] theorem aXF:af7.f=58:=rfl
@[simp] theorem aXG{m:Int}{r:List aV}{n cz:Bool}{a b cI b7:List Int}(h:(0<=m/\m<=4)/\((∀x∈r,x.bD)/\r.length<1000000)/\(aV.mk n a b).bD/\(aV.mk cz cI b7).bD):af7.fn [X m,aQ (r.map ec) 3,.agg #[.bool n,dy a,dy b],.agg #[.bool cz,dy cI,dy b7]]=some (.bool (rk m r ⟨n,a,b⟩ ⟨cz,cI,b7⟩)):=cf.eP (x:=(m,r,(⟨n,a,b⟩:aV),(⟨cz,cI,b7⟩:aV))) h λy ab=>by obtain⟨gk,h6,⟨px,s4,xn⟩,⟨He,Wh,Wi⟩⟩:=y;simp[ec]at ab;obtain⟨B,H,⟨af,aL,cm⟩,dK,hh,iV⟩:=ab;simp[B,H,af,aL,cm,dK,hh,iV]
theorem Wd{P:Program}{c:J}{u:aM}{t:E}{Q:dp->aM->E->Prop}{o j:Nat}(O:Nat){cs:List Value}(ah:t.U o=some ⟨cs,true⟩)(c6:cs[j]?=some (.slice none 0 0))
    (h: ∀bu,bu.next=t.next+1->bu.U o=some ⟨cs.set j (.slice (some ⟨t.next,0,none⟩) 0 O),true⟩->bu.U t.next=some ⟨[],true⟩->(∀a,a<t.next->a≠o->bu.U a=t.U a)->gD P c u bu Q):gD P c u t Q:=by
  have cK:=aO ah;refine ahe (O:=O) ah c6 (h _ (by simp) (cW (by simp;omega)) (by rw[dC (by omega),cW (by simp)]) (λa F av=> ?_));rw[dC av,dC (by omega),E.gm]
theorem aAo:c4 Z 33 [X 0] (eV ⟨false,bL 0,bL 1⟩):=ari (n:=0) (by decide) (by decide)
noncomputable def afN:cf Z:= .ek 33 Unit (λ_=>True) (λ_=>[X 0]) (λ_=>eV ⟨false,bL 0,bL 1⟩) λ_ _=>aAo
@[simp] theorem aWK:afN.f=33:=rfl
@[simp] theorem aWL:afN.fn [X 0]=some (eV ⟨false,bL 0,bL 1⟩):=cf.eP (x:=()) trivial λ_ _=>rfl
theorem Kk{P:Program}{c:J}{u:aM}{t:E}{Q:dp->aM->E->Prop}(d O:Nat)(ay:u d= .slice none 0 0)(h: ∀bu,bu.next=t.next+1->bu.U t.next=some ⟨[],true⟩->(∀a,a<t.next->bu.U a=t.U a)->gD P c (p4 u d (.slice (some ⟨t.next,0,none⟩) 0 O)) bu Q):gD P c u t Q:=
  ahd (d:=d) (O:=O) ay (h _ (by simp) (cW (by simp)) λa aC=>by rw[dC (by omega),E.gm])
end Go.Proofs.YtkpifdkccdndcaaGreat
namespace Go.Big
end Go.Big
namespace Go.Proofs.YtkpifdkccdndcaaGreat
open Go Go.DI Go.Big
theorem aIi(x:bp):iI x x=0:=by unfold iI;cases(x.bQ&&decide (x.n≠0))<;>simp[ix]
end Go.Proofs.YtkpifdkccdndcaaGreat
namespace Go.Big
section
variable {x:bp}
end
end Go.Big
namespace Go.Proofs.YtkpifdkccdndcaaGreat
open Go Go.DI Go.Big
theorem aV.vS{x:aV}(h:x.bD):0<=x.bG.n:=(ih h.1).1
theorem aG8{x:aV}(h:x.bD)(ah:x.bG.ok=true):(hE x).bG=g4 x.bG/\(hE x).bD:=by
  have av:=aV.vS h;obtain⟨B,H,af⟩:=bp.rj.1 ah;have fP:=JB av B;have dX:=Gx (x:=x.bG) B;have Y:a3 128<a3 512:=z4;have e:(rl x.bG).2=g4 x.bG:=by rw[JS ah av]
  unfold hE;rw[e];exact⟨W4 fP.1 (by omega),KX fP.1 (by omega) (by omega) (by omega)⟩
structure Xf(ds:List gp)(i:Nat)(d:gp):Prop where
  po:0<=d.parent
  ez:d.parent<=i
  fj: ∃q,ds[d.parent.toNat]?=some q/\q.g3=d.g3-1
  UN:eG d.g3 1 4=true
  xj:eG d.xj 1 64=true
  bD:d.ju.bD
  sZ:d.ju.bG.small=true
structure Xj(ds:List gp)(n:Nat)(d:pB):Prop where
  dv:0<=d.model
  bo:d.model<n
  po:0<=d.q9
  fj: ∃q,ds[d.q9.toNat]?=some q/\q.g3=4
end Go.Proofs.YtkpifdkccdndcaaGreat
namespace Go.Big
end Go.Big
namespace Go.Proofs.YtkpifdkccdndcaaGreat
open Go Go.DI Go.Big
theorem ai6{α:Type}{l:List α}{x:α}{i:Nat}{y:α}(h:l[i]?=some y):(l++[x])[i]?=some y:=by rw[yE (dg.1 h).1];exact h
theorem Xf.aD{ds:List gp}{i:Nat}{d x:gp}(h:Xf ds i d):Xf (ds++[x]) i d:=by obtain⟨bH,B,⟨q,H,af⟩,aL,cm,dK,hh⟩:=h;exact⟨bH,B,⟨q,ai6 H,af⟩,aL,cm,dK,hh⟩
theorem Xj.aD{ds:List gp}{n:Nat}{d:pB}{x:gp}(h:Xj ds n d):Xj (ds++[x]) n d:=by obtain⟨bH,B,H,⟨q,af,aL⟩⟩:=h;exact⟨bH,B,H,⟨q,ai6 af,aL⟩⟩
def k8(x:hr)(n:Nat):Bool:=pn x.k x.m x.q x.a0&&(!x.aR.isEmpty&&(rk x.m x.hz x.kU x.eS&&((x.aR.all λm=>eG m 0 ((n:Int)-1))&&decide x.aR.Nodup)))
structure hr.dP(x:hr):Prop where
  iw:(∀y∈x.hz,y.bD)/\x.hz.length<1000000
  a0Z:x.kU.bD
  a0z:x.eS.bD
  len:x.aR.length<1000000
theorem aHX{l:List Int}(h:l.Nodup){i:Nat}(ag:i<l.length):l[i]∉l.take i:= λaN=>by
  obtain⟨j,c6,a2⟩:=s7 aN;rw[List.getElem_take]at a2;have A3:j<i:=by rw[k9]at c6;omega
  exact(List.pairwise_iff_getElem.1 h j i (by omega) ag A3) a2
theorem aMv{x:hr}{n:Nat}(av:n<1000000)(h:hr.dP x):c4 Z 64 [.agg (eR x).toArray,X n] (.bool (k8 x n)):=by
  refine gR (ga (a0:=⟨[af2,age],[]⟩) aEw (by kernel_rfl) (by simp[I6]) ?_);obtain⟨aL,cm,dK,mf⟩:=h;cases B:pn x.k x.m x.q x.a0
  · have ar:k8 x n=false:=(by simp[k8,B]);simp[I6,NF,NG,NH,NI,Bs,eR,B,ar]
  by_cases kl:x.aR.length=0
  · have mz:(x.aR.length:Int)=0:=(by omega);have ar:k8 x n=false:=by
      have:x.aR.isEmpty=true:=(by rw[Ws];exact kl);simp[k8,this]
    simp[I6,NF,NG,NH,NI,Bs,eR,B,kl,ar]
  have mz: ¬(x.aR.length:Int)=0:=by omega
  have Ie:((∀y∈x.hz,y.bD)/\x.hz.length<1000000)/\x.kU.bD/\x.eS.bD:=⟨aL,cm,dK⟩;cases af:rk x.m x.hz x.kU x.eS
  · have ar:k8 x n=false:=(by simp[k8,af]);simp(disch:=first|omega|simp only[b3];omega) [I6,NF,NG,NH,NI,Bs,eR,B,af,kl,ar]
  have ay8:(n:Int)*1<=140737488355328/\n<=140737488355328/\(n:Int)<=140737488355328/\(n:Int)<=9223372036854775807:=by omega
  have Ye:x.aR.isEmpty=false:=by
    cases bz:x.aR.isEmpty
    · rfl
    · rw[Ws]at bz;exact absurd bz kl
  have YZ:k8 x n=((x.aR.all λm=>eG m 0 ((n:Int)-1))&&decide x.aR.Nodup):=by simp[k8,B,af,Ye]
  simp(disch:=first|omega|simp only[b3];omega) [I6,NF,NG,NH,NI,eR,B,af,kl,ay8,-ao,-aB,-ai,-au,-List.map_map];refine hC (a0:=⟨[vZ],[]⟩) (λi u t=> ∃a9:List Bool,a9.length=n/\(∀j:Nat,j<n->a9[j]?=some (decide ((j:Int)∈x.aR.take i)))/\((x.aR.take i).all λm=>eG m 0 ((n:Int)-1))=true/\(x.aR.take i).Nodup/\t.U 3=some ⟨a9.map Value.bool,true⟩/\u 1=X n/\u 5= .slice (some ⟨3,0,none⟩) n 1/\u 39=lS x.aR/\u 40=X x.aR.length/\u 41=X i) x.aR.length ?_ ?_ 0 _ _ (hf _) ⟨List.replicate n false,by simp,λj c6=>by simp[c6],by simp,by simp,by simp(disch:=first|omega|simp only[b3];omega) [-ao,-aB,-ai,-au,-List.map_map],by simp,by simp,by simp,by simp,by simp⟩
  · rintro i u t ag ⟨a9,LL,dt,gf,lp,QQ,aw,cv,qH,yv,B3⟩ cp aZ;have F:x.aR[i]?=some x.aR[i]:=c0 ag;have bc:=e7 (n:=i) (by omega);have da:IntKind.i64.wrap ((n:Int)-1)=(n:Int)-1:=fo (by omega) (by omega);have bn:(i:Int)<x.aR.length:=(by omega);cases wG:eG x.aR[i] 0 ((n:Int)-1)
    · have ar:k8 x n=false:=by
        rw[YZ,Hl];exact .inl (by rw[Kp];exact⟨_,qM ag,by simp[wG]⟩)
      simp(disch:=omega) [NJ,I7,I8,I9,Bs,aw,qH,yv,B3,bn,da,wG,ar]
    have ajJ:=rT.1 wG;obtain⟨aU,jb⟩:=xp ajJ.1;rw[jb]at wG ajJ;have oG:aU<n:=(by omega);have ajg:(aU:Int)<(n:Int):=(by omega);have ajh:aU+1<=n:=oG;have akq:x.aR[i]?=some (aU:Int):=(by rw[F,jb]);have aT6:=aO QQ;by_cases aN:(aU:Int)∈x.aR.take i
    · have X2:a9[aU]?=some true:=(by rw[dt aU oG];simp[aN]);have XS:(a9.map Value.bool)[aU]?=some (.bool true):=(by rw[p6,X2];rfl);have ar:k8 x n=false:=by
        rw[YZ,Hl];exact .inr (Er λay=>aHX ay ag (jb▸aN))
      simp(disch:=first|omega|simp only[b3];omega) [NJ,I7,I8,I9,Bs,aw,cv,qH,yv,B3,bn,da,lj,jb,ajg,ajh,LL,XS,wG,QQ,ar,-ao,-aB,-ai,-au,-List.map_map]
    · have X2:a9[aU]?=some false:=(by rw[dt aU oG];simp[aN]);have XS:(a9.map Value.bool)[aU]?=some (.bool false):=(by rw[p6,X2];rfl);have ayg: ∀j:Nat,j<n->(a9.set aU true)[j]?=some (decide ((j:Int)∈x.aR.take (i+1))):= λj c6=>by
        rw[EA,l6 akq];by_cases e:aU=j
        · subst e;simp[LL,oG]
        · rw[if_neg e,dt j c6];have: ¬(j:Int)=(aU:Int):=(by omega);simp[this]
      simp(disch:=first|omega|simp only[b3];omega) [NJ,I7,I8,I9,Bs,aw,cv,qH,yv,B3,bn,bc,da,lj,jb,ajg,ajh,LL,XS,wG,QQ,-ao,-aB,-ai,-au,-List.map_map];refine aZ _ _ ⟨a9.set aU true,by simp[LL],ayg,?_,aqu ag lp (jb▸aN),?_,by simp[aw],by simp[cv],by simp[qH],by simp[yv],by simp⟩
      · rw[l6 akq,xt,gf];simp[wG]
      · simp(disch:=omega)
  · rintro u t ⟨a9,LL,dt,gf,lp,QQ,aw,cv,qH,yv,B3⟩;rw[kM]at gf lp;have ar:k8 x n=true:=(by rw[YZ,gf];simp[lp]);simp[NJ,I7,I8,I9,Bs,yv,B3,Bs,I7,I8,I9,ar]
noncomputable def agx(n:Nat)(av:n<1000000):cf Z:= .ek 64 hr hr.dP (λx=>[.agg (eR x).toArray,X n]) (λx=> .bool (k8 x n)) λ_ h=>aMv av h
@[simp] theorem aYQ{n:Nat}{av:n<1000000}:(agx n av).f=64:=rfl
@[simp] theorem aYR{n:Nat}{av:n<1000000}{x:hr}(h:hr.dP x):(agx n av).fn [.agg #[ei x.name,X x.k,X x.m,X x.q,X x.a0.a,X x.a0.b,X x.a0.c,X x.a0.d,X x.a0.e,lS x.aR,dQ x.hz,.bool x.kU.bQ,dy x.kU.a,dy x.kU.b,.bool x.eS.bQ,dy x.eS.a,dy x.eS.b],X n]=some (.bool (k8 x n)):=cf.eP (x:=x) h λy ab=>by obtain⟨gk,h6,px,s4,⟨xn,He,Wh,Wi,a1e⟩,a06,a07,⟨a08,a09,a1a⟩,⟨a1b,a1c,a1d⟩⟩:=y;obtain⟨cx,c8,eM,gY,⟨qL,Ag,atf,a04,a05⟩,We,a00,⟨Wf,a01,Wg⟩,⟨En,a02,a03⟩⟩:=x;simp[eR]at ab;obtain⟨B,H,af,aL,cm,dK,hh,iV,mf,QS,ajd,ax9,aje,aya,ayb,ayc,ayd⟩:=ab;subst B;subst H;subst af;subst aL;subst cm;subst dK;subst hh;subst iV;subst mf;subst QS;subst ajd;subst ax9;subst aje;subst aya;subst ayb;subst ayc;subst ayd;rfl
end Go.Proofs.YtkpifdkccdndcaaGreat
