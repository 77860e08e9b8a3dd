/-
  A part of the proof, shortened by tools of ours.
-/
import Derived.LoopN
import Derived.StillTail
import Derived.Test.YtmmkkggfmigppaaGreatZbd
set_option linter.all false
set_option maxRecDepth 8000
set_option maxHeartbeats 16000000
namespace Go.DI
open Go Go.RowKit
namespace U6
theorem aCB{z:aD}{m:G}{k:an}(h:k.lx=false):k.fL z m=none:=by cases k<;>first|rfl|(simp[an.lx]at h)
theorem aCG{f:aD->G->Option (cO×aD×G)}{j:Nat}{z:aD}{m:G}{r:cO×aD×G}(h:kV f (j+1) z m=some r):
 (∃bT bn,f z m=some (.eR,bT,bn)/\kV f j bT bn=some r)\/(f z m=some r/\r.1≠ .eR):=by
 simp only[kV]at h;split at h
 ·rename_i bT bn A;exact .inl ⟨bT,bn,A,h⟩
 ·rename_i bx;refine .inr ⟨h,λE=> ?_⟩;obtain⟨eK,gp,kZ⟩:=r;cases E;exact bx _ _ h
structure fv(id:Nat)(x:Option en)(m W:G):Prop where
 eq:W=m.aK id x
 cU:id<m.next
 dB:m.F id=none
section
variable {id:Nat} {x:Option en} {m W:G}
theorem fv.next(J:fv id x m W):W.next=m.next:=by rw[J.eq];rfl
theorem fv.mp(J:fv id x m W):W.mp=m.mp:=by rw[J.eq];rfl
theorem fv.fp(J:fv id x m W){b:Nat}{y:en}(h:m.F b=some y):b≠id:= λaW=>by subst aW;rw[J.dB]at h;cases h
theorem fv.Wi(J:fv id x m W){b:Nat}(h:b≠id):W.F b=m.F b:=by rw[J.eq,G.mX,if_neg h]
theorem fv.F(J:fv id x m W){b:Nat}{y:en}(h:m.F b=some y):W.F b=some y:=by rw[J.Wi (J.fp h),h]
theorem fv.fC(J:fv id x m W){b:Nat}{e:List (Value×Value)}(h:m.fC b=some e):W.fC b=some e:=by
 unfold G.fC at h⊢;cases aH:m.F b with
 |none=>rw[aH]at h;cases h
 |some y=>rw[aH]at h;rw[J.F aH,J.mp];exact h
theorem fv.Wg(J:fv id x m W){b:Nat}{e:List (Value×Value)}(h:m.fC b=some e):b≠id:=by
 unfold G.fC at h;cases aH:m.F b with
 |none=>rw[aH]at h;cases h
 |some y=>exact J.fp aH
theorem fv.aK(J:fv id x m W){b:Nat}(hb:b≠id)(y:Option en):fv id x (m.aK b y) (W.aK b y) where
 eq:=by rw[J.eq];exact apL (by omega)
 cU:=J.cU
 dB:=by rw[G.mX,if_neg (by omega)];exact J.dB
theorem fv.hL(J:fv id x m W){b:Nat}(hb:b≠id)(e:List (Value×Value)):fv id x (m.hL b e) (W.hL b e) where
 eq:=by
  rw[J.eq];simp only[G.hL,G.aK,G.mk.injEq,true_and,and_true];funext i;by_cases A:i=b
  ·subst A;simp[hb]
  ·simp[A]
 cU:=J.cU
 dB:=by have:=J.dB;simp only[G.F,G.hL,show¬id=b by omega,if_false]at this⊢;exact this
theorem fv.bU(J:fv id x m W)(k:Nat):fv id x (m.bU k) (W.bU k) where
 eq:=by
  rw[J.eq];simp only[G.bU,G.aK,G.mk.injEq,true_and,and_true];funext i;by_cases A:i=id
  ·subst A;simp[J.cU]
  ·simp[A]
 cU:=by have:=J.cU;show id<m.next+k;omega
 dB:=by rw[G.cl];exact J.dB
theorem fv.g2(J:fv id x m W){v:Value}{n:Nat}(h:g2 m v n=true):g2 W v n=true:=by
 unfold DI.g2 at h⊢;split at h
 ·rename_i a;simp only[a7]at h⊢;refine⟨h.1,?_⟩;cases aH:m.F a.block with
  |none=>rw[aH]at h;simp at h
  |some x=>rw[aH]at h;rw[J.F aH];exact h.2
 ·cases h
theorem fv.rG(J:fv id x m W){v:Value}(h:rG m v=true):rG W v=true:=by
 unfold DI.rG at h⊢;split at h
 ·rename_i a;cases aH:m.F a.block with
  |none=>rw[aH]at h;cases h
  |some x=>rw[aH]at h;rw[J.F aH];exact h
 ·cases h
theorem fv.lP(J:fv id x m W){v:Value}{n:Nat}{dE:Bool}(h:DI.g2 m v n=true):lP W dE n v=lP m dE n v:=by
 unfold DI.g2 at h;split at h
 ·rename_i a;simp only[a7]at h;cases aH:m.F a.block with
  |none=>rw[aH]at h;simp at h
  |some x=>simp only[DI.lP,gW,aH,J.F aH]
 ·cases h
theorem fv.pD(J:fv id x m W){v:Value}{n:Nat}{cs:List Value}(h:DI.g2 m v n=true):fv id x (pD m v cs) (pD W v cs):=by
 unfold DI.g2 at h;split at h
 ·rename_i a;simp only[a7]at h;cases aH:m.F a.block with
  |none=>rw[aH]at h;simp at h
  |some x=>simp only[DI.pD,aH,J.F aH];exact J.aK (J.fp aH) _
 ·cases h
theorem fv.fF(J:fv id x m W){v:Value}{I:Nat}(h:fF m I v=true):fF W I v=true:=by
 unfold DI.fF at h⊢;split at h
 ·exact h
 ·rename_i a l c;simp only[a7]at h⊢;refine⟨h.1,?_⟩;cases aH:m.F a.block with
  |none=>rw[aH]at h;simp at h
  |some x=>rw[aH]at h;rw[J.F aH];exact h.2
 ·cases h
theorem fv.iQ(J:fv id x m W){v:Value}(h:iQ m v=true):iQ W v=true:=by
 unfold DI.iQ at h⊢;split at h
 ·rfl
 ·rename_i a l c;cases aH:m.F a.block with
  |none=>rw[aH]at h;cases h
  |some x=>rw[aH]at h;rw[J.F aH];exact h
 ·cases h
theorem fv.fy(J:fv id x m W){v:Value}{I:Nat}(h:DI.fF m I v=true):fy W I v=fy m I v:=by
 unfold DI.fF at h;split at h
 ·rfl
 ·rename_i a l c;simp only[a7]at h;cases aH:m.F a.block with
  |none=>rw[aH]at h;simp at h
  |some x=>simp only[DI.fy,gW,aH,J.F aH]
 ·cases h
theorem fv.hR(J:fv id x m W){v:Value}{I:Nat}(h:DI.fF m I v=true):fv id x (hR m v) (hR W v):=by
 unfold DI.fF at h;split at h
 ·exact J
 ·rename_i a l c;simp only[a7]at h;cases aH:m.F a.block with
  |none=>rw[aH]at h;simp at h
  |some x=>exact J.aK (J.fp aH) _
 ·cases h
theorem fv.oe(J:fv id x m W){v:Value}{I:Nat}{cs:List Value}(h:DI.fF m I v=true):fv id x (oe m cs v) (oe W cs v):=by
 unfold DI.fF at h;split at h
 ·exact J
 ·rename_i a l c;simp only[a7]at h;cases aH:m.F a.block with
  |none=>rw[aH]at h;simp at h
  |some x=>simp only[DI.oe,aH,J.F aH];exact J.aK (J.fp aH) _
 ·cases h
theorem fv.lQ(J:fv id x m W){v:Value}{es:List (Value×Value)}(h:lQ m v=some es):lQ W v=some es:=by
 unfold DI.lQ at h⊢;split at h
 ·exact h
 ·exact J.fC h
 ·cases h
theorem M7(J:fv id x m W){k:an}{z:aD}(h:k.ok z m=true):k.ok z W=true:=by
 cases k with
 |s5 I n y=>simp only[an.ok,a7]at h⊢;exact⟨J.g2 h.1,h.2⟩
 |hq dE n y=>simp only[an.ok,a7]at h⊢;exact⟨J.g2 h.1,h.2⟩
 |store n x v=>simp only[an.ok,a7]at h⊢;exact⟨⟨⟨J.g2 h.1.1.1,J.rG h.1.1.2⟩,h.1.2⟩,h.2⟩
 |pN x=>simp only[an.ok,a7]at h⊢;exact⟨J.fF h.1,by rw[J.fy h.1];exact h.2⟩
 |app I bytes x y=>simp only[an.ok,a7]at h⊢;exact⟨⟨⟨⟨⟨J.fF h.1.1.1.1.1,J.iQ h.1.1.1.1.2⟩,J.fF h.1.1.1.2⟩,h.1.1.2⟩,h.1.2⟩,h.2⟩
 |hW I x=>simp only[an.ok,a7]at h⊢;exact⟨⟨J.fF h.1.1,J.iQ h.1.2⟩,h.2⟩
 | rf bc I o x eX=>
   simp only[an.ok]at h⊢;cases al:DI.lQ m (S z x)with
   |none=>rw[al]at h;cases h
   |some es=>rw[al]at h;rw[J.lQ al];exact h
 | po bc x eX v=>
   simp only[an.ok]at h⊢;split at h
   ·rename_i jZ b hb;cases al:m.fC b with
    |none=>rw[al]at h;cases h
    |some es=>rw[al]at h;rw[J.fC al];exact h
   ·cases h
 |_=>exact h
theorem N7(J:fv id x m W){k:an}{z:aD}{Iu:Nat}(h:k.ok z m=true):k.val Iu z W=k.val Iu z m:=by
 cases k with
 |hq dE n y=>simp only[an.ok,a7]at h;exact J.lP h.1
 |pN x=>simp only[an.ok,a7]at h;simp only[an.val,J.fy h.1]
 | rf bc I o x eX=>
   simp only[an.ok]at h;cases al:DI.lQ m (S z x)with
   |none=>rw[al]at h;cases h
   |some es=>simp only[an.val,al,J.lQ al]
 |_=>rfl
theorem MX(J:fv id x m W){k:an}{z:aD}{Iu:Nat}(e2:Iu≠id)(h:k.ok z m=true):fv id x (k.hr Iu z m) (k.hr Iu z W):=by
 cases k with
 |nD I=>exact J.aK e2 _
 |oK x=>exact J.aK e2 _
 |mv a b c d=>exact J.aK e2 _
 |qb x=>exact J.aK e2 _
 |o8 a b c d e=>exact J.aK e2 _
 |hW I x=>simp only[an.ok,a7]at h;exact J.oe h.1.1
 |ov a b c d e=>exact J.aK e2 _
 |store n x v=>simp only[an.ok,a7]at h;exact J.pD h.1.1.1
 | app I bytes x y=>
   simp only[an.ok,a7]at h;simp only[an.hr];split
   ·exact J
   ·rw[J.fy h.1.1.1.1.1,J.fy h.1.1.1.2];exact(J.hR h.1.1.1.1.1).aK e2 _
 |re=>exact J.hL e2 _
 | po bc x eX v=>
   simp only[an.ok]at h;split at h
   ·rename_i jZ b hb;cases al:m.fC b with
    |none=>rw[al]at h;cases h
    |some es=>simp only[an.hr,hb,y9,al,J.fC al];exact J.hL (J.Wg al) _
   ·cases h
 |_=>exact J
theorem O5(J:fv id x m W){k:an}{z:aD}{my:Nat×List Value}(h:k.fL z m=some my):k.fL z W=some my:=by
 cases k with
 | mE bJ x args=>
   simp only[an.fL]at h⊢;split at h
   ·split at h
    ·exact h
    ·split at h
     ·rename_i av;simp only[a7]at av;rw[if_pos (by simp only[a7];exact⟨J.g2 av.1,av.2⟩),J.lP av.1];exact h
     ·cases h
    ·cases h
   ·cases h
 |_=>exact h
theorem Vu{m W:G}{k:an}{z:aD}(h:k.fL z m=none)(ax:k.ok z m=true):k.fL z W=none:=by
 refine aCB ?_;cases k with
 |l2 f a=>simp[an.ok]at ax
 |nc f a=>simp[an.ok]at ax
 |mE f a b=>simp[an.ok]at ax
 |_=>rfl
def OG(id:Nat)(x:Option en)(b5:Callee):Prop:= ∀f a m r U,b5 f a m=some (r,U)-> ∀W,fv id x m W-> ∃cJ,b5 f a W=some (r,cJ)/\fv id x U cJ
theorem aa8{U cJ:G}(J:fv id x m W)(cV:fv id x U cJ){z:aD}{bc:List (Operand×Operand)}(h:vd z bc m U):vd z bc W cJ:= λp ae b hb=>by
 by_cases aW:b=id
 ·subst aW;rw[J.eq,cV.eq,G.mX,G.mX,if_pos rfl,if_pos rfl,if_pos J.cU,if_pos cV.cU]
 ·rw[J.Wi aW,cV.Wi aW];exact h p ae b hb
theorem ad5{b5:Callee}(cq:OG id x b5)(J:fv id x m W){base:Nat}(hb:id<base){o:cS}{z K:aD}{U:G}(h:iA b5 base o z m=some (K,U))(O:qQ o z m U):
 ∃cJ,iA b5 base o z W=some (K,cJ)/\fv id x U cJ/\qQ o z W cJ:=by
 unfold iA at h⊢;unfold qQ at O⊢;by_cases aQ:e9 z o.g=true
 ·rw[if_pos aQ]at h⊢
  replace O:=O aQ
  cases av:o.k.fL z m with
  | none=>
    rw[av]at h O;simp only at h O;split at h
    ·rename_i ax;cases h;simp only[Vu av ax];rw[if_pos (M7 J ax),N7 J ax];exact⟨_,rfl,MX J (by omega) ax,λ_=>O⟩
    ·cases h
  | some my=>
    obtain⟨f,args⟩:=my;rw[av]at h O;simp only at h O;cases bb:b5 f args m with
    |none=>rw[bb]at h;cases h
    | some Jf=>obtain⟨v,bn⟩:=Jf;rw[bb]at h;cases h;obtain⟨cJ,A,cV⟩:=cq _ _ _ _ _ bb W J;simp only[O5 J av,A];exact⟨_,rfl,cV,λ_=>aa8 J cV O⟩
 ·rw[if_neg aQ]at h⊢;cases h;exact⟨W,rfl,J,λh=>absurd h aQ⟩
theorem AV{b5:Callee}(cq:OG id x b5){base:Nat}(hb:id<base): ∀{L:List cS} {z K:aD} {m U W:G},fv id x m W->lh b5 base L z m=some (K,U)-> ∃cJ,lh b5 base L z W=some (K,cJ)/\fv id x U cJ
 |[],_,_,_,_,W,J,h=>by cases h;exact⟨W,rfl,J⟩
 | _::_,_,_,_,_,W,J,h=>by obtain⟨bT,bn,A,E,ao⟩:=s0 h;obtain⟨dh,aE,cW,a5⟩:=ad5 cq J hb A E;obtain⟨fS,ch,gF⟩:=AV cq hb cW ao;exact⟨fS,A6 aE a5 ch,gF⟩
theorem MG{f:aD->G->Option (cO×aD×G)}(bb: ∀z m e K U,f z m=some (e,K,U)-> ∀W,fv id x m W-> ∃cJ,f z W=some (e,K,cJ)/\fv id x U cJ):
 ∀{n:Nat} {z:aD} {m:G} {e:cO} {K:aD} {U W:G},kV f n z m=some (e,K,U)->fv id x m W-> ∃cJ,kV f n z W=some (e,K,cJ)/\fv id x U cJ
 |0,_,_,_,_,_,_,h,_=>by simp[kV]at h
 | n+1,z,m,e,K,U,W,h,J=>by
   rcases aCG h with⟨bT,bn,A,E⟩|⟨A,E⟩
   ·obtain⟨dh,aE,cW⟩:=bb _ _ _ _ _ A W J;obtain⟨fS,a5,gF⟩:=MG bb E cW;exact⟨fS,by simp only[kV,aE];exact a5,gF⟩
   ·obtain⟨dh,aE,cW⟩:=bb _ _ _ _ _ A W J;refine⟨dh,?_,cW⟩;simp only[kV,aE];cases e with
    |eR=>exact absurd rfl E
    |cF id=>rfl
    |fi=>rfl
theorem fv.pW(J:fv id x m W):fv id (x.map HA) (pW m) (pW W) where
 eq:=by
  rw[J.eq];simp only[DI.pW,G.aK,G.mk.injEq,true_and,and_true];funext b;by_cases h:b=id
  ·subst h;simp
  ·simp[h]
 cU:=J.cU
 dB:=by have:=J.dB;unfold G.F at this⊢;have h:=J.cU;rw[if_pos h]at this;show(if id<m.next then _ else _)=_;rw[if_pos h];simp only[DI.pW,this,Option.map_none]
theorem fv.s7(J:fv id x m W){I:Nat}{v:Value}(h:s7 I m v=true):s7 I W v=true:=by
 unfold DI.s7 at h⊢;split at h
 ·rename_i a l c;cases aH:m.F a.block with
  |none=>rw[aH]at h;cases h
  |some x=>rw[aH]at h;rw[J.F aH];exact h
 ·rfl
theorem fv.pl(J:fv id x m W){o:cS}{z:aD}(h:pl o z m=true):pl o z W=true:=by
 unfold DI.pl at h⊢;simp only[a7]at h⊢;refine⟨⟨h.1.1,?_⟩,M7 J h.2⟩;have:=h.1.2;split at this
 ·exact J.s7 this
 ·cases this
theorem pQ{b5:Callee}(cq: ∀x,OG id x b5){n:Nat}: ∀{c:aB} {z K:aD} {m U W:G} {e:cO},e5 b5 n c z m=some (e,K,U)->fv id x m W-> ∃cJ,e5 b5 n c z W=some (e,K,cJ)/\fv id x U cJ
 | .skip,_,_,_,_,W,_,h,J=>by cases h;exact⟨W,rfl,J⟩
 | .kN ops,z,K,m,U,W,e,h,J=>by
   simp only[e5]at h⊢;split at h
   ·rename_i bT bn ar;cases h;have cV:fv id x (h9 ops m) (h9 ops W):=by
     unfold h9;split
     ·exact J.bU _
     ·exact J
    obtain⟨cJ,g,gF⟩:=AV (cq x) (base:=m.next) J.cU cV ar;refine⟨cJ,?_,gF⟩;rw[J.next,g]
   ·cases h
 | .ve cI o bK,z,K,m,U,W,e,h,J=>by
   simp only[e5]at h⊢;split at h
   ·rename_i bT bn A;split at h
    ·rename_i ax;split at h
     ·rename_i c2 cK E;cases h;obtain⟨dh,aE,cW⟩:=AV (cq x) (base:=m.next) J.cU (J.bU _) A;have O:o.k.ok bT bn=true:=(by unfold DI.pl at ax;simp only[a7]at ax;exact ax.2);obtain⟨fS,a5,gF⟩:=AV (cq _) (base:=m.next) J.cU cW.pW E;rw[J.next,aE];simp only[cW.pl ax,if_true,N7 cW O,a5,gF.next,cW.next];exact⟨_,rfl,(MX cW (by have:=J.cU;omega) O).bU _⟩
     ·cases h
    ·cases h
   ·cases h
 | .kB a b,z,K,m,U,W,e,h,J=>by
   simp only[e5]at h⊢;split at h
   ·rename_i bT bn A;obtain⟨dh,aE,cW⟩:=pQ cq A J;obtain⟨fS,a5,gF⟩:=pQ cq h cW;exact⟨fS,by rw[aE];exact a5,gF⟩
   ·rename_i bx;obtain⟨dh,aE,cW⟩:=pQ cq h J;refine⟨dh,?_,cW⟩;rw[aE];cases e with
    |eR=>exact absurd h (bx _ _)
    |cF id=>rfl
    |fi=>rfl
 | .nG x a b,z,K,m,U,W,e,h,J=>by
   simp only[e5]at h⊢;split at h
   ·rename_i A;rw[if_pos A];split at h
    ·rename_i E;rw[if_pos E];exact pQ cq h J
    ·rename_i E;rw[if_neg E];exact pQ cq h J
   ·cases h
 | .block id c,z,K,m,U,W,e,h,J=>by
   simp only[e5]at h⊢;split at h
   ·rename_i A;obtain⟨dh,aE,cW⟩:=pQ cq A J;rw[aE];simp only;split at h
    ·rename_i e2;cases h;exact⟨dh,by rw[if_pos e2],cW⟩
    ·rename_i e2;cases h;exact⟨dh,by rw[if_neg e2],cW⟩
   ·rename_i bx;obtain⟨dh,aE,cW⟩:=pQ cq h J;refine⟨dh,?_,cW⟩;rw[aE];cases e with
    |eR=>rfl
    |cF id=>exact absurd h (bx _ _ _)
    |fi=>rfl
 | .loop c,z,K,m,U,W,e,h,J=>by simp only[e5]at h⊢;exact MG (f:=e5 b5 n c) (λz m e K U A W J=>pQ cq A J) h J
 | .cF id,_,_,_,_,W,_,h,J=>by cases h;exact⟨W,rfl,J⟩
 | .fi,_,_,_,_,W,_,h,J=>by cases h;exact⟨W,rfl,J⟩
theorem FT(J:fv id x m W){z:aD}{r:ln}(h:r6 m z r=true):r6 W z r=true/\sZ W z r=sZ m z r:=by
 cases r with
 |bL t=>exact⟨rfl,rfl⟩
 | hy t dE n=>simp only[r6,a7]at h⊢;exact⟨⟨J.g2 h.1,h.2⟩,J.lP h.1⟩
theorem acD(J:fv id x m W){z:aD}{cH:List ln}(h:mL m z cH=true):mL W z cH=true/\m3 W z cH=m3 m z cH:=by
 have ar: ∀r∈cH,r6 m z r=true:=by simpa[mL]using h
 refine⟨by simp only[mL,ei];exact λr al=>(FT J (ar r al)).1,?_⟩;unfold m3;split
 ·exact(FT J (ar _ (by simp))).2
 ·rw[DJ λr al=>(FT J (ar r al)).2]
theorem X4(J:fv id x m W){args:List Value}{r:Value}{U:G}(h:tO args m=some (r,U)): ∃cJ,tO args W=some (r,cJ)/\fv id x U cJ:=by
 obtain⟨s,i,y,rfl,ax,rfl,rfl⟩:=Lq h;simp only[tP,a7]at ax;obtain⟨a,b,c,d,e⟩:=ax;have xA:tP W s i y=true:=by simp only[tP,a7];exact⟨J.fF a,J.iQ b,J.fF c,J.iQ d,e⟩
 have aj: ∀k,k=m.next->k≠id:= λk O=>by have:=J.cU;omega
 refine⟨((hR W s).bU 1).aK m.next (some ⟨fy m 1 y++fy m 1 s,true⟩),?_,((J.hR a).bU 1).aK (aj _ rfl) _⟩;simp only[tO,xA,if_true,xK,u6,J.next,J.fy a,J.fy c]
theorem JY{P:Program}: ∀n x,OG id x (kS P n)
 |0,_=> λf a m r U h=>by simp[kS]at h
 | n+1,x=> λf a m r U h W J=>by
   simp only[kS]at h⊢;split at h
   ·rename_i u df;split at h
    ·rename_i eW;rw[if_pos eW];split at h
     ·cases h
     ·rename_i e K bn bx hX;obtain⟨dh,aE,cW⟩:=pQ (JY n) hX J;split at h
      ·rename_i ar;cases h;obtain⟨a5,ch⟩:=acD cW ar;rw[aE];refine⟨dh,?_,cW⟩;cases e with
       |eR=>simp only[a5,ch,if_true]
       |fi=>simp only[a5,ch,if_true]
       |cF id=>exact absurd rfl (bx id)
      ·cases h
     ·cases h
    ·cases h
   ·split at h
    ·rename_i ja;rw[if_pos ja];exact X4 J h
    ·cases h
end
end U6
section
variable {P:Program} {z c2:aD} {m cK:G} {aP:Nat} {b5:Callee} {base:Nat}
theorem FJ{l:List Nat}{d:Nat}(h:vk l (some d)=true):d∉l:=by simpa[vk]using h
theorem AY{d:Option Nat}{v:Value}{t:Nat}(h:d≠some t):c0 z d v t=z t:=by
 cases d with
 |none=>rfl
 | some d=>have:t≠d:= λe=>h (by rw[e]);simp[c0,k3,this]
theorem C4{d e:Option Nat}{bf v:Value}(h: ∀x,d=some x->e≠some x):c0 (c0 z d bf) e v=c0 (c0 z e v) d bf:=by
 cases d with
 |none=>rfl
 | some d=>
   cases e with
   |none=>rfl
   | some e=>
     have bx:d≠e:= λx=>h d rfl (by rw[x]);funext t;simp only[c0,k3];by_cases A:t=e
     ·subst A;simp[Ne.symm bx]
     ·simp[A]
theorem Dl{l:List Operand}{x:Operand}{t:Nat}(B:x∈l)(a8:x= .tmp t):t∈I4 l:=by subst a8;exact yh.2 ⟨_,B,rfl⟩
theorem A1{o:cS}{d:Option Nat}{v:Value}(h:vk o.zt d=true): ∀x∈o.k.h0,S (c0 z d v) x=S z x:=by intro x B;refine BZ λt a8=>AY λaW=> ?_;subst aW;exact FJ h (o4 _ (Dl B a8))
theorem vp{o:cS}{d:Option Nat}{v:Value}(h:vk o.zt d=true):e9 (c0 z d v) o.g=e9 z o.g:=by
 cases aH:o.g with
 |none=>rfl
 | some Dt=>obtain⟨t,b⟩:=Dt;simp only[e9];rw[AY λaW=> ?_];subst aW;exact FJ h (n3 _ (by simp[aH]))
theorem acy{k:an}: ∀x∈k.nu++k.o3,x∈k.h0:=by
 intro x B;cases k<;>simp[an.nu,an.o3]at B<;>simp[an.h0,B]
 ·rcases B with h|h|h<;>simp[h]
theorem UE{o:cS}(aQ:e9 z o.g=true)(av:o.k.fL z m=none){s:aD×G}(h:iA b5 base o z m=some s):
 o.k.ok z m=true/\s=(c0 z o.d (o.k.val (base+o.aY) z m),o.k.hr (base+o.aY) z m):=by
 unfold iA at h;rw[if_pos aQ,av]at h;simp only at h;split at h
 ·rename_i ax;cases h;exact⟨ax,rfl⟩
 ·cases h
theorem aq4{o:cS}(aQ:e9 z o.g=true)(av:o.k.fL z m=none)(ax:o.k.ok z m=true):
 iA b5 base o z m=some (c0 z o.d (o.k.val (base+o.aY) z m),o.k.hr (base+o.aY) z m):=by
 unfold iA;rw[if_pos aQ,av];simp only[ax,if_true]
theorem I7{o:cS}(Ey:o.k.y6=false)(aQ:e9 z o.g=true)(av:o.k.fL z m=none){s:aD×G}(h:iA b5 base o z m=some s):
 o.k.ok z m=true/\s=(c0 z o.d (o.k.val (base+o.aY) z m),ju m (o.k.g6 (base+o.aY) z m)):=by
 unfold iA at h;rw[if_pos aQ,av]at h;simp only at h;split at h
 ·rename_i ax;cases h;exact⟨ax,by rw[<-aop Ey]⟩
 ·cases h
theorem I8{o:cS}(Ey:o.k.y6=false)(aQ:e9 z o.g=true)(av:o.k.fL z m=none)(ax:o.k.ok z m=true):
 iA b5 base o z m=some (c0 z o.d (o.k.val (base+o.aY) z m),ju m (o.k.g6 (base+o.aY) z m)):=by
 unfold iA;rw[if_pos aQ,av];simp only[ax,if_true,aop Ey]
theorem I6{o:cS}(aQ:e9 z o.g=true){f:Nat}{args:List Value}(av:o.k.fL z m=some (f,args)){s:aD×G}(h:iA b5 base o z m=some s):
 ∃v U,b5 f args m=some (v,U)/\s=(c0 z o.d v,U):=by
 unfold iA at h;rw[if_pos aQ,av]at h;simp only at h;split at h
 ·rename_i v U bb;cases h;exact⟨v,U,bb,rfl⟩
 ·cases h
theorem NW{o:cS}(aQ:e9 z o.g=true){f:Nat}{args:List Value}(av:o.k.fL z m=some (f,args)){v:Value}{U:G}(h:b5 f args m=some (v,U)):
 iA b5 base o z m=some (c0 z o.d v,U):=by
 unfold iA;rw[if_pos aQ,av];simp only[h]
theorem Dn{o:cS}(aQ:e9 z o.g=false):iA b5 base o z m=some (c0 z o.d undef,m):=by unfold iA;rw[if_neg (by rw[aQ];simp)]
theorem O6{k:an}{my:Nat×List Value}(h:k.fL z m=some my):k.lx=true:=by cases k<;>first|rfl|(simp[an.fL]at h)
theorem u9{k:an}(h:k.lx=false):k.fL z m=none:=by cases k<;>first|rfl|(simp[an.lx]at h)
theorem Vv{o:cS}(aQ:e9 z o.g=true)(av:o.k.fL z m=none){s:aD×G}(h:iA b5 base o z m=some s):o.k.lx=false:=
 TC (UE aQ av h).1
def aff(k i:cS)(z:aD)(m U:G):Prop:=
 e9 z i.g=true->match i.k.fL z m with
  |some _=> ∀p∈r2 k i,∀b,aa (S z p.1)=some b->U.F b=m.F b
  |none=> ∀p∈r2 k i,∀a b,aa (S z p.1)=some a->aa (S z p.2)=some b->a≠b
theorem Pc{o:cS}{d:Option Nat}{v:Value}{U:G}(ar:vk (o.zt++o.agw) d=true){FD MV:G}
 (Cn:o.k.lx=true->FD=m/\MV=U) (h:qQ o z m U):qQ o (c0 z d v) FD MV:=by
 have A:vk o.zt d=true:=by
  cases d with
  |none=>rfl
  |some d=>simp[vk]at ar⊢;exact ar.1
 have hA: ∀p∈o.bc,S (c0 z d v) p.1=S z p.1/\S (c0 z d v) p.2=S z p.2:=by
  intro p ae;constructor
  ·refine BZ λt a8=>AY λaW=> ?_;subst aW;exact FJ ar (n3 _ (o4 _ (Dl (gx.2 ⟨p,ae,rfl⟩) a8)))
  ·refine BZ λt a8=>AY λaW=> ?_;subst aW;exact FJ ar (n3 _ (n3 _ (Dl (gx.2 ⟨p,ae,rfl⟩) a8)))
 intro aQ;rw[vp A]at aQ;have:=h aQ;have gZ:o.k.fL (c0 z d v) FD=o.k.fL z m:=by
  rw[(z9 (m:=FD) (id:=0) (A1 A)).2.2.2];cases Aq:o.k.lx with
  |true=>rw[(Cn Aq).1]
  |false=>rw[u9 Aq,u9 Aq]
 rw[gZ];cases av:o.k.fL z m with
 | some my=>rw[av]at this;simp only at this⊢;obtain⟨rfl,rfl⟩:=Cn (O6 av);intro p ae b hb;rw[(hA p ae).1]at hb;exact this p ae b hb
 | none=>rw[av]at this;simp only[iY,ei]at this⊢;intro p ae;obtain⟨x,y⟩:=p;have:=this (x,y) ae;simp only at this⊢;rw[(hA _ ae).1,(hA _ ae).2];exact this
theorem aIO{P:Program}{aP:Nat}(cq:sn P aP b5){k i:cS}{uJ:List Nat}{c2 vK:aD}{cK rb:G}(P4:sx k i uJ=true)(tI:k.aY≠i.aY)(WU:i.k.fD=true->m.F (base+i.aY)=none)(dA:i.k.fD=true->base+i.aY<m.next)
 (A:iA b5 base k z m=some (c2,cK)) (hA:qQ k z m cK) (E:iA b5 base i c2 cK=some (vK,rb)) (df:aff k i c2 cK rb):
 ∃bT bn,iA b5 base i z m=some (bT,bn)/\iA b5 base k bT bn=some (vK,rb)/\qQ k bT bn rb/\(i.k.lx=true->e9 z i.g=true->m=cK/\bn=rb):=by
 simp only[sx,a7]at P4;obtain⟨⟨⟨⟨⟨tJ,yV⟩,qi⟩,ld⟩,ah0⟩,xt⟩:=P4
 replace tJ:k.k.y6=false:=by simpa using tJ
 replace yV:i.k.y6=false:=by simpa using yV
 have yR:vk k.zt i.d=true:=by
  cases aW:i.d with
  |none=>rfl
  |some d=>rw[aW]at qi;simp[vk]at qi⊢;exact qi.1
 have yN: ∀x,k.d=some x->i.d≠some x:=by intro x B Z;rw[B,Z]at ah0;simp at ah0
 by_cases rV:e9 z k.g=true
 ·by_cases sL:e9 z i.g=true
  ·cases rR:k.k.fL z m with
   | some my=>
     -- k agj;i art dB aTs
     obtain⟨f,args⟩:=my;have uW:=O6 rR;obtain⟨v,U,aG,aN⟩:=I6 rV rR A;cases aN;have nh:i.k.lx=false:=by
      by_cases h:i.k.lx=true
      ·rw[if_pos h]at xt;simp[uW]at xt
      ·simpa using h
     rw[if_neg (by rw[nh];simp),if_pos uW]at xt;simp only[a7,List.isEmpty_iff]at xt;obtain⟨Xv,XN⟩:=xt;have Cr:e9 (c0 z k.d v) i.g=true:=(by rw[vp ld];exact sL);obtain⟨ax,ct⟩:=I7 yV Cr (u9 nh) E;cases ct;obtain⟨ck,c9,k9,_⟩:=z9 (k:=i.k) (m:=cK) (id:=base+i.aY) (A1 (z:=z) (v:=v) ld);obtain⟨gI,hz,iT⟩:=Pj (k:=i.k) (z:=z) (id:=base+i.aY) (m:=cK) (cK:=m) yV (by rw[Xv];simp);have Qd: ∀p∈i.k.g6 (base+i.aY) z m,i.k.fD=true/\p.1=base+i.aY:= λp ae=>by
      rcases Jh (k:=i.k) (id:=base+i.aY) (z:=z) (m:=m) p ae with h|⟨x,B,_⟩
      ·exact⟨h.1,h.2.1⟩
      ·rw[XN]at B;cases B
     -- aeR vE pF new block aUj aZV pF l2
     have axS: ∀(l:List (Nat×Option en)) (y7 hi:G),(∀p∈l,i.k.fD=true/\p.1=base+i.aY)->b5 f args y7=some (v,hi)->(l≠[]->base+i.aY<y7.next/\y7.F (base+i.aY)=none)->
      b5 f args (ju y7 l)=some (v,ju hi l)/\(l=[]\/ ∃y,ju y7 l=y7.aK (base+i.aY) y/\ju hi l=hi.aK (base+i.aY) y):=by
      intro l y7 hi aA yK Cl;have Cn: ∀(l:List (Nat×Option en)) (x:Option en),(∀p∈l,p.1=base+i.aY)-> ∃y,∀cX:G,ju (cX.aK (base+i.aY) x) l=cX.aK (base+i.aY) y:=by
       intro l;induction l with
       |nil=>intro x _;exact⟨x,λ_=>rfl⟩
       | cons p l cj=>
         intro x ae;obtain⟨y,Z⟩:=cj p.2 (λq bg=>ae q (by simp[bg]));refine⟨y,λcX=> ?_⟩;have e:p.1=base+i.aY:=ae p (by simp);have:(cX.aK (base+i.aY) x).aK p.1 p.2=cX.aK (base+i.aY) p.2:=by rw[e];simp only[G.aK,G.mk.injEq,true_and,and_true];funext j;by_cases aV:j=base+i.aY<;>simp[aV]
         show ju ((cX.aK (base+i.aY) x).aK p.1 p.2) l=_;rw[this,Z]
      cases l with
      |nil=>exact⟨yK,.inl rfl⟩
      | cons p l=>obtain⟨y,Z⟩:=Cn l p.2 (λq bg=>(aA q (by simp[bg])).2);have e:p.1=base+i.aY:=(aA p (by simp)).2;have nJ:ju y7 (p::l)=y7.aK (base+i.aY) y:=(by show ju (y7.aK p.1 p.2) l=_;rw[e,Z]);have dZ:ju hi (p::l)=hi.aK (base+i.aY) y:=(by show ju (hi.aK p.1 p.2) l=_;rw[e,Z]);rw[nJ,dZ];obtain⟨bI,cZ⟩:=Cl (by simp);exact⟨(cq _ _ _ _ _ yK).2.2.2.1 _ y bI cZ,.inr ⟨y,rfl,rfl⟩⟩
     obtain⟨dC,fK⟩:=axS (i.k.g6 (base+i.aY) z m) m cK Qd aG (λbx=>by obtain⟨p,ae⟩:=List.exists_mem_of_ne_nil _ bx;have:=(Qd p ae).1;exact⟨dA this,WU this⟩);have ah1:k.k.fL z (ju m (i.k.g6 (base+i.aY) z m))=some (f,args):=by
      rcases fK with h|⟨y,Z,_⟩
      ·rw[h];exact rR
      ·rw[Z];by_cases fw:i.k.fD=true
       ·exact U6.O5 ⟨rfl,dA fw,WU fw⟩ rR
       ·have:i.k.g6 (base+i.aY) z m=[]:=by
         cases aA:i.k.g6 (base+i.aY) z m with
         |nil=>rfl
         |cons p l=>exact absurd (Qd p (by rw[aA];simp)).1 fw
        rw[this]at Z;rw[<-Z];exact rR
     refine⟨_,_,I8 yV sL (u9 nh) (by rw[<-gI,<-ck];exact ax),?_,?_,λh=>by rw[nh]at h;cases h⟩
     ·have aw2:k.k.fL (c0 z i.d (i.k.val (base+i.aY) z m)) (ju m (i.k.g6 (base+i.aY) z m))=some (f,args):=(by rw[(z9 (m:=ju m (i.k.g6 (base+i.aY) z m)) (id:=0) (A1 yR)).2.2.2];exact ah1);rw[c9,k9,hz,iT];have:=NW (b5:=b5) (base:=base) (m:=ju m (i.k.g6 (base+i.aY) z m)) (by rw[vp yR];exact rV) aw2 dC;rw[this,C4 yN]
     ·rw[k9,iT];refine Pc qi (λ_=>⟨rfl,rfl⟩) (λaQ=> ?_);have bX:=hA aQ;rw[rR]at bX;rw[ah1];simp only at bX⊢;rcases fK with h|⟨y,Z,Lk⟩
      ·rw[h];exact bX
      ·rw[Z,Lk];intro q bg b hb;have:=bX q bg b hb;by_cases KW:b=base+i.aY
       ·subst KW;have aj:i.k.g6 (base+i.aY) z m=[]\/i.k.fD=true:=by
         cases aA:i.k.g6 (base+i.aY) z m with
         |nil=>exact .inl rfl
         |cons p l=>exact .inr (Qd p (by rw[aA];simp)).1
        rcases aj with aj|fw
        ·rw[aj]at Z Lk;rw[<-Z,<-Lk];exact this
        ·rw[G.mX,G.mX,if_pos rfl,if_pos rfl,if_pos (dA fw),if_pos (qE (dA fw) (cq _ _ _ _ _ aG).2.1)]
       ·rw[G.mX,G.mX,if_neg KW,if_neg KW];exact this
   | none=>
     have uW:=Vv rV rR A;obtain⟨EC,aG⟩:=I7 tJ rV rR A;cases aG;have Cr:e9 (c0 z k.d (k.k.val (base+k.aY) z m)) i.g=true:=(by rw[vp ld];exact sL);obtain⟨ck,c9,k9,iq⟩:=z9 (k:=i.k) (m:=ju m (k.k.g6 (base+k.aY) z m)) (id:=base+i.aY) (A1 (z:=z) (v:=k.k.val (base+k.aY) z m) ld);have oh:=df Cr;cases gZ:i.k.fL z (ju m (k.k.g6 (base+k.aY) z m))with
     | some my=>
       -- i agj;k aeR aTT
       obtain⟨f,args⟩:=my;have nh:=O6 gZ;rw[if_pos nh]at xt;simp only[a7,sj,List.isEmpty_iff]at xt;obtain⟨⟨⟨_,fw⟩,XN⟩,XB⟩:=xt;have ai6:k.k.g6 (base+k.aY) z m=[]:=by
        cases aA:k.k.g6 (base+k.aY) z m with
        |nil=>rfl
        | cons p l=>
          rcases Jh (k:=k.k) (id:=base+k.aY) (z:=z) (m:=m) p (by rw[aA];simp)with h|⟨x,B,_⟩
          ·rw[fw]at h;cases h.1
          ·rw[XN]at B;cases B
       rw[ai6]at E oh gZ iq⊢;have Ax:ju m []=m:=rfl;rw[Ax]at E oh gZ iq;rw[iq,gZ]at oh;simp only at oh;obtain⟨v,U,aE,a5⟩:=I6 Cr (by rw[iq];exact gZ) E;cases a5;refine⟨_,_,NW sL gZ aE,?_,?_,λ_ _=>⟨rfl,rfl⟩⟩
       ·obtain⟨gI,hz,iT⟩:=Pj (k:=k.k) (z:=z) (id:=base+k.aY) (m:=m) (cK:=rb) tJ (λx B b hb=>by
         have ae:(x,x)∈r2 k i:=(by simp only[r2,nh,if_true];exact gx.2 ⟨x,B,rfl⟩);have aym:S (c0 z k.d (k.k.val (base+k.aY) z m)) x=S z x:=BZ λt a8=>AY λaW=>by have:=ei.1 XB t (Dl B a8);simp[aW]at this
         exact(oh (x,x) ae b (by rw[aym];exact hb)).symm)
        obtain⟨ej,eD,gg,lJ⟩:=z9 (k:=k.k) (m:=rb) (id:=base+k.aY) (A1 (z:=z) (d:=i.d) (v:=v) yR);have:=I8 (b5:=b5) (base:=base) (m:=rb) (z:=c0 z i.d v) (o:=k) tJ (by rw[vp yR];exact rV) (u9 uW) (by rw[ej,<-gI];exact EC);rw[this,eD,gg,<-hz,<-iT,ai6,C4 yN];rfl
       ·exact Pc qi (λh=>by rw[uW]at h;cases h) hA
     | none=>
       -- aTD agj
       have nh:=Vv (by rw[<-vp ld (z:=z)]at sL;exact sL) (by rw[iq];exact gZ) E;rw[iq,gZ]at oh;simp only at oh;rw[if_neg (by rw[nh];simp),if_neg (by rw[uW];simp)]at xt;simp only[a7,uv,sj]at xt;obtain⟨fw,XB⟩:=xt;obtain⟨Xh,ct⟩:=I7 yV Cr (u9 nh) E;rw[ck]at Xh;rw[c9,k9]at ct
       -- pF aUc aOF,at aPq aY9
       have XR: ∀x∈k.k.nu++k.k.o3,S (c0 z k.d (k.k.val (base+k.aY) z m)) x=S z x:=(by intro x B;refine BZ λt a8=>AY λaW=> ?_;have:=ei.1 XB t (Dl B a8);simp[aW]at this);have Qz: ∀y∈i.k.nu++i.k.o3,S (c0 z k.d (k.k.val (base+k.aY) z m)) y=S z y:= λy Z=>A1 ld y (acy y Z);have Qn:r2 k i=((k.k.o3++(if k.k.fD then Pn k.d else[])).flatMap λx=>(i.k.nu++i.k.o3).map λy=>(x,y))++k.k.nu.flatMap λx=>i.k.o3.map λy=>(x,y):=by simp only[r2,nh,uW,jO,if_false]
       -- aSx aeR do not aDZ arW i art
       have dz: ∀p∈k.k.g6 (base+k.aY) z m,∀y∈i.k.nu++i.k.o3,∀b,aa (S z y)=some b->p.1≠b:=by
        intro p ae y Z b hb;rcases Jh (k:=k.k) p ae with⟨ag,e,KX⟩|⟨x,B,WM⟩
        ·rcases fw with fw|fw
         ·rw[fw]at ag;cases ag
         ·obtain⟨d,aW⟩:=Ou.1 fw.1;have:=oh (.tmp d,y) (by
           rw[Qn];refine o4 _ (wY.2 ⟨.tmp d,?_,gx.2 ⟨y,Z,rfl⟩⟩);simp[ag,aW,Pn]) (base+k.aY) b (by simp only[S,aW,c0,k3,if_true];exact KX) (by rw[Qz y Z];exact hb)
          rw[e];exact this
        ·exact oh (x,y) (by rw[Qn];exact o4 _ (wY.2 ⟨x,o4 _ B,gx.2 ⟨y,Z,rfl⟩⟩)) p.1 b (by rw[XR x (n3 _ B)];exact WM) (by rw[Qz y Z];exact hb)
       obtain⟨gI,hz,iT⟩:=Pj (k:=i.k) (z:=z) (id:=base+i.aY) (m:=ju m (k.k.g6 (base+k.aY) z m)) (cK:=m) yV (λy Z b hb=>Wh _ _ _ λp ae=>dz p ae y (o4 _ Z) b hb);rw[gI]at Xh;rw[hz,iT]at ct;cases ct
       -- aQV aeR do not aDZ arW k art
       have arY: ∀p∈i.k.g6 (base+i.aY) z m,∀x∈k.k.nu++k.k.o3,∀b,aa (S z x)=some b->p.1≠b:=by
        intro p ae x B b hb e;rcases Jh (k:=i.k) p ae with⟨ag,aN,KX⟩|⟨y,Z,P2⟩
        ·have:=aEN EC x B b hb;rw[<-e,aN,WU ag]at this;cases this
        ·rcases jP.1 B with h6|h6
         ·exact oh (x,y) (by rw[Qn];exact n3 _ (wY.2 ⟨x,h6,gx.2 ⟨y,Z,rfl⟩⟩)) b p.1 (by rw[XR x B];exact hb) (by rw[Qz y (n3 _ Z)];exact P2) e.symm
         ·exact oh (x,y) (by rw[Qn];exact o4 _ (wY.2 ⟨x,o4 _ h6,gx.2 ⟨y,n3 _ Z,rfl⟩⟩)) b p.1 (by rw[XR x B];exact hb) (by rw[Qz y (n3 _ Z)];exact P2) e.symm
       have aJV: ∀p∈k.k.g6 (base+k.aY) z m,∀q∈i.k.g6 (base+i.aY) z m,p.1≠q.1:=by
        intro p ae q bg e;rcases Jh (k:=i.k) q bg with⟨ag,aN,KX⟩|⟨y,Z,P2⟩
        ·rcases Jh (k:=k.k) p ae with⟨_,ct,_⟩|⟨x,B,WM⟩
         ·omega
         ·exact arY q bg x (n3 _ B) p.1 WM e.symm
        ·exact dz p ae y (n3 _ Z) q.1 P2 e
       refine⟨_,_,I8 yV sL (u9 nh) Xh,?_,?_,λh=>by rw[nh]at h;cases h⟩
       ·obtain⟨ej,eD,gg,lJ⟩:=z9 (k:=k.k) (m:=ju m (i.k.g6 (base+i.aY) z m)) (id:=base+k.aY) (A1 (z:=z) (d:=i.d) (v:=i.k.val (base+i.aY) z m) yR);obtain⟨aE,a5,ch⟩:=Pj (k:=k.k) (z:=z) (id:=base+k.aY) (m:=ju m (i.k.g6 (base+i.aY) z m)) (cK:=m) tJ (λx B b hb=>Wh _ _ _ λp ae=>arY p ae x (o4 _ B) b hb);have:=I8 (b5:=b5) (base:=base) (m:=ju m (i.k.g6 (base+i.aY) z m)) (z:=c0 z i.d (i.k.val (base+i.aY) z m)) (o:=k) tJ (by rw[vp yR];exact rV) (u9 uW) (by rw[ej,aE];exact EC);rw[this,eD,gg,a5,ch,C4 yN,afI _ _ m aJV]
       ·exact Pc qi (λh=>by rw[uW]at h;cases h) hA
  ·-- i CH aEY over
   have Lh:e9 z i.g=false:=(by simpa using sL);have iE: ∃v,c2=c0 z k.d v:=by
    cases rR:k.k.fL z m with
    |some my=>obtain⟨v,U,_,e⟩:=I6 rV rR A;cases e;exact⟨v,rfl⟩
    |none=>obtain⟨_,e⟩:=I7 tJ rV rR A;cases e;exact⟨_,rfl⟩
   obtain⟨v,rfl⟩:=iE;rw[Dn (by rw[vp ld];exact Lh)]at E;cases E;refine⟨_,_,Dn Lh,?_,Pc qi (λ_=>⟨rfl,rfl⟩) hA,λ_ h=>absurd h sL⟩;have ai5:e9 (c0 z i.d undef) k.g=true:=(by rw[vp yR];exact rV);obtain⟨ej,eD,gg,lJ⟩:=z9 (k:=k.k) (m:=m) (id:=base+k.aY) (A1 (z:=z) (d:=i.d) (v:=undef) yR);cases rR:k.k.fL z m with
   | some my=>obtain⟨f,args⟩:=my;obtain⟨bf,U,aE,a5⟩:=I6 rV rR A;have aG:=congrArg Prod.fst a5;have aN:=congrArg Prod.snd a5;simp only at aG aN;subst aN;have ct:c0 (c0 z i.d undef) k.d bf=c0 (c0 z k.d bf) i.d undef:=(C4 yN).symm;rw[NW ai5 (by rw[lJ];exact rR) aE,ct,<-aG]
   | none=>obtain⟨ax,a5⟩:=I7 tJ rV rR A;have aG:=congrArg Prod.fst a5;have aN:=congrArg Prod.snd a5;simp only at aG aN;subst aN;have ct:c0 (c0 z i.d undef) k.d (k.k.val (base+k.aY) z m)=c0 (c0 z k.d (k.k.val (base+k.aY) z m)) i.d undef:=(C4 yN).symm;rw[I8 tJ ai5 (by rw[lJ];exact rR) (by rw[ej];exact ax),eD,gg,ct,<-aG]
 ·-- k CH aEY over
  have ai4:e9 z k.g=false:=(by simpa using rV);rw[Dn ai4]at A;cases A;have q1: ∀v cX,iA b5 base k (c0 z i.d v) cX=some (c0 (c0 z i.d v) k.d undef,cX):= λv cX=>Dn (by rw[vp yR];exact ai4);have WO: ∀v FD MV,qQ k (c0 z i.d v) FD MV:= λv FD MV aQ=>by rw[vp yR]at aQ;exact absurd aQ rV
  obtain⟨ej,eD,gg,lJ⟩:=z9 (k:=i.k) (m:=m) (id:=base+i.aY) (A1 (z:=z) (d:=k.d) (v:=undef) ld);by_cases sL:e9 z i.g=true
  ·have Cr:e9 (c0 z k.d undef) i.g=true:=(by rw[vp ld];exact sL);cases gZ:i.k.fL z m with
   | some my=>obtain⟨f,args⟩:=my;obtain⟨bf,U,aE,a5⟩:=I6 Cr (by rw[lJ];exact gZ) E;cases a5;exact⟨_,_,NW sL gZ aE,by rw[q1,C4 yN],WO _ _ _,λ_ _=>⟨rfl,rfl⟩⟩
   | none=>obtain⟨ax,a5⟩:=I7 yV Cr (by rw[lJ];exact gZ) E;have nh:=TC ax;rw[eD,gg]at a5;cases a5;exact⟨_,_,I8 yV sL gZ (by rw[<-ej];exact ax),by rw[q1,C4 yN],WO _ _ _,λh=>by rw[nh]at h;cases h⟩
  ·have Lh:e9 z i.g=false:=(by simpa using sL);rw[Dn (by rw[vp ld];exact Lh)]at E;cases E;exact⟨_,_,Dn Lh,by rw[q1,C4 yN],WO _ _ _,λ_ h=>absurd h sL⟩
end
def vS(l:List cS):List Nat:=l.filterMap (·.d)
section
variable {P:Program} {aP:Nat} {b5:Callee} {base:Nat} {ops:Array Oper} {da:Nat}
theorem Pg{k i:cS}{b cB:List Nat}(h: ∀t∈cB,t∈b)(av:sx k i b=true):sx k i cB=true:=by
 have aiw: ∀t,(!b.contains t)=true->(!cB.contains t)=true:=by intro t a8;simp at a8⊢;exact λbV=>a8 (h t bV)
 have mA: ∀l:List Nat,(l.all λt=> !b.contains t&&k.d !=some t)=true->(l.all λt=> !cB.contains t&&k.d !=some t)=true:=by intro l aA;rw[ei]at aA⊢;intro t a8;have:=aA t a8;rw[a7]at this⊢;exact⟨aiw t this.1,this.2⟩
 simp only[sx,a7]at av⊢;refine⟨av.1,?_⟩;have ld:=av.2;split at ld
 ·rename_i A;rw[if_pos A];simp only[a7]at ld⊢;exact⟨ld.1,mA _ ld.2⟩
 ·rename_i A;rw[if_neg A];split at ld
  ·rename_i E;rw[if_pos E];exact ld
  ·rename_i E;rw[if_neg E];simp only[a7,uv]at ld⊢;refine⟨ld.1.imp id λao=>⟨ao.1,?_⟩,mA _ ld.2⟩;cases aW:k.d with
   |none=>rfl
   |some d=>rw[aW]at ao;exact aiw d ao.2
theorem aq3{o:cS}{z K:aD}{m U:G}(h:iA b5 base o z m=some (K,U)){t:Nat}(a8:o.d≠some t):K t=z t:=by
 unfold iA at h;split at h
 ·split at h
  ·split at h
   ·cases h;exact AY a8
   ·cases h
  ·split at h
   ·cases h;exact AY a8
   ·cases h
 ·cases h;exact AY a8
theorem move(cq:sn P aP b5){i:cS}{post:List cS}{aqJ:aD×G}: ∀(cI:List cS) (z:aD) (m:G),lh b5 base (cI++i::post) z m=some aqJ->
 (∀af k C,cI=af++k::C->sx k i (vS C)=true/\ ∀p∈r2 k i,p∈i.bc)->(∀k∈cI,k.aY≠i.aY)->(i.k.fD=true->m.F (base+i.aY)=none/\base+i.aY<m.next)->
 ∃bT bn yk jq Tv,iA b5 base i z m=some (bT,bn)/\lh b5 base (cI++post) bT bn=some aqJ/\qQ i yk jq Tv/\(∀t,t∉vS cI->yk t=z t)/\(i.k.lx=true->e9 z i.g=true->jq=m/\Tv=bn)
 | [],z,m,h,_,_,_=>by obtain⟨bT,bn,A,E,ao⟩:=s0 h;exact⟨bT,bn,z,m,bn,A,ao,E,λ_ _=>rfl,λ_ _=>⟨rfl,rfl⟩⟩
 | k::cI,z,m,h,av,tI,bb=>by
   obtain⟨c2,cK,A,E,ao⟩:=s0 h;have aio:=tI k (by simp);have K0:=av [] k cI rfl;obtain⟨vK,rb,yk,jq,Tv,aE,a5,ch,dT,gj⟩:=move cq cI c2 cK ao (λaf fk C e=>av (k::af) fk C (by rw[e];rfl)) (λfk mC=>tI fk (by simp[mC])) (λfw=>⟨UD cq A (bb fw).2 (by omega) (bb fw).1,qE (bb fw).2 (I5 cq A)⟩)
   -- arW i zt CH not a0H by aY8 Vn aaF
   have oo: ∀t,t∈i.zt->t∉vS cI:=(by intro t a8 aW;obtain⟨fk,mC,Ev⟩:=yh.1 aW;obtain⟨af,C,e⟩:=List.append_of_mem mC;have:=(av (k::af) fk C (by rw[e];rfl)).1;simp only[sx,a7]at this;rw[Ev]at this;exact FJ this.1.1.2 a8);have XM:e9 yk i.g=e9 c2 i.g:=by
    cases aH:i.g with
    |none=>rfl
    |some Dt=>obtain⟨t,b⟩:=Dt;simp only[e9];rw[dT t (oo t (n3 _ (by simp[aH])))]
   have WS: ∀x∈i.k.h0,S yk x=S c2 x:= λx B=>BZ λt a8=>dT t (oo t (o4 _ (Dl B a8)));have df:aff k i c2 cK rb:=by
    intro aQ;have hA:=ch (by rw[XM];exact aQ);have gZ:i.k.fL yk jq=i.k.fL c2 cK:=by
     rw[(z9 (m:=jq) (id:=0) WS).2.2.2];cases Aq:i.k.lx with
     |true=>rw[(gj Aq aQ).1]
     |false=>rw[u9 Aq,u9 Aq]
    rw[gZ]at hA;have xu:=K0.1;simp only[sx,a7]at xu;obtain⟨_,xu⟩:=xu;cases bg:i.k.fL c2 cK with
    | some my=>
      have nh:=O6 bg;rw[bg]at hA;simp only at hA⊢;obtain⟨rfl,rfl⟩:=gj nh aQ;rw[if_pos nh]at xu;simp only[a7]at xu;intro p ae b hb;have oR:=ae;simp only[r2,nh,if_true]at oR;obtain⟨x,B,rfl⟩:=gx.1 oR;refine hA _ (K0.2 _ ae) b ?_;rw[show S yk x=S c2 x from BZ λt a8=>dT t (λaW=> ?_)]
      ·exact hb
      ·have:=ei.1 xu.2 t (Dl B a8);simp at this;exact this.1 aW
    | none=>
      rw[bg]at hA;simp only[iY,ei]at hA;simp only;intro p ae a b ag hb e;by_cases nh:i.k.lx=true
      ·-- Vj aUd aY4 aYo l2 aOG aOT:aaF ahX not run
       have:=Vv aQ bg aE;rw[nh]at this;cases this
      rw[if_neg nh]at xu;by_cases uW:k.k.lx=true
      ·simp only[r2,if_neg nh,if_pos uW]at ae;cases ae
      rw[if_neg uW]at xu;simp only[a7,uv,sj]at xu;have oR:=ae;simp only[r2,if_neg nh,if_neg uW]at oR;have aiS: ∀x∈k.k.nu++k.k.o3,S yk x=S c2 x:= λx B=>BZ λt a8=>dT t λaW=>by have:=ei.1 xu.2 t (Dl B a8);simp at this;exact this.1 aW
      have pe:S yk p.1=S c2 p.1/\S yk p.2=S c2 p.2:=by
       rcases jP.1 oR with aS|aS
       ·obtain⟨x,B,bI⟩:=wY.1 aS;obtain⟨y,Z,rfl⟩:=gx.1 bI;refine⟨?_,WS y (acy y Z)⟩;rcases jP.1 B with cZ|cZ
        ·exact aiS x (n3 _ cZ)
        ·split at cZ
         ·rename_i fw;rcases xu.1 with eg|eg
          ·rw[fw]at eg;cases eg
          ·cases aW:k.d with
           |none=>rw[aW]at cZ;cases cZ
           | some d=>rw[aW]at cZ eg;simp only[Pn,rz]at cZ;subst cZ;exact dT d (FJ eg.2)
         ·cases cZ
       ·obtain⟨x,B,bI⟩:=wY.1 aS;obtain⟨y,Z,rfl⟩:=gx.1 bI;exact⟨aiS x (o4 _ B),WS y (acy y (n3 _ Z))⟩
      have:=hA p (K0.2 p ae);obtain⟨x,y⟩:=p;simp only at this ag hb pe;rw[pe.1,pe.2,ag,hb]at this;simp[e]at this
   obtain⟨bT,bn,a9,bW,cA,fV⟩:=aIO cq K0.1 aio (λfw=>(bb fw).1) (λfw=>(bb fw).2) A E aE df;refine⟨bT,bn,yk,jq,Tv,a9,A6 bW cA a5,ch,λt a8=> ?_,λbI cZ=> ?_⟩
   ·have ql:t∉vS cI:= λaW=>a8 (by
     obtain⟨fk,mC,Ev⟩:=yh.1 aW;exact yh.2 ⟨fk,by simp[mC],Ev⟩)
    have Hs:k.d≠some t:= λaW=>a8 (yh.2 ⟨k,by simp,aW⟩);rw[dT t ql,aq3 A Hs]
   ·have Qj:vk i.zt k.d=true:=by
     have:=K0.1;simp only[sx,a7]at this;exact this.1.1.2
    have tM:e9 c2 i.g=true:=by
     cases aH:i.g with
     |none=>rfl
     | some Dt=>
       obtain⟨t,b⟩:=Dt;rw[aH]at cZ;simp only[e9]at cZ⊢;rw[aq3 A (t:=t) λaW=> ?_]
       ·exact cZ
       ·rw[aW]at Qj;exact FJ Qj (n3 _ (by simp[aH]))
    obtain⟨rfl,rfl⟩:=gj bI tM;exact⟨(fV bI cZ).1.symm,(fV bI cZ).2.symm⟩
def rA(iB:List Nat):List cS->Prop
 |[]=>True
 |k::bK=>(∀cI i post,bK=cI++i::post->(iB.getD i.aY 0).testBit k.aY=true\/(sx k i (vS cI)=true/\ ∀p∈r2 k i,p∈i.bc))/\rA iB bK
theorem rA.mu{iB:List Nat}: ∀(af:List cS) (k:cS) (C:List cS) (i:cS) (b1:List cS),rA iB (af++k::C++i::b1)->(iB.getD i.aY 0).testBit k.aY=true\/(sx k i (vS C)=true/\ ∀p∈r2 k i,p∈i.bc)
 |[],_,C,i,b1,h=>h.1 C i b1 rfl
 |_::af,k,C,i,b1,h=>rA.mu af k C i b1 h.2
theorem rA.ap4{iB:List Nat}: ∀(af:List cS) (x:cS) (C:List cS),rA iB (af++x::C)->rA iB (af++C)
 |[],_,_,h=>h.2
 | k::af,x,C,h=>by
   refine⟨λcI i post e=> ?_,rA.ap4 af x C h.2⟩;rcases List.append_eq_append_iff.1 e with⟨bz,aG,aN⟩|⟨bs,aG,aN⟩
   ·-- i aS6 JQ x
    have:=h.1 (af++x::bz) i post (by rw[aN];simp);refine this.imp id λbV=>⟨Pg (λt a8=> ?_) bV.1,bV.2⟩;rw[aG]at a8;obtain⟨fk,mC,Ev⟩:=yh.1 a8;refine yh.2 ⟨fk,?_,Ev⟩;rcases jP.1 mC with A|A
    ·exact o4 _ A
    ·exact n3 _ (by simp[A])
   ·cases bs with
    | nil=>simp only[sl]at aG;simp only[wZ]at aN;have:=h.1 (af++[x]) i post (by rw[<-aN];simp);refine this.imp id λbV=>⟨Pg (λt a8=> ?_) bV.1,bV.2⟩;rw[<-aG]at a8;obtain⟨fk,mC,Ev⟩:=yh.1 a8;exact yh.2 ⟨fk,o4 _ mC,Ev⟩
    | cons b bs=>simp only[uu,uw]at aN;obtain⟨rfl,aN⟩:=aN;exact h.1 cI i (bs++x::C) (by rw[aG];simp)
theorem aDY{iB:List Nat}{o:Oper}{b:Nat}(h:(Tr iB o).testBit b=true): ∃e∈o.after,Region.binds .any e=true/\(e.on=b\/(iB.getD e.on 0).testBit b=true):=by
 unfold Tr at h;have key: ∀(l:List Edge) (s:Nat),(l.foldl (λs e=>if Region.binds .any e then s|||2^e.on|||iB.getD e.on 0 else s) s).testBit b=true->s.testBit b=true\/ ∃e∈l,Region.binds .any e=true/\(e.on=b\/(iB.getD e.on 0).testBit b=true):=by
  intro l;induction l with
  |nil=>intro s h;exact .inl h
  | cons e l cj=>
    intro s h;simp only[zN]at h;rcases cj _ h with A|⟨dw,sF,E⟩
    ·split at A
     ·rename_i hb;simp only[Nat.testBit_or,uv,Nat.testBit_two_pow,eF]at A;rcases A with(A|A)|A
      ·exact .inl A
      ·exact .inr ⟨e,by simp,hb,.inl A⟩
      ·exact .inr ⟨e,by simp,hb,.inr A⟩
     ·exact .inl A
    ·exact .inr ⟨dw,by simp[sF],E⟩
 rcases key _ 0 h with A|⟨e,aU,E⟩
 ·simp at A
 ·exact⟨e,by simpa using aU,E⟩
theorem abv{jz:Nat->Prop}(ah2: ∀j iI,ops[j]?=some iI->jz j-> ∀e∈iI.after,Region.binds .any e=true->jz e.on):
 ∀ (l:List Oper) (dY:List Nat),(∀j,l[j]?=ops[dY.length+j]?)->
   (∀j,j<dY.length-> ∀iI,ops[j]?=some iI->(∀e∈iI.after,Region.binds .any e=true->jz e.on)-> ∀b,(dY.getD j 0).testBit b=true->jz b)->
   ∀j iI,ops[j]?=some iI->(∀e∈iI.after,Region.binds .any e=true->jz e.on)-> ∀b,((CS l dY).getD j 0).testBit b=true->jz b
 | [],dY,aA,P0,j,iI,aV,aW,b,hb=>by
   simp only[CS]at hb;by_cases h:j<dY.length
   ·exact P0 j h iI aV aW b hb
   ·rw[m7,qD (by omega)]at hb;simp at hb
 | o::l,dY,aA,P0,j,iI,aV,aW,b,hb=>by
   have aC:ops[dY.length]?=some o:=(by have:=aA 0;simpa using this.symm);refine abv ah2 l (dY++[Tr dY o]) (λi=>by have:=aA (i+1);simp at this⊢;rw[this];congr 1;omega) (λi Y FM Ho ah9 cB iL=> ?_) j iI aV aW b hb;simp only[iD,m8,yj]at Y;by_cases h:i<dY.length
   ·rw[m7,Bs h,<-m7]at iL;exact P0 i h FM Ho ah9 cB iL
   ·have lu:i=dY.length:=(by omega);subst lu;rw[m7,Br (c8 _)]at iL;simp only[Nat.sub_self,List.getElem?_cons_zero,Bw]at iL;have:FM=o:=DM (Ho.symm.trans aC);subst this;obtain⟨e,aU,KW,E⟩:=aDY iL;have aiA:=ah9 e aU KW;rcases E with rfl|E
    ·exact aiA
    ·by_cases ao:e.on<dY.length
     ·have hX: ∃TB,ops[e.on]?=some TB:=by
       have H:dY.length<ops.size:=(yg.1 aC).1;exact⟨ops[e.on],Jm (by omega)⟩
      obtain⟨TB,aiy⟩:=hX;exact P0 e.on ao TB aiy (ah2 e.on TB aiy aiA) cB E
     ·rw[m7,qD (by omega)]at E;simp at E
end
section
variable {P:Program} {aP:Nat} {b5:Callee} {base:Nat} {ops:Array Oper} {da:Nat}
theorem Tl{jz:Array Bool}{i j:Nat}(Y:i<jz.size):(jz.setIfInBounds i true).getD j false=true↔(j=i\/jz.getD j false=true):=by
 by_cases h:i=j
 ·subst h;simp[Y]
 ·rw[getD_set_ne false h];constructor
  ·exact .inr
  ·rintro(cw|cw)
   ·exact absurd cw.symm h
   ·exact cw
theorem afH(cq:sn P aP b5){Q:Exit->Act->World->Prop}{asw:aD}{aos:G}{Vm:Nat}: ∀(l6:Nat) (L:List cS) (jz:Array Bool) (z:aD) (m:G) (a:Act) (w:World) (ak:Ren),
 L.length=l6->jz.size=ops.size->(∀j,j<ops.size->(jz.getD j false=true↔ ∀cG∈L,cG.aY≠j))->
 (∀j iI,ops[j]?=some iI->jz.getD j false=true-> ∀e∈iI.after,Region.binds .any e=true->jz.getD e.on false=true)->
 (∀cG∈L,∃o,zR P ops da cG o)->(L.map (·.aY)).Nodup->rA (CS ops.toList []) L->
 (∀cI cG post,L=cI++cG::post-> ∀iI,ops[cG.aY]?=some iI-> ∀e∈iI.after,Region.binds .any e=true->jz.getD e.on false=true\/ ∃k∈cI,k.aY=e.on)->
 hl ak da z a->dG aP ak m w->aP<=w.heap.size->Vm<=base->(∀cG∈L,cG.k.fD=true->base+cG.aY<m.next/\m.F (base+cG.aY)=none/\ak (base+cG.aY)=none)->base<=m.next->
 lh b5 base L z m=some (asw,aos)->
 (∀ev w' cT,gQ ak cT->(∀b,b<Vm->cT b=ak b)->hl cT da asw ev->dG aP cT aos w'->Below aP w w'->Q .normal ev w')->wpAny P .any ops Q l6 jz a w
 | 0,L,jz,z,m,a,w,ak,dc,kk,Ex,_,_,_,_,_,H,al,_,_,_,_,jl,a6=>by have jx:L=[]:=si.1 dc;subst jx;simp only[lh,mP,w1]at jl;obtain⟨rfl,rfl⟩:=jl;refine⟨?_,a6 a w ak (gQ.refl ak) (λ_ _=>rfl) H al (Below.refl _ _)⟩;apply List.eq_nil_iff_forall_not_mem.2;intro i Y;obtain⟨A,iI,E,_⟩:=mem_ready.1 Y;have dA:i<ops.size:=(yg.1 E).1;have:=(Ex i dA).2 (by simp);rw[getD_both A]at this;cases this
 | l6+1,L,jz,z,m,a,w,ak,dc,kk,Ex,yL,Ar,eM,aij,Qu,H,al,cd,Ao,e2,xr,jl,a6=>by
   refine⟨λXv=> ?_,λi Y=> ?_⟩
   ·-- pF first cM aUf CH ready
    exfalso;cases L with
    |nil=>simp at dc
    | cons cG L=>
      obtain⟨o,aC⟩:=Ar cG (by simp);have dA:cG.aY<ops.size:=(yg.1 aC.1).1;have pb:cG.aY∈Region.ready .any ops jz:=by
       refine mem_ready.2 ⟨?_,o,aC.1,λe aU hb=> ?_⟩
       ·have:jz.getD cG.aY false≠true:= λh=>(Ex cG.aY dA).1 h cG (by simp) rfl;exact getD_in (by rw[kk];exact dA) (by simpa using this)
       ·rcases Qu [] cG L rfl o aC.1 e aU hb with h|⟨k,O,_⟩
        ·exact h
        ·cases O
      rw[Xv]at pb;cases pb
   ·obtain⟨XH,FM,Ho,ah8⟩:=mem_ready.1 Y;have dA:i<ops.size:=(yg.1 Ho).1;have ayc:jz.getD i false=false:=getD_both XH;have xx: ∃cG∈L,cG.aY=i:=by
     by_cases h: ∃cG∈L,cG.aY=i
     ·exact h
     ·exfalso;have:=(Ex i dA).2 (λcG mB e=>h ⟨cG,mB,e⟩);rw[ayc]at this;cases this
    obtain⟨cG,mB,rfl⟩:=xx;obtain⟨cI,post,rfl⟩:=List.append_of_mem mB;simp only[p7,lW,zM,Bx]at eM;have wo: ∀k∈cI,k.aY≠cG.aY:= λk O e=>eM.2.2 k.aY (gx.2 ⟨k,O,rfl⟩) cG.aY (by simp) e;have P4: ∀af k C,cI=af++k::C->sx k cG (vS C)=true/\ ∀p∈r2 k cG,p∈cG.bc:=by
     intro af k C e;subst e;rcases rA.mu af k C cG post (by simpa using aij)with h|h
     ·exfalso;have O:jz.getD k.aY false=true:=abv (ops:=ops) (jz:= λj=>jz.getD j false=true) yL ops.toList [] (by simp) (by simp) cG.aY FM Ho ah8 k.aY h;obtain⟨ao8,xA⟩:=Ar k (by simp);exact(Ex k.aY (yg.1 xA.1).1).1 O k (by simp) rfl
     ·exact h
    have Qa:=e2 cG (by simp);obtain⟨bT,bn,_,_,_,A,E,_,_,_⟩:=move cq cI z m jl P4 wo (λfw=>⟨(Qa fw).2.1,(Qa fw).1⟩);obtain⟨o,aC⟩:=Ar cG (by simp);have ka:=I5 cq A;refine aq5 cq aC H al cd (λfw=>(Qa fw).1) (λfw=>(Qa fw).2.2) A λev w' cT a9 bW cA fV g9=> ?_;refine afH cq l6 (cI++post) (jz.setIfInBounds cG.aY true) bT bn ev w' cT (by simp at dc⊢;omega) (by simp[kk]) (λj aV=> ?_) (λj iI wm aV e aU hb=> ?_) (λk O=>Ar k (by
     rcases jP.1 O with h|h
     ·exact o4 _ h
     ·exact n3 _ (by simp[h]))) ?_ (rA.ap4 cI cG post aij) (λaFj k apz e iI wm rK aU hb=> ?_) cA fV (mR cd g9.size) Ao (λk O fw=> ?_) (by omega) E (λbQ ea oE dC fK iz ky zk=>a6 bQ ea oE (a9.trans dC) (λb hb=>(fK b hb).trans (bW b (by omega) (by omega))) iz ky (g9.trans zk))
    ·rw[Tl (by rw[kk];exact dA)];constructor
     ·rintro(rfl|h) k O e
      ·rcases jP.1 O with h|h
       ·exact wo k h e
       ·exact eM.2.1.1 (gx.2 ⟨k,h,e⟩)
      ·refine(Ex j aV).1 h k ?_ e;rcases jP.1 O with h|h
       ·exact o4 _ h
       ·exact n3 _ (by simp[h])
     ·intro h;by_cases e:j=cG.aY
      ·exact .inl e
      ·refine .inr ((Ex j aV).2 λk O dw=> ?_);rcases jP.1 O with cw|cw
       ·exact h k (o4 _ cw) dw
       ·rcases hv.1 cw with cw|cw
        ·subst cw;exact e dw.symm
        ·exact h k (n3 _ cw) dw
    ·rw[Tl (by rw[kk];exact dA)]at aV⊢;rcases aV with rfl|aV
     ·have:iI=FM:=DM (wm.symm.trans Ho);subst this;exact .inr (ah8 e aU hb)
     ·exact .inr (yL j iI wm aV e aU hb)
    ·simp only[p7,zM];exact⟨eM.1,eM.2.1.2,λx B y Z=>eM.2.2 x B y (by simp[Z])⟩
    ·rw[Tl (by rw[kk];exact dA)];rcases List.append_eq_append_iff.1 e with⟨bz,aG,aN⟩|⟨bs,aG,aN⟩
     ·rcases Qu (cI++cG::bz) k apz (by rw[aN];simp) iI wm rK aU hb with h|⟨fk,mC,ct⟩
      ·exact .inl (.inr h)
      ·rcases jP.1 mC with h|h
       ·exact .inr ⟨fk,by rw[aG];exact o4 _ h,ct⟩
       ·rcases hv.1 h with h|h
        ·subst h;exact .inl (.inl ct.symm)
        ·exact .inr ⟨fk,by rw[aG];exact n3 _ h,ct⟩
     ·cases bs with
      | nil=>
        simp only[sl]at aG;simp only[wZ]at aN;rcases Qu (cI++[cG]) k apz (by rw[<-aN];simp) iI wm rK aU hb with h|⟨fk,mC,ct⟩
        ·exact .inl (.inr h)
        ·rcases jP.1 mC with h|h
         ·exact .inr ⟨fk,by rw[<-aG];exact h,ct⟩
         ·simp only[rz]at h;subst h;exact .inl (.inl ct.symm)
      | cons b bs=>
        simp only[uu,uw]at aN;obtain⟨rfl,aN⟩:=aN;rcases Qu aFj k (bs++cG::post) (by rw[aG];simp) iI wm rK aU hb with h|h
        ·exact .inl (.inr h)
        ·exact .inr h
    ·have q1:k∈cI++cG::post:=by
      rcases jP.1 O with h|h
      ·exact o4 _ h
      ·exact n3 _ (by simp[h])
     have aio:k.aY≠cG.aY:=by
      rcases jP.1 O with h|h
      ·exact wo k h
      ·exact λe=>eM.2.1.1 (gx.2 ⟨k,h,e⟩)
     obtain⟨aE,a5,ch⟩:=e2 k q1 fw;exact⟨by omega,UD cq A aE (by omega) a5,by rw[bW _ aE (by omega)];exact ch⟩
theorem agd{aY:Nat}{cG:cS}(h:O2 P ops da aY=some cG):cG.aY=aY/\ ∃o,zR P ops da cG o:=by
 unfold O2 at h;split at h
 ·rename_i o aC;split at h
  ·rename_i k g O aH;split at h
   ·rename_i aW;cases h;exact⟨rfl,o,aC,O,aH,rfl,aW⟩
   ·cases h
  ·cases h
 ·cases h
theorem Vr: ∀(MI:List Nat) (L:List cS),GR P ops da MI=some L->L.map (·.aY)=MI/\ ∀cG∈L,∃o,zR P ops da cG o
 |[],L,h=>by simp[GR]at h;subst h;simp
 | aY::r,L,h=>by
   simp only[GR]at h;split at h
   ·rename_i cG bK A E;cases h;obtain⟨e,o,aC⟩:=agd A;obtain⟨aE,a5⟩:=Vr r bK E;refine⟨by simp[e,aE],λk O=> ?_⟩;rcases hv.1 O with rfl|O
    ·exact⟨o,aC⟩
    ·exact a5 k O
   ·cases h
theorem agu{iB:List Nat}{i:cS}: ∀(nt:List cS) (uJ:List Nat),Pa iB i nt uJ=true->(∀p∈xf iB i nt,p∈i.bc)->
 ∀af k C,nt=af++k::C->(iB.getD i.aY 0).testBit k.aY=true\/(sx k i (uJ++vS af)=true/\ ∀p∈r2 k i,p∈i.bc)
 |[],_,_,_,af,k,C,e=>by simp at e
 | x::nt,uJ,h,hA,af,k,C,e=>by
   simp only[Pa,a7,uv]at h;cases af with
   | nil=>
     simp only[wZ,uw]at e;obtain⟨rfl,rfl⟩:=e;rcases h.1 with A|A
     ·exact .inl A
     ·by_cases hb:(iB.getD i.aY 0).testBit x.aY=true
      ·exact .inl hb
      ·refine .inr ⟨by simpa[vS]using A,λp ae=>hA p ?_⟩;simp only[xf,if_neg hb];exact o4 _ ae
   | cons a af=>
     simp only[uu,uw]at e;obtain⟨rfl,rfl⟩:=e;have:=agu (af++k::C) (uJ++x.d.toList) h.2 (λp ae=>hA p (by simp only[xf];exact n3 _ ae)) af k C rfl;refine this.imp id λbV=>⟨Pg (λt a8=> ?_) bV.1,bV.2⟩;simp only[vS,List.filterMap_cons]at a8⊢;cases aW:x.d with
     |none=>rw[aW]at a8;simpa using a8
     |some d=>rw[aW]at a8;simpa using a8
theorem agc{iB:List Nat}: ∀(MI:List Nat) (nt:List cS) (L:List cS),JV P ops da iB MI nt=some L->rA iB nt.reverse->
 L.map (·.aY)=MI/\(∀cG∈L,∃o,zR P ops da cG o)/\rA iB (nt.reverse++L)/\
 (∀cI cG post,L=cI++cG::post-> ∀iI,ops[cG.aY]?=some iI-> ∀e∈iI.after,Region.binds .any e=true-> ∃k∈nt.reverse++cI,k.aY=e.on)
 | [],nt,L,h,aH=>by simp[JV]at h;subst h;exact⟨rfl,by simp,by simpa using aH,by simp⟩
 | aY::r,nt,L,h,aH=>by
   simp only[JV]at h;split at h
   ·rename_i hk A;split at h
    ·rename_i hA;split at h
     ·rename_i bK ax1;cases h;simp only[a7]at hA;obtain⟨aG,op,b2⟩:=agd A;have av:zR P ops da ⟨hk.aY,hk.d,hk.g,hk.k,xf iB hk nt⟩ op:=b2;have q5:rA iB (cS.mk hk.aY hk.d hk.g hk.k (xf iB hk nt)::nt).reverse:=by
       rw[List.reverse_cons];have gR:=agu nt [] hA.1 (λp ae=>by
        have: ∀(l:List cS),xf iB ⟨hk.aY,hk.d,hk.g,hk.k,xf iB hk nt⟩ l=xf iB hk l:=by
         intro l;induction l with
         |nil=>rfl
         |cons x l cj=>simp only[xf];rw[cj];rfl
        rw[this]at ae;exact ae)
       -- pF new mK JQ all
       have key: ∀(l:List cS) (x:cS),rA iB l->(∀af k C,l=af++k::C->(iB.getD x.aY 0).testBit k.aY=true\/(sx k x (vS C)=true/\ ∀p∈r2 k x,p∈x.bc))->rA iB (l++[x]):=by
        intro l x;induction l with
        |nil=>intro _ _;exact⟨by intro cI i post e;simp at e,trivial⟩
        | cons k l cj=>
          intro aA B;refine⟨λcI i post e=> ?_,cj aA.2 λaf fk C e=>B (k::af) fk C (by rw[e];rfl)⟩;rcases List.append_eq_append_iff.1 e with⟨bz,aG,aN⟩|⟨bs,aG,aN⟩
          ·cases bz with
           | nil=>simp only[wZ,uw]at aN;obtain⟨rfl,_⟩:=aN;simp only[sl]at aG;subst aG;exact B [] k cI rfl
           |cons y bz=>simp at aN
          ·cases bs with
           | nil=>simp only[wZ,uw]at aN;obtain⟨rfl,_⟩:=aN;simp only[sl]at aG;subst aG;exact B [] k l rfl
           | cons y bs=>simp only[uu,uw]at aN;obtain⟨rfl,aN⟩:=aN;exact aA.1 cI i bs aG
       refine key _ _ aH λaf k C e=> ?_;have dw:nt=C.reverse++k::af.reverse:=by have:=congrArg List.reverse e;simpa using this
       refine(gR C.reverse k af.reverse dw).imp id λbV=>⟨Pg (λt a8=> ?_) bV.1,bV.2⟩;simp only[vS,wZ,yh,List.mem_reverse]at a8⊢;exact a8
      obtain⟨aE,a5,ch,dT⟩:=agc r _ bK ax1 q5;refine⟨by simp[aG,aE],λk O=> ?_,by simpa using ch,λcI cG post e iI wm rK aU hb=> ?_⟩
      ·rcases hv.1 O with rfl|O
       ·exact⟨op,av⟩
       ·exact a5 k O
      ·cases cI with
       | nil=>
         simp only[wZ,uw]at e;obtain⟨rfl,_⟩:=e;have bI:=hA.2;simp only[aG]at wm;simp only[ars,wm]at bI;simp only[ei,uv,sj,Jj,beq_iff_eq]at bI;rcases bI rK (by simpa using aU)with cZ|⟨k,O,cZ⟩
         ·rw[hb]at cZ;cases cZ
         ·exact⟨k,by simpa using O,cZ⟩
       | cons x cI=>simp only[uu,uw]at e;obtain⟨rfl,e⟩:=e;obtain⟨k,O,cZ⟩:=dT cI cG post e iI wm rK aU hb;exact⟨k,by simpa using O,cZ⟩
     ·cases h
    ·cases h
   ·cases h
end
end Go.DI
