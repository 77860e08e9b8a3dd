/-
  A part of the proof, shortened by tools of ours.
-/
import Derived.SizedLaws
import Derived.ChangeOld
import Derived.WideShapes
import Derived.OpenShut
import Derived.Test.YtmmkkggfmigppaaGreatZbf
set_option linter.all false
set_option maxRecDepth 8000
set_option maxHeartbeats 16000000
namespace Go.DI
open Go Go.RowKit
structure fI(b1:Nat->Prop)(b7 m W:G):Prop where
 next:W.next=m.next
 zH:b7.next<=m.next
 bh: ∀b,b1 b->b<m.next
 off: ∀b,b1 b->m.F b=none
 b0: ∀b,b1 b->W.F b=b7.F b/\W.mp b=b7.mp b
 eq: ∀b,¬b1 b->W.F b=m.F b
 mp:W.mp=m.mp
section
variable {b1:Nat->Prop} {b7 m W:G}
theorem fI.fp(J:fI b1 b7 m W){b:Nat}{x:en}(h:m.F b=some x): ¬b1 b:= λaW=>by rw[J.off b aW]at h;cases h
theorem fI.F(J:fI b1 b7 m W){b:Nat}{x:en}(h:m.F b=some x):W.F b=some x:=by rw[J.eq b (J.fp h),h]
theorem fI.fC(J:fI b1 b7 m W){b:Nat}{e:List (Value×Value)}(h:m.fC b=some e):W.fC b=some e:=by
 unfold G.fC at h⊢;cases aH:m.F b with
 |none=>rw[aH]at h;cases h
 |some x=>rw[aH]at h;rw[J.F aH,J.mp];exact h
theorem fI.Wg(J:fI b1 b7 m W){b:Nat}{e:List (Value×Value)}(h:m.fC b=some e): ¬b1 b:=by
 unfold G.fC at h;cases aH:m.F b with
 |none=>rw[aH]at h;cases h
 |some x=>exact J.fp aH
theorem fI.aK(J:fI b1 b7 m W){b:Nat}(hb: ¬b1 b)(x:Option en):fI b1 b7 (m.aK b x) (W.aK b x) where
 next:=J.next
 zH:=J.zH
 bh:=J.bh
 off c av:=by rw[aX (show c≠b from λh=>hb (h▸av)),J.off c av]
 b0 c av:=⟨by rw[aX (show c≠b from λh=>hb (h▸av)),(J.b0 c av).1],(J.b0 c av).2⟩
 eq c av:=by
  by_cases h:c=b
  ·subst h;simp only[G.F,G.aK,J.next,if_true]
  ·rw[aX h,aX h,J.eq c av]
 mp:=J.mp
theorem fI.hL(J:fI b1 b7 m W){b:Nat}(hb: ¬b1 b)(e:List (Value×Value)):fI b1 b7 (m.hL b e) (W.hL b e) where
 next:=J.next
 zH:=J.zH
 bh:=J.bh
 off c av:=by rw[o9 (show c≠b from λh=>hb (h▸av)),J.off c av]
 b0 c av:=by refine⟨by rw[o9 (show c≠b from λh=>hb (h▸av)),(J.b0 c av).1],by show(if c=b then some e else W.mp c)=_;rw[if_neg (show c≠b from λh=>hb (h▸av))];exact(J.b0 c av).2⟩
 eq c av:=by
  by_cases h:c=b
  ·subst h;simp only[G.F,G.hL,J.next,if_true]
  ·rw[o9 h,o9 h,J.eq c av]
 mp:=by show(λi=>if i=b then some e else W.mp i)=_;rw[J.mp];rfl
theorem fI.bU(J:fI b1 b7 m W)(k:Nat):fI b1 b7 (m.bU k) (W.bU k) where
 next:=by show W.next+k=m.next+k;rw[J.next]
 zH:=by have:=J.zH;show b7.next<=m.next+k;omega
 bh b hb:=by have:=J.bh b hb;show b<m.next+k;omega
 off b hb:=by rw[cl (J.bh b hb),J.off b hb]
 b0 b hb:=⟨by rw[cl (by rw[J.next];exact J.bh b hb),(J.b0 b hb).1],(J.b0 b hb).2⟩
 eq b hb:=by
  by_cases h:b<m.next
  ·rw[cl h,cl (by rw[J.next];exact h),J.eq b hb]
  ·simp[G.F,G.bU,J.next,h]
 mp:=J.mp
theorem fI.g2(J:fI b1 b7 m W){v:Value}{n:Nat}(h:g2 m v n=true):g2 W v n=true:=by
 unfold DI.g2 at h⊢;split at h
 ·rename_i a;simp only[a7]at h⊢;refine⟨h.1,?_⟩;cases aH:m.F a.block with
  |none=>rw[aH]at h;simp at h
  |some x=>rw[aH]at h;rw[J.F aH];exact h.2
 ·cases h
theorem fI.rG(J:fI b1 b7 m W){v:Value}(h:rG m v=true):rG W v=true:=by
 unfold DI.rG at h⊢;split at h
 ·rename_i a;cases aH:m.F a.block with
  |none=>rw[aH]at h;cases h
  |some x=>rw[aH]at h;rw[J.F aH];exact h
 ·cases h
theorem fI.lP(J:fI b1 b7 m W){v:Value}{n:Nat}{dE:Bool}(h:DI.g2 m v n=true):lP W dE n v=lP m dE n v:=by
 unfold DI.g2 at h;split at h
 ·rename_i a;simp only[a7]at h;cases aH:m.F a.block with
  |none=>rw[aH]at h;simp at h
  |some x=>simp only[DI.lP,gW,aH,J.F aH]
 ·cases h
theorem fI.pD(J:fI b1 b7 m W){v:Value}{n:Nat}{cs:List Value}(h:DI.g2 m v n=true):fI b1 b7 (pD m v cs) (pD W v cs):=by
 unfold DI.g2 at h;split at h
 ·rename_i a;simp only[a7]at h;cases aH:m.F a.block with
  |none=>rw[aH]at h;simp at h
  |some x=>simp only[DI.pD,aH,J.F aH];exact J.aK (J.fp aH) _
 ·cases h
theorem fI.fF(J:fI b1 b7 m W){v:Value}{I:Nat}(h:fF m I v=true):fF W I v=true:=by
 unfold DI.fF at h⊢;split at h
 ·exact h
 ·rename_i a l c;simp only[a7]at h⊢;refine⟨h.1,?_⟩;cases aH:m.F a.block with
  |none=>rw[aH]at h;simp at h
  |some x=>rw[aH]at h;rw[J.F aH];exact h.2
 ·cases h
theorem fI.iQ(J:fI b1 b7 m W){v:Value}(h:iQ m v=true):iQ W v=true:=by
 unfold DI.iQ at h⊢;split at h
 ·rfl
 ·rename_i a l c;cases aH:m.F a.block with
  |none=>rw[aH]at h;cases h
  |some x=>rw[aH]at h;rw[J.F aH];exact h
 ·cases h
theorem fI.fy(J:fI b1 b7 m W){v:Value}{I:Nat}(h:DI.fF m I v=true):fy W I v=fy m I v:=by
 unfold DI.fF at h;split at h
 ·rfl
 ·rename_i a l c;simp only[a7]at h;cases aH:m.F a.block with
  |none=>rw[aH]at h;simp at h
  |some x=>simp only[DI.fy,gW,aH,J.F aH]
 ·cases h
theorem fI.hR(J:fI b1 b7 m W){v:Value}{I:Nat}(h:DI.fF m I v=true):fI b1 b7 (hR m v) (hR W v):=by
 unfold DI.fF at h;split at h
 ·exact J
 ·rename_i a l c;simp only[a7]at h;cases aH:m.F a.block with
  |none=>rw[aH]at h;simp at h
  |some x=>exact J.aK (J.fp aH) _
 ·cases h
theorem fI.oe(J:fI b1 b7 m W){v:Value}{I:Nat}{cs:List Value}(h:DI.fF m I v=true):fI b1 b7 (oe m cs v) (oe W cs v):=by
 unfold DI.fF at h;split at h
 ·exact J
 ·rename_i a l c;simp only[a7]at h;cases aH:m.F a.block with
  |none=>rw[aH]at h;simp at h
  |some x=>simp only[DI.oe,aH,J.F aH];exact J.aK (J.fp aH) _
 ·cases h
theorem fI.lQ(J:fI b1 b7 m W){v:Value}{es:List (Value×Value)}(h:lQ m v=some es):lQ W v=some es:=by
 unfold DI.lQ at h⊢;split at h
 ·exact h
 ·exact J.fC h
 ·cases h
theorem M7(J:fI b1 b7 m W){k:an}{z:aD}(h:k.ok z m=true):k.ok z W=true:=by
 cases k with
 |s5 I n y=>simp only[an.ok,a7]at h⊢;exact⟨J.g2 h.1,h.2⟩
 |hq dE n x=>simp only[an.ok,a7]at h⊢;exact⟨J.g2 h.1,h.2⟩
 |store n x v=>simp only[an.ok,a7]at h⊢;exact⟨⟨⟨J.g2 h.1.1.1,J.rG h.1.1.2⟩,h.1.2⟩,h.2⟩
 |pN x=>simp only[an.ok,a7]at h⊢;exact⟨J.fF h.1,by rw[J.fy h.1];exact h.2⟩
 |app I bytes x y=>simp only[an.ok,a7]at h⊢;exact⟨⟨⟨⟨⟨J.fF h.1.1.1.1.1,J.iQ h.1.1.1.1.2⟩,J.fF h.1.1.1.2⟩,h.1.1.2⟩,h.1.2⟩,h.2⟩
 |hW I x=>simp only[an.ok,a7]at h⊢;exact⟨⟨J.fF h.1.1,J.iQ h.1.2⟩,h.2⟩
 | rf bc I o x eX=>
   simp only[an.ok]at h⊢;cases al:DI.lQ m (S z x)with
   |none=>rw[al]at h;cases h
   |some es=>rw[al]at h;rw[J.lQ al];exact h
 | po bc x eX v=>
   simp only[an.ok]at h⊢;split at h
   ·rename_i jZ b hb;cases al:m.fC b with
    |none=>rw[al]at h;cases h
    |some es=>rw[al]at h;rw[J.fC al];exact h
   ·cases h
 |_=>exact h
theorem N7(J:fI b1 b7 m W){k:an}{z:aD}{id:Nat}(h:k.ok z m=true):k.val id z W=k.val id z m:=by
 cases k with
 |hq dE n x=>simp only[an.ok,a7]at h;exact J.lP h.1
 |pN x=>simp only[an.ok,a7]at h;simp only[an.val,J.fy h.1]
 | rf bc I o x eX=>
   simp only[an.ok]at h;cases al:DI.lQ m (S z x)with
   |none=>rw[al]at h;cases h
   |some es=>simp only[an.val,al,J.lQ al]
 |_=>rfl
theorem MX(J:fI b1 b7 m W){k:an}{z:aD}{id:Nat}(e2: ¬b1 id)(h:k.ok z m=true):fI b1 b7 (k.hr id z m) (k.hr id z W):=by
 cases k with
 |nD I=>exact J.aK e2 _
 |oK x=>exact J.aK e2 _
 |mv a b c d=>exact J.aK e2 _
 |qb x=>exact J.aK e2 _
 |o8 a b c d e=>exact J.aK e2 _
 |hW I x=>simp only[an.ok,a7]at h;exact J.oe h.1.1
 |ov a b c d e=>exact J.aK e2 _
 |store n x v=>simp only[an.ok,a7]at h;exact J.pD h.1.1.1
 | app I bytes x y=>
   simp only[an.ok,a7]at h;simp only[an.hr];split
   ·exact J
   ·rw[J.fy h.1.1.1.1.1,J.fy h.1.1.1.2];exact(J.hR h.1.1.1.1.1).aK e2 _
 |re=>exact J.hL e2 _
 | po bc x eX v=>
   simp only[an.ok]at h;split at h
   ·rename_i jZ b hb;cases al:m.fC b with
    |none=>rw[al]at h;cases h
    |some es=>simp only[an.hr,hb,y9,al,J.fC al];exact J.hL (J.Wg al) _
   ·cases h
 |_=>exact J
theorem O5(J:fI b1 b7 m W){k:an}{z:aD}{my:Nat×List Value}(h:k.fL z m=some my):k.fL z W=some my:=by
 cases k with
 | mE bJ x args=>
   simp only[an.fL]at h⊢;split at h
   ·split at h
    ·exact h
    ·split at h
     ·rename_i av;simp only[a7]at av;rw[if_pos (by simp only[a7];exact⟨J.g2 av.1,av.2⟩),J.lP av.1];exact h
     ·cases h
    ·cases h
   ·cases h
 |_=>exact h
theorem Vu{m W:G}{k:an}{z:aD}(h:k.fL z m=none)(ax:k.ok z m=true):k.fL z W=none:=by
 refine u9 ?_;cases k with
 |l2 f a=>simp[an.ok]at ax
 |nc f a=>simp[an.ok]at ax
 |mE f a b=>simp[an.ok]at ax
 |_=>rfl
def Ow(b1:Nat->Prop)(b7:G)(b5:Callee):Prop:= ∀f a m r U,b5 f a m=some (r,U)-> ∀W,fI b1 b7 m W-> ∃cJ,b5 f a W=some (r,cJ)/\fI b1 b7 U cJ
theorem aa8{U cJ:G}(J:fI b1 b7 m W)(cV:fI b1 b7 U cJ){z:aD}{bc:List (Operand×Operand)}(h:vd z bc m U):vd z bc W cJ:= λp ae b hb=>by
 by_cases aW:b1 b
 ·rw[(J.b0 b aW).1,(cV.b0 b aW).1]
 ·rw[J.eq b aW,cV.eq b aW];exact h p ae b hb
theorem ad5{b5:Callee}(cq:Ow b1 b7 b5)(J:fI b1 b7 m W){base:Nat}(hb: ∀b,b1 b->b<base){o:cS}{z K:aD}{U:G}(h:iA b5 base o z m=some (K,U))(O:qQ o z m U):
 ∃cJ,iA b5 base o z W=some (K,cJ)/\fI b1 b7 U cJ/\qQ o z W cJ:=by
 unfold iA at h⊢;unfold qQ at O⊢;by_cases aQ:e9 z o.g=true
 ·rw[if_pos aQ]at h⊢
  replace O:=O aQ
  cases av:o.k.fL z m with
  | none=>
    rw[av]at h O;simp only at h O;split at h
    ·rename_i ax;cases h;simp only[Vu av ax];rw[if_pos (M7 J ax),N7 J ax];exact⟨_,rfl,MX J (λaW=>by have:=hb _ aW;omega) ax,λ_=>O⟩
    ·cases h
  | some my=>
    obtain⟨f,args⟩:=my;rw[av]at h O;simp only at h O;cases bb:b5 f args m with
    |none=>rw[bb]at h;cases h
    | some Jf=>obtain⟨v,bn⟩:=Jf;rw[bb]at h;cases h;obtain⟨cJ,A,cV⟩:=cq _ _ _ _ _ bb W J;simp only[O5 J av,A];exact⟨_,rfl,cV,λ_=>aa8 J cV O⟩
 ·rw[if_neg aQ]at h⊢;cases h;exact⟨W,rfl,J,λh=>absurd h aQ⟩
theorem AV{b5:Callee}(cq:Ow b1 b7 b5){base:Nat}(hb: ∀b,b1 b->b<base): ∀{L:List cS} {z K:aD} {m U W:G},fI b1 b7 m W->lh b5 base L z m=some (K,U)-> ∃cJ,lh b5 base L z W=some (K,cJ)/\fI b1 b7 U cJ
 |[],_,_,_,_,W,J,h=>by cases h;exact⟨W,rfl,J⟩
 | _::_,_,_,_,_,W,J,h=>by obtain⟨bT,bn,A,E,ao⟩:=s0 h;obtain⟨dh,aE,cW,a5⟩:=ad5 cq J hb A E;obtain⟨fS,ch,gF⟩:=AV cq hb cW ao;exact⟨fS,A6 aE a5 ch,gF⟩
theorem MG{f:aD->G->Option (cO×aD×G)}(bb: ∀z m e K U,f z m=some (e,K,U)-> ∀W,fI b1 b7 m W-> ∃cJ,f z W=some (e,K,cJ)/\fI b1 b7 U cJ):
 ∀{n:Nat} {z:aD} {m:G} {e:cO} {K:aD} {U W:G},kV f n z m=some (e,K,U)->fI b1 b7 m W-> ∃cJ,kV f n z W=some (e,K,cJ)/\fI b1 b7 U cJ
 |0,_,_,_,_,_,_,h,_=>by simp[kV]at h
 | n+1,z,m,e,K,U,W,h,J=>by
   rcases MH h with⟨bT,bn,A,E⟩|⟨A,E⟩
   ·obtain⟨dh,aE,cW⟩:=bb _ _ _ _ _ A W J;obtain⟨fS,a5,gF⟩:=MG bb E cW;exact⟨fS,by simp only[kV,aE];exact a5,gF⟩
   ·obtain⟨dh,aE,cW⟩:=bb _ _ _ _ _ A W J;refine⟨dh,?_,cW⟩;simp only[kV,aE];cases e with
    |eR=>exact absurd rfl E
    |cF id=>rfl
    |fi=>rfl
theorem HB{m:G}{b:Nat}:(pW m).F b=(m.F b).map HA:=by
 unfold G.F;show(if b<m.next then _ else _)=_;by_cases h:b<m.next
 ·rw[if_pos h,if_pos h];rfl
 ·rw[if_neg h,if_neg h];rfl
theorem fI.pW(J:fI b1 b7 m W):fI b1 (pW b7) (pW m) (pW W) where
 next:=J.next
 zH:=J.zH
 bh:=J.bh
 off b hb:=by rw[HB,J.off b hb];rfl
 b0 b hb:=⟨by rw[HB,HB,(J.b0 b hb).1],rfl⟩
 eq b hb:=by rw[HB,HB,J.eq b hb]
 mp:=rfl
theorem fI.s7(J:fI b1 b7 m W){I:Nat}{v:Value}(h:s7 I m v=true):s7 I W v=true:=by
 unfold DI.s7 at h⊢;split at h
 ·rename_i a l c;cases aH:m.F a.block with
  |none=>rw[aH]at h;cases h
  |some x=>rw[aH]at h;rw[J.F aH];exact h
 ·rfl
theorem fI.pl(J:fI b1 b7 m W){o:cS}{z:aD}(h:pl o z m=true):pl o z W=true:=by
 unfold DI.pl at h⊢;simp only[a7]at h⊢;refine⟨⟨h.1.1,?_⟩,M7 J h.2⟩;have:=h.1.2;split at this
 ·exact J.s7 this
 ·cases this
theorem pQ{b5:Callee}(cq: ∀b7,Ow b1 b7 b5){n:Nat}: ∀{c:aB} {z K:aD} {m U W:G} {e:cO},e5 b5 n c z m=some (e,K,U)->fI b1 b7 m W-> ∃cJ,e5 b5 n c z W=some (e,K,cJ)/\fI b1 b7 U cJ
 | .skip,_,_,_,_,W,_,h,J=>by cases h;exact⟨W,rfl,J⟩
 | .kN ops,z,K,m,U,W,e,h,J=>by
   simp only[e5]at h⊢;split at h
   ·rename_i bT bn ar;cases h;have cV:fI b1 b7 (h9 ops m) (h9 ops W):=by
     unfold h9;split
     ·exact J.bU _
     ·exact J
    obtain⟨cJ,g,gF⟩:=AV (cq b7) (base:=m.next) (λb hb=>J.bh b hb) cV ar;refine⟨cJ,?_,gF⟩;rw[J.next,g]
   ·cases h
 | .ve cI o bK,z,K,m,U,W,e,h,J=>by
   simp only[e5]at h⊢;split at h
   ·rename_i bT bn A;split at h
    ·rename_i ax;split at h
     ·rename_i c2 cK E;cases h;obtain⟨dh,aE,cW⟩:=AV (cq b7) (base:=m.next) (λb hb=>J.bh b hb) (J.bU _) A;have O:o.k.ok bT bn=true:=(by unfold DI.pl at ax;simp only[a7]at ax;exact ax.2);obtain⟨fS,a5,gF⟩:=AV (cq _) (base:=m.next) (λb hb=>J.bh b hb) cW.pW E;rw[J.next,aE];simp only[cW.pl ax,if_true,N7 cW O,a5,gF.next,cW.next];exact⟨_,rfl,(MX cW (λaW=>by have:=J.bh _ aW;omega) O).bU _⟩
     ·cases h
    ·cases h
   ·cases h
 | .kB a b,z,K,m,U,W,e,h,J=>by
   simp only[e5]at h⊢;split at h
   ·rename_i bT bn A;obtain⟨dh,aE,cW⟩:=pQ cq A J;obtain⟨fS,a5,gF⟩:=pQ cq h cW;exact⟨fS,by rw[aE];exact a5,gF⟩
   ·rename_i bx;obtain⟨dh,aE,cW⟩:=pQ cq h J;refine⟨dh,?_,cW⟩;rw[aE];cases e with
    |eR=>exact absurd h (bx _ _)
    |cF id=>rfl
    |fi=>rfl
 | .nG x a b,z,K,m,U,W,e,h,J=>by
   simp only[e5]at h⊢;split at h
   ·rename_i A;rw[if_pos A];split at h
    ·rename_i E;rw[if_pos E];exact pQ cq h J
    ·rename_i E;rw[if_neg E];exact pQ cq h J
   ·cases h
 | .block id c,z,K,m,U,W,e,h,J=>by
   simp only[e5]at h⊢;split at h
   ·rename_i A;obtain⟨dh,aE,cW⟩:=pQ cq A J;rw[aE];simp only;split at h
    ·rename_i e2;cases h;exact⟨dh,by rw[if_pos e2],cW⟩
    ·rename_i e2;cases h;exact⟨dh,by rw[if_neg e2],cW⟩
   ·rename_i bx;obtain⟨dh,aE,cW⟩:=pQ cq h J;refine⟨dh,?_,cW⟩;rw[aE];cases e with
    |eR=>rfl
    |cF id=>exact absurd h (bx _ _ _)
    |fi=>rfl
 | .loop c,z,K,m,U,W,e,h,J=>by simp only[e5]at h⊢;exact MG (f:=e5 b5 n c) (λz m e K U A W J=>pQ cq A J) h J
 | .cF id,_,_,_,_,W,_,h,J=>by cases h;exact⟨W,rfl,J⟩
 | .fi,_,_,_,_,W,_,h,J=>by cases h;exact⟨W,rfl,J⟩
theorem FT(J:fI b1 b7 m W){z:aD}{r:ln}(h:r6 m z r=true):r6 W z r=true/\sZ W z r=sZ m z r:=by
 cases r with
 |bL t=>exact⟨rfl,rfl⟩
 | hy t dE n=>simp only[r6,a7]at h⊢;exact⟨⟨J.g2 h.1,h.2⟩,J.lP h.1⟩
theorem acD(J:fI b1 b7 m W){z:aD}{cH:List ln}(h:mL m z cH=true):mL W z cH=true/\m3 W z cH=m3 m z cH:=by
 have ar: ∀r∈cH,r6 m z r=true:=by simpa[mL]using h
 refine⟨by simp only[mL,ei];exact λr al=>(FT J (ar r al)).1,?_⟩;unfold m3;split
 ·exact(FT J (ar _ (by simp))).2
 ·rw[DJ λr al=>(FT J (ar r al)).2]
theorem X4(J:fI b1 b7 m W){args:List Value}{r:Value}{U:G}(h:tO args m=some (r,U)): ∃cJ,tO args W=some (r,cJ)/\fI b1 b7 U cJ:=by
 obtain⟨s,i,y,rfl,ax,rfl,rfl⟩:=Lq h;simp only[tP,a7]at ax;obtain⟨a,b,c,d,e⟩:=ax;have xA:tP W s i y=true:=by simp only[tP,a7];exact⟨J.fF a,J.iQ b,J.fF c,J.iQ d,e⟩
 have aj: ∀k,k=m.next-> ¬b1 k:= λk O=>by intro h;have:=J.bh _ h;omega
 refine⟨((hR W s).bU 1).aK m.next (some ⟨fy m 1 y++fy m 1 s,true⟩),?_,((J.hR a).bU 1).aK (aj _ rfl) _⟩;simp only[tO,xA,if_true,xK,u6,J.next,J.fy a,J.fy c]
theorem JY{P:Program}: ∀n b7,Ow b1 b7 (kS P n)
 |0,_=> λf a m r U h=>by simp[kS]at h
 | n+1,b7=> λf a m r U h W J=>by
   simp only[kS]at h⊢;split at h
   ·rename_i u df;split at h
    ·rename_i eW;rw[if_pos eW];split at h
     ·cases h
     ·rename_i e K bn bx hX;obtain⟨dh,aE,cW⟩:=pQ (JY n) hX J;split at h
      ·rename_i ar;cases h;obtain⟨a5,ch⟩:=acD cW ar;rw[aE];refine⟨dh,?_,cW⟩;cases e with
       |eR=>simp only[a5,ch,if_true]
       |fi=>simp only[a5,ch,if_true]
       |cF id=>exact absurd rfl (bx id)
      ·cases h
     ·cases h
    ·cases h
   ·split at h
    ·rename_i ja;rw[if_pos ja];exact X4 J h
    ·cases h
end
structure BE(p m:G):Prop where
 next:p.next=m.next
 mp:p.mp=m.mp
 F: ∀b x,p.F b=some x->m.F b=some x
structure asL(p m jV U:G):Prop where
 part:BE jV U
 next:m.next<=U.next
 jd: ∀b,b<m.next->p.F b=none->U.F b=m.F b/\jV.F b=none/\U.mp b=m.mp b
theorem eu.frame{P:Program}{f:Nat}{args:List Value}{p m:G}{bu:Value->G->Prop}(ae:BE p m)(h:eu P f args p bu):
 eu P f args m λr U=> ∃jV,bu r jV/\asL p m jV U:=by
 obtain⟨n,r,jV,A,q⟩:=h;have J:fI (λb=>b<p.next/\p.F b=none) m p m:=by
  refine⟨ae.next.symm,by rw[ae.next];exact c8 _,λb hb=>hb.1,λb hb=>hb.2,λb _=>⟨rfl,rfl⟩,λb hb=> ?_,ae.mp.symm⟩;cases aH:p.F b with
  |some x=>exact ae.F b x aH
  | none=>
    have: ¬b<p.next:= λdA=>hb ⟨dA,aH⟩
    have E: ¬b<m.next:=by rw[<-ae.next];exact this
    simp only[G.F,E,if_false]
 obtain⟨U,E,cV⟩:=JY n m _ _ _ _ _ A m J;refine⟨n,r,U,E,jV,q,⟨cV.next.symm,cV.mp.symm,λb x hb=>cV.F hb⟩,?_,λb hb aj=> ?_⟩
 ·rw[cV.next];exact cV.zH
 ·have aW:b<p.next/\p.F b=none:=⟨by rw[ae.next];exact hb,aj⟩
  exact⟨(cV.b0 b aW).1,cV.off b aW,(cV.b0 b aW).2⟩
inductive gm where
 |int (k:IntKind)
 |bool
 |str
 |slice (e:gm)
 |unit
 |pt (a b:gm)
abbrev gm.b1:gm->Type
 | .int _=>Int
 | .bool=>Bool
 | .str=>ByteArray
 | .slice e=>List e.b1
 | .unit=>Unit
 | .pt a b=>a.b1×b.b1
def gm.cells:gm->Nat
 | .unit=>0
 | .pt a b=>a.cells+b.cells
 |_=>1
def gm.bh:gm->Nat
 | .int .u32=>4
 |_=>1
theorem gm.aDC(s:gm):1<=s.bh:=by unfold gm.bh;split<;>omega
theorem gm.aDB(s:gm){n k:Nat}(h:n*s.bh<=k):n<=k:=mR (Nat.le_mul_of_pos_right n s.aDC) h
def gm.isAgg:gm->Bool
 | .unit| .pt _ _=>true
 |_=>false
def tD(P:Program)(h:TypeId->gm->Bool):Nat->List Field->gm->Bool
 |_,[],.unit=>true
 |off,f::fs,.pt a b=>f.offset==off&&h f.type a&&P.cellsOf f.type==a.cells&&tD P h (off+a.cells) fs b
 |_,_,_=>false
def tC(h:gm->Bool)(I:Nat):Nat->gm->Bool
 |0,.unit=>true
 |n+1,.pt a b=>h a&&a.cells==I&&tC h I n b
 |_,_=>false
def Cc(P:Program):Nat->TypeId->gm->Bool
 |0,_,_=>false
 | n+1,t,s=>match P.underlying t,s with
   |some (.int k),.int fk=>decide (k=fk)
   |some .bool,.bool=>true
   |some .string,.str=>true
   |some (.slice e),.slice gY=>Cc P n e gY&&P.cellsOf e==gY.cells&&decide (0<gY.cells)&&decide (gY.bh<=P.bytesOf e)
   |some (.struct fs),s=>s.isAgg&&P.cellsOf t==s.cells&&tD P (Cc P n) 0 fs.toList s
   |some (.array k e),s=>s.isAgg&&P.cellsOf t==s.cells&&tC (Cc P n e) (P.cellsOf e) k s
   |_,_=>false
abbrev qN{e:gm}(l:(gm.slice e).b1):List e.b1:=l
def tf(m:G):(s:gm)->List Value->s.b1->Prop
 | .int k,cs,n=>cs=[.int k n]/\(Lit.int k n).wf=true
 | .bool,cs,b=>cs=[.bool b]
 | .str,cs,s=>cs=[.string s]/\s.size<=reachBytes
 | .slice e,cs,l=>(cs=[.slice none 0 0]/\qN l=[])\/ ∃(b:Nat) (bJ:List (List Value)),cs=[.slice (some ⟨b,0,none⟩) (qN l).length e.cells]/\m.F b=some ⟨bJ.flatten,false⟩/\(qN l).length*e.bh<=reachBytes/\bJ.length=(qN l).length/\(∀(i:Nat) (r:List Value) (d:e.b1),bJ[i]?=some r->(qN l)[i]?=some d->tf m e r d)
 | .unit,cs,_=>cs=[]
 | .pt a b,cs,d=> ∃ck c9,cs=ck++c9/\tf m a ck d.1/\tf m b c9 d.2
theorem tf.len{m:G}: ∀{s:gm} {cs:List Value} {d:s.b1},tf m s cs d->cs.length=s.cells
 | .int _,_,_,h=>by rw[h.1];rfl
 | .bool,cs,d,h=>by have:cs=[.bool d]:=h;rw[this];rfl
 | .str,_,_,h=>by rw[h.1];rfl
 | .slice _,_,_,h=>by rcases h with⟨rfl,_⟩|⟨b,bJ,rfl,_⟩<;>rfl
 | .unit,cs,_,h=>by have:cs=[]:=h;rw[this];rfl
 | .pt a b,_,_,h=>by obtain⟨ck,c9,rfl,A,E⟩:=h;simp[gm.cells,A.len,E.len]
theorem tf.bt{m U:G}(al: ∀b x,m.F b=some x->x.own=false->U.F b=some x): ∀{s:gm} {cs:List Value} {d:s.b1},tf m s cs d->tf U s cs d
 | .int _,_,_,h=>h
 | .bool,_,_,h=>h
 | .str,_,_,h=>h
 | .slice e,_,_,h=>by
   rcases h with h|⟨b,bJ,A,E,ao,aS,bI⟩
   ·exact .inl h
   ·exact .inr ⟨b,bJ,A,al _ _ E rfl,ao,aS,λi r d ar aW=>(bI i r d ar aW).bt al⟩
 | .unit,_,_,h=>h
 | .pt a b,_,_,h=>by obtain⟨ck,c9,bX,A,E⟩:=h;exact⟨ck,c9,bX,A.bt al,E.bt al⟩
def FN:(s:gm)->s.b1->Prop
 | .int k,n=>(Lit.int k n).wf=true
 | .bool,_=>True
 | .str,s=>s.size<=reachBytes
 | .slice e,l=>(qN l).length*e.bh<=reachBytes/\ ∀x∈qN l,FN e x
 | .unit,_=>True
 | .pt a b,d=>FN a d.1/\FN b d.2
theorem tf.ok{m:G}: ∀{s:gm} {cs:List Value} {d:s.b1},tf m s cs d->FN s d
 | .int _,_,_,h=>h.2
 | .bool,_,_,_=>trivial
 | .str,_,_,h=>h.2
 | .slice e,_,l,h=>by
   rcases h with⟨_,h⟩|⟨b,bJ,A,E,ao,aS,bI⟩
   ·subst h;exact⟨by simp[qN],λx B=>by cases B⟩
   ·refine⟨ao,λx B=> ?_⟩;obtain⟨i,Y,rfl⟩:=n4 B;exact(bI i (bJ[i]'(by omega)) _ (by simp) (by simp)).ok
 | .unit,_,_,_=>trivial
 | .pt a b,_,_,h=>by obtain⟨ck,c9,bX,A,E⟩:=h;exact⟨A.ok,E.ok⟩
def U1(m:G)(s:gm)(v:Value)(d:s.b1):Prop:= ∃cs,tf m s cs d/\v=if s.isAgg then .agg cs.toArray else cs.headD undef
inductive zO(m:G):List gm->List Value->Prop
 |nil:zO m [] []
 |cons {s:gm} {v:Value} {d:s.b1} {nw:List gm} {vs:List Value} (h:U1 m s v d) (H:zO m nw vs):zO m (s::nw) (v::vs)
section
variable {aP:Nat} {ak:Ren} {m:G} {w:World}
theorem dG.afA(al:dG aP ak m w)(aC: ∀b x,m.F b=some x->x.own=false){xs:List Value}{l:vL}(aA:l.c<w.heap.size)(aj:xs.length<=l.n)
 (B: ∀i v,xs[i]?=some v->ad v=true/\ ∃bZ,w.cell? ⟨l.c,l.o+i,none⟩=some bZ/\dX ak v bZ):
 dG aP (hu ak m.next l) ((m.bU 1).aK m.next (some ⟨xs,false⟩)) w/\gQ ak (hu ak m.next l)/\(∀b x,m.F b=some x->((m.bU 1).aK m.next (some ⟨xs,false⟩)).F b=some x)/\
  (∀b x,((m.bU 1).aK m.next (some ⟨xs,false⟩)).F b=some x->x.own=false)/\((m.bU 1).aK m.next (some ⟨xs,false⟩)).F m.next=some ⟨xs,false⟩:=by
 have ar:ak m.next=none:=by
  cases h:ak m.next with
  |none=>rfl
  |some l=>have:=al.lq _ _ h;omega
 have eW:=sf (l:=l) ar;have aiR:((m.bU 1).aK m.next (some ⟨xs,false⟩)).F m.next=some ⟨xs,false⟩:=cb (by simp)
 have qk: ∀b x,m.F b=some x->((m.bU 1).aK m.next (some ⟨xs,false⟩)).F b=some x:= λb x hb=>by have:=aF hb;rw[aX (by omega),cl this,hb]
 have Ap: ∀b x,((m.bU 1).aK m.next (some ⟨xs,false⟩)).F b=some x->(b=m.next/\x=⟨xs,false⟩)\/m.F b=some x:= λb x hb=>by
  by_cases e:b=m.next
  ·subst e;rw[aiR]at hb;cases hb;exact .inl ⟨rfl,rfl⟩
  ·rw[aX e,G.cl]at hb;exact .inr hb
 have j4: ∀b x,((m.bU 1).aK m.next (some ⟨xs,false⟩)).F b=some x->x.own=false:= λb x hb=>by
  rcases Ap b x hb with⟨_,rfl⟩|h
  ·rfl
  ·exact aC _ _ h
 refine⟨⟨λb c7 hb=> ?_,λb c7 hb=> ?_,λb x hb=> ?_,λb x cB hM hS jn A E=> ?_,λb es hb=> ?_,λb es hb=> ?_,λb x hS A E=>(by rw[j4 _ _ A]at E;cases E)⟩,eW,qk,j4,aiR⟩
 ·unfold hu at hb;split at hb
  ·rename_i e;rw[e];simp
  ·have:=al.lq _ _ hb;simp;omega
 ·unfold hu at hb;split at hb
  ·cases hb;exact aA
  ·exact al.mb _ _ hb
 ·rcases Ap b x hb with⟨rfl,rfl⟩|h
  ·exact⟨l,by simp[hu],aj,λi v M=>by obtain⟨a9,bZ,bW,cA⟩:=B i v M;exact⟨a9,bZ,bW,cA.bt eW⟩,λh=>by cases h⟩
  ·obtain⟨c7,aE,a5,ch,dT⟩:=al.md b x h;exact⟨c7,eW _ _ aE,a5,λi v M=>by obtain⟨a9,bZ,bW,cA⟩:=ch i v M;exact⟨a9,bZ,bW,cA.bt eW⟩,dT⟩
 ·rw[j4 _ _ A]at E;cases E
 ·obtain⟨c7,h⟩:=al.xV b es hb;exact⟨c7,eW _ _ h⟩
 ·exfalso;unfold G.fC at hb;split at hb
  ·rename_i h;have:=j4 _ _ h;cases this
  ·cases hb
end
section
variable {g1:Type} {enc:TypeId×Value->g1} {P:Program} {az:World}
theorem aeB{P:Program}{e:TypeId}{d:DataW g1}{n:Nat}: ∀{l:List (DataW g1)},d∈l->n∈d.weights P e->n∈DataW.weightsAll P e l
 |[],h,_=>by cases h
 | x::r,h,aj=>by
   simp only[DataW.weightsAll,jP];rcases hv.1 h with rfl|h
   ·exact .inl aj
   ·exact .inr (aeB h aj)
structure U5(az:World)(ak:Ren)(m:G)(s:gm)(cs:List Value)(cT:Ren)(U:G)(bz:List Value)(d:s.b1):Prop where
 ow:dG az.heap.size cT U az
 AN:gQ ak cT
 m1: ∀b x,m.F b=some x->U.F b=some x
 own: ∀b x,U.F b=some x->x.own=false
 yf:dd cT bz cs
 mK: ∀v∈bz,ad v=true
 DU:tf U s bz d
def Ox(az:World)(cs:List Value):Prop:= ∀a len cap,.slice (some a) len cap∈cs->0<az.heap.size
def OC(enc:TypeId×Value->g1)(P:Program)(az:World)(t:TypeId)(s:gm):Prop:=
 ∀l6 cs x,DataW.trod enc P az 0 (λ_=>true) true l6 t cs=some x->(∀n∈x.1.weights P t,n<=reachBytes)->Ox az cs-> ∀ak m,dG az.heap.size ak m az->(∀b x,m.F b=some x->x.own=false)-> ∃cT U bz d,U5 az ak m s cs cT U bz d
theorem apd{h:TypeId->gm->Bool}(bV: ∀t s,h t s=true->OC enc P az t s): ∀(fs:List Field) (s:gm) (off l6:Nat) (cs:List Value),tD P h off fs s=true->off+s.cells<=cs.length->
 (∀f∈fs,∃x,DataW.trod enc P az 0 (λ_=>true) true l6 f.type ((cs.drop f.offset).take (P.cellsOf f.type))=some x/\ ∀n∈x.1.weights P f.type,n<=reachBytes)->Ox az cs->
 ∀ak m,dG az.heap.size ak m az->(∀b x,m.F b=some x->x.own=false)-> ∃cT U bz d,U5 az ak m s ((cs.drop off).take s.cells) cT U bz d
 |[],.unit,off,l6,cs,H,aA,B,bE,ak,m,al,aC=>⟨ak,m,[],(),al,gQ.refl ak,λ_ _ h=>h,aC,by simpa[gm.cells]using dd.nil ak,by simp,rfl⟩
 | f::fs,.pt a b,off,l6,cs,H,aA,B,bE,ak,m,al,aC=>by
   simp only[tD,a7,beq_iff_eq]at H;obtain⟨⟨⟨rfl,A⟩,E⟩,ao⟩:=H;simp only[gm.cells]at aA⊢;obtain⟨x,hh,XL⟩:=B f (by simp);rw[E]at hh;obtain⟨oD,bn,JL,gI,hk⟩:=bV _ _ A _ _ _ hh XL (λaf len cap eh=>bE af len cap (Bt (DH eh))) ak m al aC;obtain⟨oE,cK,JM,hz,hD⟩:=apd bV fs b (f.offset+a.cells) l6 cs ao (by omega) (λavm v8=>B avm (by simp[v8])) bE oD bn hk.ow hk.own;refine⟨oE,cK,JL++JM,(gI,hz),hD.ow,hk.AN.trans hD.AN,λb x hb=>hD.m1 _ _ (hk.m1 _ _ hb),hD.own,?_,?_,⟨JL,JM,rfl,hk.DU.bt (λb x hb _=>hD.m1 _ _ hb),hD.DU⟩⟩
   ·rw[List.take_add,DO];exact(hk.yf.bt hD.AN).p8 hD.yf
   ·intro v M;rcases jP.1 M with h|h
    ·exact hk.mK v h
    ·exact hD.mK v h
 |[],.int _,_,_,_,H,_,_,_,_,_,_,_=>by simp[tD]at H
 |[],.bool,_,_,_,H,_,_,_,_,_,_,_=>by simp[tD]at H
 |[],.str,_,_,_,H,_,_,_,_,_,_,_=>by simp[tD]at H
 |[],.slice _,_,_,_,H,_,_,_,_,_,_,_=>by simp[tD]at H
 |[],.pt _ _,_,_,_,H,_,_,_,_,_,_,_=>by simp[tD]at H
 |_::_,.int _,_,_,_,H,_,_,_,_,_,_,_=>by simp[tD]at H
 |_::_,.bool,_,_,_,H,_,_,_,_,_,_,_=>by simp[tD]at H
 |_::_,.str,_,_,_,H,_,_,_,_,_,_,_=>by simp[tD]at H
 |_::_,.slice _,_,_,_,H,_,_,_,_,_,_,_=>by simp[tD]at H
 |_::_,.unit,_,_,_,H,_,_,_,_,_,_,_=>by simp[tD]at H
theorem apc{h:gm->Bool}{e:TypeId}{I:Nat}(bV: ∀s,h s=true->OC enc P az e s): ∀(n:Nat) (s:gm) (i l6:Nat) (cs:List Value),tC h I n s=true->i*I+s.cells<=cs.length->
 (∀j,i<=j->j<i+n-> ∃x,DataW.trod enc P az 0 (λ_=>true) true l6 e ((cs.drop (j*I)).take I)=some x/\ ∀n∈x.1.weights P e,n<=reachBytes)->Ox az cs->
 ∀ak m,dG az.heap.size ak m az->(∀b x,m.F b=some x->x.own=false)-> ∃cT U bz d,U5 az ak m s ((cs.drop (i*I)).take s.cells) cT U bz d
 |0,.unit,i,l6,cs,H,aA,B,bE,ak,m,al,aC=>⟨ak,m,[],(),al,gQ.refl ak,λ_ _ h=>h,aC,by simpa[gm.cells]using dd.nil ak,by simp,rfl⟩
 | n+1,.pt a b,i,l6,cs,H,aA,B,bE,ak,m,al,aC=>by
   simp only[tC,a7,beq_iff_eq]at H;obtain⟨⟨A,rfl⟩,ao⟩:=H;simp only[gm.cells]at aA⊢;obtain⟨x,hh,XL⟩:=B i (c8 _) (by omega);obtain⟨oD,bn,JL,gI,hk⟩:=bV _ A _ _ _ hh XL (λaf len cap eh=>bE af len cap (Bt (DH eh))) ak m al aC;have aG:(i+1)*a.cells=i*a.cells+a.cells:=(by rw[oC];omega);obtain⟨oE,cK,JM,hz,hD⟩:=apc bV n b (i+1) l6 cs ao (by omega) (λj A E=>B j (by omega) (by omega)) bE oD bn hk.ow hk.own;refine⟨oE,cK,JL++JM,(gI,hz),hD.ow,hk.AN.trans hD.AN,λb x hb=>hD.m1 _ _ (hk.m1 _ _ hb),hD.own,?_,?_,⟨JL,JM,rfl,hk.DU.bt (λb x hb _=>hD.m1 _ _ hb),hD.DU⟩⟩
   ·rw[List.take_add,DO,<-aG];exact(hk.yf.bt hD.AN).p8 hD.yf
   ·intro v M;rcases jP.1 M with h|h
    ·exact hk.mK v h
    ·exact hD.mK v h
 |0,.int _,_,_,_,H,_,_,_,_,_,_,_=>by simp[tC]at H
 |0,.bool,_,_,_,H,_,_,_,_,_,_,_=>by simp[tC]at H
 |0,.str,_,_,_,H,_,_,_,_,_,_,_=>by simp[tC]at H
 |0,.slice _,_,_,_,H,_,_,_,_,_,_,_=>by simp[tC]at H
 |0,.pt _ _,_,_,_,H,_,_,_,_,_,_,_=>by simp[tC]at H
 |_+1,.int _,_,_,_,H,_,_,_,_,_,_,_=>by simp[tC]at H
 |_+1,.bool,_,_,_,H,_,_,_,_,_,_,_=>by simp[tC]at H
 |_+1,.str,_,_,_,H,_,_,_,_,_,_,_=>by simp[tC]at H
 |_+1,.slice _,_,_,_,H,_,_,_,_,_,_,_=>by simp[tC]at H
 |_+1,.unit,_,_,_,H,_,_,_,_,_,_,_=>by simp[tC]at H
theorem ape{e:TypeId}{s:gm}(bV:OC enc P az e s){a:Addr}(H:a.spot=none){l6:Nat}(pS:0<az.heap.size): ∀(k:Nat),(∀i,i<k-> ∃cs x,az.cells? 0 (a.add (i*s.cells)) s.cells=some cs/\DataW.trod enc P az 0 (λ_=>true) true l6 e cs=some x/\ ∀n∈x.1.weights P e,n<=reachBytes)->
 ∀ak m,dG az.heap.size ak m az->(∀b x,m.F b=some x->x.own=false)->
 ∃ (cT:Ren) (U:G) (bJ:List (List Value)) (ds:List s.b1),dG az.heap.size cT U az/\gQ ak cT/\(∀b x,m.F b=some x->U.F b=some x)/\(∀b x,U.F b=some x->x.own=false)/\bJ.length=k/\ds.length=k/\(bJ.flatten).length=k*s.cells/\
   (∀i v,bJ.flatten[i]?=some v->ad v=true/\ ∃bZ,az.cell? ⟨a.block,a.off+i,none⟩=some bZ/\dX cT v bZ)/\(∀(i:Nat) (r:List Value) (d:s.b1),bJ[i]?=some r->ds[i]?=some d->tf U s r d)
 |0,_,ak,m,al,aC=>⟨ak,m,[],[],al,gQ.refl ak,λ_ _ h=>h,aC,rfl,rfl,by simp,by simp,by simp⟩
 | k+1,O,ak,m,al,aC=>by
   obtain⟨oD,bn,bJ,ds,aE,a5,ch,dT,gj,ft,nL,qU,yE⟩:=ape bV H pS k (λi Y=>O i (by omega)) ak m al aC;obtain⟨cs,x,av,B,ayl⟩:=O k (by omega);obtain⟨_,dc,v5⟩:=World.cells?_some av;obtain⟨oE,cK,bz,d,o⟩:=bV _ _ _ B ayl (λ_ _ _ _=>pS) oD bn aE dT;have fw:bz.length=s.cells:=o.DU.len;refine⟨oE,cK,bJ++[bz],ds++[d],o.ow,a5.trans o.AN,λb x hb=>o.m1 _ _ (ch _ _ hb),o.own,by simp[gj],by simp[ft],?_,?_,?_⟩
   ·simp[nL,fw,oC]
   ·intro i v M;rw[List.flatten_append,zJ]at M;split at M
    ·obtain⟨a9,bZ,bW,cA⟩:=qU i v M;exact⟨a9,bZ,bW,cA.bt o.AN⟩
    ·rename_i Y;rw[nL]at Y M;simp only[td,List.flatten_nil,sl]at M;refine⟨o.mK v (fX M),?_⟩;obtain⟨bZ,AE,ar⟩:=o.yf.F M;have lu:i-k*s.cells<s.cells:=(by have:=(cN.1 M).1;omega);have:=v5 _ lu;rw[AE]at this;refine⟨bZ,?_,ar⟩;rw[<-this];congr 1;obtain⟨jE,hG,OS⟩:=a;simp only at H;subst H;unfold Addr.add;split<;>split<;>simp<;>omega
   ·intro i r qc ar aW;rw[zJ]at ar aW;rw[gj]at ar;rw[ft]at aW;split at ar
    ·rename_i Y;rw[if_pos Y]at aW;exact(yE i r qc ar aW).bt (λb x hb _=>o.m1 _ _ hb)
    ·rename_i Y;rw[if_neg Y]at aW;have:i-k=0:=by
      have:=(cN.1 ar).1;simp at this;omega
     rw[this]at ar aW;simp at ar aW;subst ar;subst aW;exact o.DU
theorem apf: ∀(n:Nat) (t:TypeId) (s:gm),Cc P n t s=true->OC enc P az t s
 |0,_,_,h=>by cases h
 | n+1,t,s,h=>by
   have cj:=apf n;intro l6 cs x B oU bE ak m al aC;unfold Cc at h;split at h
   ·rename_i k fk ba;simp only[eF]at h;subst h;obtain⟨v,rfl,rfl,aQ⟩:=DataW.trod_int ba B;exact⟨ak,m,[.int k v],v,al,gQ.refl ak,λ_ _ h=>h,aC,dd.cons (.c4 rfl) (dd.nil ak),by simp[ad],⟨rfl,aQ⟩⟩
   ·rename_i ba;obtain⟨b,rfl,rfl⟩:=DataW.trod_bool ba B;exact⟨ak,m,[.bool b],b,al,gQ.refl ak,λ_ _ h=>h,aC,dd.cons (.c4 rfl) (dd.nil ak),by simp[ad],rfl⟩
   ·rename_i ba;obtain⟨v,rfl,rfl,aQ⟩:=DataW.trod_string ba B;exact⟨ak,m,[.string v],v,al,gQ.refl ak,λ_ _ h=>h,aC,dd.cons (.c4 rfl) (dd.nil ak),by simp[ad],⟨rfl,by have:=oU v.data.toList.length (by simp[DataW.weights]);simpa using this⟩⟩
   ·rename_i e gY ba;simp only[a7,beq_iff_eq,eF]at h;obtain⟨⟨⟨A,E⟩,ao⟩,awZ⟩:=h;rcases DataW.trod_slice ba B with⟨rfl,rfl⟩|⟨a,len,cap,Ea,bK,g0,_,rfl,rfl,_,xz,qY,tF,cp,c1,_⟩
    ·exact⟨ak,m,[.slice none 0 0],[],al,gQ.refl ak,λ_ _ h=>h,aC,dd.cons (.c4 rfl) (dd.nil ak),by simp[ad],.inl ⟨rfl,rfl⟩⟩
    ·have pS:0<az.heap.size:=bE a len cap (by simp);have Qw:len*gY.bh<=reachBytes:=by
      have bI:=oU ((Ea.length+bK.length)*P.bytesOf e) (by simp[DataW.weights,ba]);have cZ:len*gY.bh<=(Ea.length+bK.length)*P.bytesOf e:=Nat.mul_le_mul (by omega) awZ;omega
     have wx: ∀y∈Ea,∀n∈y.1.weights P e,n<=reachBytes:= λy Z n aj=>oU n (by simp only[DataW.weights,ba];exact Gx _ (o4 _ (aeB (List.mem_map_of_mem Z) aj)));rw[E]at cp c1;have c1:=c1 rfl
     -- where aeh CH a hy,pF aN9 CH plain
     have KY:0<cap->a.spot=none/\a.block<az.heap.size:=by
      intro av;have: ∃cs,az.cells? 0 a gY.cells=some cs:=by
       by_cases aA:0<len
       ·have:=cp 0 aA;obtain⟨y,Z⟩: ∃y,Ea[0]?=some y:=⟨Ea[0]'(by omega),by simp⟩;rw[Z,Option.bind_eq_some_iff]at this;obtain⟨cs,iu,_⟩:=this;exact⟨cs,by simpa[Addr.add]using iu⟩
       ·have:=c1.2 0 (by omega);obtain⟨y,Z⟩: ∃y,bK[0]?=some y:=⟨bK[0]'(by omega),by simp⟩;rw[Z,Option.bind_eq_some_iff]at this;obtain⟨cs,iu,_⟩:=this;exact⟨cs,by simpa[Addr.add,show len=0 by omega]using iu⟩
      obtain⟨cs,iu⟩:=this;refine⟨?_,World.cells?_block iu ao⟩;obtain⟨_,aA,v5⟩:=World.cells?_some iu;have bX:=v5 0 ao;obtain⟨jv,oN⟩: ∃jv,cs[0]?=some jv:=⟨cs[0]'(by omega),by simp⟩;rw[oN]at bX;simp only[Addr.add,if_true]at bX;unfold World.cell? at bX;split at bX
      ·split at bX
       ·cases bX
       ·rename_i gR;simpa using gR
      ·cases bX
     by_cases oN:cap=0
     ·obtain rfl:len=0:=(by omega);subst oN;obtain⟨eK,gp,kZ,ri,A0⟩:=al.afA aC (xs:=[]) (l:=⟨0,0,0⟩) pS (c8 _) (by simp);refine⟨_,_,[.slice (some ⟨m.next,0,none⟩) 0 gY.cells],[],eK,gp,kZ,ri,dd.cons (.slice (l:=⟨0,0,0⟩) (by simp[hu]) (.inl ⟨rfl,rfl⟩) (c8 _) (gd _)) (dd.nil _),by simp[ad],.inr ⟨m.next,[],rfl,A0,by simp[qN],rfl,by simp⟩⟩
     ·obtain⟨gR,aw1⟩:=KY (by omega);have P7: ∀i,i<len-> ∃cs x,az.cells? 0 (a.add (i*gY.cells)) gY.cells=some cs/\DataW.trod enc P az 0 (λ_=>true) true g0 e cs=some x/\ ∀n∈x.1.weights P e,n<=reachBytes:=by
       intro i Y;have:=cp i Y;obtain⟨y,Z⟩: ∃y,Ea[i]?=some y:=⟨Ea[i]'(by omega),by simp⟩;have ayq:=Z;rw[Z,Option.bind_eq_some_iff]at this;obtain⟨cs,iu,Z⟩:=this;exact⟨cs,y,iu,Z,wx y (fX ayq)⟩
      obtain⟨oD,bn,bJ,ds,aE,a5,ch,dT,gj,ft,nL,qU,yE⟩:=ape (cj _ _ A) gR pS len P7 ak m al aC;have eW:len*gY.cells<=cap*gY.cells:=zK _ xz;have ahy:(qN ds).length=len:=ft;obtain⟨eK,gp,kZ,ri,A0⟩:=aE.afA dT (xs:=bJ.flatten) (l:=⟨a.block,a.off,cap*gY.cells⟩) aw1 (by rw[nL];exact eW) qU
      refine⟨_,_,[.slice (some ⟨bn.next,0,none⟩) len gY.cells],ds,eK,a5.trans gp,λb x hb=>kZ _ _ (ch _ _ hb),ri,dd.cons (.slice (l:=⟨a.block,a.off,cap*gY.cells⟩) (by simp[hu]) (.inr ⟨?_,by simp⟩) xz qY) (dd.nil _),by simp[ad],
       .inr ⟨bn.next,bJ,by rw[ahy],A0,by rw[ahy];exact Qw,by omega,λi r d ar aW=>(yE i r d ar aW).bt (λb x hb _=>kZ _ _ hb)⟩⟩
      obtain⟨jE,hG,OS⟩:=a;simp only at gR;subst gR;rfl
   ·rename_i gY fs ba;simp only[a7,beq_iff_eq]at h;obtain⟨⟨bX,A⟩,E⟩:=h;obtain⟨xs,g0,_,rfl,aA,Li,bb⟩:=DataW.trod_struct ba B;have:=apd (λt s h=>cj t s h) fs.toList _ 0 g0 cs E (by rw[aA,A];omega) (λf v8=> ?_) bE ak m al aC
    ·rw[oB,hx (by omega)]at this;exact this
    ·obtain⟨i,Y,rfl⟩:=n4 v8;have ih:i<fs.size:=(by simpa using Y);have:=bb i fs[i] (by simp[ih]);refine⟨xs[i]'(by omega),?_,λn aj=>oU n ?_⟩
     ·rw[c6 (by omega)]at this;simpa using this
     ·simp only[DataW.weights,ba];exact DataW.weights_mem_each (j:=i) (t:=fs[i].type) (d:=xs[i].1) (by simp[ih]) (by simp[c6 (show i<xs.length by omega)]) n (by simpa using aj)
   ·rename_i gY k e ba;simp only[a7,beq_iff_eq]at h;obtain⟨⟨bX,A⟩,E⟩:=h;obtain⟨xs,g0,_,rfl,aA,Li,bb⟩:=DataW.trod_array ba B;have:=apc (λs h=>cj e s h) k _ 0 g0 cs E (by rw[aA,A];omega) (λj _ aV=> ?_) bE ak m al aC
    ·rw[Nat.zero_mul,oB,hx (by omega)]at this;exact this
    ·have:=bb j (by omega);refine⟨xs[j]'(by omega),?_,λn aj=>oU n ?_⟩
     ·rw[c6 (by omega)]at this;simpa using this
     ·simp only[DataW.weights,ba];exact aeB (List.mem_map_of_mem (kp (show j<xs.length by omega))) aj
   ·cases h
theorem axe{aP:Nat}{t:TypeId}{v:Value}(M:Value.okWide P az .any aP t v):Ox az v.cells.toList:=by
 have hy: ∀bf a len cap,Cell.okWide P az .any aP bf (.slice (some a) len cap)->0<az.heap.size:=by
  intro bf a len cap h;unfold Cell.okWide at h;split at h<;>try(rename_i A;cases A)
  unfold Cell.ok at h;split at h<;>rename_i A<;>try cases A
  ·obtain⟨_,_,_,_,c5,cells,H,_⟩:=h;unfold World.shape? at H;split at H
   ·rename_i bV;have:=(yg.1 bV).1;omega
   ·cases H
  ·cases h
 intro a len cap al;unfold Value.okWide at M;split at M
 ·obtain⟨cs,rfl,_,ts,_,_,ar⟩:=M;obtain⟨i,Y,aU⟩:=n4 al;obtain⟨bf,_,av⟩:=ar i (.slice (some a) len cap) (by
   have:i<cs.size:=(by simpa[Value.cells]using Y);rw[Jm this];simpa[Value.cells]using aU)
  exact hy bf a len cap av
 ·obtain⟨cs,rfl,_,ts,_,_,ar⟩:=M;obtain⟨i,Y,aU⟩:=n4 al;obtain⟨bf,_,av⟩:=ar i (.slice (some a) len cap) (by
   have:i<cs.size:=(by simpa[Value.cells]using Y);rw[Jm this];simpa[Value.cells]using aU)
  exact hy bf a len cap av
 ·cases v<;>simp[Value.cells]at al
  ·obtain⟨rfl,rfl,rfl⟩:=al;exact hy _ _ _ _ M
  ·exfalso;unfold Cell.okWide at M;split at M<;>try(rename_i A;cases A)
   unfold Cell.ok at M;split at M<;>try(rename_i A;cases A)
   cases M
theorem aES{n:Nat}{t:TypeId}{s:gm}(H:Cc P n t s=true){aP:Nat}{v:Value}{d:DataW g1}{ps:List MemPlace}(M:Value.okWide P az .any aP t v)(aW:DataW.Trod enc P az 0 (λ_=>true) true t v d ps)(oU: ∀n∈d.weights P t,n<=reachBytes)
 {ak:Ren} {m:G} (al:dG az.heap.size ak m az) (aC: ∀b x,m.F b=some x->x.own=false):
 ∃cT U bf uP,dG az.heap.size cT U az/\gQ ak cT/\(∀b x,m.F b=some x->U.F b=some x)/\(∀b x,U.F b=some x->x.own=false)/\dX cT bf v/\U1 U s bf uP:=by
 obtain⟨l6,B⟩:=aW;obtain⟨cT,U,bz,uP,o⟩:=apf n t s H l6 _ _ B oU (axe M) ak m al aC;refine⟨cT,U,if s.isAgg then .agg bz.toArray else bz.headD undef,uP,o.ow,o.AN,o.m1,o.own,?_,bz,o.DU,rfl⟩;cases n with
 |zero=>cases H
 | succ n=>
   unfold Cc at H;have Uw: ∀w:Value,v.cells.toList=[w]->w=v->s.isAgg=false->dX cT (if s.isAgg then .agg bz.toArray else bz.headD undef) v:=by
    intro w aQ aU ag;rw[ag];have A:=o.yf;rw[aQ]at A;have E:=A.1;cases bz with
    |nil=>simp at E
    |cons a bz=>have:=A.2 0 a w rfl rfl;rw[aU]at this;simpa using this
   have agg:(∃cs,v= .agg cs)->s.isAgg=true->dX cT (if s.isAgg then .agg bz.toArray else bz.headD undef) v:=(by rintro⟨cs,rfl⟩ ag;rw[ag];have A:=o.yf;simp only[Value.cells]at A;have:=A.agg o.mK;simpa using this);split at H
   ·rename_i k fk ba;obtain⟨n,rfl⟩:=WideShapes.okWide_int ba M;exact Uw _ rfl rfl rfl
   ·rename_i ba;obtain⟨n,rfl⟩:=WideShapes.okWide_bool ba M;exact Uw _ rfl rfl rfl
   ·rename_i ba;obtain⟨n,rfl⟩:=WideShapes.okWide_string ba M;exact Uw _ rfl rfl rfl
   ·rename_i e gY ba;obtain⟨a,l,c,rfl⟩:=WideShapes.okWide_slice ba M;exact Uw _ rfl rfl rfl
   ·rename_i fs ba;simp only[a7]at H;obtain⟨cs,rfl,_⟩:=WideShapes.okWide_struct ba M;exact agg ⟨cs,rfl⟩ H.1.1
   ·rename_i k e ba;simp only[a7]at H;unfold Value.okWide at M;rw[ba]at M;obtain⟨cs,rfl,_⟩:=M;exact agg ⟨cs,rfl⟩ H.1.1
   ·cases H
def G9(P:Program)(n:Nat):List TypeId->List gm->Bool
 |[],[]=>true
 |t::ts,s::nw=>Cc P n t s&&G9 P n ts nw
 |_,_=>false
theorem apb{n:Nat}{aP:Nat}: ∀(ts:List TypeId) (nw:List gm) (vs:List Value) (ds:List (DataW g1)) (ps:List MemPlace),G9 P n ts nw=true->(∀(j:Nat) t v,ts[j]?=some t->vs[j]?=some v->Value.okWide P az .any aP t v)->
 DataW.TrodAll enc P az 0 (λ_=>true) true ts vs ds ps->(∀n∈DataW.weightsEach P ts ds,n<=reachBytes)-> ∀ak m,dG az.heap.size ak m az->(∀b x,m.F b=some x->x.own=false)->
 ∃cT U dD,dG az.heap.size cT U az/\gQ ak cT/\(∀b x,m.F b=some x->U.F b=some x)/\dd cT dD vs/\zO U nw dD
 |[],[],[],[],_,_,_,_,_,ak,m,al,aC=>⟨ak,m,[],al,gQ.refl ak,λ_ _ h=>h,dd.nil ak,.nil⟩
 | t::ts,s::nw,v::vs,d::ds,ps,H,M,a8,oU,ak,m,al,aC=>by simp only[G9,a7]at H;obtain⟨p,q,A,E,rfl⟩:=a8;obtain⟨oD,bn,bf,uP,aE,a5,ch,dT,gj,ft⟩:=aES H.1 (M 0 t v rfl rfl) A (λn aj=>oU n (by simp only[DataW.weightsEach];exact o4 _ aj)) al aC;obtain⟨oE,cK,dD,bB,cC,dO,gu,mF⟩:=apb ts nw vs ds q H.2 (λj t v a b=>M (j+1) t v (by simpa using a) (by simpa using b)) E (λn aj=>oU n (by simp only[DataW.weightsEach];exact n3 _ aj)) oD bn aE dT;obtain⟨cs,ft,nL⟩:=ft;exact⟨oE,cK,bf::dD,bB,a5.trans cC,λb x hb=>dO _ _ (ch _ _ hb),dd.cons (gj.bt cC) gu,.cons ⟨cs,ft.bt (λb x hb _=>dO _ _ hb),nL⟩ mF⟩
 |[],_::_,_,_,_,H,_,_,_,_,_,_,_=>by simp[G9]at H
 |_::_,[],_,_,_,H,_,_,_,_,_,_,_=>by simp[G9]at H
 |[],[],_::_,_,_,_,_,a8,_,_,_,_,_=>by simp[DataW.TrodAll]at a8
 |[],[],[],_::_,_,_,_,a8,_,_,_,_,_=>by simp[DataW.TrodAll]at a8
 |_::_,_::_,[],_,_,_,_,a8,_,_,_,_,_=>by simp[DataW.TrodAll]at a8
 |_::_,_::_,_::_,[],_,_,_,a8,_,_,_,_,_=>by simp[DataW.TrodAll]at a8
theorem aob(pc:P.follows .mixedOrders=true){f n aP:Nat}{ts:List TypeId}{nw:List gm}(H:G9 P n ts nw=true){args:Array Value}{ds:List (DataW g1)}{ps:List MemPlace}
 (M: ∀(j:Nat) t v,ts[j]?=some t->args[j]?=some v->Value.okWide P az .any aP t v) (a8:DataW.TrodAll enc P az 0 (λ_=>true) true ts args.toList ds ps) (oU: ∀n∈DataW.weightsEach P ts ds,n<=reachBytes)
 (h: ∀m dD,zO m nw dD->eu P f dD m λr _=>r= .bool true):
 Calls P f args az λe w'=>e= .returned (.bool true)/\Below az.heap.size az w':=by
 obtain⟨ak,m,dD,aE,_,_,dT,gj⟩:=apb ts nw args.toList ds ps H (λj t v a b=>M j t v a (by simpa using b)) a8 oU _ _ dG.empty (λb x h=>by unfold G.F at h;split at h<;>cases h);obtain⟨k,r,U,A,rfl⟩:=h m dD gj;have:=(agi pc k az.heap.size f dD _ _ _ A).2.2.2.2 ak az args dT aE (c8 _);refine this.mono λe w' bV=> ?_;obtain⟨v,cT,rfl,_,_,M,_,hb⟩:=bV;exact⟨by rw[M.tR],hb⟩
end
theorem Kr{m:G}{b:Nat}(h:m.next<=b):m.F b=none:=by simp[G.F];omega
section
variable {dP:Type} {m U:G} {v:Value} {l:List dP}
theorem V9{bJ:List (List Value)}{I:Nat}(bE: ∀x∈bJ,x.length=I): ∀{i:Nat} {y:List Value},bJ[i]?=some y->(bJ.flatten.drop (i*I)).take I=y:=by
 induction bJ with
 |nil=>intro i y h;simp at h
 | cons x bJ cj=>
   intro i y h;have B:=bE x (by simp);cases i with
   | zero=>simp at h;subst h;simp[List.take_append_of_le_length (Nat.le_of_eq B.symm),hx (Nat.le_of_eq B)]
   | succ i=>rw[td,oC,Nat.one_mul,Nat.add_comm,<-DO,<-B,List.drop_left,B];exact cj (λy Z=>bE y (by simp[Z])) (by simpa using h)
theorem xl{bJ:List (List Value)}{I:Nat}(bE: ∀x∈bJ,x.length=I):bJ.flatten.length=bJ.length*I:=by
 induction bJ with
 |nil=>simp
 |cons x bJ cj=>rw[td,iD,bE x (by simp),cj (λy Z=>bE y (by simp[Z])),m8,oC];omega
variable {p:G} {bJ:List (List Value)}
theorem aqh{cs:List Value}{I:Nat}: ∀(n o:Nat),o+n*I<=cs.length-> ∃bJ:List (List Value),bJ.length=n/\bJ.flatten=(cs.drop o).take (n*I)/\ ∀i,i<n->bJ[i]?=some ((cs.drop (o+i*I)).take I)
 |0,o,_=>⟨[],rfl,by simp,λi Y=>by omega⟩
 | n+1,o,h=>by
   rw[oC]at h;obtain⟨bJ,A,E,ao⟩:=aqh (cs:=cs) (I:=I) n (o+I) (by omega);refine⟨(cs.drop o).take I::bJ,by simp[A],?_,λi Y=> ?_⟩
   ·rw[td,E,oC,Nat.one_mul,Nat.add_comm (n*I) I,List.take_add,DO]
   ·cases i with
    |zero=>simp
    | succ i=>rw[Jn,ao i (by omega)];congr 3;rw[oC];omega
end
def aov(r:List Value):Value:= .agg r.toArray
def arE:Value->List Value| .agg a=>a.toList|_=>[]
def ai(bJ:List (List Value))(I:Nat):Value:= .func (.yield 0) (bJ.map aov).toArray #[.int .i64 I]
def fx(c5:List Value)(k:Nat):Value:= .func (.yield 1) c5.toArray #[.int .i64 k]
def abZ:List Value->Nat|[.int _ n]=>n.toNat|_=>0
def iG:Value->Bool| .func (.yield n) _ _=>n==0|_=>false
def oV:Value->Bool| .func (.yield n) _ _=>n==1|_=>false
def ly:Value->Bool| .func (.yield _) _ _=>true|_=>false
def Cv:Value->List (List Value)| .func _ cH _=>cH.toList.map arE|_=>[]
def xJ:Value->Nat| .func _ _ jf=>abZ jf.toList|_=>0
def Ni:Value->List Value| .func _ cH _=>cH.toList|_=>[]
section
variable {bJ C9:List (List Value)} {I j7 k fk:Nat} {c5 x3:List Value}
@[simp] theorem aZU:arE (aov c5)=c5:=rfl
@[simp] theorem S2:iG (ai bJ I)=true:=rfl
@[simp] theorem aR9:iG (fx c5 k)=false:=rfl
@[simp] theorem aR8:oV (ai bJ I)=false:=rfl
@[simp] theorem aCC:oV (fx c5 k)=true:=rfl
@[simp] theorem aSg:ly (ai bJ I)=true:=rfl
@[simp] theorem aSf:ly (fx c5 k)=true:=rfl
@[simp] theorem QF:Cv (ai bJ I)=bJ:=by simp[Cv,ai,Function.comp_def]
@[simp] theorem aRh:xJ (ai bJ I)=I:=by simp[xJ,ai,abZ]
@[simp] theorem apn:Ni (fx c5 k)=c5:=rfl
@[simp] theorem ajf:xJ (fx c5 k)=k:=by simp[xJ,fx,abZ]
@[simp] theorem aje:ai bJ I=ai C9 j7↔bJ=C9/\I=j7:=
  ⟨λh=>⟨by have:=congrArg Cv h;simpa using this,by have:=congrArg xJ h;simpa using this⟩,λ⟨a,b⟩=>by rw[a,b]⟩
end
abbrev e3:=Nat->Option Nat
abbrev fY:=Nat->Option (List Value)
abbrev kY:e3:= λ_=>none
inductive cu(u:fY):e3->Value->Value->Prop
 |c4 {J:e3} {v:Value} (h:ew v=true):cu u J v v
 |bC {J:e3} {o b off:Nat} (h:J o=some b):cu u J (.pointer (some ⟨o,off,none⟩)) (.pointer (some ⟨b,off,none⟩))
 |slice {J:e3} {o b off l I:Nat} (h:J o=some b):cu u J (.slice (some ⟨o,off,none⟩) l I) (.slice (some ⟨b,off,none⟩) l I)
 |sb {J:e3} {o I:Nat}:cu u J (.slice (some ⟨o,0,none⟩) 0 I) (.slice none 0 0)
 |map {J:e3} {o b:Nat} (h:J o=some b):cu u J (.map (some o)) (.map (some b))
 |agg {J:e3} {xs ys:Array Value} (H:xs.size=ys.size) (h: ∀(i:Nat) (x y:Value),xs[i]?=some x->ys[i]?=some y->cu u J x y):cu u J (.agg xs) (.agg ys)
 |tuple {J:e3} {xs ys:Array Value} (H:xs.size=ys.size) (h: ∀(i:Nat) (x y:Value),xs[i]?=some x->ys[i]?=some y->cu u J x y):cu u J (.tuple xs) (.tuple ys)
 | func {J:e3} {f:Nat} {xs ys cs ds:Array Value} (H:xs.size=ys.size) (h: ∀(i:Nat) (x y:Value),xs[i]?=some x->ys[i]?=some y->cu u J x y)
  (iE:cs.size=ds.size) (E: ∀(i:Nat) (x y:Value),cs[i]?=some x->ds[i]?=some y->cu u J x y):cu u J (.func (.func f) xs cs) (.func (.func f) ys ds)
 |iface {J:e3} {t:TypeId} {v bZ:Value} (h:cu u J v bZ):cu u J (.iface t v) (.iface t bZ)
 | jH {J:e3} {v:Value} {b off I:Nat} {cs:List Value} {bJ:List (List Value)} (e:v=ai bJ I) (df:u b=some cs) (aA:off+bJ.length*I<=cs.length)
  (bE: ∀(i:Nat) r,bJ[i]?=some r->r.length=I) (av: ∀(i j:Nat) r x y,bJ[i]?=some r->r[j]?=some x->cs[off+i*I+j]?=some y->cu u kY x y):cu u J v (.slice (some ⟨b,off,none⟩) bJ.length I)
 |jI {J:e3} {v:Value} {I:Nat} (e:v=ai [] I):cu u J v (.slice none 0 0)
 | fx {J:e3} {v:Value} {b off k:Nat} {cs c5:List Value} (e:v=fx c5 k) (df:u b=some cs) (aA:off+c5.length<=cs.length)
  (av: ∀(j:Nat) x y,c5[j]?=some x->cs[off+j]?=some y->cu u kY x y):cu u J v (.pointer (some ⟨b,off+k,none⟩))
def fN(J cV:e3):Prop:= ∀o b,J o=some b->cV o=some b
def g7(u cE:fY):Prop:= ∀b cs,u b=some cs->cE b=some cs
theorem fN.refl(J:e3):fN J J:= λ_ _ h=>h
theorem fN.trans{a b c:e3}(h:fN a b)(cw:fN b c):fN a c:= λx l B=>cw x l (h x l B)
theorem fN.nil(J:e3):fN kY J:= λ_ _ h=>by cases h
theorem g7.refl(u:fY):g7 u u:= λ_ _ h=>h
theorem g7.trans{a b c:fY}(h:g7 a b)(cw:g7 b c):g7 a c:= λx l B=>cw x l (h x l B)
theorem cu.bt{u cE:fY}{J cV:e3}{v bZ:Value}(h:cu u J v bZ)(df:g7 u cE)(cp:fN J cV):cu cE cV v bZ:=by
 induction h generalizing cV with
 |c4 h=>exact .c4 h
 |bC h=>exact .bC (cp _ _ h)
 |slice h=>exact .slice (cp _ _ h)
 |sb=>exact .sb
 |map h=>exact .map (cp _ _ h)
 |agg H _ cj=>exact .agg H λi x y a b=>cj i x y a b cp
 |tuple H _ cj=>exact .tuple H λi x y a b=>cj i x y a b cp
 |func H _ iE _ cj X1=>exact .func H (λi x y a b=>cj i x y a b cp) iE λi x y a b=>X1 i x y a b cp
 |iface _ cj=>exact .iface (cj cp)
 |jH e A aA bE av cj=>exact .jH e (df _ _ A) aA bE λi j r x y a b c=>cj i j r x y a b c (fN.refl _)
 |jI e=>exact .jI e
 |fx e A aA av cj=>exact .fx e (df _ _ A) aA λj x y a b=>cj j x y a b (fN.refl _)
def bM(u:fY)(J:e3)(xs ys:List Value):Prop:=xs.length=ys.length/\ ∀(i:Nat) (x y:Value),xs[i]?=some x->ys[i]?=some y->cu u J x y
section
variable {u cE:fY} {J cV:e3}
theorem bM.nil:bM u J [] []:=⟨rfl,by intro i x y h;simp at h⟩
theorem bM.cons{x y:Value}{xs ys:List Value}(h:cu u J x y)(H:bM u J xs ys):bM u J (x::xs) (y::ys):=by
 refine⟨by simp[H.1],λi a b ag hb=> ?_⟩;cases i with
 |zero=>simp at ag hb;subst ag;subst hb;exact h
 |succ i=>exact H.2 i a b (by simpa using ag) (by simpa using hb)
theorem bM.bt{xs ys:List Value}(h:bM u J xs ys)(df:g7 u cE)(cp:fN J cV):bM cE cV xs ys:=⟨h.1,λi x y B Z=>(h.2 i x y B Z).bt df cp⟩
theorem bM.agg{xs ys:List Value}(h:bM u J xs ys):cu u J (.agg xs.toArray) (.agg ys.toArray):= .agg (by simpa using h.1) (by simpa using h.2)
theorem bM.tuple{xs ys:List Value}(h:bM u J xs ys):cu u J (.tuple xs.toArray) (.tuple ys.toArray):= .tuple (by simpa using h.1) (by simpa using h.2)
theorem bM.p8{a b c d:List Value}(h:bM u J a b)(cw:bM u J c d):bM u J (a++c) (b++d):=by
 refine⟨by simp[h.1,cw.1],λi x y B Z=> ?_⟩;rw[zJ]at B Z;rw[<-h.1]at Z;split at B
 ·rename_i Y;rw[if_pos Y]at Z;exact h.2 _ _ _ B Z
 ·rename_i Y;rw[if_neg Y]at Z;exact cw.2 _ _ _ B Z
theorem bM.drop{a b:List Value}(h:bM u J a b)(n:Nat):bM u J (a.drop n) (b.drop n):=
 ⟨by simp[h.1],λi x y B Z=>h.2 (n+i) x y (by simpa using B) (by simpa using Z)⟩
theorem bM.take{a b:List Value}(h:bM u J a b)(n:Nat):bM u J (a.take n) (b.take n):=by
 refine⟨by simp[h.1],λi x y B Z=> ?_⟩;rw[ry]at B Z;split at B
 ·rename_i Y;rw[if_pos Y]at Z;exact h.2 _ _ _ B Z
 ·cases B
theorem bM.set{a b:List Value}(h:bM u J a b)(n:Nat){x y:Value}(M:cu u J x y):bM u J (a.set n x) (b.set n y):=by
 refine⟨by simp[h.1],λi bf v B Z=> ?_⟩;rw[Bu]at B Z;rw[<-h.1]at Z;split at B
 ·rename_i Y;rw[if_pos Y]at Z;split at B
  ·rename_i E;rw[if_pos E]at Z;simp at B Z;subst B;subst Z;exact M
  ·cases B
 ·rename_i Y;rw[if_neg Y]at Z;exact h.2 _ _ _ B Z
theorem bM.gV: ∀{vs dD:List Value} {a b:List Value} (off:Nat),bM u J a b->bM u J vs dD->bM u J (gV a off vs) (gV b off dD)
 |[],[],_,_,_,h,_=>h
 |[],bf::dD,_,_,_,_,E=>by simp[bM]at E
 |v::vs,[],_,_,_,_,E=>by simp[bM]at E
 | v::vs,bf::dD,a,b,off,h,E=>by simp only[Go.DI.gV];exact bM.gV (off+1) (h.set off (E.2 0 v bf rfl rfl)) ⟨by simpa using E.1,λi x y B Z=>E.2 (i+1) x y (by simpa using B) (by simpa using Z)⟩
theorem bM.F{a b:List Value}(h:bM u J a b){i:Nat}{x:Value}(B:a[i]?=some x): ∃y,b[i]?=some y/\cu u J x y:=by have Y:i<a.length:=(cN.1 B).1;rw[h.1]at Y;exact⟨b[i],c6 Y,h.2 i x _ B (c6 Y)⟩
theorem bM.Io{dP:Type}(f g:dP->Value): ∀(l:List dP),(∀x∈l,cu u J (f x) (g x))->bM u J (l.map f) (l.map g)
 |[],_=>bM.nil
 |x::l,h=>bM.cons (h x (by simp)) (bM.Io f g l λy Z=>h y (by simp[Z]))
theorem bM.c4{cs:List Value}(h:cs.all ew=true):bM u J cs cs:=by refine⟨rfl,λi x y B Z=> ?_⟩;rw[B]at Z;cases Z;exact .c4 (ei.1 h x (fX B))
theorem bM.flatten{k:Nat}{cs:List Value}(h:bM u J cs cs):bM u J (List.replicate k cs).flatten (List.replicate k cs).flatten:=by
 induction k with
 |zero=>exact bM.nil
 |succ k cj=>rw[Jp,td];exact h.p8 cj
theorem cu.nf{v:Value}(h:nf v=true):cu u J v v:=by
 unfold Go.DI.nf at h;split at h
 ·rename_i cs;have:=bM.agg (u:=u) (J:=J) (bM.c4 h);simpa using this
 ·rename_i cs;have:=bM.tuple (u:=u) (J:=J) (bM.c4 h);simpa using this
 ·exact .c4 h
theorem cu.undef:cu u J undef undef:=bM.tuple bM.nil
theorem cu.hB{v bZ:Value}(h:cu u J v bZ)(bb:ew v=true):bZ=v:=by
 cases h with
 |c4=>rfl
 |jH e=>subst e;simp[ew,ai]at bb
 |jI e=>subst e;simp[ew,ai]at bb
 |fx e=>subst e;simp[ew,DI.fx]at bb
 |_=>simp[ew]at bb
theorem cu.tS{k:IntKind}{n:Int}{v:Value}(h:cu u J (.int k n) v):v= .int k n:=h.hB rfl
theorem cu.tR{b:Bool}{v:Value}(h:cu u J (.bool b) v):v= .bool b:=h.hB rfl
theorem cu.AG{b:ByteArray}{v:Value}(h:cu u J (.string b) v):v= .string b:=h.hB rfl
theorem cu.sO{a:Addr}{v:Value}(h:cu u J (.pointer (some a)) v): ∃b,J a.block=some b/\a.spot=none/\v= .pointer (some ⟨b,a.off,none⟩):=by
 cases h with
 |c4 h=>simp[ew]at h
 |bC h=>exact⟨_,h,rfl,rfl⟩
 |jH e=>simp[ai]at e
 |jI e=>simp[ai]at e
 |fx e=>simp[DI.fx]at e
theorem cu.lv{a:Addr}{l I:Nat}{v:Value}(h:cu u J (.slice (some a) l I) v):(∃b,J a.block=some b/\a.spot=none/\v= .slice (some ⟨b,a.off,none⟩) l I)\/(a.off=0/\a.spot=none/\l=0/\v= .slice none 0 0):=by
 cases h with
 |c4 h=>simp[ew]at h
 |slice h=>exact .inl ⟨_,h,rfl,rfl⟩
 |sb=>exact .inr ⟨rfl,rfl,rfl,rfl⟩
 |jH e=>simp[ai]at e
 |jI e=>simp[ai]at e
 |fx e=>simp[DI.fx]at e
theorem cu.tQ{xs:Array Value}{v:Value}(h:cu u J (.agg xs) v): ∃ys,v= .agg ys/\bM u J xs.toList ys.toList:=by
 cases h with
 |c4 h=>simp[ew]at h
 |agg H h=>exact⟨_,rfl,by simpa using H,by simpa using h⟩
 |jH e=>simp[ai]at e
 |jI e=>simp[ai]at e
 |fx e=>simp[DI.fx]at e
theorem cu.ET{xs:Array Value}{v:Value}(h:cu u J (.tuple xs) v): ∃ys,v= .tuple ys/\bM u J xs.toList ys.toList:=by
 cases h with
 |c4 h=>simp[ew]at h
 |tuple H h=>exact⟨_,rfl,by simpa using H,by simpa using h⟩
 |jH e=>simp[ai]at e
 |jI e=>simp[ai]at e
 |fx e=>simp[DI.fx]at e
theorem cu.ES{f:Nat}{xs cs:Array Value}{v:Value}(h:cu u J (.func (.func f) xs cs) v): ∃ys ds,v= .func (.func f) ys ds/\bM u J xs.toList ys.toList/\bM u J cs.toList ds.toList:=by
 cases h with
 |c4 h=>simp[ew]at h
 |func H h iE E=>exact⟨_,_,rfl,⟨by simpa using H,by simpa using h⟩,by simpa using iE,by simpa using E⟩
 |jH e=>simp[ai]at e
 |jI e=>simp[ai]at e
 |fx e=>simp[DI.fx]at e
theorem cu.Lt{t:TypeId}{x v:Value}(h:cu u J (.iface t x) v): ∃y,v= .iface t y/\cu u J x y:=by
 cases h with
 |c4 h=>simp[ew]at h
 |iface h=>exact⟨_,rfl,h⟩
 |jH e=>simp[ai]at e
 |jI e=>simp[ai]at e
 |fx e=>simp[DI.fx]at e
theorem cu.Lu{o:Nat}{v:Value}(h:cu u J (.map (some o)) v): ∃b,J o=some b/\v= .map (some b):=by
 cases h with
 |c4 h=>simp[ew]at h
 |map h=>exact⟨_,h,rfl⟩
 |jH e=>simp[ai]at e
 |jI e=>simp[ai]at e
 |fx e=>simp[DI.fx]at e
theorem cu.ajm{x v:Value}(h:cu u J x v)(Y:oV x=true): ∃c5 k b off cs,x=DI.fx c5 k/\v= .pointer (some ⟨b,off+k,none⟩)/\u b=some cs/\off+c5.length<=cs.length/\
 (∀(j:Nat) x y,c5[j]?=some x->cs[off+j]?=some y->cu u kY x y):=by
 cases h with
 |c4 h=>cases x<;>simp_all [ew,oV]
 |fx e A E ao=>exact⟨_,_,_,_,_,e,rfl,A,E,ao⟩
 |jH e=>subst e;simp at Y
 |jI e=>subst e;simp at Y
 |_=>simp[oV]at Y
theorem cu.ab{v bZ:Value}(h:cu u J v bZ):bM u J (ab v) (ab bZ):=by
 cases h with
 |agg H h=>exact⟨by simpa[DI.ab]using H,by simpa[DI.ab]using h⟩
 |c4 h=>cases v<;>simp[ew]at h<;>exact bM.cons (.c4 (by simp[ew,h])) bM.nil
 |bC h=>exact bM.cons (.bC h) bM.nil
 |slice h=>exact bM.cons (.slice h) bM.nil
 |sb=>exact bM.cons .sb bM.nil
 |tuple H h=>exact bM.cons (.tuple H h) bM.nil
 |func H h iE E=>exact bM.cons (.func H h iE E) bM.nil
 |iface h=>exact bM.cons (.iface h) bM.nil
 |map h=>exact bM.cons (.map h) bM.nil
 |jH e a b c d=>subst e;exact bM.cons (.jH rfl a b c d) bM.nil
 |jI e=>subst e;exact bM.cons (.jI rfl) bM.nil
 |fx e a b c=>subst e;exact bM.cons (.fx rfl a b c) bM.nil
theorem cu.ah{v bZ:Value}(h:cu u J v bZ)(aj:ah v=true):ah bZ=true:=by cases h<;>first|rfl|assumption|(simp[DI.ah]at aj)
theorem cu.ad{v bZ:Value}(h:cu u J v bZ)(aj:ad v=true):ad bZ=true:=by cases h<;>first|rfl|assumption|(simp[DI.ad]at aj)
end
end Go.DI
