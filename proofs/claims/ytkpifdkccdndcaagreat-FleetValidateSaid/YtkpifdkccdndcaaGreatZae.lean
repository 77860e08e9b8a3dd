/-
  A part of the proof of the statement, in texts that tools of ours (wip/shrink.py, irpack.py, relax.py, minify.py, join.py, lay.py) have shortened.
-/
import Derived.SizedLaws
import Derived.ChangeOld
import Derived.WideShapes
import Derived.OpenShut
import Derived.Test.YtkpifdkccdndcaaGreatZad
set_option linter.all false
set_option maxRecDepth 8000
set_option maxHeartbeats 16000000
namespace Go.DI
open Go
section
variable {m:E} {b b7 k:Nat} {x y:Option fV} {O:fV}
@[simp] theorem BL:(m.an b x).next=m.next:=rfl
@[simp] theorem vQ:(m.bx k).next=m.next+k:=rfl
theorem aO(h:m.U b=some O):b<m.next:=by
  unfold E.U at h;split at h
  · assumption
  · cases h
theorem cW(h:b<m.next):(m.an b x).U b=x:=by simp[E.U,E.an,h]
theorem dC(h:b7≠b):(m.an b x).U b7=m.U b7:=by simp[E.U,E.an,h]
theorem gm(h:b<m.next):(m.bx k).U b=m.U b:=by
  have:b<m.next+k:=by omega
  simp[E.U,E.bx,h,this]
@[simp] theorem aUt{bJ:List (Value×Value)}:(m.hx b bJ).next=m.next:=rfl
theorem b3:(∀(m:E) (b:Nat) (x:Option fV),(m.an b x).next=m.next)/\(∀(m:E) (k:Nat),(m.bx k).next=m.next+k)/\ ∀(m:E) (b:Nat) (bJ:List (Value×Value)),(m.hx b bJ).next=m.next:=⟨λ_ _ _=>rfl,λ_ _=>rfl,λ_ _ _=>rfl⟩
theorem Fh{bJ:List (Value×Value)}(h:b<m.next):(m.hx b bJ).U b=some ⟨[],true⟩:=by simp[E.U,E.hx,h]
theorem o8{bJ:List (Value×Value)}(h:b7≠b):(m.hx b bJ).U b7=m.U b7:=by simp[E.U,E.hx,h]
theorem LC{bJ:List (Value×Value)}(h:b<m.next):(m.hx b bJ).fg b=some bJ:=by simp[E.fg,Fh h];simp[E.hx]
theorem LB{bJ:List (Value×Value)}(h:b7≠b):(m.hx b bJ).fg b7=m.fg b7:=by simp[E.fg,o8 h];simp[E.hx,h]
theorem xP(h:b7≠b):(m.an b x).fg b7=m.fg b7:=by simp[E.fg,dC h];rfl
theorem QP(h:b<m.next):(m.bx k).fg b=m.fg b:=by simp[E.fg,gm h];rfl
theorem aIT:(m.an b x).an b y=m.an b y:=by simp only[E.an,E.mk.injEq,true_and,and_true];funext i;by_cases h:i=b<;>simp[h]
@[simp] theorem aui{a o n:Nat}:g8 m (.pointer (some ⟨a,o,none⟩)) n=(match m.U a with|some x=>decide (o+n<=x.cells.length)|none=>false):=rfl
@[simp] theorem ahw{a o:Nat}:sj m (.pointer (some ⟨a,o,none⟩))=(match m.U a with|some x=>x.own|none=>false):=rfl
@[simp] theorem aG0{a o n:Nat}{df:Bool}:k4 m df n (.pointer (some ⟨a,o,none⟩))=if df then .agg (jI m a o n).toArray else(jI m a o 1).headD undef:=rfl
@[simp] theorem ahY{a o n:Nat}:jI m a o n=match m.U a with|some x=>(x.cells.drop o).take n|none=>[]:=rfl
@[simp] theorem aLD{a o:Nat}{cs:List Value}:rq m (.pointer (some ⟨a,o,none⟩)) cs=match m.U a with|some x=>m.an a (some ⟨ku x.cells o cs,x.own⟩)|none=>m:=rfl
@[simp] theorem arZ{a o l c n:Nat}:ig m n (.slice (some ⟨a,o,none⟩) l c)=(c==n&&(match m.U a with|some x=>decide (o+l*n<=x.cells.length)|none=>false)):=rfl
@[simp] theorem aZg{n:Nat}:ig m n (.slice none 0 0)=true:=rfl
@[simp] theorem aZi{a o l c:Nat}:nX m (.slice (some ⟨a,o,none⟩) l c)=(match m.U a with|some x=>x.own|none=>false):=rfl
@[simp] theorem aZh{l c:Nat}:nX m (.slice none l c)=true:=rfl
@[simp] theorem aLt{a o l c n:Nat}:hX m n (.slice (some ⟨a,o,none⟩) l c)=jI m a o (l*n):=rfl
@[simp] theorem aZb{l c n:Nat}:hX m n (.slice none l c)=[]:=rfl
@[simp] theorem aTG{a o l c:Nat}:mY m (.slice (some ⟨a,o,none⟩) l c)=m.an a none:=rfl
@[simp] theorem aTF{l c:Nat}:mY m (.slice none l c)=m:=rfl
end
theorem fo{n:Int}(B: -9223372036854775808<=n)(H:n<=9223372036854775807):IntKind.i64.wrap n=n:=IntWalk.i64_in n ⟨B,H⟩
theorem e7{n:Nat}(h:n<9223372036854775807):IntKind.i64.wrap ((n:Int)+1)=(n:Int)+1:=fo (by omega) (by omega)
theorem kS{α:Type}{l:List α}{i:Nat}(h:i<l.length): ∃x,l[i]?=some x:=⟨_,List.getElem?_eq_getElem h⟩
section
variable {P:Program} {u:aM} {m:E} {Q:dp->aM->E->Prop}
def ym(cp:aM->E->Prop)(Q:dp->aM->E->Prop)(e:dp)(u:aM)(m:E):Prop:=match e with| .gu=>cp u m|e=>Q e u m
@[simp] theorem aT4{cp:aM->E->Prop}:ym cp Q .gu u m=cp u m:=rfl
@[simp] theorem aT3{cp:aM->E->Prop}{id:Nat}:ym cp Q (.bw id) u m=Q (.bw id) u m:=rfl
@[simp] theorem aT5{cp:aM->E->Prop}:ym cp Q .aT u m=Q .aT u m:=rfl
theorem fc{c:J}(h: ∀cp:aM->E->Prop,(∀ae N,cH P (.loop c) ae N Q->cp ae N)->cH P c u m (ym cp Q)):cH P (.loop c) u m Q:=by rw[asZ];refine(h (λae N=>cH P (.loop c) ae N Q) (λ_ _ h=>h)).aD λe ae N h=> ?_;cases e<;>exact h
def Qa(P:Program)(v:Value)(args:List Value)(m:E)(aI:Value->E->Prop):Prop:=match v with
  | .func (.func f) first lB=>bU P f (first.toList++args++lB.toList) m aI
  |_=>False
@[simp] theorem aP8{f:Nat}{first lB:Array Value}{args:List Value}{aI:Value->E->Prop}:Qa P (.func (.func f) first lB) args m aI=bU P f (first.toList++args++lB.toList) m aI:=rfl
@[simp] theorem a0I{base bb:Nat}{d:Option Nat}{b4:List cd}{aU:aM->E->Prop}{bI:List (Operand×Operand)}{x:Operand}{a1i:List Operand}:
    gW P base (⟨bb,d,none,.ln x a1i,bI⟩::b4) u m aU=Qa P (ad u x) (a1i.map (ad u)) m (AE P base d bI b4 u m aU):=by
  by_cases F: ∃f first lB,ad u x= .func (.func f) first lB
  · obtain⟨f,first,lB,F⟩:=F;rw[as6 F,F];rfl
  · have hQ:(al.ln x a1i).gM u m=none:=by
      simp only[al.gM];split
      · rename_i f first lB h;exact absurd ⟨f,first,lB,h⟩ F
      · rfl
    have H:Qa P (ad u x) (a1i.map (ad u)) m (AE P base d bI b4 u m aU)=False:=by
      unfold Qa;split
      · rename_i f first lB h;exact absurd ⟨f,first,lB,h⟩ F
      · rfl
    rw[H];refine propext ⟨λ⟨n,ae,N,h,q⟩=> ?_,False.elim⟩;obtain⟨cC,bo,B,_,_⟩:=uY h;obtain⟨aA,_⟩:=agH (o:=⟨bb,d,none,.ln x a1i,bI⟩) rfl hQ B;cases aA
end
@[simp] theorem aTQ{d fm:Value}{l:List Value}:(fm::l)[0]?.getD d=fm:=rfl
@[simp] theorem aTR{d fm bh:Value}{l:List Value}:(fm::bh::l)[1]?.getD d=bh:=rfl
@[simp] theorem aTS{d fm bh bt:Value}{l:List Value}:(fm::bh::bt::l)[2]?.getD d=bt:=rfl
@[simp] theorem aTT{d fm bh bt c1:Value}{l:List Value}:(fm::bh::bt::c1::l)[3]?.getD d=c1:=rfl
@[simp] theorem aTU{d fm bh bt c1 e0:Value}{l:List Value}:(fm::bh::bt::c1::e0::l)[4]?.getD d=e0:=rfl
@[simp] theorem aTV{d fm bh bt c1 e0 hK:Value}{l:List Value}:(fm::bh::bt::c1::e0::hK::l)[5]?.getD d=hK:=rfl
@[simp] theorem aTW{d fm bh bt c1 e0 hK h3:Value}{l:List Value}:(fm::bh::bt::c1::e0::hK::h3::l)[6]?.getD d=h3:=rfl
@[simp] theorem aTX{d fm bh bt c1 e0 hK h3 jk:Value}{l:List Value}:(fm::bh::bt::c1::e0::hK::h3::jk::l)[7]?.getD d=jk:=rfl
attribute [simp] al.ok al.val al.iH
section
variable {p:Option Addr} {a:Addr} {l c O i j:Nat}
@[simp] theorem aGN{s:ByteArray}:ib (.string s)=s.size:=rfl
@[simp] theorem aTN:ib (.slice p l c)=l:=rfl
@[simp] theorem aTk:zD (.slice p l c)=true:=rfl
@[simp] theorem aZc:hL (.slice p l c)=l:=rfl
@[simp] theorem aY6{b o:Nat}:kr O (.slice (some ⟨b,o,none⟩) l c)=(c==O):=rfl
@[simp] theorem aYZ{b o:Nat}{n:Int}:mH (.slice (some ⟨b,o,none⟩) l c) O n= .pointer (some ⟨b,o+n.toNat*O,none⟩):=rfl
@[simp] theorem B5{b o:Nat}:ou (.slice (some ⟨b,o,none⟩) l c) O i j= .slice (some ⟨b,o+i*O,none⟩) (j-i) c:=rfl
@[simp] theorem aY5:kr O (.slice none 0 0)=true:=rfl
@[simp] theorem aZa:ou (.slice none 0 0) O i j= .slice none 0 0:=rfl
end
@[simp] theorem a0b{n:Nat}:min n IntKind.u64.bits=min n 64:=rfl
@[simp] theorem a0a{n:Nat}:min n IntKind.u32.bits=min n 32:=rfl
attribute [simp] cW dC gm aIT
open Go Go.RowKit
structure gG(cn:Nat->Prop)(cV m bB:E):Prop where
  next:bB.next=m.next
  we:cV.next<=m.next
  cK: ∀b,cn b->b<m.next
  off: ∀b,cn b->m.U b=none
  bG: ∀b,cn b->bB.U b=cV.U b/\bB.mp b=cV.mp b
  eq: ∀b,¬cn b->bB.U b=m.U b
  mp:bB.mp=m.mp
section
variable {cn:Nat->Prop} {cV m bB:E}
theorem gG.lk(W:gG cn cV m bB){b:Nat}{x:fV}(h:m.U b=some x): ¬cn b:= λay=>by rw[W.off b ay]at h;cases h
theorem gG.U(W:gG cn cV m bB){b:Nat}{x:fV}(h:m.U b=some x):bB.U b=some x:=by rw[W.eq b (W.lk h),h]
theorem gG.fg(W:gG cn cV m bB){b:Nat}{e:List (Value×Value)}(h:m.fg b=some e):bB.fg b=some e:=by
  unfold E.fg at h⊢;cases aq:m.U b with
  |none=>rw[aq]at h;cases h
  |some x=>rw[aq]at h;rw[W.U aq,W.mp];exact h
theorem gG.XJ(W:gG cn cV m bB){b:Nat}{e:List (Value×Value)}(h:m.fg b=some e): ¬cn b:=by
  unfold E.fg at h;cases aq:m.U b with
  |none=>rw[aq]at h;cases h
  |some x=>exact W.lk aq
theorem gG.an(W:gG cn cV m bB){b:Nat}(K: ¬cn b)(x:Option fV):gG cn cV (m.an b x) (bB.an b x) where
  next:=W.next
  we:=W.we
  cK:=W.cK
  off c aK:=by rw[dC (show c≠b from λh=>K (h▸aK)),W.off c aK]
  bG c aK:=⟨by rw[dC (show c≠b from λh=>K (h▸aK)),(W.bG c aK).1],(W.bG c aK).2⟩
  eq c aK:=by
    by_cases h:c=b
    · subst h;simp only[E.U,E.an,W.next,if_true]
    · rw[dC h,dC h,W.eq c aK]
  mp:=W.mp
theorem gG.hx(W:gG cn cV m bB){b:Nat}(K: ¬cn b)(e:List (Value×Value)):gG cn cV (m.hx b e) (bB.hx b e) where
  next:=W.next
  we:=W.we
  cK:=W.cK
  off c aK:=by rw[o8 (show c≠b from λh=>K (h▸aK)),W.off c aK]
  bG c aK:=by refine⟨by rw[o8 (show c≠b from λh=>K (h▸aK)),(W.bG c aK).1],by show(if c=b then some e else bB.mp c)=_;rw[if_neg (show c≠b from λh=>K (h▸aK))];exact(W.bG c aK).2⟩
  eq c aK:=by
    by_cases h:c=b
    · subst h;simp only[E.U,E.hx,W.next,if_true]
    · rw[o8 h,o8 h,W.eq c aK]
  mp:=by show(λi=>if i=b then some e else bB.mp i)=_;rw[W.mp];rfl
theorem gG.bx(W:gG cn cV m bB)(k:Nat):gG cn cV (m.bx k) (bB.bx k) where
  next:=by show bB.next+k=m.next+k;rw[W.next]
  we:=by have:=W.we;show cV.next<=m.next+k;omega
  cK b K:=by have:=W.cK b K;show b<m.next+k;omega
  off b K:=by rw[gm (W.cK b K),W.off b K]
  bG b K:=⟨by rw[gm (by rw[W.next];exact W.cK b K),(W.bG b K).1],(W.bG b K).2⟩
  eq b K:=by
    by_cases h:b<m.next
    · rw[gm h,gm (by rw[W.next];exact h),W.eq b K]
    · simp[E.U,E.bx,W.next,h]
  mp:=W.mp
theorem gG.g8(W:gG cn cV m bB){v:Value}{n:Nat}(h:g8 m v n=true):g8 bB v n=true:=by
  unfold DI.g8 at h⊢;split at h
  · rename_i a;simp only[bK]at h⊢;refine⟨h.1,?_⟩;cases aq:m.U a.block with
    |none=>rw[aq]at h;simp at h
    |some x=>rw[aq]at h;rw[W.U aq];exact h.2
  · cases h
theorem gG.sj(W:gG cn cV m bB){v:Value}(h:sj m v=true):sj bB v=true:=by
  unfold DI.sj at h⊢;split at h
  · rename_i a;cases aq:m.U a.block with
    |none=>rw[aq]at h;cases h
    |some x=>rw[aq]at h;rw[W.U aq];exact h
  · cases h
theorem gG.k4(W:gG cn cV m bB){v:Value}{n:Nat}{df:Bool}(h:DI.g8 m v n=true):k4 bB df n v=k4 m df n v:=by
  unfold DI.g8 at h;split at h
  · rename_i a;simp only[bK]at h;cases aq:m.U a.block with
    |none=>rw[aq]at h;simp at h
    |some x=>simp only[DI.k4,jI,aq,W.U aq]
  · cases h
theorem gG.rq(W:gG cn cV m bB){v:Value}{n:Nat}{cs:List Value}(h:DI.g8 m v n=true):gG cn cV (rq m v cs) (rq bB v cs):=by
  unfold DI.g8 at h;split at h
  · rename_i a;simp only[bK]at h;cases aq:m.U a.block with
    |none=>rw[aq]at h;simp at h
    |some x=>simp only[DI.rq,aq,W.U aq];exact W.an (W.lk aq) _
  · cases h
theorem gG.ig(W:gG cn cV m bB){v:Value}{O:Nat}(h:ig m O v=true):ig bB O v=true:=by
  unfold DI.ig at h⊢;split at h
  · exact h
  · rename_i a l c;simp only[bK]at h⊢;refine⟨h.1,?_⟩;cases aq:m.U a.block with
    |none=>rw[aq]at h;simp at h
    |some x=>rw[aq]at h;rw[W.U aq];exact h.2
  · cases h
theorem gG.nX(W:gG cn cV m bB){v:Value}(h:nX m v=true):nX bB v=true:=by
  unfold DI.nX at h⊢;split at h
  · rfl
  · rename_i a l c;cases aq:m.U a.block with
    |none=>rw[aq]at h;cases h
    |some x=>rw[aq]at h;rw[W.U aq];exact h
  · cases h
theorem gG.hX(W:gG cn cV m bB){v:Value}{O:Nat}(h:DI.ig m O v=true):hX bB O v=hX m O v:=by
  unfold DI.ig at h;split at h
  · rfl
  · rename_i a l c;simp only[bK]at h;cases aq:m.U a.block with
    |none=>rw[aq]at h;simp at h
    |some x=>simp only[DI.hX,jI,aq,W.U aq]
  · cases h
theorem gG.mY(W:gG cn cV m bB){v:Value}{O:Nat}(h:DI.ig m O v=true):gG cn cV (mY m v) (mY bB v):=by
  unfold DI.ig at h;split at h
  · exact W
  · rename_i a l c;simp only[bK]at h;cases aq:m.U a.block with
    |none=>rw[aq]at h;simp at h
    |some x=>exact W.an (W.lk aq) _
  · cases h
theorem gG.ml(W:gG cn cV m bB){v:Value}{bJ:List (Value×Value)}(h:ml m v=some bJ):ml bB v=some bJ:=by
  unfold DI.ml at h⊢;split at h
  · exact h
  · exact W.fg h
  · cases h
theorem Oy(W:gG cn cV m bB){k:al}{u:aM}(h:k.ok u m=true):k.ok u bB=true:=by
  cases k with
  |sY O n y=>simp only[al.ok,bK]at h⊢;exact⟨W.g8 h.1,h.2⟩
  |fu df n x=>simp only[al.ok,bK]at h⊢;exact⟨W.g8 h.1,h.2⟩
  |store n x v=>simp only[al.ok,bK]at h⊢;exact⟨⟨⟨W.g8 h.1.1.1,W.sj h.1.1.2⟩,h.1.2⟩,h.2⟩
  |qR x=>simp only[al.ok,bK]at h⊢;exact⟨W.ig h.1,by rw[W.hX h.1];exact h.2⟩
  |app O bytes x y=>simp only[al.ok,bK]at h⊢;exact⟨⟨⟨⟨⟨W.ig h.1.1.1.1.1,W.nX h.1.1.1.1.2⟩,W.ig h.1.1.1.2⟩,h.1.1.2⟩,h.1.2⟩,h.2⟩
  | pY bI O o x gJ=>
    simp only[al.ok]at h⊢;cases aN:DI.ml m (ad u x)with
    |none=>rw[aN]at h;cases h
    |some bJ=>rw[aN]at h;rw[W.ml aN];exact h
  | p0 bI x gJ v=>
    simp only[al.ok]at h⊢;split at h
    · rename_i cr b K;cases aN:m.fg b with
      |none=>rw[aN]at h;cases h
      |some bJ=>rw[aN]at h;rw[W.fg aN];exact h
    · cases h
  |_=>exact h
theorem Pm(W:gG cn cV m bB){k:al}{u:aM}{id:Nat}(h:k.ok u m=true):k.val id u bB=k.val id u m:=by
  cases k with
  |fu df n x=>simp only[al.ok,bK]at h;exact W.k4 h.1
  |qR x=>simp only[al.ok,bK]at h;simp only[al.val,W.hX h.1]
  | pY bI O o x gJ=>
    simp only[al.ok]at h;cases aN:DI.ml m (ad u x)with
    |none=>rw[aN]at h;cases h
    |some bJ=>simp only[al.val,aN,W.ml aN]
  |_=>rfl
theorem Om(W:gG cn cV m bB){k:al}{u:aM}{id:Nat}(fA: ¬cn id)(h:k.ok u m=true):gG cn cV (k.iH id u m) (k.iH id u bB):=by
  cases k with
  |eC O=>exact W.an fA _
  |pK x=>exact W.an fA _
  |jx a b c d=>exact W.an fA _
  |sn x=>exact W.an fA _
  |nN a b c d e=>exact W.an fA _
  |store n x v=>simp only[al.ok,bK]at h;exact W.rq h.1.1.1
  | app O bytes x y=>
    simp only[al.ok,bK]at h;simp only[al.iH];split
    · exact W
    · rw[W.hX h.1.1.1.1.1,W.hX h.1.1.1.2];exact(W.mY h.1.1.1.1.1).an fA _
  |pj=>exact W.hx fA _
  | p0 bI x gJ v=>
    simp only[al.ok]at h;split at h
    · rename_i cr b K;cases aN:m.fg b with
      |none=>rw[aN]at h;cases h
      |some bJ=>simp only[al.iH,K,DN,aN,W.fg aN];exact W.hx (W.XJ aN) _
    · cases h
  |_=>exact W
theorem P8(W:gG cn cV m bB){k:al}{u:aM}{mT:Nat×List Value}(h:k.gM u m=some mT):k.gM u bB=some mT:=by
  cases k with
  | q2 bW x args=>
    simp only[al.gM]at h⊢;split at h
    · split at h
      · exact h
      · split at h
        · rename_i aK;simp only[bK]at aK;rw[if_pos (by simp only[bK];exact⟨W.g8 aK.1,aK.2⟩),W.k4 aK.1];exact h
        · cases h
      · cases h
    · cases h
  |_=>exact h
theorem W2{m bB:E}{k:al}{u:aM}(h:k.gM u m=none)(aA:k.ok u m=true):k.gM u bB=none:=by
  refine vF ?_;cases k with
  |gl f a=>simp[al.ok]at aA
  |ln f a=>simp[al.ok]at aA
  |q2 f a b=>simp[al.ok]at aA
  |_=>rfl
def PC(cn:Nat->Prop)(cV:E)(dj:Callee):Prop:= ∀f a m r N,dj f a m=some (r,N)-> ∀bB,gG cn cV m bB-> ∃hs,dj f a bB=some (r,hs)/\gG cn cV N hs
theorem adY{N hs:E}(W:gG cn cV m bB)(ej:gG cn cV N hs){u:aM}{bI:List (Operand×Operand)}(h:yk u bI m N):yk u bI bB hs:= λp Y b K=>by
  by_cases ay:cn b
  · rw[(W.bG b ay).1,(ej.bG b ay).1]
  · rw[W.eq b ay,ej.eq b ay];exact h p Y b K
theorem agG{dj:Callee}(dz:PC cn cV dj)(W:gG cn cV m bB){base:Nat}(K: ∀b,cn b->b<base){o:cd}{u ae:aM}{N:E}(h:iX dj base o u m=some (ae,N))(aa:rF o u m N):
    ∃hs,iX dj base o u bB=some (ae,hs)/\gG cn cV N hs/\rF o u bB hs:=by
  unfold iX at h⊢;unfold rF at aa⊢;by_cases aS:fY u o.g=true
  · rw[if_pos aS]at h⊢
    replace aa:=aa aS
    cases aK:o.k.gM u m with
    | none=>
      rw[aK]at h aa;simp only at h aa;split at h
      · rename_i aA;cases h;simp only[W2 aK aA];rw[if_pos (Oy W aA),Pm W aA];exact⟨_,rfl,Om W (λay=>by have:=K _ ay;omega) aA,λ_=>aa⟩
      · cases h
    | some mT=>
      obtain⟨f,args⟩:=mT;rw[aK]at h aa;simp only at h aa;cases bs:dj f args m with
      |none=>rw[bs]at h;cases h
      | some Kj=>obtain⟨v,bo⟩:=Kj;rw[bs]at h;cases h;obtain⟨hs,B,ej⟩:=dz _ _ _ _ _ bs bB W;simp only[P8 W aK,B];exact⟨_,rfl,ej,λ_=>adY W ej aa⟩
  · rw[if_neg aS]at h⊢;cases h;exact⟨bB,rfl,W,λh=>absurd h aS⟩
theorem BQ{dj:Callee}(dz:PC cn cV dj){base:Nat}(K: ∀b,cn b->b<base): ∀{L:List cd} {u ae:aM} {m N bB:E},gG cn cV m bB->lL dj base L u m=some (ae,N)-> ∃hs,lL dj base L u bB=some (ae,hs)/\gG cn cV N hs
  |[],_,_,_,_,bB,W,h=>by cases h;exact⟨bB,rfl,W⟩
  | _::_,_,_,_,_,bB,W,h=>by obtain⟨cC,bo,B,H,af⟩:=uY h;obtain⟨lO,aj,e5,ba⟩:=agG dz W K B H;obtain⟨vc,cD,la⟩:=BQ dz K e5 af;exact⟨vc,BY aj ba cD,la⟩
theorem N2{f:aM->E->Option (dp×aM×E)}(bs: ∀u m e ae N,f u m=some (e,ae,N)-> ∀bB,gG cn cV m bB-> ∃hs,f u bB=some (e,ae,hs)/\gG cn cV N hs):
    ∀{n:Nat} {u:aM} {m:E} {e:dp} {ae:aM} {N bB:E},lq f n u m=some (e,ae,N)->gG cn cV m bB-> ∃hs,lq f n u bB=some (e,ae,hs)/\gG cn cV N hs
  |0,_,_,_,_,_,_,h,_=>by simp[lq]at h
  | n+1,u,m,e,ae,N,bB,h,W=>by
    rcases N3 h with⟨cC,bo,B,H⟩|⟨B,H⟩
    · obtain⟨lO,aj,e5⟩:=bs _ _ _ _ _ B bB W;obtain⟨vc,ba,la⟩:=N2 bs H e5;exact⟨vc,by simp only[lq,aj];exact ba,la⟩
    · obtain⟨lO,aj,e5⟩:=bs _ _ _ _ _ B bB W;refine⟨lO,?_,e5⟩;simp only[lq,aj];cases e with
      |gu=>exact absurd rfl H
      |bw id=>rfl
      |aT=>rfl
theorem Ir{m:E}{b:Nat}:(qq m).U b=(m.U b).map Iq:=by
  unfold E.U;show(if b<m.next then _ else _)=_;by_cases h:b<m.next
  · rw[if_pos h,if_pos h];rfl
  · rw[if_neg h,if_neg h];rfl
theorem gG.qq(W:gG cn cV m bB):gG cn (qq cV) (qq m) (qq bB) where
  next:=W.next
  we:=W.we
  cK:=W.cK
  off b K:=by rw[Ir,W.off b K];rfl
  bG b K:=⟨by rw[Ir,Ir,(W.bG b K).1],rfl⟩
  eq b K:=by rw[Ir,Ir,W.eq b K]
  mp:=rfl
theorem gG.tZ(W:gG cn cV m bB){O:Nat}{v:Value}(h:tZ O m v=true):tZ O bB v=true:=by
  unfold DI.tZ at h⊢;split at h
  · rename_i a l c;cases aq:m.U a.block with
    |none=>rw[aq]at h;cases h
    |some x=>rw[aq]at h;rw[W.U aq];exact h
  · rfl
theorem gG.pX(W:gG cn cV m bB){o:cd}{u:aM}(h:pX o u m=true):pX o u bB=true:=by
  unfold DI.pX at h⊢;simp only[bK]at h⊢;refine⟨⟨h.1.1,?_⟩,Oy W h.2⟩;have:=h.1.2;split at this
  · exact W.tZ this
  · cases this
theorem qe{dj:Callee}(dz: ∀cV,PC cn cV dj){n:Nat}: ∀{c:J} {u ae:aM} {m N bB:E} {e:dp},fx dj n c u m=some (e,ae,N)->gG cn cV m bB-> ∃hs,fx dj n c u bB=some (e,ae,hs)/\gG cn cV N hs
  | .skip,_,_,_,_,bB,_,h,W=>by cases h;exact⟨bB,rfl,W⟩
  | .G ops,u,ae,m,N,bB,e,h,W=>by
    simp only[fx]at h⊢;split at h
    · rename_i cC bo aH;cases h;have ej:gG cn cV (kK ops m) (kK ops bB):=by
        unfold kK;split
        · exact W.bx _
        · exact W
      obtain⟨hs,g,la⟩:=BQ (dz cV) (base:=m.next) (λb K=>W.cK b K) ej aH;refine⟨hs,?_,la⟩;rw[W.next,g]
    · cases h
  | .w1 cj o b4,u,ae,m,N,bB,e,h,W=>by
    simp only[fx]at h⊢;split at h
    · rename_i cC bo B;split at h
      · rename_i aA;split at h
        · rename_i ev cc H;cases h;obtain⟨lO,aj,e5⟩:=BQ (dz cV) (base:=m.next) (λb K=>W.cK b K) (W.bx _) B;have aa:o.k.ok cC bo=true:=(by unfold DI.pX at aA;simp only[bK]at aA;exact aA.2);obtain⟨vc,ba,la⟩:=BQ (dz _) (base:=m.next) (λb K=>W.cK b K) e5.qq H;rw[W.next,aj];simp only[e5.pX aA,if_true,Pm e5 aa,ba,la.next,e5.next];exact⟨_,rfl,(Om e5 (λay=>by have:=W.cK _ ay;omega) aa).bx _⟩
        · cases h
      · cases h
    · cases h
  | .D a b,u,ae,m,N,bB,e,h,W=>by
    simp only[fx]at h⊢;split at h
    · rename_i cC bo B;obtain⟨lO,aj,e5⟩:=qe dz B W;obtain⟨vc,ba,la⟩:=qe dz h e5;exact⟨vc,by rw[aj];exact ba,la⟩
    · rename_i dE;obtain⟨lO,aj,e5⟩:=qe dz h W;refine⟨lO,?_,e5⟩;rw[aj];cases e with
      |gu=>exact absurd h (dE _ _)
      |bw id=>rfl
      |aT=>rfl
  | .a8 x a b,u,ae,m,N,bB,e,h,W=>by
    simp only[fx]at h⊢;split at h
    · rename_i B;rw[if_pos B];split at h
      · rename_i H;rw[if_pos H];exact qe dz h W
      · rename_i H;rw[if_neg H];exact qe dz h W
    · cases h
  | .block id c,u,ae,m,N,bB,e,h,W=>by
    simp only[fx]at h⊢;split at h
    · rename_i B;obtain⟨lO,aj,e5⟩:=qe dz B W;rw[aj];simp only;split at h
      · rename_i fA;cases h;exact⟨lO,by rw[if_pos fA],e5⟩
      · rename_i fA;cases h;exact⟨lO,by rw[if_neg fA],e5⟩
    · rename_i dE;obtain⟨lO,aj,e5⟩:=qe dz h W;refine⟨lO,?_,e5⟩;rw[aj];cases e with
      |gu=>rfl
      |bw id=>exact absurd h (dE _ _ _)
      |aT=>rfl
  | .loop c,u,ae,m,N,bB,e,h,W=>by simp only[fx]at h⊢;exact N2 (f:=fx dj n c) (λu m e ae N B bB W=>qe dz B W) h W
  | .bw id,_,_,_,_,bB,_,h,W=>by cases h;exact⟨bB,rfl,W⟩
  | .aT,_,_,_,_,bB,_,h,W=>by cases h;exact⟨bB,rfl,W⟩
theorem GR(W:gG cn cV m bB){u:aM}{r:nD}(h:sT m u r=true):sT bB u r=true/\tU bB u r=tU m u r:=by
  cases r with
  |bq t=>exact⟨rfl,rfl⟩
  | h8 t df n=>simp only[sT,bK]at h⊢;exact⟨⟨W.g8 h.1,h.2⟩,W.k4 h.1⟩
theorem afb(W:gG cn cV m bB){u:aM}{bf:List nD}(h:nU m u bf=true):nU bB u bf=true/\oq bB u bf=oq m u bf:=by
  have aH: ∀r∈bf,sT m u r=true:=by simpa[nU]using h
  refine⟨by simp only[nU,hJ];exact λr aN=>(GR W (aH r aN)).1,?_⟩;unfold oq;split
  · exact(GR W (aH _ (by simp))).2
  · rw[uf λr aN=>(GR W (aH r aN)).2]
theorem KV{P:Program}: ∀n cV,PC cn cV (lA P n)
  |0,_=> λf a m r N h=>by simp[lA]at h
  | n+1,cV=> λf a m r N h bB W=>by
    simp only[lA]at h⊢;split at h
    · rename_i z dD;split at h
      · rename_i fM;rw[if_pos fM];split at h
        · cases h
        · rename_i e ae bo dE nH;obtain⟨lO,aj,e5⟩:=qe (KV n) nH W;split at h
          · rename_i aH;cases h;obtain⟨ba,cD⟩:=afb e5 aH;rw[aj];refine⟨lO,?_,e5⟩;cases e with
            |gu=>simp only[ba,cD,if_true]
            |aT=>simp only[ba,cD,if_true]
            |bw id=>exact absurd rfl (dE id)
          · cases h
        · cases h
      · cases h
    · cases h
end
structure qO(p m:E):Prop where
  next:p.next=m.next
  mp:p.mp=m.mp
  U: ∀b x,p.U b=some x->m.U b=some x
structure atA(p m fb N:E):Prop where
  part:qO fb N
  next:m.next<=N.next
  OD: ∀b,b<m.next->p.U b=none->N.U b=m.U b/\fb.U b=none/\N.mp b=m.mp b
theorem qO.refl(m:E):qO m m:=⟨rfl,rfl,λ_ _ h=>h⟩
theorem bU.frame{P:Program}{f:Nat}{args:List Value}{p m:E}{aI:Value->E->Prop}(Y:qO p m)(h:bU P f args p aI):
    bU P f args m λr N=> ∃fb,aI r fb/\atA p m fb N:=by
  obtain⟨n,r,fb,B,q⟩:=h;have W:gG (λb=>b<p.next/\p.U b=none) m p m:=by
    refine⟨Y.next.symm,by rw[Y.next];exact eB _,λb K=>K.1,λb K=>K.2,λb _=>⟨rfl,rfl⟩,λb K=> ?_,Y.mp.symm⟩;cases aq:p.U b with
    |some x=>exact Y.U b x aq
    | none=>
      have: ¬b<p.next:= λcg=>K ⟨cg,aq⟩
      have H: ¬b<m.next:=by rw[<-Y.next];exact this
      simp only[E.U,H,if_false]
  obtain⟨N,H,ej⟩:=KV n m _ _ _ _ _ B m W;refine⟨n,r,N,H,fb,q,⟨ej.next.symm,ej.mp.symm,λb x K=>ej.U K⟩,?_,λb K av=> ?_⟩
  · rw[ej.next];exact ej.we
  · have ay:b<p.next/\p.U b=none:=⟨by rw[Y.next];exact K,av⟩
    exact⟨(ej.bG b ay).1,ej.off b ay,(ej.bG b ay).2⟩
inductive fZ where
  |int (k:IntKind)
  |bool
  |str
  |slice (e:fZ)
  |unit
  |g5 (a b:fZ)
abbrev fZ.cn:fZ->Type
  | .int _=>Int
  | .bool=>Bool
  | .str=>ByteArray
  | .slice e=>List e.cn
  | .unit=>Unit
  | .g5 a b=>a.cn×b.cn
def fZ.cells:fZ->Nat
  | .unit=>0
  | .g5 a b=>a.cells+b.cells
  |_=>1
def fZ.cK:fZ->Nat
  | .int .u32=>4
  |_=>1
theorem fZ.aGZ(s:fZ):1<=s.cK:=by unfold fZ.cK;split<;>omega
theorem fZ.aGY(s:fZ){n k:Nat}(h:n*s.cK<=k):n<=k:=nC (Nat.le_mul_of_pos_right n s.aGZ) h
def fZ.isAgg:fZ->Bool
  | .unit| .g5 _ _=>true
  |_=>false
def uC(P:Program)(h:TypeId->fZ->Bool):Nat->List Field->fZ->Bool
  |_,[],.unit=>true
  |off,f::gH,.g5 a b=>f.offset==off&&h f.type a&&P.cellsOf f.type==a.cells&&uC P h (off+a.cells) gH b
  |_,_,_=>false
def uB(h:fZ->Bool)(O:Nat):Nat->fZ->Bool
  |0,.unit=>true
  |n+1,.g5 a b=>h a&&a.cells==O&&uB h O n b
  |_,_=>false
def CP(P:Program):Nat->TypeId->fZ->Bool
  |0,_,_=>false
  | n+1,t,s=>match P.underlying t,s with
    |some (.int k),.int gI=>decide (k=gI)
    |some .bool,.bool=>true
    |some .string,.str=>true
    |some (.slice e),.slice iu=>CP P n e iu&&P.cellsOf e==iu.cells&&decide (0<iu.cells)&&decide (iu.cK<=P.bytesOf e)
    |some (.struct gH),s=>s.isAgg&&P.cellsOf t==s.cells&&uC P (CP P n) 0 gH.toList s
    |some (.array k e),s=>s.isAgg&&P.cellsOf t==s.cells&&uB (CP P n e) (P.cellsOf e) k s
    |_,_=>false
abbrev jv{e:fZ}(l:(fZ.slice e).cn):List e.cn:=l
def sf(m:E):(s:fZ)->List Value->s.cn->Prop
  | .int k,cs,n=>cs=[.int k n]/\(Lit.int k n).wf=true
  | .bool,cs,b=>cs=[.bool b]
  | .str,cs,s=>cs=[.string s]/\s.size<=reachBytes
  | .slice e,cs,l=>(cs=[.slice none 0 0]/\jv l=[])\/ ∃(b:Nat) (bW:List (List Value)),cs=[.slice (some ⟨b,0,none⟩) (jv l).length e.cells]/\m.U b=some ⟨bW.flatten,false⟩/\(jv l).length*e.cK<=reachBytes/\bW.length=(jv l).length/\(∀(i:Nat) (r:List Value) (d:e.cn),bW[i]?=some r->(jv l)[i]?=some d->sf m e r d)
  | .unit,cs,_=>cs=[]
  | .g5 a b,cs,d=> ∃bY cN,cs=bY++cN/\sf m a bY d.1/\sf m b cN d.2
theorem sf.len{m:E}: ∀{s:fZ} {cs:List Value} {d:s.cn},sf m s cs d->cs.length=s.cells
  | .int _,_,_,h=>by rw[h.1];rfl
  | .bool,cs,d,h=>by have:cs=[.bool d]:=h;rw[this];rfl
  | .str,_,_,h=>by rw[h.1];rfl
  | .slice _,_,_,h=>by rcases h with⟨rfl,_⟩|⟨b,bW,rfl,_⟩<;>rfl
  | .unit,cs,_,h=>by have:cs=[]:=h;rw[this];rfl
  | .g5 a b,_,_,h=>by obtain⟨bY,cN,rfl,B,H⟩:=h;simp[fZ.cells,B.len,H.len]
theorem sf.aD{m N:E}(aN: ∀b x,m.U b=some x->x.own=false->N.U b=some x): ∀{s:fZ} {cs:List Value} {d:s.cn},sf m s cs d->sf N s cs d
  | .int _,_,_,h=>h
  | .bool,_,_,h=>h
  | .str,_,_,h=>h
  | .slice e,_,_,h=>by
    rcases h with h|⟨b,bW,B,H,af,aL,cm⟩
    · exact .inl h
    · exact .inr ⟨b,bW,B,aN _ _ H rfl,af,aL,λi r d aH ay=>(cm i r d aH ay).aD aN⟩
  | .unit,_,_,h=>h
  | .g5 a b,_,_,h=>by obtain⟨bY,cN,bH,B,H⟩:=h;exact⟨bY,cN,bH,B.aD aN,H.aD aN⟩
def fZ.dc:fZ->Bool
  | .slice _=>false
  | .g5 a b=>a.dc&&b.dc
  |_=>true
def Xt:(s:fZ)->s.cn->List Value
  | .int k,n=>[.int k n]
  | .bool,b=>[.bool b]
  | .str,s=>[.string s]
  | .slice _,_=>[]
  | .unit,_=>[]
  | .g5 a b,d=>Xt a d.1++Xt b d.2
def yr:(s:fZ)->s.cn->Prop
  | .int k,n=>(Lit.int k n).wf=true
  | .bool,_=>True
  | .str,s=>s.size<=reachBytes
  | .slice e,l=>(jv l).length*e.cK<=reachBytes/\ ∀x∈jv l,yr e x
  | .unit,_=>True
  | .g5 a b,d=>yr a d.1/\yr b d.2
theorem sf.enc{m:E}: ∀{s:fZ} {cs:List Value} {d:s.cn},s.dc=true->sf m s cs d->cs=Xt s d
  | .int _,_,_,_,h=>h.1
  | .bool,_,_,_,h=>h
  | .str,_,_,_,h=>h.1
  | .slice _,_,_,bs,_=>by cases bs
  | .unit,_,_,_,h=>h
  | .g5 a b,_,_,bs,h=>by simp only[fZ.dc,bK]at bs;obtain⟨bY,cN,rfl,B,H⟩:=h;rw[B.enc bs.1,H.enc bs.2];rfl
theorem sf.ok{m:E}: ∀{s:fZ} {cs:List Value} {d:s.cn},sf m s cs d->yr s d
  | .int _,_,_,h=>h.2
  | .bool,_,_,_=>trivial
  | .str,_,_,h=>h.2
  | .slice e,_,l,h=>by
    rcases h with⟨_,h⟩|⟨b,bW,B,H,af,aL,cm⟩
    · subst h;exact⟨by simp[jv],λx F=>by cases F⟩
    · refine⟨af,λx F=> ?_⟩;obtain⟨i,ag,rfl⟩:=s7 F;exact(cm i (bW[i]'(by omega)) _ (by simp) (by simp)).ok
  | .unit,_,_,_=>trivial
  | .g5 a b,_,_,h=>by obtain⟨bY,cN,bH,B,H⟩:=h;exact⟨B.ok,H.ok⟩
def Aq(m:E)(s:fZ)(v:Value)(d:s.cn):Prop:= ∃cs,sf m s cs d/\v=if s.isAgg then .agg cs.toArray else cs.headD undef
inductive xw(m:E):List fZ->List Value->Prop
  |nil:xw m [] []
  |cons {s:fZ} {v:Value} {d:s.cn} {m7:List fZ} {dh:List Value} (h:Aq m s v d) (M:xw m m7 dh):xw m (s::m7) (v::dh)
theorem xw.aD{m N:E}(aN: ∀b x,m.U b=some x->x.own=false->N.U b=some x){m7:List fZ}{dh:List Value}(h:xw m m7 dh):xw N m7 dh:=by
  induction h with
  |nil=>exact .nil
  |cons h M cB=>obtain⟨cs,B,H⟩:=h;exact .cons ⟨cs,B.aD aN,H⟩ cB
section
variable {a9:Nat} {ak:fC} {m:E} {w:World}
theorem eW.ahv(aN:eW a9 ak m w)(ah: ∀b x,m.U b=some x->x.own=false){xs:List Value}{l:xA}(aE:l.c<w.heap.size)(av:xs.length<=l.n)
    (F: ∀i v,xs[i]?=some v->au v=true/\ ∃b2,w.cell? ⟨l.c,l.o+i,none⟩=some b2/\eY ak v b2):
    eW a9 (jF ak m.next l) ((m.bx 1).an m.next (some ⟨xs,false⟩)) w/\hM ak (jF ak m.next l)/\(∀b x,m.U b=some x->((m.bx 1).an m.next (some ⟨xs,false⟩)).U b=some x)/\
      (∀b x,((m.bx 1).an m.next (some ⟨xs,false⟩)).U b=some x->x.own=false)/\((m.bx 1).an m.next (some ⟨xs,false⟩)).U m.next=some ⟨xs,false⟩:=by
  have aH:ak m.next=none:=by
    cases h:ak m.next with
    |none=>rfl
    |some l=>have:=aN.qU _ _ h;omega
  have fM:=xk (l:=l) aH;have ake:((m.bx 1).an m.next (some ⟨xs,false⟩)).U m.next=some ⟨xs,false⟩:=cW (by simp)
  have Ib: ∀b x,m.U b=some x->((m.bx 1).an m.next (some ⟨xs,false⟩)).U b=some x:= λb x K=>by have:=aO K;rw[dC (by omega),gm this,K]
  have HZ: ∀b x,((m.bx 1).an m.next (some ⟨xs,false⟩)).U b=some x->(b=m.next/\x=⟨xs,false⟩)\/m.U b=some x:= λb x K=>by
    by_cases e:b=m.next
    · subst e;rw[ake]at K;cases K;exact .inl ⟨rfl,rfl⟩
    · rw[dC e,E.gm]at K;exact .inr K
  have oL: ∀b x,((m.bx 1).an m.next (some ⟨xs,false⟩)).U b=some x->x.own=false:= λb x K=>by
    rcases HZ b x K with⟨_,rfl⟩|h
    · rfl
    · exact ah _ _ h
  refine⟨⟨λb eZ K=> ?_,λb eZ K=> ?_,λb x K=> ?_,λb x b7 hY fP dX B H=> ?_,λb bJ K=> ?_,λb bJ K=> ?_⟩,fM,Ib,oL,ake⟩
  · unfold jF at K;split at K
    · rename_i e;rw[e];simp
    · have:=aN.qU _ _ K;simp;omega
  · unfold jF at K;split at K
    · cases K;exact aE
    · exact aN.oO _ _ K
  · rcases HZ b x K with⟨rfl,rfl⟩|h
    · exact⟨l,by simp[jF],av,λi v S=>by obtain⟨bC,b2,cq,cZ⟩:=F i v S;exact⟨bC,b2,cq,cZ.aD fM⟩,λh=>by cases h⟩
    · obtain⟨eZ,aj,ba,cD,fs⟩:=aN.ph b x h;exact⟨eZ,fM _ _ aj,ba,λi v S=>by obtain⟨bC,b2,cq,cZ⟩:=cD i v S;exact⟨bC,b2,cq,cZ.aD fM⟩,fs⟩
  · rw[oL _ _ B]at H;cases H
  · obtain⟨eZ,h⟩:=aN.yn b bJ K;exact⟨eZ,fM _ _ h⟩
  · exfalso;unfold E.fg at K;split at K
    · rename_i h;have:=oL _ _ h;cases this
    · cases K
end
section
variable {kt:Type} {enc:TypeId×Value->kt} {P:Program} {db:World}
theorem ahc{P:Program}{e:TypeId}{d:DataW kt}{n:Nat}: ∀{l:List (DataW kt)},d∈l->n∈d.weights P e->n∈DataW.weightsAll P e l
  |[],h,_=>by cases h
  | x::r,h,av=>by
    simp only[DataW.weightsAll,mM];rcases oz.1 h with rfl|h
    · exact .inl av
    · exact .inr (ahc h av)
structure Wz(db:World)(ak:fC)(m:E)(s:fZ)(cs:List Value)(dw:fC)(N:E)(a1i:List Value)(d:s.cn):Prop where
  vV:eW db.heap.size dw N db
  BE:hM ak dw
  om: ∀b x,m.U b=some x->N.U b=some x
  own: ∀b x,N.U b=some x->x.own=false
  Ha:dW dw a1i cs
  hS: ∀v∈a1i,au v=true
  EP:sf N s a1i d
def PF(db:World)(cs:List Value):Prop:= ∀a len cap,.slice (some a) len cap∈cs->0<db.heap.size
def PG(enc:TypeId×Value->kt)(P:Program)(db:World)(t:TypeId)(s:fZ):Prop:=
  ∀mx cs x,DataW.trod enc P db 0 (λ_=>true) true mx t cs=some x->(∀n∈x.1.weights P t,n<=reachBytes)->PF db cs-> ∀ak m,eW db.heap.size ak m db->(∀b x,m.U b=some x->x.own=false)-> ∃dw N a1i d,Wz db ak m s cs dw N a1i d
theorem aqH{h:TypeId->fZ->Bool}(a6: ∀t s,h t s=true->PG enc P db t s): ∀(gH:List Field) (s:fZ) (off mx:Nat) (cs:List Value),uC P h off gH s=true->off+s.cells<=cs.length->
    (∀f∈gH,∃x,DataW.trod enc P db 0 (λ_=>true) true mx f.type ((cs.drop f.offset).take (P.cellsOf f.type))=some x/\ ∀n∈x.1.weights P f.type,n<=reachBytes)->PF db cs->
    ∀ak m,eW db.heap.size ak m db->(∀b x,m.U b=some x->x.own=false)-> ∃dw N a1i d,Wz db ak m s ((cs.drop off).take s.cells) dw N a1i d
  |[],.unit,off,mx,cs,M,aE,F,cl,ak,m,aN,ah=>⟨ak,m,[],(),aN,hM.refl ak,λ_ _ h=>h,ah,by simpa[fZ.cells]using dW.nil ak,by simp,rfl⟩
  | f::gH,.g5 a b,off,mx,cs,M,aE,F,cl,ak,m,aN,ah=>by
    simp only[uC,bK,beq_iff_eq]at M;obtain⟨⟨⟨rfl,B⟩,H⟩,af⟩:=M;simp only[fZ.cells]at aE⊢;obtain⟨x,gP,Y1⟩:=F f (by simp);rw[H]at gP;obtain⟨oZ,bo,kP,j5,cA⟩:=a6 _ _ B _ _ _ gP Y1 (λcy len cap lF=>cl cy len cap (Ey (Ez lF))) ak m aN ah;obtain⟨o0,cc,KL,lC,dG⟩:=aqH a6 gH b (f.offset+a.cells) mx cs af (by omega) (λaiE xU=>F aiE (by simp[xU])) cl oZ bo cA.vV cA.own;refine⟨o0,cc,kP++KL,(j5,lC),dG.vV,cA.BE.trans dG.BE,λb x K=>dG.om _ _ (cA.om _ _ K),dG.own,?_,?_,⟨kP,KL,rfl,cA.EP.aD (λb x K _=>dG.om _ _ K),dG.EP⟩⟩
    · rw[List.take_add,s9];exact(cA.Ha.aD dG.BE).uq dG.Ha
    · intro v S;rcases mM.1 S with h|h
      · exact cA.hS v h
      · exact dG.hS v h
  |[],.int _,_,_,_,M,_,_,_,_,_,_,_=>by simp[uC]at M
  |[],.bool,_,_,_,M,_,_,_,_,_,_,_=>by simp[uC]at M
  |[],.str,_,_,_,M,_,_,_,_,_,_,_=>by simp[uC]at M
  |[],.slice _,_,_,_,M,_,_,_,_,_,_,_=>by simp[uC]at M
  |[],.g5 _ _,_,_,_,M,_,_,_,_,_,_,_=>by simp[uC]at M
  |_::_,.int _,_,_,_,M,_,_,_,_,_,_,_=>by simp[uC]at M
  |_::_,.bool,_,_,_,M,_,_,_,_,_,_,_=>by simp[uC]at M
  |_::_,.str,_,_,_,M,_,_,_,_,_,_,_=>by simp[uC]at M
  |_::_,.slice _,_,_,_,M,_,_,_,_,_,_,_=>by simp[uC]at M
  |_::_,.unit,_,_,_,M,_,_,_,_,_,_,_=>by simp[uC]at M
theorem aqG{h:fZ->Bool}{e:TypeId}{O:Nat}(a6: ∀s,h s=true->PG enc P db e s): ∀(n:Nat) (s:fZ) (i mx:Nat) (cs:List Value),uB h O n s=true->i*O+s.cells<=cs.length->
    (∀j,i<=j->j<i+n-> ∃x,DataW.trod enc P db 0 (λ_=>true) true mx e ((cs.drop (j*O)).take O)=some x/\ ∀n∈x.1.weights P e,n<=reachBytes)->PF db cs->
    ∀ak m,eW db.heap.size ak m db->(∀b x,m.U b=some x->x.own=false)-> ∃dw N a1i d,Wz db ak m s ((cs.drop (i*O)).take s.cells) dw N a1i d
  |0,.unit,i,mx,cs,M,aE,F,cl,ak,m,aN,ah=>⟨ak,m,[],(),aN,hM.refl ak,λ_ _ h=>h,ah,by simpa[fZ.cells]using dW.nil ak,by simp,rfl⟩
  | n+1,.g5 a b,i,mx,cs,M,aE,F,cl,ak,m,aN,ah=>by
    simp only[uB,bK,beq_iff_eq]at M;obtain⟨⟨B,rfl⟩,af⟩:=M;simp only[fZ.cells]at aE⊢;obtain⟨x,gP,Y1⟩:=F i (eB _) (by omega);obtain⟨oZ,bo,kP,j5,cA⟩:=a6 _ B _ _ _ gP Y1 (λcy len cap lF=>cl cy len cap (Ey (Ez lF))) ak m aN ah;have aX:(i+1)*a.cells=i*a.cells+a.cells:=(by rw[mN];omega);obtain⟨o0,cc,KL,lC,dG⟩:=aqG a6 n b (i+1) mx cs af (by omega) (λj B H=>F j (by omega) (by omega)) cl oZ bo cA.vV cA.own;refine⟨o0,cc,kP++KL,(j5,lC),dG.vV,cA.BE.trans dG.BE,λb x K=>dG.om _ _ (cA.om _ _ K),dG.own,?_,?_,⟨kP,KL,rfl,cA.EP.aD (λb x K _=>dG.om _ _ K),dG.EP⟩⟩
    · rw[List.take_add,s9,<-aX];exact(cA.Ha.aD dG.BE).uq dG.Ha
    · intro v S;rcases mM.1 S with h|h
      · exact cA.hS v h
      · exact dG.hS v h
  |0,.int _,_,_,_,M,_,_,_,_,_,_,_=>by simp[uB]at M
  |0,.bool,_,_,_,M,_,_,_,_,_,_,_=>by simp[uB]at M
  |0,.str,_,_,_,M,_,_,_,_,_,_,_=>by simp[uB]at M
  |0,.slice _,_,_,_,M,_,_,_,_,_,_,_=>by simp[uB]at M
  |0,.g5 _ _,_,_,_,M,_,_,_,_,_,_,_=>by simp[uB]at M
  |_+1,.int _,_,_,_,M,_,_,_,_,_,_,_=>by simp[uB]at M
  |_+1,.bool,_,_,_,M,_,_,_,_,_,_,_=>by simp[uB]at M
  |_+1,.str,_,_,_,M,_,_,_,_,_,_,_=>by simp[uB]at M
  |_+1,.slice _,_,_,_,M,_,_,_,_,_,_,_=>by simp[uB]at M
  |_+1,.unit,_,_,_,M,_,_,_,_,_,_,_=>by simp[uB]at M
theorem aqI{e:TypeId}{s:fZ}(a6:PG enc P db e s){a:Addr}(M:a.spot=none){mx:Nat}(kT:0<db.heap.size): ∀(k:Nat),(∀i,i<k-> ∃cs x,db.cells? 0 (a.add (i*s.cells)) s.cells=some cs/\DataW.trod enc P db 0 (λ_=>true) true mx e cs=some x/\ ∀n∈x.1.weights P e,n<=reachBytes)->
    ∀ak m,eW db.heap.size ak m db->(∀b x,m.U b=some x->x.own=false)->
    ∃ (dw:fC) (N:E) (bW:List (List Value)) (ds:List s.cn),eW db.heap.size dw N db/\hM ak dw/\(∀b x,m.U b=some x->N.U b=some x)/\(∀b x,N.U b=some x->x.own=false)/\bW.length=k/\ds.length=k/\(bW.flatten).length=k*s.cells/\
      (∀i v,bW.flatten[i]?=some v->au v=true/\ ∃b2,db.cell? ⟨a.block,a.off+i,none⟩=some b2/\eY dw v b2)/\(∀(i:Nat) (r:List Value) (d:s.cn),bW[i]?=some r->ds[i]?=some d->sf N s r d)
  |0,_,ak,m,aN,ah=>⟨ak,m,[],[],aN,hM.refl ak,λ_ _ h=>h,ah,rfl,rfl,by simp,by simp,by simp⟩
  | k+1,aa,ak,m,aN,ah=>by
    obtain⟨oZ,bo,bW,ds,aj,ba,cD,fs,iU,mc,wB,Fc,XF⟩:=aqI a6 M kT k (λi ag=>aa i (by omega)) ak m aN ah;obtain⟨cs,x,aK,F,az9⟩:=aa k (by omega);obtain⟨_,fN,CT⟩:=World.cells?_some aK;obtain⟨o0,cc,a1i,d,o⟩:=a6 _ _ _ F az9 (λ_ _ _ _=>kT) oZ bo aj fs;have gO:a1i.length=s.cells:=o.EP.len;refine⟨o0,cc,bW++[a1i],ds++[d],o.vV,ba.trans o.BE,λb x K=>o.om _ _ (cD _ _ K),o.own,by simp[iU],by simp[mc],?_,?_,?_⟩
    · simp[wB,gO,mN]
    · intro i v S;rw[Px,Hm]at S;split at S
      · obtain⟨bC,b2,cq,cZ⟩:=Fc i v S;exact⟨bC,b2,cq,cZ.aD o.BE⟩
      · rename_i ag;rw[wB]at ag S;simp only[u7,List.flatten_nil,An]at S;refine⟨o.hS v (fT S),?_⟩;obtain⟨b2,qn,aH⟩:=o.Ha.U S;have qk:i-k*s.cells<s.cells:=(by have:=(dg.1 S).1;omega);have:=CT _ qk;rw[qn]at this;refine⟨b2,?_,aH⟩;rw[<-this];congr 1;obtain⟨lP,ahA,ahD⟩:=a;simp only at M;subst M;unfold Addr.add;split<;>split<;>simp<;>omega
    · intro i r o4 aH ay;rw[Hm]at aH ay;rw[iU]at aH;rw[mc]at ay;split at aH
      · rename_i ag;rw[if_pos ag]at ay;exact(XF i r o4 aH ay).aD (λb x K _=>o.om _ _ K)
      · rename_i ag;rw[if_neg ag]at ay;have:i-k=0:=by
          have:=(dg.1 aH).1;simp at this;omega
        rw[this]at aH ay;simp at aH ay;subst aH;subst ay;exact o.EP
theorem aqJ: ∀(n:Nat) (t:TypeId) (s:fZ),CP P n t s=true->PG enc P db t s
  |0,_,_,h=>by cases h
  | n+1,t,s,h=>by
    have cB:=aqJ n;intro mx cs x F uK cl ak m aN ah;unfold CP at h;split at h
    · rename_i k gI ar;simp only[fU]at h;subst h;obtain⟨v,rfl,rfl,aS⟩:=DataW.trod_int ar F;exact⟨ak,m,[.int k v],v,aN,hM.refl ak,λ_ _ h=>h,ah,dW.cons (.dc rfl) (dW.nil ak),by simp[au],⟨rfl,aS⟩⟩
    · rename_i ar;obtain⟨b,rfl,rfl⟩:=DataW.trod_bool ar F;exact⟨ak,m,[.bool b],b,aN,hM.refl ak,λ_ _ h=>h,ah,dW.cons (.dc rfl) (dW.nil ak),by simp[au],rfl⟩
    · rename_i ar;obtain⟨v,rfl,rfl,aS⟩:=DataW.trod_string ar F;exact⟨ak,m,[.string v],v,aN,hM.refl ak,λ_ _ h=>h,ah,dW.cons (.dc rfl) (dW.nil ak),by simp[au],⟨rfl,by have:=uK v.data.toList.length (by simp[DataW.weights]);simpa using this⟩⟩
    · rename_i e iu ar;simp only[bK,beq_iff_eq,fU]at h;obtain⟨⟨⟨B,H⟩,af⟩,ayB⟩:=h;rcases DataW.trod_slice ar F with⟨rfl,rfl⟩|⟨a,len,cap,E0,b4,cz,_,rfl,rfl,_,Fy,vs,aRM,b8,gN,_⟩
      · exact⟨ak,m,[.slice none 0 0],[],aN,hM.refl ak,λ_ _ h=>h,ah,dW.cons (.dc rfl) (dW.nil ak),by simp[au],.inl ⟨rfl,rfl⟩⟩
      · have kT:0<db.heap.size:=cl a len cap (by simp);have Y2:len*iu.cK<=reachBytes:=by
          have cm:=uK ((E0.length+b4.length)*P.bytesOf e) (by simp[DataW.weights,ar]);have dK:len*iu.cK<=(E0.length+b4.length)*P.bytesOf e:=Nat.mul_le_mul (by omega) ayB;omega
        have az7: ∀y∈E0,∀n∈y.1.weights P e,n<=reachBytes:= λy ab n av=>uK n (by simp only[DataW.weights,ar];exact Pv _ (pA _ (ahc (List.mem_map_of_mem ab) av)));rw[H]at b8 gN;have gN:=gN rfl
        -- where aLT q3 a h8,lN aPx q3 plain
        have X6:0<cap->a.spot=none/\a.block<db.heap.size:=by
          intro aK;have: ∃cs,db.cells? 0 a iu.cells=some cs:=by
            by_cases aE:0<len
            · have:=b8 0 aE;obtain⟨y,ab⟩: ∃y,E0[0]?=some y:=⟨E0[0]'(by omega),by simp⟩;rw[ab,Option.bind_eq_some_iff]at this;obtain⟨cs,fe,_⟩:=this;exact⟨cs,by simpa[Addr.add]using fe⟩
            · have:=gN.2 0 (by omega);obtain⟨y,ab⟩: ∃y,b4[0]?=some y:=⟨b4[0]'(by omega),by simp⟩;rw[ab,Option.bind_eq_some_iff]at this;obtain⟨cs,fe,_⟩:=this;exact⟨cs,by simpa[Addr.add,show len=0 by omega]using fe⟩
          obtain⟨cs,fe⟩:=this;refine⟨?_,World.cells?_block fe af⟩;obtain⟨_,aE,CT⟩:=World.cells?_some fe;have bH:=CT 0 af;obtain⟨eI,zd⟩: ∃eI,cs[0]?=some eI:=⟨cs[0]'(by omega),by simp⟩;rw[zd]at bH;simp only[Addr.add,if_true]at bH;unfold World.cell? at bH;split at bH
          · split at bH
            · cases bH
            · rename_i nK;simpa using nK
          · cases bH
        by_cases zd:cap=0
        · obtain rfl:len=0:=(by omega);subst zd;obtain⟨eT,fk,hB,js,mm⟩:=aN.ahv ah (xs:=[]) (l:=⟨0,0,0⟩) kT (eB _) (by simp);refine⟨_,_,[.slice (some ⟨m.next,0,none⟩) 0 iu.cells],[],eT,fk,hB,js,dW.cons (.slice (l:=⟨0,0,0⟩) (by simp[jF]) (.inl ⟨rfl,rfl⟩) (eB _) (hf _)) (dW.nil _),by simp[au],.inr ⟨m.next,[],rfl,mm,by simp[jv],rfl,by simp⟩⟩
        · obtain⟨nK,ayC⟩:=X6 (by omega);have ayN: ∀i,i<len-> ∃cs x,db.cells? 0 (a.add (i*iu.cells)) iu.cells=some cs/\DataW.trod enc P db 0 (λ_=>true) true cz e cs=some x/\ ∀n∈x.1.weights P e,n<=reachBytes:=by
            intro i ag;have:=b8 i ag;obtain⟨y,ab⟩: ∃y,E0[i]?=some y:=⟨E0[i]'(by omega),by simp⟩;have aAf:=ab;rw[ab,Option.bind_eq_some_iff]at this;obtain⟨cs,fe,ab⟩:=this;exact⟨cs,y,fe,ab,az7 y (fT aAf)⟩
          obtain⟨oZ,bo,bW,ds,aj,ba,cD,fs,iU,mc,wB,Fc,XF⟩:=aqI (cB _ _ B) nK kT len ayN ak m aN ah;have fM:len*iu.cells<=cap*iu.cells:=s6 _ Fy;have ai0:(jv ds).length=len:=mc;obtain⟨eT,fk,hB,js,mm⟩:=aj.ahv fs (xs:=bW.flatten) (l:=⟨a.block,a.off,cap*iu.cells⟩) ayC (by rw[wB];exact fM) Fc
          refine⟨_,_,[.slice (some ⟨bo.next,0,none⟩) len iu.cells],ds,eT,ba.trans fk,λb x K=>hB _ _ (cD _ _ K),js,dW.cons (.slice (l:=⟨a.block,a.off,cap*iu.cells⟩) (by simp[jF]) (.inr ⟨?_,by simp⟩) Fy vs) (dW.nil _),by simp[au],
            .inr ⟨bo.next,bW,by rw[ai0],mm,by rw[ai0];exact Y2,by omega,λi r d aH ay=>(XF i r d aH ay).aD (λb x K _=>hB _ _ K)⟩⟩
          obtain⟨lP,ahA,ahD⟩:=a;simp only at nK;subst nK;rfl
    · rename_i iu gH ar;simp only[bK,beq_iff_eq]at h;obtain⟨⟨bH,B⟩,H⟩:=h;obtain⟨xs,cz,_,rfl,aE,Y8,bs⟩:=DataW.trod_struct ar F;have:=aqH (λt s h=>cB t s h) gH.toList _ 0 cz cs H (by rw[aE,B];omega) (λf xU=> ?_) cl ak m aN ah
      · rw[yI,fw (by omega)]at this;exact this
      · obtain⟨i,ag,rfl⟩:=s7 xU;have jJ:i<gH.size:=(by simpa using ag);have:=bs i gH[i] (by simp[jJ]);refine⟨xs[i]'(by omega),?_,λn av=>uK n ?_⟩
        · rw[c0 (by omega)]at this;simpa using this
        · simp only[DataW.weights,ar];exact DataW.weights_mem_each (j:=i) (t:=gH[i].type) (d:=xs[i].1) (by simp[jJ]) (by simp[c0 (show i<xs.length by omega)]) n (by simpa using av)
    · rename_i iu k e ar;simp only[bK,beq_iff_eq]at h;obtain⟨⟨bH,B⟩,H⟩:=h;obtain⟨xs,cz,_,rfl,aE,Y8,bs⟩:=DataW.trod_array ar F;have:=aqG (λs h=>cB e s h) k _ 0 cz cs H (by rw[aE,B];omega) (λj _ c6=> ?_) cl ak m aN ah
      · rw[Nat.zero_mul,yI,fw (by omega)]at this;exact this
      · have:=bs j (by omega);refine⟨xs[j]'(by omega),?_,λn av=>uK n ?_⟩
        · rw[c0 (by omega)]at this;simpa using this
        · simp only[DataW.weights,ar];exact ahc (List.mem_map_of_mem (qM (show j<xs.length by omega))) av
    · cases h
theorem ayL{a9:Nat}{t:TypeId}{v:Value}(S:Value.okWide P db .any a9 t v):PF db v.cells.toList:=by
  have h8: ∀aG a len cap,Cell.okWide P db .any a9 aG (.slice (some a) len cap)->0<db.heap.size:=by
    intro aG a len cap h;unfold Cell.okWide at h;split at h<;>try(rename_i B;cases B)
    unfold Cell.ok at h;split at h<;>rename_i B<;>try cases B
    · obtain⟨_,_,_,_,cS,cells,M,_⟩:=h;unfold World.shape? at M;split at M
      · rename_i a6;have:=(Ah.1 a6).1;omega
      · cases M
    · cases h
  intro a len cap aN;unfold Value.okWide at S;split at S
  · obtain⟨cs,rfl,_,ts,_,_,aH⟩:=S;obtain⟨i,ag,a2⟩:=s7 aN;obtain⟨aG,_,aK⟩:=aH i (.slice (some a) len cap) (by
      have:i<cs.size:=(by simpa[Value.cells]using ag);rw[Hk this];simpa[Value.cells]using a2)
    exact h8 aG a len cap aK
  · obtain⟨cs,rfl,_,ts,_,_,aH⟩:=S;obtain⟨i,ag,a2⟩:=s7 aN;obtain⟨aG,_,aK⟩:=aH i (.slice (some a) len cap) (by
      have:i<cs.size:=(by simpa[Value.cells]using ag);rw[Hk this];simpa[Value.cells]using a2)
    exact h8 aG a len cap aK
  · cases v<;>simp[Value.cells]at aN
    · obtain⟨rfl,rfl,rfl⟩:=aN;exact h8 _ _ _ _ S
    · exfalso;unfold Cell.okWide at S;split at S<;>try(rename_i B;cases B)
      unfold Cell.ok at S;split at S<;>try(rename_i B;cases B)
      cases S
theorem aIe{n:Nat}{t:TypeId}{s:fZ}(M:CP P n t s=true){a9:Nat}{v:Value}{d:DataW kt}{en:List MemPlace}(S:Value.okWide P db .any a9 t v)(ay:DataW.Trod enc P db 0 (λ_=>true) true t v d en)(uK: ∀n∈d.weights P t,n<=reachBytes)
    {ak:fC} {m:E} (aN:eW db.heap.size ak m db) (ah: ∀b x,m.U b=some x->x.own=false):
    ∃dw N aG Qm,eW db.heap.size dw N db/\hM ak dw/\(∀b x,m.U b=some x->N.U b=some x)/\(∀b x,N.U b=some x->x.own=false)/\eY dw aG v/\Aq N s aG Qm:=by
  obtain⟨mx,F⟩:=ay;obtain⟨dw,N,a1i,Qm,o⟩:=aqJ n t s M mx _ _ F uK (ayL S) ak m aN ah;refine⟨dw,N,if s.isAgg then .agg a1i.toArray else a1i.headD undef,Qm,o.vV,o.BE,o.om,o.own,?_,a1i,o.EP,rfl⟩;cases n with
  |zero=>cases M
  | succ n=>
    unfold CP at M;have VO: ∀w:Value,v.cells.toList=[w]->w=v->s.isAgg=false->eY dw (if s.isAgg then .agg a1i.toArray else a1i.headD undef) v:=by
      intro w aS a2 aC;rw[aC];have B:=o.Ha;rw[aS]at B;have H:=B.1;cases a1i with
      |nil=>simp at H
      |cons a a1i=>have:=B.2 0 a w rfl rfl;rw[a2]at this;simpa using this
    have agg:(∃cs,v= .agg cs)->s.isAgg=true->eY dw (if s.isAgg then .agg a1i.toArray else a1i.headD undef) v:=(by rintro⟨cs,rfl⟩ aC;rw[aC];have B:=o.Ha;simp only[Value.cells]at B;have:=B.agg o.hS;simpa using this);split at M
    · rename_i k gI ar;obtain⟨n,rfl⟩:=WideShapes.okWide_int ar S;exact VO _ rfl rfl rfl
    · rename_i ar;obtain⟨n,rfl⟩:=WideShapes.okWide_bool ar S;exact VO _ rfl rfl rfl
    · rename_i ar;obtain⟨n,rfl⟩:=WideShapes.okWide_string ar S;exact VO _ rfl rfl rfl
    · rename_i e iu ar;obtain⟨a,l,c,rfl⟩:=WideShapes.okWide_slice ar S;exact VO _ rfl rfl rfl
    · rename_i gH ar;simp only[bK]at M;obtain⟨cs,rfl,_⟩:=WideShapes.okWide_struct ar S;exact agg ⟨cs,rfl⟩ M.1.1
    · rename_i k e ar;simp only[bK]at M;unfold Value.okWide at S;rw[ar]at S;obtain⟨cs,rfl,_⟩:=S;exact agg ⟨cs,rfl⟩ M.1.1
    · cases M
def HX(P:Program)(n:Nat):List TypeId->List fZ->Bool
  |[],[]=>true
  |t::ts,s::m7=>CP P n t s&&HX P n ts m7
  |_,_=>false
theorem aqF{n:Nat}{a9:Nat}: ∀(ts:List TypeId) (m7:List fZ) (dh:List Value) (ds:List (DataW kt)) (en:List MemPlace),HX P n ts m7=true->(∀(j:Nat) t v,ts[j]?=some t->dh[j]?=some v->Value.okWide P db .any a9 t v)->
    DataW.TrodAll enc P db 0 (λ_=>true) true ts dh ds en->(∀n∈DataW.weightsEach P ts ds,n<=reachBytes)-> ∀ak m,eW db.heap.size ak m db->(∀b x,m.U b=some x->x.own=false)->
    ∃dw N fl,eW db.heap.size dw N db/\hM ak dw/\(∀b x,m.U b=some x->N.U b=some x)/\dW dw fl dh/\xw N m7 fl
  |[],[],[],[],_,_,_,_,_,ak,m,aN,ah=>⟨ak,m,[],aN,hM.refl ak,λ_ _ h=>h,dW.nil ak,.nil⟩
  | t::ts,s::m7,v::dh,d::ds,en,M,S,bm,uK,ak,m,aN,ah=>by simp only[HX,bK]at M;obtain⟨p,q,B,H,rfl⟩:=bm;obtain⟨oZ,bo,aG,Qm,aj,ba,cD,fs,iU,mc⟩:=aIe M.1 (S 0 t v rfl rfl) B (λn av=>uK n (by simp only[DataW.weightsEach];exact pA _ av)) aN ah;obtain⟨o0,cc,fl,bM,dL,fp,ns,mX⟩:=aqF ts m7 dh ds q M.2 (λj t v a b=>S (j+1) t v (by simpa using a) (by simpa using b)) H (λn av=>uK n (by simp only[DataW.weightsEach];exact ow _ av)) oZ bo aj fs;obtain⟨cs,mc,wB⟩:=mc;exact⟨o0,cc,aG::fl,bM,ba.trans dL,λb x K=>fp _ _ (cD _ _ K),dW.cons (iU.aD dL) ns,.cons ⟨cs,mc.aD (λb x K _=>fp _ _ K),wB⟩ mX⟩
  |[],_::_,_,_,_,M,_,_,_,_,_,_,_=>by simp[HX]at M
  |_::_,[],_,_,_,M,_,_,_,_,_,_,_=>by simp[HX]at M
  |[],[],_::_,_,_,_,_,bm,_,_,_,_,_=>by simp[DataW.TrodAll]at bm
  |[],[],[],_::_,_,_,_,bm,_,_,_,_,_=>by simp[DataW.TrodAll]at bm
  |_::_,_::_,[],_,_,_,_,bm,_,_,_,_,_=>by simp[DataW.TrodAll]at bm
  |_::_,_::_,_::_,[],_,_,_,bm,_,_,_,_,_=>by simp[DataW.TrodAll]at bm
theorem aGI(pP:P.follows .mixedOrders=true){f n a9:Nat}{ts:List TypeId}{m7:List fZ}(M:HX P n ts m7=true){args:Array Value}{ds:List (DataW kt)}{en:List MemPlace}
    (S: ∀(j:Nat) t v,ts[j]?=some t->args[j]?=some v->Value.okWide P db .any a9 t v) (bm:DataW.TrodAll enc P db 0 (λ_=>true) true ts args.toList ds en) (uK: ∀n∈DataW.weightsEach P ts ds,n<=reachBytes)
    (h: ∀m fl,xw m m7 fl->bU P f fl m λr _=>r= .bool true):
    Calls P f args db λe ee=>e= .returned (.bool true)/\Below db.heap.size db ee:=by
  obtain⟨ak,m,fl,aj,_,_,fs,iU⟩:=aqF ts m7 args.toList ds en M (λj t v a b=>S j t v a (by simpa using b)) bm uK _ _ eW.empty (λb x h=>by unfold E.U at h;split at h<;>cases h);obtain⟨k,r,N,B,rfl⟩:=h m fl iU;have:=(ahV pP k db.heap.size f fl _ _ _ B).2.2.2.2 ak db args fs aj (eB _);refine this.mono λe ee a6=> ?_;obtain⟨v,dw,rfl,_,_,S,_,K⟩:=a6;exact⟨by rw[S.uN],K⟩
end
theorem Aq.int{m:E}{k:IntKind}{v:Value}{n:Int}(h:Aq m (.int k) v n):v= .int k n/\(Lit.int k n).wf=true:=by obtain⟨cs,h,rfl⟩:=h;obtain⟨rfl,h⟩:=h;exact⟨rfl,h⟩
theorem Aq.bool{m:E}{v:Value}{b:Bool}(h:Aq m .bool v b):v= .bool b:=by obtain⟨cs,h,rfl⟩:=h;have:cs=[.bool b]:=h;subst this;rfl
theorem Aq.str{m:E}{v:Value}{s:ByteArray}(h:Aq m .str v s):v= .string s/\s.size<=reachBytes:=by obtain⟨cs,h,rfl⟩:=h;obtain⟨rfl,h⟩:=h;exact⟨rfl,h⟩
structure cU(m N:E):Prop where
  next:m.next<=N.next
  U: ∀b x,m.U b=some x->N.U b=some x
theorem cU.refl(m:E):cU m m:=⟨eB _,λ_ _ h=>h⟩
theorem cU.trans{a b c:E}(h:cU a b)(b6:cU b c):cU a c:=⟨nC h.next b6.next,λx y F=>b6.U x y (h.U x y F)⟩
theorem qO.sub{p m:E}(h:qO p m):cU p m:=⟨Nat.le_of_eq h.next,h.U⟩
theorem cU.bx(m:E)(k:Nat):cU m (m.bx k):=⟨by simp,λb x h=>by rw[gm (aO h),h]⟩
theorem cU.an{m:E}{b:Nat}{x:Option fV}(h:m.U b=none):cU m (m.an b x):=⟨eB _,λc y aK=>by rw[dC (λa2=>by subst a2;rw[h]at aK;cases aK),aK]⟩
theorem n6{m:E}{b:Nat}(h:m.next<=b):m.U b=none:=by simp[E.U];omega
structure g0(α:Type) where
  O:Nat
  R:E->List Value->α->Prop
  len: ∀m cs x,R m cs x->cs.length=O
  aD: ∀m N cs x,cU m N->R m cs x->R N cs x
def g0.ax{α:Type}(r:g0 α)(m:E)(v:Value)(l:List α):Prop:=
  (v= .slice none 0 0/\l=[])\/ ∃b o cs w,v= .slice (some ⟨b,o,none⟩) l.length r.O/\m.U b=some ⟨cs,w⟩/\o+l.length*r.O<=cs.length/\
    ∀(i:Nat) x,l[i]?=some x->r.R m ((cs.drop (o+i*r.O)).take r.O) x
section
variable {α:Type} {r:g0 α} {m N:E} {v:Value} {l:List α}
theorem g0.ax.aD(h:r.ax m v l)(M:cU m N):r.ax N v l:=by
  rcases h with h|⟨b,o,cs,w,B,H,af,aL⟩
  · exact .inl h
  · exact .inr ⟨b,o,cs,w,B,M.U _ _ H,af,λi x F=>r.aD _ _ _ _ M (aL i x F)⟩
theorem g0.ax.nil:r.ax m (.slice none 0 0) []:= .inl ⟨rfl,rfl⟩
theorem g0.ax.len(h:r.ax m v l):ib v=l.length/\zD v=true/\kr r.O v=true/\hL v=l.length:=by
  rcases h with⟨rfl,rfl⟩|⟨b,o,cs,w,rfl,_⟩
  · exact⟨rfl,rfl,rfl,rfl⟩
  · exact⟨rfl,rfl,by simp,rfl⟩
theorem g0.ax.qb(h:r.ax m v l){i:Nat}{x:α}(F:l[i]?=some x): ∃b o cs w,mH v r.O (i:Int)= .pointer (some ⟨b,o,none⟩)/\m.U b=some ⟨cs,w⟩/\o+r.O<=cs.length/\r.R m ((cs.drop o).take r.O) x:=by
  rcases h with⟨rfl,rfl⟩|⟨b,o,cs,w,rfl,H,af,aL⟩
  · simp at F
  · have ag:=(dg.1 F).1;refine⟨b,o+i*r.O,cs,w,by simp[mH],H,?_,aL i x F⟩;have:(i+1)*r.O<=l.length*r.O:=s6 _ ag;rw[mN]at this;omega
theorem g0.ax.sub(h:r.ax m v l){k n:Nat}(aa:k<=n)(av:n<=l.length):r.ax m (ou v r.O k n) ((l.take n).drop k):=by
  rcases h with⟨rfl,rfl⟩|⟨b,o,cs,w,rfl,H,af,aL⟩
  · exact .inl ⟨rfl,by simp⟩
  · have e:((l.take n).drop k).length=n-k:=(by simp;omega);have cm:n*r.O<=l.length*r.O:=s6 _ av;have dK:k*r.O+(n-k)*r.O=n*r.O:=(by rw[<-mN];congr 1;omega);refine .inr ⟨b,o+k*r.O,cs,w,by rw[e];rfl,H,by rw[e];omega,λi x F=> ?_⟩;rw[rv,se]at F;split at F
    · have:=aL _ x F;rw[show o+k*r.O+i*r.O=o+(k+i)*r.O by rw[mN];omega];exact this
    · cases F
theorem Xx{bW:List (List Value)}{O:Nat}(cl: ∀x∈bW,x.length=O): ∀{i:Nat} {y:List Value},bW[i]?=some y->(bW.flatten.drop (i*O)).take O=y:=by
  induction bW with
  |nil=>intro i y h;simp at h
  | cons x bW cB=>
    intro i y h;have F:=cl x (by simp);cases i with
    | zero=>simp at h;subst h;simp[List.take_append_of_le_length (Nat.le_of_eq F.symm),fw (Nat.le_of_eq F)]
    | succ i=>rw[u7,mN,Nat.one_mul,Nat.add_comm,<-s9,<-F,List.drop_left,F];exact cB (λy ab=>cl y (by simp[ab])) (by simpa using h)
theorem CH{bW:List (List Value)}{O:Nat}(cl: ∀x∈bW,x.length=O):bW.flatten.length=bW.length*O:=by
  induction bW with
  |nil=>simp
  |cons x bW cB=>rw[u7,mo,cl x (by simp),cB (λy ab=>cl y (by simp[ab])),nB,mN];omega
structure g0.L(r:g0 α)(p:E)(bW:List (List Value))(l:List α):Prop where
  len:bW.length=l.length
  all: ∀(i:Nat) y x,bW[i]?=some y->l[i]?=some x->r.R p y x
variable {p:E} {bW:List (List Value)}
theorem g0.L.aD(h:r.L p bW l){fb:E}(M:cU p fb):r.L fb bW l:=⟨h.len,λi y x ab F=>r.aD _ _ _ _ M (h.all i y x ab F)⟩
theorem g0.L.nil:r.L p [] []:=⟨rfl,λi y x h=>by simp at h⟩
theorem g0.L.pr(h:r.L p bW l){y:List Value}{x:α}(F:r.R p y x):r.L p (bW++[y]) (l++[x]):=by
  refine⟨by simp[h.len],λi oX hY qo kn=> ?_⟩;by_cases ag:i<bW.length
  · rw[yE ag]at qo;rw[yE (by rw[<-h.len];exact ag)]at kn;exact h.all i _ _ qo kn
  · by_cases a2:i=bW.length
    · subst a2;rw[Cf (eB _)]at qo;rw[Cf (by rw[h.len];exact eB _),h.len]at kn;simp at qo kn;subst qo kn;exact F
    · rw[Ai (by simp;omega)]at qo;cases qo
theorem g0.L.app(h:r.L p bW l){yu:List (List Value)}{eZ:List α}(b6:r.L p yu eZ):r.L p (bW++yu) (l++eZ):=by
  refine⟨by simp[h.len,b6.len],λi oX hY qo kn=> ?_⟩;by_cases ag:i<bW.length
  · rw[yE ag]at qo;rw[yE (by rw[<-h.len];exact ag)]at kn;exact h.all i _ _ qo kn
  · rw[Cf (by omega)]at qo;rw[Cf (by rw[<-h.len];omega),<-h.len]at kn;exact b6.all _ _ _ qo kn
theorem g0.L.apP(h:r.L p bW l): ∀y∈bW,y.length=r.O:= λy ab=>by
  obtain⟨i,ag,rfl⟩:=s7 ab;have aE:i<l.length:=by rw[<-h.len];exact ag
  exact r.len _ _ _ (h.all i _ _ (c0 ag) (c0 aE))
theorem g0.L.axs(h:r.L p bW l):bW.flatten.length=l.length*r.O:=by rw[CH h.apP,h.len]
theorem g0.L.slice(h:r.L p bW l)(Y:cU p m){b:Nat}{w:Bool}(K:m.U b=some ⟨bW.flatten,w⟩):r.ax m (.slice (some ⟨b,0,none⟩) l.length r.O) l:=by refine .inr ⟨b,0,_,w,rfl,K,by rw[h.axs];omega,λi x F=> ?_⟩;have ag:=(dg.1 F).1;rw[Nat.zero_add,Xx h.apP (y:=bW[i]'(by rw[h.len];exact ag)) (by simp)];exact r.aD _ _ _ _ Y (h.all i _ _ (by simp) F)
theorem afj{cs:List Value}{O:Nat}: ∀(n o:Nat),o+n*O<=cs.length-> ∃bW:List (List Value),bW.length=n/\bW.flatten=(cs.drop o).take (n*O)/\ ∀i,i<n->bW[i]?=some ((cs.drop (o+i*O)).take O)
  |0,o,_=>⟨[],rfl,by simp,λi ag=>by omega⟩
  | n+1,o,h=>by
    rw[mN]at h;obtain⟨bW,B,H,af⟩:=afj (cs:=cs) (O:=O) n (o+O) (by omega);refine⟨(cs.drop o).take O::bW,by simp[B],?_,λi ag=> ?_⟩
    · rw[u7,H,mN,Nat.one_mul,Nat.add_comm (n*O) O,List.take_add,s9]
    · cases i with
      |zero=>simp
      | succ i=>rw[Ps,af i (by omega)];congr 3;rw[mN];omega
theorem g0.ax.cells(h:r.ax m v l):ig m r.O v=true/\ ∃bW,hX m r.O v=bW.flatten/\r.L m bW l:=by
  rcases h with⟨rfl,rfl⟩|⟨b,o,cs,w,rfl,H,af,aL⟩
  · exact⟨rfl,[],rfl,.nil⟩
  · refine⟨by simp[H];omega,?_⟩;obtain⟨bW,aX,bg,dU⟩:=afj l.length o af;refine⟨bW,by simp[H,bg],aX,λi y x ab F=> ?_⟩;rw[dU i (dg.1 F).1]at ab;cases ab;exact aL i x F
end
def g0.int(k:IntKind):g0 Int:=⟨1,λ_ cs n=>cs=[.int k n],λ_ _ _ h=>by rw[h];rfl,λ_ _ _ _ _ h=>h⟩
def g0.bool:g0 Bool:=⟨1,λ_ cs n=>cs=[.bool n],λ_ _ _ h=>by rw[h];rfl,λ_ _ _ _ _ h=>h⟩
def g0.str:g0 ByteArray:=⟨1,λ_ cs n=>cs=[.string n],λ_ _ _ h=>by rw[h];rfl,λ_ _ _ _ _ h=>h⟩
def g0.uQ{α:Type}(r:g0 α):g0 (List α):=⟨1,λm cs l=> ∃v,cs=[v]/\r.ax m v l,λ_ _ _ ⟨_,h,_⟩=>by rw[h];rfl,λ_ _ _ _ M ⟨v,h,b6⟩=>⟨v,h,b6.aD M⟩⟩
def g0.map{α p7:Type}(r:g0 α)(f:α->p7):g0 p7:=⟨r.O,λm cs y=> ∃x,f x=y/\r.R m cs x,λ_ _ _ ⟨_,_,h⟩=>r.len _ _ _ h,λ_ _ _ _ M ⟨x,h,b6⟩=>⟨x,h,r.aD _ _ _ _ M b6⟩⟩
theorem g0.ax.r9{α p7:Type}{r:g0 α}{q:g0 p7}{m:E}{v:Value}{l:List α}(f:α->p7)(h:r.ax m v l)(cl:r.O=q.O)(bs: ∀cs x,x∈l->r.R m cs x->q.R m cs (f x)):q.ax m v (l.map f):=by
  rcases h with⟨rfl,rfl⟩|⟨b,o,cs,w,rfl,H,af,aL⟩
  · exact .inl ⟨rfl,rfl⟩
  · refine .inr ⟨b,o,cs,w,by simp[cl],H,by simp[<-cl];exact af,λi y ab=> ?_⟩;rw[p6,xq]at ab;obtain⟨x,F,rfl⟩:=ab;rw[<-cl];exact bs _ x (fT F) (aL i x F)
def ap9(r:List Value):Value:= .agg r.toArray
def asB:Value->List Value| .agg a=>a.toList|_=>[]
def aQ(bW:List (List Value))(O:Nat):Value:= .func (.yield 0) (bW.map ap9).toArray #[.int .i64 O]
def gb(cS:List Value)(k:Nat):Value:= .func (.yield 1) cS.toArray #[.int .i64 k]
def aex:List Value->Nat|[.int _ n]=>n.toNat|_=>0
def jL:Value->Bool| .func (.yield n) _ _=>n==0|_=>false
def pd:Value->Bool| .func (.yield n) _ _=>n==1|_=>false
def lW:Value->Bool| .func (.yield _) _ _=>true|_=>false
def C9:Value->List (List Value)| .func _ bf _=>bf.toList.map asB|_=>[]
def x6:Value->Nat| .func _ _ mO=>aex mO.toList|_=>0
def OF:Value->List Value| .func _ bf _=>bf.toList|_=>[]
section
variable {bW yu:List (List Value)} {O iR k gI:Nat} {cS aV0:List Value}
@[simp] theorem a0c:asB (ap9 cS)=cS:=rfl
@[simp] theorem Uz:jL (aQ bW O)=true:=rfl
@[simp] theorem aTg:jL (gb cS k)=false:=rfl
@[simp] theorem aTf:pd (aQ bW O)=false:=rfl
@[simp] theorem aGi:pd (gb cS k)=true:=rfl
@[simp] theorem aTm:lW (aQ bW O)=true:=rfl
@[simp] theorem aTl:lW (gb cS k)=true:=rfl
@[simp] theorem Rs:C9 (aQ bW O)=bW:=by simp[C9,aQ,Function.comp_def]
@[simp] theorem aSs:x6 (aQ bW O)=O:=by simp[x6,aQ,aex]
@[simp] theorem aqQ:OF (gb cS k)=cS:=rfl
@[simp] theorem aky:x6 (gb cS k)=k:=by simp[x6,gb,aex]
@[simp] theorem Zk:aQ bW O=aQ yu iR↔bW=yu/\O=iR:=
  ⟨λh=>⟨by have:=congrArg C9 h;simpa using this,by have:=congrArg x6 h;simpa using this⟩,λ⟨a,b⟩=>by rw[a,b]⟩
end
abbrev gZ:=Nat->Option Nat
abbrev iS:=Nat->Option (List Value)
abbrev oi:gZ:= λ_=>none
inductive cQ(z:iS):gZ->Value->Value->Prop
  |dc {W:gZ} {v:Value} (h:fy v=true):cQ z W v v
  |cb {W:gZ} {o b off:Nat} (h:W o=some b):cQ z W (.pointer (some ⟨o,off,none⟩)) (.pointer (some ⟨b,off,none⟩))
  |slice {W:gZ} {o b off l O:Nat} (h:W o=some b):cQ z W (.slice (some ⟨o,off,none⟩) l O) (.slice (some ⟨b,off,none⟩) l O)
  |tX {W:gZ} {o O:Nat}:cQ z W (.slice (some ⟨o,0,none⟩) 0 O) (.slice none 0 0)
  |map {W:gZ} {o b:Nat} (h:W o=some b):cQ z W (.map (some o)) (.map (some b))
  |agg {W:gZ} {xs ys:Array Value} (M:xs.size=ys.size) (h: ∀(i:Nat) (x y:Value),xs[i]?=some x->ys[i]?=some y->cQ z W x y):cQ z W (.agg xs) (.agg ys)
  |tuple {W:gZ} {xs ys:Array Value} (M:xs.size=ys.size) (h: ∀(i:Nat) (x y:Value),xs[i]?=some x->ys[i]?=some y->cQ z W x y):cQ z W (.tuple xs) (.tuple ys)
  | func {W:gZ} {f:Nat} {xs ys cs ds:Array Value} (M:xs.size=ys.size) (h: ∀(i:Nat) (x y:Value),xs[i]?=some x->ys[i]?=some y->cQ z W x y)
      (mV:cs.size=ds.size) (H: ∀(i:Nat) (x y:Value),cs[i]?=some x->ds[i]?=some y->cQ z W x y):cQ z W (.func (.func f) xs cs) (.func (.func f) ys ds)
  |iface {W:gZ} {t:TypeId} {v b2:Value} (h:cQ z W v b2):cQ z W (.iface t v) (.iface t b2)
  | jX {W:gZ} {v:Value} {b off O:Nat} {cs:List Value} {bW:List (List Value)} (e:v=aQ bW O) (dD:z b=some cs) (aE:off+bW.length*O<=cs.length)
      (cl: ∀(i:Nat) r,bW[i]?=some r->r.length=O) (aK: ∀(i j:Nat) r x y,bW[i]?=some r->r[j]?=some x->cs[off+i*O+j]?=some y->cQ z oi x y):cQ z W v (.slice (some ⟨b,off,none⟩) bW.length O)
  |jK {W:gZ} {v:Value} {O:Nat} (e:v=aQ [] O):cQ z W v (.slice none 0 0)
  | gb {W:gZ} {v:Value} {b off k:Nat} {cs cS:List Value} (e:v=gb cS k) (dD:z b=some cs) (aE:off+cS.length<=cs.length)
      (aK: ∀(j:Nat) x y,cS[j]?=some x->cs[off+j]?=some y->cQ z oi x y):cQ z W v (.pointer (some ⟨b,off+k,none⟩))
def h7(W ej:gZ):Prop:= ∀o b,W o=some b->ej o=some b
def j0(z dH:iS):Prop:= ∀b cs,z b=some cs->dH b=some cs
theorem h7.refl(W:gZ):h7 W W:= λ_ _ h=>h
theorem h7.trans{a b c:gZ}(h:h7 a b)(b6:h7 b c):h7 a c:= λx l F=>b6 x l (h x l F)
theorem h7.nil(W:gZ):h7 oi W:= λ_ _ h=>by cases h
theorem j0.refl(z:iS):j0 z z:= λ_ _ h=>h
theorem j0.trans{a b c:iS}(h:j0 a b)(b6:j0 b c):j0 a c:= λx l F=>b6 x l (h x l F)
theorem cQ.aD{z dH:iS}{W ej:gZ}{v b2:Value}(h:cQ z W v b2)(dD:j0 z dH)(b8:h7 W ej):cQ dH ej v b2:=by
  induction h generalizing ej with
  |dc h=>exact .dc h
  |cb h=>exact .cb (b8 _ _ h)
  |slice h=>exact .slice (b8 _ _ h)
  |tX=>exact .tX
  |map h=>exact .map (b8 _ _ h)
  |agg M _ cB=>exact .agg M λi x y a b=>cB i x y a b b8
  |tuple M _ cB=>exact .tuple M λi x y a b=>cB i x y a b b8
  |func M _ mV _ cB Zj=>exact .func M (λi x y a b=>cB i x y a b b8) mV λi x y a b=>Zj i x y a b b8
  |iface _ cB=>exact .iface (cB b8)
  |jX e B aE cl aK cB=>exact .jX e (dD _ _ B) aE cl λi j r x y a b c=>cB i j r x y a b c (h7.refl _)
  |jK e=>exact .jK e
  |gb e B aE aK cB=>exact .gb e (dD _ _ B) aE λj x y a b=>cB j x y a b (h7.refl _)
def b5(z:iS)(W:gZ)(xs ys:List Value):Prop:=xs.length=ys.length/\ ∀(i:Nat) (x y:Value),xs[i]?=some x->ys[i]?=some y->cQ z W x y
section
variable {z dH:iS} {W ej:gZ}
theorem b5.nil:b5 z W [] []:=⟨rfl,by intro i x y h;simp at h⟩
theorem b5.cons{x y:Value}{xs ys:List Value}(h:cQ z W x y)(M:b5 z W xs ys):b5 z W (x::xs) (y::ys):=by
  refine⟨by simp[M.1],λi a b aC K=> ?_⟩;cases i with
  |zero=>simp at aC K;subst aC;subst K;exact h
  |succ i=>exact M.2 i a b (by simpa using aC) (by simpa using K)
theorem b5.aD{xs ys:List Value}(h:b5 z W xs ys)(dD:j0 z dH)(b8:h7 W ej):b5 dH ej xs ys:=⟨h.1,λi x y F ab=>(h.2 i x y F ab).aD dD b8⟩
theorem b5.agg{xs ys:List Value}(h:b5 z W xs ys):cQ z W (.agg xs.toArray) (.agg ys.toArray):= .agg (by simpa using h.1) (by simpa using h.2)
theorem b5.tuple{xs ys:List Value}(h:b5 z W xs ys):cQ z W (.tuple xs.toArray) (.tuple ys.toArray):= .tuple (by simpa using h.1) (by simpa using h.2)
theorem b5.uq{a b c d:List Value}(h:b5 z W a b)(b6:b5 z W c d):b5 z W (a++c) (b++d):=by
  refine⟨by simp[h.1,b6.1],λi x y F ab=> ?_⟩;rw[Hm]at F ab;rw[<-h.1]at ab;split at F
  · rename_i ag;rw[if_pos ag]at ab;exact h.2 _ _ _ F ab
  · rename_i ag;rw[if_neg ag]at ab;exact b6.2 _ _ _ F ab
theorem b5.drop{a b:List Value}(h:b5 z W a b)(n:Nat):b5 z W (a.drop n) (b.drop n):=
  ⟨by simp[h.1],λi x y F ab=>h.2 (n+i) x y (by simpa using F) (by simpa using ab)⟩
theorem b5.take{a b:List Value}(h:b5 z W a b)(n:Nat):b5 z W (a.take n) (b.take n):=by
  refine⟨by simp[h.1],λi x y F ab=> ?_⟩;rw[se]at F ab;split at F
  · rename_i ag;rw[if_pos ag]at ab;exact h.2 _ _ _ F ab
  · cases F
theorem b5.set{a b:List Value}(h:b5 z W a b)(n:Nat){x y:Value}(S:cQ z W x y):b5 z W (a.set n x) (b.set n y):=by
  refine⟨by simp[h.1],λi aG v F ab=> ?_⟩;rw[EA]at F ab;rw[<-h.1]at ab;split at F
  · rename_i ag;rw[if_pos ag]at ab;split at F
    · rename_i H;rw[if_pos H]at ab;simp at F ab;subst F;subst ab;exact S
    · cases F
  · rename_i ag;rw[if_neg ag]at ab;exact h.2 _ _ _ F ab
theorem b5.ku: ∀{dh fl:List Value} {a b:List Value} (off:Nat),b5 z W a b->b5 z W dh fl->b5 z W (ku a off dh) (ku b off fl)
  |[],[],_,_,_,h,_=>h
  |[],aG::fl,_,_,_,_,H=>by simp[b5]at H
  |v::dh,[],_,_,_,_,H=>by simp[b5]at H
  | v::dh,aG::fl,a,b,off,h,H=>by simp only[Go.DI.ku];exact b5.ku (off+1) (h.set off (H.2 0 v aG rfl rfl)) ⟨by simpa using H.1,λi x y F ab=>H.2 (i+1) x y (by simpa using F) (by simpa using ab)⟩
theorem b5.U{a b:List Value}(h:b5 z W a b){i:Nat}{x:Value}(F:a[i]?=some x): ∃y,b[i]?=some y/\cQ z W x y:=by have ag:i<a.length:=(dg.1 F).1;rw[h.1]at ag;exact⟨b[i],c0 ag,h.2 i x _ F (c0 ag)⟩
theorem b5.JD{α:Type}(f g:α->Value): ∀(l:List α),(∀x∈l,cQ z W (f x) (g x))->b5 z W (l.map f) (l.map g)
  |[],_=>b5.nil
  |x::l,h=>b5.cons (h x (by simp)) (b5.JD f g l λy ab=>h y (by simp[ab]))
theorem b5.dc{cs:List Value}(h:cs.all fy=true):b5 z W cs cs:=by refine⟨rfl,λi x y F ab=> ?_⟩;rw[F]at ab;cases ab;exact .dc (hJ.1 h x (fT F))
theorem b5.flatten{k:Nat}{cs:List Value}(h:b5 z W cs cs):b5 z W (List.replicate k cs).flatten (List.replicate k cs).flatten:=by
  induction k with
  |zero=>exact b5.nil
  |succ k cB=>rw[Ko,u7];exact h.uq cB
theorem cQ.o6{v:Value}(h:o6 v=true):cQ z W v v:=by
  unfold Go.DI.o6 at h;split at h
  · rename_i cs;have:=b5.agg (z:=z) (W:=W) (b5.dc h);simpa using this
  · rename_i cs;have:=b5.tuple (z:=z) (W:=W) (b5.dc h);simpa using this
  · exact .dc h
theorem cQ.undef:cQ z W undef undef:=b5.tuple b5.nil
theorem cQ.kx{v b2:Value}(h:cQ z W v b2)(bs:fy v=true):b2=v:=by
  cases h with
  |dc=>rfl
  |jX e=>subst e;simp[fy,aQ]at bs
  |jK e=>subst e;simp[fy,aQ]at bs
  |gb e=>subst e;simp[fy,DI.gb]at bs
  |_=>simp[fy]at bs
theorem cQ.qs{k:IntKind}{n:Int}{v:Value}(h:cQ z W (.int k n) v):v= .int k n:=h.kx rfl
theorem cQ.uN{b:Bool}{v:Value}(h:cQ z W (.bool b) v):v= .bool b:=h.kx rfl
theorem cQ.zp{b:ByteArray}{v:Value}(h:cQ z W (.string b) v):v= .string b:=h.kx rfl
theorem cQ.wQ{a:Addr}{v:Value}(h:cQ z W (.pointer (some a)) v): ∃b,W a.block=some b/\a.spot=none/\v= .pointer (some ⟨b,a.off,none⟩):=by
  cases h with
  |dc h=>simp[fy]at h
  |cb h=>exact⟨_,h,rfl,rfl⟩
  |jX e=>simp[aQ]at e
  |jK e=>simp[aQ]at e
  |gb e=>simp[DI.gb]at e
theorem cQ.rU{a:Addr}{l O:Nat}{v:Value}(h:cQ z W (.slice (some a) l O) v):(∃b,W a.block=some b/\a.spot=none/\v= .slice (some ⟨b,a.off,none⟩) l O)\/(a.off=0/\a.spot=none/\l=0/\v= .slice none 0 0):=by
  cases h with
  |dc h=>simp[fy]at h
  |slice h=>exact .inl ⟨_,h,rfl,rfl⟩
  |tX=>exact .inr ⟨rfl,rfl,rfl,rfl⟩
  |jX e=>simp[aQ]at e
  |jK e=>simp[aQ]at e
  |gb e=>simp[DI.gb]at e
theorem cQ.wP{xs:Array Value}{v:Value}(h:cQ z W (.agg xs) v): ∃ys,v= .agg ys/\b5 z W xs.toList ys.toList:=by
  cases h with
  |dc h=>simp[fy]at h
  |agg M h=>exact⟨_,rfl,by simpa using M,by simpa using h⟩
  |jX e=>simp[aQ]at e
  |jK e=>simp[aQ]at e
  |gb e=>simp[DI.gb]at e
theorem cQ.Iv{xs:Array Value}{v:Value}(h:cQ z W (.tuple xs) v): ∃ys,v= .tuple ys/\b5 z W xs.toList ys.toList:=by
  cases h with
  |dc h=>simp[fy]at h
  |tuple M h=>exact⟨_,rfl,by simpa using M,by simpa using h⟩
  |jX e=>simp[aQ]at e
  |jK e=>simp[aQ]at e
  |gb e=>simp[DI.gb]at e
theorem cQ.Iu{f:Nat}{xs cs:Array Value}{v:Value}(h:cQ z W (.func (.func f) xs cs) v): ∃ys ds,v= .func (.func f) ys ds/\b5 z W xs.toList ys.toList/\b5 z W cs.toList ds.toList:=by
  cases h with
  |dc h=>simp[fy]at h
  |func M h mV H=>exact⟨_,_,rfl,⟨by simpa using M,by simpa using h⟩,by simpa using mV,by simpa using H⟩
  |jX e=>simp[aQ]at e
  |jK e=>simp[aQ]at e
  |gb e=>simp[DI.gb]at e
theorem cQ.Ru{t:TypeId}{x v:Value}(h:cQ z W (.iface t x) v): ∃y,v= .iface t y/\cQ z W x y:=by
  cases h with
  |dc h=>simp[fy]at h
  |iface h=>exact⟨_,rfl,h⟩
  |jX e=>simp[aQ]at e
  |jK e=>simp[aQ]at e
  |gb e=>simp[DI.gb]at e
theorem cQ.Mu{o:Nat}{v:Value}(h:cQ z W (.map (some o)) v): ∃b,W o=some b/\v= .map (some b):=by
  cases h with
  |dc h=>simp[fy]at h
  |map h=>exact⟨_,h,rfl⟩
  |jX e=>simp[aQ]at e
  |jK e=>simp[aQ]at e
  |gb e=>simp[DI.gb]at e
theorem cQ.akF{x v:Value}(h:cQ z W x v)(ag:jL x=true): ∃bW O,x=aQ bW O/\((bW=[]/\v= .slice none 0 0)\/ ∃b off cs,v= .slice (some ⟨b,off,none⟩) bW.length O/\z b=some cs/\off+bW.length*O<=cs.length/\
    (∀(i:Nat) r,bW[i]?=some r->r.length=O)/\(∀(i j:Nat) r x y,bW[i]?=some r->r[j]?=some x->cs[off+i*O+j]?=some y->cQ z oi x y)):=by
  cases h with
  |dc h=>cases x<;>simp_all [fy,jL]
  |jX e B H af aL=>exact⟨_,_,e,.inr ⟨_,_,_,rfl,B,H,af,aL⟩⟩
  |jK e=>exact⟨_,_,e,.inl ⟨rfl,rfl⟩⟩
  |gb e=>subst e;simp at ag
  |_=>simp[jL]at ag
theorem cQ.akG{x v:Value}(h:cQ z W x v)(ag:pd x=true): ∃cS k b off cs,x=DI.gb cS k/\v= .pointer (some ⟨b,off+k,none⟩)/\z b=some cs/\off+cS.length<=cs.length/\
    (∀(j:Nat) x y,cS[j]?=some x->cs[off+j]?=some y->cQ z oi x y):=by
  cases h with
  |dc h=>cases x<;>simp_all [fy,pd]
  |gb e B H af=>exact⟨_,_,_,_,_,e,rfl,B,H,af⟩
  |jX e=>subst e;simp at ag
  |jK e=>subst e;simp at ag
  |_=>simp[pd]at ag
theorem cQ.ao{v b2:Value}(h:cQ z W v b2):b5 z W (ao v) (ao b2):=by
  cases h with
  |agg M h=>exact⟨by simpa[DI.ao]using M,by simpa[DI.ao]using h⟩
  |dc h=>cases v<;>simp[fy]at h<;>exact b5.cons (.dc (by simp[fy,h])) b5.nil
  |cb h=>exact b5.cons (.cb h) b5.nil
  |slice h=>exact b5.cons (.slice h) b5.nil
  |tX=>exact b5.cons .tX b5.nil
  |tuple M h=>exact b5.cons (.tuple M h) b5.nil
  |func M h mV H=>exact b5.cons (.func M h mV H) b5.nil
  |iface h=>exact b5.cons (.iface h) b5.nil
  |map h=>exact b5.cons (.map h) b5.nil
  |jX e a b c d=>subst e;exact b5.cons (.jX rfl a b c d) b5.nil
  |jK e=>subst e;exact b5.cons (.jK rfl) b5.nil
  |gb e a b c=>subst e;exact b5.cons (.gb rfl a b c) b5.nil
theorem cQ.aB{v b2:Value}(h:cQ z W v b2)(av:aB v=true):aB b2=true:=by cases h<;>first|rfl|assumption|(simp[DI.aB]at av)
theorem cQ.au{v b2:Value}(h:cQ z W v b2)(av:au v=true):au b2=true:=by cases h<;>first|rfl|assumption|(simp[DI.au]at av)
end
def uo(m:E)(v:Value)(n:Nat):Bool:=if pd v then decide (x6 v+n<=(OF v).length)else g8 m v n
def DM(m:E)(df:Bool)(n:Nat)(v:Value):Value:=
  if pd v then(if df then .agg (((OF v).drop (x6 v)).take n).toArray else(((OF v).drop (x6 v)).take 1).headD undef)else k4 m df n v
def sQ(v:Value):Bool:=pd v||tS v
def z3(v:Value)(n:Nat):Value:=if pd v then gb (OF v) (x6 v+n)else z2 v n
def DH(v:Value):Bool:=jL v||zD v
def l0(v:Value):Int:=if jL v then((C9 v).length:Nat)else ib v
def m5(v:Value):Nat:=if jL v then(C9 v).length else hL v
def nw(O:Nat)(v:Value):Bool:=if jL v then x6 v==O else kr O v
def v7(v:Value)(O l h:Nat):Value:=if jL v then aQ (((C9 v).take h).drop l) O else ou v O l h
def Ec(v:Value)(O:Nat)(i:Int):Value:=if jL v then gb ((C9 v).getD i.toNat []) 0 else mH v O i
def pq(m:E)(O:Nat)(v:Value):Bool:=if jL v then x6 v==O else ig m O v
def sl(m:E)(O:Nat)(v:Value):List Value:=if jL v then(C9 v).flatten else hX m O v
def oD(v:Value):Bool:= !lW v&&(match v with| .slice (some _) l _=>l !=0|_=>true)
def al.k5(k:al)(u:aM)(m:E):Bool:=
  match k with
  | .fu df n x=>uo m (ad u x) n&&(df||decide (n=1))
  | .gL op c x y=>oD (ad u x)&&oD (ad u y)&&vg op c (ad u x) (ad u y)
  | .qR x=>pq m 1 (ad u x)&&(sl m 1 (ad u x)).all Jv
  | .qI O x cK ag=>nw O (ad u x)&&qF u cK&&qF u ag&&decide (0<=hT u cK 0)&&decide (hT u cK 0<=hT u ag (l0 (ad u x)))&&decide (hT u ag (l0 (ad u x))<=l0 (ad u x))
  | .xg O x cK ag fQ=>nw O (ad u x)&&qF u cK&&gi (ad u ag)&&gi (ad u fQ)&&decide (0<=hT u cK 0)&&decide (hT u cK 0<=gy (ad u ag))&&decide (gy (ad u ag)<=gy (ad u fQ))&&decide (gy (ad u fQ)<=l0 (ad u x))
  | .vq _ x=>sQ (ad u x)
  | .sC O x i=>nw O (ad u x)&&gi (ad u i)&&decide (0<=gy (ad u i))&&decide (gy (ad u i)<l0 (ad u x))
  | .wN _ len x i=>sQ (ad u x)&&gi (ad u i)&&decide (0<=gy (ad u i))&&decide (gy (ad u i)<(len:Int))
  | .vO x=>DH (ad u x)
  | .app O bytes x y=>ig m O (ad u x)&&nX m (ad u x)&&pq m O (ad u y)&&decide (0<O)&&decide ((hL (ad u x)+m5 (ad u y))*bytes<=140737488355328)&&decide (hL (ad u x)+m5 (ad u y)<=9223372036854775807)
  | .uR fn _ _=>(match fn with| .func _=>true|_=>false)
  |k=>k.ok u m
def al.ll(k:al)(id:Nat)(u:aM)(m:E):Value:=
  match k with
  | .fu df n x=>DM m df n (ad u x)
  | .qR x=> .string (toBytes (sl m 1 (ad u x)))
  | .qI O x cK ag=>v7 (ad u x) O (hT u cK 0).toNat (hT u ag (l0 (ad u x))).toNat
  | .xg O x cK ag _=>v7 (ad u x) O (hT u cK 0).toNat (gy (ad u ag)).toNat
  | .vq off x=>z3 (ad u x) off
  | .sC O x i=>Ec (ad u x) O (gy (ad u i))
  | .wN O _ x i=>z3 (ad u x) ((gy (ad u i)).toNat*O)
  | .vO x=> .int .i64 (l0 (ad u x))
  | .app O _ x y=>if m5 (ad u y)=0 then ad u x else .slice (some ⟨id,0,none⟩) (hL (ad u x)+m5 (ad u y)) O
  |k=>k.val id u m
def al.zU(k:al)(id:Nat)(u:aM)(m:E):E:=
  match k with
  | .app O _ x y=>if m5 (ad u y)=0 then m else(mY m (ad u x)).an id (some ⟨hX m O (ad u x)++sl m O (ad u y),true⟩)
  |k=>k.iH id u m
def JQ(m:E)(o:Nat):Bool:=match m.U o with|some x=>x.own|none=>false
def KO(m:E)(v:Value):Bool:=match ai v with|some o=>JQ m o|none=>true
def PX(m:E)(a b:Value):Bool:=
  if lW a then !lW b&&KO m b else if lW b then KO m a else match ai a,ai b with
    |some a,some b=>a !=b
    |_,_=>true
def kY(u:aM)(m:E)(bI:List (Operand×Operand)):Bool:=bI.all λ(x,y)=>PX m (ad u x) (ad u y)
def zJ(u:aM)(m:E)(bI:List (Operand×Operand)):Bool:=bI.all λp=>match ai (ad u p.1)with|some o=> !JQ m o|none=>true
def GK(k:al):Bool:=k.jg.all er&&(match k with
  | .eC O| .hg O _| .jx _ _ O _| .nN _ _ O _ _=>O.all fy
  | .pY _ O _ _ _=>fy O
  |_=>true)
def aez(o:cd):Bool:=GK o.k&&o.bI.all λp=>er p.1&&er p.2
def w6:J->Bool
  | .G ops=>ops.all aez&&BO (ops.map (·.bb))&&ops.all λo=>decide (o.bb<ops.length)
  | .D a b=>w6 a&&w6 b
  | .a8 c a b=>er c&&w6 a&&w6 b
  | .block _ c=>w6 c
  | .loop c=>w6 c
  | .w1 _ _ _=>false
  |_=>true
def tb(z:iS)(W:gZ)(bJ eE:List (Value×Value)):Prop:=bJ.length=eE.length/\ ∀(i:Nat) e eD,bJ[i]?=some e->eE[i]?=some eD->cQ z W e.1 eD.1/\cQ z W e.2 eD.2
theorem tb.aD{z dH:iS}{W ej:gZ}{bJ eE:List (Value×Value)}(h:tb z W bJ eE)(dD:j0 z dH)(b8:h7 W ej):tb dH ej bJ eE:=⟨h.1,λi e eD a b=>⟨(h.2 i e eD a b).1.aD dD b8,(h.2 i e eD a b).2.aD dD b8⟩⟩
structure gx(W:gZ)(z:iS)(t m:E):Prop where
  lu: ∀o x,t.U o=some x->(∃b cs w,W o=some b/\m.U b=some ⟨cs,w⟩/\(x.own=true->w=true)/\b5 z W x.cells cs)\/(W o=none/\x.cells=[])
  jB: ∀o bJ,t.fg o=some bJ-> ∃b eE,W o=some b/\m.fg b=some eE/\tb z W bJ eE
  lI: ∀o,W o=none->t.mp o=none
  inj: ∀o o' b,W o=some b->W o'=some b->o=o'
  fa: ∀o b,W o=some b->o<t.next/\b<m.next
  bG: ∀b cs,z b=some cs->(∃w,m.U b=some ⟨cs,w⟩)/\ ∀o x,W o=some b->t.U o=some x->x.own=false
def PN(W:gZ)(t:E)(b:Nat):Prop:= ∃o x,W o=some b/\t.U o=some x/\x.own=true
def Kt(W:gZ)(t:E)(b:Nat):Prop:= ∃o x,W o=some b/\t.U o=some x
structure bp(hl hV:Nat)(W:gZ)(z:iS)(t m:E)(ej:gZ)(dH:iS)(bu N:E):Prop where
  e:h7 W ej
  f:j0 z dH
  mR: ∀o b,ej o=some b->W o=some b\/(hl<=o/\hV<=b)
  fn: ∀b cs,dH b=some cs->z b=some cs\/hV<=b\/Kt W t b
  ov:t.next<=bu.next
  oS:m.next<=N.next
  rW: ∀b,b<hV-> ¬PN W t b->N.U b=m.U b
  ud: ∀b,b<hV->PN ej bu b->PN W t b
  rC: ∀b,b<hV->Kt ej bu b->Kt W t b
theorem bp.refl{hl hV:Nat}{W:gZ}{z:iS}{t m:E}:bp hl hV W z t m W z t m:=
  ⟨h7.refl _,j0.refl _,λ_ _ h=> .inl h,λ_ _ h=> .inl h,eB _,eB _,λ_ _ _=>rfl,λ_ _ h=>h,λ_ _ h=>h⟩
theorem bp.trans{hl hV:Nat}{W e5 la:gZ}{z gS lx:iS}{t eu ks m bo cc:E}(h:bp hl hV W z t m e5 gS eu bo)(b6:bp hl hV e5 gS eu bo la lx ks cc):bp hl hV W z t m la lx ks cc where
  e:=h.e.trans b6.e
  f:=h.f.trans b6.f
  mR o b K:=(b6.mR o b K).elim (λB=>h.mR o b B) .inr
  fn b cs K:=by
    rcases b6.fn b cs K with B|B|B
    · exact h.fn b cs B
    · exact .inr (.inl B)
    · by_cases H:b<hV
      · exact .inr (.inr (h.rC b H B))
      · exact .inr (.inl (by omega))
  ov:=nC h.ov b6.ov
  oS:=nC h.oS b6.oS
  rW b K aS:=by rw[b6.rW b K (λw=>aS (h.ud b K w)),h.rW b K aS]
  ud b K aS:=h.ud b K (b6.ud b K aS)
  rC b K aS:=h.rC b K (b6.rC b K aS)
theorem bp.Hd{hl hV asn aqd:Nat}{W ej:gZ}{z dH:iS}{t bu m N:E}(h:bp hl hV W z t m ej dH bu N)(bm:asn<=hl)(aN:aqd<=hV):bp asn aqd W z t m ej dH bu N where
  e:=h.e
  f:=h.f
  mR o b K:=(h.mR o b K).imp_right λ⟨a,b⟩=>⟨by omega,by omega⟩
  fn b cs K:=by
    rcases h.fn b cs K with B|B|B
    · exact .inl B
    · exact .inr (.inl (by omega))
    · exact .inr (.inr B)
  ov:=h.ov
  oS:=h.oS
  rW b K aS:=h.rW b (by omega) aS
  ud b K aS:=h.ud b (by omega) aS
  rC b K aS:=h.rC b (by omega) aS
def jH(z:iS)(W:gZ)(u ae:aM):Prop:= ∀t,cQ z W (u t) (ae t)
section
variable {z dH:iS} {W ej:gZ} {u ae:aM} {t m:E}
theorem jH.aD(h:jH z W u ae)(dD:j0 z dH)(b8:h7 W ej):jH dH ej u ae:= λt=>(h t).aD dD b8
theorem jH.ad(h:jH z W u ae){x:Operand}(F:er x=true):cQ z W (ad u x) (ad ae x):=by
  cases x with
  |tmp t=>exact h t
  |const v=>exact cQ.o6 F
  |func f=>exact .func rfl (by intro i x y h;simp at h) rfl (by intro i x y h;simp at h)
  |global g=>simp[er]at F
theorem jH.an(h:jH z W u ae){d:Option Nat}{v b2:Value}(S:cQ z W v b2):jH z W (dO u d v) (dO ae d b2):=by
  cases d with
  |none=>exact h
  | some d=>
    intro t;simp only[dO,p4];by_cases e:t=d
    · simp only[e,if_true];exact S
    · simp only[e,if_false];exact h t
theorem jH.Qu(h:jH z W u ae){l:List Operand}(aE:l.all er=true):b5 z W (l.map (Go.DI.ad u)) (l.map (Go.DI.ad ae)):=
  b5.JD _ _ _ λx F=>h.ad (hJ.1 aE x F)
theorem jH.init{a1i lR:List Value}(h:b5 z W a1i lR):jH z W (eX a1i) (eX lR):= λt=>by
  simp only[eX,mr];cases aC:a1i[t]? with
  | none=>rw[Ai (by rw[<-h.1];exact List.getElem?_eq_none_iff.1 aC)];exact cQ.undef
  |some x=>obtain⟨y,ab,S⟩:=h.U aC;rw[ab];exact S
theorem apg{v b2:Value}(h:cQ z W v b2)(K:wU v=true):b2=v:=by cases v<;>simp[wU]at K;exact h.uN
theorem uP{v b2:Value}(h:cQ z W v b2)(K:gi v=true):b2=v:=by cases v<;>simp[gi]at K;exact h.qs
theorem Gk{v b2:Value}(h:cQ z W v b2)(K:nq v=true):b2=v:=by cases v<;>simp[nq]at K;exact h.zp
theorem aMx(h:jH z W u ae)(g:Option (Nat×Bool)):fY ae g=fY u g:=by
  cases g with
  |none=>rfl
  | some g=>
    obtain⟨j,b⟩:=g;have S:=h j;simp only[fY];generalize u j=v at S;generalize ae j=b2 at S;cases S with
    |dc h=>rfl
    |jX e=>subst e;rfl
    |jK e=>subst e;rfl
    |gb e=>subst e;rfl
    |_=>rfl
end
end Go.DI
