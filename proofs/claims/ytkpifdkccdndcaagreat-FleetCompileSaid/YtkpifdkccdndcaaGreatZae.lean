/-
  A part of the proof of the statement, in texts that tools of ours (wip/shrink.py, irpack.py, relax.py, minify.py, join.py, lay.py) have shortened.
-/
import Derived.SizedLaws
import Derived.ChangeOld
import Derived.WideShapes
import Derived.OpenShut
import Derived.Test.YtkpifdkccdndcaaGreatZad
set_option linter.all false
set_option maxRecDepth 8000
set_option maxHeartbeats 16000000
namespace Go.DI
open Go Go.RowKit
structure g7(aW:Nat->Prop)(cA m bN:B):Prop where
  next:bN.next=m.next
  Ff:cA.next<=m.next
  cZ: ∀b,aW b->b<m.next
  off: ∀b,aW b->m.M b=none
  bw: ∀b,aW b->bN.M b=cA.M b/\bN.mp b=cA.mp b
  eq: ∀b,¬aW b->bN.M b=m.M b
  mp:bN.mp=m.mp
section
variable {aW:Nat->Prop} {cA m bN:B}
theorem g7.iX(Y:g7 aW cA m bN){b:Nat}{x:fO}(h:m.M b=some x): ¬aW b:= λaR=>by rw[Y.off b aR]at h;cases h
theorem g7.M(Y:g7 aW cA m bN){b:Nat}{x:fO}(h:m.M b=some x):bN.M b=some x:=by rw[Y.eq b (Y.iX h),h]
theorem g7.c6(Y:g7 aW cA m bN){b:Nat}{e:List (Value×Value)}(h:m.c6 b=some e):bN.c6 b=some e:=by
  unfold B.c6 at h⊢;cases aj:m.M b with
  |none=>rw[aj]at h;cases h
  |some x=>rw[aj]at h;rw[Y.M aj,Y.mp];exact h
theorem g7.UI(Y:g7 aW cA m bN){b:Nat}{e:List (Value×Value)}(h:m.c6 b=some e): ¬aW b:=by
  unfold B.c6 at h;cases aj:m.M b with
  |none=>rw[aj]at h;cases h
  |some x=>exact Y.iX aj
theorem g7.au(Y:g7 aW cA m bN){b:Nat}(L: ¬aW b)(x:Option fO):g7 aW cA (m.au b x) (bN.au b x) where
  next:=Y.next
  Ff:=Y.Ff
  cZ:=Y.cZ
  off c aB:=by rw[dv (show c≠b from λh=>L (h▸aB)),Y.off c aB]
  bw c aB:=⟨by rw[dv (show c≠b from λh=>L (h▸aB)),(Y.bw c aB).1],(Y.bw c aB).2⟩
  eq c aB:=by
    by_cases h:c=b
    · subst h;simp only[B.M,B.au,Y.next,if_true]
    · rw[dv h,dv h,Y.eq c aB]
  mp:=Y.mp
theorem g7.hq(Y:g7 aW cA m bN){b:Nat}(L: ¬aW b)(e:List (Value×Value)):g7 aW cA (m.hq b e) (bN.hq b e) where
  next:=Y.next
  Ff:=Y.Ff
  cZ:=Y.cZ
  off c aB:=by rw[oI (show c≠b from λh=>L (h▸aB)),Y.off c aB]
  bw c aB:=by refine⟨by rw[oI (show c≠b from λh=>L (h▸aB)),(Y.bw c aB).1],by show(if c=b then some e else bN.mp c)=_;rw[if_neg (show c≠b from λh=>L (h▸aB))];exact(Y.bw c aB).2⟩
  eq c aB:=by
    by_cases h:c=b
    · subst h;simp only[B.M,B.hq,Y.next,if_true]
    · rw[oI h,oI h,Y.eq c aB]
  mp:=by show(λi=>if i=b then some e else bN.mp i)=_;rw[Y.mp];rfl
theorem g7.bs(Y:g7 aW cA m bN)(k:Nat):g7 aW cA (m.bs k) (bN.bs k) where
  next:=by show bN.next+k=m.next+k;rw[Y.next]
  Ff:=by have:=Y.Ff;show cA.next<=m.next+k;omega
  cZ b L:=by have:=Y.cZ b L;show b<m.next+k;omega
  off b L:=by rw[gr (Y.cZ b L),Y.off b L]
  bw b L:=⟨by rw[gr (by rw[Y.next];exact Y.cZ b L),(Y.bw b L).1],(Y.bw b L).2⟩
  eq b L:=by
    by_cases h:b<m.next
    · rw[gr h,gr (by rw[Y.next];exact h),Y.eq b L]
    · simp[B.M,B.bs,Y.next,h]
  mp:=Y.mp
theorem g7.gZ(Y:g7 aW cA m bN){v:Value}{n:Nat}(h:gZ m v n=true):gZ bN v n=true:=by
  unfold DI.gZ at h⊢;split at h
  · rename_i a;simp only[Bool.and_eq_true]at h⊢;refine⟨h.1,?_⟩;cases aj:m.M a.block with
    |none=>rw[aj]at h;simp at h
    |some x=>rw[aj]at h;rw[Y.M aj];exact h.2
  · cases h
theorem g7.rH(Y:g7 aW cA m bN){v:Value}(h:rH m v=true):rH bN v=true:=by
  unfold DI.rH at h⊢;split at h
  · rename_i a;cases aj:m.M a.block with
    |none=>rw[aj]at h;cases h
    |some x=>rw[aj]at h;rw[Y.M aj];exact h
  · cases h
theorem g7.lq(Y:g7 aW cA m bN){v:Value}{n:Nat}{ep:Bool}(h:DI.gZ m v n=true):lq bN ep n v=lq m ep n v:=by
  unfold DI.gZ at h;split at h
  · rename_i a;simp only[Bool.and_eq_true]at h;cases aj:m.M a.block with
    |none=>rw[aj]at h;simp at h
    |some x=>simp only[DI.lq,ka,aj,Y.M aj]
  · cases h
theorem g7.qR(Y:g7 aW cA m bN){v:Value}{n:Nat}{cs:List Value}(h:DI.gZ m v n=true):g7 aW cA (qR m v cs) (qR bN v cs):=by
  unfold DI.gZ at h;split at h
  · rename_i a;simp only[Bool.and_eq_true]at h;cases aj:m.M a.block with
    |none=>rw[aj]at h;simp at h
    |some x=>simp only[DI.qR,aj,Y.M aj];exact Y.au (Y.iX aj) _
  · cases h
theorem g7.ik(Y:g7 aW cA m bN){v:Value}{O:Nat}(h:ik m O v=true):ik bN O v=true:=by
  unfold DI.ik at h⊢;split at h
  · exact h
  · rename_i a l c;simp only[Bool.and_eq_true]at h⊢;refine⟨h.1,?_⟩;cases aj:m.M a.block with
    |none=>rw[aj]at h;simp at h
    |some x=>rw[aj]at h;rw[Y.M aj];exact h.2
  · cases h
theorem g7.nK(Y:g7 aW cA m bN){v:Value}(h:nK m v=true):nK bN v=true:=by
  unfold DI.nK at h⊢;split at h
  · rfl
  · rename_i a l c;cases aj:m.M a.block with
    |none=>rw[aj]at h;cases h
    |some x=>rw[aj]at h;rw[Y.M aj];exact h
  · cases h
theorem g7.hO(Y:g7 aW cA m bN){v:Value}{O:Nat}(h:DI.ik m O v=true):hO bN O v=hO m O v:=by
  unfold DI.ik at h;split at h
  · rfl
  · rename_i a l c;simp only[Bool.and_eq_true]at h;cases aj:m.M a.block with
    |none=>rw[aj]at h;simp at h
    |some x=>simp only[DI.hO,ka,aj,Y.M aj]
  · cases h
theorem g7.n0(Y:g7 aW cA m bN){v:Value}{O:Nat}(h:DI.ik m O v=true):g7 aW cA (n0 m v) (n0 bN v):=by
  unfold DI.ik at h;split at h
  · exact Y
  · rename_i a l c;simp only[Bool.and_eq_true]at h;cases aj:m.M a.block with
    |none=>rw[aj]at h;simp at h
    |some x=>exact Y.au (Y.iX aj) _
  · cases h
theorem g7.mv(Y:g7 aW cA m bN){v:Value}{bg:List (Value×Value)}(h:mv m v=some bg):mv bN v=some bg:=by
  unfold DI.mv at h⊢;split at h
  · exact h
  · exact Y.c6 h
  · cases h
theorem aap(Y:g7 aW cA m bN){k:av}{u:aL}(h:k.ok u m=true):k.ok u bN=true:=by
  cases k with
  |sq O n y=>simp only[av.ok,Bool.and_eq_true]at h⊢;exact⟨Y.gZ h.1,h.2⟩
  |fj ep n x=>simp only[av.ok,Bool.and_eq_true]at h⊢;exact⟨Y.gZ h.1,h.2⟩
  |store n x v=>simp only[av.ok,Bool.and_eq_true]at h⊢;exact⟨⟨⟨Y.gZ h.1.1.1,Y.rH h.1.1.2⟩,h.1.2⟩,h.2⟩
  |qk x=>simp only[av.ok,Bool.and_eq_true]at h⊢;exact⟨Y.ik h.1,by rw[Y.hO h.1];exact h.2⟩
  |app O bytes x y=>simp only[av.ok,Bool.and_eq_true]at h⊢;exact⟨⟨⟨⟨⟨Y.ik h.1.1.1.1.1,Y.nK h.1.1.1.1.2⟩,Y.ik h.1.1.1.2⟩,h.1.1.2⟩,h.1.2⟩,h.2⟩
  | pY bx O o x gu=>
    simp only[av.ok]at h⊢;cases aK:DI.mv m (ab u x)with
    |none=>rw[aK]at h;cases h
    |some bg=>rw[aK]at h;rw[Y.mv aK];exact h
  | pl bx x gu v=>
    simp only[av.ok]at h⊢;split at h
    · rename_i cl b L;cases aK:m.c6 b with
      |none=>rw[aK]at h;cases h
      |some bg=>rw[aK]at h;rw[Y.c6 aK];exact h
    · cases h
  |_=>exact h
theorem ab9(Y:g7 aW cA m bN){k:av}{u:aL}{id:Nat}(h:k.ok u m=true):k.val id u bN=k.val id u m:=by
  cases k with
  |fj ep n x=>simp only[av.ok,Bool.and_eq_true]at h;exact Y.lq h.1
  |qk x=>simp only[av.ok,Bool.and_eq_true]at h;simp only[av.val,Y.hO h.1]
  | pY bx O o x gu=>
    simp only[av.ok]at h;cases aK:DI.mv m (ab u x)with
    |none=>rw[aK]at h;cases h
    |some bg=>simp only[av.val,aK,Y.mv aK]
  |_=>rfl
theorem Z3(Y:g7 aW cA m bN){k:av}{u:aL}{id:Nat}(e4: ¬aW id)(h:k.ok u m=true):g7 aW cA (k.kk id u m) (k.kk id u bN):=by
  cases k with
  |eR O=>exact Y.au e4 _
  |o7 x=>exact Y.au e4 _
  |iT a b c d=>exact Y.au e4 _
  |rN x=>exact Y.au e4 _
  |nk a b c d e=>exact Y.au e4 _
  |store n x v=>simp only[av.ok,Bool.and_eq_true]at h;exact Y.qR h.1.1.1
  | app O bytes x y=>
    simp only[av.ok,Bool.and_eq_true]at h;simp only[av.kk];split
    · exact Y
    · rw[Y.hO h.1.1.1.1.1,Y.hO h.1.1.1.2];exact(Y.n0 h.1.1.1.1.1).au e4 _
  |oS=>exact Y.hq e4 _
  | pl bx x gu v=>
    simp only[av.ok]at h;split at h
    · rename_i cl b L;cases aK:m.c6 b with
      |none=>rw[aK]at h;cases h
      |some bg=>simp only[av.kk,L,Cd,aK,Y.c6 aK];exact Y.hq (Y.UI aK) _
    · cases h
  |_=>exact Y
theorem Nh(Y:g7 aW cA m bN){k:av}{u:aL}{mW:Nat×List Value}(h:k.gE u m=some mW):k.gE u bN=some mW:=by
  cases k with
  | qB bR x args=>
    simp only[av.gE]at h⊢;split at h
    · split at h
      · exact h
      · split at h
        · rename_i aB;simp only[Bool.and_eq_true]at aB;rw[if_pos (by simp only[Bool.and_eq_true];exact⟨Y.gZ aB.1,aB.2⟩),Y.lq aB.1];exact h
        · cases h
      · cases h
    · cases h
  |_=>exact h
theorem TW{m bN:B}{k:av}{u:aL}(h:k.gE u m=none)(aA:k.ok u m=true):k.gE u bN=none:=by
  refine vU ?_;cases k with
  |eI f a=>simp[av.ok]at aA
  |lZ f a=>simp[av.ok]at aA
  |qB f a b=>simp[av.ok]at aA
  |_=>rfl
def MO(aW:Nat->Prop)(cA:B)(df:Callee):Prop:= ∀f a m r N,df f a m=some (r,N)-> ∀bN,g7 aW cA m bN-> ∃h1,df f a bN=some (r,h1)/\g7 aW cA N h1
theorem ZJ{N h1:B}(Y:g7 aW cA m bN)(ee:g7 aW cA N h1){u:aL}{bx:List (Operand×Operand)}(h:xt u bx m N):xt u bx bN h1:= λp aq b L=>by
  by_cases aR:aW b
  · rw[(Y.bw b aR).1,(ee.bw b aR).1]
  · rw[Y.eq b aR,ee.eq b aR];exact h p aq b L
theorem abQ{df:Callee}(eb:MO aW cA df)(Y:g7 aW cA m bN){base:Nat}(L: ∀b,aW b->b<base){o:b6}{u ag:aL}{N:B}(h:jb df base o u m=some (ag,N))(W:q1 o u m N):
    ∃h1,jb df base o u bN=some (ag,h1)/\g7 aW cA N h1/\q1 o u bN h1:=by
  unfold jb at h⊢;unfold q1 at W⊢;by_cases aO:fN u o.g=true
  · rw[if_pos aO]at h⊢
    replace W:=W aO
    cases aB:o.k.gE u m with
    | none=>
      rw[aB]at h W;simp only at h W;split at h
      · rename_i aA;cases h;simp only[TW aB aA];rw[if_pos (aap Y aA),ab9 Y aA];exact⟨_,rfl,Z3 Y (λaR=>by have:=L _ aR;omega) aA,λ_=>W⟩
      · cases h
    | some mW=>
      obtain⟨f,args⟩:=mW;rw[aB]at h W;simp only at h W;cases aI:df f args m with
      |none=>rw[aI]at h;cases h
      | some H0=>obtain⟨v,bz⟩:=H0;rw[aI]at h;cases h;obtain⟨h1,z,ee⟩:=eb _ _ _ _ _ aI bN Y;simp only[Nh Y aB,z];exact⟨_,rfl,ee,λ_=>ZJ Y ee W⟩
  · rw[if_neg aO]at h⊢;cases h;exact⟨bN,rfl,Y,λh=>absurd h aO⟩
theorem L3{df:Callee}(eb:MO aW cA df){base:Nat}(L: ∀b,aW b->b<base): ∀{br:List b6} {u ag:aL} {m N bN:B},g7 aW cA m bN->mN df base br u m=some (ag,N)-> ∃h1,mN df base br u bN=some (ag,h1)/\g7 aW cA N h1
  |[],_,_,_,_,bN,Y,h=>by cases h;exact⟨bN,rfl,Y⟩
  | _::_,_,_,_,_,bN,Y,h=>by obtain⟨c7,bz,z,D,Z⟩:=tW h;obtain⟨my,aC,ft,a2⟩:=abQ eb Y L z D;obtain⟨wF,bS,me⟩:=L3 eb L ft Z;exact⟨wF,AK aC a2 bS,me⟩
theorem Ly{f:aL->B->Option (dr×aL×B)}(aI: ∀u m e ag N,f u m=some (e,ag,N)-> ∀bN,g7 aW cA m bN-> ∃h1,f u bN=some (e,ag,h1)/\g7 aW cA N h1):
    ∀{n:Nat} {u:aL} {m:B} {e:dr} {ag:aL} {N bN:B},lL f n u m=some (e,ag,N)->g7 aW cA m bN-> ∃h1,lL f n u bN=some (e,ag,h1)/\g7 aW cA N h1
  |0,_,_,_,_,_,_,h,_=>by simp[lL]at h
  | n+1,u,m,e,ag,N,bN,h,Y=>by
    rcases Lz h with⟨c7,bz,z,D⟩|⟨z,D⟩
    · obtain⟨my,aC,ft⟩:=aI _ _ _ _ _ z bN Y;obtain⟨wF,a2,me⟩:=Ly aI D ft;exact⟨wF,by simp only[lL,aC];exact a2,me⟩
    · obtain⟨my,aC,ft⟩:=aI _ _ _ _ _ z bN Y;refine⟨my,?_,ft⟩;simp only[lL,aC];cases e with
      |gv=>exact absurd rfl D
      |bI id=>rfl
      |a7=>rfl
theorem pF{df:Callee}(eb:MO aW cA df){n:Nat}: ∀{c:U} {u ag:aL} {m N bN:B} {e:dr},fK df n c u m=some (e,ag,N)->g7 aW cA m bN-> ∃h1,fK df n c u bN=some (e,ag,h1)/\g7 aW cA N h1
  | .skip,_,_,_,_,bN,_,h,Y=>by cases h;exact⟨bN,rfl,Y⟩
  | .I ops,u,ag,m,N,bN,e,h,Y=>by
    simp only[fK]at h⊢;split at h
    · rename_i c7 bz aF;cases h;have ee:g7 aW cA (k2 ops m) (k2 ops bN):=by
        unfold k2;split
        · exact Y.bs _
        · exact Y
      obtain⟨h1,g,me⟩:=L3 eb (base:=m.next) (λb L=>Y.cZ b L) ee aF;refine⟨h1,?_,me⟩;rw[Y.next,g]
    · cases h
  | .E a b,u,ag,m,N,bN,e,h,Y=>by
    simp only[fK]at h⊢;split at h
    · rename_i c7 bz z;obtain⟨my,aC,ft⟩:=pF eb z Y;obtain⟨wF,a2,me⟩:=pF eb h ft;exact⟨wF,by rw[aC];exact a2,me⟩
    · rename_i dq;obtain⟨my,aC,ft⟩:=pF eb h Y;refine⟨my,?_,ft⟩;rw[aC];cases e with
      |gv=>exact absurd h (dq _ _)
      |bI id=>rfl
      |a7=>rfl
  | .bj x a b,u,ag,m,N,bN,e,h,Y=>by
    simp only[fK]at h⊢;split at h
    · rename_i z;rw[if_pos z];split at h
      · rename_i D;rw[if_pos D];exact pF eb h Y
      · rename_i D;rw[if_neg D];exact pF eb h Y
    · cases h
  | .block id c,u,ag,m,N,bN,e,h,Y=>by
    simp only[fK]at h⊢;split at h
    · rename_i z;obtain⟨my,aC,ft⟩:=pF eb z Y;rw[aC];simp only;split at h
      · rename_i e4;cases h;exact⟨my,by rw[if_pos e4],ft⟩
      · rename_i e4;cases h;exact⟨my,by rw[if_neg e4],ft⟩
    · rename_i dq;obtain⟨my,aC,ft⟩:=pF eb h Y;refine⟨my,?_,ft⟩;rw[aC];cases e with
      |gv=>rfl
      |bI id=>exact absurd h (dq _ _ _)
      |a7=>rfl
  | .loop c,u,ag,m,N,bN,e,h,Y=>by simp only[fK]at h⊢;exact Ly (f:=fK df n c) (λu m e ag N z bN Y=>pF eb z Y) h Y
  | .bI id,_,_,_,_,bN,_,h,Y=>by cases h;exact⟨bN,rfl,Y⟩
  | .a7,_,_,_,_,bN,_,h,Y=>by cases h;exact⟨bN,rfl,Y⟩
theorem ER(Y:g7 aW cA m bN){u:aL}{r:nw}(h:sk m u r=true):sk bN u r=true/\s6 bN u r=s6 m u r:=by
  cases r with
  |bA t=>exact⟨rfl,rfl⟩
  | h7 t ep n=>simp only[sk,Bool.and_eq_true]at h⊢;exact⟨⟨Y.gZ h.1,h.2⟩,Y.lq h.1⟩
theorem aaU(Y:g7 aW cA m bN){u:aL}{bb:List nw}(h:nI m u bb=true):nI bN u bb=true/\n4 bN u bb=n4 m u bb:=by
  have aF: ∀r∈bb,sk m u r=true:=by simpa[nI]using h
  refine⟨by simp only[nI,List.all_eq_true];exact λr aK=>(ER Y (aF r aK)).1,?_⟩;unfold n4;split
  · exact(ER Y (aF _ (by simp))).2
  · rw[List.map_congr_left λr aK=>(ER Y (aF r aK)).2]
theorem Iw{P:Program}: ∀n,MO aW cA (lS P n)
  |0=> λf a m r N h=>by simp[lS]at h
  | n+1=> λf a m r N h bN Y=>by
    simp only[lS]at h⊢;split at h
    · rename_i K de;split at h
      · rename_i fG;rw[if_pos fG];split at h
        · cases h
        · rename_i e ag bz dq nC;obtain⟨my,aC,ft⟩:=pF (Iw n) nC Y;split at h
          · rename_i aF;cases h;obtain⟨a2,bS⟩:=aaU ft aF;rw[aC];refine⟨my,?_,ft⟩;cases e with
            |gv=>simp only[a2,bS,if_true]
            |a7=>simp only[a2,bS,if_true]
            |bI id=>exact absurd rfl (dq id)
          · cases h
        · cases h
      · cases h
    · cases h
end
structure qi(p m:B):Prop where
  next:p.next=m.next
  mp:p.mp=m.mp
  M: ∀b x,p.M b=some x->m.M b=some x
structure aoE(p m eM N:B):Prop where
  part:qi eM N
  next:m.next<=N.next
  L7: ∀b,b<m.next->p.M b=none->N.M b=m.M b/\eM.M b=none/\N.mp b=m.mp b
theorem qi.refl(m:B):qi m m:=⟨rfl,rfl,λ_ _ h=>h⟩
theorem bJ.frame{P:Program}{f:Nat}{args:List Value}{p m:B}{az:Value->B->Prop}(aq:qi p m)(h:bJ P f args p az):
    bJ P f args m λr N=> ∃eM,az r eM/\aoE p m eM N:=by
  obtain⟨n,r,eM,z,q⟩:=h;have Y:g7 (λb=>b<p.next/\p.M b=none) m p m:=by
    refine⟨aq.next.symm,by rw[aq.next];exact Nat.le_refl _,λb L=>L.1,λb L=>L.2,λb _=>⟨rfl,rfl⟩,λb L=> ?_,aq.mp.symm⟩;cases aj:p.M b with
    |some x=>exact aq.M b x aj
    | none=>
      have: ¬b<p.next:= λcM=>L ⟨cM,aj⟩
      have D: ¬b<m.next:=by rw[<-aq.next];exact this
      simp only[B.M,D,if_false]
  obtain⟨N,D,ee⟩:=Iw n _ _ _ _ _ z m Y;refine⟨n,r,N,D,eM,q,⟨ee.next.symm,ee.mp.symm,λb x L=>ee.M L⟩,?_,λb L ak=> ?_⟩
  · rw[ee.next];exact ee.Ff
  · have aR:b<p.next/\p.M b=none:=⟨by rw[aq.next];exact L,ak⟩
    exact⟨(ee.bw b aR).1,ee.off b aR,(ee.bw b aR).2⟩
inductive fF where
  |int (k:IntKind)
  |bool
  |str
  |slice (e:fF)
  |unit
  |gB (a b:fF)
abbrev fF.aW:fF->Type
  | .int _=>Int
  | .bool=>Bool
  | .str=>ByteArray
  | .slice e=>List e.aW
  | .unit=>Unit
  | .gB a b=>a.aW×b.aW
def fF.cells:fF->Nat
  | .unit=>0
  | .gB a b=>a.cells+b.cells
  |_=>1
def fF.cZ:fF->Nat
  | .int .u32=>4
  |_=>1
theorem fF.ay4(s:fF):1<=s.cZ:=by unfold fF.cZ;split<;>omega
theorem fF.ay3(s:fF){n k:Nat}(h:n*s.cZ<=k):n<=k:=Nat.le_trans (Nat.le_mul_of_pos_right n s.ay4) h
def fF.isAgg:fF->Bool
  | .unit| .gB _ _=>true
  |_=>false
def tw(P:Program)(h:TypeId->fF->Bool):Nat->List Field->fF->Bool
  |_,[],.unit=>true
  |off,f::gA,.gB a b=>f.offset==off&&h f.type a&&P.cellsOf f.type==a.cells&&tw P h (off+a.cells) gA b
  |_,_,_=>false
def tv(h:fF->Bool)(O:Nat):Nat->fF->Bool
  |0,.unit=>true
  |n+1,.gB a b=>h a&&a.cells==O&&tv h O n b
  |_,_=>false
def Bu(P:Program):Nat->TypeId->fF->Bool
  |0,_,_=>false
  | n+1,t,s=>match P.underlying t,s with
    |some (.int k),.int gN=>decide (k=gN)
    |some .bool,.bool=>true
    |some .string,.str=>true
    |some (.slice e),.slice oz=>Bu P n e oz&&P.cellsOf e==oz.cells&&decide (0<oz.cells)&&decide (oz.cZ<=P.bytesOf e)
    |some (.struct gA),s=>s.isAgg&&P.cellsOf t==s.cells&&tw P (Bu P n) 0 gA.toList s
    |some (.array k e),s=>s.isAgg&&P.cellsOf t==s.cells&&tv (Bu P n e) (P.cellsOf e) k s
    |_,_=>false
abbrev kh{e:fF}(l:(fF.slice e).aW):List e.aW:=l
def rD(m:B):(s:fF)->List Value->s.aW->Prop
  | .int k,cs,n=>cs=[.int k n]/\(Lit.int k n).wf=true
  | .bool,cs,b=>cs=[.bool b]
  | .str,cs,s=>cs=[.string s]/\s.size<=reachBytes
  | .slice e,cs,l=>(cs=[.slice none 0 0]/\kh l=[])\/ ∃(b:Nat) (bR:List (List Value)),cs=[.slice (some ⟨b,0,none⟩) (kh l).length e.cells]/\m.M b=some ⟨bR.flatten,false⟩/\(kh l).length*e.cZ<=reachBytes/\bR.length=(kh l).length/\(∀(i:Nat) (r:List Value) (d:e.aW),bR[i]?=some r->(kh l)[i]?=some d->rD m e r d)
  | .unit,cs,_=>cs=[]
  | .gB a b,cs,d=> ∃cB eQ,cs=cB++eQ/\rD m a cB d.1/\rD m b eQ d.2
theorem rD.len{m:B}: ∀{s:fF} {cs:List Value} {d:s.aW},rD m s cs d->cs.length=s.cells
  | .int _,_,_,h=>by rw[h.1];rfl
  | .bool,cs,d,h=>by have:cs=[.bool d]:=h;rw[this];rfl
  | .str,_,_,h=>by rw[h.1];rfl
  | .slice _,_,_,h=>by rcases h with⟨rfl,_⟩|⟨b,bR,rfl,_⟩<;>rfl
  | .unit,cs,_,h=>by have:cs=[]:=h;rw[this];rfl
  | .gB a b,_,_,h=>by obtain⟨cB,eQ,rfl,z,D⟩:=h;simp[fF.cells,z.len,D.len]
theorem rD.aD{m N:B}(aK: ∀b x,m.M b=some x->x.own=false->N.M b=some x): ∀{s:fF} {cs:List Value} {d:s.aW},rD m s cs d->rD N s cs d
  | .int _,_,_,h=>h
  | .bool,_,_,h=>h
  | .str,_,_,h=>h
  | .slice e,_,_,h=>by
    rcases h with h|⟨b,bR,z,D,Z,aw,aX⟩
    · exact .inl h
    · exact .inr ⟨b,bR,z,aK _ _ D rfl,Z,aw,λi r d aF aR=>(aX i r d aF aR).aD aK⟩
  | .unit,_,_,h=>h
  | .gB a b,_,_,h=>by obtain⟨cB,eQ,bB,z,D⟩:=h;exact⟨cB,eQ,bB,z.aD aK,D.aD aK⟩
def fF.c0:fF->Bool
  | .slice _=>false
  | .gB a b=>a.c0&&b.c0
  |_=>true
def Uo:(s:fF)->s.aW->List Value
  | .int k,n=>[.int k n]
  | .bool,b=>[.bool b]
  | .str,s=>[.string s]
  | .slice _,_=>[]
  | .unit,_=>[]
  | .gB a b,d=>Uo a d.1++Uo b d.2
def xB:(s:fF)->s.aW->Prop
  | .int k,n=>(Lit.int k n).wf=true
  | .bool,_=>True
  | .str,s=>s.size<=reachBytes
  | .slice e,l=>(kh l).length*e.cZ<=reachBytes/\ ∀x∈kh l,xB e x
  | .unit,_=>True
  | .gB a b,d=>xB a d.1/\xB b d.2
theorem rD.enc{m:B}: ∀{s:fF} {cs:List Value} {d:s.aW},s.c0=true->rD m s cs d->cs=Uo s d
  | .int _,_,_,_,h=>h.1
  | .bool,_,_,_,h=>h
  | .str,_,_,_,h=>h.1
  | .slice _,_,_,aI,_=>by cases aI
  | .unit,_,_,_,h=>h
  | .gB a b,_,_,aI,h=>by simp only[fF.c0,Bool.and_eq_true]at aI;obtain⟨cB,eQ,rfl,z,D⟩:=h;rw[z.enc aI.1,D.enc aI.2];rfl
theorem rD.ok{m:B}: ∀{s:fF} {cs:List Value} {d:s.aW},rD m s cs d->xB s d
  | .int _,_,_,h=>h.2
  | .bool,_,_,_=>trivial
  | .str,_,_,h=>h.2
  | .slice e,_,l,h=>by
    rcases h with⟨_,h⟩|⟨b,bR,z,D,Z,aw,aX⟩
    · subst h;exact⟨by simp[kh],λx H=>by cases H⟩
    · refine⟨Z,λx H=> ?_⟩;obtain⟨i,aa,rfl⟩:=List.getElem_of_mem H;exact(aX i (bR[i]'(by omega)) _ (by simp) (by simp)).ok
  | .unit,_,_,_=>trivial
  | .gB a b,_,_,h=>by obtain⟨cB,eQ,bB,z,D⟩:=h;exact⟨z.ok,D.ok⟩
def zj(m:B)(s:fF)(v:Value)(d:s.aW):Prop:= ∃cs,rD m s cs d/\v=if s.isAgg then .agg cs.toArray else cs.headD undef
inductive wB(m:B):List fF->List Value->Prop
  |nil:wB m [] []
  |cons {s:fF} {v:Value} {d:s.aW} {nb:List fF} {c2:List Value} (h:zj m s v d) (J:wB m nb c2):wB m (s::nb) (v::c2)
theorem wB.aD{m N:B}(aK: ∀b x,m.M b=some x->x.own=false->N.M b=some x){nb:List fF}{c2:List Value}(h:wB m nb c2):wB N nb c2:=by
  induction h with
  |nil=>exact .nil
  |cons h J cb=>obtain⟨cs,z,D⟩:=h;exact .cons ⟨cs,z.aD aK,D⟩ cb
section
variable {bu:Nat} {ax:fE} {m:B} {w:World}
theorem fc.acx(aK:fc bu ax m w)(an: ∀b x,m.M b=some x->x.own=false){xs:List Value}{l:wE}(aG:l.c<w.heap.size)(ak:xs.length<=l.n)
    (H: ∀i v,xs[i]?=some v->ao v=true/\ ∃bW,w.cell? ⟨l.c,l.o+i,none⟩=some bW/\eE ax v bW):
    fc bu (jz ax m.next l) ((m.bs 1).au m.next (some ⟨xs,false⟩)) w/\im ax (jz ax m.next l)/\(∀b x,m.M b=some x->((m.bs 1).au m.next (some ⟨xs,false⟩)).M b=some x)/\
      (∀b x,((m.bs 1).au m.next (some ⟨xs,false⟩)).M b=some x->x.own=false)/\((m.bs 1).au m.next (some ⟨xs,false⟩)).M m.next=some ⟨xs,false⟩:=by
  have aF:ax m.next=none:=by
    cases h:ax m.next with
    |none=>rfl
    |some l=>have:=aK.ql _ _ h;omega
  have fG:=wv (l:=l) aF;have afs:((m.bs 1).au m.next (some ⟨xs,false⟩)).M m.next=some ⟨xs,false⟩:=bX (by simp)
  have F6: ∀b x,m.M b=some x->((m.bs 1).au m.next (some ⟨xs,false⟩)).M b=some x:= λb x L=>by have:=aT L;rw[dv (by omega),gr this,L]
  have FX: ∀b x,((m.bs 1).au m.next (some ⟨xs,false⟩)).M b=some x->(b=m.next/\x=⟨xs,false⟩)\/m.M b=some x:= λb x L=>by
    by_cases e:b=m.next
    · subst e;rw[afs]at L;cases L;exact .inl ⟨rfl,rfl⟩
    · rw[dv e,B.gr]at L;exact .inr L
  have pS: ∀b x,((m.bs 1).au m.next (some ⟨xs,false⟩)).M b=some x->x.own=false:= λb x L=>by
    rcases FX b x L with⟨_,rfl⟩|h
    · rfl
    · exact an _ _ h
  refine⟨⟨λb e5 L=> ?_,λb e5 L=> ?_,λb x L=> ?_,λb x cQ kC fM dg z D=> ?_,λb bg L=> ?_,λb bg L=> ?_⟩,fG,F6,pS,afs⟩
  · unfold jz at L;split at L
    · rename_i e;rw[e];simp
    · have:=aK.ql _ _ L;simp;omega
  · unfold jz at L;split at L
    · cases L;exact aG
    · exact aK.rf _ _ L
  · rcases FX b x L with⟨rfl,rfl⟩|h
    · exact⟨l,by simp[jz],ak,λi v X=>by obtain⟨bm,bW,bU,cn⟩:=H i v X;exact⟨bm,bW,bU,cn.aD fG⟩,λh=>by cases h⟩
    · obtain⟨e5,aC,a2,bS,fA⟩:=aK.rk b x h;exact⟨e5,fG _ _ aC,a2,λi v X=>by obtain⟨bm,bW,bU,cn⟩:=bS i v X;exact⟨bm,bW,bU,cn.aD fG⟩,fA⟩
  · rw[pS _ _ z]at D;cases D
  · obtain⟨e5,h⟩:=aK.yI b bg L;exact⟨e5,fG _ _ h⟩
  · exfalso;unfold B.c6 at L;split at L
    · rename_i h;have:=pS _ _ h;cases this
    · cases L
end
section
variable {kD:Type} {enc:TypeId×Value->kD} {P:Program} {cX:World}
theorem acj{P:Program}{e:TypeId}{d:DataW kD}{n:Nat}: ∀{l:List (DataW kD)},d∈l->n∈d.weights P e->n∈DataW.weightsAll P e l
  |[],h,_=>by cases h
  | x::r,h,ak=>by
    simp only[DataW.weightsAll,List.mem_append];rcases List.mem_cons.1 h with rfl|h
    · exact .inl ak
    · exact .inr (acj h ak)
structure Tu(cX:World)(ax:fE)(m:B)(s:fF)(cs:List Value)(en:fE)(N:B)(as:List Value)(d:s.aW):Prop where
  u3:fc cX.heap.size en N cX
  Ap:im ax en
  n2: ∀b x,m.M b=some x->N.M b=some x
  own: ∀b x,N.M b=some x->x.own=false
  E8:dy en as cs
  ha: ∀v∈as,ao v=true
  C6:rD N s as d
def MQ(cX:World)(cs:List Value):Prop:= ∀a len cap,.slice (some a) len cap∈cs->0<cX.heap.size
def MS(enc:TypeId×Value->kD)(P:Program)(cX:World)(t:TypeId)(s:fF):Prop:=
  ∀oH cs x,DataW.trod enc P cX 0 (λ_=>true) true oH t cs=some x->(∀n∈x.1.weights P t,n<=reachBytes)->MQ cX cs-> ∀ax m,fc cX.heap.size ax m cX->(∀b x,m.M b=some x->x.own=false)-> ∃en N as d,Tu cX ax m s cs en N as d
theorem alV{h:TypeId->fF->Bool}(cE: ∀t s,h t s=true->MS enc P cX t s): ∀(gA:List Field) (s:fF) (off oH:Nat) (cs:List Value),tw P h off gA s=true->off+s.cells<=cs.length->
    (∀f∈gA,∃x,DataW.trod enc P cX 0 (λ_=>true) true oH f.type ((cs.drop f.offset).take (P.cellsOf f.type))=some x/\ ∀n∈x.1.weights P f.type,n<=reachBytes)->MQ cX cs->
    ∀ax m,fc cX.heap.size ax m cX->(∀b x,m.M b=some x->x.own=false)-> ∃en N as d,Tu cX ax m s ((cs.drop off).take s.cells) en N as d
  |[],.unit,off,oH,cs,J,aG,H,bY,ax,m,aK,an=>⟨ax,m,[],(),aK,im.refl ax,λ_ _ h=>h,an,by simpa[fF.cells]using dy.nil ax,by simp,rfl⟩
  | f::gA,.gB a b,off,oH,cs,J,aG,H,bY,ax,m,aK,an=>by
    simp only[tw,Bool.and_eq_true,beq_iff_eq]at J;obtain⟨⟨⟨rfl,z⟩,D⟩,Z⟩:=J;simp only[fF.cells]at aG⊢;obtain⟨x,hZ,VZ⟩:=H f (by simp);rw[D]at hZ;obtain⟨o4,bz,Ij,mA,b5⟩:=cE _ _ z _ _ _ hZ VZ (λcf len cap jX=>bY cf len cap (List.mem_of_mem_drop (List.mem_of_mem_take jX))) ax m aK an;obtain⟨td,b4,Ik,oG,dC⟩:=alV cE gA b (f.offset+a.cells) oH cs Z (by omega) (λarZ DB=>H arZ (by simp[DB])) bY o4 bz b5.u3 b5.own;refine⟨td,b4,Ij++Ik,(mA,oG),dC.u3,b5.Ap.trans dC.Ap,λb x L=>dC.n2 _ _ (b5.n2 _ _ L),dC.own,?_,?_,⟨Ij,Ik,rfl,b5.C6.aD (λb x L _=>dC.n2 _ _ L),dC.C6⟩⟩
    · rw[List.take_add,List.drop_drop];exact(b5.E8.aD dC.Ap).th dC.E8
    · intro v X;rcases List.mem_append.1 X with h|h
      · exact b5.ha v h
      · exact dC.ha v h
  |[],.int _,_,_,_,J,_,_,_,_,_,_,_=>by simp[tw]at J
  |[],.bool,_,_,_,J,_,_,_,_,_,_,_=>by simp[tw]at J
  |[],.str,_,_,_,J,_,_,_,_,_,_,_=>by simp[tw]at J
  |[],.slice _,_,_,_,J,_,_,_,_,_,_,_=>by simp[tw]at J
  |[],.gB _ _,_,_,_,J,_,_,_,_,_,_,_=>by simp[tw]at J
  |_::_,.int _,_,_,_,J,_,_,_,_,_,_,_=>by simp[tw]at J
  |_::_,.bool,_,_,_,J,_,_,_,_,_,_,_=>by simp[tw]at J
  |_::_,.str,_,_,_,J,_,_,_,_,_,_,_=>by simp[tw]at J
  |_::_,.slice _,_,_,_,J,_,_,_,_,_,_,_=>by simp[tw]at J
  |_::_,.unit,_,_,_,J,_,_,_,_,_,_,_=>by simp[tw]at J
theorem alU{h:fF->Bool}{e:TypeId}{O:Nat}(cE: ∀s,h s=true->MS enc P cX e s): ∀(n:Nat) (s:fF) (i oH:Nat) (cs:List Value),tv h O n s=true->i*O+s.cells<=cs.length->
    (∀j,i<=j->j<i+n-> ∃x,DataW.trod enc P cX 0 (λ_=>true) true oH e ((cs.drop (j*O)).take O)=some x/\ ∀n∈x.1.weights P e,n<=reachBytes)->MQ cX cs->
    ∀ax m,fc cX.heap.size ax m cX->(∀b x,m.M b=some x->x.own=false)-> ∃en N as d,Tu cX ax m s ((cs.drop (i*O)).take s.cells) en N as d
  |0,.unit,i,oH,cs,J,aG,H,bY,ax,m,aK,an=>⟨ax,m,[],(),aK,im.refl ax,λ_ _ h=>h,an,by simpa[fF.cells]using dy.nil ax,by simp,rfl⟩
  | n+1,.gB a b,i,oH,cs,J,aG,H,bY,ax,m,aK,an=>by
    simp only[tv,Bool.and_eq_true,beq_iff_eq]at J;obtain⟨⟨z,rfl⟩,Z⟩:=J;simp only[fF.cells]at aG⊢;obtain⟨x,hZ,VZ⟩:=H i (Nat.le_refl _) (by omega);obtain⟨o4,bz,Ij,mA,b5⟩:=cE _ z _ _ _ hZ VZ (λcf len cap jX=>bY cf len cap (List.mem_of_mem_drop (List.mem_of_mem_take jX))) ax m aK an;have aM:(i+1)*a.cells=i*a.cells+a.cells:=(by rw[Nat.add_mul];omega);obtain⟨td,b4,Ik,oG,dC⟩:=alU cE n b (i+1) oH cs Z (by omega) (λj z D=>H j (by omega) (by omega)) bY o4 bz b5.u3 b5.own;refine⟨td,b4,Ij++Ik,(mA,oG),dC.u3,b5.Ap.trans dC.Ap,λb x L=>dC.n2 _ _ (b5.n2 _ _ L),dC.own,?_,?_,⟨Ij,Ik,rfl,b5.C6.aD (λb x L _=>dC.n2 _ _ L),dC.C6⟩⟩
    · rw[List.take_add,List.drop_drop,<-aM];exact(b5.E8.aD dC.Ap).th dC.E8
    · intro v X;rcases List.mem_append.1 X with h|h
      · exact b5.ha v h
      · exact dC.ha v h
  |0,.int _,_,_,_,J,_,_,_,_,_,_,_=>by simp[tv]at J
  |0,.bool,_,_,_,J,_,_,_,_,_,_,_=>by simp[tv]at J
  |0,.str,_,_,_,J,_,_,_,_,_,_,_=>by simp[tv]at J
  |0,.slice _,_,_,_,J,_,_,_,_,_,_,_=>by simp[tv]at J
  |0,.gB _ _,_,_,_,J,_,_,_,_,_,_,_=>by simp[tv]at J
  |_+1,.int _,_,_,_,J,_,_,_,_,_,_,_=>by simp[tv]at J
  |_+1,.bool,_,_,_,J,_,_,_,_,_,_,_=>by simp[tv]at J
  |_+1,.str,_,_,_,J,_,_,_,_,_,_,_=>by simp[tv]at J
  |_+1,.slice _,_,_,_,J,_,_,_,_,_,_,_=>by simp[tv]at J
  |_+1,.unit,_,_,_,J,_,_,_,_,_,_,_=>by simp[tv]at J
theorem alW{e:TypeId}{s:fF}(cE:MS enc P cX e s){a:Addr}(J:a.spot=none){oH:Nat}(k6:0<cX.heap.size): ∀(k:Nat),(∀i,i<k-> ∃cs x,cX.cells? 0 (a.add (i*s.cells)) s.cells=some cs/\DataW.trod enc P cX 0 (λ_=>true) true oH e cs=some x/\ ∀n∈x.1.weights P e,n<=reachBytes)->
    ∀ax m,fc cX.heap.size ax m cX->(∀b x,m.M b=some x->x.own=false)->
    ∃ (en:fE) (N:B) (bR:List (List Value)) (b1:List s.aW),fc cX.heap.size en N cX/\im ax en/\(∀b x,m.M b=some x->N.M b=some x)/\(∀b x,N.M b=some x->x.own=false)/\bR.length=k/\b1.length=k/\(bR.flatten).length=k*s.cells/\
      (∀i v,bR.flatten[i]?=some v->ao v=true/\ ∃bW,cX.cell? ⟨a.block,a.off+i,none⟩=some bW/\eE en v bW)/\(∀(i:Nat) (r:List Value) (d:s.aW),bR[i]?=some r->b1[i]?=some d->rD N s r d)
  |0,_,ax,m,aK,an=>⟨ax,m,[],[],aK,im.refl ax,λ_ _ h=>h,an,rfl,rfl,by simp,by simp,by simp⟩
  | k+1,W,ax,m,aK,an=>by
    obtain⟨o4,bz,bR,b1,aC,a2,bS,fA,kp,oh,zL,Dr,UE⟩:=alW cE J k6 k (λi aa=>W i (by omega)) ax m aK an;obtain⟨cs,x,aB,H,auP⟩:=W k (by omega);obtain⟨_,gH,Js⟩:=World.cells?_some aB;obtain⟨td,b4,as,d,o⟩:=cE _ _ _ H auP (λ_ _ _ _=>k6) o4 bz aC fA;have iE:as.length=s.cells:=o.C6.len;refine⟨td,b4,bR++[as],b1++[d],o.u3,a2.trans o.Ap,λb x L=>o.n2 _ _ (bS _ _ L),o.own,by simp[kp],by simp[oh],?_,?_,?_⟩
    · simp[zL,iE,Nat.add_mul]
    · intro i v X;rw[List.flatten_append,List.getElem?_append]at X;split at X
      · obtain⟨bm,bW,bU,cn⟩:=Dr i v X;exact⟨bm,bW,bU,cn.aD o.Ap⟩
      · rename_i aa;rw[zL]at aa X;simp only[List.flatten_cons,List.flatten_nil,List.append_nil]at X;refine⟨o.ha v (List.mem_of_getElem? X),?_⟩;obtain⟨bW,sO,aF⟩:=o.E8.M X;have mZ:i-k*s.cells<s.cells:=(by have:=(List.getElem?_eq_some_iff.1 X).1;omega);have:=Js _ mZ;rw[sO]at this;refine⟨bW,?_,aF⟩;rw[<-this];congr 1;obtain⟨TF,acD,acG⟩:=a;simp only at J;subst J;unfold Addr.add;split<;>split<;>simp<;>omega
    · intro i r Dd aF aR;rw[List.getElem?_append]at aF aR;rw[kp]at aF;rw[oh]at aR;split at aF
      · rename_i aa;rw[if_pos aa]at aR;exact(UE i r Dd aF aR).aD (λb x L _=>o.n2 _ _ L)
      · rename_i aa;rw[if_neg aa]at aR;have:i-k=0:=by
          have:=(List.getElem?_eq_some_iff.1 aF).1;simp at this;omega
        rw[this]at aF aR;simp at aF aR;subst aF;subst aR;exact o.C6
theorem alX: ∀(n:Nat) (t:TypeId) (s:fF),Bu P n t s=true->MS enc P cX t s
  |0,_,_,h=>by cases h
  | n+1,t,s,h=>by
    have cb:=alX n;intro oH cs x H tF bY ax m aK an;unfold Bu at h;split at h
    · rename_i k gN bk;simp only[decide_eq_true_eq]at h;subst h;obtain⟨v,rfl,rfl,aO⟩:=DataW.trod_int bk H;exact⟨ax,m,[.int k v],v,aK,im.refl ax,λ_ _ h=>h,an,dy.cons (.c0 rfl) (dy.nil ax),by simp[ao],⟨rfl,aO⟩⟩
    · rename_i bk;obtain⟨b,rfl,rfl⟩:=DataW.trod_bool bk H;exact⟨ax,m,[.bool b],b,aK,im.refl ax,λ_ _ h=>h,an,dy.cons (.c0 rfl) (dy.nil ax),by simp[ao],rfl⟩
    · rename_i bk;obtain⟨v,rfl,rfl,aO⟩:=DataW.trod_string bk H;exact⟨ax,m,[.string v],v,aK,im.refl ax,λ_ _ h=>h,an,dy.cons (.c0 rfl) (dy.nil ax),by simp[ao],⟨rfl,by have:=tF v.data.toList.length (by simp[DataW.weights]);simpa using this⟩⟩
    · rename_i e oz bk;simp only[Bool.and_eq_true,beq_iff_eq,decide_eq_true_eq]at h;obtain⟨⟨⟨z,D⟩,Z⟩,atg⟩:=h;rcases DataW.trod_slice bk H with⟨rfl,rfl⟩|⟨a,len,cap,Dh,b0,dM,_,rfl,rfl,_,DH,uy,DA,bT,g9,_⟩
      · exact⟨ax,m,[.slice none 0 0],[],aK,im.refl ax,λ_ _ h=>h,an,dy.cons (.c0 rfl) (dy.nil ax),by simp[ao],.inl ⟨rfl,rfl⟩⟩
      · have k6:0<cX.heap.size:=bY a len cap (by simp);have V0:len*oz.cZ<=reachBytes:=by
          have aX:=tF ((Dh.length+b0.length)*P.bytesOf e) (by simp[DataW.weights,bk]);have cC:len*oz.cZ<=(Dh.length+b0.length)*P.bytesOf e:=Nat.mul_le_mul (by omega) atg;omega
        have auN: ∀y∈Dh,∀n∈y.1.weights P e,n<=reachBytes:= λy ah n ak=>tF n (by simp only[DataW.weights,bk];exact List.mem_cons_of_mem _ (List.mem_append_left _ (acj (List.mem_map_of_mem ah) ak)));rw[D]at bT g9;have g9:=g9 rfl
        -- where aDj qG a h7,lX aGN qG plain
        have U8:0<cap->a.spot=none/\a.block<cX.heap.size:=by
          intro aB;have: ∃cs,cX.cells? 0 a oz.cells=some cs:=by
            by_cases aG:0<len
            · have:=bT 0 aG;obtain⟨y,ah⟩: ∃y,Dh[0]?=some y:=⟨Dh[0]'(by omega),by simp⟩;rw[ah,Option.bind_eq_some_iff]at this;obtain⟨cs,jh,_⟩:=this;exact⟨cs,by simpa[Addr.add]using jh⟩
            · have:=g9.2 0 (by omega);obtain⟨y,ah⟩: ∃y,b0[0]?=some y:=⟨b0[0]'(by omega),by simp⟩;rw[ah,Option.bind_eq_some_iff]at this;obtain⟨cs,jh,_⟩:=this;exact⟨cs,by simpa[Addr.add,show len=0 by omega]using jh⟩
          obtain⟨cs,jh⟩:=this;refine⟨?_,World.cells?_block jh Z⟩;obtain⟨_,aG,Js⟩:=World.cells?_some jh;have bB:=Js 0 Z;obtain⟨g1,yb⟩: ∃g1,cs[0]?=some g1:=⟨cs[0]'(by omega),by simp⟩;rw[yb]at bB;simp only[Addr.add,if_true]at bB;unfold World.cell? at bB;split at bB
          · split at bB
            · cases bB
            · rename_i mr;simpa using mr
          · cases bB
        by_cases yb:cap=0
        · obtain rfl:len=0:=(by omega);subst yb;obtain⟨e6,fw,iZ,nr,mL⟩:=aK.acx an (xs:=[]) (l:=⟨0,0,0⟩) k6 (Nat.le_refl _) (by simp);refine⟨_,_,[.slice (some ⟨m.next,0,none⟩) 0 oz.cells],[],e6,fw,iZ,nr,dy.cons (.slice (l:=⟨0,0,0⟩) (by simp[jz]) (.inl ⟨rfl,rfl⟩) (Nat.le_refl _) (Nat.zero_le _)) (dy.nil _),by simp[ao],.inr ⟨m.next,[],rfl,mL,by simp[kh],rfl,by simp⟩⟩
        · obtain⟨mr,ath⟩:=U8 (by omega);have Va: ∀i,i<len-> ∃cs x,cX.cells? 0 (a.add (i*oz.cells)) oz.cells=some cs/\DataW.trod enc P cX 0 (λ_=>true) true dM e cs=some x/\ ∀n∈x.1.weights P e,n<=reachBytes:=by
            intro i aa;have:=bT i aa;obtain⟨y,ah⟩: ∃y,Dh[i]?=some y:=⟨Dh[i]'(by omega),by simp⟩;have auV:=ah;rw[ah,Option.bind_eq_some_iff]at this;obtain⟨cs,jh,ah⟩:=this;exact⟨cs,y,jh,ah,auN y (List.mem_of_getElem? auV)⟩
          obtain⟨o4,bz,bR,b1,aC,a2,bS,fA,kp,oh,zL,Dr,UE⟩:=alW (cb _ _ z) mr k6 len Va ax m aK an;have fG:len*oz.cells<=cap*oz.cells:=Nat.mul_le_mul_right _ DH;have aen:(kh b1).length=len:=oh;obtain⟨e6,fw,iZ,nr,mL⟩:=aC.acx fA (xs:=bR.flatten) (l:=⟨a.block,a.off,cap*oz.cells⟩) ath (by rw[zL];exact fG) Dr
          refine⟨_,_,[.slice (some ⟨bz.next,0,none⟩) len oz.cells],b1,e6,a2.trans fw,λb x L=>iZ _ _ (bS _ _ L),nr,dy.cons (.slice (l:=⟨a.block,a.off,cap*oz.cells⟩) (by simp[jz]) (.inr ⟨?_,by simp⟩) DH uy) (dy.nil _),by simp[ao],
            .inr ⟨bz.next,bR,by rw[aen],mL,by rw[aen];exact V0,by omega,λi r d aF aR=>(UE i r d aF aR).aD (λb x L _=>iZ _ _ L)⟩⟩
          obtain⟨TF,acD,acG⟩:=a;simp only at mr;subst mr;rfl
    · rename_i oz gA bk;simp only[Bool.and_eq_true,beq_iff_eq]at h;obtain⟨⟨bB,z⟩,D⟩:=h;obtain⟨xs,dM,_,rfl,aG,V5,aI⟩:=DataW.trod_struct bk H;have:=alV (λt s h=>cb t s h) gA.toList _ 0 dM cs D (by rw[aG,z];omega) (λf DB=> ?_) bY ax m aK an
      · rw[List.drop_zero,List.take_of_length_le (by omega)]at this;exact this
      · obtain⟨i,aa,rfl⟩:=List.getElem_of_mem DB;have jE:i<gA.size:=(by simpa using aa);have:=aI i gA[i] (by simp[jE]);refine⟨xs[i]'(by omega),?_,λn ak=>tF n ?_⟩
        · rw[List.getElem?_eq_getElem (by omega)]at this;simpa using this
        · simp only[DataW.weights,bk];exact DataW.weights_mem_each (j:=i) (t:=gA[i].type) (d:=xs[i].1) (by simp[jE]) (by simp[List.getElem?_eq_getElem (show i<xs.length by omega)]) n (by simpa using ak)
    · rename_i oz k e bk;simp only[Bool.and_eq_true,beq_iff_eq]at h;obtain⟨⟨bB,z⟩,D⟩:=h;obtain⟨xs,dM,_,rfl,aG,V5,aI⟩:=DataW.trod_array bk H;have:=alU (λs h=>cb e s h) k _ 0 dM cs D (by rw[aG,z];omega) (λj _ cp=> ?_) bY ax m aK an
      · rw[Nat.zero_mul,List.drop_zero,List.take_of_length_le (by omega)]at this;exact this
      · have:=aI j (by omega);refine⟨xs[j]'(by omega),?_,λn ak=>tF n ?_⟩
        · rw[List.getElem?_eq_getElem (by omega)]at this;simpa using this
        · simp only[DataW.weights,bk];exact acj (List.mem_map_of_mem (List.getElem_mem (show j<xs.length by omega))) ak
    · cases h
theorem atq{bu:Nat}{t:TypeId}{v:Value}(X:Value.okWide P cX .any bu t v):MQ cX v.cells.toList:=by
  have h7: ∀aJ a len cap,Cell.okWide P cX .any bu aJ (.slice (some a) len cap)->0<cX.heap.size:=by
    intro aJ a len cap h;unfold Cell.okWide at h;split at h<;>try(rename_i z;cases z)
    unfold Cell.ok at h;split at h<;>rename_i z<;>try cases z
    · obtain⟨_,_,_,_,cq,cells,J,_⟩:=h;unfold World.shape? at J;split at J
      · rename_i cE;have:=(Array.getElem?_eq_some_iff.1 cE).1;omega
      · cases J
    · cases h
  intro a len cap aK;unfold Value.okWide at X;split at X
  · obtain⟨cs,rfl,_,ts,_,_,aF⟩:=X;obtain⟨i,aa,aU⟩:=List.getElem_of_mem aK;obtain⟨aJ,_,aB⟩:=aF i (.slice (some a) len cap) (by
      have:i<cs.size:=(by simpa[Value.cells]using aa);rw[Array.getElem?_eq_getElem this];simpa[Value.cells]using aU)
    exact h7 aJ a len cap aB
  · obtain⟨cs,rfl,_,ts,_,_,aF⟩:=X;obtain⟨i,aa,aU⟩:=List.getElem_of_mem aK;obtain⟨aJ,_,aB⟩:=aF i (.slice (some a) len cap) (by
      have:i<cs.size:=(by simpa[Value.cells]using aa);rw[Array.getElem?_eq_getElem this];simpa[Value.cells]using aU)
    exact h7 aJ a len cap aB
  · cases v<;>simp[Value.cells]at aK
    · obtain⟨rfl,rfl,rfl⟩:=aK;exact h7 _ _ _ _ X
    · exfalso;unfold Cell.okWide at X;split at X<;>try(rename_i z;cases z)
      unfold Cell.ok at X;split at X<;>try(rename_i z;cases z)
      cases X
theorem aAr{n:Nat}{t:TypeId}{s:fF}(J:Bu P n t s=true){bu:Nat}{v:Value}{d:DataW kD}{dX:List MemPlace}(X:Value.okWide P cX .any bu t v)(aR:DataW.Trod enc P cX 0 (λ_=>true) true t v d dX)(tF: ∀n∈d.weights P t,n<=reachBytes)
    {ax:fE} {m:B} (aK:fc cX.heap.size ax m cX) (an: ∀b x,m.M b=some x->x.own=false):
    ∃en N aJ Bf,fc cX.heap.size en N cX/\im ax en/\(∀b x,m.M b=some x->N.M b=some x)/\(∀b x,N.M b=some x->x.own=false)/\eE en aJ v/\zj N s aJ Bf:=by
  obtain⟨oH,H⟩:=aR;obtain⟨en,N,as,Bf,o⟩:=alX n t s J oH _ _ H tF (atq X) ax m aK an;refine⟨en,N,if s.isAgg then .agg as.toArray else as.headD undef,Bf,o.u3,o.Ap,o.n2,o.own,?_,as,o.C6,rfl⟩;cases n with
  |zero=>cases J
  | succ n=>
    unfold Bu at J;have SS: ∀w:Value,v.cells.toList=[w]->w=v->s.isAgg=false->eE en (if s.isAgg then .agg as.toArray else as.headD undef) v:=by
      intro w aO aU aE;rw[aE];have z:=o.E8;rw[aO]at z;have D:=z.1;cases as with
      |nil=>simp at D
      |cons a as=>have:=z.2 0 a w rfl rfl;rw[aU]at this;simpa using this
    have agg:(∃cs,v= .agg cs)->s.isAgg=true->eE en (if s.isAgg then .agg as.toArray else as.headD undef) v:=(by rintro⟨cs,rfl⟩ aE;rw[aE];have z:=o.E8;simp only[Value.cells]at z;have:=z.agg o.ha;simpa using this);split at J
    · rename_i k gN bk;obtain⟨n,rfl⟩:=WideShapes.okWide_int bk X;exact SS _ rfl rfl rfl
    · rename_i bk;obtain⟨n,rfl⟩:=WideShapes.okWide_bool bk X;exact SS _ rfl rfl rfl
    · rename_i bk;obtain⟨n,rfl⟩:=WideShapes.okWide_string bk X;exact SS _ rfl rfl rfl
    · rename_i e oz bk;obtain⟨a,l,c,rfl⟩:=WideShapes.okWide_slice bk X;exact SS _ rfl rfl rfl
    · rename_i gA bk;simp only[Bool.and_eq_true]at J;obtain⟨cs,rfl,_⟩:=WideShapes.okWide_struct bk X;exact agg ⟨cs,rfl⟩ J.1.1
    · rename_i k e bk;simp only[Bool.and_eq_true]at J;unfold Value.okWide at X;rw[bk]at X;obtain⟨cs,rfl,_⟩:=X;exact agg ⟨cs,rfl⟩ J.1.1
    · cases J
def FV(P:Program)(n:Nat):List TypeId->List fF->Bool
  |[],[]=>true
  |t::ts,s::nb=>Bu P n t s&&FV P n ts nb
  |_,_=>false
theorem alT{n:Nat}{bu:Nat}: ∀(ts:List TypeId) (nb:List fF) (c2:List Value) (b1:List (DataW kD)) (dX:List MemPlace),FV P n ts nb=true->(∀(j:Nat) t v,ts[j]?=some t->c2[j]?=some v->Value.okWide P cX .any bu t v)->
    DataW.TrodAll enc P cX 0 (λ_=>true) true ts c2 b1 dX->(∀n∈DataW.weightsEach P ts b1,n<=reachBytes)-> ∀ax m,fc cX.heap.size ax m cX->(∀b x,m.M b=some x->x.own=false)->
    ∃en N fm,fc cX.heap.size en N cX/\im ax en/\(∀b x,m.M b=some x->N.M b=some x)/\dy en fm c2/\wB N nb fm
  |[],[],[],[],_,_,_,_,_,ax,m,aK,an=>⟨ax,m,[],aK,im.refl ax,λ_ _ h=>h,dy.nil ax,.nil⟩
  | t::ts,s::nb,v::c2,d::b1,dX,J,X,bH,tF,ax,m,aK,an=>by simp only[FV,Bool.and_eq_true]at J;obtain⟨p,q,z,D,rfl⟩:=bH;obtain⟨o4,bz,aJ,Bf,aC,a2,bS,fA,kp,oh⟩:=aAr J.1 (X 0 t v rfl rfl) z (λn ak=>tF n (by simp only[DataW.weightsEach];exact List.mem_append_left _ ak)) aK an;obtain⟨td,b4,fm,bp,dc,eK,kX,j2⟩:=alT ts nb c2 b1 q J.2 (λj t v a b=>X (j+1) t v (by simpa using a) (by simpa using b)) D (λn ak=>tF n (by simp only[DataW.weightsEach];exact List.mem_append_right _ ak)) o4 bz aC fA;obtain⟨cs,oh,zL⟩:=oh;exact⟨td,b4,aJ::fm,bp,a2.trans dc,λb x L=>eK _ _ (bS _ _ L),dy.cons (kp.aD dc) kX,.cons ⟨cs,oh.aD (λb x L _=>eK _ _ L),zL⟩ j2⟩
  |[],_::_,_,_,_,J,_,_,_,_,_,_,_=>by simp[FV]at J
  |_::_,[],_,_,_,J,_,_,_,_,_,_,_=>by simp[FV]at J
  |[],[],_::_,_,_,_,_,bH,_,_,_,_,_=>by simp[DataW.TrodAll]at bH
  |[],[],[],_::_,_,_,_,bH,_,_,_,_,_=>by simp[DataW.TrodAll]at bH
  |_::_,_::_,[],_,_,_,_,bH,_,_,_,_,_=>by simp[DataW.TrodAll]at bH
  |_::_,_::_,_::_,[],_,_,_,bH,_,_,_,_,_=>by simp[DataW.TrodAll]at bH
theorem ayO(rb:P.follows .mixedOrders=true){f n bu:Nat}{ts:List TypeId}{nb:List fF}(J:FV P n ts nb=true){args:Array Value}{b1:List (DataW kD)}{dX:List MemPlace}
    (X: ∀(j:Nat) t v,ts[j]?=some t->args[j]?=some v->Value.okWide P cX .any bu t v) (bH:DataW.TrodAll enc P cX 0 (λ_=>true) true ts args.toList b1 dX) (tF: ∀n∈DataW.weightsEach P ts b1,n<=reachBytes)
    (h: ∀m fm,wB m nb fm->bJ P f fm m λr _=>r= .bool true):
    Calls P f args cX λe e1=>e= .returned (.bool true)/\Below cX.heap.size cX e1:=by
  obtain⟨ax,m,fm,aC,_,_,fA,kp⟩:=alT ts nb args.toList b1 dX J (λj t v a b=>X j t v a (by simpa using b)) bH tF _ _ fc.empty (λb x h=>by unfold B.M at h;split at h<;>cases h);obtain⟨k,r,N,z,rfl⟩:=h m fm kp;have:=(acY (bu:=cX.heap.size) rb k f fm _ _ _ z).2.2.2.2 ax cX args fA aC (Nat.le_refl _);refine this.mono λe e1 cE=> ?_;obtain⟨v,en,rfl,_,_,X,_,L⟩:=cE;exact⟨by rw[X.tJ],L⟩
end
theorem zj.int{m:B}{k:IntKind}{v:Value}{n:Int}(h:zj m (.int k) v n):v= .int k n/\(Lit.int k n).wf=true:=by obtain⟨cs,h,rfl⟩:=h;obtain⟨rfl,h⟩:=h;exact⟨rfl,h⟩
theorem zj.bool{m:B}{v:Value}{b:Bool}(h:zj m .bool v b):v= .bool b:=by obtain⟨cs,h,rfl⟩:=h;have:cs=[.bool b]:=h;subst this;rfl
theorem zj.str{m:B}{v:Value}{s:ByteArray}(h:zj m .str v s):v= .string s/\s.size<=reachBytes:=by obtain⟨cs,h,rfl⟩:=h;obtain⟨rfl,h⟩:=h;exact⟨rfl,h⟩
structure cx(m N:B):Prop where
  next:m.next<=N.next
  M: ∀b x,m.M b=some x->N.M b=some x
theorem cx.refl(m:B):cx m m:=⟨Nat.le_refl _,λ_ _ h=>h⟩
theorem cx.trans{a b c:B}(h:cx a b)(ca:cx b c):cx a c:=⟨Nat.le_trans h.next ca.next,λx y H=>ca.M x y (h.M x y H)⟩
theorem qi.sub{p m:B}(h:qi p m):cx p m:=⟨Nat.le_of_eq h.next,h.M⟩
theorem cx.bs(m:B)(k:Nat):cx m (m.bs k):=⟨by simp,λb x h=>by rw[gr (aT h),h]⟩
theorem cx.au{m:B}{b:Nat}{x:Option fO}(h:m.M b=none):cx m (m.au b x):=⟨Nat.le_refl _,λc y aB=>by rw[dv (λaU=>by subst aU;rw[h]at aB;cases aB),aB]⟩
theorem nP{m:B}{b:Nat}(h:m.next<=b):m.M b=none:=by simp[B.M];omega
structure gS(cK:Type) where
  O:Nat
  R:B->List Value->cK->Prop
  len: ∀m cs x,R m cs x->cs.length=O
  aD: ∀m N cs x,cx m N->R m cs x->R N cs x
def gS.G{cK:Type}(r:gS cK)(m:B)(v:Value)(l:List cK):Prop:=
  (v= .slice none 0 0/\l=[])\/ ∃b o cs w,v= .slice (some ⟨b,o,none⟩) l.length r.O/\m.M b=some ⟨cs,w⟩/\o+l.length*r.O<=cs.length/\
    ∀(i:Nat) x,l[i]?=some x->r.R m ((cs.drop (o+i*r.O)).take r.O) x
section
variable {cK:Type} {r:gS cK} {m N:B} {v:Value} {l:List cK}
theorem gS.G.aD(h:r.G m v l)(J:cx m N):r.G N v l:=by
  rcases h with h|⟨b,o,cs,w,z,D,Z,aw⟩
  · exact .inl h
  · exact .inr ⟨b,o,cs,w,z,J.M _ _ D,Z,λi x H=>r.aD _ _ _ _ J (aw i x H)⟩
theorem gS.G.nil:r.G m (.slice none 0 0) []:= .inl ⟨rfl,rfl⟩
theorem gS.G.len(h:r.G m v l):ic v=l.length/\yy v=true/\kA r.O v=true/\hA v=l.length:=by
  rcases h with⟨rfl,rfl⟩|⟨b,o,cs,w,rfl,_⟩
  · exact⟨rfl,rfl,rfl,rfl⟩
  · exact⟨rfl,rfl,by simp,rfl⟩
theorem gS.G.pC(h:r.G m v l){i:Nat}{x:cK}(H:l[i]?=some x): ∃b o cs w,mP v r.O (i:Int)= .pointer (some ⟨b,o,none⟩)/\m.M b=some ⟨cs,w⟩/\o+r.O<=cs.length/\r.R m ((cs.drop o).take r.O) x:=by
  rcases h with⟨rfl,rfl⟩|⟨b,o,cs,w,rfl,D,Z,aw⟩
  · simp at H
  · have aa:=(List.getElem?_eq_some_iff.1 H).1;refine⟨b,o+i*r.O,cs,w,by simp[mP],D,?_,aw i x H⟩;have:(i+1)*r.O<=l.length*r.O:=Nat.mul_le_mul_right _ aa;rw[Nat.add_mul]at this;omega
theorem gS.G.sub(h:r.G m v l){k n:Nat}(W:k<=n)(ak:n<=l.length):r.G m (n8 v r.O k n) ((l.take n).drop k):=by
  rcases h with⟨rfl,rfl⟩|⟨b,o,cs,w,rfl,D,Z,aw⟩
  · exact .inl ⟨rfl,by simp⟩
  · have e:((l.take n).drop k).length=n-k:=(by simp;omega);have aX:n*r.O<=l.length*r.O:=Nat.mul_le_mul_right _ ak;have cC:k*r.O+(n-k)*r.O=n*r.O:=(by rw[<-Nat.add_mul];congr 1;omega);refine .inr ⟨b,o+k*r.O,cs,w,by rw[e];rfl,D,by rw[e];omega,λi x H=> ?_⟩;rw[List.getElem?_drop,List.getElem?_take]at H;split at H
    · have:=aw _ x H;rw[show o+k*r.O+i*r.O=o+(k+i)*r.O by rw[Nat.add_mul];omega];exact this
    · cases H
theorem UB{bR:List (List Value)}{O:Nat}(bY: ∀x∈bR,x.length=O): ∀{i:Nat} {y:List Value},bR[i]?=some y->(bR.flatten.drop (i*O)).take O=y:=by
  induction bR with
  |nil=>intro i y h;simp at h
  | cons x bR cb=>
    intro i y h;have H:=bY x (by simp);cases i with
    | zero=>simp at h;subst h;simp[List.take_append_of_le_length (Nat.le_of_eq H.symm),List.take_of_length_le (Nat.le_of_eq H)]
    | succ i=>rw[List.flatten_cons,Nat.add_mul,Nat.one_mul,Nat.add_comm,<-List.drop_drop,<-H,List.drop_left,H];exact cb (λy ah=>bY y (by simp[ah])) (by simpa using h)
theorem tn{bR:List (List Value)}{O:Nat}(bY: ∀x∈bR,x.length=O):bR.flatten.length=bR.length*O:=by
  induction bR with
  |nil=>simp
  |cons x bR cb=>rw[List.flatten_cons,List.length_append,bY x (by simp),cb (λy ah=>bY y (by simp[ah])),List.length_cons,Nat.add_mul];omega
structure gS.br(r:gS cK)(p:B)(bR:List (List Value))(l:List cK):Prop where
  len:bR.length=l.length
  all: ∀(i:Nat) y x,bR[i]?=some y->l[i]?=some x->r.R p y x
variable {p:B} {bR:List (List Value)}
theorem gS.br.aD(h:r.br p bR l){eM:B}(J:cx p eM):r.br eM bR l:=⟨h.len,λi y x ah H=>r.aD _ _ _ _ J (h.all i y x ah H)⟩
theorem gS.br.nil:r.br p [] []:=⟨rfl,λi y x h=>by simp at h⟩
theorem gS.br.oZ(h:r.br p bR l){y:List Value}{x:cK}(H:r.R p y x):r.br p (bR++[y]) (l++[x]):=by
  refine⟨by simp[h.len],λi zg kC oq hH=> ?_⟩;by_cases aa:i<bR.length
  · rw[List.getElem?_append_left aa]at oq;rw[List.getElem?_append_left (by rw[<-h.len];exact aa)]at hH;exact h.all i _ _ oq hH
  · by_cases aU:i=bR.length
    · subst aU;rw[List.getElem?_append_right (Nat.le_refl _)]at oq;rw[List.getElem?_append_right (by rw[h.len];exact Nat.le_refl _),h.len]at hH;simp at oq hH;subst oq hH;exact H
    · rw[List.getElem?_eq_none (by simp;omega)]at oq;cases oq
theorem gS.br.app(h:r.br p bR l){xE:List (List Value)}{e5:List cK}(ca:r.br p xE e5):r.br p (bR++xE) (l++e5):=by
  refine⟨by simp[h.len,ca.len],λi zg kC oq hH=> ?_⟩;by_cases aa:i<bR.length
  · rw[List.getElem?_append_left aa]at oq;rw[List.getElem?_append_left (by rw[<-h.len];exact aa)]at hH;exact h.all i _ _ oq hH
  · rw[List.getElem?_append_right (by omega)]at oq;rw[List.getElem?_append_right (by rw[<-h.len];omega),<-h.len]at hH;exact ca.all _ _ _ oq hH
theorem gS.br.akS(h:r.br p bR l): ∀y∈bR,y.length=r.O:= λy ah=>by
  obtain⟨i,aa,rfl⟩:=List.getElem_of_mem ah;have aG:i<l.length:=by rw[<-h.len];exact aa
  exact r.len _ _ _ (h.all i _ _ (List.getElem?_eq_getElem aa) (List.getElem?_eq_getElem aG))
theorem gS.br.ase(h:r.br p bR l):bR.flatten.length=l.length*r.O:=by rw[tn h.akS,h.len]
theorem gS.br.slice(h:r.br p bR l)(aq:cx p m){b:Nat}{w:Bool}(L:m.M b=some ⟨bR.flatten,w⟩):r.G m (.slice (some ⟨b,0,none⟩) l.length r.O) l:=by refine .inr ⟨b,0,_,w,rfl,L,by rw[h.ase];omega,λi x H=> ?_⟩;have aa:=(List.getElem?_eq_some_iff.1 H).1;rw[Nat.zero_add,UB h.akS (y:=bR[i]'(by rw[h.len];exact aa)) (by simp)];exact r.aD _ _ _ _ aq (h.all i _ _ (by simp) H)
theorem aa1{cs:List Value}{O:Nat}: ∀(n o:Nat),o+n*O<=cs.length-> ∃bR:List (List Value),bR.length=n/\bR.flatten=(cs.drop o).take (n*O)/\ ∀i,i<n->bR[i]?=some ((cs.drop (o+i*O)).take O)
  |0,o,_=>⟨[],rfl,by simp,λi aa=>by omega⟩
  | n+1,o,h=>by
    rw[Nat.add_mul]at h;obtain⟨bR,z,D,Z⟩:=aa1 (cs:=cs) (O:=O) n (o+O) (by omega);refine⟨(cs.drop o).take O::bR,by simp[z],?_,λi aa=> ?_⟩
    · rw[List.flatten_cons,D,Nat.add_mul,Nat.one_mul,Nat.add_comm (n*O) O,List.take_add,List.drop_drop]
    · cases i with
      |zero=>simp
      | succ i=>rw[List.getElem?_cons_succ,Z i (by omega)];congr 3;rw[Nat.add_mul];omega
theorem gS.G.cells(h:r.G m v l):ik m r.O v=true/\ ∃bR,hO m r.O v=bR.flatten/\r.br m bR l:=by
  rcases h with⟨rfl,rfl⟩|⟨b,o,cs,w,rfl,D,Z,aw⟩
  · exact⟨rfl,[],rfl,.nil⟩
  · refine⟨by simp[D];omega,?_⟩;obtain⟨bR,aM,a1,cI⟩:=aa1 l.length o Z;refine⟨bR,by simp[D,a1],aM,λi y x ah H=> ?_⟩;rw[cI i (List.getElem?_eq_some_iff.1 H).1]at ah;cases ah;exact aw i x H
end
def gS.int(k:IntKind):gS Int:=⟨1,λ_ cs n=>cs=[.int k n],λ_ _ _ h=>by rw[h];rfl,λ_ _ _ _ _ h=>h⟩
def gS.bool:gS Bool:=⟨1,λ_ cs n=>cs=[.bool n],λ_ _ _ h=>by rw[h];rfl,λ_ _ _ _ _ h=>h⟩
def gS.str:gS ByteArray:=⟨1,λ_ cs n=>cs=[.string n],λ_ _ _ h=>by rw[h];rfl,λ_ _ _ _ _ h=>h⟩
def gS.tO{cK:Type}(r:gS cK):gS (List cK):=⟨1,λm cs l=> ∃v,cs=[v]/\r.G m v l,λ_ _ _ ⟨_,h,_⟩=>by rw[h];rfl,λ_ _ _ _ J ⟨v,h,ca⟩=>⟨v,h,ca.aD J⟩⟩
def gS.map{cK qV:Type}(r:gS cK)(f:cK->qV):gS qV:=⟨r.O,λm cs y=> ∃x,f x=y/\r.R m cs x,λ_ _ _ ⟨_,_,h⟩=>r.len _ _ _ h,λ_ _ _ _ J ⟨x,h,ca⟩=>⟨x,h,r.aD _ _ _ _ J ca⟩⟩
theorem gS.G.sr{cK qV:Type}{r:gS cK}{q:gS qV}{m:B}{v:Value}{l:List cK}(f:cK->qV)(h:r.G m v l)(bY:r.O=q.O)(aI: ∀cs x,x∈l->r.R m cs x->q.R m cs (f x)):q.G m v (l.map f):=by
  rcases h with⟨rfl,rfl⟩|⟨b,o,cs,w,rfl,D,Z,aw⟩
  · exact .inl ⟨rfl,rfl⟩
  · refine .inr ⟨b,o,cs,w,by simp[bY],D,by simp[<-bY];exact Z,λi y ah=> ?_⟩;rw[List.getElem?_map,Option.map_eq_some_iff]at ah;obtain⟨x,H,rfl⟩:=ah;rw[<-bY];exact aI _ x (List.mem_of_getElem? H) (aw i x H)
def alg(r:List Value):Value:= .agg r.toArray
def anM:Value->List Value| .agg a=>a.toList|_=>[]
def bE(bR:List (List Value))(O:Nat):Value:= .func (.yield 0) (bR.map alg).toArray #[.int .i64 O]
def fL(cq:List Value)(k:Nat):Value:= .func (.yield 1) cq.toArray #[.int .i64 k]
def aal:List Value->Nat|[.int _ n]=>n.toNat|_=>0
def jQ:Value->Bool| .func (.yield n) _ _=>n==0|_=>false
def oM:Value->Bool| .func (.yield n) _ _=>n==1|_=>false
def l3:Value->Bool| .func (.yield _) _ _=>true|_=>false
def BR:Value->List (List Value)| .func _ bb _=>bb.toList.map anM|_=>[]
def xi:Value->Nat| .func _ _ mT=>aal mT.toList|_=>0
def L9:Value->List Value| .func _ bb _=>bb.toList|_=>[]
section
variable {bR xE:List (List Value)} {O mS k gN:Nat} {cq aNr:List Value}
@[simp] theorem aQA:anM (alg cq)=cq:=rfl
@[simp] theorem RN:jQ (bE bR O)=true:=rfl
@[simp] theorem aKo:jQ (fL cq k)=false:=rfl
@[simp] theorem aKn:oM (bE bR O)=false:=rfl
@[simp] theorem ayt:oM (fL cq k)=true:=rfl
@[simp] theorem aKu:l3 (bE bR O)=true:=rfl
@[simp] theorem aKt:l3 (fL cq k)=true:=rfl
@[simp] theorem OM:BR (bE bR O)=bR:=by simp[BR,bE,Function.comp_def]
@[simp] theorem aJA:xi (bE bR O)=O:=by simp[xi,bE,aal]
@[simp] theorem al3:L9 (fL cq k)=cq:=rfl
@[simp] theorem afO:xi (fL cq k)=k:=by simp[xi,fL,aal]
@[simp] theorem Wg:bE bR O=bE xE mS↔bR=xE/\O=mS:=
  ⟨λh=>⟨by have:=congrArg BR h;simpa using this,by have:=congrArg xi h;simpa using this⟩,λ⟨a,b⟩=>by rw[a,b]⟩
end
abbrev hj:=Nat->Option Nat
abbrev jA:=Nat->Option (List Value)
abbrev oW:hj:= λ_=>none
inductive cw(K:jA):hj->Value->Value->Prop
  |c0 {Y:hj} {v:Value} (h:fg v=true):cw K Y v v
  |bZ {Y:hj} {o b off:Nat} (h:Y o=some b):cw K Y (.pointer (some ⟨o,off,none⟩)) (.pointer (some ⟨b,off,none⟩))
  |slice {Y:hj} {o b off l O:Nat} (h:Y o=some b):cw K Y (.slice (some ⟨o,off,none⟩) l O) (.slice (some ⟨b,off,none⟩) l O)
  |tX {Y:hj} {o O:Nat}:cw K Y (.slice (some ⟨o,0,none⟩) 0 O) (.slice none 0 0)
  |map {Y:hj} {o b:Nat} (h:Y o=some b):cw K Y (.map (some o)) (.map (some b))
  |agg {Y:hj} {xs ys:Array Value} (J:xs.size=ys.size) (h: ∀(i:Nat) (x y:Value),xs[i]?=some x->ys[i]?=some y->cw K Y x y):cw K Y (.agg xs) (.agg ys)
  |tuple {Y:hj} {xs ys:Array Value} (J:xs.size=ys.size) (h: ∀(i:Nat) (x y:Value),xs[i]?=some x->ys[i]?=some y->cw K Y x y):cw K Y (.tuple xs) (.tuple ys)
  | func {Y:hj} {f:Nat} {xs ys cs b1:Array Value} (J:xs.size=ys.size) (h: ∀(i:Nat) (x y:Value),xs[i]?=some x->ys[i]?=some y->cw K Y x y)
      (mE:cs.size=b1.size) (D: ∀(i:Nat) (x y:Value),cs[i]?=some x->b1[i]?=some y->cw K Y x y):cw K Y (.func (.func f) xs cs) (.func (.func f) ys b1)
  |iface {Y:hj} {t:TypeId} {v bW:Value} (h:cw K Y v bW):cw K Y (.iface t v) (.iface t bW)
  | kd {Y:hj} {v:Value} {b off O:Nat} {cs:List Value} {bR:List (List Value)} (e:v=bE bR O) (de:K b=some cs) (aG:off+bR.length*O<=cs.length)
      (bY: ∀(i:Nat) r,bR[i]?=some r->r.length=O) (aB: ∀(i j:Nat) r x y,bR[i]?=some r->r[j]?=some x->cs[off+i*O+j]?=some y->cw K oW x y):cw K Y v (.slice (some ⟨b,off,none⟩) bR.length O)
  |ki {Y:hj} {v:Value} {O:Nat} (e:v=bE [] O):cw K Y v (.slice none 0 0)
  | fL {Y:hj} {v:Value} {b off k:Nat} {cs cq:List Value} (e:v=fL cq k) (de:K b=some cs) (aG:off+cq.length<=cs.length)
      (aB: ∀(j:Nat) x y,cq[j]?=some x->cs[off+j]?=some y->cw K oW x y):cw K Y v (.pointer (some ⟨b,off+k,none⟩))
def iv(Y ee:hj):Prop:= ∀o b,Y o=some b->ee o=some b
def kn(K dI:jA):Prop:= ∀b cs,K b=some cs->dI b=some cs
theorem iv.refl(Y:hj):iv Y Y:= λ_ _ h=>h
theorem iv.trans{a b c:hj}(h:iv a b)(ca:iv b c):iv a c:= λx l H=>ca x l (h x l H)
theorem iv.nil(Y:hj):iv oW Y:= λ_ _ h=>by cases h
theorem kn.refl(K:jA):kn K K:= λ_ _ h=>h
theorem kn.trans{a b c:jA}(h:kn a b)(ca:kn b c):kn a c:= λx l H=>ca x l (h x l H)
theorem cw.aD{K dI:jA}{Y ee:hj}{v bW:Value}(h:cw K Y v bW)(de:kn K dI)(bT:iv Y ee):cw dI ee v bW:=by
  induction h generalizing ee with
  |c0 h=>exact .c0 h
  |bZ h=>exact .bZ (bT _ _ h)
  |slice h=>exact .slice (bT _ _ h)
  |tX=>exact .tX
  |map h=>exact .map (bT _ _ h)
  |agg J _ cb=>exact .agg J λi x y a b=>cb i x y a b bT
  |tuple J _ cb=>exact .tuple J λi x y a b=>cb i x y a b bT
  |func J _ mE _ cb Wf=>exact .func J (λi x y a b=>cb i x y a b bT) mE λi x y a b=>Wf i x y a b bT
  |iface _ cb=>exact .iface (cb bT)
  |kd e z aG bY aB cb=>exact .kd e (de _ _ z) aG bY λi j r x y a b c=>cb i j r x y a b c (iv.refl _)
  |ki e=>exact .ki e
  |fL e z aG aB cb=>exact .fL e (de _ _ z) aG λj x y a b=>cb j x y a b (iv.refl _)
def b2(K:jA)(Y:hj)(xs ys:List Value):Prop:=xs.length=ys.length/\ ∀(i:Nat) (x y:Value),xs[i]?=some x->ys[i]?=some y->cw K Y x y
section
variable {K dI:jA} {Y ee:hj}
theorem b2.nil:b2 K Y [] []:=⟨rfl,by intro i x y h;simp at h⟩
theorem b2.cons{x y:Value}{xs ys:List Value}(h:cw K Y x y)(J:b2 K Y xs ys):b2 K Y (x::xs) (y::ys):=by
  refine⟨by simp[J.1],λi a b aE L=> ?_⟩;cases i with
  |zero=>simp at aE L;subst aE;subst L;exact h
  |succ i=>exact J.2 i a b (by simpa using aE) (by simpa using L)
theorem b2.aD{xs ys:List Value}(h:b2 K Y xs ys)(de:kn K dI)(bT:iv Y ee):b2 dI ee xs ys:=⟨h.1,λi x y H ah=>(h.2 i x y H ah).aD de bT⟩
theorem b2.agg{xs ys:List Value}(h:b2 K Y xs ys):cw K Y (.agg xs.toArray) (.agg ys.toArray):= .agg (by simpa using h.1) (by simpa using h.2)
theorem b2.tuple{xs ys:List Value}(h:b2 K Y xs ys):cw K Y (.tuple xs.toArray) (.tuple ys.toArray):= .tuple (by simpa using h.1) (by simpa using h.2)
theorem b2.th{a b c d:List Value}(h:b2 K Y a b)(ca:b2 K Y c d):b2 K Y (a++c) (b++d):=by
  refine⟨by simp[h.1,ca.1],λi x y H ah=> ?_⟩;rw[List.getElem?_append]at H ah;rw[<-h.1]at ah;split at H
  · rename_i aa;rw[if_pos aa]at ah;exact h.2 _ _ _ H ah
  · rename_i aa;rw[if_neg aa]at ah;exact ca.2 _ _ _ H ah
theorem b2.drop{a b:List Value}(h:b2 K Y a b)(n:Nat):b2 K Y (a.drop n) (b.drop n):=
  ⟨by simp[h.1],λi x y H ah=>h.2 (n+i) x y (by simpa using H) (by simpa using ah)⟩
theorem b2.take{a b:List Value}(h:b2 K Y a b)(n:Nat):b2 K Y (a.take n) (b.take n):=by
  refine⟨by simp[h.1],λi x y H ah=> ?_⟩;rw[List.getElem?_take]at H ah;split at H
  · rename_i aa;rw[if_pos aa]at ah;exact h.2 _ _ _ H ah
  · cases H
theorem b2.set{a b:List Value}(h:b2 K Y a b)(n:Nat){x y:Value}(X:cw K Y x y):b2 K Y (a.set n x) (b.set n y):=by
  refine⟨by simp[h.1],λi aJ v H ah=> ?_⟩;rw[List.getElem?_set]at H ah;rw[<-h.1]at ah;split at H
  · rename_i aa;rw[if_pos aa]at ah;split at H
    · rename_i D;rw[if_pos D]at ah;simp at H ah;subst H;subst ah;exact X
    · cases H
  · rename_i aa;rw[if_neg aa]at ah;exact h.2 _ _ _ H ah
theorem b2.kE: ∀{c2 fm:List Value} {a b:List Value} (off:Nat),b2 K Y a b->b2 K Y c2 fm->b2 K Y (kE a off c2) (kE b off fm)
  |[],[],_,_,_,h,_=>h
  |[],aJ::fm,_,_,_,_,D=>by simp[b2]at D
  |v::c2,[],_,_,_,_,D=>by simp[b2]at D
  | v::c2,aJ::fm,a,b,off,h,D=>by simp only[Go.DI.kE];exact b2.kE (off+1) (h.set off (D.2 0 v aJ rfl rfl)) ⟨by simpa using D.1,λi x y H ah=>D.2 (i+1) x y (by simpa using H) (by simpa using ah)⟩
theorem b2.M{a b:List Value}(h:b2 K Y a b){i:Nat}{x:Value}(H:a[i]?=some x): ∃y,b[i]?=some y/\cw K Y x y:=by have aa:i<a.length:=(List.getElem?_eq_some_iff.1 H).1;rw[h.1]at aa;exact⟨b[i],List.getElem?_eq_getElem aa,h.2 i x _ H (List.getElem?_eq_getElem aa)⟩
theorem b2.Hl{cK:Type}(f g:cK->Value): ∀(l:List cK),(∀x∈l,cw K Y (f x) (g x))->b2 K Y (l.map f) (l.map g)
  |[],_=>b2.nil
  |x::l,h=>b2.cons (h x (by simp)) (b2.Hl f g l λy ah=>h y (by simp[ah]))
theorem b2.c0{cs:List Value}(h:cs.all fg=true):b2 K Y cs cs:=by refine⟨rfl,λi x y H ah=> ?_⟩;rw[H]at ah;cases ah;exact .c0 (List.all_eq_true.1 h x (List.mem_of_getElem? H))
theorem b2.flatten{k:Nat}{cs:List Value}(h:b2 K Y cs cs):b2 K Y (List.replicate k cs).flatten (List.replicate k cs).flatten:=by
  induction k with
  |zero=>exact b2.nil
  |succ k cb=>rw[List.replicate_succ,List.flatten_cons];exact h.th cb
theorem cw.pb{v:Value}(h:pb v=true):cw K Y v v:=by
  unfold Go.DI.pb at h;split at h
  · rename_i cs;have:=b2.agg (K:=K) (Y:=Y) (b2.c0 h);simpa using this
  · rename_i cs;have:=b2.tuple (K:=K) (Y:=Y) (b2.c0 h);simpa using this
  · exact .c0 h
theorem cw.undef:cw K Y undef undef:=b2.tuple b2.nil
theorem cw.lo{v bW:Value}(h:cw K Y v bW)(aI:fg v=true):bW=v:=by
  cases h with
  |c0=>rfl
  |kd e=>subst e;simp[fg,bE]at aI
  |ki e=>subst e;simp[fg,bE]at aI
  |fL e=>subst e;simp[fg,DI.fL]at aI
  |_=>simp[fg]at aI
theorem cw.rg{k:IntKind}{n:Int}{v:Value}(h:cw K Y (.int k n) v):v= .int k n:=h.lo rfl
theorem cw.tJ{b:Bool}{v:Value}(h:cw K Y (.bool b) v):v= .bool b:=h.lo rfl
theorem cw.z0{b:ByteArray}{v:Value}(h:cw K Y (.string b) v):v= .string b:=h.lo rfl
theorem cw.vR{a:Addr}{v:Value}(h:cw K Y (.pointer (some a)) v): ∃b,Y a.block=some b/\a.spot=none/\v= .pointer (some ⟨b,a.off,none⟩):=by
  cases h with
  |c0 h=>simp[fg]at h
  |bZ h=>exact⟨_,h,rfl,rfl⟩
  |kd e=>simp[bE]at e
  |ki e=>simp[bE]at e
  |fL e=>simp[DI.fL]at e
theorem cw.r6{a:Addr}{l O:Nat}{v:Value}(h:cw K Y (.slice (some a) l O) v):(∃b,Y a.block=some b/\a.spot=none/\v= .slice (some ⟨b,a.off,none⟩) l O)\/(a.off=0/\a.spot=none/\l=0/\v= .slice none 0 0):=by
  cases h with
  |c0 h=>simp[fg]at h
  |slice h=>exact .inl ⟨_,h,rfl,rfl⟩
  |tX=>exact .inr ⟨rfl,rfl,rfl,rfl⟩
  |kd e=>simp[bE]at e
  |ki e=>simp[bE]at e
  |fL e=>simp[DI.fL]at e
theorem cw.vQ{xs:Array Value}{v:Value}(h:cw K Y (.agg xs) v): ∃ys,v= .agg ys/\b2 K Y xs.toList ys.toList:=by
  cases h with
  |c0 h=>simp[fg]at h
  |agg J h=>exact⟨_,rfl,by simpa using J,by simpa using h⟩
  |kd e=>simp[bE]at e
  |ki e=>simp[bE]at e
  |fL e=>simp[DI.fL]at e
theorem cw.Gj{xs:Array Value}{v:Value}(h:cw K Y (.tuple xs) v): ∃ys,v= .tuple ys/\b2 K Y xs.toList ys.toList:=by
  cases h with
  |c0 h=>simp[fg]at h
  |tuple J h=>exact⟨_,rfl,by simpa using J,by simpa using h⟩
  |kd e=>simp[bE]at e
  |ki e=>simp[bE]at e
  |fL e=>simp[DI.fL]at e
theorem cw.Gi{f:Nat}{xs cs:Array Value}{v:Value}(h:cw K Y (.func (.func f) xs cs) v): ∃ys b1,v= .func (.func f) ys b1/\b2 K Y xs.toList ys.toList/\b2 K Y cs.toList b1.toList:=by
  cases h with
  |c0 h=>simp[fg]at h
  |func J h mE D=>exact⟨_,_,rfl,⟨by simpa using J,by simpa using h⟩,by simpa using mE,by simpa using D⟩
  |kd e=>simp[bE]at e
  |ki e=>simp[bE]at e
  |fL e=>simp[DI.fL]at e
theorem cw.OO{t:TypeId}{x v:Value}(h:cw K Y (.iface t x) v): ∃y,v= .iface t y/\cw K Y x y:=by
  cases h with
  |c0 h=>simp[fg]at h
  |iface h=>exact⟨_,rfl,h⟩
  |kd e=>simp[bE]at e
  |ki e=>simp[bE]at e
  |fL e=>simp[DI.fL]at e
theorem cw.JY{o:Nat}{v:Value}(h:cw K Y (.map (some o)) v): ∃b,Y o=some b/\v= .map (some b):=by
  cases h with
  |c0 h=>simp[fg]at h
  |map h=>exact⟨_,h,rfl⟩
  |kd e=>simp[bE]at e
  |ki e=>simp[bE]at e
  |fL e=>simp[DI.fL]at e
theorem cw.afT{x v:Value}(h:cw K Y x v)(aa:jQ x=true): ∃bR O,x=bE bR O/\((bR=[]/\v= .slice none 0 0)\/ ∃b off cs,v= .slice (some ⟨b,off,none⟩) bR.length O/\K b=some cs/\off+bR.length*O<=cs.length/\
    (∀(i:Nat) r,bR[i]?=some r->r.length=O)/\(∀(i j:Nat) r x y,bR[i]?=some r->r[j]?=some x->cs[off+i*O+j]?=some y->cw K oW x y)):=by
  cases h with
  |c0 h=>cases x<;>simp_all [fg,jQ]
  |kd e z D Z aw=>exact⟨_,_,e,.inr ⟨_,_,_,rfl,z,D,Z,aw⟩⟩
  |ki e=>exact⟨_,_,e,.inl ⟨rfl,rfl⟩⟩
  |fL e=>subst e;simp at aa
  |_=>simp[jQ]at aa
theorem cw.afU{x v:Value}(h:cw K Y x v)(aa:oM x=true): ∃cq k b off cs,x=DI.fL cq k/\v= .pointer (some ⟨b,off+k,none⟩)/\K b=some cs/\off+cq.length<=cs.length/\
    (∀(j:Nat) x y,cq[j]?=some x->cs[off+j]?=some y->cw K oW x y):=by
  cases h with
  |c0 h=>cases x<;>simp_all [fg,oM]
  |fL e z D Z=>exact⟨_,_,_,_,_,e,rfl,z,D,Z⟩
  |kd e=>subst e;simp at aa
  |ki e=>subst e;simp at aa
  |_=>simp[oM]at aa
theorem cw.al{v bW:Value}(h:cw K Y v bW):b2 K Y (al v) (al bW):=by
  cases h with
  |agg J h=>exact⟨by simpa[DI.al]using J,by simpa[DI.al]using h⟩
  |c0 h=>cases v<;>simp[fg]at h<;>exact b2.cons (.c0 (by simp[fg,h])) b2.nil
  |bZ h=>exact b2.cons (.bZ h) b2.nil
  |slice h=>exact b2.cons (.slice h) b2.nil
  |tX=>exact b2.cons .tX b2.nil
  |tuple J h=>exact b2.cons (.tuple J h) b2.nil
  |func J h mE D=>exact b2.cons (.func J h mE D) b2.nil
  |iface h=>exact b2.cons (.iface h) b2.nil
  |map h=>exact b2.cons (.map h) b2.nil
  |kd e a b c d=>subst e;exact b2.cons (.kd rfl a b c d) b2.nil
  |ki e=>subst e;exact b2.cons (.ki rfl) b2.nil
  |fL e a b c=>subst e;exact b2.cons (.fL rfl a b c) b2.nil
theorem cw.ar{v bW:Value}(h:cw K Y v bW)(ak:ar v=true):ar bW=true:=by cases h<;>first|rfl|assumption|(simp[DI.ar]at ak)
theorem cw.ao{v bW:Value}(h:cw K Y v bW)(ak:ao v=true):ao bW=true:=by cases h<;>first|rfl|assumption|(simp[DI.ao]at ak)
end
def tg(m:B)(v:Value)(n:Nat):Bool:=if oM v then decide (xi v+n<=(L9 v).length)else gZ m v n
def Cc(m:B)(ep:Bool)(n:Nat)(v:Value):Value:=
  if oM v then(if ep then .agg (((L9 v).drop (xi v)).take n).toArray else(((L9 v).drop (xi v)).take 1).headD undef)else lq m ep n v
def sj(v:Value):Bool:=oM v||s5 v
def yT(v:Value)(n:Nat):Value:=if oM v then fL (L9 v) (xi v+n)else yS v n
def B8(v:Value):Bool:=jQ v||yy v
def l7(v:Value):Int:=if jQ v then((BR v).length:Nat)else ic v
def nJ(v:Value):Nat:=if jQ v then(BR v).length else hA v
def nt(O:Nat)(v:Value):Bool:=if jQ v then xi v==O else kA O v
def ve(v:Value)(O l h:Nat):Value:=if jQ v then bE (((BR v).take h).drop l) O else n8 v O l h
def Cy(v:Value)(O:Nat)(i:Int):Value:=if jQ v then fL ((BR v).getD i.toNat []) 0 else mP v O i
def qb(m:B)(O:Nat)(v:Value):Bool:=if jQ v then xi v==O else ik m O v
def tj(m:B)(O:Nat)(v:Value):List Value:=if jQ v then(BR v).flatten else hO m O v
def oc(v:Value):Bool:= !l3 v&&(match v with| .slice (some _) l _=>l !=0|_=>true)
def av.lu(k:av)(u:aL)(m:B):Bool:=
  match k with
  | .fj ep n x=>tg m (ab u x) n&&(ep||decide (n=1))
  | .gz op c x y=>oc (ab u x)&&oc (ab u y)&&uj op c (ab u x) (ab u y)
  | .qk x=>qb m 1 (ab u x)&&(tj m 1 (ab u x)).all Hb
  | .pv O x cZ aa=>nt O (ab u x)&&p5 u cZ&&p5 u aa&&decide (0<=hJ u cZ 0)&&decide (hJ u cZ 0<=hJ u aa (l7 (ab u x)))&&decide (hJ u aa (l7 (ab u x))<=l7 (ab u x))
  | .wq O x cZ aa fC=>nt O (ab u x)&&p5 u cZ&&fU (ab u aa)&&fU (ab u fC)&&decide (0<=hJ u cZ 0)&&decide (hJ u cZ 0<=gd (ab u aa))&&decide (gd (ab u aa)<=gd (ab u fC))&&decide (gd (ab u fC)<=l7 (ab u x))
  | .ur _ x=>sj (ab u x)
  | .pg O x i=>nt O (ab u x)&&fU (ab u i)&&decide (0<=gd (ab u i))&&decide (gd (ab u i)<l7 (ab u x))
  | .ph _ len x i=>sj (ab u x)&&fU (ab u i)&&decide (0<=gd (ab u i))&&decide (gd (ab u i)<(len:Int))
  | .uX x=>B8 (ab u x)
  | .app O bytes x y=>ik m O (ab u x)&&nK m (ab u x)&&qb m O (ab u y)&&decide (0<O)&&decide ((hA (ab u x)+nJ (ab u y))*bytes<=140737488355328)&&decide (hA (ab u x)+nJ (ab u y)<=9223372036854775807)
  | .tP fn _ _=>(match fn with| .func _=>true|_=>false)
  |k=>k.ok u m
def av.lE(k:av)(id:Nat)(u:aL)(m:B):Value:=
  match k with
  | .fj ep n x=>Cc m ep n (ab u x)
  | .qk x=> .string (toBytes (tj m 1 (ab u x)))
  | .pv O x cZ aa=>ve (ab u x) O (hJ u cZ 0).toNat (hJ u aa (l7 (ab u x))).toNat
  | .wq O x cZ aa _=>ve (ab u x) O (hJ u cZ 0).toNat (gd (ab u aa)).toNat
  | .ur off x=>yT (ab u x) off
  | .pg O x i=>Cy (ab u x) O (gd (ab u i))
  | .ph O _ x i=>yT (ab u x) ((gd (ab u i)).toNat*O)
  | .uX x=> .int .i64 (l7 (ab u x))
  | .app O _ x y=>if nJ (ab u y)=0 then ab u x else .slice (some ⟨id,0,none⟩) (hA (ab u x)+nJ (ab u y)) O
  |k=>k.val id u m
def av.yK(k:av)(id:Nat)(u:aL)(m:B):B:=
  match k with
  | .app O _ x y=>if nJ (ab u y)=0 then m else(n0 m (ab u x)).au id (some ⟨hO m O (ab u x)++tj m O (ab u y),true⟩)
  |k=>k.kk id u m
def HC(m:B)(o:Nat):Bool:=match m.M o with|some x=>x.own|none=>false
def Ir(m:B)(v:Value):Bool:=match ai v with|some o=>HC m o|none=>true
def M6(m:B)(a b:Value):Bool:=
  if l3 a then !l3 b&&Ir m b else if l3 b then Ir m a else match ai a,ai b with
    |some a,some b=>a !=b
    |_,_=>true
def lg(u:aL)(m:B)(bx:List (Operand×Operand)):Bool:=bx.all λ(x,y)=>M6 m (ab u x) (ab u y)
def yB(u:aL)(m:B)(bx:List (Operand×Operand)):Bool:=bx.all λp=>match ai (ab u p.1)with|some o=> !HC m o|none=>true
def EI(k:av):Bool:=k.iY.all dZ&&(match k with
  | .eR O| .gT O _| .iT _ _ O _| .nk _ _ O _ _=>O.all fg
  | .pY _ O _ _ _=>fg O
  |_=>true)
def aan(o:b6):Bool:=EI o.k&&o.bx.all λp=>dZ p.1&&dZ p.2
def wb:U->Bool
  | .I ops=>ops.all aan&&AD (ops.map (·.bc))&&ops.all λo=>decide (o.bc<ops.length)
  | .E a b=>wb a&&wb b
  | .bj c a b=>dZ c&&wb a&&wb b
  | .block _ c=>wb c
  | .loop c=>wb c
  |_=>true
def sv(K:jA)(Y:hj)(bg ei:List (Value×Value)):Prop:=bg.length=ei.length/\ ∀(i:Nat) e eW,bg[i]?=some e->ei[i]?=some eW->cw K Y e.1 eW.1/\cw K Y e.2 eW.2
theorem sv.aD{K dI:jA}{Y ee:hj}{bg ei:List (Value×Value)}(h:sv K Y bg ei)(de:kn K dI)(bT:iv Y ee):sv dI ee bg ei:=⟨h.1,λi e eW a b=>⟨(h.2 i e eW a b).1.aD de bT,(h.2 i e eW a b).2.aD de bT⟩⟩
structure gM(Y:hj)(K:jA)(t m:B):Prop where
  m7: ∀o x,t.M o=some x->(∃b cs w,Y o=some b/\m.M b=some ⟨cs,w⟩/\(x.own=true->w=true)/\b2 K Y x.cells cs)\/(Y o=none/\x.cells=[])
  kz: ∀o bg,t.c6 o=some bg-> ∃b ei,Y o=some b/\m.c6 b=some ei/\sv K Y bg ei
  nm: ∀o,Y o=none->t.mp o=none
  inj: ∀o o' b,Y o=some b->Y o'=some b->o=o'
  cW: ∀o b,Y o=some b->o<t.next/\b<m.next
  bw: ∀b cs,K b=some cs->(∃w,m.M b=some ⟨cs,w⟩)/\ ∀o x,Y o=some b->t.M o=some x->x.own=false
def MY(Y:hj)(t:B)(b:Nat):Prop:= ∃o x,Y o=some b/\t.M o=some x/\x.own=true
def H6(Y:hj)(t:B)(b:Nat):Prop:= ∃o x,Y o=some b/\t.M o=some x
structure a6(iH ir:Nat)(Y:hj)(K:jA)(t m:B)(ee:hj)(dI:jA)(aN N:B):Prop where
  e:iv Y ee
  f:kn K dI
  nf: ∀o b,ee o=some b->Y o=some b\/(iH<=o/\ir<=b)
  fn: ∀b cs,dI b=some cs->K b=some cs\/ir<=b\/H6 Y t b
  n9:t.next<=aN.next
  oT:m.next<=N.next
  sd: ∀b,b<ir-> ¬MY Y t b->N.M b=m.M b
  ss: ∀b,b<ir->MY ee aN b->MY Y t b
  rI: ∀b,b<ir->H6 ee aN b->H6 Y t b
theorem a6.refl{iH ir:Nat}{Y:hj}{K:jA}{t m:B}:a6 iH ir Y K t m Y K t m:=
  ⟨iv.refl _,kn.refl _,λ_ _ h=> .inl h,λ_ _ h=> .inl h,Nat.le_refl _,Nat.le_refl _,λ_ _ _=>rfl,λ_ _ h=>h,λ_ _ h=>h⟩
theorem a6.trans{iH ir:Nat}{Y ft me:hj}{K gR lR:jA}{t ec iG m bz b4:B}(h:a6 iH ir Y K t m ft gR ec bz)(ca:a6 iH ir ft gR ec bz me lR iG b4):a6 iH ir Y K t m me lR iG b4 where
  e:=h.e.trans ca.e
  f:=h.f.trans ca.f
  nf o b L:=(ca.nf o b L).elim (λz=>h.nf o b z) .inr
  fn b cs L:=by
    rcases ca.fn b cs L with z|z|z
    · exact h.fn b cs z
    · exact .inr (.inl z)
    · by_cases D:b<ir
      · exact .inr (.inr (h.rI b D z))
      · exact .inr (.inl (by omega))
  n9:=Nat.le_trans h.n9 ca.n9
  oT:=Nat.le_trans h.oT ca.oT
  sd b L aO:=by rw[ca.sd b L (λw=>aO (h.ss b L w)),h.sd b L aO]
  ss b L aO:=h.ss b L (ca.ss b L aO)
  rI b L aO:=h.rI b L (ca.rI b L aO)
theorem a6.Fc{iH ir anz alk:Nat}{Y ee:hj}{K dI:jA}{t aN m N:B}(h:a6 iH ir Y K t m ee dI aN N)(bH:anz<=iH)(aK:alk<=ir):a6 anz alk Y K t m ee dI aN N where
  e:=h.e
  f:=h.f
  nf o b L:=(h.nf o b L).imp_right λ⟨a,b⟩=>⟨by omega,by omega⟩
  fn b cs L:=by
    rcases h.fn b cs L with z|z|z
    · exact .inl z
    · exact .inr (.inl (by omega))
    · exact .inr (.inr z)
  n9:=h.n9
  oT:=h.oT
  sd b L aO:=h.sd b (by omega) aO
  ss b L aO:=h.ss b (by omega) aO
  rI b L aO:=h.rI b (by omega) aO
def jB(K:jA)(Y:hj)(u ag:aL):Prop:= ∀t,cw K Y (u t) (ag t)
section
variable {K dI:jA} {Y ee:hj} {u ag:aL} {t m:B}
theorem jB.aD(h:jB K Y u ag)(de:kn K dI)(bT:iv Y ee):jB dI ee u ag:= λt=>(h t).aD de bT
theorem jB.ab(h:jB K Y u ag){x:Operand}(H:dZ x=true):cw K Y (ab u x) (ab ag x):=by
  cases x with
  |tmp t=>exact h t
  |const v=>exact cw.pb H
  |func f=>exact .func rfl (by intro i x y h;simp at h) rfl (by intro i x y h;simp at h)
  |global g=>simp[dZ]at H
theorem jB.au(h:jB K Y u ag){d:Option Nat}{v bW:Value}(X:cw K Y v bW):jB K Y (dA u d v) (dA ag d bW):=by
  cases d with
  |none=>exact h
  | some d=>
    intro t;simp only[dA,qc];by_cases e:t=d
    · simp only[e,if_true];exact X
    · simp only[e,if_false];exact h t
theorem jB.NC(h:jB K Y u ag){l:List Operand}(aG:l.all dZ=true):b2 K Y (l.map (Go.DI.ab u)) (l.map (Go.DI.ab ag)):=
  b2.Hl _ _ _ λx H=>h.ab (List.all_eq_true.1 aG x H)
theorem jB.init{as lY:List Value}(h:b2 K Y as lY):jB K Y (eu as) (eu lY):= λt=>by
  simp only[eu,List.getD_eq_getElem?_getD];cases aE:as[t]? with
  | none=>rw[List.getElem?_eq_none (by rw[<-h.1];exact List.getElem?_eq_none_iff.1 aE)];exact cw.undef
  |some x=>obtain⟨y,ah,X⟩:=h.M aE;rw[ah];exact X
theorem akr{v bW:Value}(h:cw K Y v bW)(L:vT v=true):bW=v:=by cases v<;>simp[vT]at L;exact h.tJ
theorem tL{v bW:Value}(h:cw K Y v bW)(L:fU v=true):bW=v:=by cases v<;>simp[fU]at L;exact h.rg
theorem Ep{v bW:Value}(h:cw K Y v bW)(L:nh v=true):bW=v:=by cases v<;>simp[nh]at L;exact h.z0
theorem aDU(h:jB K Y u ag)(g:Option (Nat×Bool)):fN ag g=fN u g:=by
  cases g with
  |none=>rfl
  | some g=>
    obtain⟨j,b⟩:=g;have X:=h j;simp only[fN];generalize u j=v at X;generalize ag j=bW at X;cases X with
    |c0 h=>rfl
    |kd e=>subst e;rfl
    |ki e=>subst e;rfl
    |fL e=>subst e;rfl
    |_=>rfl
end
end Go.DI
