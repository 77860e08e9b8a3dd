/-
  A part of the proof of the statement, in texts that tools of ours (wip/shrink.py, irpack.py, relax.py, minify.py, join.py, lay.py) have shortened.
-/
import Derived.Test.YtkpifdkccdndcaaGreatZah
set_option linter.all false
set_option maxRecDepth 8000
set_option maxHeartbeats 16000000
namespace Go.Big
theorem Dt{l:List Int}{i n:Nat}(h:i<n):ay (l.take n) i=ay l i:=by unfold ay;simp only[List.getD_eq_getElem?_getD,List.getElem?_take,if_pos h]
theorem FK{l:List Int}{i n:Nat}:ay (l.drop n) i=ay l (n+i):=by unfold ay;simp only[List.getD_eq_getElem?_getD,List.getElem?_drop]
theorem anB{v:List Int}{n:Nat}(aG:v.length=n+2):val v=(ay v (n+1)*4294967296+ay v n)*aZ n+val (v.take n):=by
  have z:=AY v n (by omega);have D:=rP v n;have Z:=rP v (n+1);have aw:val (v.drop (n+1+1))=0:=by rw[List.drop_of_length_le (by omega)];rfl
  rw[aw]at Z
  grind
theorem aDk{aJ:List Int}{n:Nat}(aG:aJ.length=n+3):val aJ=((ay aJ (n+2)*4294967296+ay aJ (n+1))*4294967296+ay aJ n)*aZ n+val (aJ.take n):=by
  have z:=AY aJ n (by omega);have D:=rP aJ n;have Z:=rP aJ (n+1);have aw:=rP aJ (n+1+1);have aX:val (aJ.drop (n+1+1+1))=0:=by rw[List.drop_of_length_le (by omega)];rfl
  rw[aX]at aw
  grind
structure pA(cf cr:Int)(n:Nat)(aJ q:List Int)(j:Nat):Prop where
  p4:dx aJ
  aao:dx q
  len:aJ.length=q.length+n
  aa: ∀i x,j+n<=i->aJ[i]?=some x->x=0
  low:val ((aJ.drop j).take n)<cr
  eq:cf=val (q.drop j)*aZ j*cr+val aJ
theorem aDe(l:List Int)(n:Nat):val (l.take (n+1))=ay l 0+4294967296*val ((l.drop 1).take n):=by
  cases l with
  |nil=>simp[ay,val]
  |cons x l=>simp[ay,val]
theorem pA.ab4{cf cr:Int}{n:Nat}{aJ q:List Int}{j:Nat}(h:pA cf cr n aJ q (j+1)):0<=val ((aJ.drop j).take (n+1))/\val ((aJ.drop j).take (n+1))<cr*4294967296:=by have z:=aDe (aJ.drop j) n;rw[FK,List.drop_drop]at z;simp only[Nat.add_zero]at z;have D:=hX h.p4 j;have Z:=h.low;have aw:=(il ((h.p4.drop (j+1)).take n)).1;have aX:=(il ((h.p4.drop j).take (n+1))).1;omega
theorem pA.step{cf cr:Int}{n:Nat}{aJ q:List Int}{j:Nat}(h:pA cf cr n aJ q (j+1))(cp:j<q.length){w:List Int}(V0:w.length=n+1)(aO:dx w){g:Int}(aj:0<=g/\g<4294967296)(auO:val w=val ((aJ.drop j).take (n+1))-g*cr)(aJs:val w<cr)(FQ:cr<=aZ n):
    pA cf cr n (aJ.take j++w++aJ.drop (j+n+1)) (q.set j g) j:=by
  have aG:=h.len;have mF:(aJ.take j).length=j:=by simp;omega
  have sN:ay w n=0:=by
    have z:=o0 w n;rw[List.take_of_length_le (by omega)]at z;have D:=(il (aO.take n)).1;have Z:=hX aO n;have aw:=k8 n;by_cases bB:ay w n=0
    · exact bB
    · have:aZ n*1<=aZ n*ay w n:=Int.mul_le_mul_of_nonneg_left (by omega) (by omega);omega
  refine⟨(h.p4.take j).app aO|>.app (h.p4.drop _),h.aao.set j aj,by simp;omega,λi x aa H=> ?_,?_,?_⟩
  · by_cases z:i<j+n+1
    · obtain rfl:i=j+n:=(by omega);rw[List.getElem?_append_left (by simp;omega),List.getElem?_append_right (by omega),mF]at H;rw[show j+n-j=n by omega]at H;rw[lU H]at sN;exact sN
    · rw[List.getElem?_append_right (by simp;omega)]at H;rw[List.getElem?_drop]at H;refine h.aa _ x (by simp;omega) H
  · have e:((aJ.take j++w++aJ.drop (j+n+1)).drop j).take n=w.take n:=by
      rw[List.append_assoc,List.drop_append,List.drop_of_length_le (by omega),mF];simp only[List.nil_append,Nat.sub_self,List.drop_zero];rw[List.take_append_of_le_length (by omega)]
    rw[e];have z:=o0 w n;rw[List.take_of_length_le (l:=w) (by omega),sN]at z;simp at z;omega
  · have bk:=AY aJ j (by omega);have xd:=ub ((aJ.drop j).take (n+1)) ((aJ.drop j).drop (n+1));rw[List.take_append_drop,List.drop_drop]at xd;have gH:((aJ.drop j).take (n+1)).length=n+1:=(by simp;omega);rw[gH]at xd;have zV:=ub (aJ.take j++w) (aJ.drop (j+n+1));have qy:=ub (aJ.take j) w;rw[mF]at qy;have VU:(aJ.take j++w).length=j+(n+1):=(by rw[List.length_append,mF,V0]);rw[VU]at zV;have bt:=rP (q.set j g) j;have arC:(q.set j g).drop (j+1)=q.drop (j+1):=List.drop_set_of_lt (by omega);rw[lU (l:=q.set j g) (x:=g) (by simp[cp]),arC]at bt;have aU:=h.eq;have aq:=AH j (n+1);have auo:aZ (j+1)=4294967296*aZ j:=rfl;rw[show j+n+1=j+(n+1) by omega]at zV;rw[show j+n+1=j+(n+1) by omega,zV,qy,auO,aq,bt,aU,bk,xd,auo];generalize val (aJ.take j)=cN;generalize val ((aJ.drop j).take (n+1))=di;generalize val (aJ.drop (j+(n+1)))=e2;generalize val (q.drop (j+1))=hV;generalize aZ j=dK;generalize aZ (n+1)=eO
    grind
theorem pA.done{cf cr:Int}{n:Nat}{aJ q:List Int}(h:pA cf cr n aJ q 0)(kr:0<cr):cf/cr=val q/\cf%cr=val (aJ.take n)/\val aJ=val (aJ.take n):=by
  have z:=h.eq;have D:=h.low;rw[List.drop_zero]at z D;have Z:=AY aJ n (by have:=h.len;omega);have aw:val (aJ.drop n)=0:=acb λi x H=>by rw[List.getElem?_drop]at H;exact h.aa _ x (by omega) H
  rw[aw]at Z;have aX:=(il (h.p4.take n)).1;have cC:cf=val q*cr+val (aJ.take n):=by simp only[aZ]at z;rw[z];grind
  obtain⟨aC,a2⟩:=Df cC aX D;exact⟨aC,a2,by omega⟩
theorem adq{r aJ:List Int}{i:Nat}{G aV:Int}(dB:0<G)(pK:G*aV=4294967296)(h:G*val (r.take i)=val (aJ.take i)-ay aJ 0%G+(ay aJ i%G)*aZ i)(aa:i<r.length)(bk:dx aJ):
    G*val ((r.set i (((ay aJ (i+1)*4294967296+ay aJ i)/G)%4294967296)).take (i+1))=val (aJ.take (i+1))-ay aJ 0%G+(ay aJ (i+1)%G)*aZ (i+1):=by
  rw[y1 _ aa,o0 aJ];have lJ:0<aV:=by
    by_cases h:0<aV
    · exact h
    · have:G*aV<=0:=Int.mul_nonpos_of_nonneg_of_nonpos (by omega) (by omega);omega
  have dt:=hX bk i;have dJ:=hX bk (i+1);have aM:=vg (t:=ay aJ i) (bu:=G) dB;have a1:=vg (t:=ay aJ (i+1)) (bu:=G) dB;have bz:=Int.emod_nonneg (ay aJ i) (show G≠0 by omega);have b4:=Int.emod_lt_of_pos (ay aJ i) dB;have gI:=Int.emod_nonneg (ay aJ (i+1)) (show G≠0 by omega);have h0:=Int.emod_lt_of_pos (ay aJ (i+1)) dB;have jC:0<=ay aJ i/G:=Int.ediv_nonneg (by omega) (by omega)
  -- lX aML
  have bm:(ay aJ (i+1)*4294967296+ay aJ i)/G=ay aJ (i+1)*aV+ay aJ i/G:=by have:ay aJ (i+1)*4294967296+ay aJ i=(ay aJ (i+1)*aV+ay aJ i/G)*G+ay aJ i%G:=(by rw[<-pK];grind);exact(Df this bz b4).1
  have aR:ay aJ i/G<aV:=by
    by_cases ml:ay aJ i/G<aV
    · exact ml
    · have:G*aV<=G*(ay aJ i/G):=Int.mul_le_mul_of_nonneg_left (by omega) (by omega);omega
  have bU:(ay aJ (i+1)*aV+ay aJ i/G)%4294967296=(ay aJ (i+1)%G)*aV+ay aJ i/G:=by have cI:ay aJ (i+1)*aV+ay aJ i/G=(ay aJ (i+1)/G)*4294967296+((ay aJ (i+1)%G)*aV+ay aJ i/G):=(by rw[<-pK];grind);have fM:0<=(ay aJ (i+1)%G)*aV:=Int.mul_nonneg gI (by omega);have dg:(ay aJ (i+1)%G)*aV+aV<=G*aV:=(by have:=Int.mul_le_mul_of_nonneg_right (show ay aJ (i+1)%G+1<=G by omega) (show 0<=aV by omega);rw[Int.add_mul,Int.one_mul]at this;exact this);exact(Df cI (by omega) (by omega)).2
  rw[bm,bU];simp only[aZ]
  grind
def bG(n:Int):List Int:=if h:n<=0 then[]else(n%4294967296)::bG (n/4294967296)
termination_by n.toNat
decreasing_by omega
theorem rO{n:Int}(h:n<=0):bG n=[]:=by rw[bG];simp[h]
theorem Uc{n:Int}(h:0<n):bG n=(n%4294967296)::bG (n/4294967296):=by rw[bG];simp;omega
theorem kS.tail{x:Int}{l:List Int}(h:kS (x::l)):kS l/\0<x+4294967296*val l:=by
  have z:=h.2;have H:=h.1 x (by simp);have Z:=(il h.1.tail).1;simp only[cJ,List.length_cons]at z;by_cases bB:cJ l=0
  · rw[if_pos bB]at z;split at z
    · omega
    · exact⟨⟨h.1.tail,by omega⟩,by omega⟩
  · rw[if_neg bB]at z;have aB:kS l:=⟨h.1.tail,by omega⟩;obtain⟨n,ak⟩: ∃n,l.length=n+1:=⟨l.length-1,by omega⟩;have:=aB.cZ ak;have:=k8 n;exact⟨aB,by omega⟩
theorem adl: ∀{l:List Int},kS l->bG (val l)=l
  |[],_=>rO (by simp[val])
  | x::l,h=>by obtain⟨z,D⟩:=h.tail;have H:=h.1 x (by simp);rw[Uc (by simp only[val];omega)];have aM:val (x::l)%4294967296=x:=(by simp only[val];omega);have a1:val (x::l)/4294967296=val l:=(by simp only[val];omega);rw[aM,a1,adl z]
theorem De: ∀(k:Nat) (n:Int),n.toNat<=k->0<=n->kS (bG n)/\val (bG n)=n
  |0,n,h,bB=>by rw[rO (by omega)];exact⟨kS.nil,by simp[val];omega⟩
  | k+1,n,h,bB=>by
    by_cases ak:n<=0
    · rw[rO ak];exact⟨kS.nil,by simp[val];omega⟩
    · obtain⟨aC,a2⟩:=De k (n/4294967296) (by omega) (by omega);rw[Uc (by omega)];refine⟨⟨?_,?_⟩,by simp only[val,a2];omega⟩
      · intro x H;rcases List.mem_cons.1 H with rfl|H
        · omega
        · exact aC.1 x H
      · simp only[cJ,List.length_cons,aC.2];by_cases ml:(bG (n/4294967296)).length=0
        · have:bG (n/4294967296)=[]:=List.length_eq_zero_iff.1 ml;rw[this]at a2;simp only[val]at a2;rw[if_pos ml,if_neg (by omega),ml]
        · rw[if_neg ml]
theorem oE(n:Int):kS (bG n):=by
  by_cases h:0<=n
  · exact(De _ n (Nat.le_refl _) h).1
  · rw[rO (by omega)];exact kS.nil
theorem iB{n:Int}(h:0<=n):val (bG n)=n:=(De _ n (Nat.le_refl _) h).2
theorem ant{l:List Int}(h:dx l):l.take (cJ l)=bG (val l):=by rw[<-HX l,adl (ac0 h)]
theorem tS{l:List Int}(h:dx l):(bG (val l)).length=cJ l:=by rw[<-ant h,List.length_take,Nat.min_eq_left (kN l)]
theorem Mc{a b:Nat}(h:a<=b):aZ a<=aZ b:=by obtain⟨c,rfl⟩:=Nat.exists_eq_add_of_le h;rw[AH];have z:=k8 a;have D:=k8 c;have:aZ a*1<=aZ a*aZ c:=Int.mul_le_mul_of_nonneg_left (by omega) (by omega);omega
theorem aca{l:List Int}(h:dx l):val l<aZ (cJ l):=by have z:=il (h.take (cJ l));rw[HX,List.length_take,Nat.min_eq_left (kN l)]at z;exact z.2
theorem anV{l:List Int}(h:dx l){n:Nat}(ak:cJ l=n+1):aZ n<=val l:=by
  have:=(ac0 h).cZ (n:=n) (by rw[List.length_take,Nat.min_eq_left (kN l),ak])
  rwa [HX]at this
theorem AA{l:List Int}(h:dx l)(n:Nat):cJ l<=n↔val l<aZ n:=by
  constructor
  · intro z;have:=aca h;have:=Mc z;omega
  · intro z;by_cases D:cJ l<=n
    · exact D
    · have:=anV h (n:=cJ l-1) (by omega);have:=Mc (show n<=cJ l-1 by omega);omega
theorem S7{a b:List Int}(aE:dx a)(L:dx b)(h:cJ a<cJ b):val a<val b:=by have z:=aca aE;have D:=anV L (n:=cJ b-1) (by omega);have Z:=Mc (show cJ a<=cJ b-1 by omega);omega
def h8(a b:Int):Int:=if a<b then-1 else if b<a then 1 else 0
theorem adr(l:List Int):val (l.drop (cJ l))=0:=acb λi x H=>by rw[List.getElem?_drop]at H;exact LX (by omega) H
theorem Np{a b:List Int}(aE:dx a)(L:dx b){i:Nat}(h:val (a.drop (i+1))=val (b.drop (i+1)))(aa:ay a i<ay b i)(r3:i<=a.length)(tA:i<=b.length):val a<val b:=by have z:=AY a i r3;have D:=AY b i tA;have Z:=rP a i;have aw:=rP b i;have aX:=il (aE.take i);have cC:=il (L.take i);have gn:aZ (a.take i).length<=aZ i:=Mc (by simp;omega);have iP:aZ i*(val (a.drop i)+1)<=aZ i*val (b.drop i):=Int.mul_le_mul_of_nonneg_left (by omega) (by have:=k8 i;omega);rw[Int.mul_add]at iP;omega
end Go.Big
namespace Go.Proofs.YtkpifdkccdndcaaGreat
open Go Go.DI Go.Big
abbrev bZ(b:Nat):Value:= .pointer (some ⟨b,0,none⟩)
abbrev S(n:Int):Value:= .int .i64 n
abbrev cT(n:Int):Value:= .int .u32 n
abbrev br(n:Int):Value:= .int .u64 n
structure a0(m N:B):Prop where
  next:m.next<=N.next
  M: ∀b,b<m.next->N.M b=m.M b
theorem a0.refl(m:B):a0 m m:=⟨Nat.le_refl _,λ_ _=>rfl⟩
theorem a0.trans{a b c:B}(h:a0 a b)(ca:a0 b c):a0 a c:=⟨Nat.le_trans h.next ca.next,λx H=>by rw[ca.M x (Nat.lt_of_lt_of_le H h.next),h.M x H]⟩
theorem a0.some{m N:B}(h:a0 m N){b:Nat}{x:fO}(L:m.M b=some x):N.M b= .some x:=by rw[h.M b (aT L),L]
theorem a0.bs{m N:B}(h:a0 m N)(k:Nat):a0 m (N.bs k):=⟨by have:=h.next;simp only[ad];omega,λb L=>by have:=h.next;rw[gr (by omega),h.M b L]⟩
theorem a0.au{m N:B}(h:a0 m N){i:Nat}{x:Option fO}(aa:m.next<=i):a0 m (N.au i x):=⟨h.next,λb L=>by rw[dv (by omega),h.M b L]⟩
theorem ks{l:List Value}{k:Nat}:(List.take 1 (List.drop k l)).head?=l[k]?:=by
  cases h:l.drop k with
  |nil=>rw[List.drop_eq_nil_iff]at h;rw[List.getElem?_eq_none h];rfl
  |cons x xs=>simp;rw[<-List.head?_drop,h];rfl
def bC(m:B)(v:Value)(l:List Int):Prop:=dx l/\((v= .slice none 0 0/\l=[])\/ ∃b o cs w,v= .slice (some ⟨b,o,none⟩) l.length 1/\m.M b=some ⟨cs,w⟩/\(cs.drop o).take l.length=l.map cT/\o+l.length<=cs.length)
section
variable {m N:B} {v:Value} {l:List Int}
theorem bC.aD(h:bC m v l)(an:a0 m N):bC N v l:=by
  obtain⟨W,h|⟨b,o,cs,w,z,D,Z,aw⟩⟩:=h
  · exact⟨W,.inl h⟩
  · exact⟨W,.inr ⟨b,o,cs,w,z,an.some D,Z,aw⟩⟩
theorem bC.nil:bC m (.slice none 0 0) []:=⟨by simp[dx],.inl ⟨rfl,rfl⟩⟩
theorem bC.mk{b:Nat}{w:Bool}(W:dx l)(h:m.M b=some ⟨l.map cT,w⟩):bC m (.slice (some ⟨b,0,none⟩) l.length 1) l:=⟨W,.inr ⟨b,0,_,w,rfl,h,by rw[List.drop_zero,List.take_of_length_le (by simp)],by simp⟩⟩
theorem bC.se{b n:Nat}{w:Bool}(W:dx l)(h:m.M b=some ⟨l.map cT,w⟩)(ak:n=l.length):bC m (.slice (some ⟨b,0,none⟩) n 1) l:=by subst ak;exact bC.mk W h
theorem bC.len(h:bC m v l):ic v=l.length/\yy v=true/\kA 1 v=true/\hA v=l.length:=by obtain⟨W,⟨rfl,rfl⟩|⟨b,o,cs,w,rfl,_⟩⟩:=h<;>exact⟨rfl,rfl,rfl,rfl⟩
theorem bC.pC(h:bC m v l){i:Nat}(aa:i<l.length):gZ m (mP v 1 (i:Int)) 1=true/\lq m false 1 (mP v 1 (i:Int))=cT (ay l i):=by
  obtain⟨W,⟨rfl,rfl⟩|⟨b,o,cs,w,rfl,D,Z,aw⟩⟩:=h
  · simp at aa
  · have aX:cs[o+i]?=some (cT (ay l i)):=by
      have:((cs.drop o).take l.length)[i]?=(l.map cT)[i]?:=(by rw[Z]);rw[List.getElem?_take,if_pos aa,List.getElem?_drop,List.getElem?_map,List.getElem?_eq_getElem aa]at this;rw[this,lU (List.getElem?_eq_getElem aa)];rfl
    have cC:o+i<cs.length:=(by omega);refine⟨by simp[mP,D];omega,?_⟩;simp[mP,D,ks,aX]
theorem bC.j7(h:bC m v l){i:Nat}(aa:i<l.length):gZ m (mP v 1 (i:Int)) 1=true:=(h.pC aa).1
theorem bC.fj(h:bC m v l){i:Nat}(aa:i<l.length):lq m false 1 (mP v 1 (i:Int))=cT (ay l i):=(h.pC aa).2
theorem bC.sub(h:bC m v l){k n:Nat}(W:k<=n)(ak:n<=l.length):bC m (n8 v 1 k n) ((l.take n).drop k):=by
  obtain⟨an,⟨rfl,rfl⟩|⟨b,o,cs,w,rfl,D,Z,aw⟩⟩:=h
  · exact⟨(an.take n).drop k,.inl ⟨rfl,by simp⟩⟩
  · refine⟨(an.take n).drop k,.inr ⟨b,o+k*1,cs,w,?_,D,?_,?_⟩⟩
    · simp only[n8,List.length_drop,List.length_take];rw[Nat.min_eq_left ak]
    · rw[List.map_drop,List.map_take,<-Z];rw[List.length_drop,List.length_take,Nat.min_eq_left ak,List.take_take,Nat.min_eq_left ak,List.drop_take,List.drop_drop,Nat.mul_one]
    · simp;omega
theorem bC.take(h:bC m v l){n:Nat}(ak:n<=l.length):bC m (n8 v 1 0 n) (l.take n):=by have:=h.sub (Nat.zero_le n) ak;simpa using this
theorem bC.cells(h:bC m v l):ik m 1 v=true/\hO m 1 v=l.map cT:=by
  obtain⟨W,⟨rfl,rfl⟩|⟨b,o,cs,w,rfl,D,Z,aw⟩⟩:=h
  · exact⟨rfl,rfl⟩
  · refine⟨by simp[D];omega,?_⟩;simp[D];exact Z
end
abbrev Big(l:List Int):Prop:=l.length<35184372087809
theorem alz{l:List Int}{k:Nat}(h:cJ l<=k+1)(bB:ay l k=0):cJ l<=k:=by
  by_cases z:cJ l<=k
  · exact z
  · have D:cJ l=k+1:=(by omega);have Z:=kN l;have aw:k<l.length:=(by omega);exact absurd (by rw[lU (List.getElem?_eq_getElem aw)]at bB;exact bB) (Ht D (List.getElem?_eq_getElem aw))
theorem alA{l:List Int}{k:Nat}(h:cJ l<=k+1)(bB:ay l k≠0):cJ l=k+1:=by
  by_cases z:cJ l<=k
  · refine absurd ?_ bB;by_cases aw:k<l.length
    · rw[lU (List.getElem?_eq_getElem aw)];exact LX z (List.getElem?_eq_getElem aw)
    · exact rW (by omega)
  · omega
theorem akR{m:B}{v:Value}{l:List Int}(X:bC m v l)(aG:Big l){Q:dr->aL->B->Prop}: ∀(n:Nat) (u:aL),n<=l.length->cJ l<=n->u 0=v->u 3=S n->
    (∀ag,ag 3=S (cJ l)->Q (.bI 0) ag m)->ch Tryz.prog (.loop JZ) u m Q
  | 0,u,ak,h,bl,bd,bf=>by refine eT λb9 a9=> ?_;simp[JZ,bd];exact bf _ (by simp[bd];omega)
  | n+1,u,ak,h,bl,bd,bf=>by
    refine eT λb9 a9=> ?_;obtain⟨z,D,Z,aw⟩:=X.len;have bn:=X.j7 (i:=n) (by omega);have bF:=X.fj (i:=n) (by omega);have bo:IntKind.i64.wrap (n:Int)=n:=ct (by omega) (by omega);have g1:(n:Int)<l.length:=(by omega);by_cases bp:ay l n=0
    · simp[JZ,bl,bd,z,Z,bn,bF,bo,g1,bp];exact a9 _ _ (akR X aG n _ (by omega) (alz h bp) (by simp[bl]) (by simp) bf)
    · simp[JZ,bl,bd,z,Z,bn,bF,bo,g1,bp];exact bf _ (by simp[bd,alA h bp])
theorem m2{m:B}{v:Value}{l:List Int}(X:bC m v l)(aG:Big l)(az:Value->B->Prop):bJ Tryz.prog 100 [v] m az=az (S (cJ l)) m:=by refine(ob.rp ?_).wp;rw[apJ (by simp)];obtain⟨z,D,Z,aw⟩:=X.len;simp[Wj,afV,afW,afX,z,D];exact akR X aG l.length _ (Nat.le_refl _) (kN l) (by simp) (by simp[]) λag q=>by simp[q]
theorem v7{m:B}{v:Value}{l:List Int}(X:bC m v l)(aG:Big l)(az:Value->B->Prop):bJ Tryz.prog 157 [v] m az=az (.bool (decide (512<cJ l))) m:=by refine(ob.rp ?_).wp;rw[ap7 (by simp)];simp[Xq,ahQ,m2 X aG];omega
theorem bC.bG{m:B}{v:Value}{l:List Int}(h:bC m v l):bC m (n8 v 1 0 (cJ l)) (Big.bG (val l)):=by rw[<-ant h.1];exact h.take (kN l)
theorem bC.Be{m:B}{v:Value}{l:List Int}(h:bC m v l){id:Nat}(e4:id<m.next){MI:Value}{a8:B}
    (X:MI=if l.length=0 then .slice none 0 0 else .slice (some ⟨id,0,none⟩) l.length 1) (aK:a8=if l.length=0 then m else m.au id (some ⟨l.map cT,true⟩)):
    bC a8 MI l:=by
  subst X aK;by_cases bB:l.length=0
  · rw[if_pos bB,if_pos bB];obtain rfl:l=[]:=List.length_eq_zero_iff.1 bB;exact bC.nil
  · rw[if_neg bB,if_neg bB];exact bC.mk h.1 (bX e4)
theorem a0.Be{m:B}{c:Prop}[Decidable c]{k j:Nat}{x:Option fO}:a0 m (if c then m.bs k else(m.bs k).au (m.next+j) x):=by
  split
  · exact(a0.refl m).bs k
  · exact((a0.refl m).bs k).au (by omega)
theorem SU{m:B}{v:Value}{l:List Int}(X:bC m v l)(aG:Big l)(az:Value->B->Prop):
    bJ Tryz.prog 158 [v] m az=az (if 512<cJ l then .tuple #[.slice none 0 0,S 2]else .tuple #[n8 v 1 0 (cJ l),S 0]) m:=by
  refine(ob.rp ?_).wp;rw[ap8 (by simp)];obtain⟨z,D,Z,aw⟩:=X.len;have:=kN l;by_cases bp:(512:Int)<cJ l
  · simp[PD,Xr,Xs,Xt,m2 X aG,bp];omega
  · simp[PD,Xr,Xs,Xt,z,Z,m2 X aG,bp];omega
theorem S3{m:B}{v:Value}{l:List Int}(X:bC m v l)(aG:Big l):bJ Tryz.prog 131 [v] m λr N=>a0 m N/\bC N r (bG (val l)):=by rw[apT (by simp)];have L:= λk=>X.aD ((a0.refl m).bs k);obtain⟨z,D,Z,aw⟩:=X.len;have ak:=kN l;have J:= λk=>(L k).bG;have aB:= λk=>(J k).cells;have fv:= λk=>(J k).len;have e:=tS X.1;simp[WL,agC,z,Z,λk=>m2 (L k) aG,ak,(fv 6).2.2.2,(aB 6).1,(aB 6).2,e];exact⟨by omega,a0.Be,(J 6).Be (id:=m.next+4) (by simp) (by rw[e]) (by rw[e])⟩
theorem aa3{m:B}{v:Value}{l:List Int}(X:bC m v l)(aG:Big l){Q:dr->aL->B->Prop}: ∀(n:Nat) (u:aL),n<=l.length->cJ l<=n->u 0=v->u 3=S n->
    (∀ag,ag 0=v->ag 3=S (cJ l)->Q (.bI 0) ag m)->ch Tryz.prog (.loop J6) u m Q
  | 0,u,ak,h,bl,bd,bf=>by refine eT λb9 a9=> ?_;simp[J6,bd];exact bf _ (by simp[bl]) (by simp[bd];omega)
  | n+1,u,ak,h,bl,bd,bf=>by
    refine eT λb9 a9=> ?_;obtain⟨z,D,Z,aw⟩:=X.len;have bn:=X.j7 (i:=n) (by omega);have bF:=X.fj (i:=n) (by omega);have bo:IntKind.i64.wrap (n:Int)=n:=ct (by omega) (by omega);have g1:(n:Int)<l.length:=(by omega);by_cases bp:ay l n=0
    · simp[J6,bl,bd,z,Z,bn,bF,bo,g1,bp];exact a9 _ _ (aa3 X aG n _ (by omega) (alz h bp) (by simp[bl]) (by simp) bf)
    · simp[J6,bl,bd,z,Z,bn,bF,bo,g1,bp];exact bf _ (by simp[bl]) (by simp[bd,alA h bp])
theorem tV{m:B}{v:Value}{l:List Int}(X:bC m v l)(aG:Big l):bJ Tryz.prog 106 [v] m λr N=>a0 m N/\bC N r (bG (val l)):=by rw[acU (by simp)];have L:= λk=>X.aD ((a0.refl m).bs k);obtain⟨z,D,Z,aw⟩:=X.len;have ak:=kN l;have J:= λk=>(L k).bG;have aB:= λk=>(J k).cells;have fv:= λk=>(J k).len;have e:=tS X.1;simp[OP,Wl,Wm,Wn,z,D];refine aa3 X aG l.length _ (Nat.le_refl _) (kN l) (by simp) (by simp[]) λag bK cn=> ?_;simp[bK,cn,z,Z,ak,(fv 5).2.2.2,(aB 5).1,(aB 5).2,e];exact⟨by omega,a0.Be,(J 5).Be (id:=m.next+3) (by simp) (by rw[e]) (by rw[e])⟩
theorem aBD{m:B}{v:Value}{l:List Int}(X:bC m v l)(aG:Big l):bJ Tryz.prog 161 [v] m λr N=>a0 m N/\r= .bool (decide (512<cJ l)):=by rw[aqb (by simp)];simp[XB,ahV];refine(tV X aG).aD λr N aq=> ?_;obtain⟨z,D,Z,aw⟩:=aq.2.len;have e:=tS X.1;simp[z,D,e];exact⟨aq.1,by omega⟩
theorem an2{n:Int}(bB:0<=n)(z:n<18446744073709551616):dx [n%4294967296,n/4294967296%4294967296]/\val [n%4294967296,n/4294967296%4294967296]=n:=by refine⟨λx H=> ?_,by simp only[val];omega⟩;simp only[List.mem_cons,List.not_mem_nil,or_false]at H;rcases H with rfl|rfl<;>omega
theorem iu(n:Int):IntKind.u32.wrap n=n%4294967296:=rfl
theorem qo{n:Int}:n.fdiv 4294967296=n/4294967296:=Int.fdiv_eq_ediv_of_nonneg n (by omega)
theorem R3{m:B}{n:Int}(bB:0<=n)(ak:n<18446744073709551616):bJ Tryz.prog 34 [br n] m λr N=>a0 m N/\bC N r (bG n):=by rw[aqB (by simp)];obtain⟨aC,a2⟩:=an2 bB ak;have J:bC ((m.bs 7).au (m.next+5) (some ⟨[n%4294967296,n/4294967296%4294967296].map cT,true⟩)) (.slice (some ⟨m.next+5,0,none⟩) 2 1) [n%4294967296,n/4294967296%4294967296]:=bC.mk aC (bX (by simp));have aG:= λaz=>m2 J (by simp) az;have aR:=J.bG;have D:=kN [n%4294967296,n/4294967296%4294967296];rw[a2]at aR;simp only[List.map_cons,List.map_nil]at aG;simp[YE,aiZ,ai0,iu,qo,aG];rw[AR]at aR;simp only[List.length_cons,List.length_nil]at D;exact⟨by omega,((a0.refl m).bs 7).au (by omega),by simpa using aR⟩
theorem Mh{m:B}{n:Int}(bB:0<=n)(ak:n<18446744073709551616):bJ Tryz.prog 138 [br n] m λr N=>a0 m N/\bC N r (bG n):=by rw[ap0 (by simp)];obtain⟨aC,a2⟩:=an2 bB ak;have J:bC ((m.bs 8).au (m.next+5) (some ⟨[n%4294967296,n/4294967296%4294967296].map cT,true⟩)) (.slice (some ⟨m.next+5,0,none⟩) 2 1) [n%4294967296,n/4294967296%4294967296]:=bC.mk aC (bX (by simp));have aG:=tV J (by simp);rw[a2]at aG;simp only[List.map_cons,List.map_nil]at aG;simp[W1,agY,iu,qo];refine aG.aD λr N aq=> ?_;simp;exact⟨(((a0.refl m).bs 8).au (by omega)).trans aq.1,aq.2⟩
theorem zv{a b:Int}(h:a<b):h8 a b= -1:=by simp[h8,h]
theorem ID{a b:Int}(h:b<a):h8 a b=1:=by unfold h8;rw[if_neg (by omega),if_pos h]
theorem T5{a b:Int}(h:a=b):h8 a b=0:=by simp[h8,h]
theorem adb{m:B}{v w:Value}{a b:List Int}(X:bC m v a)(aO:bC m w b)(aE:Big a)(L:Big b){Q:dr->aL->B->Prop}: ∀(n:Nat) (u:aL),n<=a.length->n<=b.length->val (a.drop n)=val (b.drop n)->u 0=v->u 1=w->u 7=S ((n:Int)-1)->
    (∀ag,val a=val b->Q (.bI 1) ag m)->(∀ag,val a≠val b->ag 4=S (h8 (val a) (val b))->Q .a7 ag m)->ch Tryz.prog (.loop G3) u m Q
  | 0,u,ak,uF,h,bl,aH,cP,bf,g9=>by refine eT λb9 a9=> ?_;simp[G3,Lt,cP];exact bf _ (by simpa using h)
  | n+1,u,ak,uF,h,bl,aH,cP,bf,g9=>by
    refine eT λb9 a9=> ?_;obtain⟨z,D,Z,aw⟩:=X.len;obtain⟨dQ,gx,hh,lA⟩:=aO.len;have bn:=X.j7 (i:=n) (by omega);have bF:=X.fj (i:=n) (by omega);have dt:=aO.j7 (i:=n) (by omega);have dJ:=aO.fj (i:=n) (by omega);have bo:IntKind.i64.wrap ((n:Int)-1)=(n:Int)-1:=ct (by omega) (by omega);have g1:(n:Int)<a.length:=(by omega);have cB:(n:Int)<b.length:=(by omega);by_cases bp:ay a n<ay b n
    · have:=Np X.1 aO.1 h bp (by omega) (by omega);simp[G3,Lt,bl,aH,cP,z,Z,dQ,hh,bn,bF,dt,dJ,g1,cB,bp];exact g9 _ (by omega) (by simp[zv this])
    by_cases dc:ay b n<ay a n
    · have:=Np aO.1 X.1 h.symm dc (by omega) (by omega);simp[G3,Lt,bl,aH,cP,z,Z,dQ,hh,bn,bF,dt,dJ,g1,cB,bp,dc];exact g9 _ (by omega) (by simp[ID this])
    · simp[G3,Lt,bl,aH,cP,z,Z,dQ,hh,bn,bF,dt,dJ,bo,g1,cB,bp,dc];exact a9 _ _ (adb X aO aE L n _ (by omega) (by omega) (by rw[rP a,rP b];omega) (by simp[bl]) (by simp[aH]) (by simp) bf g9)
theorem IE{m:B}{v w:Value}{a b:List Int}(X:bC m v a)(aO:bC m w b)(aE:Big a)(L:Big b)(az:Value->B->Prop):bJ Tryz.prog 92 [v,w] m az=az (S (h8 (val a) (val b))) m:=by
  refine(ob.rp ?_).wp;rw[aqN (by simp)];have cc:=kN a;have iV:=kN b;by_cases bp:(cJ a:Int)<cJ b
  · have:=S7 X.1 aO.1 (by omega);simp[Ls,Rx,Ry,Rz,RA,m2 X aE,m2 aO L,bp,zv this]
  by_cases dc:(cJ b:Int)<cJ a
  · have:=S7 aO.1 X.1 (by omega);simp[Ls,Rx,Ry,Rz,RA,m2 X aE,m2 aO L,bp,dc,ID this]
  have bo:IntKind.i64.wrap ((cJ a:Int)-1)=(cJ a:Int)-1:=ct (by omega) (by omega);simp[Ls,Rx,Ry,Rz,RA,m2 X aE,m2 aO L,bp,dc,bo];have e:cJ a=cJ b:=by omega
  refine adb X aO aE L (cJ a) _ cc (by omega) (by rw[adr a,e,adr b]) (by simp) (by simp) (by simp) (λag h=> ?_) (λag h aw=> ?_)
  · simp[T5 h]
  · simp[aw]
theorem amk{m:B}{v w:Value}{a b:List Int}(X:bC m v a)(aO:bC m w b)(aE:Big a)(L:Big b){Q:dr->aL->B->Prop}: ∀(n:Nat) (u:aL),n<=a.length->n<=b.length->val (a.drop n)=val (b.drop n)->u 0=v->u 1=w->u 5=S ((n:Int)-1)->
    (∀ag,val a=val b->Q (.bI 0) ag m)->(∀ag,val a≠val b->ag 4=S (h8 (val a) (val b))->Q .a7 ag m)->ch Tryz.prog (.loop Gz) u m Q
  | 0,u,ak,uF,h,bl,aH,cP,bf,g9=>by refine eT λb9 a9=> ?_;simp[Gz,KB,KC,cP];exact bf _ (by simpa using h)
  | n+1,u,ak,uF,h,bl,aH,cP,bf,g9=>by
    refine eT λb9 a9=> ?_;obtain⟨z,D,Z,aw⟩:=X.len;obtain⟨dQ,gx,hh,lA⟩:=aO.len;have bn:=X.j7 (i:=n) (by omega);have bF:=X.fj (i:=n) (by omega);have dt:=aO.j7 (i:=n) (by omega);have dJ:=aO.fj (i:=n) (by omega);have bo:IntKind.i64.wrap ((n:Int)-1)=(n:Int)-1:=ct (by omega) (by omega);have g1:(n:Int)<a.length:=(by omega);have cB:(n:Int)<b.length:=(by omega);by_cases bp:ay a n<ay b n
    · have:=Np X.1 aO.1 h bp (by omega) (by omega);simp[Gz,KB,KC,bl,aH,cP,z,Z,dQ,hh,bn,bF,dt,dJ,g1,cB,bp];exact g9 _ (by omega) (by simp[zv this])
    by_cases dc:ay b n<ay a n
    · have:=Np aO.1 X.1 h.symm dc (by omega) (by omega);simp[Gz,KB,KC,bl,aH,cP,z,Z,dQ,hh,bn,bF,dt,dJ,g1,cB,bp,dc];exact g9 _ (by omega) (by simp[ID this])
    · simp[Gz,KB,KC,bl,aH,cP,z,Z,dQ,hh,bn,bF,dt,dJ,bo,g1,cB,bp,dc];exact a9 _ _ (amk X aO aE L n _ (by omega) (by omega) (by rw[rP a,rP b];omega) (by simp[bl]) (by simp[aH]) (by simp) bf g9)
theorem aaK{m:B}{v w:Value}{a b:List Int}(X:bC m v a)(aO:bC m w b)(aE:Big a)(L:Big b):bJ Tryz.prog 134 [v,w] m λr N=>a0 m N/\r=S (h8 (val a) (val b)):=by
  rw[apW (by simp)];have cc:=kN a;have iV:=kN b;have pE:=tS X.1;have q3:=tS aO.1;simp[WX,agK,agL,agM,agN,agO];refine(tV X aE).aD λe6 bz aq=> ?_;simp;refine(tV (aO.aD aq.1) L).aD λfw b4 bt=> ?_;have cN:=aq.2.aD bt.1;have di:=bt.2;have an:=aq.1.trans bt.1;obtain⟨z,D,Z,aw⟩:=cN.len;obtain⟨dQ,gx,hh,lA⟩:=di.len;rw[pE]at z;rw[q3]at dQ;by_cases bp:(cJ a:Int)<cJ b
  · have:=S7 X.1 aO.1 (by omega);have cy: ¬((cJ a:Int)=cJ b):=(by omega);simp[z,D,dQ,gx,bp,cy,zv this];exact an
  by_cases dc:(cJ b:Int)<cJ a
  · have:=S7 aO.1 X.1 (by omega);have cy: ¬((cJ a:Int)=cJ b):=(by omega);simp[z,D,dQ,gx,bp,cy,ID this];exact an
  have bo:IntKind.i64.wrap ((cJ a:Int)-1)=(cJ a:Int)-1:=ct (by omega) (by omega);have e:cJ a=cJ b:=by omega
  rw[<-e]at dQ q3;simp[z,D,dQ,gx,bo];have CM:=iB (il X.1).1;have xK:=iB (il aO.1).1;refine amk cN di (by omega) (by omega) (cJ a) _ (by omega) (by omega) (by rw[List.drop_of_length_le (by omega),List.drop_of_length_le (by omega)]) (by simp) (by simp) (by simp) (λag h=> ?_) (λag h aw=> ?_)
  · rw[CM,xK]at h;simp[T5 h];exact an
  · simp[aw];rw[CM,xK];exact⟨an,rfl⟩
theorem e0{n:Int}(bB:0<=n)(z:n<18446744073709551616):IntKind.u64.wrap n=n:=by show n%18446744073709551616=n;omega
theorem tZ(n:Int):IntKind.u64.wrap n=n%18446744073709551616:=rfl
theorem m9{o:List Int}{i:Nat}{x:Int}:(o.map cT).set i (cT x)=(o.set i x).map cT:=List.map_set.symm
theorem q2{n:Int}{k:Nat}(bB:0<=n)(h:n<aZ k):(bG n).length<=k:=by have aB:=oE n;rw[<-aB.2];exact(AA aB.1 k).2 (by rw[iB bB];exact h)
theorem M3{dd:B}{v w:Value}{x y:List Int}(X:bC dd v x)(aO:bC dd w y)(H:Big x)(ah:y.length<=x.length){aQ:Nat}(jF:dd.next<=aQ){Q:dr->aL->B->Prop}: ∀(r i:Nat) (c:Int) (o:List Int) (m:B) (u:aL),
    i+r=x.length->a0 dd m->m.M aQ=some ⟨o.map cT,true⟩->dx o->o.length=x.length+1->0<=c->c<2->val (o.take i)+c*aZ i=val (x.take i)+val (y.take i)->
    u 0=v->u 1=w->u 6= .slice (some ⟨aQ,0,none⟩) (x.length+1) 1->u 7=br c->u 35=S x.length->u 36=S i->
    (∀ag N o c,a0 dd N->N.M aQ=some ⟨o.map cT,true⟩->dx o->o.length=x.length+1->0<=c->c<2->val (o.take x.length)+c*aZ x.length=val x+val y->
      ag 0=v->ag 6= .slice (some ⟨aQ,0,none⟩) (x.length+1) 1->ag 7=br c->Q (.bI 0) ag N)->ch Tryz.prog (.loop Kk) u m Q
  | 0,i,c,o,m,u,aa,an,aj,aA,et,g1,cB,aU,bl,aH,db,cP,u7,AM,bf=>by refine eT λb9 a9=> ?_;have e:i=x.length:=(by omega);subst e;simp[Kk,Pb,Pc,Pd,O9,Pa,u7,AM];rw[List.take_of_length_le (l:=x) (by omega),List.take_of_length_le (l:=y) (by omega)]at aU;exact bf _ _ o c an aj aA et g1 cB aU (by simp[bl]) (by simp[db]) (by simp[cP])
  | r+1,i,c,o,m,u,aa,an,aj,aA,et,g1,cB,aU,bl,aH,db,cP,u7,AM,bf=>by
    refine eT λb9 a9=> ?_;have gb:=X.aD an;have iS:=aO.aD an;obtain⟨z,D,Z,aw⟩:=gb.len;obtain⟨dQ,gx,hh,lA⟩:=iS.len;have bK:(i:Int)<x.length:=(by omega);have bm:(i:Int)<(x.length:Int)+1:=(by omega);have bU:i<=x.length:=(by omega);have cn:(i:Int)<=x.length:=(by omega);have bn:=gb.j7 (i:=i) (by omega);have bF:=gb.fj (i:=i) (by omega);have gh:=hX X.1 i;have Da:=hX aO.1 i;have bo:IntKind.i64.wrap ((i:Int)+1)=(i:Int)+1:=ct (by omega) (by omega);have cS:IntKind.u64.wrap (ay x i)=ay x i:=e0 (by omega) (by omega);have fz:IntKind.u64.wrap (c+ay x i)=c+ay x i:=e0 (by omega) (by omega);have cM:=aT aj;by_cases bp:(i:Int)<y.length
    · have dt:=iS.j7 (i:=i) (by omega);have dJ:=iS.fj (i:=i) (by omega);have hT:IntKind.u64.wrap (ay y i)=ay y i:=e0 (by omega) (by omega);have hK:IntKind.u64.wrap (c+ay x i+ay y i)=c+ay x i+ay y i:=e0 (by omega) (by omega);simp[Kk,Pb,Pc,Pd,O9,Pa,bl,aH,db,cP,u7,AM,z,Z,dQ,gx,hh,bK,bm,bU,bn,bF,dt,dJ,bo,cS,fz,hT,hK,bp,aj,et,iu,qo];refine a9 _ _ (M3 X aO H ah jF r (i+1) ((c+ay x i+ay y i)/4294967296) (o.set i ((c+ay x i+ay y i)%4294967296)) _ _ (by omega) (an.au jF) (by rw[bX cM,m9]) (aA.set i (by omega)) (by simp[et]) (by omega) (by omega) (TG aU rfl (by omega)) (by simp[bl]) (by simp[aH]) (by simp[db]) (by simp) (by simp[u7]) (by simp) bf)
    · have gi:ay y i=0:=rW (by omega);simp[Kk,Pb,Pc,Pd,O9,Pa,bl,aH,db,cP,u7,AM,z,Z,dQ,gx,bK,bm,bU,bn,bF,bo,cS,fz,bp,aj,et,iu,qo];refine a9 _ _ (M3 X aO H ah jF r (i+1) ((c+ay x i)/4294967296) (o.set i ((c+ay x i)%4294967296)) _ _ (by omega) (an.au jF) (by rw[bX cM,m9]) (aA.set i (by omega)) (by simp[et]) (by omega) (by omega) (TG aU (by omega) (by omega)) (by simp[bl]) (by simp[aH]) (by simp[db]) (by simp) (by simp[u7]) (by simp) bf)
def vp(m:B)(n:Int)(r:Value)(N:B):Prop:=a0 m N/\ ∃v,r= .tuple #[v,S 0]/\bC N v (bG n)
theorem apb{m:B}{v w:Value}{a b:List Int}(X:bC m v a)(aO:bC m w b)(aE:Big a)(L:Big b)(na:cJ a<=512)(sX:cJ b<=512)(ak:val a+val b<aZ 512):
    bJ Tryz.prog 127 [v,w] m (vp m (val a+val b)):=by
  rw[apP (by simp)];obtain⟨z,D,Z,aw⟩:=X.len;obtain⟨dQ,gx,hh,lA⟩:=aO.len;have cc:=kN a;have iV:=kN b;have yz: ¬512<cJ a:=by omega
  have yA: ¬512<cJ b:=by omega
  have gb:=X.bG;have iS:=aO.bG;have pE:=tS X.1;have q3:=tS aO.1;have CM:=iB (il X.1).1;have xK:=iB (il aO.1).1;obtain⟨aC,a2,bS,fA⟩:=gb.len;obtain⟨nz,qt,x4,aem⟩:=iS.len;rw[pE]at aC;rw[q3]at nz;by_cases bp:(cJ a:Int)<cJ b
  · have bo:IntKind.i64.wrap ((cJ b:Int)+1)=(cJ b:Int)+1:=ct (by omega) (by omega);simp[O8,Wx,WA,WB,WC,WD,WE,Wy,Wz,v7 X aE,v7 aO L,m2 X aE,m2 aO L,z,Z,dQ,hh,yz,yA,cc,iV,aC,a2,nz,qt,bp,bo];have k5:a0 m ((m.bs 5).au (m.next+3) (some ⟨List.replicate (cJ b+1) (.int .u32 0),true⟩)):=((a0.refl m).bs 5).au (by omega);refine⟨by omega,M3 iS gb (by omega) (by omega) (aQ:=m.next+3) (by omega) (cJ b) 0 0 (List.replicate (cJ b+1) 0) _ _ (by omega) k5 (by rw[bX (by simp)];simp) (dx.vm _) (by simp[q3]) (by omega) (by omega) (by simp[val]) (by simp) (by simp) (by simp[q3]) (by simp) (by simp[q3]) (by simp) λag N o c dk dV ew f4 jo mB nN bK ij wg=> ?_⟩;rw[q3]at f4 nN ij;have cM:=aT dV;have J:bC (N.au (m.next+3) (some ⟨(o.set (cJ b) (c%4294967296)).map cT,true⟩)) (.slice (some ⟨m.next+3,0,none⟩) (cJ b+1) 1) (o.set (cJ b) (c%4294967296)):=bC.se (ew.set _ (by omega)) (bX cM) (by simp[f4]);have qA:val (o.set (cJ b) (c%4294967296))=val a+val b:=by
      have:=y1 (o:=o) (i:=cJ b) (c%4294967296) (by omega);rw[List.take_of_length_le (by simp;omega)]at this;rw[this,show c%4294967296=c by omega,Int.mul_comm];omega
    have iQ:= λaz=>SU J (by simp[f4];omega) az;rw[<-m9]at iQ;have fG: ¬512<cJ (o.set (cJ b) (c%4294967296)):=by have:=(AA J.1 512).2 (by rw[qA];exact ak);omega
    simp only[fG,if_false]at iQ;simp[bK,ij,wg,nz,qt,dV,f4,iu,iQ];have aR:=J.bG;rw[qA,AR,<-m9]at aR;exact⟨by omega,dk.au (by omega),_,rfl,by simpa using aR⟩
  · have bo:IntKind.i64.wrap ((cJ a:Int)+1)=(cJ a:Int)+1:=ct (by omega) (by omega);simp[O8,Wx,WA,WB,WC,WD,WE,Wy,Wz,v7 X aE,v7 aO L,m2 X aE,m2 aO L,z,Z,dQ,hh,yz,yA,cc,iV,aC,a2,nz,qt,bp,bo];have k5:a0 m ((m.bs 5).au (m.next+3) (some ⟨List.replicate (cJ a+1) (.int .u32 0),true⟩)):=((a0.refl m).bs 5).au (by omega);refine⟨by omega,M3 gb iS (by omega) (by omega) (aQ:=m.next+3) (by omega) (cJ a) 0 0 (List.replicate (cJ a+1) 0) _ _ (by omega) k5 (by rw[bX (by simp)];simp) (dx.vm _) (by simp[pE]) (by omega) (by omega) (by simp[val]) (by simp) (by simp) (by simp[pE]) (by simp) (by simp[pE]) (by simp) λag N o c dk dV ew f4 jo mB nN bK ij wg=> ?_⟩;rw[pE]at f4 nN ij;have cM:=aT dV;have J:bC (N.au (m.next+3) (some ⟨(o.set (cJ a) (c%4294967296)).map cT,true⟩)) (.slice (some ⟨m.next+3,0,none⟩) (cJ a+1) 1) (o.set (cJ a) (c%4294967296)):=bC.se (ew.set _ (by omega)) (bX cM) (by simp[f4]);have qA:val (o.set (cJ a) (c%4294967296))=val a+val b:=by
      have:=y1 (o:=o) (i:=cJ a) (c%4294967296) (by omega);rw[List.take_of_length_le (by simp;omega)]at this;rw[this,show c%4294967296=c by omega,Int.mul_comm];omega
    have iQ:= λaz=>SU J (by simp[f4];omega) az;rw[<-m9]at iQ;have fG: ¬512<cJ (o.set (cJ a) (c%4294967296)):=by have:=(AA J.1 512).2 (by rw[qA];exact ak);omega
    simp only[fG,if_false]at iQ;simp[bK,ij,wg,aC,a2,dV,f4,iu,iQ];have aR:=J.bG;rw[qA,AR,<-m9]at aR;exact⟨by omega,dk.au (by omega),_,rfl,by simpa using aR⟩
theorem ND{n:Int}:n.fdiv 9223372036854775808=n/9223372036854775808:=Int.fdiv_eq_ediv_of_nonneg n (by omega)
theorem abS{dd:B}{v w:Value}{x y:List Int}(X:bC dd v x)(aO:bC dd w y)(H:Big x)(ah:y.length<=x.length){aQ:Nat}(jF:dd.next<=aQ){Q:dr->aL->B->Prop}: ∀(r i:Nat) (c:Int) (o:List Int) (m:B) (u:aL),
    i+r=x.length->a0 dd m->m.M aQ=some ⟨o.map cT,true⟩->dx o->o.length=x.length->0<=c->c<2->val (o.take i)-c*aZ i=val (x.take i)-val (y.take i)->
    u 0=v->u 1=w->u 6= .slice (some ⟨aQ,0,none⟩) x.length 1->u 7=br c->u 34=S x.length->u 35=S i->
    (∀ag N o c,a0 dd N->N.M aQ=some ⟨o.map cT,true⟩->dx o->o.length=x.length->0<=c->c<2->val o-c*aZ x.length=val x-val y->
      ag 6= .slice (some ⟨aQ,0,none⟩) x.length 1->Q (.bI 1) ag N)->ch Tryz.prog (.loop Kl) u m Q
  | 0,i,c,o,m,u,aa,an,aj,aA,et,g1,cB,aU,bl,aH,db,cP,u7,AM,bf=>by refine eT λb9 a9=> ?_;have e:i=x.length:=(by omega);subst e;simp[Kl,Pf,Pg,Ph,Pj,Pe,u7,AM];rw[List.take_of_length_le (l:=x) (by omega),List.take_of_length_le (l:=y) (by omega),List.take_of_length_le (l:=o) (by omega)]at aU;exact bf _ _ o c an aj aA et g1 cB aU (by simp[db])
  | r+1,i,c,o,m,u,aa,an,aj,aA,et,g1,cB,aU,bl,aH,db,cP,u7,AM,bf=>by
    refine eT λb9 a9=> ?_;have gb:=X.aD an;have iS:=aO.aD an;obtain⟨z,D,Z,aw⟩:=gb.len;obtain⟨dQ,gx,hh,lA⟩:=iS.len;have bK:(i:Int)<x.length:=(by omega);have bU:i<x.length:=(by omega);have cn:i+1<=x.length:=(by omega);have bn:=gb.j7 (i:=i) (by omega);have bF:=gb.fj (i:=i) (by omega);have gh:=hX X.1 i;have Da:=hX aO.1 i;have bo:IntKind.i64.wrap ((i:Int)+1)=(i:Int)+1:=ct (by omega) (by omega);have cS:IntKind.u64.wrap (ay x i)=ay x i:=e0 (by omega) (by omega);have cM:=aT aj;by_cases bp:(i:Int)<y.length
    · have dt:=iS.j7 (i:=i) (by omega);have dJ:=iS.fj (i:=i) (by omega);have hT:IntKind.u64.wrap (ay y i)=ay y i:=e0 (by omega) (by omega);obtain⟨O,hK,aM,a1⟩: ∃O,IntKind.u64.wrap (IntKind.u64.wrap (ay x i-c)-ay y i)=O/\O%4294967296=(ay x i-c-ay y i)%4294967296/\O/9223372036854775808= -((ay x i-c-ay y i)/4294967296):=⟨_,rfl,by rw[tZ,tZ];omega,by rw[tZ,tZ];omega⟩;simp[Kl,Pf,Pg,Ph,Pj,Pe,bl,aH,db,cP,u7,AM,z,Z,dQ,gx,hh,bK,cn,bn,bF,dt,dJ,bo,cS,hT,hK,bp,aj,et,iu,ND,aM,a1];refine a9 _ _ (abS X aO H ah jF r (i+1) (-((ay x i-c-ay y i)/4294967296)) (o.set i ((ay x i-c-ay y i)%4294967296)) _ _ (by omega) (an.au jF) (by rw[bX cM,m9]) (aA.set i (by omega)) (by simp[et]) (by omega) (by omega) (anm aU rfl (by omega)) (by simp[bl]) (by simp[aH]) (by simp[db]) (by simp) (by simp[u7]) (by simp) bf)
    · have gi:ay y i=0:=rW (by omega);obtain⟨O,hK,aM,a1⟩: ∃O,IntKind.u64.wrap (ay x i-c)=O/\O%4294967296=(ay x i-c)%4294967296/\O/9223372036854775808= -((ay x i-c)/4294967296):=⟨_,rfl,by rw[tZ];omega,by rw[tZ];omega⟩;simp[Kl,Pf,Pg,Ph,Pj,Pe,bl,aH,db,cP,u7,AM,z,Z,dQ,gx,bK,cn,bn,bF,bo,cS,hK,bp,aj,et,iu,ND,aM,a1];refine a9 _ _ (abS X aO H ah jF r (i+1) (-((ay x i-c)/4294967296)) (o.set i ((ay x i-c)%4294967296)) _ _ (by omega) (an.au jF) (by rw[bX cM,m9]) (aA.set i (by omega)) (by simp[et]) (by omega) (by omega) (anm aU (by omega) (by omega)) (by simp[bl]) (by simp[aH]) (by simp[db]) (by simp) (by simp[u7]) (by simp) bf)
theorem aC8{m:B}{v w:Value}{a b:List Int}(X:bC m v a)(aO:bC m w b)(aE:Big a)(L:Big b)(na:cJ a<=512)(ak:val b<=val a):
    bJ Tryz.prog 128 [v,w] m (vp m (val a-val b)):=by
  rw[apQ (by simp)];obtain⟨z,D,Z,aw⟩:=X.len;obtain⟨dQ,gx,hh,lA⟩:=aO.len;have cc:=kN a;have iV:=kN b;have sX:cJ b<=cJ a:=(AA aO.1 _).2 (by have:=aca X.1;omega);have yz: ¬512<cJ a:=by omega
  have yA: ¬512<cJ b:=by omega
  have uV: ¬h8 (val a) (val b)<0:=by unfold h8;split<;>(try split)<;>omega
  have gb:=X.bG;have iS:=aO.bG;have pE:=tS X.1;have q3:=tS aO.1;have CM:=iB (il X.1).1;have xK:=iB (il aO.1).1;obtain⟨aC,a2,bS,fA⟩:=gb.len;obtain⟨nz,qt,x4,aem⟩:=iS.len;rw[pE]at aC;rw[q3]at nz;simp[WG,af9,agb,agc,agd,age,aga,v7 X aE,v7 aO L,m2 X aE,m2 aO L,IE X aO aE L,uV,z,Z,dQ,hh,yz,yA,cc,iV,aC,a2];have k5:a0 m ((m.bs 4).au (m.next+2) (some ⟨List.replicate (cJ a) (.int .u32 0),true⟩)):=((a0.refl m).bs 4).au (by omega);refine⟨by omega,abS gb iS (by omega) (by omega) (aQ:=m.next+2) (by omega) (cJ a) 0 0 (List.replicate (cJ a) 0) _ _ (by omega) k5 (by rw[bX (by simp)];simp) (dx.vm _) (by simp[pE]) (by omega) (by omega) (by simp[val]) (by simp) (by simp) (by simp[pE]) (by simp) (by simp[pE]) (by simp) λag N o c dk dV ew f4 jo mB nN ij=> ?_⟩;rw[pE]at f4 nN ij;have J:bC N (.slice (some ⟨m.next+2,0,none⟩) (cJ a) 1) o:=bC.se ew dV f4.symm;have qA:val o=val a-val b:=by
    have iP:=(il ew).2;rw[f4]at iP;have aq:=k8 (cJ a);have aB:c=0:=by
      rcases(show c=0\/c=1 by omega)with h|h
      · exact h
      · subst h;omega
    subst aB;omega
  have iQ:= λaz=>SU J (by omega) az;have fG: ¬512<cJ o:=by have:=kN o;omega
  simp only[fG,if_false]at iQ;simp[ij,iQ];have aR:=J.bG;rw[qA,AR]at aR;exact⟨dk,_,rfl,by simpa using aR⟩
theorem NR{o:List Int}{k q:Nat}{x:Int}(h:q≠k):ay (o.set k x) q=ay o q:=by unfold ay;simp only[List.getD_eq_getElem?_getD];rw[List.getElem?_set_ne (by omega)]
theorem Sl{x y:Int}(H:0<=x/\x<4294967296)(ah:0<=y/\y<4294967296):0<=x*y/\x*y<=18446744065119617025:=by refine⟨Int.mul_nonneg H.1 ah.1,?_⟩;have z:x*y<=4294967295*y:=Int.mul_le_mul_of_nonneg_right (by omega) ah.1;omega
theorem alr{dd:B}{v w:Value}{b:List Int}{bq i na:Nat}{x:Int}(aO:bC dd w b)(hF:bq<80000000000000)(H:0<=x/\x<4294967296)(Vl:i+b.length<=bq){aQ:Nat}(jF:dd.next<=aQ){eN:List Int}{Q:dr->aL->B->Prop}: ∀(r j:Nat) (c:Int) (o:List Int) (m:B) (u:aL),
    j+r=b.length->a0 dd m->m.M aQ=some ⟨o.map cT,true⟩->dx o->o.length=bq->0<=c->c<4294967296->val o+c*aZ (i+j)=val eN+aZ i*(x*val (b.take j))->(∀k,i+b.length<=k->ay o k=ay eN k)->
    u 1=w->u 6= .slice (some ⟨aQ,0,none⟩) bq 1->u 7=S i->u 8=cT x->u 9=br c->u 32=v->u 33=S na->u 34=S i->u 39=w->u 40=S b.length->u 41=S j->
    (∀ag N o c,a0 dd N->N.M aQ=some ⟨o.map cT,true⟩->dx o->o.length=bq->0<=c->c<4294967296->val o+c*aZ (i+b.length)=val eN+aZ i*(x*val b)->(∀k,i+b.length<=k->ay o k=ay eN k)->
      ag 1=w->ag 6= .slice (some ⟨aQ,0,none⟩) bq 1->ag 7=S i->ag 9=br c->ag 32=v->ag 33=S na->ag 34=S i->Q (.bI 2) ag N)->ch Tryz.prog (.loop Pr) u m Q
  | 0,j,c,o,m,u,aa,an,aj,aA,et,g1,cB,aU,cE,aH,db,cP,b3,cg,u6,Cq,ru,ET,AN,EU,bf=>by refine eT λb9 a9=> ?_;have e:j=b.length:=(by omega);subst e;simp(disch:=first|omega|(simp only[ae,ad,af];omega)) [Pr,WV,WN,WO,WQ,AN,EU];rw[List.take_of_length_le (l:=b) (by omega)]at aU;exact bf _ _ o c an aj aA et g1 cB aU cE (by simp[aH]) (by simp[db]) (by simp[cP]) (by simp[cg]) (by simp[u6]) (by simp[Cq]) (by simp[ru])
  | r+1,j,c,o,m,u,aa,an,aj,aA,et,g1,cB,aU,cE,aH,db,cP,b3,cg,u6,Cq,ru,ET,AN,EU,bf=>by refine eT λb9 a9=> ?_;have iS:=aO.aD an;obtain⟨dQ,gx,hh,lA⟩:=iS.len;obtain⟨k,W⟩: ∃k,k=i+j:=⟨_,rfl⟩;have bK:(j:Int)<b.length:=(by omega);have bm:(k:Int)<bq:=(by omega);have bU:k<bq:=(by omega);have cn:k+1<=bq:=(by omega);have dt:=iS.j7 (i:=j) (by omega);have dJ:=iS.fj (i:=j) (by omega);have Da:=hX aO.1 j;have apC:=hX aA k;have bY:o[k]?=some (ay o k):=(by rw[lU (List.getElem?_eq_getElem (by omega)),List.getElem?_eq_getElem (by omega)]);have aq:=Sl H Da;obtain⟨t,bH⟩: ∃t,t=c+x*ay b j+ay o k:=⟨_,rfl⟩;have bo:IntKind.i64.wrap ((j:Int)+1)=(j:Int)+1:=ct (by omega) (by omega);have iI:IntKind.i64.wrap ((i:Int)+(j:Int))=(k:Int):=(by rw[ct (by omega) (by omega)];omega);have cS:IntKind.u64.wrap x=x:=e0 (by omega) (by omega);have fz:IntKind.u64.wrap (ay b j)=ay b j:=e0 (by omega) (by omega);have hT:IntKind.u64.wrap (ay o k)=ay o k:=e0 (by omega) (by omega);have hK:IntKind.u64.wrap (x*ay b j)=x*ay b j:=e0 (by omega) (by omega);have mR:IntKind.u64.wrap (x*ay b j+ay o k)=x*ay b j+ay o k:=e0 (by omega) (by omega);have md:IntKind.u64.wrap (c+(x*ay b j+ay o k))=t:=(by rw[e0 (by omega) (by omega)];omega);have cM:=aT aj;have mq:k<o.length:=(by omega);have pT:o[k]=ay o k:=(by rw[lU (List.getElem?_eq_getElem mq)]);simp(disch:=first|omega|(simp only[ae,ad,af];omega)) [Pr,WV,WN,WO,WQ,db,cP,b3,cg,ET,AN,EU,dQ,hh,bK,bm,cn,dt,dJ,bo,cS,fz,hT,hK,iI,mR,md,aj,et,iu,qo,pT,ks];refine a9 _ _ (alr aO hF H Vl jF (eN:=eN) r (j+1) (t/4294967296) (o.set k (t%4294967296)) _ _ (by omega) (an.au jF) (by rw[bX cM,m9]) (aA.set k (by omega)) (by simp[et]) (by omega) (by omega) (by subst W;exact alq aU (by rw[<-bY]) (by omega)) (λq bt=>by rw[NR (by omega)];exact cE q bt) (by simp[aH]) (by simp[db]) (by simp[cP]) (by simp[b3]) (by simp) (by simp[u6]) (by simp[Cq]) (by simp[ru]) (by simp[ET]) (by simp[AN]) (by simp) bf)
theorem als{dd:B}{v w:Value}{a b:List Int}{bq:Nat}(X:bC dd v a)(aO:bC dd w b)(hF:bq=a.length+b.length)(aE:Big a)(L:Big b){aQ:Nat}(jF:dd.next<=aQ){Q:dr->aL->B->Prop}: ∀(r i:Nat) (o:List Int) (m:B) (u:aL),
    i+r=a.length->a0 dd m->m.M aQ=some ⟨o.map cT,true⟩->dx o->o.length=bq->val o=val (a.take i)*val b->(∀k,i+b.length<=k->ay o k=0)->
    u 1=w->u 6= .slice (some ⟨aQ,0,none⟩) bq 1->u 32=v->u 33=S a.length->u 34=S i->
    (∀ag N o,a0 dd N->N.M aQ=some ⟨o.map cT,true⟩->dx o->o.length=bq->val o=val a*val b->ag 6= .slice (some ⟨aQ,0,none⟩) bq 1->Q (.bI 0) ag N)->ch Tryz.prog (.loop Ps) u m Q
  | 0,i,o,m,u,aa,an,aj,aA,et,aU,cE,aH,db,u6,Cq,ru,bf=>by refine eT λb9 a9=> ?_;have e:i=a.length:=(by omega);subst e;simp[Ps,WR,WS,WT,WU,Cq,ru];rw[List.take_of_length_le (l:=a) (by omega)]at aU;exact bf _ _ o an aj aA et aU (by simp[db])
  | r+1,i,o,m,u,aa,an,aj,aA,et,aU,cE,aH,db,u6,Cq,ru,bf=>by
    refine eT λb9 a9=> ?_;have gb:=X.aD an;have iS:=aO.aD an;obtain⟨z,D,Z,aw⟩:=gb.len;obtain⟨dQ,gx,hh,lA⟩:=iS.len;have bK:(i:Int)<a.length:=(by omega);have bn:=gb.j7 (i:=i) (by omega);have bF:=gb.fj (i:=i) (by omega);have gh:=hX X.1 i;simp[Ps,WR,WS,WT,WU,aH,u6,Cq,ru,z,Z,dQ,gx,bK,bn,bF];refine alr (v:=v) (na:=a.length) (i:=i) (bq:=bq) (x:=ay a i) (aQ:=aQ) aO (by omega) gh (by omega) jF (eN:=o) b.length 0 0 o _ _ (by omega) an aj aA et (by omega) (by omega) (by simp[val]) (λ_ _=>rfl) (by simp[aH]) (by simp[db]) (by simp) (by simp) (by simp) (by simp[u6]) (by simp[Cq]) (by simp[ru]) (by simp) (by simp) (by simp) λag N o' c dk dV ew f4 jo mB nN uq dK tU yP HD aAy aAz aAA=> ?_;obtain⟨k,W⟩: ∃k,k=i+b.length:=⟨_,rfl⟩;have iI:IntKind.i64.wrap ((i:Int)+(b.length:Int))=(k:Int):=(by rw[ct (by omega) (by omega)];omega);have bo:IntKind.i64.wrap ((i:Int)+1)=(i:Int)+1:=ct (by omega) (by omega);have bm:(k:Int)<bq:=(by omega);have bU:k<bq:=(by omega);have cn:k+1<=bq:=(by omega);have cM:=aT dV;simp[dK,tU,yP,HD,aAA,dQ,gx,bo,iI,bm,cn,dV,f4,iu];have bY:o'[k]?=some 0:=by have bB:=cE k (by omega);rw[<-uq k (by omega)]at bB;rw[lU (List.getElem?_eq_getElem (by omega))]at bB;rw[List.getElem?_eq_getElem (by omega),bB]
    refine a9 _ _ (als X aO hF aE L jF r (i+1) (o'.set k (c%4294967296)) _ _ (by omega) (dk.au jF) (by rw[bX cM,m9]) (ew.set k (by omega)) (by simp[f4]) ?_ (λq bt=>by rw[NR (by omega),uq q (by omega)];exact cE q (by omega)) (by simp[dK]) (by simp[tU]) (by simp[aAy]) (by simp[aAz]) (by simp) bf);rw[S9 _ bY,o0 a,show c%4294967296=c by omega];rw[<-W,aU]at nN
    grind
theorem azI{m:B}{v w:Value}{a b:List Int}(X:bC m v a)(aO:bC m w b)(aE:Big a)(L:Big b)(na:cJ a<=512)(sX:cJ b<=512)(ak:val a*val b<aZ 512):
    bJ Tryz.prog 132 [v,w] m (vp m (val a*val b)):=by
  rw[apU (by simp)];obtain⟨z,D,Z,aw⟩:=X.len;obtain⟨dQ,gx,hh,lA⟩:=aO.len;have cc:=kN a;have iV:=kN b;have yz: ¬512<cJ a:=by omega
  have yA: ¬512<cJ b:=by omega
  have gb:=X.bG;have iS:=aO.bG;have pE:=tS X.1;have q3:=tS aO.1;have CM:=iB (il X.1).1;have xK:=iB (il aO.1).1;obtain⟨aC,a2,bS,fA⟩:=gb.len;obtain⟨nz,qt,x4,aem⟩:=iS.len;rw[pE]at aC;rw[q3]at nz;obtain⟨bq,hF⟩: ∃bq,bq=cJ a+cJ b:=⟨_,rfl⟩;have bo:IntKind.i64.wrap ((cJ a:Int)+(cJ b:Int))=(bq:Int):=by rw[ct (by omega) (by omega)];omega
  simp[WM,agD,agF,agG,agH,agE,v7 X aE,v7 aO L,m2 X aE,m2 aO L,z,Z,dQ,hh,yz,yA,cc,iV,aC,a2,nz,qt,bo];have k5:a0 m ((m.bs 7).au (m.next+5) (some ⟨List.replicate bq (.int .u32 0),true⟩)):=((a0.refl m).bs 7).au (by omega);refine⟨by omega,als (bq:=bq) gb iS (by omega) (by omega) (by omega) (aQ:=m.next+5) (by omega) (cJ a) 0 (List.replicate bq 0) _ _ (by omega) k5 (by rw[bX (by simp)];simp) (dx.vm _) (by simp) (by simp[val,Ta]) (λk W=>by unfold ay;simp[List.getElem?_replicate];split<;>rfl) (by simp) (by simp) (by simp) (by simp[pE]) (by simp) λag N o dk dV ew f4 jo ij=> ?_⟩;rw[CM,xK]at jo;have J:bC N (.slice (some ⟨m.next+5,0,none⟩) bq 1) o:=bC.se ew dV f4.symm;have iQ:= λaz=>SU J (by omega) az;have fG: ¬512<cJ o:=by have:=(AA ew 512).2 (by rw[jo];exact ak);omega
  simp only[fG,if_false]at iQ;simp[ij,iQ];have aR:=J.bG;rw[jo,AR]at aR;exact⟨dk,_,rfl,by simpa using aR⟩
theorem anJ:(2:Int)^IntKind.u64.bits=18446744073709551616:=by decide
theorem AF{x y G:Int}{s:Nat}(dB:G=(2:Int)^s)(H:0<=x)(ah:0<=y)(Wb:y<G)(h:x*G+y<18446744073709551616):IntKind.u64.wrap ↑((x*G%2^IntKind.u64.bits).toNat|||(y%2^IntKind.u64.bits).toNat)=x*G+y:=by
  obtain⟨cA,rfl⟩:=Int.eq_ofNat_of_zero_le H;obtain⟨c4,rfl⟩:=Int.eq_ofNat_of_zero_le ah;have aM:((cA:Int)*G)=((2^s*cA:Nat):Int):=by rw[dB];simp[Int.mul_comm]
  have a1:(c4:Int)<((2^s:Nat):Int):=by simpa[dB]using Wb
  have cI:c4<2^s:=by omega
  have fe:2^s*cA+c4<18446744073709551616:=by rw[aM]at h;omega
  rw[aM,anJ];have mi:(((2^s*cA:Nat):Int)%18446744073709551616).toNat=2^s*cA:=by omega
  have og:((c4:Int)%18446744073709551616).toNat=c4:=by omega
  rw[mi,og,<-Nat.two_pow_add_eq_or_of_lt cI,e0 (by omega) (by omega)];omega
theorem alZ{x y G:Int}{s:Nat}(dB:G=(2:Int)^s)(H:0<=x)(ah:0<=y)(Wb:y<G)(h:x*G+y<18446744073709551616):IntKind.u64.wrap ↑((y%2^IntKind.u64.bits).toNat|||(x*G%2^IntKind.u64.bits).toNat)=y+x*G:=by rw[Nat.or_comm,AF dB H ah Wb h];omega
theorem api{x:Int}(H:0<=x)(h:x<18446744073709551616):IntKind.u64.wrap ↑((x%2^IntKind.u64.bits).toNat&&&(4294967295%2^IntKind.u64.bits))=x%4294967296:=by
  rw[anJ];have mi:(x%18446744073709551616).toNat=x.toNat:=by omega
  rw[mi,show 4294967295%2^IntKind.u64.bits=2^32-1 from rfl,Nat.and_two_pow_sub_one_eq_mod,e0 (by omega) (by omega)];omega
theorem am6{dd:B}{v:Value}{a:List Int}{d:Int}(X:bC dd v a)(aR:0<d/\d<4294967296)(aE:Big a){aQ:Nat}(jF:dd.next<=aQ){Q:dr->aL->B->Prop}: ∀(n:Nat) (c:Int) (o:List Int) (m:B) (u:aL),
    n<=a.length->a0 dd m->m.M aQ=some ⟨o.map cT,true⟩->dx o->o.length=a.length->0<=c->c<d->val (a.drop n)=val (o.drop n)*d+c->
    u 0=v->u 1=cT d->u 6= .slice (some ⟨aQ,0,none⟩) a.length 1->u 7=br c->u 8=S ((n:Int)-1)->
    (∀ag N o c,a0 dd N->N.M aQ=some ⟨o.map cT,true⟩->dx o->o.length=a.length->0<=c->c<d->val a=val o*d+c->
      ag 6= .slice (some ⟨aQ,0,none⟩) a.length 1->ag 7=br c->Q (.bI 0) ag N)->ch Tryz.prog (.loop P3) u m Q
  | 0,c,o,m,u,ak,an,aj,aA,et,g1,cB,aU,bl,aH,db,cP,b3,bf=>by refine eT λb9 a9=> ?_;simp[P3,XK,XL,b3];exact bf _ _ o c an aj aA et g1 cB (by simpa using aU) (by simp[db]) (by simp[cP])
  | n+1,c,o,m,u,ak,an,aj,aA,et,g1,cB,aU,bl,aH,db,cP,b3,bf=>by refine eT λb9 a9=> ?_;have gb:=X.aD an;obtain⟨z,D,Z,aw⟩:=gb.len;have bK:(n:Int)<a.length:=(by omega);have bm:n<a.length:=(by omega);have bU:n+1<=a.length:=(by omega);have bn:=gb.j7 (i:=n) (by omega);have bF:=gb.fj (i:=n) (by omega);have gh:=hX X.1 n;obtain⟨t,bH⟩: ∃t,t=c*4294967296+ay a n:=⟨_,rfl⟩;have cd:0<=t:=(by omega);have ec:t<d*4294967296:=(by omega);have bo:IntKind.i64.wrap ((n:Int)-1)=(n:Int)-1:=ct (by omega) (by omega);have cS:IntKind.u64.wrap (ay a n)=ay a n:=e0 (by omega) (by omega);have fz:IntKind.u64.wrap (c*4294967296)=c*4294967296:=e0 (by omega) (by omega);have hT:IntKind.u64.wrap ↑((c*4294967296%2^IntKind.u64.bits).toNat|||(ay a n%2^IntKind.u64.bits).toNat)=t:=(by rw[AF (s:=32) (by decide) g1 gh.1 gh.2 (by omega)];omega);have hK:IntKind.u64.wrap d=d:=e0 (by omega) (by omega);have jC:0<=t/d:=Int.ediv_nonneg cd (by omega);have mA:t/d<4294967296:=Int.ediv_lt_of_lt_mul aR.1 (by rw[Int.mul_comm];exact ec);have po:=Int.emod_nonneg t (show d≠0 by omega);have e6:=Int.emod_lt_of_pos t aR.1;have iI:IntKind.u64.wrap (t.tdiv d)=t/d:=(by rw[Int.tdiv_eq_ediv_of_nonneg cd];exact e0 jC (by omega));have mR:t.tmod d=t%d:=Int.tmod_eq_emod_of_nonneg cd;have md:IntKind.u32.wrap (t/d)=t/d:=(by rw[iu];omega);have aru: ¬d=0:=(by omega);have cM:=aT aj;simp[P3,XK,XL,bl,aH,db,cP,b3,z,Z,bK,bU,bn,bF,bo,cS,fz,hT,hK,iI,mR,md,aru,aj,et];refine a9 _ _ (am6 X aR aE jF n (t%d) (o.set n (t/d)) _ _ (by omega) (an.au jF) (by rw[bX cM,m9]) (aA.set n (by omega)) (by simp[et]) po e6 (am7 aR.1 aU bH (by omega)) (by simp[bl]) (by simp[aH]) (by simp[db]) (by simp) (by simp) bf)
theorem aCO{m:B}{v:Value}{a:List Int}{d:Int}(X:bC m v a)(aR:0<d/\d<4294967296)(aE:Big a):
    bJ Tryz.prog 168 [v,cT d] m λr N=>a0 m N/\ ∃q,r= .tuple #[q,cT (val a%d)]/\bC N q (bG (val a/d)):=by
  rw[aqh (by simp)];obtain⟨z,D,Z,aw⟩:=X.len;have bo:IntKind.i64.wrap ((a.length:Int)-1)=(a.length:Int)-1:=ct (by omega) (by omega);simp[XJ,aii,aij,aik,ail,z,D,bo];have k5:a0 m ((m.bs 4).au (m.next+2) (some ⟨List.replicate a.length (.int .u32 0),true⟩)):=((a0.refl m).bs 4).au (by omega);refine⟨by omega,am6 X aR aE (aQ:=m.next+2) (by omega) a.length 0 (List.replicate a.length 0) _ _ (by omega) k5 (by rw[bX (by simp)];simp) (dx.vm _) (by simp) (by omega) (by omega) (by rw[List.drop_of_length_le (by omega),List.drop_of_length_le (by simp)];simp[val]) (by simp) (by simp) (by simp) (by simp) (by simp) λag N o c dk dV ew f4 jo mB nN ij wg=> ?_⟩;have J:bC N (.slice (some ⟨m.next+2,0,none⟩) a.length 1) o:=bC.se ew dV f4.symm;have Oh:= λaz=>m2 J (by omega) az;have ak:=kN o;have qy:(cJ o:Int)<=a.length:=by omega
  obtain⟨aM,a1⟩:=Df nN jo mB;have cS:IntKind.u32.wrap c=c:=by rw[iu];omega
  simp[ij,wg,Oh,qy,cS];have aR:=J.bG;rw[<-aM,AR]at aR;exact⟨dk,_,⟨rfl,a1.symm⟩,by simpa using aR⟩
theorem anO{dd:B}{v:Value}{a:List Int}{s:Nat}{G:Int}(dB:G=(2:Int)^s)(J:s<32)(nB:1<=G/\G<=2147483648)(X:bC dd v a)(aE:Big a){aQ:Nat}(jF:dd.next<=aQ){Q:dr->aL->B->Prop}: ∀(r i:Nat) (c:Int) (o:List Int) (m:B) (u:aL),
    i+r=a.length->a0 dd m->m.M aQ=some ⟨o.map cT,true⟩->dx o->o.length=a.length+1->0<=c->c<G->val (o.take i)+c*aZ i=val (a.take i)*G->
    u 0=v->u 1=br s->u 5= .slice (some ⟨aQ,0,none⟩) (a.length+1) 1->u 6=br c->u 13=v->u 14=S a.length->u 15=S i->
    (∀ag N o c,a0 dd N->N.M aQ=some ⟨o.map cT,true⟩->dx o->o.length=a.length+1->0<=c->c<G->val (o.take a.length)+c*aZ a.length=val a*G->
      ag 0=v->ag 5= .slice (some ⟨aQ,0,none⟩) (a.length+1) 1->ag 6=br c->Q (.bI 0) ag N)->ch Tryz.prog (.loop P4) u m Q
  | 0,i,c,o,m,u,aa,an,aj,aA,et,g1,cB,aU,bl,aH,cv,db,gw,hz,iR,bf=>by refine eT λb9 a9=> ?_;have e:i=a.length:=(by omega);subst e;simp[P4,XN,XO,XP,XQ,hz,iR];rw[List.take_of_length_le (l:=a) (by omega)]at aU;exact bf _ _ o c an aj aA et g1 cB aU (by simp[bl]) (by simp[cv]) (by simp[db])
  | r+1,i,c,o,m,u,aa,an,aj,aA,et,g1,cB,aU,bl,aH,cv,db,gw,hz,iR,bf=>by
    refine eT λb9 a9=> ?_;have gb:=X.aD an;obtain⟨z,D,Z,aw⟩:=gb.len;have bK:(i:Int)<a.length:=(by omega);have bm:(i:Int)<(a.length:Int)+1:=(by omega);have bU:i<=a.length:=(by omega);have cn:(i:Int)<=a.length:=(by omega);have bn:=gb.j7 (i:=i) (by omega);have bF:=gb.fj (i:=i) (by omega);have gh:=hX X.1 i;have aq:ay a i*G+G<=4294967296*G:=by have:=Int.mul_le_mul_of_nonneg_right (show ay a i+1<=4294967296 by omega) (show 0<=G by omega);rw[Int.add_mul,Int.one_mul]at this;exact this
    have VG:0<=ay a i*G:=Int.mul_nonneg gh.1 (by omega);obtain⟨t,bH⟩: ∃t,t=c+ay a i*G:=⟨_,rfl⟩;have bo:IntKind.i64.wrap ((i:Int)+1)=(i:Int)+1:=ct (by omega) (by omega);have cS:IntKind.u64.wrap (ay a i)=ay a i:=e0 (by omega) (by omega);have fz:IntKind.u64.wrap (ay a i*G)=ay a i*G:=e0 (by omega) (by omega);have hT:IntKind.u64.wrap ↑((c%2^IntKind.u64.bits).toNat|||(ay a i*G%2^IntKind.u64.bits).toNat)=t:=(by rw[alZ dB gh.1 g1 cB (by omega),bH]);have ir:min s 64=s:=(by omega);have cM:=aT aj;simp[P4,XN,XO,XP,XQ,aH,cv,db,gw,hz,iR,z,Z,bK,bm,bU,bn,bF,bo,cS,fz,hT,ir,<-dB,aj,et,iu,qo];refine a9 _ _ (anO dB J nB X aE jF r (i+1) (t/4294967296) (o.set i (t%4294967296)) _ _ (by omega) (an.au jF) (by rw[bX cM,m9]) (aA.set i (by omega)) (by simp[et]) (by omega) (by omega) (aDw aU bH (by omega)) (by simp[bl]) (by simp[aH]) (by simp[cv]) (by simp) (by simp[gw]) (by simp[hz]) (by simp) bf)
def ug(m:B)(n:Nat)(x:Int)(r:Value)(N:B):Prop:=a0 m N/\ ∃aQ o,r= .slice (some ⟨aQ,0,none⟩) n 1/\m.next<=aQ/\N.M aQ=some ⟨o.map cT,true⟩/\dx o/\o.length=n/\val o=x
theorem anP{m:B}{v:Value}{a:List Int}{s:Nat}{G:Int}(dB:G=(2:Int)^s)(J:s<32)(nB:1<=G/\G<=2147483648)(X:bC m v a)(aE:Big a):
    bJ Tryz.prog 169 [v,br s] m (ug m (a.length+1) (val a*G)):=by
  rw[aqi (by simp)];obtain⟨z,D,Z,aw⟩:=X.len;have bo:IntKind.i64.wrap ((a.length:Int)+1)=(a.length:Int)+1:=ct (by omega) (by omega);simp[XM,aim,ain,aio,aip,aiq,z,D,bo];have k5:a0 m ((m.bs 5).au (m.next+3) (some ⟨List.replicate (a.length+1) (.int .u32 0),true⟩)):=((a0.refl m).bs 5).au (by omega);refine⟨by omega,anO dB J nB X aE (aQ:=m.next+3) (by omega) a.length 0 0 (List.replicate (a.length+1) 0) _ _ (by omega) k5 (by rw[bX (by simp)];simp) (dx.vm _) (by simp) (by omega) (by omega) (by simp[val]) (by simp) (by simp) (by simp) (by simp) (by simp) (by simp) (by simp) λag N o c dk dV ew f4 jo mB nN bK fZ ij=> ?_⟩;have cM:=aT dV;simp[bK,fZ,ij,z,D,dV,f4,iu];refine⟨by omega,dk.au (by omega),m.next+3,o.set a.length (c%4294967296),rfl,by omega,by rw[bX cM,m9],ew.set _ (by omega),by simp[f4],?_⟩;have:=y1 (o:=o) (i:=a.length) (c%4294967296) (by omega);rw[List.take_of_length_le (by simp;omega)]at this;rw[this,show c%4294967296=c by omega,Int.mul_comm];exact nN
structure ld(fy:Nat)(m N:B):Prop where
  next:m.next<=N.next
  M: ∀b,b<m.next->b≠fy->N.M b=m.M b
theorem ld.refl(fy:Nat)(m:B):ld fy m m:=⟨Nat.le_refl _,λ_ _ _=>rfl⟩
theorem ld.trans{fy:Nat}{a b c:B}(h:ld fy a b)(ca:ld fy b c):ld fy a c:=⟨Nat.le_trans h.next ca.next,λx H L=>by rw[ca.M x (Nat.lt_of_lt_of_le H h.next) L,h.M x H L]⟩
theorem ld.au{fy:Nat}{m N:B}(h:ld fy m N){x:Option fO}:ld fy m (N.au fy x):=⟨h.next,λb L ak=>by rw[dv ak,h.M b L ak]⟩
theorem ld.fJ{fy:Nat}{m N:B}(h:a0 m N):ld fy m N:=⟨h.next,λb L _=>h.M b L⟩
theorem bC.pZ{m N:B}{v:Value}{l:List Int}{fy:Nat}(h:bC m v l)(L:ai v≠some fy)(an:ld fy m N):bC N v l:=by
  obtain⟨W,h|⟨b,o,cs,w,z,D,Z,aw⟩⟩:=h
  · exact⟨W,.inl h⟩
  · subst z;exact⟨W,.inr ⟨b,o,cs,w,rfl,by rw[an.M b (aT D) (by simpa[ai]using L),D],Z,aw⟩⟩
theorem R7{cf w C:List Int}{i:Nat}(h:i<w.length){x:Int}:(cf++w++C).set (cf.length+i) x=cf++w.set i x++C:=by rw[List.append_assoc,List.append_assoc,List.set_append_right _ _ (by omega),Nat.add_sub_cancel_left,List.set_append_left _ _ h]
theorem R6{cf w C:List Int}{i:Nat}(h:i<w.length):(cf++w++C)[cf.length+i]?=some (ay w i):=by rw[List.append_assoc,List.getElem?_append_right (by omega),Nat.add_sub_cancel_left,List.getElem?_append_left h,lU (List.getElem?_eq_getElem h),List.getElem?_eq_getElem h]
theorem NQ{w aJ:List Int}{i:Nat}(h:w.drop i=aJ.drop i):ay w i=ay aJ i:=by have z:=FK (l:=w) (i:=0) (n:=i);have D:=FK (l:=aJ) (i:=0) (n:=i);rw[h]at z;simpa using z.symm.trans D
theorem ann{dd:B}{v:Value}{e9 cf C aJ:List Int}{f:Int}{j n fy:Nat}(X:bC dd v e9)(L:ai v≠some fy)(ak:e9.length=n)(hF:n<35184372087809)(aI:0<=f/\f<4294967296)(cp:cf.length=j)(bk:dx aJ)(mF:aJ.length=n+1){Q:dr->aL->B->Prop}: ∀(r i:Nat) (c b:Int) (w K:List Int) (m:B) (u:aL),
    i+r=n->ld fy dd m->m.M fy=some ⟨K.map cT,true⟩->K=cf++w++C->dx w->w.length=n+1->w.drop i=aJ.drop i->0<=c->c<4294967296->0<=b->b<2->val (w.take i)=val (aJ.take i)-f*val (e9.take i)+(c+b)*aZ i->
    u 0= .slice (some ⟨fy,j,none⟩) (n+1) 1->u 1=v->u 2=br f->u 7=br c->u 8=br b->u 13=v->u 14=S n->u 15=S i->
    (∀ag N c b w K,ld fy dd N->N.M fy=some ⟨K.map cT,true⟩->K=cf++w++C->dx w->w.length=n+1->w.drop n=aJ.drop n->0<=c->c<4294967296->0<=b->b<2->val (w.take n)=val (aJ.take n)-f*val e9+(c+b)*aZ n->
      ag 0= .slice (some ⟨fy,j,none⟩) (n+1) 1->ag 1=v->ag 7=br c->ag 8=br b->Q (.bI 0) ag N)->ch Tryz.prog (.loop P5) u m Q
  | 0,i,c,b,w,K,m,u,aa,an,aj,de,aA,et,sE,g1,cB,mU,dt,aU,bl,aH,bD,cP,b3,gw,hz,iR,bf=>by refine eT λb9 a9=> ?_;have e:i=n:=(by omega);subst e;simp(disch:=first|omega|(simp only[ae,ad,af];omega)) [P5,XS,XT,XU,XV,XW,XX,hz,iR];rw[List.take_of_length_le (l:=e9) (by omega)]at aU;exact bf _ _ c b w K an aj de aA et sE g1 cB mU dt aU (by simp[bl]) (by simp[aH]) (by simp[cP]) (by simp[b3])
  | r+1,i,c,b,w,K,m,u,aa,an,aj,de,aA,et,sE,g1,cB,mU,dt,aU,bl,aH,bD,cP,b3,gw,hz,iR,bf=>by
    refine eT λb9 a9=> ?_;have gb:=X.pZ L an;obtain⟨z,D,Z,aw⟩:=gb.len;rw[ak]at z;have bK:(i:Int)<n:=(by omega);have bm:(i:Int)<(n:Int)+1:=(by omega);have bU:(i:Int)<=n:=(by omega);have bn:=gb.j7 (i:=i) (by omega);have bF:=gb.fj (i:=i) (by omega);have gh:=hX X.1 i;have TO:=hX bk i;have aq:=Sl aI gh;have pd:ay w i=ay aJ i:=NQ sE;have bY:K[j+i]?=some (ay aJ i):=(by rw[de,<-cp,R6 (by omega),pd]);obtain⟨pf,pT⟩:=List.getElem?_eq_some_iff.1 bY;have DY:j+i+1<=K.length:=(by omega);obtain⟨t,bH⟩: ∃t,t=c+f*ay e9 i:=⟨_,rfl⟩;have bo:IntKind.i64.wrap ((i:Int)+1)=(i:Int)+1:=ct (by omega) (by omega);have cS:IntKind.u64.wrap (ay e9 i)=ay e9 i:=e0 (by omega) (by omega);have fz:IntKind.u64.wrap (f*ay e9 i)=f*ay e9 i:=e0 (by omega) (by omega);have hT:IntKind.u64.wrap (c+f*ay e9 i)=t:=(by rw[e0 (by omega) (by omega),bH]);have hK:=api (x:=t) (by omega) (by omega);have iI:IntKind.u64.wrap (ay aJ i)=ay aJ i:=e0 (by omega) (by omega);obtain⟨O,mR,aM,a1⟩: ∃O,IntKind.u64.wrap (IntKind.u64.wrap (ay aJ i-t%4294967296)-b)=O/\O%4294967296=(ay aJ i-t%4294967296-b)%4294967296/\O/9223372036854775808= -((ay aJ i-t%4294967296-b)/4294967296):=⟨_,rfl,by rw[tZ,tZ];omega,by rw[tZ,tZ];omega⟩;obtain⟨d,aR⟩: ∃d,d=ay aJ i-t%4294967296-b:=⟨_,rfl⟩;rw[<-aR]at aM a1;have cM:=aT aj;simp(disch:=first|omega|(simp only[ae,ad,af];omega)) [P5,XS,XT,XU,XV,XW,XX,bl,bD,cP,b3,gw,hz,iR,z,Z,bK,bm,bn,bF,bo,cS,fz,hT,hK,iI,mR,aM,a1,aj,pT,DY,ks,iu,qo,ND];refine a9 _ _ (ann X L ak hF aI cp bk mF r (i+1) (t/4294967296) (-(d/4294967296)) (w.set i (d%4294967296)) (K.set (j+i) (d%4294967296)) _ _ (by omega) an.au (by rw[bX cM,m9]) (by rw[de,<-cp,R7 (by omega)]) (aA.set i (by omega)) (by simp[et]) ?_ (by omega) (by omega) (by omega) (by omega) ?_ (by simp[bl]) (by simp[aH]) (by simp[bD]) (by simp) (by simp) (by simp[gw]) (by simp[hz]) (by simp) bf)
    · rw[List.drop_set_of_lt (by omega),<-List.drop_drop (i:=1) (j:=i),<-List.drop_drop (i:=1) (j:=i),sE]
    · exact aC9 (aJ:=aJ) (b:=b) (c:=c) aU bH aR (by omega) (by omega)
def acq(m:B)(fy n:Nat)(cf C:List Int)(y:Int)(gu:Int)(N:B):Prop:=ld fy m N/\ ∃w K,N.M fy=some ⟨K.map cT,true⟩/\K=cf++w++C/\dx w/\w.length=n+1/\val w=y+gu*aZ (n+1)
def aoH(m:B)(fy n:Nat)(cf C:List Int)(y:Int)(r:Value)(N:B):Prop:= ∃k:Int,(k=0\/k=1)/\r= .bool (decide (k=1))/\acq m fy n cf C y k N
theorem aDa{m:B}{v:Value}{e9 cf C aJ K:List Int}{f:Int}{j n fy:Nat}(X:bC m v e9)(L:ai v≠some fy)(ak:e9.length=n)(hF:n<35184372087809)(aI:0<=f/\f<4294967296)(cp:cf.length=j)(bk:dx aJ)(mF:aJ.length=n+1)
    (aj:m.M fy=some ⟨K.map cT,true⟩) (de:K=cf++aJ++C):
    bJ Tryz.prog 170 [.slice (some ⟨fy,j,none⟩) (n+1) 1,v,br f] m (aoH m fy n cf C (val aJ-f*val e9)):=by
  rw[aqj (by simp)];obtain⟨z,D,Z,aw⟩:=X.len;rw[ak]at z;simp(disch:=first|omega|(simp only[ae,ad,af];omega)) [XR,air,aiu,aiv,ais,ait,z,D];refine ann X L ak hF aI cp bk mF n 0 0 0 aJ K m _ (by omega) (ld.refl _ _) aj de bk mF rfl (by omega) (by omega) (by omega) (by omega) (by simp[val]) (by simp) (by simp) (by simp) (by simp) (by simp) (by simp) (by simp) (by simp) λag N c b w dI dk dV ew f4 jo mB nN uq aH8 aH6 adF kP dK yP sf=> ?_;have gb:=X.pZ L dk;obtain⟨z,D,Z,aw⟩:=gb.len;rw[ak]at z;have pd:ay w n=ay aJ n:=NQ mB;have TO:=hX bk n;have bY:dI[j+n]?=some (ay aJ n):=by rw[ew,<-cp,R6 (by omega),pd]
  obtain⟨pf,pT⟩:=List.getElem?_eq_some_iff.1 bY;have DY:j+n+1<=dI.length:=by omega
  have bm:(n:Int)<(n:Int)+1:=by omega
  have iI:IntKind.u64.wrap (ay aJ n)=ay aJ n:=e0 (by omega) (by omega);obtain⟨d,aR⟩: ∃d,d=ay aJ n-c-b:=⟨_,rfl⟩;obtain⟨O,mR,aM,a1⟩: ∃O,IntKind.u64.wrap (IntKind.u64.wrap (ay aJ n-c)-b)=O/\O%4294967296=d%4294967296/\O/9223372036854775808= -(d/4294967296):=⟨_,rfl,by rw[tZ,tZ];omega,by rw[tZ,tZ];omega⟩;have cM:=aT dV;simp(disch:=first|omega|(simp only[ae,ad,af];omega)) [kP,dK,yP,sf,z,D,bm,iI,mR,aM,a1,dV,pT,DY,ks,iu,ND];refine⟨-(d/4294967296),by omega,by rfl,dk.au,w.set n (d%4294967296),dI.set (j+n) (d%4294967296),by rw[bX cM,m9],by rw[ew,<-cp,R7 (by omega)],f4.set n (by omega),by simp[jo],?_⟩;have aC:=y1 (o:=w) (i:=n) (d%4294967296) (by omega);rw[List.take_of_length_le (by simp;omega)]at aC;have a2:=o0 aJ n;rw[List.take_of_length_le (l:=aJ) (by omega)]at a2;have bS:=vg (t:=d) (bu:=4294967296) (by omega);rw[aC,a2,adF];simp only[aZ]
  grind
theorem ams{dd:B}{v:Value}{e9 cf C aJ:List Int}{j n fy:Nat}(X:bC dd v e9)(L:ai v≠some fy)(ak:e9.length=n)(hF:n<35184372087809)(cp:cf.length=j)(bk:dx aJ)(mF:aJ.length=n+1){Q:dr->aL->B->Prop}: ∀(r i:Nat) (c:Int) (w K:List Int) (m:B) (u:aL),
    i+r=n->ld fy dd m->m.M fy=some ⟨K.map cT,true⟩->K=cf++w++C->dx w->w.length=n+1->w.drop i=aJ.drop i->0<=c->c<2->val (w.take i)+c*aZ i=val (aJ.take i)+val (e9.take i)->
    u 0= .slice (some ⟨fy,j,none⟩) (n+1) 1->u 1=v->u 4=br c->u 7=v->u 8=S n->u 9=S i->
    (∀ag N c w K,ld fy dd N->N.M fy=some ⟨K.map cT,true⟩->K=cf++w++C->dx w->w.length=n+1->w.drop n=aJ.drop n->0<=c->c<2->val (w.take n)+c*aZ n=val (aJ.take n)+val e9->
      ag 0= .slice (some ⟨fy,j,none⟩) (n+1) 1->ag 1=v->ag 4=br c->Q (.bI 0) ag N)->ch Tryz.prog (.loop P6) u m Q
  | 0,i,c,w,K,m,u,aa,an,aj,de,aA,et,sE,g1,cB,aU,bl,aH,bL,cP,b3,cg,bf=>by refine eT λb9 a9=> ?_;have e:i=n:=(by omega);subst e;simp(disch:=first|omega|(simp only[ae,ad,af];omega)) [P6,XZ,X0,X1,X2,b3,cg];rw[List.take_of_length_le (l:=e9) (by omega)]at aU;exact bf _ _ c w K an aj de aA et sE g1 cB aU (by simp[bl]) (by simp[aH]) (by simp[bL])
  | r+1,i,c,w,K,m,u,aa,an,aj,de,aA,et,sE,g1,cB,aU,bl,aH,bL,cP,b3,cg,bf=>by refine eT λb9 a9=> ?_;have gb:=X.pZ L an;obtain⟨z,D,Z,aw⟩:=gb.len;rw[ak]at z;have bK:(i:Int)<n:=(by omega);have bm:(i:Int)<(n:Int)+1:=(by omega);have bU:(i:Int)<=n:=(by omega);have bn:=gb.j7 (i:=i) (by omega);have bF:=gb.fj (i:=i) (by omega);have gh:=hX X.1 i;have TO:=hX bk i;have pd:ay w i=ay aJ i:=NQ sE;have bY:K[j+i]?=some (ay aJ i):=(by rw[de,<-cp,R6 (by omega),pd]);obtain⟨pf,pT⟩:=List.getElem?_eq_some_iff.1 bY;have DY:j+i+1<=K.length:=(by omega);obtain⟨t,bH⟩: ∃t,t=c+ay aJ i+ay e9 i:=⟨_,rfl⟩;have bo:IntKind.i64.wrap ((i:Int)+1)=(i:Int)+1:=ct (by omega) (by omega);have cS:IntKind.u64.wrap (ay e9 i)=ay e9 i:=e0 (by omega) (by omega);have fz:IntKind.u64.wrap (ay aJ i)=ay aJ i:=e0 (by omega) (by omega);have hT:IntKind.u64.wrap (ay aJ i+ay e9 i)=ay aJ i+ay e9 i:=e0 (by omega) (by omega);have hK:IntKind.u64.wrap (c+(ay aJ i+ay e9 i))=t:=(by rw[e0 (by omega) (by omega)];omega);have cM:=aT aj;simp(disch:=first|omega|(simp only[ae,ad,af];omega)) [P6,XZ,X0,X1,X2,bl,bL,cP,b3,cg,z,Z,bK,bm,bn,bF,bo,cS,fz,hT,hK,aj,pT,DY,ks,iu,qo];refine a9 _ _ (ams X L ak hF cp bk mF r (i+1) (t/4294967296) (w.set i (t%4294967296)) (K.set (j+i) (t%4294967296)) _ _ (by omega) an.au (by rw[bX cM,m9]) (by rw[de,<-cp,R7 (by omega)]) (aA.set i (by omega)) (by simp[et]) ?_ (by omega) (by omega) (TG aU bH (by omega)) (by simp[bl]) (by simp[aH]) (by simp) (by simp[cP]) (by simp[b3]) (by simp) bf);rw[List.drop_set_of_lt (by omega),<-List.drop_drop (i:=1) (j:=i),<-List.drop_drop (i:=1) (j:=i),sE]
def aoF(m:B)(fy n:Nat)(cf C:List Int)(y:Int)(r:Value)(N:B):Prop:= ∃k:Int,(k=0\/k=1)/\acq m fy n cf C y (-k) N
theorem aBq{m:B}{v:Value}{e9 cf C aJ K:List Int}{j n fy:Nat}(X:bC m v e9)(L:ai v≠some fy)(ak:e9.length=n)(hF:n<35184372087809)(cp:cf.length=j)(bk:dx aJ)(mF:aJ.length=n+1)
    (aj:m.M fy=some ⟨K.map cT,true⟩) (de:K=cf++aJ++C):
    bJ Tryz.prog 171 [.slice (some ⟨fy,j,none⟩) (n+1) 1,v] m (aoF m fy n cf C (val aJ+val e9)):=by
  rw[aqk (by simp)];obtain⟨z,D,Z,aw⟩:=X.len;rw[ak]at z;simp(disch:=first|omega|(simp only[ae,ad,af];omega)) [XY,aiw,z,D];refine ams X L ak hF cp bk mF n 0 0 aJ K m _ (by omega) (ld.refl _ _) aj de bk mF rfl (by omega) (by omega) (by simp[val]) (by simp) (by simp) (by simp) (by simp) (by simp) (by simp) λag N c w dI dk dV ew f4 jo mB nN uq adF kP dK hN=> ?_;have gb:=X.pZ L dk;obtain⟨z,D,Z,aw⟩:=gb.len;rw[ak]at z;have pd:ay w n=ay aJ n:=NQ mB;have TO:=hX bk n;have bY:dI[j+n]?=some (ay aJ n):=by rw[ew,<-cp,R6 (by omega),pd]
  obtain⟨pf,pT⟩:=List.getElem?_eq_some_iff.1 bY;have DY:j+n+1<=dI.length:=by omega
  have bm:(n:Int)<(n:Int)+1:=by omega
  obtain⟨d,aR⟩: ∃d,d=ay aJ n+c:=⟨_,rfl⟩;have cS:IntKind.u32.wrap c=c:=by rw[iu];omega
  have fz:IntKind.u32.wrap (ay aJ n+c)=d%4294967296:=by rw[iu,aR]
  have cM:=aT dV;simp(disch:=first|omega|(simp only[ae,ad,af];omega)) [kP,dK,hN,z,D,bm,cS,fz,dV,pT,DY,ks];refine⟨d/4294967296,by omega,dk.au,w.set n (d%4294967296),dI.set (j+n) (d%4294967296),by rw[bX cM,m9],by rw[ew,<-cp,R7 (by omega)],f4.set n (by omega),by simp[jo],?_⟩;have aC:=y1 (o:=w) (i:=n) (d%4294967296) (by omega);rw[List.take_of_length_le (by simp;omega)]at aC;have a2:=o0 aJ n;rw[List.take_of_length_le (l:=aJ) (by omega)]at a2;have bS:=vg (t:=d) (bu:=4294967296) (by omega);rw[aC,a2];simp only[aZ]
  grind
end Go.Proofs.YtkpifdkccdndcaaGreat
namespace Go.Big
theorem MF{l:List Int}{n:Nat}(aG:l.length=n+1):val l=ay l n*aZ n+val (l.take n):=by
  have z:=AY l n (by omega);have D:=rP l n;have Z:val (l.drop (n+1))=0:=by rw[List.drop_of_length_le (by omega)];rfl
  rw[Z]at D;rw[z,D];grind
theorem aCL{b o:List Int}{n:Nat}{G aV:Int}(L:dx b)(aG:b.length=n+1)(dB:0<G)(pK:G*aV=4294967296)(z:2147483648<=ay b n*G)(D:ay b n*G<4294967296)(an:dx o)(et:o.length=n+2)(X:val o=val b*G):
    val (o.take (n+1))=val b*G/\2147483648<=ay (o.take (n+1)) n/\aZ n*G<=val b*G:=by
  have H:=hX L n;have aq:=k8 n;have t:=MF aG;have TM:=il (L.take n);rw[List.length_take,Nat.min_eq_left (by omega)]at TM;have lJ:ay b n+1<=aV:=by
    by_cases h:ay b n+1<=aV
    · exact h
    · have:G*aV<=G*ay b n:=Int.mul_le_mul_of_nonneg_left (by omega) (by omega);rw[Int.mul_comm G (ay b n)]at this;omega
  have aM:(ay b n+1)*G<=4294967296:=by have:=Int.mul_le_mul_of_nonneg_left lJ (show 0<=G by omega);rw[pK,Int.mul_comm]at this;exact this
  have a1:val b<(ay b n+1)*aZ n:=by rw[t];grind
  have cI:val b*G<4294967296*aZ n:=by have bn:val b*G<(ay b n+1)*aZ n*G:=Int.mul_lt_mul_of_pos_right a1 dB;have bF:(ay b n+1)*G*aZ n<=4294967296*aZ n:=Int.mul_le_mul_of_nonneg_right aM (by omega);have dp:(ay b n+1)*aZ n*G=(ay b n+1)*G*aZ n:=(by grind);omega
  have sr:=MF (l:=o) (n:=n+1) (by omega);have apx:=il (an.take (n+1));rw[List.length_take,Nat.min_eq_left (by omega)]at apx;have a4:=hX an (n+1);have afl:aZ (n+1)=4294967296*aZ n:=rfl;have vl:ay o (n+1)=0:=by
    by_cases h:ay o (n+1)=0
    · exact h
    · have:1*aZ (n+1)<=ay o (n+1)*aZ (n+1):=Int.mul_le_mul_of_nonneg_right (by omega) (by omega);omega
  have CK:val (o.take (n+1))=val b*G:=by rw[vl]at sr;omega
  have atx:1<=ay b n:=by
    by_cases h:1<=ay b n
    · exact h
    · have:ay b n=0:=(by omega);rw[this]at z;omega
  refine⟨CK,?_,?_⟩
  · have iG:=MF (l:=o.take (n+1)) (n:=n) (by simp;omega);have dJ:=il ((an.take (n+1)).take n);rw[List.length_take,List.length_take,Nat.min_eq_left (by omega)]at dJ;have bn:ay b n*aZ n<=val b:=(by omega);have bF:ay b n*aZ n*G<=val b*G:=Int.mul_le_mul_of_nonneg_right bn (by omega);have dp:ay b n*aZ n*G=ay b n*G*aZ n:=(by grind);have eH:2147483648*aZ n<=ay b n*G*aZ n:=Int.mul_le_mul_of_nonneg_right z (by omega);by_cases h:2147483648<=ay (o.take (n+1)) n
    · exact h
    · have:ay (o.take (n+1)) n*aZ n<=2147483647*aZ n:=Int.mul_le_mul_of_nonneg_right (by omega) (by omega);omega
  · have bn:1*aZ n<=ay b n*aZ n:=Int.mul_le_mul_of_nonneg_right atx (by omega);exact Int.mul_le_mul_of_nonneg_right (by omega) (by omega)
theorem pA.aC1{cf cr:Int}{n na k:Nat}{aJ:List Int}{a G:Int}(bk:dx aJ)(mF:aJ.length=k+(n+1))(W:na+1=k+(n+1))(jX:val aJ=cf)(aID:cf=a*G)(aE:a<aZ na)(dB:0<G)(kr:aZ n*G<=cr):
    pA cf cr (n+1) aJ (List.replicate k 0) k:=by
  refine⟨bk,dx.vm k,by simp;omega,λi x aa H=> ?_,?_,?_⟩
  · have:=(List.getElem?_eq_some_iff.1 H).1;omega
  · rw[List.take_of_length_le (by simp;omega)];have z:=AY aJ k (by omega);have D:=(il (bk.take k)).1;have Z:aZ na=aZ k*aZ n:=(by rw[<-AH];congr 1;omega);have aw:a*G<aZ na*G:=Int.mul_lt_mul_of_pos_right aE dB;have aq:=k8 k;by_cases h:val (aJ.drop k)<cr
    · exact h
    · have aX:aZ k*(aZ n*G)<=aZ k*val (aJ.drop k):=Int.mul_le_mul_of_nonneg_left (by omega) (by omega);have cC:aZ k*(aZ n*G)=aZ na*G:=(by rw[Z];grind);omega
  · rw[List.drop_of_length_le (by simp),jX];simp[val]
theorem asL{dU next P e9 iM hr jy nu cr cT:Int}(x8:0<P)(r4:0<=e9)(kr:cr=(dU*4294967296+next)*P+e9)(x9:cT=((iM*4294967296+hr)*4294967296+jy)*P+nu)(mF:nu<P)(bH:0<dU)(ak:0<=next)(vO:jy<4294967296)(Jm:0<=iM*4294967296+hr):
    cT<((iM*4294967296+hr)/dU+1)*cr:=by
  obtain⟨g,aj⟩: ∃g,g=(iM*4294967296+hr)/dU:=⟨_,rfl⟩;have a4:0<=g:=by rw[aj];exact Int.ediv_nonneg Jm (by omega)
  have z:iM*4294967296+hr<(g+1)*dU:=by have bn:=Int.emod_add_mul_ediv (iM*4294967296+hr) dU;have bF:=Int.emod_lt_of_pos (iM*4294967296+hr) bH;rw[<-aj]at bn;have:(g+1)*dU=dU*g+dU:=(by grind);omega
  rw[<-aj];have D:((iM*4294967296+hr)*4294967296+jy+1)*P<=((g+1)*dU*4294967296)*P:=Int.mul_le_mul_of_nonneg_right (by omega) (by omega);have Z:0<=(g+1)*next*P:=Int.mul_nonneg (Int.mul_nonneg (by omega) ak) (by omega)
  have aw:0<=(g+1)*e9:=Int.mul_nonneg (by omega) r4;have aX:(g+1)*cr=(g+1)*dU*4294967296*P+(g+1)*next*P+(g+1)*e9:=by rw[kr];grind
  have cC:((iM*4294967296+hr)*4294967296+jy+1)*P=((iM*4294967296+hr)*4294967296+jy)*P+P:=by grind
  omega
theorem aDl{dU next P e9 iM hr jy nu cr cT:Int}(x8:0<P)(r4:e9<P)(kr:cr=(dU*4294967296+next)*P+e9)(x9:cT=((iM*4294967296+hr)*4294967296+jy)*P+nu)(mF:0<=nu)(ak:next<4294967296)(bB:0<=jy)(z:0<=hr)(h:cT<cr*4294967296):iM<=dU:=by
  by_cases aB:iM<=dU
  · exact aB
  · have bn:(dU*4294967296+next+1)*P<=((dU+1)*4294967296)*P:=Int.mul_le_mul_of_nonneg_right (by omega) (by omega);have bF:(dU*4294967296+next+1)*P=(dU*4294967296+next)*P+P:=(by grind);have dp:((dU+1)*4294967296*4294967296)*P<=((iM*4294967296+hr)*4294967296+jy)*P:=Int.mul_le_mul_of_nonneg_right (by omega) (by omega);have eH:((dU+1)*4294967296*4294967296)*P=((dU+1)*4294967296)*P*4294967296:=(by grind);omega
end Go.Big
