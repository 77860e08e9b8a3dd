/- A part of the proof. -/
import Derived.Test.YtmmkkggfmigppaaGreatZdzae
set_option linter.all false
set_option maxRecDepth 20000
set_option maxHeartbeats 16000000
noncomputable section
namespace Go.Proofs.YtmmkkggfmigppaaGreat
open Go Go.DI Go.Big Go.EL
def Gy(u:AL)(r:List Int)(i:Nat):Int:=((r.countP λx=>Fo u i (CI u x.toNat):Nat):Int)
def Xz(u:AL)(L:List (List Int))(v:Nat):List Ah:=
 ⟨0,2+v,CD u v,CD u v⟩::((List.range (u.A5.length-1)).map (λj=>⟨Ap u v (D1 u (j+1)),Ap u v (j+1),IF u v (j+1),Gy u (L.getD v []) (j+1)⟩)++
  ((List.range u.A4.length).filter (Fk u v)).map λd=>⟨Ap u v (CI u d),AI u d,1,if(d:Int)∈L.getD v []then 1 else 0⟩)
def Pm(u:AL)(R:List Int)(L:List (List Int)):List Ah:=(List.range u.A3.length).flatMap (Xz u L)++(List.range u.A4.length).map λd=>⟨AI u d,1,CN u R d,((L.flatten.count (d:Int):Nat):Int)⟩
def Nu(a:Ah):Ah:=⟨a.f,a.t,a.c,0⟩
def Is(u:AL)(R:List Int)(L:List (List Int)):List Int:=(Pm u R L).map (·.k)
variable{L Fin:List (List Int)}{R l N:List Int}{u:AL}{a:Ah}{i v d:Nat}{x:Int}{C:Type}{p:Int->Int}{S:List EB}{w:Bool}
theorem dm:(Pm u R L).map Nu=Ak u R:=by unfold Pm Ak;rw[Gs,List.map_flatMap,List.map_map];congr 1;congr 1;funext v;simp only[Xz,Gv,Dl,Gs,List.map_map];rfl
theorem wA{g:Ah->Int->Int}: ∀{bT:List Ah},CR g (bT.map Nu) (bT.map (·.k))=FP (λa=>g (Nu a) a.k) bT
 |[]=>rfl
 |a::bT=>by simp only[Dl,CR,FP,wA (bT:=bT)]
theorem vF(h:a∈Pm u R L):(∃v,v<u.A3.length/\(a=⟨0,2+v,CD u v,CD u v⟩\/(∃j,j<u.A5.length-1/\a=⟨Ap u v (D1 u (j+1)),Ap u v (j+1),IF u v (j+1),Gy u (L.getD v []) (j+1)⟩)\/
 ∃d,d<u.A4.length/\Fk u v d=true/\a=⟨Ap u v (CI u d),AI u d,1,if(d:Int)∈L.getD v []then 1 else 0⟩))\/ ∃d,d<u.A4.length/\a=⟨AI u d,1,CN u R d,((L.flatten.count (d:Int):Nat):Int)⟩:=by
 unfold Pm Xz at h;simp only[D2,M6,G3,CZ,CG,List.mem_filter]at h;rcases h with⟨v,b,h|⟨j,e,h⟩|⟨d,⟨c,f⟩,h⟩⟩|⟨d,c,h⟩
 ·exact .inl ⟨v,b,.inl h⟩
 ·exact .inl ⟨v,b,.inr (.inl ⟨j,e,h.symm⟩)⟩
 ·exact .inl ⟨v,b,.inr (.inr ⟨d,c,f,h.symm⟩)⟩
 ·exact .inr ⟨d,c,h.symm⟩
theorem qq{u:AL}{R:List Int}{L:List (List Int)}{i:Nat}{a:Ah}{e:Int}(c:(Ak u R)[i]?=some a)(d:(Is u R L)[i]?=some e): ∃b∈Pm u R L,Nu b=a/\b.k=e:=by
 rw[<-dm (L:=L),GX]at c;unfold Is at d;rw[GX]at d;cases hb:(Pm u R L)[i]? with
 |none=>rw[hb]at c;simp at c
 | some b=>rw[hb]at c d;simp at c d;exact⟨b,B5 hb,c,d⟩
theorem YE{f g:Nat->Int}: ∀{n:Nat},BO (λv=>f v+g v) n=BO f n+BO g n
 |0=>rfl
 |n+1=>by simp only[BO,YE (n:=n)];omega
theorem xJ{f g:Nat->Int}: ∀{n:Nat},BO (λv=>f v-g v) n=BO f n-BO g n
 |0=>rfl
 |n+1=>by simp only[BO,xJ (n:=n)];omega
theorem uy{g:Ah->Int}{f:Nat->Ah}{q:Nat->Bool}: ∀{n:Nat},FP g (((List.range n).filter q).map f)=BO (λd=>if q d=true then g (f d)else 0) n
 |0=>rfl
 | n+1=>by rw[MV,S7,Gs,N1,uy (n:=n)];simp only[BO,List.filter_cons,List.filter_nil];split<;>simp[FP]
theorem a4z(h:BS u): ∀m,m<u.A5.length->Fo u 0 m=true:= λm=>by
 induction m using Nat.strongRecOn with
 | ind m c=>
   intro a;rcases Sg m with rfl|b
   ·exact Vf
   ·have d:=(h.Hn a (h.I5 a b)).1;rw[Td h a b (by omega)];exact c _ d (by omega)
theorem a3s(h:BS u)(g:i<u.A5.length): ∀m,m<u.A5.length->(if Fo u i m=true then(1:Int)else 0)=BO (λj=>if D1 u (j+1)=i/\Fo u (j+1) m=true then 1 else 0) (u.A5.length-1)+(if m=i then 1 else 0):= λm=>by
 induction m using Nat.strongRecOn with
 | ind m l=>
   intro b;by_cases e:m=i
   ·subst e;rw[Vf,if_pos rfl,if_pos rfl,Gm λj f=>if_neg λq=> ?_]
    ·omega
    ·have:=iu h (i:=j+1) (by omega) (by omega);rw[q.1]at this;rw[this]at q;exact absurd q.2 (by simp)
   ·rw[if_neg e];rcases Sg m with rfl|d
    ·rw[eZ h g (by omega),Gm λj f=>if_neg λq=> ?_]
     ·rfl
     ·rw[eZ h (by omega) (by omega)]at q;exact absurd q.2 (by simp)
    ·have n:=(h.Hn b (h.I5 b d)).1;have o:=l _ n (by omega);rw[Td h b d e];by_cases c:D1 u m=i
     ·rw[c,Vf,if_pos rfl,NN (k:=m-1) (c:=1) (by omega) λj f=> ?_]
      ·rfl
      ·by_cases a:j=m-1
       ·have:j+1=m:=(by omega);rw[this,Vf,if_pos ⟨c,rfl⟩,if_pos a]
       ·rw[if_neg a,if_neg λq=> ?_];have:=iu h (i:=j+1) (by omega) (by omega);rw[Td h b d (by omega),c,<-q.1,this]at q;exact absurd q.2 (by simp)
     ·rw[o,if_neg c];congr 1;refine Gw λj f=> ?_;by_cases a:D1 u (j+1)=i
      ·have:m≠j+1:= λq=>c (by rw[q];exact a);rw[Td h b d this]
      ·rw[if_neg λq=>a q.1,if_neg λq=>a q.1]
theorem oQ{u:AL}(h:BS u){i:Nat}(b:i<u.A5.length): ∀{r:List Int},(∀x∈r,CI u x.toNat<u.A5.length)->Gy u r i=BO (λj=>if D1 u (j+1)=i then Gy u r (j+1)else 0) (u.A5.length-1)+((r.countP λx=>decide (CI u x.toNat=i):Nat):Int)
 | [],_=>by rw[Gm λj _=>by simp[Gy]];simp[Gy]
 | x::r,d=>by
   have f:=oQ h b (r:=r) λy g=>d y (by simp[g]);have l:=a3s h b _ (d x (by simp));have e: ∀k,Gy u (x::r) k=Gy u r k+(if Fo u k (CI u x.toNat)=true then 1 else 0):= λk=>by unfold Gy;rw[Nt];split<;>simp
   rw[e,f,l,Nt];have m:BO (λj=>if D1 u (j+1)=i then Gy u (x::r) (j+1)else 0) (u.A5.length-1)=BO (λj=>if D1 u (j+1)=i then Gy u r (j+1)else 0) (u.A5.length-1)+BO (λj=>if D1 u (j+1)=i/\Fo u (j+1) (CI u x.toNat)=true then 1 else 0) (u.A5.length-1):=by
    rw[<-YE];refine Gw λj _=> ?_;rw[e];by_cases c:D1 u (j+1)=i
    ·rw[if_pos c,if_pos c];by_cases a:Fo u (j+1) (CI u x.toNat)=true
     ·rw[if_pos a,if_pos ⟨c,a⟩]
     ·rw[if_neg a,if_neg λq=>a q.2]
    ·rw[if_neg c,if_neg c,if_neg λq=>c q.1];rfl
   rw[m];by_cases c:CI u x.toNat=i
   ·simp[c];omega
   ·simp[c];omega
theorem uc{n:Nat}{p:Nat->Bool}: ∀{r:List Int},r.Nodup->(∀x∈r,∃d:Nat,x=d/\d<n)->((r.countP λx=>p x.toNat:Nat):Int)=BO (λd=>if(d:Int)∈r/\p d=true then 1 else 0) n
 |[],_,_=>by rw[Gm λd _=>by simp];rfl
 | x::r,f,a=>by
   obtain⟨g,h⟩:=J9.1 f;obtain⟨e,rfl,i⟩:=a x (by simp);rw[Nt,N5,uc h λy j=>a y (by simp[j])];have:BO (λd=>if(d:Int)∈(e:Int)::r/\p d=true then(1:Int)else 0) n=BO (λd=>if(d:Int)∈r/\p d=true then 1 else 0) n+BO (λd=>if d=e then(if p e=true then 1 else 0)else 0) n:=by
    rw[<-YE];refine Gw λd _=> ?_;by_cases c:d=e
    ·subst c;have: ¬((d:Int)∈r/\p d=true):= λq=>g q.1;rw[if_neg this,if_pos rfl];by_cases b:p d=true
     ·simp[b]
     ·simp[b]
    ·have:((d:Int)∈(e:Int)::r)↔(d:Int)∈r:=by
      rw[CZ];exact⟨λq=>q.elim (λq=>absurd (by omega) c) id,.inr⟩
     simp only[this,if_neg c];omega
   rw[this,Oq i];congr 1;split<;>simp_all
theorem a3z(h:BS u)(n:2<=x)(f:x<AI u u.A4.length):(∃v i,v<u.A3.length/\i<u.A5.length/\x=Ap u v i)\/ ∃d,d<u.A4.length/\x=AI u d:=by
 have g:=h.D6;by_cases c:AI u 0<=x
 ·refine .inr ⟨(x-AI u 0).toNat,?_,?_⟩
  ·rw[FX]at f;omega
  ·rw[FX];omega
 ·obtain⟨a,j⟩: ∃a:Nat,u.A5.length=a+1:=⟨u.A5.length-1,by omega⟩;by_cases o:x<2+u.A3.length
  ·exact .inl ⟨(x-2).toNat,0,by omega,g,by simp[Ap];omega⟩
  ·have k:((u.A5.length:Int)-1)=a:=(by omega);have p:AI u 0=2+u.A3.length+u.A3.length*(a:Int):=by
    unfold AI;rw[j];push_cast;grind
   obtain⟨y,l⟩: ∃y:Nat,x=2+u.A3.length+y:=⟨(x-2-u.A3.length).toNat,by omega⟩;have b:y<u.A3.length*a:=(by have:(y:Int)<((u.A3.length*a:Nat):Int):=(by push_cast;omega);omega);have m:0<a:=by
    rcases Sg a with q|q
    ·rw[q]at b;omega
    ·exact q
   refine .inl ⟨y/a,y%a+1,Nat.div_lt_of_lt_mul (by rw[Nat.mul_comm];exact b),by have:=Nat.mod_lt y m;omega,?_⟩;unfold Ap;rw[if_neg (by omega),k,l];have:=Nat.div_add_mod y a;have e:((y/a:Nat):Int)*a+((y%a:Nat):Int)=y:=by rw[<-Int.natCast_mul,<-N5];congr 1;rw[Nat.mul_comm];exact this
   push_cast at e⊢
   omega
theorem ik{y a:Int}:Bd x y a=if x=y then a else 0:=rfl
theorem XV(h:BS u)(y:Oj u R L):DT (D0 u R) (Is u R L)/\value (D0 u R) (Is u R L)=Dr u:=by
 have G:=h.D6;have A8:=I6 h;have C: ∀{v},v<u.A3.length->L[v]?=some (L.getD v []):= λ{v} l=>by have e:L[v]?=some (L[v]'(by rw[y.len];exact l)):=AP (by rw[y.len];exact l);rw[E1,e];rfl
 have H: ∀{v},v<u.A3.length-> ∀x∈L.getD v [],∃d:Nat,x=d/\d<u.A4.length/\Fk u v d=true:= λ{v} l=>y.LG v _ (C l);have Q: ∀{v},v<u.A3.length-> ∀x∈L.getD v [],CI u x.toNat<u.A5.length:= λ{v} l x z=>by obtain⟨d,rfl,r,_⟩:=H l x z;exact(Gq h r).1
 have S: ∀x,CR (λa J=>Bd a.f x J-Bd a.t x J) (Ak u R) (Is u R L)=BO (λv=>(Bd 0 x (CD u v)-Bd (2+v) x (CD u v))+(BO (λj=>Bd (Ap u v (D1 u (j+1))) x (Gy u (L.getD v []) (j+1))-Bd (Ap u v (j+1)) x (Gy u (L.getD v []) (j+1))) (u.A5.length-1)+
  BO (λd=>if Fk u v d=true then Bd (Ap u v (CI u d)) x (if(d:Int)∈L.getD v []then 1 else 0)-Bd (AI u d) x (if(d:Int)∈L.getD v []then 1 else 0)else 0) u.A4.length)) u.A3.length+
  BO (λd=>Bd (AI u d) x ((L.flatten.count (d:Int):Nat):Int)-Bd 1 x ((L.flatten.count (d:Int):Nat):Int)) u.A4.length:= λx=>by
  rw[<-dm (L:=L)];unfold Is;rw[wA];unfold Pm Xz;rw[N1,Tg,TZ];simp only[FP,N1,TZ,uy,Nu]
 refine⟨⟨⟨?_,λi a J W X=> ?_⟩,λx z Y Z=> ?_⟩,?_⟩
 ·show(Is u R L).length=(Ak u R).length;rw[<-dm (L:=L)];simp[Is]
 ·obtain⟨b,hb,rfl,rfl⟩:=qq W X;rcases vF hb with⟨v,l,rfl|⟨j,s,rfl⟩|⟨d,r,I,rfl⟩⟩|⟨d,r,rfl⟩
  ·have:=L3 h l;simp only[Nu];omega
  ·have:=y.aLW v _ (C l) (j+1) (by omega) (by omega);simp only[Nu,Gy];omega
  ·simp only[Nu];split<;>omega
  ·have:=y.EO d r;simp only[Nu];omega
 ·have A0:2<=x:=by
   have: ¬x=0:=Y;have: ¬x=1:=Z;have:=z.1;omega
  show Cx (Ak u R) (Is u R L) x=0;rw[UE,S];rcases a3z h A0 z.2 with⟨w,i,T,D,rfl⟩|⟨e,U,rfl⟩
  ·have A9:=E7 h T D;rw[Gm (n:=u.A4.length) λd r=> ?_,Gm (n:=u.A3.length) λv l=> ?_]
   ·rfl
   ·have AA:=E7 h l G;have E:Ap u v 0=2+(v:Int):=(by simp[Ap]);have V:Bd 0 (Ap u w i) (CD u v)=0:=if_neg (by omega);by_cases c:v=w
    ·subst c;have A1:Bd (2+v) (Ap u v i) (CD u v)=if i=0 then CD u v else 0:=by
      rw[ik];by_cases q:i=0
      ·subst q;rw[if_pos E.symm,if_pos rfl]
      ·rw[if_neg q,if_neg λo=>q ((KN h l l G D (E.trans o)).2.symm)]
     have A: ∀{j},j<u.A5.length-> ∀c,Bd (Ap u v j) (Ap u v i) c=if j=i then c else 0:= λ{j} s c=>by
      rw[ik];by_cases q:j=i
      ·subst q;rw[if_pos rfl,if_pos rfl]
      ·rw[if_neg q,if_neg λo=>q (KN h l l s D o).2]
     rw[V,A1];rw[Gw (n:=u.A5.length-1) (g:= λj=>(if D1 u (j+1)=i then Gy u (L.getD v []) (j+1)else 0)-(if j+1=i then Gy u (L.getD v []) (j+1)else 0)) λj s=>by have K:=(h.Hn (i:=j+1) (by omega) (h.I5 (by omega) (by omega))).1;rw[A (by omega),A (by omega)]];rw[xJ,Gw (n:=u.A4.length) (g:= λd=>if(d:Int)∈L.getD v []/\decide (CI u d=i)=true then 1 else 0) λd r=>by
      have:Bd (AI u d) (Ap u v i) (if(d:Int)∈L.getD v []then 1 else 0)=0:=if_neg (by have:=FX (u:=u) d;omega);rw[this,A (Gq h r).1];by_cases q:(d:Int)∈L.getD v []
      ·obtain⟨M,A2,_,I⟩:=H l _ q;obtain rfl:d=M:=(by omega);rw[if_pos I,if_pos q];by_cases o:CI u d=i
       ·rw[if_pos o,if_pos ⟨q,decide_eq_true o⟩];rfl
       ·rw[if_neg o,if_neg λB=>o (of_decide_eq_true B.2)];rfl
      ·rw[if_neg q,if_neg (show¬((d:Int)∈L.getD v []/\decide (CI u d=i)=true)from λB=>q B.1)];split<;>simp]
     rw[<-uc (p:= λm=>decide (CI u m=i)) (y.Cg v _ (C l)) λx z=>by obtain⟨d,e,r,_⟩:=H l x z;exact⟨d,e,r⟩];have AB:=oQ h D (Q l);by_cases q:i=0
     ·subst q;rw[if_pos rfl,Gm (f:= λj=>if j+1=0 then Gy u (L.getD v []) (j+1)else 0) λj _=>if_neg (by omega)];have:Gy u (L.getD v []) 0=CD u v:=by
       rw[<-y.Ds v _ (C l)];unfold Gy;rw[List.countP_eq_length.2 λx z=>a4z h _ (Q l x z)]
      omega
     ·rw[if_neg q,NN (f:= λj=>if j+1=i then Gy u (L.getD v []) (j+1)else 0) (k:=i-1) (c:=Gy u (L.getD v []) i) (by omega) λj s=>by
       by_cases o:j=i-1
       ·rw[if_pos o,if_pos (by omega),show j+1=i by omega]
       ·rw[if_neg o,if_neg (by omega)]]
      omega
    ·have A: ∀{j},j<u.A5.length-> ∀c,Bd (Ap u v j) (Ap u w i) c=0:= λ{j} s _=>if_neg λq=>c (KN h l T s D q).1;rw[V,<-E,A G,Gm λj s=> ?_,Gm λd r=> ?_]
     ·rfl
     ·have:Bd (AI u d) (Ap u w i) (if(d:Int)∈L.getD v []then 1 else 0)=0:=if_neg (by have:=FX (u:=u) d;omega);rw[this,A (Gq h r).1];split<;>rfl
     ·have K:=(h.Hn (i:=j+1) (by omega) (h.I5 (by omega) (by omega))).1;rw[A (by omega),A (by omega)];rfl
   ·have N:Bd (AI u d) (Ap u w i) ((L.flatten.count (d:Int):Nat):Int)=0:=if_neg (by have:=FX (u:=u) d;omega);have O:Bd 1 (Ap u w i) ((L.flatten.count (d:Int):Nat):Int)=0:=if_neg (by omega);rw[N,O];rfl
  ·have AD:=FX (u:=u) e;have P: ∀c,Bd 0 (AI u e) c=0:= λ_=>if_neg (by omega);have o: ∀{v j},v<u.A3.length->j<u.A5.length-> ∀c,Bd (Ap u v j) (AI u e) c=0:= λ{v j} l s _=>if_neg (by have:=E7 h l s;omega);have B: ∀d c,Bd (AI u d) (AI u e) c=if d=e then c else 0:= λd c=>by
    have AE:=FX (u:=u) d;rw[ik];by_cases q:d=e
    ·subst q;rw[if_pos rfl,if_pos rfl]
    ·rw[if_neg q,if_neg (by omega)]
   have A6: ∀c,Bd 1 (AI u e) c=0:= λ_=>if_neg (by omega);rw[NN (n:=u.A4.length) (k:=e) (c:=((L.flatten.count (e:Int):Nat):Int)) U λd r=>by
    rw[B,A6];by_cases q:d=e
    ·subst q;simp
    ·rw[if_neg q,if_neg q];rfl]
   rw[rO,y.len,<-YE,Gm λv l=> ?_];have E:Ap u v 0=2+(v:Int):=(by simp[Ap]);rw[P,<-E,o l G,Gm (n:=u.A5.length-1) λj s=>by have K:=(h.Hn (i:=j+1) (by omega) (h.I5 (by omega) (by omega))).1;rw[o l (by omega),o l (by omega)];rfl];rw[NN (n:=u.A4.length) (k:=e) (c:= -(((L.getD v []).count (e:Int):Nat):Int)) U λd r=>by
    rw[o l (Gq h r).1,B];have A7:=y.Cg v _ (C l);by_cases q:d=e
    ·subst q;rw[if_pos rfl,if_pos rfl];by_cases F:(d:Int)∈L.getD v []
     ·obtain⟨M,A2,_,I⟩:=H l _ F;obtain rfl:d=M:=(by omega);rw[if_pos I,if_pos F,A7.count,if_pos F];rfl
     ·rw[if_neg F,List.count_eq_zero.2 F];split<;>rfl
    ·rw[if_neg q,if_neg q];split<;>rfl]
   omega
 ·show Cx (Ak u R) (Is u R L) 0=Dr u;rw[UE,S,QA,Gm (n:=u.A4.length) λd r=> ?_,Gw (g:=CD u) λv l=> ?_]
  ·omega
  ·have o: ∀{j},j<u.A5.length-> ∀c,Bd (Ap u v j) 0 c=0:= λ{j} s _=>if_neg (by have:=E7 h l s;omega);have P:Bd (2+v) 0 (CD u v)=0:=if_neg (by omega);rw[P,Gm (n:=u.A5.length-1) λj s=>by
    have K:=(h.Hn (i:=j+1) (by omega) (h.I5 (by omega) (by omega))).1;rw[o (by omega),o (by omega)];rfl,Gm (n:=u.A4.length) λd r=>by
    have:Bd (AI u d) 0 (if(d:Int)∈L.getD v []then 1 else 0)=0:=if_neg (by have:=FX (u:=u) d;omega);rw[this,o (Gq h r).1];split<;>rfl]
   simp[Bd]
  ·have N:Bd (AI u d) 0 ((L.flatten.count (d:Int):Nat):Int)=0:=if_neg (by have:=FX (u:=u) d;omega);have O:Bd 1 0 ((L.flatten.count (d:Int):Nat):Int)=0:=if_neg (by omega);rw[N,O];rfl
theorem a0i{k:List Int}(b:l.Nodup)(e:k.Nodup)(c: ∀x∈l,x∈k)(g:l.length=k.length):l.Perm k:=
 (List.perm_ext_iff_of_nodup b e).2 λd=>⟨c d,λf=>MR λq=>by
  have:=List.Nodup.length_le_of_subset (l₁:=d::l) (l₂:=k) (J9.2 ⟨q,b⟩) λx a=>by
   rcases CZ.1 a with rfl|a
   ·exact f
   ·exact c x a
  rw[DZ]at this;omega⟩
theorem a6c(h:BS u)(k:Oj u R L)(c:v<u.A3.length):(DC u v (Ak u R) (Is u R L)).Perm (L.getD v []):=by
 obtain⟨r,F⟩:=XV h k;have s:L[v]?=some (L.getD v []):=by have e:L[v]?=some (L[v]'(by rw[k.len];exact c)):=AP (by rw[k.len];exact c);rw[E1,e];rfl
 have G:=Rv (f:=NQ u R (Is u R L)) (g:=CD u) (n:=u.A3.length) (λv c=>VR h r c) (by rw[<-QA,<-Uu h,F];exact FM _);have H:(DC u v (Ak u R) (Is u R L)).length=(L.getD v []).length:=by have a:=Ws h r c;rw[G v c]at a;have b:=k.Ds v _ s;omega
 have I:=Ql h (R:=R) (v:=v) (fs:=Is u R L) (λa J=>J) (Sw h);have K: ∀x∈DC u v (Ak u R) (Is u R L),x∈L.getD v []:= λx M=>by
  obtain⟨i,a,S,y,N,O,P,z,T⟩:=PI M;obtain⟨w,d,A,B,_,rfl⟩:=Qs h (B5 y) O;rw[PF h B]at z;subst z;obtain⟨b,hb,C,l⟩:=qq y N;have U:=FX (u:=u) d;have m:b.f=Ap u w (CI u d):=congrArg Ah.f C;have o:b.t=AI u d:=congrArg Ah.t C;have D4:=E7 h A (Gq h B).1;have Q:x=d:=(by have:(D8 u w d).t=AI u d:=rfl;omega);rcases vF hb with⟨D,E,rfl|⟨j,V,rfl⟩|⟨e,p,W,rfl⟩⟩|⟨e,p,rfl⟩
  ·simp only at m;omega
  ·simp only at o;have:=E7 h E (i:=j+1) (by omega);omega
  ·simp only at o m;have X:=FX (u:=u) e;obtain rfl:e=d:=(by omega);obtain rfl:D=w:=(KN h E A (Gq h p).1 (Gq h p).1 m).1;simp only at l;rw[Q];by_cases q:(e:Int)∈L.getD D []
   ·exact q
   ·rw[if_neg q]at l;exact absurd l.symm P
  ·simp only at o;have:=I6 h;omega
 exact a0i I (k.Cg v _ s) K H
theorem r7{b:List Int}: ∀{r s:List Int},s.length=r.length->(∀x∈r,x∈b)->(s.countP λd=> !b.contains d)<=Ft r s
 | [],s,h,_=>by obtain rfl:=Ii.1 h;simp
 |x::r,[],h,_=>by simp at h
 | x::r,y::s,h,hb=>by
   have a:=r7 (b:=b) (r:=r) (s:=s) (by simpa using h) λz e=>hb z (by simp[e]);rw[Nt];simp only[Ft];by_cases c:x=y
   ·subst c;have:b.contains x=true:=(by simp[hb x (by simp)]);rw[if_pos rfl,this];simp;simp at a;omega
   ·rw[if_neg c];split<;>omega
theorem qj{u:AL}(h:BS u){R N:List Int}{L c:List (List Int)}{p:Int->Int}(d:Cs u L=true)(e:HQ (C9 u R L) (Dr u) N p)(a:Oj u R c):
 EH L (Du (EA u (As u R L) N (As u R L).length) L)<=EH L c:=by
 have k:=IU.1.1 e.OH;have l:value (D0 u R) N=Dr u:=by rw[<-IU.2 k];exact e.val
 obtain⟨g,o⟩:=XV h a;have i:L.length=u.A3.length:=by
  by_cases q:L.length=u.A3.length
  ·exact q
  ·rw[RQ q]at d;cases d
 have hb: ∀(v:Nat) s,L[v]?=some s->(s.length:Int)=CD u v:= λv s j=>by
  have hb:GQ u v s=true:=by
   cases q:GQ u v s with
   |true=>rfl
   |false=>rw[OE j q]at d;cases d
  simp only[GQ,AF,BW]at hb;exact hb.1
 have f:=E0.yf (XK h R L) e.Ti e.OH (IU.1.2 g);rw[e.val,IU.2 g,o,Int.sub_self,Int.mul_zero,Int.add_zero]at f;have f:Eg (As u R L) N<=Eg (As u R L) (Is u R c):=f;rw[qf h d k (by omega)];refine NW f ?_;rw[sn h g];unfold EH;rw[if_pos (Ty (by rw[i,a.len]) λv r s t w=>by have:=hb v r t;have:=a.Ds v s w;omega),ov (by rw[i,a.len]),i];refine Ra λv l=> ?_;have m:L[v]?=some (L[v]'(by omega)):=AP (by omega);have n:c[v]?=some (c[v]'(by rw[a.len];omega)):=AP (by rw[a.len];omega);have y:JJ L v=L.getD v []:=rfl;rw[(a6c h a l).countP_eq,y];have:=r7 (b:=L.getD v []) (r:=L.getD v []) (s:=c.getD v []) ?_ λx j=>j
 ·omega
 ·rw[E1,E1,m,n];have:=hb v _ m;have:=a.Ds v _ n;simp only[Jb];omega
theorem xc(h:BS u)(a:Oj u R L):OK u R:=⟨_,(XV h a).1,by rw[(XV h a).2];exact FM _⟩
def DM(u:AL)(R:List Int):List Int:=D4 u.A4.length λd=>max (CN u R d-1) 0
theorem m2{l:List C}{x:C}(h:l[i]?=some x):List.take 1 (List.drop i l)=[x]:=by obtain⟨a,e⟩:=Ae.1 h;rw[Ht a,e];rfl
theorem gH:(DM u R).length=u.A4.length:=by rw[DM,VP]
theorem a1e(a:d<u.A4.length):(DM u R).getD d 0=max (CN u R d-1) 0:=by rw[DM,E1,GH a];rfl
theorem a3Z(h:BS u)(a:d<u.A4.length):CN u (DM u R) d<=max (CN u R d-1) 0/\CN u (DM u R) d<=CN u R d:=by
 have b:=(Wp h R a).1;have e:CN u (DM u R) d=max 0 (min (max (CN u R d-1) 0) (KB u d)):=by
  conv=>lhs;unfold CN
  rw[if_pos gH,a1e a]
 rw[e];omega
theorem a4U(h:B4 u):Bh V 149 [.agg (A7 u).toArray,AK R] Cl λv p=> ∃o,v=AM o u.A4.length 1/\p.Y o=some ⟨(DM u R).map Z,true⟩:=by
 have B:=h.ok.Es;refine Ax (aC:=⟨[],[X0 u h]⟩) cH.2 ?_;simp[cH,qS,A7];refine Cc (aC:=⟨[],[X0 u h]⟩) (λi a t=>(∃o,a 5=AM o u.A4.length 1/\t.Y o=some ⟨D4 u.A4.length (λd=>if d<i then Z (max (CN u R d-1) 0)else Z (CN u R d)),true⟩)/\a 11=Z u.A4.length/\a 12=Z i) u.A4.length ?_ ?_ 0 _ _ (C8 _) ⟨⟨2,by simp,?_⟩,by simp,by simp⟩
 ·rintro i a t g ⟨⟨o,b,e⟩,f,k⟩ C r;have s:=E e;have w:(i:Int)<u.A4.length:=(by omega);have D:=Wp h.ok R g;have x:=BZ (n:=i) (by omega);have y:IntKind.i64.wrap (CN u R i-1)=CN u R i-1:=Ac (by omega) (by omega);have z:i+1<=u.A4.length:=g;have A:List.take 1 (List.drop i (D4 u.A4.length (λd=>if d<i then Z (max (CN u R d-1) 0)else Z (CN u R d))))=[Z (CN u R i)]:=m2 ((GH g).trans (by rw[if_neg (Nat.lt_irrefl i)]));simp[gI,Zd,b,f,k,e,w,z,A,x,y,LJ];refine r _ _ ⟨⟨o,by simp[b],?_⟩,by simp[f],by simp⟩;rw[AR s];congr 2;refine HS λj l=> ?_;by_cases c:j=i
  ·subst c;rw[if_pos rfl,if_pos (Nat.lt_succ_self _)];congr 1;split<;>omega
  ·rw[if_neg c];by_cases m:j<i
   ·rw[if_pos m,if_pos (by omega)]
   ·rw[if_neg m,if_neg (by omega)]
 ·rintro a t ⟨⟨o,b,e⟩,f,k⟩;simp[gI,Zd,Zd,b,f,k];rw[e,DM,OX];congr 2;exact HS λj l=>if_pos l
 ·rw[AR (by simp),MZ,OX];rfl
theorem a0D(h:B4 u):AO V 149 [.agg (A7 u).toArray,AK R] (AK (DM u R)):=
 Sq (n:=u.A4.length) (by rw[E9,gH]) K7 (by rw[Jd];exact a4U h)
abbrev sR(u:AL)(h:B4 u):AN V:= .B9 149 (List Int) (λ_=>True) (λx=>[.agg (A7 u).toArray,AK x]) (λx=>AK (DM u x)) λ_ _=>a0D h
@[simp] theorem aKc{h:B4 u}:(sR u h).fn [.agg #[Z u.ext,O (u.Bu.map CS) 4,O (u.Af.map CX) 4,O (u.A5.map Bq) 7,O (u.A4.map Bx) 3,O (u.B7.map BE) 17,O (u.A3.map CW) 2],O (l.map λx=>[Z x]) 1]=some (AK (DM u l)):=AN.BH (x:=l) trivial λy a=>by simpa using a
def vW(u:AL)(R:List Int)(L Fin:List (List Int))(mj:Int)(lk:List Int)(b:Bool):Prop:=
 ∃ a A B N p,HQ (C9 u a L) (Dr u) A B/\HQ (C9 u R L) (Dr u) N p/\Fin=E2 u a L A/\mj=EH L Fin/\mj=EH L (E2 u R L N)/\lk=JE (C9 u R L).AS.toNat p/\
   ((b=true/\a=DM u R)\/(b=false/\a=R/\A=N/\(¬OK u (DM u R)\/ ∃c d,HQ (C9 u (DM u R) L) (Dr u) c d/\EH L (E2 u (DM u R) L c)≠mj)))
def a1V(u:AL)(R:List Int)(L:List (List Int))(v:Value):Prop:=
 (¬OK u R/\v= .tuple #[.agg #[.slice none 0 0,Z 0,.slice none 0 0],.bool false,Z 12])\/
 ∃Fin mj lk b,vW u R L Fin mj lk b/\v= .tuple #[.agg #[Bf Fin,Z mj,AK lk],.bool b,Z 0]
theorem Sz(h:BS u)(c:Cs u L=true)(a:HQ (C9 u R L) (Dr u) N p):Oj u R (E2 u R L N):=by
 have b:=IU.1.1 a.OH;have d:value (D0 u R) N=Dr u:=by rw[<-IU.2 b];exact a.val
 exact(WN h c b (by rw[d];exact FM _)).1
theorem a0V(h:B4 u)(g:1<=u.A3.length)(i:CP L)(j:Cs u L=true):Oo V 96 [.agg (A7 u).toArray,Bf L,AK R] (a1V u R L):=by
 refine hr (Ax (aC:=⟨[sR u h],[]⟩) YR.2 ?_);simp[YR,nV,A7];refine((x3 h g i j (R:=R)).c4 (λv a=>by simp at a;rcases a with rfl|rfl|rfl<;>rfl)).AD λv t ⟨d,e⟩=> ?_;subst e;rcases d with⟨f,rfl⟩|⟨N,p,b,rfl⟩
 ·simp[fB,Wc];exact .inl ⟨f,rfl⟩
 ·simp[fB];refine((x3 h g i j (R:=DM u R)).c4 (λv a=>by simp at a;rcases a with rfl|rfl|rfl<;>rfl)).AD λv t ⟨d,e⟩=> ?_;subst e;rcases d with⟨f,rfl⟩|⟨A,B,k,rfl⟩
  ·simp[Wc];exact .inr ⟨_,_,_,_,⟨R,N,p,N,p,b,b,rfl,rfl,rfl,rfl,.inr ⟨rfl,rfl,rfl,.inl f⟩⟩,rfl⟩
  ·by_cases c:EH L (E2 u (DM u R) L A)=EH L (E2 u R L N)
   ·simp(disch:=first|omega|simp only[DI.AB];omega)[Wc,c,-H,-D,-I,-F,-List.map_map];exact .inr ⟨_,_,_,_,⟨DM u R,A,B,N,p,k,b,rfl,c.symm,rfl,rfl,.inl ⟨rfl,rfl⟩⟩,rfl⟩
   ·simp[Wc,c];exact .inr ⟨_,_,_,_,⟨R,N,p,N,p,b,b,rfl,rfl,rfl,rfl,.inr ⟨rfl,rfl,rfl,.inr ⟨A,B,k,c⟩⟩⟩,rfl⟩
theorem zp{t:X}{o n:Nat}(h:t.Y o=some ⟨Fa S,w⟩):DI.B3 (n+1) t (AM o S.length 4)=some (Pw S):=
 Kn (cb:=S.map EI) h (by rw[E9]) λr b=>by obtain⟨x,_,rfl⟩:=CG.1 b;exact⟨rfl,λv a=>by simp[EI]at a;rcases a with rfl|rfl|rfl|rfl<;>rfl⟩
theorem a0p(a: ∀r∈L,r.length<=8)(c:L.length<=12): -1<=EH L Fin/\EH L Fin<=96:=by have:=lH (b:=Fin) a;unfold EH;split<;>omega
open Go Go.DI Go.Big
section
set_option maxRecDepth 100000
def jw:AL:=⟨1,[⟨⟨#[100,105,115,107]⟩,[⟨false,[1],[1]⟩],[[⟨false,[],[1]⟩]],[⟨false,[1],[101]⟩]⟩],[⟨⟨#[98,105,103]⟩,3,8,0⟩,⟨⟨#[111,108,100]⟩,2,6,0⟩],[⟨⟨#[]⟩,0,(-1),0,⟨false,[],[1]⟩⟩,⟨⟨#[110,97,98]⟩,1,0,17,⟨false,[],[1]⟩⟩,⟨⟨#[110,97,99]⟩,2,1,18,⟨false,[],[1]⟩⟩,⟨⟨#[110,97,100]⟩,3,2,8,⟨false,[],[1]⟩⟩,⟨⟨#[110,97,101]⟩,4,3,9,⟨false,[],[1]⟩⟩,⟨⟨#[110,97,102]⟩,3,2,8,⟨false,[],[1]⟩⟩,⟨⟨#[110,97,103]⟩,4,5,9,⟨false,[],[1]⟩⟩,⟨⟨#[110,97,104]⟩,3,2,8,⟨false,[],[1]⟩⟩,⟨⟨#[110,97,105]⟩,4,7,9,⟨false,[],[1]⟩⟩],[⟨⟨#[100,97,97]⟩,1,4⟩,⟨⟨#[100,97,98]⟩,1,6⟩,⟨⟨#[100,97,99]⟩,1,8⟩],[⟨⟨#[112,97,99]⟩,1,0,1,⟨0,0,0,2,0⟩,[0,1],[⟨false,[1],[2]⟩],⟨false,[1],[1000]⟩,⟨false,[30],[1]⟩⟩,⟨⟨#[112,97,98]⟩,1,0,1,⟨0,0,0,2,0⟩,[0,1],[⟨false,[1],[2]⟩],⟨false,[1],[1000]⟩,⟨false,[30],[1]⟩⟩],[⟨⟨#[118,97,100]⟩,0⟩,⟨⟨#[118,97,99]⟩,1⟩,⟨⟨#[118,97,98]⟩,0⟩]⟩
theorem aDD:Rl jw=true:=by decide+kernel
theorem aDG:TT jw=true:=by decide+kernel
def hT:Value:= .agg #[.int .i64 1,O [[.string ⟨#[100,105,115,107]⟩,O [[.bool false,O [[.int .u32 1]] 1,O [[.int .u32 1]] 1]] 3,O [[O [[.bool false,O [] 1,O [[.int .u32 1]] 1]] 3]] 1,O [[.bool false,O [[.int .u32 1]] 1,O [[.int .u32 101]] 1]] 3]] 4,O [[.string ⟨#[98,105,103]⟩,.int .i64 3,.int .i64 8,.int .i64 0],[.string ⟨#[111,108,100]⟩,.int .i64 2,.int .i64 6,.int .i64 0]] 4,O [[.string ⟨#[]⟩,.int .i64 0,.int .i64 (-1),.int .i64 0,.bool false,O [] 1,O [[.int .u32 1]] 1],[.string ⟨#[110,97,98]⟩,.int .i64 1,.int .i64 0,.int .i64 17,.bool false,O [] 1,O [[.int .u32 1]] 1],[.string ⟨#[110,97,99]⟩,.int .i64 2,.int .i64 1,.int .i64 18,.bool false,O [] 1,O [[.int .u32 1]] 1],[.string ⟨#[110,97,100]⟩,.int .i64 3,.int .i64 2,.int .i64 8,.bool false,O [] 1,O [[.int .u32 1]] 1],[.string ⟨#[110,97,101]⟩,.int .i64 4,.int .i64 3,.int .i64 9,.bool false,O [] 1,O [[.int .u32 1]] 1],[.string ⟨#[110,97,102]⟩,.int .i64 3,.int .i64 2,.int .i64 8,.bool false,O [] 1,O [[.int .u32 1]] 1],[.string ⟨#[110,97,103]⟩,.int .i64 4,.int .i64 5,.int .i64 9,.bool false,O [] 1,O [[.int .u32 1]] 1],[.string ⟨#[110,97,104]⟩,.int .i64 3,.int .i64 2,.int .i64 8,.bool false,O [] 1,O [[.int .u32 1]] 1],[.string ⟨#[110,97,105]⟩,.int .i64 4,.int .i64 7,.int .i64 9,.bool false,O [] 1,O [[.int .u32 1]] 1]] 7,O [[.string ⟨#[100,97,97]⟩,.int .i64 1,.int .i64 4],[.string ⟨#[100,97,98]⟩,.int .i64 1,.int .i64 6],[.string ⟨#[100,97,99]⟩,.int .i64 1,.int .i64 8]] 3,O [[.string ⟨#[112,97,99]⟩,.int .i64 1,.int .i64 0,.int .i64 1,.int .i64 0,.int .i64 0,.int .i64 0,.int .i64 2,.int .i64 0,O [[.int .i64 0],[.int .i64 1]] 1,O [[.bool false,O [[.int .u32 1]] 1,O [[.int .u32 2]] 1]] 3,.bool false,O [[.int .u32 1]] 1,O [[.int .u32 1000]] 1,.bool false,O [[.int .u32 30]] 1,O [[.int .u32 1]] 1],[.string ⟨#[112,97,98]⟩,.int .i64 1,.int .i64 0,.int .i64 1,.int .i64 0,.int .i64 0,.int .i64 0,.int .i64 2,.int .i64 0,O [[.int .i64 0],[.int .i64 1]] 1,O [[.bool false,O [[.int .u32 1]] 1,O [[.int .u32 2]] 1]] 3,.bool false,O [[.int .u32 1]] 1,O [[.int .u32 1000]] 1,.bool false,O [[.int .u32 30]] 1,O [[.int .u32 1]] 1]] 17,O [[.string ⟨#[118,97,100]⟩,.int .i64 0],[.string ⟨#[118,97,99]⟩,.int .i64 1],[.string ⟨#[118,97,98]⟩,.int .i64 0]] 2]
theorem aBI:hT= .agg (A7 jw).toArray:=by rfl
theorem a5K:AO V 87 [hT] (.bool true):=by rw[aBI];exact vl aDD aDG
def eh:AL:=⟨1,[⟨⟨#[100,105,115,107]⟩,[⟨false,[1],[1]⟩],[[⟨false,[],[1]⟩]],[⟨false,[1],[101]⟩]⟩],[⟨⟨#[98,105,103]⟩,3,8,0⟩,⟨⟨#[111,108,100]⟩,2,6,0⟩],[⟨⟨#[]⟩,0,(-1),0,⟨false,[],[1]⟩⟩,⟨⟨#[110,97,98]⟩,1,0,17,⟨false,[],[1]⟩⟩,⟨⟨#[110,97,99]⟩,2,1,18,⟨false,[],[1]⟩⟩,⟨⟨#[110,97,100]⟩,3,2,8,⟨false,[],[1]⟩⟩,⟨⟨#[110,97,101]⟩,4,3,9,⟨false,[],[1]⟩⟩,⟨⟨#[110,97,102]⟩,3,2,8,⟨false,[],[1]⟩⟩,⟨⟨#[110,97,103]⟩,4,5,9,⟨false,[],[1]⟩⟩,⟨⟨#[110,97,104]⟩,3,2,8,⟨false,[],[1]⟩⟩,⟨⟨#[110,97,105]⟩,4,7,9,⟨false,[],[1]⟩⟩],[⟨⟨#[100,97,97]⟩,1,4⟩,⟨⟨#[100,97,98]⟩,1,6⟩,⟨⟨#[100,97,99]⟩,1,8⟩],[⟨⟨#[112]⟩,1,0,1,⟨0,0,0,0,0⟩,[0,1],[⟨false,[1],[1]⟩],⟨false,[],[1]⟩,⟨false,[1],[1]⟩⟩],[⟨⟨#[118]⟩,0⟩]⟩
theorem oI:Rl eh=true:=by decide+kernel
theorem qu:TT eh=true:=by decide+kernel
def IM:Value:= .agg #[.int .i64 1,O [[.string ⟨#[100,105,115,107]⟩,O [[.bool false,O [[.int .u32 1]] 1,O [[.int .u32 1]] 1]] 3,O [[O [[.bool false,O [] 1,O [[.int .u32 1]] 1]] 3]] 1,O [[.bool false,O [[.int .u32 1]] 1,O [[.int .u32 101]] 1]] 3]] 4,O [[.string ⟨#[98,105,103]⟩,.int .i64 3,.int .i64 8,.int .i64 0],[.string ⟨#[111,108,100]⟩,.int .i64 2,.int .i64 6,.int .i64 0]] 4,O [[.string ⟨#[]⟩,.int .i64 0,.int .i64 (-1),.int .i64 0,.bool false,O [] 1,O [[.int .u32 1]] 1],[.string ⟨#[110,97,98]⟩,.int .i64 1,.int .i64 0,.int .i64 17,.bool false,O [] 1,O [[.int .u32 1]] 1],[.string ⟨#[110,97,99]⟩,.int .i64 2,.int .i64 1,.int .i64 18,.bool false,O [] 1,O [[.int .u32 1]] 1],[.string ⟨#[110,97,100]⟩,.int .i64 3,.int .i64 2,.int .i64 8,.bool false,O [] 1,O [[.int .u32 1]] 1],[.string ⟨#[110,97,101]⟩,.int .i64 4,.int .i64 3,.int .i64 9,.bool false,O [] 1,O [[.int .u32 1]] 1],[.string ⟨#[110,97,102]⟩,.int .i64 3,.int .i64 2,.int .i64 8,.bool false,O [] 1,O [[.int .u32 1]] 1],[.string ⟨#[110,97,103]⟩,.int .i64 4,.int .i64 5,.int .i64 9,.bool false,O [] 1,O [[.int .u32 1]] 1],[.string ⟨#[110,97,104]⟩,.int .i64 3,.int .i64 2,.int .i64 8,.bool false,O [] 1,O [[.int .u32 1]] 1],[.string ⟨#[110,97,105]⟩,.int .i64 4,.int .i64 7,.int .i64 9,.bool false,O [] 1,O [[.int .u32 1]] 1]] 7,O [[.string ⟨#[100,97,97]⟩,.int .i64 1,.int .i64 4],[.string ⟨#[100,97,98]⟩,.int .i64 1,.int .i64 6],[.string ⟨#[100,97,99]⟩,.int .i64 1,.int .i64 8]] 3,O [[.string ⟨#[112]⟩,.int .i64 1,.int .i64 0,.int .i64 1,.int .i64 0,.int .i64 0,.int .i64 0,.int .i64 0,.int .i64 0,O [[.int .i64 0],[.int .i64 1]] 1,O [[.bool false,O [[.int .u32 1]] 1,O [[.int .u32 1]] 1]] 3,.bool false,O [] 1,O [[.int .u32 1]] 1,.bool false,O [[.int .u32 1]] 1,O [[.int .u32 1]] 1]] 17,O [[.string ⟨#[118]⟩,.int .i64 0]] 2]
theorem xE:IM= .agg (A7 eh).toArray:=by rfl
theorem a1m:AO V 62 [IM] (.int .i64 0):=by rw[xE];exact a5t oI qu
theorem a6K:AO V 87 [IM] (.bool true):=by rw[xE];exact vl oI qu
def a18:List (Nat×HT):=[(18,ad.1),(39,pg.1),(41,Zi.1),(44,ve.1),(45,pK.1),(48,a5.1),(49,Nv.1),(52,Sx.1),(60,Yg.1),(61,an.1),(63,Z5.1),(78,Wu.1),(86,Ug.1),(91,dB.1),(92,Xy.1),(93,L2.1),(94,VH.1),(96,YR.1),(98,pc.1),(99,Vm.1),(101,XP.1),(102,YF.1),(108,cJ.1),(109,dZ.1),(115,cC.1),(123,az.1),(124,YA.1),(125,eT.1),(127,bN.1),(128,WO.1),(129,Xx.1),(133,Vn.1),(146,Xn.1),(147,cx.1),(148,Zr.1),(149,cH.1),(152,Zc.1),(153,oX.1),(154,pW.1),(155,h3.1),(156,qF.1),(157,Z8.1),(183,Y2.1),(184,gB.1),(185,k0.1),(186,dz.1),(187,cS.1),(200,bQ.1),(201,ke.1),(202,a1.1),(203,Ut.1),(204,ZU.1),(206,ZQ.1),(207,xq.1),(208,np.1),(209,uk.1),(210,eQ.1),(211,fK.1),(234,l3.1),(235,fb.1),(236,h6.1),(242,lU.1),(243,g0.1),(244,px.1),(261,fu.1),(262,kN.1),(263,kt.1),(264,fj.1),(276,kI.1),(277,gg.1),(298,kT.1),(299,fU.1),(300,eM.1),(301,dt.1)]
theorem ND:XG V a18:=⟨⟨⟨by kernel_rfl,ad.2⟩,by kernel_rfl⟩,⟨⟨⟨by kernel_rfl,pg.2⟩,by kernel_rfl⟩,⟨⟨⟨by kernel_rfl,Zi.2⟩,by kernel_rfl⟩,⟨⟨⟨by kernel_rfl,ve.2⟩,by kernel_rfl⟩,⟨⟨⟨by kernel_rfl,pK.2⟩,by kernel_rfl⟩,⟨⟨⟨by kernel_rfl,a5.2⟩,by kernel_rfl⟩,⟨⟨⟨by kernel_rfl,Nv.2⟩,by kernel_rfl⟩,⟨⟨⟨by kernel_rfl,Sx.2⟩,by kernel_rfl⟩,⟨⟨⟨by kernel_rfl,Yg.2⟩,by kernel_rfl⟩,⟨⟨⟨by kernel_rfl,an.2⟩,by kernel_rfl⟩,⟨⟨⟨by kernel_rfl,Z5.2⟩,by kernel_rfl⟩,⟨⟨⟨by kernel_rfl,Wu.2⟩,by kernel_rfl⟩,⟨⟨⟨by kernel_rfl,Ug.2⟩,by kernel_rfl⟩,⟨⟨⟨by kernel_rfl,dB.2⟩,by kernel_rfl⟩,⟨⟨⟨by kernel_rfl,Xy.2⟩,by kernel_rfl⟩,⟨⟨⟨by kernel_rfl,L2.2⟩,by kernel_rfl⟩,⟨⟨⟨by kernel_rfl,VH.2⟩,by kernel_rfl⟩,⟨⟨⟨by kernel_rfl,YR.2⟩,by kernel_rfl⟩,⟨⟨⟨by kernel_rfl,pc.2⟩,by kernel_rfl⟩,⟨⟨⟨by kernel_rfl,Vm.2⟩,by kernel_rfl⟩,⟨⟨⟨by kernel_rfl,XP.2⟩,by kernel_rfl⟩,⟨⟨⟨by kernel_rfl,YF.2⟩,by kernel_rfl⟩,⟨⟨⟨by kernel_rfl,cJ.2⟩,by kernel_rfl⟩,⟨⟨⟨by kernel_rfl,dZ.2⟩,by kernel_rfl⟩,⟨⟨⟨by kernel_rfl,cC.2⟩,by kernel_rfl⟩,⟨⟨⟨by kernel_rfl,az.2⟩,by kernel_rfl⟩,⟨⟨⟨by kernel_rfl,YA.2⟩,by kernel_rfl⟩,⟨⟨⟨by kernel_rfl,eT.2⟩,by kernel_rfl⟩,⟨⟨⟨by kernel_rfl,bN.2⟩,by kernel_rfl⟩,⟨⟨⟨by kernel_rfl,WO.2⟩,by kernel_rfl⟩,⟨⟨⟨by kernel_rfl,Xx.2⟩,by kernel_rfl⟩,⟨⟨⟨by kernel_rfl,Vn.2⟩,by kernel_rfl⟩,⟨⟨⟨by kernel_rfl,Xn.2⟩,by kernel_rfl⟩,⟨⟨⟨by kernel_rfl,cx.2⟩,by kernel_rfl⟩,⟨⟨⟨by kernel_rfl,Zr.2⟩,by kernel_rfl⟩,⟨⟨⟨by kernel_rfl,cH.2⟩,by kernel_rfl⟩,⟨⟨⟨by kernel_rfl,Zc.2⟩,by kernel_rfl⟩,⟨⟨⟨by kernel_rfl,oX.2⟩,by kernel_rfl⟩,⟨⟨⟨by kernel_rfl,pW.2⟩,by kernel_rfl⟩,⟨⟨⟨by kernel_rfl,h3.2⟩,by kernel_rfl⟩,⟨⟨⟨by kernel_rfl,qF.2⟩,by kernel_rfl⟩,⟨⟨⟨by kernel_rfl,Z8.2⟩,by kernel_rfl⟩,⟨⟨⟨by kernel_rfl,Y2.2⟩,by kernel_rfl⟩,⟨⟨⟨by kernel_rfl,gB.2⟩,by kernel_rfl⟩,⟨⟨⟨by kernel_rfl,k0.2⟩,by kernel_rfl⟩,⟨⟨⟨by kernel_rfl,dz.2⟩,by kernel_rfl⟩,⟨⟨⟨by kernel_rfl,cS.2⟩,by kernel_rfl⟩,⟨⟨⟨by kernel_rfl,bQ.2⟩,by kernel_rfl⟩,⟨⟨⟨by kernel_rfl,ke.2⟩,by kernel_rfl⟩,⟨⟨⟨by kernel_rfl,a1.2⟩,by kernel_rfl⟩,⟨⟨⟨by kernel_rfl,Ut.2⟩,by kernel_rfl⟩,⟨⟨⟨by kernel_rfl,ZU.2⟩,by kernel_rfl⟩,⟨⟨⟨by kernel_rfl,ZQ.2⟩,by kernel_rfl⟩,⟨⟨⟨by kernel_rfl,xq.2⟩,by kernel_rfl⟩,⟨⟨⟨by kernel_rfl,np.2⟩,by kernel_rfl⟩,⟨⟨⟨by kernel_rfl,uk.2⟩,by kernel_rfl⟩,⟨⟨⟨by kernel_rfl,eQ.2⟩,by kernel_rfl⟩,⟨⟨⟨by kernel_rfl,fK.2⟩,by kernel_rfl⟩,⟨⟨⟨by kernel_rfl,l3.2⟩,by kernel_rfl⟩,⟨⟨⟨by kernel_rfl,fb.2⟩,by kernel_rfl⟩,⟨⟨⟨by kernel_rfl,h6.2⟩,by kernel_rfl⟩,⟨⟨⟨by kernel_rfl,lU.2⟩,by kernel_rfl⟩,⟨⟨⟨by kernel_rfl,g0.2⟩,by kernel_rfl⟩,⟨⟨⟨by kernel_rfl,px.2⟩,by kernel_rfl⟩,⟨⟨⟨by kernel_rfl,fu.2⟩,by kernel_rfl⟩,⟨⟨⟨by kernel_rfl,kN.2⟩,by kernel_rfl⟩,⟨⟨⟨by kernel_rfl,kt.2⟩,by kernel_rfl⟩,⟨⟨⟨by kernel_rfl,fj.2⟩,by kernel_rfl⟩,⟨⟨⟨by kernel_rfl,kI.2⟩,by kernel_rfl⟩,⟨⟨⟨by kernel_rfl,gg.2⟩,by kernel_rfl⟩,⟨⟨⟨by kernel_rfl,kT.2⟩,by kernel_rfl⟩,⟨⟨⟨by kernel_rfl,fU.2⟩,by kernel_rfl⟩,⟨⟨⟨by kernel_rfl,eM.2⟩,by kernel_rfl⟩,⟨⟨⟨by kernel_rfl,dt.2⟩,by kernel_rfl⟩,trivial⟩⟩⟩⟩⟩⟩⟩⟩⟩⟩⟩⟩⟩⟩⟩⟩⟩⟩⟩⟩⟩⟩⟩⟩⟩⟩⟩⟩⟩⟩⟩⟩⟩⟩⟩⟩⟩⟩⟩⟩⟩⟩⟩⟩⟩⟩⟩⟩⟩⟩⟩⟩⟩⟩⟩⟩⟩⟩⟩⟩⟩⟩⟩⟩⟩⟩⟩⟩⟩⟩⟩⟩⟩⟩
def da:IJ:=[(59,[.int .i64 1,.int .i64 1],.agg #[.bool false,O [[.int .u32 1]] 1,O [[.int .u32 1]] 1]),(59,[.int .i64 0,.int .i64 1],.agg #[.bool false,O [] 1,O [[.int .u32 1]] 1]),(59,[.int .i64 1,.int .i64 101],.agg #[.bool false,O [[.int .u32 1]] 1,O [[.int .u32 101]] 1]),(59,[.int .i64 1,.int .i64 1000],.agg #[.bool false,O [[.int .u32 1]] 1,O [[.int .u32 1000]] 1]),(59,[.int .i64 30,.int .i64 1],.agg #[.bool false,O [[.int .u32 30]] 1,O [[.int .u32 1]] 1]),(59,[.int .i64 1,.int .i64 2],.agg #[.bool false,O [[.int .u32 1]] 1,O [[.int .u32 2]] 1]),(87,[hT],.bool true),(87,[IM],.bool true),(62,[IM],.int .i64 0)]
theorem kh:JT V da:=II (TK (x:=⟨false,[1],[1]⟩) (by unfold G8;decide) (by decide+kernel)) (II (TK (x:=⟨false,[],[1]⟩) (by unfold G8;decide) (by decide+kernel)) (II (TK (x:=⟨false,[1],[101]⟩) (by unfold G8;decide) (by decide+kernel)) (II (TK (x:=⟨false,[1],[1000]⟩) (by unfold G8;decide) (by decide+kernel)) (II (TK (x:=⟨false,[30],[1]⟩) (by unfold G8;decide) (by decide+kernel)) (II (TK (x:=⟨false,[1],[2]⟩) (by unfold G8;decide) (by decide+kernel)) (II (a5K) (II (a6K) (II (a1m) (u0)))))))))
def m1:Value:= .agg #[.int .i64 14,.int .i64 0,.int .i64 1,O [[.int .i64 0,.int .i64 2,.int .i64 1,.int .i64 0],[.int .i64 2,.int .i64 3,.int .i64 1,.int .i64 0],[.int .i64 3,.int .i64 4,.int .i64 1,.int .i64 0],[.int .i64 4,.int .i64 5,.int .i64 1,.int .i64 0],[.int .i64 5,.int .i64 6,.int .i64 1,.int .i64 0],[.int .i64 4,.int .i64 7,.int .i64 1,.int .i64 0],[.int .i64 7,.int .i64 8,.int .i64 1,.int .i64 0],[.int .i64 4,.int .i64 9,.int .i64 1,.int .i64 0],[.int .i64 9,.int .i64 10,.int .i64 1,.int .i64 0],[.int .i64 6,.int .i64 11,.int .i64 1,.int .i64 0],[.int .i64 8,.int .i64 12,.int .i64 1,.int .i64 1],[.int .i64 10,.int .i64 13,.int .i64 1,.int .i64 1],[.int .i64 11,.int .i64 1,.int .i64 0,.int .i64 0],[.int .i64 12,.int .i64 1,.int .i64 2,.int .i64 0],[.int .i64 13,.int .i64 1,.int .i64 2,.int .i64 0]] 4]
def aO:Value:= .tuple #[O [[.int .i64 1],[.int .i64 1],[.int .i64 1],[.int .i64 0],[.int .i64 0],[.int .i64 0],[.int .i64 0],[.int .i64 1],[.int .i64 1],[.int .i64 0],[.int .i64 0],[.int .i64 1],[.int .i64 0],[.int .i64 0],[.int .i64 1]] 1,.int .i64 1,O [[.int .i64 0],[.int .i64 1],[.int .i64 0],[.int .i64 0],[.int .i64 0],[.int .i64 0],[.int .i64 0],[.int .i64 0],[.int .i64 0],[.int .i64 0],[.int .i64 0],[.int .i64 0],[.int .i64 1],[.int .i64 1]] 1,.int .i64 0]
theorem a0K:AO V 201 [m1,.int .i64 1] (aO):=N7 (Lt ND) (jo:=da) kh Nb (n:=100000) (d:=80) (by kernel_rfl)
def tv:Value:= .agg #[.int .i64 14,.int .i64 0,.int .i64 1,O [[.int .i64 0,.int .i64 2,.int .i64 1,.int .i64 0],[.int .i64 2,.int .i64 3,.int .i64 1,.int .i64 0],[.int .i64 3,.int .i64 4,.int .i64 1,.int .i64 0],[.int .i64 4,.int .i64 5,.int .i64 1,.int .i64 0],[.int .i64 5,.int .i64 6,.int .i64 1,.int .i64 0],[.int .i64 4,.int .i64 7,.int .i64 1,.int .i64 0],[.int .i64 7,.int .i64 8,.int .i64 1,.int .i64 0],[.int .i64 4,.int .i64 9,.int .i64 1,.int .i64 0],[.int .i64 9,.int .i64 10,.int .i64 1,.int .i64 0],[.int .i64 6,.int .i64 11,.int .i64 1,.int .i64 0],[.int .i64 8,.int .i64 12,.int .i64 1,.int .i64 1],[.int .i64 10,.int .i64 13,.int .i64 1,.int .i64 1],[.int .i64 11,.int .i64 1,.int .i64 0,.int .i64 0],[.int .i64 12,.int .i64 1,.int .i64 1,.int .i64 0],[.int .i64 13,.int .i64 1,.int .i64 1,.int .i64 0]] 4]
theorem aDO:AO V 201 [tv,.int .i64 1] (aO):=N7 (Lt ND) (jo:=da) kh Nb (n:=100000) (d:=80) (by kernel_rfl)
def b0:IJ:=[(201,[m1,.int .i64 1],aO),(201,[tv,.int .i64 1],aO)]++da
theorem ks:JT V b0:=II a0K (II aDO (kh))
def c9:Value:= .tuple #[.agg #[O [[O [[.int .i64 2]] 1]] 1,.int .i64 1,O [[.int .i64 0],[.int .i64 1],[.int .i64 0],[.int .i64 0],[.int .i64 0],[.int .i64 0],[.int .i64 0],[.int .i64 0],[.int .i64 0],[.int .i64 0],[.int .i64 0],[.int .i64 0],[.int .i64 1],[.int .i64 1]] 1],.int .i64 0]
theorem a5T:AO V 148 [IM,O [[O [[.int .i64 0]] 1]] 1,O [[.int .i64 0],[.int .i64 2],[.int .i64 2]] 1] (c9):=N7 (Lt ND) (jo:=b0) ks Nb (n:=100000) (d:=80) (by kernel_rfl)
theorem a3e:AO V 148 [IM,O [[O [[.int .i64 0]] 1]] 1,O [[.int .i64 0],[.int .i64 1],[.int .i64 1]] 1] (c9):=N7 (Lt ND) (jo:=b0) ks Nb (n:=100000) (d:=80) (by kernel_rfl)
def jW:IJ:=[(148,[IM,O [[O [[.int .i64 0]] 1]] 1,O [[.int .i64 0],[.int .i64 2],[.int .i64 2]] 1],c9),(148,[IM,O [[O [[.int .i64 0]] 1]] 1,O [[.int .i64 0],[.int .i64 1],[.int .i64 1]] 1],c9)]++b0
theorem qZ:JT V jW:=II a5T (II a3e (ks))
def m7:Value:= .tuple #[.agg #[O [[.int .i64 0,.int .i64 0,.int .i64 0,.int .i64 2]] 4,O [[O [[.int .i64 2]] 1]] 1,.int .i64 1,O [[.int .i64 0],[.int .i64 1],[.int .i64 0],[.int .i64 0],[.int .i64 0],[.int .i64 0],[.int .i64 0],[.int .i64 0],[.int .i64 0],[.int .i64 0],[.int .i64 0],[.int .i64 0],[.int .i64 1],[.int .i64 1]] 1,.int .i64 0],.int .i64 0]
theorem a69:AO V 44 [IM,O [[O [[.int .i64 0]] 1]] 1,O [[.int .i64 0],[.int .i64 2],[.int .i64 2]] 1] (m7):=N7 (Lt ND) (jo:=jW) qZ Nb (n:=100000) (d:=80) (by kernel_rfl)
def fE:IJ:=[(44,[IM,O [[O [[.int .i64 0]] 1]] 1,O [[.int .i64 0],[.int .i64 2],[.int .i64 2]] 1],m7)]++jW
theorem u7:JT V fE:=II a69 (qZ)
def pb:Value:= .agg #[O [[O [[.int .i64 2]] 1]] 1,.int .i64 1,O [[.int .i64 0],[.int .i64 1],[.int .i64 0],[.int .i64 0],[.int .i64 0],[.int .i64 0],[.int .i64 0],[.int .i64 0],[.int .i64 0],[.int .i64 0],[.int .i64 0],[.int .i64 0],[.int .i64 1],[.int .i64 1]] 1]
theorem a8F:AO V 98 [IM,O [[O [[.int .i64 0]] 1]] 1,O [[.int .i64 0],[.int .i64 2],[.int .i64 2]] 1,pb] (.bool true):=N7 (Lt ND) (jo:=fE) u7 Nb (n:=100000) (d:=80) (by kernel_rfl)
def hU:IJ:=[(98,[IM,O [[O [[.int .i64 0]] 1]] 1,O [[.int .i64 0],[.int .i64 2],[.int .i64 2]] 1,pb],.bool true)]++fE
theorem mi:JT V hU:=II a8F (u7)
def sZ:Value:=O [[.int .i64 0,.int .i64 0,.int .i64 0,.int .i64 2]] 4
theorem a8m:AO V 41 [IM,O [[O [[.int .i64 0]] 1]] 1,O [[.int .i64 0],[.int .i64 2],[.int .i64 2]] 1,sZ] (.tuple #[O [[O [[.int .i64 2]] 1]] 1,.int .i64 1]):=N7 (Lt ND) (jo:=hU) mi Nb (n:=100000) (d:=80) (by kernel_rfl)
def lj:IJ:=[(41,[IM,O [[O [[.int .i64 0]] 1]] 1,O [[.int .i64 0],[.int .i64 2],[.int .i64 2]] 1,sZ],.tuple #[O [[O [[.int .i64 2]] 1]] 1,.int .i64 1])]++hU
theorem tc:JT V lj:=II a8m (mi)
def tx:Value:= .agg #[O [[.int .i64 0,.int .i64 0,.int .i64 0,.int .i64 2]] 4,O [[O [[.int .i64 2]] 1]] 1,.int .i64 1,O [[.int .i64 0],[.int .i64 1],[.int .i64 0],[.int .i64 0],[.int .i64 0],[.int .i64 0],[.int .i64 0],[.int .i64 0],[.int .i64 0],[.int .i64 0],[.int .i64 0],[.int .i64 0],[.int .i64 1],[.int .i64 1]] 1,.int .i64 0]
theorem a1f:AO V 45 [IM,O [[O [[.int .i64 0]] 1]] 1,O [[.int .i64 0],[.int .i64 2],[.int .i64 2]] 1,tx] (.bool true):=N7 (Lt ND) (jo:=lj) tc Nb (n:=100000) (d:=80) (by kernel_rfl)
def qh:IJ:=[(45,[IM,O [[O [[.int .i64 0]] 1]] 1,O [[.int .i64 0],[.int .i64 2],[.int .i64 2]] 1,tx],.bool true)]++lj
theorem zc:JT V qh:=II a1f (tc)
theorem a2v:AO V 39 [] (.bool true):=N7 (Lt ND) (jo:=qh) zc Nb (n:=100000) (d:=80) (by kernel_rfl)
end
theorem a5p(h:B4 u)(g:L.length=u.A3.length)(c:Lm u L):MQ u L:=by
 refine⟨aAC h g c,λr d=> ?_,λr d x i=> ?_⟩
 ·obtain⟨w,f,e⟩:=E5 d;have a:=(c w r (by rw[AP f,e])).1;have b:=L3 h.ok (v:=w) (by omega);omega
 ·obtain⟨w,f,e⟩:=E5 d;exact((c w r (by rw[AP f,e])).2 x i).2
abbrev kf:AN V:= .B9 39 Unit (λ_=>True) (λ_=>[]) (λ_=> .bool true) λ_ _=>a2v
@[simp] theorem aIR:kf.fn []=some (.bool true):=AN.BH (x:=()) trivial λ_ _=>rfl
variable{B:Int->Int}{A lk:List Int}{b:Bool}{mj:Int}{T:List EB}{br:List (List Int)}
theorem yH(h:BS u)(a:Cs u L=true)(b:HQ (C9 u R L) (Dr u) N p)(c:HQ (C9 u R L) (Dr u) A B):EH L (E2 u R L N)=EH L (E2 u R L A):=
 Int.le_antisymm (qj h a b (Sz h a c)) (qj h a c (Sz h a b))
open Classical in
def Lo(u:AL)(R:List Int)(L:List (List Int)):Bool:=decide (∃N p A B,HQ (C9 u R L) (Dr u) N p/\HQ (C9 u (DM u R) L) (Dr u) A B/\EH L (E2 u (DM u R) L A)=EH L (E2 u R L N))
theorem nF(h:BS u)(d:Cs u L=true)(g:HQ (C9 u R L) (Dr u) N p)(i:HQ (C9 u (DM u R) L) (Dr u) A B):Lo u R L=decide (EH L (E2 u (DM u R) L A)=EH L (E2 u R L N)):=by unfold Lo;congr 1;refine propext ⟨λ⟨f,j,k,l,a,b,c⟩=> ?_,λe=>⟨_,_,_,_,g,i,e⟩⟩;rw[yH h d i b,yH h d g a];exact c
open Classical in
theorem x7(h:BS u)(a:Cs u L=true)(c: ¬OK u (DM u R)):Lo u R L=false:=by unfold Lo;exact Hk λ⟨_,_,_,_,_,b,_⟩=>c (xc h (Sz h a b))
open Classical in
theorem zE(h:BS u)(a:Cs u L=true)(c: ¬OK u R):Lo u R L=false:=by unfold Lo;exact Hk λ⟨_,_,_,_,b,_,_⟩=>c (xc h (Sz h a b))
theorem aB7(h:BS u)(d:Cs u L=true)(g:vW u R L Fin mj lk b):Lo u R L=b:=by
 obtain⟨l,A,B,N,p,i,e,rfl,j,f,m,⟨rfl,rfl⟩|⟨rfl,rfl,rfl,k|⟨n,o,a,c⟩⟩⟩:=g
 ·rw[nF h d e i];exact decide_eq_true (by rw[<-j,<-f])
 ·exact x7 h d k
 ·rw[nF h d e a];exact Hk (by rw[<-f];exact c)
theorem aAA(h:BS u)(e:Oj u (DM u R) Fin)(c:d<u.A4.length)(f:1<=ES Fin d):((ES Fin d:Nat):Int)<CN u R d:=by have a:((ES Fin d:Nat):Int)<=CN u (DM u R) d:=e.EO d c;have b:=(a3Z h (R:=R) c).1;omega
theorem a1E(h:BS u)(e:Cs u L=true)(a:HQ (C9 u R L) (Dr u) N p):qL L (E2 u R L N):= λv i j d ⟨r,b,f⟩ ⟨s,g,k⟩ _=>by
 have c:=IU.1.1 a.OH;have l:value (D0 u R) N=Dr u:=by rw[<-IU.2 c];exact a.val
 exact⟨r,b,a7N h e c (by rw[l];exact FM _) b f g k⟩
theorem a6T(h:BS u)(f:Cs u L=true)(g:HQ (C9 u (DM u R) L) (Dr u) N p)(j:J7 br (E2 u (DM u R) L N) T)(k:Tm L (E2 u (DM u R) L N) br)(l:T≠[]): ∃x∈T,Ez u.A4.length (EV u br) (Ck u R) br x=true:=by have c:=Sz h f g;exact a5r j k (a1E h f g) c.Cg (λv i x ⟨r,e,m⟩=>by obtain⟨d,a,b,_⟩:=c.LG v r e x (B5 m);exact⟨d,a,b⟩) (λd n e=>aAA h c n e) l
theorem su: ∀{r s:List Int} {i:Nat} {x y:Int},r[i]?=some x->s[i]?=some y->x≠y->Ft r s=Ft (r.set i y) s+1
 |[],_,_,_,_,h,_,_=>by simp at h
 |_::_,[],_,_,_,_,h,_=>by simp at h
 | a::r,b::s,0,x,y,c,d,e=>by simp only[List.getElem?_cons_zero,Fx]at c d;subst c;subst d;simp only[List.set_cons_zero,Ft,if_neg e,if_true];omega
 | a::r,b::s,i+1,x,y,c,d,e=>by have:=su (r:=r) (s:=s) (i:=i) (by simpa using c) (by simpa using d) e;simp only[Qq,Ft];omega
theorem qU: ∀{br mL:List (List Int)} {v i:Nat} {x y:Int},Eu br v i x->Eu mL v i y->x≠y->GB br mL=GB (EX br v i y) mL+1
 |[],_,_,_,_,_,⟨_,h,_⟩,_,_=>by simp at h
 |_::_,[],_,_,_,_,_,⟨_,h,_⟩,_=>by simp at h
 | r::br,s::mL,0,i,x,y,⟨f,a,c⟩,⟨g,b,d⟩,e=>by simp only[List.getElem?_cons_zero,Fx]at a b;subst a;subst b;have:=su c d e;simp only[EX,List.set_cons_zero,List.getD_cons_zero,GB];omega
 | r::br,s::mL,v+1,i,x,y,⟨f,a,c⟩,⟨g,b,d⟩,e=>by have:=qU (br:=br) (mL:=mL) (v:=v) (i:=i) ⟨f,by simpa using a,c⟩ ⟨g,by simpa using b,d⟩ e;simp only[EX,Qq,List.getD_cons_succ,GB]at this⊢;omega
theorem hl{Fin:List (List Int)}: ∀{T:List EB} {br:List (List Int)},J7 br Fin T->T.length=GB br Fin
 |[],br,h=>by rw[h.nil,xI];rfl
 | k::T,br,h=>by obtain⟨v,i,b,c,d,e,f⟩:=h.left k (by simp);have a:=hl (J7.fc (bT:=[]) (aH:=T) (h:=k) (by simpa using h));rw[b,c,Dx,Dx]at a;rw[qU d e f,DZ,<-a];rfl
theorem a7f(a:O7 L Fin):EH L Fin=GB L Fin:=by unfold EH;rw[if_pos (Ty a.1 a.2)]
theorem a4H{x:EB}(b:J7 br Fin T)(c:x∈T): ∃a,J7 (EX br x.FQ.toNat x.Gk.toNat x.EJ) Fin a/\a.length+1=T.length:=by obtain⟨d,e,rfl⟩:=List.append_of_mem c;exact⟨d++e,b.fc,by simp;omega⟩
theorem a1d(h:B4 u)(d:1<=u.A3.length)(f:CP L)(a:Cs u L=true):AO V 56 [.agg (A7 u).toArray,Bf L,AK R] (.bool (Lo u R L)):=by
 refine BQ (Ax (aC:=⟨[hg u h],[]⟩) n0.2 ?_);simp(disch:=first|omega|simp only[DI.AB];omega)[n0,rK,A7,a];refine((a0V h d f a (R:=R)).c4 (λv c=>by simp at c;rcases c with rfl|rfl|rfl<;>rfl)).AD λv t ⟨g,i⟩=> ?_;subst i;rcases g with⟨j,rfl⟩|⟨Fin,mj,lk,b,k,rfl⟩
 ·have e:=zE h.ok a j;simp[Yb,e]
 ·have e:=aB7 h.ok a k;cases b
  ·simp[Yb,e]
  ·simp[Yb,e]
end Go.Proofs.YtmmkkggfmigppaaGreat
end
