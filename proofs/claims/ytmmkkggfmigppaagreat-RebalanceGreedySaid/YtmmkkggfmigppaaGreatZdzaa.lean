/- A part of the proof. -/
import Derived.Test.YtmmkkggfmigppaaGreatZdy
set_option linter.all false
set_option maxRecDepth 20000
set_option maxHeartbeats 16000000
noncomputable section
namespace Go.EL
open Go Go.DI
def CR(g:Ah->Int->Int):List Ah->List Int->Int
 |a::xs,aM::fs=>g a aM+CR g xs fs
 |_,_=>0
theorem R2{g h:Ah->Int->Int}: ∀{xs:List Ah} {fs:List Int},(∀(i:Nat) a aM,xs[i]?=some a->fs[i]?=some aM->g a aM=h a aM)->CR g xs fs=CR h xs fs
 |[],_,_=>rfl
 |_::_,[],_=>rfl
 | a::xs,aM::fs,e=>by simp only[CR,e 0 a aM rfl rfl,R2 (xs:=xs) (fs:=fs) λi a aM b c=>e (i+1) a aM (by simpa using b) (by simpa using c)]
theorem al{g h:Ah->Int->Int}: ∀{xs:List Ah} {fs:List Int},CR (λa aM=>g a aM-h a aM) xs fs=CR g xs fs-CR h xs fs
 |[],_=>rfl
 |_::_,[]=>rfl
 |a::xs,aM::fs=>by simp only[CR,al (xs:=xs) (fs:=fs)];omega
theorem vp{g h:Ah->Int->Int}: ∀{xs:List Ah} {fs:List Int},CR (λa aM=>g a aM+h a aM) xs fs=CR g xs fs+CR h xs fs
 |[],_=>rfl
 |_::_,[]=>rfl
 |a::xs,aM::fs=>by simp only[CR,vp (xs:=xs) (fs:=fs)];omega
theorem x8: ∀{xs:List Ah} {fs:List Int},CR (λ_ _=>0) xs fs=0
 |[],_=>rfl
 |_::_,[]=>rfl
 |a::xs,aM::fs=>by simp only[CR,x8 (xs:=xs) (fs:=fs)];rfl
theorem UE{x:Int}: ∀{xs:List Ah} {fs:List Int},Cx xs fs x=CR (λa aM=>Bd a.f x aM-Bd a.t x aM) xs fs
 |[],_=>by simp[Cx,CR]
 |_::_,[]=>by simp[Cx,CR]
 |a::xs,aM::fs=>by simp only[Cx,CR,UE (xs:=xs) (fs:=fs)]
theorem gp{s:Int->Bool}: ∀{xs:List Ah} {fs:List Int},Ho xs fs s=CR (λa aM=>(if s a.f=true then aM else 0)-(if s a.t=true then aM else 0)) xs fs
 |[],_=>by simp[Ho,CR]
 |_::_,[]=>by simp[Ho,CR]
 |a::xs,aM::fs=>by simp only[Ho,CR,gp (xs:=xs) (fs:=fs)]
variable{N:List Int}{n:Bw}{s:Int->Bool}{f:Nat->List Ah}{c:Int}{v:Nat}
theorem mO(h:n.CE)(b:DT n N)(c:s n.Ad=false)(d:s n.Aq=false):Ho n.A0 N s=0:=by
 have g:=h.Lq;rw[<-kC s n.AS.toNat n.A0 N h.iZ];have: ∀k:Nat,k<=n.AS.toNat->Gj s (Cx n.A0 N) k=0:= λk=>by
  induction k with
  |zero=>intro _;rfl
  | succ k f=>
    intro i;simp only[Gj,f (by omega)];split
    ·next a=>rw[b.RV k ⟨by omega,by omega⟩ (λe=>by rw[e,c]at a;cases a) (λe=>by rw[e,d]at a;cases a)];rfl
    ·rfl
 simp_all
def FP(g:Ah->Int):List Ah->Int
 |a::xs=>g a+FP g xs
 |[]=>0
def BO(f:Nat->Int):Nat->Int
 |0=>0
 |n+1=>BO f n+f n
theorem N1{g:Ah->Int}: ∀{l k:List Ah},FP g (l++k)=FP g l+FP g k
 |[],k=>by simp[FP]
 |a::l,k=>by simp only[Js,FP,N1 (l:=l) (k:=k)];omega
theorem W8{g:Ah->Int}: ∀{l:List Ah},(∀a∈l,g a=0)->FP g l=0
 |[],_=>rfl
 |a::l,h=>by simp only[FP,h a (by simp),W8 (l:=l) λb hb=>h b (by simp[hb])];rfl
theorem Tg{g:Ah->Int}: ∀n:Nat,FP g ((List.range n).flatMap f)=BO (λv=>FP g (f v)) n
 |0=>rfl
 | n+1=>by rw[MV,List.flatMap_append,N1,Tg n];simp[BO]
theorem Gw{f g:Nat->Int}: ∀{n:Nat},(∀v,v<n->f v=g v)->BO f n=BO g n
 |0,_=>rfl
 |n+1,h=>by simp only[BO,h n (by omega),Gw (n:=n) λv a=>h v (by omega)]
theorem RM: ∀{n:Nat},BO (λ_=>0) n=0
 |0=>rfl
 |n+1=>by simp only[BO,RM (n:=n)];rfl
theorem Oq: ∀{n:Nat},v<n->BO (λa=>if a=v then c else 0) n=c
 |0,h=>absurd h (Ks _)
 | n+1,h=>by
   by_cases e:v=n
   ·subst e;have:BO (λa=>if a=v then c else 0) v=0:=by
     have b:BO (λa=>if a=v then c else 0) v=BO (λ_=>0) v:=Gw λa f=>if_neg (by omega);rw[b,RM]
    simp only[BO,this,if_true];omega
   ·have b:BO (λa=>if a=v then c else 0) n=c:=Oq (by omega);simp only[BO,b,if_neg (λd:n=v=>e d.symm)];omega
theorem Ra{f g:Nat->Int}: ∀{n:Nat},(∀v,v<n->f v<=g v)->BO f n<=BO g n
 |0,_=>FM _
 | n+1,h=>by have:=Ra (n:=n) λv a=>h v (by omega);have:=h n (by omega);simp only[BO];omega
theorem Rv{f g:Nat->Int}: ∀{n:Nat},(∀v,v<n->f v<=g v)->BO g n<=BO f n-> ∀v,v<n->f v=g v
 |0,_,_,v,a=>absurd a (Ks _)
 | n+1,h,b,v,a=>by
   have c:=Ra (n:=n) λv a=>h v (by omega);have d:=h n (by omega);simp only[BO]at b;by_cases e:v=n
   ·subst e;omega
   ·exact Rv (n:=n) (λv a=>h v (by omega)) (by omega) v (by omega)
theorem bJ{g:Nat->Ah->Int->Int}{xs:List Ah}{fs:List Int}: ∀{n:Nat},BO (λv=>CR (g v) xs fs) n=CR (λa aM=>BO (λv=>g v a aM) n) xs fs
 |0=>x8.symm
 | n+1=>by simp only[BO,bJ (n:=n)];exact vp.symm
theorem bq{p:Ah->Bool}: ∀{xs:List Ah} {fs:List Int},(∀a∈xs,0<=a.c)->(∀(i:Nat) a aM,xs[i]?=some a->fs[i]?=some aM->aM<=a.c)->CR (λa aM=>if p a=true then aM else 0) xs fs<=FP (λa=>if p a=true then a.c else 0) xs
 |[],_,_,_=>FM _
 | a::xs,[],d,_=>by
   have: ∀{l:List Ah},(∀a∈l,0<=a.c)->0<=FP (λa=>if p a=true then a.c else 0) l:= λ{l}=>by
    induction l with
    |nil=>intro _;exact FM _
    | cons b l f=>intro h;have g:=f λx j=>h x (by simp[j]);have m:=h b (by simp);simp only[FP];split<;>omega
   exact this d
 | a::xs,aM::fs,d,h=>by have n:=h 0 a aM rfl rfl;have g:=bq (p:=p) (xs:=xs) (fs:=fs) (λa e=>d a (by simp[e])) λi a aM e k=>h (i+1) a aM (by simpa using e) (by simpa using k);simp only[CR,FP];split<;>omega
end Go.EL
namespace Go.Proofs.YtmmkkggfmigppaaGreat
open Go Go.DI Go.Big Go.EL
def Kd(u:AL)(a:Ah):Nat:=((a.f-2-u.A3.length).tdiv ((u.A5.length:Int)-1)).toNat
variable{d v i j w:Nat}{u:AL}{x aM:Int}{R N:List Int}{a:Ah}{Fin L br:List (List Int)}{T:List EB}
theorem PF(h:BS u)(a:d<u.A4.length):Kd u (D8 u v d)=v:=by have:=(WD h (v:=v) a).1;show((Ap u v (CI u d)-2-u.A3.length).tdiv ((u.A5.length:Int)-1)).toNat=v;rw[this];omega
def DC(u:AL)(v:Nat):List Ah->List Int->List Int
 |a::l,aM::N=>(if AI u 0<=a.t/\aM≠0/\Kd u a=v then[a.t-AI u 0]else[])++DC u v l N
 |_,_=>[]
theorem cD{u:AL}{v:Nat}: ∀{xs:List Ah} {fs:List Int} {L:List (List Int)} {r:List Int},L[v]?=some r->(Gz u xs fs L)[v]?=some (r++DC u v xs fs)
 |[],_,L,r,h=>by simp[Gz,DC,h]
 |_::_,[],L,r,h=>by simp[Gz,DC,h]
 | a::xs,aM::fs,L,r,h=>by
   have g:=(Ae.1 h).1;simp only[Gz,DC];by_cases c:AI u 0<=a.t/\aM≠0
   ·rw[if_pos c];by_cases e:Kd u a=v
    ·have d:((a.f-2-u.A3.length).tdiv ((u.A5.length:Int)-1)).toNat=v:=e;rw[d,if_pos ⟨c.1,c.2,e⟩];have i:L.getD v []=r:=(by simp[h]);rw[i,cD (r:=r++[a.t-AI u 0]) (by simp[g])];simp
    ·have d:((a.f-2-u.A3.length).tdiv ((u.A5.length:Int)-1)).toNat≠v:=e;rw[if_neg (λb=>e b.2.2),cD (r:=r) (by rw[List.getElem?_set_ne d,h])];simp
   ·rw[if_neg c,if_neg (λb=>c ⟨b.1,b.2.1⟩),cD (r:=r) h];simp
theorem v7: ∀{xs:List Ah} {fs:List Int} {L:List (List Int)},(Gz u xs fs L).length=L.length
 |[],_,_=>by simp[Gz]
 |_::_,[],_=>by simp[Gz]
 | a::xs,aM::fs,L=>by simp only[Gz];rw[v7];split<;>simp
theorem mI{u:AL}{v:Nat}: ∀{xs:List Ah} {fs:List Int},((DC u v xs fs).length:Int)=CR (λa aM=>if AI u 0<=a.t/\aM≠0/\Kd u a=v then 1 else 0) xs fs
 |[],_=>by simp[DC,CR]
 |_::_,[]=>by simp[DC,CR]
 | a::xs,aM::fs=>by simp only[DC,CR,En,N5,mI (xs:=xs) (fs:=fs)];split<;>simp
theorem PI: ∀{xs:List Ah} {fs:List Int},x∈DC u v xs fs-> ∃(i:Nat) (a:Ah) (aM:Int),xs[i]?=some a/\fs[i]?=some aM/\AI u 0<=a.t/\aM≠0/\Kd u a=v/\x=a.t-AI u 0
 |[],_,h=>by simp[DC]at h
 |_::_,[],h=>by simp[DC]at h
 | a::xs,aM::fs,h=>by
   simp only[DC,D2]at h;rcases h with h|h
   ·split at h
    ·next c=>simp at h;exact⟨0,a,aM,rfl,rfl,c.1,c.2.1,c.2.2,h⟩
    ·simp at h
   ·obtain⟨i,b,d,e,f,g⟩:=PI h;exact⟨i+1,b,d,by simpa using e,by simpa using f,g⟩
def Hw(u:AL)(v:Nat)(x:Int):Bool:=(List.range u.A5.length).any λi=>decide (x=Ap u v i)
theorem gv:Hw u v x=true↔ ∃i,i<u.A5.length/\x=Ap u v i:=by unfold Hw;simp[List.any_eq_true]
theorem KN(h:BS u)(g:v<u.A3.length)(k:w<u.A3.length)(l:i<u.A5.length)(m:j<u.A5.length)(e:Ap u v i=Ap u w j):v=w/\i=j:=by
 have n:=h.D6;obtain⟨a,o⟩: ∃a:Nat,u.A5.length=a+1:=⟨u.A5.length-1,by omega⟩;have c:((u.A5.length:Int)-1)=a:=by omega
 have z: ∀b:Nat,0<=(b:Int)*a:= λb=>MH (by omega) (by omega);unfold Ap at e;rw[c]at e;have p:=z v;have r:=z w;by_cases d:i=0
 ·omega
 ·by_cases f:j=0
  ·omega
  ·rw[if_neg d,if_neg f]at e;rcases Nat.lt_trichotomy v w with q|q|q
   ·have:((v:Int)+1)*a<=(w:Int)*a:=Jt (by omega) (by omega)
    grind
   ·subst q;omega
   ·have:((w:Int)+1)*a<=(v:Int)*a:=Jt (by omega) (by omega)
    grind
theorem bo(h:BS u)(b:v<u.A3.length)(c:w<u.A3.length)(a:i<u.A5.length):Hw u v (Ap u w i)=decide (w=v):=by
 by_cases e:w=v
 ·subst e;rw[gv.2 ⟨i,a,rfl⟩,decide_eq_true rfl]
 ·rw[Hk e];cases d:Hw u v (Ap u w i)with
  |false=>rfl
  | true=>obtain⟨j,f,g⟩:=gv.1 d;exact absurd (KN h c b a f g).1 e
theorem Rj{u:AL}(h:BS u){v:Nat}(a:v<u.A3.length){x:Int}(d:x<2\/AI u 0<=x):Hw u v x=false:=by
 cases b:Hw u v x with
 |false=>rfl
 | true=>obtain⟨j,c,e⟩:=gv.1 b;have:=E7 h a c;omega
theorem a7D(h:BS u)(b:v<u.A3.length)(s:a∈Ak u R)(C:0<=aM)(x:aM<=a.c):
 ((if Hw u v a.f=true then aM else 0)-(if Hw u v a.t=true then aM else 0))=(if AI u 0<=a.t/\aM≠0/\Kd u a=v then 1 else 0)-(if(decide (a.f=0)&&decide (a.t=2+v))=true then aM else 0):=by
 have q:=h.D6;have D:=I6 h;rcases P2.1 s with⟨w,e,n⟩|⟨d,p,rfl⟩
 ·rcases MB.1 n with rfl|⟨j,E,rfl⟩|⟨d,p,_,rfl⟩
  ·have F:=E7 h e (i:=0) q;have y:Ap u w 0=2+(w:Int):=(by simp[Ap]);have g:Hw u v 0=false:=Rj h b (.inl (by omega));have k:Hw u v (2+w)=decide (w=v):=(by rw[<-y];exact bo h b e q);have l: ¬AI u 0<=2+(w:Int):=(by omega);simp only[FR,g,k,l,false_and,if_false,E3]
   grind
  ·have o:j+1<u.A5.length:=(by omega);have G:=(h.Hn o (h.I5 o (by omega))).1;have r:D1 u (j+1)<u.A5.length:=(by omega);have z:=E7 h e r;have H:=E7 h e o;have g:=bo h b e r;have k:=bo h b e o;have l: ¬AI u 0<=Ap u w (j+1):=(by omega);have m: ¬Ap u w (D1 u (j+1))=0:=(by omega);simp only[I3,g,k,l,m,false_and,if_false,decide_false,Bool.false_and,E3];omega
  ·have n:=(Gq h p).1;have z:=E7 h e n;have g:=bo h b e n;have A:AI u d=AI u 0+d:=(by unfold AI;omega);have k:Hw u v (AI u d)=false:=Rj h b (.inr (by omega));have l:AI u 0<=AI u d:=(by omega);have m: ¬Ap u w (CI u d)=0:=(by omega);have B:=PF h (v:=w) p;rw[B];have I:aM<=1:=x;simp only[D8,g,k,l,m,true_and,decide_false,Bool.false_and,E3,if_false]
   grind
 ·have A:AI u d=AI u 0+d:=(by unfold AI;omega);have g:Hw u v (AI u d)=false:=Rj h b (.inr (by omega));have k:Hw u v 1=false:=Rj h b (.inl (by omega));have l: ¬AI u 0<=1:=(by omega);have m: ¬AI u d=0:=(by omega);simp[HX,g,k,l,m]
def NQ(u:AL)(R N:List Int)(v:Nat):Int:=CR (λa aM=>if(decide (a.f=0)&&decide (a.t=2+(v:Int)))=true then aM else 0) (Ak u R) N
theorem Ws(h:BS u)(c:DT (D0 u R) N)(b:v<u.A3.length):((DC u v (Ak u R) N).length:Int)=NQ u R N v:=by
 have j:=R7 h R;have m:=I6 h;have d:=mO j c (s:=Hw u v) (Rj h b (.inl (by show(0:Int)<2;omega))) (Rj h b (.inl (by show(1:Int)<2;omega)));rw[gp]at d
 have e:CR (λa aM=>(if Hw u v a.f=true then aM else 0)-(if Hw u v a.t=true then aM else 0)) (Ak u R) N=CR (λa aM=>(if AI u 0<=a.t/\aM≠0/\Kd u a=v then 1 else 0)-(if(decide (a.f=0)&&decide (a.t=2+(v:Int)))=true then aM else 0)) (Ak u R) N:=
  R2 λi a aM g k=>by have:=c.Da.2 i a aM g k;exact a7D h b (B5 g) this.1 this.2
 have l:CR (λa aM=>(if Hw u v a.f=true then aM else 0)-(if Hw u v a.t=true then aM else 0)) (Ak u R) N=0:=d;rw[e,al]at l;rw[mI];unfold NQ;omega
theorem a6Q(h:BS u)(p:v<u.A3.length):FP (λa=>if(decide (a.f=0)&&decide (a.t=2+(v:Int)))=true then a.c else 0) (Ak u R)=CD u v:=by
 have r:=h.D6;have s:=I6 h;unfold Ak;rw[N1,Tg,W8 (l:=(List.range u.A4.length).map (HX u R))]
 ·rw[Gw (g:= λq=>if q=v then CD u v else 0),Oq p]
  ·omega
  ·intro w m;unfold Gv;simp only[FP];rw[W8]
   ·by_cases e:w=v
    ·subst e;simp[FR]
    ·have: ¬(2+(w:Int)=2+v):=(by omega);simp[FR,e,this]
   ·intro a b;have x:a∈Gv u w:=(by unfold Gv;exact Pc _ b);simp only[D2,CG,G3,List.mem_filter]at b;rcases b with⟨j,y,rfl⟩|⟨d,⟨n,_⟩,rfl⟩
    ·have o:j+1<u.A5.length:=(by omega);have z:=(h.Hn o (h.I5 o (by omega))).1;have:=(E7 h m (i:=D1 u (j+1)) (by omega)).1;have k: ¬Ap u w (D1 u (j+1))=0:=(by omega);simp[I3,k]
    ·have:=(E7 h m (Gq h n).1).1;have k: ¬Ap u w (CI u d)=0:=(by omega);simp[D8,k]
 ·intro a b;obtain⟨d,n,rfl⟩:=CG.1 b;have A:AI u d=AI u 0+d:=(by unfold AI;omega);have k: ¬AI u d=0:=(by omega);simp[HX,k]
theorem VR(h:BS u)(c:DT (D0 u R) N)(d:v<u.A3.length):NQ u R N v<=CD u v:=by have e:=R7 h R;rw[<-a6Q h (R:=R) d];exact bq (p:= λa=>decide (a.f=0)&&decide (a.t=2+(v:Int))) (λa b=>(e.Gu a b).2.2.1) λi a aM b g=>(c.Da.2 i a aM b g).2
theorem Uu(h:BS u):value (D0 u R) N=BO (NQ u R N) u.A3.length:=by
 have A:=h.D6;have B:=I6 h;have C:=R7 h R;show Cx (Ak u R) N 0=BO (λv=>CR _ _ _) u.A3.length;rw[UE,bJ];refine R2 λi a aM o D=> ?_;have c:=B5 o;have off: ∀{x y aM:Int},¬x=y->Bd x y aM=0:= λp=>if_neg p;have E: ¬a.f=0->BO (λv=>if(decide (a.f=0)&&decide (a.t=2+(v:Int)))=true then aM else 0) u.A3.length=0:= λq=>by rw[Gw (g:= λ_=>0),RM];intro v _;simp[q]
 rcases P2.1 c with⟨w,b,c⟩|⟨d,l,rfl⟩
 ·rcases MB.1 c with rfl|⟨j,F,rfl⟩|⟨d,l,_,rfl⟩
  ·have e:BO (λv=>if(decide ((FR u w).f=0)&&decide ((FR u w).t=2+(v:Int)))=true then aM else 0) u.A3.length=aM:=by
    rw[Gw (g:= λr=>if r=w then aM else 0),Oq b];intro v _;by_cases e:v=w
    ·subst e;simp[FR]
    ·have: ¬(2+(w:Int)=2+v):=(by omega);simp[FR,e,this]
   rw[e];have:Bd (FR u w).t 0 aM=0:=off (by show¬2+(w:Int)=0;omega);rw[this];show Bd 0 0 aM-0=aM;simp[Bd]
  ·have k:j+1<u.A5.length:=(by omega);have G:=(h.Hn k (h.I5 k (by omega))).1;have s:=(E7 h b (i:=D1 u (j+1)) (by omega)).1;have H:=(E7 h b k).1;have m: ¬(I3 u w (j+1)).f=0:=(by show¬Ap u w (D1 u (j+1))=0;omega);have n: ¬(I3 u w (j+1)).t=0:=by show¬Ap u w (j+1)=0;omega
   simp_all
  ·have s:=(E7 h b (Gq h l).1).1;have z:AI u d=AI u 0+d:=(by unfold AI;omega);have m: ¬(D8 u w d).f=0:=(by show¬Ap u w (CI u d)=0;omega);have n: ¬(D8 u w d).t=0:=by show¬AI u d=0;omega
   simp_all
 ·have z:AI u d=AI u 0+d:=(by unfold AI;omega);have m: ¬(HX u R d).f=0:=(by show¬AI u d=0;omega);have n: ¬(HX u R d).t=0:=by show¬(1:Int)=0;omega
  simp_all
theorem QA:Dr u=BO (CD u) u.A3.length:=by
 unfold Dr;have key: ∀(n:Nat) (c:Int),((List.range n).map (CD u)).foldr (· + ·) c=BO (CD u) n+c:= λn=>by
  induction n with
  |zero=>intro c;simp[BO]
  | succ n a=>intro c;rw[MV,Gs,List.foldr_append];simp only[Dl,List.map_nil,List.foldr_cons,List.foldr_nil];rw[a];simp only[BO];omega
 rw[key];omega
def Tm(L Fin br:List (List Int)):Prop:= ∀v i x,Eu br v i x->Eu L v i x\/Eu Fin v i x
def qL(L Fin:List (List Int)):Prop:= ∀v i j d,Eu L v i d->Eu Fin v j d->0<=d->Eu L v j d
theorem ri(d:Nat): ∀{T:List EB} {br:List (List Int)},J7 br Fin T->ES br d+T.countP (λh=>decide (h.EJ=(d:Int)))=ES Fin d+T.countP λh=>decide (h.Em=(d:Int))
 |[],br,h=>by rw[h.nil];simp
 | k::T,br,h=>by
   obtain⟨v,i,f,g,j,o,l⟩:=h.left k (by simp);have a:=ri d (J7.fc (bT:=[]) (aH:=T) (h:=k) (by simpa using h));obtain⟨r,m,n⟩:=j;have e:=gP (x:=k.EJ) m n d;rw[f,g,Dx,Dx]at a;simp only[MC]at a;rw[Nt,Nt];by_cases b:k.EJ=(d:Int)
   ·have c: ¬k.Em=(d:Int):= λq=>l (q.trans b.symm);simp only[b,c,if_true,if_false,decide_true,decide_false,E3]at e a⊢;omega
   ·by_cases c:k.Em=(d:Int)
    ·simp only[b,c,if_true,if_false,decide_true,decide_false,E3]at e a⊢;omega
    ·simp only[b,c,if_false,decide_false,E3]at e a⊢;omega
theorem dY{f g:Nat->Int}: ∀{n:Nat},BO (λv=>f v+g v) n=BO f n+BO g n
 |0=>rfl
 |n+1=>by simp only[BO,dY (n:=n)];omega
theorem pN{n:Nat}{q:Nat->Bool}: ∀{T:List EB},(∀x∈T,∃d:Nat,x.EJ=d/\d<n/\q d=true)->BO (λd=>if q d=true then((T.countP λh=>decide (h.EJ=(d:Int)):Nat):Int)else 0) n=T.length
 | [],_=>by rw[Gw (g:= λ_=>0) λd _=>by simp,RM];rfl
 | x::T,h=>by
   obtain⟨e,b,f,a⟩:=h x (by simp);have i:=pN (q:=q) (T:=T) λy j=>h y (by simp[j]);have:BO (λd=>if q d=true then(((x::T).countP λh=>decide (h.EJ=(d:Int)):Nat):Int)else 0) n=BO (λd=>if q d=true then((T.countP λh=>decide (h.EJ=(d:Int)):Nat):Int)else 0) n+BO (λd=>if d=e then 1 else 0) n:=by
    rw[<-dY];refine Gw λd _=> ?_;rw[Nt];by_cases c:d=e
    ·subst c;rw[if_pos a,if_pos a,if_pos rfl,if_pos (by simp[b])];simp
    ·have k: ¬x.EJ=(d:Int):=(by omega);simp[c,k]
   rw[this,i,Oq f,DZ];simp
theorem yN{n:Nat}{q:Nat->Bool}: ∀{T:List EB},BO (λd=>if q d=true then((T.countP λh=>decide (h.Em=(d:Int)):Nat):Int)else 0) n<=T.length
 | []=>by rw[Gw (g:= λ_=>0) λd _=>by simp,RM];simp
 | x::T=>by
   have f:=yN (q:=q) (T:=T) (n:=n);have e:BO (λd=>if q d=true then(((x::T).countP λh=>decide (h.Em=(d:Int)):Nat):Int)else 0) n<=BO (λd=>if q d=true then((T.countP λh=>decide (h.Em=(d:Int)):Nat):Int)else 0) n+BO (λd=>if x.Em=(d:Int)then 1 else 0) n:=by
    rw[<-dY];refine Ra λd _=> ?_;rw[Nt];by_cases c:x.Em=(d:Int)
    ·by_cases a:q d=true
     ·simp[c,a]
     ·simp[c,a]
    ·simp[c]
   have i:BO (λd:Nat=>if x.Em=(d:Int)then(1:Int)else 0) n<=1:=by
    by_cases c:0<=x.Em/\x.Em<n
    ·obtain⟨k,b⟩:=Dp c.1;rw[Gw (g:= λd=>if d=k then 1 else 0) λd _=>by
      by_cases a:d=k
      ·subst a;rw[if_pos b,if_pos rfl]
      ·rw[if_neg (by omega),if_neg a],Oq (by omega)]
     exact FM _
    ·rw[Gw (g:= λ_=>0) λd j=>if_neg (by omega),RM];omega
   rw[DZ]
   push_cast
   omega
theorem a5r(B:J7 br Fin T)(C:Tm L Fin br)(J:qL L Fin)(K: ∀(v:Nat) s,Fin[v]?=some s->s.Nodup)
 (M: ∀v i x,Eu Fin v i x-> ∃d:Nat,x=d/\d<u.A4.length) (N: ∀d,d<u.A4.length->1<=ES Fin d->((ES Fin d:Nat):Int)<CN u R d) (O:T≠[]): ∃x∈T,Ez u.A4.length (EV u br) (Ck u R) br x=true:=by
 apply MR;intro P;have Q: ∀{v i j x},Eu Fin v i x->Eu Fin v j x->i=j:= λ{v i j x} a o=>by obtain⟨r,k,b⟩:=a;obtain⟨s,D,E⟩:=o;rw[k]at D;cases D;have F:=(Ae.1 b).1;have G:=(Ae.1 E).1;have:=(List.getElem?_inj F (K v r k)).1 (b.trans E.symm);exact this
 have KT: ∀x∈T,∃d:Nat,x.EJ=d/\d<u.A4.length/\CN u R d<=ES br d/\1<=ES Fin d:= λx p=>by
  obtain⟨v,i,H,S,w,f,t⟩:=B.left x p;obtain⟨d,g,y⟩:=M v i _ f;refine⟨d,g,y,?_,?_⟩
  ·apply MR;intro X;refine P ⟨x,p,?_⟩;obtain⟨r,l,m⟩:=id w;have Y:=(Ae.1 l).1;have F:=(Ae.1 m).1;have U:Go.Big.DC br x=r:=(by unfold Go.Big.DC;rw[H,Dx,E1,l];rfl);unfold Ez;rw[U,H,S,g];simp only[AF,BW,JQ,List.contains_eq_mem,OB,Dx];refine⟨by omega,by omega,by omega,by omega,by rw[E1,m];rfl,by omega,by omega,λV=> ?_,?_⟩
   ·obtain⟨j,G,W⟩:=E5 V;have I:Eu br v j d:=⟨r,l,by rw[AP G,W]⟩;rw[g]at f t;rcases C v j _ I with a|a
    ·have o:=J v j i _ a f (by omega);rcases C v i _ w with z|z
     ·exact t (Si z o)
     ·exact t (Si z f)
    ·obtain rfl:=Q a f;exact t (Si w I)
   ·rw[Mc,MZ,E1,E1,GH y,GH y];simp only[Jb];omega
  ·obtain⟨r,l,m⟩:=f;unfold ES;rw[g]at m;exact List.count_pos_iff.2 (Mv.2 ⟨r,B5 l,B5 m⟩)
 obtain⟨q,A⟩: ∃q:Nat->Bool,q= λd=>decide (CN u R d<=ES br d)&&decide (1<=ES Fin d):=⟨_,rfl⟩;have Z:=pN (n:=u.A4.length) (q:=q) (T:=T) λx p=>by obtain⟨d,k,b,a3,a4⟩:=KT x p;exact⟨d,k,b,by rw[A];simp only[decide_eq_true a3,decide_eq_true a4];rfl⟩
 have A0:=yN (n:=u.A4.length) (q:=q) (T:=T);have A1:BO (λd=>if q d=true then(((T.countP λh=>decide (h.EJ=(d:Int)):Nat):Int)+1)else 0) u.A4.length<=BO (λd=>if q d=true then((T.countP λh=>decide (h.Em=(d:Int)):Nat):Int)else 0) u.A4.length:=Ra λd g=>by
  by_cases c:q d=true
  ·rw[if_pos c,if_pos c];rw[A]at c;simp only[AF,BW]at c;have a:=ri d B;have o:=N d g c.2;omega
  ·rw[if_neg c,if_neg c];exact FM _
 have A2:BO (λd=>if q d=true then(((T.countP λh=>decide (h.EJ=(d:Int)):Nat):Int)+1)else 0) u.A4.length=BO (λd=>if q d=true then((T.countP λh=>decide (h.EJ=(d:Int)):Nat):Int)else 0) u.A4.length+BO (λd=>if q d=true then 1 else 0) u.A4.length:=by
  rw[<-dY];refine Gw λd _=> ?_;by_cases c:q d=true
  ·rw[if_pos c,if_pos c,if_pos c]
  ·rw[if_neg c,if_neg c,if_neg c];rfl
 have A3:1<=BO (λd=>if q d=true then(1:Int)else 0) u.A4.length:=by
  obtain⟨x,A5,rfl⟩:=List.exists_cons_of_ne_nil O;obtain⟨e,k,b,a3,a4⟩:=KT x (by simp);have:BO (λd=>if d=e then(1:Int)else 0) u.A4.length<=BO (λd=>if q d=true then(1:Int)else 0) u.A4.length:=Ra λd _=>by
   by_cases c:d=e
   ·subst c;rw[if_pos rfl,if_pos (by rw[A];simp only[decide_eq_true a3,decide_eq_true a4];rfl)];exact FM _
   ·rw[if_neg c];split<;>omega
  rw[Oq b]at this;exact this
 omega
open Go Go.DI Go.Big
theorem aCv{x:EB}(h:Tm L Fin br)(b:jb br Fin x):Tm L Fin (EX br x.FQ.toNat x.Gk.toNat x.EJ):=by
 obtain⟨v,i,d,e,f,g,k⟩:=b;rw[d,e,Dx,Dx];intro w j y a;rw[iz f]at a;by_cases c:w=v/\j=i
 ·rw[if_pos c]at a;obtain⟨rfl,rfl⟩:=c;exact .inr (by rw[a];exact g)
 ·rw[if_neg c]at a;exact h w j y a
theorem aAE{l:List Int}(v:l.length<=1000000):AO V 206 [AK l,Z x] (.bool (decide (x∈l))):=by
 refine BQ (Ax (aC:=⟨[],[]⟩) ZQ.2 ?_);simp[ZQ,wX];refine Cc (aC:=⟨[],[]⟩) (λi A t=>(∀j (a:j<l.length),j<i-> ¬x=l[j])/\A 1=Z x/\A 7=AK l/\A 8=Z l.length/\A 9=Z i) l.length ?_ ?_ 0 _ _ (C8 _) ⟨λj a h=>absurd h (Ks _),by simp,by simp,by simp,by simp⟩
 ·rintro i A t o ⟨m,d,f,b,g⟩ w r;obtain⟨y,s⟩:=Cb o;have k:=(Ae.1 s).2;have p:(i:Int)<l.length:=(by omega);have u:=BZ (n:=i) (by omega);by_cases c:y=x
  ·have e:x∈l:=(by rw[<-c,<-k];exact Dq o);simp(disch:=first|omega|simp only[A9];omega)[bZ,VE,d,f,b,g,p,k,eq_true c,e]
  ·simp(disch:=first|omega|simp only[A9];omega)[bZ,VE,d,f,b,g,p,k,c,u,-H,-D,-I,-F,-List.map_map];refine r _ _ ⟨λj a z=> ?_,by simp[d],by simp[f],by simp[b],by simp⟩;by_cases e:j=i
   ·subst e;rw[k];exact λh=>c h.symm
   ·exact m j a (by omega)
 ·rintro A t ⟨m,d,f,b,g⟩;have e: ¬x∈l:= λh=>by
   obtain⟨j,a,e⟩:=E5 h;exact m j a a e.symm
  simp[bZ,VE,VE,b,g,e]
abbrev db:AN V:= .B9 206 (List Int×Int) (λx=>x.1.length<=1000000) (λx=>[AK x.1,Z x.2]) (λx=> .bool (decide (x.2∈x.1))) λ_ h=>aAE h
@[simp] theorem aFV{l:List Int}(h:l.length<=1000000):db.fn [O (l.map λx=>[Z x]) 1,Z x]=some (.bool (decide (x∈l))):=AN.BH (x:=(l,x)) h λ⟨b,c⟩ a=>by simpa using a
def MM(x:Int×Int×Int):Prop:=0<=x.1/\x.1<=1000/\0<=x.2.1/\x.2.1<=1000/\ -1000000000<=x.2.2/\x.2.2<=1000000000
def HR(bm a x:Int):Int:=if x-2-bm*a< -1 then-1 else x-2-bm*a
variable{bm:Int}{A:A2}{t:X}{Q:BM->A2->X->Prop}
theorem aBf{a:Int}(h:MM (bm,a,x)):AO V 202 [.agg #[Z bm,Z a],Z x] (Z (HR bm a x)):=by obtain⟨c,d,b,e,f,g⟩:=h;simp only at c d b e f g;have l:0<=bm*a:=MH c b;have m:bm*a<=1000*1000:=NW (Jt d b) (SV e (by omega));have i:IntKind.i64.wrap (x-2)=x-2:=Ac (by omega) (by omega);have j:IntKind.i64.wrap (bm*a)=bm*a:=Ac (by omega) (by omega);have k:IntKind.i64.wrap (x-2-bm*a)=x-2-bm*a:=Ac (by omega) (by omega);refine BQ (Ax (aC:=⟨[],[]⟩) a1.2 ?_);simp[a1,sQ,i,j,k,HR]
abbrev gf:AN V:= .B9 202 (Int×Int×Int) MM (λx=>[.agg #[Z x.1,Z x.2.1],Z x.2.2]) (λx=>Z (HR x.1 x.2.1 x.2.2)) λ_ h=>aBf h
@[simp] theorem aKW{a:Int}(h:MM (bm,a,x)):gf.fn [.agg #[Z bm,Z a],Z x]=some (Z (HR bm a x)):=AN.BH (x:=(bm,a,x)) h λ⟨c,d,e⟩ b=>by simp at b⊢;omega
def IL(bm a x:Int):Int:=if x<2+bm then x-2 else(x-2-bm).tdiv (a-1)
theorem za{a:Int}(h:MM (bm,a,x))(p:2<=a\/x<2+bm):AO V 203 [.agg #[Z bm,Z a],Z x] (Z (IL bm a x)):=by
 obtain⟨e,f,g,i,j,k⟩:=h;simp only at e f g i j k;have b:IntKind.i64.wrap (2+bm)=2+bm:=Ac (by omega) (by omega);have d:IntKind.i64.wrap (x-2)=x-2:=Ac (by omega) (by omega);have l:IntKind.i64.wrap (x-2-bm)=x-2-bm:=Ac (by omega) (by omega);have m:IntKind.i64.wrap (a-1)=a-1:=Ac (by omega) (by omega);refine BQ (Ax (aC:=⟨[],[]⟩) Ut.2 ?_);by_cases c:x<2+bm
 ·simp[Ut,fi,b,d,c,IL]
 ·have n: ¬a-1=0:=(by omega);have r: -1000000000<=(x-2-bm).tdiv (a-1)/\(x-2-bm).tdiv (a-1)<=1000000000:=by
   have:0<=x-2-bm:=(by omega);rw[Int.tdiv_eq_ediv_of_nonneg this];have:=Int.ediv_nonneg this (show 0<=a-1 by omega);have:=Int.ediv_le_self (a-1) (show 0<=x-2-bm by omega);omega
  have o:IntKind.i64.wrap ((x-2-bm).tdiv (a-1))=(x-2-bm).tdiv (a-1):=Ac (by omega) (by omega);simp[Ut,fi,b,d,l,m,o,c,n,IL]
abbrev kM:AN V:= .B9 203 (Int×Int×Int) (λx=>MM x/\(2<=x.2.1\/x.2.2<2+x.1)) (λx=>[.agg #[Z x.1,Z x.2.1],Z x.2.2]) (λx=>Z (IL x.1 x.2.1 x.2.2)) λ_ h=>za h.1 h.2
@[simp] theorem aIG{a:Int}(h:MM (bm,a,x))(b:2<=a\/x<2+bm):kM.fn [.agg #[Z bm,Z a],Z x]=some (Z (IL bm a x)):=AN.BH (x:=(bm,a,x)) ⟨h,b⟩ λ⟨d,e,f⟩ c=>by simp at c⊢;omega
theorem gq: ∀(l:List Ah) (i:Nat) (a:Ah) (c:Int),l[i]?=some a->(BI l).set (i*4+3) (Z c)=BI (l.set i ⟨a.f,a.t,a.c,c⟩)
 |[],_,_,_,h=>by simp at h
 | b::l,0,a,c,h=>by simp at h;subst h;simp[BI,BC]
 | b::l,i+1,a,c,h=>by have d:=gq l i a c (by simpa using h);have e:(i+1)*4+3=(i*4+3)+1+1+1+1:=(by omega);rw[e];simp only[BI,Dl,I2,BC,Js,MC,Qq]at d⊢;rw[d]
def JJ(L:List (List Int))(v:Int):List Int:=L.getD v.toNat []
def Gl(u:AL)(L:List (List Int))(a:Ah):Bool:=decide (0<=HR u.A3.length u.A5.length a.t)&& !decide (HR u.A3.length u.A5.length a.t∈JJ L (IL u.A3.length u.A5.length a.f))
def H7(u:AL)(L:List (List Int))(a:Ah):Ah:=if Gl u L a=true then⟨a.f,a.t,a.c,1⟩else a
def As(u:AL)(R:List Int)(L:List (List Int)):List Ah:=(Ak u R).map (H7 u L)
def C9(u:AL)(R:List Int)(L:List (List Int)):Bw:=⟨AI u u.A4.length,0,1,As u R L⟩
theorem bL:HR u.A3.length u.A5.length (AI u d)=d:=by unfold HR AI;generalize(u.A3.length:Int)*u.A5.length=x;split<;>omega
theorem iJ(h:x<AI u 0):HR u.A3.length u.A5.length x= -1:=by unfold HR;unfold AI at h;generalize(u.A3.length:Int)*u.A5.length=y at*;split<;>omega
theorem Uv(e:0<i)(f:i<u.A5.length):IL u.A3.length u.A5.length (Ap u v i)=v:=by
 obtain⟨a,g⟩: ∃a:Nat,u.A5.length=a+1:=⟨u.A5.length-1,by omega⟩;have b:((u.A5.length:Int)-1)=a:=by omega
 have z:0<=(v:Int)*a:=MH (by omega) (by omega);have c:Ap u v i=2+(u.A3.length:Int)+v*a+i-1:=by unfold Ap;rw[if_neg (by omega),b]
 unfold IL;rw[c,b,if_neg (by omega)];have d:(2+(u.A3.length:Int)+v*a+i-1-2-u.A3.length)=((i:Int)-1)+v*a:=by omega
 rw[d,Int.tdiv_eq_ediv_of_nonneg (by omega),Int.add_mul_ediv_right _ _ (by omega),Int.ediv_eq_zero_of_lt (by omega) (by omega)];omega
theorem Ps(h:BS u)(p:a∈Ak u R):
 (0<=a.f/\a.f<=506/\0<=a.t/\a.t<=506)/\((∃v d,v<u.A3.length/\d<u.A4.length/\Fk u v d=true/\a=D8 u v d/\HR u.A3.length u.A5.length a.t=d/\IL u.A3.length u.A5.length a.f=v/\2<=u.A5.length)\/HR u.A3.length u.A5.length a.t= -1):=by
 obtain⟨z,A⟩:=I6 h;have c: ∀{v i:Nat},v<u.A3.length->i<u.A5.length->0<=Ap u v i/\Ap u v i<=506:= λb q=>by have:=E7 h b q;have:AI u 0<=AI u u.A4.length:=(by unfold AI;omega);omega
 have g: ∀d:Nat,d<=u.A4.length->0<=AI u d/\AI u d<=506:= λd k=>by have:AI u d<=AI u u.A4.length:=(by unfold AI;omega);have:AI u 0<=AI u d:=(by unfold AI;omega);omega
 rcases P2.1 p with⟨v,b,r⟩|⟨d,k,rfl⟩
 ·rcases MB.1 r with rfl|⟨j,B,rfl⟩|⟨d,k,s,rfl⟩
  ·have:=E7 h b (i:=0) (by have:=h.D6;omega);simp only[Ap,if_true]at this;refine⟨⟨by simp[FR],by simp[FR],by simp[FR];omega,?_⟩,.inr (iJ (by simp only[FR];omega))⟩;have:=c b (i:=0) (by have:=h.D6;omega);simp[Ap]at this;simp[FR];omega
  ·have l:j+1<u.A5.length:=(by omega);have n:D1 u (j+1)<u.A5.length:=by
    obtain⟨x,o⟩: ∃x,u.A5[j+1]?=some x:=⟨_,AP l⟩;have:=h.Gc (j+1) x (by omega) o;have e:D1 u (j+1)=x.parent.toNat:=(by unfold D1;simp only[o]);omega
   exact⟨⟨(c b n).1,(c b n).2,(c b l).1,(c b l).2⟩,.inr (iJ (E7 h b l).2)⟩
  ·obtain⟨m,w⟩:=Gq h k;have y:0<CI u d:=by
    rcases Sg (CI u d)with e|e
    ·rw[e]at w;have:=h.Ly;omega
    ·exact e
   exact⟨⟨(c b m).1,(c b m).2,(g d (by omega)).1,(g d (by omega)).2⟩,.inl ⟨v,d,b,k,s,rfl,bL,Uv y m,by omega⟩⟩
 ·refine⟨⟨(g d (by omega)).1,(g d (by omega)).2,by simp[HX],by simp[HX]⟩,.inr (iJ ?_)⟩;simp only[HX];omega
def FH(u:AL)(R:List Int)(L:List (List Int))(i:Nat):List Ah:=((Ak u R).take i).map (H7 u L)++(Ak u R).drop i
theorem iG:(FH u R L i).length=(Ak u R).length:=by simp only[FH,En,E9,IG,List.length_drop];omega
theorem vc(a:i<(Ak u R).length):(FH u R L i)[i]?=(Ak u R)[i]?:=by rw[FH,Ib (by simp only[E9,IG];omega)];simp only[E9,IG,RL];congr 1;omega
theorem uv(b:(Ak u R)[i]?=some a):(FH u R L i).set i (H7 u L a)=FH u R L (i+1):=by
 have c:=(Ae.1 b).1;apply Mi;intro j;rw[Ih];simp only[iG,c,if_true];unfold FH;simp only[Mk,E9,IG,GX,PU,RL];rcases Nat.lt_trichotomy j i with h|h|h
 ·rw[if_neg (by omega),if_pos (by omega),if_pos (by omega),if_pos (by omega),if_pos (by omega)]
 ·subst h;rw[if_pos rfl,if_pos (by omega),if_pos (by omega),b];rfl
 ·rw[if_neg (by omega),if_neg (by omega),if_neg (by omega)];congr 1;omega
theorem uP:FH u R L 0=Ak u R:=by simp[FH]
theorem o5:FH u R L (Ak u R).length=As u R L:=by simp[FH,As]
theorem nv{l:List Ah}(h:l[i]?=some a):l.set i a=l:=by
 apply Mi;intro j;rw[Ih];split
 ·next e=>subst e;rw[if_pos (Ae.1 h).1,h]
 ·rfl
structure TP(u:AL)(R:List Int)(L:List (List Int))(i:Nat)(A:A2)(t:X):Prop where
 DH:t.Y 0=some ⟨A7 u,true⟩
 JK:t.Y 1=some ⟨[Z 0,Z 0,Z 0,.slice none 0 0],true⟩
 Xu:t.Y 9=some ⟨[Z (D0 u R).AS,Z 0,Z 1,AM 12 (Ak u R).length 4],true⟩
 a7U:t.Y 12=some ⟨BI (FH u R L i),true⟩
 z1:t.Y 20=some ⟨[Z u.A3.length,Z u.A5.length],true⟩
 Fe:A 1=Bf L
 K1:A 6=AG 1
 Hc:A 8=AG 9
 RP:A 9=Z 0
 a5D:A 10=AG 20
theorem TP.ac{a:A2}{b:X}(h:TP u R L i A t)(c:b.Y 12=some ⟨BI (FH u R L j),true⟩)(d:b.Y 0=t.Y 0)(e:b.Y 1=t.Y 1)(f:b.Y 9=t.Y 9)(g:b.Y 20=t.Y 20)
 (k:a 1=A 1) (l:a 6=A 6) (m:a 8=A 8) (n:a 9=A 9) (o:a 10=A 10):TP u R L j a b:=
 ⟨d.trans h.DH,e.trans h.JK,f.trans h.Xu,c,g.trans h.z1,k.trans h.Fe,l.trans h.K1,m.trans h.Hc,n.trans h.RP,o.trans h.a5D⟩
theorem a22(h:B4 u)(A0:CP L)(AB:L.length=u.A3.length)(b:TP u R L 0 A t)(g:A 33=AM 12 (Ak u R).length 4)(e:A 34=Z (Ak u R).length)(l:A 35=Z 0)
 (A1: ∀M N,TP u R L (Ak u R).length M N->Q (.Ao 0) M N):Bc V (.loop Rm) A t Q:=by
 have AD:=h.ok.Cg;have AE:=h.ok.Es;have AF:=h.ok.EF;have AI:=Oa h.ok (R:=R);refine Cc (aC:=⟨[gf,kM,db],[]⟩) (λi A t=>TP u R L i A t/\A 33=AM 12 (Ak u R).length 4/\A 34=Z (Ak u R).length/\A 35=Z i) (Ak u R).length ?_ ?_ 0 A t (C8 _) ⟨b,g,e,l⟩
 ·rintro i A t O ⟨b,g,e,l⟩ AK q;obtain⟨A2,A4,P,o,p,S,AL,A6,AN,s⟩:=id b;obtain⟨a,w⟩: ∃a,(Ak u R)[i]?=some a:=⟨_,AP O⟩;have x:(FH u R L i)[i]?=some a:=(by rw[vc O,w]);have y:=Il x;have z:=iG (u:=u) (R:=R) (L:=L) (i:=i);have B:i*4+4<=(Ak u R).length*4:=(by omega);have C:(i:Int)<(Ak u R).length:=(by omega);have G:=BZ (n:=i) (by omega);have AO:=E A2;have AQ:=E A4;have AR:=E P;have AS:=E p;have AT:=E o;obtain⟨⟨AU,AV,AW,AX⟩,A7⟩:=Ps h.ok (B5 w);have AY:MM (u.A3.length,u.A5.length,a.t):=⟨by omega,by simp only;omega,by simp only;omega,by simp only;omega,by simp only;omega,by simp only;omega⟩;have AZ:MM (u.A3.length,u.A5.length,a.f):=⟨by omega,by simp only;omega,by simp only;omega,by simp only;omega,by simp only;omega,by simp only;omega⟩;have A8:=gq _ i a 1 x;have T:=uv (L:=L) w;have U:Gl u L a=false->FH u R L (i+1)=FH u R L i:= λk=>by
   rw[<-T];simp only[H7,k];exact nv x
  have AA:Gl u L a=true->BI (FH u R L (i+1))=(BI (FH u R L i)).set (i*4+3) (Z 1):= λk=>by rw[A8,<-T];simp only[H7,k,if_true]
  rcases A7 with⟨v,d,Aa,Ab,Ac,rfl,m,J,Af⟩|m
  ·obtain⟨r,K⟩: ∃r,L[v]?=some r:=⟨_,AP (by omega)⟩;have W:=(Ae.1 K).2;have Ag:r.length<=1000000:=E8 (A0.2 r (B5 K)) (by omega);have X:JJ L (IL u.A3.length u.A5.length (D8 u v d).f)=r:=(by rw[J];simp only[JJ,Dx,E1,K,Jb]);have Ah: ¬(d:Int)<0:=(by omega);have Y:(v:Int)<L.length:=(by omega);have Ai:v<L.length:=(by omega);have Aj:2<=(u.A5.length:Int)\/(D8 u v d).f<2+u.A3.length:= .inl (by omega);by_cases c:(d:Int)∈r
   ·have k:Gl u L (D8 u v d)=false:=(by simp only[Gl,X,m,decide_eq_true c];simp);simp(disch:=first|omega|simp only[A9];omega)[Rm,S,s,g,e,l,o,p,C,y,z,B,BC,m,J,Y,Bz,W,c,G,-H,-D,-I,-F,-List.map_map];refine q _ _ ⟨b.ac (j:=i+1) (by rw[U k];simp(disch:=first|omega|simp only[A9];omega)[o,-H,-D,-I,-F,-List.map_map]) (by simp(disch:=first|omega|simp only[A9];omega)[-H,-D,-I,-F,-List.map_map]) (by simp(disch:=first|omega|simp only[A9];omega)[-H,-D,-I,-F,-List.map_map]) (by simp(disch:=first|omega|simp only[A9];omega)[-H,-D,-I,-F,-List.map_map]) (by simp(disch:=first|omega|simp only[A9];omega)[-H,-D,-I,-F,-List.map_map]) (by simp) (by simp) (by simp) (by simp) (by simp),by simp[g],by simp[e],by simp⟩
   ·have k:Gl u L (D8 u v d)=true:=(by simp only[Gl,X,m,Hk c];simp);simp(disch:=first|omega|simp only[A9];omega)[Rm,S,A6,s,g,e,l,P,o,p,C,y,z,B,BC,m,J,Y,Bz,W,c,G,-H,-D,-I,-F,-List.map_map];refine q _ _ ⟨b.ac (j:=i+1) (by rw[AA k];simp(disch:=first|omega|simp only[A9];omega)[-H,-D,-I,-F,-List.map_map]) (by simp(disch:=first|omega|simp only[A9];omega)[-H,-D,-I,-F,-List.map_map]) (by simp(disch:=first|omega|simp only[A9];omega)[-H,-D,-I,-F,-List.map_map]) (by simp(disch:=first|omega|simp only[A9];omega)[-H,-D,-I,-F,-List.map_map]) (by simp(disch:=first|omega|simp only[A9];omega)[-H,-D,-I,-F,-List.map_map]) (by simp) (by simp) (by simp) (by simp) (by simp),by simp[g],by simp[e],by simp⟩
  ·have k:Gl u L a=false:=(by simp only[Gl,m];simp);simp(disch:=first|omega|simp only[A9];omega)[Rm,s,g,e,l,o,p,C,y,z,B,BC,m,G,-H,-D,-I,-F,-List.map_map];refine q _ _ ⟨b.ac (j:=i+1) (by rw[U k];simp(disch:=first|omega|simp only[A9];omega)[o,-H,-D,-I,-F,-List.map_map]) (by simp(disch:=first|omega|simp only[A9];omega)[-H,-D,-I,-F,-List.map_map]) (by simp(disch:=first|omega|simp only[A9];omega)[-H,-D,-I,-F,-List.map_map]) (by simp(disch:=first|omega|simp only[A9];omega)[-H,-D,-I,-F,-List.map_map]) (by simp(disch:=first|omega|simp only[A9];omega)[-H,-D,-I,-F,-List.map_map]) (by simp) (by simp) (by simp) (by simp) (by simp),by simp[g],by simp[e],by simp⟩
 ·rintro A t ⟨b,g,e,l⟩;simp(disch:=first|omega|simp only[A9];omega)[Rm,e,l,-H,-D,-I,-F,-List.map_map];refine A1 _ _ ⟨b.DH,b.JK,b.Xu,b.a7U,b.z1,?_,?_,?_,?_,?_⟩;all_goals simp[b.Fe,b.K1,b.Hc,b.RP,b.a5D]
theorem yd(h:B4 u)(e:CP L)(f:Cs u L=true)(g:L.length=u.A3.length):Bh V 152 [.agg (A7 u).toArray,Bf L,AK R] Cl λv b=>v= .tuple #[.agg #[Z (C9 u R L).AS,Z 0,Z 1,AM 12 (As u R L).length 4],Z 0]/\b.Y 12=some ⟨BI (As u R L),true⟩:=by
 have n:=h.ok.D6;refine Ax (aC:=⟨[jm u h],[w6 u h]⟩) Zc.2 ?_;simp(disch:=first|omega|simp only[A9];omega)[Zc,wR,A7,f,-H,-D,-I,-F,-List.map_map];refine a22 h (R:=R) e g ⟨by simp(disch:=first|omega|simp only[A9];omega)[A7,-H,-D,-I,-F,-List.map_map],by simp(disch:=first|omega|simp only[A9];omega)[-H,-D,-I,-F,-List.map_map],by simp(disch:=first|omega|simp only[A9];omega)[-H,-D,-I,-F,-List.map_map],by simp(disch:=first|omega|simp only[A9];omega)[uP,-H,-D,-I,-F,-List.map_map],by simp(disch:=first|omega|simp only[A9];omega)[-H,-D,-I,-F,-List.map_map],by simp,by simp,by simp,by simp,by simp⟩ (by simp) (by simp) (by simp) λp b i=> ?_;obtain⟨q,c,d,a,r,s,j,k,l,t⟩:=id i;have w:=E c;have x:=E d;have y:=E a;have m:(As u R L).length=(Ak u R).length:=by simp[As]
 rw[o5]at a;simp(disch:=first|omega|simp only[A9];omega)[nk,j,k,l,c,d,m,-H,-D,-I,-F,-List.map_map];refine⟨rfl,?_⟩;simp(disch:=first|omega|simp only[A9];omega)[a,-H,-D,-I,-F,-List.map_map]
theorem a7I(h:B4 u)(e:CP L)(f:Cs u L=true)(g:L.length=u.A3.length)(t:X):Bh V 152 [.agg (A7 u).toArray,Bf L,AK R] t λv j=>v= .tuple #[.agg #[Z (C9 u R L).AS,Z 0,Z 1,AM t.ac (As u R L).length 4],Z 0]/\j=C4 t.ac [BI (As u R L)] (t.AE 1):=by
 refine Qy (n:=1) (r:= λk=> .tuple #[.agg #[Z (C9 u R L).AS,Z 0,Z 1,AM k (As u R L).length 4],Z 0]) (bs:= λ_=>[BI (As u R L)]) (λ_=>rfl) (λv b=>by simp at b;rcases b with rfl|rfl|rfl<;>rfl) ((yd h e f g).AD λv m ⟨b,l⟩=>⟨[12],by simp,rfl,λk=>⟨?_,λi cs c=> ?_⟩⟩) t
 ·rw[b];exact FO.Uc (Cf.cons (FO.U2 (Cf.cons (.DE rfl) (Cf.cons (.DE rfl) (Cf.cons (.DE rfl) (Cf.cons (.slice ⟨0,rfl,rfl⟩) Cf.nil))))) (Cf.cons (.DE rfl) Cf.nil))
 ·cases i with
  | zero=>simp at c;subst c;refine⟨12,_,rfl,l,Cf.cells λv b=> ?_⟩;simp only[BI,Mv,CG]at b;obtain⟨r,⟨a,_,rfl⟩,d⟩:=b;simp[BC]at d;rcases d with rfl|rfl|rfl|rfl<;>rfl
  |succ i=>simp at c
abbrev nZ(u:AL)(h:B4 u)(R:List Int)(L:List (List Int))(c:CP L)(d:Cs u L=true)(e:L.length=u.A3.length):Cp V:= .B9 152 Unit (λ_=>[.agg (A7 u).toArray,Bf L,AK R]) (λ_ t=>some (.tuple #[.agg #[Z (C9 u R L).AS,Z 0,Z 1,AM t.ac (As u R L).length 4],Z 0],C4 t.ac [BI (As u R L)] (t.AE 1))) λ_ t r f g a7 i=>by cases g;exact(a7I h c d e t).AD λr f ⟨a,b⟩=>by rw[a,b];exact i
@[simp] theorem aM2{h:B4 u}{a:CP L}{b:Cs u L=true}{c:L.length=u.A3.length}:(nZ u h R L a b c).fn [.agg #[Z u.ext,O (u.Bu.map CS) 4,O (u.Af.map CX) 4,O (u.A5.map Bq) 7,O (u.A4.map Bx) 3,O (u.B7.map BE) 17,O (u.A3.map CW) 2],O (L.map Bz) 1,O (R.map λx=>[Z x]) 1] t=some (.tuple #[.agg #[Z (C9 u R L).AS,Z 0,Z 1,AM t.ac (As u R L).length 4],Z 0],C4 t.ac [BI (As u R L)] (t.AE 1)):=Cp.BH (x:=()) (t:=t) λ_ _=>rfl
open Go Go.DI Go.EL
abbrev FF:=Int×Int
def Jg(s:FF):List Value:=[Z s.1,Z s.2]
def GL(l:List FF):List Value:=(l.map Jg).flatten
@[simp] theorem a0S: ∀(l:List FF),(GL l).length=l.length*2
  |[]=>rfl
  | a::l=>by have:=a0S l;simp only[GL,Dl,I2,En,DZ]at this⊢;rw[this];simp[Jg];omega
theorem lS: ∀{l:List FF} {i:Nat} {a:FF},l[i]?=some a->((GL l).drop (i*2)).take 2=Jg a
 |[],_,_,h=>by simp at h
 |b::l,0,a,h=>by simp at h;subst h;rfl
 | b::l,i+1,a,h=>by have:= @lS l i a (by simpa using h);rw[<-this,show(i+1)*2=i*2+2 by omega];simp[GL,Jg]
variable{r:List Value}{l:List FF}{b q:Nat}{m:X}{o:Bool}{y s:FF}
theorem uW{a:FF}(h:l[i]?=some a)(b:j<2):(GL l++r)[i*2+j]?=(Jg a)[j]?:=by have c:i<l.length:=(Ae.1 h).1;rw[Ke (by simp;omega),<-lS h,PU,if_pos b,RL]
theorem gz{a:FF}(h:l[i]?=some a):((GL l++r).drop (i*2)).take 2=Jg a:=by have b:i<l.length:=(Ae.1 h).1;rw[<-lS h,List.drop_append_of_le_length (by simp;omega),List.take_append_of_le_length (by simp;omega)]
theorem a4T(l k:List FF):GL (l++k)=GL l++GL k:=by simp[GL]
theorem gj: ∀{l:List FF} {r:List Value} {i:Nat} {a:FF},i<l.length->((GL l++r).set (i*2) (Z a.1)).set (i*2+1) (Z a.2)=GL (l.set i a)++r
 |[],_,_,_,h=>by simp at h
 |b::l,r,0,a,h=>by simp[GL,Jg]
 | b::l,r,i+1,a,h=>by have:= @gj l r i a (by simpa using h);rw[show(i+1)*2=i*2+2 by omega];simp only[GL,Jg,Dl,I2,Js,MC,Qq]at this⊢;rw[this]
structure GG(m:X)(q b:Nat)(l:List FF):Prop where
 SO:m.Y q=some ⟨[.slice (some ⟨b,0,none⟩) l.length 2],true⟩
 Uz: ∃r,m.Y b=some ⟨GL l++r,true⟩
 D6:q≠b
theorem WK{n:Nat}(a7:Value->X->Prop):At V 261 [.slice (some ⟨b,0,none⟩) n 2] m a7=a7 (Z n) m:=by refine(HM.K4 ?_).wp;rw[a5w (by simp)];simp[gX]
theorem a3w(hb:m.Y b=some ⟨GL l++r,o⟩){x:FF}(a:l[i]?=some x)(c:l[j]?=some y)(a7:Value->X->Prop):
 At V 298 [.slice (some ⟨b,0,none⟩) l.length 2,Z i,Z j] m a7=a7 (.bool (decide (x.2<y.2))) m:=by
 have d:i<l.length:=(Ae.1 a).1;have e:j<l.length:=(Ae.1 c).1;have f:=uW (r:=r) a (j:=1) (by omega);have g:=uW (r:=r) c (j:=1) (by omega);have h:i*2+1+1<=l.length*2+r.length:=by omega
 have k:j*2+1+1<=l.length*2+r.length:=by omega
 refine(HM.K4 ?_).wp;rw[a6h (by simp)];simp[lF,hb,d,e,h,k,Bj,Co,C3,BG,f,g,Jg]
theorem aAk(hb:m.Y b=some ⟨GL l++r,true⟩){x:FF}(c:l[i]?=some x)(d:l[j]?=some y)(a7:Value->X->Prop):
 At V 301 [.slice (some ⟨b,0,none⟩) l.length 2,Z i,Z j] m a7=a7 (.tuple #[]) (m.A1 b (some ⟨GL ((l.set i y).set j x)++r,true⟩)):=by
 have e:i<l.length:=(Ae.1 c).1;have f:j<l.length:=(Ae.1 d).1;have g:=gz (r:=r) c;have h:=gz (r:=r) d;have k:i*2+2<=l.length*2+r.length:=by omega
 have n:j*2+2<=l.length*2+r.length:=by omega
 have q:=E hb;have o:=gj (r:=r) (a:=y) e;have p:=gj (l:=l.set i y) (r:=r) (i:=j) (a:=x) (by simpa using f);refine(HM.K4 ?_).wp;rw[yz (by simp)];simp(disch:=omega)[ep,hb,e,f,k,n,Bj,Gi,Co,Fj,C3,g,h,Jg,AR,Qm,o,p]
structure HH(m a:X)(q b d:Nat):Prop where
 ac:m.ac<=a.ac
 Y: ∀c,c<m.ac->c≠q->c≠b->a.Y c=m.Y c
 BY:d=b\/m.ac<=d
def wU(m:X)(q b:Nat)(l:List FF)(a:X):Prop:= ∃c,GG a q c l/\HH m a q b c
theorem zD(h:GG m q b l)(p:l.length<1000000000)(s:FF)(a7:Value->X->Prop)(e: ∀a,wU m q b (l++[s]) a->a7 (.tuple #[]) a):
 At V 300 [AG q,.iface 282 (.agg #[Z s.1,Z s.2])] m a7:=by
 obtain⟨d,⟨r,hb⟩,t⟩:=h;have u:=E d;have v:=E hb;rw[a3F (by simp)];have f:l.length*2<=l.length*2+r.length:=by omega
 have g:(l.length+1)*16<=140737488355328:=by omega
 have i:l.length+1<=9223372036854775807:=by omega
 have j:List.take (l.length*2) (GL l++r)=GL l:=by rw[List.take_append_of_le_length (by simp),DP (by simp)]
 simp(disch:=first|omega|simp only[A9];omega)[l0,d,hb,Bj,Gi,Co,Fj,C3,Br,Dm,C5,EC,f,g,i,Cn,j];refine e _ ⟨m.ac+7,⟨?_,⟨[],?_⟩,by omega⟩,⟨?_,λc k n o=> ?_,.inr (by omega)⟩⟩
 ·rw[AR (by simp only[Au,B1];omega)];simp
 ·rw[A6 (by omega),AR (by simp only[Au,B1];omega)];simp[GL,Jg]
 ·simp only[Au,B1];omega
 ·rw[A6 n,A6 (by omega),A6 o,A6 (by omega),Ab k]
theorem a8Y(h:GG m q b (l++[s]))(x:l.length<1000000000)(a7:Value->X->Prop)(j: ∀f,wU m q b l f->a7 (.iface 282 (.agg #[Z s.1,Z s.2])) f):
 At V 299 [AG q] m a7:=by
 obtain⟨d,⟨r,hb⟩,g⟩:=h;have y:=E d;have k:=E hb;rw[a24 (by simp)];have z:((l++[s]).length:Int)-1=(l.length:Int):=by simp
 have n:IntKind.i64.wrap (l.length:Int)=(l.length:Int):=Ac (by omega) (by omega);have o:=gz (l:=l++[s]) (r:=r) (i:=l.length) (a:=s) (by simp);have p:l.length*2+2<=(l.length+1)*2+r.length:=by omega
 have t:(l.length:Int)<(l.length:Int)+1:=by omega
 have u:(l.length:Int)<=(l.length:Int)+1:=by omega
 simp only[En,DZ,KC,Nat.zero_add]at d;simp(disch:=first|omega|simp only[A9];omega)[lT,d,hb,Bj,Gi,Co,Fj,C3,n,o,Jg,p,t,u,Cn];refine j _ ⟨b,⟨?_,⟨Jg s++r,?_⟩,g⟩,⟨?_,λc v w A=> ?_,.inl rfl⟩⟩
 ·rw[AR (by simp only[Au,B1];omega)]
 ·rw[A6 (λe=>g e.symm),A6 (by omega),Ab k,hb,a4T];simp[GL]
 ·simp only[Au,B1];omega
 ·rw[A6 w,A6 (by omega),Ab v]
end Go.Proofs.YtmmkkggfmigppaaGreat
end
