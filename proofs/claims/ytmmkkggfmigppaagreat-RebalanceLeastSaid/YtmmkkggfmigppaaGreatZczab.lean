/- A part of the proof. -/
import Derived.Test.YtmmkkggfmigppaaGreatZczaa
set_option linter.all false
set_option maxRecDepth 8000
set_option maxHeartbeats 16000000
namespace Go.Ex
open Go Go.DI
def CY(g:Ae->Int->Int):List Ae->List Int->Int
 |a::xs,B::fs=>g a B+CY g xs fs
 |_,_=>0
theorem R5{g h:Ae->Int->Int}: ∀{xs:List Ae} {fs:List Int},(∀(i:Nat) a B,xs[i]?=some a->fs[i]?=some B->g a B=h a B)->CY g xs fs=CY h xs fs
 |[],_,_=>rfl
 |_::_,[],_=>rfl
 | a::xs,B::fs,e=>by simp only[CY,e 0 a B rfl rfl,R5 (xs:=xs) (fs:=fs) λi a B b c=>e (i+1) a B (by simpa using b) (by simpa using c)]
theorem Xf{g h:Ae->Int->Int}: ∀{xs:List Ae} {fs:List Int},CY (λa B=>g a B-h a B) xs fs=CY g xs fs-CY h xs fs
 |[],_=>rfl
 |_::_,[]=>rfl
 |a::xs,B::fs=>by simp only[CY,Xf (xs:=xs) (fs:=fs)];omega
theorem uK{g h:Ae->Int->Int}: ∀{xs:List Ae} {fs:List Int},CY (λa B=>g a B+h a B) xs fs=CY g xs fs+CY h xs fs
 |[],_=>rfl
 |_::_,[]=>rfl
 |a::xs,B::fs=>by simp only[CY,uK (xs:=xs) (fs:=fs)];omega
theorem w8: ∀{xs:List Ae} {fs:List Int},CY (λ_ _=>0) xs fs=0
 |[],_=>rfl
 |_::_,[]=>rfl
 |a::xs,B::fs=>by simp only[CY,w8 (xs:=xs) (fs:=fs)];rfl
theorem Ub{x:Int}: ∀{xs:List Ae} {fs:List Int},DG xs fs x=CY (λa B=>Bj a.f x B-Bj a.t x B) xs fs
 |[],_=>by simp[DG,CY]
 |_::_,[]=>by simp[DG,CY]
 |a::xs,B::fs=>by simp only[DG,CY,Ub (xs:=xs) (fs:=fs)]
theorem jg{s:Int->Bool}: ∀{xs:List Ae} {fs:List Int},HT xs fs s=CY (λa B=>(if s a.f=true then B else 0)-(if s a.t=true then B else 0)) xs fs
 |[],_=>by simp[HT,CY]
 |_::_,[]=>by simp[HT,CY]
 |a::xs,B::fs=>by simp only[HT,CY,jg (xs:=xs) (fs:=fs)]
variable{ab:List Int}{n:CG}{s:Int->Bool}{f:Nat->List Ae}{c:Int}{v:Nat}
theorem qg(h:n.Cz)(b:Dr n ab)(c:s n.Aj=false)(d:s n.BJ=false):HT n.AF ab s=0:=by
 have g:=h.Ph;rw[<-hD s n.Am.toNat n.AF ab h.je];have: ∀k:Nat,k<=n.Am.toNat->GP s (DG n.AF ab) k=0:= λk=>by
  induction k with
  |zero=>intro _;rfl
  | succ k f=>
    intro i;simp only[GP,f (by omega)];split
    ·next a=>rw[b.SD k ⟨by omega,by omega⟩ (λe=>by rw[e,c]at a;cases a) (λe=>by rw[e,d]at a;cases a)];rfl
    ·rfl
 simp_all
def F6(g:Ae->Int):List Ae->Int
 |a::xs=>g a+F6 g xs
 |[]=>0
def Bu(f:Nat->Int):Nat->Int
 |0=>0
 |n+1=>Bu f n+f n
theorem Ms{g:Ae->Int}: ∀{l k:List Ae},F6 g (l++k)=F6 g l+F6 g k
 |[],k=>by simp[F6]
 |a::l,k=>by simp only[Ih,F6,Ms (l:=l) (k:=k)];omega
theorem Vh{g:Ae->Int}: ∀{l:List Ae},(∀a∈l,g a=0)->F6 g l=0
 |[],_=>rfl
 |a::l,h=>by simp only[F6,h a (by simp),Vh (l:=l) λb hb=>h b (by simp[hb])];rfl
theorem Wq{g:Ae->Int}: ∀n:Nat,F6 g ((List.range n).flatMap f)=Bu (λv=>F6 g (f v)) n
 |0=>rfl
 | n+1=>by rw[MO,List.flatMap_append,Ms,Wq n];simp[Bu]
theorem JF{f g:Nat->Int}: ∀{n:Nat},(∀v,v<n->f v=g v)->Bu f n=Bu g n
 |0,_=>rfl
 |n+1,h=>by simp only[Bu,h n (by omega),JF (n:=n) λv a=>h v (by omega)]
theorem bN: ∀{n:Nat},Bu (λ_=>0) n=0
 |0=>rfl
 |n+1=>by simp only[Bu,bN (n:=n)];rfl
theorem X6: ∀{n:Nat},v<n->Bu (λa=>if a=v then c else 0) n=c
 |0,h=>absurd h (La _)
 | n+1,h=>by
   by_cases e:v=n
   ·subst e;have:Bu (λa=>if a=v then c else 0) v=0:=by
     have b:Bu (λa=>if a=v then c else 0) v=Bu (λ_=>0) v:=JF λa f=>if_neg (by omega);rw[b,bN]
    simp only[Bu,this,if_true];omega
   ·have b:Bu (λa=>if a=v then c else 0) n=c:=X6 (by omega);simp only[Bu,b,if_neg (λd:n=v=>e d.symm)];omega
theorem hE{f g:Nat->Int}: ∀{n:Nat},(∀v,v<n->f v<=g v)->Bu f n<=Bu g n
 |0,_=>HB _
 | n+1,h=>by have:=hE (n:=n) λv a=>h v (by omega);have:=h n (by omega);simp only[Bu];omega
theorem X2{f g:Nat->Int}: ∀{n:Nat},(∀v,v<n->f v<=g v)->Bu g n<=Bu f n-> ∀v,v<n->f v=g v
 |0,_,_,v,a=>absurd a (La _)
 | n+1,h,b,v,a=>by
   have c:=hE (n:=n) λv a=>h v (by omega);have d:=h n (by omega);simp only[Bu]at b;by_cases e:v=n
   ·subst e;omega
   ·exact X2 (n:=n) (λv a=>h v (by omega)) (by omega) v (by omega)
theorem di{g:Nat->Ae->Int->Int}{xs:List Ae}{fs:List Int}: ∀{n:Nat},Bu (λv=>CY (g v) xs fs) n=CY (λa B=>Bu (λv=>g v a B) n) xs fs
 |0=>w8.symm
 | n+1=>by simp only[Bu,di (n:=n)];exact uK.symm
theorem Zm{p:Ae->Bool}: ∀{xs:List Ae} {fs:List Int},(∀a∈xs,0<=a.c)->(∀(i:Nat) a B,xs[i]?=some a->fs[i]?=some B->B<=a.c)->CY (λa B=>if p a=true then B else 0) xs fs<=F6 (λa=>if p a=true then a.c else 0) xs
 |[],_,_,_=>HB _
 | a::xs,[],d,_=>by
   have: ∀{l:List Ae},(∀a∈l,0<=a.c)->0<=F6 (λa=>if p a=true then a.c else 0) l:= λ{l}=>by
    induction l with
    |nil=>intro _;exact HB _
    | cons b l f=>intro h;have g:=f λx j=>h x (by simp[j]);have m:=h b (by simp);simp only[F6];split<;>omega
   exact this d
 | a::xs,B::fs,d,h=>by have n:=h 0 a B rfl rfl;have g:=Zm (p:=p) (xs:=xs) (fs:=fs) (λa e=>d a (by simp[e])) λi a B e k=>h (i+1) a B (by simpa using e) (by simpa using k);simp only[CY,F6];split<;>omega
end Go.Ex
namespace Go.Proofs.YtmmkkggfmigppaaGreat
open Go Go.DI Go.Big Go.Ex
def KH(u:AY)(a:Ae):Nat:=((a.f-2-u.A7.length).tdiv ((u.A5.length:Int)-1)).toNat
variable{d v i j w:Nat}{u:AY}{x B:Int}{R ab:List Int}{a:Ae}
theorem Pj(h:BW u)(a:d<u.A1.length):KH u (E8 u v d)=v:=by have:=(vg h (v:=v) a).1;show((Ax u v (CJ u d)-2-u.A7.length).tdiv ((u.A5.length:Int)-1)).toNat=v;rw[this];omega
def D4(u:AY)(v:Nat):List Ae->List Int->List Int
 |a::l,B::ab=>(if AM u 0<=a.t/\B≠0/\KH u a=v then[a.t-AM u 0]else[])++D4 u v l ab
 |_,_=>[]
theorem YR{u:AY}{v:Nat}: ∀{xs:List Ae} {fs:List Int} {L:List (List Int)} {r:List Int},L[v]?=some r->(Ir u xs fs L)[v]?=some (r++D4 u v xs fs)
 |[],_,L,r,h=>by simp[Ir,D4,h]
 |_::_,[],L,r,h=>by simp[Ir,D4,h]
 | a::xs,B::fs,L,r,h=>by
   have g:=(AX.1 h).1;simp only[Ir,D4];by_cases c:AM u 0<=a.t/\B≠0
   ·rw[if_pos c];by_cases e:KH u a=v
    ·have d:((a.f-2-u.A7.length).tdiv ((u.A5.length:Int)-1)).toNat=v:=e;rw[d,if_pos ⟨c.1,c.2,e⟩];have i:L.getD v []=r:=(by simp[h]);rw[i,YR (r:=r++[a.t-AM u 0]) (by simp[g])];simp
    ·have d:((a.f-2-u.A7.length).tdiv ((u.A5.length:Int)-1)).toNat≠v:=e;rw[if_neg (λb=>e b.2.2),YR (r:=r) (by rw[XG d,h])];simp
   ·rw[if_neg c,if_neg (λb=>c ⟨b.1,b.2.1⟩),YR (r:=r) h];simp
theorem pH: ∀{xs:List Ae} {fs:List Int} {L:List (List Int)},(Ir u xs fs L).length=L.length
 |[],_,_=>by simp[Ir]
 |_::_,[],_=>by simp[Ir]
 | a::xs,B::fs,L=>by simp only[Ir];rw[pH];split<;>simp
theorem qZ{u:AY}{v:Nat}: ∀{xs:List Ae} {fs:List Int},((D4 u v xs fs).length:Int)=CY (λa B=>if AM u 0<=a.t/\B≠0/\KH u a=v then 1 else 0) xs fs
 |[],_=>by simp[D4,CY]
 |_::_,[]=>by simp[D4,CY]
 | a::xs,B::fs=>by simp only[D4,CY,Ds,ME,qZ (xs:=xs) (fs:=fs)];split<;>simp
theorem T2: ∀{xs:List Ae} {fs:List Int},x∈D4 u v xs fs-> ∃(i:Nat) (a:Ae) (B:Int),xs[i]?=some a/\fs[i]?=some B/\AM u 0<=a.t/\B≠0/\KH u a=v/\x=a.t-AM u 0
 |[],_,h=>by simp[D4]at h
 |_::_,[],h=>by simp[D4]at h
 | a::xs,B::fs,h=>by
   simp only[D4,Cg]at h;rcases h with h|h
   ·split at h
    ·next c=>simp at h;exact⟨0,a,B,rfl,rfl,c.1,c.2.1,c.2.2,h⟩
    ·simp at h
   ·obtain⟨i,b,d,e,f,g⟩:=T2 h;exact⟨i+1,b,d,by simpa using e,by simpa using f,g⟩
def HS(u:AY)(v:Nat)(x:Int):Bool:=(List.range u.A5.length).any λi=>decide (x=Ax u v i)
theorem iP:HS u v x=true↔ ∃i,i<u.A5.length/\x=Ax u v i:=by unfold HS;simp[List.any_eq_true]
theorem Ke(h:BW u)(g:v<u.A7.length)(k:w<u.A7.length)(l:i<u.A5.length)(m:j<u.A5.length)(e:Ax u v i=Ax u w j):v=w/\i=j:=by
 have n:=h.Di;obtain⟨a,o⟩: ∃a:Nat,u.A5.length=a+1:=⟨u.A5.length-1,by omega⟩;have c:((u.A5.length:Int)-1)=a:=by omega
 have z: ∀b:Nat,0<=(b:Int)*a:= λb=>R9 (by omega) (by omega);unfold Ax at e;rw[c]at e;have p:=z v;have r:=z w;by_cases d:i=0
 ·omega
 ·by_cases f:j=0
  ·omega
  ·rw[if_neg d,if_neg f]at e;rcases Nat.lt_trichotomy v w with q|q|q
   ·have:((v:Int)+1)*a<=(w:Int)*a:=My (by omega) (by omega)
    grind
   ·subst q;omega
   ·have:((w:Int)+1)*a<=(v:Int)*a:=My (by omega) (by omega)
    grind
theorem dy(h:BW u)(b:v<u.A7.length)(c:w<u.A7.length)(a:i<u.A5.length):HS u v (Ax u w i)=decide (w=v):=by
 by_cases e:w=v
 ·subst e;rw[iP.2 ⟨i,a,rfl⟩,decide_eq_true rfl]
 ·rw[J5 e];cases d:HS u v (Ax u w i)with
  |false=>rfl
  | true=>obtain⟨j,f,g⟩:=iP.1 d;exact absurd (Ke h c b a f g).1 e
theorem SR{u:AY}(h:BW u){v:Nat}(a:v<u.A7.length){x:Int}(d:x<2\/AM u 0<=x):HS u v x=false:=by
 cases b:HS u v x with
 |false=>rfl
 | true=>obtain⟨j,c,e⟩:=iP.1 b;have:=E3 h a c;omega
theorem a7x(h:BW u)(b:v<u.A7.length)(s:a∈B2 u R)(D:0<=B)(x:B<=a.c):
 ((if HS u v a.f=true then B else 0)-(if HS u v a.t=true then B else 0))=(if AM u 0<=a.t/\B≠0/\KH u a=v then 1 else 0)-(if(decide (a.f=0)&&decide (a.t=2+v))=true then B else 0):=by
 have q:=h.Di;have E:=Is h;rcases Oj.1 s with⟨w,e,n⟩|⟨d,p,rfl⟩
 ·rcases Ls.1 n with rfl|⟨j,F,rfl⟩|⟨d,p,_,rfl⟩
  ·have G:=E3 h e (i:=0) q;have y:Ax u w 0=2+(w:Int):=(by simp[Ax]);have g:HS u v 0=false:=SR h b (.inl (by omega));have k:HS u v (2+w)=decide (w=v):=(by rw[<-y];exact dy h b e q);have l: ¬AM u 0<=2+(w:Int):=(by omega);simp only[Ft,g,k,l,false_and,if_false,EI]
   grind
  ·have o:j+1<u.A5.length:=(by omega);have H:=(h.Gu o (h.HV o (by omega))).1;have r:D3 u (j+1)<u.A5.length:=(by omega);have z:=E3 h e r;have I:=E3 h e o;have g:=dy h b e r;have k:=dy h b e o;have l: ¬AM u 0<=Ax u w (j+1):=(by omega);have m: ¬Ax u w (D3 u (j+1))=0:=(by omega);simp only[Jd,g,k,l,m,false_and,if_false,decide_false,Bool.false_and,EI];omega
  ·have n:=(Gv h p).1;have z:=E3 h e n;have g:=dy h b e n;have A:AM u d=AM u 0+d:=(by unfold AM;omega);have k:HS u v (AM u d)=false:=SR h b (.inr (by omega));have l:AM u 0<=AM u d:=(by omega);have m: ¬Ax u w (CJ u d)=0:=(by omega);have C:=Pj h (v:=w) p;rw[C];have J:B<=1:=x;simp only[E8,g,k,l,m,true_and,decide_false,Bool.false_and,EI,if_false]
   grind
 ·have A:AM u d=AM u 0+d:=(by unfold AM;omega);have g:HS u v (AM u d)=false:=SR h b (.inr (by omega));have k:HS u v 1=false:=SR h b (.inl (by omega));have l: ¬AM u 0<=1:=(by omega);have m: ¬AM u d=0:=(by omega);simp[Hi,g,k,l,m]
def PE(u:AY)(R ab:List Int)(v:Nat):Int:=CY (λa B=>if(decide (a.f=0)&&decide (a.t=2+(v:Int)))=true then B else 0) (B2 u R) ab
theorem Xd(h:BW u)(c:Dr (Dd u R) ab)(b:v<u.A7.length):((D4 u v (B2 u R) ab).length:Int)=PE u R ab v:=by
 have j:=S7 h R;have m:=Is h;have d:=qg j c (s:=HS u v) (SR h b (.inl (by show(0:Int)<2;omega))) (SR h b (.inl (by show(1:Int)<2;omega)));rw[jg]at d
 have e:CY (λa B=>(if HS u v a.f=true then B else 0)-(if HS u v a.t=true then B else 0)) (B2 u R) ab=CY (λa B=>(if AM u 0<=a.t/\B≠0/\KH u a=v then 1 else 0)-(if(decide (a.f=0)&&decide (a.t=2+(v:Int)))=true then B else 0)) (B2 u R) ab:=
  R5 λi a B g k=>by have:=c.ES.2 i a B g k;exact a7x h b (B9 g) this.1 this.2
 have l:CY (λa B=>(if HS u v a.f=true then B else 0)-(if HS u v a.t=true then B else 0)) (B2 u R) ab=0:=d;rw[e,Xf]at l;rw[qZ];unfold PE;omega
theorem a3g(h:BW u)(p:v<u.A7.length):F6 (λa=>if(decide (a.f=0)&&decide (a.t=2+(v:Int)))=true then a.c else 0) (B2 u R)=CS u v:=by
 have r:=h.Di;have s:=Is h;unfold B2;rw[Ms,Wq,Vh (l:=(List.range u.A1.length).map (Hi u R))]
 ·rw[JF (g:= λq=>if q=v then CS u v else 0),X6 p]
  ·omega
  ·intro w m;unfold Gk;simp only[F6];rw[Vh]
   ·by_cases e:w=v
    ·subst e;simp[Ft]
    ·have: ¬(2+(w:Int)=2+v):=(by omega);simp[Ft,e,this]
   ·intro a b;have x:a∈Gk u w:=(by unfold Gk;exact Ty _ b);simp only[Cg,CP,FX,List.mem_filter]at b;rcases b with⟨j,y,rfl⟩|⟨d,⟨n,_⟩,rfl⟩
    ·have o:j+1<u.A5.length:=(by omega);have z:=(h.Gu o (h.HV o (by omega))).1;have:=(E3 h m (i:=D3 u (j+1)) (by omega)).1;have k: ¬Ax u w (D3 u (j+1))=0:=(by omega);simp[Jd,k]
    ·have:=(E3 h m (Gv h n).1).1;have k: ¬Ax u w (CJ u d)=0:=(by omega);simp[E8,k]
 ·intro a b;obtain⟨d,n,rfl⟩:=CP.1 b;have A:AM u d=AM u 0+d:=(by unfold AM;omega);have k: ¬AM u d=0:=(by omega);simp[Hi,k]
theorem eS(h:BW u)(c:Dr (Dd u R) ab)(d:v<u.A7.length):PE u R ab v<=CS u v:=by have e:=S7 h R;rw[<-a3g h (R:=R) d];exact Zm (p:= λa=>decide (a.f=0)&&decide (a.t=2+(v:Int))) (λa b=>(e.Il a b).2.2.1) λi a B b g=>(c.ES.2 i a B b g).2
theorem ck(h:BW u):value (Dd u R) ab=Bu (PE u R ab) u.A7.length:=by
 have A:=h.Di;have C:=Is h;have D:=S7 h R;show DG (B2 u R) ab 0=Bu (λv=>CY _ _ _) u.A7.length;rw[Ub,di];refine R5 λi a B o E=> ?_;have c:=B9 o;have off: ∀{x y B:Int},¬x=y->Bj x y B=0:= λp=>if_neg p;have F: ¬a.f=0->Bu (λv=>if(decide (a.f=0)&&decide (a.t=2+(v:Int)))=true then B else 0) u.A7.length=0:= λq=>by rw[JF (g:= λ_=>0),bN];intro v _;simp[q]
 rcases Oj.1 c with⟨w,b,c⟩|⟨d,l,rfl⟩
 ·rcases Ls.1 c with rfl|⟨j,G,rfl⟩|⟨d,l,_,rfl⟩
  ·have e:Bu (λv=>if(decide ((Ft u w).f=0)&&decide ((Ft u w).t=2+(v:Int)))=true then B else 0) u.A7.length=B:=by
    rw[JF (g:= λr=>if r=w then B else 0),X6 b];intro v _;by_cases e:v=w
    ·subst e;simp[Ft]
    ·have: ¬(2+(w:Int)=2+v):=(by omega);simp[Ft,e,this]
   rw[e];have:Bj (Ft u w).t 0 B=0:=off (by show¬2+(w:Int)=0;omega);rw[this];show Bj 0 0 B-0=B;simp[Bj]
  ·have k:j+1<u.A5.length:=(by omega);have H:=(h.Gu k (h.HV k (by omega))).1;have s:=(E3 h b (i:=D3 u (j+1)) (by omega)).1;have I:=(E3 h b k).1;have m: ¬(Jd u w (j+1)).f=0:=(by show¬Ax u w (D3 u (j+1))=0;omega);have n: ¬(Jd u w (j+1)).t=0:=by show¬Ax u w (j+1)=0;omega
   simp_all
  ·have s:=(E3 h b (Gv h l).1).1;have z:AM u d=AM u 0+d:=(by unfold AM;omega);have m: ¬(E8 u w d).f=0:=(by show¬Ax u w (CJ u d)=0;omega);have n: ¬(E8 u w d).t=0:=by show¬AM u d=0;omega
   simp_all
 ·have z:AM u d=AM u 0+d:=(by unfold AM;omega);have m: ¬(Hi u R d).f=0:=(by show¬AM u d=0;omega);have n: ¬(Hi u R d).t=0:=by show¬(1:Int)=0;omega
  simp_all
theorem Rr:HE u=Bu (CS u) u.A7.length:=by
 unfold HE;have key: ∀(n:Nat) (c:Int),((List.range n).map (CS u)).foldr (· + ·) c=Bu (CS u) n+c:= λn=>by
  induction n with
  |zero=>intro c;simp[Bu]
  | succ n a=>intro c;rw[MO,Ld,List.foldr_append];simp only[E1,List.map_nil,List.foldr_cons,List.foldr_nil];rw[a];simp only[Bu];omega
 rw[key];omega
open Go Go.DI Go.Big
theorem aBk{l:List Int}(v:l.length<=1000000):AL U 206 [AH l,Y x] (.bool (decide (x∈l))):=by
 refine BG (Ak (an:=⟨[],[]⟩) xa (by kernel_rfl) (by simp[YF]) ?_);simp[YF,xd];refine CE (an:=⟨[],[]⟩) (λi A t=>(∀j (a:j<l.length),j<i-> ¬x=l[j])/\A 1=Y x/\A 7=AH l/\A 8=Y l.length/\A 9=Y i) l.length ?_ ?_ 0 _ _ (C0 _) ⟨λj a h=>absurd h (La _),by simp,by simp,by simp,by simp⟩
 ·rintro i A t o ⟨m,d,f,b,g⟩ w r;obtain⟨y,s⟩:=CF o;have k:=(AX.1 s).2;have p:(i:Int)<l.length:=(by omega);have u:=BX (n:=i) (by omega);by_cases c:y=x
  ·have e:x∈l:=(by rw[<-c,<-k];exact Dc o);simp(disch:=first|omega|simp only[AD];omega)[Zd,WB,d,f,b,g,p,k,eq_true c,e]
  ·simp(disch:=first|omega|simp only[AD];omega)[Zd,WB,d,f,b,g,p,k,c,u,-H,-E,-I,-G,-List.map_map];refine r _ _ ⟨λj a z=> ?_,by simp[d],by simp[f],by simp[b],by simp⟩;by_cases e:j=i
   ·subst e;rw[k];exact λh=>c h.symm
   ·exact m j a (by omega)
 ·rintro A t ⟨m,d,f,b,g⟩;have e: ¬x∈l:= λh=>by
   obtain⟨j,a,e⟩:=EC h;exact m j a a e.symm
  simp[Zd,WB,WB,b,g,e]
noncomputable def XE:AK U:= .B8 206 (List Int×Int) (λx=>x.1.length<=1000000) (λx=>[AH x.1,Y x.2]) (λx=> .bool (decide (x.2∈x.1))) λ_ h=>aBk h
@[simp] theorem aIb:XE.f=206:=rfl
@[simp] theorem aGl{l:List Int}(h:l.length<=1000000):XE.fn [M (l.map λx=>[Y x]) 1,Y x]=some (.bool (decide (x∈l))):=AK.BD (x:=(l,x)) h λ⟨b,c⟩ a=>by simpa using a
def Mr(x:Int×Int×Int):Prop:=0<=x.1/\x.1<=1000/\0<=x.2.1/\x.2.1<=1000/\ -1000000000<=x.2.2/\x.2.2<=1000000000
def HJ(a1 a x:Int):Int:=if x-2-a1*a< -1 then-1 else x-2-a1*a
variable{a1:Int}{L:List (List Int)}{A:A6}{t:V}{Q:BM->A6->V->Prop}
theorem a5g{a:Int}(h:Mr (a1,a,x)):AL U 202 [.agg #[Y a1,Y a],Y x] (Y (HJ a1 a x)):=by obtain⟨c,d,b,e,f,g⟩:=h;simp only at c d b e f g;have l:0<=a1*a:=R9 c b;have m:a1*a<=1000*1000:=Int.le_trans (My d b) (aI e (by omega));have i:IntKind.i64.wrap (x-2)=x-2:=Ah (by omega) (by omega);have j:IntKind.i64.wrap (a1*a)=a1*a:=Ah (by omega) (by omega);have k:IntKind.i64.wrap (x-2-a1*a)=x-2-a1*a:=Ah (by omega) (by omega);refine BG (Ak (an:=⟨[],[]⟩) oh (by kernel_rfl) (by simp[eA]) ?_);simp[eA,wu,i,j,k,HJ]
noncomputable def eJ:AK U:= .B8 202 (Int×Int×Int) Mr (λx=>[.agg #[Y x.1,Y x.2.1],Y x.2.2]) (λx=>Y (HJ x.1 x.2.1 x.2.2)) λ_ h=>a5g h
@[simp] theorem aNN:eJ.f=202:=rfl
@[simp] theorem aMg{a:Int}(h:Mr (a1,a,x)):eJ.fn [.agg #[Y a1,Y a],Y x]=some (Y (HJ a1 a x)):=AK.BD (x:=(a1,a,x)) h λ⟨c,d,e⟩ b=>by simp at b⊢;omega
def JB(a1 a x:Int):Int:=if x<2+a1 then x-2 else(x-2-a1).tdiv (a-1)
theorem aAb{a:Int}(h:Mr (a1,a,x))(p:2<=a\/x<2+a1):AL U 203 [.agg #[Y a1,Y a],Y x] (Y (JB a1 a x)):=by
 obtain⟨e,f,g,i,j,k⟩:=h;simp only at e f g i j k;have b:IntKind.i64.wrap (2+a1)=2+a1:=Ah (by omega) (by omega);have d:IntKind.i64.wrap (x-2)=x-2:=Ah (by omega) (by omega);have l:IntKind.i64.wrap (x-2-a1)=x-2-a1:=Ah (by omega) (by omega);have m:IntKind.i64.wrap (a-1)=a-1:=Ah (by omega) (by omega);refine BG (Ak (an:=⟨[],[]⟩) vJ (by kernel_rfl) (by simp[Uq]) ?_);by_cases c:x<2+a1
 ·simp[Uq,fZ,b,d,c,JB]
 ·have n: ¬a-1=0:=(by omega);have r: -1000000000<=(x-2-a1).tdiv (a-1)/\(x-2-a1).tdiv (a-1)<=1000000000:=by
   have:0<=x-2-a1:=(by omega);rw[Int.tdiv_eq_ediv_of_nonneg this];have:=Int.ediv_nonneg this (show 0<=a-1 by omega);have:=Int.ediv_le_self (a-1) (show 0<=x-2-a1 by omega);omega
  have o:IntKind.i64.wrap ((x-2-a1).tdiv (a-1))=(x-2-a1).tdiv (a-1):=Ah (by omega) (by omega);simp[Uq,fZ,b,d,l,m,o,c,n,JB]
noncomputable def bQ:AK U:= .B8 203 (Int×Int×Int) (λx=>Mr x/\(2<=x.2.1\/x.2.2<2+x.1)) (λx=>[.agg #[Y x.1,Y x.2.1],Y x.2.2]) (λx=>Y (JB x.1 x.2.1 x.2.2)) λ_ h=>aAb h.1 h.2
@[simp] theorem aJk:bQ.f=203:=rfl
@[simp] theorem aPp{a:Int}(h:Mr (a1,a,x))(b:2<=a\/x<2+a1):bQ.fn [.agg #[Y a1,Y a],Y x]=some (Y (JB a1 a x)):=AK.BD (x:=(a1,a,x)) ⟨h,b⟩ λ⟨d,e,f⟩ c=>by simp at c⊢;omega
theorem tM: ∀(l:List Ae) (i:Nat) (a:Ae) (c:Int),l[i]?=some a->(Ck l).set (i*4+3) (Y c)=Ck (l.set i ⟨a.f,a.t,a.c,c⟩)
 |[],_,_,_,h=>by simp at h
 | b::l,0,a,c,h=>by simp at h;subst h;simp[Ck,Cj]
 | b::l,i+1,a,c,h=>by have d:=tM l i a c (by simpa using h);have e:(i+1)*4+3=(i*4+3)+1+1+1+1:=(by omega);rw[e];simp only[Ck,E1,HM,Cj,Ih,Ni,PZ]at d⊢;rw[d]
def Kk(L:List (List Int))(v:Int):List Int:=L.getD v.toNat []
def JS(u:AY)(L:List (List Int))(a:Ae):Bool:=decide (0<=HJ u.A7.length u.A5.length a.t)&& !decide (HJ u.A7.length u.A5.length a.t∈Kk L (JB u.A7.length u.A5.length a.f))
def Jt(u:AY)(L:List (List Int))(a:Ae):Ae:=if JS u L a=true then⟨a.f,a.t,a.c,1⟩else a
def Bn(u:AY)(R:List Int)(L:List (List Int)):List Ae:=(B2 u R).map (Jt u L)
def E6(u:AY)(R:List Int)(L:List (List Int)):CG:=⟨AM u u.A1.length,0,1,Bn u R L⟩
theorem bF:HJ u.A7.length u.A5.length (AM u d)=d:=by unfold HJ AM;generalize(u.A7.length:Int)*u.A5.length=x;split<;>omega
theorem l5(h:x<AM u 0):HJ u.A7.length u.A5.length x= -1:=by unfold HJ;unfold AM at h;generalize(u.A7.length:Int)*u.A5.length=y at*;split<;>omega
theorem wY(e:0<i)(f:i<u.A5.length):JB u.A7.length u.A5.length (Ax u v i)=v:=by
 obtain⟨a,g⟩: ∃a:Nat,u.A5.length=a+1:=⟨u.A5.length-1,by omega⟩;have b:((u.A5.length:Int)-1)=a:=by omega
 have z:0<=(v:Int)*a:=R9 (by omega) (by omega);have c:Ax u v i=2+(u.A7.length:Int)+v*a+i-1:=by unfold Ax;rw[if_neg (by omega),b]
 unfold JB;rw[c,b,if_neg (by omega)];have d:(2+(u.A7.length:Int)+v*a+i-1-2-u.A7.length)=((i:Int)-1)+v*a:=by omega
 rw[d,Int.tdiv_eq_ediv_of_nonneg (by omega),Int.add_mul_ediv_right _ _ (by omega),Int.ediv_eq_zero_of_lt (by omega) (by omega)];omega
theorem Xc(h:BW u)(p:a∈B2 u R):
 (0<=a.f/\a.f<=506/\0<=a.t/\a.t<=506)/\((∃v d,v<u.A7.length/\d<u.A1.length/\Es u v d=true/\a=E8 u v d/\HJ u.A7.length u.A5.length a.t=d/\JB u.A7.length u.A5.length a.f=v/\2<=u.A5.length)\/HJ u.A7.length u.A5.length a.t= -1):=by
 obtain⟨z,A⟩:=Is h;have c: ∀{v i:Nat},v<u.A7.length->i<u.A5.length->0<=Ax u v i/\Ax u v i<=506:= λb q=>by have:=E3 h b q;have:AM u 0<=AM u u.A1.length:=(by unfold AM;omega);omega
 have g: ∀d:Nat,d<=u.A1.length->0<=AM u d/\AM u d<=506:= λd k=>by have:AM u d<=AM u u.A1.length:=(by unfold AM;omega);have:AM u 0<=AM u d:=(by unfold AM;omega);omega
 rcases Oj.1 p with⟨v,b,r⟩|⟨d,k,rfl⟩
 ·rcases Ls.1 r with rfl|⟨j,B,rfl⟩|⟨d,k,s,rfl⟩
  ·have:=E3 h b (i:=0) (by have:=h.Di;omega);simp only[Ax,if_true]at this;refine⟨⟨by simp[Ft],by simp[Ft],by simp[Ft];omega,?_⟩,.inr (l5 (by simp only[Ft];omega))⟩;have:=c b (i:=0) (by have:=h.Di;omega);simp[Ax]at this;simp[Ft];omega
  ·have l:j+1<u.A5.length:=(by omega);have n:D3 u (j+1)<u.A5.length:=by
    obtain⟨x,o⟩: ∃x,u.A5[j+1]?=some x:=⟨_,AS l⟩;have:=h.Fq (j+1) x (by omega) o;have e:D3 u (j+1)=x.parent.toNat:=(by unfold D3;simp only[o]);omega
   exact⟨⟨(c b n).1,(c b n).2,(c b l).1,(c b l).2⟩,.inr (l5 (E3 h b l).2)⟩
  ·obtain⟨m,w⟩:=Gv h k;have y:0<CJ u d:=by
    rcases Ri (CJ u d)with e|e
    ·rw[e]at w;have:=h.Lv;omega
    ·exact e
   exact⟨⟨(c b m).1,(c b m).2,(g d (by omega)).1,(g d (by omega)).2⟩,.inl ⟨v,d,b,k,s,rfl,bF,wY y m,by omega⟩⟩
 ·refine⟨⟨(g d (by omega)).1,(g d (by omega)).2,by simp[Hi],by simp[Hi]⟩,.inr (l5 ?_)⟩;simp only[Hi];omega
def Hb(u:AY)(R:List Int)(L:List (List Int))(i:Nat):List Ae:=((B2 u R).take i).map (Jt u L)++(B2 u R).drop i
theorem qo:(Hb u R L i).length=(B2 u R).length:=by simp only[Hb,Ds,Eb,GC,List.length_drop];omega
theorem a00(a:i<(B2 u R).length):(Hb u R L i)[i]?=(B2 u R)[i]?:=by rw[Hb,KM (by simp only[Eb,GC];omega)];simp only[Eb,GC,Pw];congr 1;omega
theorem aCX(b:(B2 u R)[i]?=some a):(Hb u R L i).set i (Jt u L a)=Hb u R L (i+1):=by
 have c:=(AX.1 b).1;apply N1;intro j;rw[Ig];simp only[qo,c,if_true];unfold Hb;simp only[MY,Eb,GC,GS,QO,Pw];rcases Nat.lt_trichotomy j i with h|h|h
 ·rw[if_neg (by omega),if_pos (by omega),if_pos (by omega),if_pos (by omega),if_pos (by omega)]
 ·subst h;rw[if_pos rfl,if_pos (by omega),if_pos (by omega),b];rfl
 ·rw[if_neg (by omega),if_neg (by omega),if_neg (by omega)];congr 1;omega
theorem a3P:Hb u R L 0=B2 u R:=by simp[Hb]
theorem a2u:Hb u R L (B2 u R).length=Bn u R L:=by simp[Hb,Bn]
theorem a36{l:List Ae}(h:l[i]?=some a):l.set i a=l:=by
 apply N1;intro j;rw[Ig];split
 ·next e=>subst e;rw[if_pos (AX.1 h).1,h]
 ·rfl
structure Tj(u:AY)(R:List Int)(L:List (List Int))(i:Nat)(A:A6)(t:V):Prop where
 Cr:t.W 0=some ⟨A4 u,true⟩
 OJ:t.W 1=some ⟨[Y 0,Y 0,Y 0,.slice none 0 0],true⟩
 a0S:t.W 9=some ⟨[Y (Dd u R).Am,Y 0,Y 1,AQ 12 (B2 u R).length 4],true⟩
 aGR:t.W 12=some ⟨Ck (Hb u R L i),true⟩
 a6U:t.W 20=some ⟨[Y u.A7.length,Y u.A5.length],true⟩
 ET:A 1=Ag L
 PD:A 6=AA 1
 GJ:A 8=AA 9
 Xe:A 9=Y 0
 aAz:A 10=AA 20
theorem Tj.next{a:A6}{b:V}(h:Tj u R L i A t)(c:b.W 12=some ⟨Ck (Hb u R L j),true⟩)(d:b.W 0=t.W 0)(e:b.W 1=t.W 1)(f:b.W 9=t.W 9)(g:b.W 20=t.W 20)
 (k:a 1=A 1) (l:a 6=A 6) (m:a 8=A 8) (n:a 9=A 9) (o:a 10=A 10):Tj u R L j a b:=
 ⟨d.trans h.Cr,e.trans h.OJ,f.trans h.a0S,c,g.trans h.a6U,k.trans h.ET,l.trans h.PD,m.trans h.GJ,n.trans h.Xe,o.trans h.aAz⟩
theorem a4D(h:Av u)(A0:Bk L)(AB:L.length=u.A7.length)(b:Tj u R L 0 A t)(g:A 33=AQ 12 (B2 u R).length 4)(e:A 34=Y (B2 u R).length)(l:A 35=Y 0)
 (A1: ∀M N,Tj u R L (B2 u R).length M N->Q (.Ai 0) M N):BY U (.loop SY) A t Q:=by
 have AE:=h.ok.DD;have AF:=h.ok.Ek;have AG:=h.ok.F4;have AH:=dh h.ok (R:=R);refine CE (an:=⟨[eJ,bQ,XE],[]⟩) (λi A t=>Tj u R L i A t/\A 33=AQ 12 (B2 u R).length 4/\A 34=Y (B2 u R).length/\A 35=Y i) (B2 u R).length ?_ ?_ 0 A t (C0 _) ⟨b,g,e,l⟩
 ·rintro i A t O ⟨b,g,e,l⟩ AK q;obtain⟨A2,A3,P,o,p,S,AL,A4,AM,s⟩:=id b;obtain⟨a,w⟩: ∃a,(B2 u R)[i]?=some a:=⟨_,AS O⟩;have x:(Hb u R L i)[i]?=some a:=(by rw[a00 O,w]);have y:=LX x;have z:=qo (u:=u) (R:=R) (L:=L) (i:=i);have B:i*4+4<=(B2 u R).length*4:=(by omega);have C:(i:Int)<(B2 u R).length:=(by omega);have D:=BX (n:=i) (by omega);have AN:=F A2;have AO:=F A3;have AP:=F P;have AR:=F p;have AT:=F o;obtain⟨⟨AU,AV,AW,AY⟩,A6⟩:=Xc h.ok (B9 w);have AZ:Mr (u.A7.length,u.A5.length,a.t):=⟨by omega,by simp only;omega,by simp only;omega,by simp only;omega,by simp only;omega,by simp only;omega⟩;have Aa:Mr (u.A7.length,u.A5.length,a.f):=⟨by omega,by simp only;omega,by simp only;omega,by simp only;omega,by simp only;omega,by simp only;omega⟩;have A8:=tM _ i a 1 x;have T:=aCX (L:=L) w;have V:JS u L a=false->Hb u R L (i+1)=Hb u R L i:= λk=>by
   rw[<-T];simp only[Jt,k];exact a36 x
  have A9:JS u L a=true->Ck (Hb u R L (i+1))=(Ck (Hb u R L i)).set (i*4+3) (Y 1):= λk=>by rw[A8,<-T];simp only[Jt,k,if_true]
  rcases A6 with⟨v,d,Ab,Ac,Ad,rfl,m,J,Ae⟩|m
  ·obtain⟨r,K⟩: ∃r,L[v]?=some r:=⟨_,AS (by omega)⟩;have W:=(AX.1 K).2;have Af:r.length<=1000000:=Dh (A0.2 r (B9 K)) (by omega);have X:Kk L (JB u.A7.length u.A5.length (E8 u v d).f)=r:=(by rw[J];simp only[Kk,EE,Dv,K,L2]);have Ag: ¬(d:Int)<0:=(by omega);have Z:(v:Int)<L.length:=(by omega);have Ah:v<L.length:=(by omega);have Ak:2<=(u.A5.length:Int)\/(E8 u v d).f<2+u.A7.length:= .inl (by omega);by_cases c:(d:Int)∈r
   ·have k:JS u L (E8 u v d)=false:=(by simp only[JS,X,m,decide_eq_true c];simp);simp(disch:=first|omega|simp only[AD];omega)[SY,S,s,g,e,l,o,p,C,y,z,B,Cj,m,J,Z,BE,W,c,D,-H,-E,-I,-G,-List.map_map];refine q _ _ ⟨b.next (j:=i+1) (by rw[V k];simp(disch:=first|omega|simp only[AD];omega)[o,-H,-E,-I,-G,-List.map_map]) (by simp(disch:=first|omega|simp only[AD];omega)[-H,-E,-I,-G,-List.map_map]) (by simp(disch:=first|omega|simp only[AD];omega)[-H,-E,-I,-G,-List.map_map]) (by simp(disch:=first|omega|simp only[AD];omega)[-H,-E,-I,-G,-List.map_map]) (by simp(disch:=first|omega|simp only[AD];omega)[-H,-E,-I,-G,-List.map_map]) (by simp) (by simp) (by simp) (by simp) (by simp),by simp[g],by simp[e],by simp⟩
   ·have k:JS u L (E8 u v d)=true:=(by simp only[JS,X,m,J5 c];simp);simp(disch:=first|omega|simp only[AD];omega)[SY,S,A4,s,g,e,l,P,o,p,C,y,z,B,Cj,m,J,Z,BE,W,c,D,-H,-E,-I,-G,-List.map_map];refine q _ _ ⟨b.next (j:=i+1) (by rw[A9 k];simp(disch:=first|omega|simp only[AD];omega)[-H,-E,-I,-G,-List.map_map]) (by simp(disch:=first|omega|simp only[AD];omega)[-H,-E,-I,-G,-List.map_map]) (by simp(disch:=first|omega|simp only[AD];omega)[-H,-E,-I,-G,-List.map_map]) (by simp(disch:=first|omega|simp only[AD];omega)[-H,-E,-I,-G,-List.map_map]) (by simp(disch:=first|omega|simp only[AD];omega)[-H,-E,-I,-G,-List.map_map]) (by simp) (by simp) (by simp) (by simp) (by simp),by simp[g],by simp[e],by simp⟩
  ·have k:JS u L a=false:=(by simp only[JS,m];simp);simp(disch:=first|omega|simp only[AD];omega)[SY,s,g,e,l,o,p,C,y,z,B,Cj,m,D,-H,-E,-I,-G,-List.map_map];refine q _ _ ⟨b.next (j:=i+1) (by rw[V k];simp(disch:=first|omega|simp only[AD];omega)[o,-H,-E,-I,-G,-List.map_map]) (by simp(disch:=first|omega|simp only[AD];omega)[-H,-E,-I,-G,-List.map_map]) (by simp(disch:=first|omega|simp only[AD];omega)[-H,-E,-I,-G,-List.map_map]) (by simp(disch:=first|omega|simp only[AD];omega)[-H,-E,-I,-G,-List.map_map]) (by simp(disch:=first|omega|simp only[AD];omega)[-H,-E,-I,-G,-List.map_map]) (by simp) (by simp) (by simp) (by simp) (by simp),by simp[g],by simp[e],by simp⟩
 ·rintro A t ⟨b,g,e,l⟩;simp(disch:=first|omega|simp only[AD];omega)[SY,e,l,-H,-E,-I,-G,-List.map_map];refine A1 _ _ ⟨b.Cr,b.OJ,b.a0S,b.aGR,b.a6U,?_,?_,?_,?_,?_⟩;all_goals simp[b.ET,b.PD,b.GJ,b.Xe,b.aAz]
theorem a0L(h:Av u)(e:Bk L)(f:EN u L=true)(g:L.length=u.A7.length):Bv U 152 [.agg (A4 u).toArray,Ag L,AH R] D0 λv b=>v= .tuple #[.agg #[Y (E6 u R L).Am,Y 0,Y 1,AQ 12 (Bn u R L).length 4],Y 0]/\b.W 12=some ⟨Ck (Bn u R L),true⟩:=by
 have n:=h.ok.Di;refine Ak (an:=⟨[dg u h],[jn u h]⟩) vW (by kernel_rfl) (by simp[ZG]) ?_;simp(disch:=first|omega|simp only[AD];omega)[ZG,xE,A4,f,-H,-E,-I,-G,-List.map_map];refine a4D h (R:=R) e g ⟨by simp(disch:=first|omega|simp only[AD];omega)[A4,-H,-E,-I,-G,-List.map_map],by simp(disch:=first|omega|simp only[AD];omega)[-H,-E,-I,-G,-List.map_map],by simp(disch:=first|omega|simp only[AD];omega)[-H,-E,-I,-G,-List.map_map],by simp(disch:=first|omega|simp only[AD];omega)[a3P,-H,-E,-I,-G,-List.map_map],by simp(disch:=first|omega|simp only[AD];omega)[-H,-E,-I,-G,-List.map_map],by simp,by simp,by simp,by simp,by simp⟩ (by simp) (by simp) (by simp) λp b i=> ?_;obtain⟨q,c,d,a,r,s,j,k,l,t⟩:=id i;have w:=F c;have x:=F d;have y:=F a;have m:(Bn u R L).length=(B2 u R).length:=by simp[Bn]
 rw[a2u]at a;simp(disch:=first|omega|simp only[AD];omega)[qO,j,k,l,c,d,m,-H,-E,-I,-G,-List.map_map];refine⟨rfl,?_⟩;simp(disch:=first|omega|simp only[AD];omega)[a,-H,-E,-I,-G,-List.map_map]
theorem a2O(h:Av u)(e:Bk L)(f:EN u L=true)(g:L.length=u.A7.length)(t:V):Bv U 152 [.agg (A4 u).toArray,Ag L,AH R] t λv j=>v= .tuple #[.agg #[Y (E6 u R L).Am,Y 0,Y 1,AQ t.next (Bn u R L).length 4],Y 0]/\j=D2 t.next [Ck (Bn u R L)] (t.AE 1):=by
 refine cV (n:=1) (r:= λk=> .tuple #[.agg #[Y (E6 u R L).Am,Y 0,Y 1,AQ k (Bn u R L).length 4],Y 0]) (bs:= λ_=>[Ck (Bn u R L)]) (λ_=>rfl) (λv b=>by simp at b;rcases b with rfl|rfl|rfl<;>rfl) ((a0L h e f g).AG λv m ⟨b,l⟩=>⟨[12],by simp,rfl,λk=>⟨?_,λi cs c=> ?_⟩⟩) t
 ·rw[b];exact G6.r5 (EL.cons (G6.gE (EL.cons (.E2 rfl) (EL.cons (.E2 rfl) (EL.cons (.E2 rfl) (EL.cons (.slice ⟨0,rfl,rfl⟩) EL.nil))))) (EL.cons (.E2 rfl) EL.nil))
 ·cases i with
  | zero=>simp at c;subst c;refine⟨12,_,rfl,l,EL.cells λv b=> ?_⟩;simp only[Ck,RG,CP]at b;obtain⟨r,⟨a,_,rfl⟩,d⟩:=b;simp[Cj]at d;rcases d with rfl|rfl|rfl|rfl<;>rfl
  |succ i=>simp at c
noncomputable def km(u:AY)(h:Av u)(R:List Int)(L:List (List Int))(c:Bk L)(d:EN u L=true)(e:L.length=u.A7.length):DB U:= .B8 152 Unit (λ_=>[.agg (A4 u).toArray,Ag L,AH R]) (λ_ t=>some (.tuple #[.agg #[Y (E6 u R L).Am,Y 0,Y 1,AQ t.next (Bn u R L).length 4],Y 0],D2 t.next [Ck (Bn u R L)] (t.AE 1))) λ_ t r f g a7 i=>by cases g;exact(a2O h c d e t).AG λr f ⟨a,b⟩=>by rw[a,b];exact i
@[simp] theorem aOO{h:Av u}{a:Bk L}{b:EN u L=true}{c:L.length=u.A7.length}:(km u h R L a b c).f=152:=rfl
@[simp] theorem aGS{h:Av u}{a:Bk L}{b:EN u L=true}{c:L.length=u.A7.length}:(km u h R L a b c).fn [.agg #[Y u.ext,M (u.Bz.map Cc) 4,M (u.Aa.map Ce) 4,M (u.A5.map Bd) 7,M (u.A1.map CB) 3,M (u.Ay.map B3) 17,M (u.A7.map Cd) 2],M (L.map BE) 1,M (R.map λx=>[Y x]) 1] t=some (.tuple #[.agg #[Y (E6 u R L).Am,Y 0,Y 1,AQ t.next (Bn u R L).length 4],Y 0],D2 t.next [Ck (Bn u R L)] (t.AE 1)):=DB.BD (x:=()) (t:=t) λ_ _=>rfl
open Go Go.DI Go.Ex
abbrev FB:=Int×Int
def Jl(s:FB):List Value:=[Y s.1,Y s.2]
def G3(l:List FB):List Value:=(l.map Jl).flatten
@[simp] theorem a79: ∀(l:List FB),(G3 l).length=l.length*2
  |[]=>rfl
  | a::l=>by have:=a79 l;simp only[G3,E1,HM,Ds,Df]at this⊢;rw[this];simp[Jl];omega
theorem j3: ∀{l:List FB} {i:Nat} {a:FB},l[i]?=some a->((G3 l).drop (i*2)).take 2=Jl a
 |[],_,_,h=>by simp at h
 |b::l,0,a,h=>by simp at h;subst h;rfl
 | b::l,i+1,a,h=>by have:= @j3 l i a (by simpa using h);rw[<-this,show(i+1)*2=i*2+2 by omega];simp[G3,Jl]
variable{r:List Value}{l:List FB}{b n q D:Nat}{m C J:V}{o:Bool}{y s:FB}{z:Int}
theorem sO{a:FB}(h:l[i]?=some a)(b:j<2):(G3 l++r)[i*2+j]?=(Jl a)[j]?:=by have c:i<l.length:=(AX.1 h).1;rw[L8 (by simp;omega),<-j3 h,QO,if_pos b,Pw]
theorem la{a:FB}(h:l[i]?=some a):((G3 l++r).drop (i*2)).take 2=Jl a:=by have b:i<l.length:=(AX.1 h).1;rw[<-j3 h,List.drop_append_of_le_length (by simp;omega),List.take_append_of_le_length (by simp;omega)]
theorem aFR(l k:List FB):G3 (l++k)=G3 l++G3 k:=by simp[G3]
theorem kj: ∀{l:List FB} {r:List Value} {i:Nat} {a:FB},i<l.length->((G3 l++r).set (i*2) (Y a.1)).set (i*2+1) (Y a.2)=G3 (l.set i a)++r
 |[],_,_,_,h=>by simp at h
 |b::l,r,0,a,h=>by simp[G3,Jl]
 | b::l,r,i+1,a,h=>by have:= @kj l r i a (by simpa using h);rw[show(i+1)*2=i*2+2 by omega];simp only[G3,Jl,E1,HM,Ih,Ni,PZ]at this⊢;rw[this]
structure Fx(m:V)(q b:Nat)(l:List FB):Prop where
 Sm:m.W q=some ⟨[.slice (some ⟨b,0,none⟩) l.length 2],true⟩
 W9: ∃r,m.W b=some ⟨G3 l++r,true⟩
 Di:q≠b
theorem XC(a7:Value->V->Prop):Aq U 261 [.slice (some ⟨b,0,none⟩) n 2] m a7=a7 (Y n) m:=by refine(H5.JZ ?_).wp;rw[a1s (by simp)];simp[jV]
theorem a1c(hb:m.W b=some ⟨G3 l++r,o⟩){x:FB}(a:l[i]?=some x)(c:l[j]?=some y)(a7:Value->V->Prop):
 Aq U 298 [.slice (some ⟨b,0,none⟩) l.length 2,Y i,Y j] m a7=a7 (.bool (decide (x.2<y.2))) m:=by
 have d:i<l.length:=(AX.1 a).1;have e:j<l.length:=(AX.1 c).1;have f:=sO (r:=r) a (j:=1) (by omega);have g:=sO (r:=r) c (j:=1) (by omega);have h:i*2+1+1<=l.length*2+r.length:=by omega
 have k:j*2+1+1<=l.length*2+r.length:=by omega
 refine(H5.JZ ?_).wp;rw[aCr (by simp)];simp[kz,hb,d,e,h,k,Bx,DN,CW,CC,f,g,Jl]
theorem aCH(hb:m.W b=some ⟨G3 l++r,true⟩){x:FB}(c:l[i]?=some x)(d:l[j]?=some y)(a7:Value->V->Prop):
 Aq U 301 [.slice (some ⟨b,0,none⟩) l.length 2,Y i,Y j] m a7=a7 (.tuple #[]) (m.A0 b (some ⟨G3 ((l.set i y).set j x)++r,true⟩)):=by
 have e:i<l.length:=(AX.1 c).1;have f:j<l.length:=(AX.1 d).1;have g:=la (r:=r) c;have h:=la (r:=r) d;have k:i*2+2<=l.length*2+r.length:=by omega
 have n:j*2+2<=l.length*2+r.length:=by omega
 have q:=F hb;have o:=kj (r:=r) (a:=y) e;have p:=kj (l:=l.set i y) (r:=r) (i:=j) (a:=x) (by simpa using f);refine(H5.JZ ?_).wp;rw[aC5 (by simp)];simp(disch:=omega)[lq,hb,e,f,k,n,Bx,GN,DN,FJ,CW,g,h,Jl,AT,VD,o,p]
structure Gs(m C:V)(q b D:Nat):Prop where
 next:m.next<=C.next
 W: ∀c,c<m.next->c≠q->c≠b->C.W c=m.W c
 C1:D=b\/m.next<=D
def pl(m:V)(q b:Nat)(l:List FB)(C:V):Prop:= ∃D,Fx C q D l/\Gs m C q b D
theorem aB9(h:Fx m q b l)(o:l.length<1000000000)(s:FB)(a7:Value->V->Prop)(d: ∀C,pl m q b (l++[s]) C->a7 (.tuple #[]) C):
 Aq U 300 [AA q,.iface 282 (.agg #[Y s.1,Y s.2])] m a7:=by
 obtain⟨a,⟨r,hb⟩,p⟩:=h;have t:=F a;have u:=F hb;rw[a0H (by simp)];have e:l.length*2<=l.length*2+r.length:=by omega
 have f:(l.length+1)*16<=140737488355328:=by omega
 have g:l.length+1<=9223372036854775807:=by omega
 have i:List.take (l.length*2) (G3 l++r)=G3 l:=by rw[List.take_append_of_le_length (by simp),DV (by simp)]
 simp(disch:=first|omega|simp only[AD];omega)[l3,a,hb,Bx,GN,DN,FJ,CW,Bp,Dl,C7,Dx,e,f,g,Cu,i];refine d _ ⟨m.next+7,⟨?_,⟨[],?_⟩,by omega⟩,⟨?_,λc j k n=> ?_,.inr (by omega)⟩⟩
 ·rw[AT (by simp only[Ar,BC];omega)];simp
 ·rw[A3 (by omega),AT (by simp only[Ar,BC];omega)];simp[G3,Jl]
 ·simp only[Ar,BC];omega
 ·rw[A3 k,A3 (by omega),A3 n,A3 (by omega),AU j]
theorem aDj(h:Fx m q b (l++[s]))(w:l.length<1000000000)(a7:Value->V->Prop)(g: ∀C,pl m q b l C->a7 (.iface 282 (.agg #[Y s.1,Y s.2])) C):
 Aq U 299 [AA q] m a7:=by
 obtain⟨d,⟨r,hb⟩,f⟩:=h;have x:=F d;have j:=F hb;rw[a7J (by simp)];have y:((l++[s]).length:Int)-1=(l.length:Int):=by simp
 have k:IntKind.i64.wrap (l.length:Int)=(l.length:Int):=Ah (by omega) (by omega);have n:=la (l:=l++[s]) (r:=r) (i:=l.length) (a:=s) (by simp);have o:l.length*2+2<=(l.length+1)*2+r.length:=by omega
 have p:(l.length:Int)<(l.length:Int)+1:=by omega
 have t:(l.length:Int)<=(l.length:Int)+1:=by omega
 simp only[Ds,Df,Jx,Nat.zero_add]at d;simp(disch:=first|omega|simp only[AD];omega)[n2,d,hb,Bx,GN,DN,FJ,CW,k,n,Jl,o,p,t,Cu];refine g _ ⟨b,⟨?_,⟨Jl s++r,?_⟩,f⟩,⟨?_,λc u v z=> ?_,.inl rfl⟩⟩
 ·rw[AT (by simp only[Ar,BC];omega)]
 ·rw[A3 (λe=>f e.symm),A3 (by omega),AU j,hb,aFR];simp[G3]
 ·simp only[Ar,BC];omega
 ·rw[A3 v,A3 (by omega),AU u]
def NY(m:V)(q b:Nat)(l:List FB)(C:V):Prop:= ∃a,a.Perm l/\Fx C q b a/\Gs m C q b b
theorem Gs.refl:Gs m m q b b:=⟨Ao _,λ_ _ _ _=>rfl,.inl rfl⟩
theorem Gs.trans(h:Gs m C q b b)(a:Gs C J q b b):Gs m J q b b:=
 ⟨Dh h.next a.next,λc d e f=>by rw[a.W c (Eo d h.next) e f,h.W c d e f],.inl rfl⟩
theorem NY.refl(h:Fx m q b l):NY m q b l m:=⟨l,.refl _,h,.refl⟩
theorem NY.trans{a:List FB}(c:a.Perm l)(d:Gs m C q b b)(h:NY C q b a J):NY m q b l J:=by obtain⟨e,f,g,i⟩:=h;exact⟨e,f.trans c,g,d.trans i⟩
theorem dT(h:Fx m q b l){x:FB}(a:l[i]?=some x)(c:l[j]?=some y)(a7:Value->V->Prop):
 HK U [(280,298,some (false,1))] (.iface 280 (AA q)) [Y i,Y j] m a7=a7 (.bool (decide (x.2<y.2))) m:=by
 obtain⟨d,⟨r,hb⟩,e⟩:=h;simp[d,Bx,DN,CW,a1c hb a c]
theorem UM(h:Fx m q b l)(d:i<l.length)(e:j<l.length)(a7:Value->V->Prop)(k: ∀C a,a.Perm l->a.length=l.length->Fx C q b a->Gs m C q b b->a7 (.tuple #[]) C):
 HK U [(280,301,some (false,1))] (.iface 280 (AA q)) [Y i,Y j] m a7:=by
 obtain⟨f,⟨r,hb⟩,g⟩:=h;have n:=F hb;simp only[Kj,if_true,f,Bx,DN,CW];refine⟨by simp,?_⟩;have:=aCH hb (AS d) (AS e) a7;simp only[KK,WY,List.take_zero,List.headD_cons,EI,if_false]at this⊢;rw[this];refine k _ _ (List.set_set_perm d e) (by simp) ⟨?_,⟨r,?_⟩,g⟩ ⟨by simp only[Ar];omega,λc p s o=>by rw[A3 o],.inl rfl⟩
 ·rw[A3 g,f];simp
 ·rw[AT n]
theorem aDs: ∀(k j:Nat),j<=k-> ∀{m:V} {A:A6} {l:List FB},Fx m q b l->l.length<1000000000->j<l.length->A 0= .iface 280 (AA q)->A 1=Y j->
 (∀o C,NY m q b l C->Q (.Ai 0) o C)->BS U (.loop U4) A m Q:=by
 intro k;induction k with
 | zero=>intro j z m A l h r d a e c;obtain rfl:j=0:=(by omega);refine D7 λB s=> ?_;have f:IntKind.i64.wrap (-1)= -1:=Ah (by omega) (by omega);have g:IntKind.i64.wrap 0=0:=Ah (by omega) (by omega);have n:Int.tdiv (-1) 2=0:=(by decide);simp[U4,e,f,g,n];exact c _ _ (.refl h)
 | succ k t=>
   intro j z m A l h r d a e c;by_cases I:j=0
   ·exact t j (by omega) h r d a e c
   obtain⟨i,rfl⟩: ∃i,j=i+1:=⟨j-1,by omega⟩;refine D7 λB s=> ?_;obtain⟨p,D⟩: ∃p,p=i/2:=⟨_,rfl⟩;have u:p<l.length:=(by omega);have f:IntKind.i64.wrap (i:Int)=i:=Ah (by omega) (by omega);have g:IntKind.i64.wrap (p:Int)=p:=Ah (by omega) (by omega);have n:Int.tdiv (i:Int) 2=(p:Int):=(by subst D;rfl);have v: ¬(p:Int)=(i:Int)+1:=(by omega);have w: ∀a7,HK U [(280,298,some (false,1))] (.iface 280 (AA q)) [Y ((i:Int)+1),Y (p:Int)] m a7=a7 (.bool (decide (l[i+1].2<l[p].2))) m:= λa7=>dT h (AS d) (AS u) a7;have x:A 1=Y ((i:Int)+1):=e;by_cases y:l[i+1].2<l[p].2
   ·simp[-Kj,-L4,U4,a,x,f,g,n,v,w,y];refine UM h (i:=p) (j:=i+1) u d _ λC K E L F G=> ?_;simp;exact s _ _ (t p (by omega) F (by omega) (by omega) (by simp[a]) (by simp) λo J H=>c _ _ (H.trans E G))
   ·simp[-Kj,-L4,U4,a,x,f,g,n,v,w,y];exact c _ _ (.refl h)
theorem a28(h:Fx m q b l)(a:l.length<1000000000)(c:j<l.length)(a7:Value->V->Prop)(d: ∀C,NY m q b l C->a7 (.tuple #[]) C):
 Aq U 277 [.iface 280 (AA q),Y j] m a7:=by
 rw[a46 (by simp)];simp[lF];refine aDs j j (Ao _) h a c (by simp) (by simp) λf C e=> ?_;simp;exact d _ e
theorem aFP: ∀(k i:Nat),n<=i+k-> ∀{m:V} {A:A6} {l:List FB},Fx m q b l->l.length<1000000000->i<l.length->n<=l.length->A 0= .iface 280 (AA q)->A 2=Y n->A 7=Y i->
 (∀r C,NY m q b l C->(∃x:Int,r 7=Y x)->r 1=A 1->Q (.Ai 0) r C)->BS U (.loop MV) A m Q:=by
 intro k;induction k with
 | zero=>intro i R m A l h S s T d c a e;refine D7 λW F=> ?_;have f:IntKind.i64.wrap (2*(i:Int))=2*i:=Ah (by omega) (by omega);have g:IntKind.i64.wrap (2*(i:Int)+1)=2*i+1:=Ah (by omega) (by omega);have o:(n:Int)<=2*(i:Int)+1:=(by omega);simp[-Kj,-L4,MV,c,a,f,g,o];exact e _ _ (.refl h) ⟨i,by simp[a]⟩ (by simp)
 | succ k K=>
   intro i R m A l h S s T d c a e;refine D7 λW F=> ?_;have f:IntKind.i64.wrap (2*(i:Int))=2*i:=Ah (by omega) (by omega);have g:IntKind.i64.wrap (2*(i:Int)+1)=2*i+1:=Ah (by omega) (by omega);have t:IntKind.i64.wrap (2*(i:Int)+1+1)=2*i+1+1:=Ah (by omega) (by omega);by_cases o:(n:Int)<=2*(i:Int)+1
   ·simp[-Kj,-L4,MV,c,a,f,g,o];exact e _ _ (.refl h) ⟨i,by simp[a]⟩ (by simp)
   have u: ¬(2*(i:Int)+1<0):=(by omega);have L:2*i+1<l.length:=(by omega);have G: ∀a7,HK U [(280,298,some (false,1))] (.iface 280 (AA q)) [Y (2*(i:Int)+1),Y (i:Int)] m a7=a7 (.bool (decide (l[2*i+1].2<l[i].2))) m:= λa7=>dT h (AS L) (AS s) a7;by_cases v:2*(i:Int)+1+1<n
   ·have M:2*i+1+1<l.length:=(by omega);have H: ∀a7,HK U [(280,298,some (false,1))] (.iface 280 (AA q)) [Y (2*(i:Int)+1+1),Y (2*(i:Int)+1)] m a7=a7 (.bool (decide (l[2*i+1+1].2<l[2*i+1].2))) m:= λa7=>dT h (AS M) (AS L) a7;have N: ∀a7,HK U [(280,298,some (false,1))] (.iface 280 (AA q)) [Y (2*(i:Int)+1+1),Y (i:Int)] m a7=a7 (.bool (decide (l[2*i+1+1].2<l[i].2))) m:= λa7=>dT h (AS M) (AS s) a7;by_cases I:l[2*i+1+1].2<l[2*i+1].2
    ·by_cases p:l[2*i+1+1].2<l[i].2
     ·simp[-Kj,-L4,MV,d,c,a,f,g,t,o,u,v,H,N,I,p];refine UM h (i:=i) (j:=2*i+1+1) s (by omega) _ λC O w P y z=> ?_;simp;exact F _ _ (K (2*i+1+1) (by omega) y (by omega) (by omega) (by omega) (by simp[d]) (by simp[c]) (by simp) λr J B D E=>e _ _ (B.trans w z) D (by rw[E];simp))
     ·simp[-Kj,-L4,MV,d,c,a,f,g,t,o,u,v,H,N,I,p];exact e _ _ (.refl h) ⟨i,by simp[a]⟩ (by simp)
    ·by_cases p:l[2*i+1].2<l[i].2
     ·simp[-Kj,-L4,MV,d,c,a,f,g,t,o,u,v,G,H,I,p];refine UM h (i:=i) (j:=2*i+1) s (by omega) _ λC O w P y z=> ?_;simp;exact F _ _ (K (2*i+1) (by omega) y (by omega) (by omega) (by omega) (by simp[d]) (by simp[c]) (by simp) λr J B D E=>e _ _ (B.trans w z) D (by rw[E];simp))
     ·simp[-Kj,-L4,MV,d,c,a,f,g,t,o,u,v,G,H,I,p];exact e _ _ (.refl h) ⟨i,by simp[a]⟩ (by simp)
   ·by_cases p:l[2*i+1].2<l[i].2
    ·simp[-Kj,-L4,MV,d,c,a,f,g,t,o,u,v,G,p];refine UM h (i:=i) (j:=2*i+1) s (by omega) _ λC O w P y z=> ?_;simp;exact F _ _ (K (2*i+1) (by omega) y (by omega) (by omega) (by omega) (by simp[d]) (by simp[c]) (by simp) λr J B D E=>e _ _ (B.trans w z) D (by rw[E];simp))
    ·simp[-Kj,-L4,MV,d,c,a,f,g,t,o,u,v,G,p];exact e _ _ (.refl h) ⟨i,by simp[a]⟩ (by simp)
theorem aFM(h:Fx m q b l)(c:l.length<1000000000)(d:i<l.length)(e:n<=l.length)(a7:Value->V->Prop)(f: ∀v C,NY m q b l C->a7 v C):
 Aq U 276 [.iface 280 (AA q),Y i,Y n] m a7:=by
 rw[aBB (by simp)];simp[mn];refine aFP n i (by omega) h c d e (by simp) (by simp) (by simp) λo C g j a=> ?_;obtain⟨x,k⟩:=j;simp at a;simp[k,a];exact f _ _ g
theorem Gs.then(h:Gs m C q b D)(a:Gs C J q D D)(hb:b<m.next):Gs m J q b D:=
 ⟨Dh h.next a.next,λc d f g=>by have i:c≠D:=(by rcases h.C1 with e|e<;>omega);rw[a.W c (Eo d h.next) f i,h.W c d f g],h.C1⟩
theorem Gs.aEC(h:Gs m C q b b)(a:Gs C J q b D):Gs m J q b D:=
 ⟨Dh h.next a.next,λc d f g=>by rw[a.W c (Eo d h.next) f g,h.W c d f g],a.C1.imp id λe=>Dh h.next e⟩
theorem a0g(h:Fx m q b l)(w:l.length<900000000)(s:FB)(a7:Value->V->Prop)(e: ∀v C D a,a.Perm (s::l)->Fx C q D a->Gs m C q b D->a7 v C):
 Aq U 264 [.iface 280 (AA q),.iface 282 (.agg #[Y s.1,Y s.2])] m a7:=by
 rw[aAF (by simp)];simp[kK];refine aB9 h (by omega) s _ λx f=> ?_;obtain⟨g,c,i⟩:=f;have j:IntKind.i64.wrap (l.length:Int)=l.length:=Ah (by omega) (by omega);have d:=c.Sm;simp only[Ds,Df,Jx,Nat.zero_add]at d;simp[d,Bx,DN,CW,XC,j];have k:b<m.next:=by obtain⟨r,hb⟩:=h.W9;exact F hb
 refine a28 c (by simp;omega) (by simp) _ λy n=> ?_;obtain⟨o,p,t,u⟩:=n;simp;exact e _ _ g o (p.trans List.perm_append_comm) t (i.then u k)
theorem aFf(h:Fx m q b l)(o:l≠[])(L:l.length<900000000)(a7:Value->V->Prop)
 (p: ∀s C D d,l.Perm (s::d)->Fx C q D d->Gs m C q b D->a7 (.iface 282 (.agg #[Y s.1,Y s.2])) C):
 Aq U 262 [.iface 280 (AA q)] m a7:=by
 rw[a2L (by simp)];obtain⟨n,e⟩: ∃n,l.length=n+1:=⟨l.length-1,by have:=List.length_pos_iff.2 o;omega⟩;have f:=h.Sm;rw[e]at f;have t:IntKind.i64.wrap (n:Int)=n:=Ah (by omega) (by omega);have M:b<m.next:=by obtain⟨r,hb⟩:=h.W9;exact F hb
 have u: ∀a7,HK U [(17,295,none),(280,261,some (false,1))] (.iface 280 (AA q)) [] m a7=a7 (Y ((n:Int)+1)) m:= λa7=>by simp[f,Bx,DN,CW,XC]
 simp[-Kj,-L4,gS,u,t];refine UM h (i:=0) (j:=n) (by omega) (by omega) _ λN O w x y z=> ?_;simp[-Kj,-L4];refine aFM y (by omega) (i:=0) (n:=n) (by omega) (by omega) _ λv P A=> ?_;obtain⟨a,g,B,E⟩:=A;simp;have k:a.length=n+1:=by rw[g.length_eq,x,e]
 obtain⟨c,s,rfl⟩: ∃c s,a=c++[s]:=⟨a.dropLast,a.getLast (by intro h;simp[h]at k),(List.dropLast_concat_getLast _).symm⟩;refine aDj B (by simp at k;omega) _ λG H=> ?_;obtain⟨I,J,K⟩:=H;simp;exact p s G I c (w.symm.trans (g.symm.trans List.perm_append_comm)) J ((z.trans E).aEC K)
def V2(n:CG)(d:Nat×Bool):Int:=match n.AF[d.1]? with|some a=>if d.2 then a.k else-a.k|none=>0
theorem hW{n:CG}(w:n.Cz)(hb:Gn n ab){v:Value}{x J K L:Nat}(h:F9 n ab v x J K L m)(d:(BN z).1<n.AF.length)(M: ∀a∈n.AF,0<=a.k/\a.k<=1000)(a7:Value->V->Prop)(g: ∀C,BK m C->a7 (.tuple #[Y (Bs n (BN z)),Y (Bi n (BN z)),Y (Ab n ab (BN z)),Y (V2 n (BN z))]) C):Aq U 263 [AA x,Y z] m a7:=by
 rw[a0z (by simp)];have l:=h.s;have p:=h.f;have A2:=w.JK;rcases VV z with⟨i,q,y,N,A⟩|⟨i,q,y,A⟩
 all_goals
  rw[A]at d g;simp only at d;obtain⟨c,o,rfl,r⟩:=h.a.C1 d;obtain⟨a,b⟩: ∃a,n.AF[i]?=some a:=⟨n.AF[i]'d,by simp⟩;have D:i<ab.length:=(by rw[hb.1];exact d);obtain⟨B,e⟩: ∃B,ab[i]?=some B:=⟨ab[i]'D,by simp⟩;have E: ∀h,ab[i]'h=B:= λh=>by rw[AS h]at e;simpa using e
  have A3:=hb.2 i a B b e;have A4:=(w.Il a (B9 b)).2.2;have u:=NX b (j:=0) (by omega);have O:=NX b (j:=1) (by omega);have P:=NX b (j:=2) (by omega);rw[Nq]at u;simp only[Cj]at u;simp[Cj]at O P;have Q:(Ck n.AF)[i*4]?=some (Y a.f):=u;have A5: ∀h:i*4<(Ck n.AF).length,(Ck n.AF)[i*4]'h=Y a.f:= λh=>by have:=Q;rw[AS h]at this;simpa using this
  have A6:i*4+1<=n.AF.length*4:=(by omega);have A7:i*4+2<=n.AF.length*4:=(by omega);have A8:i*4+3<=n.AF.length*4:=(by omega);have R:(i:Int)<n.AF.length:=(by omega);have S:(i:Int)<ab.length:=(by omega);have G:i+1<=ab.length:=D;have T:IntKind.i64.wrap (a.c-B)=a.c-B:=Ah (by omega) (by omega);have W:IntKind.i64.wrap (i:Int)=i:=Ah (by omega) (by omega);have X:=NX b (j:=3) (by omega);simp[Cj]at X;have t4:=LX b;have A9:=M a (B9 b);have H:IntKind.i64.wrap (-a.k)= -a.k:=Ah (by omega) (by omega);have AB:IntKind.i64.wrap (0-a.k)= -a.k:=(by rw[Int.zero_sub];exact H);have I:i*4+4<=n.AF.length*4:=(by omega);have AG:=F l;have AH:=F p;have AJ:=F r
 ·have Z:z<n.AF.length:=(by omega);have A1:z<ab.length:=(by omega);simp(disch:=first|omega|simp only[AD];omega)[dP,l,p,r,q,N,t4,Cj,CC,E,G,I,Z,A1,T,Bx,GN,DN,FJ,CW,Cu];have:=g ((m.AE 10).A0 (m.next+8) (some {cells:=[Y a.f,Y a.t,Y a.c,Y a.k],own:=true})) (((BK.refl m).AE 10).A0 (by omega));simpa[Bs,Bi,Ab,V2,b,e]using this
 ·simp(disch:=first|omega|simp only[AD];omega)[dP,l,p,r,q,y,t4,Cj,CC,E,R,S,G,I,W,H,Bx,GN,DN,FJ,CW,Cu];have:=g ((m.AE 11).A0 (m.next+9) (some {cells:=[Y a.f,Y a.t,Y a.c,Y a.k],own:=true})) (((BK.refl m).AE 11).A0 (by omega));simpa[Bs,Bi,Ab,V2,b,e]using this
end Go.Proofs.YtmmkkggfmigppaaGreat
