/- A part of the proof. -/
import Derived.Test.YtmmkkggfmigppaaGreatZczad
set_option linter.all false
set_option maxRecDepth 8000
set_option maxHeartbeats 16000000
namespace Go.Proofs.YtmmkkggfmigppaaGreat
open Go Go.DI Go.Big
theorem dJ: ∀{S:List Int} {x:Int} {a:List Int},0<=x->S.foldl K1 (x,a)=(x,a)
 |[],_,_,_=>rfl
 | d::S,x,a,h=>by rw[IJ,show K1 (x,a) d=(x,a)from if_neg λq=>by have:=q.1;simp only at this;omega];exact dJ h
theorem lL: ∀{S:List Int} {x:Int} {a6:List Int},(∀d∈S,0<=d)->x<0->(∃d∈S,d∉a6)-> ∃d∈S,d∉a6/\S.foldl K1 (x,a6)=(d,a6++[d])
 |[],_,_,_,_,h=>by obtain⟨d,h,_⟩:=h;simp at h
 | e::S,x,a6,f,g,h=>by
   by_cases c:e∈a6
   ·obtain⟨d,a,i⟩:=h;have b:d∈S:=by
     rcases CM.1 a with rfl|a
     ·exact absurd c i
     ·exact a
    obtain⟨j,k,l,m⟩:=lL (S:=S) (x:=x) (a6:=a6) (λd b=>f d (by simp[b])) g ⟨d,b,i⟩;refine⟨j,by simp[k],l,?_⟩;rw[IJ,show K1 (x,a6) e=(x,a6)from if_neg λq=>q.2 c];exact m
   ·refine⟨e,by simp,c,?_⟩;rw[IJ,show K1 (x,a6) e=(e,a6++[e])from if_pos ⟨g,c⟩];exact dJ (f e (by simp))
theorem o5: ∀{S a:List Int},S.Nodup->a.length<S.length-> ∃d∈S,d∉a:= λ{S a} b f=>by apply TI;intro h;have c: ∀d∈S,d∈a:= λd e=>TI λq=>h ⟨d,e,q⟩;have:=List.Nodup.length_le_of_subset b c;omega
variable{S:List Int}
theorem bq: ∀(f:List Int) (a:List Int×List Int),a.2.Nodup->(∀x∈a.2,x∈S/\0<=x)->(a.1.filter λx=>decide (0<=x))=a.2->(∀x∈a.1,x= -1\/0<=x)->
 (f.foldl (GU S) a).2.Nodup/\(∀x∈(f.foldl (GU S) a).2,x∈S/\0<=x)/\((f.foldl (GU S) a).1.filter λx=>decide (0<=x))=(f.foldl (GU S) a).2/\ ∀x∈(f.foldl (GU S) a).1,x= -1\/0<=x
 |[],a,g,h,i,j=>⟨g,h,i,j⟩
 | d::f,a,g,h,i,j=>by
   rw[IJ];by_cases c:0<=d/\d∈S/\d∉a.2
   ·rw[show GU S a d=(a.1++[d],a.2++[d])from if_pos c];refine bq f _ ?_ ?_ ?_ ?_
    ·simp only[Mz,g,true_and];exact⟨by simp,λx b y k e=>by simp at k;subst k;subst e;exact c.2.2 b⟩
    ·intro x b;simp only[Cg,Gw]at b;rcases b with b|rfl
     ·exact h x b
     ·exact⟨c.2.1,c.1⟩
    ·simp only[List.filter_append,i];simp[c.1]
    ·intro x b;simp only[Cg,Gw]at b;rcases b with b|rfl
     ·exact j x b
     ·exact .inr c.1
   ·rw[show GU S a d=(a.1++[-1],a.2)from if_neg c];refine bq f _ g h ?_ ?_
    ·simp only[List.filter_append,i];simp
    ·intro x b;simp only[Cg,Gw]at b;rcases b with b|rfl
     ·exact j x b
     ·exact .inl rfl
theorem kH(k: ∀d∈S,0<=d)(l:S.Nodup): ∀(b:List Int) (a:List Int×List Int),a.2.Nodup->(∀x∈a.2,x∈S)->(a.1++b.filter λx=>decide (0<=x)).Perm a.2->(∀x∈b,x= -1\/0<=x)->a.1.length+b.length<=S.length->
 (b.foldl (GH S) a).1.Perm (b.foldl (GH S) a).2/\(b.foldl (GH S) a).2.Nodup/\ ∀x∈(b.foldl (GH S) a).2,x∈S
 |[],a,g,h,f,m,i=>⟨by simpa using f,g,h⟩
 | x::b,a,g,h,f,m,i=>by
   rw[IJ];have o: ∀y∈b,y= -1\/0<=y:= λy c=>m y (by simp[c]);rcases m x (by simp)with rfl|j
   ·have p:a.2.length<S.length:=by
     have n:=f.length_eq;have u:=List.length_filter_le (λx=>decide ((0:Int)<=x)) b;simp only[Ds,List.filter_cons,Df]at n i;rw[show decide ((0:Int)<= -1)=false from rfl]at n;simp at n;omega
    obtain⟨d,q,r,s⟩:=lL k (by omega:(-1:Int)<0) (o5 l p);rw[show GH S a (-1)=(a.1++[d],a.2++[d]) by simp only[GH,s]];refine kH k l b _ ?_ ?_ ?_ o (by simp at i⊢;omega)
    ·simp only[Mz,g,true_and];exact⟨by simp,λx j y c e=>by simp at c;subst c;subst e;exact r j⟩
    ·intro y c;simp only[Cg,Gw]at c;rcases c with c|rfl
     ·exact h y c
     ·exact q
    ·have t:(a.1++b.filter λx=>decide (0<=x)).Perm a.2:=(by simpa using f);have:=(List.perm_append_comm (l₁:=[d]) (l₂:=b.filter λx=>decide (0<=x))).append_left a.1;simp only[List.append_assoc]at this⊢;refine this.trans ?_;rw[<-List.append_assoc];exact t.append_right [d]
   ·rw[show GH S a x=(a.1++[x],a.2) by simp only[GH,dJ j]];refine kH k l b _ g h ?_ o (by simp at i⊢;omega);have:(List.filter (λx=>decide (0<=x)) (x::b))=x::b.filter (λx=>decide (0<=x)):=(by simp[j]);rw[this]at f;simpa using f
theorem a3F{a:List Int}(h: ∀d∈S,0<=d)(c:S.Nodup)(i:a.length=S.length):(HF S a).Perm S:=by
 obtain⟨j,k,a3,a4⟩:=bq (S:=S) a ([],[]) List.nodup_nil (by simp) rfl (by simp);have o:(Ht S a).1.length=a.length:=by unfold Ht;rw[SQ];simp
 obtain⟨e,l,m⟩:=kH h c (Ht S a).1 ([],(Ht S a).2) j (λx b=>(k x b).1) (by simp only[Ni];exact .of_eq a3) a4 (by simp;omega);have f:(HF S a).Nodup:=e.nodup_iff.2 l;have g: ∀x∈HF S a,x∈S:= λx b=>m x (e.mem_iff.1 b);refine(List.perm_ext_iff_of_nodup f c).2 λd=>⟨g d,λn=>TI λq=> ?_⟩;have:=List.Nodup.length_le_of_subset (l₁:=d::HF S a) (l₂:=S) (K5.2 ⟨q,f⟩) λx b=>by
  rcases CM.1 b with rfl|b
  ·exact n
  ·exact g x b
 rw[Df,vP,i]at this;omega
open Go Go.DI Go.Big Go.Ex
def EB(u:AY)(i j:Nat):Bool:=decide (F3 u (Cb u i) 5 j=i)
structure IK(u:AY)(R:List Int)(L:List (List Int)):Prop where
 len:L.length=u.A7.length
 D8: ∀(v:Nat) r,L[v]?=some r->(r.length:Int)=CS u v
 DD: ∀(v:Nat) r,L[v]?=some r->r.Nodup
 Lx: ∀(v:Nat) r,L[v]?=some r-> ∀x∈r,∃d:Nat,x=d/\d<u.A1.length/\Es u v d=true
 aP: ∀(v:Nat) r,L[v]?=some r-> ∀i,0<i->i<u.A5.length->((r.countP λx=>EB u i (CJ u x.toNat):Nat):Int)<=HQ u v i
 E4: ∀d,d<u.A1.length->((L.flatten.count (d:Int):Nat):Int)<=CD u R d
variable{i v n d o nK td:Nat}{u:AY}{R ab r:List Int}{a:Ae}{x B c:Int}{f:Nat->Int}{L:List (List Int)}{A N C:A6}{aF:List (Nat×Bw)}{cq kU:List (List Value)}{t t0:V}{aR:Option Bw}{D:Type}{P:Nat->Prop}{aJ bG iM:Prop}{Q:BM->A6->V->Prop}{p:Dw}
theorem UK:EB u i i=true:=by unfold EB F3;rw[if_neg (by omega)];simp
theorem UA(h:BW u){j:Nat}(d:j<u.A5.length)(g:0<j)(l:j≠i):EB u i j=EB u i (D3 u j):=by
 obtain⟨a,b,c⟩:=h.Gu d (h.HV d g);have o:=h.zE d;unfold EB;by_cases f:Cb u j>Cb u i
 ·have e:F3 u (Cb u i) 5 j=F3 u (Cb u i) 4 (D3 u j):=(by rw[F3,if_pos f]);by_cases m:0<=Cb u i
  ·rw[e,oS h m (k:=4) (fC:=5) (by omega) (by omega) (by omega)]
  ·exfalso;have:Cb u i=0\/i<u.A5.length:=by
    by_cases q:i<u.A5.length
    ·exact .inr q
    ·left;unfold Cb;rw[LF (by omega)]
   rcases this with q|q
   ·omega
   ·have:=h.zE q;omega
 ·have e:F3 u (Cb u i) 5 j=j:=(by rw[F3,if_neg f]);have n:F3 u (Cb u i) 5 (D3 u j)=D3 u j:=(by rw[F3,if_neg (by omega)]);rw[e,n,J5 l,J5 λq=>by rw[q]at b;omega]
theorem n6(h:BW u)(d:i<u.A5.length)(e:0<i):EB u i (D3 u i)=false:=by
 obtain⟨a,b,c⟩:=h.Gu d (h.HV d e);unfold EB;have f:F3 u (Cb u i) 5 (D3 u i)=D3 u i:=by rw[F3,if_neg (by omega)]
 rw[f];exact J5 λq=>by omega
theorem mB(h:BW u)(a:i<u.A5.length)(b:0<i):EB u i 0=false:=by
 have:=h.HV a b;have:=h.Lv.1;unfold EB;have c:F3 u (Cb u i) 5 0=0:=by rw[F3,if_neg (by omega)]
 rw[c];exact J5 λq=>by omega
theorem Q5(h:BW u)(b:a∈B2 u R)(c:AM u 0<=a.t): ∃v d,v<u.A7.length/\d<u.A1.length/\Es u v d=true/\a=E8 u v d:=by
 rcases(Xc h b).2 with⟨v,d,f,g,i,j,_⟩|e
 ·exact⟨v,d,f,g,i,j⟩
 ·obtain⟨v,d,k,l,rfl⟩:=a7G h b c;have:HJ u.A7.length u.A5.length (AM u d)= -1:=e;rw[bF]at this;omega
theorem FN(d:Nat):AM u d=AM u 0+d:=by unfold AM;omega
theorem ZR(h:BW u):(B2 u R).Pairwise λa b=> ¬(AM u 0<=a.t/\a.f=b.f/\a.t=b.t):=by
 have D:=Is h;have low: ∀{w:Nat},w<u.A7.length-> ∀{a:Ae},a∈Gk u w->AM u 0<=a.t-> ∃d,d<u.A1.length/\a=E8 u w d:= λ{w} c {a} g m=>by
  rcases Ls.1 g with rfl|⟨j,p,rfl⟩|⟨d,k,_,rfl⟩
  ·have:=E3 h c (i:=0) h.Di;simp only[Ax,if_true]at this;have m:AM u 0<=2+(w:Int):=m;omega
  ·have:=E3 h c (i:=j+1) (by omega);have m:AM u 0<=Ax u w (j+1):=m;omega
  ·exact⟨d,k,rfl⟩
 unfold B2;refine Qv.2 ⟨?_,?_,?_⟩
 ·refine List.pairwise_flatMap.2 ⟨λw c=> ?_,?_⟩
  ·have c:=FX.1 c;unfold Gk;refine Su.2 ⟨λb _ q=> ?_,Qv.2 ⟨?_,?_,?_⟩⟩
   ·obtain⟨d,k,e⟩:=low c (a:=Ft u w) (Ls.2 (.inl rfl)) q.1;have:(Ft u w).f=(E8 u w d).f:=(by rw[e]);have:=(E3 h c (Gv h k).1).1;have E:(0:Int)=Ax u w (CJ u d):=(by assumption);omega
   ·refine List.pairwise_map.2 ((List.pairwise_lt_range (n:=u.A5.length-1)).imp_of_mem λ{a b} g hb r q=> ?_);have g:=FX.1 g;have:=E3 h c (i:=a+1) (by omega);have l:AM u 0<=Ax u w (a+1):=q.1;omega
   ·refine List.pairwise_map.2 ((List.pairwise_lt_range (n:=u.A1.length)).filter _|>.imp λ{a b} r q=> ?_);have s:AM u a=AM u b:=q.2.2;rw[FN a,FN b]at s;omega
   ·intro a g b hb q;obtain⟨j,p,rfl⟩:=CP.1 g;have p:=FX.1 p;have:=E3 h c (i:=j+1) (by omega);have l:AM u 0<=Ax u w (j+1):=q.1;omega
  ·refine(List.pairwise_lt_range (n:=u.A7.length)).imp_of_mem λ{v w} o c F x z y A q=> ?_;have o:=FX.1 o;have c:=FX.1 c;obtain⟨d,k,rfl⟩:=low o z q.1;obtain⟨e,B,rfl⟩:=low c A (by rw[<-q.2.2];exact q.1);have C:Ax u v (CJ u d)=Ax u w (CJ u e):=q.2.1;have:=(Ke h o c (Gv h k).1 (Gv h B).1 C).1;omega
 ·refine List.pairwise_map.2 ((List.pairwise_lt_range (n:=u.A1.length)).imp λ{a b} _ q=> ?_);have l:AM u 0<=1:=q.1;omega
 ·intro a g b hb q;obtain⟨d,k,rfl⟩:=CP.1 hb;have l:=q.1;rw[q.2.2]at l;have l:AM u 0<=1:=l;omega
theorem Ug{u:AY}(h:BW u){R:List Int}{v:Nat}: ∀{xs:List Ae} {fs:List Int},(∀a∈xs,a∈B2 u R)->xs.Pairwise (λa b=> ¬(AM u 0<=a.t/\a.f=b.f/\a.t=b.t))->(D4 u v xs fs).Nodup
 |[],_,_,_=>by simp[D4]
 |_::_,[],_,_=>by simp[D4]
 | a::xs,B::fs,j,m=>by
   have n:=Ug h (v:=v) (xs:=xs) (fs:=fs) (λb hb=>j b (by simp[hb])) (Su.1 m).2;simp only[D4];split
   ·next c=>refine K5.2 ⟨λo=> ?_,n⟩;obtain⟨i,b,D,p,E,q,F,r,G⟩:=T2 o;have hb:=B9 p;obtain⟨w,d,H,s,_,k⟩:=Q5 h (j a (by simp)) c.1;obtain⟨x,l,I,y,_,e⟩:=Q5 h (j b (by simp[hb])) q;have z:w=v:=(by rw[<-c.2.2,k,Pj h s]);have A:x=v:=(by rw[<-r,e,Pj h y]);have g:a.t=b.t:=(by omega);have C:d=l:=(by rw[k,e]at g;have g:AM u d=AM u l:=g;rw[FN d,FN l]at g;omega);subst C;rw[A,<-z,<-k]at e;subst e;exact(Su.1 m).1 _ hb ⟨c.1,rfl,rfl⟩
   ·simpa using n
theorem bg{u:AY}{v:Nat}{p:Int->Bool}: ∀{xs:List Ae} {fs:List Int},(((D4 u v xs fs).countP p:Nat):Int)=CY (λa B=>if AM u 0<=a.t/\B≠0/\KH u a=v/\p (a.t-AM u 0)=true then 1 else 0) xs fs
 |[],_=>by simp[D4,CY]
 |_::_,[]=>by simp[D4,CY]
 | a::xs,B::fs=>by
   simp only[D4,CY,List.countP_append,ME,bg (xs:=xs) (fs:=fs)];congr 1;by_cases c:AM u 0<=a.t/\B≠0/\KH u a=v
   ·rw[if_pos c];by_cases b:p (a.t-AM u 0)=true
    ·rw[if_pos ⟨c.1,c.2.1,c.2.2,b⟩];simp[b]
    ·rw[if_neg λq=>b q.2.2.2];simp[b]
   ·rw[if_neg c,if_neg λq=>c ⟨q.1,q.2.1,q.2.2.1⟩];rfl
def ID(u:AY)(v i:Nat)(x:Int):Bool:=(List.range u.A5.length).any λj=>EB u i j&&decide (x=Ax u v j)
theorem ie:ID u v i x=true↔ ∃j,j<u.A5.length/\EB u i j=true/\x=Ax u v j:=by unfold ID;simp[List.any_eq_true]
theorem eG{u:AY}(h:BW u){v w i j:Nat}(f:v<u.A7.length)(g:w<u.A7.length)(d:j<u.A5.length):ID u v i (Ax u w j)=(decide (w=v)&&EB u i j):=by
 cases a:ID u v i (Ax u w j)with
 | true=>obtain⟨k,l,b,e⟩:=ie.1 a;obtain⟨m,n⟩:=Ke h g f d l e;subst n;rw[decide_eq_true m,b];rfl
 | false=>
   symm;rw[Bool.and_eq_false_iff];by_cases c:w=v
   ·right;subst c;cases b:EB u i j with
    |false=>rfl
    |true=>rw[ie.2 ⟨j,d,b,rfl⟩]at a;cases a
   ·exact .inl (J5 c)
theorem SN{u:AY}(h:BW u){v i:Nat}(a:v<u.A7.length){x:Int}(d:x<2\/AM u 0<=x):ID u v i x=false:=by
 cases b:ID u v i x with
 |false=>rfl
 | true=>obtain⟨j,c,_,e⟩:=ie.1 b;have:=E3 h a c;omega
theorem aDi(h:BW u)(b:v<u.A7.length)(p:i<u.A5.length)(A:0<i)(C:a∈B2 u R)(I:0<=B)(D:B<=a.c):
 ((if ID u v i a.f=true then B else 0)-(if ID u v i a.t=true then B else 0))=(if AM u 0<=a.t/\B≠0/\KH u a=v/\EB u i (CJ u (a.t-AM u 0).toNat)=true then 1 else 0)-(if decide (a.t=Ax u v i)=true then B else 0):=by
 have r:=h.Di;have J:=Is h;have K:=E3 h b p;rcases Oj.1 C with⟨w,e,s⟩|⟨d,x,rfl⟩
 ·rcases Ls.1 s with rfl|⟨j,L,rfl⟩|⟨d,x,_,rfl⟩
  ·have M:=E3 h e (i:=0) r;have y:Ax u w 0=2+(w:Int):=(by simp[Ax]);have l:ID u v i 0=false:=SN h b (.inl (by omega));have m:ID u v i (2+w)=false:=(by rw[<-y,eG h b e r,mB h p A];simp);have n: ¬AM u 0<=2+(w:Int):=(by omega);have g: ¬2+(w:Int)=Ax u v i:= λq=>by
    rw[<-y]at q;have:=(Ke h e b r p q).2;omega
   simp only[Ft,l,m,n,g,false_and,if_false,EI,decide_false]
  ·have k:j+1<u.A5.length:=(by omega);have N:=(h.Gu k (h.HV k (by omega))).1;have E:D3 u (j+1)<u.A5.length:=(by omega);have O:=E3 h e k;have l:=eG h (i:=i) b e E;have m:=eG h (i:=i) b e k;have n: ¬AM u 0<=Ax u w (j+1):=(by omega);simp only[Jd,l,m,n,false_and,if_false];by_cases c:w=v
   ·subst c;by_cases o:j+1=i
    ·subst o;rw[n6 h k (by omega),UK];simp
    ·have g: ¬Ax u w (j+1)=Ax u w i:= λq=>o (Ke h e e k p q).2;rw[UA h k (by omega) o];simp only[g,decide_false];simp
   ·have g: ¬Ax u w (j+1)=Ax u v i:= λq=>c (Ke h e b k p q).1;simp[c,g]
  ·have s:=(Gv h x).1;have l:=eG h (i:=i) b e s;have F:=FN (u:=u) d;have m:ID u v i (AM u d)=false:=SN h b (.inr (by omega));have n:AM u 0<=AM u d:=(by omega);have g: ¬AM u d=Ax u v i:=(by omega);have G:=Pj h (v:=w) x;have H:(AM u d-AM u 0).toNat=d:=(by omega);rw[G];have P:B<=1:=D;simp only[E8,l,m,n,g,H,true_and,decide_false,EI,if_false];by_cases c:w=v
   ·simp only[c,decide_true,Bool.true_and,true_and];by_cases o:EB u i (CJ u d)=true
    ·simp only[o,if_true,and_true];by_cases z:B=0
     ·simp[z]
     ·simp[z];omega
    ·simp[o]
   ·simp[c]
 ·have F:=FN (u:=u) d;have l:ID u v i (AM u d)=false:=SN h b (.inr (by omega));have m:ID u v i 1=false:=SN h b (.inl (by omega));have n: ¬AM u 0<=1:=(by omega);have g: ¬(1:Int)=Ax u v i:=(by omega);simp[Hi,l,m,n,g]
theorem T9{g:Ae->Int}{f:Nat->Ae}: ∀n:Nat,F6 g ((List.range n).map f)=Bu (λj=>g (f j)) n
 |0=>rfl
 | n+1=>by rw[MO,Ld,Ms,T9 n];simp[Bu,F6]
theorem Np{k:Nat}(a:k<n)(h: ∀j,j<n->f j=if j=k then c else 0):Bu f n=c:=by rw[JF h,X6 a]
theorem Gb(h: ∀j,j<n->f j=0):Bu f n=0:=by rw[JF (g:= λ_=>0) h,bN]
theorem a2Z(h:BW u)(e:v<u.A7.length)(f:i<u.A5.length)(z:0<i):F6 (λa=>if decide (a.t=Ax u v i)=true then a.c else 0) (B2 u R)=HQ u v i:=by
 have o:=h.Di;have A:=Is h;have B:=E3 h e f;unfold B2;rw[Ms,Wq,T9,Gb (n:=u.A1.length) λd p=> ?_,Np e (c:=HQ u v i) λw g=> ?_]
 ·omega
 ·unfold Gk;simp only[F6,Ms];have r:Ax u w 0=2+(w:Int):=(by simp[Ax]);have b: ¬2+(w:Int)=Ax u v i:= λq=>by
   rw[<-r]at q;have:=(Ke h g e o f q).2;omega
  have s:F6 (λa=>if decide (a.t=Ax u v i)=true then a.c else 0) (((List.range u.A1.length).filter (Es u w)).map (E8 u w))=0:=Vh λa x=>by obtain⟨d,p,rfl⟩:=CP.1 x;have C:=FN (u:=u) d;have b: ¬AM u d=Ax u v i:=(by omega);simp[E8,b]
  rw[s,T9];by_cases c:w=v
  ·subst c;rw[Np (k:=i-1) (c:=HQ u w i) (by omega) λj y=> ?_]
   ·simp[Ft,b]
   ·by_cases m:j=i-1
    ·have:j+1=i:=(by omega);simp[Jd,m,show i-1+1=i by omega]
    ·have l: ¬Ax u w (j+1)=Ax u w i:= λq=>by
      have:=(Ke h g g (by omega) f q).2;omega
     simp[Jd,m,l]
  ·rw[Gb λj y=> ?_]
   ·simp[Ft,b,c]
   ·have l: ¬Ax u w (j+1)=Ax u v i:= λq=>c (Ke h g e (by omega) f q).1;simp[Jd,l]
 ·have b: ¬(1:Int)=Ax u v i:=(by omega);simp[Hi,b]
theorem a6Q(h:BW u)(e:Dr (Dd u R) ab)(c:v<u.A7.length)(k:i<u.A5.length)(l:0<i):
 (((D4 u v (B2 u R) ab).countP λx=>EB u i (CJ u x.toNat):Nat):Int)<=HQ u v i:=by
 have m:=S7 h R;have n:=Is h;have d:=qg m e (s:=ID u v i) (SN h c (.inl (by show(0:Int)<2;omega))) (SN h c (.inl (by show(1:Int)<2;omega)));rw[jg]at d;have d:CY (λa B=>(if ID u v i a.f=true then B else 0)-(if ID u v i a.t=true then B else 0)) (B2 u R) ab=0:=d;rw[R5 (h:= λa B=>(if AM u 0<=a.t/\B≠0/\KH u a=v/\EB u i (CJ u (a.t-AM u 0).toNat)=true then 1 else 0)-(if decide (a.t=Ax u v i)=true then B else 0)) λj a B b g=>by have:=e.ES.2 j a B b g;exact aDi h c k l (B9 b) this.1 this.2,Xf]at d;have:=Zm (p:= λa=>decide (a.t=Ax u v i)) (xs:=B2 u R) (fs:=ab) (λa b=>(m.Il a b).2.2.1) λi a B b g=>(e.ES.2 i a B b g).2;rw[a2Z h c k l]at this;rw[bg];omega
theorem a66(h:BW u)(l:d<u.A1.length):F6 (λa=>if decide (a.f=AM u d)=true then a.c else 0) (B2 u R)=CD u R d:=by
 have o:=h.Di;have p:=Is h;have r:=FN (u:=u) d;unfold B2;rw[Ms,Wq,T9,Gb (n:=u.A7.length) λw b=>Vh λa m=> ?_,Np l (c:=CD u R d) λe g=> ?_]
 ·omega
 ·have s:=FN (u:=u) e;by_cases c:e=d
  ·subst c;simp[Hi]
  ·have: ¬AM u e=AM u d:=(by omega);simp[Hi,c,this]
 ·have: ¬a.f=AM u d:= λq=>by
   rcases Ls.1 m with rfl|⟨j,t,rfl⟩|⟨e,g,_,rfl⟩
   ·have q:(0:Int)=AM u d:=q;omega
   ·have k:j+1<u.A5.length:=(by omega);have v:=(h.Gu k (h.HV k (by omega))).1;have:=(E3 h b (i:=D3 u (j+1)) (by omega)).2;have q:Ax u w (D3 u (j+1))=AM u d:=q;omega
   ·have:=(E3 h b (Gv h g).1).2;have q:Ax u w (CJ u e)=AM u d:=q;omega
  simp[this]
theorem wS: ∀{L:List (List Int)},((L.flatten.count x:Nat):Int)=Bu (λv=>(((L.getD v []).count x:Nat):Int)) L.length:= λ{L}=>by
 have key: ∀n,n<=L.length->(((L.take n).flatten.count x:Nat):Int)=Bu (λv=>(((L.getD v []).count x:Nat):Int)) n:=by
  intro n;induction n with
  |zero=>intro _;simp[Bu]
  | succ n b=>intro c;have a:L[n]?=some L[n]:=AS (by omega);rw[K4,a];simp only[Option.toList_some,List.flatten_append,Qw,ME,b (by omega),Bu];congr 1;simp[a]
 have:=key L.length (Ao _)
 rwa [EP]at this
theorem aFu(h:BW u)(j:Dr (Dd u R) ab)(o:d<u.A1.length):
 Bu (λv=>(((D4 u v (B2 u R) ab).count (d:Int):Nat):Int)) u.A7.length<=CD u R d:=by
 have r:=S7 h R;have E:=Is h;have F:=FN (u:=u) d;have G:=FN (u:=u) u.A1.length;have s:(Dd u R).Cy (AM u d):=⟨by omega,by show AM u d<AM u u.A1.length;omega⟩;have g:=j.SD (AM u d) s (by show¬AM u d=0;omega) (by show¬AM u d=1;omega);have g:DG (B2 u R) ab (AM u d)=0:=g;rw[Ub]at g;have g:CY (λa B=>Bj a.f (AM u d) B) (B2 u R) ab-CY (λa B=>Bj a.t (AM u d) B) (B2 u R) ab=0:=by rw[<-Xf];exact g
 have n:=Zm (p:= λa=>decide (a.f=AM u d)) (xs:=B2 u R) (fs:=ab) (λa b=>(r.Il a b).2.2.1) λi a B b k=>(j.ES.2 i a B b k).2;rw[a66 h o]at n;have x:CY (λa B=>Bj a.f (AM u d) B) (B2 u R) ab=CY (λa B=>if decide (a.f=AM u d)=true then B else 0) (B2 u R) ab:=R5 λi a B _ _=>by simp[Bj]
 have H:Bu (λv=>(((D4 u v (B2 u R) ab).count (d:Int):Nat):Int)) u.A7.length=CY (λa B=>Bj a.t (AM u d) B) (B2 u R) ab:=by
  have y: ∀v,(((D4 u v (B2 u R) ab).count (d:Int):Nat):Int)=CY (λa B=>if AM u 0<=a.t/\B≠0/\KH u a=v/\(a.t-AM u 0==(d:Int))=true then 1 else 0) (B2 u R) ab:= λv=>bg;simp only[y];rw[di];refine R5 λi a B b k=> ?_;have hb:=j.ES.2 i a B b k;by_cases c:AM u 0<=a.t
  ·obtain⟨w,e,z,A,_,rfl⟩:=Q5 h (B9 b) c;have I:=FN (u:=u) e;have C:AM u 0<=AM u e:=c;have J:B<=1:=hb.2;by_cases D:e=d
   ·subst D;have q:(AM u e-AM u 0==(e:Int))=true:=(by simp;omega);have:Bj (E8 u w e).t (AM u e) B=B:=(by simp[Bj,E8]);rw[this];by_cases l:B=0
    ·rw[Gb λv _=>by simp[l],l]
    ·rw[Np z (c:=1) λv K=> ?_]
     ·omega
     ·rw[Pj h A];show(if AM u 0<=AM u e/\B≠0/\w=v/\(AM u e-AM u 0==(e:Int))=true then(1:Int)else 0)=_;simp only[C,l,q,true_and,and_true,ne_eq,not_false_eq_true];by_cases m:v=w
      ·simp[m]
      ·rw[if_neg λq=>m q.symm,if_neg m]
   ·have:Bj (E8 u w e).t (AM u d) B=0:=if_neg (by show¬AM u e=AM u d;omega);rw[this,Gb λv _=>if_neg λq=> ?_];have:=q.2.2.2;simp only[E8,beq_iff_eq]at this;omega
  ·have:Bj a.t (AM u d) B=0:=if_neg (by omega);rw[this,Gb λv _=>if_neg λq=>c q.1]
 have L:CY (λa B=>Bj a.f (AM u d) B) (B2 u R) ab<=CD u R d:=by rw[x];exact n
 omega
theorem aB4(h:BW u)(e:Dr (Dd u R) ab)(p:HE u<=value (Dd u R) ab)(l:L.length=u.A7.length)
 (c: ∀(v:Nat) r,L[v]?=some r->r.Perm (D4 u v (B2 u R) ab)):IK u R L:=by
 have q:=X2 (f:=PE u R ab) (g:=CS u) (n:=u.A7.length) (λv m=>eS h e m) (by rw[<-Rr,<-ck h];exact p);have k: ∀{v:Nat} {r:List Int},L[v]?=some r->v<u.A7.length:= λ{v r} b=>by have:=(AX.1 b).1;omega
 refine⟨l,λv r b=> ?_,λv r b=> ?_,λv r b x s=> ?_,λv r b i t y=> ?_,λd j=> ?_⟩
 ·rw[(c v r b).length_eq,Xd h e (k b),q v (k b)]
 ·exact(c v r b).nodup_iff.2 (Ug h (λa z=>z) (ZR h))
 ·obtain⟨i,a,B,A,F,C,G,o,D⟩:=T2 ((c v r b).mem_iff.1 s);obtain⟨w,d,H,j,E,rfl⟩:=Q5 h (B9 A) C;rw[Pj h j]at o;subst o;refine⟨d,?_,j,E⟩;rw[D];show AM u d-AM u 0=d;unfold AM;omega
 ·rw[(c v r b).countP_eq];exact a6Q h e (k b) y t
 ·rw[wS,l];refine Int.le_trans (Int.le_of_eq (JF λv m=> ?_)) (aFu h e j);obtain⟨r,b⟩: ∃r,L[v]?=some r:=⟨_,AS (by omega)⟩;rw[Dv,b,L2,(c v r b).count_eq]
theorem xB(h:BW u): ∀{xs:List Ae} {fs:List Int} {S:List (List Int)},(∀a∈xs,a∈B2 u R)->(∀B∈fs,0<=B)->((xs.map (Jt u L)).zip fs).foldl (Ly u) S=Ir u xs fs S
 |[],_,_,_,_=>by simp[Ir]
 |_::_,[],_,_,_=>by simp[Ir]
 | a::xs,B::fs,S,g,j=>by
   have x:=j B (by simp);obtain⟨k,l,_,_⟩:=Sl (u:=u) (L:=L) (a:=a);simp only[E1,List.zip_cons_cons,IJ,Ir];rw[xB h (λb hb=>g b (by simp[hb])) λm n=>j m (by simp[n])];congr 1;simp only[Ly,k,l];rcases(Xc h (g a (by simp))).2 with⟨v,d,y,o,_,rfl,e,p,_⟩|e
   ·have z:=FN (u:=u) d;have r:=(vg h (v:=v) o).1;have s:(E8 u v d).t-AM u 0=d:=(by show AM u d-AM u 0=d;omega);have w:((E8 u v d).f-2-u.A7.length).tdiv ((u.A5.length:Int)-1)=v:=r;have i:AM u 0<=(E8 u v d).t:=(by show AM u 0<=AM u d;omega);rw[e,p,s,w];by_cases c:B=0
    ·rw[if_neg λq=>by omega,if_neg λq=>q.2 c]
    ·rw[if_pos ⟨by omega,by omega⟩,if_pos ⟨i,c⟩]
   ·have i: ¬AM u 0<=a.t:= λq=>by
     obtain⟨v,d,_,_,_,rfl⟩:=Q5 h (g a (by simp)) q;have:HJ u.A7.length u.A5.length (AM u d)= -1:=e;rw[bF]at this;omega
    rw[e,if_neg λq=>by omega,if_neg λq=>i q.1]
def G8(S L:List (List Int)):List (List Int):=List.zipWith (λs r=>HF s r) S L
theorem iq{u:AY}(h:BW u){R ab:List Int}{L:List (List Int)}(k:EN u L=true)(j:Dr (Dd u R) ab)(p:HE u<=value (Dd u R) ab):IK u R (G8 (Ei u (Bn u R L) ab (Bn u R L).length) L)/\
 ∀v,v<u.A7.length->(Ei u (Bn u R L) ab (Bn u R L).length)[v]?=some (D4 u v (B2 u R) ab):=by
 have x:L.length=u.A7.length:=by
  by_cases q:L.length=u.A7.length
  ·exact q
  ·rw[Rs q]at k;cases k
 have m:Ei u (Bn u R L) ab (Bn u R L).length=Ir u (B2 u R) ab (List.replicate u.A7.length []):=by unfold Ei;rw[DV (by rw[List.length_zip];omega)];refine xB h (λa o=>o) λB y=> ?_;obtain⟨i,z,e⟩:=EC y;have A:i<(B2 u R).length:=(by have:=j.ES.1;simp only[Dd]at this;omega);exact(j.ES.2 i _ B (AS A) (by rw[AS z,e])).1
 have t: ∀v,v<u.A7.length->(Ir u (B2 u R) ab (List.replicate u.A7.length []))[v]?=some (D4 u v (B2 u R) ab):= λv b=>by rw[YR (r:=[]) (by simp[b])];simp
 refine⟨aB4 h j p ?_ λv r c=> ?_,λv b=>by rw[m,t v b]⟩
 ·rw[G8,List.length_zipWith,m,pH];simp[x]
 ·rw[G8,List.getElem?_zipWith,m]at c;have b:v<u.A7.length:=by
   by_cases q:v<u.A7.length
   ·exact q
   ·rw[LF (l:=L) (by omega)]at c;simp at c
  rw[t v b]at c;obtain⟨s,w⟩: ∃s,L[v]?=some s:=⟨_,AS (by omega)⟩;rw[w]at c;simp only[GY]at c;subst c;have C:=X2 (f:=PE u R ab) (g:=CS u) (n:=u.A7.length) (λv b=>eS h j b) (by rw[<-Rr,<-ck h];exact p);refine a3F (λd D=> ?_) (Ug h (λa o=>o) (ZR h)) ?_
  ·obtain⟨i,a,B,E,F,G,H,I,J⟩:=T2 D;omega
  ·have hb:HR u v s=true:=by
    cases q:HR u v s with
    |true=>rfl
    |false=>rw[SZ w q]at k;cases k
   simp only[HR,AB,Ba]at hb;have:=Xd h j b;rw[C v b]at this;omega
def Gf(u:AY)(r:List Int)(i:Nat):Nat:=r.countP λx=>decide (0<=x)&&EB u i (CJ u x.toNat)
theorem aCv(h:Av u)(S:r.length<=1000)(hb: ∀x∈r,x<u.A1.length)(K:i<u.A5.length):AL U 212 [.agg (A4 u).toArray,AH r,Y i] (Y (Gf u r i)):=by
 obtain⟨e,q⟩:=CF K;have G:=(AX.1 q).2;have H:Cb u i=e.EH:=by unfold Cb;rw[q]
 have L:0<=e.EH:=by
  by_cases c:i=0
  ·subst c;have:=(h.ok.Lv.2 e q).2;omega
  ·have:=h.ok.Fq i e (by omega) q;omega
 have I:(i:Int)<u.A5.length:=by omega
 refine BG (Ak (an:=⟨[av u h.ok],[]⟩) aCB (by kernel_rfl) (by simp[l1]) ?_);simp[l1,yf,A4];refine CE (an:=⟨[av u h.ok],[]⟩) (λj A t=>t.W 0=some ⟨A4 u,true⟩/\A 1=AH r/\A 2=Y i/\A 3=AA 0/\A 7=Y (Gf u (r.take j) i)/\A 8=Y j) r.length ?_ ?_ 0 _ _ (C0 _) ⟨by simp[A4],by simp,by simp,by simp,by simp[Gf],by simp⟩
 ·rintro j A t N ⟨f,b,g,k,m,o⟩ T s;obtain⟨x,v⟩:=CF N;have w:=(AX.1 v).2;have V:=hb x (B9 v);have y:(j:Int)<r.length:=(by omega);have X:=F f;have z:=BX (n:=j) (by omega);have Z:Gf u (r.take j) i<=1000:=by
   have:=List.countP_le_length (p:= λx=>decide (0<=x)&&EB u i (CJ u x.toNat)) (l:=r.take j);have:=List.length_take_le j r;unfold Gf;omega
  have O:IntKind.i64.wrap ((Gf u (r.take j) i:Int)+1)=(Gf u (r.take j) i:Int)+1:=Ah (by omega) (by omega);have a:Gf u (r.take (j+1)) i=Gf u (r.take j) i+if(decide (0<=x)&&EB u i (CJ u x.toNat))=true then 1 else 0:=by unfold Gf;rw[K4,v,List.countP_append];simp[PG]
  by_cases B:0<=x
  ·obtain⟨d,P⟩:=DP B;have Q:d<u.A1.length:=(by omega);have A0:d<u.A1.length/\0<=e.EH:=⟨Q,L⟩;have J:x.toNat=d:=(by omega);have C:(0:Int)<=(d:Int):=(by omega);subst P;by_cases D:F3 u e.EH 5 (CJ u d)=i
   ·have E:EB u i (CJ u d)=true:=(by unfold EB;rw[H];exact decide_eq_true D);rw[J,E]at a;simp[C]at a;simp(disch:=omega)[Ur,RM,A4,Bd,b,g,k,m,o,f,y,I,z,O,w,G,C,D];exact s _ _ ⟨f,by simp[b],by simp[g],by simp[k],by simp[a],by simp⟩
   ·have E:EB u i (CJ u d)=false:=(by unfold EB;rw[H];exact J5 D);rw[J,E]at a;simp at a;have R: ¬((F3 u e.EH 5 (CJ u d):Nat):Int)=i:=(by omega);simp(disch:=omega)[Ur,RM,A4,Bd,b,g,k,o,f,y,I,z,w,G,C,R];exact s _ _ ⟨f,by simp[b],by simp[g],by simp[k],by simp[m,a],by simp⟩
  ·rw[J5 B]at a;simp at a;simp(disch:=omega)[Ur,RM,b,o,y,z,w,B];exact s _ _ ⟨f,by simp[b],by simp[g],by simp[k],by simp[m,a],by simp⟩
 ·rintro A t ⟨f,b,g,k,m,o⟩;rw[EP]at m;simp[Ur,RM,RM,b,m,o]
noncomputable def g7(u:AY)(h:Av u):AK U:= .B8 212 (List Int×Nat) (λx=>(x.1.length<=1000/\ ∀y∈x.1,y<u.A1.length)/\x.2<u.A5.length) (λx=>[.agg (A4 u).toArray,AH x.1,Y x.2]) (λx=>Y (Gf u x.1 x.2)) λx a=>aCv h a.1.1 a.1.2 a.2
@[simp] theorem aPW{h:Av u}:(g7 u h).f=212:=rfl
@[simp] theorem aKZ{h:Av u}(b:(r.length<=1000/\ ∀y∈r,y<u.A1.length)/\i<u.A5.length):(g7 u h).fn [.agg #[Y u.ext,M (u.Bz.map Cc) 4,M (u.Aa.map Ce) 4,M (u.A5.map Bd) 7,M (u.A1.map CB) 3,M (u.Ay.map B3) 17,M (u.A7.map Cd) 2],M (r.map λx=>[Y x]) 1,Y i]=some (Y (Gf u r i)):=AK.BD (x:=(r,i)) b λ⟨c,d⟩ a=>by simp at a⊢;exact⟨a.1,by omega⟩
structure FL(u:AY)(aF:List (Nat×Bw))(A:A6)(t:V)(v:Nat)(r:List Int)(cq:List (List Value))(o:Nat):Prop where
 Cr:t.W 0=some ⟨A4 u,true⟩
 Kx:t.W o=some ⟨cq.flatten,true⟩
 Vz:o≠0
 fc: ∀b x,(b,x)∈aF->t.W b=some x/\b≠o
 ET:A 1=Y v
 GG:A 2=AH r
 Jp:A 3=AA 0
 GJ:A 8=AQ o cq.length 3
 Mc: ∀q∈cq,q.length=3/\ ∀x∈q,Co x=true
theorem FL.Q7(h:FL u aF A t v r cq o):cq.flatten.length=cq.length*3:=JQ λq a=>(h.Mc q a).1
theorem FL.Ey(h:FL u aF A t v r cq o)(a:N 1=A 1)(b:N 2=A 2)(c:N 3=A 3)(d:N 8=A 8):FL u aF N t v r cq o:=
 ⟨h.Cr,h.Kx,h.Vz,h.fc,a.trans h.ET,b.trans h.GG,c.trans h.Jp,d.trans h.GJ,h.Mc⟩
theorem FL.add{a b:Nat}{y z:Int}(h:FL u aF A t v r cq o)(w:a<n/\b<n/\a≠b)(i:N 1=A 1)(j:N 2=A 2)(k:N 3=A 3)(l:N 8=AQ (t.next+b) (cq.length+1) 3):
 FL u aF N ((((t.AE n).A0 (t.next+a) aR).A0 o none).A0 (t.next+b) (some ⟨cq.flatten++[Y x,Y y,Y z],true⟩)) v r (cq++[[Y x,Y y,Y z]]) (t.next+b):=by
 have m:=F h.Cr;have B:=F h.Kx;have Vz:=h.Vz;have key: ∀c,c<t.next->c≠o->((((t.AE n).A0 (t.next+a) aR).A0 o none).A0 (t.next+b) (some ⟨cq.flatten++[Y x,Y y,Y z],true⟩)).W c=t.W c:= λc e p=>by rw[A3 (by omega),A3 p,A3 (by omega),AU e]
 refine⟨(key 0 m (Ne.symm Vz)).trans h.Cr,?_,by omega,λc x e=> ?_,i.trans h.ET,j.trans h.GG,k.trans h.Jp,by rw[Ds];exact l,λq d=> ?_⟩
 ·rw[AT (by simp;omega)];simp
 ·obtain⟨f,s⟩:=h.fc c x e;have:=F f;exact⟨(key c this s).trans f,by omega⟩
 ·rcases Cg.1 d with d|d
  ·exact h.Mc q d
  ·obtain rfl:=Gw.1 d;exact⟨rfl,λv g=>by simp at g;rcases g with rfl|rfl|rfl<;>rfl⟩
theorem Uz{P:D->Prop}{r:List D}{x:D}(b:r[i]?=some x):(∀y∈r.take (i+1),P y)↔(∀y∈r.take i,P y)/\P x:=by rw[K4,b];simp only[Option.toList_some,Cg,Gw];exact⟨λh=>⟨λy a=>h y (.inl a),h x (.inr rfl)⟩,λh y a=>a.elim (h.1 y) λe=>e▸h.2⟩
theorem OM:(∀y,y<i+1->P y)↔(∀y,y<i->P y)/\P i:=
 ⟨λh=>⟨λy a=>h y (by omega),h i (by omega)⟩,λh y a=>(Nat.lt_or_ge y i).elim (h.1 y) λe=>(show y=i by omega)▸h.2⟩
theorem XV{l:List D}{x:D}(a: ¬aJ):(l++[x]=[])↔iM/\bG/\aJ:=⟨λh=>by simp at h,λh=>(a h.2.2).elim⟩
theorem Qx{l:List D}(a:aJ)(h:l=[]↔iM/\bG):l=[]↔iM/\bG/\aJ:=by rw[h];exact⟨λh=>⟨h.1,h.2,a⟩,λh=>⟨h.1,h.2.1⟩⟩
theorem a1u(N:r.length<=1000)(w:FL u [] C t0 v r kU nK)(y:kU=[]↔iM)(O:kU.length<=1000)(e:C 9=Y 0)
 (z: ∀A t cq o,FL u [] A t v r cq o->(cq=[]↔iM/\ ∀x∈r,x≠ -1)->cq.length<=kU.length+r.length->Q (.Ai 0) A t):BY U (.loop Tt) C t0 Q:=by
 refine CE (an:=⟨[],[]⟩) (λi A t=> ∃cq o,FL u [] A t v r cq o/\(cq=[]↔iM/\ ∀x∈r.take i,x≠ -1)/\cq.length<=kU.length+i/\A 9=Y i) r.length ?_ ?_ 0 _ _ (C0 _) ⟨kU,nK,w,by simpa using y,by omega,e⟩
 ·rintro i A t B ⟨cq,o,d,f,k,e⟩ R l;obtain⟨x,j⟩:=CF B;have m:=(AX.1 j).2;have p:(i:Int)<r.length:=(by omega);have q:=BX (n:=i) (by omega);have D:=d.ET;have g:=d.GG;have S:=d.Jp;have J:=d.GJ;have s:=d.Kx;have T:=F s;have K:=d.Q7;have L:List.take (cq.length*3) cq.flatten=cq.flatten:=DV (by omega);have M:((cq.length+1)*24<=140737488355328/\cq.length<=9223372036854775806)/\cq.length*3<=cq.flatten.length:=(by omega);by_cases c:x= -1
  ·simp(disch:=first|omega|simp only[DI.A2];omega)[Tt,D,g,J,e,p,q,m,c,s,K,L,M,-List.flatten_append,-List.length_flatten,-H,-E,-I,-G,-List.map_map];refine l _ _ ⟨cq++[[Y 2,Y v,Y i]],_,d.add (a:=4) (b:=5) (n:=7) (by omega) (by simp) (by simp) (by simp) (by simp),?_,by simp;omega,by simp⟩;rw[Uz j];exact XV λh=>h c
  ·simp(disch:=first|omega|simp only[DI.A2];omega)[Tt,g,e,p,q,m,c,-H,-E,-I,-G,-List.map_map];refine l _ _ ⟨cq,o,d.Ey (by simp) (by simp) (by simp) (by simp),?_,by omega,by simp⟩;rw[Uz j];exact Qx c f
 ·rintro A t ⟨cq,o,d,f,k,e⟩;have g:=d.GG;rw[EP]at f;simp(disch:=first|omega|simp only[DI.A2];omega)[Tt,g,e,-H,-E,-I,-G,-List.map_map];exact z _ _ cq o (d.Ey (by simp) (by simp) (by simp) (by simp)) f k
theorem aBS(D:r.length<=1000)(w:FL u aF C t0 v r cq o)(b:C 10=Y d)(e:C 11=Y 0)(f:C 12=Y 0)
 (y: ∀A,FL u aF A t0 v r cq o->A 10=Y d->A 11=Y (r.count (d:Int))->Q (.Ai 4) A t0):BY U (.loop WU) C t0 Q:=by
 refine CE (an:=⟨[],[]⟩) (λi A t=>t=t0/\FL u aF A t0 v r cq o/\A 10=Y d/\A 11=Y ((r.take i).count (d:Int))/\A 12=Y i) r.length ?_ ?_ 0 _ _ (C0 _) ⟨rfl,w,b,by simpa using e,f⟩
 ·rintro i A t z ⟨rfl,g,b,e,f⟩ J k;obtain⟨x,m⟩:=CF z;have p:=(AX.1 m).2;have q:(i:Int)<r.length:=(by omega);have s:=BX (n:=i) (by omega);have K:(r.take i).count (d:Int)<=1000:=by
   have:=WX (a:=(d:Int)) (l:=r.take i);have:=List.length_take_le i r;omega
  have B:IntKind.i64.wrap (((r.take i).count (d:Int):Int)+1)=((r.take i).count (d:Int):Int)+1:=Ah (by omega) (by omega);have h:(r.take (i+1)).count (d:Int)=(r.take i).count (d:Int)+if x=d then 1 else 0:=by rw[K4,m,Qw];simp[List.count_cons]
  have j:=g.GG;by_cases c:x=d
  ·rw[if_pos c]at h;simp(disch:=first|omega|simp only[DI.A2];omega)[WU,j,b,e,f,q,s,B,p,c,-H,-E,-I,-G,-List.map_map];exact k _ _ ⟨rfl,g.Ey (by simp) (by simp) (by simp) (by simp),by simp[b],by simp[h],by simp⟩
  ·rw[if_neg c]at h;simp(disch:=first|omega|simp only[DI.A2];omega)[WU,j,b,f,q,s,p,c,-H,-E,-I,-G,-List.map_map];exact k _ _ ⟨rfl,g.Ey (by simp) (by simp) (by simp) (by simp),by simp[b],by simp[e,h],by simp⟩
 ·rintro A t ⟨rfl,g,b,e,f⟩;rw[EP]at e;have j:=g.GG;simp(disch:=first|omega|simp only[DI.A2];omega)[WU,j,f,-H,-E,-I,-G,-List.map_map];exact y _ (g.Ey (by simp) (by simp) (by simp) (by simp)) (by simp[b]) (by simp[e])
theorem aFs(h:BW u)(y:r.length<=1000)(z:FL u [] C t0 v r kU nK)(B:kU=[]↔iM)(R:kU.length<=2000)(e:C 10=Y 0)
 (D: ∀A t cq o,FL u [] A t v r cq o->(cq=[]↔iM/\ ∀d,d<u.A1.length->r.count (d:Int)<=1)->cq.length<=kU.length+u.A1.length->Q (.Ai 2) A t):BY U (.loop Zb) C t0 Q:=by
 have S:=h.Ek;refine CE (an:=⟨[],[]⟩) (λi A t=> ∃cq o,FL u [] A t v r cq o/\(cq=[]↔iM/\ ∀d,d<i->r.count (d:Int)<=1)/\cq.length<=kU.length+i/\A 10=Y i) u.A1.length ?_ ?_ 0 _ _ (C0 _) ⟨kU,nK,z,by simpa using B,by omega,e⟩
 ·rintro d A t V ⟨cq,o,f,k,p,e⟩ W q;have J:(d:Int)<u.A1.length:=(by omega);have s:=BX (n:=d) (by omega);have l:=f.Jp;have j:=f.Cr;have K:=F j;simp[Zb,l,e,j,A4,J];refine aBS y (f.Ey (by simp) (by simp) (by simp) (by simp)) (d:=d) (by simp[e]) (by simp) (by simp) λX g e w=> ?_;have L:=g.ET;have M:=g.GJ;have x:=g.Kx;have Z:=F x;have N:=g.Q7;have O:List.take (cq.length*3) cq.flatten=cq.flatten:=DV (by omega);have P:((cq.length+1)*24<=140737488355328/\cq.length<=9223372036854775806)/\cq.length*3<=cq.flatten.length:=(by omega);by_cases c:r.count (d:Int)<=1
  ·have m: ¬(1:Int)<(r.count (d:Int):Nat):=(by omega);simp(disch:=first|omega|simp only[DI.A2];omega)[YZ,e,w,s,m];refine q _ _ ⟨cq,o,g.Ey (by simp) (by simp) (by simp) (by simp),?_,by omega,by simp⟩;rw[OM];exact Qx c k
  ·have m:(1:Int)<(r.count (d:Int):Nat):=(by omega);simp(disch:=first|omega|simp only[DI.A2];omega)[YZ,L,M,e,w,s,m,x,N,O,P,-List.flatten_append,-List.length_flatten,-H,-E,-I,-G,-List.map_map];refine q _ _ ⟨cq++[[Y 3,Y v,Y d]],_,g.add (a:=4) (b:=5) (n:=7) (by omega) (by simp) (by simp) (by simp) (by simp),?_,by simp;omega,by simp⟩;rw[OM];exact XV c
 ·rintro A t ⟨cq,o,f,k,p,e⟩;have l:=f.Jp;have j:=f.Cr;have K:=F j;simp[Zb,YZ,l,e,j,A4];exact D _ _ cq o (f.Ey (by simp) (by simp) (by simp) (by simp)) k p
theorem aAK(h:Av u)(N:v<u.A7.length)(O:u.Ay[GI u v]?=some p)(A5:r.length<=1000)(hb: ∀x∈r,x<u.A1.length)(P:FL u [(td,⟨B3 p,true⟩)] C t0 v r kU nK)(R:kU=[]↔iM)(A6:kU.length<=3000)(e:C 13=AA td)(f:C 14=Y 0)
 (S: ∀A t cq o,FL u [(td,⟨B3 p,true⟩)] A t v r cq o->A 13=AA td->(cq=[]↔iM/\ ∀x∈r,0<=x->Es u v x.toNat=true)->cq.length<=kU.length+r.length->Q (.Ai 6) A t):BY U (.loop Tg) C t0 Q:=by
 refine CE (an:=⟨[mb u h v p N O],[]⟩) (λi A t=> ∃cq o,FL u [(td,⟨B3 p,true⟩)] A t v r cq o/\A 13=AA td/\(cq=[]↔iM/\ ∀x∈r.take i,0<=x->Es u v x.toNat=true)/\cq.length<=kU.length+i/\A 14=Y i) r.length ?_ ?_ 0 _ _ (C0 _) ⟨kU,nK,P,e,by simpa using R,by omega,f⟩
 ·rintro i A t T ⟨cq,o,c,e,g,K,f⟩ A9 m;obtain⟨x,j⟩:=CF T;have s:=(AX.1 j).2;have AB:=hb x (B9 j);have w:(i:Int)<r.length:=(by omega);have y:=BX (n:=i) (by omega);have V:=c.ET;have k:=c.GG;have L:=c.Jp;have W:=c.GJ;have z:=c.Cr;have AD:=F z;obtain⟨B,AE⟩:=c.fc td ⟨B3 p,true⟩ (by simp);have AF:=F B;have M:=c.Kx;have AG:=F M;have X:=c.Q7;have Z:List.take (cq.length*3) cq.flatten=cq.flatten:=DV (by omega);have A0:((cq.length+1)*24<=140737488355328/\cq.length<=9223372036854775806)/\cq.length*3<=cq.flatten.length:=(by omega);by_cases D:0<=x
  ·obtain⟨d,A3⟩:=DP D;subst A3;have AH:d<u.A1.length:=(by omega);have J:(0:Int)<=(d:Int):=(by omega);cases l:Es u v d
   ·simp(disch:=first|omega|simp only[DI.A2];omega)[Tg,V,k,L,W,e,f,w,y,s,J,z,B,B3,A4,l,M,X,Z,A0,-List.flatten_append,-List.length_flatten,-H,-E,-I,-G,-List.map_map];refine m _ _ ⟨cq++[[Y 4,Y v,Y i]],_,c.add (a:=4) (b:=5) (n:=7) (by omega) (by simp) (by simp) (by simp) (by simp),by simp[e],?_,by simp;omega,by simp⟩;rw[Uz j];refine XV λq=> ?_;have:=q J;rw[EE,l]at this;cases this
   ·simp(disch:=first|omega|simp only[DI.A2];omega)[Tg,k,L,e,f,w,y,s,J,z,B,B3,A4,l,-H,-E,-I,-G,-List.map_map];refine m _ _ ⟨cq,o,c.Ey (by simp) (by simp) (by simp) (by simp),by simp[e],?_,by omega,by simp⟩;rw[Uz j];exact Qx (λ_=>l) g
  ·simp(disch:=first|omega|simp only[DI.A2];omega)[Tg,k,f,w,y,s,D,-H,-E,-I,-G,-List.map_map];refine m _ _ ⟨cq,o,c.Ey (by simp) (by simp) (by simp) (by simp),by simp[e],?_,by omega,by simp⟩;rw[Uz j];exact Qx (λq=>(D q).elim) g
 ·rintro A t ⟨cq,o,c,e,g,K,f⟩;have k:=c.GG;rw[EP]at g;simp(disch:=first|omega|simp only[DI.A2];omega)[Tg,k,f,-H,-E,-I,-G,-List.map_map];exact S _ _ cq o (c.Ey (by simp) (by simp) (by simp) (by simp)) (by simp[e]) g K
end Go.Proofs.YtmmkkggfmigppaaGreat
namespace Go.DI
open Go
variable {P:Program} {t m:V} {J:C5} {u:Ca}
variable (P:Program)
def Mu(f:Nat)(args:List Value)(a7:Value->Prop):Prop:= ∀(u:Ca) (m:V) (d:List Value),It u m->AJ u EX args d->
 Aq P f d m λe a=>m.next<=a.next/\(∀b,b<m.next->a.W b=m.W b)/\ ∃r c,a7 r/\Cs u c/\It c a/\AW c EX r e
variable {P:Program} {t m:V} {J:C5} {u:Ca}
variable{a7:Value->Prop}{args:List Value}{f:Nat}
open Classical in
theorem Wz(h:Bv P f args D0 λv t=> ∃r,Az 9 t v=some r/\a7 r):Mu P f args a7:= λu m k l n=>by
 refine(h EX u k m (kc l) n).AG λD g p=> ?_;obtain⟨q,i,v,E,⟨r,s,y⟩,c,z,d⟩:=p;refine⟨d.Gt,(λb hb=>d.DW b hb λ⟨o,x,e,_⟩=>by cases e),r,(λb=>match i b with
  |some cs=>some cs
  |none=>if∃o,q o=some b then(g.W b).map (·.cells)else none),y,λb cs hb=> ?_,λb cs hb=> ?_,?_⟩
 ·simp only[d.f b cs hb]
 ·simp only at hb;split at hb
  ·next A=>cases hb;exact(c.AZ b _ A).1
  ·split at hb
   ·cases a:g.W b with
    |none=>rw[a]at hb;cases hb
    |some x=>rw[a]at hb;cases hb;exact⟨x.own,rfl⟩
   ·cases hb
 ·refine S4 c (λb cs hb=>by simp only[hb]) 9 z s λo F G b cs w B a=> ?_;cases C:i b with
  |some ds=>obtain⟨⟨H,j⟩,_⟩:=c.AZ b ds C;rw[a]at j;cases j;rfl
  |none=>rw[if_pos ⟨o,B⟩,a];rfl
theorem Mu.lp{ts i:List Value}(h:Mu P f ts a7)(l:It u m)(z:AJ u EX ts i):Aq P f i m λn e=>m.next<=e.next/\(∀b,b<m.next->e.W b=m.W b/\(u b=none->e.mp b=m.mp b))/\
 ∃r c,a7 r/\Cs u c/\It c e/\(∀b cs,c b=some cs->u b=some cs\/m.next<=b)/\AW c EX r n:=by
 obtain⟨p,j⟩: ∃p:V,p=⟨m.next,λb=>if(u b).isSome then m.C1 b else none,m.mp⟩:=⟨_,rfl⟩;have k:p.next=m.next:=by rw[j]
 have A:p.mp=m.mp:=by rw[j]
 have o: ∀b,p.W b=if(u b).isSome then m.W b else none:= λb=>by
  rw[j];simp only[V.W]
  grind
 have part:QR p m:=⟨k,A,λb x I=>by
  simp_all⟩
 have B:It u p:= λb cs hb=>by
  obtain⟨w,a⟩:=l b cs hb
  simp_all
 refine(Aq.frame part (h u p i B z)).AG λn e C=> ?_;obtain⟨J,⟨K,q,r,c,D,E,s,F⟩,d⟩:=C;refine⟨d.next,λb hb=>⟨?_,λG=>(d.Da b hb (by rw[o,G];rfl)).2.2⟩,r,c,D,E,λb cs hb=> ?_,λb cs hb=> ?_,F⟩
 ·cases g:p.W b with
  |none=>exact(d.Da b hb g).1
  |some x=>rw[part.W b x g];exact d.part.W b x (by rw[q b (by rw[k];exact hb),g])
 ·obtain⟨w,a⟩:=s b cs hb;exact⟨w,d.part.W b _ a⟩
 ·by_cases t:b<m.next
  ·left;obtain⟨w,a⟩:=s b cs hb;cases g:p.W b with
   |none=>rw[(d.Da b t g).2.1]at a;cases a
   | some x=>
     rw[q b (by rw[k];exact t)]at a;rw[o]at a;split at a
     ·next v=>
      cases y:u b with
      |none=>rw[y]at v;cases v
      | some H=>
        obtain⟨L,M⟩:=l b H y
        grind
     ·cases a
  ·exact .inr (by omega)
theorem Mu.O9(h:Mu P f args a7)(C: ∀v∈args,Ru v=true):Bv P f args t λv D=>a7 v/\D=t:= λJ u E m a n=>by
 have F:AJ u EX args E:=⟨n.1,λi x y d G=>(fV (g:= λ_ _=>False) (C x (B9 d))).Gp (λ_ _ h=>h.elim) (n.2 i x y d G)⟩;refine(h.lp (λb cs hb=>(a.AZ b cs hb).1) F).AG λR S H=> ?_;obtain⟨p,q,r,I,K,e,L,M,N⟩:=H;refine⟨J,I,r,t,⟨K,rfl⟩,?_,N.AG (Cs.refl _) (CA.nil _),?_⟩
 ·refine⟨λo x d=> ?_,λo es s=> ?_,a.Er,a.inj,λo b h=>⟨(a.B7 o b h).1,Eo (a.B7 o b h).2 p⟩,λb cs hb=> ?_⟩
  ·rcases a.Eh o x d with⟨b,cs,w,c,j,k,z⟩|c
   ·exact .inl ⟨b,cs,w,c,by rw[(q b (a.B7 o b c).2).1,j],k,z.AG e (CA.refl _)⟩
   ·exact .inr c
  ·obtain⟨b,O,c,j,k⟩:=a.maps o es s;refine⟨b,O,c,?_,k.AG e (CA.refl _)⟩;obtain⟨z,T⟩:=DQ j;have hb:=(a.B7 o b c).2;have U:u b=none:=by
    cases Q:u b with
    |none=>rfl
    |some cs=>have:=(a.AZ b cs Q).2 o _ c (DQ s).1;cases this
   grind [E7]
  ·refine⟨L b cs hb,λo x A d=> ?_⟩;rcases M b cs hb with B|B
   ·exact(a.AZ b cs B).2 o x A d
   ·have:=(a.B7 o b A).2;omega
 ·refine⟨CA.refl _,e,λ_ _ h=> .inl h,λb cs hb=> ?_,Ao _,p,λb hb _=>(q b hb).1,λb hb l=>l,λb hb l=>l⟩
  grind
end Go.DI
