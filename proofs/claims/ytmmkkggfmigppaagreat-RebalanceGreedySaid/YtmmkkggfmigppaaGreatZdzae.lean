/- A part of the proof. -/
import Derived.Shelf.Spec.SlicesInsertGrow
import Derived.Test.YtmmkkggfmigppaaGreatZdzad
set_option linter.all false
set_option maxRecDepth 20000
set_option maxHeartbeats 16000000
namespace Go.Proofs.YtmmkkggfmigppaaGreat
open Go Go.DI Go.Big Go.EL
theorem ed{S:List Int}: ∀(b:List Int) (a:List Int×List Int),(∃o,(b.foldl (EN S) a).1=a.1++o/\o.length=b.length/\ ∀(i:Nat) x y,b[i]?=some x->o[i]?=some y->(y=x/\0<=x)\/y= -1)/\
 ∀d,d∈(b.foldl (EN S) a).2↔d∈a.2\/(d∈b/\0<=d/\d∈S)
 |[],a=>⟨⟨[],by simp⟩,by simp⟩
 | x::b,a=>by
   obtain⟨⟨o,k,m,n⟩,l⟩:=ed b (EN S a x);rw[GO];by_cases c:0<=x/\x∈S/\x∉a.2
   ·have e:EN S a x=(a.1++[x],a.2++[x]):=if_pos c;rw[e]at k l⊢;refine⟨⟨x::o,by rw[k];simp,by simp[m],λi y z f g=> ?_⟩,λd=> ?_⟩
    ·cases i with
     |zero=>simp at f g;subst f;subst g;exact .inl ⟨rfl,c.1⟩
     |succ i=>exact n i y z (by simpa using f) (by simpa using g)
    ·rw[l];simp only[D2,CZ,EK,or_false];constructor
     ·rintro((h|rfl)|h)
      ·exact .inl h
      ·exact .inr ⟨.inl rfl,c.1,c.2.1⟩
      ·exact .inr ⟨.inr h.1,h.2⟩
     ·rintro(h|⟨rfl|h,j⟩)
      ·exact .inl (.inl h)
      ·exact .inl (.inr rfl)
      ·exact .inr ⟨h,j⟩
   ·have e:EN S a x=(a.1++[-1],a.2):=if_neg c;rw[e]at k l⊢;refine⟨⟨-1::o,by rw[k];simp,by simp[m],λi y z f g=> ?_⟩,λd=> ?_⟩
    ·cases i with
     |zero=>simp at f g;subst f;subst g;exact .inr rfl
     |succ i=>exact n i y z (by simpa using f) (by simpa using g)
    ·rw[l];simp only[CZ];constructor
     ·rintro(h|h)
      ·exact .inl h
      ·exact .inr ⟨.inr h.1,h.2⟩
     ·rintro(h|⟨rfl|h,j⟩)
      ·exact .inl h
      ·refine .inl (MR λq=>c ⟨j.1,j.2,q⟩)
      ·exact .inr ⟨h,j⟩
theorem Yw{S:List Int}(k: ∀d∈S,0<=d)(l:S.Nodup): ∀(c:List Int) (a:List Int×List Int),a.2.Nodup->(∀x∈a.2,x∈S)->(a.1++c.filter λx=>decide (0<=x)).Perm a.2->(∀x∈c,x= -1\/0<=x)->a.1.length+c.length<=S.length->
 ∃o,(c.foldl (F2 S) a).1=a.1++o/\o.length=c.length/\ ∀(i:Nat) y z,c[i]?=some y->o[i]?=some z->(0<=y/\z=y)\/(y<0/\z∈S/\z∉a.2)
 |[],a,_,_,_,_,_=>⟨[],by simp⟩
 | x::c,a,t,u,j,v,m=>by
   rw[GO];have w: ∀y∈c,y= -1\/0<=y:= λy b=>v y (by simp[b]);rcases v x (by simp)with rfl|g
   ·have C:a.2.length<S.length:=by
     have n:=j.length_eq;have I:=VY (λx=>decide ((0:Int)<=x)) c;simp only[En,List.filter_cons,DZ]at n m;rw[show decide ((0:Int)<= -1)=false from rfl]at n;simp at n;omega
    obtain⟨d,A,B,D⟩:=jf k (by omega:(-1:Int)<0) (tz l C);rw[show F2 S a (-1)=(a.1++[d],a.2++[d]) by simp only[F2,D]];obtain⟨o,p,r,s⟩:=Yw k l c (a.1++[d],a.2++[d]) (by
     simp only[LD,t,true_and];exact⟨by simp,λx g y b e=>by simp at b;subst b;subst e;exact B g⟩) (λy b=>by
     simp only[D2,IA]at b;rcases b with b|rfl
     ·exact u y b
     ·exact A) (by
     have E:(a.1++c.filter λx=>decide (0<=x)).Perm a.2:=(by simpa using j);have:=(List.perm_append_comm (l₁:=[d]) (l₂:=c.filter λx=>decide (0<=x))).append_left a.1;simp only[Nk]at this⊢;refine this.trans ?_;rw[<-Nk];exact E.append_right [d]) w (by simp at m⊢;omega)
    refine⟨d::o,by rw[p];simp,by simp[r],λi y z b f=> ?_⟩;cases i with
    |zero=>simp at b f;subst b;subst f;exact .inr ⟨by omega,A,B⟩
    | succ i=>
      rcases s i y z (by simpa using b) (by simpa using f)with q|⟨F,G,H⟩
      ·exact .inl q
      ·exact .inr ⟨F,G,λh=>H (by simp[h])⟩
   ·rw[show F2 S a x=(a.1++[x],a.2) by simp only[F2,ZF g]];have:(List.filter (λx=>decide (0<=x)) (x::c))=x::c.filter (λx=>decide (0<=x)):=(by simp[g]);rw[this]at j;obtain⟨o,p,r,s⟩:=Yw k l c (a.1++[x],a.2) t u (by simpa using j) w (by simp at m⊢;omega);refine⟨x::o,by rw[p];simp,by simp[r],λi y z b f=> ?_⟩;cases i with
    |zero=>simp at b f;subst b;subst f;exact .inl ⟨g,rfl⟩
    |succ i=>exact s i y z (by simpa using b) (by simpa using f)
theorem vX: ∀{a2 o f:List Int},o.length=a2.length->f.length=a2.length->(∀(i:Nat) x y z,a2[i]?=some x->o[i]?=some y->f[i]?=some z->(0<=y/\z=x)\/(y<0/\z≠x))->Ft a2 f=o.countP λy=>decide (y<0)
 | [],o,f,d,g,_=>by obtain rfl:=Ii.1 d;simp[Ft]
 |x::a2,[],f,d,_,_=>by simp at d
 |x::a2,_::_,[],_,g,_=>by simp at g
 | x::a2,y::o,z::f,d,g,h=>by
   have k:=vX (a2:=a2) (o:=o) (f:=f) (by simpa using d) (by simpa using g) λi a b c l hb m=>h (i+1) a b c (by simpa using l) (by simpa using hb) (by simpa using m);simp only[Ft,Nt,k];rcases h 0 x y z rfl rfl rfl with⟨n,j⟩|⟨n,j⟩
   ·rw[if_pos j.symm,if_neg (by simp;omega)];omega
   ·rw[if_neg λe=>j e.symm,if_pos (by simp;omega)];omega
variable{S N R:List Int}{d:Int}{j:Nat}{L:List (List Int)}{u:AL}
theorem aAG{a:List Int}(g: ∀d∈S,0<=d)(j:S.Nodup)(H:a.length=S.length):Ft a (F0 S a)=S.countP λd=> !a.contains d:=by
 obtain⟨k,v,a3,a4⟩:=WB (S:=S) a ([],[]) List.nodup_nil (by simp) rfl (by simp);obtain⟨⟨o,m,w,A⟩,n⟩:=ed (S:=S) a ([],[]);have I:(EG S a).1.length=a.length:=by unfold EG;rw[O3];simp
 obtain⟨f,p,B,r⟩:=Yw g j (EG S a).1 ([],(EG S a).2) k (λx b=>(v x b).1) (by simp only[MC];exact .of_eq a3) a4 (by simp;omega);simp only[MC]at m p;have s:(EG S a).1=o:=m;have C:F0 S a=f:=p;have D:(o.filter λx=>decide (0<=x))=(EG S a).2:=by rw[<-s];exact a3
 rw[s]at B r;rw[C,vX w (by omega) λi x y z b t E=> ?_]
 ·have F:o.countP (λy=>decide (y<0))+(o.filter λx=>decide (0<=x)).length=o.length:=by
   rw[<-List.countP_eq_length_filter,List.length_eq_countP_add_countP (λy=>decide (y<0)) (l:=o)];congr 1;refine List.countP_congr λx _=> ?_;simp
  have J:S.countP (λd=> !a.contains d)+S.countP (λd=>a.contains d)=S.length:=(by rw[List.length_eq_countP_add_countP (λd=> !a.contains d) (l:=S)];congr 1;refine List.countP_congr λx _=> ?_;simp);have K:(EG S a).2.length=S.countP λd=>a.contains d:=by rw[List.countP_eq_length_filter];refine List.Perm.length_eq ((List.perm_ext_iff_of_nodup k (j.filter _)).2 λd=> ?_);rw[List.mem_filter];have:=n d;simp only[EK,false_or]at this;show d∈(EG S a).2↔_;unfold EG;rw[this];simp only[List.contains_eq_mem,BW];exact⟨λq=>⟨q.2.2,q.1⟩,λq=>⟨q.2,g d q.1,q.1⟩⟩
  rw[D]at F;omega
 ·rcases r i y z t E with⟨h,c⟩|⟨h,c,G⟩
  ·rcases A i x y b t with⟨u,L⟩|u
   ·exact .inl ⟨h,by rw[c,u]⟩
   ·omega
  ·refine .inr ⟨h,λe=>G ?_⟩;subst e;have:=(n z).2 (.inr ⟨B5 b,g z c,c⟩);exact this
theorem a6V{a:List Int}(g: ∀d∈S,0<=d)(n:S.Nodup)(B:a.length=S.length)(p:d∈a)(e:(F0 S a)[j]?=some d):a[j]?=some d:=by
 obtain⟨q,r,a3,a4⟩:=WB (S:=S) a ([],[]) List.nodup_nil (by simp) rfl (by simp);obtain⟨⟨o,h,C,s⟩,t⟩:=ed (S:=S) a ([],[]);have D:(EG S a).1.length=a.length:=by unfold EG;rw[O3];simp
 obtain⟨f,i,u,k⟩:=Yw g n (EG S a).1 ([],(EG S a).2) q (λx b=>(r x b).1) (by simp only[MC];exact .of_eq a3) a4 (by simp;omega);simp only[MC]at h i;have v:(EG S a).1=o:=h;have w:F0 S a=f:=i;rw[v]at u k;rw[w]at e;have E:=(Ae.1 e).1;obtain⟨x,b⟩: ∃x,a[j]?=some x:=⟨_,AP (by omega)⟩;obtain⟨y,l⟩: ∃y,o[j]?=some y:=⟨_,AP (by omega)⟩;rcases k j y d l e with⟨z,c⟩|⟨z,c,A⟩
 ·rcases s j x y b l with⟨m,F⟩|m
  ·rw[b,c,m]
  ·omega
 ·exact absurd ((t d).2 (.inr ⟨p,g d c,c⟩)) A
theorem ov: ∀{a b:List (List Int)},a.length=b.length->((GB a b:Nat):Int)=BO (λv=>((Ft (a.getD v []) (b.getD v []):Nat):Int)) a.length:= λ{a b} h=>by
 have key: ∀n,n<=a.length->((GB (a.take n) (b.take n):Nat):Int)=BO (λv=>((Ft (a.getD v []) (b.getD v []):Nat):Int)) n:=by
  intro n;induction n with
  |zero=>intro _;simp[GB,BO]
  | succ n e=>intro f;have c:a[n]?=some a[n]:=AP (by omega);have d:b[n]?=some b[n]:=AP (by omega);rw[lY c d,N5,e (by omega),BO,E1,E1,c,d];rfl
 have:=key a.length (Aj _)
 rwa [FJ,h,FJ,<-h]at this
theorem oq: ∀{xs:List Ah} {fs:List Int},Eg xs fs=CR (λa b=>b*a.k) xs fs
 |[],_=>by simp[Eg,CR]
 |_::_,[]=>by simp[Eg,CR]
 |a::xs,b::fs=>by simp only[Eg,CR,oq (xs:=xs) (fs:=fs)]
theorem sd{g:Ah->Int->Int}{c:Ah->Ah}: ∀{xs:List Ah} {fs:List Int},CR g (xs.map c) fs=CR (λa b=>g (c a) b) xs fs
 |[],_=>by simp[CR]
 |_::_,[]=>by simp[CR]
 |a::xs,b::fs=>by simp only[Dl,CR,sd (xs:=xs) (fs:=fs)]
theorem sn(h:BS u)(x:DT (D0 u R) N):Eg (As u R L) N=BO (λv=>(((DC u v (Ak u R) N).countP λd=> !(JJ L v).contains d:Nat):Int)) u.A3.length:=by
 rw[oq];unfold As;rw[sd];have e: ∀v:Nat,(((DC u v (Ak u R) N).countP λd=> !(JJ L v).contains d:Nat):Int)=CR (λa b=>if AI u 0<=a.t/\b≠0/\Kd u a=v/\(!(JJ L v).contains (a.t-AI u 0))=true then 1 else 0) (Ak u R) N:= λv=>bf;simp only[e];rw[bJ];refine R2 λi a b p y=> ?_;have hb:=x.Da.2 i a b p y;have l:=B5 p;have z:(H7 u L a).k=if Gl u L a=true then 1 else 0:=by
  unfold H7;split
  ·rfl
  ·exact pA l
 rw[z];by_cases c:AI u 0<=a.t
 ·obtain⟨w,d,A,m,_,rfl⟩:=Qs h l c;have G:=FX (u:=u) d;have H:b<=1:=hb.2;have r:=Gq h m;have B:0<CI u d:=by
   rcases Sg (CI u d)with q|q
   ·rw[q]at r;have:=h.Ly.1;omega
   ·exact q
  have n:HR u.A3.length u.A5.length (D8 u w d).t=d:=bL;have C:IL u.A3.length u.A5.length (D8 u w d).f=w:=Uv B r.1;have D:Gl u L (D8 u w d)= !(JJ L w).contains (d:Int):=(by unfold Gl;rw[n,C,decide_eq_true (by omega:(0:Int)<=d)];simp);rw[D,NN A (c:=if b≠0/\(!(JJ L w).contains (d:Int))=true then 1 else 0) λv E=> ?_]
  ·by_cases j:(!(JJ L w).contains (d:Int))=true
   ·rw[if_pos j];by_cases s:b=0
    ·simp[s]
    ·rw[if_pos ⟨s,j⟩];omega
   ·rw[if_neg j,if_neg λq=>j q.2];omega
  ·rw[PF h m];have F:(D8 u w d).t-AI u 0=d:=(by show AI u d-AI u 0=d;omega);rw[F];by_cases o:v=w
   ·subst o;rw[if_pos rfl];by_cases g:b≠0/\(!(JJ L v).contains (d:Int))=true
    ·rw[if_pos g,if_pos ⟨c,g.1,rfl,g.2⟩]
    ·rw[if_neg g,if_neg λq=>g ⟨q.2.1,q.2.2.2⟩]
   ·rw[if_neg o,if_neg λq=>o q.2.2.1.symm]
 ·have:Gl u L a=false:=by
   unfold Gl;rcases(Ps h l).2 with⟨v,d,E,m,_,rfl,_⟩|n
   ·exact absurd (by show AI u 0<=AI u d;have:=FX (u:=u) d;omega) c
   ·rw[n];simp
  rw[this,Gm λv _=>if_neg λq=>c q.1];simp
theorem qf{u:AL}(h:BS u){R N:List Int}{L:List (List Int)}(c:Cs u L=true)(j:DT (D0 u R) N)(m:Dr u<=value (D0 u R) N):
 EH L (Du (EA u (As u R L) N (As u R L).length) L)=Eg (As u R L) N:=by
 obtain⟨k,t⟩:=WN h c j m;have l:L.length=u.A3.length:=by
  by_cases q:L.length=u.A3.length
  ·exact q
  ·rw[RQ q]at c;cases c
 have hb: ∀(v:Nat) s,L[v]?=some s->(s.length:Int)=CD u v:= λv s b=>by
  have hb:GQ u v s=true:=by
   cases q:GQ u v s with
   |true=>rfl
   |false=>rw[OE b q]at c;cases c
  simp only[GQ,AF,BW]at hb;exact hb.1
 obtain⟨Fin,o⟩: ∃Fin,Fin=Du (EA u (As u R L) N (As u R L).length) L:=⟨_,rfl⟩;have w: ∀(v:Nat) s,L[v]?=some s->Fin[v]?=some (F0 (DC u v (Ak u R) N) s):= λv s b=>by have e:=(Ae.1 b).1;rw[o,Du,Tn,t v (by omega),b]
 rw[<-o]at k⊢;unfold EH;have x:NB L Fin=true:=Ty (by rw[l,k.len]) λv r s y c=>by have G:=k.Ds v s c;have z:=hb v r y;omega
 rw[if_pos x,ov (by rw[l,k.len]),sn h j,l];refine Gw λv e=> ?_
 ·obtain⟨s,b⟩: ∃s,L[v]?=some s:=⟨_,AP (by omega)⟩;have p:=w v s b;rw[E1,E1,b,p];simp only[Jb];have A:JJ L v=s:=by
   unfold JJ;rw[Dx,E1,b];rfl
  have B: ∀d∈DC u v (Ak u R) N,0<=d:= λd C=>by obtain⟨i,a,H,I,p,J,K,M,O⟩:=PI C;omega
  have D:s.length=(DC u v (Ak u R) N).length:=(by have z:=hb v s b;have E:=Rv (f:=NQ u R N) (g:=CD u) (n:=u.A3.length) (λv e=>VR h j e) (by rw[<-QA,<-Uu h];exact m);have:=Ws h j e;rw[E v e]at this;omega);rw[A,aAG B (Ql h (λa F=>F) (Sw h)) D]
theorem RY{u:AL}{L:List (List Int)}(a:Cs u L=true):L.length=u.A3.length/\ ∀(v:Nat) s,L[v]?=some s->(s.length:Int)=CD u v:=by
 refine⟨?_,λv s b=> ?_⟩
 ·by_cases q:L.length=u.A3.length
  ·exact q
  ·rw[RQ q]at a;cases a
 ·have hb:GQ u v s=true:=by
   cases q:GQ u v s with
   |true=>rfl
   |false=>rw[OE b q]at a;cases a
  simp only[GQ,AF,BW]at hb;exact hb.1
theorem a7N(h:BS u)(k:Cs u L=true)(c:DT (D0 u R) N)(l:Dr u<=value (D0 u R) N){v i:Nat}{r s:List Int}
 (e:L[v]?=some r) (m:r[i]?=some d) (b:(Du (EA u (As u R L) N (As u R L).length) L)[v]?=some s) (o:s[j]?=some d):r[j]?=some d:=by
 obtain⟨q,t⟩:=WN h k c l;obtain⟨A,hb⟩:=RY k;have p:=(Ae.1 e).1;have w:=q.Ds v s b;rw[Du,Tn,t v (by omega),e]at b;simp only[Fx]at b;subst b;rw[aa]at w;have x:=Rv (f:=NQ u R N) (g:=CD u) (n:=u.A3.length) (λv p=>VR h c p) (by rw[<-QA,<-Uu h];exact l);have:=Ws h c (v:=v) (by omega);rw[x v (by omega)]at this;refine a6V (λd y=> ?_) (Ql h (λa z=>z) (Sw h)) (by omega) (B5 m) o;obtain⟨i,a,B,e,m,b,o,C,D⟩:=PI y;omega
open Go Go.DI Go.Big
variable{a b:List (List Int)}
theorem a7m(AM:a.length<=50)(T: ∀r∈a,r.length<=140737488355328)(A6: ∀r∈b,r.length<=140737488355328):AO V 99 [O (a.map Bz) 1,O (b.map Bz) 1] (Z (EH a b)):=by
 refine BQ (Ax (aC:=⟨[],[]⟩) Vm.2 ?_);by_cases l:a.length=b.length
 case neg=>have w:EH a b= -1:=(by unfold EH;rw[qI l];rfl);have A7: ¬(a.length:Int)=b.length:=(by omega);simp(disch:=first|omega|simp only[A9];omega)[Vm,jg,g1,A7,w,-H,-D,-I,-F,-List.map_map]
 simp(disch:=first|omega|simp only[A9];omega)[Vm,jg,l,-H,-D,-I,-F,-List.map_map];have hb:b.length<=50:=by omega
 simp(disch:=first|omega|simp only[A9];omega)[g1,-H,-D,-I,-F,-List.map_map];refine Cc (aC:=⟨[],[]⟩) (λi f t=> ∃c:Nat,c=GB (a.take i) (b.take i)/\(∀(j:Nat) r s,j<i->a[j]?=some r->b[j]?=some s->r.length=s.length)/\f 0=O (a.map Bz) 1/\f 1=O (b.map Bz) 1/\f 5=Z c/\f 15=Z i/\f 14=Z a.length) a.length ?_ ?_ 0 _ _ (C8 _) ⟨0,by simp[GB],λj x y h=>by omega,by simp[l],by simp[l],by simp[l],by simp[l],by simp[l]⟩
 ·rintro i f t A8 ⟨c,N,P,g,k,q,m,o⟩ AA G;obtain⟨r,u⟩:=Cb A8;obtain⟨s,z⟩: ∃s,b[i]?=some s:=⟨_,AP (by omega)⟩;have A:=(Ae.1 u).2;have J:b[i]'(by omega)=s:=(Ae.1 z).2;have K:(i:Int)<b.length:=(by omega);have B:(i:Int)<a.length:=(by omega);have AN:i<b.length:=(by omega);have AB:=BZ (n:=i) (by omega);have AQ:=T r (B5 u);have AR:=A6 s (B5 z);have AS:c<=50*140737488355328:=by
   have C:=lH (a:=a.take i) (b:=b.take i) (ah:=140737488355328) λx u=>T x (MY u);have Q:(a.take i).length<=50:=(by rw[IG];omega);have AU:=KI 140737488355328 Q;omega
  by_cases p:r.length=s.length
  case neg=>have w:EH a b= -1:=(by unfold EH;rw[w4 u z p];rfl);have AD: ¬(r.length:Int)=s.length:=(by omega);simp(disch:=first|omega|simp only[A9];omega)[X7,a8,Bz,g,k,m,o,K,B,A,J,AD,w,-H,-D,-I,-F,-List.map_map]
  simp(disch:=first|omega|simp only[A9];omega)[X7,Bz,g,k,m,o,K,B,A,J,p,-H,-D,-I,-F,-List.map_map];simp(disch:=first|omega|simp only[A9];omega)[a8,Bz,g,B,A,p,-H,-D,-I,-F,-List.map_map];refine Cc (aC:=⟨[],[]⟩) (λj f t=> ∃d:Nat,d=c+Ft (r.take j) (s.take j)/\f 0=O (a.map Bz) 1/\f 1=O (b.map Bz) 1/\f 5=Z d/\f 6=Z i/\f 34=Z j/\f 33=Z r.length/\f 15=Z i/\f 14=Z a.length) r.length ?_ ?_ 0 _ _ (C8 _) ⟨c,by simp[Ft],by simp[g],by simp[k],by simp[q],by simp[],by simp[],by simp[p],by simp[m],by simp[o]⟩
  ·rintro j f t AE ⟨d,W,g,k,q,E,L,v,m,o⟩ AA G;obtain⟨x,X⟩:=Cb AE;obtain⟨y,Y⟩: ∃y,s[j]?=some y:=⟨_,AP (by omega)⟩;have A0:=(Ae.1 X).2;have A1:s[j]'(by omega)=y:=(Ae.1 Y).2;have A2:(j:Int)<s.length:=(by omega);have AV:(j:Int)<r.length:=(by omega);have AW:j<s.length:=(by omega);have AX:d<=51*140737488355328:=by
    have C:=lG (a:=r.take j) (b:=s.take j);rw[IG]at C;omega
   have v0:=BZ (n:=j) (by omega);have AF:=BZ (n:=d) (by omega);have A3:=qH X Y;by_cases M:x=y
   ·rw[if_pos M]at A3;simp(disch:=first|omega|simp only[A9];omega)[a9,Bz,g,k,E,L,v,K,B,A,J,p,A2,A0,A1,v0,M,-H,-D,-I,-F,-List.map_map];exact G _ _ ⟨d,by omega,by simp[g],by simp[k],by simp[q],by simp[E],by simp[],by simp[v],by simp[m],by simp[o]⟩
   ·rw[if_neg M]at A3;simp(disch:=first|omega|simp only[A9];omega)[a9,Bz,g,k,q,E,L,v,K,B,A,J,p,A2,A0,A1,v0,AF,M,-H,-D,-I,-F,-List.map_map];exact G _ _ ⟨d+1,by omega,by simp[g],by simp[k],by simp[],by simp[E],by simp[],by simp[v],by simp[m],by simp[o]⟩
  ·rintro f t ⟨d,W,g,k,q,E,L,v,m,o⟩;have A4: ¬(((r.length:Nat):Int)<r.length):=(by omega);have AI: ¬(((s.length:Nat):Int)<s.length):=(by omega);have AJ:d=GB (a.take (i+1)) (b.take (i+1)):=by
    rw[lY u z,W,N,FJ,p,FJ]
   simp(disch:=omega)[a9,L,v,m,p,AI,AB];refine G _ _ ⟨d,AJ,?_,by simp[g],by simp[k],by simp[q],by simp[],by simp[o]⟩;intro A5 AK AL AY R S;by_cases e:A5=i
   ·subst e;rw[u]at R;rw[z]at S;cases R;cases S;exact p
   ·exact P A5 AK AL (by omega) R S
 ·rintro f t ⟨c,N,P,g,k,q,m,o⟩;have A4: ¬(((b.length:Nat):Int)<b.length):=(by omega);have w:EH a b=c:=by
   unfold EH;rw[if_pos (Ty l λi x y C Q=>P i x y (Ae.1 C).1 C Q),N,FJ,l,FJ]
  simp(disch:=omega)[X7,a8,q,m,o,A4,l,w]
theorem a05(d:CP a)(hb:CP b)(e:a.length<=50):AO V 99 [Bf a,Bf b] (Z (EH a b)):=a7m e (λr c=>by have:=d.2 r c;omega) (λr c=>by have:=hb.2 r c;omega)
noncomputable abbrev wk:AN V:= .B9 99 (List (List Int)×List (List Int)) (λx=>(CP x.1/\CP x.2)/\x.1.length<=50) (λx=>[Bf x.1,Bf x.2]) (λx=>Z (EH x.1 x.2)) λx h=>a05 h.1.1 h.1.2 h.2
@[simp] theorem aIo(h:(CP a/\CP b)/\a.length<=50):wk.fn [O (a.map Bz) 1,O (b.map Bz) 1]=some (Z (EH a b)):=AN.BH (x:=(a,b)) h λ⟨d,e⟩ c=>by simpa using c
end Go.Proofs.YtmmkkggfmigppaaGreat
namespace Go.DI
open Go
variable {P:Program} {t m:X} {K:Be} {u:C0}
variable (P:Program)
def Oo(f:Nat)(args:List Value)(a7:Value->Prop):Prop:= ∀(u:C0) (m:X) (d:List Value),Ir u m->AJ u Ea args d->
 At P f d m λe a=>m.ac<=a.ac/\(∀b,b<m.ac->a.Y b=m.Y b)/\ ∃r c,a7 r/\Ce u c/\Ir c a/\AY c Ea r e
variable {P:Program} {t m:X} {K:Be} {u:C0}
variable{a7:Value->Prop}{args:List Value}{f:Nat}
open Classical in
theorem hr(h:Bh P f args Cl λv t=> ∃r,B3 9 t v=some r/\a7 r):Oo P f args a7:= λu m k l n=>by
 refine(h Ea u k m (eK l) n).AD λD g p=> ?_;obtain⟨q,i,v,E,⟨r,s,y⟩,c,z,d⟩:=p;refine⟨d.HL,(λb hb=>d.DL b hb λ⟨o,x,e,_⟩=>by cases e),r,(λb=>match i b with
  |some cs=>some cs
  |none=>if∃o,q o=some b then(g.Y b).map (·.cells)else none),y,λb cs hb=> ?_,λb cs hb=> ?_,?_⟩
 ·simp only[d.f b cs hb]
 ·simp only at hb;split at hb
  ·next A=>cases hb;exact(c.AZ b _ A).1
  ·split at hb
   ·cases a:g.Y b with
    |none=>rw[a]at hb;cases hb
    |some x=>rw[a]at hb;cases hb;exact⟨x.own,rfl⟩
   ·cases hb
 ·refine RS c (λb cs hb=>by simp only[hb]) 9 z s λo F G b cs w B a=> ?_;cases C:i b with
  |some ds=>obtain⟨⟨H,j⟩,_⟩:=c.AZ b ds C;rw[a]at j;cases j;rfl
  |none=>rw[if_pos ⟨o,B⟩,a];rfl
theorem Oo.jt{ts i:List Value}(h:Oo P f ts a7)(l:Ir u m)(z:AJ u Ea ts i):At P f i m λn e=>m.ac<=e.ac/\(∀b,b<m.ac->e.Y b=m.Y b/\(u b=none->e.mp b=m.mp b))/\
 ∃r c,a7 r/\Ce u c/\Ir c e/\(∀b cs,c b=some cs->u b=some cs\/m.ac<=b)/\AY c Ea r n:=by
 obtain⟨p,j⟩: ∃p:X,p=⟨m.ac,λb=>if(u b).isSome then m.BY b else none,m.mp⟩:=⟨_,rfl⟩;have k:p.ac=m.ac:=by rw[j]
 have A:p.mp=m.mp:=by rw[j]
 have o: ∀b,p.Y b=if(u b).isSome then m.Y b else none:= λb=>by
  rw[j];simp only[X.Y]
  grind
 have part:Pk p m:=⟨k,A,λb x I=>by
  simp_all⟩
 have B:Ir u p:= λb cs hb=>by
  obtain⟨w,a⟩:=l b cs hb
  simp_all
 refine(At.frame part (h u p i B z)).AD λn e C=> ?_;obtain⟨J,⟨K,q,r,c,D,E,s,F⟩,d⟩:=C;refine⟨d.ac,λb hb=>⟨?_,λG=>(d.Dk b hb (by rw[o,G];rfl)).2.2⟩,r,c,D,E,λb cs hb=> ?_,λb cs hb=> ?_,F⟩
 ·cases g:p.Y b with
  |none=>exact(d.Dk b hb g).1
  |some x=>rw[part.Y b x g];exact d.part.Y b x (by rw[q b (by rw[k];exact hb),g])
 ·obtain⟨w,a⟩:=s b cs hb;exact⟨w,d.part.Y b _ a⟩
 ·by_cases t:b<m.ac
  ·left;obtain⟨w,a⟩:=s b cs hb;cases g:p.Y b with
   |none=>rw[(d.Dk b t g).2.1]at a;cases a
   | some x=>
     rw[q b (by rw[k];exact t)]at a;rw[o]at a;split at a
     ·next v=>
      cases y:u b with
      |none=>rw[y]at v;cases v
      | some H=>
        obtain⟨L,M⟩:=l b H y
        grind
     ·cases a
  ·exact .inr (by omega)
theorem Oo.c4(h:Oo P f args a7)(C: ∀v∈args,RF v=true):Bh P f args t λv D=>a7 v/\D=t:= λK u E m a n=>by
 have F:AJ u Ea args E:=⟨n.1,λi x y d G=>(gn (g:= λ_ _=>False) (C x (B5 d))).HG (λ_ _ h=>h.elim) (n.2 i x y d G)⟩;refine(h.jt (λb cs hb=>(a.AZ b cs hb).1) F).AD λR S H=> ?_;obtain⟨p,q,r,I,J,e,L,M,N⟩:=H;refine⟨K,I,r,t,⟨J,rfl⟩,?_,N.AD (Ce.refl _) (CA.nil _),?_⟩
 ·refine⟨λo x d=> ?_,λo es s=> ?_,a.Ek,a.inj,λo b h=>⟨(a.B0 o b h).1,GV (a.B0 o b h).2 p⟩,λb cs hb=> ?_⟩
  ·rcases a.Ee o x d with⟨b,cs,w,c,j,k,z⟩|c
   ·exact .inl ⟨b,cs,w,c,by rw[(q b (a.B0 o b c).2).1,j],k,z.AD e (CA.refl _)⟩
   ·exact .inr c
  ·obtain⟨b,O,c,j,k⟩:=a.maps o es s;refine⟨b,O,c,?_,k.AD e (CA.refl _)⟩;obtain⟨z,T⟩:=DO j;have hb:=(a.B0 o b c).2;have U:u b=none:=by
    cases Q:u b with
    |none=>rfl
    |some cs=>have:=(a.AZ b cs Q).2 o _ c (DO s).1;cases this
   grind [Ec]
  ·refine⟨L b cs hb,λo x A d=> ?_⟩;rcases M b cs hb with B|B
   ·exact(a.AZ b cs B).2 o x A d
   ·have:=(a.B0 o b A).2;omega
 ·refine⟨CA.refl _,e,λ_ _ h=> .inl h,λb cs hb=> ?_,Aj _,p,λb hb _=>(q b hb).1,λb hb l=>l,λb hb l=>l⟩
  grind
open Go Go.RowKit
variable {P:Program} {r:Go.Shelf.Ren} {aH:Nat} {B:Ren} {m:X} {w:World}
end Go.DI
namespace Go.Proofs.YtmmkkggfmigppaaGreat
open Go Go.DI Go.Big
def bO(cs:List Value):Prop:= ∀c∈cs,∃n:Int,c=Z n
variable{l:List Int}{n:Nat}{t:X}
theorem bO.map:bO (l.map Z):= λc a=>by
 grind
theorem rl: ∀{cs:List Value},bO cs->cs.flatMap (BL n t)=[]
 |[],_=>rfl
 | c::cs,h=>by obtain⟨x,rfl⟩:=h c (by simp);rw[List.flatMap_cons,zl,rl λc a=>h c (by simp[a])];rfl
open Go Go.DI Go.Big Go.EL
variable{L S:List (List Int)}{u:AL}{k:Nat}{w:Bool}{Q:BM->A2->X->Prop}{A:A2}{ps:List Nat}
theorem a8e(b:L.length=u.A3.length)(c: ∀(v:Nat) s,L[v]?=some s->(s.length:Int)=CD u v):(IB L:Int)=Dr u:=by
 have key: ∀n,n<=L.length->(IB (L.take n):Int)=BO (CD u) n:=by
  intro n;induction n with
  |zero=>intro _;simp[IB,BO]
  | succ n d=>intro e;have a:L[n]?=some L[n]:=AP (by omega);rw[te a,N5,d (by omega),BO,c n _ a]
 have:=key L.length (Aj _);rw[FJ]at this;rw[this,QA,b]
theorem s3{a:X}{p:Nat}(h:a.Y p=some ⟨l.map Z,true⟩):BL 9 a (AM p k 1)=[p]:=by rw[OO,h];simp only[rl bO.map]
theorem hB{o:Nat}(h:t.Y o=some ⟨L.map AK,w⟩)(c:n=L.length):DI.B3 (k+1) t (AM o n 1)=some (Bf L):=by
 subst c;have e:(L.map Bz).flatten=L.map AK:=by
  clear h;induction L with
  |nil=>rfl
  |cons x l d=>simp only[Dl,I2,d];rfl
 have:=Kn (n:=k) (t:=t) (o:=o) (l:=L.length) (z:=1) (w:=w) (cb:=L.map Bz) (by rw[e];exact h) (by simp) λr f=>by obtain⟨b,_,rfl⟩:=CG.1 f;exact⟨rfl,λv a=>by simp[Bz]at a;subst a;rfl⟩
 exact this
theorem a87(As:S.length=L.length)(AJ: ∀s∈S,s.length<=1000)(A5:CP L){bc jT lk W pa:Nat}{t0:X}
 (g:E4 t0 bc ps S) (m:t0.Y jT=some ⟨[AM pa 0 1,Z 0,AM lk W 1],true⟩) (u:t0.Y pa=some ⟨[],true⟩) (h:jT≠bc/\jT∉ps/\pa≠jT/\pa≠bc/\pa∉ps)
 (z:A 14=AM bc L.length 1) (v:A 18=AG jT) (B:A 95=Bf L) (x:A 96=Z L.length) (C:A 97=Z 0)
 (AL: ∀K G d,G.Y jT=some ⟨[AM d L.length 1,Z 0,AM lk W 1],true⟩->G.Y d=some ⟨(Du S L).map AK,true⟩->d≠jT->d=pa\/t0.ac<=d->t0.ac<=G.ac->(∀b,b<t0.ac->b≠jT->b≠pa->b∉ps->G.Y b=t0.Y b)->K 1=A 1->K 6=A 6->K 18=AG jT->Q (.Ao 2) K G):Bc V (.loop Yf) A t0 Q:=by
 have At:=E g.Dk;have Au:=A5.1;have AN:(Du S L).length=L.length:=by rw[Du,List.length_zipWith];omega
 refine Cc (aC:=⟨[uz],[]⟩) (λi f t=>(∃d,t.Y jT=some ⟨[AM d i 1,Z 0,AM lk W 1],true⟩/\t.Y d=some ⟨((Du S L).take i).map AK,true⟩/\d≠jT/\(d=pa\/t0.ac<=d))/\(t.Y bc=some ⟨D7 ps S,true⟩/\ ∀j p s,i<=j->ps[j]?=some p->S[j]?=some s->t.Y p=some ⟨s.map Z,true⟩)/\t0.ac<=t.ac/\(∀b,b<t0.ac->b≠jT->b≠pa->b∉ps->t.Y b=t0.Y b)/\f 1=A 1/\f 6=A 6/\f 14=AM bc L.length 1/\f 18=AG jT/\f 95=Bf L/\f 96=Z L.length/\f 97=Z i) L.length ?_ ?_ 0 A t0 (C8 _) ⟨⟨pa,m,by simpa using u,h.2.2.1,.inl rfl⟩,⟨g.Dk,λj p s _ AO AQ=>g.Ds j p s AO AQ⟩,Aj _,λb _ _ _ _=>rfl,rfl,rfl,z,v,B,x,C⟩
 ·rintro i f t AR ⟨⟨d,m,u,P,y⟩,⟨R,A6⟩,A7,T,U,A0,z,v,B,x,C⟩ Aw AS;obtain⟨r,A1⟩:=Cb AR;have AT:=(Ae.1 A1).2;obtain⟨s,M⟩: ∃s,S[i]?=some s:=⟨_,AP (by omega)⟩;have Ax:r.length<=1000:=A5.2 r (B5 A1);have Ay:s.length<=1000:=AJ s (B5 M);obtain⟨p,A8,J,_,AU,AV⟩:=g.HF M;have N:=A6 i p s (Aj _) A8 M;have AW:(Du S L)[i]?=some (F0 s r):=(by rw[Du,Tn,M,A1]);have AX:(Du S L).take (i+1)=(Du S L).take i++[F0 s r]:=(by rw[N9,AW];rfl);have Az:=E R;have A9:=E N;have B0:=E m;have B1:=E u;have AY:(i:Int)<L.length:=(by omega);have AZ:=BZ (n:=i) (by omega);have Aa: ¬d=bc:= λe=>y.elim (λq=>h.2.2.2.1 (by omega)) λq=>by omega
  have Ac:DI.B3 9 (t.AE 12) (AM p s.length 1)=some (AK s):=by
   have:=Ww (n:=7) (i:=s.length) (t:=t.AE 12) (o:=p) (l:=s) (w:=true) (by rw[Ab A9];exact N) (Aj _)
   rwa [FJ]at this
  have Af:BL 9 (t.AE 12) (AM p s.length 1)=[p]:=s3 (by rw[Ab A9];exact N);have Ag: ¬p=d:= λe=>y.elim (λq=>h.2.2.2.2 (by rw[<-q,<-e];exact J)) λq=>by have:=g.K9 J;omega
  have Ah: ¬p=jT:= λe=>h.2.1 (e▸J);have Ai: ¬p=bc:= λe=>g.F7 (e▸J);have B2: ¬d=p:= λe=>Ag e.symm;have B4: ¬jT=p:= λe=>Ah e.symm;have B6: ¬bc=p:= λe=>Ai e.symm;have B7: ¬jT=d:= λe=>P e.symm;have B8:(((Du S L).take i).map AK).length=i:=(by rw[E9,IG];omega);have B9:List.take i (((Du S L).take i).map AK)=((Du S L).take i).map AK:=DP (by omega);have Ak:((i:Int)+1)*24<=140737488355328/\(i+1)*24<=140737488355328/\i<=9223372036854775806:=(by omega);simp(disch:=first|omega|simp only[DI.AB];omega)[Yf,z,v,B,x,C,AY,AT,Bz,m,u,R,N,AU,AV,Ak,AZ,Ac,Af,-H,-D,-I,-F,-List.map_map];have Al:List.take i (List.take i ((Du S L).map AK))++[O ((F0 s r).map λs=>[Z s]) 1]=((Du S L).take (i+1)).map AK:=by rw[AX,Gs,List.take_take,Nat.min_self,List.map_take];rfl
  refine AS _ _ ⟨⟨t.ac+9,?_,?_,by omega,.inr (by omega)⟩,⟨?_,λj k Am BA A2 An=> ?_⟩,by simp;omega,λb hb Ap AA AD=> ?_,by simp[U],by simp[A0],by simp[z],by simp[v],by simp[B],by simp[x],by simp⟩
  ·simp(disch:=first|omega|simp only[DI.AB];omega)[-H,-D,-I,-F,-List.map_map]
  ·rw[<-Al];have A3: ¬t.ac+9=jT:=by omega
   simp(disch:=first|omega|simp only[DI.AB];omega)[-H,-D,-I,-F,-List.map_map]
  ·have A3: ¬bc=t.ac+9:=by omega
   have AF: ¬bc=t.ac+8:=by omega
   have Aq: ¬bc=jT:= λe=>h.1 e.symm;have AI: ¬bc=d:= λe=>Aa e.symm;simp(disch:=first|omega|simp only[DI.AB];omega)[R,-H,-D,-I,-F,-List.map_map]
  ·have A4:=B5 A2;have BB:=g.K9 A4;have Ar: ¬k=p:= λe=>by
    subst e;have a:=Ae.1 A8;have c:=Ae.1 A2;have BC:=Mb.1 g.Cg
    grind
   have A3: ¬k=t.ac+9:=by omega
   have AF: ¬k=t.ac+8:=by omega
   have Aq: ¬k=jT:= λe=>h.2.1 (e▸A4);have AI: ¬k=d:= λe=>y.elim (λq=>h.2.2.2.2 (by rw[<-q,<-e];exact A4)) λq=>by omega
   refine Eq.trans ?_ (A6 j k Am (by omega) A2 An);have BD:k<t.ac:=by omega
   simp(disch:=first|omega|simp only[DI.AB];omega)[-H,-D,-I,-F,-List.map_map]
  ·have Ar: ¬b=p:= λe=>AD (e▸J);have A3: ¬b=t.ac+9:=by omega
   have AF: ¬b=t.ac+8:=by omega
   have AI: ¬b=d:= λe=>y.elim (λq=>AA (by rw[e,q])) λq=>by omega
   have BE:b<t.ac:=by omega
   refine Eq.trans ?_ (T b hb Ap AA AD);simp(disch:=first|omega|simp only[DI.AB];omega)[-H,-D,-I,-F,-List.map_map]
 ·rintro f t ⟨⟨d,m,u,P,y⟩,_,A7,T,U,A0,z,v,B,x,C⟩;simp(disch:=first|omega|simp only[DI.AB];omega)[Yf,x,C,-H,-D,-I,-F,-List.map_map];refine AL _ _ d m ?_ P y A7 T (by simp[U]) (by simp[A0]) (by simp[v]);rw[u,<-AN,FJ]
def E2(u:AL)(R:List Int)(L:List (List Int))(N:List Int):List (List Int):=Du (EA u (As u R L) N (As u R L).length) L
def a7t(u:AL)(R:List Int)(L:List (List Int))(v:Value):Prop:=
 (¬OK u R/\v= .tuple #[.agg #[.slice none 0 0,Z 0,.slice none 0 0],Z 12])\/
 ∃N p,HQ (C9 u R L) (Dr u) N p/\v= .tuple #[.agg #[Bf (E2 u R L N),Z (EH L (E2 u R L N)),AK (JE (C9 u R L).AS.toNat p)],Z 0]
theorem x3{u:AL}(h:B4 u)(B6:1<=u.A3.length){R:List Int}{L:List (List Int)}(AN:CP L)(B:Cs u L=true):Oo V 148 [.agg (A7 u).toArray,Bf L,AK R] (a7t u R L):=by
 have B7:L.length=u.A3.length:=by
  by_cases q:L.length=u.A3.length
  ·exact q
  ·rw[RQ q]at B;cases B
 have Bb:=h.ok.EF;have Bc:=h.ok.D6;have B8:=oC h.ok R L λa B9=>rv h.ok B9;refine hr (Ax (aC:=⟨[xr,wk],[nZ u h R L AN B B7]⟩) Zr.2 ?_);simp(disch:=first|omega|simp only[DI.AB];omega)[Zr,sS,A7,-H,-D,-I,-F,-List.map_map];obtain⟨c,x⟩: ∃c,c=(((((((Cl.AE 3).A1 0 (some ⟨A7 u,true⟩)).A1 1 (some ⟨[.slice none 0 0,Z 0,.slice none 0 0],true⟩)).AE 10).AE 1).A1 13 (some ⟨BI (As u R L),true⟩)).A1 10 (some ⟨[Z (C9 u R L).AS,Z 0,Z 1,AM 13 (As u R L).length 4],true⟩)):=⟨_,rfl⟩;have Q:c.Y 0=some ⟨A7 u,true⟩:=by rw[x];simp(disch:=first|omega|simp only[DI.AB];omega)[A7,-H,-D,-I,-F,-List.map_map]
 have f:c.Y 1=some ⟨[.slice none 0 0,Z 0,.slice none 0 0],true⟩:=by rw[x];simp(disch:=first|omega|simp only[DI.AB];omega)[-H,-D,-I,-F,-List.map_map]
 have G:c.Y 13=some ⟨BI (As u R L),true⟩:=by rw[x];simp(disch:=first|omega|simp only[DI.AB];omega)[-H,-D,-I,-F,-List.map_map]
 have T:c.Y 10=some ⟨[Z (C9 u R L).AS,Z 0,Z 1,AM 13 (As u R L).length 4],true⟩:=by rw[x];simp(disch:=first|omega|simp only[DI.AB];omega)[-H,-D,-I,-F,-List.map_map]
 have A9:c.ac=14:=by rw[x];simp
 simp only[A7]at x;rw[<-x];clear x;obtain⟨U,BA⟩:=RY B;have Aj:=a8e U BA;have Be:0<=Dr u:=by rw[<-Aj];omega
 have Bg:(As u R L).length=(Ak u R).length:=by simp[As]
 have Bh:=Oa h.ok (R:=R);have BB:(C9 u R L).A0≠[]:= λe=>by have J:(As u R L).length=0:=(by show(C9 u R L).A0.length=0;rw[e];rfl);have:=p9 B6 (R:=R);exact this (M0 (by show(Ak u R).length=0;omega))
 refine(a4q (n:=C9 u R L) (gO:=IB L) (λv m AO=>tX B8 AO (by show(As u R L).length<_;omega) (by omega)) BB G).AD λr y ⟨g,BC,AQ,AT⟩=> ?_;rcases AT with⟨BD,rfl,rfl⟩|⟨BD,N,p,A2,rfl,K⟩
 ·have BE: ¬OK u R:= λ⟨Bj,Al,Bk⟩=>by
   have BF:=IU (L:=L).1.2 Al;have:=JL (XK h.ok R L) BF (s:=PX BC) AQ.Ad AQ.Aq;rw[<-AQ.val,IU.2 Al]at this;omega
  have Am:=E f;simp(disch:=first|omega|simp only[DI.AB];omega)[kS,dy,ig,f,-H,-D,-I,-F,-List.map_map];exact .inl ⟨BE,rfl⟩
 ·rw[Aj]at A2;obtain⟨ps,AU⟩: ∃ps,ps=JE (C9 u R L).AS.toNat p:=⟨_,rfl⟩;have An:ps.length=(C9 u R L).AS.toNat:=(by rw[AU,oM]);rw[<-AU]at K;have A4: ∀b,b<14->y.Y b=c.Y b:= λb hb=>by rw[K,N0,A6 (by omega),Ab (by simp;omega),A6 (by omega),Ab (by omega)]
  have AV:y.Y 14=some ⟨N.map Z,true⟩:=(by rw[K,N0,A9,A6 (by omega),Ab (by simp;omega),AR (by simp;omega)]);have A:y.Y 15=some ⟨ps.map Z,true⟩:=(by rw[K,N0,A9,AR (by simp;omega)]);have AW:y.ac=16:=by rw[K,N0];simp[A9]
  have Q:=(A4 0 (by omega)).trans Q;have f:=(A4 1 (by omega)).trans f;have G:=(A4 13 (by omega)).trans G;have T:=(A4 10 (by omega)).trans T;clear A4 K;have BG:N.length=(As u R L).length:=A2.OH.Da.1;have Bl:0<y.ac:=by omega
  have Am:1<y.ac:=by omega
  have Bm:10<y.ac:=by omega
  have Bn:13<y.ac:=by omega
  have Bo:14<y.ac:=by omega
  have Bp:15<y.ac:=by omega
  have BH:(u.A3.length:Int)*24<=140737488355328/\(u.A3.length:Int)<=9223372036854775807:=(by omega);rw[A9];simp(disch:=first|omega|simp only[DI.AB];omega)[kS,Q,T,AW,A7,BH,U,-H,-D,-I,-F,-List.map_map];refine r4 (o:=27) (n:=u.A3.length) ?_ λAX Bq BJ BK AY M=> ?_
  ·rw[AR (by simp[AW])]
  simp only[Au,B1,AW]at BK AY M;have O: ∀b,b<16->AX.Y b=y.Y b:= λb hb=>by rw[AY b (by omega) (by omega),A6 (by omega),Ab (by simp;omega),A6 (by omega),Ab (by omega)]
  have BL:AX.Y 23=some ⟨[Z u.A3.length,Z u.A5.length],true⟩:=(by rw[AY 23 (by omega) (by omega)];simp(disch:=first|omega|simp only[DI.AB];omega)[-H,-D,-I,-F,-List.map_map]);have Q:=(O 0 (by omega)).trans Q;have f:=(O 1 (by omega)).trans f;have G:=(O 13 (by omega)).trans G;have T:=(O 10 (by omega)).trans T;have AV:=(O 14 (by omega)).trans AV;have A:=(O 15 (by omega)).trans A;refine a1w h (R:=R) (L:=L) (N:=N) BG (ft:=23) (bc:=27) (jJ:=13) (lM:=14) BJ ⟨by omega,by omega,by omega⟩ ⟨λd=>by have:=M _ d;omega,λd=>by have:=M _ d;omega,λd=>by have:=M _ d;omega⟩ BL G AV (by simp) (by simp) (by simp) (by simp) (by simp) (by simp) λAA t3 AZ AF Bu BN BO AI Aa Ac Ae=> ?_;have Ap: ∀b,b<16->t3.Y b=AX.Y b:= λb hb=>BN b (by omega) (by omega) λd=>by have:=M _ d;omega
  have f:=(Ap 1 (by omega)).trans f;have A:=(Ap 15 (by omega)).trans A;have AI:AA 1=Bf L:=(by rw[AI];simp);have Aa:AA 6=AG 1:=(by rw[Aa];simp);have Ac:AA 12=AM 15 (C9 u R L).AS.toNat 1:=(by rw[Ac];simp);have Ae:AA 14=AM 27 u.A3.length 1:=(by rw[Ae];simp);have Bv:28<t3.ac:=by omega
  simp(disch:=first|omega|simp only[DI.AB];omega)[dy,AI,Ac,-H,-D,-I,-F,-List.map_map];have Ar: ∀s∈EA u (As u R L) N (As u R L).length,s.length<=1000:= λs B=>by have:=Pu _ s B;omega
  have BQ:=kb (u:=u) (bT:=As u R L) (N:=N) (As u R L).length;have At:=(IU (L:=L)).1.1 A2.OH;have Bx:value (D0 u R) N=Dr u:=(by rw[<-(IU (L:=L)).2 At];exact A2.val);have P:=(WN h.ok B At (by omega)).1;have AJ:E2 u R L N=Du (EA u (As u R L) N (As u R L).length) L:=rfl;rw[<-AJ]at P;have BR:CP (E2 u R L N):=⟨by have:=P.len;omega,λr AT=>by obtain⟨v,AO,e⟩:=E5 AT;have J:(E2 u R L N)[v]?=some r:=(by rw[AP AO,e]);have:=P.Ds v r J;have:=(L3 h.ok (v:=v) (by have:=P.len;omega)).2;omega⟩;generalize EA u (As u R L) N (As u R L).length=S at AF Ar BQ AJ;have Af: ∀p∈AZ,p<t3.ac:= λp A8=>AF.K9 A8
  refine Nd (o:=t3.ac+2) (j:=0) (z:=1) (cs:=[.slice none 0 0,Z 0,AM 15 (C9 u R L).AS.toNat 1]) (by rw[AR (by simp)]) rfl ?_;have By:=E AF.Dk;refine a87 (S:=S) (L:=L) (by omega) Ar AN (bc:=27) (jT:=t3.ac+2) (lk:=15) (W:=(C9 u R L).AS.toNat) (pa:=t3.ac+4) (ps:=AZ) (AF.AD ?_ λp A8=> ?_) ?_ ?_ ⟨by omega,λd=>by have:=Af _ d;omega,by omega,by omega,λd=>by have:=Af _ d;omega⟩ ?_ (by simp) (by simp) (by simp) (by simp) λAv t4 C Aw Ag BS Ay BT Az J Ah BU=> ?_
  ·simp(disch:=first|omega|simp only[DI.AB];omega)[-H,-D,-I,-F,-List.map_map]
  ·have C3:=Af p A8;simp(disch:=first|omega|simp only[DI.AB];omega)[-H,-D,-I,-F,-List.map_map]
  ·simp(disch:=first|omega|simp only[DI.AB];omega)[-H,-D,-I,-F,-List.map_map]
  ·simp(disch:=first|omega|simp only[DI.AB];omega)[-H,-D,-I,-F,-List.map_map]
  ·simp[Ae,U]
  simp only[Au,B1]at BT Az Ay;have C4:=E Aw;have C5:=E Ag;have B0: ∀c:X,c.Y C=t4.Y C->DI.B3 9 c (AM C L.length 1)=some (Bf (E2 u R L N))/\DI.B3 7 c (AM C L.length 1)=some (Bf (E2 u R L N)):= λc x=>⟨hB (k:=8) (w:=true) (by rw[x,Ag,AJ]) (by rw[P.len,U]),hB (k:=6) (w:=true) (by rw[x,Ag,AJ]) (by rw[P.len,U])⟩;have J:Av 1=Bf L:=(by rw[J];simp[AI]);have Ah:Av 6=AG 1:=(by rw[Ah];simp[Aa]);have low: ∀p∈AZ,16<=p:= λp A8=>(BO p A8).elim (λq=>by have:=M p q;omega) λq=>by omega
  have B2: ∀b,b<16->t4.Y b=t3.Y b:= λb hb=>by
   rw[Az b (by omega) (by omega) (by omega) λd=>by have:=low _ d;omega];have C6: ¬b=t3.ac+2:=by omega
   have C7: ¬b=t3.ac+4:=by omega
   have C8:b<t3.ac:=by omega
   simp(disch:=first|omega|simp only[DI.AB];omega)[-H,-D,-I,-F,-List.map_map]
  have f:=(B2 1 (by omega)).trans f;have A:=(B2 15 (by omega)).trans A;have Am:=E f;have CA:=E A;have BV: ¬C=1:= λe=>Ay.elim (λq=>by omega) λq=>by omega
  have CB: ¬1=C:= λe=>BV e.symm;have CC: ¬t3.ac+2=1:=by omega
  have CD: ¬1=t3.ac+2:=by omega
  have BW:=(B0 t4 rfl).1;have CE:(CP L/\CP (E2 u R L N))/\L.length<=50:=⟨⟨AN,BR⟩,by omega⟩;simp(disch:=first|omega|simp only[DI.AB];omega)[ig,J,Ah,BU,Aw,BW,f,-H,-D,-I,-F,-List.map_map];generalize B5:X.A1 (X.A1 (Ca t4 _) _ _) _ _=Ai;have BY:=(B0 Ai (by
   have BZ: ¬C=t3.ac+2:=BS
   rw[<-B5];simp(disch:=first|omega|simp only[DI.AB];omega)[-H,-D,-I,-F,-List.map_map])).2
  have Ba:DI.B3 7 Ai (AM 15 (C9 u R L).AS.toNat 1)=some (AK ps):=by
   have:=Ww (n:=5) (i:=(C9 u R L).AS.toNat) (t:=Ai) (o:=15) (l:=ps) (w:=true) (by
    have BZ: ¬15=t3.ac+2:=by omega
    rw[<-B5];refine Eq.trans ?_ A;simp(disch:=first|omega|simp only[DI.AB];omega)[-H,-D,-I,-F,-List.map_map]) (by omega)
   rwa [<-An,FJ,An]at this
  simp only[BY,Ba];exact⟨_,rfl,.inr ⟨N,p,A2,by rw[AU]⟩⟩
end Go.Proofs.YtmmkkggfmigppaaGreat
