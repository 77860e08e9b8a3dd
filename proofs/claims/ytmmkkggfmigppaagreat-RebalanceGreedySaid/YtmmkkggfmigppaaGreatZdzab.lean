/- A part of the proof. -/
import Derived.Test.YtmmkkggfmigppaaGreatZdzaa
set_option linter.all false
set_option maxRecDepth 20000
set_option maxHeartbeats 16000000
namespace Go.Proofs.YtmmkkggfmigppaaGreat
open Go Go.DI Go.EL
def OM(m:X)(q b:Nat)(l:List FF)(u:X):Prop:= ∃a,a.Perm l/\GG u q b a/\HH m u q b b
variable{b q i j B:Nat}{m u D:X}{l:List FF}{Q:BM->A2->X->Prop}{N:List Int}{n:Bw}{v:Value}{z:Int}
theorem HH.refl:HH m m q b b:=⟨Aj _,λ_ _ _ _=>rfl,.inl rfl⟩
theorem HH.trans(h:HH m u q b b)(a:HH u D q b b):HH m D q b b:=
 ⟨E8 h.ac a.ac,λc d e f=>by rw[a.Y c (GV d h.ac) e f,h.Y c d e f],.inl rfl⟩
theorem OM.refl(h:GG m q b l):OM m q b l m:=⟨l,.refl _,h,.refl⟩
theorem OM.trans{a:List FF}(c:a.Perm l)(d:HH m u q b b)(h:OM u q b a D):OM m q b l D:=by obtain⟨e,f,g,i⟩:=h;exact⟨e,f.trans c,g,d.trans i⟩
theorem Zm(h:GG m q b l){x y:FF}(a:l[i]?=some x)(c:l[j]?=some y)(a7:Value->X->Prop):
 HW V [(280,298,some (false,1))] (.iface 280 (AG q)) [Z i,Z j] m a7=a7 (.bool (decide (x.2<y.2))) m:=by
 obtain⟨d,⟨r,hb⟩,e⟩:=h;simp[d,Bj,Co,C3,a3w hb a c]
theorem VX(h:GG m q b l)(d:i<l.length)(e:j<l.length)(a7:Value->X->Prop)(k: ∀u a,a.Perm l->a.length=l.length->GG u q b a->HH m u q b b->a7 (.tuple #[]) u):
 HW V [(280,301,some (false,1))] (.iface 280 (AG q)) [Z i,Z j] m a7:=by
 obtain⟨f,⟨r,hb⟩,g⟩:=h;have n:=E hb;simp only[Kj,if_true,f,Bj,Co,C3];refine⟨by simp,?_⟩;have:=aAk hb (AP d) (AP e) a7;simp only[Gn,Wn,List.take_zero,List.headD_cons,E3,if_false]at this⊢;rw[this];refine k _ _ (List.set_set_perm d e) (by simp) ⟨?_,⟨r,?_⟩,g⟩ ⟨by simp only[Au];omega,λc p s o=>by rw[A6 o],.inl rfl⟩
 ·rw[A6 g,f];simp
 ·rw[AR n]
theorem a2Y: ∀(k j:Nat),j<=k-> ∀{m:X} {a:A2} {l:List FF},GG m q b l->l.length<1000000000->j<l.length->a 0= .iface 280 (AG q)->a 1=Z j->
 (∀r u,OM m q b l u->Q (.Ao 0) r u)->Az V (.loop Up) a m Q:=by
 intro k;induction k with
 | zero=>intro j B m a l h s e c f d;obtain rfl:j=0:=(by omega);refine Bm λC t=> ?_;have g:IntKind.i64.wrap (-1)= -1:=Ac (by omega) (by omega);have n:IntKind.i64.wrap 0=0:=Ac (by omega) (by omega);have o:Int.tdiv (-1) 2=0:=(by decide);simp[Up,f,g,n,o];exact d _ _ (.refl h)
 | succ k v=>
   intro j B m a l h s e c f d;by_cases J:j=0
   ·exact v j (by omega) h s e c f d
   obtain⟨i,rfl⟩: ∃i,j=i+1:=⟨j-1,by omega⟩;refine Bm λC t=> ?_;obtain⟨p,E⟩: ∃p,p=i/2:=⟨_,rfl⟩;have w:p<l.length:=(by omega);have g:IntKind.i64.wrap (i:Int)=i:=Ac (by omega) (by omega);have n:IntKind.i64.wrap (p:Int)=p:=Ac (by omega) (by omega);have o:Int.tdiv (i:Int) 2=(p:Int):=(by subst E;rfl);have x: ¬(p:Int)=(i:Int)+1:=(by omega);have y: ∀a7,HW V [(280,298,some (false,1))] (.iface 280 (AG q)) [Z ((i:Int)+1),Z (p:Int)] m a7=a7 (.bool (decide (l[i+1].2<l[p].2))) m:= λa7=>Zm h (AP e) (AP w) a7;have z:a 1=Z ((i:Int)+1):=f;by_cases A:l[i+1].2<l[p].2
   ·simp[-Kj,-Ky,Up,c,z,g,n,o,x,y,A];refine VX h (i:=p) (j:=i+1) w e _ λu K F L G H=> ?_;simp;exact t _ _ (v p (by omega) G (by omega) (by omega) (by simp[c]) (by simp) λr D I=>d _ _ (I.trans F H))
   ·simp[-Kj,-Ky,Up,c,z,g,n,o,x,y,A];exact d _ _ (.refl h)
theorem aBH(h:GG m q b l)(a:l.length<1000000000)(c:j<l.length)(a7:Value->X->Prop)(d: ∀u,OM m q b l u->a7 (.tuple #[]) u):
 At V 277 [.iface 280 (AG q),Z j] m a7:=by
 rw[a1Q (by simp)];simp[jx];refine a2Y j j (Aj _) h a c (by simp) (by simp) λf u e=> ?_;simp;exact d _ e
theorem aD7{n:Nat}: ∀(k i:Nat),n<=i+k-> ∀{m:X} {r:A2} {l:List FF},GG m q b l->l.length<1000000000->i<l.length->n<=l.length->r 0= .iface 280 (AG q)->r 2=Z n->r 7=Z i->
 (∀s u,OM m q b l u->(∃x:Int,s 7=Z x)->s 1=r 1->Q (.Ao 0) s u)->Az V (.loop Mf) r m Q:=by
 intro k;induction k with
 | zero=>intro i R m r l h S t T d c a e;refine Bm λU G=> ?_;have f:IntKind.i64.wrap (2*(i:Int))=2*i:=Ac (by omega) (by omega);have g:IntKind.i64.wrap (2*(i:Int)+1)=2*i+1:=Ac (by omega) (by omega);have o:(n:Int)<=2*(i:Int)+1:=(by omega);simp[-Kj,-Ky,Mf,c,a,f,g,o];exact e _ _ (.refl h) ⟨i,by simp[a]⟩ (by simp)
 | succ k K=>
   intro i R m r l h S t T d c a e;refine Bm λU G=> ?_;have f:IntKind.i64.wrap (2*(i:Int))=2*i:=Ac (by omega) (by omega);have g:IntKind.i64.wrap (2*(i:Int)+1)=2*i+1:=Ac (by omega) (by omega);have v:IntKind.i64.wrap (2*(i:Int)+1+1)=2*i+1+1:=Ac (by omega) (by omega);by_cases o:(n:Int)<=2*(i:Int)+1
   ·simp[-Kj,-Ky,Mf,c,a,f,g,o];exact e _ _ (.refl h) ⟨i,by simp[a]⟩ (by simp)
   have w: ¬(2*(i:Int)+1<0):=(by omega);have L:2*i+1<l.length:=(by omega);have H: ∀a7,HW V [(280,298,some (false,1))] (.iface 280 (AG q)) [Z (2*(i:Int)+1),Z (i:Int)] m a7=a7 (.bool (decide (l[2*i+1].2<l[i].2))) m:= λa7=>Zm h (AP L) (AP t) a7;by_cases y:2*(i:Int)+1+1<n
   ·have M:2*i+1+1<l.length:=(by omega);have I: ∀a7,HW V [(280,298,some (false,1))] (.iface 280 (AG q)) [Z (2*(i:Int)+1+1),Z (2*(i:Int)+1)] m a7=a7 (.bool (decide (l[2*i+1+1].2<l[2*i+1].2))) m:= λa7=>Zm h (AP M) (AP L) a7;have N: ∀a7,HW V [(280,298,some (false,1))] (.iface 280 (AG q)) [Z (2*(i:Int)+1+1),Z (i:Int)] m a7=a7 (.bool (decide (l[2*i+1+1].2<l[i].2))) m:= λa7=>Zm h (AP M) (AP t) a7;by_cases J:l[2*i+1+1].2<l[2*i+1].2
    ·by_cases p:l[2*i+1+1].2<l[i].2
     ·simp[-Kj,-Ky,Mf,d,c,a,f,g,v,o,w,y,I,N,J,p];refine VX h (i:=i) (j:=2*i+1+1) t (by omega) _ λu O z P A B=> ?_;simp;exact G _ _ (K (2*i+1+1) (by omega) A (by omega) (by omega) (by omega) (by simp[d]) (by simp[c]) (by simp) λs D C E F=>e _ _ (C.trans z B) E (by rw[F];simp))
     ·simp[-Kj,-Ky,Mf,d,c,a,f,g,v,o,w,y,I,N,J,p];exact e _ _ (.refl h) ⟨i,by simp[a]⟩ (by simp)
    ·by_cases p:l[2*i+1].2<l[i].2
     ·simp[-Kj,-Ky,Mf,d,c,a,f,g,v,o,w,y,H,I,J,p];refine VX h (i:=i) (j:=2*i+1) t (by omega) _ λu O z P A B=> ?_;simp;exact G _ _ (K (2*i+1) (by omega) A (by omega) (by omega) (by omega) (by simp[d]) (by simp[c]) (by simp) λs D C E F=>e _ _ (C.trans z B) E (by rw[F];simp))
     ·simp[-Kj,-Ky,Mf,d,c,a,f,g,v,o,w,y,H,I,J,p];exact e _ _ (.refl h) ⟨i,by simp[a]⟩ (by simp)
   ·by_cases p:l[2*i+1].2<l[i].2
    ·simp[-Kj,-Ky,Mf,d,c,a,f,g,v,o,w,y,H,p];refine VX h (i:=i) (j:=2*i+1) t (by omega) _ λu O z P A B=> ?_;simp;exact G _ _ (K (2*i+1) (by omega) A (by omega) (by omega) (by omega) (by simp[d]) (by simp[c]) (by simp) λs D C E F=>e _ _ (C.trans z B) E (by rw[F];simp))
    ·simp[-Kj,-Ky,Mf,d,c,a,f,g,v,o,w,y,H,p];exact e _ _ (.refl h) ⟨i,by simp[a]⟩ (by simp)
theorem a1q{n:Nat}(h:GG m q b l)(c:l.length<1000000000)(d:i<l.length)(e:n<=l.length)(a7:Value->X->Prop)(f: ∀v u,OM m q b l u->a7 v u):
 At V 276 [.iface 280 (AG q),Z i,Z n] m a7:=by
 rw[a0C (by simp)];simp[fN];refine aD7 n i (by omega) h c d e (by simp) (by simp) (by simp) λo u g j a=> ?_;obtain⟨x,k⟩:=j;simp at a;simp[k,a];exact f _ _ g
theorem HH.then(h:HH m u q b B)(a:HH u D q B B)(hb:b<m.ac):HH m D q b B:=
 ⟨E8 h.ac a.ac,λc d f g=>by have i:c≠B:=(by rcases h.BY with e|e<;>omega);rw[a.Y c (GV d h.ac) f i,h.Y c d f g],h.BY⟩
theorem HH.a4B(h:HH m u q b b)(a:HH u D q b B):HH m D q b B:=
 ⟨E8 h.ac a.ac,λc d f g=>by rw[a.Y c (GV d h.ac) f g,h.Y c d f g],a.BY.imp id λe=>E8 h.ac e⟩
theorem aD9(h:GG m q b l)(x:l.length<900000000)(s:FF)(a7:Value->X->Prop)(e: ∀v u B a,a.Perm (s::l)->GG u q B a->HH m u q b B->a7 v u):
 At V 264 [.iface 280 (AG q),.iface 282 (.agg #[Z s.1,Z s.2])] m a7:=by
 rw[a1g (by simp)];simp[lD];refine zD h (by omega) s _ λy f=> ?_;obtain⟨g,c,i⟩:=f;have j:IntKind.i64.wrap (l.length:Int)=l.length:=Ac (by omega) (by omega);have d:=c.SO;simp only[En,DZ,KC,Nat.zero_add]at d;simp[d,Bj,Co,C3,WK,j];have k:b<m.ac:=by obtain⟨r,hb⟩:=h.Uz;exact E hb
 refine aBH c (by simp;omega) (by simp) _ λz n=> ?_;obtain⟨o,p,t,w⟩:=n;simp;exact e _ _ g o (p.trans List.perm_append_comm) t (i.then w k)
theorem zS(h:GG m q b l)(o:l≠[])(L:l.length<900000000)(a7:Value->X->Prop)
 (p: ∀s u B d,l.Perm (s::d)->GG u q B d->HH m u q b B->a7 (.iface 282 (.agg #[Z s.1,Z s.2])) u):
 At V 262 [.iface 280 (AG q)] m a7:=by
 rw[a7P (by simp)];obtain⟨n,e⟩: ∃n,l.length=n+1:=⟨l.length-1,by have:=List.length_pos_iff.2 o;omega⟩;have f:=h.SO;rw[e]at f;have t:IntKind.i64.wrap (n:Int)=n:=Ac (by omega) (by omega);have M:b<m.ac:=by obtain⟨r,hb⟩:=h.Uz;exact E hb
 have w: ∀a7,HW V [(17,295,none),(280,261,some (false,1))] (.iface 280 (AG q)) [] m a7=a7 (Z ((n:Int)+1)) m:= λa7=>by simp[f,Bj,Co,C3,WK]
 simp[-Kj,-Ky,jc,w,t];refine VX h (i:=0) (j:=n) (by omega) (by omega) _ λN O x y z A=> ?_;simp[-Kj,-Ky];refine a1q z (by omega) (i:=0) (n:=n) (by omega) (by omega) _ λv P C=> ?_;obtain⟨a,g,D,F⟩:=C;simp;have k:a.length=n+1:=by rw[g.length_eq,y,e]
 obtain⟨c,s,rfl⟩: ∃c s,a=c++[s]:=⟨a.dropLast,a.getLast (by intro h;simp[h]at k),(List.dropLast_concat_getLast _).symm⟩;refine a8Y D (by simp at k;omega) _ λG H=> ?_;obtain⟨I,J,K⟩:=H;simp;exact p s G I c (x.symm.trans (g.symm.trans List.perm_append_comm)) J ((A.trans F).a4B K)
def Tl(n:Bw)(d:Nat×Bool):Int:=match n.A0[d.1]? with|some a=>if d.2 then a.k else-a.k|none=>0
theorem hG(x:n.CE)(hb:F5 n N){y I J W:Nat}(h:FN n N v y I J W m)(d:(BU z).1<n.A0.length)(K: ∀a∈n.A0,0<=a.k/\a.k<=1000)(a7:Value->X->Prop)(g: ∀u,Aa m u->a7 (.tuple #[Z (B2 n (BU z)),Z (BB n (BU z)),Z (AX n N (BU z)),Z (Tl n (BU z))]) u):At V 263 [AG y,Z z] m a7:=by
 rw[a6u (by simp)];have l:=h.s;have p:=h.f;have A3:=x.Gf;rcases Tu z with⟨i,q,A,L,B⟩|⟨i,q,A,B⟩
 all_goals
  rw[B]at d g;simp only at d;obtain⟨c,o,rfl,r⟩:=h.a.BY d;obtain⟨a,b⟩: ∃a,n.A0[i]?=some a:=⟨n.A0[i]'d,by simp⟩;have C:i<N.length:=(by rw[hb.1];exact d);obtain⟨aM,e⟩: ∃aM,N[i]?=some aM:=⟨N[i]'C,by simp⟩;have D: ∀h,N[i]'h=aM:= λh=>by rw[AP h]at e;simpa using e
  have A4:=hb.2 i a aM b e;have A5:=(x.Gu a (B5 b)).2.2;have w:=H6 b (j:=0) (by omega);have M:=H6 b (j:=1) (by omega);have O:=H6 b (j:=2) (by omega);rw[MG]at w;simp only[BC]at w;simp[BC]at M O;have P:(BI n.A0)[i*4]?=some (Z a.f):=w;have A6: ∀h:i*4<(BI n.A0).length,(BI n.A0)[i*4]'h=Z a.f:= λh=>by have:=P;rw[AP h]at this;simpa using this
  have A7:i*4+1<=n.A0.length*4:=(by omega);have A8:i*4+2<=n.A0.length*4:=(by omega);have AA:i*4+3<=n.A0.length*4:=(by omega);have Q:(i:Int)<n.A0.length:=(by omega);have R:(i:Int)<N.length:=(by omega);have F:i+1<=N.length:=C;have S:IntKind.i64.wrap (a.c-aM)=a.c-aM:=Ac (by omega) (by omega);have T:IntKind.i64.wrap (i:Int)=i:=Ac (by omega) (by omega);have U:=H6 b (j:=3) (by omega);simp[BC]at U;have t4:=Il b;have AB:=K a (B5 b);have G:IntKind.i64.wrap (-a.k)= -a.k:=Ac (by omega) (by omega);have AD:IntKind.i64.wrap (0-a.k)= -a.k:=(by rw[Int.zero_sub];exact G);have H:i*4+4<=n.A0.length*4:=(by omega);have AF:=E l;have AI:=E p;have AJ:=E r
 ·have Y:z<n.A0.length:=(by omega);have A2:z<N.length:=(by omega);simp(disch:=first|omega|simp only[A9];omega)[af,l,p,r,q,L,t4,BC,BG,D,F,H,Y,A2,S,Bj,Gi,Co,Fj,C3,Cn];have:=g ((m.AE 10).A1 (m.ac+8) (some {cells:=[Z a.f,Z a.t,Z a.c,Z a.k],own:=true})) (((Aa.refl m).AE 10).A1 (by omega));simpa[B2,BB,AX,Tl,b,e]using this
 ·simp(disch:=first|omega|simp only[A9];omega)[af,l,p,r,q,A,t4,BC,BG,D,Q,R,F,H,T,G,Bj,Gi,Co,Fj,C3,Cn];have:=g ((m.AE 11).A1 (m.ac+9) (some {cells:=[Z a.f,Z a.t,Z a.c,Z a.k],own:=true})) (((Aa.refl m).AE 11).A1 (by omega));simpa[B2,BB,AX,Tl,b,e]using this
def GC(a:Ah):Bool:= !decide (a.k<0)&& !decide (1000<a.k)&& !decide (1000000<a.c)
def Ik(n:Bw):Bool:=n.A0.all GC&&Db n
theorem oj{n:Bw}{v:Value}{g:X}(H:Dc g v n.A0)(J:n.A0.length<1000000000){Q:BM->A2->X->Prop}: ∀(r i:Nat) (m:X) (e:A2),i+r=n.A0.length->Aa g m->
 e 6=v->e 7=Z n.A0.length->e 8=Z i->
 (∀d u,Aa g u->d 1=e 1->(n.A0.drop i).all GC=true->Q (.Ao 0) d u)->(∀d u,Aa g u->(n.A0.drop i).all GC=false->d 2= .bool false->Q .Cz d u)->Az V (.loop QT) e m Q
 | 0,i,m,e,K,p,h,f,j,z,A=>by refine Bm λL I=> ?_;have b: ¬i<n.A0.length:=(by omega);simp[QT,f,j,b];exact z _ _ p (by simp) (by rw[Jw (by omega)];rfl)
 | r+1,i,m,e,K,p,h,f,j,z,A=>by
   refine Bm λL I=> ?_;have b:i<n.A0.length:=(by omega);obtain⟨a,B⟩: ∃a,n.A0[i]?=some a:=⟨n.A0[i]'b,by simp⟩;have C:n.A0.drop i=a::n.A0.drop (i+1):=by rw[Ht b];rw[AP b]at B;cases B;rfl
   obtain⟨c,o,rfl,M⟩:=H.BY b;have q:=p.some M;have W:=E q;have Y:=p.ac
   have hb:i*4+4<=n.A0.length*4:=(by omega);have t:=Il B;have N:=BZ (n:=i) (by omega);have w: ∀y,Aa g ((m.AE 4).A1 (m.ac+2) (some y)):= λy=>(p.AE 4).A1 (by omega);have stop: ∀(d:A2) (u:X),GC a=false->Aa g u->d 2= .bool false->Q .Cz d u:= λd u O P R=>A _ _ P (by rw[C,F3,O];rfl) R;by_cases l:a.k<0
   ·simp(disch:=first|omega|simp only[A9];omega)[QT,h,f,j,b,q,hb,t,BC,l];exact stop _ _ (by simp[GC,l]) (w _) (by simp)
   by_cases s:1000<a.k
   ·simp(disch:=first|omega|simp only[A9];omega)[QT,h,f,j,b,q,hb,t,BC,l,s];exact stop _ _ (by simp[GC,s]) (w _) (by simp)
   by_cases x:1000000<a.c
   ·simp(disch:=first|omega|simp only[A9];omega)[QT,h,f,j,b,q,hb,t,BC,l,s,x];exact stop _ _ (by simp[GC,x]) (w _) (by simp)
   simp(disch:=first|omega|simp only[A9];omega)[QT,h,f,j,b,q,hb,t,BC,l,s,x,N];refine I _ _ (oj H J r (i+1) _ _ (by omega) (w _) (by simp[h]) (by simp[f]) (by simp) (λS D F T G=>z _ _ F (by rw[T];simp) ?_) (λS D F G U=>A _ _ F ?_ U))
   ·rw[C,F3,G];simp[GC,l,s,x]
   ·rw[C,F3,G];simp
theorem q9(d:Dc m v n.A0)(f:n.A0.length<1000000000):At V 211 [Ic n v] m λr u=>r= .bool (Ik n)/\Aa m u:=by
 rw[a5X (by simp)];obtain⟨g,h⟩:=d.len;have c:Aa m ((m.AE 2).A1 m.ac (some ⟨Cd n v,true⟩)):=((Aa.refl m).AE 2).A1 (Aj _);have i:((m.AE 2).A1 m.ac (some ⟨Cd n v,true⟩)).Y m.ac=some ⟨Cd n v,true⟩:=AR (by simp)
 simp(disch:=first|omega|simp only[A9];omega)[kB,g,h];refine oj (d.AD c) f n.A0.length 0 _ _ (by omega) (Aa.refl _) (by simp) (by simp[]) (by simp) (λj u a e b=> ?_) (λj u a b k=> ?_)
 ·have l:=a.some i;simp at e;simp[e,l,Bj,Co,C3];refine(e7 ((d.AD c).AD a)).AD λr q o=> ?_;obtain⟨rfl,p⟩:=o;rw[Gn]at b;simp;exact⟨by simp[Ik,b],(c.trans a).trans p⟩
 ·simp[k];rw[Gn]at b;exact⟨by simp[Ik,b],c.trans a⟩
theorem q5{n:Bw}{v:Value}{b:Nat}{l:X}(C:l.Y b=some ⟨Cd n v,true⟩)(E:Dc l v n.A0)(M:n.A0.length<1000000000){Q:BM->A2->X->Prop}: ∀(r i:Nat) (m:X) (t:A2),i+r=n.A0.length->Aa l m->
 t 1=AG b->t 3=Z i->
 (∀f u,Aa l u->(n.A0.drop i).all GC=true->Q (.Ao 0) f u)->(∀f u,Aa l u->(n.A0.drop i).all GC=false->f 2= .bool false->Q .Cz f u)->Az V (.loop RE) t m Q
 | 0,i,m,t,N,e,g,p,F,G=>by refine Bm λO L=> ?_;obtain⟨P,R⟩:=E.len;have d: ¬i<n.A0.length:=(by omega);have q:=e.some C;simp[RE,g,p,d,q,P,R,Bj,Co,C3];exact F _ _ e (by rw[Jw (by omega)];rfl)
 | r+1,i,m,t,N,e,g,p,F,G=>by
   refine Bm λO L=> ?_;have d:i<n.A0.length:=(by omega);obtain⟨a,x⟩: ∃a,n.A0[i]?=some a:=⟨n.A0[i]'d,by simp⟩;have H:n.A0.drop i=a::n.A0.drop (i+1):=by rw[Ht d];rw[AP d]at x;cases x;rfl
   obtain⟨c,o,rfl,S⟩:=E.BY d;have y:=e.some S;have q:=e.some C;have z:i*4+3<=n.A0.length*4:=(by omega);have I:i*4+4<=n.A0.length*4:=(by omega);have h:=H6 x (j:=2) (by omega);have A:=H6 x (j:=3) (by omega);simp[BC]at h A;have T:=BZ (n:=i) (by omega);have stop: ∀(f:A2) (u:X),GC a=false->Aa l u->f 2= .bool false->Q .Cz f u:= λf u U W h=>G _ _ W (by rw[H,F3,U];rfl) h;by_cases s:1000000<a.c
   ·simp[RE,g,p,d,q,y,z,h,BG,s,Bj,Co,C3];exact stop _ _ (by simp[GC,s]) e (by simp)
   by_cases w:a.k<0
   ·simp[RE,g,p,d,q,y,z,I,h,A,BG,s,w,Bj,Co,C3];exact stop _ _ (by simp[GC,w]) e (by simp)
   by_cases B:1000<a.k
   ·simp[RE,g,p,d,q,y,z,I,h,A,BG,s,w,B,Bj,Co,C3];exact stop _ _ (by simp[GC,B]) e (by simp)
   simp[RE,g,p,d,q,y,z,I,h,A,BG,s,w,B,T,Bj,Co,C3];refine L _ _ (q5 C E M r (i+1) _ _ (by omega) e (by simp[g]) (by simp) (λA1 D J K=>F _ _ J ?_) (λA1 D J K A3=>G _ _ J ?_ A3))
   ·rw[H,F3,K];simp[GC,w,B,s]
   ·rw[H,F3,K];simp
theorem oS(f:Dc m v n.A0):At V 164 [Ic n v] m λr u=>r= .bool (Ik n)/\Aa m u:=by
 rw[a59 (by simp)];have a:Aa m ((m.AE 2).A1 m.ac (some ⟨Cd n v,true⟩)):=((Aa.refl m).AE 2).A1 (Aj _);have g:((m.AE 2).A1 m.ac (some ⟨Cd n v,true⟩)).Y m.ac=some ⟨Cd n v,true⟩:=AR (by simp)
 simp(disch:=first|omega|simp only[A9];omega)[du,Bj,Co,C3];refine(ra (f.AD a)).AD λr l h=> ?_;obtain⟨rfl,b⟩:=h;cases d:Db n
 ·simp;exact⟨by simp[Ik,d],a.trans b⟩
 simp;have i:n.A0.length<1000000000:=by have:=(QJ.1 d).Gf;omega
 refine q5 (b.some g) ((f.AD a).AD b) i n.A0.length 0 _ _ (by omega) (Aa.refl _) (by simp) (by simp) (λj u e c=> ?_) (λj u e c k=> ?_)
 ·simp;rw[Gn]at c;exact⟨by simp[Ik,c,d],(a.trans b).trans e⟩
 ·simp[k];rw[Gn]at c;exact⟨by simp[Ik,c],(a.trans b).trans e⟩
end Go.Proofs.YtmmkkggfmigppaaGreat
namespace Go.EL
def Dd(n:Bw)(e:CM):Int:=match n.A0[e.1]? with|some a=>if e.2 then a.k else-a.k|none=>0
def Eh(n:Bw)(p:Int->Int)(e:CM):Int:=Dd n e+p (B2 n e)-p (BB n e)
def E0(n:Bw)(N:List Int)(p:Int->Int):Prop:= ∀e,0<AX n N e->0<=Eh n p e
def Eg:List Ah->List Int->Int
 |a::F,aM::fs=>aM*a.k+Eg F fs
 |_,_=>0
def Nc(p:Int->Int):List Ah->List Int->Int
 |a::F,aM::fs=>aM*(a.k+p a.f-p a.t)+Nc p F fs
 |_,_=>0
def JM(p:Int->Int):List Ah->List Int->Int
 |a::F,aM::fs=>aM*(p a.f-p a.t)+JM p F fs
 |_,_=>0
theorem jF(p:Int->Int): ∀(F:List Ah) (fs:List Int),Nc p F fs=Eg F fs+JM p F fs
 |[],_=>by simp[Nc,Eg,JM]
 |_::_,[]=>by simp[Nc,Eg,JM]
 | a::F,aM::fs=>by
   have:=jF p F fs
   grind [Nc,Eg,JM]
theorem vt(s:Int->Bool)(p:Int->Int)(y aM:Int)(a:0<=y)(b:s y=true)(k:Nat)(c:y<k):Gj s (λx=>p x*Bd y x aM) k=p y*aM:=by have:=dE s (λx=>p x*Bd y x aM) k y a b (λx _ _ _ d=>by simp[Bd,Ne.symm d]) k (Aj _) c;rw[this];simp[Bd]
theorem xC(p:Int->Int)(W:Nat): ∀(c:List Ah) (fs:List Int),(∀a∈c,(0<=a.f/\a.f<W)/\(0<=a.t/\a.t<W))->Gj (λ_=>true) (λx=>p x*Cx c fs x) W=JM p c fs
 | [],fs,_=>by
   simp_all [Cx,Ve,JM]
 | a::c,[],_=>by
   simp_all [Cx,Ve,JM]
 | a::c,aM::fs,h=>by
   have e:(λx=>p x*Cx (a::c) (aM::fs) x)= λx=>(p x*Bd a.f x aM+p x*Bd a.t x (-aM))+p x*Cx c fs x:=by
    grind [Cx,gU]
   obtain⟨d,g⟩:=h a (by simp);rw[e,UN,UN,vt _ p _ _ d.1 rfl W d.2,vt _ p _ _ g.1 rfl W g.2,xC p W c fs (λb hb=>h b (by simp[hb]))]
   grind [JM]
theorem yK(p:Int->Int)(c:Int): ∀(b:List Ah) (fs:List Int),JM (λx=>p x-c) b fs=JM p b fs
 |[],_=>by simp[JM]
 |_::_,[]=>by simp[JM]
 | a::b,aM::fs=>by
   have:=yK p c b fs
   grind [JM]
variable{N:List Int}{n:Bw}{a:Ah}{i W:Nat}{p bd:Int->Int}{aM v x:Int}{G:Type}{A:Int->CM}{ml q:List (Int×Int)}{e:CM}{s:Int×Int}{l:List CM}
theorem po(h:n.CE)(b:DT n N)(p:Int->Int):JM p n.A0 N=(p n.Ad-p n.Aq)*value n N:=by
 have e:=h.Lq;have c:=h.Ad;unfold Bw.Ci at c;rw[<-yK p (p n.Aq),<-xC _ n.AS.toNat n.A0 N h.iZ];rw[dE (λ_=>true) _ n.AS.toNat n.Ad (by omega) rfl _ n.AS.toNat (Aj _) (by omega)]
 ·rfl
 intro x d f _ xs;by_cases a:x=n.Aq
 ·subst a;simp
 ·simp only[b.RV x ⟨d,by omega⟩ xs a,Int.mul_zero]
theorem n3{n:Bw}(p:Int->Int): ∀(b:List Ah) (fs e:List Int),fs.length=b.length->e.length=b.length->
 (∀(i:Nat) a aM d,b[i]?=some a->fs[i]?=some aM->e[i]?=some d->(0<=d/\d<=a.c)/\(aM<a.c->0<=a.k+p a.f-p a.t)/\(0<aM->a.k+p a.f-p a.t<=0))->Nc p b fs<=Nc p b e
 |[],_,_,_,_,_=>by simp[Nc]
 |a::b,[],_,h,_,_=>by simp at h
 |a::b,_::_,[],_,h,_=>by simp at h
 | a::b,aM::fs,d::e,g,j,h=>by
   have:=n3 (n:=n) p b fs e (by simpa using g) (by simpa using j) (λi a aM d l m o=>h (i+1) a aM d (by simpa using l) (by simpa using m) (by simpa using o));obtain⟨⟨q,s⟩,u,v⟩:=h 0 a aM d rfl rfl rfl;simp only[Nc];have:aM*(a.k+p a.f-p a.t)<=d*(a.k+p a.f-p a.t):=by
    generalize a.k+p a.f-p a.t=r at*;by_cases w:0<r
    ·exact Jt (by omega) (by omega)
    ·by_cases x:r<0
     ·exact Int.mul_le_mul_of_nonpos_right (by omega) (by omega)
     ·grind
   omega
theorem vD(b:n.A0[i]?=some a):Eh n p (i,true)=a.k+p a.f-p a.t:=by simp[Eh,Dd,B2,BB,b]
theorem nI(b:n.A0[i]?=some a):Eh n p (i,false)= -(a.k+p a.f-p a.t):=by simp[Eh,Dd,B2,BB,b];omega
theorem E0.A0(h:E0 n N p)(b:n.A0[i]?=some a)(d:N[i]?=some aM):(aM<a.c->0<=a.k+p a.f-p a.t)/\(0<aM->a.k+p a.f-p a.t<=0):=by
 refine⟨λe=> ?_,λe=> ?_⟩
 ·have:=h (i,true) (by simp[AX,b,d];omega)
  rwa [vD b]at this
 ·have:=h (i,false) (by simp[AX,b,d];omega);rw[nI b]at this;omega
theorem E0.a4r(h: ∀(i:Nat) a aM,n.A0[i]?=some a->N[i]?=some aM->(aM<a.c->0<=a.k+p a.f-p a.t)/\(0<aM->a.k+p a.f-p a.t<=0)):E0 n N p:=by
 rintro⟨i,b⟩ d
 grind [AX,nI,vD]
theorem E0.yf(c:n.CE){g:List Int}(h:E0 n N p)(d:DT n N)(b:DT n g):Eg n.A0 N+(p n.Aq-p n.Ad)*(value n g-value n N)<=Eg n.A0 g:=by
 have f:=n3 (n:=n) p n.A0 N g d.Da.1 b.Da.1 λi a aM j e k l=>⟨b.Da.2 i a j e l,h.A0 e k⟩;rw[jF,jF,po c d,po c b]at f
 grind
theorem E0.zero(b:n.CE)(c: ∀a∈n.A0,0<=a.k):E0 n (List.replicate n.A0.length 0) (λ_=>0):=by
 grind [E0.a4r]
def Bt:Int:=1099511627776
def GM(bd:Int->Int):Int->Bool:= λv=>decide (bd v<Bt)
theorem NV:GM bd v=true↔bd v<Bt:=by simp[GM]
structure EU(n:Bw)(N:List Int)(p:Int->Int)(W:Nat)(bd:Int->Int)(A:Int->CM)(q:List (Int×Int)):Prop where
 Ad:bd n.Ad=0
 DY: ∀v,0<=bd v
 Hj: ∀v,bd v<=Bt
 cap: ∀v,bd v<Bt->bd v+p v+1000*GI (GM bd) W<=1000*W
 Ci: ∀v,bd v<Bt->n.Ci v
 Qh: ∀s∈q,n.Ci s.1/\bd s.1<=s.2/\s.2<Bt
 Mt: ∃(L6:Int->Nat) (c:Nat),(∀v,L6 v<c)/\ ∀v,bd v<Bt->v≠n.Ad->0<AX n N (A v)/\BB n (A v)=v/\bd (B2 n (A v))<Bt/\bd (B2 n (A v))+Eh n p (A v)<=bd v/\(bd (B2 n (A v))<bd v\/bd (B2 n (A v))=bd v/\L6 (B2 n (A v))<L6 v)
 RU: ∀e,0<AX n N e->bd (B2 n e)<Bt->(B2 n e,bd (B2 n e))∉q->bd (BB n e)<=bd (B2 n e)+Eh n p e
theorem EY{f:Int->G}{v:G}:Ai f x v x=v:=by simp[Ai]
theorem Dt{f:Int->G}{y:Int}{v:G}(h:y≠x):Ai f x v y=f y:=by simp[Ai,h]
theorem EU.tg(h:EU n N p W bd A q)(a: ∀s,s∈q↔s∈ml):EU n N p W bd A ml:=
 ⟨h.Ad,h.DY,h.Hj,h.cap,h.Ci,λs b=>h.Qh s ((a s).2 b),h.Mt,λe c d f=>h.RU e c d (λg=>f ((a _).1 g))⟩
theorem EU.add(h:EU n N p W bd A q)(E:n.AS=W)(o:E0 n N p)(F: ∀e,Dd n e<=1000)(r:0<AX n N e)(t:bd (B2 n e)<Bt)(j:bd (B2 n e)+Eh n p e<bd (BB n e))(i:n.Ci (BB n e)):
 EU n N p W (Ai bd (BB n e) (bd (B2 n e)+Eh n p e)) (Ai A (BB n e) e) ((BB n e,bd (B2 n e)+Eh n p e)::q):=by
 have G:=o e r;have H:=h.DY (B2 n e);have I:B2 n e≠BB n e:= λf=>by rw[f]at j;omega
 have u:BB n e≠n.Ad:= λf=>by rw[f,h.Ad]at j;omega
 have J:=h.Hj (BB n e);have w: ∀v,Ai bd (BB n e) (bd (B2 n e)+Eh n p e) v<=bd v:= λv=>by
  grind [EY,Dt]
 generalize K:bd (B2 n e)+Eh n p e=d at*;have x:0<=d:=by omega
 have y:(bd (BB n e)<Bt->GI (GM (Ai bd (BB n e) d)) W=GI (GM bd) W)/\(¬bd (BB n e)<Bt->GI (GM (Ai bd (BB n e) d)) W+1=GI (GM bd) W):=by
  have g:GM (Ai bd (BB n e) d)=Ai (GM bd) (BB n e) true:=by
   grind [EY,GM,Dt]
  refine⟨λf=> ?_,λf=> ?_⟩
  ·have:Ai (GM bd) (BB n e) true=GM bd:=by
    grind [EY,NV,Dt]
   rw[g,this]
  ·rw[g];exact Rd (GM bd) (BB n e) i.1 (by simp[GM,f]) W (by have:=i.2;omega)
 have z:d+p (BB n e)+1000*GI (GM (Ai bd (BB n e) d)) W<=1000*W:=by
  by_cases f:bd (BB n e)<Bt
  ·have:=h.cap _ f;rw[y.1 f];omega
  ·have:=h.cap _ t
   grind [Eh]
 have L:GI (GM (Ai bd (BB n e) d)) W<=GI (GM bd) W:=by omega
 refine⟨?_,λv=> ?_,λv=>NW (w v) (h.Hj v),λv a=> ?_,λv a=> ?_,λs g=> ?_,?_,λk B l m=> ?_⟩
 ·rw[Dt u.symm];exact h.Ad
 ·by_cases a:v=BB n e
  ·subst a;rw[EY];exact x
  ·rw[Dt a];exact h.DY v
 ·by_cases b:v=BB n e
  ·subst b;rw[EY];exact z
  ·rw[Dt b]at a⊢;have:=h.cap v a;omega
 ·by_cases b:v=BB n e
  ·subst b;exact i
  ·rw[Dt b]at a;exact h.Ci v a
 ·rcases CZ.1 g with rfl|g
  ·grind [EY]
  ·obtain⟨M,O,a3⟩:=h.Qh s g
   grind
 ·obtain⟨L6,c,P,hb⟩:=h.Mt;refine⟨Ai L6 (BB n e) c,c+1,λv=> ?_,λv a g=> ?_⟩
  ·grind [EY,Dt]
  ·by_cases b:v=BB n e
   ·grind [EY,Dt]
   ·rw[Dt b]at a;rw[Dt b,Dt b,Dt b]
    grind [EY,Dt]
 ·by_cases C:B2 n k=BB n e
  ·grind [EY]
  ·rw[Dt C]at l m⊢;have:=h.RU k B l (λD=>m (Pc _ D))
   grind
theorem EU.a34(h:EU n N p W bd A (s::q))(d:bd s.1<s.2):EU n N p W bd A q:=
 ⟨h.Ad,h.DY,h.Hj,h.cap,h.Ci,λx a=>h.Qh x (by simp[a]),h.Mt,λe b c f=>h.RU e b c (λg=>by
  grind)⟩
theorem EU.dq(h:EU n N p W bd A (s::q))(b: ∀e,0<AX n N e->B2 n e=s.1->bd (BB n e)<=bd (B2 n e)+Eh n p e):EU n N p W bd A q:=
 ⟨h.Ad,h.DY,h.Hj,h.cap,h.Ci,λx c=>h.Qh x (by simp[c]),h.Mt,λe a d g=>by
  by_cases f:B2 n e=s.1
  ·exact b e a f
  ·exact h.RU e a d (λi=>by
    grind)⟩
theorem EU.Rh(d:n.CE)(f:n.AS=W)(N:List Int)(g:p n.Ad=0)(A:Int->CM):EU n N p W (Ai (λ_=>Bt) n.Ad 0) A [(n.Ad,0)]:=by
 have only: ∀v,Ai (λ_=>Bt) n.Ad 0 v<Bt->v=n.Ad:= λv a=>by
  grind [Dt]
 have c:Ai (λ_=>Bt) n.Ad (0:Int) n.Ad=0:=EY;refine⟨c,λv=> ?_,λv=> ?_,λv a=> ?_,λv a=>by rw[only v a];exact d.Ad,λs b=> ?_,⟨λ_=>0,1,by simp,λv a b=>absurd (only v a) b⟩,λe i j k=> ?_⟩
 ·by_cases h:v=n.Ad
  ·simp_all
  ·rw[Dt h];decide
 ·by_cases h:v=n.Ad
  ·subst h;rw[c];decide
  ·rw[Dt h];exact FM _
 ·grind [iI]
 ·simp at b;subst b;simp only;rw[c];exact⟨d.Ad,FM _,by decide⟩
 ·grind
theorem EU.QW(h:EU n N p W bd A [])(m:W<=700)(o: ∀v,0<=p v)(q: ∀e,Dd n e<=1000)(r: ∀v,p v<=1000000):Rw n N (GM bd) A:=by
 refine⟨NV.2 (by rw[h.Ad];decide),?_,λe d f=> ?_⟩
 ·obtain⟨L6,c,g,hb⟩:=h.Mt;refine⟨λv=>(bd v).toNat*(c+1)+L6 v,λv i j=> ?_⟩;obtain⟨k,l,a3,a4,a⟩:=hb v (NV.1 i) j;refine⟨k,l,NV.2 a3,?_⟩;have s:=h.DY v;have t:=h.DY (B2 n (A v));have u:=g (B2 n (A v));show(bd (B2 n (A v))).toNat*(c+1)+L6 (B2 n (A v))<(bd v).toNat*(c+1)+L6 v;rcases a with a|⟨a,w⟩
  ·have:(bd (B2 n (A v))).toNat+1<=(bd v).toNat:=(by omega);have:=KI (c+1) this
   grind
  ·rw[a];omega
 ·have b:=NV.1 f;have:=h.RU e d b (by simp);have c:=h.cap _ b
  grind [NV,Eh,Bt]
def H3(p bd:Int->Int)(a:Int):Int->Int:= λv=>p v+(if bd v<a then bd v else a)
theorem EU.uB(h:EU n N p W bd A [])(c:E0 n N p){a:Int}(d:a<Bt):E0 n N (H3 p bd a):=by
 intro e b;have f:=c e b;have g:=h.RU e b
 grind [Eh,H3]
theorem EU.HK(h:EU n N p W bd A [])(f:E0 n N p){b:Int}(i:b<Bt): ∀{l:List CM} {x:Int},Gt n A x l->bd x<=b-> ∀e∈l,Eh n (H3 p bd b) e=0
 |[],_,_,_,e,a=>by simp at a
 | o::l,x,d,q,e,a=>by
   cases d with
   | cons j r d=>
     obtain⟨L6,c,s,hb⟩:=h.Mt;obtain⟨g,k,a3,a4,t⟩:=hb x (by omega) j;have u:=f _ g;have m:=h.RU _ g a3 (by simp);rw[k]at m;rcases CZ.1 a with rfl|a
     ·grind [Eh,H3]
     ·exact h.HK f i d (by omega) e a
theorem a7x{a:CM}(h:a.1=e.1)(b:Eh n p e=0):Eh n p a=0:=by
 grind [Eh,Dd,B2,BB]
theorem sW{n:Bw}{d:Int}{dg:CM}: ∀{l:List CM} {N:List Int},(∀e∈l,dg.1≠e.1)->AX n (G6 N l d) dg=AX n N dg
 |[],_,_=>rfl
 | e::l,N,h=>by
   have:=sW (n:=n) (d:=d) (dg:=dg) (l:=l) (N:=push N e d) (λx a=>h x (by simp[a]))
   grind [G6,Tf]
theorem E0.push(h:E0 n N p)(i: ∀e∈l,Eh n p e=0)(d:Int):E0 n (G6 N l d) p:=by
 intro c f;by_cases g: ∃e∈l,c.1=e.1
 ·obtain⟨e,a,b⟩:=g;rw[a7x b (i e a)];exact FM _
 ·rw[sW (λe a b=>g ⟨e,a,b⟩)]at f;exact h c f
def iQz(g:Int->Nat):Nat->Nat
 |0=>0
 |k+1=>iQz g k+g k
theorem tF(g:Int->Nat)(x:Int)(c:Nat): ∀k:Nat,(k:Int)<=x->iQz (Ai g x c) k=iQz g k
 |0,_=>rfl
 |k+1,h=>by simp only[iQz,tF g x c k (by omega),Dt (show(k:Int)≠x by omega)]
theorem hh(g:Int->Nat)(x:Int)(c:Nat)(a:0<=x): ∀k:Nat,x<k->iQz (Ai g x c) k+g x=iQz g k+c
 |0,h=>by omega
 | k+1,h=>by
   by_cases b:x=k
   ·grind [iQz,tF,EY]
   ·have:=hh g x c a k (by omega)
    grind [iQz,Dt]
theorem sm(g:Int->Nat)(a:Nat)(h: ∀x,g x<=a): ∀k,iQz g k<=k*a
 |0=>by simp[iQz]
 |k+1=>by have:=sm g a h k;have:=h k;simp only[iQz,IQ];omega
def G1(bd:Int->Int):Int->Nat:= λv=>min (bd v).toNat 700001
theorem aCX(bd:Int->Int)(x d:Int):G1 (Ai bd x d)=Ai (G1 bd) x (min d.toNat 700001):=by
 grind [G1,EY,Dt]
theorem nP{d:Int}(a:0<=x)(b:x<W)(c:0<=d)(e:d<bd x)(f:d<=700000):iQz (G1 (Ai bd x d)) W+1<=iQz (G1 bd) W:=by
 grind [aCX,hh,G1]
theorem a6p(bd:Int->Int)(W:Nat):iQz (G1 bd) W<=W*700001:=sm _ _ (λx=>by unfold G1;omega) W
end Go.EL
namespace Go.Proofs.YtmmkkggfmigppaaGreat
open Go Go.DI Go.EL
def Jn(n:Bw)(N:List Int):Int×Bool:=if(Gb n N).2&&Ik n then(Eg n.A0 N,true)else(0,false)
variable{N:List Int}{a:Ah}{aM:Int}{i b:Nat}{F:List Ah}{m u:X}{n:Bw}{e:Nat×Bool}{l q:List FF}{x:Option CC}
theorem ru(b:F[i]?=some a)(c:N[i]?=some aM):Eg (F.drop i) (N.drop i)=aM*a.k+Eg (F.drop (i+1)) (N.drop (i+1)):=by obtain⟨d,rfl⟩:=Ae.1 b;obtain⟨e,rfl⟩:=Ae.1 c;rw[Ht d,Ht e];rfl
theorem wx{f:Int}(F:f=1000000000){n:Bw}{N:List Int}{v w:Value}{p:X}(G:Dc p v n.A0)(H:HU p w N)(hb:F5 n N)(I:n.CE)(J: ∀a∈n.A0,GC a=true){Q:BM->A2->X->Prop}: ∀(r i:Nat) (e:Int) (m:X) (g:A2),i+r=n.A0.length->Aa p m->0<=e->e<=i*f->
 g 1=w->g 25=v->g 26=Z n.A0.length->g 27=Z i->g 8=Z e->
 (∀K u,Aa p u->K 8=Z (e+Eg (n.A0.drop i) (N.drop i))->Q (.Ao 0) K u)->Az V (.loop XH) g m Q
 | 0,i,e,m,g,P,j,R,S,x,y,q,z,A,B=>by refine Bm λT L=> ?_;have l: ¬i<n.A0.length:=(by omega);simp(disch:=first|omega|simp only[A9];omega)[XH,q,z,l];exact B _ _ j (by rw[Jw (by omega)];simp[A,Eg])
 | r+1,i,e,m,g,P,j,R,S,x,y,q,z,A,B=>by
   refine Bm λT L=> ?_;have l:i<n.A0.length:=(by omega);have AI:=I.Gf;obtain⟨a,s⟩: ∃a,n.A0[i]?=some a:=⟨n.A0[i]'l,by simp⟩;have C:i<N.length:=(by rw[hb.1];exact l);obtain⟨aM,t⟩: ∃aM,N[i]?=some aM:=⟨N[i]'C,by simp⟩;have U: ∀h,N[i]'h=aM:= λh=>by rw[AP h]at t;simpa using t
   have AJ:=hb.2 i a aM s t;have W:=J a (B5 s);simp[GC]at W;have AK:0<=aM*a.k:=MH (by omega) (by omega);have AL:aM*a.k<=f:=(by rw[F];exact Int.mul_le_mul (a:=aM) (b:=a.k) (c:=1000000) (d:=1000) (by omega) (by omega) (by omega) (by omega));have AM:(i:Int)*f<=2500*f:=Jt (by omega) (by omega);have AN:((i+1:Nat):Int)*f=i*f+f:=(by push_cast;rw[Int.add_mul];omega);obtain⟨c,o,rfl,Y⟩:=G.BY l;obtain⟨d,o',rfl,A3⟩:=H.BY C;have M:=j.some Y;have O:=j.some A3;have AO:=E M;have AQ:=E O;have AR:=j.ac
   have A4:i*4+4<=n.A0.length*4:=(by omega);have A5:(i:Int)<N.length:=(by omega);have A6:i+1<=N.length:=C;have A7:=Il s;have A8:=BZ (n:=i) (by omega);have AA:IntKind.i64.wrap (aM*a.k)=aM*a.k:=Ac (by omega) (by omega);have AB:IntKind.i64.wrap (e+aM*a.k)=e+aM*a.k:=Ac (by omega) (by omega);simp(disch:=first|omega|simp only[A9];omega)[XH,x,y,q,z,A,l,M,O,A4,A5,A6,A7,BC,BG,U,A8,AA,AB,Bj,Gi,Co,Fj,C3,Cn];refine L _ _ (wx F G H hb I J r (i+1) (e+aM*a.k) _ _ (by omega) ((j.AE _).A1 (by omega)) (by omega) (by omega) (by simp[x]) (by simp[y]) (by simp[q]) (by simp) (by simp) (λAS D AD AF=>B _ _ AD ?_));rw[AF,ru s t,Int.add_assoc]
theorem a3g{v w:Value}(e:Dc m v n.A0)(i:HU m w N)(k:n.A0.length<1000000000):At V 155 [Ic n v,w] m λr u=>r= .tuple #[Z (Jn n N).1,.bool (Jn n N).2]/\Aa m u:=by
 rw[a6z (by simp)];obtain⟨l,o⟩:=e.len;have b:Aa m ((m.AE 3).A1 m.ac (some ⟨Cd n v,true⟩)):=((Aa.refl m).AE 3).A1 (Aj _);have p:((m.AE 3).A1 m.ac (some ⟨Cd n v,true⟩)).Y m.ac=some ⟨Cd n v,true⟩:=AR (by simp)
 simp(disch:=first|omega|simp only[A9];omega)[e1,Bj,Co,C3];refine(a4Z (e.AD b) (i.AD b)).AD λr A g=> ?_;obtain⟨rfl,c⟩:=g;have j:=c.some p;cases h:(Gb n N).2
 ·simp[];exact⟨by simp[Jn,h],b.trans c⟩
 simp[j,Bj,Co,C3];refine(q9 ((e.AD b).AD c) k).AD λr B g=> ?_;obtain⟨rfl,d⟩:=g;have q:=d.some j;cases f:Ik n
 ·simp;exact⟨by simp[Jn,f],(b.trans c).trans d⟩
 obtain⟨s,t,_⟩:=mT h;have x: ∀a∈n.A0,GC a=true:=by simp only[Ik,AF,BR]at f;exact f.1
 simp[q,l,o,Bj,Co,C3];refine wx rfl (((e.AD b).AD c).AD d) (((i.AD b).AD c).AD d) t.1 s x n.A0.length 0 0 _ _ (by omega) (Aa.refl _) (by omega) (by simp) (by simp) (by simp) (by simp[]) (by simp) (by simp) (λC u y z=> ?_);simp[z];exact⟨by simp[Jn,h,f],((b.trans c).trans d).trans y⟩
theorem a4d:Tl n e=Dd n e:=by unfold Tl Dd;rfl
theorem GG.AD{q:Nat}(h:GG m q b l)(a:Aa m u):GG u q b l:=by obtain⟨r,c⟩:=h.Uz;exact⟨a.some h.SO,⟨r,a.some c⟩,h.D6⟩
theorem GG.A1{q c:Nat}(h:GG m q b l)(a:q≠c)(d:b≠c):GG (m.A1 c x) q b l:=by obtain⟨r,e⟩:=h.Uz;exact⟨by rw[A6 a];exact h.SO,⟨r,by rw[A6 d];exact e⟩,h.D6⟩
structure Qk(a c d b W:Nat)(bd e:Int->Int)(q:List FF)(m:X):Prop where
 dT:m.Y a=some ⟨An W bd,true⟩
 aW:m.Y c=some ⟨An W e,true⟩
 ct:GG m d b q
 a9f:a≠c
 Lq:d≠a
 a1o:d≠c
 a44:b≠a
 a0L:b≠c
theorem Qk.AD{c d e W:Nat}{bd f:Int->Int}(h:Qk c d e b W bd f q m)(a:Aa m u):Qk c d e b W bd f q u:=
 ⟨a.some h.dT,a.some h.aW,h.ct.AD a,h.a9f,h.Lq,h.a1o,h.a44,h.a0L⟩
structure Xc(b c d e f W:Nat)(a:A2):Prop where
 aMG:a 0=AG b
 Fe:a 1= .slice (some ⟨c,0,none⟩) W 1
 K1:a 6= .slice (some ⟨d,0,none⟩) W 1
 KG:a 7= .slice (some ⟨e,0,none⟩) W 1
 RP:a 9=AG f
theorem j7{n:Bw}(A8:n.CE){W:Nat}(AJ:n.AS=W){N:List Int}(Af:F5 n N){p:Int->Int}(AK:E0 n N p)(AL: ∀v,0<=p v/\p v<=1000000)(Ag: ∀a∈n.A0,0<=a.k/\a.k<=1000)(AM: ∀e,-1000<=Dd n e/\Dd n e<=1000){v:Value}{AN Bp BO e2:Nat}{i:X}(A9:FN n N v AN Bp BO W i)(AO:i.Y BO=some ⟨An W p,true⟩){y A G:Nat}(BQ:i.ac<=y)(BR:i.ac<=A)(BS:i.ac<=G)
 {aY:Nat} (H:aY<W) {nG:Int} {fP:Nat} (BT:i.ac<=fP) (Ah:fP≠y) (Ak:fP≠A) (a3:fP≠G) {L:List Int} {BV:Value} (Al:HU i BV L) (Am: ∀z∈L,(BU z).1<n.A0.length/\B2 n (BU z)=aY) (BW:L.length<100000) {Ap:Nat} (Ba:Ap<800000000) {Q:BM->A2->X->Prop}:
 ∀(r j:Nat) (m:X) (D:A2) (b:Nat) (q:List FF) (bd l:Int->Int),j+r=L.length->Aa i m->i.ac<=b->fP≠b->Qk y A G b W bd l q m->m.Y fP=some ⟨[Z aY,Z nG],true⟩->q.length+iQz (G1 bd) W<=Ap->
 EU n N p W bd (λx=>BU (l x)) (((aY:Int),nG)::q)->bd aY=nG->nG<Bt->(∀z∈L.take j,0<AX n N (BU z)->bd (BB n (BU z))<=nG+Eh n p (BU z))->Xc AN e2 y A G W D->D 10=AG fP->D 75=BV->D 76=Z L.length->D 77=Z j->
 (∀f u B ml F AQ,Aa i u->i.ac<=B->Qk y A G B W F AQ ml u->ml.length+2*iQz (G1 F) W<=q.length+2*iQz (G1 bd) W->ml.length+iQz (G1 F) W<=Ap->EU n N p W F (λx=>BU (AQ x)) (((aY:Int),nG)::ml)->F aY=nG->(∀z∈L,0<AX n N (BU z)->F (BB n (BU z))<=nG+Eh n p (BU z))->Xc AN e2 y A G W f->Q (.Ao 4) f u)->
 Az V (.loop ck) D m Q
 | 0,j,m,D,b,q,bd,l,Bq,AA,hb,Aq,Ar,Bb,As,o,t,O,AT,At,I,AB,P,S,AU=>by refine Bm λBc Av=> ?_;obtain⟨w,AE,J,U,A3⟩:=At;have A4: ¬j<L.length:=(by omega);simp[ck,P,S,A4];refine AU _ _ b q bd l AA hb Ar (Aj _) As o t (λz K=>AT z ?_) ⟨by simp[w],by simp[AE],by simp[J],by simp[U],by simp[A3]⟩;rw[DP (by omega)];exact K
 | r+1,j,m,D,b,q,bd,l,Bq,AA,hb,Aq,Ar,Bb,As,o,t,O,AT,At,I,AB,P,S,AU=>by
   refine Bm λBc Av=> ?_;obtain⟨w,AE,J,U,A3⟩:=At;have A4:j<L.length:=(by omega);have Br:j+1<=L.length:=A4;obtain⟨z,AV⟩: ∃z,L[j]?=some z:=⟨L[j]'A4,by simp⟩;have Bs: ∀h,L[j]'h=z:= λh=>by rw[AP h]at AV;simpa using AV
   have Bu:=B5 AV;obtain⟨Bd,Aw⟩:=Am z Bu;obtain⟨Bv,CR,rfl,Bx⟩:=Al.BY A4;have Be:=AA.some Bx;have CS:=E Be;have By:=A9.AD AA;have Bf:L.take (j+1)=L.take j++[z]:=(by rw[N9,AV];rfl);have Bg:=(c0 A8 Bd).2;simp[ck,AB,P,S,w,A4,Br,Be,Bs,BG];refine hG A8 Af By (z:=z) Bd Ag _ λAx Ay=> ?_;rw[a4d];have AF:=AA.trans Ay;have Bz:=Ar.AD Ay;obtain⟨AW,B0,AY,B1,B3,B4,Bh,Bi⟩:=Bz;have A5:=Ay.some Bb;have B6:=(A9.AD AF).s;have B7:=AF.some AO;have CT:=E A5;have CU:=E AW;have CV:=E B0;have CW:=E A9.s;have CX:=E AO;have B8:=BZ (n:=j) (by omega);have C0:Eh n p (BU z)=Dd n (BU z)+p (B2 n (BU z))-p (BB n (BU z)):=rfl;rw[Aw]at C0;have CY:=AM (BU z);have Cb:=AL (BB n (BU z));have Cc:=AL (aY:Int);have Cd:=o.DY (BB n (BU z));have C1:=o.Hj (BB n (BU z));have Bj:= λB9 C2=>o.add AJ AK (λe=>(AM e).2) (e:=BU z) B9 (by rw[Aw,t];exact O) C2 Bg;rw[Aw,t]at Bj;have C3:=o.cap (aY:Int) (by rw[t];exact O);rw[t]at C3;have Ce:0<=nG:=(by have:=o.DY (aY:Int);omega);have C4:=AK (BU z);have Cf:=A8.Jy;have C5:(BB n (BU z):Int)=aY->bd (BB n (BU z))=nG:= λM=>by rw[M,t]
   unfold Bt at O C1;generalize Bk:BB n (BU z)=T at*;generalize C6:AX n N (BU z)=R at*;generalize Cg:Dd n (BU z)=C at*;obtain⟨Ch,BA⟩:=Bg;rw[AJ]at BA;obtain⟨k,rfl⟩: ∃k:Nat,T=k:=⟨T.toNat,by omega⟩;have t3:k<W:=(by omega);have t4:k+1<=W:=t3;have BC:aY+1<=W:=H;have Bl: ∀(g:Int->Int) (x:Nat),x<W->(An W g)[x]?=some (Z (g x)):= λg x AZ=>G5 AZ;have BD:= λg=>Bl g k t3;have BE:= λg=>Bl g aY H;have BF:IntKind.i64.wrap (nG+C)=nG+C:=Ac (by omega) (by omega);have BH:IntKind.i64.wrap (nG+C+p aY)=nG+C+p aY:=Ac (by omega) (by omega);have BI:IntKind.i64.wrap (nG+C+p aY-p k)=nG+C+p aY-p k:=Ac (by omega) (by omega);have C7:nG+C+p aY-p k=nG+Eh n p (BU z):=(by omega);have Bn:(0<R->bd k<=nG+Eh n p (BU z))-> ∀(f:A2) (u:X),u=Ax->Xc AN e2 y A G W f->f 10=AG fP->f 75= .slice (some ⟨Bv,0,none⟩) L.length 1->f 76=Z L.length->f 77=Z ((j:Int)+1)->Bc f u:=by
    intro BJ f u C8 ml C9 CA CB CC;subst C8;refine Av _ _ (j7 A8 AJ Af AK AL Ag AM A9 AO BQ BR BS H BT Ah Ak a3 Al Am BW Ba r (j+1) u f b q bd l (by omega) AF hb Aq ⟨AW,B0,AY,B1,B3,B4,Bh,Bi⟩ A5 As o t O (λAb K=> ?_) ml C9 CA CB (by rw[CC];simp) AU);rw[Bf]at K;rcases D2.1 K with h|h
    ·exact AT Ab h
    ·simp at h;subst h;intro Ae;rw[Bk];rw[C6]at Ae;exact BJ Ae
   by_cases A7:0<R
   ·by_cases BK:nG+C+p aY-p k<bd k
    ·simp(disch:=omega)[w,J,U,A3,I,A5,B6,B7,AW,B0,t3,t4,H,BC,BD,BE,BG,BF,BH,BI,A7,BK,La,-FK];have CD:0<=nG+C+p aY-p k:=(by have:=C4 A7;omega);have CF:nG+C+p aY-p k<=700000:=by
      rcases Classical.em (bd k<1099511627776)with M|M
      ·have:=o.cap (k:Int) (by unfold Bt;exact M);omega
      ·have:=Rd (GM bd) k (by omega) (by simp[GM,Bt,M]) W BA;omega
     have Cj:=nP (bd:=bd) (W:=W) (x:=k) (d:=nG+C+p aY-p k) (by omega) BA CD BK CF;have Bo:=Bj A7 (by omega);rw[<-C7]at Bo;have CG:(λx=>BU (Ai l (k:Int) z x))=Ai (λx=>BU (l x)) (k:Int) (BU z):=(by funext x;unfold Ai;split<;>rfl);have CH:(k:Int)≠aY:= λM=>by have:=C5 M;omega
     have Ck:=E AY.SO;have Cl:b<Ax.ac:=by obtain⟨r,hb⟩:=AY.Uz;exact E hb
     have Cm:=AF.ac
     refine aD9 ((AY.A1 B3 Bh).A1 B4 Bi) (by omega) ((k:Int),nG+C+p aY-p k) _ λv CI B ml BL B9 BN=> ?_;have CJ:=BN.ac
     simp only[Au]at CJ;have AI:= λc=>BN.Y c;simp only[Au]at AI;have Cn:B=b\/Ax.ac<=B:=by have:=BN.BY;simpa only[Au]using this
     simp[S,B8];refine Av _ _ (j7 A8 AJ Af AK AL Ag AM A9 AO BQ BR BS H BT Ah Ak a3 Al Am BW Ba r (j+1) CI _ B ml (Ai bd k (nG+C+p aY-p k)) (Ai l k z) (by omega) ⟨by omega,λc BJ=> ?_⟩ (by omega) (by omega) ⟨?_,?_,B9,B1,B3,B4,by omega,by omega⟩ ?_ ?_ ?_ ?_ O (λAb K=> ?_) ⟨by simp[w],by simp[AE],by simp[J],by simp[U],by simp[A3]⟩ (by simp[I]) (by simp[AB]) (by simp[P]) (by simp) (λf u CL CM F AQ CN CO CP Co CQ=>AU f u CL CM F AQ CN CO CP (by have:=BL.length_eq;simp only[DZ]at this;omega) CQ))
     ·rw[AI c (by omega) (by omega) (by omega),A6 (by omega),A6 (by omega),AF.Y c BJ]
     ·rw[AI y (by omega) (by omega) (by omega),A6 B1,AR (by omega)]
     ·rw[AI A (by omega) (by omega) (by omega),AR (by simp only[Au];omega)]
     ·rw[AI fP (by omega) a3 Aq,A6 Ak,A6 Ah,A5]
     ·have:=BL.length_eq;simp only[DZ]at this;omega
     ·rw[CG];refine Bo.tg λs=> ?_;simp only[CZ,BL.mem_iff];exact or_left_comm
     ·rw[Dt (Ne.symm CH)];exact t
     ·intro Ae;rw[Bf]at K;rcases D2.1 K with h|h
      ·have:=AT Ab h Ae;by_cases AZ:BB n (BU Ab)=k
       ·rw[AZ]at this⊢;rw[EY];omega
       ·rw[Dt AZ];exact this
      ·simp at h;subst h;rw[Bk,EY];omega
    ·simp[S,w,J,I,A5,B6,B7,AW,t3,t4,H,BC,BD,BE,BG,B8,BF,BH,BI,A7,BK];exact Bn (λ_=>by omega) _ _ rfl ⟨by simp[w],by simp[AE],by simp[J],by simp[U],by simp[A3]⟩ (by simp[I]) (by simp[AB]) (by simp[P]) (by simp)
   ·simp[S,w,I,A5,B6,B7,t3,t4,H,BC,BD,BE,BG,B8,BF,BH,BI,A7];exact Bn (λh=>absurd h A7) _ _ rfl ⟨by simp[w],by simp[AE],by simp[J],by simp[U],by simp[A3]⟩ (by simp[I]) (by simp[AB]) (by simp[P]) (by simp)
end Go.Proofs.YtmmkkggfmigppaaGreat
