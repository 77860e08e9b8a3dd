/- A part of the proof. -/
import Derived.Test.YtmmkkggfmigppaaGreatZcx
set_option linter.all false
set_option maxRecDepth 8000
set_option maxHeartbeats 16000000
namespace Go.Proofs.YtmmkkggfmigppaaGreat
open Go Go.DI Go.Ex
def C4(ag:Nat)(g:Int->Int):List Value:=(List.range ag).map λ(x:Nat)=>Y (g x)
variable{ag k:Nat}{c:Int}{ab:List Int}{n:CG}{Q:BM->A6->V->Prop}{m:V}{v:Value}
@[simp] theorem aH8{g:Int->Int}:(C4 ag g).length=ag:=by simp[C4]
@[simp] theorem a2I{g:Int->Int}(h:k<(C4 ag g).length):(C4 ag g)[k]'h=Y (g k):=by simp[C4]
theorem L9{g:Int->Int}(h:k<ag):(C4 ag g)[k]?=some (Y (g k)):=by simp[C4,h]
@[simp] theorem Nn{g:Int->Int}:(C4 ag g).set k (Y c)=C4 ag (λx=>if x=k then c else g x):=by
  apply LQ
  ·simp
  ·intro i a b;simp at a;rw[List.getElem_set];simp only[a2I];by_cases h:k=i
   ·subst h;simp
   ·have: ¬(i:Int)=k:=(by omega);simp[h,this]
theorem Uh:List.replicate ag (Y 0)=C4 ag (λ_=>0):=by apply LQ<;>simp[C4]
def MN:List Ae->List Int->Bool
 |a::d,b::fs=> !decide (b<0)&& !decide (a.c<b)&&MN d fs
 |_,_=>true
def Oz(n:CG)(g:Int->Int)(l:List Nat):Bool:=l.all λx=>decide ((x:Int)=n.Aj)||decide ((x:Int)=n.BJ)||decide (g x=0)
def Jq(n:CG)(ab:List Int):Int×Bool:=
 if H3 n&&decide (ab.length=n.AF.length)&&MN n.AF ab&&Oz n (DG n.AF ab) (List.range n.Am.toNat)then(value n ab,true)else(0,false)
theorem gH: ∀{d:List Ae} {fs:List Int},fs.length=d.length->(MN d fs=true↔ ∀(i:Nat) a e,d[i]?=some a->fs[i]?=some e->0<=e/\e<=a.c)
 |[],[],_=>by simp[MN]
 |[],_::_,h=>by simp at h
 |_::_,[],h=>by simp at h
 | a::d,e::fs,h=>by
   have k:= @gH d fs (by simpa using h);simp only[MN,AB,Iz,Nd,k];constructor
   ·rintro⟨⟨l,m⟩,g⟩ i b j hb f;cases i with
    |zero=>simp at hb f;subst hb;subst f;omega
    |succ i=>exact g i b j (by simpa using hb) (by simpa using f)
   ·intro g;have:=g 0 a e rfl rfl;exact⟨⟨by omega,by omega⟩,λi b j hb f=>g (i+1) b j (by simpa using hb) (by simpa using f)⟩
theorem aBd(h:(Jq n ab).2=true):n.Cz/\Dr n ab/\(Jq n ab).1=value n ab:=by
 unfold Jq at h⊢;split at h
 ·rename_i a;rw[if_pos a];simp only[AB,Ba]at a;obtain⟨⟨⟨e,b⟩,f⟩,c⟩:=a;have g:=W2.1 e;refine⟨g,⟨⟨b,(gH b).1 f⟩,λx d i j=> ?_⟩,rfl⟩;simp only[Oz,BF,FX,N0,Ba]at c;obtain⟨k,rfl⟩: ∃k:Nat,x=k:=⟨x.toNat,by have:=d.1;omega⟩;have:=c k (by have:=d.2;omega);rcases this with(h|h)|h
  ·exact absurd h i
  ·exact absurd h j
  ·exact h
 ·cases h
theorem a3p(d:n.Cz)(a:Dr n ab):Jq n ab=(value n ab,true):=by
 unfold Jq;rw[if_pos];simp only[AB,Ba];refine⟨⟨⟨W2.2 d,a.ES.1⟩,(gH a.ES.1).2 a.ES.2⟩,?_⟩;simp only[Oz,BF,FX,N0,Ba];intro k e;by_cases b:(k:Int)=n.Aj
 ·exact .inl (.inl b)
 ·by_cases c:(k:Int)=n.BJ
  ·exact .inl (.inr c)
  ·exact .inr (a.SD k ⟨by omega,by omega⟩ b c)
set_option maxRecDepth 20000 in
theorem xt{n:CG}(AG:n.Cz){ag:Nat}(An:n.Am=ag){C:Int}(Ao:C=2147483647){v w:Value}{ab:List Int}{b gZ:Nat}{df:V}(AH:df.W b=some ⟨FV n v,true⟩)(AX:GX df v n.AF)(AJ:Ib df w ab)(N:ab.length=n.AF.length)(Ap:df.next<=gZ){Q:BM->A6->V->Prop}: ∀(r i:Nat) (m:V) (A:A6) (g:Int->Int),i+r=n.AF.length->BK df m->m.W gZ=some ⟨C4 ag g,true⟩->(∀x,-((i:Int)*C)<=g x/\g x<=(i:Int)*C)->
 A 26=v->A 27=Y n.AF.length->A 28=Y i->A 6= .slice (some ⟨gZ,0,none⟩) ag 1->A 1=w->A 2=AA b->
 (∀j u E,BK df u->u.W gZ=some ⟨C4 ag E,true⟩->MN (n.AF.drop i) (ab.drop i)=true->(∀x,E x=g x+DG (n.AF.drop i) (ab.drop i) x)->j 6= .slice (some ⟨gZ,0,none⟩) ag 1->j 2=AA b->Q (.Ai 0) j u)->
 (∀j u,BK df u->MN (n.AF.drop i) (ab.drop i)=false->j 4=Y 0->j 5= .bool false->Q .DO j u)->BS U (.loop QV) A m Q
 | 0,i,m,A,g,Aq,G,O,T,H,D,J,K,I,X,AK,AL=>by refine D7 λAY AZ=> ?_;have z: ¬i<n.AF.length:=(by omega);obtain⟨BE,BF⟩:=AJ.len;simp[QV,D,J,z];exact AK _ _ g G O (by rw[S2 (by omega)];rfl) (λx=>by rw[S2 (by omega:n.AF.length<=i)];simp[DG]) (by simp[K]) (by simp[X])
 | r+1,i,m,A,g,Aq,G,O,T,H,D,J,K,I,X,AK,AL=>by
   refine D7 λAY AZ=> ?_;have z:i<n.AF.length:=(by omega);have AM:i<ab.length:=(by omega);obtain⟨a,Z⟩: ∃a,n.AF[i]?=some a:=⟨n.AF[i]'z,by simp⟩;obtain⟨p,Aa⟩: ∃p,ab[i]?=some p:=⟨ab[i]'AM,by simp⟩;have P: ∀h,ab[i]'h=p:= λh=>by rw[AS h]at Aa;simpa using Aa
   have A1:n.AF.drop i=a::n.AF.drop (i+1):=(by rw[Iy z];rw[AS z]at Z;cases Z;rfl);have A2:ab.drop i=p::ab.drop (i+1):=(by rw[Iy AM];rw[P]);have As:=AG.Il a (B9 Z);obtain⟨⟨BG,BH⟩,⟨BI,BJ⟩,BL,BN⟩:=As;obtain⟨s,L⟩: ∃k:Nat,a.f=k:=⟨a.f.toNat,by omega⟩;obtain⟨l,M⟩: ∃k:Nat,a.t=k:=⟨a.t.toNat,by omega⟩;have A3:s<ag:=(by omega);have t3:l<ag:=(by omega);have Ab:s+1<=ag:=A3;have t4:l+1<=ag:=t3;have Ac: ∀g,(C4 ag g)[s]?=some (Y (g s)):= λg=>L9 A3;have At: ∀g,(C4 ag g)[l]?=some (Y (g l)):= λg=>L9 t3;obtain⟨c,o,rfl,Ad⟩:=AX.C1 z;obtain⟨d,BO,rfl,Ae⟩:=AJ.C1 AM;have R:=G.some Ad;have S:=G.some Ae;have Au:=G.some AH;have BP:=F Au;have BQ:=F R;have BU:=F S;have BV:=F Ad;have BW:=F Ae;have BY:=F AH;have BZ:=F O;have Ba:=G.next
   have hb:i*4+4<=n.AF.length*4:=(by omega);have A4:i+1<=n.AF.length:=z;have A5:=LX Z;have Bb:=AG.JK;have Af:=BX (n:=i) (by omega);have stop: ∀(j:A6) (u:V),(p<0\/a.c<p)->BK df u->j 4=Y 0->j 5= .bool false->Q .DO j u:= λj u Av AN Aw Ax=>AL _ _ AN (by rw[A1,A2];rcases Av with h|h<;>simp[MN,h]) Aw Ax;have A7: ∀k q y,m.next<=q->BK df ((m.AE k).A0 q (some y)):= λk q y Bc=>(G.AE k).A0 (by omega)
   have Bd:=T s;have Be:=T l;have Bf:(i:Int)*C<=2500*C:=My (by omega) (by omega);have next: ∀(j:A6) (u:V) (E:Int->Int),0<=p->p<=a.c->BK df u->u.W gZ=some ⟨C4 ag E,true⟩->(∀x,E x=g x+Bj a.f x p-Bj a.t x p)->j 26= .slice (some ⟨c,0,none⟩) n.AF.length 4->j 27=Y n.AF.length->j 28=Y ((i:Int)+1)->j 6= .slice (some ⟨gZ,0,none⟩) ag 1->j 1= .slice (some ⟨d,0,none⟩) ab.length 1->j 2=AA b->AY j u:=by
    intro j u E Bg Bh AN Ay Ag Az B0 B1 B2 B3 B4;refine AZ _ _ (xt AG An Ao AH AX AJ N Ap r (i+1) u j E (by omega) AN Ay ?_ Az B0 (by rw[B1];simp) B2 B3 B4 (λB5 B6 B7 AO AP AQ AR B8 BA=>AK _ _ B7 AO AP ?_ ?_ B8 BA) (λB5 B6 AO AP AQ AR=>AL _ _ AO ?_ AQ AR))
    ·intro x;have B:=T x;rw[Ag x];have e:(((i+1:Nat):Int))*C=(i:Int)*C+C:=(by rw[ME,Int.add_mul];simp);rw[e];simp only[Bj];split<;>split<;>omega
    ·rw[A1,A2];simp only[MN,AQ,Bool.and_true,AB,Iz,Nd];omega
    ·intro x;rw[AR,Ag,A1,A2];simp only[DG];omega
    ·rw[A1,A2];simp only[MN,AP,Bool.and_false]
   by_cases A8:p<0
   ·simp(disch:=first|omega|simp only[AD];omega)[QV,H,D,J,A4,I,z,N,R,S,hb,A5,Cj,CC,P,L,M,A8];exact stop _ _ (by omega) (A7 _ _ _ (by omega)) (by simp) (by simp)
   by_cases AU:a.c<p
   ·simp(disch:=first|omega|simp only[AD];omega)[QV,H,D,J,A4,I,z,N,R,S,hb,A5,Cj,CC,P,L,M,A8,AU];exact stop _ _ (by omega) (A7 _ _ _ (by omega)) (by simp) (by simp)
   have Ak:IntKind.i64.wrap (g s+p)=g s+p:=Ah (by omega) (by omega);by_cases BB:l=s
   ·subst BB;have AV:IntKind.i64.wrap (g l)=g l:=Ah (by omega) (by omega);simp(disch:=first|omega|simp only[AD];omega)[QV,H,D,J,A4,K,I,z,N,R,S,O,hb,A5,Cj,CC,P,L,M,A3,Ab,Ac,Af,A8,AU,Ak,AV];refine next _ _ (λx=>if x=(l:Int)then g l else if x=(l:Int)then g l+p else g x) (by omega) (by omega) (BK.A0 (A7 _ _ _ (by omega)) (by omega)) (by rw[AT (by simp only[Ar,BC];omega)]) (λx=> ?_) (by simp[H]) (by simp[D]) (by simp) (by simp[K]) (by simp[I]) (by simp[X])
    simp only[Bj,L,M];by_cases B:x=(l:Int)
    ·subst B;simp
    ·have A9: ¬(l:Int)=x:= λh=>B h.symm;simp[B,A9]
   ·have Al: ¬(l:Int)=s:=(by omega);have AV:IntKind.i64.wrap (g l-p)=g l-p:=Ah (by omega) (by omega);simp(disch:=first|omega|simp only[AD];omega)[QV,H,D,J,A4,K,I,z,N,R,S,O,hb,A5,Cj,CC,P,L,M,A3,t3,Ab,t4,Ac,At,Af,A8,AU,Ak,AV,Al];refine next _ _ (λx=>if x=(l:Int)then g l-p else if x=(s:Int)then g s+p else g x) (by omega) (by omega) (BK.A0 (A7 _ _ _ (by omega)) (by omega)) (by rw[AT (by simp only[Ar,BC];omega)]) (λx=> ?_) (by simp[H]) (by simp[D]) (by simp) (by simp[K]) (by simp[I]) (by simp[X])
    simp only[Bj,L,M];by_cases B:x=(l:Int)
    ·subst B;have: ¬(s:Int)=l:= λh=>Al h.symm;simp[this]
    ·have A9: ¬(l:Int)=x:= λh=>B h.symm;by_cases AW:x=(s:Int)
     ·subst AW;simp[B,A9]
     ·have BD: ¬(s:Int)=x:= λh=>AW h.symm;simp[B,A9,AW,BD]
def Mw(n:CG)(g:Int->Int)(x:Nat):Bool:=decide ((x:Int)=n.Aj)||decide ((x:Int)=n.BJ)||decide (g x=0)
theorem a8f{g:Int->Int}(h: ∀k,0<=k->k<ag->Mw n g k=true):Oz n g (List.range ag)=true:=by simp only[Oz,BF,FX];exact λk a=>h k (C0 _) a
theorem a5N{g:Int->Int}(h: ∃k,0<=k/\k<ag/\Mw n g k=false):Oz n g (List.range ag)=false:=by
 obtain⟨k,_,b,h⟩:=h;cases a:Oz n g (List.range ag)with
 |false=>rfl
 | true=>simp only[Oz,BF,FX]at a;have:=a k b;unfold Mw at h;rw[h]at this;cases this
theorem vX(J:n.Am=ag)(K:ag<100000){b l:Nat}(p:m.W b=some ⟨FV n v,true⟩){g:Int->Int}(q:m.W l=some ⟨C4 ag g,true⟩): ∀(r i:Nat) (f:A6),i+r=ag->
 f 70= .slice (some ⟨l,0,none⟩) ag 1->f 71=Y ag->f 72=Y i->f 6= .slice (some ⟨l,0,none⟩) ag 1->f 2=AA b->
 (∀a,(∀k,i<=k->k<ag->Mw n g k=true)->a 6= .slice (some ⟨l,0,none⟩) ag 1->a 2=AA b->Q (.Ai 2) a m)->
 (∀a,(∃k,i<=k/\k<ag/\Mw n g k=false)->a 4=Y 0->a 5= .bool false->Q .DO a m)->BS U (.loop Q8) f m Q
 | 0,i,f,L,j,d,o,s,e,x,y=>by refine D7 λF G=> ?_;have H: ¬(i:Int)<n.Am:=(by omega);have c: ¬i<ag:=(by omega);simp[Q8,d,o,c];exact x _ (λk H c=>by omega) (by simp[s]) (by simp[e])
 | r+1,i,f,L,j,d,o,s,e,x,y=>by
   refine D7 λF G=> ?_;have H:(i:Int)<n.Am:=(by omega);have c:i<ag:=(by omega);have t:i+1<=ag:=c;have z:=BX (n:=i) (by omega);have u:(C4 ag g)[i]?=some (Y (g i)):=L9 c;have next: ∀(a:A6),Mw n g i=true->a 70= .slice (some ⟨l,0,none⟩) ag 1->a 71=Y ag->a 72=Y ((i:Int)+1)->a 6= .slice (some ⟨l,0,none⟩) ag 1->a 2=AA b->F a m:=by
    intro a M N O P R S;refine G _ _ (vX J K p q r (i+1) a (by omega) N O (by rw[P];simp) R S (λT A B C=>x _ (λk V D=> ?_) B C) (λT A B C=>y _ ?_ B C))
    ·by_cases h:k=i
     ·rw[h];exact M
     ·exact A k (by omega) D
    ·obtain⟨k,V,D,X⟩:=A;exact⟨k,by omega,D,X⟩
   by_cases w:(i:Int)=n.Aj
   ·simp[Q8,j,d,p,q,t,z,CC,u,c,o,e,eq_true w];exact next _ (by simp[Mw, *]) (by simp[j]) (by simp[d]) (by simp) (by simp[s]) (by simp[e])
   by_cases E:(i:Int)=n.BJ
   ·simp[Q8,j,d,p,q,t,z,CC,u,c,o,e,w,eq_true E];exact next _ (by simp[Mw, *]) (by simp[j]) (by simp[d]) (by simp) (by simp[s]) (by simp[e])
   by_cases I:g i=0
   ·simp[Q8,j,d,p,q,t,z,CC,u,c,o,e,w,E,I];exact next _ (by simp[Mw, *]) (by simp[j]) (by simp[d]) (by simp) (by simp[s]) (by simp[e])
   ·simp[Q8,j,d,p,q,t,CC,u,c,o,e,w,E,I];exact y _ ⟨i,Ao _,c,by simp[Mw, *]⟩ (by simp) (by simp)
theorem a6w{w:Value}(l:GX m v n.AF)(z:Ib m w ab):Aq U 210 [Ol n v,w] m λr u=>r= .tuple #[Y (Jq n ab).1,.bool (Jq n ab).2]/\BK m u:=by
 rw[a1P (by simp)];obtain⟨A,B⟩:=l.len;obtain⟨C,D⟩:=z.len;have E:BK m ((m.AE 3).A0 m.next (some ⟨FV n v,true⟩)):=((BK.refl m).AE 3).A0 (Ao _);simp(disch:=first|omega|simp only[AD];omega)[il];refine(fQ (l.AG E)).AG λr a M=> ?_;obtain⟨rfl,G⟩:=M;have b:=E.trans G;have f:a.W m.next=some ⟨FV n v,true⟩:=G.some (AT (by simp))
 have A8:=F f;have A9:=b.next
 cases c:H3 n
 ·simp(disch:=first|omega|simp only[AD];omega)[];exact⟨by simp[Jq,c],b⟩
 have N:=l.AG b;have O:=z.AG b;by_cases d:ab.length=n.AF.length
 ·have e:=W2.1 c;obtain⟨ag,H⟩: ∃ag:Nat,n.Am=ag:=⟨n.Am.toNat,by have:=e.Ph;omega⟩;obtain⟨j,P⟩: ∃k:Nat,n.Aj=k:=⟨n.Aj.toNat,by have:=e.Aj.1;omega⟩;have Q:(j:Int)=n.Aj:=P.symm;have o:n.Am.toNat=ag:=(by omega);have R:n.Aj.toNat=j:=(by omega);have S:0<=n.Aj:=e.Aj.1;have T:n.Aj<(ag:Int):=(by have:=e.Aj.2;omega);have I:j<ag:=(by omega);have z0:0<=n.Am:=(by omega);have AB:=e.PL;have V:n.Am*8<=140737488355328:=(by omega);have X:n.Am<=9223372036854775807:=(by omega);simp(disch:=first|omega|simp only[AD];omega)[A,B,C,D,f,d,o,z0,V,X];have J:a.next<=a.next+2:=NF _ _
  have Z:BK a ((a.AE 4).A0 (a.next+2) (some ⟨List.replicate ag (Y 0),true⟩)):=((BK.refl a).AE 4).A0 J;refine xt e H rfl (df:=a) (gZ:=a.next+2) f N O d J n.AF.length 0 _ _ (λ_=>0) (by omega) Z (by rw[AT (by simp only[BC];omega),Uh]) (by simp) (by simp) (by simp[]) (by simp) (by simp) (by simp) (by simp) (λA1 u A2 g h i p K A3=> ?_) (λA1 u g h i p=> ?_)
  ·have L:=g.some f;have A4:A2=DG n.AF ab:=(by funext x;rw[p];simp);subst A4;rw[KK,KK]at i;simp(disch:=omega)[K];refine vX H (by omega) L h ag 0 _ (by omega) (by simp[]) (by simp) (by simp) (by simp[K]) (by simp[A3]) (λA5 q s t=> ?_) (λA5 q s t=> ?_)
   ·have y:=a8f q;have A6:(C4 ag (DG n.AF ab))[j]?=some (Y (DG n.AF ab n.Aj)):=(by rw[L9 I,Q]);simp(disch:=omega)[s,t,L,h,S,T,R,A6,CC];exact⟨I,by simp[Jq,c,d,i,o,y,value],b.trans g⟩
   ·have y:=a5N q;simp(disch:=omega)[s,t];exact⟨by simp[Jq,c,d,i,o,y],b.trans g⟩
  ·rw[KK,KK]at h;simp(disch:=omega)[i,p];exact⟨by simp[Jq,c,d,h],b.trans g⟩
 ·have A7: ¬(ab.length:Int)=n.AF.length:=(by omega);simp(disch:=omega)[A,B,C,D,f,A7];exact⟨by simp[Jq,c,d],b⟩
def QH(a:List Bool)(x:Int):Bool:=a.getD x.toNat false
end Go.Proofs.YtmmkkggfmigppaaGreat
namespace Go.Ex
def BN(z:Int):DJ:=if 0<=z then(z.toNat,true)else((-1-z).toNat,false)
def enc(e:DJ):Int:=if e.2 then(e.1:Int)else-1-(e.1:Int)
theorem a6x(e:DJ):BN (enc e)=e:=by
 grind [enc,BN]
variable{C:Type}{ab q:List Int}{p:Int->Bool}{e:DJ}{A:Int->DJ}{n:CG}{a6:Int}
def At(f:Int->C)(x:Int)(v:C):Int->C:= λy=>if y=x then v else f y
structure He(n:CG)(ab:List Int)(p:Int->Bool)(A:Int->DJ)(q:List Int):Prop where
 Aj:p n.Aj=true
 Cy: ∀x,p x=true->n.Cy x
 O0: ∃a:Int->Nat,∀x,p x=true->x≠n.Aj->0<Ab n ab (A x)/\Bi n (A x)=x/\p (Bs n (A x))=true/\a (Bs n (A x))<a x
 Qr: ∀x∈q,p x=true
 Xq: ∀e,0<Ab n ab e->p (Bs n e)=true->Bs n e∉q->p (Bi n e)=true
theorem He.add(h:He n ab p A q)(l:0<Ab n ab e)(m:p (Bs n e)=true)(o:p (Bi n e)=false)(r:n.Cy (Bi n e)):
 He n ab (At p (Bi n e) true) (At A (Bi n e) e) (q++[Bi n e]):=by
 have kb: ∀x,p x=true->At p (Bi n e) true x=true:= λx a=>by unfold At;split<;>first|rfl|exact a
 refine⟨kb _ h.Aj,λx a=> ?_,?_,λx a=> ?_,λb i c f=> ?_⟩
 ·unfold At at a;split at a
  ·simp_all
  ·exact h.Cy x a
 ·obtain⟨g,s⟩:=h.O0;refine⟨λy=>if y=Bi n e then g (Bs n e)+1 else g y,λx a t=> ?_⟩
  grind [At]
 ·rcases Cg.1 a with a|a
  ·exact kb _ (h.Qr x a)
  ·simp at a;subst a;unfold At;rw[if_pos rfl]
 ·have j:Bs n b≠Bi n e:= λd=>f (by rw[d];simp);have k:p (Bs n b)=true:=(by unfold At at c;rw[if_neg j]at c;exact c);exact kb _ (h.Xq b i k (λd=>f (by simp[d])))
theorem He.kN(h:He n ab p A (a6::q))(b: ∀e,0<Ab n ab e->Bs n e=a6->p (Bi n e)=true):He n ab p A q:=by
 refine⟨h.Aj,h.Cy,h.O0,λx c=>h.Qr x (by simp[c]),λe a d g=> ?_⟩;by_cases f:Bs n e=a6
 ·exact b e a f
 ·exact h.Xq e a d (λi=>by
   simp_all)
theorem He.RV(h:He n ab p A []):Td n ab p A:=
 ⟨h.Aj,h.O0,λe a b=>h.Xq e a b (by simp)⟩
theorem He.fw(b:n.Cz)(ab:List Int)(A:Int->DJ):He n ab (At (λ_=>false) n.Aj true) A [n.Aj]:=by
 have only: ∀x,At (λ_=>false) n.Aj true x=true->x=n.Aj:= λx a=>by
  grind [At]
 refine⟨by unfold At;rw[if_pos rfl],λx a=>by rw[only x a];exact b.Aj,⟨λ_=>0,λx a c=>absurd (only x a) c⟩,λx a=>by simp at a;subst a;unfold At;rw[if_pos rfl],λe d f g=> ?_⟩
 grind
def Fw(p:Int->Bool):Nat->Nat
 |0=>0
 |k+1=>Fw p k+if p k=true then 0 else 1
theorem lS(p:Int->Bool): ∀k,Fw p k<=k
 |0=>Ao _
 |k+1=>by have:=lS p k;simp only[Fw];split<;>omega
theorem nv(p:Int->Bool)(x:Int): ∀k:Nat,(k:Int)<=x->Fw (At p x true) k=Fw p k
 |0,_=>rfl
 | k+1,h=>by have e:At p x true (k:Int)=p k:=(by unfold At;rw[if_neg (by omega)]);simp only[Fw,nv p x k (by omega),e]
theorem RJ(p:Int->Bool)(x:Int)(a:0<=x)(b:p x=false): ∀k:Nat,x<k->Fw (At p x true) k+1=Fw p k
 |0,h=>by omega
 | k+1,h=>by
   by_cases c:x=k
   ·grind [At,Fw,nv]
   ·have e:At p x true (k:Int)=p k:=(by unfold At;rw[if_neg (by omega)]);have:=RJ p x a b k (by omega);simp only[Fw,e];omega
structure Qh(n:CG)(B:Int->List Int):Prop where
 Pt: ∀x,n.Cy x-> ∀z∈B x,(BN z).1<n.AF.length/\Bs n (BN z)=x/\ -2500<=z/\z<=2500
 all: ∀e:DJ,e.1<n.AF.length-> ∃z∈B (Bs n e),BN z=e
theorem m4(b:n.Cz)(h:e.1<n.AF.length):n.Cy (Bs n e)/\n.Cy (Bi n e):=by
 obtain⟨a,c⟩: ∃a,n.AF[e.1]?=some a:=⟨n.AF[e.1]'h,by simp⟩;obtain⟨d,f,_⟩:=b.Il a (B9 c)
 grind [Bs,Bi]
end Go.Ex
namespace Go.Proofs.YtmmkkggfmigppaaGreat
open Go Go.DI Go.Ex
structure F9(n:CG)(ab:List Int)(v:Value)(cG cU cI:Nat)(ag:Nat)(m:V):Prop where
 s:m.W cG=some ⟨[Y n.Am,Y n.Aj,Y n.BJ,v,.slice (some ⟨cU,0,none⟩) ab.length 1,.slice (some ⟨cI,0,none⟩) ag 1],true⟩
 a:GX m v n.AF
 f:m.W cU=some ⟨ab.map (Value.int .i64 ·),true⟩
variable{u m:V}{ab L:List Int}{ag cG cI cU k eB:Nat}{n:CG}{v:Value}{z a6 x d:Int}{c:Bool}{Q:BM->A6->V->Prop}{B:Int->List Int}{A:Int->DJ}{e:DJ}{eC:Int->Int}{l:List DJ}
theorem F9.AG(h:F9 n ab v cG cU cI ag m)(b:BK m u):F9 n ab v cG cU cI ag u:=⟨b.some h.s,h.a.AG b,b.some h.f⟩
theorem VV(z:Int):(∃i:Nat,0<=z/\z=i/\z.toNat=i/\BN z=(i,true))\/(∃i:Nat,¬0<=z/\ -1-z=(i:Int)/\BN z=(i,false)):=by
 by_cases h:0<=z
 ·exact .inl ⟨z.toNat,h,by omega,rfl,by simp[BN,h]⟩
 ·exact .inr ⟨(-1-z).toNat,h,by omega,by simp[BN,h]⟩
theorem qs(p:n.Cz)(hb:Gn n ab)(h:F9 n ab v cG cU cI ag m)(e:(BN z).1<n.AF.length):H5 U 235 [AA cG,Y z] m (.tuple #[Y (Bi n (BN z)),Y (Ab n ab (BN z))]) m:=by
 apply H5.JZ;rw[zn (by simp)];have q:=h.s;have r:=h.f;have O:=p.JK;rcases VV z with⟨i,k,t,E,u⟩|⟨i,k,t,u⟩
 all_goals
  rw[u]at e⊢;simp only at e;obtain⟨c,o,rfl,w⟩:=h.a.C1 e;obtain⟨a,b⟩: ∃a,n.AF[i]?=some a:=⟨n.AF[i]'e,by simp⟩;have x:i<ab.length:=(by rw[hb.1];exact e);obtain⟨d,g⟩: ∃d,ab[i]?=some d:=⟨ab[i]'x,by simp⟩;have y: ∀h,ab[i]'h=d:= λh=>by rw[AS h]at g;simpa using g
  have P:=hb.2 i a d b g;have Q:=(p.Il a (B9 b)).2.2;have l:=NX b (j:=0) (by omega);have A:=NX b (j:=1) (by omega);have B:=NX b (j:=2) (by omega);rw[Nq]at l;simp only[Cj]at l;simp[Cj]at A B;have C:(Ck n.AF)[i*4]?=some (Y a.f):=l;have R: ∀h:i*4<(Ck n.AF).length,(Ck n.AF)[i*4]'h=Y a.f:= λh=>by have:=C;rw[AS h]at this;simpa using this
  have F:i*4+1<=n.AF.length*4:=(by omega);have G:i*4+2<=n.AF.length*4:=(by omega);have H:i*4+3<=n.AF.length*4:=(by omega);have I:(i:Int)<n.AF.length:=(by omega);have J:(i:Int)<ab.length:=(by omega);have D:i+1<=ab.length:=x;have K:IntKind.i64.wrap (a.c-d)=a.c-d:=Ah (by omega) (by omega);have L:IntKind.i64.wrap (i:Int)=i:=Ah (by omega) (by omega)
 ·have M:z<n.AF.length:=(by omega);have N:z<ab.length:=(by omega);simp(disch:=omega)[aD,q,r,w,k,E,A,B,CC,y,G,H,D,M,N,K];simp[Bi,Ab,b,g]
 ·simp[aD,q,r,w,k,t,C,CC,y,F,I,J,D,L];simp[Bi,Ab,b,g]
theorem qP(u:n.Cz)(h:F9 n ab v cG cU cI ag m)(b:(BN z).1<n.AF.length):H5 U 236 [AA cG,Y z] m (Y (Bs n (BN z))) m:=by
 apply H5.JZ;rw[aEq (by simp)];have k:=h.s;have D:=u.JK;rcases VV z with⟨i,e,l,w,p⟩|⟨i,e,l,p⟩
 all_goals
  rw[p]at b⊢;simp only at b;obtain⟨c,o,rfl,q⟩:=h.a.C1 b;obtain⟨a,d⟩: ∃a,n.AF[i]?=some a:=⟨n.AF[i]'b,by simp⟩;have g:=NX d (j:=0) (by omega);have r:=NX d (j:=1) (by omega);rw[Nq]at g;simp only[Cj]at g;simp[Cj]at r;have t:(Ck n.AF)[i*4]?=some (Y a.f):=g;have E: ∀h:i*4<(Ck n.AF).length,(Ck n.AF)[i*4]'h=Y a.f:= λh=>by have:=t;rw[AS h]at this;simpa using this
  have x:i*4+1<=n.AF.length*4:=(by omega);have y:i*4+2<=n.AF.length*4:=(by omega);have A:(i:Int)<n.AF.length:=(by omega);have B:IntKind.i64.wrap (i:Int)=i:=Ah (by omega) (by omega)
 ·have C:z<n.AF.length:=(by omega);simp[ZW,k,q,e,w,t,CC,x,C];simp[Bs,d]
 ·simp[ZW,k,q,e,l,r,CC,y,A,B];simp[Bs,d]
def GF(ag:Nat)(g:Int->Bool):List Value:=(List.range ag).map λ(x:Nat)=> .bool (g x)
@[simp] theorem aHv{g:Int->Bool}:(GF ag g).length=ag:=by simp[GF]
@[simp] theorem gm{g:Int->Bool}(h:k<(GF ag g).length):(GF ag g)[k]'h= .bool (g k):=by simp[GF]
theorem h5{g:Int->Bool}(h:k<ag):(GF ag g)[k]?=some (.bool (g k)):=by simp[GF,h]
theorem x4{g:Int->Bool}:(GF ag g).set k (.bool c)=GF ag (At g k c):=by
 apply LQ
 ·simp
 ·intro i a b;simp at a;rw[List.getElem_set];simp only[gm,At];by_cases h:k=i
  ·subst h;simp
  ·have: ¬(i:Int)=k:=(by omega);simp[h,this]
theorem XJ{g:Int->Int}{c:Int}:(C4 ag g).set k (Y c)=C4 ag (At g k c):=Nn
theorem a6a:List.replicate ag (.bool false)=GF ag (λ_=>false):=by apply LQ<;>simp[GF]
structure k6(ag eB a c off:Nat)(d:List Value)(q:List Int)(p:Int->Bool)(eC:Int->Int)(m:V):Prop where
 b:m.W eB=some ⟨C4 ag eC,true⟩
 e:m.W a=some ⟨GF ag p,true⟩
 aP2:m.W c=some ⟨d,true⟩
 aN4:off+q.length<=d.length
 aNS:(d.drop off).take q.length=q.map (Value.int .i64 ·)
 a39:eB≠a
 Ph:c≠eB
 aBE:c≠a
structure dE(cG eB b c off ag:Nat)(q:List Int)(a:A6):Prop where
 aQJ:a 0=AA cG
 RB:a 4= .slice (some ⟨eB,0,none⟩) ag 1
 aQK:a 5= .slice (some ⟨b,0,none⟩) ag 1
 PD:a 6= .slice (some ⟨c,off,none⟩) q.length 1
theorem gA(K:n.Cz)(A4:n.Am=ag)(A5:Gn n ab){d:V}(A7:F9 n ab v cG cU cI ag d){A:Nat}(AX:d.next<=eB)(AY:d.next<=A)
 {AZ:Value} (A8:Ib d AZ L) (A9: ∀z∈L,(BN z).1<n.AF.length/\Bs n (BN z)=a6) (Aa:L.length<100000):
 ∀(r j:Nat) (m:V) (s:A6) (f off:Nat) (E:List Value) (q:List Int) (p:Int->Bool) (eC:Int->Int),j+r=L.length->BK d m->d.next<=f->k6 ag eB A f off E q p eC m->q.length+Fw p ag<=701->
 He n ab p (λx=>BN (eC x)) q->p a6=true->(∀z∈L.take j,0<Ab n ab (BN z)->p (Bi n (BN z))=true)->dE cG eB A f off ag q s->s 49=AZ->s 50=Y L.length->s 51=Y j->
 (∀a u G M AB N B O new,BK d u->d.next<=G->k6 ag eB A G M AB (q++new) B O u->N=q++new->new.length+Fw B ag=Fw p ag->He n ab B (λx=>BN (O x)) (q++new)->(∀z∈L,0<Ab n ab (BN z)->B (Bi n (BN z))=true)->dE cG eB A G M ag (q++new) a->Q (.Ai 2) a u)->
 BS U (.loop T4) s m Q
 | 0,j,m,s,f,off,E,q,p,eC,Au,c,AE,AH,Ac,P,S,X,AJ,t,i,H,Z=>by refine D7 λAd AK=> ?_;obtain⟨l,C,w,I⟩:=AJ;have o: ¬j<L.length:=(by omega);simp(disch:=first|omega|simp only[AD];omega)[T4,i,H,o];refine Z _ _ f off E q p eC [] c AE (by simpa using AH) (by simp) (by simp) (by simpa using P) (λz y=>X z ?_) ⟨by simp[l],by simp[C],by simp[w],by simp[I]⟩;rw[DV (by omega)];exact y
 | r+1,j,m,s,f,off,E,q,p,eC,Au,c,AE,AH,Ac,P,S,X,AJ,t,i,H,Z=>by
   refine D7 λAd AK=> ?_;have Av:=AJ;obtain⟨l,C,w,I⟩:=Av;have o:j<L.length:=(by omega);have AL:j+1<=L.length:=o;obtain⟨z,A0⟩: ∃z,L[j]?=some z:=⟨L[j]'o,by simp⟩;have AM: ∀h,L[j]'h=z:= λh=>by rw[AS h]at A0;simpa using A0
   have Aw:=B9 A0;obtain⟨Ae,Ax⟩:=A9 z Aw;obtain⟨Ay,BJ,rfl,Af⟩:=A8.C1 o;have AN:=c.some Af;have BL:=F Af;have Az:=A7.AG c;have Ag:L.take (j+1)=L.take j++[z]:=(by rw[K4,A0];rfl);have AO: ∀a7:Value->V->Prop,Aq U 235 [AA cG,Y z] m a7=a7 (.tuple #[Y (Bi n (BN z)),Y (Ab n ab (BN z))]) m:= λa7=>(qs K A5 Az Ae).wp;have B0:=(m4 K Ae).2;obtain⟨hb,A1,AP,Ah,Ak,Al,B1,B2⟩:=AH;have BM:=F hb;have BO:=F A1;have BP:=F AP;have AQ:=BX (n:=j) (by omega);generalize J:Bi n (BN z)=T at*;generalize An:Ab n ab (BN z)=R at*;obtain⟨B3,AR⟩:=B0;rw[A4]at AR;obtain⟨k,rfl⟩: ∃k:Nat,T=k:=⟨T.toNat,by omega⟩;have t3:k<ag:=(by omega);have t4:k+1<=ag:=t3;have Ao: ∀g,(GF ag g)[k]?=some (.bool (g k)):= λg=>h5 t3;have BQ: ∀g,(C4 ag g)[k]?=some (Y (g k)):= λg=>L9 t3;have Ap:(R<=0\/p k=true)-> ∀(a:A6) (u:V),u=m->dE cG eB A f off ag q a->a 49= .slice (some ⟨Ay,0,none⟩) L.length 1->a 50=Y L.length->a 51=Y ((j:Int)+1)->Ad a u:=by
    intro B4 a u B5 N B6 B7 B8;subst B5;refine AK _ _ (gA K A4 A5 A7 AX AY A8 A9 Aa r (j+1) u a f off E q p eC (by omega) c AE ⟨hb,A1,AP,Ah,Ak,Al,B1,B2⟩ Ac P S (λAV y=> ?_) N B6 B7 (by rw[B8];simp) Z);rw[Ag]at y;rcases Cg.1 y with h|h
    ·exact X AV h
    ·simp at h;subst h;intro AW;rw[J];rw[An]at AW;rcases B4 with h|h
     ·omega
     ·exact h
   by_cases A2:0<R
   ·cases D:p k
    ·have BA:(q.length+1)*8<=140737488355328:=(by omega);have BB:q.length+1<=9223372036854775807:=(by omega);simp(disch:=first|omega|simp only[AD];omega)[T4,t,i,H,l,C,w,I,o,AL,AN,AM,CC,AO,AQ,t3,t4,Ao,hb,A1,AP,Ah,Ak,A2,D,BA,BB,x4,XJ,-Nn];refine AK _ _ (gA K A4 A5 A7 AX AY A8 A9 Aa r (j+1) _ _ (m.next+3) 0 (q.map (Value.int .i64 ·)++[Y k]) (q++[(k:Int)]) (At p k true) (At eC k z) (by omega) ⟨by have:=c.next;simp only[Ar,BC];omega,λb hb=>by have:=c.next;simp(disch:=first|omega|(simp only[Ar,BC];omega)) only[A3,AU];exact c.W b hb⟩ (by have:=c.next;omega) ⟨?_,?_,?_,by simp,by rw[KK,DV (by simp)];simp,Al,by omega,by omega⟩ ?_ ?_ ?_ ?_ ⟨by simp[l],by simp[C],by simp[w],by simp⟩ (by simp[t]) (by simp[i]) (by simp) (λa u G M AB N B O new BD BE BF BU BV BG BH BI=>Z a u G M AB (q++(k:Int)::new) B O ((k:Int)::new) BD BE (by simpa using BF) rfl ?_ (by simpa using BG) BH (by simpa using BI)))
     ·simp(disch:=first|omega|(simp only[Ar,BC];omega)) only[AT,A3,AU]
     ·simp(disch:=first|omega|(simp only[Ar,BC];omega)) only[AT,A3,AU]
     ·simp(disch:=first|omega|(simp only[Ar,BC];omega)) only[AT]
     ·have:=RJ p k (by omega) D ag AR;simp;omega
     ·have As:=P.add (e:=BN z) (by rw[An];exact A2) (by rw[Ax];exact S) (by rw[J];exact D) (by rw[J];exact⟨B3,by omega⟩);rw[J]at As;have e:(λx=>BN (At eC (k:Int) z x))=At (λx=>BN (eC x)) (k:Int) (BN z):=by
       funext x;unfold At;split<;>rfl
      rw[e];exact As
     ·unfold At;split<;>first|rfl|exact S
     ·intro AV y AW;rw[Ag]at y;rcases Cg.1 y with h|h
      ·unfold At;split
       ·rfl
       ·exact X AV h AW
      ·simp at h;subst h;rw[J];unfold At;rw[if_pos rfl]
     ·have:=RJ p k (by omega) D ag AR;simp;omega
    ·simp[T4,t,i,H,l,w,o,AL,AN,AM,CC,AO,AQ,t3,t4,Ao,A1,A2,D];exact Ap (.inr D) _ _ rfl ⟨by simp[l],by simp[C],by simp[w],by simp[I]⟩ (by simp[t]) (by simp[i]) (by simp)
   ·simp[T4,t,i,H,l,o,AL,AN,AM,CC,AO,AQ,A2];exact Ap (.inl (by omega)) _ _ rfl ⟨by simp[l],by simp[C],by simp[w],by simp[I]⟩ (by simp[t]) (by simp[i]) (by simp)
structure ON(B:Int->List Int)(cI ag:Nat)(m:V):Prop where
 W: ∃a:List Value,m.W cI=some ⟨a,true⟩/\a.length=ag/\ ∀k:Nat,k<ag-> ∃b,a[k]?=some b/\Ib m b (B k)
theorem ON.AG(h:ON B cI ag m)(a:BK m u):ON B cI ag u:=by obtain⟨b,c,d,e⟩:=h.W;exact⟨b,a.some c,d,λk f=>by obtain⟨g,i,j⟩:=e k f;exact⟨g,i,j.AG a⟩⟩
set_option maxRecDepth 20000 in
theorem a7W{n:CG}(A9:n.Cz){ag:Nat}(AB:n.Am=ag){ab:List Int}(AE:Gn n ab){v:Value}{cG cU cI:Nat}{g:V}(L:F9 n ab v cG cU cI ag g){B:Int->List Int}(M:ON B cI ag g)(G:Qh n B)(AF: ∀x,(B x).length<100000){eB h1:Nat}(AH:g.next<=eB)(AJ:g.next<=h1)
 {Q:BM->A6->V->Prop}:
 ∀(k:Nat) (m:V) (y:A6) (j off:Nat) (f:List Value) (q:List Int) (p:Int->Bool) (eC:Int->Int),q.length+Fw p ag=k->k<=701->BK g m->g.next<=j->k6 ag eB h1 j off f q p eC m->
 He n ab p (λx=>BN (eC x)) q->dE cG eB h1 j off ag q y->
 (∀A u t w,BK g u->u.W eB=some ⟨C4 ag w,true⟩->u.W h1=some ⟨GF ag t,true⟩->He n ab t (λx=>BN (w x)) []->A 4= .slice (some ⟨eB,0,none⟩) ag 1->A 5= .slice (some ⟨h1,0,none⟩) ag 1->Q (.Ai 0) A u)->
 BS U (.loop VH) y m Q:=by
 intro k;induction k with
 | zero=>intro m y j off f q p eC N AK i O d o H C;have AL:q=[]:=Gy.1 (by omega);subst AL;refine D7 λAM P=> ?_;obtain⟨I,D,E,r⟩:=H;simp(disch:=omega)[VH,r];exact C _ _ p eC i d.b d.e o (by simp[D]) (by simp[E])
 | succ k AN=>
   intro m y j off f q p eC N AK i O d o H C;refine D7 λAM P=> ?_;have AO:=H;obtain⟨I,D,E,r⟩:=AO;cases q with
   | nil=>simp(disch:=first|omega|simp only[AD];omega)[VH,r];exact C _ _ p eC i d.b d.e o (by simp[D]) (by simp[E])
   | cons a6 q=>
     have AP:=L.AG i;have AQ:=AP.s;obtain⟨AR,R,AT,B7⟩:=(M.AG i).W;have S:=o.Qr a6 (by simp);obtain⟨T,B8⟩:=o.Cy a6 S;obtain⟨c,rfl⟩: ∃c:Nat,a6=c:=⟨a6.toNat,by omega⟩;have J:c<ag:=(by omega);have AU:c+1<=ag:=J;obtain⟨X,AV,B9,AW⟩:=M.W;have AY:X=AR:=(by have:=i.some AV;rw[R]at this;cases this;rfl);subst AY;obtain⟨AZ,Z,A0⟩:=AW c J;have Aa: ∀h,X[c]'h=AZ:= λh=>by rw[AS h]at Z;simpa using Z
     obtain⟨Ab,Ac⟩:=A0.len;have A1:=d.aNS;have Ad:=d.aN4;have Ae:=d.aP2;simp only[Df]at Ad A1 r N;have A2:f[off]?=some (Y c):=(by have:=congrArg (λl=>l[0]?) A1;simp at this;exact this);have Af: ∀h,f[off]'h=Y c:= λh=>by rw[AS h]at A2;simpa using A2
     have Ag:off+1<=f.length:=(by omega);have BA:off<f.length:=(by omega);simp(disch:=first|omega|simp only[AD];omega)[VH,I,r,AQ,R,AT,J,AU,Aa,Ab,Ac,Ae,Af,Ag,CC];refine gA A9 AB AE L AH AJ A0 (λz F=>⟨((G.Pt c ⟨T,by omega⟩) z F).1,((G.Pt c ⟨T,by omega⟩) z F).2.1⟩) (AF c) (B c).length 0 m _ j off f ((c:Int)::q) p eC (by omega) i O d (by simp;omega) o S (λz F=>by simp at F) ⟨by simp[I],by simp[D],by simp[E],by simp[r]⟩ (by simp) (by simp[]) (by simp) (λA u Ah A3 A4 BB t w new Ak Al An BC BD Ao Ap Aq=> ?_);obtain⟨a0,a4,Ar,A5⟩:=Aq;have As:He n ab t (λx=>BN (w x)) (q++new):=(by refine He.kN (a6:=(c:Int)) (by simpa using Ao) λe A7 At=> ?_;obtain⟨a,BE,Au,_⟩:=PH A7;obtain⟨z,A8,Av⟩:=G.all e (by have:=(AX.1 Au).1;exact this);rw[At]at A8;have:=Ap z A8;rw[Av]at this;exact this A7);have Aw:=An;obtain⟨Ax,Ay,Az,B0,K,B1,B2,B3⟩:=Aw;simp only[Ih,Df,Ds,E1]at B0 K A5;have B4:A3<A4.length:=(by omega);have B5:(1:Int)<=(q.length:Int)+(new.length:Int)+1:=(by omega);have z3:((q.length:Int)+(new.length:Int)+1).toNat=q.length+new.length+1:=(by omega);have B6:q.length+new.length+1-1=q.length+new.length:=(by omega);simp[A5,B5,B6,z3];refine P _ _ (AN u _ Ah (A3+1) A4 (q++new) t w (by simp;omega) (by omega) Ak Al ⟨Ax,Ay,Az,by simp;omega,?_,B1,B2,B3⟩ As ⟨by simp[a0],by simp[a4],by simp[Ar],by simp⟩ C);rw[Iy B4,WY]at K;injection K with _ h;rw[Ds];exact h
set_option maxRecDepth 20000 in
theorem qp(a:n.Cz)(i:n.Am=ag)(j:Gn n ab)(e:F9 n ab v cG cU cI ag m)(l:ON B cI ag m)(o:Qh n B)(q: ∀x,(B x).length<100000):
 Aq U 185 [AA cG] m λr u=>BK m u/\ ∃(eB c:Nat) (eC:Int->Int) (p:Int->Bool),r= .tuple #[.slice (some ⟨eB,0,none⟩) ag 1,.slice (some ⟨c,0,none⟩) ag 1]/\m.next<=eB/\m.next<=c/\u.W eB=some ⟨C4 ag eC,true⟩/\u.W c=some ⟨GF ag p,true⟩/\He n ab p (λx=>BN (eC x)) []:=by
 rw[aBg (by simp)];have f:=e.s;have O:=F f;obtain⟨g,P⟩:=a.Aj;have Q:=a.PL;obtain⟨d,t⟩: ∃k:Nat,n.Aj=k:=⟨n.Aj.toNat,by omega⟩;have w:d<ag:=by omega
 have y:d+1<=ag:=w;have h:n.Aj<(ag:Int):=by omega
 have z:n.Aj.toNat=d:=by omega
 have A:n.Am.toNat=ag:=by omega
 have z0:0<=n.Am:=by omega
 have C:n.Am*8<=140737488355328:=by omega
 have D:n.Am<=140737488355328:=by omega
 have E:n.Am<=9223372036854775807:=by omega
 simp(disch:=first|omega|simp only[AD];omega)[hp,f,g,h,z,y,A,z0,C,D,E,a6a,x4,-Nn];refine a7W a i j e l o q (eB:=m.next+5) (h1:=m.next+11) (by omega) (by omega) (1+Fw (At (λ_=>false) n.Aj true) ag) _ _ (m.next+14+5) 0 [Y n.Aj] [n.Aj] (At (λ_=>false) n.Aj true) (λ_=>0) (by simp) ?_ ?_ (by omega) ⟨?_,?_,?_,by simp,by simp,by omega,by omega,by omega⟩ (by have:=He.fw a ab (λx=>BN ((λ_=>0) x));exact this) ⟨by simp,by simp,by simp,by simp⟩ (λR u G H I J K L M N=> ?_)
 ·have:=RJ (λ_=>false) n.Aj g rfl ag h;have:=lS (λ_=>false) ag;omega
 ·exact⟨by simp only[Ar,BC];omega,λb hb=>by simp(disch:=first|omega|(simp only[Ar,BC];omega)) only[A3,AU]⟩
 ·simp(disch:=first|omega|(simp only[Ar,BC];omega)) only[AT,A3,AU,Uh]
 ·simp(disch:=first|omega|(simp only[Ar,BC];omega)) only[AT,A3,AU,t]
 ·simp(disch:=first|omega|(simp only[Ar,BC];omega)) only[AT]
 ·simp(disch:=omega)[M,N];exact⟨I,_,_,⟨rfl,rfl⟩,by omega,by omega,H,J,G,K,L⟩
theorem iQ(k:IntKind): ∀(l:List Int) (i:Nat) (c:Int),(l.map (Value.int k ·)).set i (.int k c)=(l.set i c).map (Value.int k ·)
 |[],_,_=>rfl
 |x::l,0,c=>rfl
 |x::l,i+1,c=>congrArg (List.cons _) (iQ k l i c)
theorem F9.hg{d:List Int}(h:F9 n ab v cG cU cI ag m)(g:cG≠cU)(i: ∀b l c,v= .slice (some ⟨b,0,none⟩) l c->b≠cU)(j:d.length=ab.length):
 F9 n d v cG cU cI ag (m.A0 cU (some ⟨d.map (Value.int .i64 ·),true⟩)):=by
 refine⟨?_,?_,AT (F h.f)⟩
 ·rw[A3 g,j];exact h.s
 ·rcases h.a with h|⟨b,o,e,k⟩
  ·exact .inl h
  ·exact .inr ⟨b,o,e,by rw[A3 (i _ _ _ e)];exact k⟩
def KF(d r:Int):Int:=if d<0\/r<d then r else d
def Lt(n:CG)(ab:List Int)(d:Int)(l:List DJ):Int:=l.foldl (λd e=>KF d (Ab n ab e)) d
theorem yE: ∀(l:List DJ) (d:Int),(∀e∈l,0<Ab n ab e)->(d= -1\/0<d)->(Lt n ab d l= -1/\l=[]/\d= -1)\/(0<Lt n ab d l/\(0<d->Lt n ab d l<=d)/\ ∀e∈l,Lt n ab d l<=Ab n ab e)
 | [],d,_,a=>by
   rcases a with rfl|a
   ·exact .inl ⟨rfl,rfl,rfl⟩
   ·exact .inr ⟨a,λ_=>HB _,by simp⟩
 | e::l,d,f,a=>by
   have p:=f e (by simp);have g:0<KF d (Ab n ab e):=(by unfold KF;split<;>omega);have:=yE l (KF d (Ab n ab e)) (λe i=>f e (by simp[i])) (.inr g);have j:Lt n ab d (e::l)=Lt n ab (KF d (Ab n ab e)) l:=rfl;rw[j];right;rcases this with⟨_,_,h⟩|⟨k,m,o⟩
   ·omega
   ·have:=m g;refine⟨k,λa=> ?_,λb c=> ?_⟩
    ·have:KF d (Ab n ab e)<=d:=(by unfold KF;split<;>omega);omega
    ·rcases CM.1 c with rfl|c
     ·have:KF d (Ab n ab b)<=Ab n ab b:=(by unfold KF;split<;>omega);omega
     ·exact o b c
theorem a3d(h:I1 n A x []):x=n.Aj:=by cases h;rfl
theorem bc(f:n.Cz)(b:I1 n (λx=>BN (eC x)) x (e::l))(g:0<Ab n ab e):
 x≠n.Aj/\e=BN (eC x)/\Bi n e=x/\I1 n (λx=>BN (eC x)) (Bs n e) l/\n.Cy x/\e.1<n.AF.length:=by
 cases b with
 | cons h c b=>obtain⟨a,j,i,_⟩:=PH g;have d:=(AX.1 i).1;exact⟨h,rfl,c,b,by have:=(m4 f d).2;rw[c]at this;exact this,d⟩
set_option maxRecDepth 20000 in
theorem tZ(r:n.Cz)(I:n.Am=ag)(E:Gn n ab)(i:F9 n ab v cG cU cI ag m)(hb:m.W eB=some ⟨C4 ag eC,true⟩):
 ∀(l:List DJ) (x d:Int) (f:A6),I1 n (λx=>BN (eC x)) x l->(∀e∈l,0<Ab n ab e)->f 0=AA cG->f 1= .slice (some ⟨eB,0,none⟩) ag 1->f 5=Y d->f 6=Y x->
 (∀a,a 0=AA cG->a 1= .slice (some ⟨eB,0,none⟩) ag 1->a 5=Y (Lt n ab d l)->Q (.Ai 0) a m)->BS U (.loop T6) f m Q
 | [],x,d,f,u,w,b,c,g,j,y=>by refine D7 λF G=> ?_;have o:=i.s;cases u;simp[T6,b,j,o];exact y _ (by simp[b]) (by simp[c]) (by simp[g,Lt])
 | e::l,x,d,f,u,w,b,c,g,j,y=>by
   refine D7 λF G=> ?_;have o:=i.s;obtain⟨z,h,P,J,K,H⟩:=bc r u (w e (by simp));obtain⟨R,S⟩:=K;obtain⟨k,rfl⟩: ∃k:Nat,x=k:=⟨x.toNat,by omega⟩;have p:k<ag:=(by omega);have A:k+1<=ag:=p;have B:(C4 ag eC)[k]?=some (Y (eC k)):=L9 p;have C: ∀a7:Value->V->Prop,Aq U 235 [AA cG,Y (eC k)] m a7=a7 (.tuple #[Y (Bi n e),Y (Ab n ab e)]) m:= λa7=>by rw[h];exact(qs r E i (by rw[<-h];exact H)).wp
   have D: ∀a7:Value->V->Prop,Aq U 236 [AA cG,Y (eC k)] m a7=a7 (Y (Bs n e)) m:= λa7=>by rw[h];exact(qP r i (by rw[<-h];exact H)).wp
   have next: ∀(a:A6),a 0=AA cG->a 1= .slice (some ⟨eB,0,none⟩) ag 1->a 5=Y (KF d (Ab n ab e))->a 6=Y (Bs n e)->F a m:= λa L M N O=>
    G _ _ (tZ r I E i hb l _ _ a J (λe h=>w e (by simp[h])) L M N O y)
   by_cases q:d<0
   ·simp[T6,b,c,g,j,o,z,hb,B,CC,p,A,C,D,q];exact next _ (by simp[b]) (by simp[c]) (by simp[KF,q]) (by simp)
   by_cases t:Ab n ab e<d
   ·simp[T6,b,c,g,j,o,z,hb,B,CC,p,A,C,D,q,t];exact next _ (by simp[b]) (by simp[c]) (by simp[KF,t]) (by simp)
   ·simp[T6,b,c,g,j,o,z,hb,B,CC,p,A,C,D,q,t];exact next _ (by simp[b]) (by simp[c]) (by simp[g,KF,q,t]) (by simp)
set_option maxRecDepth 20000 in
theorem tq(B:n.Cz)(AN:n.Am=ag)(A2:0<=d)(A4:cG≠cU)(A5: ∀b l c,v= .slice (some ⟨b,0,none⟩) l c->b≠cU)(A7:eB≠cU):
 ∀(l:List DJ) (x:Int) (ab:List Int) (m:V) (o:A6),I1 n (λx=>BN (eC x)) x l->Gn n ab->(∀e∈l,0<Ab n ab e/\d<=Ab n ab e)->(l.map Prod.fst).Nodup->F9 n ab v cG cU cI ag m->m.W eB=some ⟨C4 ag eC,true⟩->
 o 0=AA cG->o 1= .slice (some ⟨eB,0,none⟩) ag 1->o 5=Y d->o 9=Y x->
 (∀j,j 5=Y d->Q (.Ai 2) j (m.A0 cU (some ⟨(HP ab l d).map (Value.int .i64 ·),true⟩)))->BS U (.loop US) o m Q
 | [],x,ab,m,o,O,H,P,I,q,hb,y,C,r,J,K=>by refine D7 λA8 A9=> ?_;have L:=q.s;cases O;simp(disch:=first|omega|simp only[AD];omega)[US,y,J,L];have:=K o r;simp only[HP,List.foldl_nil]at this;rw[Z1 q.f]at this;have h:=K;simp only[HP,List.foldl_nil]at h;rw[Z1 q.f]at h;exact h _ (by simp[r])
 | e::l,x,ab,m,o,O,H,P,I,q,hb,y,C,r,J,K=>by
   refine D7 λA8 A9=> ?_;have L:=q.s;have R:=q.f;have Ae:=F R;obtain⟨t,D⟩:=P e (by simp);obtain⟨AB,A,Af,AO,AP,M⟩:=bc B O t;obtain⟨Ag,Ak⟩:=AP;obtain⟨k,rfl⟩: ∃k:Nat,x=k:=⟨x.toNat,by omega⟩;have N:k<ag:=(by omega);have AE:k+1<=ag:=N;have AG:(C4 ag eC)[k]?=some (Y (eC k)):=L9 N;obtain⟨a,p,S,w⟩:=PH t;have AH: ∀h,ab[e.1]'h=p:= λh=>by rw[AS h]at w;simpa using w
   have AQ:=hA H t A2 D;have AR:(push ab e d).length=ab.length:=jN;have AJ:=q.hg A4 A5 AR;have E: ∀a7:Value->V->Prop,Aq U 236 [AA cG,Y (eC k)] (m.A0 cU (some ⟨(push ab e d).map (Value.int .i64 ·),true⟩)) a7=a7 (Y (Bs n e)) (m.A0 cU (some ⟨(push ab e d).map (Value.int .i64 ·),true⟩)):= λa7=>by have:=(qP B AJ (z:=eC k) (by rw[<-A];exact M)).wp (a7:=a7);rw[<-A]at this;exact this
   simp only[E1,K5]at I;have AT: ∀G∈l,0<Ab n (push ab e d) G/\d<=Ab n (push ab e d) G:=by intro G AK;rw[fK (λh=>I.1 (CP.2 ⟨G,AK,h⟩))];exact P G (by simp[AK])
   have next: ∀(j:A6) (u:V),u=m.A0 cU (some ⟨(push ab e d).map (Value.int .i64 ·),true⟩)->j 0=AA cG->j 1= .slice (some ⟨eB,0,none⟩) ag 1->j 5=Y d->j 9=Y (Bs n e)->A8 j u:=by intro j u AU AV AW AX AY;subst AU;refine A9 _ _ (tq B AN A2 A4 A5 A7 l _ (push ab e d) _ j AO AQ AT I.2 AJ (by rw[A3 A7];exact hb) AV AW AX AY (λAZ g=> ?_));rw[VD];exact K AZ g
   have Al:=H.2 _ a p S w;have An:=(B.Il a (B9 S)).2.2;have Ao:=B.JK;have AL:=M;have Ap:ab.length=n.AF.length:=H.1;unfold Ab at t D;simp only[S,w]at t D;have Aa:push ab e d=ab.set e.1 (if e.2 then p+d else p-d):=(by unfold push;rw[w]);rw[Aa,<-iQ]at E next
   rcases VV (eC k)with⟨i,T,AM,Ac,X⟩|⟨i,T,AM,X⟩
   ·rw[X]at A;subst A;simp only[if_true]at t D E next M AL w
    have Z:IntKind.i64.wrap (p+d)=p+d:=Ah (by omega) (by omega);have A1:eC k<ab.length:=(by omega);have z3:i+1<=ab.length:=(by omega);have z4:i<ab.length:=(by omega);simp(disch:=first|omega|simp only[AD];omega)[US,y,C,r,J,L,AB,hb,AG,CC,N,AE,E,R,T,Ac,AH,Z,A1,z3];exact next _ _ rfl (by simp[y]) (by simp[C]) (by simp[r]) (by simp)
   ·rw[X]at A;subst A;simp only[EI,if_false]at t D E next M AL w
    have Z:IntKind.i64.wrap (p-d)=p-d:=Ah (by omega) (by omega);have Ad:IntKind.i64.wrap (i:Int)=i:=Ah (by omega) (by omega);have A1:(i:Int)<ab.length:=(by omega);have z3:i+1<=ab.length:=(by omega);have z4:i<ab.length:=(by omega);simp(disch:=first|omega|simp only[AD];omega)[US,y,C,r,J,L,AB,hb,AG,CC,N,AE,E,R,T,AM,AH,Z,Ad,A1,z3];exact next _ _ rfl (by simp[y]) (by simp[C]) (by simp[r]) (by simp)
theorem zc(k:n.Cz)(t:n.Am=ag)(w:Gn n ab)(o:F9 n ab v cG cU cI ag m)(hb:m.W eB=some ⟨C4 ag eC,true⟩)(A:cG≠cU)(B: ∀b l c,v= .slice (some ⟨b,0,none⟩) l c->b≠cU)(C:eB≠cU)
 (p:I1 n (λx=>BN (eC x)) n.BJ l) (j: ∀e∈l,0<Ab n ab e) (D:(l.map Prod.fst).Nodup):
 Aq U 186 [AA cG,.slice (some ⟨eB,0,none⟩) ag 1] m λr u=> ∃d,r=Y d/\0<d/\(∀e∈l,0<Ab n ab e/\d<=Ab n ab e)/\u=m.A0 cU (some ⟨(HP ab l d).map (Value.int .i64 ·),true⟩):=by
 rw[a44 (by simp)];have y:=o.s;have E:l≠[]:= λh=>by subst h;exact k.Di (a3d p).symm
 have i:=yE (n:=n) (ab:=ab) l (-1) j (.inl rfl);have i:0<Lt n ab (-1) l/\ ∀e∈l,Lt n ab (-1) l<=Ab n ab e:=by
  rcases i with⟨_,h,_⟩|⟨q,_,F⟩
  ·exact absurd h E
  ·exact⟨q,F⟩
 simp[hR,y];refine tZ k t w o hb l n.BJ (-1) _ p j (by simp) (by simp) (by simp) (by simp) (λH z q G=> ?_);simp[z,y];refine tq k t (d:=Lt n ab (-1) l) (by omega) A B C l n.BJ ab m _ p w (λe f=>⟨j e f,i.2 e f⟩) D o hb (by simp[z]) (by simp[q]) (by simp[G]) (by simp) (λI g=> ?_);simp[g];exact⟨i.1,λa=>⟨λf=>⟨j _ f,i.2 _ f⟩,λf=>⟨j _ f,i.2 _ f⟩⟩⟩
end Go.Proofs.YtmmkkggfmigppaaGreat
