/- A part of the proof. -/
import Derived.Test.YtmmkkggfmigppaaGreatZczab
set_option linter.all false
set_option maxRecDepth 8000
set_option maxHeartbeats 16000000
namespace Go.Proofs.YtmmkkggfmigppaaGreat
open Go Go.DI Go.Ex
def J3(a:Ae):Bool:= !decide (a.k<0)&& !decide (1000<a.k)&& !decide (1000000<a.c)
def MX(n:CG):Bool:=n.AF.all J3&&H3 n
theorem yG{n:CG}{v:Value}{df:V}(E:GX df v n.AF)(H:n.AF.length<1000000000){Q:BM->A6->V->Prop}: ∀(r i:Nat) (m:V) (e:A6),i+r=n.AF.length->BK df m->
 e 6=v->e 7=Y n.AF.length->e 8=Y i->
 (∀d u,BK df u->d 1=e 1->(n.AF.drop i).all J3=true->Q (.Ai 0) d u)->(∀d u,BK df u->(n.AF.drop i).all J3=false->d 2= .bool false->Q .DO d u)->BS U (.loop Pp) e m Q
 | 0,i,m,e,I,l,g,f,h,x,z=>by refine D7 λJ G=> ?_;have b: ¬i<n.AF.length:=(by omega);simp[Pp,f,h,b];exact x _ _ l (by simp) (by rw[S2 (by omega)];rfl)
 | r+1,i,m,e,I,l,g,f,h,x,z=>by
   refine D7 λJ G=> ?_;have b:i<n.AF.length:=(by omega);obtain⟨a,A⟩: ∃a,n.AF[i]?=some a:=⟨n.AF[i]'b,by simp⟩;have B:n.AF.drop i=a::n.AF.drop (i+1):=by rw[Iy b];rw[AS b]at A;cases A;rfl
   obtain⟨c,o,rfl,K⟩:=E.C1 b;have p:=l.some K;have W:=F p;have X:=l.next
   have hb:i*4+4<=n.AF.length*4:=(by omega);have s:=LX A;have L:=BX (n:=i) (by omega);have t: ∀y,BK df ((m.AE 4).A0 (m.next+2) (some y)):= λy=>(l.AE 4).A0 (by omega);have stop: ∀(d:A6) (u:V),J3 a=false->BK df u->d 2= .bool false->Q .DO d u:= λd u M N O=>z _ _ N (by rw[B,Fz,M];rfl) O;by_cases j:a.k<0
   ·simp(disch:=first|omega|simp only[AD];omega)[Pp,g,f,h,b,p,hb,s,Cj,j];exact stop _ _ (by simp[J3,j]) (t _) (by simp)
   by_cases q:1000<a.k
   ·simp(disch:=first|omega|simp only[AD];omega)[Pp,g,f,h,b,p,hb,s,Cj,j,q];exact stop _ _ (by simp[J3,q]) (t _) (by simp)
   by_cases w:1000000<a.c
   ·simp(disch:=first|omega|simp only[AD];omega)[Pp,g,f,h,b,p,hb,s,Cj,j,q,w];exact stop _ _ (by simp[J3,w]) (t _) (by simp)
   simp(disch:=first|omega|simp only[AD];omega)[Pp,g,f,h,b,p,hb,s,Cj,j,q,w,L];refine G _ _ (yG E H r (i+1) _ _ (by omega) (t _) (by simp[g]) (by simp[f]) (by simp) (λP R C S D=>x _ _ C (by rw[S];simp) ?_) (λP R C D T=>z _ _ C ?_ T))
   ·rw[B,Fz,D];simp[J3,j,q,w]
   ·rw[B,Fz,D];simp
variable{n:CG}{v:Value}
theorem q6{m:V}(d:GX m v n.AF)(f:n.AF.length<1000000000):Aq U 211 [Ol n v] m λr u=>r= .bool (MX n)/\BK m u:=by
 rw[aAn (by simp)];obtain⟨g,h⟩:=d.len;have c:BK m ((m.AE 2).A0 m.next (some ⟨FV n v,true⟩)):=((BK.refl m).AE 2).A0 (Ao _);have i:((m.AE 2).A0 m.next (some ⟨FV n v,true⟩)).W m.next=some ⟨FV n v,true⟩:=AT (by simp)
 simp(disch:=first|omega|simp only[AD];omega)[iI,g,h];refine yG (d.AG c) f n.AF.length 0 _ _ (by omega) (BK.refl _) (by simp) (by simp[]) (by simp) (λj u a e b=> ?_) (λj u a b k=> ?_)
 ·have l:=a.some i;simp at e;simp[e,l,Bx,DN,CW];refine(fQ ((d.AG c).AG a)).AG λr q o=> ?_;obtain⟨rfl,p⟩:=o;rw[KK]at b;simp;exact⟨by simp[MX,b],(c.trans a).trans p⟩
 ·simp[k];rw[KK]at b;exact⟨by simp[MX,b],c.trans a⟩
end Go.Proofs.YtmmkkggfmigppaaGreat
namespace Go.Ex
def Ga(n:CG)(e:DJ):Int:=match n.AF[e.1]? with|some a=>if e.2 then a.k else-a.k|none=>0
def F8(n:CG)(p:Int->Int)(e:DJ):Int:=Ga n e+p (Bs n e)-p (Bi n e)
def FF(n:CG)(ab:List Int)(p:Int->Int):Prop:= ∀e,0<Ab n ab e->0<=F8 n p e
def Fu:List Ae->List Int->Int
 |a::D,A::fs=>A*a.k+Fu D fs
 |_,_=>0
def Nv(p:Int->Int):List Ae->List Int->Int
 |a::D,A::fs=>A*(a.k+p a.f-p a.t)+Nv p D fs
 |_,_=>0
def J1(p:Int->Int):List Ae->List Int->Int
 |a::D,A::fs=>A*(p a.f-p a.t)+J1 p D fs
 |_,_=>0
theorem jm(p:Int->Int): ∀(D:List Ae) (fs:List Int),Nv p D fs=Fu D fs+J1 p D fs
 |[],_=>by simp[Nv,Fu,J1]
 |_::_,[]=>by simp[Nv,Fu,J1]
 | a::D,A::fs=>by
   have:=jm p D fs
   grind [Nv,Fu,J1]
theorem zF(s:Int->Bool)(p:Int->Int)(y A:Int)(a:0<=y)(b:s y=true)(k:Nat)(c:y<k):GP s (λx=>p x*Bj y x A) k=p y*A:=by have:=eZ s (λx=>p x*Bj y x A) k y a b (λx _ _ _ d=>by simp[Bj,Ne.symm d]) k (Ao _) c;rw[this];simp[Bj]
theorem yt(p:Int->Int)(ag:Nat): ∀(c:List Ae) (fs:List Int),(∀a∈c,(0<=a.f/\a.f<ag)/\(0<=a.t/\a.t<ag))->GP (λ_=>true) (λx=>p x*DG c fs x) ag=J1 p c fs
 | [],fs,_=>by
   simp_all [DG,Vu,J1]
 | a::c,[],_=>by
   simp_all [DG,Vu,J1]
 | a::c,A::fs,h=>by
   have e:(λx=>p x*DG (a::c) (A::fs) x)= λx=>(p x*Bj a.f x A+p x*Bj a.t x (-A))+p x*DG c fs x:=by
    grind [DG,n9]
   obtain⟨d,g⟩:=h a (by simp);rw[e,XT,XT,zF _ p _ _ d.1 rfl ag d.2,zF _ p _ _ g.1 rfl ag g.2,yt p ag c fs (λb hb=>h b (by simp[hb]))]
   grind [J1]
theorem sJ(p:Int->Int)(c:Int): ∀(b:List Ae) (fs:List Int),J1 (λx=>p x-c) b fs=J1 p b fs
 |[],_=>by simp[J1]
 |_::_,[]=>by simp[J1]
 | a::b,A::fs=>by
   have:=sJ p c b fs
   grind [J1]
variable{ab:List Int}{n:CG}{a:Ae}{i ag:Nat}{p cv:Int->Int}{A v x:Int}{G:Type}{B:Int->DJ}{jD q:List (Int×Int)}{e:DJ}{s:Int×Int}{l:List DJ}
theorem tN(h:n.Cz)(b:Dr n ab)(p:Int->Int):J1 p n.AF ab=(p n.Aj-p n.BJ)*value n ab:=by
 have e:=h.Ph;have c:=h.Aj;unfold CG.Cy at c;rw[<-sJ p (p n.BJ),<-yt _ n.Am.toNat n.AF ab h.je];rw[eZ (λ_=>true) _ n.Am.toNat n.Aj (by omega) rfl _ n.Am.toNat (Ao _) (by omega)]
 ·rfl
 intro x d f _ xs;by_cases a:x=n.BJ
 ·subst a;simp
 ·simp only[b.SD x ⟨d,by omega⟩ xs a,Int.mul_zero]
theorem sn{n:CG}(p:Int->Int): ∀(b:List Ae) (fs e:List Int),fs.length=b.length->e.length=b.length->
 (∀(i:Nat) a A d,b[i]?=some a->fs[i]?=some A->e[i]?=some d->(0<=d/\d<=a.c)/\(A<a.c->0<=a.k+p a.f-p a.t)/\(0<A->a.k+p a.f-p a.t<=0))->Nv p b fs<=Nv p b e
 |[],_,_,_,_,_=>by simp[Nv]
 |a::b,[],_,h,_,_=>by simp at h
 |a::b,_::_,[],_,h,_=>by simp at h
 | a::b,A::fs,d::e,g,j,h=>by
   have:=sn (n:=n) p b fs e (by simpa using g) (by simpa using j) (λi a A d l m o=>h (i+1) a A d (by simpa using l) (by simpa using m) (by simpa using o));obtain⟨⟨q,s⟩,u,v⟩:=h 0 a A d rfl rfl rfl;simp only[Nv];have:A*(a.k+p a.f-p a.t)<=d*(a.k+p a.f-p a.t):=by
    generalize a.k+p a.f-p a.t=r at*;by_cases w:0<r
    ·exact My (by omega) (by omega)
    ·by_cases x:r<0
     ·exact Int.mul_le_mul_of_nonpos_right (by omega) (by omega)
     ·grind
   omega
theorem r6(b:n.AF[i]?=some a):F8 n p (i,true)=a.k+p a.f-p a.t:=by simp[F8,Ga,Bs,Bi,b]
theorem sk(b:n.AF[i]?=some a):F8 n p (i,false)= -(a.k+p a.f-p a.t):=by simp[F8,Ga,Bs,Bi,b];omega
theorem FF.AF(h:FF n ab p)(b:n.AF[i]?=some a)(d:ab[i]?=some A):(A<a.c->0<=a.k+p a.f-p a.t)/\(0<A->a.k+p a.f-p a.t<=0):=by
 refine⟨λe=> ?_,λe=> ?_⟩
 ·have:=h (i,true) (by simp[Ab,b,d];omega)
  rwa [r6 b]at this
 ·have:=h (i,false) (by simp[Ab,b,d];omega);rw[sk b]at this;omega
theorem FF.a3C(h: ∀(i:Nat) a A,n.AF[i]?=some a->ab[i]?=some A->(A<a.c->0<=a.k+p a.f-p a.t)/\(0<A->a.k+p a.f-p a.t<=0)):FF n ab p:=by
 rintro⟨i,b⟩ d
 grind [Ab,sk,r6]
theorem FF.a26(c:n.Cz){g:List Int}(h:FF n ab p)(d:Dr n ab)(b:Dr n g):Fu n.AF ab+(p n.BJ-p n.Aj)*(value n g-value n ab)<=Fu n.AF g:=by
 have f:=sn (n:=n) p n.AF ab g d.ES.1 b.ES.1 λi a A j e k l=>⟨b.ES.2 i a j e l,h.AF e k⟩;rw[jm,jm,tN c d,tN c b]at f
 grind
theorem FF.zero(b:n.Cz)(c: ∀a∈n.AF,0<=a.k):FF n (List.replicate n.AF.length 0) (λ_=>0):=by
 grind [FF.a3C]
def EU:Int:=1099511627776
def GR(cv:Int->Int):Int->Bool:= λv=>decide (cv v<EU)
theorem Qc:GR cv v=true↔cv v<EU:=by simp[GR]
structure F7(n:CG)(ab:List Int)(p:Int->Int)(ag:Nat)(cv:Int->Int)(B:Int->DJ)(q:List (Int×Int)):Prop where
 Aj:cv n.Aj=0
 EZ: ∀v,0<=cv v
 TJ: ∀v,cv v<=EU
 cap: ∀v,cv v<EU->cv v+p v+1000*Fw (GR cv) ag<=1000*ag
 Cy: ∀v,cv v<EU->n.Cy v
 Qr: ∀s∈q,n.Cy s.1/\cv s.1<=s.2/\s.2<EU
 O0: ∃(L7:Int->Nat) (c:Nat),(∀v,L7 v<c)/\ ∀v,cv v<EU->v≠n.Aj->0<Ab n ab (B v)/\Bi n (B v)=v/\cv (Bs n (B v))<EU/\cv (Bs n (B v))+F8 n p (B v)<=cv v/\(cv (Bs n (B v))<cv v\/cv (Bs n (B v))=cv v/\L7 (Bs n (B v))<L7 v)
 SX: ∀e,0<Ab n ab e->cv (Bs n e)<EU->(Bs n e,cv (Bs n e))∉q->cv (Bi n e)<=cv (Bs n e)+F8 n p e
theorem Hz{f:Int->G}{v:G}:At f x v x=v:=by simp[At]
theorem FW{f:Int->G}{y:Int}{v:G}(h:y≠x):At f x v y=f y:=by simp[At,h]
theorem F7.wL(h:F7 n ab p ag cv B q)(a: ∀s,s∈q↔s∈jD):F7 n ab p ag cv B jD:=
 ⟨h.Aj,h.EZ,h.TJ,h.cap,h.Cy,λs b=>h.Qr s ((a s).2 b),h.O0,λe c d f=>h.SX e c d (λg=>f ((a _).1 g))⟩
theorem F7.add(h:F7 n ab p ag cv B q)(E:n.Am=ag)(o:FF n ab p)(F: ∀e,Ga n e<=1000)(r:0<Ab n ab e)(t:cv (Bs n e)<EU)(j:cv (Bs n e)+F8 n p e<cv (Bi n e))(i:n.Cy (Bi n e)):
 F7 n ab p ag (At cv (Bi n e) (cv (Bs n e)+F8 n p e)) (At B (Bi n e) e) ((Bi n e,cv (Bs n e)+F8 n p e)::q):=by
 have G:=o e r;have H:=h.EZ (Bs n e);have I:Bs n e≠Bi n e:= λf=>by rw[f]at j;omega
 have u:Bi n e≠n.Aj:= λf=>by rw[f,h.Aj]at j;omega
 have J:=h.TJ (Bi n e);have w: ∀v,At cv (Bi n e) (cv (Bs n e)+F8 n p e) v<=cv v:= λv=>by
  grind [Hz,FW]
 generalize K:cv (Bs n e)+F8 n p e=d at*;have x:0<=d:=by omega
 have y:(cv (Bi n e)<EU->Fw (GR (At cv (Bi n e) d)) ag=Fw (GR cv) ag)/\(¬cv (Bi n e)<EU->Fw (GR (At cv (Bi n e) d)) ag+1=Fw (GR cv) ag):=by
  have g:GR (At cv (Bi n e) d)=At (GR cv) (Bi n e) true:=by
   grind [Hz,GR,FW]
  refine⟨λf=> ?_,λf=> ?_⟩
  ·have:At (GR cv) (Bi n e) true=GR cv:=by
    grind [Hz,Qc,FW]
   rw[g,this]
  ·rw[g];exact RJ (GR cv) (Bi n e) i.1 (by simp[GR,f]) ag (by have:=i.2;omega)
 have z:d+p (Bi n e)+1000*Fw (GR (At cv (Bi n e) d)) ag<=1000*ag:=by
  by_cases f:cv (Bi n e)<EU
  ·have:=h.cap _ f;rw[y.1 f];omega
  ·have:=h.cap _ t
   grind [F8]
 have L:Fw (GR (At cv (Bi n e) d)) ag<=Fw (GR cv) ag:=by omega
 refine⟨?_,λv=> ?_,λv=>Int.le_trans (w v) (h.TJ v),λv a=> ?_,λv a=> ?_,λs g=> ?_,?_,λk A l m=> ?_⟩
 ·rw[FW u.symm];exact h.Aj
 ·by_cases a:v=Bi n e
  ·subst a;rw[Hz];exact x
  ·rw[FW a];exact h.EZ v
 ·by_cases b:v=Bi n e
  ·subst b;rw[Hz];exact z
  ·rw[FW b]at a⊢;have:=h.cap v a;omega
 ·by_cases b:v=Bi n e
  ·subst b;exact i
  ·rw[FW b]at a;exact h.Cy v a
 ·rcases CM.1 g with rfl|g
  ·grind [Hz]
  ·obtain⟨M,N,a3⟩:=h.Qr s g
   grind
 ·obtain⟨L7,c,O,hb⟩:=h.O0;refine⟨At L7 (Bi n e) c,c+1,λv=> ?_,λv a g=> ?_⟩
  ·grind [Hz,FW]
  ·by_cases b:v=Bi n e
   ·grind [Hz,FW]
   ·rw[FW b]at a;rw[FW b,FW b,FW b]
    grind [Hz,FW]
 ·by_cases C:Bs n k=Bi n e
  ·grind [Hz]
  ·rw[FW C]at l m⊢;have:=h.SX k A l (λD=>m (Ty _ D))
   grind
theorem F7.a25(h:F7 n ab p ag cv B (s::q))(d:cv s.1<s.2):F7 n ab p ag cv B q:=
 ⟨h.Aj,h.EZ,h.TJ,h.cap,h.Cy,λx a=>h.Qr x (by simp[a]),h.O0,λe b c f=>h.SX e b c (λg=>by
  grind)⟩
theorem F7.kN(h:F7 n ab p ag cv B (s::q))(b: ∀e,0<Ab n ab e->Bs n e=s.1->cv (Bi n e)<=cv (Bs n e)+F8 n p e):F7 n ab p ag cv B q:=
 ⟨h.Aj,h.EZ,h.TJ,h.cap,h.Cy,λx c=>h.Qr x (by simp[c]),h.O0,λe a d g=>by
  by_cases f:Bs n e=s.1
  ·exact b e a f
  ·exact h.SX e a d (λi=>by
    grind)⟩
theorem F7.fw(d:n.Cz)(f:n.Am=ag)(ab:List Int)(g:p n.Aj=0)(B:Int->DJ):F7 n ab p ag (At (λ_=>EU) n.Aj 0) B [(n.Aj,0)]:=by
 have only: ∀v,At (λ_=>EU) n.Aj 0 v<EU->v=n.Aj:= λv a=>by
  grind [FW]
 have c:At (λ_=>EU) n.Aj (0:Int) n.Aj=0:=Hz;refine⟨c,λv=> ?_,λv=> ?_,λv a=> ?_,λv a=>by rw[only v a];exact d.Aj,λs b=> ?_,⟨λ_=>0,1,by simp,λv a b=>absurd (only v a) b⟩,λe i j k=> ?_⟩
 ·by_cases h:v=n.Aj
  ·simp_all
  ·rw[FW h];decide
 ·by_cases h:v=n.Aj
  ·subst h;rw[c];decide
  ·rw[FW h];exact HB _
 ·grind [lS]
 ·simp at b;subst b;simp only;rw[c];exact⟨d.Aj,HB _,by decide⟩
 ·grind
theorem F7.RV(h:F7 n ab p ag cv B [])(m:ag<=700)(o: ∀v,0<=p v)(q: ∀e,Ga n e<=1000)(r: ∀v,p v<=1000000):Td n ab (GR cv) B:=by
 refine⟨Qc.2 (by rw[h.Aj];decide),?_,λe d f=> ?_⟩
 ·obtain⟨L7,c,g,hb⟩:=h.O0;refine⟨λv=>(cv v).toNat*(c+1)+L7 v,λv i j=> ?_⟩;obtain⟨k,l,a3,a4,a⟩:=hb v (Qc.1 i) j;refine⟨k,l,Qc.2 a3,?_⟩;have s:=h.EZ v;have t:=h.EZ (Bs n (B v));have u:=g (Bs n (B v));show(cv (Bs n (B v))).toNat*(c+1)+L7 (Bs n (B v))<(cv v).toNat*(c+1)+L7 v;rcases a with a|⟨a,w⟩
  ·have:(cv (Bs n (B v))).toNat+1<=(cv v).toNat:=(by omega);have:=IF (c+1) this
   grind
  ·rw[a];omega
 ·have b:=Qc.1 f;have:=h.SX e d b (by simp);have c:=h.cap _ b
  grind [Qc,F8,EU]
def Hx(p cv:Int->Int)(a:Int):Int->Int:= λv=>p v+(if cv v<a then cv v else a)
theorem F7.a6o(h:F7 n ab p ag cv B [])(c:FF n ab p){a:Int}(d:a<EU):FF n ab (Hx p cv a):=by
 intro e b;have f:=c e b;have g:=h.SX e b
 grind [F8,Hx]
theorem F7.H6(h:F7 n ab p ag cv B [])(f:FF n ab p){b:Int}(i:b<EU): ∀{l:List DJ} {x:Int},I1 n B x l->cv x<=b-> ∀e∈l,F8 n (Hx p cv b) e=0
 |[],_,_,_,e,a=>by simp at a
 | o::l,x,d,q,e,a=>by
   cases d with
   | cons j r d=>
     obtain⟨L7,c,s,hb⟩:=h.O0;obtain⟨g,k,a3,a4,t⟩:=hb x (by omega) j;have u:=f _ g;have m:=h.SX _ g a3 (by simp);rw[k]at m;rcases CM.1 a with rfl|a
     ·grind [F8,Hx]
     ·exact h.H6 f i d (by omega) e a
theorem aAa{a:DJ}(h:a.1=e.1)(b:F8 n p e=0):F8 n p a=0:=by
 grind [F8,Ga,Bs,Bi]
theorem pa{n:CG}{d:Int}{da:DJ}: ∀{l:List DJ} {ab:List Int},(∀e∈l,da.1≠e.1)->Ab n (HP ab l d) da=Ab n ab da
 |[],_,_=>rfl
 | e::l,ab,h=>by
   have:=pa (n:=n) (d:=d) (da:=da) (l:=l) (ab:=push ab e d) (λx a=>h x (by simp[a]))
   grind [HP,fK]
theorem FF.push(h:FF n ab p)(i: ∀e∈l,F8 n p e=0)(d:Int):FF n (HP ab l d) p:=by
 intro c f;by_cases g: ∃e∈l,c.1=e.1
 ·obtain⟨e,a,b⟩:=g;rw[aAa b (i e a)];exact HB _
 ·rw[pa (λe a b=>g ⟨e,a,b⟩)]at f;exact h c f
def GZ(g:Int->Nat):Nat->Nat
 |0=>0
 |k+1=>GZ g k+g k
theorem y4(g:Int->Nat)(x:Int)(c:Nat): ∀k:Nat,(k:Int)<=x->GZ (At g x c) k=GZ g k
 |0,_=>rfl
 |k+1,h=>by simp only[GZ,y4 g x c k (by omega),FW (show(k:Int)≠x by omega)]
theorem s7(g:Int->Nat)(x:Int)(c:Nat)(a:0<=x): ∀k:Nat,x<k->GZ (At g x c) k+g x=GZ g k+c
 |0,h=>by omega
 | k+1,h=>by
   by_cases b:x=k
   ·grind [GZ,y4,Hz]
   ·have:=s7 g x c a k (by omega)
    grind [GZ,FW]
theorem yC(g:Int->Nat)(a:Nat)(h: ∀x,g x<=a): ∀k,GZ g k<=k*a
 |0=>by simp[GZ]
 |k+1=>by have:=yC g a h k;have:=h k;simp only[GZ,Hl];omega
def Iv(cv:Int->Int):Int->Nat:= λv=>min (cv v).toNat 700001
theorem a8m(cv:Int->Int)(x d:Int):Iv (At cv x d)=At (Iv cv) x (min d.toNat 700001):=by
 grind [Iv,Hz,FW]
theorem a5V{d:Int}(a:0<=x)(b:x<ag)(c:0<=d)(e:d<cv x)(f:d<=700000):GZ (Iv (At cv x d)) ag+1<=GZ (Iv cv) ag:=by
 grind [a8m,s7,Iv]
theorem aCs(cv:Int->Int)(ag:Nat):GZ (Iv cv) ag<=ag*700001:=yC _ _ (λx=>by unfold Iv;omega) ag
end Go.Ex
namespace Go.Proofs.YtmmkkggfmigppaaGreat
open Go Go.DI Go.Ex
def Qf(n:CG)(ab:List Int):Int×Bool:=if(Jq n ab).2&&MX n then(Fu n.AF ab,true)else(0,false)
variable{a:Ae}{A m3 d Hh:Int}{ab L:List Int}{i b ag eB iD my a6 cG cI cU dU fp hu:Nat}{D:List Ae}{m u df:V}{n:CG}{v:Value}{e:Nat×Bool}{l q:List FB}{x:Option Bw}{eC p:Int->Int}{Q:BM->A6->V->Prop}{E:Int->List Int}
theorem aAq(b:D[i]?=some a)(c:ab[i]?=some A):Fu (D.drop i) (ab.drop i)=A*a.k+Fu (D.drop (i+1)) (ab.drop (i+1)):=by obtain⟨d,rfl⟩:=AX.1 b;obtain⟨e,rfl⟩:=AX.1 c;rw[Iy d,Iy e];rfl
theorem r4{f:Int}(D:f=1000000000){n:CG}{ab:List Int}{v w:Value}{df:V}(E:GX df v n.AF)(G:Ib df w ab)(hb:Gn n ab)(H:n.Cz)(I: ∀a∈n.AF,J3 a=true){Q:BM->A6->V->Prop}: ∀(r i:Nat) (e:Int) (m:V) (g:A6),i+r=n.AF.length->BK df m->0<=e->e<=i*f->
 g 1=w->g 25=v->g 26=Y n.AF.length->g 27=Y i->g 8=Y e->
 (∀J u,BK df u->J 8=Y (e+Fu (n.AF.drop i) (ab.drop i))->Q (.Ai 0) J u)->BS U (.loop YM) g m Q
 | 0,i,e,m,g,N,j,O,P,t,x,p,y,z,B=>by refine D7 λR K=> ?_;have l: ¬i<n.AF.length:=(by omega);simp(disch:=first|omega|simp only[AD];omega)[YM,p,y,l];exact B _ _ j (by rw[S2 (by omega)];simp[z,Fu])
 | r+1,i,e,m,g,N,j,O,P,t,x,p,y,z,B=>by
   refine D7 λR K=> ?_;have l:i<n.AF.length:=(by omega);have AB:=H.JK;obtain⟨a,q⟩: ∃a,n.AF[i]?=some a:=⟨n.AF[i]'l,by simp⟩;have C:i<ab.length:=(by rw[hb.1];exact l);obtain⟨A,s⟩: ∃A,ab[i]?=some A:=⟨ab[i]'C,by simp⟩;have S: ∀h,ab[i]'h=A:= λh=>by rw[AS h]at s;simpa using s
   have AG:=hb.2 i a A q s;have T:=I a (B9 q);simp[J3]at T;have AH:0<=A*a.k:=R9 (by omega) (by omega);have AJ:A*a.k<=f:=(by rw[D];exact Int.mul_le_mul (a:=A) (b:=a.k) (c:=1000000) (d:=1000) (by omega) (by omega) (by omega) (by omega));have AK:(i:Int)*f<=2500*f:=My (by omega) (by omega);have AL:((i+1:Nat):Int)*f=i*f+f:=(by push_cast;rw[Int.add_mul];omega);obtain⟨c,o,rfl,W⟩:=E.C1 l;obtain⟨d,o',rfl,X⟩:=G.C1 C;have L:=j.some W;have M:=j.some X;have AM:=F L;have AN:=F M;have AO:=j.next
   have Z:i*4+4<=n.AF.length*4:=(by omega);have A1:(i:Int)<ab.length:=(by omega);have A2:i+1<=ab.length:=C;have A3:=LX q;have A4:=BX (n:=i) (by omega);have A5:IntKind.i64.wrap (A*a.k)=A*a.k:=Ah (by omega) (by omega);have A7:IntKind.i64.wrap (e+A*a.k)=e+A*a.k:=Ah (by omega) (by omega);simp(disch:=first|omega|simp only[AD];omega)[YM,t,x,p,y,z,l,L,M,Z,A1,A2,A3,Cj,CC,S,A4,A5,A7,Bx,GN,DN,FJ,CW,Cu];refine K _ _ (r4 D E G hb H I r (i+1) (e+A*a.k) _ _ (by omega) ((j.AE _).A0 (by omega)) (by omega) (by omega) (by simp[t]) (by simp[x]) (by simp[p]) (by simp) (by simp) (λAP AQ A8 A9=>B _ _ A8 ?_));rw[A9,aAq q s,Int.add_assoc]
theorem a7o{w:Value}(e:GX m v n.AF)(i:Ib m w ab)(k:n.AF.length<1000000000):Aq U 155 [Ol n v,w] m λr u=>r= .tuple #[Y (Qf n ab).1,.bool (Qf n ab).2]/\BK m u:=by
 rw[a43 (by simp)];obtain⟨l,o⟩:=e.len;have b:BK m ((m.AE 3).A0 m.next (some ⟨FV n v,true⟩)):=((BK.refl m).AE 3).A0 (Ao _);have p:((m.AE 3).A0 m.next (some ⟨FV n v,true⟩)).W m.next=some ⟨FV n v,true⟩:=AT (by simp)
 simp(disch:=first|omega|simp only[AD];omega)[jr,Bx,DN,CW];refine(a6w (e.AG b) (i.AG b)).AG λr A g=> ?_;obtain⟨rfl,c⟩:=g;have j:=c.some p;cases h:(Jq n ab).2
 ·simp[];exact⟨by simp[Qf,h],b.trans c⟩
 simp[j,Bx,DN,CW];refine(q6 ((e.AG b).AG c) k).AG λr B g=> ?_;obtain⟨rfl,d⟩:=g;have q:=d.some j;cases f:MX n
 ·simp;exact⟨by simp[Qf,f],(b.trans c).trans d⟩
 obtain⟨s,t,_⟩:=aBd h;have x: ∀a∈n.AF,J3 a=true:=by simp only[MX,AB,BF]at f;exact f.1
 simp[q,l,o,Bx,DN,CW];refine r4 rfl (((e.AG b).AG c).AG d) (((i.AG b).AG c).AG d) t.1 s x n.AF.length 0 0 _ _ (by omega) (BK.refl _) (by omega) (by simp) (by simp) (by simp) (by simp[]) (by simp) (by simp) (λC u y z=> ?_);simp[z];exact⟨by simp[Qf,h,f],((b.trans c).trans d).trans y⟩
theorem aBD:V2 n e=Ga n e:=by unfold V2 Ga;rfl
theorem Fx.AG{q:Nat}(h:Fx m q b l)(a:BK m u):Fx u q b l:=by obtain⟨r,c⟩:=h.W9;exact⟨a.some h.Sm,⟨r,a.some c⟩,h.Di⟩
theorem Fx.A0{q c:Nat}(h:Fx m q b l)(a:q≠c)(d:b≠c):Fx (m.A0 c x) q b l:=by obtain⟨r,e⟩:=h.W9;exact⟨by rw[A3 a];exact h.Sm,⟨r,by rw[A3 d];exact e⟩,h.Di⟩
structure Qg(iD eB my b ag:Nat)(cv eC:Int->Int)(q:List FB)(m:V):Prop where
 Z7:m.W iD=some ⟨C4 ag cv,true⟩
 Zg:m.W eB=some ⟨C4 ag eC,true⟩
 aO:Fx m my b q
 a39:iD≠eB
 Ph:my≠iD
 aBE:my≠eB
 a2B:b≠iD
 aEy:b≠eB
theorem Qg.AG{cv:Int->Int}(h:Qg iD eB my b ag cv eC q m)(a:BK m u):Qg iD eB my b ag cv eC q u:=
 ⟨a.some h.Z7,a.some h.Zg,h.aO.AG a,h.a39,h.Ph,h.aBE,h.a2B,h.aEy⟩
structure eg(cG dU iD eB my ag:Nat)(a:A6):Prop where
 aQJ:a 0=AA cG
 ET:a 1= .slice (some ⟨dU,0,none⟩) ag 1
 PD:a 6= .slice (some ⟨iD,0,none⟩) ag 1
 LD:a 7= .slice (some ⟨eB,0,none⟩) ag 1
 Xe:a 9=AA my
set_option maxRecDepth 20000 in
theorem m0(S:n.Cz)(A7:n.Am=ag)(AQ:Gn n ab)(A8:FF n ab p)(A9: ∀v,0<=p v/\p v<=1000000)(AR: ∀a∈n.AF,0<=a.k/\a.k<=1000)(AB: ∀e,-1000<=Ga n e/\Ga n e<=1000)(X:F9 n ab v cG cU cI ag df)(AD:df.W cI=some ⟨C4 ag p,true⟩)(B7:df.next<=iD)(B8:df.next<=eB)(BA:df.next<=my)
 (y:a6<ag) (BB:df.next<=hu) (AU:hu≠iD) (AV:hu≠eB) (a3:hu≠my) {BC:Value} (AW:Ib df BC L) (AX: ∀z∈L,(BN z).1<n.AF.length/\Bs n (BN z)=a6) (BD:L.length<100000) (BE:fp<800000000):
 ∀(r j:Nat) (m:V) (t:A6) (b:Nat) (q:List FB) (cv eC:Int->Int),j+r=L.length->BK df m->df.next<=b->hu≠b->Qg iD eB my b ag cv eC q m->m.W hu=some ⟨[Y a6,Y m3],true⟩->q.length+GZ (Iv cv) ag<=fp->
 F7 n ab p ag cv (λx=>BN (eC x)) (((a6:Int),m3)::q)->cv a6=m3->m3<EU->(∀z∈L.take j,0<Ab n ab (BN z)->cv (Bi n (BN z))<=m3+F8 n p (BN z))->eg cG dU iD eB my ag t->t 10=AA hu->t 75=BC->t 76=Y L.length->t 77=Y j->
 (∀f u G jD w AE,BK df u->df.next<=G->Qg iD eB my G ag w AE jD u->jD.length+2*GZ (Iv w) ag<=q.length+2*GZ (Iv cv) ag->jD.length+GZ (Iv w) ag<=fp->F7 n ab p ag w (λx=>BN (AE x)) (((a6:Int),m3)::jD)->w a6=m3->(∀z∈L,0<Ab n ab (BN z)->w (Bi n (BN z))<=m3+F8 n p (BN z))->eg cG dU iD eB my ag f->Q (.Ai 4) f u)->
 BS U (.loop eU) t m Q
 | 0,j,m,t,b,q,cv,eC,BY,Z,hb,AY,AZ,BF,Aa,i,l,H,AH,Ac,A,A1,I,J,AJ=>by refine D7 λBG Ad=> ?_;obtain⟨o,A2,B,K,M⟩:=Ac;have N: ¬j<L.length:=(by omega);simp[eU,I,J,N];refine AJ _ _ b q cv eC Z hb AZ (Ao _) Aa i l (λz D=>AH z ?_) ⟨by simp[o],by simp[A2],by simp[B],by simp[K],by simp[M]⟩;rw[DV (by omega)];exact D
 | r+1,j,m,t,b,q,cv,eC,BY,Z,hb,AY,AZ,BF,Aa,i,l,H,AH,Ac,A,A1,I,J,AJ=>by
   refine D7 λBG Ad=> ?_;obtain⟨o,A2,B,K,M⟩:=Ac;have N:j<L.length:=(by omega);have BZ:j+1<=L.length:=N;obtain⟨z,AK⟩: ∃z,L[j]?=some z:=⟨L[j]'N,by simp⟩;have Ba: ∀h,L[j]'h=z:= λh=>by rw[AS h]at AK;simpa using AK
   have Bb:=B9 AK;obtain⟨BH,Ae⟩:=AX z Bb;obtain⟨Bc,CA,rfl,Bd⟩:=AW.C1 N;have BI:=Z.some Bd;have CB:=F BI;have Be:=X.AG Z;have BJ:L.take (j+1)=L.take j++[z]:=(by rw[K4,AK];rfl);have BL:=(m4 S BH).2;simp[eU,A1,I,J,o,N,BZ,BI,Ba,CC];refine hW S AQ Be (z:=z) BH AR _ λAf Ag=> ?_;rw[aBD];have A4:=Z.trans Ag;have Bf:=AZ.AG Ag;obtain⟨AL,Ak,AM,Al,An,Ap,BM,BO⟩:=Bf;have O:=Ag.some BF;have Aq:=(X.AG A4).s;have As:=A4.some AD;have CD:=F O;have CE:=F AL;have CF:=F Ak;have CG:=F X.s;have CH:=F AD;have Au:=BX (n:=j) (by omega);have Bg:F8 n p (BN z)=Ga n (BN z)+p (Bs n (BN z))-p (Bi n (BN z)):=rfl;rw[Ae]at Bg;have CI:=AB (BN z);have CJ:=A9 (Bi n (BN z));have CK:=A9 (a6:Int);have CL:=i.EZ (Bi n (BN z));have Bh:=i.TJ (Bi n (BN z));have BP:= λAv Bj=>i.add A7 A8 (λe=>(AB e).2) (e:=BN z) Av (by rw[Ae,l];exact H) Bj BL;rw[Ae,l]at BP;have Bk:=i.cap (a6:Int) (by rw[l];exact H);rw[l]at Bk;have CN:0<=m3:=(by have:=i.EZ (a6:Int);omega);have Bl:=A8 (BN z);have CO:=S.PL;have Bm:(Bi n (BN z):Int)=a6->cv (Bi n (BN z))=m3:= λE=>by rw[E,l]
   unfold EU at H Bh;generalize BQ:Bi n (BN z)=T at*;generalize Bn:Ab n ab (BN z)=R at*;generalize CP:Ga n (BN z)=C at*;obtain⟨CQ,Aw⟩:=BL;rw[A7]at Aw;obtain⟨k,rfl⟩: ∃k:Nat,T=k:=⟨T.toNat,by omega⟩;have t3:k<ag:=(by omega);have t4:k+1<=ag:=t3;have Ax:a6+1<=ag:=y;have BU: ∀(g:Int->Int) (x:Nat),x<ag->(C4 ag g)[x]?=some (Y (g x)):= λg x AN=>L9 AN;have Ay:= λg=>BU g k t3;have Az:= λg=>BU g a6 y;have B0:IntKind.i64.wrap (m3+C)=m3+C:=Ah (by omega) (by omega);have B1:IntKind.i64.wrap (m3+C+p a6)=m3+C+p a6:=Ah (by omega) (by omega);have B2:IntKind.i64.wrap (m3+C+p a6-p k)=m3+C+p a6-p k:=Ah (by omega) (by omega);have Bo:m3+C+p a6-p k=m3+F8 n p (BN z):=(by omega);have BV:(0<R->cv k<=m3+F8 n p (BN z))-> ∀(f:A6) (u:V),u=Af->eg cG dU iD eB my ag f->f 10=AA hu->f 75= .slice (some ⟨Bc,0,none⟩) L.length 1->f 76=Y L.length->f 77=Y ((j:Int)+1)->BG f u:=by
    intro B3 f u Bp jD Bq Br Bt Bu;subst Bp;refine Ad _ _ (m0 S A7 AQ A8 A9 AR AB X AD B7 B8 BA y BB AU AV a3 AW AX BD BE r (j+1) u f b q cv eC (by omega) A4 hb AY ⟨AL,Ak,AM,Al,An,Ap,BM,BO⟩ O Aa i l H (λAO D=> ?_) jD Bq Br Bt (by rw[Bu];simp) AJ);rw[BJ]at D;rcases Cg.1 D with h|h
    ·exact AH AO h
    ·simp at h;subst h;intro AP;rw[BQ];rw[Bn]at AP;exact B3 AP
   by_cases P:0<R
   ·by_cases B4:m3+C+p a6-p k<cv k
    ·simp(disch:=omega)[o,B,K,M,A,O,Aq,As,AL,Ak,t3,t4,y,Ax,Ay,Az,CC,B0,B1,B2,P,B4,XJ,-Nn];have Bv:0<=m3+C+p a6-p k:=(by have:=Bl P;omega);have Bw:m3+C+p a6-p k<=700000:=by
      rcases Classical.em (cv k<1099511627776)with E|E
      ·have:=i.cap (k:Int) (by unfold EU;exact E);omega
      ·have:=RJ (GR cv) k (by omega) (by simp[GR,EU,E]) ag Aw;omega
     have CR:=a5V (cv:=cv) (ag:=ag) (x:=k) (d:=m3+C+p a6-p k) (by omega) Aw Bv B4 Bw;have BW:=BP P (by omega);rw[<-Bo]at BW;have Bx:(λx=>BN (At eC (k:Int) z x))=At (λx=>BN (eC x)) (k:Int) (BN z):=(by funext x;unfold At;split<;>rfl);have Bz:(k:Int)≠a6:= λE=>by have:=Bm E;omega
     have CS:=F AM.Sm;have CT:b<Af.next:=by obtain⟨r,hb⟩:=AM.W9;exact F hb
     have CU:=A4.next
     refine a0g ((AM.A0 An BM).A0 Ap BO) (by omega) ((k:Int),m3+C+p a6-p k) _ λv C0 G jD B5 Av B6=> ?_;have C2:=B6.next
     simp only[Ar]at C2;have A5:= λc=>B6.W c;simp only[Ar]at A5;have CV:G=b\/Af.next<=G:=by have:=B6.C1;simpa only[Ar]using this
     simp[J,Au];refine Ad _ _ (m0 S A7 AQ A8 A9 AR AB X AD B7 B8 BA y BB AU AV a3 AW AX BD BE r (j+1) C0 _ G jD (At cv k (m3+C+p a6-p k)) (At eC k z) (by omega) ⟨by omega,λc B3=> ?_⟩ (by omega) (by omega) ⟨?_,?_,Av,Al,An,Ap,by omega,by omega⟩ ?_ ?_ ?_ ?_ H (λAO D=> ?_) ⟨by simp[o],by simp[A2],by simp[B],by simp[K],by simp[M]⟩ (by simp[A]) (by simp[A1]) (by simp[I]) (by simp) (λf u C3 C5 w AE C6 C7 C8 CW C9=>AJ f u C3 C5 w AE C6 C7 C8 (by have:=B5.length_eq;simp only[Df]at this;omega) C9))
     ·rw[A5 c (by omega) (by omega) (by omega),A3 (by omega),A3 (by omega),A4.W c B3]
     ·rw[A5 iD (by omega) (by omega) (by omega),A3 Al,AT (by omega)]
     ·rw[A5 eB (by omega) (by omega) (by omega),AT (by simp only[Ar];omega)]
     ·rw[A5 hu (by omega) a3 AY,A3 AV,A3 AU,O]
     ·have:=B5.length_eq;simp only[Df]at this;omega
     ·rw[Bx];refine BW.wL λs=> ?_;simp only[CM,B5.mem_iff];exact or_left_comm
     ·rw[FW (Ne.symm Bz)];exact l
     ·intro AP;rw[BJ]at D;rcases Cg.1 D with h|h
      ·have:=AH AO h AP;by_cases AN:Bi n (BN AO)=k
       ·rw[AN]at this⊢;rw[Hz];omega
       ·rw[FW AN];exact this
      ·simp at h;subst h;rw[BQ,Hz];omega
    ·simp[J,o,B,A,O,Aq,As,AL,t3,t4,y,Ax,Ay,Az,CC,Au,B0,B1,B2,P,B4];exact BV (λ_=>by omega) _ _ rfl ⟨by simp[o],by simp[A2],by simp[B],by simp[K],by simp[M]⟩ (by simp[A]) (by simp[A1]) (by simp[I]) (by simp)
   ·simp[J,o,A,O,Aq,As,t3,t4,y,Ax,Ay,Az,CC,Au,B0,B1,B2,P];exact BV (λh=>absurd h P) _ _ rfl ⟨by simp[o],by simp[A2],by simp[B],by simp[K],by simp[M]⟩ (by simp[A]) (by simp[A1]) (by simp[I]) (by simp)
set_option maxRecDepth 20000 in
theorem a1Z(Aa:n.Cz)(Ab:n.Am=ag)(Ac:Gn n ab)(Ad:FF n ab p)(Ae: ∀v,0<=p v/\p v<=1000000)(Af: ∀a∈n.AF,0<=a.k/\a.k<=1000)(Ag: ∀e,-1000<=Ga n e/\Ga n e<=1000)(Ah:F9 n ab v cG cU cI ag df)(Ak:df.W cI=some ⟨C4 ag p,true⟩)(AJ:ON E dU ag df)(X:Qh n E)(Al: ∀x,(E x).length<100000)(An:df.next<=iD)(Ao:df.next<=eB)(Ap:df.next<=my)
 (Aq:fp<800000000):
 ∀(k:Nat) (m:V) (J:A6) (b:Nat) (q:List FB) (cv eC:Int->Int),q.length+2*GZ (Iv cv) ag<=k->BK df m->df.next<=b->Qg iD eB my b ag cv eC q m->q.length+GZ (Iv cv) ag<=fp->
 F7 n ab p ag cv (λx=>BN (eC x)) q->eg cG dU iD eB my ag J->
 (∀K u y B,BK df u->u.W iD=some ⟨C4 ag y,true⟩->u.W eB=some ⟨C4 ag B,true⟩->F7 n ab p ag y (λx=>BN (B x)) []->K 6= .slice (some ⟨iD,0,none⟩) ag 1->K 7= .slice (some ⟨eB,0,none⟩) ag 1->Q (.Ai 2) K u)->
 BS U (.loop Vj) J m Q:=by
 intro k;induction k with
 | zero=>intro m J b q cv eC Ar C hb d As L Z D;have At:q=[]:=Gy.1 (by omega);subst At;refine D7 λAu A1=> ?_;obtain⟨A2,M,i,G,j⟩:=Z;have H:=d.aO.Sm;simp(disch:=first|omega|simp only[AD];omega)[Vj,j,H,XC];exact D _ _ cv eC C d.Z7 d.Zg L (by simp[i]) (by simp[G])
 | succ k AK=>
   intro m J b q cv eC Ar C hb d As L Z D;refine D7 λAu A1=> ?_;obtain⟨A2,M,i,G,j⟩:=Z;have H:=d.aO.Sm;by_cases A4:q=[]
   ·subst A4;simp(disch:=first|omega|simp only[AD];omega)[Vj,j,H,XC];exact D _ _ cv eC C d.Z7 d.Zg L (by simp[i]) (by simp[G])
   have Av:0<q.length:=List.length_pos_iff.2 A4;simp(disch:=first|omega|simp only[AD];omega)[Vj,j,H,XC,Av];refine aFf (d.AG ((BK.refl m).AE 6)).aO A4 (by omega) _ λs l A5 N AL Aw A7=> ?_;have BY:=C.next
   have Ax:=A7.next
   simp only[BC]at Ax;have O:= λc=>A7.W c;simp only[BC]at O;have BZ:=F H;have Ba:b<m.next:=by obtain⟨r,hb⟩:=d.aO.W9;exact F hb
   have Ay:=F d.Z7;have Az:=F d.Zg;have B0:=A7.C1;simp only[BC]at B0;have B1:=d.a39;have B2:=d.Ph;have B3:=d.aBE;have Bb:=d.a2B;have Bc:=d.aEy;have AM:BK df l:=⟨by omega,λc B4=>by rw[O c (by omega) (by omega) (by omega),AU (by omega),C.W c B4]⟩;have P:l.W iD=some ⟨C4 ag cv,true⟩:=(by rw[O iD (by omega) (by omega) (by omega),AU Ay];exact d.Z7);have B5:l.W eB=some ⟨C4 ag eC,true⟩:=(by rw[O eB (by omega) (by omega) (by omega),AU Az];exact d.Zg);have Bd:=F P;have A8:=L.wL (jD:=s::N) (λx=>AL.mem_iff);obtain⟨⟨A9,B6⟩,B7,AN⟩:=A8.Qr s (by simp);have B8:=AL.length_eq;simp only[Df]at B8;obtain⟨AO,I⟩:=s;simp only at A9 B6 B7 AN;obtain⟨a6,rfl⟩: ∃a6:Nat,AO=a6:=⟨AO.toNat,by omega⟩;have o:a6<ag:=(by omega);have AP:a6+1<=ag:=o;have B9: ∀(g:Int->Int) (x:Nat),x<ag->(C4 ag g)[x]?=some (Y (g x)):= λg x BA=>L9 BA;have AQ:= λg=>B9 g a6 o;have Be:dU<df.next:=by obtain⟨f,t,_⟩:=AJ.W;exact F t
   have AR:BK df (l.A0 (m.next+4) (some ⟨[Y a6,Y I],true⟩)):=AM.A0 (by omega)
   have AV:Qg iD eB my A5 ag cv eC N (l.A0 (m.next+4) (some ⟨[Y a6,Y I],true⟩)):=
    ⟨by rw[A3 (by omega)];exact P,by rw[A3 (by omega)];exact B5,Aw.A0 (by omega) (by omega),B1,B2,B3,by omega,by omega⟩
   have BB: ∃f:List Value,l.W dU=some ⟨f,true⟩/\ ∃w,f.length=ag/\f[a6]?=some w/\Ib df w (E a6):=(by obtain⟨f,t,AB,BD⟩:=AJ.W;obtain⟨w,R,S⟩:=BD a6 o;exact⟨f,AM.some t,w,AB,R,S⟩);obtain⟨f,t,w,AB,R,S⟩:=BB;have Bf:=F t;have BE: ∀h,f[a6]'h=w:= λh=>by rw[AS h]at R;simpa using R
   obtain⟨BF,BG⟩:=S.len;by_cases AH:cv a6<I
   ·simp(disch:=first|omega|simp only[AD];omega)[i,P,o,AP,AQ,CC,AH];exact A1 _ _ (AK _ _ A5 N cv eC (by omega) AR (by omega) AV (by omega) (A8.a25 AH) ⟨by simp[A2],by simp[M],by simp[i],by simp[G],by simp[j]⟩ D)
   ·simp(disch:=first|omega|simp only[AD];omega)[M,i,P,o,AP,AQ,CC,AH,t,AB,BE,BF,BG];have BH:cv a6=I:=(by omega);refine m0 Aa Ab Ac Ad Ae Af Ag Ah Ak An Ao Ap (dU:=dU) (a6:=a6) o (m3:=I) (hu:=m.next+4) (by omega) (by omega) (by omega) (by omega) S (λz T=>⟨((X.Pt a6 ⟨A9,by omega⟩) z T).1,((X.Pt a6 ⟨A9,by omega⟩) z T).2.1⟩) (Al a6) Aq (E a6).length 0 _ _ A5 N cv eC (by omega) AR (by omega) (by omega) AV (AT (by omega)) (by omega) A8 BH AN (λz T=>by simp at T) ⟨by simp[A2],by simp[M],by simp[i],by simp[G],by simp[j]⟩ (by simp) (by simp) (by simp[]) (by simp) (λK u BI jD y B BJ BL BM Bg Bh BO BP BQ BU=> ?_);have BV:F7 n ab p ag y (λx=>BN (B x)) jD:=by
     refine BO.kN λe AW AY=> ?_;obtain⟨a,A,BW,_⟩:=PH AW;obtain⟨z,AZ,BX⟩:=X.all e (by have:=(AX.1 BW).1;exact this);rw[AY]at AZ;have:=BQ z AZ;rw[BX]at this;have:=this AW;rw[AY];simp only;rw[BP];exact this
    simp;exact A1 _ _ (AK _ _ BI jD y B (by omega) BJ BL BM (by omega) BV BU D)
theorem tI{g a:Int->Int}(h: ∀v:Nat,v<ag->g v=a v):C4 ag g=C4 ag a:=by unfold C4;apply X7;intro x b;rw[h x (by simpa using b)]
theorem z8(q:ag<100000): ∀(r i:Nat) (m:V) (a:A6) (g:Int->Int),i+r=ag->m.W iD=some ⟨C4 ag g,true⟩->(∀v:Nat,v<i->g (v:Int)=EU)->a 31=Y ag->a 32=Y i->a 6= .slice (some ⟨iD,0,none⟩) ag 1->
 (∀b,b 0=a 0->b 1=a 1->b 6=a 6->b 7=a 7->Q (.Ai 0) b (m.A0 iD (some ⟨C4 ag (λ_=>EU),true⟩)))->BS U (.loop Y6) a m Q
 | 0,i,m,a,g,s,c,j,d,k,l,o=>by refine D7 λt p=> ?_;have f: ¬i<ag:=(by omega);have e:C4 ag g=C4 ag (λ_=>EU):=tI λv u=>j v (by omega);simp[Y6,d,k,f];have:=o (FT a 33 (.bool false)) (by simp) (by simp) (by simp) (by simp);rw[<-e,Z1 c]at this;exact this
 | r+1,i,m,a,g,s,c,j,d,k,l,o=>by
   refine D7 λt p=> ?_;have f:i<ag:=(by omega);have w:i+1<=ag:=f;have x:=F c;have y:=BX (n:=i) (by omega);simp[Y6,d,k,l,f,w,c,y,XJ,-Nn];refine p _ _ (z8 q r (i+1) _ _ (At g i 1099511627776) (by omega) (AT x) (λv u=> ?_) (by simp[d]) (by simp) (by simp[l]) (λb z A B C=> ?_))
   ·by_cases h:(v:Int)=i
    ·rw[h,Hz];rfl
    ·rw[FW h];exact j v (by omega)
   ·rw[VD];exact o b (by rw[z];simp) (by rw[A];simp) (by rw[B];simp) (by rw[C];simp)
set_option maxRecDepth 20000 in
theorem a3Z(c:n.Cz)(i:n.Am=ag)(q:Gn n ab)(t:FF n ab p)(w:p n.Aj=0)(y: ∀v,0<=p v/\p v<=1000000)(z: ∀a∈n.AF,0<=a.k/\a.k<=1000)(A: ∀e,-1000<=Ga n e/\Ga n e<=1000)(j:F9 n ab v cG cU cI ag m)(B:m.W cI=some ⟨C4 ag p,true⟩)(C:ON E dU ag m)(D:Qh n E)(G: ∀x,(E x).length<100000):
 Aq U 242 [AA cG,.slice (some ⟨dU,0,none⟩) ag 1] m λr u=>BK m u/\ ∃(iD eB:Nat) (cv eC:Int->Int),r= .tuple #[.slice (some ⟨iD,0,none⟩) ag 1,.slice (some ⟨eB,0,none⟩) ag 1]/\m.next<=iD/\m.next<=eB/\iD≠eB/\u.W iD=some ⟨C4 ag cv,true⟩/\u.W eB=some ⟨C4 ag eC,true⟩/\F7 n ab p ag cv (λx=>BN (eC x)) []:=by
 rw[a3H (by simp)];have d:=j.s;have A1:=F d;obtain⟨H,A2⟩:=c.Aj;have A4:=c.PL;obtain⟨f,I⟩: ∃k:Nat,n.Aj=k:=⟨n.Aj.toNat,by omega⟩;have J:f<ag:=by omega
 have K:f+1<=ag:=J;have L:n.Aj<(ag:Int):=by omega
 have M:n.Aj.toNat=f:=by omega
 have N:n.Am.toNat=ag:=by omega
 have z0:0<=n.Am:=by omega
 have O:n.Am*8<=140737488355328:=by omega
 have P:n.Am<=9223372036854775807:=by omega
 simp(disch:=first|omega|simp only[AD];omega)[jB,d,N,z0,O,P,Uh,-Nn];refine z8 (ag:=ag) (iD:=m.next+5) (by omega) ag 0 _ _ (λ_=>0) (by omega) (by simp(disch:=first|omega|(simp only[Ar,BC];omega)) only[AT,A3]) (λv A5=>by omega) (by simp) (by simp) (by simp) (λA6 g l h o=> ?_);simp at g l h o;simp(disch:=first|omega|simp only[AD];omega)[d,g,h,H,K,L,M,XJ,-Nn];have Q:=F7.fw c i ab w (λx=>BN ((λ_=>(0:Int)) x));have A7:=aCs (At (λ_=>EU) n.Aj 0) ag;have A8:ag*700001<=700*700001:=IF _ (by omega);refine a1Z c i q t y z A j B C D G (iD:=m.next+5) (eB:=m.next+11) (my:=m.next+14+7) (by omega) (by omega) (by omega) (fp:=700000000) (by omega) (1+2*GZ (Iv (At (λ_=>EU) n.Aj 0)) ag) _ _ (m.next+14+6) [(n.Aj,0)] (At (λ_=>EU) n.Aj 0) (λ_=>0) (by simp) ?_ (by omega) ⟨?_,?_,⟨?_,⟨[],?_⟩,by omega⟩,by omega,by omega,by omega,by omega,by omega⟩ (by simp;omega) Q ⟨by simp[g],by simp[l],by simp[h],by simp[o],by simp⟩ (λA9 AB R S T V X Y Z A0=> ?_)
 ·exact⟨by simp only[Ar,BC];omega,λb hb=>by simp(disch:=first|omega|(simp only[Ar,BC];omega)) only[A3,AU]⟩
 ·simp(disch:=first|omega|(simp only[Ar,BC];omega)) only[AT,A3,AU,I]
 ·simp(disch:=first|omega|(simp only[Ar,BC];omega)) only[AT,A3,AU]
 ·simp(disch:=first|omega|(simp only[Ar,BC];omega)) only[AT,Df,Jx]
 ·simp(disch:=first|omega|(simp only[Ar,BC];omega)) only[AT,A3];simp[G3,Jl]
 ·simp[Z,A0];exact⟨T,_,_,⟨rfl,rfl⟩,by omega,by omega,by omega,R,V,S,X,Y⟩
def low(d r:Int):Int:=if r<d then r else d
def Oh(n:CG)(ab:List Int)(d:Int)(l:List DJ):Int:=l.foldl (λd e=>low d (Ab n ab e)) d
theorem yo: ∀(l:List DJ) (d:Int),(∀e∈l,0<Ab n ab e)->0<d->0<Oh n ab d l/\Oh n ab d l<=d/\ ∀e∈l,Oh n ab d l<=Ab n ab e
 |[],d,_,b=>⟨b,HB _,by simp⟩
 | e::l,d,c,b=>by
   have m:=c e (by simp);have f:0<low d (Ab n ab e):=(by unfold low;split<;>omega);have o:low d (Ab n ab e)<=d/\low d (Ab n ab e)<=Ab n ab e:=(by unfold low;split<;>omega);obtain⟨g,p,h⟩:=yo l (low d (Ab n ab e)) (λe i=>c e (by simp[i])) f;have j:Oh n ab d (e::l)=Oh n ab (low d (Ab n ab e)) l:=rfl;rw[j];refine⟨g,by omega,λk a=> ?_⟩;rcases CM.1 a with rfl|a
   ·omega
   ·exact h k a
structure LN(m u:V)(cU:Nat):Prop where
 next:m.next<=u.next
 W: ∀c,c<m.next->c≠cU->u.W c=m.W c
theorem LN.trans{a b c:V}(h:LN a b cU)(d:LN b c cU):LN a c cU:=⟨Dh h.next d.next,λx e f=>by rw[d.W x (Eo e h.next) f,h.W x e f]⟩
theorem LN.o9(h:BK m u):LN m u cU:=⟨h.next,λc a _=>h.W c a⟩
theorem LN.A0(h:LN m u cU):LN m (u.A0 cU x) cU:=⟨h.next,λc b a=>by rw[A3 a];exact h.W c b a⟩
set_option maxRecDepth 20000 in
theorem oY(j:n.Cz)(F:n.Am=ag)(B:Gn n ab)(C: ∀a∈n.AF,0<=a.k/\a.k<=1000)(o:F9 n ab v cG cU cI ag df)(hb:df.W eB=some ⟨C4 ag eC,true⟩):
 ∀(l:List DJ) (x d:Int) (m:V) (b:A6),BK df m->I1 n (λx=>BN (eC x)) x l->(∀e∈l,0<Ab n ab e)->b 0=AA cG->b 1= .slice (some ⟨eB,0,none⟩) ag 1->b 2=Y d->b 7=Y x->
 (∀g u,BK df u->g 0=AA cG->g 1= .slice (some ⟨eB,0,none⟩) ag 1->g 2=Y (Oh n ab d l)->Q (.Ai 0) g u)->BS U (.loop eY) b m Q
 | [],x,d,m,b,c,p,q,f,h,r,t,w=>by refine D7 λG D=> ?_;have y:=(o.AG c).s;cases p;simp[eY,f,t,y];exact w _ _ c (by simp[f]) (by simp[h]) (by simp[r,Oh])
 | e::l,x,d,m,b,c,p,q,f,h,r,t,w=>by refine D7 λG D=> ?_;have E:=o.AG c;have y:=E.s;have H:=c.some hb;obtain⟨I,i,P,J,K,L⟩:=bc j p (q e (by simp));obtain⟨R,S⟩:=K;obtain⟨k,rfl⟩: ∃k:Nat,x=k:=⟨x.toNat,by omega⟩;have A:k<ag:=(by omega);have M:k+1<=ag:=A;have N:(C4 ag eC)[k]?=some (Y (eC k)):=L9 A;simp[eY,f,h,t,y,I,H,N,CC,A,M];refine hW j B E (z:=eC k) (by rw[<-i];exact L) C _ λT O=> ?_;rw[<-i];simp[r];exact D _ _ (oY j F B C o hb l _ (low d (Ab n ab e)) _ _ (c.trans O) J (λe i=>q e (by simp[i])) (by simp[f]) (by simp[h]) (by simp[low]) (by simp) w)
set_option maxRecDepth 20000 in
theorem sc(y:n.Cz)(AN:n.Am=ag)(A4: ∀a∈n.AF,0<=a.k/\a.k<=1000)(A5:0<=d)(A7:cG≠cU)(A8: ∀b l c,v= .slice (some ⟨b,0,none⟩) l c->b≠cU)(A9:eB≠cU):
 ∀(l:List DJ) (x:Int) (ab:List Int) (m:V) (j:A6),LN df m cU->I1 n (λx=>BN (eC x)) x l->Gn n ab->(∀e∈l,0<Ab n ab e/\d<=Ab n ab e)->(l.map Prod.fst).Nodup->F9 n ab v cG cU cI ag m->m.W eB=some ⟨C4 ag eC,true⟩->
 j 0=AA cG->j 1= .slice (some ⟨eB,0,none⟩) ag 1->j 2=Y d->j 12=Y x->
 (∀g u,LN df u cU->u.W cU=some ⟨(HP ab l d).map (Value.int .i64 ·),true⟩->g 2=Y d->Q (.Ai 2) g u)->BS U (.loop cu) j m Q
 | [],x,ab,m,j,I,J,B,K,E,r,hb,o,G,t,L,M=>by refine D7 λAB AE=> ?_;have N:=r.s;cases J;simp[cu,o,L,N];exact M _ _ I r.f (by simp[t])
 | e::l,x,ab,m,j,I,J,B,K,E,r,hb,o,G,t,L,M=>by
   refine D7 λAB AE=> ?_;have N:=r.s;obtain⟨p,C⟩:=K e (by simp);obtain⟨AO,w,An,AP,AQ,H⟩:=bc y J p;obtain⟨Ao,Ap⟩:=AQ;obtain⟨k,rfl⟩: ∃k:Nat,x=k:=⟨x.toNat,by omega⟩;have O:k<ag:=(by omega);have AR:k+1<=ag:=O;have AT:(C4 ag eC)[k]?=some (Y (eC k)):=L9 O;obtain⟨a,A,P,q⟩:=PH p;have AH: ∀h,ab[e.1]'h=A:= λh=>by rw[AS h]at q;simpa using q
   have AU:=hA B p A5 C;have AV:(push ab e d).length=ab.length:=jN;simp only[E1,K5]at E;have AW: ∀D∈l,0<Ab n (push ab e d) D/\d<=Ab n (push ab e d) D:=(by intro D AJ;rw[fK (λh=>E.1 (CP.2 ⟨D,AJ,h⟩))];exact K D (by simp[AJ]));simp(disch:=first|omega|simp only[AD];omega)[cu,o,G,L,N,AO,hb,AT,CC,O,AR];refine hW y B r (z:=eC k) (by rw[<-w];exact H) A4 _ λAX R=> ?_;rw[<-w];have S:=r.AG R;have AK:=S.s;have T:=S.f;have AY:=R.some hb;have Aq:=F T;have AZ:=S.hg A7 A8 AV;have next: ∀(g:A6) (u:V),u=AX.A0 cU (some ⟨(push ab e d).map (Value.int .i64 ·),true⟩)->g 0=AA cG->g 1= .slice (some ⟨eB,0,none⟩) ag 1->g 2=Y d->g 12=Y (Bs n e)->AB g u:=by intro g u Aa Ac Ad Ae Af;subst Aa;refine AE _ _ (sc y AN A4 A5 A7 A8 A9 l _ (push ab e d) _ g ((I.trans (.o9 R)).A0) AP AU AW E.2 AZ (by rw[A3 A9];exact AY) Ac Ad Ae Af M)
   have Ar:=B.2 _ a A P q;have As:=(y.Il a (B9 P)).2.2;have At:=y.JK;have AL:=H;have Au:ab.length=n.AF.length:=B.1;unfold Ab at p C;simp only[P,q]at p C;have Ag:push ab e d=ab.set e.1 (if e.2 then A+d else A-d):=(by unfold push;rw[q]);rw[Ag,<-iQ]at next
   rcases VV (eC k)with⟨i,X,AM,Ak,Z⟩|⟨i,X,AM,Z⟩
   ·rw[Z]at w;subst w;simp only[if_true]at p C next H AL q
    have A1:IntKind.i64.wrap (A+d)=A+d:=Ah (by omega) (by omega);have A2:eC k<ab.length:=(by omega);have z3:i+1<=ab.length:=(by omega);have z4:i<ab.length:=(by omega);simp(disch:=first|omega|simp only[AD];omega)[o,t,AK,CC,T,X,Ak,AH,A1,A2,z3];exact next _ _ rfl (by simp[o]) (by simp[G]) (by simp[t]) (by simp)
   ·rw[Z]at w;subst w;simp only[EI,if_false]at p C next H AL q
    have A1:IntKind.i64.wrap (A-d)=A-d:=Ah (by omega) (by omega);have Al:IntKind.i64.wrap (i:Int)=i:=Ah (by omega) (by omega);have A2:(i:Int)<ab.length:=(by omega);have z3:i+1<=ab.length:=(by omega);have z4:i<ab.length:=(by omega);simp(disch:=first|omega|simp only[AD];omega)[o,t,AK,CC,T,X,AM,AH,A1,Al,A2,z3];exact next _ _ rfl (by simp[o]) (by simp[G]) (by simp[t]) (by simp)
theorem a0v(o:n.Cz)(p:n.Am=ag)(q: ∀a∈n.AF,0<=a.k/\a.k<=1000)(t:Gn n ab)(h:F9 n ab v cG cU cI ag m)(hb:m.W eB=some ⟨C4 ag eC,true⟩)(A:cG≠cU)(B: ∀b l c,v= .slice (some ⟨b,0,none⟩) l c->b≠cU)(C:eB≠cU)
 {l:List DJ} (w:I1 n (λx=>BN (eC x)) n.BJ l) (g: ∀e∈l,0<Ab n ab e) (D:(l.map Prod.fst).Nodup) (E:0<Hh):
 Aq U 243 [AA cG,.slice (some ⟨eB,0,none⟩) ag 1,Y Hh] m λr u=> ∃d,r=Y d/\0<d/\d<=Hh/\(∀e∈l,0<Ab n ab e/\d<=Ab n ab e)/\LN m u cU/\u.W cU=some ⟨(HP ab l d).map (Value.int .i64 ·),true⟩:=by
 rw[a4C (by simp)];have F:=h.s;obtain⟨G,H,i⟩:=yo (n:=n) (ab:=ab) l Hh g E;simp[gz,F];refine oY o p t q h hb l n.BJ Hh _ _ (BK.refl _) w g (by simp) (by simp) (by simp) (by simp) (λP I j y J K=> ?_);have z:=h.AG j;have L:=z.s;simp[y,L];refine sc o p q (d:=Oh n ab Hh l) (by omega) A B C (df:=m) l n.BJ ab I _ (.o9 j) w t (λe f=>⟨g e f,i e f⟩) D z (j.some hb) (by simp[y]) (by simp[J]) (by simp[K]) (by simp) (λQ R M N O=> ?_);simp[O];exact⟨G,H,λa=>⟨λf=>⟨g _ f,i _ f⟩,λf=>⟨g _ f,i _ f⟩⟩,M,N⟩
end Go.Proofs.YtmmkkggfmigppaaGreat
