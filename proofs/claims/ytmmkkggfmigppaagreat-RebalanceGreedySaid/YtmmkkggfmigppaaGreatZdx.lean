/- A part of the proof. -/
import Derived.Test.YtmmkkggfmigppaaGreatZdw
set_option linter.all false
set_option maxRecDepth 20000
set_option maxHeartbeats 16000000
namespace Go.Proofs.YtmmkkggfmigppaaGreat
open Go Go.DI Go.EL
def IT(n:Bw)(g:Int->Int)(x:Nat):Bool:=decide ((x:Int)=n.Ad)||decide ((x:Int)=n.Aq)||decide (g x=0)
variable{W b et:Nat}{n:Bw}{Q:BM->A2->X->Prop}{m:X}{v w:Value}{N:List Int}
theorem ux{g:Int->Int}(h: ∀k,0<=k->k<W->IT n g k=true):Oc n g (List.range W)=true:=by simp only[Oc,BR,G3];exact λk a=>h k (C8 _) a
theorem rV{g:Int->Int}(h: ∃k,0<=k/\k<W/\IT n g k=false):Oc n g (List.range W)=false:=by
 obtain⟨k,_,b,h⟩:=h;cases a:Oc n g (List.range W)with
 |false=>rfl
 | true=>simp only[Oc,BR,G3]at a;have:=a k b;unfold IT at h;rw[h]at this;cases this
theorem qQ(I:n.AS=W)(J:W<100000)(l:m.Y b=some ⟨Cd n v,true⟩){g:Int->Int}(o:m.Y et=some ⟨An W g,true⟩): ∀(r i:Nat) (A:A2),i+r=W->
 A 70= .slice (some ⟨et,0,none⟩) W 1->A 71=Z W->A 72=Z i->A 6= .slice (some ⟨et,0,none⟩) W 1->A 2=AG b->
 (∀a,(∀k,i<=k->k<W->IT n g k=true)->a 6= .slice (some ⟨et,0,none⟩) W 1->a 2=AG b->Q (.Ao 2) a m)->
 (∀a,(∃k,i<=k/\k<W/\IT n g k=false)->a 4=Z 0->a 5= .bool false->Q .Cz a m)->Az V (.loop Q5) A m Q
 | 0,i,A,K,f,d,j,p,e,u,w=>by refine Bm λE F=> ?_;have G: ¬(i:Int)<n.AS:=(by omega);have c: ¬i<W:=(by omega);simp[Q5,d,j,c];exact u _ (λk G c=>by omega) (by simp[p]) (by simp[e])
 | r+1,i,A,K,f,d,j,p,e,u,w=>by
   refine Bm λE F=> ?_;have G:(i:Int)<n.AS:=(by omega);have c:i<W:=(by omega);have q:i+1<=W:=c;have x:=BZ (n:=i) (by omega);have s:(An W g)[i]?=some (Z (g i)):=G5 c;have next: ∀(a:A2),IT n g i=true->a 70= .slice (some ⟨et,0,none⟩) W 1->a 71=Z W->a 72=Z ((i:Int)+1)->a 6= .slice (some ⟨et,0,none⟩) W 1->a 2=AG b->E a m:=by
    intro a L M N O P R;refine F _ _ (qQ I J l o r (i+1) a (by omega) M N (by rw[O];simp) P R (λS y z B=>u _ (λk T C=> ?_) z B) (λS y z B=>w _ ?_ z B))
    ·by_cases h:k=i
     ·rw[h];exact L
     ·exact y k (by omega) C
    ·obtain⟨k,T,C,U⟩:=y;exact⟨k,by omega,C,U⟩
   by_cases t:(i:Int)=n.Ad
   ·simp[Q5,f,d,l,o,q,x,BG,s,c,j,e,eq_true t];exact next _ (by simp[IT, *]) (by simp[f]) (by simp[d]) (by simp) (by simp[p]) (by simp[e])
   by_cases D:(i:Int)=n.Aq
   ·simp[Q5,f,d,l,o,q,x,BG,s,c,j,e,t,eq_true D];exact next _ (by simp[IT, *]) (by simp[f]) (by simp[d]) (by simp) (by simp[p]) (by simp[e])
   by_cases H:g i=0
   ·simp[Q5,f,d,l,o,q,x,BG,s,c,j,e,t,D,H];exact next _ (by simp[IT, *]) (by simp[f]) (by simp[d]) (by simp) (by simp[p]) (by simp[e])
   ·simp[Q5,f,d,l,o,q,BG,s,c,j,e,t,D,H];exact w _ ⟨i,Aj _,c,by simp[IT, *]⟩ (by simp) (by simp)
theorem rb(G:n.AS=W)(H:W<100000)(j:m.Y b=some ⟨Cd n v,true⟩){g:Int->Int}(p:m.Y et=some ⟨An W g,true⟩): ∀(r i:Nat) (A:A2),i+r=W->
 A 9=Z i->A 6= .slice (some ⟨et,0,none⟩) W 1->A 2=AG b->
 (∀a,(∀k,i<=k->k<W->IT n g k=true)->a 6= .slice (some ⟨et,0,none⟩) W 1->a 2=AG b->Q (.Ao 2) a m)->
 (∀a,(∃k,i<=k/\k<W/\IT n g k=false)->a 4=Z 0->a 5= .bool false->Q .Cz a m)->Az V (.loop QO) A m Q
 | 0,i,A,I,l,d,c,q,s=>by refine Bm λB C=> ?_;have e: ¬(i:Int)<n.AS:=(by omega);have f: ¬i<W:=(by omega);simp[QO,l,c,e,j];exact q _ (λk e f=>by omega) (by simp[d]) (by simp[c])
 | r+1,i,A,I,l,d,c,q,s=>by
   refine Bm λB C=> ?_;have e:(i:Int)<n.AS:=(by omega);have f:i<W:=(by omega);have D:i+1<=W:=f;have t:=BZ (n:=i) (by omega);have E:(An W g)[i]?=some (Z (g i)):=G5 f;have next: ∀(a:A2),IT n g i=true->a 9=Z ((i:Int)+1)->a 6= .slice (some ⟨et,0,none⟩) W 1->a 2=AG b->B a m:=by
    intro a J K L M;refine C _ _ (rb G H j p r (i+1) a (by omega) (by rw[K];simp) L M (λN u w x=>q _ (λk O y=> ?_) w x) (λN u w x=>s _ ?_ w x))
    ·by_cases h:k=i
     ·rw[h];exact J
     ·exact u k (by omega) y
    ·obtain⟨k,O,y,P⟩:=u;exact⟨k,by omega,y,P⟩
   by_cases o:(i:Int)=n.Ad
   ·simp[QO,j,e,t,l,c,eq_true o];exact next _ (by simp[IT, *]) (by simp) (by simp[d]) (by simp[c])
   by_cases z:(i:Int)=n.Aq
   ·simp[QO,j,e,t,l,c,o,eq_true z];exact next _ (by simp[IT, *]) (by simp) (by simp[d]) (by simp[c])
   by_cases F:g i=0
   ·simp[QO,j,p,e,D,t,BG,E,f,l,d,c,o,z,F];exact next _ (by simp[IT, *]) (by simp) (by simp[d]) (by simp[c])
   ·simp[QO,j,p,e,D,BG,E,f,l,d,c,o,z,F];exact s _ ⟨i,Aj _,f,by simp[IT, *]⟩ (by simp) (by simp)
theorem a4Z(l:Dc m v n.A0)(z:HU m w N):At V 210 [Ic n v,w] m λr u=>r= .tuple #[Z (Gb n N).1,.bool (Gb n N).2]/\Aa m u:=by
 rw[zU (by simp)];obtain⟨A,B⟩:=l.len;obtain⟨C,D⟩:=z.len;have F:Aa m ((m.AE 3).A1 m.ac (some ⟨Cd n v,true⟩)):=((Aa.refl m).AE 3).A1 (Aj _);simp(disch:=first|omega|simp only[A9];omega)[fQ];refine(e7 (l.AD F)).AD λr a M=> ?_;obtain⟨rfl,G⟩:=M;have b:=F.trans G;have f:a.Y m.ac=some ⟨Cd n v,true⟩:=G.some (AR (by simp))
 have AF:=E f;have AI:=b.ac
 cases c:Db n
 ·simp(disch:=first|omega|simp only[A9];omega)[];exact⟨by simp[Gb,c],b⟩
 have O:=l.AD b;have P:=z.AD b;by_cases d:N.length=n.A0.length
 ·have e:=QJ.1 c;obtain⟨W,H⟩: ∃W:Nat,n.AS=W:=⟨n.AS.toNat,by have:=e.Lq;omega⟩;obtain⟨j,Q⟩: ∃k:Nat,n.Ad=k:=⟨n.Ad.toNat,by have:=e.Ad.1;omega⟩;have R:(j:Int)=n.Ad:=Q.symm;have o:n.AS.toNat=W:=(by omega);have S:n.Ad.toNat=j:=(by omega);have T:0<=n.Ad:=e.Ad.1;have U:n.Ad<(W:Int):=(by have:=e.Ad.2;omega);have I:j<W:=(by omega);have z0:0<=n.AS:=(by omega);have AJ:=e.Jy;have X:n.AS*8<=140737488355328:=(by omega);have A2:n.AS<=9223372036854775807:=(by omega);simp(disch:=first|omega|simp only[A9];omega)[A,B,C,D,f,d,o,z0,X,A2];have J:a.ac<=a.ac+2:=Nat.le_add_right _ _
  have A3:Aa a ((a.AE 4).A1 (a.ac+2) (some ⟨List.replicate W (Z 0),true⟩)):=((Aa.refl a).AE 4).A1 J;refine xX e H rfl (b1:=a) (et:=a.ac+2) f O P d J n.A0.length 0 _ _ (λ_=>0) (by omega) A3 (by rw[AR (by simp only[B1];omega),PH]) (by simp) (by simp) (by simp[]) (by simp) (by simp) (by simp) (by simp) (λA4 u A5 g h i p K A6=> ?_) (λA4 u g h i p=> ?_)
  ·have L:=g.some f;have A7:A5=Cx n.A0 N:=(by funext x;rw[p];simp);subst A7;rw[Gn,Gn]at i;simp(disch:=omega)[K];refine qQ H (by omega) L h W 0 _ (by omega) (by simp[]) (by simp) (by simp) (by simp[K]) (by simp[A6]) (λA8 q s t=> ?_) (λA8 q s t=> ?_)
   ·have y:=ux q;have AA:(An W (Cx n.A0 N))[j]?=some (Z (Cx n.A0 N n.Ad)):=(by rw[G5 I,R]);simp(disch:=omega)[s,t,L,h,T,U,S,AA,BG];exact⟨I,by simp[Gb,c,d,i,o,y,value],b.trans g⟩
   ·have y:=rV q;simp(disch:=omega)[s,t];exact⟨by simp[Gb,c,d,i,o,y],b.trans g⟩
  ·rw[Gn,Gn]at h;simp(disch:=omega)[i,p];exact⟨by simp[Gb,c,d,h],b.trans g⟩
 ·have AB: ¬(N.length:Int)=n.A0.length:=(by omega);simp(disch:=omega)[A,B,C,D,f,AB];exact⟨by simp[Gb,c,d],b⟩
theorem z6(l:Dc m v n.A0)(z:HU m w N):At V 145 [Ic n v,w] m λr u=>r= .tuple #[Z (Gb n N).1,.bool (Gb n N).2]/\Aa m u:=by
 rw[aCV (by simp)];obtain⟨A,B⟩:=l.len;obtain⟨C,D⟩:=z.len;have F:Aa m ((m.AE 3).A1 m.ac (some ⟨Cd n v,true⟩)):=((Aa.refl m).AE 3).A1 (Aj _);simp(disch:=first|omega|simp only[A9];omega)[ki];refine(ra (l.AD F)).AD λr a L=> ?_;obtain⟨rfl,G⟩:=L;have b:=F.trans G;have f:a.Y m.ac=some ⟨Cd n v,true⟩:=G.some (AR (by simp))
 have AF:=E f;have AI:=b.ac
 cases c:Db n
 ·simp(disch:=first|omega|simp only[A9];omega)[];exact⟨by simp[Gb,c],b⟩
 have M:=l.AD b;have O:=z.AD b;by_cases d:N.length=n.A0.length
 ·have e:=QJ.1 c;obtain⟨W,H⟩: ∃W:Nat,n.AS=W:=⟨n.AS.toNat,by have:=e.Lq;omega⟩;obtain⟨j,P⟩: ∃k:Nat,n.Ad=k:=⟨n.Ad.toNat,by have:=e.Ad.1;omega⟩;have Q:(j:Int)=n.Ad:=P.symm;have o:n.AS.toNat=W:=(by omega);have R:n.Ad.toNat=j:=(by omega);have S:0<=n.Ad:=e.Ad.1;have T:n.Ad<(W:Int):=(by have:=e.Ad.2;omega);have I:j<W:=(by omega);have z0:0<=n.AS:=(by omega);have AJ:=e.Jy;have U:n.AS*8<=140737488355328:=(by omega);have X:n.AS<=9223372036854775807:=(by omega);simp(disch:=first|omega|simp only[A9];omega)[A,B,C,D,f,d,o,z0,U,X];have J:a.ac<=a.ac+2:=Nat.le_add_right _ _
  have A2:Aa a ((a.AE 4).A1 (a.ac+2) (some ⟨List.replicate W (Z 0),true⟩)):=((Aa.refl a).AE 4).A1 J;refine sG e H rfl (b1:=a) (et:=a.ac+2) f M O d J n.A0.length 0 _ _ (λ_=>0) (by omega) A2 (by rw[AR (by simp only[B1];omega),PH]) (by simp) (by simp) (by simp) (by simp) (by simp) (λA3 u A4 g h i p A5 A6=> ?_) (λA3 u g h i p=> ?_)
  ·have K:=g.some f;have A7:A4=Cx n.A0 N:=(by funext x;rw[p];simp);subst A7;rw[Gn,Gn]at i;simp[];refine rb H (by omega) K h W 0 _ (by omega) (by simp) (by simp[A5]) (by simp[A6]) (λA8 q s t=> ?_) (λA8 q s t=> ?_)
   ·have y:=ux q;have AA:(An W (Cx n.A0 N))[j]?=some (Z (Cx n.A0 N n.Ad)):=(by rw[G5 I,Q]);simp[s,t,K,h,S,T,R,AA,BG];exact⟨I,by simp[Gb,c,d,i,o,y,value],b.trans g⟩
   ·have y:=rV q;simp[s,t];exact⟨by simp[Gb,c,d,i,o,y],b.trans g⟩
  ·rw[Gn,Gn]at h;simp[i,p];exact⟨by simp[Gb,c,d,h],b.trans g⟩
 ·have AB: ¬(N.length:Int)=n.A0.length:=(by omega);simp[A,B,C,D,f,AB];exact⟨by simp[Gb,c,d],b⟩
def PX(a:List Bool)(x:Int):Bool:=a.getD x.toNat false
end Go.Proofs.YtmmkkggfmigppaaGreat
namespace Go.EL
def BU(z:Int):CM:=if 0<=z then(z.toNat,true)else((-1-z).toNat,false)
def enc(e:CM):Int:=if e.2 then(e.1:Int)else-1-(e.1:Int)
theorem a4m(e:CM):BU (enc e)=e:=by
 grind [enc,BU]
variable{D:Type}{N q:List Int}{B:Int->CM}{e:CM}{p:Int->Bool}{n:Bw}{aY:Int}
def Ai(f:Int->D)(x:Int)(v:D):Int->D:= λy=>if y=x then v else f y
structure I0(n:Bw)(N:List Int)(p:Int->Bool)(B:Int->CM)(q:List Int):Prop where
 Ad:p n.Ad=true
 Ci: ∀x,p x=true->n.Ci x
 Mt: ∃a:Int->Nat,∀x,p x=true->x≠n.Ad->0<AX n N (B x)/\BB n (B x)=x/\p (B2 n (B x))=true/\a (B2 n (B x))<a x
 Qh: ∀x∈q,p x=true
 a6: ∀e,0<AX n N e->p (B2 n e)=true->B2 n e∉q->p (BB n e)=true
theorem I0.add(h:I0 n N p B q)(l:0<AX n N e)(m:p (B2 n e)=true)(o:p (BB n e)=false)(r:n.Ci (BB n e)):
 I0 n N (Ai p (BB n e) true) (Ai B (BB n e) e) (q++[BB n e]):=by
 have jU: ∀x,p x=true->Ai p (BB n e) true x=true:= λx a=>by unfold Ai;split<;>first|rfl|exact a
 refine⟨jU _ h.Ad,λx a=> ?_,?_,λx a=> ?_,λb i c f=> ?_⟩
 ·unfold Ai at a;split at a
  ·simp_all
  ·exact h.Ci x a
 ·obtain⟨g,s⟩:=h.Mt;refine⟨λy=>if y=BB n e then g (B2 n e)+1 else g y,λx a t=> ?_⟩
  grind [Ai]
 ·rcases D2.1 a with a|a
  ·exact jU _ (h.Qh x a)
  ·simp at a;subst a;unfold Ai;rw[if_pos rfl]
 ·have j:B2 n b≠BB n e:= λd=>f (by rw[d];simp);have k:p (B2 n b)=true:=(by unfold Ai at c;rw[if_neg j]at c;exact c);exact jU _ (h.a6 b i k (λd=>f (by simp[d])))
theorem I0.dq(h:I0 n N p B (aY::q))(b: ∀e,0<AX n N e->B2 n e=aY->p (BB n e)=true):I0 n N p B q:=by
 refine⟨h.Ad,h.Ci,h.Mt,λx c=>h.Qh x (by simp[c]),λe a d g=> ?_⟩;by_cases f:B2 n e=aY
 ·exact b e a f
 ·exact h.a6 e a d (λi=>by
   simp_all)
theorem I0.QW(h:I0 n N p B []):Rw n N p B:=
 ⟨h.Ad,h.Mt,λe a b=>h.a6 e a b (by simp)⟩
theorem I0.Rh(b:n.CE)(N:List Int)(B:Int->CM):I0 n N (Ai (λ_=>false) n.Ad true) B [n.Ad]:=by
 have only: ∀x,Ai (λ_=>false) n.Ad true x=true->x=n.Ad:= λx a=>by
  grind [Ai]
 refine⟨by unfold Ai;rw[if_pos rfl],λx a=>by rw[only x a];exact b.Ad,⟨λ_=>0,λx a c=>absurd (only x a) c⟩,λx a=>by simp at a;subst a;unfold Ai;rw[if_pos rfl],λe d f g=> ?_⟩
 grind
def GI(p:Int->Bool):Nat->Nat
 |0=>0
 |k+1=>GI p k+if p k=true then 0 else 1
theorem iI(p:Int->Bool): ∀k,GI p k<=k
 |0=>Aj _
 |k+1=>by have:=iI p k;simp only[GI];split<;>omega
theorem sU(p:Int->Bool)(x:Int): ∀k:Nat,(k:Int)<=x->GI (Ai p x true) k=GI p k
 |0,_=>rfl
 | k+1,h=>by have e:Ai p x true (k:Int)=p k:=(by unfold Ai;rw[if_neg (by omega)]);simp only[GI,sU p x k (by omega),e]
theorem Rd(p:Int->Bool)(x:Int)(a:0<=x)(b:p x=false): ∀k:Nat,x<k->GI (Ai p x true) k+1=GI p k
 |0,h=>by omega
 | k+1,h=>by
   by_cases c:x=k
   ·grind [Ai,GI,sU]
   ·have e:Ai p x true (k:Int)=p k:=(by unfold Ai;rw[if_neg (by omega)]);have:=Rd p x a b k (by omega);simp only[GI,e];omega
structure QK(n:Bw)(C:Int->List Int):Prop where
 Qa: ∀x,n.Ci x-> ∀z∈C x,(BU z).1<n.A0.length/\B2 n (BU z)=x/\ -2500<=z/\z<=2500
 all: ∀e:CM,e.1<n.A0.length-> ∃z∈C (B2 n e),BU z=e
theorem c0(b:n.CE)(h:e.1<n.A0.length):n.Ci (B2 n e)/\n.Ci (BB n e):=by
 obtain⟨a,c⟩: ∃a,n.A0[e.1]?=some a:=⟨n.A0[e.1]'h,by simp⟩;obtain⟨d,f,_⟩:=b.Gu a (B5 c)
 grind [B2,BB]
end Go.EL
namespace Go.Proofs.YtmmkkggfmigppaaGreat
open Go Go.DI Go.EL
structure FN(n:Bw)(N:List Int)(v:Value)(cP bX cz:Nat)(W:Nat)(m:X):Prop where
 s:m.Y cP=some ⟨[Z n.AS,Z n.Ad,Z n.Aq,v,.slice (some ⟨bX,0,none⟩) N.length 1,.slice (some ⟨cz,0,none⟩) W 1],true⟩
 a:Dc m v n.A0
 f:m.Y bX=some ⟨N.map (Value.int .i64 ·),true⟩
variable{N L:List Int}{u m:X}{W bX cP cz k dc fP i:Nat}{n:Bw}{v:Value}{z c aY x d:Int}{Q:BM->A2->X->Prop}{C o:Int->List Int}{B:Int->CM}{c7:Int->Int}{e:CM}{l:List CM}{A:A2}{aH:Int->Nat}{a:Ah}
theorem FN.AD(h:FN n N v cP bX cz W m)(b:Aa m u):FN n N v cP bX cz W u:=⟨b.some h.s,h.a.AD b,b.some h.f⟩
theorem Tu(z:Int):(∃i:Nat,0<=z/\z=i/\z.toNat=i/\BU z=(i,true))\/(∃i:Nat,¬0<=z/\ -1-z=(i:Int)/\BU z=(i,false)):=by
 by_cases h:0<=z
 ·exact .inl ⟨z.toNat,h,by omega,rfl,by simp[BU,h]⟩
 ·exact .inr ⟨(-1-z).toNat,h,by omega,by simp[BU,h]⟩
theorem vb(p:n.CE)(hb:F5 n N)(h:FN n N v cP bX cz W m)(e:(BU z).1<n.A0.length):HM V 235 [AG cP,Z z] m (.tuple #[Z (BB n (BU z)),Z (AX n N (BU z))]) m:=by
 apply HM.K4;rw[a5m (by simp)];have q:=h.s;have r:=h.f;have P:=p.Gf;rcases Tu z with⟨i,k,t,E,u⟩|⟨i,k,t,u⟩
 all_goals
  rw[u]at e⊢;simp only at e;obtain⟨c,o,rfl,w⟩:=h.a.BY e;obtain⟨a,b⟩: ∃a,n.A0[i]?=some a:=⟨n.A0[i]'e,by simp⟩;have x:i<N.length:=(by rw[hb.1];exact e);obtain⟨d,g⟩: ∃d,N[i]?=some d:=⟨N[i]'x,by simp⟩;have y: ∀h,N[i]'h=d:= λh=>by rw[AP h]at g;simpa using g
  have Q:=hb.2 i a d b g;have R:=(p.Gu a (B5 b)).2.2;have l:=H6 b (j:=0) (by omega);have A:=H6 b (j:=1) (by omega);have B:=H6 b (j:=2) (by omega);rw[MG]at l;simp only[BC]at l;simp[BC]at A B;have C:(BI n.A0)[i*4]?=some (Z a.f):=l;have S: ∀h:i*4<(BI n.A0).length,(BI n.A0)[i*4]'h=Z a.f:= λh=>by have:=C;rw[AP h]at this;simpa using this
  have F:i*4+1<=n.A0.length*4:=(by omega);have G:i*4+2<=n.A0.length*4:=(by omega);have H:i*4+3<=n.A0.length*4:=(by omega);have I:(i:Int)<n.A0.length:=(by omega);have J:(i:Int)<N.length:=(by omega);have D:i+1<=N.length:=x;have K:IntKind.i64.wrap (a.c-d)=a.c-d:=Ac (by omega) (by omega);have L:IntKind.i64.wrap (i:Int)=i:=Ac (by omega) (by omega)
 ·have M:z<n.A0.length:=(by omega);have O:z<N.length:=(by omega);simp(disch:=omega)[YD,q,r,w,k,E,A,B,BG,y,G,H,D,M,O,K];simp[BB,AX,b,g]
 ·simp[YD,q,r,w,k,t,C,BG,y,F,I,J,D,L];simp[BB,AX,b,g]
theorem mX(u:n.CE)(h:FN n N v cP bX cz W m)(b:(BU z).1<n.A0.length):HM V 236 [AG cP,Z z] m (Z (B2 n (BU z))) m:=by
 apply HM.K4;rw[aDM (by simp)];have k:=h.s;have D:=u.Gf;rcases Tu z with⟨i,e,l,w,p⟩|⟨i,e,l,p⟩
 all_goals
  rw[p]at b⊢;simp only at b;obtain⟨c,o,rfl,q⟩:=h.a.BY b;obtain⟨a,d⟩: ∃a,n.A0[i]?=some a:=⟨n.A0[i]'b,by simp⟩;have g:=H6 d (j:=0) (by omega);have r:=H6 d (j:=1) (by omega);rw[MG]at g;simp only[BC]at g;simp[BC]at r;have t:(BI n.A0)[i*4]?=some (Z a.f):=g;have E: ∀h:i*4<(BI n.A0).length,(BI n.A0)[i*4]'h=Z a.f:= λh=>by have:=t;rw[AP h]at this;simpa using this
  have x:i*4+1<=n.A0.length*4:=(by omega);have y:i*4+2<=n.A0.length*4:=(by omega);have A:(i:Int)<n.A0.length:=(by omega);have B:IntKind.i64.wrap (i:Int)=i:=Ac (by omega) (by omega)
 ·have C:z<n.A0.length:=(by omega);simp[aS,k,q,e,w,t,BG,x,C];simp[B2,d]
 ·simp[aS,k,q,e,l,r,BG,y,A,B];simp[B2,d]
def GW(W:Nat)(g:Int->Bool):List Value:=(List.range W).map λ(x:Nat)=> .bool (g x)
@[simp] theorem aI0{g:Int->Bool}:(GW W g).length=W:=by simp[GW]
@[simp] theorem de{g:Int->Bool}(h:k<(GW W g).length):(GW W g)[k]'h= .bool (g k):=by simp[GW]
theorem la{g:Int->Bool}(h:k<W):(GW W g)[k]?=some (.bool (g k)):=by simp[GW,h]
theorem sK{g:Int->Bool}{c:Bool}:(GW W g).set k (.bool c)=GW W (Ai g k c):=by
 apply Lu
 ·simp
 ·intro i a b;simp at a;rw[List.getElem_set];simp only[de,Ai];by_cases h:k=i
  ·subst h;simp
  ·have: ¬(i:Int)=k:=(by omega);simp[h,this]
theorem La{g:Int->Int}:(An W g).set k (Z c)=An W (Ai g k c):=FK
theorem a7v:List.replicate W (.bool false)=GW W (λ_=>false):=by apply Lu<;>simp[GW]
structure iv(W dc a c off:Nat)(d:List Value)(q:List Int)(p:Int->Bool)(c7:Int->Int)(m:X):Prop where
 b:m.Y dc=some ⟨An W c7,true⟩
 e:m.Y a=some ⟨GW W p,true⟩
 aJL:m.Y c=some ⟨d,true⟩
 aEP:off+q.length<=d.length
 aH7:(d.drop off).take q.length=q.map (Value.int .i64 ·)
 a9f:dc≠a
 Lq:c≠dc
 a1o:c≠a
structure cL(cP dc a b off W:Nat)(q:List Int)(A:A2):Prop where
 aMG:A 0=AG cP
 Jm:A 4= .slice (some ⟨dc,0,none⟩) W 1
 aEL:A 5= .slice (some ⟨a,0,none⟩) W 1
 K1:A 6= .slice (some ⟨b,off,none⟩) q.length 1
theorem hy(K:n.CE)(A8:n.AS=W)(AA:F5 n N){d:X}(AB:FN n N v cP bX cz W d){y:Nat}(Ac:d.ac<=dc)(Ae:d.ac<=y)
 {Af:Value} (AE:HU d Af L) (AF: ∀z∈L,(BU z).1<n.A0.length/\B2 n (BU z)=aY) (Ag:L.length<100000):
 ∀(r j:Nat) (m:X) (A:A2) (f off:Nat) (F:List Value) (q:List Int) (p:Int->Bool) (c7:Int->Int),j+r=L.length->Aa d m->d.ac<=f->iv W dc y f off F q p c7 m->q.length+GI p W<=701->
 I0 n N p (λx=>BU (c7 x)) q->p aY=true->(∀z∈L.take j,0<AX n N (BU z)->p (BB n (BU z))=true)->cL cP dc y f off W q A->A 49=Af->A 50=Z L.length->A 51=Z j->
 (∀a u G M AI O B P new,Aa d u->d.ac<=G->iv W dc y G M AI (q++new) B P u->O=q++new->new.length+GI B W=GI p W->I0 n N B (λx=>BU (P x)) (q++new)->(∀z∈L,0<AX n N (BU z)->B (BB n (BU z))=true)->cL cP dc y G M W (q++new) a->Q (.Ao 2) a u)->
 Az V (.loop S9) A m Q
 | 0,j,m,A,f,off,F,q,p,c7,Ay,c,AJ,AK,Ah,S,U,A1,AL,s,i,H,A3=>by refine Bm λAj AM=> ?_;obtain⟨l,C,t,I⟩:=AL;have o: ¬j<L.length:=(by omega);simp(disch:=first|omega|simp only[A9];omega)[S9,i,H,o];refine A3 _ _ f off F q p c7 [] c AJ (by simpa using AK) (by simp) (by simp) (by simpa using S) (λz w=>A1 z ?_) ⟨by simp[l],by simp[C],by simp[t],by simp[I]⟩;rw[DP (by omega)];exact w
 | r+1,j,m,A,f,off,F,q,p,c7,Ay,c,AJ,AK,Ah,S,U,A1,AL,s,i,H,A3=>by
   refine Bm λAj AM=> ?_;have B0:=AL;obtain⟨l,C,t,I⟩:=B0;have o:j<L.length:=(by omega);have AN:j+1<=L.length:=o;obtain⟨z,A4⟩: ∃z,L[j]?=some z:=⟨L[j]'o,by simp⟩;have AO: ∀h,L[j]'h=z:= λh=>by rw[AP h]at A4;simpa using A4
   have B3:=B5 A4;obtain⟨Ak,B4⟩:=AF z B3;obtain⟨B6,BS,rfl,Al⟩:=AE.BY o;have AQ:=c.some Al;have BT:=E Al;have B7:=AB.AD c;have Am:L.take (j+1)=L.take j++[z]:=(by rw[N9,A4];rfl);have AT: ∀a7:Value->X->Prop,At V 235 [AG cP,Z z] m a7=a7 (.tuple #[Z (BB n (BU z)),Z (AX n N (BU z))]) m:= λa7=>(vb K AA B7 Ak).wp;have B8:=(c0 K Ak).2;obtain⟨hb,A5,AU,Ap,Aq,Ar,B9,BA⟩:=AK;have BV:=E hb;have BW:=E A5;have Ba:=E AU;have AV:=BZ (n:=j) (by omega);generalize J:BB n (BU z)=T at*;generalize As:AX n N (BU z)=R at*;obtain⟨BC,AW⟩:=B8;rw[A8]at AW;obtain⟨k,rfl⟩: ∃k:Nat,T=k:=⟨T.toNat,by omega⟩;have t3:k<W:=(by omega);have t4:k+1<=W:=t3;have Av: ∀g,(GW W g)[k]?=some (.bool (g k)):= λg=>la t3;have Bb: ∀g,(An W g)[k]?=some (Z (g k)):= λg=>G5 t3;have Aw:(R<=0\/p k=true)-> ∀(a:A2) (u:X),u=m->cL cP dc y f off W q a->a 49= .slice (some ⟨B6,0,none⟩) L.length 1->a 50=Z L.length->a 51=Z ((j:Int)+1)->Aj a u:=by
    intro BD a u BE O BF BH BI;subst BE;refine AM _ _ (hy K A8 AA AB Ac Ae AE AF Ag r (j+1) u a f off F q p c7 (by omega) c AJ ⟨hb,A5,AU,Ap,Aq,Ar,B9,BA⟩ Ah S U (λAY w=> ?_) O BF BH (by rw[BI];simp) A3);rw[Am]at w;rcases D2.1 w with h|h
    ·exact A1 AY h
    ·simp at h;subst h;intro AZ;rw[J];rw[As]at AZ;rcases BD with h|h
     ·omega
     ·exact h
   by_cases A7:0<R
   ·cases D:p k
    ·have BJ:(q.length+1)*8<=140737488355328:=(by omega);have BK:q.length+1<=9223372036854775807:=(by omega);simp(disch:=first|omega|simp only[A9];omega)[S9,s,i,H,l,C,t,I,o,AN,AQ,AO,BG,AT,AV,t3,t4,Av,hb,A5,AU,Ap,Aq,A7,D,BJ,BK,sK,La,-FK];refine AM _ _ (hy K A8 AA AB Ac Ae AE AF Ag r (j+1) _ _ (m.ac+3) 0 (q.map (Value.int .i64 ·)++[Z k]) (q++[(k:Int)]) (Ai p k true) (Ai c7 k z) (by omega) ⟨by have:=c.ac;simp only[Au,B1];omega,λb hb=>by have:=c.ac;simp(disch:=first|omega|(simp only[Au,B1];omega)) only[A6,Ab];exact c.Y b hb⟩ (by have:=c.ac;omega) ⟨?_,?_,?_,by simp,by rw[Gn,DP (by simp)];simp,Ar,by omega,by omega⟩ ?_ ?_ ?_ ?_ ⟨by simp[l],by simp[C],by simp[t],by simp⟩ (by simp[s]) (by simp[i]) (by simp) (λa u G M AI O B P new BL BM BN Bc Bd BO BQ BR=>A3 a u G M AI (q++(k:Int)::new) B P ((k:Int)::new) BL BM (by simpa using BN) rfl ?_ (by simpa using BO) BQ (by simpa using BR)))
     ·simp(disch:=first|omega|(simp only[Au,B1];omega)) only[AR,A6,Ab]
     ·simp(disch:=first|omega|(simp only[Au,B1];omega)) only[AR,A6,Ab]
     ·simp(disch:=first|omega|(simp only[Au,B1];omega)) only[AR]
     ·have:=Rd p k (by omega) D W AW;simp;omega
     ·have Ax:=S.add (e:=BU z) (by rw[As];exact A7) (by rw[B4];exact U) (by rw[J];exact D) (by rw[J];exact⟨BC,by omega⟩);rw[J]at Ax;have e:(λx=>BU (Ai c7 (k:Int) z x))=Ai (λx=>BU (c7 x)) (k:Int) (BU z):=by
       funext x;unfold Ai;split<;>rfl
      rw[e];exact Ax
     ·unfold Ai;split<;>first|rfl|exact U
     ·intro AY w AZ;rw[Am]at w;rcases D2.1 w with h|h
      ·unfold Ai;split
       ·rfl
       ·exact A1 AY h AZ
      ·simp at h;subst h;rw[J];unfold Ai;rw[if_pos rfl]
     ·have:=Rd p k (by omega) D W AW;simp;omega
    ·simp[S9,s,i,H,l,t,o,AN,AQ,AO,BG,AT,AV,t3,t4,Av,A5,A7,D];exact Aw (.inr D) _ _ rfl ⟨by simp[l],by simp[C],by simp[t],by simp[I]⟩ (by simp[s]) (by simp[i]) (by simp)
   ·simp[S9,s,i,H,l,o,AN,AQ,AO,BG,AT,AV,A7];exact Aw (.inl (by omega)) _ _ rfl ⟨by simp[l],by simp[C],by simp[t],by simp[I]⟩ (by simp[s]) (by simp[i]) (by simp)
structure OV(C:Int->List Int)(cz W:Nat)(m:X):Prop where
 Y: ∃a:List Value,m.Y cz=some ⟨a,true⟩/\a.length=W/\ ∀k:Nat,k<W-> ∃b,a[k]?=some b/\HU m b (C k)
theorem OV.AD(h:OV C cz W m)(a:Aa m u):OV C cz W u:=by obtain⟨b,c,d,e⟩:=h.Y;exact⟨b,a.some c,d,λk f=>by obtain⟨g,i,j⟩:=e k f;exact⟨g,i,j.AD a⟩⟩
theorem aA2{n:Bw}(AE:n.CE){W:Nat}(AF:n.AS=W){N:List Int}(AI:F5 n N){v:Value}{cP bX cz:Nat}{g:X}(L:FN n N v cP bX cz W g){C:Int->List Int}(M:OV C cz W g)(G:QK n C)(AJ: ∀x,(C x).length<100000){dc ia:Nat}(AK:g.ac<=dc)(AL:g.ac<=ia)
 {Q:BM->A2->X->Prop}:
 ∀(k:Nat) (m:X) (A:A2) (j off:Nat) (f:List Value) (q:List Int) (p:Int->Bool) (c7:Int->Int),q.length+GI p W=k->k<=701->Aa g m->g.ac<=j->iv W dc ia j off f q p c7 m->
 I0 n N p (λx=>BU (c7 x)) q->cL cP dc ia j off W q A->
 (∀y u t w,Aa g u->u.Y dc=some ⟨An W w,true⟩->u.Y ia=some ⟨GW W t,true⟩->I0 n N t (λx=>BU (w x)) []->y 4= .slice (some ⟨dc,0,none⟩) W 1->y 5= .slice (some ⟨ia,0,none⟩) W 1->Q (.Ao 0) y u)->
 Az V (.loop W9) A m Q:=by
 intro k;induction k with
 | zero=>intro m A j off f q p c7 O AM i P d o H B;have AN:q=[]:=Ii.1 (by omega);subst AN;refine Bm λAO R=> ?_;obtain⟨I,D,E,r⟩:=H;simp(disch:=omega)[W9,r];exact B _ _ p c7 i d.b d.e o (by simp[D]) (by simp[E])
 | succ k AQ=>
   intro m A j off f q p c7 O AM i P d o H B;refine Bm λAO R=> ?_;have AR:=H;obtain⟨I,D,E,r⟩:=AR;cases q with
   | nil=>simp(disch:=first|omega|simp only[A9];omega)[W9,r];exact B _ _ p c7 i d.b d.e o (by simp[D]) (by simp[E])
   | cons aY q=>
     have AT:=L.AD i;have AU:=AT.s;obtain⟨AV,S,AW,BC⟩:=(M.AD i).Y;have T:=o.Qh aY (by simp);obtain⟨U,BD⟩:=o.Ci aY T;obtain⟨c,rfl⟩: ∃c:Nat,aY=c:=⟨aY.toNat,by omega⟩;have J:c<W:=(by omega);have AX:c+1<=W:=J;obtain⟨A0,AY,BE,AZ⟩:=M.Y;have Ab:A0=AV:=(by have:=i.some AY;rw[S]at this;cases this;rfl);subst Ab;obtain⟨Ac,A1,A3⟩:=AZ c J;have Af: ∀h,A0[c]'h=Ac:= λh=>by rw[AP h]at A1;simpa using A1
     obtain⟨Ag,Ah⟩:=A3.len;have A4:=d.aH7;have Ai:=d.aEP;have Aj:=d.aJL;simp only[DZ]at Ai A4 r O;have A5:f[off]?=some (Z c):=(by have:=congrArg (λl=>l[0]?) A4;simp at this;exact this);have Ak: ∀h,f[off]'h=Z c:= λh=>by rw[AP h]at A5;simpa using A5
     have Al:off+1<=f.length:=(by omega);have BF:off<f.length:=(by omega);simp(disch:=first|omega|simp only[A9];omega)[W9,I,r,AU,S,AW,J,AX,Af,Ag,Ah,Aj,Ak,Al,BG];refine hy AE AF AI L AK AL A3 (λz F=>⟨((G.Qa c ⟨U,by omega⟩) z F).1,((G.Qa c ⟨U,by omega⟩) z F).2.1⟩) (AJ c) (C c).length 0 m _ j off f ((c:Int)::q) p c7 (by omega) i P d (by simp;omega) o T (λz F=>by simp at F) ⟨by simp[I],by simp[D],by simp[E],by simp[r]⟩ (by simp) (by simp[]) (by simp) (λy u Am A6 A7 BH t w new Ap Aq Ar BI BJ As At Au=> ?_);obtain⟨a0,a4,Av,A8⟩:=Au;have Aw:I0 n N t (λx=>BU (w x)) (q++new):=(by refine I0.dq (aY:=(c:Int)) (by simpa using As) λe AA Ax=> ?_;obtain⟨a,BK,Ay,_⟩:=Kt AA;obtain⟨z,AB,B0⟩:=G.all e (by have:=(Ae.1 Ay).1;exact this);rw[Ax]at AB;have:=At z AB;rw[B0]at this;exact this AA);have B1:=Ar;obtain⟨B2,B3,B4,B5,K,B6,B7,B8⟩:=B1;simp only[Js,DZ,En,Dl]at B5 K A8;have B9:A6<A7.length:=(by omega);have BA:(1:Int)<=(q.length:Int)+(new.length:Int)+1:=(by omega);have z3:((q.length:Int)+(new.length:Int)+1).toNat=q.length+new.length+1:=(by omega);have BB:q.length+new.length+1-1=q.length+new.length:=(by omega);simp[A8,BA,BB,z3];refine R _ _ (AQ u _ Am (A6+1) A7 (q++new) t w (by simp;omega) (by omega) Ap Aq ⟨B2,B3,B4,by simp;omega,?_,B6,B7,B8⟩ Aw ⟨by simp[a0],by simp[a4],by simp[Av],by simp⟩ B);rw[Ht B9,Wn]at K;injection K with _ h;rw[En];exact h
theorem mG(a:n.CE)(i:n.AS=W)(j:F5 n N)(e:FN n N v cP bX cz W m)(l:OV C cz W m)(o:QK n C)(q: ∀x,(C x).length<100000):
 At V 185 [AG cP] m λr u=>Aa m u/\ ∃(dc c:Nat) (c7:Int->Int) (p:Int->Bool),r= .tuple #[.slice (some ⟨dc,0,none⟩) W 1,.slice (some ⟨c,0,none⟩) W 1]/\m.ac<=dc/\m.ac<=c/\u.Y dc=some ⟨An W c7,true⟩/\u.Y c=some ⟨GW W p,true⟩/\I0 n N p (λx=>BU (c7 x)) []:=by
 rw[a5o (by simp)];have f:=e.s;have P:=E f;obtain⟨g,Q⟩:=a.Ad;have R:=a.Jy;obtain⟨d,t⟩: ∃k:Nat,n.Ad=k:=⟨n.Ad.toNat,by omega⟩;have w:d<W:=by omega
 have y:d+1<=W:=w;have h:n.Ad<(W:Int):=by omega
 have z:n.Ad.toNat=d:=by omega
 have A:n.AS.toNat=W:=by omega
 have z0:0<=n.AS:=by omega
 have B:n.AS*8<=140737488355328:=by omega
 have D:n.AS<=140737488355328:=by omega
 have F:n.AS<=9223372036854775807:=by omega
 simp(disch:=first|omega|simp only[A9];omega)[kj,f,g,h,z,y,A,z0,B,D,F,a7v,sK,-FK];refine aA2 a i j e l o q (dc:=m.ac+5) (ia:=m.ac+11) (by omega) (by omega) (1+GI (Ai (λ_=>false) n.Ad true) W) _ _ (m.ac+14+5) 0 [Z n.Ad] [n.Ad] (Ai (λ_=>false) n.Ad true) (λ_=>0) (by simp) ?_ ?_ (by omega) ⟨?_,?_,?_,by simp,by simp,by omega,by omega,by omega⟩ (by have:=I0.Rh a N (λx=>BU ((λ_=>0) x));exact this) ⟨by simp,by simp,by simp,by simp⟩ (λS u G H I J K L M O=> ?_)
 ·have:=Rd (λ_=>false) n.Ad g rfl W h;have:=iI (λ_=>false) W;omega
 ·exact⟨by simp only[Au,B1];omega,λb hb=>by simp(disch:=first|omega|(simp only[Au,B1];omega)) only[A6,Ab]⟩
 ·simp(disch:=first|omega|(simp only[Au,B1];omega)) only[AR,A6,Ab,PH]
 ·simp(disch:=first|omega|(simp only[Au,B1];omega)) only[AR,A6,Ab,t]
 ·simp(disch:=first|omega|(simp only[Au,B1];omega)) only[AR]
 ·simp(disch:=omega)[M,O];exact⟨I,_,_,⟨rfl,rfl⟩,by omega,by omega,H,J,G,K,L⟩
theorem dV(k:IntKind): ∀(l:List Int) (i:Nat) (c:Int),(l.map (Value.int k ·)).set i (.int k c)=(l.set i c).map (Value.int k ·)
 |[],_,_=>rfl
 |x::l,0,c=>rfl
 |x::l,i+1,c=>congrArg (List.cons _) (dV k l i c)
theorem FN.hN{d:List Int}(h:FN n N v cP bX cz W m)(g:cP≠bX)(i: ∀b l c,v= .slice (some ⟨b,0,none⟩) l c->b≠bX)(j:d.length=N.length):
 FN n d v cP bX cz W (m.A1 bX (some ⟨d.map (Value.int .i64 ·),true⟩)):=by
 refine⟨?_,?_,AR (E h.f)⟩
 ·rw[A6 g,j];exact h.s
 ·rcases h.a with h|⟨b,o,e,k⟩
  ·exact .inl h
  ·exact .inr ⟨b,o,e,by rw[A6 (i _ _ _ e)];exact k⟩
def Kf(d r:Int):Int:=if d<0\/r<d then r else d
def Lf(n:Bw)(N:List Int)(d:Int)(l:List CM):Int:=l.foldl (λd e=>Kf d (AX n N e)) d
theorem wm: ∀(l:List CM) (d:Int),(∀e∈l,0<AX n N e)->(d= -1\/0<d)->(Lf n N d l= -1/\l=[]/\d= -1)\/(0<Lf n N d l/\(0<d->Lf n N d l<=d)/\ ∀e∈l,Lf n N d l<=AX n N e)
 | [],d,_,a=>by
   rcases a with rfl|a
   ·exact .inl ⟨rfl,rfl,rfl⟩
   ·exact .inr ⟨a,λ_=>FM _,by simp⟩
 | e::l,d,f,a=>by
   have p:=f e (by simp);have g:0<Kf d (AX n N e):=(by unfold Kf;split<;>omega);have:=wm l (Kf d (AX n N e)) (λe i=>f e (by simp[i])) (.inr g);have j:Lf n N d (e::l)=Lf n N (Kf d (AX n N e)) l:=rfl;rw[j];right;rcases this with⟨_,_,h⟩|⟨k,m,o⟩
   ·omega
   ·have:=m g;refine⟨k,λa=> ?_,λb c=> ?_⟩
    ·have:Kf d (AX n N e)<=d:=(by unfold Kf;split<;>omega);omega
    ·rcases CZ.1 c with rfl|c
     ·have:Kf d (AX n N b)<=AX n N b:=(by unfold Kf;split<;>omega);omega
     ·exact o b c
theorem hQ(h:Gt n B x []):x=n.Ad:=by cases h;rfl
theorem b7(f:n.CE)(b:Gt n (λx=>BU (c7 x)) x (e::l))(g:0<AX n N e):
 x≠n.Ad/\e=BU (c7 x)/\BB n e=x/\Gt n (λx=>BU (c7 x)) (B2 n e) l/\n.Ci x/\e.1<n.A0.length:=by
 cases b with
 | cons h c b=>obtain⟨a,j,i,_⟩:=Kt g;have d:=(Ae.1 i).1;exact⟨h,rfl,c,b,by have:=(c0 f d).2;rw[c]at this;exact this,d⟩
theorem yC(q:n.CE)(I:n.AS=W)(E:F5 n N)(h:FN n N v cP bX cz W m)(hb:m.Y dc=some ⟨An W c7,true⟩):
 ∀(l:List CM) (x d:Int) (A:A2),Gt n (λx=>BU (c7 x)) x l->(∀e∈l,0<AX n N e)->A 0=AG cP->A 1= .slice (some ⟨dc,0,none⟩) W 1->A 5=Z d->A 6=Z x->
 (∀a,a 0=AG cP->a 1= .slice (some ⟨dc,0,none⟩) W 1->a 5=Z (Lf n N d l)->Q (.Ao 0) a m)->Az V (.loop TI) A m Q
 | [],x,d,A,t,u,b,c,f,i,w=>by refine Bm λF G=> ?_;have j:=h.s;cases t;simp[TI,b,i,j];exact w _ (by simp[b]) (by simp[c]) (by simp[f,Lf])
 | e::l,x,d,A,t,u,b,c,f,i,w=>by
   refine Bm λF G=> ?_;have j:=h.s;obtain⟨y,g,R,J,K,H⟩:=b7 q t (u e (by simp));obtain⟨S,T⟩:=K;obtain⟨k,rfl⟩: ∃k:Nat,x=k:=⟨x.toNat,by omega⟩;have o:k<W:=(by omega);have z:k+1<=W:=o;have B:(An W c7)[k]?=some (Z (c7 k)):=G5 o;have C: ∀a7:Value->X->Prop,At V 235 [AG cP,Z (c7 k)] m a7=a7 (.tuple #[Z (BB n e),Z (AX n N e)]) m:= λa7=>by rw[g];exact(vb q E h (by rw[<-g];exact H)).wp
   have D: ∀a7:Value->X->Prop,At V 236 [AG cP,Z (c7 k)] m a7=a7 (Z (B2 n e)) m:= λa7=>by rw[g];exact(mX q h (by rw[<-g];exact H)).wp
   have next: ∀(a:A2),a 0=AG cP->a 1= .slice (some ⟨dc,0,none⟩) W 1->a 5=Z (Kf d (AX n N e))->a 6=Z (B2 n e)->F a m:= λa L M O P=>
    G _ _ (yC q I E h hb l _ _ a J (λe g=>u e (by simp[g])) L M O P w)
   by_cases p:d<0
   ·simp[TI,b,c,f,i,j,y,hb,B,BG,o,z,C,D,p];exact next _ (by simp[b]) (by simp[c]) (by simp[Kf,p]) (by simp)
   by_cases r:AX n N e<d
   ·simp[TI,b,c,f,i,j,y,hb,B,BG,o,z,C,D,p,r];exact next _ (by simp[b]) (by simp[c]) (by simp[Kf,r]) (by simp)
   ·simp[TI,b,c,f,i,j,y,hb,B,BG,o,z,C,D,p,r];exact next _ (by simp[b]) (by simp[c]) (by simp[f,Kf,p,r]) (by simp)
theorem wi(B:n.CE)(AQ:n.AS=W)(A7:0<=d)(A8:cP≠bX)(AA: ∀b l c,v= .slice (some ⟨b,0,none⟩) l c->b≠bX)(AB:dc≠bX):
 ∀(l:List CM) (x:Int) (N:List Int) (m:X) (A:A2),Gt n (λx=>BU (c7 x)) x l->F5 n N->(∀e∈l,0<AX n N e/\d<=AX n N e)->(l.map Prod.fst).Nodup->FN n N v cP bX cz W m->m.Y dc=some ⟨An W c7,true⟩->
 A 0=AG cP->A 1= .slice (some ⟨dc,0,none⟩) W 1->A 5=Z d->A 9=Z x->
 (∀j,j 5=Z d->Q (.Ao 2) j (m.A1 bX (some ⟨(G6 N l d).map (Value.int .i64 ·),true⟩)))->Az V (.loop WT) A m Q
 | [],x,N,m,A,P,H,R,I,p,hb,w,C,q,J,K=>by refine Bm λAD AE=> ?_;have L:=p.s;cases P;simp(disch:=first|omega|simp only[A9];omega)[WT,w,J,L];have:=K A q;simp only[G6,List.foldl_nil]at this;rw[Sv p.f]at this;have h:=K;simp only[G6,List.foldl_nil]at h;rw[Sv p.f]at h;exact h _ (by simp[q])
 | e::l,x,N,m,A,P,H,R,I,p,hb,w,C,q,J,K=>by
   refine Bm λAD AE=> ?_;have L:=p.s;have S:=p.f;have Aj:=E S;obtain⟨r,D⟩:=R e (by simp);obtain⟨AF,y,Ak,AR,AT,M⟩:=b7 B P r;obtain⟨Al,Am⟩:=AT;obtain⟨k,rfl⟩: ∃k:Nat,x=k:=⟨x.toNat,by omega⟩;have O:k<W:=(by omega);have AI:k+1<=W:=O;have AJ:(An W c7)[k]?=some (Z (c7 k)):=G5 O;obtain⟨a,o,T,t⟩:=Kt r;have AK: ∀h,N[e.1]'h=o:= λh=>by rw[AP h]at t;simpa using t
   have AU:=bB H r A7 D;have AV:(push N e d).length=N.length:=cu;have AL:=p.hN A8 AA AV;have F: ∀a7:Value->X->Prop,At V 236 [AG cP,Z (c7 k)] (m.A1 bX (some ⟨(push N e d).map (Value.int .i64 ·),true⟩)) a7=a7 (Z (B2 n e)) (m.A1 bX (some ⟨(push N e d).map (Value.int .i64 ·),true⟩)):= λa7=>by have:=(mX B AL (z:=c7 k) (by rw[<-y];exact M)).wp (a7:=a7);rw[<-y]at this;exact this
   simp only[Dl,J9]at I;have AW: ∀G∈l,0<AX n (push N e d) G/\d<=AX n (push N e d) G:=by intro G AM;rw[Tf (λh=>I.1 (CG.2 ⟨G,AM,h⟩))];exact R G (by simp[AM])
   have next: ∀(j:A2) (u:X),u=m.A1 bX (some ⟨(push N e d).map (Value.int .i64 ·),true⟩)->j 0=AG cP->j 1= .slice (some ⟨dc,0,none⟩) W 1->j 5=Z d->j 9=Z (B2 n e)->AD j u:=by intro j u AY AZ Aa Ab Ae;subst AY;refine AE _ _ (wi B AQ A7 A8 AA AB l _ (push N e d) _ j AR AU AW I.2 AL (by rw[A6 AB];exact hb) AZ Aa Ab Ae (λAf g=> ?_));rw[Qm];exact K Af g
   have Ap:=H.2 _ a o T t;have Aq:=(B.Gu a (B5 T)).2.2;have Ar:=B.Gf;have AN:=M;have As:N.length=n.A0.length:=H.1;unfold AX at r D;simp only[T,t]at r D;have Ag:push N e d=N.set e.1 (if e.2 then o+d else o-d):=(by unfold push;rw[t]);rw[Ag,<-dV]at F next
   rcases Tu (c7 k)with⟨i,U,AO,Ah,A3⟩|⟨i,U,AO,A3⟩
   ·rw[A3]at y;subst y;simp only[if_true]at r D F next M AN t
    have A4:IntKind.i64.wrap (o+d)=o+d:=Ac (by omega) (by omega);have A5:c7 k<N.length:=(by omega);have z3:i+1<=N.length:=(by omega);have z4:i<N.length:=(by omega);simp(disch:=first|omega|simp only[A9];omega)[WT,w,C,q,J,L,AF,hb,AJ,BG,O,AI,F,S,U,Ah,AK,A4,A5,z3];exact next _ _ rfl (by simp[w]) (by simp[C]) (by simp[q]) (by simp)
   ·rw[A3]at y;subst y;simp only[E3,if_false]at r D F next M AN t
    have A4:IntKind.i64.wrap (o-d)=o-d:=Ac (by omega) (by omega);have Ai:IntKind.i64.wrap (i:Int)=i:=Ac (by omega) (by omega);have A5:(i:Int)<N.length:=(by omega);have z3:i+1<=N.length:=(by omega);have z4:i<N.length:=(by omega);simp(disch:=first|omega|simp only[A9];omega)[WT,w,C,q,J,L,AF,hb,AJ,BG,O,AI,F,S,U,AO,AK,A4,Ai,A5,z3];exact next _ _ rfl (by simp[w]) (by simp[C]) (by simp[q]) (by simp)
theorem sV(k:n.CE)(t:n.AS=W)(w:F5 n N)(o:FN n N v cP bX cz W m)(hb:m.Y dc=some ⟨An W c7,true⟩)(A:cP≠bX)(B: ∀b l c,v= .slice (some ⟨b,0,none⟩) l c->b≠bX)(C:dc≠bX)
 (p:Gt n (λx=>BU (c7 x)) n.Aq l) (j: ∀e∈l,0<AX n N e) (D:(l.map Prod.fst).Nodup):
 At V 186 [AG cP,.slice (some ⟨dc,0,none⟩) W 1] m λr u=> ∃d,r=Z d/\0<d/\(∀e∈l,0<AX n N e/\d<=AX n N e)/\u=m.A1 bX (some ⟨(G6 N l d).map (Value.int .i64 ·),true⟩):=by
 rw[zz (by simp)];have y:=o.s;have E:l≠[]:= λh=>by subst h;exact k.D6 (hQ p).symm
 have i:=wm (n:=n) (N:=N) l (-1) j (.inl rfl);have i:0<Lf n N (-1) l/\ ∀e∈l,Lf n N (-1) l<=AX n N e:=by
  rcases i with⟨_,h,_⟩|⟨q,_,F⟩
  ·exact absurd h E
  ·exact⟨q,F⟩
 simp[ku,y];refine yC k t w o hb l n.Aq (-1) _ p j (by simp) (by simp) (by simp) (by simp) (λH z q G=> ?_);simp[z,y];refine wi k t (d:=Lf n N (-1) l) (by omega) A B C l n.Aq N m _ p w (λe f=>⟨j e f,i.2 e f⟩) D o hb (by simp[z]) (by simp[q]) (by simp[G]) (by simp) (λI g=> ?_);simp[g];exact⟨i.1,λa=>⟨λf=>⟨j _ f,i.2 _ f⟩,λf=>⟨j _ f,i.2 _ f⟩⟩⟩
theorem D3{t aY:Nat}(h:aY≠t):Fg A t v aY=A aY:=by unfold Fg;rw[if_neg h]
def Ew(l:List Int)(b:Nat):Value:=if l=[]then .slice none 0 0 else .slice (some ⟨b,0,none⟩) l.length 1
def GY(W:Nat)(o:Int->List Int)(aH:Int->Nat):List Value:=(List.range W).map λ(x:Nat)=>Ew (o x) (aH x)
@[simp] theorem aLB:(GY W o aH).length=W:=by simp[GY]
theorem UU(h:k<W):(GY W o aH)[k]?=some (Ew (o k) (aH k)):=by simp[GY,h]
theorem Oh{b:Nat}{l:List Int}(a:l≠[]):(GY W o aH).set k (.slice (some ⟨b,0,none⟩) l.length 1)=GY W (Ai o k l) (Ai aH k b):=by
 apply Lu
 ·simp
 ·intro i c d;simp at c;rw[List.getElem_set];by_cases h:k=i
  ·subst h;simp[GY,Ai,Ew,a]
  ·have: ¬(i:Int)=k:=(by omega);simp[GY,Ai,h,this]
structure Fu(o:Int->List Int)(cz W b:Nat)(aH:Int->Nat)(m:X):Prop where
 N2:m.Y cz=some ⟨GY W o aH,true⟩
 Y: ∀k:Nat,k<W->o k≠[]->m.Y (aH k)=some ⟨(o k).map (Value.int .i64 ·),true⟩/\b<=aH k
 inj: ∀k a:Nat,k<W->a<W->k≠a->o k≠[]->o a≠[]->aH k≠aH a
theorem Fu.h5{c:Nat}(h:Fu o cz W c aH m):OV o cz W m:=by
 refine⟨_,h.N2,by simp,λk b=>⟨_,UU b,?_⟩⟩;unfold Ew;by_cases a:o k=[]
 ·rw[if_pos a];exact .inl ⟨rfl,a⟩
 ·rw[if_neg a];exact .inr ⟨_,_,rfl,(h.Y k b a).1⟩
theorem Fu.app{l:Nat}(h:Fu o cz W l aH m)(G:cz<l){id:Nat}(y:k<W)(H:m.ac<=id)(I:l<=m.ac)
 (z:u.Y cz=some ⟨GY W (Ai o k (o k++[c])) (Ai aH k id),true⟩) (A:u.Y id=some ⟨(o k++[c]).map (Value.int .i64 ·),true⟩)
 (B: ∀b,b<m.ac->b≠cz->(o k≠[]->b≠aH k)->u.Y b=m.Y b):Fu (Ai o k (o k++[c])) cz W l (Ai aH k id) u:=by
 have a: ∀{D:Type} (g:Int->D) (v:D) (j:Nat),j≠k->Ai g k v j=g j:= λg v j i=>by unfold Ai;rw[if_neg (by omega)]
 have n: ∀{D:Type} (g:Int->D) (v:D),Ai g k v k=v:= λg v=>by unfold Ai;rw[if_pos rfl]
 refine⟨z,λj i q=> ?_,λj f i w r s p=> ?_⟩
 ·by_cases d:j=k
  ·subst d;rw[n,n];exact⟨A,by omega⟩
  ·rw[a _ _ j d]at q;rw[a _ _ j d,a _ _ j d];obtain⟨x,C⟩:=h.Y j i q;refine⟨?_,C⟩;rw[B _ (E x) (by omega) (λF=>h.inj j k i y d q F)];exact x
 ·by_cases d:j=k
  ·subst d;rw[a _ _ f (λe=>r e.symm)]at p;rw[n,a _ _ f (λe=>r e.symm)];have:=E (h.Y f w p).1;omega
  ·rw[a _ _ j d]at s;rw[a _ _ j d];by_cases t:f=k
   ·subst t;rw[n];have:=E (h.Y j i s).1;omega
   ·rw[a _ _ f t]at p;rw[a _ _ f t];exact h.inj j f i w r s p
noncomputable def ar:CF:= .FW [
 ⟨0,some 33,none,.FA (.tmp 6),[]⟩,
 ⟨1,some 34,none,.Lj (.tmp 33),[]⟩,
 ⟨2,some 35,none,.H0 5 (.tmp 34),[]⟩,
 ⟨3,some 36,none,.EO false 1 (.tmp 35),[]⟩,
 ⟨4,some 37,none,.H0 0 (.tmp 8),[]⟩,
 ⟨5,some 38,none,.EO false 1 (.tmp 37),[]⟩,
 ⟨6,some 39,none,.FA (.tmp 6),[]⟩,
 ⟨7,some 40,none,.Lj (.tmp 39),[]⟩,
 ⟨8,some 41,none,.H0 5 (.tmp 40),[]⟩,
 ⟨9,some 42,none,.EO false 1 (.tmp 41),[]⟩,
 ⟨10,some 43,none,.H0 0 (.tmp 8),[]⟩,
 ⟨11,some 44,none,.EO false 1 (.tmp 43),[]⟩,
 ⟨12,some 45,none,.He 1 (.tmp 42) (.tmp 44),[]⟩,
 ⟨13,some 46,none,.EO false 1 (.tmp 45),[]⟩,
 ⟨14,some 47,none,.FA (.tmp 7),[]⟩,
 ⟨15,some 48,none,.Hg 1 1 [.int .i64 0] [(0,1,.tmp 47)],[]⟩,
 ⟨16,some 49,none,.app 1 8 (.tmp 46) (.tmp 48),[(.tmp 37,.tmp 46),(.tmp 35,.tmp 46)]⟩,
 ⟨17,some 50,none,.He 1 (.tmp 36) (.tmp 38),[]⟩,
 ⟨18,none,none,.store 1 (.tmp 50) (.tmp 49),[]⟩]
noncomputable def Ze:CF:= .FW [
 ⟨0,some 51,none,.FA (.tmp 6),[]⟩,
 ⟨1,some 52,none,.Lj (.tmp 51),[]⟩,
 ⟨2,some 53,none,.H0 5 (.tmp 52),[]⟩,
 ⟨3,some 54,none,.EO false 1 (.tmp 53),[]⟩,
 ⟨4,some 55,none,.H0 1 (.tmp 8),[]⟩,
 ⟨5,some 56,none,.EO false 1 (.tmp 55),[]⟩,
 ⟨6,some 57,none,.FA (.tmp 6),[]⟩,
 ⟨7,some 58,none,.Lj (.tmp 57),[]⟩,
 ⟨8,some 59,none,.H0 5 (.tmp 58),[]⟩,
 ⟨9,some 60,none,.EO false 1 (.tmp 59),[]⟩,
 ⟨10,some 61,none,.H0 1 (.tmp 8),[]⟩,
 ⟨11,some 62,none,.EO false 1 (.tmp 61),[]⟩,
 ⟨12,some 63,none,.He 1 (.tmp 60) (.tmp 62),[]⟩,
 ⟨13,some 64,none,.EO false 1 (.tmp 63),[]⟩,
 ⟨14,some 65,none,.FA (.tmp 7),[]⟩,
 ⟨15,some 66,none,.Jf .sub .Q2 (.const (.int .i64 (-1))) (.tmp 65),[]⟩,
 ⟨16,some 67,none,.Hg 1 1 [.int .i64 0] [(0,1,.tmp 66)],[]⟩,
 ⟨17,some 68,none,.app 1 8 (.tmp 64) (.tmp 67),[(.tmp 55,.tmp 64),(.tmp 53,.tmp 64)]⟩,
 ⟨18,some 69,none,.He 1 (.tmp 54) (.tmp 56),[]⟩,
 ⟨19,none,none,.store 1 (.tmp 69) (.tmp 68),[]⟩]
theorem uG:kp=(
 .El (
 .FW [
  ⟨0,some 29,none,.Jf .lss .Q2 (.tmp 28) (.tmp 27),[]⟩]) (
 .El (
 .HP (.tmp 29) (
  .skip) (
  .Ao 0)) (
 .El (
 .block 1 (
 .El (
 .FW [
  ⟨0,some 30,none,.FA (.tmp 28),[]⟩,
  ⟨1,some 31,none,.He 4 (.tmp 26) (.tmp 28),[]⟩,
  ⟨2,some 32,none,.EO true 4 (.tmp 31),[]⟩,
  ⟨3,some 8,none,.It [.int .i64 0,.int .i64 0,.int .i64 0,.int .i64 0],[]⟩,
  ⟨4,some 7,none,.FA (.tmp 30),[]⟩,
  ⟨5,none,none,.store 4 (.tmp 8) (.tmp 32),[]⟩]) (
 .El (
 ar) (
 Ze)))) (
 .FW [
  ⟨0,some 70,none,.Jf .add .Q2 (.tmp 28) (.const (.int .i64 1)),[]⟩,
  ⟨1,some 28,none,.FA (.tmp 70),[]⟩])))
 :CF):=rfl
theorem aD4(AD:n.CE)(AE:n.AS=W){q:Nat}(AF:i<2500)(I:m.Y cP=some ⟨[Z n.AS,Z n.Ad,Z n.Aq,v,.slice (some ⟨bX,0,none⟩) N.length 1,.slice (some ⟨cz,0,none⟩) W 1],true⟩)
 (x:m.Y fP=some ⟨BC a,true⟩) (s:Fu o cz W q aH m) (J:cz<q) (AI:cP<q) (AJ:cP≠cz) (K:q<=m.ac) (A2:n.Ci a.f) (A3:(o a.f).length<=100000) (y: ∀k:Nat,k<W->o k≠[]->aH k≠fP) (AK:fP≠cz)
 (L:A 6=AG cP) (M:A 8=AG fP) (O:A 7=Z i)
 (z: ∀P u R,(∀t,t<33->P t=A t)->m.ac<=u.ac->(∀b,b<m.ac->b≠cz->(∀k:Nat,k<W->o k≠[]->b≠aH k)->u.Y b=m.Y b)->Fu (Ai o a.f (o a.f++[(i:Int)])) cz W q R u->(∀k:Nat,k<W->Ai o a.f (o a.f++[(i:Int)]) k≠[]->R k≠fP)->Q .CK P u):Az V ar A m Q:=by
 obtain⟨S,AL⟩:=A2;obtain⟨k,A4⟩: ∃k:Nat,a.f=k:=⟨a.f.toNat,by omega⟩;have T:a.f<(W:Int):=by omega
 have U:a.f.toNat=k:=by omega
 have e:k<W:=by omega
 have X:k+1<=W:=e;rw[A4]at z A3;have B:=s.N2;have p:(GY W o aH)[k]?=some (Ew (o k) (aH k)):=UU e;have A0: ∀h,(GY W o aH)[k]'h=Ew (o k) (aH k):= λh=>by rw[AP h]at p;simpa using p
 have AM:IntKind.i64.wrap (-1-(i:Int))= -1-(i:Int):=Ac (by omega) (by omega);have AN:=E B;have AO:=E x;by_cases d:o k=[]
 ·have C:Ew (o k) (aH k)= .slice none 0 0:=(by unfold Ew;rw[if_pos d]);rw[C]at p A0;have r:=Oh (W:=W) (o:=o) (aH:=aH) (k:=k) (b:=m.ac+16) (l:=o k++[(i:Int)]) (by simp);have D:(o k++[(i:Int)]).length=1:=(by rw[d];rfl);rw[D]at r;simp(disch:=first|omega|simp only[A9];omega)[ar,L,M,O,I,x,B,S,T,U,p,BG,BC,X,r,Cq];refine z _ _ (Ai aH k (m.ac+16)) (λt A5=>by simp(disch:=omega) only[D3]) (by simp only[Au,B1];omega) (λc F G w=>by simp(disch:=first|omega|(simp only[Au,B1];omega)) only[A6,Ab]) (s.app J e (by omega) K ?_ ?_ ?_) ?_
  ·simp(disch:=first|omega|(simp only[Au,B1];omega)) only[AR]
  ·simp(disch:=first|omega|(simp only[Au,B1];omega)) only[AR,A6];rw[d];rfl
  ·intro c F G _;simp(disch:=omega) only[A6,Ab]
  ·intro j H g;unfold Ai at g⊢;split
   ·omega
   ·rename_i h;rw[if_neg h]at g;exact y j H g
 ·have C:Ew (o k) (aH k)= .slice (some ⟨aH k,0,none⟩) (o k).length 1:=(by unfold Ew;rw[if_neg d]);rw[C]at p A0;have r:=Oh (W:=W) (o:=o) (aH:=aH) (k:=k) (b:=m.ac+16) (l:=o k++[(i:Int)]) (by simp);have D:(o k++[(i:Int)]).length=(o k).length+1:=(by simp);rw[D]at r;obtain⟨A1,AQ⟩:=s.Y k e d;have AT:=E A1;have A7:cP≠aH k:=(by omega);have AU:cz≠aH k:=(by omega);have A8:fP≠aH k:= λh=>y k e d h.symm;have AA:((o k).length+1)*8<=140737488355328:=(by omega);have AB:(o k).length+1<=9223372036854775807:=(by omega);have z3:((o k).map (Value.int .i64 ·)).take (o k).length=(o k).map (Value.int .i64 ·):=DP (by simp);simp(disch:=first|omega|simp only[A9];omega)[ar,L,M,O,I,x,B,S,T,U,p,BG,BC,X,r,Cq,bne_iff_ne,A1,A7,A8,AA,AB,z3];refine z _ _ (Ai aH k (m.ac+16)) (λt A5=>by simp(disch:=omega) only[D3]) (by simp only[Au,B1];omega) (λc F G w=>by have:=w k e d;simp(disch:=first|omega|(simp only[Au,B1];omega)) only[A6,Ab]) (s.app J e (by omega) K ?_ ?_ ?_) ?_
  ·simp(disch:=first|omega|(simp only[Au,B1];omega)) only[AR]
  ·simp(disch:=first|omega|(simp only[Au,B1];omega)) only[AR,A6];simp
  ·intro c F G w;have:=w d;simp(disch:=omega) only[A6,Ab]
  ·intro j H g;unfold Ai at g⊢;split
   ·omega
   ·rename_i h;rw[if_neg h]at g;exact y j H g
theorem a9j(AD:n.CE)(AE:n.AS=W){p:Nat}(AF:i<2500)(H:m.Y cP=some ⟨[Z n.AS,Z n.Ad,Z n.Aq,v,.slice (some ⟨bX,0,none⟩) N.length 1,.slice (some ⟨cz,0,none⟩) W 1],true⟩)
 (w:m.Y fP=some ⟨BC a,true⟩) (r:Fu o cz W p aH m) (I:cz<p) (AI:cP<p) (AJ:cP≠cz) (J:p<=m.ac) (A2:n.Ci a.t) (A3:(o a.t).length<=100000) (x: ∀k:Nat,k<W->o k≠[]->aH k≠fP) (AK:fP≠cz)
 (K:A 6=AG cP) (L:A 8=AG fP) (M:A 7=Z i)
 (y: ∀O u P,(∀t,t<51->O t=A t)->m.ac<=u.ac->(∀b,b<m.ac->b≠cz->(∀k:Nat,k<W->o k≠[]->b≠aH k)->u.Y b=m.Y b)->Fu (Ai o a.t (o a.t++[(-1-(i:Int))])) cz W p P u->(∀k:Nat,k<W->Ai o a.t (o a.t++[(-1-(i:Int))]) k≠[]->P k≠fP)->Q .CK O u):Az V Ze A m Q:=by
 obtain⟨R,AL⟩:=A2;obtain⟨k,A4⟩: ∃k:Nat,a.t=k:=⟨a.t.toNat,by omega⟩;have S:a.t<(W:Int):=by omega
 have T:a.t.toNat=k:=by omega
 have e:k<W:=by omega
 have U:k+1<=W:=e;rw[A4]at y A3;have z:=r.N2;have g:(GY W o aH)[k]?=some (Ew (o k) (aH k)):=UU e;have X: ∀h,(GY W o aH)[k]'h=Ew (o k) (aH k):= λh=>by rw[AP h]at g;simpa using g
 have A0:IntKind.i64.wrap (-1-(i:Int))= -1-(i:Int):=Ac (by omega) (by omega);have AM:=E z;have AN:=E w;by_cases d:o k=[]
 ·have B:Ew (o k) (aH k)= .slice none 0 0:=(by unfold Ew;rw[if_pos d]);rw[B]at g X;have q:=Oh (W:=W) (o:=o) (aH:=aH) (k:=k) (b:=m.ac+17) (l:=o k++[(-1-(i:Int))]) (by simp);have C:(o k++[(-1-(i:Int))]).length=1:=(by rw[d];rfl);rw[C]at q;simp(disch:=first|omega|simp only[A9];omega)[Ze,K,L,M,H,w,z,R,S,T,g,BG,BC,U,q,A0,Cq];refine y _ _ (Ai aH k (m.ac+17)) (λt A5=>by simp(disch:=omega) only[D3]) (by simp only[Au,B1];omega) (λc D F s=>by simp(disch:=first|omega|(simp only[Au,B1];omega)) only[A6,Ab]) (r.app I e (by omega) J ?_ ?_ ?_) ?_
  ·simp(disch:=first|omega|(simp only[Au,B1];omega)) only[AR]
  ·simp(disch:=first|omega|(simp only[Au,B1];omega)) only[AR,A6];rw[d];rfl
  ·intro c D F _;simp(disch:=omega) only[A6,Ab]
  ·intro j G f;unfold Ai at f⊢;split
   ·omega
   ·rename_i h;rw[if_neg h]at f;exact x j G f
 ·have B:Ew (o k) (aH k)= .slice (some ⟨aH k,0,none⟩) (o k).length 1:=(by unfold Ew;rw[if_neg d]);rw[B]at g X;have q:=Oh (W:=W) (o:=o) (aH:=aH) (k:=k) (b:=m.ac+17) (l:=o k++[(-1-(i:Int))]) (by simp);have C:(o k++[(-1-(i:Int))]).length=(o k).length+1:=(by simp);rw[C]at q;obtain⟨A1,AO⟩:=r.Y k e d;have AQ:=E A1;have A7:cP≠aH k:=(by omega);have AT:cz≠aH k:=(by omega);have A8:fP≠aH k:= λh=>x k e d h.symm;have AA:((o k).length+1)*8<=140737488355328:=(by omega);have AB:(o k).length+1<=9223372036854775807:=(by omega);have z3:((o k).map (Value.int .i64 ·)).take (o k).length=(o k).map (Value.int .i64 ·):=DP (by simp);simp(disch:=first|omega|simp only[A9];omega)[Ze,K,L,M,H,w,z,R,S,T,g,BG,BC,U,q,A0,Cq,bne_iff_ne,A1,A7,A8,AA,AB,z3];refine y _ _ (Ai aH k (m.ac+17)) (λt A5=>by simp(disch:=omega) only[D3]) (by simp only[Au,B1];omega) (λc D F s=>by have:=s k e d;simp(disch:=first|omega|(simp only[Au,B1];omega)) only[A6,Ab]) (r.app I e (by omega) J ?_ ?_ ?_) ?_
  ·simp(disch:=first|omega|(simp only[Au,B1];omega)) only[AR]
  ·simp(disch:=first|omega|(simp only[Au,B1];omega)) only[AR,A6];simp
  ·intro c D F s;have:=s d;simp(disch:=omega) only[A6,Ab]
  ·intro j G f;unfold Ai at f⊢;split
   ·omega
   ·rename_i h;rw[if_neg h]at f;exact x j G f
end Go.Proofs.YtmmkkggfmigppaaGreat
