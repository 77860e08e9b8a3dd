/- A part of the proof. -/
import Derived.Test.YtmmkkggfmigppaaGreatZdzac
set_option linter.all false
set_option maxRecDepth 20000
set_option maxHeartbeats 16000000
namespace Go.Proofs.YtmmkkggfmigppaaGreat
open Go Go.DI Go.Big
def EN(S:List Int)(a:List Int×List Int)(d:Int):List Int×List Int:=if 0<=d/\d∈S/\d∉a.2 then(a.1++[d],a.2++[d])else(a.1++[-1],a.2)
def Ey(a:Int×List Int)(d:Int):Int×List Int:=if a.1<0/\d∉a.2 then(d,a.2++[d])else a
def F2(S:List Int)(a:List Int×List Int)(x:Int):List Int×List Int:=(a.1++[(S.foldl Ey (x,a.2)).1],(S.foldl Ey (x,a.2)).2)
def EG(S a:List Int):List Int×List Int:=a.foldl (EN S) ([],[])
def F0(S a:List Int):List Int:=((EG S a).1.foldl (F2 S) ([],(EG S a).2)).1
variable{m:Type}{i:Nat}{S r:List Int}{L:List (List Int)}
theorem Vq{a:Type}{f:a->m->a}{l:List m}{b:a}{x:m}(h:l[i]?=some x):(l.take (i+1)).foldl f b=f ((l.take i).foldl f b) x:=by rw[N9,h,List.foldl_append];rfl
theorem O3{S:List Int}: ∀(l:List Int) (a:List Int×List Int),(l.foldl (EN S) a).1.length=a.1.length+l.length
 |[],a=>by simp
 | d::l,a=>by rw[GO,O3 l,DZ];unfold EN;split<;>simp<;>omega
theorem kY{S:List Int}: ∀(l:List Int) (a:List Int×List Int),(l.foldl (F2 S) a).1.length=a.1.length+l.length
 |[],a=>by simp
 | d::l,a=>by rw[GO,kY l,DZ];simp only[F2,En,DZ,KC];omega
theorem PN{a b:List m}{x y:m}(h:a.length=i):(a++x::b).set i y=a++y::b:=by subst h;rw[List.set_append_right _ _ (Aj _),Nat.sub_self,List.set_cons_zero]
theorem a6P{a b:List m}{x:m}(h:a.length=i):(a++x::b)[i]?=some x:=by subst h;rw[Ib (Aj _),Nat.sub_self];rfl
theorem a3v{a:List Int}(Aj:S.length<=1000)(Ak:a.length<=1000):Bh V 204 [AK a,AK S] Cl λv t=>v=AM 2 a.length 1/\t.Y 2=some ⟨(F0 S a).map Z,true⟩:=by
 refine Ax (aC:=⟨[db],[]⟩) ZU.2 ?_;have AT:(0:Int)<=a.length:=by omega
 have AU:(a.length:Int)*8<=140737488355328:=by omega
 have AV:(a.length:Int)<=9223372036854775807:=by omega
 simp(disch:=first|omega|simp only[A9];omega)[ZU,pe,AT,AU,AV];refine Cc (aC:=⟨[db],[]⟩) (λi k t=>t.Y 2=some ⟨(((a.take i).foldl (EN S) ([],[])).1++List.replicate (a.length-i) 0).map Z,true⟩/\t.Bs 4=some (HE ((a.take i).foldl (EN S) ([],[])).2)/\k 1=AK S/\k 5=AM 2 a.length 1/\k 6= .map (some 4)/\k 16=AK a/\k 17=Z a.length/\k 18=Z i) a.length ?_ ?_ 0 _ _ (C8 _) ⟨by simp(disch:=first|omega|simp only[A9];omega)[-H,-D,-I,-F,-List.map_map],by simp(disch:=first|omega|simp only[A9];omega)[HE,-H,-D,-I,-F,-List.map_map],by simp,by simp,by simp,by simp,by simp,by simp⟩
 ·rintro i k t AL ⟨g,l,p,m,q,L,A,T⟩ AN B;obtain⟨d,A1⟩:=Cb AL;have A5:=(Ae.1 A1).2;have M:(i:Int)<a.length:=(by omega);have U:=BZ (n:=i) (by omega);have O:=Vq (f:=EN S) (b:=([],[])) A1;obtain⟨bT,W⟩: ∃bT,(a.take i).foldl (EN S) ([],[])=bT:=⟨_,rfl⟩;have A6:bT.1.length=i:=(by rw[<-W,O3];simp;omega);rw[W]at O g l;have A2:ET (.int .i64) (Z d) (HE bT.2)=true:=ql;have AW:=E (DO l).1;have AB:=E g;obtain⟨o,G⟩: ∃o,bT.1++List.replicate (a.length-i) 0=o:=⟨_,rfl⟩;have A7:o.length=a.length:=(by rw[<-G];simp;omega);have AO:i<o.length:=(by omega);have AX:List.replicate (a.length-i) (0:Int)=0::List.replicate (a.length-(i+1)) 0:=by
   rw[show a.length-i=(a.length-(i+1))+1 by omega,QY]
  have X: ∀y:Int,(o.map Z).set i (Z y)=(bT.1++y::List.replicate (a.length-(i+1)) 0).map Z:= λy=>by rw[<-Nx,<-G,AX,PN A6]
  have Al: ∀y z:Int,((bT.1++y::List.replicate (a.length-(i+1)) 0).map Z).set i (Z z)=(bT.1++z::List.replicate (a.length-(i+1)) 0).map Z:= λy z=>by rw[<-Nx,PN A6]
  have Am: ∀y:Int,(bT.1++y::List.replicate (a.length-(i+1)) 0).length=a.length:= λy=>by simp;omega
  rw[G]at g;by_cases c:0<=d/\d∈S/\d∉bT.2
  ·obtain⟨s,w,A3⟩:=c;have P:Cy (Z d) (HE bT.2)=none:=(by rw[Wq,if_neg A3]);have r:(a.take (i+1)).foldl (EN S) ([],[])=(bT.1++[d],bT.2++[d]):=(by rw[O];exact if_pos ⟨s,w,A3⟩);simp(disch:=first|omega|simp only[A9];omega)[TV,QN,PR,p,m,q,L,A,T,M,A5,g,A7,l,P,A2,s,w,U,X,-Cy,-Dy,-ET,-H,-D,-I,-F,-List.map_map];have AY:((bT.1.map Z)++Z (-1)::List.replicate (a.length-(i+1)) (Z 0)).set i (Z d)=(bT.1.map Z)++Z d::List.replicate (a.length-(i+1)) (Z 0):=PN (by simpa using A6);have An:2<t.ac:=AB
   have AD:=kr A3;refine⟨by omega,by omega,B _ _ ⟨?_,?_,by simp[p],by simp[m],by simp[q],by simp[L],by simp[A],by simp⟩⟩
   ·rw[r];simp(disch:=omega)[AY]
   ·rw[r,<-AD];simp(disch:=first|omega|simp only[A9];omega)[-Cy,-Dy,-ET,-H,-D,-I,-F,-List.map_map]
  ·have r:(a.take (i+1)).foldl (EN S) ([],[])=(bT.1++[-1],bT.2):=(by rw[O];exact if_neg c);by_cases s:0<=d
   ·by_cases w:d∈S
    ·have A3:d∈bT.2:=by
      by_cases x:d∈bT.2
      ·exact x
      ·exact absurd ⟨s,w,x⟩ c
     have P:Cy (Z d) (HE bT.2)=some (.bool true):=(by rw[Wq,if_pos A3]);simp(disch:=first|omega|simp only[A9];omega)[TV,QN,PR,p,m,q,L,A,T,M,A5,g,A7,l,P,A2,s,w,U,X,-Cy,-Dy,-ET,-H,-D,-I,-F,-List.map_map];repeat refine And.intro (by omega) ?_
     refine B _ _ ⟨?_,?_,by simp[p],by simp[m],by simp[q],by simp[L],by simp[A],by simp⟩
     ·rw[r];simp(disch:=omega)
     ·rw[r];simp(disch:=first|omega|simp only[A9];omega)[l,-Cy,-Dy,-ET,-H,-D,-I,-F,-List.map_map]
    ·simp(disch:=first|omega|simp only[A9];omega)[TV,QN,PR,p,m,L,A,T,M,A5,g,A7,s,w,U,X,-Cy,-Dy,-ET,-H,-D,-I,-F,-List.map_map];repeat refine And.intro (by omega) ?_
     refine B _ _ ⟨?_,?_,by simp[p],by simp[m],by simp[q],by simp[L],by simp[A],by simp⟩
     ·rw[r];simp(disch:=omega)
     ·rw[r];simp(disch:=first|omega|simp only[A9];omega)[l,-Cy,-Dy,-ET,-H,-D,-I,-F,-List.map_map]
   ·simp(disch:=first|omega|simp only[A9];omega)[TV,QN,PR,m,L,A,T,M,A5,g,A7,s,U,X,-Cy,-Dy,-ET,-H,-D,-I,-F,-List.map_map];repeat refine And.intro (by omega) ?_
    refine B _ _ ⟨?_,?_,by simp[p],by simp[m],by simp[q],by simp[L],by simp[A],by simp⟩
    ·rw[r];simp(disch:=first|omega|simp only[A9];omega)[-H,-D,-I,-F,-List.map_map]
    ·rw[r];simp(disch:=first|omega|simp only[A9];omega)[l,-Cy,-Dy,-ET,-H,-D,-I,-F,-List.map_map]
 ·rintro k t ⟨g,l,p,m,q,L,A,T⟩;rw[FJ]at g l;obtain⟨bT,W⟩: ∃bT,a.foldl (EN S) ([],[])=bT:=⟨_,rfl⟩;have A6:bT.1.length=a.length:=(by rw[<-W,O3];simp);have AZ:F0 S a=(bT.1.foldl (F2 S) ([],bT.2)).1:=(by unfold F0 EG;rw[W]);rw[W]at g l;have Aa:t.Y 2=some ⟨bT.1.map Z,true⟩:=(by simpa using g);have AB:=E g;simp(disch:=first|omega|simp only[A9];omega)[TV,QN,QN,m,A,T,-H,-D,-I,-F,-List.map_map];refine Cc (aC:=⟨[],[]⟩) (λi k t=>t.Y 2=some ⟨(((bT.1.take i).foldl (F2 S) ([],bT.2)).1++bT.1.drop i).map Z,true⟩/\t.Bs 4=some (HE ((bT.1.take i).foldl (F2 S) ([],bT.2)).2)/\k 1=AK S/\k 5=AM 2 a.length 1/\k 6= .map (some 4)/\k 47=Z a.length/\k 48=Z i) a.length ?_ ?_ 0 _ _ (C8 _) ⟨by simpa using Aa,by simpa using l,by simp[p],by simp[m],by simp[q],by simp,by simp⟩
  ·rintro i k t AL ⟨g,l,p,m,q,J,K⟩ AN B;obtain⟨x,A1⟩: ∃x,bT.1[i]?=some x:=⟨_,AP (by omega)⟩;have O:=Vq (f:=F2 S) (b:=([],bT.2)) A1;obtain⟨u,AQ⟩: ∃u,(bT.1.take i).foldl (F2 S) ([],bT.2)=u:=⟨_,rfl⟩;have AR:u.1.length=i:=(by rw[<-AQ,kY];simp;omega);have Ab:bT.1.drop i=x::bT.1.drop (i+1):=(by rw[Ht (by omega),(Ae.1 A1).2]);rw[AQ]at O g l;rw[Ab]at g;have M:(i:Int)<a.length:=(by omega);have U:=BZ (n:=i) (by omega);simp(disch:=first|omega|simp only[A9];omega)[fx,PR,p,J,K,M,-H,-D,-I,-F,-List.map_map];refine Cc (aC:=⟨[],[]⟩) (λj k t=>t.Y 2=some ⟨(u.1++((S.take j).foldl Ey (x,u.2)).1::bT.1.drop (i+1)).map Z,true⟩/\t.Bs 4=some (HE ((S.take j).foldl Ey (x,u.2)).2)/\k 1=AK S/\k 5=AM 2 a.length 1/\k 6= .map (some 4)/\k 9=Z i/\k 47=Z a.length/\k 48=Z i/\k 51=AK S/\k 52=Z S.length/\k 53=Z j) S.length ?_ ?_ 0 _ _ (C8 _) ⟨g,l,by simp[p],by simp[m],by simp[q],by simp,by simp[J],by simp[K],by simp[],by simp,by simp⟩
   ·rintro j k t Ac ⟨g,l,p,m,q,Q,J,K,R,N,A4⟩ AN B;obtain⟨d,AS⟩:=Cb Ac;have AE:=(Ae.1 AS).2;have A8:=Vq (f:=Ey) (b:=(x,u.2)) AS;obtain⟨C,Af⟩: ∃C,(S.take j).foldl Ey (x,u.2)=C:=⟨_,rfl⟩;rw[Af]at A8 g l;have AF:(j:Int)<S.length:=(by omega);have v0:=BZ (n:=j) (by omega);have A2:ET (.int .i64) (Z d) (HE C.2)=true:=ql;have AW:=E (DO l).1;have AB:=E g;obtain⟨o,G⟩: ∃o,u.1++C.1::bT.1.drop (i+1)=o:=⟨_,rfl⟩;have Ag:o[i]?=some C.1:=(by rw[<-G];exact a6P AR);obtain⟨cs,A0⟩: ∃cs,o.map Z=cs:=⟨_,rfl⟩;have Ah:cs[i]?=some (Z C.1):=(by rw[<-A0,GX,Ag];rfl);have AI: ∀h,cs[i]'h=Z C.1:= λh=>(Ae.1 Ah).2;have Ap:cs.length=a.length:=(by rw[<-A0,<-G];simp;omega);have AO:i<cs.length:=(by omega);have AJ:i+1<=cs.length:=AO;have X:cs.set i (Z d)=(u.1++d::bT.1.drop (i+1)).map Z:=(by rw[<-A0,<-Nx,<-G,PN AR]);rw[G,A0]at g;by_cases s:C.1<0
    ·by_cases w:d∈C.2
     ·have P:Cy (Z d) (HE C.2)=some (.bool true):=(by rw[Wq,if_pos w]);have r:(S.take (j+1)).foldl Ey (x,u.2)=C:=(by rw[A8];exact if_neg λh=>h.2 w);simp(disch:=first|omega|simp only[A9];omega)[UC,m,q,Q,R,N,A4,AF,M,AE,g,AI,AJ,BG,l,A2,v0,-Cy,-Dy,-ET,s,P,-H,-D,-I,-F,-List.map_map];repeat refine And.intro (by omega) ?_
      exact B _ _ ⟨by rw[r,G,A0];exact g,by rw[r];exact l,by simp[p],by simp[m],by simp[q],by simp[Q],by simp[J],by simp[K],by simp[R],by simp[N],by simp⟩
     ·have P:Cy (Z d) (HE C.2)=none:=(by rw[Wq,if_neg w]);have r:(S.take (j+1)).foldl Ey (x,u.2)=(d,C.2++[d]):=(by rw[A8];exact if_pos ⟨s,w⟩);have AD:=kr w;simp(disch:=first|omega|simp only[A9];omega)[UC,m,q,Q,R,N,A4,AF,M,AE,g,AI,AJ,BG,l,A2,v0,-Cy,-Dy,-ET,s,P,-H,-D,-I,-F,-List.map_map];repeat refine And.intro (by omega) ?_
      refine B _ _ ⟨?_,?_,by simp[p],by simp[m],by simp[q],by simp[Q],by simp[J],by simp[K],by simp[R],by simp[N],by simp⟩
      ·rw[r];simp(disch:=first|omega|simp only[A9];omega)[X,-Cy,-Dy,-ET,-H,-D,-I,-F,-List.map_map]
      ·rw[r,<-AD];simp(disch:=first|omega|simp only[A9];omega)[-Cy,-Dy,-ET,-H,-D,-I,-F,-List.map_map]
    ·have r:(S.take (j+1)).foldl Ey (x,u.2)=C:=(by rw[A8];exact if_neg λh=>s h.1);simp(disch:=first|omega|simp only[A9];omega)[UC,m,Q,R,N,A4,AF,M,AE,g,AI,AJ,BG,v0,-Cy,-Dy,-ET,s,-H,-D,-I,-F,-List.map_map];repeat refine And.intro (by omega) ?_
     exact B _ _ ⟨by rw[r,G,A0];exact g,by rw[r];exact l,by simp[p],by simp[m],by simp[q],by simp[Q],by simp[J],by simp[K],by simp[R],by simp[N],by simp⟩
   ·rintro k t ⟨g,l,p,m,q,Q,J,K,R,N,A4⟩;rw[FJ]at g l;simp[UC,K,N,A4,U];exact B _ _ ⟨by rw[O];simpa[F2]using g,by rw[O];exact l,by simp[p],by simp[m],by simp[q],by simp[J],by simp⟩
  ·rintro k t ⟨g,l,p,m,q,J,K⟩;have e:bT.1.take a.length=bT.1:=DP (by omega);have Ai:bT.1.drop a.length=[]:=Jw (by omega);rw[e,Ai,Pf,<-AZ]at g;simp[fx,PR,PR,m,J,K];exact g
theorem aa{a:List Int}:(F0 S a).length=a.length:=by unfold F0 EG;rw[kY,O3];simp
theorem a8Q{c:List Int}(d:S.length<=1000)(e:c.length<=1000):AO V 204 [AK c,AK S] (AK (F0 S c)):=
 Sq (n:=c.length) (by rw[E9,aa]) K7 (by rw[Jd];exact(a3v d e).AD λv t ⟨a,b⟩=>⟨2,a,b⟩)
noncomputable abbrev uz:AN V:= .B9 204 (List Int×List Int) (λx=>x.2.length<=1000/\x.1.length<=1000) (λx=>[AK x.1,AK x.2]) (λx=>AK (F0 x.2 x.1)) λ_ h=>a8Q h.1 h.2
@[simp] theorem aGp{a:List Int}(b:S.length<=1000)(c:a.length<=1000):uz.fn [O (a.map λx=>[Z x]) 1,O (S.map λx=>[Z x]) 1]=some (AK (F0 S a)):=AN.BH (x:=(a,S)) ⟨b,c⟩ λ⟨e,f⟩ d=>by simpa using d
def IB(L:List (List Int)):Nat:=(L.map List.length).sum
theorem te(h:L[i]?=some r):IB (L.take (i+1))=IB (L.take i)+r.length:=by unfold IB;rw[N9,h];simp
theorem zb(h: ∀r∈L,r.length<=1000):IB L<=L.length*1000:=by
 induction L with
 |nil=>simp[IB]
 | cons r l a=>have:=a λx b=>h x (by simp[b]);have:=h r (by simp);simp only[IB,Dl,List.sum_cons,DZ]at*;omega
theorem a9b(e:CP L):AO V 157 [Bf L] (Z (IB L)):=by
 refine BQ (Ax (aC:=⟨[],[]⟩) Z8.2 ?_);have j:=e.1;simp(disch:=omega)[Z8,pI];refine Cc (aC:=⟨[],[]⟩) (λi a t=>a 3=Z (IB (L.take i))/\a 6=Bf L/\a 7=Z L.length/\a 8=Z i) L.length ?_ ?_ 0 _ _ (C8 _) ⟨by simp[IB],by simp,by simp,by simp⟩
 ·rintro i a t k ⟨c,f,d,g⟩ s l;obtain⟨r,b⟩:=Cb k;have m:=(Ae.1 b).2;have u:=e.2 r (B5 b);have o:(i:Int)<L.length:=(by omega);have p:=BZ (n:=i) (by omega);have hb:=zb (L:=L.take i) λx b=>e.2 x (MY b);have v:(L.take i).length<=1000:=E8 (by rw[IG];omega) j;have q:IntKind.i64.wrap ((IB (L.take i):Int)+r.length)=(IB (L.take i):Int)+r.length:=Ac (by omega) (by omega);simp(disch:=first|omega|simp only[A9];omega)[gy,ZT,c,f,d,g,o,m,Bz,p,q,-H,-D,-I,-F,-List.map_map];exact l _ _ ⟨by rw[te b];simp,by simp[f],by simp[d],by simp⟩
 ·rintro a t ⟨c,f,d,g⟩;rw[FJ]at c;simp[gy,ZT,ZT,c,d,g]
noncomputable abbrev xr:AN V:= .B9 157 (List (List Int)) CP (λL=>[Bf L]) (λL=>Z (IB L)) λ_ h=>a9b h
@[simp] theorem aH1(h:CP L):xr.fn [O (L.map Bz) 1]=some (Z (IB L)):=AN.BH (x:=L) h λy a=>by simpa using a
open Go Go.DI Go.Big Go.EL
def LW(u:AL)(S:List (List Int))(x:Ah×Int):List (List Int):=if 0<=HR u.A3.length u.A5.length x.1.t/\0<x.2 then
 S.set (IL u.A3.length u.A5.length x.1.f).toNat (S.getD (IL u.A3.length u.A5.length x.1.f).toNat []++[HR u.A3.length u.A5.length x.1.t])else S
def EA(u:AL)(bT:List Ah)(N:List Int)(i:Nat):List (List Int):=((bT.zip N).take i).foldl (LW u) (List.replicate u.A3.length [])
variable{u:AL}{N R:List Int}{a:Ah}{aM x c:Int}{bT:List Ah}{v n d:Nat}{f:Nat->Int}
theorem a7M{S:List (List Int)}{x:Ah×Int}:(LW u S x).length=S.length:=by unfold LW;split<;>simp
theorem tw(b:bT[i]?=some a)(c:N[i]?=some aM):EA u bT N (i+1)=LW u (EA u bT N i) (a,aM):=by unfold EA;exact Vq (by rw[List.getElem?_zip_eq_some];exact⟨b,c⟩)
theorem kb: ∀i,(EA u bT N i).length=u.A3.length:= λi=>by
 unfold EA;generalize(bT.zip N).take i=l;have: ∀(l:List (Ah×Int)) (S:List (List Int)),(l.foldl (LW u) S).length=S.length:=by
  intro l;induction l with
  |nil=>intro S;rfl
  |cons x l a=>intro S;rw[GO,a,a7M]
 rw[this];simp
theorem Pu{u:AL}{bT:List Ah}{N:List Int}: ∀(i:Nat),∀r∈EA u bT N i,r.length<=i
 |0,r,h=>by simp[EA]at h;rw[h.2];simp
 | i+1,r,h=>by
   by_cases c:i<(bT.zip N).length
   ·obtain⟨⟨a,aM⟩,b⟩: ∃x,(bT.zip N)[i]?=some x:=⟨_,AP c⟩;rw[List.getElem?_zip_eq_some]at b;rw[tw b.1 b.2]at h;unfold LW at h;split at h
    ·rcases Ml h with h|rfl
     ·exact Nat.le_succ_of_le (Pu i r h)
     ·rw[En,E1];cases d:(EA u bT N i)[(IL u.A3.length u.A5.length a.f).toNat]? with
      |none=>simp
      |some s=>have:=Pu i s (B5 d);simp;omega
    ·exact Nat.le_succ_of_le (Pu i r h)
   ·have e:EA u bT N (i+1)=EA u bT N i:=by
     unfold EA;rw[DP (by omega),DP (by omega)]
    rw[e]at h;exact Nat.le_succ_of_le (Pu i r h)
theorem a1w{u:AL}(h:B4 u){R:List Int}{L:List (List Int)}{N:List Int}(BS:N.length=(As u R L).length){ft bc jJ lM:Nat}{Q:BM->A2->X->Prop}{c:A2}{t0:X}{s:List Nat}
 (g:E4 t0 bc s (List.replicate u.A3.length [])) (AN:ft≠bc/\jJ≠bc/\lM≠bc) (z:ft∉s/\jJ∉s/\lM∉s) (K:t0.Y ft=some ⟨[Z u.A3.length,Z u.A5.length],true⟩) (M:t0.Y jJ=some ⟨BI (As u R L),true⟩) (W:t0.Y lM=some ⟨N.map Z,true⟩)
 (O:c 10=AM lM N.length 1) (A:c 13=AG ft) (B:c 14=AM bc u.A3.length 1) (C:c 56=AM jJ (As u R L).length 4) (w:c 57=Z (As u R L).length) (P:c 58=Z 0)
 (Ar: ∀o y AX,E4 y bc AX (EA u (As u R L) N (As u R L).length)->t0.ac<=y.ac->(∀b,b<t0.ac->b≠bc->b∉s->y.Y b=t0.Y b)->(∀p∈AX,p∈s\/t0.ac<=p)->o 1=c 1->o 6=c 6->o 12=c 12->o 14=c 14->Q (.Ao 0) o y):Bc V (.loop Rr) c t0 Q:=by
 have At:=B;have BT:=h.ok.Cg;have BU:=h.ok.Es;have BV:=h.ok.EF;have BW:=h.ok.D6;have BY:(As u R L).length=(Ak u R).length:=by simp[As]
 have Ba:=Oa h.ok (R:=R);refine Cc (aC:=⟨[gf,kM],[]⟩) (λi l t=>(∃ps,E4 t bc ps (EA u (As u R L) N i)/\(∀p∈ps,p∈s\/t0.ac<=p))/\t0.ac<=t.ac/\(∀b,b<t0.ac->b≠bc->b∉s->t.Y b=t0.Y b)/\l 1=c 1/\l 6=c 6/\l 12=c 12/\l 10=AM lM N.length 1/\l 13=AG ft/\l 14=AM bc u.A3.length 1/\l 56=AM jJ (As u R L).length 4/\l 57=Z (As u R L).length/\l 58=Z i) (As u R L).length ?_ ?_ 0 c t0 (C8 _) ⟨⟨s,by simpa[EA]using g,λp z=> .inl z⟩,Aj _,λb _ _ _=>rfl,rfl,rfl,rfl,O,A,B,C,w,P⟩
 ·rintro i l t Au ⟨⟨ps,g,G⟩,AO,T,A8,A9,AA,O,A,B,C,w,P⟩ Av AY;have Aw:=E K;have Ax:=E M;have Ay:=E W;have K:=(T ft Aw AN.1 z.1).trans K;have M:=(T jJ Ax AN.2.1 z.2.1).trans M;have W:=(T lM Ay AN.2.2 z.2.2).trans W;have Az:ft∉ps:= λm=>(G _ m).elim z.1 λq=>by omega
  have B0:jJ∉ps:= λm=>(G _ m).elim z.2.1 λq=>by omega
  have B1:lM∉ps:= λm=>(G _ m).elim z.2.2 λq=>by omega
  obtain⟨a,AQ⟩: ∃a,(As u R L)[i]?=some a:=⟨_,AP Au⟩;have AR:=Il AQ;have AS:i*4+4<=(As u R L).length*4:=(by omega);have AZ:i<N.length:=(by omega);obtain⟨aM,Aa⟩:=Cb AZ;have Ac: ∀h,N[i]'h=aM:= λh=>(Ae.1 Aa).2;have AD:=tw (u:=u) AQ Aa;have B2:=kb (u:=u) (bT:=As u R L) (N:=N) i;have Af:=Pu (u:=u) (bT:=As u R L) (N:=N) i;generalize EA u (As u R L) N i=S at g AD B2 Af;obtain⟨⟨Bd,Be,Bf,Bg⟩,m⟩:(0<=a.f/\a.f<=506/\0<=a.t/\a.t<=506)/\((∃v d:Nat,v<u.A3.length/\d<u.A4.length/\HR u.A3.length u.A5.length a.t=d/\IL u.A3.length u.A5.length a.f=v/\2<=u.A5.length)\/HR u.A3.length u.A5.length a.t= -1):=by
   have U:=AQ;unfold As at U;rw[GX]at U;cases hb:(Ak u R)[i]? with
   |none=>rw[hb]at U;simp at U
   | some b=>rw[hb]at U;simp only[Option.map_some,Fx]at U;subst U;obtain⟨J,AF,_,_⟩:=P8 (u:=u) (L:=L) (a:=b);rw[J,AF];obtain⟨B3,B6⟩:=Ps h.ok (B5 hb);refine⟨B3,B6.imp ?_ id⟩;rintro⟨v,d,AT,Ag,_,_,Ah,Ai,B7⟩;exact⟨v,d,AT,Ag,Ah,Ai,B7⟩
  have Bh:MM (u.A3.length,u.A5.length,a.t):=⟨by omega,by simp only;omega,by simp only;omega,by simp only;omega,by simp only;omega,by simp only;omega⟩;have Bi:MM (u.A3.length,u.A5.length,a.f):=⟨by omega,by simp only;omega,by simp only;omega,by simp only;omega,by simp only;omega,by simp only;omega⟩;have AU:(i:Int)<(As u R L).length:=(by omega);have Al:(i:Int)<N.length:=(by omega);have Am:i+1<=N.length:=AZ;have AV:=BZ (n:=i) (by omega);have Bj:=E K;have Bk:=E M;have Bl:=E W;have skip:EA u (As u R L) N (i+1)=S-> ∀(o:A2) (y:X),t.ac<=y.ac->(∀b,b<t.ac->y.Y b=t.Y b)->(∀j∈[1,6,12,10,13,14,56,57],o j=l j)->o 58=Z (i+1:Nat)->Av o y:= λe o y B8 k es B9=>
   AY _ _ ⟨⟨ps,by rw[e];exact g.Un k,G⟩,E8 AO B8,λb hb AW AI=>(k b (by omega)).trans (T b hb AW AI),(es 1 (by simp)).trans A8,(es 6 (by simp)).trans A9,(es 12 (by simp)).trans AA,(es 10 (by simp)).trans O,(es 13 (by simp)).trans A,(es 14 (by simp)).trans B,(es 56 (by simp)).trans C,(es 57 (by simp)).trans w,B9⟩
  have An: ∀x b,b<t.ac->((t.AE 6).A1 (t.ac+3) x).Y b=t.Y b:= λx b hb=>by rw[A6 (by omega),Ab hb]
  rcases m with⟨v,d,AT,Ag,J,AF,Bm⟩|J
  ·have Bn:2<=(u.A5.length:Int)\/a.f<2+u.A3.length:= .inl (by omega);have Bo: ¬(d:Int)<0:=(by omega);by_cases AJ:0<aM
   ·have A0:EA u (As u R L) N (i+1)=S.set v (S.getD v []++[(d:Int)]):=by
     rw[AD];unfold LW;simp only[J,AF];rw[if_pos ⟨by omega,AJ⟩];rfl
    have BA:v<S.length:=(by omega);obtain⟨r,AK⟩:=Cb BA;have BB:S.getD v []=r:=(by simp[AK]);rw[BB]at A0;obtain⟨p,BD,A7,Ap,BE,BF⟩:=g.HF AK;have Bp:=Af r (B5 AK);have Aq:=g.Dk;have Bq:=E Aq;have Br:=E Ap;have BH:(v:Int)<u.A3.length:=(by omega);have Bs:v+1<=u.A3.length:=AT;have BJ:(r.length+1)*8<=140737488355328/\r.length<=9223372036854775806:=(by omega);have BK: ¬p=ft:= λe=>Az (e▸A7);have BL: ¬p=bc:= λe=>g.F7 (e▸A7);have Bt: ¬ft=p:= λe=>BK e.symm;have Bu: ¬bc=p:= λe=>BL e.symm;have BN:List.take r.length (r.map Z)=r.map Z:=DP (by simp);simp(disch:=first|omega|simp only[DI.AB];omega)[Rr,O,A,B,C,w,P,K,M,W,AU,Al,Am,AV,AR,AS,BC,J,AF,AJ,Ac,BG,BH,Aq,Ap,BE,BF,BJ,BN,-H,-D,-I,-F,-List.map_map];have Ah: ¬jJ=p:= λe=>B0 (e▸A7);have Ai: ¬lM=p:= λe=>B1 (e▸A7);have BO: ∀{b:Nat},b∈ps.set v (t.ac+6+14)->b∈ps\/b=t.ac+6+14:= λm=>Ml m
    refine AY _ _ ⟨⟨ps.set v (t.ac+6+14),?_,λq BQ=>(BO BQ).elim (λh=>G q h) λe=> .inr (by omega)⟩,by simp;omega,λb hb AW AI=> ?_,by simp[A8],by simp[A9],by simp[AA],by simp[O],by simp[A],by simp[B],by simp[C],by simp[w],by simp⟩
    ·rw[A0];refine g.mo AK BD ⟨by omega,λm=>by have:=g.K9 m;omega⟩ ?_ ?_ λb hb Bv=> ?_
     ·simp(disch:=first|omega|simp only[DI.AB];omega)[-H,-D,-I,-F,-List.map_map]
     ·rw[Gs];simp(disch:=first|omega|simp only[DI.AB];omega)[-H,-D,-I,-F,-List.map_map]
     ·have Bw:=g.K9 hb;have BR: ¬b=bc:= λe=>g.F7 (e▸hb);simp(disch:=first|omega|simp only[DI.AB];omega)[-H,-D,-I,-F,-List.map_map]
    ·have Bx:b<t.ac:=by omega
     have BR: ¬b=p:= λe=>(G p A7).elim (λq=>AI (e▸q)) λq=>by omega
     refine Eq.trans ?_ (T b hb AW AI);simp(disch:=first|omega|simp only[DI.AB];omega)[-H,-D,-I,-F,-List.map_map]
   ·have A0:EA u (As u R L) N (i+1)=S:=by
     rw[AD];unfold LW;simp only;rw[if_neg λq=>AJ q.2]
    simp(disch:=first|omega|simp only[DI.AB];omega)[Rr,O,A,C,w,P,K,M,W,AU,Al,Am,AV,AR,AS,BC,J,AJ,Ac,BG,-H,-D,-I,-F,-List.map_map];refine skip A0 _ _ (by simp) (An _) (by simp) (by simp)
  ·have A0:EA u (As u R L) N (i+1)=S:=by
    rw[AD];unfold LW;simp only[J];rw[if_neg λq=>by omega]
   simp(disch:=first|omega|simp only[DI.AB];omega)[Rr,A,C,w,P,K,M,AU,AV,AR,AS,BC,J,-H,-D,-I,-F,-List.map_map];refine skip A0 _ _ (by simp) (An _) (by simp) (by simp)
 ·rintro l t ⟨⟨ps,g,G⟩,AO,T,A8,A9,AA,O,A,B,C,w,P⟩;simp(disch:=first|omega|simp only[DI.AB];omega)[Rr,w,P,-H,-D,-I,-F,-List.map_map];exact Ar _ _ ps g AO T G (by simp[A8]) (by simp[A9]) (by simp[AA]) (by simp[B,At])
theorem ZF: ∀{S:List Int} {x:Int} {a:List Int},0<=x->S.foldl Ey (x,a)=(x,a)
 |[],_,_,_=>rfl
 | d::S,x,a,h=>by rw[GO,show Ey (x,a) d=(x,a)from if_neg λq=>by have:=q.1;simp only at this;omega];exact ZF h
theorem jf: ∀{S:List Int} {x:Int} {aY:List Int},(∀d∈S,0<=d)->x<0->(∃d∈S,d∉aY)-> ∃d∈S,d∉aY/\S.foldl Ey (x,aY)=(d,aY++[d])
 |[],_,_,_,_,h=>by obtain⟨d,h,_⟩:=h;simp at h
 | e::S,x,aY,f,g,h=>by
   by_cases c:e∈aY
   ·obtain⟨d,a,i⟩:=h;have b:d∈S:=by
     rcases CZ.1 a with rfl|a
     ·exact absurd c i
     ·exact a
    obtain⟨j,k,l,m⟩:=jf (S:=S) (x:=x) (aY:=aY) (λd b=>f d (by simp[b])) g ⟨d,b,i⟩;refine⟨j,by simp[k],l,?_⟩;rw[GO,show Ey (x,aY) e=(x,aY)from if_neg λq=>q.2 c];exact m
   ·refine⟨e,by simp,c,?_⟩;rw[GO,show Ey (x,aY) e=(e,aY++[e])from if_pos ⟨g,c⟩];exact ZF (f e (by simp))
theorem tz: ∀{S a:List Int},S.Nodup->a.length<S.length-> ∃d∈S,d∉a:= λ{S a} b f=>by apply MR;intro h;have c: ∀d∈S,d∈a:= λd e=>MR λq=>h ⟨d,e,q⟩;have:=List.Nodup.length_le_of_subset b c;omega
theorem WB{S:List Int}: ∀(f:List Int) (a:List Int×List Int),a.2.Nodup->(∀x∈a.2,x∈S/\0<=x)->(a.1.filter λx=>decide (0<=x))=a.2->(∀x∈a.1,x= -1\/0<=x)->
 (f.foldl (EN S) a).2.Nodup/\(∀x∈(f.foldl (EN S) a).2,x∈S/\0<=x)/\((f.foldl (EN S) a).1.filter λx=>decide (0<=x))=(f.foldl (EN S) a).2/\ ∀x∈(f.foldl (EN S) a).1,x= -1\/0<=x
 |[],a,g,h,i,j=>⟨g,h,i,j⟩
 | d::f,a,g,h,i,j=>by
   rw[GO];by_cases c:0<=d/\d∈S/\d∉a.2
   ·rw[show EN S a d=(a.1++[d],a.2++[d])from if_pos c];refine WB f _ ?_ ?_ ?_ ?_
    ·simp only[LD,g,true_and];exact⟨by simp,λx b y k e=>by simp at k;subst k;subst e;exact c.2.2 b⟩
    ·intro x b;simp only[D2,IA]at b;rcases b with b|rfl
     ·exact h x b
     ·exact⟨c.2.1,c.1⟩
    ·simp only[S7,i];simp[c.1]
    ·intro x b;simp only[D2,IA]at b;rcases b with b|rfl
     ·exact j x b
     ·exact .inr c.1
   ·rw[show EN S a d=(a.1++[-1],a.2)from if_neg c];refine WB f _ g h ?_ ?_
    ·simp only[S7,i];simp
    ·intro x b;simp only[D2,IA]at b;rcases b with b|rfl
     ·exact j x b
     ·exact .inl rfl
theorem gw{S:List Int}(k: ∀d∈S,0<=d)(l:S.Nodup): ∀(b:List Int) (a:List Int×List Int),a.2.Nodup->(∀x∈a.2,x∈S)->(a.1++b.filter λx=>decide (0<=x)).Perm a.2->(∀x∈b,x= -1\/0<=x)->a.1.length+b.length<=S.length->
 (b.foldl (F2 S) a).1.Perm (b.foldl (F2 S) a).2/\(b.foldl (F2 S) a).2.Nodup/\ ∀x∈(b.foldl (F2 S) a).2,x∈S
 |[],a,g,h,f,m,i=>⟨by simpa using f,g,h⟩
 | x::b,a,g,h,f,m,i=>by
   rw[GO];have o: ∀y∈b,y= -1\/0<=y:= λy c=>m y (by simp[c]);rcases m x (by simp)with rfl|j
   ·have p:a.2.length<S.length:=by
     have n:=f.length_eq;have u:=VY (λx=>decide ((0:Int)<=x)) b;simp only[En,List.filter_cons,DZ]at n i;rw[show decide ((0:Int)<= -1)=false from rfl]at n;simp at n;omega
    obtain⟨d,q,r,s⟩:=jf k (by omega:(-1:Int)<0) (tz l p);rw[show F2 S a (-1)=(a.1++[d],a.2++[d]) by simp only[F2,s]];refine gw k l b _ ?_ ?_ ?_ o (by simp at i⊢;omega)
    ·simp only[LD,g,true_and];exact⟨by simp,λx j y c e=>by simp at c;subst c;subst e;exact r j⟩
    ·intro y c;simp only[D2,IA]at c;rcases c with c|rfl
     ·exact h y c
     ·exact q
    ·have t:(a.1++b.filter λx=>decide (0<=x)).Perm a.2:=(by simpa using f);have:=(List.perm_append_comm (l₁:=[d]) (l₂:=b.filter λx=>decide (0<=x))).append_left a.1;simp only[Nk]at this⊢;refine this.trans ?_;rw[<-Nk];exact t.append_right [d]
   ·rw[show F2 S a x=(a.1++[x],a.2) by simp only[F2,ZF j]];refine gw k l b _ g h ?_ o (by simp at i⊢;omega);have:(List.filter (λx=>decide (0<=x)) (x::b))=x::b.filter (λx=>decide (0<=x)):=(by simp[j]);rw[this]at f;simpa using f
theorem a5Q{a:List Int}(h: ∀d∈S,0<=d)(c:S.Nodup)(i:a.length=S.length):(F0 S a).Perm S:=by
 obtain⟨j,k,a3,a4⟩:=WB (S:=S) a ([],[]) List.nodup_nil (by simp) rfl (by simp);have o:(EG S a).1.length=a.length:=by unfold EG;rw[O3];simp
 obtain⟨e,l,m⟩:=gw h c (EG S a).1 ([],(EG S a).2) j (λx b=>(k x b).1) (by simp only[MC];exact .of_eq a3) a4 (by simp;omega);have f:(F0 S a).Nodup:=e.nodup_iff.2 l;have g: ∀x∈F0 S a,x∈S:= λx b=>m x (e.mem_iff.1 b);refine(List.perm_ext_iff_of_nodup f c).2 λd=>⟨g d,λn=>MR λq=> ?_⟩;have:=List.Nodup.length_le_of_subset (l₁:=d::F0 S a) (l₂:=S) (J9.2 ⟨q,f⟩) λx b=>by
  rcases CZ.1 b with rfl|b
  ·exact n
  ·exact g x b
 rw[DZ,aa,i]at this;omega
def Fo(u:AL)(i j:Nat):Bool:=decide (HZ u (Dh u i) 5 j=i)
structure Oj(u:AL)(R:List Int)(L:List (List Int)):Prop where
 len:L.length=u.A3.length
 Ds: ∀(v:Nat) r,L[v]?=some r->(r.length:Int)=CD u v
 Cg: ∀(v:Nat) r,L[v]?=some r->r.Nodup
 LG: ∀(v:Nat) r,L[v]?=some r-> ∀x∈r,∃d:Nat,x=d/\d<u.A4.length/\Fk u v d=true
 aLW: ∀(v:Nat) r,L[v]?=some r-> ∀i,0<i->i<u.A5.length->((r.countP λx=>Fo u i (CI u x.toNat):Nat):Int)<=IF u v i
 EO: ∀d,d<u.A4.length->((L.flatten.count (d:Int):Nat):Int)<=CN u R d
theorem Vf:Fo u i i=true:=by unfold Fo HZ;rw[if_neg (by omega)];simp
theorem Td(h:BS u){j:Nat}(d:j<u.A5.length)(g:0<j)(l:j≠i):Fo u i j=Fo u i (D1 u j):=by
 obtain⟨a,b,c⟩:=h.Hn d (h.I5 d g);have o:=h.rP d;unfold Fo;by_cases f:Dh u j>Dh u i
 ·have e:HZ u (Dh u i) 5 j=HZ u (Dh u i) 4 (D1 u j):=(by rw[HZ,if_pos f]);by_cases m:0<=Dh u i
  ·rw[e,qp h m (k:=4) (fv:=5) (by omega) (by omega) (by omega)]
  ·exfalso;have:Dh u i=0\/i<u.A5.length:=by
    by_cases q:i<u.A5.length
    ·exact .inr q
    ·left;unfold Dh;rw[L1 (by omega)]
   rcases this with q|q
   ·omega
   ·have:=h.rP q;omega
 ·have e:HZ u (Dh u i) 5 j=j:=(by rw[HZ,if_neg f]);have n:HZ u (Dh u i) 5 (D1 u j)=D1 u j:=(by rw[HZ,if_neg (by omega)]);rw[e,n,Hk l,Hk λq=>by rw[q]at b;omega]
theorem iu(h:BS u)(d:i<u.A5.length)(e:0<i):Fo u i (D1 u i)=false:=by
 obtain⟨a,b,c⟩:=h.Hn d (h.I5 d e);unfold Fo;have f:HZ u (Dh u i) 5 (D1 u i)=D1 u i:=by rw[HZ,if_neg (by omega)]
 rw[f];exact Hk λq=>by omega
theorem eZ(h:BS u)(a:i<u.A5.length)(b:0<i):Fo u i 0=false:=by
 have:=h.I5 a b;have:=h.Ly.1;unfold Fo;have c:HZ u (Dh u i) 5 0=0:=by rw[HZ,if_neg (by omega)]
 rw[c];exact Hk λq=>by omega
theorem Qs(h:BS u)(b:a∈Ak u R)(c:AI u 0<=a.t): ∃v d,v<u.A3.length/\d<u.A4.length/\Fk u v d=true/\a=D8 u v d:=by
 rcases(Ps h b).2 with⟨v,d,f,g,i,j,_⟩|e
 ·exact⟨v,d,f,g,i,j⟩
 ·obtain⟨v,d,k,l,rfl⟩:=ec h b c;have:HR u.A3.length u.A5.length (AI u d)= -1:=e;rw[bL]at this;omega
theorem FX(d:Nat):AI u d=AI u 0+d:=by unfold AI;omega
theorem Sw(h:BS u):(Ak u R).Pairwise λa b=> ¬(AI u 0<=a.t/\a.f=b.f/\a.t=b.t):=by
 have D:=I6 h;have low: ∀{w:Nat},w<u.A3.length-> ∀{a:Ah},a∈Gv u w->AI u 0<=a.t-> ∃d,d<u.A4.length/\a=D8 u w d:= λ{w} c {a} g m=>by
  rcases MB.1 g with rfl|⟨j,p,rfl⟩|⟨d,k,_,rfl⟩
  ·have:=E7 h c (i:=0) h.D6;simp only[Ap,if_true]at this;have m:AI u 0<=2+(w:Int):=m;omega
  ·have:=E7 h c (i:=j+1) (by omega);have m:AI u 0<=Ap u w (j+1):=m;omega
  ·exact⟨d,k,rfl⟩
 unfold Ak;refine Vr.2 ⟨?_,?_,?_⟩
 ·refine List.pairwise_flatMap.2 ⟨λw c=> ?_,?_⟩
  ·have c:=G3.1 c;unfold Gv;refine List.pairwise_cons.2 ⟨λb _ q=> ?_,Vr.2 ⟨?_,?_,?_⟩⟩
   ·obtain⟨d,k,e⟩:=low c (a:=FR u w) (MB.2 (.inl rfl)) q.1;have:(FR u w).f=(D8 u w d).f:=(by rw[e]);have:=(E7 h c (Gq h k).1).1;have E:(0:Int)=Ap u w (CI u d):=(by assumption);omega
   ·refine List.pairwise_map.2 ((List.pairwise_lt_range (n:=u.A5.length-1)).imp_of_mem λ{a b} g hb r q=> ?_);have g:=G3.1 g;have:=E7 h c (i:=a+1) (by omega);have l:AI u 0<=Ap u w (a+1):=q.1;omega
   ·refine List.pairwise_map.2 ((List.pairwise_lt_range (n:=u.A4.length)).filter _|>.imp λ{a b} r q=> ?_);have s:AI u a=AI u b:=q.2.2;rw[FX a,FX b]at s;omega
   ·intro a g b hb q;obtain⟨j,p,rfl⟩:=CG.1 g;have p:=G3.1 p;have:=E7 h c (i:=j+1) (by omega);have l:AI u 0<=Ap u w (j+1):=q.1;omega
  ·refine(List.pairwise_lt_range (n:=u.A3.length)).imp_of_mem λ{v w} o c F x z y A q=> ?_;have o:=G3.1 o;have c:=G3.1 c;obtain⟨d,k,rfl⟩:=low o z q.1;obtain⟨e,B,rfl⟩:=low c A (by rw[<-q.2.2];exact q.1);have C:Ap u v (CI u d)=Ap u w (CI u e):=q.2.1;have:=(KN h o c (Gq h k).1 (Gq h B).1 C).1;omega
 ·refine List.pairwise_map.2 ((List.pairwise_lt_range (n:=u.A4.length)).imp λ{a b} _ q=> ?_);have l:AI u 0<=1:=q.1;omega
 ·intro a g b hb q;obtain⟨d,k,rfl⟩:=CG.1 hb;have l:=q.1;rw[q.2.2]at l;have l:AI u 0<=1:=l;omega
theorem Ql{u:AL}(h:BS u){R:List Int}{v:Nat}: ∀{xs:List Ah} {fs:List Int},(∀a∈xs,a∈Ak u R)->xs.Pairwise (λa b=> ¬(AI u 0<=a.t/\a.f=b.f/\a.t=b.t))->(DC u v xs fs).Nodup
 |[],_,_,_=>by simp[DC]
 |_::_,[],_,_=>by simp[DC]
 | a::xs,aM::fs,j,m=>by
   have n:=Ql h (v:=v) (xs:=xs) (fs:=fs) (λb hb=>j b (by simp[hb])) (List.pairwise_cons.1 m).2;simp only[DC];split
   ·next c=>refine J9.2 ⟨λo=> ?_,n⟩;obtain⟨i,b,C,p,D,q,E,r,F⟩:=PI o;have hb:=B5 p;obtain⟨w,d,G,s,_,k⟩:=Qs h (j a (by simp)) c.1;obtain⟨x,l,H,y,_,e⟩:=Qs h (j b (by simp[hb])) q;have z:w=v:=(by rw[<-c.2.2,k,PF h s]);have A:x=v:=(by rw[<-r,e,PF h y]);have g:a.t=b.t:=(by omega);have B:d=l:=(by rw[k,e]at g;have g:AI u d=AI u l:=g;rw[FX d,FX l]at g;omega);subst B;rw[A,<-z,<-k]at e;subst e;exact(List.pairwise_cons.1 m).1 _ hb ⟨c.1,rfl,rfl⟩
   ·simpa using n
theorem bf{u:AL}{v:Nat}{p:Int->Bool}: ∀{xs:List Ah} {fs:List Int},(((DC u v xs fs).countP p:Nat):Int)=CR (λa aM=>if AI u 0<=a.t/\aM≠0/\Kd u a=v/\p (a.t-AI u 0)=true then 1 else 0) xs fs
 |[],_=>by simp[DC,CR]
 |_::_,[]=>by simp[DC,CR]
 | a::xs,aM::fs=>by
   simp only[DC,CR,List.countP_append,N5,bf (xs:=xs) (fs:=fs)];congr 1;by_cases c:AI u 0<=a.t/\aM≠0/\Kd u a=v
   ·rw[if_pos c];by_cases b:p (a.t-AI u 0)=true
    ·rw[if_pos ⟨c.1,c.2.1,c.2.2,b⟩];simp[b]
    ·rw[if_neg λq=>b q.2.2.2];simp[b]
   ·rw[if_neg c,if_neg λq=>c ⟨q.1,q.2.1,q.2.2.1⟩];rfl
def Ig(u:AL)(v i:Nat)(x:Int):Bool:=(List.range u.A5.length).any λj=>Fo u i j&&decide (x=Ap u v j)
theorem iW:Ig u v i x=true↔ ∃j,j<u.A5.length/\Fo u i j=true/\x=Ap u v j:=by unfold Ig;simp[List.any_eq_true]
theorem YQ{u:AL}(h:BS u){v w i j:Nat}(f:v<u.A3.length)(g:w<u.A3.length)(d:j<u.A5.length):Ig u v i (Ap u w j)=(decide (w=v)&&Fo u i j):=by
 cases a:Ig u v i (Ap u w j)with
 | true=>obtain⟨k,l,b,e⟩:=iW.1 a;obtain⟨m,n⟩:=KN h g f d l e;subst n;rw[decide_eq_true m,b];rfl
 | false=>
   symm;rw[Bool.and_eq_false_iff];by_cases c:w=v
   ·right;subst c;cases b:Fo u i j with
    |false=>rfl
    |true=>rw[iW.2 ⟨j,d,b,rfl⟩]at a;cases a
   ·exact .inl (Hk c)
theorem SM{u:AL}(h:BS u){v i:Nat}(a:v<u.A3.length){x:Int}(d:x<2\/AI u 0<=x):Ig u v i x=false:=by
 cases b:Ig u v i x with
 |false=>rfl
 | true=>obtain⟨j,c,_,e⟩:=iW.1 b;have:=E7 h a c;omega
theorem a9g(h:BS u)(b:v<u.A3.length)(p:i<u.A5.length)(A:0<i)(B:a∈Ak u R)(H:0<=aM)(C:aM<=a.c):
 ((if Ig u v i a.f=true then aM else 0)-(if Ig u v i a.t=true then aM else 0))=(if AI u 0<=a.t/\aM≠0/\Kd u a=v/\Fo u i (CI u (a.t-AI u 0).toNat)=true then 1 else 0)-(if decide (a.t=Ap u v i)=true then aM else 0):=by
 have r:=h.D6;have I:=I6 h;have J:=E7 h b p;rcases P2.1 B with⟨w,e,s⟩|⟨d,x,rfl⟩
 ·rcases MB.1 s with rfl|⟨j,K,rfl⟩|⟨d,x,_,rfl⟩
  ·have L:=E7 h e (i:=0) r;have y:Ap u w 0=2+(w:Int):=(by simp[Ap]);have l:Ig u v i 0=false:=SM h b (.inl (by omega));have m:Ig u v i (2+w)=false:=(by rw[<-y,YQ h b e r,eZ h p A];simp);have n: ¬AI u 0<=2+(w:Int):=(by omega);have g: ¬2+(w:Int)=Ap u v i:= λq=>by
    rw[<-y]at q;have:=(KN h e b r p q).2;omega
   simp only[FR,l,m,n,g,false_and,if_false,E3,decide_false]
  ·have k:j+1<u.A5.length:=(by omega);have M:=(h.Hn k (h.I5 k (by omega))).1;have D:D1 u (j+1)<u.A5.length:=(by omega);have N:=E7 h e k;have l:=YQ h (i:=i) b e D;have m:=YQ h (i:=i) b e k;have n: ¬AI u 0<=Ap u w (j+1):=(by omega);simp only[I3,l,m,n,false_and,if_false];by_cases c:w=v
   ·subst c;by_cases o:j+1=i
    ·subst o;rw[iu h k (by omega),Vf];simp
    ·have g: ¬Ap u w (j+1)=Ap u w i:= λq=>o (KN h e e k p q).2;rw[Td h k (by omega) o];simp only[g,decide_false];simp
   ·have g: ¬Ap u w (j+1)=Ap u v i:= λq=>c (KN h e b k p q).1;simp[c,g]
  ·have s:=(Gq h x).1;have l:=YQ h (i:=i) b e s;have E:=FX (u:=u) d;have m:Ig u v i (AI u d)=false:=SM h b (.inr (by omega));have n:AI u 0<=AI u d:=(by omega);have g: ¬AI u d=Ap u v i:=(by omega);have F:=PF h (v:=w) x;have G:(AI u d-AI u 0).toNat=d:=(by omega);rw[F];have O:aM<=1:=C;simp only[D8,l,m,n,g,G,true_and,decide_false,E3,if_false];by_cases c:w=v
   ·simp only[c,decide_true,Bool.true_and,true_and];by_cases o:Fo u i (CI u d)=true
    ·simp only[o,if_true,and_true];by_cases z:aM=0
     ·simp[z]
     ·simp[z];omega
    ·simp[o]
   ·simp[c]
 ·have E:=FX (u:=u) d;have l:Ig u v i (AI u d)=false:=SM h b (.inr (by omega));have m:Ig u v i 1=false:=SM h b (.inl (by omega));have n: ¬AI u 0<=1:=(by omega);have g: ¬(1:Int)=Ap u v i:=(by omega);simp[HX,l,m,n,g]
theorem TZ{g:Ah->Int}{f:Nat->Ah}: ∀n:Nat,FP g ((List.range n).map f)=BO (λj=>g (f j)) n
 |0=>rfl
 | n+1=>by rw[MV,Gs,N1,TZ n];simp[BO,FP]
theorem NN{k:Nat}(a:k<n)(h: ∀j,j<n->f j=if j=k then c else 0):BO f n=c:=by rw[Gw h,Oq a]
theorem Gm(h: ∀j,j<n->f j=0):BO f n=0:=by rw[Gw (g:= λ_=>0) h,RM]
theorem a2b(h:BS u)(e:v<u.A3.length)(f:i<u.A5.length)(z:0<i):FP (λa=>if decide (a.t=Ap u v i)=true then a.c else 0) (Ak u R)=IF u v i:=by
 have o:=h.D6;have A:=I6 h;have B:=E7 h e f;unfold Ak;rw[N1,Tg,TZ,Gm (n:=u.A4.length) λd p=> ?_,NN e (c:=IF u v i) λw g=> ?_]
 ·omega
 ·unfold Gv;simp only[FP,N1];have r:Ap u w 0=2+(w:Int):=(by simp[Ap]);have b: ¬2+(w:Int)=Ap u v i:= λq=>by
   rw[<-r]at q;have:=(KN h g e o f q).2;omega
  have s:FP (λa=>if decide (a.t=Ap u v i)=true then a.c else 0) (((List.range u.A4.length).filter (Fk u w)).map (D8 u w))=0:=W8 λa x=>by obtain⟨d,p,rfl⟩:=CG.1 x;have C:=FX (u:=u) d;have b: ¬AI u d=Ap u v i:=(by omega);simp[D8,b]
  rw[s,TZ];by_cases c:w=v
  ·subst c;rw[NN (k:=i-1) (c:=IF u w i) (by omega) λj y=> ?_]
   ·simp[FR,b]
   ·by_cases m:j=i-1
    ·have:j+1=i:=(by omega);simp[I3,m,show i-1+1=i by omega]
    ·have l: ¬Ap u w (j+1)=Ap u w i:= λq=>by
      have:=(KN h g g (by omega) f q).2;omega
     simp[I3,m,l]
  ·rw[Gm λj y=> ?_]
   ·simp[FR,b,c]
   ·have l: ¬Ap u w (j+1)=Ap u v i:= λq=>c (KN h g e (by omega) f q).1;simp[I3,l]
 ·have b: ¬(1:Int)=Ap u v i:=(by omega);simp[HX,b]
theorem zJ(h:BS u)(e:DT (D0 u R) N)(c:v<u.A3.length)(k:i<u.A5.length)(l:0<i):
 (((DC u v (Ak u R) N).countP λx=>Fo u i (CI u x.toNat):Nat):Int)<=IF u v i:=by
 have m:=R7 h R;have n:=I6 h;have d:=mO m e (s:=Ig u v i) (SM h c (.inl (by show(0:Int)<2;omega))) (SM h c (.inl (by show(1:Int)<2;omega)));rw[gp]at d;have d:CR (λa aM=>(if Ig u v i a.f=true then aM else 0)-(if Ig u v i a.t=true then aM else 0)) (Ak u R) N=0:=d;rw[R2 (h:= λa aM=>(if AI u 0<=a.t/\aM≠0/\Kd u a=v/\Fo u i (CI u (a.t-AI u 0).toNat)=true then 1 else 0)-(if decide (a.t=Ap u v i)=true then aM else 0)) λj a aM b g=>by have:=e.Da.2 j a aM b g;exact a9g h c k l (B5 b) this.1 this.2,al]at d;have:=bq (p:= λa=>decide (a.t=Ap u v i)) (xs:=Ak u R) (fs:=N) (λa b=>(m.Gu a b).2.2.1) λi a aM b g=>(e.Da.2 i a aM b g).2;rw[a2b h c k l]at this;rw[bf];omega
theorem a3E(h:BS u)(l:d<u.A4.length):FP (λa=>if decide (a.f=AI u d)=true then a.c else 0) (Ak u R)=CN u R d:=by
 have o:=h.D6;have p:=I6 h;have r:=FX (u:=u) d;unfold Ak;rw[N1,Tg,TZ,Gm (n:=u.A3.length) λw b=>W8 λa m=> ?_,NN l (c:=CN u R d) λe g=> ?_]
 ·omega
 ·have s:=FX (u:=u) e;by_cases c:e=d
  ·subst c;simp[HX]
  ·have: ¬AI u e=AI u d:=(by omega);simp[HX,c,this]
 ·have: ¬a.f=AI u d:= λq=>by
   rcases MB.1 m with rfl|⟨j,t,rfl⟩|⟨e,g,_,rfl⟩
   ·have q:(0:Int)=AI u d:=q;omega
   ·have k:j+1<u.A5.length:=(by omega);have v:=(h.Hn k (h.I5 k (by omega))).1;have:=(E7 h b (i:=D1 u (j+1)) (by omega)).2;have q:Ap u w (D1 u (j+1))=AI u d:=q;omega
   ·have:=(E7 h b (Gq h g).1).2;have q:Ap u w (CI u e)=AI u d:=q;omega
  simp[this]
theorem rO: ∀{L:List (List Int)},((L.flatten.count x:Nat):Int)=BO (λv=>(((L.getD v []).count x:Nat):Int)) L.length:= λ{L}=>by
 have key: ∀n,n<=L.length->(((L.take n).flatten.count x:Nat):Int)=BO (λv=>(((L.getD v []).count x:Nat):Int)) n:=by
  intro n;induction n with
  |zero=>intro _;simp[BO]
  | succ n b=>intro c;have a:L[n]?=some L[n]:=AP (by omega);rw[N9,a];simp only[Option.toList_some,List.flatten_append,List.count_append,N5,b (by omega),BO];congr 1;simp[a]
 have:=key L.length (Aj _)
 rwa [FJ]at this
theorem z9(h:BS u)(j:DT (D0 u R) N)(o:d<u.A4.length):
 BO (λv=>(((DC u v (Ak u R) N).count (d:Int):Nat):Int)) u.A3.length<=CN u R d:=by
 have r:=R7 h R;have D:=I6 h;have E:=FX (u:=u) d;have F:=FX (u:=u) u.A4.length;have s:(D0 u R).Ci (AI u d):=⟨by omega,by show AI u d<AI u u.A4.length;omega⟩;have g:=j.RV (AI u d) s (by show¬AI u d=0;omega) (by show¬AI u d=1;omega);have g:Cx (Ak u R) N (AI u d)=0:=g;rw[UE]at g;have g:CR (λa aM=>Bd a.f (AI u d) aM) (Ak u R) N-CR (λa aM=>Bd a.t (AI u d) aM) (Ak u R) N=0:=by rw[<-al];exact g
 have n:=bq (p:= λa=>decide (a.f=AI u d)) (xs:=Ak u R) (fs:=N) (λa b=>(r.Gu a b).2.2.1) λi a aM b k=>(j.Da.2 i a aM b k).2;rw[a3E h o]at n;have x:CR (λa aM=>Bd a.f (AI u d) aM) (Ak u R) N=CR (λa aM=>if decide (a.f=AI u d)=true then aM else 0) (Ak u R) N:=R2 λi a aM _ _=>by simp[Bd]
 have G:BO (λv=>(((DC u v (Ak u R) N).count (d:Int):Nat):Int)) u.A3.length=CR (λa aM=>Bd a.t (AI u d) aM) (Ak u R) N:=by
  have y: ∀v,(((DC u v (Ak u R) N).count (d:Int):Nat):Int)=CR (λa aM=>if AI u 0<=a.t/\aM≠0/\Kd u a=v/\(a.t-AI u 0==(d:Int))=true then 1 else 0) (Ak u R) N:= λv=>bf;simp only[y];rw[bJ];refine R2 λi a aM b k=> ?_;have hb:=j.Da.2 i a aM b k;by_cases c:AI u 0<=a.t
  ·obtain⟨w,e,z,A,_,rfl⟩:=Qs h (B5 b) c;have H:=FX (u:=u) e;have B:AI u 0<=AI u e:=c;have I:aM<=1:=hb.2;by_cases C:e=d
   ·subst C;have q:(AI u e-AI u 0==(e:Int))=true:=(by simp;omega);have:Bd (D8 u w e).t (AI u e) aM=aM:=(by simp[Bd,D8]);rw[this];by_cases l:aM=0
    ·rw[Gm λv _=>by simp[l],l]
    ·rw[NN z (c:=1) λv J=> ?_]
     ·omega
     ·rw[PF h A];show(if AI u 0<=AI u e/\aM≠0/\w=v/\(AI u e-AI u 0==(e:Int))=true then(1:Int)else 0)=_;simp only[B,l,q,true_and,and_true,ne_eq,not_false_eq_true];by_cases m:v=w
      ·simp[m]
      ·rw[if_neg λq=>m q.symm,if_neg m]
   ·have:Bd (D8 u w e).t (AI u d) aM=0:=if_neg (by show¬AI u e=AI u d;omega);rw[this,Gm λv _=>if_neg λq=> ?_];have:=q.2.2.2;simp only[D8,beq_iff_eq]at this;omega
  ·have:Bd a.t (AI u d) aM=0:=if_neg (by omega);rw[this,Gm λv _=>if_neg λq=>c q.1]
 have K:CR (λa aM=>Bd a.f (AI u d) aM) (Ak u R) N<=CN u R d:=by rw[x];exact n
 omega
theorem a7r(h:BS u)(e:DT (D0 u R) N)(p:Dr u<=value (D0 u R) N)(l:L.length=u.A3.length)
 (c: ∀(v:Nat) r,L[v]?=some r->r.Perm (DC u v (Ak u R) N)):Oj u R L:=by
 have q:=Rv (f:=NQ u R N) (g:=CD u) (n:=u.A3.length) (λv m=>VR h e m) (by rw[<-QA,<-Uu h];exact p);have k: ∀{v:Nat} {r:List Int},L[v]?=some r->v<u.A3.length:= λ{v r} b=>by have:=(Ae.1 b).1;omega
 refine⟨l,λv r b=> ?_,λv r b=> ?_,λv r b x s=> ?_,λv r b i t y=> ?_,λd j=> ?_⟩
 ·rw[(c v r b).length_eq,Ws h e (k b),q v (k b)]
 ·exact(c v r b).nodup_iff.2 (Ql h (λa z=>z) (Sw h))
 ·obtain⟨i,a,aM,A,E,B,F,o,C⟩:=PI ((c v r b).mem_iff.1 s);obtain⟨w,d,G,j,D,rfl⟩:=Qs h (B5 A) B;rw[PF h j]at o;subst o;refine⟨d,?_,j,D⟩;rw[C];show AI u d-AI u 0=d;unfold AI;omega
 ·rw[(c v r b).countP_eq];exact zJ h e (k b) y t
 ·rw[rO,l];refine NW (Int.le_of_eq (Gw λv m=> ?_)) (z9 h e j);obtain⟨r,b⟩: ∃r,L[v]?=some r:=⟨_,AP (by omega)⟩;rw[E1,b,Jb,(c v r b).count_eq]
theorem iV{u:AL}(h:BS u){R:List Int}{L:List (List Int)}: ∀{xs:List Ah} {fs:List Int} {S:List (List Int)},(∀a∈xs,a∈Ak u R)->(∀aM∈fs,0<=aM)->((xs.map (H7 u L)).zip fs).foldl (LW u) S=Gz u xs fs S
 |[],_,_,_,_=>by simp[Gz]
 |_::_,[],_,_,_=>by simp[Gz]
 | a::xs,aM::fs,S,g,j=>by
   have x:=j aM (by simp);obtain⟨k,l,_,_⟩:=P8 (u:=u) (L:=L) (a:=a);simp only[Dl,List.zip_cons_cons,GO,Gz];rw[iV h (λb hb=>g b (by simp[hb])) λm n=>j m (by simp[n])];congr 1;simp only[LW,k,l];rcases(Ps h (g a (by simp))).2 with⟨v,d,y,o,_,rfl,e,p,_⟩|e
   ·have z:=FX (u:=u) d;have r:=(WD h (v:=v) o).1;have s:(D8 u v d).t-AI u 0=d:=(by show AI u d-AI u 0=d;omega);have w:((D8 u v d).f-2-u.A3.length).tdiv ((u.A5.length:Int)-1)=v:=r;have i:AI u 0<=(D8 u v d).t:=(by show AI u 0<=AI u d;omega);rw[e,p,s,w];by_cases c:aM=0
    ·rw[if_neg λq=>by omega,if_neg λq=>q.2 c]
    ·rw[if_pos ⟨by omega,by omega⟩,if_pos ⟨i,c⟩]
   ·have i: ¬AI u 0<=a.t:= λq=>by
     obtain⟨v,d,_,_,_,rfl⟩:=Qs h (g a (by simp)) q;have:HR u.A3.length u.A5.length (AI u d)= -1:=e;rw[bL]at this;omega
    rw[e,if_neg λq=>by omega,if_neg λq=>i q.1]
def Du(S L:List (List Int)):List (List Int):=List.zipWith (λs r=>F0 s r) S L
theorem WN{u:AL}(h:BS u){R N:List Int}{L:List (List Int)}(k:Cs u L=true)(j:DT (D0 u R) N)(p:Dr u<=value (D0 u R) N):Oj u R (Du (EA u (As u R L) N (As u R L).length) L)/\
 ∀v,v<u.A3.length->(EA u (As u R L) N (As u R L).length)[v]?=some (DC u v (Ak u R) N):=by
 have x:L.length=u.A3.length:=by
  by_cases q:L.length=u.A3.length
  ·exact q
  ·rw[RQ q]at k;cases k
 have m:EA u (As u R L) N (As u R L).length=Gz u (Ak u R) N (List.replicate u.A3.length []):=by unfold EA;rw[DP (by rw[List.length_zip];omega)];refine iV h (λa o=>o) λaM y=> ?_;obtain⟨i,z,e⟩:=E5 y;have A:i<(Ak u R).length:=(by have:=j.Da.1;simp only[D0]at this;omega);exact(j.Da.2 i _ aM (AP A) (by rw[AP z,e])).1
 have t: ∀v,v<u.A3.length->(Gz u (Ak u R) N (List.replicate u.A3.length []))[v]?=some (DC u v (Ak u R) N):= λv b=>by rw[cD (r:=[]) (by simp[b])];simp
 refine⟨a7r h j p ?_ λv r c=> ?_,λv b=>by rw[m,t v b]⟩
 ·rw[Du,List.length_zipWith,m,v7];simp[x]
 ·rw[Du,Tn,m]at c;have b:v<u.A3.length:=by
   by_cases q:v<u.A3.length
   ·exact q
   ·rw[L1 (l:=L) (by omega)]at c;simp at c
  rw[t v b]at c;obtain⟨s,w⟩: ∃s,L[v]?=some s:=⟨_,AP (by omega)⟩;rw[w]at c;simp only[Fx]at c;subst c;have B:=Rv (f:=NQ u R N) (g:=CD u) (n:=u.A3.length) (λv b=>VR h j b) (by rw[<-QA,<-Uu h];exact p);refine a5Q (λd C=> ?_) (Ql h (λa o=>o) (Sw h)) ?_
  ·obtain⟨i,a,aM,D,E,F,G,H,I⟩:=PI C;omega
  ·have hb:GQ u v s=true:=by
    cases q:GQ u v s with
    |true=>rfl
    |false=>rw[OE w q]at k;cases k
   simp only[GQ,AF,BW]at hb;have:=Ws h j b;rw[B v b]at this;omega
end Go.Proofs.YtmmkkggfmigppaaGreat
