/- A part of the proof. -/
import Derived.ProofKit
import Derived.ShutString
import Derived.Below
import Derived.Carry
import Derived.Test.YtmmkkggfmigppaaGreatZczah
set_option linter.all false
set_option maxRecDepth 8000
set_option maxHeartbeats 16000000
namespace Go.Proofs.YtmmkkggfmigppaaGreat
open Go Go.DI Go.Big Go.Ex
variable{L Fin:List (List Int)}{P aF:List (Int×Int)}{Q:BM->A6->V->Prop}{B:A6}{eR:Int}{eT ej nK v b n o:Nat}{fE r R:List Int}{A S:List Cn}{t0 t:V}{u:AY}{w:Bool}
theorem a6Z(h: ∀r∈L,r.length<=8):(Oc L).length<=8*L.length:=by
 have key: ∀n,n<=L.length->((List.range n).flatMap λv=>(List.range (L.getD v []).length).map λi:Nat=>(((v:Nat):Int),((i:Nat):Int))).length<=8*n:= λn=>by
  induction n with
  |zero=>intro _;simp
  | succ n b=>intro c;have a:L[n]?=some (L[n]'(by omega)):=AS (by omega);have d:=h _ (B9 a);have e:L.getD n []=L[n]'(by omega):=(by rw[Dv,a];rfl);have:=b (by omega);rw[MO,List.flatMap_append,Ds];simp only[List.flatMap_cons,List.flatMap_nil,NP,Eb,List.length_range,e];omega
 exact key _ (Ao _)
theorem aC6:Qt P aF<=P.length:=List.countP_le_length
theorem a0m{s:List Int}(R:L[v]?=some r)(u:Fin[v]?=some s)(AR:r.length=s.length)(AS:r.length<=8)(AV:v<=12)(A7:eT≠ej)(g:t0.W ej=some ⟨[Ag Fin,Y eR,AH fE],true⟩)
 {w:V} (A8:Hf L Fin v 0 A) (A9:t0.next<=w.next) (AB: ∀b,b<t0.next->b≠eT->w.W b=t0.W b) (AD:w.W nK=some ⟨CL A,true⟩) (AE:nK=eT\/t0.next<=nK)
 (z:B 8=AA ej) (h:B 11=AQ nK A.length 4) (C:B 12=Y v) (D:B 49=AH r) (f:B 50=Y r.length) (j:B 51=Y 0)
 (AF: ∀K J T o,Hf L Fin v r.length T->t0.next<=J.next->(∀b,b<t0.next->b≠eT->J.W b=t0.W b)->J.W o=some ⟨CL T,true⟩->(o=eT\/t0.next<=o)->K 11=AQ o T.length 4->(∀k∈[0,1,2,3,6,8,42,43,44],K k=B k)->Q (.Ai 2) K J):BY U (.loop XR) B w Q:=by
 have AG:=F g;refine CE (an:=⟨[],[]⟩) (λi l t=> ∃T o,Hf L Fin v i T/\t0.next<=t.next/\(∀b,b<t0.next->b≠eT->t.W b=t0.W b)/\t.W o=some ⟨CL T,true⟩/\(o=eT\/t0.next<=o)/\l 11=AQ o T.length 4/\(∀k∈[0,1,2,3,6,8,12,42,43,44,49,50],l k=B k)/\l 51=Y i) r.length ?_ ?_ 0 _ _ (C0 _) ⟨A,nK,A8,A9,AB,AD,AE,h,λ_ _=>rfl,j⟩
 ·rintro i l t AJ ⟨T,o,m,M,a,p,q,h,d,j⟩ AY S;have z:=(d 8 (by simp)).trans z;have C:=(d 12 (by simp)).trans C;have D:=(d 49 (by simp)).trans D;have f:=(d 50 (by simp)).trans f;have N:=(a ej AG (Ne.symm A7)).trans g;have AZ:=F N;have Aa:=F p;obtain⟨x,O⟩:=CF AJ;have X:=(AX.1 O).2;have AK:i<s.length:=(by omega);obtain⟨y,P⟩:=CF AK;have Z:=(AX.1 P).2;have Ab:=(AX.1 u).1;have A0:=(AX.1 u).2;have A1:(v:Int)<Fin.length:=(by omega);have A4:(i:Int)<r.length:=(by omega);have A5:(i:Int)<s.length:=(by omega);have A6:=BX (n:=i) (by omega);have Ac:o≠ej:=(by rcases q with e|e<;>omega);have Ad:=m.len;have AL:=Qn (T:=T);have AM:List.take (T.length*4) (CL T)=CL T:=DV (by omega);have AN:((T.length+1)*32<=140737488355328/\T.length<=9223372036854775806)/\T.length*4<=(CL T).length:=(by omega);by_cases c:y=x
  ·simp(disch:=first|omega|simp only[DI.A2];omega)[XR,z,C,D,f,j,N,X,Z,A0,A1,A4,A5,A6,BE,c];refine S _ _ ⟨T,o,m.skip (x:=x) ⟨r,R,O⟩ ⟨s,u,by rw[<-c];exact P⟩,M,a,p,q,by simp[h],λk a=> ?_,by simp⟩;have:=d k a;simp at a;rcases a with rfl|rfl|rfl|rfl|rfl|rfl|rfl|rfl|rfl|rfl|rfl|rfl<;>simp[this]
  ·have AO: ¬x=y:= λe=>c e.symm;simp(disch:=first|omega|simp only[DI.A2];omega)[XR,z,h,C,D,f,j,N,p,X,Z,A0,A1,A4,A5,A6,BE,c,AL,AM,AN,-List.map_append,-List.flatten_append,-H,-E,-I,-G,-List.map_map];refine S _ _ ⟨T++[⟨v,i,x,y⟩],t.next+14,m.add (x:=x) (y:=y) ⟨r,R,O⟩ ⟨s,u,P⟩ AO,by simp;omega,λb hb AP=> ?_,?_,.inr (by omega),by simp,λk a=> ?_,by simp⟩
   ·rw[A3 (by omega),A3 (by rcases q with e|e<;>omega),A3 (by omega),AU (by omega)];exact a b hb AP
   ·rw[AT (by simp)];simp[CL,CR]
   ·have:=d k a;simp at a;rcases a with rfl|rfl|rfl|rfl|rfl|rfl|rfl|rfl|rfl|rfl|rfl|rfl<;>simp[this]
 ·rintro l t ⟨T,o,m,M,a,p,q,h,d,j⟩;have f:=(d 50 (by simp)).trans f;simp[XR,f,j];refine AF _ _ T o m M a p q (by simp[h]) λk a=> ?_;have:=d k (by simp at a⊢;omega);simp at a;rcases a with rfl|rfl|rfl|rfl|rfl|rfl|rfl|rfl|rfl<;>simp[this]
theorem a2g(F: ∀r∈L,r.length<=8)(A7:L.length<=12)(y:MF L Fin)(J:eT≠ej)(g:t0.W ej=some ⟨[Ag Fin,Y eR,AH fE],true⟩)(f:t0.W eT=some ⟨[],true⟩)
 (p:B 8=AA ej) (h:B 11=AQ eT 0 4) (q:B 42=Ag L) (d:B 43=Y L.length) (e:B 44=Y 0)
 (K: ∀i j T o,Hf L Fin L.length 0 T->t0.next<=j.next->(∀b,b<t0.next->b≠eT->j.W b=t0.W b)->j.W o=some ⟨CL T,true⟩->(o=eT\/t0.next<=o)->i 11=AQ o T.length 4->(∀k∈[0,1,2,3,6,8],i k=B k)->Q (.Ai 0) i j):BY U (.loop bR) B t0 Q:=by
 refine CE (an:=⟨[],[]⟩) (λv l t=> ∃T o,Hf L Fin v 0 T/\t0.next<=t.next/\(∀b,b<t0.next->b≠eT->t.W b=t0.W b)/\t.W o=some ⟨CL T,true⟩/\(o=eT\/t0.next<=o)/\l 11=AQ o T.length 4/\(∀k∈[0,1,2,3,6,8,42,43],l k=B k)/\l 44=Y v) L.length ?_ ?_ 0 _ _ (C0 _) ⟨[],eT,.nil,Ao _,λ_ _ _=>rfl,f,.inl rfl,h,λ_ _=>rfl,e⟩
 ·rintro v l t z ⟨T,o,u,w,a,f,x,h,c,e⟩ A9 M;have p:=(c 8 (by simp)).trans p;have q:=(c 42 (by simp)).trans q;have d:=(c 43 (by simp)).trans d;obtain⟨r,m⟩:=CF z;have N:=(AX.1 m).2;have O:v<Fin.length:=(by rw[<-y.1];exact z);obtain⟨s,A⟩:=CF O;have P:(v:Int)<L.length:=(by omega);have R:=BX (n:=v) (by omega);have C:=F r (B9 m);simp(disch:=first|omega|simp only[DI.A2];omega)[bR,q,d,e,N,P,BE,-H,-E,-I,-G,-List.map_map];refine a0m m A (y.2 v r s m A) C (by omega) J g u w a f x (by simp[p]) (by simp[h]) (by simp) (by simp) (by simp) (by simp) λi j S o' V X Z A0 A1 A3 D=> ?_;have A4:i 44=Y v:=(by rw[D 44 (by simp)];simp[e]);simp(disch:=first|omega|simp only[DI.A2];omega)[A4,R,-H,-E,-I,-G,-List.map_map];refine M _ _ ⟨S,o',V.D8 m C,X,Z,A0,A1,by simp[A3],λk a=> ?_,by simp⟩;have A5:=c k a;have A6:=D k (by simp at a⊢;omega);simp at a;rcases a with rfl|rfl|rfl|rfl|rfl|rfl|rfl|rfl<;>simp[A6,A5]
 ·rintro l t ⟨T,o,u,w,a,f,x,h,c,e⟩;have d:=(c 43 (by simp)).trans d;simp(disch:=first|omega|simp only[DI.A2];omega)[bR,d,e,-H,-E,-I,-G,-List.map_map];refine K _ _ T o u w a f x (by simp[h]) λk a=> ?_;have:=c k (by simp at a⊢;omega);simp at a;rcases a with rfl|rfl|rfl|rfl|rfl|rfl<;>simp[this]
theorem aFq(hb:b<t.next):(Hg t u L R).W b=t.W b:=by
 have a:(JC t u L).next=t.next+2+11+(L.length+1):=by unfold JC;rw[OH];rfl
 unfold Hg;rw[A3 (by omega),A3 (by omega),AU (by omega)];unfold JC;rw[PW (by omega),AU (by simp;omega),AU (by simp;omega),A3 (by omega),AU hb]
theorem a3c:t.next<=(Hg t u L R).next:=by
 have a:(JC t u L).next=t.next+2+11+(L.length+1):=by unfold JC;rw[OH];rfl
 unfold Hg;simp only[Ar,BC];omega
theorem a5a(h:t.W o=some ⟨CL S,w⟩):DI.Az (n+1) t (AQ o S.length 4)=some (Hr S):=
 JG (b5:=S.map CR) h (by rw[Eb]) λr b=>by obtain⟨x,_,rfl⟩:=CP.1 b;exact⟨rfl,λv a=>by simp[CR]at a;rcases a with rfl|rfl|rfl|rfl<;>rfl⟩
theorem a7j(a: ∀r∈L,r.length<=8)(c:L.length<=12): -1<=DY L Fin/\DY L Fin<=96:=by have:=bI (b:=Fin) a;unfold DY;split<;>omega
def a8b(u:AY)(R:List Int)(L:List (List Int))(v:Value):Prop:=
 (¬Pk u R/\v= .tuple #[.agg #[.slice none 0 0,.slice none 0 0,Y 0,.slice none 0 0,Y 0],Y 12])\/
 ∃ Fin eR fE b,ZY u R L Fin eR fE b/\((PQ u R L Fin/\L≠Fin/\v= .tuple #[.agg #[.slice none 0 0,.slice none 0 0,Y 0,.slice none 0 0,Y 0],Y 115])\/
   ∃S T,DE u R S L=(Fin,S.length)/\S.length<=30000/\HD L Fin T/\(S.length=T.length\/PQ u R L Fin)/\v= .tuple #[.agg #[Hr S,Ag Fin,Y eR,AH fE,Y ((S.length:Int)-eR)],Y 0])
theorem Z4(h:Av u)(A8:1<=u.A7.length)(V:Fb u L)(X:EN u L=true):Mu U 44 [.agg (A4 u).toArray,Ag L,AH R] (a8b u R L):=by
 refine Wz (Ak (an:=⟨[ak u h],[dv u h L V.1 V.2.1 R]⟩) qC (by kernel_rfl) (by simp[Ze]) ?_);have Ac:=V.1;have BS:=h.ok.F4;simp(disch:=first|omega|simp only[DI.A2];omega)[Ze,sE,A4,X,-H,-E,-I,-G,-List.map_map];refine((a7Y h A8 Ac X (R:=R)).O9 (λv m=>by simp at m;rcases m with rfl|rfl|rfl<;>rfl)).AG λv t ⟨Ad,Ae⟩=> ?_;subst Ae;rcases Ad with⟨A9,rfl⟩|⟨Fin,eR,fE,b,AB,rfl⟩
 ·simp(disch:=first|omega|simp only[DI.A2];omega)[mu,ll,mK,lr,aK,-H,-E,-I,-G,-List.map_map];exact .inl ⟨A9,rfl⟩
 obtain⟨J,Af,A,BU⟩:=We h.ok X AB;obtain⟨Al,AP⟩:=qm X;have AD: ∀r∈L,r.length<=8:= λr K=>by obtain⟨v,m,e⟩:=EC K;have:=AP v r (by rw[<-e];exact AS m);have:=(N9 h.ok (v:=v) (by omega)).2;omega
 have Am: ∀r∈Fin,r.length<=8:= λr K=>by obtain⟨v,m,e⟩:=EC K;have:=J.D8 v r (by rw[<-e];exact AS m);have:=(N9 h.ok (v:=v) (by have:=J.len;omega)).2;omega
 have AF:MF L Fin:=⟨by rw[Al,J.len],λv r s A8 An=>by have:=AP v r A8;have:=J.D8 v s An;omega⟩;have Ap:Bk Fin:=⟨by rw[J.len];omega,λr K=>by have:=Am r K;omega⟩;simp(disch:=first|omega|simp only[DI.A2];omega)[mu,-H,-E,-I,-G,-List.map_map];obtain⟨f,k⟩: ∃f,f=(((((D0.AE 3).A0 0 (some ⟨A4 u,true⟩)).A0 1 (some ⟨[.slice none 0 0,.slice none 0 0,Y 0,.slice none 0 0,Y 0],true⟩)).AE 12).A0 11 (some ⟨[Ag Fin,Y eR,AH fE],true⟩)):=⟨_,rfl⟩;have Aq:f.W 0=some ⟨A4 u,true⟩:=by rw[k];simp(disch:=first|omega|simp only[DI.A2];omega)[A4,-H,-E,-I,-G,-List.map_map]
 have As:f.W 1=some ⟨[.slice none 0 0,.slice none 0 0,Y 0,.slice none 0 0,Y 0],true⟩:=by rw[k];simp(disch:=first|omega|simp only[DI.A2];omega)[-H,-E,-I,-G,-List.map_map]
 have M:f.W 11=some ⟨[Ag Fin,Y eR,AH fE],true⟩:=by rw[k];simp(disch:=first|omega|simp only[DI.A2];omega)[-H,-E,-I,-G,-List.map_map]
 have BV:f.next=15:=by rw[k];simp
 simp only[A4]at k;rw[<-k];clear k;refine Pa (d:=11) (z:=4) (by simp) ?_;have AJ: ∀b,b<f.next->((f.AE 1).A0 f.next (some ⟨[],true⟩)).W b=f.W b:= λb hb=>by rw[A3 (by omega),AU hb]
 refine a2g AD (by omega) AF (ej:=11) (eT:=f.next) (by omega) ((AJ 11 (by omega)).trans M) (AT (by simp)) (by simp) (by simp) (by simp) (by simp) (by simp) λN t T eT AR A9 AK B At Au O=> ?_;simp only[Ar,BC]at A9 AK At;have Aw:N 1=Ag L:=by rw[O 1 (by simp)];simp
 have Ax:N 2=AH R:=by rw[O 2 (by simp)];simp
 have Ay:N 3=AA 0:=by rw[O 3 (by simp)];simp
 have Az:N 6=AA 1:=by rw[O 6 (by simp)];simp
 have AV:N 8=AA 11:=by rw[O 8 (by simp)];simp
 have Z: ∀b,b<f.next->t.W b=f.W b:= λb hb=>(AK b (by omega) (by omega)).trans (AJ b hb)
 have a0:=(Z 0 (by omega)).trans Aq;have C:=(Z 1 (by omega)).trans As;have ac:=(Z 11 (by omega)).trans M;clear Z AJ AK;have BW:15<=eT:=by omega
 have B0:=F B;have BX:=F a0;have AL:=AR.all AF;have BY:=AR.len;have g:=p5 (t:=t) (u:=u) (L:=L) (R:=R);have A1: ∀b,b<t.next->(Hg t u L R).W b=t.W b:= λb hb=>aFq hb
 have B1:t.next<=(Hg t u L R).next:=a3c
 simp(disch:=first|omega|simp only[DI.A2];omega)[ll,A4,a0,Aw,Ax,Ay,-H,-E,-I,-G,-List.map_map];have A: ∀p∈Fs L (t.next+2+11),t.next<=p:= λp c=>by have:=(Nc c).1;omega
 obtain⟨s,AW⟩: ∃s,s=t.next+2+9:=⟨_,rfl⟩
 obtain⟨o,AX⟩: ∃o,o=t.next+2+11:=⟨_,rfl⟩
 obtain⟨q,B2⟩: ∃q,q=o+(L.length+1):=⟨_,rfl⟩;rw[<-AW];rw[<-AW,<-AX,<-B2]at g;rw[<-AX]at A;have C:=(A1 1 (F C)).trans C;have ac:=(A1 11 (F ac)).trans ac;have B:=(A1 eT B0).trans B;generalize Hg t u L R=a at g A1 B1 C ac B⊢;generalize Fs L o=ps at g A;have AY:=F ac;have AM:=F C;have B3:=F B;have B4:=F g.Dg;have BZ:=F g.DR.Da;have Ba:=F g.Ha;simp(disch:=first|omega|simp only[DI.A2];omega)[mK,ac,AV,-H,-E,-I,-G,-List.map_map];simp(disch:=first|omega|simp only[DI.A2];omega)[lr,-H,-E,-I,-G,-List.map_map];refine Oa (o:=a.next+2+2) (j:=0) (z:=4) (cs:=[.slice none 0 0,Ag Fin,Y eR,AH fE,Y 0]) (AT (by simp)) rfl ?_;simp only[Ar,BC,aFV,TU];obtain⟨A5,D⟩: ∃A5,A5=((((((a.AE 2).Cf a.next []).AE 4).A0 (a.next+2+2) (some ⟨[.slice none 0 0,Ag Fin,Y eR,AH fE,Y 0],true⟩)).AE 1).A0 (a.next+2+4) (some ⟨[],true⟩)).A0 (a.next+2+2) (some ⟨[AQ (a.next+2+4) 0 4,Ag Fin,Y eR,AH fE,Y 0],true⟩):=⟨_,rfl⟩;have A6: ∀b,b<a.next->A5.W b=a.W b:= λb hb=>by rw[D,A3 (by omega),A3 (by omega),AU (by simp;omega),A3 (by omega),AU (by simp;omega),H2 (by omega),AU hb]
 have AN: ∀p∈ps,p<a.next:= λp c=>g.DR.I7 c
 have B5:HZ u R Fin eR fE A5 11 1 (a.next+2+2) (a.next+2+4) a.next s o q ps L [] []:=by
  refine⟨g.DW A6,(A6 11 AY).trans ac,?_,?_,?_,(A6 1 AM).trans C,⟨by omega,by omega,by omega,by omega,by omega,λc=>by have:=A _ c;omega⟩,⟨by omega,by omega,by omega,by omega,by omega,λc=>by have:=AN _ c;omega⟩,⟨by omega,by omega,by omega,by omega,λc=>by have:=AN _ c;omega⟩,⟨by omega,by omega,by omega,by omega,λc=>by have:=AN _ c;omega⟩,⟨by omega,by omega,by omega,by omega,by omega,by omega,λc=>by have:=A _ c;omega⟩⟩
  ·rw[D,AT (by simp)];rfl
  ·rw[D,A3 (by omega),AT (by simp)];rfl
  ·rw[D,IS (by omega),IS (by omega),Ul (by simp;omega),IS (by omega),Ul (by simp),RX (by simp)];rfl
 rw[<-D];clear D;refine a1H h Ap AF (YS:=T.length) (T.length+Qt (Oc L) []) T L [] [] (a.next+2+4) eT none [] (Ao _) (by omega) ?_ V AL (by simp[DE]) (.inl ⟨?_,by simp⟩) ⟨by omega,by omega,by omega,by omega,by omega,by omega,λc=> ?_,by omega⟩ (by omega) _ _ _ B5 ?_ (by simp[Au]) (by simp) (by simp) (by simp) (by simp[AV]) (by simp[Az]) (λB6 AZ S aF os B7 B8 B9 l BA BB AO=> ?_) (λB6 AZ BD BE Q AO BF=> ?_)
 ·have Bc:=aC6 (P:=Oc L) (aF:=[]);have:=a6Z AD;simp only[Jx];omega
 ·exact λv i y BG=> .inl BG
 ·exact absurd (A _ c) (by omega)
 ·rw[A6 eT B3];simpa using B
 ·have Aa:=l.Ij;have M:=l.Jn;have Ab:=l.LS;have Q:=l.KV;have Bd:=F Aa;have AY:=F M;have AM:=F Q;have B4:=F Ab;obtain⟨BH,BI⟩:=a7j (Fin:=Fin) AD (by omega);rw[<-Af]at BH BI;have BJ:IntKind.i64.wrap ((S.length:Int)-eR)=(S.length:Int)-eR:=Ah (by omega) (by omega);have Be:=l.ds.1;have BK:os≠1:=Ne.symm l.Sj.2.1;have BL:os≠a.next+2+2:=Ne.symm l.OD.1
  have BM:= λ(x y:Option Bw)=>a5a (n:=6) (t:=(AZ.A0 (a.next+2+2) x).A0 1 y) (o:=os) (S:=S) (w:=true) (by rw[A3 BK,A3 BL];exact Ab);simp(disch:=first|omega|simp only[DI.A2];omega)[aK,aK,Aa,M,Q,BA,BB,AO,BJ,BM,-H,-E,-I,-G,-List.map_map];exact .inr ⟨Fin,eR,fE,b,AB,.inr ⟨S,T,B7,B8,AL,B9,rfl⟩⟩
 ·have AM:=F Q;simp(disch:=first|omega|simp only[DI.A2];omega)[Q,AO,BF,-H,-E,-I,-G,-List.map_map];refine .inr ⟨Fin,eR,fE,b,AB,.inl ⟨BD,λe=> ?_,rfl⟩⟩;subst e;cases T with
  |nil=>exact BE rfl
  | cons x T=>obtain⟨v,i,_,_,BN,BO,BP⟩:=AL.left x (by simp);exact BP (Rc BN BO)
open Go Go.DI Go.Big
theorem Yf(h:BW u):RP u R L↔IK u R L:=by
 constructor
 ·intro q;have e: ∀(v:Nat) r,L[v]?=some r-> ∀x∈r,∃d:Nat,x=d/\d<u.A1.length:= λv r a x e=>by
   have g:=q.D8 v r a;have hb:=uU g.ok x e;have D:=g.aA5 x e;obtain⟨d,f⟩:=DP (show 0<=x by omega);exact⟨d,f,by omega⟩
  refine⟨q.len,λv r a=>(q.D8 v r a).len,λv r a=> ?_,λv r a x b=> ?_,λv r a i j t=> ?_,q.E4⟩
  ·rw[List.nodup_iff_count];intro x;by_cases c:x∈r
   ·obtain⟨d,rfl,f⟩:=e v r a x c;exact(q.D8 v r a).ct d f
   ·rw[List.count_eq_zero_of_not_mem c];omega
  ·obtain⟨d,rfl,f⟩:=e v r a x b;exact⟨d,rfl,f,by have:=(q.D8 v r a).a7y _ b (by omega);rwa [EE]at this⟩
  ·have w:v<u.A7.length:=(by rw[<-q.len];exact(AX.1 a).1);obtain⟨p,o,_,_,E,F⟩:=WE h w;have g:=q.D8 v r a;have G:=g.len;have s:HQ u v i=if Fa p.D9 (Cb u i)=0 then p.k+p.m else Fa p.D9 (Cb u i):=by unfold HQ;simp only[o]
   have y:Gf u r i=r.countP λx=>EB u i (CJ u x.toNat):=List.countP_congr λx b=>by obtain⟨d,rfl,f⟩:=e v r a x b;simp
   rw[s,<-y];split
   ·have:=List.countP_le_length (p:= λx=>decide (0<=x)&&EB u i (CJ u x.toNat)) (l:=r);unfold Gf;omega
   ·next B=>have z:0<Fa p.D9 (Cb u i):=(by have:=(n7 h w i).1;rw[s,if_neg B]at this;omega);exact g.aP p o i t j z
 ·intro q;refine⟨q.len,λv r a=> ?_,q.E4⟩;have e:=q.Lx v r a;have w:v<u.A7.length:=(by rw[<-q.len];exact(AX.1 a).1);refine⟨q.D8 v r a,?_,λx b=> ?_,λd f=>List.nodup_iff_count.1 (q.DD v r a) _,λx b j=> ?_,λp o i t j z=> ?_⟩
  ·have:=lK (n:=u.A1.length) (r:=r);have C:(r.all λx=>decide (-1<=x)&&decide (x<u.A1.length))=true:=by
    rw[BF];intro x b;obtain⟨d,rfl,f,_⟩:=e x b;simp;omega
   rw[C]at this;exact of_decide_eq_true this.symm
  ·obtain⟨d,rfl,f,_⟩:=e x b;omega
  ·obtain⟨d,rfl,f,H⟩:=e x b
   rwa [EE]
  ·have y:Gf u r i=r.countP λx=>EB u i (CJ u x.toNat):=List.countP_congr λx b=>by
    obtain⟨d,rfl,f,_⟩:=e x b;simp
   have A:=q.aP v r a i j t;have s:HQ u v i=if Fa p.D9 (Cb u i)=0 then p.k+p.m else Fa p.D9 (Cb u i):=by unfold HQ;simp only[o]
   rw[s,if_neg (by omega),<-y]at A;exact A
variable{ps:List Nat}{aR:List (List Int)}{dU a1 f:Nat}{cE:Int}{s:Cn}{l:List Int}{e:CX}
theorem a04(h:Av u)(P:Bk L)(z:Dt t0 o ps L):Bv U 34 [.agg (A4 u).toArray,AQ o L.length 1] t0 λv Q=> ∃dU,v=AQ dU u.A1.length 1/\t0.next<=dU/\Q.W dU=some ⟨(BZ u L).map Y,true⟩/\t0.next<=Q.next/\ ∀b,b<t0.next->Q.W b=t0.W b:=by
 refine Ak (an:=⟨[Jj u h.CV],[]⟩) xj (by kernel_rfl) (by simp[UN]) ?_;have AR:=h.ok.Ek;have AT:=h.ok.MC;have AF:(u.A1.length:Int)*8<=140737488355328/\u.A1.length<=140737488355328/\(u.A1.length:Int)<=140737488355328/\(u.A1.length:Int)<=9223372036854775807:=by omega
 simp(disch:=first|omega|simp only[DI.A2];omega)[UN,kG,A4,AF,-H,-E,-I,-G,-List.map_map];refine CE (an:=⟨[Jj u h.CV],[]⟩) (λi a t=>(t0.next<=t.next/\ ∀b,b<t0.next->t.W b=t0.W b)/\t.W t0.next=some ⟨A4 u,true⟩/\t.W (t0.next+2+3)=some ⟨Ct u.A1.length (λj=>Y (D1 (L.take i) j)),true⟩/\a 1=AQ o L.length 1/\a 2=AA t0.next/\a 5=AQ (t0.next+2+3) u.A1.length 1/\a 6=Y i) L.length ?_ ?_ 0 _ _ (C0 _) ⟨⟨by simp;omega,λb hb=>by rw[A3 (by omega),AU (by simp;omega),A3 (by omega),AU hb]⟩,by simp(disch:=first|omega|simp only[DI.A2];omega)[A4,-H,-E,-I,-G,-List.map_map],by simp(disch:=first|omega|simp only[DI.A2];omega)[-H,-E,-I,-G,-List.map_map];exact QE,by simp,by simp,by simp,by simp⟩
 ·rintro i a t K ⟨c,l,m,f,w,q,g⟩ AG A;obtain⟨r,B⟩:=CF K;have AV:=(AX.1 B).2;have C:(i:Int)<L.length:=(by omega);have AW:=P.2 r (B9 B);have AY:=P.1;have AH:=BX (n:=i) (by omega);have R:=F l;have A8:=F m;have y:=z.DW c.2;have S:ps[i]?=some (ps[i]'(by rw[z.len];exact K)):=AS _;generalize ps[i]'(by rw[z.len];exact K)=p at S;have s:=y.Da;have A9:=F s;have M:List.take 1 (List.drop i (Cv ps L))=[AQ p r.length 1]:=Lm (by rw[Cv,Ej K,Kb S B]);have N:i+1<=(Cv ps L).length:=(by simp[Cv];omega);simp(disch:=first|omega|simp only[DI.A2];omega)[U5,U0,f,g,C,-H,-E,-I,-G,-List.map_map];refine CE (an:=⟨[Jj u h.CV],[]⟩) (λk a t=>(t0.next<=t.next/\ ∀b,b<t0.next->t.W b=t0.W b)/\t.W t0.next=some ⟨A4 u,true⟩/\t.W (t0.next+2+3)=some ⟨Ct u.A1.length (λj=>Y (D1 (L.take i) j+(r.take k).count (j:Int):Nat)),true⟩/\a 1=AQ o L.length 1/\a 2=AA t0.next/\a 5=AQ (t0.next+2+3) u.A1.length 1/\a 6=Y i/\a 7=Y k) r.length ?_ ?_ 0 _ _ (C0 _) ⟨c,by simp(disch:=first|omega|simp only[DI.A2];omega)[l,A4,-H,-E,-I,-G,-List.map_map],by simp(disch:=first|omega|simp only[DI.A2];omega)[m,-H,-E,-I,-G,-List.map_map],by simp[f],by simp[w],by simp[q],by simp[g],by simp[]⟩
  ·rintro k a t AB ⟨c,l,m,f,w,q,g,D⟩ AG A;obtain⟨x,T⟩:=CF AB;have AZ:=(AX.1 T).2;have V:(k:Int)<r.length:=(by omega);have v0:=BX (n:=k) (by omega);have R:=F l;have A8:=F m;have y:=z.DW c.2;have s:=y.Da;have A9:=F s;have O:=y.D8 i p _ S B;have Aa:=F O;have X:List.take 1 (List.drop k (r.map Y))=[Y x]:=Lm (by rw[GS,T];rfl);have Z:k+1<=r.length:=AB;have A0: ∀j:Nat,(r.take (k+1)).count (j:Int)=(r.take k).count (j:Int)+if x=j then 1 else 0:= λj=>by
    rw[MB T,Qw];congr 1;by_cases e:x=j<;>simp[e]
   by_cases A5:0<=x
   ·by_cases AJ:x<u.A1.length
    ·obtain⟨aR,AD⟩:=DP A5;have AK:aR<u.A1.length:=(by omega);have AL:aR+1<=u.A1.length:=AK;have AM:(aR:Int)<u.A1.length:=(by omega);have AN:=dp (L:=L.take i) (d:=aR) (λr AO=>P.2 r (K2 AO));have AP:(L.take i).length<=1000:=(by rw[GC];omega);have Ab:(r.take k).count (aR:Int)<=1000:=Dh WX (by rw[GC];omega);have Ac:D1 (L.take i) aR<=1000000:=Dh AN (IF 1000 AP);have AE:IntKind.i64.wrap (((D1 (L.take i) aR+(r.take k).count (aR:Int):Nat):Int)+1)=((D1 (L.take i) aR+(r.take k).count (aR:Int):Nat):Int)+1:=Ah (by omega) (by omega);rw[ME]at AE;simp(disch:=first|omega|simp only[DI.A2];omega)[NL,f,q,g,D,m,C,V,s,O,M,N,X,Z,v0,AD,AL,AM,AE,Ej,KG,CC,-H,-E,-I,-G,-List.map_map];refine A _ _ ⟨⟨c.1,λb hb=>(A3 (by omega)).trans (c.2 b hb)⟩,by simp(disch:=first|omega|simp only[DI.A2];omega)[l,A4,-H,-E,-I,-G,-List.map_map],?_,by simp[f],by simp[w],by simp[q],by simp[g],by simp[]⟩;simp(disch:=first|omega|simp only[DI.A2];omega)[-H,-E,-I,-G,-List.map_map];refine FG λj A6=> ?_;rw[A0 j,AD];by_cases e:j=aR
     ·subst e;simp;omega
     ·have J: ¬(aR:Int)=j:=(by omega);simp only[if_neg e,if_neg J,Nq]
    ·simp(disch:=first|omega|simp only[DI.A2];omega)[NL,f,q,g,D,C,V,s,O,M,N,X,Z,v0,A5,AJ,-H,-E,-I,-G,-List.map_map];refine A _ _ ⟨c,by simp(disch:=first|omega|simp only[DI.A2];omega)[l,A4,-H,-E,-I,-G,-List.map_map],?_,by simp[f],by simp[w],by simp[q],by simp[g],by simp[]⟩;simp(disch:=first|omega|simp only[DI.A2];omega)[m,-H,-E,-I,-G,-List.map_map];refine FG λj A6=> ?_;have J: ¬x=j:=(by omega);rw[A0 j,if_neg J];simp
   ·simp(disch:=first|omega|simp only[DI.A2];omega)[NL,f,g,D,C,V,s,O,M,N,X,Z,v0,A5,-H,-E,-I,-G,-List.map_map];refine A _ _ ⟨c,by simp(disch:=first|omega|simp only[DI.A2];omega)[l,A4,-H,-E,-I,-G,-List.map_map],?_,by simp[f],by simp[w],by simp[q],by simp[g],by simp[]⟩;simp(disch:=first|omega|simp only[DI.A2];omega)[m,-H,-E,-I,-G,-List.map_map];refine FG λj A6=> ?_;have J: ¬x=j:=(by omega);rw[A0 j,if_neg J];simp
  ·rintro a t ⟨c,l,m,f,w,q,g,D⟩;have R:=F l;have A8:=F m;have y:=z.DW c.2;have s:=y.Da;have A9:=F s;simp(disch:=first|omega|simp only[DI.A2];omega)[NL,f,g,D,C,s,M,N,AH,-H,-E,-I,-G,-List.map_map];refine A _ _ ⟨c,by simp(disch:=first|omega|simp only[DI.A2];omega)[l,A4,-H,-E,-I,-G,-List.map_map],?_,by simp[f],by simp[w],by simp[q],by simp[]⟩;simp(disch:=first|omega|simp only[DI.A2];omega)[m,-H,-E,-I,-G,-List.map_map];refine FG λj A6=> ?_;rw[kf B];simp
 ·rintro a t ⟨c,l,m,f,w,q,g⟩;have R:=F l;simp(disch:=first|omega|simp only[DI.A2];omega)[U5,U0,f,q,g,-H,-E,-I,-G,-List.map_map];refine⟨by omega,?_,c.1,c.2⟩;rw[m,EP,IL,PM]
theorem a2i(A0:u.A1.length<=1000)(P:WN u R L aR)(S: ∀d,d<u.A1.length->0<=CD u R d)(p:t0.W dU=some ⟨(BZ u aR).map Y,true⟩)(l:B 8=AH (BZ u L))(o:B 9=AH (BV u R))(e:B 12=AQ dU u.A1.length 1)(g:B 13=Y 0)
 (T: ∀f,(∀k∈[3,5,7,8,9,10,11],f k=B k)->Q (.Ai 2) f t0):BY U (.loop Ts) B t0 Q:=by
 have r:=JX (u:=u) (Ab:=R);have s:=JV (u:=u) (L:=L);have v:=JV (u:=u) (L:=aR);refine CE (an:=⟨[],[]⟩) (λi f t=>t=t0/\(∀k∈[3,5,7,8,9,10,11,12],f k=B k)/\f 13=Y i) u.A1.length ?_ ?_ 0 _ _ (C0 _) ⟨rfl,λ_ _=>rfl,g⟩
 ·rintro i f t j ⟨rfl,c,g⟩ A4 w;have l:=(c 8 (by simp)).trans l;have o:=(c 9 (by simp)).trans o;have e:=(c 12 (by simp)).trans e;have y:(i:Int)<u.A1.length:=(by omega);have z:=BX (n:=i) (by omega);have q:=P i j;have V:=S i j;have A:(BV u R)[i]?=some (CD u R i):=(by rw[MA,Ej j]);have hb:(BZ u L)[i]?=some ((D1 L i:Nat):Int):=(by rw[IL,Ej j]);have C:(BZ u aR)[i]?=some ((D1 aR i:Nat):Int):=(by rw[IL,Ej j]);generalize CD u R i=m at A q V;have X:(0:Int)<=((D1 L i:Nat):Int):=(by omega);generalize((D1 L i:Nat):Int)=b at hb q X;generalize((D1 aR i:Nat):Int)=x at C q;have D: ∀h,(BV u R)[i]'h=m:= λh=>(AX.1 A).2;have J: ∀h,(BZ u L)[i]'h=b:= λh=>(AX.1 hb).2;have K:List.take 1 (List.drop i ((BZ u aR).map Y))=[Y x]:=Lm (by rw[GS,C];rfl);have A5:=F p;have M:i+1<=u.A1.length:=j;have N: ¬(if m<b then b else m)<x:=(by split<;>omega);by_cases O:m=0
  ·subst O;have Z: ¬b<x:=(by omega);simp(disch:=first|omega|simp only[DI.A2];omega)[Ts,l,o,e,g,y,z,r,s,v,M,D,J,p,K,N,Z,-H,-E,-I,-G,-List.map_map];refine w _ _ ⟨rfl,λk a=> ?_,by simp⟩;have:=c k a;simp at a;rcases a with rfl|rfl|rfl|rfl|rfl|rfl|rfl|rfl<;>simp[this]
  ·simp(disch:=first|omega|simp only[DI.A2];omega)[Ts,l,o,e,g,y,z,r,s,v,M,D,J,p,K,N,O];refine w _ _ ⟨rfl,λk a=> ?_,by simp⟩;have:=c k a;simp at a;rcases a with rfl|rfl|rfl|rfl|rfl|rfl|rfl|rfl<;>simp[this]
 ·rintro f t ⟨rfl,c,g⟩;have e:=(c 12 (by simp)).trans e;simp(disch:=omega)[Ts,e,g];refine T _ λk a=> ?_;have:=c k (by simp at a⊢;omega);simp at a;rcases a with rfl|rfl|rfl|rfl|rfl|rfl|rfl<;>simp[this]
theorem aBi{p q d:Nat}(u:aR[a1]?=some r)(S:r.length<=1000)(T:aR.length<=1000)(C:ps[a1]?=some p)(I: ∀(a:Nat) y,r[a]?=some y->a≠f->y≠(d:Int))(D:Dt t0 o ps aR)(m:t0.W q=some ⟨[Y a1,Y f,Y cE,Y d],true⟩)
 (g:B 7=AQ o aR.length 1) (h:B 11=AA q) (l:B 14=Y 0)
 (J: ∀j,(∀k∈[3,5,7,8,9,10],j k=B k)->Q (.Ai 4) j t0):BY U (.loop Uv) B t0 Q:=by
 have K:=(AX.1 u).1;have v:List.take 1 (List.drop a1 (Cv ps aR))=[AQ p r.length 1]:=Lm (by rw[Cv,Ej K,Kb C u]);have w:a1+1<=(Cv ps aR).length:=by simp[Cv];omega
 have s:=D.Da;have V:=F s;have E:=D.D8 a1 p _ C u;have X:=F E;have Z:=F m;have x:(a1:Int)<aR.length:=by omega
 refine CE (an:=⟨[],[]⟩) (λi j t=>t=t0/\(∀k∈[3,5,7,8,9,10,11],j k=B k)/\j 14=Y i) r.length ?_ ?_ 0 _ _ (C0 _) ⟨rfl,λ_ _=>rfl,l⟩
 ·rintro a j t z ⟨rfl,e,l⟩ A1 G;have g:=(e 7 (by simp)).trans g;have h:=(e 11 (by simp)).trans h;obtain⟨y,H⟩:=CF z;have L:(a:Int)<r.length:=(by omega);have A:=BX (n:=a) (by omega);have M:List.take 1 (List.drop a (r.map Y))=[Y y]:=Lm (by rw[GS,H];rfl);have N:a+1<=r.length:=z;by_cases c:a=f
  ·have O:f<r.length:=c▸z;simp[Uv,g,h,l,s,m,v,w,x,c,O];refine G _ _ ⟨rfl,λk b=> ?_,by rw[c]at A;simp[c,A]⟩;have:=e k b;simp at b;rcases b with rfl|rfl|rfl|rfl|rfl|rfl|rfl<;>simp[this]
  ·have P: ¬(a:Int)=f:=(by omega);have R:=I a y H c;simp[Uv,g,h,l,L,A,s,E,m,v,w,x,M,N,P,R];refine G _ _ ⟨rfl,λk b=> ?_,by simp⟩;have:=e k b;simp at b;rcases b with rfl|rfl|rfl|rfl|rfl|rfl|rfl<;>simp[this]
 ·rintro j t ⟨rfl,e,l⟩;have g:=(e 7 (by simp)).trans g;have h:=(e 11 (by simp)).trans h;simp[Uv,g,h,l,s,m,v,w,x];refine J _ λk b=> ?_;have:=e k (by simp at b⊢;omega);simp at b;rcases b with rfl|rfl|rfl|rfl|rfl|rfl<;>simp[this]
structure oz(u:AY)(R:List Int)(L Fin:List (List Int))(eR c:Int)(fE:List Int)(S:List Cn)(a:A6)(t:V)(b ej o:Nat)(ps:List Nat)(aR:List (List Int)):Prop where
 Jp:a 3=AA b
 aQK:a 5=AA ej
 LD:a 7=AQ o aR.length 1
 GJ:a 8=AH (BZ u L)
 Xe:a 9=AH (BV u R)
 Jn:t.W b=some ⟨A4 u++[Ag L,AH R],true⟩
 Ij:t.W ej=some ⟨[Hr S,Ag Fin,Y eR,AH fE,Y c],true⟩
 DR:Dt t o ps aR
 d:b≠o/\ej≠o/\b∉ps/\ej∉ps
theorem a7N{g i:List Int}{d:Nat}(h:CI n g i L s=true)(j:s.Au=a1)(k:s.Bg=d)(l:L[a1]?=some r): ∀(a:Nat) y,(r.set f (d:Int))[a]?=some y->a≠f->y≠(d:Int):=by
 unfold CI at h;simp only[AB,Ba,Iz,UR,Nd]at h;have b:=h.2.2.2.2.2.2.2.1;have m:Big.D4 L s=r:=by unfold Big.D4;rw[j];simp[l]
 rw[m,k]at b;intro a y c o e;rw[XG (Ne.symm o)]at c;exact b (e▸B9 c)
theorem aBj(h:Av u){gl:Int}(C4:S.length<=1000000): ∀(s:List Cn) (i:Nat) (aR:List (List Int)),S.drop i=s->i<=S.length->Fb u aR->WN u R L aR->DE u R s aR=(Fin,s.length)->
 ∀(A8:A6) (t:V) (g ej o:Nat) (ps:List Nat) (Q:BM->A6->V->Prop),oz u R L Fin eR gl fE S A8 t g ej o ps aR->A8 10=Y i->
 (∀Am Ad,oz u R L Fin eR gl fE S Am Ad g ej o ps Fin->Q (.Ai 0) Am Ad)->BY U (.loop eM) A8 t Q:=by
 intro s;have C5:=h.ok.Ek;induction s with
 | nil=>intro i aR j B6 Ae An w A8 t g ej o ps Q Af AR Ah;have C6:S.length<=i:=(by simpa using j);refine BU (an:=⟨[YH u h R],[]⟩) λB8 Ao=> ?_;have c: ¬(i:Int)<S.length:=(by omega);obtain⟨A9,AB,AD,AV,AW,AY,y,AF,j⟩:=Af;have Ap:=F y;simp[eM,kZ,kW,iA,nW,AB,AR,y,c];simp only[DE,JM]at w;obtain⟨rfl,_⟩:=w;exact Ah _ _ ⟨by simp[A9],by simp[AB],by simp[AD],by simp[AV],by simp[AW],AY,y,AF,j⟩
 | cons x s BA=>
   intro i aR j B6 Ae An w A8 t g ej o ps Q Af AR Ah;have C7:i<S.length:=by
    rcases Nat.lt_or_ge i S.length with c|c
    ·exact c
    ·rw[List.drop_eq_nil_of_le c]at j;cases j
   have BB:S[i]?=some x:=(by have:=congrArg (λk=>k[0]?) j;simpa using this);have BC:=(AX.1 BB).2;have BD:S.drop (i+1)=s:=(by have:=congrArg (List.drop 1) j;simpa using this);have AJ:CI u.A1.length (BZ u aR) (BV u R) aR x=true:=by
    cases q:CI u.A1.length (BZ u aR) (BV u R) aR x
    ·simp[DE,q]at w
    ·rfl
   obtain⟨a1,f,d,r,B,AK,C,D,BE,BF,C8⟩:=SG AJ;have BG:DE u R s (Ci aR a1 f d)=(Fin,s.length):=(by simp only[DE,AJ,if_true,B,AK,C,EE,JM,Df]at w;exact Prod.ext w.1 (by have:=w.2;simp only;omega));refine BU (an:=⟨[YH u h R],[]⟩) λB8 Ao=> ?_;have c:(i:Int)<S.length:=(by omega);have BH:=BX (n:=i) (by omega);obtain⟨A9,AB,AD,AV,AW,AY,y,AF,BI,BJ,Aq,Ar⟩:=Af;have BK:=F AY;have Ap:=F y;have BL:=Ae.1;have C9:(A4 u++[Ag L,AH R]).length=9:=rfl;simp(disch:=first|omega|simp only[DI.A2];omega)[eM,AB,AR,y,c,BC,CR,-H,-E,-I,-G,-List.map_map];have Ak: ∀b,b<t.next->((t.AE 7).A0 (t.next+5) (some ⟨[Y x.Au,Y x.B4,Y x.BQ,Y x.Bg],true⟩)).W b=t.W b:= λb hb=>by rw[A3 (by omega),AU hb]
   have v:((t.AE 7).A0 (t.next+5) (some ⟨[Y x.Au,Y x.B4,Y x.BQ,Y x.Bg],true⟩)).W (t.next+5)=some ⟨[Y x.Au,Y x.B4,Y x.BQ,Y x.Bg],true⟩:=AT (by simp);have l:=AF.DW Ak;have J:((t.AE 7).A0 (t.next+5) (some ⟨[Y x.Au,Y x.B4,Y x.BQ,Y x.Bg],true⟩)).W g=some ⟨[Y u.ext,M (u.Bz.map Cc) 4,M (u.Aa.map Ce) 4,M (u.A5.map Bd) 7,M (u.A1.map CB) 3,M (u.Ay.map B3) 17,M (u.A7.map Cd) 2,Ag L,AH R],true⟩:=(Ak g BK).trans AY;have AL:=(Ak ej Ap).trans y;generalize(t.AE 7).A0 (t.next+5) (some ⟨[Y x.Au,Y x.B4,Y x.BQ,Y x.Bg],true⟩)=AM at v l J AL⊢;have At:t.next+5≠o/\t.next+5∉ps/\t.next+5≠g/\t.next+5≠ej:=by have:=F AF.Da;exact⟨by omega,λBN=>by have:=AF.I7 BN;omega,by omega,by omega⟩
   generalize t.next+5=q at v At⊢
   obtain⟨CA,BO,CC,CD⟩:=At;have CE:=F J;have CF:=F AL;have CG:=F v;have BP:=Qp (n:=7) l;rw[B,AK,C]at v;have BS:CI u.A1.length (BZ u aR) (BV u R) aR ⟨(a1:Int),f,x.BQ,d⟩=true:=(by rw[<-AJ];congr 1;obtain⟨a,b,CH,CJ⟩:=x;simp only at B AK C;simp[B,AK,C]);obtain⟨AN,CK⟩:=AX.1 D;have CL:=(AX.1 BE).1;have K:ps[a1]?=some (ps[a1]'(by rw[l.len];exact AN)):=AS _;generalize ps[a1]'(by rw[l.len];exact AN)=p at K;have AZ:=B9 K;have Al:=l.Da;have Ab:=l.D8 a1 p _ K D;have CM:=F Al;have Aw:=F Ab;have BW:List.take 1 (List.drop a1 (Cv ps aR))=[AQ p r.length 1]:=Lm (by rw[Cv,Ej AN,Kb K D]);have Ba:a1+1<=(Cv ps aR).length:=(by simp[Cv];omega);have Bb: ¬p=o:= λe=>l.Gq (e▸AZ);have Bc:(a1:Int)<aR.length:=(by omega);have Be:(f:Int)<r.length:=(by omega);have Bf: ¬p=q:= λe=>BO (e▸AZ);have Bh: ¬p=g:= λe=>Aq (e▸AZ);have Bi: ¬p=ej:= λe=>Ar (e▸AZ);simp(disch:=first|omega|simp only[DI.A2];omega)[kZ,A9,AD,J,v,BP,BS,Al,Ab,BW,Ba,Bc,Be,-H,-E,-I,-G,-List.map_map];refine⟨by omega,?_⟩;have N: ∀b,(Cm AM (As 9 AM (AQ o aR.length 1))).W b=AM.W b:= λb=>by rw[Rd]
   generalize Cm AM (As 9 AM (AQ o aR.length 1))=O at N⊢;have l:=l.DW (au:=O) λb _=>N b;have J:=(N g).trans J;have AL:=(N ej).trans AL;have v:=(N q).trans v;have Aw:=F ((N p).trans Ab);clear Ab Al;have Ax:aR.getD a1 []=r:=(by simp[D]);have Bj:((aR.getD a1 []).set f (d:Int)).map Y=(r.map Y).set f (Y d):=(by rw[Ax,MG]);have Az:Fb u (Ci aR a1 f d):=SL Ae BF;have P:Dt (O.A0 p (some ⟨(r.map Y).set f (Y d),true⟩)) o ps (Ci aR a1 f d):=l.set AN K (A3 (λe=>Bb e.symm)) (λb hb Bk=>A3 Bk) (by rw[Bj];exact AT Aw);have T:=(A3 (m:=O) (x:=some ⟨(r.map Y).set f (Y d),true⟩) (λe:g=p=>Bh e.symm)).trans J;have AO:=(A3 (m:=O) (x:=some ⟨(r.map Y).set f (Y d),true⟩) (λe:ej=p=>Bi e.symm)).trans AL;have AP:=(A3 (m:=O) (x:=some ⟨(r.map Y).set f (Y d),true⟩) (λe:q=p=>Bf e.symm)).trans v;generalize O.A0 p (some ⟨(r.map Y).set f (Y d),true⟩)=CN at P T AO AP⊢;have Bl:=F T;have Bm:=F AO;have Bn:=F AP;have B0:=Az.1;simp(disch:=first|omega|simp only[DI.A2];omega)[kW,A9,AD,T,-H,-E,-I,-G,-List.map_map];have B1:=a04 h B0 P;rw[ML]at B1;refine B1.AG λv3 CO ⟨dU,Bo,CP,Bp,CQ,Ac⟩=> ?_;subst Bo;have P:=P.DW Ac;have T:=(Ac g Bl).trans T;have AO:=(Ac ej Bm).trans AO;have AP:=(Ac q Bn).trans AP;simp[iA];have B2:WN u R L (Ci aR a1 f d):=by
    have:=a3A An AJ
    rwa [B,AK,C,EE,EE]at this
   refine a2i (u:=u) (R:=R) (L:=L) (aR:=Ci aR a1 f d) (by omega) B2 (λd j=>(Um h.ok R j).1) Bp (by simp[AV]) (by simp[AW]) (by simp) (by simp) λz A=> ?_;have Bq:z 3=AA g:=(by rw[A 3 (by simp)];simp[A9]);have Br:z 5=AA ej:=(by rw[A 5 (by simp)];simp[AB]);have B5:z 7=AQ o aR.length 1:=(by rw[A 7 (by simp)];simp[AD]);have u8:z 8=AH (BZ u L):=(by rw[A 8 (by simp)];simp[AV]);have Bs:z 9=AH (BV u R):=(by rw[A 9 (by simp)];simp[AW]);have Bt:z 10=Y i:=(by rw[A 10 (by simp)];simp[AR]);have Bu:z 11=AA q:=(by rw[A 11 (by simp)];simp);simp[nW];have Bv:(Ci aR a1 f (d:Int))[a1]?=some (r.set f (d:Int)):=by unfold Ci;rw[List.getElem?_set_self AN,Ax]
   have Bw:r.length<=1000:=BL.2 r (B9 D);refine aBi (aR:=Ci aR a1 f d) (r:=r.set f (d:Int)) (cE:=x.BQ) Bv (by rw[MJ];exact Bw) B0.1 K (a7N AJ B C D) P AP (by rw[ML];simp[B5]) (by simp[Bu]) (by simp) λX Z=> ?_;have v3:X 3=AA g:=(by rw[Z 3 (by simp)];simp[Bq]);have Bx:X 5=AA ej:=(by rw[Z 5 (by simp)];simp[Br]);have C0:X 7=AQ o aR.length 1:=(by rw[Z 7 (by simp)];simp[B5]);have C1:X 8=AH (BZ u L):=(by rw[Z 8 (by simp)];simp[u8]);have C2:X 9=AH (BV u R):=(by rw[Z 9 (by simp)];simp[Bs]);have C3:X 10=Y i:=(by rw[Z 10 (by simp)];simp[Bt]);simp[C3,BH];exact Ao _ _ (BA (i+1) (Ci aR a1 f d) BD (by omega) Az B2 BG _ _ g ej o ps _ ⟨by simp[v3],by simp[Bx],by simp[C0,ML],by simp[C1],by simp[C2],T,AO,P,BI,BJ,Aq,Ar⟩ (by simp) Ah)
noncomputable def Sz(u:AY)(h:Av u):AK U:= .B8 50 (List (List Int)×List Int) (λx=>Bk x.1) (λx=>[.agg (A4 u).toArray,Ag x.1,AH x.2]) (λx=> .bool (L0 u x.2 x.1)) λx a=>aCe h a
@[simp] theorem aQ6{h:Av u}:(Sz u h).f=50:=rfl
@[simp] theorem aPL{h:Av u}(a:Bk L):(Sz u h).fn [.agg #[Y u.ext,M (u.Bz.map Cc) 4,M (u.Aa.map Ce) 4,M (u.A5.map Bd) 7,M (u.A1.map CB) 3,M (u.Ay.map B3) 17,M (u.A7.map Cd) 2],M (L.map BE) 1,M (R.map λx=>[Y x]) 1]=some (.bool (L0 u R L)):=AK.BD (x:=(L,R)) a λ⟨c,d⟩ b=>by simpa using b
theorem a65(K:l.length<=140737488355328):AL U 13 [AH l] (.bool true):=by
 obtain⟨u,L,R,AS,g,w,x,AV,AW,AX,N⟩:=jK K;have a:=dn g (by decide);have c:=cP a w x;have y:=mA (u:=u) (L:=L) w x;have AY:1<=u.A1.length/\u.A1.length<=9:=g.Ek;have AZ:=g.F4;refine BG (Ak (an:=⟨[Te,Sz u a,S5 u a,TV u a],[ZN]⟩) a21 (by kernel_rfl) (by simp[iL]) ?_);simp(disch:=first|omega|simp only[DI.A2];omega)[iL,w7,-H,-E,-I,-G,-List.map_map];refine(N _).AG λv h ⟨i,O⟩=> ?_;subst i;have P:=F O;have Ac:12<h.next:=P
 have Q:(A4 u++[Ag L,AH R]).length=9:=rfl;have X:C3 [Value.int IntKind.i64 0,Value.slice none 0 0,Value.slice none 0 0,Value.slice none 0 0,Value.slice none 0 0,Value.slice none 0 0,Value.slice none 0 0,Value.slice none 0 0,Value.slice none 0 0] 0 (A4 u++[Ag L,AH R])=A4 u++[Ag L,AH R]:=by simp[C3,A4]
 have Z:5<h.next:=by omega
 simp(disch:=first|omega|simp only[DI.A2];omega)[Q,X,-H,-E,-I,-G,-List.map_map];have f:(h.A0 5 (some ⟨A4 u++[Ag L,AH R],true⟩)).W 5=some ⟨[Y u.ext,M (u.Bz.map Cc) 4,M (u.Aa.map Ce) 4,M (u.A5.map Bd) 7,M (u.A1.map CB) 3,M (u.Ay.map B3) 17,M (u.A7.map Cd) 2,Ag L,AH R],true⟩:=AT Z;generalize h.A0 5 _=e at f⊢;have A6:=F f;simp(disch:=first|omega|simp only[DI.A2];omega)[vp,f,-H,-E,-I,-G,-List.map_map];refine((Z4 a g.F4.1 c y (R:=R)).O9 (λv i=>by simp at i;rcases i with rfl|rfl|rfl<;>rfl)).AG λv t3 ⟨A8,A9⟩=> ?_;subst A9;rcases A8 with⟨Ad,rfl⟩|⟨Fin,eR,fE,b,AB,⟨Ae,Af,rfl⟩|⟨S,T,z,Ah,Al,Am,rfl⟩⟩
 ·simp(disch:=first|omega|simp only[DI.A2];omega)[Zk,eX,ao,-H,-E,-I,-G,-List.map_map]
 ·simp(disch:=first|omega|simp only[DI.A2];omega)[Zk,eX,ao,-H,-E,-I,-G,-List.map_map]
 obtain⟨AD,An,Ao,Ap⟩:=We a.ok y AB;have Aq:=c.1;have AF: ∀t:V,Mn L t=some (AQ t.next L.length 1,D2 t.next (Fh L t.next) (t.AE (L.length+1))):= λt=>kX c.1 c.2.1;simp(disch:=first|omega|simp only[DI.A2];omega)[Zk,f,AF,-H,-E,-I,-G,-List.map_map];obtain⟨A,j⟩: ∃A,A=(e.AE 13).A0 (e.next+10) (some ⟨[Hr S,Ag Fin,Y eR,AH fE,Y ((S.length:Int)-eR)],true⟩):=⟨_,rfl⟩;have AJ:A.next=e.next+13:=by rw[j];simp
 have AK:A.W 5=some ⟨[Y u.ext,M (u.Bz.map Cc) 4,M (u.Aa.map Ce) 4,M (u.A5.map Bd) 7,M (u.A1.map CB) 3,M (u.Ay.map B3) 17,M (u.A7.map Cd) 2,Ag L,AH R],true⟩:=by rw[j,A3 (by omega),AU A6];exact f
 have B:A.W (e.next+10)=some ⟨[Hr S,Ag Fin,Y eR,AH fE,Y ((S.length:Int)-eR)],true⟩:=by rw[j];exact AT (by simp)
 rw[<-j,<-AJ];have q:e.next+10<A.next:=by omega
 generalize e.next+10=ej at B q⊢
 have C:5<A.next:=by omega
 have k:Dt (D2 A.next (Fh L A.next) (A.AE (L.length+1))) A.next (Fs L A.next) L:=ji
 have m:(D2 A.next (Fh L A.next) (A.AE (L.length+1))).W 5=_:=(PW C).trans ((AU C).trans AK);have D:(D2 A.next (Fh L A.next) (A.AE (L.length+1))).W ej=_:=(PW q).trans ((AU q).trans B);have r:5≠A.next/\ej≠A.next/\5∉Fs L A.next/\ej∉Fs L A.next:=⟨by omega,by omega,λs=>by have:=(Nc s).1;omega,λs=>by have:=(Nc s).1;omega⟩
 generalize D2 A.next (Fh L A.next) (A.AE (L.length+1))=Ar at k m D⊢
 generalize Fs L A.next=ps at k r
 generalize A.next=o at k r⊢
 have As:=F m;simp(disch:=first|omega|simp only[DI.A2];omega)[eX,m,-H,-E,-I,-G,-List.map_map];refine aBj a (R:=R) (L:=L) (Fin:=Fin) (eR:=eR) (gl:=(S.length:Int)-eR) (fE:=fE) (S:=S) (by omega) S 0 L (by simp) (C0 _) c (λd _=>by omega) z _ _ 5 ej o ps _ ⟨by simp,by simp,by simp,by simp,by simp,m,D,k,r⟩ (by simp) λAu AM p=> ?_;have AN:=p.Jp;have AO:=p.LD;have J:AM.W 5=some ⟨[Y u.ext,M (u.Bz.map Cc) 4,M (u.Aa.map Ce) 4,M (u.A5.map Bd) 7,M (u.A1.map CB) 3,M (u.Ay.map B3) 17,M (u.A7.map Cd) 2,Ag L,AH R],true⟩:=p.Jn;have Av:=F J;have AP:=Qp (n:=7) p.DR;have Aw:Bk Fin:=by have:=(dN (R:=R) (l:=S) c).1;rw[z]at this;exact this
 have AR:L0 u R Fin=true:=dM.2 ((Yf a.ok).2 AD);simp(disch:=first|omega|simp only[DI.A2];omega)[ao,AN,AO,J,AP,AR,-H,-E,-I,-G,-List.map_map]
abbrev L5:CX:= .slice (.int .i64)
theorem Xo(d:L5.FO):Wy L5 d=AH (Im (e:= .int .i64) d):=rfl
theorem a5K(d:(CX.int .i64).FO):Wy (.int .i64) d=Y d:=rfl
theorem a1a{l:List e.FO}(h:QA (.slice e) l):l.length<=140737488355328:=by have:=e.aAX h.1;simp only[reachBytes]at this;exact Dh this (by omega)
variable{d:L5.FO}
theorem dL(h:QA L5 d):(Im (e:= .int .i64) d).length<=140737488355328:=a1a (e:= .int .i64) h
theorem a6D(m:V)(a:List Value)(h:MU m [L5] a):Aq U 13 a m λr _=>r= .bool true:=by
 refine kR (λts b=> ?_) m a h;cases b with
 | @cons _ d _ e ok c=>cases c;rw[Xo];exact a65 (dL ok)
end Go.Proofs.YtmmkkggfmigppaaGreat
namespace Go.Proofs.YtmmkkggfmigppaaGreat.rebalanceStepsDone
open Go.ChangeShapes Go.WideShapes Go.ChangeAt Go.RowKit
section
theorem own:ownKnob Tryz.prog.godebug=none:=by kernel_rfl
theorem laidOut:laidOutB Tryz.prog=true:=by kernel_rfl
theorem mixed:Tryz.prog.follows .mixedOrders=true:=by kernel_rfl
set_option maxRecDepth 100000 in
theorem lifted(os:Os)(s:os.Started)(u:Type)(enc:TypeId×Value->u):
 ReturnsInHanded {} Tryz.checked os 13 .any (Rows.rebalanceStepsSpec.pre6 enc Tryz.prog Tryz.f13 Rows.rebalanceStepsRow.domain false) (Rows.rebalanceStepsSpec.post enc Tryz.prog Tryz.f13 false true false false):=by
 refine returnsInHanded_of_change_sized (C:=Tryz.checked) own s (by kernel_rfl) Tryz.func13
  (ChangeSpec.witness6 (enc:=enc) (C:=Tryz.checked) false ⟨#[],#[.slice none 0 0],[]⟩ 8 (by kernel_rfl) (by kernel_rfl) (by kernel_rfl) (by kernel_rfl)) ?_
 intro a base args ds c N d g O w _;have i: ∀(j:Nat) t v,Tryz.f13.params[j]?=some t->args[j]?=some v->Value.okWide Tryz.prog a .any base t v:=d;have y:=g;obtain⟨p,q,k,l,rfl,P,Q⟩:=g;have z:c=[]:=(trodVars_none l).1;have A: ∀n∈DataW.weightsEach Tryz.prog Tryz.f13.params.toList ds,n<=reachBytes:= λn B=>by have D:(DataW.weightsEach Tryz.prog (Tryz.f13.params.toList++Rows.rebalanceStepsSpec.plain.varTypes Tryz.prog) (ds++c)).all (· <=reachBytes)=true:=w;have:=BF.1 D n (by rw[z];simpa[Rows.rebalanceStepsSpec,ChangeSpec.plain,DataSpec.varTypes]using B);simpa using this
 have b:DataW.TrodAll enc Tryz.prog a 0 (λ_=>true) true Tryz.f13.params.toList args.toList ds p:=k;have E:=Go.DI.ij (f:=13) (n:=12) mixed (ts:=Tryz.f13.params.toList) (nR:=[L5]) (by kernel_rfl) (λj t v F G=>i j t v (by simpa using F) G) b A (λm H h=>a6D m H h);rw[Tryz.params13]at b i;obtain⟨v0,S,T,U,I,V,W,rfl,rfl,o,J⟩:=trodAll_cons b;obtain⟨rfl,rfl,rfl⟩:=trodAll_nil J;obtain rfl:args= #[v0]:=by cases args;simp_all
 obtain⟨rfl,rfl⟩:=trodVars_none l;have K: ∀x∈I,x.block<a.heap.size:=by obtain⟨m,L⟩:=o;exact DataW.trod_lt m _ _ _ L
 clear k d;refine E.mono λe X ⟨M,r⟩=> ?_;subst M;exact⟨_,rfl,_,_,_,[],_,[],y,trodAll_mk1 (shut_bool (by kernel_rfl) _),(trodAll_cons_mk (Below.trod laidOut (by kernel_rfl) (of_decide_eq_true (by kernel_rfl)) o r K) trodAll_mk0),rfl,r.frame _,λh=>by cases h⟩
set_option maxRecDepth 10000
theorem BH{a b:Bool}(h:a=true)(c:b=true):(a&&b)=true:=by rw[h,c];rfl
theorem XS:(Rows.rebalanceStepsRow.wf (OpenSpec.ofChange Rows.rebalanceStepsSpec))=true:=by kernel_rfl
theorem K9:(laidOutB Tryz.pinned.checked.prog)=true:=by kernel_rfl
theorem KE:(mapsRowed Tryz.pinned.checked.prog)=true:=by kernel_rfl
theorem LU:(Tryz.f13.params.all (Tryz.pinned.checked.prog.readableRec ·))=true:=by kernel_rfl
theorem O8:(namedTie Tryz.pinned.checked.prog Rows.rebalanceStepsRow.named Rows.rebalanceStepsSpec.vars)=true:=by kernel_rfl
theorem JL:((Rows.rebalanceStepsRow.stops==[]))=true:=by kernel_rfl
theorem Nj:((Tryz.pinned.checked.prog.stops==[]))=true:=by kernel_rfl
theorem O6:((Rows.rebalanceStepsRow.knobs==[]))=true:=by kernel_rfl
theorem QJ:((Tryz.pinned.checked.prog.stopKnobs==[]))=true:=by kernel_rfl
theorem O7:((Rows.rebalanceStepsRow.inPlace==Tryz.pinned.checked.prog.inPlace 13))=true:=by kernel_rfl
theorem UD:((Rows.rebalanceStepsRow.unfollowed==Tryz.pinned.checked.prog.unfollowed 13))=true:=by kernel_rfl
theorem Tq:((Rows.rebalanceStepsRow.recurses==Tryz.pinned.checked.prog.recurses 13))=true:=by kernel_rfl
theorem U9:((Rows.rebalanceStepsRow.named==Tryz.pinned.checked.prog.varsNamed 13))=true:=by kernel_rfl
theorem Tk:((Rows.rebalanceStepsRow.maps==(Tryz.f13.params.toList++Rows.rebalanceStepsSpec.plain.varTypes Tryz.pinned.checked.prog).any (Tryz.pinned.checked.prog.mapsRec ·)))=true:=by kernel_rfl
theorem W4:((Rows.rebalanceStepsRow.ifaces==(Tryz.f13.params.toList++Rows.rebalanceStepsSpec.plain.varTypes Tryz.pinned.checked.prog).any (Tryz.pinned.checked.prog.ifacesRec ·)))=true:=by kernel_rfl
theorem Ux:((Rows.rebalanceStepsRow.mapsOut==Tryz.pinned.checked.prog.mapsAmong Tryz.f13.resultTypes.toList))=true:=by kernel_rfl
theorem W1:((Rows.rebalanceStepsRow.loops==(Tryz.f13.params.toList++Rows.rebalanceStepsSpec.plain.varTypes Tryz.pinned.checked.prog).any (Tryz.pinned.checked.prog.loopsFrom ·)))=true:=by kernel_rfl
theorem UJ:((Rows.rebalanceStepsRow.wideKeys==(Tryz.f13.params.toList++Rows.rebalanceStepsSpec.plain.varTypes Tryz.pinned.checked.prog++Tryz.f13.resultTypes.toList).any (Tryz.pinned.checked.prog.wideKeysFrom ·)))=true:=by kernel_rfl
theorem Vc:(Rows.rebalanceStepsSpec.vars.all (Tryz.pinned.checked.prog.varReadable ·))=true:=by kernel_rfl
theorem Uu:(Tryz.f13.resultTypes.all (λt=>Tryz.pinned.checked.prog.readableRec t&&decide (t<Tryz.pinned.checked.prog.types.size)))=true:=by kernel_rfl
theorem WH:((Rows.rebalanceStepsRow.ifacesOut==Tryz.f13.resultTypes.toList.any (Tryz.pinned.checked.prog.ifacesRec ·)))=true:=by kernel_rfl
theorem V4:((Rows.rebalanceStepsRow.loopsOut==Tryz.f13.resultTypes.toList.any (Tryz.pinned.checked.prog.loopsFrom ·)))=true:=by kernel_rfl
theorem VB:((Rows.rebalanceStepsRow.plainKeys==Tryz.pinned.checked.prog.plainKeys))=true:=by kernel_rfl
theorem Uj:(Rows.rebalanceStepsRow.shortTexts.isNone)=true:=by kernel_rfl
theorem W7:(Tryz.pinned.checked.prog.stopsHeard)=true:=by kernel_rfl
theorem WG:(Tryz.pinned.checked.prog.mayEnter)=true:=by kernel_rfl
theorem Vb:((Rows.rebalanceStepsRow.lifted==Tryz.pinned.checked.prog.liftsFinal))=true:=by kernel_rfl
theorem Up:((Tryz.pinned.checked.prog.make==some Rows.rebalanceStepsRow.make))=true:=by kernel_rfl
theorem VE:((Rows.rebalanceStepsRow.kinds==(if Rows.rebalanceStepsRow.domain.isEmpty then[]else Tryz.f13.params.toList.map λt=>match Tryz.pinned.checked.prog.underlying t with|some (.int k)=>some k|_=>none)))=true:=by kernel_rfl
theorem VO:((Rows.rebalanceStepsRow.pinned==Rows.rebalanceStepsRow.pinnedBy))=true:=by kernel_rfl
theorem Wc:((Rows.rebalanceStepsRow.veiled==(Tryz.f13.params.toList++Rows.rebalanceStepsSpec.plain.varTypes Tryz.pinned.checked.prog++Tryz.f13.resultTypes.toList).any (Tryz.pinned.checked.prog.veiledRec ·)))=true:=by kernel_rfl
theorem Ve:(Rows.rebalanceStepsRow.veiledFits Tryz.pinned.checked.prog Tryz.f13.params.toList (Tryz.f13.params.toList++Rows.rebalanceStepsSpec.plain.varTypes Tryz.pinned.checked.prog++Tryz.f13.resultTypes.toList))=true:=by kernel_rfl
theorem Vq:joinedFacts Tryz.pinned.checked.prog 13 Tryz.f13 Rows.rebalanceStepsSpec Rows.rebalanceStepsRow=true:=(BH (BH (BH (BH (BH (BH (BH (BH (BH (BH (BH (BH (BH (BH (BH (BH (BH (BH (BH (BH (BH (BH (BH (BH (BH (BH (BH (BH (BH (BH (BH XS K9) KE) LU) O8) JL) Nj) O6) QJ) O7) UD) Tq) U9) Tk) W4) Ux) W1) UJ) Vc) Uu) WH) V4) VB) Uj) W7) WG) Vb) Up) VE) VO) Wc) Ve)
theorem over:Rows.rebalanceStepsRow.holds Tryz.pinned (OpenSpec.ofChange Rows.rebalanceStepsSpec):=
 OpenClaim.holds_of_wide 13 Tryz.f13 rfl rfl rfl rfl rfl rfl rfl ⟨rfl,rfl,rfl,rfl,rfl⟩ rfl rfl rfl rfl rfl (by kernel_rfl) Tryz.func13 Vq
  (of_decide_eq_true (by kernel_rfl)) (by unfold Func.isWrapper;first|(rw[if_pos (by decide+kernel)];kernel_rfl)|(rw[if_neg (by decide+kernel)];exact⟨rfl,rfl⟩))
  (λos a b enc _=>lifted os a b enc)
theorem proved:Rows.RebalanceStepsSaid:=over
#print axioms proved
end
end Go.Proofs.YtmmkkggfmigppaaGreat.rebalanceStepsDone
