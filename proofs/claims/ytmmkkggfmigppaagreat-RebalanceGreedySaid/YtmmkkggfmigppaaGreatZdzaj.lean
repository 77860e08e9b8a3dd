/-
  For every input the law returns true, and each argument reads behind the call as it read before. The last part of the proof; tools of ours have shortened it.
-/
import Derived.ProofKit
import Derived.ShutString
import Derived.Below
import Derived.Carry
import Derived.Test.YtmmkkggfmigppaaGreatZdzai
set_option linter.all false
set_option maxRecDepth 20000
set_option maxHeartbeats 16000000
noncomputable section
namespace Go.Proofs.YtmmkkggfmigppaaGreat
open Go Go.DI Go.Big Go.EL
variable{R l:List Int}{u:AL}{L S:List (List Int)}{Q:BM->A2->X->Prop}{A:A2}{mj:Int}{ps:List Nat}
theorem a6b(h:B4 u):Bh V 58 [.agg (A7 u).toArray,AK R] Cl λv m=> ∃o,v=AM o u.A4.length 1/\m.Y o=some ⟨(DM u R).map Z,true⟩:=by
 have A:=h.ok.Es;refine Ax (aC:=⟨[],[jE u h]⟩) we.2 ?_;simp[we,oc,A7];refine Cc (aC:=⟨[],[]⟩) (λi a t=>(∃o,a 5=AM o u.A4.length 1/\t.Y o=some ⟨D4 u.A4.length (λd=>if d<i then Z (max (CN u R d-1) 0)else Z (CN u R d)),true⟩)/\a 6=Z i) u.A4.length ?_ ?_ 0 _ _ (C8 _) ⟨⟨2,by simp,?_⟩,by simp⟩
 ·rintro i a t f ⟨⟨o,b,e⟩,g⟩ B q;have r:=E e;have s:(i:Int)<u.A4.length:=(by omega);have C:=Wp h.ok R f;have w:=BZ (n:=i) (by omega);have x:IntKind.i64.wrap (CN u R i-1)=CN u R i-1:=Ac (by omega) (by omega);have y:i+1<=u.A4.length:=f;have z:List.take 1 (List.drop i (D4 u.A4.length (λd=>if d<i then Z (max (CN u R d-1) 0)else Z (CN u R d))))=[Z (CN u R i)]:=m2 ((GH f).trans (by rw[if_neg (Nat.lt_irrefl i)]));simp[gM,Xe,b,g,e,s,y,z,w,x,LJ];refine q _ _ ⟨⟨o,by simp[b],?_⟩,by simp⟩;rw[AR r];congr 2;refine HS λj k=> ?_;by_cases c:j=i
  ·subst c;rw[if_pos rfl,if_pos (Nat.lt_succ_self _)];congr 1;split<;>omega
  ·rw[if_neg c];by_cases l:j<i
   ·rw[if_pos l,if_pos (by omega)]
   ·rw[if_neg l,if_neg (by omega)]
 ·rintro a t ⟨⟨o,b,e⟩,g⟩;simp[gM,Xe,Xe,b,g];rw[e,DM,OX];congr 2;exact HS λj k=>if_pos k
 ·rw[AR (by simp),MZ,OX];rfl
theorem aBU(h:B4 u):AO V 58 [.agg (A7 u).toArray,AK R] (AK (DM u R)):=
 Sq (n:=u.A4.length) (by rw[E9,gH]) K7 (by rw[Jd];exact a6b h)
abbrev mE(u:AL)(h:B4 u):AN V:= .B9 58 (List Int) (λ_=>True) (λx=>[.agg (A7 u).toArray,AK x]) (λx=>AK (DM u x)) λ_ _=>aBU h
@[simp] theorem aFw{h:B4 u}:(mE u h).fn [.agg #[Z u.ext,O (u.Bu.map CS) 4,O (u.Af.map CX) 4,O (u.A5.map Bq) 7,O (u.A4.map Bx) 3,O (u.B7.map BE) 17,O (u.A3.map CW) 2],O (l.map λx=>[Z x]) 1]=some (AK (DM u l)):=AN.BH (x:=l) trivial λy a=>by simpa using a
abbrev oT(u:AL)(h:B4 u)(c:1<=u.A3.length)(R:List Int)(L:List (List Int))(d:CP L)(e:Cs u L=true)(f:L.length=u.A3.length):Cp V:= .B9 104 Unit (λ_=>[.agg (A7 u).toArray,Bf L,AK R]) (λ_ t=>some (.tuple #[.agg #[Z (C9 u R L).AS,Z 0,Z 1,AM t.ac (As u R L).length 4],Z 0],C4 t.ac [BI (As u R L)] (t.AE 1))) λ_ t r g i a7 j=>by cases i;exact(a2W h c d e f t).AD λr g ⟨a,b⟩=>by rw[a,b];exact j
@[simp] theorem aHC{h:B4 u}{a:1<=u.A3.length}{b:CP L}{c:Cs u L=true}{d:L.length=u.A3.length}{t:X}:(oT u h a R L b c d).fn [.agg #[Z u.ext,O (u.Bu.map CS) 4,O (u.Af.map CX) 4,O (u.A5.map Bq) 7,O (u.A4.map Bx) 3,O (u.B7.map BE) 17,O (u.A3.map CW) 2],O (L.map Bz) 1,O (R.map λx=>[Z x]) 1] t=some (.tuple #[.agg #[Z (C9 u R L).AS,Z 0,Z 1,AM t.ac (As u R L).length 4],Z 0],C4 t.ac [BI (As u R L)] (t.AE 1)):=Cp.BH (x:=()) (t:=t) λ_ _=>rfl
theorem aBM(Av:S.length=L.length)(AI: ∀s∈S,s.length<=1000/\(∀d∈s,0<=d)/\s.Nodup)(A4:CP L){bc jT lk W pa:Nat}{t0:X}
 (g:E4 t0 bc ps S) (u:t0.Y jT=some ⟨[AM pa 0 1,Z mj,AM lk W 1],true⟩) (v:t0.Y pa=some ⟨[],true⟩) (h:jT≠bc/\jT∉ps/\pa≠jT/\pa≠bc/\pa∉ps)
 (B:A 1=Bf L) (x:A 13=AM bc L.length 1) (y:A 14=AG jT) (C:A 15=Z 0)
 (AJ: ∀N G f,G.Y jT=some ⟨[AM f L.length 1,Z mj,AM lk W 1],true⟩->G.Y f=some ⟨(Du S L).map AK,true⟩->f≠jT->f=pa\/t0.ac<=f->t0.ac<=G.ac->(∀b,b<t0.ac->b≠jT->b≠pa->b∉ps->G.Y b=t0.Y b)->N 6=A 6->N 14=AG jT->Q (.Ao 0) N G):Bc V (.loop aZ) A t0 Q:=by
 have Aw:=E g.Dk;have Ax:=A4.1;have AL:(Du S L).length=L.length:=by rw[Du,List.length_zipWith];omega
 refine Cc (aC:=⟨[nY],[]⟩) (λi k t=>(∃f,t.Y jT=some ⟨[AM f i 1,Z mj,AM lk W 1],true⟩/\t.Y f=some ⟨((Du S L).take i).map AK,true⟩/\f≠jT/\(f=pa\/t0.ac<=f))/\(t.Y bc=some ⟨D7 ps S,true⟩/\ ∀j p s,i<=j->ps[j]?=some p->S[j]?=some s->t.Y p=some ⟨s.map Z,true⟩)/\t0.ac<=t.ac/\(∀b,b<t0.ac->b≠jT->b≠pa->b∉ps->t.Y b=t0.Y b)/\k 6=A 6/\k 1=Bf L/\k 13=AM bc L.length 1/\k 14=AG jT/\k 15=Z i) L.length ?_ ?_ 0 A t0 (C8 _) ⟨⟨pa,u,by simpa using v,h.2.2.1,.inl rfl⟩,⟨g.Dk,λj p s _ AN AO=>g.Ds j p s AN AO⟩,Aj _,λb _ _ _ _=>rfl,rfl,B,x,y,C⟩
 ·rintro i k t AQ ⟨⟨f,u,v,P,z⟩,⟨R,A5⟩,A6,T,U,B,x,y,C⟩ Az AR;obtain⟨r,A0⟩:=Cb AQ;have AS:=(Ae.1 A0).2;obtain⟨s,K⟩: ∃s,S[i]?=some s:=⟨_,AP (by omega)⟩;have AT:r.length<=1000:=A4.2 r (B5 A0);obtain⟨AU,AV,AW⟩:=AI s (B5 K);have AX:=a9c (S:=s) (a2:=r) ⟨⟨AT,AU⟩,AV,AW⟩;obtain⟨p,A7,J,_,AY,AZ⟩:=g.HF K;have M:=A5 i p s (Aj _) A7 K;have Aa:(Du S L)[i]?=some (F0 s r):=(by rw[Du,Tn,K,A0]);have Ac:(Du S L).take (i+1)=(Du S L).take i++[F0 s r]:=(by rw[N9,Aa];rfl);have B1:=E R;have A8:=E M;have B2:=E u;have B4:=E v;have Af:(i:Int)<L.length:=(by omega);have Ag:=BZ (n:=i) (by omega);have Ah: ¬f=bc:= λe=>z.elim (λq=>h.2.2.2.1 (by omega)) λq=>by omega
  have Ai:DI.B3 9 (t.AE 15) (AM p s.length 1)=some (AK s):=by
   have:=Ww (n:=7) (i:=s.length) (t:=t.AE 15) (o:=p) (l:=s) (w:=true) (by rw[Ab A8];exact M) (Aj _)
   rwa [FJ]at this
  have Ak:BL 9 (t.AE 15) (AM p s.length 1)=[p]:=s3 (by rw[Ab A8];exact M);have Al: ¬p=f:= λe=>z.elim (λq=>h.2.2.2.2 (by rw[<-q,<-e];exact J)) λq=>by have:=g.K9 J;omega
  have Am: ¬p=jT:= λe=>h.2.1 (e▸J);have An: ¬p=bc:= λe=>g.F7 (e▸J);have B6: ¬f=p:= λe=>Al e.symm;have B7: ¬jT=p:= λe=>Am e.symm;have B8: ¬bc=p:= λe=>An e.symm;have B9: ¬jT=f:= λe=>P e.symm;have BA: ¬jT=bc:=h.1;have BB: ¬bc=jT:= λe=>h.1 e.symm;have BC:(((Du S L).take i).map AK).length=i:=(by rw[E9,IG];omega);have BD:List.take i (((Du S L).take i).map AK)=((Du S L).take i).map AK:=DP (by omega);have Ap:((i:Int)+1)*24<=140737488355328/\(i+1)*24<=140737488355328/\i<=9223372036854775806:=(by omega);simp(disch:=first|omega|simp only[DI.AB];omega)[aZ,B,x,y,C,Af,AS,Bz,u,v,R,M,AY,AZ,AX,Ap,Ag,Ai,Ak,-H,-D,-I,-F,-List.map_map];have Aq:List.take i (List.take i ((Du S L).map AK))++[O ((F0 s r).map λs=>[Z s]) 1]=((Du S L).take (i+1)).map AK:=by rw[Ac,Gs,List.take_take,Nat.min_self,List.map_take];rfl
  refine AR _ _ ⟨⟨t.ac+12,?_,?_,by omega,.inr (by omega)⟩,⟨?_,λj m Ar BE A1 As=> ?_⟩,by simp;omega,λb hb At A9 AA=> ?_,by simp[U],by simp[B],by simp[x],by simp[y],by simp⟩
  ·simp(disch:=first|omega|simp only[DI.AB];omega)[-H,-D,-I,-F,-List.map_map]
  ·rw[<-Aq];have A2: ¬t.ac+12=jT:=by omega
   simp(disch:=first|omega|simp only[DI.AB];omega)[-H,-D,-I,-F,-List.map_map]
  ·have A2: ¬bc=t.ac+12:=by omega
   have AD: ¬bc=t.ac+11:=by omega
   have AF: ¬bc=f:= λe=>Ah e.symm;simp(disch:=first|omega|simp only[DI.AB];omega)[R,-H,-D,-I,-F,-List.map_map]
  ·have A3:=B5 A1;have BF:=g.K9 A3;have Au: ¬m=p:= λe=>by
    subst e;have a:=Ae.1 A7;have c:=Ae.1 A1;have BG:=Mb.1 g.Cg
    grind
   have A2: ¬m=t.ac+12:=by omega
   have AD: ¬m=t.ac+11:=by omega
   have BH: ¬m=jT:= λe=>h.2.1 (e▸A3);have AF: ¬m=f:= λe=>z.elim (λq=>h.2.2.2.2 (by rw[<-q,<-e];exact A3)) λq=>by omega
   refine Eq.trans ?_ (A5 j m Ar (by omega) A1 As);have BI:m<t.ac:=by omega
   simp(disch:=first|omega|simp only[DI.AB];omega)[-H,-D,-I,-F,-List.map_map]
  ·have Au: ¬b=p:= λe=>AA (e▸J);have A2: ¬b=t.ac+12:=by omega
   have AD: ¬b=t.ac+11:=by omega
   have AF: ¬b=f:= λe=>z.elim (λq=>A9 (by rw[e,q])) λq=>by omega
   have BJ:b<t.ac:=by omega
   refine Eq.trans ?_ (T b hb At A9 AA);simp(disch:=first|omega|simp only[DI.AB];omega)[-H,-D,-I,-F,-List.map_map]
 ·rintro k t ⟨⟨f,u,v,P,z⟩,_,A6,T,U,B,x,y,C⟩;simp(disch:=first|omega|simp only[DI.AB];omega)[aZ,x,C,-H,-D,-I,-F,-List.map_map];refine AJ _ _ f u ?_ P z A6 T (by simp[U]) (by simp[y]);rw[v,<-AL,FJ]
def a7c(u:AL)(R:List Int)(L:List (List Int))(v:Value):Prop:=
 (¬OK u R/\v= .tuple #[.agg #[.slice none 0 0,Z 0,.slice none 0 0],Z 12])\/
 ∃a p b,HQ (C9 u R L) (Dr u) a p/\v= .tuple #[.agg #[Bf (E2 u R L a),Z (EH L (E2 u R L a)),AK b],Z 0]
theorem a3f(h:B4 u)(U:1<=u.A3.length)(AW:CP L)(C:Cs u L=true):Oo V 57 [.agg (A7 u).toArray,Bf L,AK R] (a7c u R L):=by
 obtain⟨A2,BO⟩:=RY C;have BQ:=h.ok.EF;have BR:=h.ok.D6;have AX:=oC h.ok R L λa M=>rv h.ok M;have AA:=gD h.ok (i:=u.A3.length) (Aj _);rw[show Cv u u.A3.length=Dr u from rfl]at AA;have BS:(As u R L).length=(Ak u R).length:=by simp[As]
 have BT:=Oa h.ok (R:=R);refine hr (Ax (aC:=⟨[tJ u h],[oT u h U R L AW C A2]⟩) qt.2 ?_);simp[qt,y2,A7];obtain⟨x,y⟩: ∃x,x=(((((((Cl.AE 3).A1 0 (some ⟨A7 u,true⟩)).A1 1 (some ⟨[.slice none 0 0,Z 0,.slice none 0 0],true⟩)).AE 10).AE 1).A1 13 (some ⟨BI (As u R L),true⟩)).A1 10 (some ⟨[Z (C9 u R L).AS,Z 0,Z 1,AM 13 (As u R L).length 4],true⟩)):=⟨_,rfl⟩;have AF:x.Y 0=some ⟨A7 u,true⟩:=by rw[y];simp[A7]
 have f:x.Y 1=some ⟨[.slice none 0 0,Z 0,.slice none 0 0],true⟩:=by rw[y];simp
 have A4:x.Y 13=some ⟨BI (As u R L),true⟩:=by rw[y];simp
 have AI:x.Y 10=some ⟨[Z (C9 u R L).AS,Z 0,Z 1,AM 13 (As u R L).length 4],true⟩:=by rw[y];simp
 have A5:x.ac=14:=by rw[y];simp
 simp only[A7]at y;rw[<-y];clear y;have B0:(C9 u R L).A0≠[]:= λe=>by have N:(As u R L).length=0:=(by show(C9 u R L).A0.length=0;rw[e];rfl);have:=p9 U (R:=R);exact this (M0 (by show(Ak u R).length=0;omega))
 refine(a1a (n:=C9 u R L) (gO:=Dr u) (λv m A=>by obtain⟨_,_,_,_,_,g,AY,G,_⟩:=tX AX A (by show(As u R L).length<_;omega) (gO:=Dr u) AA.1;exact a3W AX A G AA.1 (by omega)) B0 A4).AD λr B ⟨g,AY,AJ,AL⟩=> ?_;rcases AL with⟨AZ,rfl,rfl⟩|⟨AZ,c,p,q,G,BV,rfl,J⟩
 ·have B5: ¬OK u R:= λ⟨BW,Aa,BY⟩=>by
   have B6:=IU (L:=L).1.2 Aa;have:=JL (XK h.ok R L) B6 (s:=PX AY) AJ.Ad AJ.Aq;rw[<-AJ.val,IU.2 Aa]at this;omega
  have AN:=E f;simp(disch:=omega)[lo,fC,ko,f];exact .inl ⟨B5,rfl⟩
 ·obtain⟨ps,Ac⟩: ∃ps,ps=JE (C9 u R L).AS.toNat q:=⟨_,rfl⟩;have Ae:ps.length=(C9 u R L).AS.toNat:=(by rw[Ac,oM]);rw[<-Ac]at J;have O: ∀b,b<14->B.Y b=x.Y b:= λb hb=>by rw[J,N0,A6 (by omega),Ab (by simp;omega),A6 (by omega),Ab (by omega)]
  have B7:B.Y 14=some ⟨c.map Z,true⟩:=(by rw[J,N0,A5,A6 (by omega),Ab (by simp;omega),AR (by simp;omega)]);have K:B.Y 15=some ⟨ps.map Z,true⟩:=(by rw[J,N0,A5,AR (by simp;omega)]);have B8:B.ac=16:=by rw[J,N0];simp[A5]
  have AF:=(O 0 (by omega)).trans AF;have f:=(O 1 (by omega)).trans f;have A4:=(O 13 (by omega)).trans A4;have AI:=(O 10 (by omega)).trans AI;clear O J;have B9:c.length=(As u R L).length:=G.OH.Da.1;have BZ:0<B.ac:=by omega
  have AN:1<B.ac:=by omega
  have Ba:10<B.ac:=by omega
  have A8:=(IU (L:=L)).1.1 G.OH;have Bb:value (D0 u R) c=Dr u:=(by rw[<-(IU (L:=L)).2 A8];exact G.val);have Af:=qf h.ok C A8 (by omega);obtain⟨P,BA⟩:=WN h.ok C A8 (by omega);have A9:E2 u R L c=Du (EA u (As u R L) c (As u R L).length) L:=rfl;have BB:EA u (As u R L) c (As u R L).length=Gz u (Ak u R) c (List.replicate u.A3.length []):=(by unfold EA;rw[DP (by rw[List.length_zip];omega)];refine iV h.ok (λa M=>M) λAg BC=> ?_;obtain⟨i,BD,e⟩:=E5 BC;have BE:i<(Ak u R).length:=(by omega);exact(A8.Da.2 i _ Ag (AP BE) (by rw[AP BD,e])).1);have Ah:(EA u (As u R L) c (As u R L).length).length=L.length:=(by rw[kb,A2]);have Ai: ∀s∈EA u (As u R L) c (As u R L).length,s.length<=1000/\(∀d∈s,0<=d)/\s.Nodup:= λs C=>by have U:=Pu _ s C;obtain⟨v,A,e⟩:=E5 C;have N:=BA v (by omega);rw[AP A,e]at N;cases N;refine⟨by omega,λd BF=> ?_,Ql h.ok (λa M=>M) (Sw h.ok)⟩;obtain⟨i,a,Ag,U,AZ,Bc,Bd,Be,Bg⟩:=PI BF;omega
  rw[A5];simp[lo,AF,AI,B8,A7];have Al:=aBE h (R:=R) (W:=L) B9 (t:=B) A4 B7;simp only[A7]at Al;refine Al.AD λv t3 ⟨o,Am,A,Q,Bh,An,Bii,BH⟩=> ?_;subst A;rw[<-BB]at Q;have f:=(An 1 AN).trans f;have K:=(An 15 (by omega)).trans K;have Bj:16<=t3.ac:=by omega
  simp(disch:=first|omega|simp only[DI.AB];omega)[fC];rw[<-A9]at Af;rw[<-A9]at P;have Bk:CP (E2 u R L c):=⟨by have:=P.len;omega,λr AL=>by obtain⟨v,A,e⟩:=E5 AL;have N:(E2 u R L c)[v]?=some r:=(by rw[AP A,e]);have:=P.Ds v r N;have:=(L3 h.ok (v:=v) (by have:=P.len;omega)).2;omega⟩;generalize EA u (As u R L) c (As u R L).length=S at Q Ai Ah A9;have AO: ∀p∈Am,p<t3.ac:= λp AQ=>Q.K9 AQ
  have Bl:=E Q.Dk;refine Nd (o:=t3.ac+3) (j:=0) (z:=1) (cs:=[.slice none 0 0,Z (Eg (C9 u R L).A0 c),AM 15 (C9 u R L).AS.toNat 1]) (by rw[AR (by simp)]) rfl ?_;refine aBM (S:=S) (L:=L) Ah Ai AW (bc:=o) (jT:=t3.ac+3) (lk:=15) (W:=(C9 u R L).AS.toNat) (mj:=Eg (C9 u R L).A0 c) (pa:=t3.ac+5) (ps:=Am) (Q.AD ?_ λp AQ=> ?_) ?_ ?_ ⟨by omega,λT=>by have:=AO _ T;omega,by omega,by omega,λT=>by have:=AO _ T;omega⟩ (by simp) (by simp[A2]) (by simp) (by simp) λBJ t4 AT Ap Ar Bq At BK Av AU BL=> ?_
  ·simp(disch:=first|omega|simp only[DI.AB];omega)[-H,-D,-I,-F,-List.map_map]
  ·have Br:=AO p AQ;simp(disch:=first|omega|simp only[DI.AB];omega)[-H,-D,-I,-F,-List.map_map]
  ·simp(disch:=first|omega|simp only[DI.AB];omega)[-H,-D,-I,-F,-List.map_map]
  ·simp(disch:=first|omega|simp only[DI.AB];omega)[-H,-D,-I,-F,-List.map_map]
  simp only[Au,B1]at BK Av At;have Bs:=E Ap;have Bt:=E Ar;have AU:BJ 6=AG 1:=(by rw[AU];simp);have Aw: ∀b,b<16->t4.Y b=t3.Y b:= λb hb=>by
   rw[Av b (by omega) (by omega) (by omega) λT=>by have:=BH _ T;omega];have Bu: ¬b=t3.ac+3:=by omega
   have Bv: ¬b=t3.ac+5:=by omega
   have Bw:b<t3.ac:=by omega
   simp(disch:=first|omega|simp only[DI.AB];omega)[-H,-D,-I,-F,-List.map_map]
  have f:=(Aw 1 (by omega)).trans f;have K:=(Aw 15 (by omega)).trans K;have AN:=E f;have Bx:=E K;have Ay: ¬AT=1:= λe=>At.elim (λq=>by omega) λq=>by omega
  have By: ¬1=AT:= λe=>Ay e.symm;have Bz: ¬t3.ac+3=1:=by omega
  have C0: ¬1=t3.ac+3:=by omega
  simp(disch:=omega)[ko,AU,BL,Ap,f];generalize Az:X.A1 t4 _ _=AV;have BM:DI.B3 7 AV (AM AT L.length 1)=some (Bf (E2 u R L c)):=hB (k:=6) (w:=true) (by rw[<-Az,A6 Ay,Ar,A9]) (by rw[P.len,A2]);have BN:DI.B3 7 AV (AM 15 (C9 u R L).AS.toNat 1)=some (AK ps):=by
   have:=Ww (n:=5) (i:=(C9 u R L).AS.toNat) (t:=AV) (o:=15) (l:=ps) (w:=true) (by rw[<-Az,A6 (by omega)];exact K) (by omega)
   rwa [<-Ae,FJ,Ae]at this
  simp only[BM,BN];exact⟨_,rfl,.inr ⟨c,p,ps,G,by rw[Af];rfl⟩⟩
abbrev mR(u:AL)(h:B4 u)(b:1<=u.A3.length):AN V:= .B9 56 (List (List Int)×List Int) (λx=>CP x.1/\Cs u x.1=true) (λx=>[.agg (A7 u).toArray,Bf x.1,AK x.2]) (λx=> .bool (Lo u x.2 x.1)) λx a=>a1d h b a.1 a.2
theorem yg{h:B4 u}{B:1<=u.A3.length}(a:CP L/\Cs u L=true):(mR u h B).fn [.agg #[Z u.ext,O (u.Bu.map CS) 4,O (u.Af.map CX) 4,O (u.A5.map Bq) 7,O (u.A4.map Bx) 3,O (u.B7.map BE) 17,O (u.A3.map CW) 2],O (L.map Bz) 1,O (R.map λx=>[Z x]) 1]=some (.bool (Lo u R L)):=AN.BH (x:=(L,R)) a λ⟨c,d⟩ b=>by simpa using b
theorem aBh{order:List Int}(AI:l.length<=140737488355328)(Ai:order.length<=140737488355328):AO V 16 [AK l,AK order] (.bool true):=by
 obtain⟨u,L,R,Aj,g,P,Q,Ak,Al,Am,AJ⟩:=a1W AI;have b:=qO g (by decide);have q:=a5p b P Q;have f:=a4C (u:=u) (L:=L) P Q;have An:1<=u.A4.length/\u.A4.length<=9:=g.Es;have Ap:=g.EF;have Aq:=b.ok.EF;refine BQ (Ax (aC:=⟨[kf,mR u b g.EF.1,mE u b],[xz]⟩) iH.2 ?_);by_cases c:40<order.length
 ·have J:(40:Int)<order.length:=(by omega);simp(disch:=first|omega|simp only[DI.AB];omega)[iH,jj,cR,X8,fA,J,-H,-D,-I,-F,-List.map_map]
 have J: ¬(40:Int)<order.length:=by omega
 simp(disch:=first|omega|simp only[DI.AB];omega)[iH,jj,J,-H,-D,-I,-F,-List.map_map];refine(AJ _).AD λv w ⟨j,AL⟩=> ?_;subst j;have AN:=E AL;have As:12<w.ac:=AN
 have AQ:(A7 u++[Bf L,AK R]).length=9:=rfl;have AS:CV [Value.int IntKind.i64 0,Value.slice none 0 0,Value.slice none 0 0,Value.slice none 0 0,Value.slice none 0 0,Value.slice none 0 0,Value.slice none 0 0,Value.slice none 0 0,Value.slice none 0 0] 0 (A7 u++[Bf L,AK R])=A7 u++[Bf L,AK R]:=by simp[CV,A7]
 have AT:5<w.ac:=by omega
 simp(disch:=first|omega|simp only[DI.AB];omega)[AQ,AS,-H,-D,-I,-F,-List.map_map];have n:(w.A1 5 (some ⟨A7 u++[Bf L,AK R],true⟩)).Y 5=some ⟨[Z u.ext,O (u.Bu.map CS) 4,O (u.Af.map CX) 4,O (u.A5.map Bq) 7,O (u.A4.map Bx) 3,O (u.B7.map BE) 17,O (u.A3.map CW) 2,Bf L,AK R],true⟩:=AR AT;generalize w.A1 5 _=k at n⊢;have AU:=E n;have S:=q.1;have T:= λR=>yg (h:=b) (B:=g.EF.1) (L:=L) (R:=R) ⟨S,f⟩;cases x:Lo u R L with
 | false=>simp(disch:=first|omega|simp only[DI.AB];omega)[cR,X8,fA,n,T,x,-H,-D,-I,-F,-List.map_map]
 | true=>
   simp(disch:=first|omega|simp only[DI.AB];omega)[cR,n,T,x,-H,-D,-I,-F,-List.map_map];refine((a3f b g.EF.1 S f (R:=DM u R)).c4 (λv j=>by simp at j;rcases j with rfl|rfl|rfl<;>rfl)).AD λv t3 ⟨AV,AW⟩=> ?_;subst AW;rcases AV with⟨AX,rfl⟩|⟨d,p,z,m,rfl⟩
   ·rw[x7 b.ok f AX]at x;cases x
   have W:=Sz b.ok f m;obtain⟨AY,A0⟩:=RY f;have AZ: ∀r∈L,r.length<=8:= λr Aa=>by obtain⟨v,j,e⟩:=E5 Aa;have:=A0 v r (by rw[<-e];exact AP j);have:=(L3 b.ok (v:=v) (by omega)).2;omega
   have A2:O7 L (E2 u (DM u R) L d):=⟨by rw[AY,W.len],λv r s U Ac=>by have:=A0 v r U;have:=W.Ds v s Ac;omega⟩;have At:=a7f A2;have Au:=(a0p (Fin:=E2 u (DM u R) L d) AZ (by omega)).2;have Ae: ∀t:X,Np L t=some (AM t.ac L.length 1,C4 t.ac (F1 L t.ac) (t.AE (L.length+1))):= λt=>uD q.1 q.2.1;simp(disch:=first|omega|simp only[DI.AB];omega)[-H,-D,-I,-F,-List.map_map];obtain⟨a,A⟩: ∃a,a=(k.AE 16).A1 (k.ac+13) (some ⟨[Bf (E2 u (DM u R) L d),Z (EH L (E2 u (DM u R) L d)),AK z],true⟩):=⟨_,rfl⟩;have Av:a.ac=k.ac+16:=by rw[A];simp
   have K:a.Y 5=some ⟨[Z u.ext,O (u.Bu.map CS) 4,O (u.Af.map CX) 4,O (u.A5.map Bq) 7,O (u.A4.map Bx) 3,O (u.B7.map BE) 17,O (u.A3.map CW) 2,Bf L,AK R],true⟩:=(by rw[A,A6 (by omega),Ab AU];exact n);have A8:a.Y (k.ac+13)=some ⟨[Bf (E2 u (DM u R) L d),Z (EH L (E2 u (DM u R) L d)),AK z],true⟩:=(by rw[A];exact AR (by simp));rw[<-A];have M:k.ac+13<a.ac:=by omega
   generalize k.ac+13=C at A8 M⊢
   have A9:5<a.ac:=by omega
   have Aw:=E K;simp(disch:=first|omega|simp only[DI.AB];omega)[X8,K,Ae,-H,-D,-I,-F,-List.map_map];have G:E4 (C4 a.ac (F1 L a.ac) (a.AE (L.length+1))) a.ac (ID L a.ac) L:=r9
   have AA:(C4 a.ac (F1 L a.ac) (a.AE (L.length+1))).Y 5=_:=(Oi A9).trans ((Ab A9).trans K);have AF:(C4 a.ac (F1 L a.ac) (a.AE (L.length+1))).Y C=_:=(Oi M).trans ((Ab M).trans A8);have N:5≠a.ac/\C≠a.ac/\5∉ID L a.ac/\C∉ID L a.ac:=⟨by omega,by omega,λm=>by have:=(V3 m).1;omega,λm=>by have:=(V3 m).1;omega⟩
   generalize C4 a.ac (F1 L a.ac) (a.AE (L.length+1))=Ay at G AA AF⊢
   generalize ID L a.ac=ps at G N
   generalize a.ac=o at G N⊢
   refine r8 b (R:=R) (L:=L) f m rfl (by omega) (mj:=EH L (E2 u (DM u R) L d)) (lk:=z) (order:=order) (by omega) (GB L (E2 u (DM u R) L d)) 0 L _ _ 5 C o ps rfl (by omega) q f A2 (λv i y Ag=> .inl Ag) ⟨by simp,by simp,by simp,AA,AF,G,N⟩ (by simp) (by simp) λAz B0 Ah=> ?_;simp(disch:=first|omega|simp only[DI.AB];omega)[Ah,-H,-D,-I,-F,-List.map_map]
open Go Go.DI Go.Big
abbrev PB:CT:= .slice (.int .i64)
theorem x4(d:PB.Fy):Z1 PB d=AK (Iz (e:= .int .i64) d):=rfl
variable{e:CT}{d:PB.Fy}
theorem a3a{l:List e.Fy}(h:R9 (.slice e) l):l.length<=140737488355328:=by have:=e.a6O h.1;simp only[reachBytes]at this;exact E8 this (by omega)
theorem xt(h:R9 PB d):(Iz (e:= .int .i64) d).length<=140737488355328:=a3a (e:= .int .i64) h
theorem a2c(m:X)(a:List Value)(h:Od m [PB,PB] a):At V 16 a m λr _=>r= .bool true:=by
 refine a43 (λts b=> ?_) m a h;cases b with
 | @cons _ d _ g ok c=>
   cases c with
   | @cons _ i _ j e f=>cases f;rw[x4,x4];exact aBh (xt ok) (xt e)
end Go.Proofs.YtmmkkggfmigppaaGreat
namespace Go.Proofs.YtmmkkggfmigppaaGreat.rebalanceGreedyDone
open Go.ChangeShapes Go.WideShapes Go.ChangeAt Go.RowKit
section
theorem own:ownKnob Tryz.prog.godebug=none:=by kernel_rfl
theorem laidOut:laidOutB Tryz.prog=true:=by kernel_rfl
theorem mixed:Tryz.prog.follows .mixedOrders=true:=by kernel_rfl
set_option maxRecDepth 100000 in
theorem lifted(os:Os)(w:os.Started)(y:Type)(enc:TypeId×Value->y):
 ReturnsInHanded {} Tryz.checked os 16 .any (Rows.rebalanceGreedySpec.pre6 enc Tryz.prog Tryz.f16 Rows.rebalanceGreedyRow.domain false) (Rows.rebalanceGreedySpec.post enc Tryz.prog Tryz.f16 false true false false):=by
 refine returnsInHanded_of_change_sized (C:=Tryz.checked) own w (by kernel_rfl) Tryz.func16
  (ChangeSpec.witness6 (enc:=enc) (C:=Tryz.checked) false ⟨#[],#[.slice none 0 0,.slice none 0 0],[]⟩ 8 (by kernel_rfl) (by kernel_rfl) (by kernel_rfl) (by kernel_rfl)) ?_
 intro a base args ds i R k l S z _;have o: ∀(j:Nat) t v,Tryz.f16.params[j]?=some t->args[j]?=some v->Value.okWide Tryz.prog a .any base t v:=k;have A:=l;obtain⟨p,q,r,s,rfl,T,U⟩:=l;have B:i=[]:=(trodVars_none s).1;have D: ∀n∈DataW.weightsEach Tryz.prog Tryz.f16.params.toList ds,n<=reachBytes:= λn E=>by have F:(DataW.weightsEach Tryz.prog (Tryz.f16.params.toList++Rows.rebalanceGreedySpec.plain.varTypes Tryz.prog) (ds++i)).all (· <=reachBytes)=true:=z;have:=BR.1 F n (by rw[B];simpa[Rows.rebalanceGreedySpec,ChangeSpec.plain,DataSpec.varTypes]using E);simpa using this
 have c:DataW.TrodAll enc Tryz.prog a 0 (λ_=>true) true Tryz.f16.params.toList args.toList ds p:=r;have G:=Go.DI.aAI (f:=16) (n:=12) mixed (ts:=Tryz.f16.params.toList) (py:=[PB,PB]) (by kernel_rfl) (λj t v b H=>o j t v (by simpa using b) H) c D (λm I h=>a2c m I h);rw[Tryz.params16]at c o;obtain⟨v0,W,X,Y,J,Z,A0,rfl,rfl,u,K⟩:=trodAll_cons c;obtain⟨L,A1,A2,A3,M,A4,rfl,rfl,rfl,b,N⟩:=trodAll_cons K;obtain⟨rfl,rfl,rfl⟩:=trodAll_nil N;obtain rfl:args= #[v0,L]:=by cases args;simp_all
 obtain⟨rfl,rfl⟩:=trodVars_none s;have O: ∀x∈J,x.block<a.heap.size:=by obtain⟨m,d⟩:=u;exact DataW.trod_lt m _ _ _ d
 have P: ∀x∈M,x.block<a.heap.size:=by obtain⟨m,d⟩:=b;exact DataW.trod_lt m _ _ _ d
 clear r k;refine G.mono λe A5 ⟨Q,g⟩=> ?_;subst Q;exact⟨_,rfl,_,_,_,[],_,[],A,trodAll_mk1 (shut_bool (by kernel_rfl) _),(trodAll_cons_mk (Below.trod laidOut (by kernel_rfl) (of_decide_eq_true (by kernel_rfl)) u g O) (trodAll_cons_mk (Below.trod laidOut (by kernel_rfl) (of_decide_eq_true (by kernel_rfl)) b g P) trodAll_mk0)),rfl,g.frame _,λh=>by cases h⟩
set_option maxRecDepth 10000
theorem Ej{a b:Bool}(h:a=true)(c:b=true):(a&&b)=true:=by rw[h,c];rfl
theorem aAx:(Rows.rebalanceGreedyRow.wf (OpenSpec.ofChange Rows.rebalanceGreedySpec))=true:=by kernel_rfl
theorem OG:(laidOutB Tryz.pinned.checked.prog)=true:=by kernel_rfl
theorem NM:(mapsRowed Tryz.pinned.checked.prog)=true:=by kernel_rfl
theorem QP:(Tryz.f16.params.all (Tryz.pinned.checked.prog.readableRec ·))=true:=by kernel_rfl
theorem Vt:(namedTie Tryz.pinned.checked.prog Rows.rebalanceGreedyRow.named Rows.rebalanceGreedySpec.vars)=true:=by kernel_rfl
theorem Wk:((Rows.rebalanceGreedyRow.stops==[]))=true:=by kernel_rfl
theorem Tq:((Tryz.pinned.checked.prog.stops==[]))=true:=by kernel_rfl
theorem Ud:((Rows.rebalanceGreedyRow.knobs==[]))=true:=by kernel_rfl
theorem hK:((Tryz.pinned.checked.prog.stopKnobs==[]))=true:=by kernel_rfl
theorem Wl:((Rows.rebalanceGreedyRow.inPlace==Tryz.pinned.checked.prog.inPlace 16))=true:=by kernel_rfl
theorem a0s:((Rows.rebalanceGreedyRow.unfollowed==Tryz.pinned.checked.prog.unfollowed 16))=true:=by kernel_rfl
theorem aBC:((Rows.rebalanceGreedyRow.recurses==Tryz.pinned.checked.prog.recurses 16))=true:=by kernel_rfl
theorem a6U:((Rows.rebalanceGreedyRow.named==Tryz.pinned.checked.prog.varsNamed 16))=true:=by kernel_rfl
theorem a4e:((Rows.rebalanceGreedyRow.maps==(Tryz.f16.params.toList++Rows.rebalanceGreedySpec.plain.varTypes Tryz.pinned.checked.prog).any (Tryz.pinned.checked.prog.mapsRec ·)))=true:=by kernel_rfl
theorem a63:((Rows.rebalanceGreedyRow.ifaces==(Tryz.f16.params.toList++Rows.rebalanceGreedySpec.plain.varTypes Tryz.pinned.checked.prog).any (Tryz.pinned.checked.prog.ifacesRec ·)))=true:=by kernel_rfl
theorem a4Y:((Rows.rebalanceGreedyRow.mapsOut==Tryz.pinned.checked.prog.mapsAmong Tryz.f16.resultTypes.toList))=true:=by kernel_rfl
theorem a2w:((Rows.rebalanceGreedyRow.loops==(Tryz.f16.params.toList++Rows.rebalanceGreedySpec.plain.varTypes Tryz.pinned.checked.prog).any (Tryz.pinned.checked.prog.loopsFrom ·)))=true:=by kernel_rfl
theorem a6j:((Rows.rebalanceGreedyRow.wideKeys==(Tryz.f16.params.toList++Rows.rebalanceGreedySpec.plain.varTypes Tryz.pinned.checked.prog++Tryz.f16.resultTypes.toList).any (Tryz.pinned.checked.prog.wideKeysFrom ·)))=true:=by kernel_rfl
theorem yj:(Rows.rebalanceGreedySpec.vars.all (Tryz.pinned.checked.prog.varReadable ·))=true:=by kernel_rfl
theorem zO:(Tryz.f16.resultTypes.all (λt=>Tryz.pinned.checked.prog.readableRec t&&decide (t<Tryz.pinned.checked.prog.types.size)))=true:=by kernel_rfl
theorem a7g:((Rows.rebalanceGreedyRow.ifacesOut==Tryz.f16.resultTypes.toList.any (Tryz.pinned.checked.prog.ifacesRec ·)))=true:=by kernel_rfl
theorem a2I:((Rows.rebalanceGreedyRow.loopsOut==Tryz.f16.resultTypes.toList.any (Tryz.pinned.checked.prog.loopsFrom ·)))=true:=by kernel_rfl
theorem a5O:((Rows.rebalanceGreedyRow.plainKeys==Tryz.pinned.checked.prog.plainKeys))=true:=by kernel_rfl
theorem aBF:(Rows.rebalanceGreedyRow.shortTexts.isNone)=true:=by kernel_rfl
theorem a0e:(Tryz.pinned.checked.prog.stopsHeard)=true:=by kernel_rfl
theorem a4J:(Tryz.pinned.checked.prog.mayEnter)=true:=by kernel_rfl
theorem a6w:((Rows.rebalanceGreedyRow.lifted==Tryz.pinned.checked.prog.liftsFinal))=true:=by kernel_rfl
theorem yu:((Tryz.pinned.checked.prog.make==some Rows.rebalanceGreedyRow.make))=true:=by kernel_rfl
theorem a4Q:((Rows.rebalanceGreedyRow.kinds==(if Rows.rebalanceGreedyRow.domain.isEmpty then[]else Tryz.f16.params.toList.map λt=>match Tryz.pinned.checked.prog.underlying t with|some (.int k)=>some k|_=>none)))=true:=by kernel_rfl
theorem a3x:((Rows.rebalanceGreedyRow.pinned==Rows.rebalanceGreedyRow.pinnedBy))=true:=by kernel_rfl
theorem a1r:((Rows.rebalanceGreedyRow.veiled==(Tryz.f16.params.toList++Rows.rebalanceGreedySpec.plain.varTypes Tryz.pinned.checked.prog++Tryz.f16.resultTypes.toList).any (Tryz.pinned.checked.prog.veiledRec ·)))=true:=by kernel_rfl
theorem a1M:(Rows.rebalanceGreedyRow.veiledFits Tryz.pinned.checked.prog Tryz.f16.params.toList (Tryz.f16.params.toList++Rows.rebalanceGreedySpec.plain.varTypes Tryz.pinned.checked.prog++Tryz.f16.resultTypes.toList))=true:=by kernel_rfl
theorem a5L:joinedFacts Tryz.pinned.checked.prog 16 Tryz.f16 Rows.rebalanceGreedySpec Rows.rebalanceGreedyRow=true:=(Ej (Ej (Ej (Ej (Ej (Ej (Ej (Ej (Ej (Ej (Ej (Ej (Ej (Ej (Ej (Ej (Ej (Ej (Ej (Ej (Ej (Ej (Ej (Ej (Ej (Ej (Ej (Ej (Ej (Ej (Ej aAx OG) NM) QP) Vt) Wk) Tq) Ud) hK) Wl) a0s) aBC) a6U) a4e) a63) a4Y) a2w) a6j) yj) zO) a7g) a2I) a5O) aBF) a0e) a4J) a6w) yu) a4Q) a3x) a1r) a1M)
theorem over:Rows.rebalanceGreedyRow.holds Tryz.pinned (OpenSpec.ofChange Rows.rebalanceGreedySpec):=
 OpenClaim.holds_of_wide 16 Tryz.f16 rfl rfl rfl rfl rfl rfl rfl ⟨rfl,rfl,rfl,rfl,rfl⟩ rfl rfl rfl rfl rfl (by kernel_rfl) Tryz.func16 a5L
  (of_decide_eq_true (by kernel_rfl)) (by unfold Func.isWrapper;first|(rw[if_pos (by decide+kernel)];kernel_rfl)|(rw[if_neg (by decide+kernel)];exact⟨rfl,rfl⟩))
  (λos a b enc _=>lifted os a b enc)
theorem proved:Rows.RebalanceGreedySaid:=over
#print axioms proved
end
end Go.Proofs.YtmmkkggfmigppaaGreat.rebalanceGreedyDone
end
