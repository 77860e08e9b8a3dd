/- A part of the proof. -/
import Derived.Test.YtmmkkggfmigppaaGreatZct
set_option linter.all false
set_option maxRecDepth 8000
set_option maxHeartbeats 16000000
namespace Go.Proofs.YtmmkkggfmigppaaGreat
open Go Go.DI Go.Big
structure Xk(u:AY)(a1:Int):Prop where
 ext:1<=u.ext/\u.ext<=2
 Bz: ∃z,100<=z/\z<200/\u.Bz=[Lh z]
 aQI: ∃a b c d,(3<=a/\a<=4)/\(8<=b/\b<=16)/\(1<=c/\c<=3)/\(4<=d/\d<=12)/\u.Aa=LR a b c d
 A5:Jr u.A5
 DD:u.A5.length<=21
 A1:JE u.A5 u.A1
 Ek:1<=u.A1.length/\u.A1.length<=9
 hH:1<=u.Ay.length/\u.Ay.length<=2
 Ay:SA u.Ay u.Ay.length
 F4:1<=u.A7.length/\(u.A7.length:Int)<=if a1<1 then 1 else a1
 A7:TB u.A7 u.A7.length u.Ay.length
def Gz(l:List Int)(i:Nat):V:=(D0.AE 1).A0 0 (some ⟨[AH l,Y i],true⟩)
variable{a1 x aJ y:Int}{i n v o f:Nat}{l R:List Int}{a:ByteArray}{u:AY}{L:List (List Int)}{b5:List (List Value)}{t:V}{args cs g:List Value}{r:Value}{k:Value->V->Prop}
theorem a27(L:l.length<=140737488355328)(BG:i<500000)(BH:a1<=100): ∃u dW,Xk u a1/\dW<=i+200/\Bv U 60 [AA 0,Y a1] (Gz l i) λv N=>DI.Az 9 N v=some (.agg (A4 u).toArray)/\N.W 0=some ⟨[AH l,Y dW],true⟩/\0∉DI.As 9 N v:=by
 have BI:=En (l:=l) (i:=i) (n:=2) (by decide);have BJ:=En (l:=l) (i:=i+1) (n:=100) (by decide);have BK:=En (l:=l) (i:=i+2) (n:=2) (by decide);have BL:=En (l:=l) (i:=i+3) (n:=9) (by decide);have BM:=En (l:=l) (i:=i+4) (n:=3) (by decide);have BN:=En (l:=l) (i:=i+5) (n:=9) (by decide);have BP:=En (l:=l) (i:=i+6) (n:=3) (by decide);obtain⟨f,AG⟩: ∃x,1+Bq l i 2=x:=⟨_,rfl⟩;obtain⟨z,AJ⟩: ∃x,100+Bq l (i+1) 100=x:=⟨_,rfl⟩;obtain⟨a,AK⟩: ∃x,3+Bq l (i+2) 2=x:=⟨_,rfl⟩;obtain⟨b,hb⟩: ∃x,8+Bq l (i+3) 9=x:=⟨_,rfl⟩;obtain⟨c,AL⟩: ∃x,1+Bq l (i+4) 3=x:=⟨_,rfl⟩;obtain⟨d,AM⟩: ∃x,4+Bq l (i+5) 9=x:=⟨_,rfl⟩;obtain⟨s,AN⟩:=DP (show 0<=3+Bq l (i+6) 3 by omega);have AO:IntKind.i64.wrap (1+Bq l i 2)=f:=by rw[Ah (by omega) (by omega)];exact AG
 have AP:IntKind.i64.wrap (100+Bq l (i+1) 100)=z:=by rw[Ah (by omega) (by omega)];exact AJ
 have AR:IntKind.i64.wrap (3+Bq l (i+2) 2)=a:=by rw[Ah (by omega) (by omega)];exact AK
 have AS:IntKind.i64.wrap (8+Bq l (i+3) 9)=b:=by rw[Ah (by omega) (by omega)];exact hb
 have AT:IntKind.i64.wrap (1+Bq l (i+4) 3)=c:=by rw[Ah (by omega) (by omega)];exact AL
 have AU:IntKind.i64.wrap (4+Bq l (i+5) 9)=d:=by rw[Ah (by omega) (by omega)];exact AM
 have AV:IntKind.i64.wrap (3+Bq l (i+6) 3)=(s:Int):=by rw[Ah (by omega) (by omega)];exact AN
 have AW:Jr [⟨⟨#[]⟩,0,-1,0,C9 0 1⟩]:=⟨rfl,λk x BQ g=>by have:=(AX.1 g).1;simp at this;omega⟩;obtain⟨ds,t,m,AY,AZ,A2,BS,BU,Aa⟩:=zz (l:=l) L (J:=f) (g4:=M ([Lh z].map Cc) 4) (g5:=M ((LR a b c d).map Ce) 4) (ke:=Ln) (iu:=Ln) (Z:=s) (by omega) s 0 (i+7) [⟨⟨#[]⟩,0,-1,0,C9 0 1⟩] [] 0 0 (by omega) AW (λk x g=>by simp at g) (by simp) (by simp) (by omega) (.inl rfl);have BW:=En (l:=l) (i:=m) (n:=2) (by decide);obtain⟨Q,Ac⟩:=DP (show 0<=1+Bq l m 2 by omega);have Ad:IntKind.i64.wrap (1+Bq l m 2)=(Q:Int):=by rw[Ah (by omega) (by omega)];exact Ac
 obtain⟨ps,j,Ae,Af,BX,Ag⟩:=aEx (l:=l) L (J:=f) (g4:=M ([Lh z].map Cc) 4) (g5:=M ((LR a b c d).map Ce) 4) (oK:=M (ds.map Bd) 7) (oL:=M (t.map CB) 3) (iu:=Ln) (ag:=Q) (by omega) Q (m+1) [] (by simp) (λk x g=>by simp at g) (by omega);have BY:0<=Bq l j a1/\Bq l j a1<if a1<1 then 1 else a1:=by
  by_cases R:a1<1
  ·rw[if_pos R];have:Bq l j a1=0:=lz R;omega
  ·rw[if_neg R];exact En (by omega)
 have BZ:(if a1<1 then 1 else a1)<=100:=by split<;>omega
 obtain⟨MT,Am⟩:=DP (show 0<=1+Bq l j a1 by omega);have An:IntKind.i64.wrap (1+Bq l j a1)=(MT:Int):=by rw[Ah (by omega) (by omega)];exact Am
 obtain⟨w,i3,Ao,Ap,v3,v4⟩:=a0X (l:=l) L (J:=f) (g4:=M ([Lh z].map Cc) 4) (g5:=M ((LR a b c d).map Ce) 4) (oK:=M (ds.map Bd) 7) (oL:=M (t.map CB) 3) (ps:=ps) (by omega) (ag:=MT) (by omega) MT (j+1) [] (by simp) (λk x g=>by simp at g) (by omega);have Aq:1<=f/\f<=2:=by omega
 refine⟨⟨f,[Lh z],LR a b c d,ds,t,ps,w⟩,i3,⟨Aq,⟨z,by omega,by omega,rfl⟩,⟨a,b,c,d,by omega,by omega,by omega,by omega,rfl⟩,AY,by simp only;omega,AZ,⟨A2.2 (by omega),A2.1⟩,by simp only;omega,by simp only[Af];exact Ae,by simp only;omega,by simp only[Ap];exact Ao⟩,by omega,?_⟩;refine Ak (an:=⟨[GB,Nl],[EM]⟩) q7 (by kernel_rfl) (by simp[Xi]) ?_;have Bb:Fl 1 1:=by unfold Fl;omega
 have Bc:=rT;have Be:Fl 1 z:=by unfold Fl;omega
 have Ar:((i:Int)+1+1).toNat=i+2:=by omega
 have t3:((i:Int)+1+1+1).toNat=i+3:=by omega
 have t4:((i:Int)+1+1+1+1).toNat=i+4:=by omega
 have At:((i:Int)+1+1+1+1+1).toNat=i+5:=by omega
 have Au:((i:Int)+1+1+1+1+1+1).toNat=i+6:=by omega
 simp(disch:=first|omega|simp only[AD];omega)[Xi,pL,Gz,FZ,Ar,t3,t4,At,Au,AO,AP,AR,AS,AT,AU,AV,BO,-H,-E,-I,-G,-List.map_map];refine aDO (l:=l) (i:=i+7) (J:=f) (z:=z) (a:=a) (b:=b) (c:=c) (d:=d) ⟨by simp(disch:=first|omega|simp only[AD];omega)[-H,-E,-I,-G,-List.map_map];omega,by simp(disch:=first|omega|simp only[AD];omega)[Oq,-H,-E,-I,-G,-List.map_map],by simp(disch:=first|omega|simp only[AD];omega)[-H,-E,-I,-G,-List.map_map],by simp(disch:=first|omega|simp only[AD];omega)[BO,-H,-E,-I,-G,-List.map_map],by simp(disch:=first|omega|simp only[AD];omega)[BO,-H,-E,-I,-G,-List.map_map],by simp(disch:=first|omega|simp only[AD];omega)[-H,-E,-I,-G,-List.map_map],by simp(disch:=first|omega|simp only[AD];omega)[BO,-H,-E,-I,-G,-List.map_map],by simp(disch:=first|omega|simp only[AD];omega)[Qe,-H,-E,-I,-G,-List.map_map],by simp(disch:=first|omega|simp only[AD];omega)[U8,X3,-H,-E,-I,-G,-List.map_map],by simp(disch:=first|omega|simp only[AD];omega)[Bd,-H,-E,-I,-G,-List.map_map]⟩ (by simp) λAv Aw=> ?_;refine Aa _ Av _ (by simp) (by simp) (by simp) (by simp) (by simp) (by simp) Aw λy Bf o A7=> ?_;have S:y 0=AA 0:=(o 0 (by decide)).trans (by simp);have Ax:y 1=Y a1:=(o 1 (by decide)).trans (by simp);have Ay:y 4=AA 1:=(o 4 (by decide)).trans (by simp);have A8:y 5=AA 6:=(o 5 (by decide)).trans (by simp);clear o;have B0:=A7;obtain⟨Bg,or,B1⟩:=A7;have A9:=B1.Cr;have Bh:=F A9;simp(disch:=first|omega|simp only[AD];omega)[u1,S,A9,FZ,Ad];refine a4X (FC.at B0 (dW:=m+1) (by omega)) λB2 B3=> ?_;refine Ag _ B2 _ (by simp[S]) (by simp[A8]) (by simp) B3 λA Bi p B4=> ?_;have T:A 0=AA 0:=(p 0 (by decide)).trans (by simp[S]);have B5:A 1=Y a1:=(p 1 (by decide)).trans (by simp[Ax]);have B6:A 4=AA 1:=(p 4 (by decide)).trans (by simp[Ay]);have AB:A 5=AA 6:=(p 5 (by decide)).trans (by simp[A8]);clear p;obtain⟨op,⟨q,B,C,B7,X,D,AE⟩⟩:=B4;have Bj:=F q;simp(disch:=first|omega|simp only[AD];omega)[sj,T,B5,q,FZ,An];refine aBR (l:=l) (i:=j+1) (J:=f) (g4:=M ([Lh z].map Cc) 4) (g5:=M ((LR a b c d).map Ce) 4) (oK:=M (ds.map Bd) 7) (oL:=M (t.map CB) 3) (ps:=ps) ⟨op,⟨by simp(disch:=first|omega|simp only[AD];omega),by simp(disch:=first|omega|simp only[AD];omega)[B],by simp(disch:=first|omega|simp only[AD];omega)[C],by simp(disch:=first|omega|simp only[AD];omega)[B7],X,D,AE⟩⟩ λB8 B9=> ?_;refine v4 _ B8 _ (by simp[T]) (by simp[AB]) (by simp) B9 λA0 Bk K BA=> ?_;have Bl:A0 0=AA 0:=(K 0 (by decide)).trans (by simp[T]);have BB:A0 4=AA 1:=(K 4 (by decide)).trans (by simp[B6]);have BC:A0 5=AA 6:=(K 5 (by decide)).trans (by simp[AB]);clear K;obtain⟨AF,⟨q,B,C,A1,X,D,AE⟩⟩:=BA;have Bm:=F q;have Bn:=F B;have Bo:=F C;have Bp:=F A1;have BD: ∀tt:V,tt.W AF=some ⟨(w.map Cd).flatten,true⟩->DI.Az 8 tt (AQ AF w.length 2)=some (M (w.map Cd) 2):= λtt h=>JG (n:=7) h (by simp) rM;simp(disch:=first|omega|simp only[AD];omega)[u4,BB,BC,B,C,Oq];refine⟨?_,q,?_⟩
 ·rw[BD _ (by rw[A3 D];exact A1)];simp[A4]
 ·rw[aF9,A3 D,A1];simp only[CM,LM,RG];rintro(e|⟨v,⟨r,BE,BF⟩,g⟩)
  ·exact X e.symm
  ·rw[DI.P9 ((rM r BE).2 v BF)]at g;cases g
theorem wz:(C9 0 1).B1:=by unfold Ac.B1;decide
theorem a6h:(C9 1 2).B1:=by unfold Ac.B1;decide
theorem aCi:(C9 1 1000).B1:=by unfold Ac.B1;decide
theorem a6A:(C9 30 1).B1:=by unfold Ac.B1;decide
theorem aFA(c:Nat)(a:c=100\/c=110\/c=112\/c=118): ∀n:Fin 60,BP (Eu c n.val):=by rcases a with rfl|rfl|rfl|rfl<;>(unfold BP;decide+kernel)
theorem lb:BP Qe/\BP U8/\BP X3:=by unfold BP;decide+kernel
theorem aFw{c b:Nat}(f:c<256)(g:b<256){d:Nat}(i:n<60)(j:d<60)(h:Eu c n=Eu b d):c=b/\n=d:=by simp only[Eu,ByteArray.mk.injEq]at h;have e:=congrArg (λa:Array UInt8=>(a.toList.map UInt8.toNat)) h;simp at e;omega
theorem ig{l:List ByteArray}{c f:Nat->Nat}(h: ∀(i:Nat) x,l[i]?=some x->x=Eu (c i) (f i)/\(c i=100\/c i=110\/c i=112\/c i=118)/\f i<60)(inj: ∀i j,i<j->j<l.length-> ¬(c i=c j/\f i=f j)):EO l=true:=by
 unfold EO;rw[AB,BF];refine⟨λx m=> ?_,decide_eq_true (NA.2 λi j g k n e=> ?_)⟩
 ·obtain⟨i,g,rfl⟩:=EC m;obtain⟨a,b,d⟩:=h i _ (AS g);rw[a];exact Q3 (aFA (c i) b ⟨f i,d⟩)
 ·obtain⟨a,b,d⟩:=h i _ (AS g);obtain⟨o,q,p⟩:=h j _ (AS k);rw[a,o]at e;exact inj i j n k (aFw (by omega) (by omega) d p e)
theorem a4y{b:ByteArray}(c:BP a)(hb:BP b)(h:a≠b):EO [a,b]=true:=by unfold EO;simp[Q3 c,Q3 hb,h]
theorem a6E(b:BP a):EO [a]=true:=by unfold EO;simp[Q3 b]
theorem HL{a b:Int}(c:a<=x)(d:x<=b):C6 x a b=true:=K3.2 ⟨c,d⟩
theorem a0J:Hn (C9 1 2)=true/\(C9 1 1000).AZ.small=true/\IP (C9 1 1000).AZ=true/\(C9 30 1).AZ.small=true:=by decide
theorem a8o{x:Dw}(h:Xg x n):JW x 2=true/\Dw.CV x:=by
 obtain⟨BP,⟨i,s⟩,⟨j,t⟩,⟨k,l⟩,⟨m,u,v,w,z,A,B⟩,a,⟨R,d,c⟩,f,g⟩:=h;obtain⟨o,p,q,r⟩:=a0J;constructor
 ·unfold JW;simp only[AB];refine⟨?_,?_,?_,?_,?_⟩
  ·unfold Fc;simp only[AB,Ba];exact⟨HL i (by omega),HL j (by omega),by omega,HL k l,m,HL (by omega) (by omega),HL (by omega) (by omega),HL (by omega) (by omega),HL (by omega) (by omega),HL (by omega) (by omega)⟩
  ·rcases a with e|e<;>rw[e]<;>rfl
  ·unfold J8;simp only[AB,Ba,BF];rw[c,f,g];refine⟨?_,λy b=> ?_,p,q,r⟩
   ·rw[Ps,d]
   ·rw[List.eq_of_mem_replicate b];exact o
  ·rcases a with e|e<;>rw[e]<;>decide
  ·rcases a with e|e<;>rw[e]<;>decide
 ·refine⟨⟨λy b=> ?_,?_⟩,by rw[f];exact aCi,by rw[g];exact a6A,by rcases a with e|e<;>rw[e]<;>decide⟩
  ·rw[c]at b;rw[List.eq_of_mem_replicate b];exact a6h
  ·rw[c,Ps];have:R<=2:=(by split at d<;>omega);omega
theorem a2f{ds:List Dj}(h:Jr ds):KU ds=true:=by
 have c:(C9 0 1).AZ.small=true/\ ¬0<(C9 0 1).AZ.n:=by decide
 have a:=h.Lv;cases b:ds with
 |nil=>rw[b]at a;cases a
 | cons R l=>
   rw[b]at a;simp at a;unfold KU;simp only[AB,BF,FX];constructor
   ·rw[a];simp[NH,c.1,c.2]
   ·intro i d;rw[AS d];obtain⟨r,f,a3,⟨q,e,g⟩,j,k,m,o,p⟩:=h.Fq (i+1) l[i] (by omega) (by rw[b,RE];exact AS d);rw[b]at e;simp only[Nx,AB];refine⟨HL f (by omega),?_,HL j k,HL m o,by rw[p];exact c.1⟩;unfold UC;rw[e];exact decide_eq_true g
theorem dn(h:Xk u a1)(M:a1<=12):Av u:=by
 obtain⟨ext,⟨z,N,D,r⟩,⟨a,b,c,d,O,hb,P,Q,t⟩,p,R,y,S,T,A,E,B⟩:=h;have F:u.A7.length<=12:=by have:=E.2;split at this<;>omega
 have G:u.Aa.length=2:=by rw[t];rfl
 have H:u.Bz.length=1:=by rw[r];rfl
 have U:=p.HV;have V:Fl 1 z:=by unfold Fl;omega
 have S9: ∀x∈u.Ay,JW x 2=true/\Dw.CV x:= λx g=>by obtain⟨i,k,rfl⟩:=EC g;exact a8o (A i _ (AS k))
 have I:HO u=true:=by
  unfold HO;simp only[AB,Ba];refine⟨HL ext.1 (by omega),by omega,by omega,by omega,by omega,by omega,F,a2f p,?_,?_,?_,?_,?_,?_,?_,?_,?_,?_⟩
  ·rw[r];rfl
  ·rw[t,H];simp only[LR,Fz,List.all_nil,Bool.and_true,AB,OT];exact⟨⟨HL (by omega) (by omega),HL (by omega) (by omega),by decide⟩,HL (by omega) (by omega),HL (by omega) (by omega),by decide⟩
  ·rw[BF];intro x g;obtain⟨i,k,rfl⟩:=EC g;obtain⟨J,v,a3,m,e,f⟩:=y i _ (AS k);have:=f.B7;unfold Od;simp only[AB];refine⟨HL v (by omega),HL (by omega) (by omega),?_⟩;obtain⟨q,K,L⟩:=f;unfold WW;rw[e,EE,K];exact decide_eq_true L
  ·rw[BF,G];exact λx g=>(S9 x g).1
  ·rw[BF];intro x g;obtain⟨i,k,rfl⟩:=EC g;obtain⟨J,v,a3⟩:=B i _ (AS k);exact HL v (by omega)
  ·rw[r];exact a6E lb.1
  ·rw[t];exact a4y lb.2.1 lb.2.2 (show U8≠X3 by decide)
  ·refine ig (c:= λi=>if i<u.A5.length-1 then 110 else 100) (f:= λi=>if i<u.A5.length-1 then i+1 else i-(u.A5.length-1)) (λi x g=> ?_) (λi j C s=> ?_)
   ·by_cases w:i<u.A5.length-1
    ·rw[L8 (by simp;exact w),GS,List.getElem?_tail]at g;simp only[if_pos w];obtain⟨n,l,o⟩:=Kz.1 g;rw[<-o];exact⟨(p.Fq (i+1) n (by omega) l).1,by simp,by omega⟩
    ·rw[KM (by simp;omega)]at g;simp only[Eb,List.length_tail,GS]at g;simp only[if_neg w];obtain⟨n,l,o⟩:=Kz.1 g;rw[<-o];have W:=(AX.1 l).1;exact⟨(y _ n l).1,by simp,by omega⟩
   ·split<;>split<;>omega
  ·refine ig (c:= λ_=>112) (f:= λi=>u.Ay.length-i) (λi x g=> ?_) (λi j C s=> ?_)
   ·rw[GS]at g;obtain⟨n,l,o⟩:=Kz.1 g;rw[<-o];exact⟨(A i n l).BP,by simp,by omega⟩
   ·simp at s;omega
  ·refine ig (c:= λ_=>118) (f:= λi=>u.A7.length-i) (λi x g=> ?_) (λi j C s=> ?_)
   ·rw[GS]at g;obtain⟨n,l,o⟩:=Kz.1 g;rw[<-o];exact⟨(B i n l).1,by simp,by omega⟩
   ·simp at s;omega
 refine⟨aCt I,⟨λx g=> ?_,λx g=> ?_,λx g=>(S9 x g).2,by omega,by omega,by omega,by omega,by omega,by omega⟩⟩
 ·rw[r]at g;simp at g;subst g;exact⟨z,by omega,D,rfl,rfl,rfl⟩
 ·obtain⟨i,k,rfl⟩:=EC g;cases i with
  | zero=>have:=p.Lv;rw[AS k]at this;rw[Option.some.inj this];exact wz
  | succ i=>rw[(p.Fq (i+1) _ (by omega) (AS k)).2.2.2.2.2.2.2.2];exact wz
theorem a31(h:BW u)(a:v<u.A7.length):AL U 101 [.agg (A4 u).toArray,Y v] (Y (CS u v)):=by
 refine BG (Ak (an:=⟨[],[]⟩) pA (by kernel_rfl) (by simp[fO]) ?_);obtain⟨x,p,q,b,c,o,d,e,r,s,t⟩:=Wg h a;have f:=(AX.1 b).2;have g:=(AX.1 d).2;have i:(v:Int)<u.A7.length:=by omega
 have j:(p:Int)<u.Ay.length:=by omega
 have l:IntKind.i64.wrap (q.k+q.m)=q.k+q.m:=Ah (by omega) (by omega);rw[e];simp(disch:=first|omega|simp only[DI.A2];omega)[fO,yn,A4,Cd,B3,i,j,f,c,g,l]
noncomputable def Ng(u:AY)(h:BW u):AK U:= .B8 101 Nat (λv=>v<u.A7.length) (λv=>[.agg (A4 u).toArray,Y v]) (λv=>Y (CS u v)) λv a=>a31 h a
@[simp] theorem aOC{h:BW u}:(Ng u h).f=101:=rfl
@[simp] theorem aJ1{h:BW u}(a:v<u.A7.length):(Ng u h).fn [.agg #[Y u.ext,M (u.Bz.map Cc) 4,M (u.Aa.map Ce) 4,M (u.A5.map Bd) 7,M (u.A1.map CB) 3,M (u.Ay.map B3) 17,M (u.A7.map Cd) 2],Y v]=some (Y (CS u v)):=AK.BD (x:=v) a λy b=>by simp at b⊢;omega
theorem a0W(w:l.length<=1000000):AL U 102 [AH l,Y x] (.bool (decide (x∈l))):=by
 refine BG (Ak (an:=⟨[],[]⟩) wD (by kernel_rfl) (by simp[cD]) ?_);simp[cD,o3];refine CE (an:=⟨[],[]⟩) (λi b t=>(∀j (a:j<l.length),j<i-> ¬l[j]=x)/\b 0=AH l/\b 1=Y x/\b 5=Y i) l.length ?_ ?_ 0 _ _ (C0 _) ⟨λj a h=>absurd h (La _),by simp,by simp,by simp⟩
 ·rintro i b t o ⟨m,d,f,g⟩ z r;obtain⟨y,s⟩:=CF o;have k:=(AX.1 s).2;have p:(i:Int)<l.length:=(by omega);have u:=BX (n:=i) (by omega);by_cases c:y=x
  ·have e:x∈l:=(by rw[<-c,<-k];exact Dc o);simp(disch:=omega)[ZI,U1,d,f,g,p,k,eq_true c,e]
  ·simp(disch:=first|omega|simp only[DI.A2];omega)[ZI,U1,d,f,g,p,k,c,u,-H,-E,-I,-G,-List.map_map];refine r _ _ ⟨λj a A=> ?_,by simp[d],by simp[f],by simp⟩;by_cases e:j=i
   ·subst e;rw[k];exact c
   ·exact m j a (by omega)
 ·rintro b t ⟨m,d,f,g⟩;have e:x∉l:= λv=>by
   obtain⟨j,a,e⟩:=EC v;exact m j a a e
  simp[ZI,U1,U1,d,g,e]
noncomputable def LG:AK U:= .B8 102 (List Int×Int) (λx=>x.1.length<=1000000) (λx=>[AH x.1,Y x.2]) (λx=> .bool (decide (x.2∈x.1))) λ_ h=>a0W h
@[simp] theorem aJC:LG.f=102:=rfl
@[simp] theorem aIF(h:l.length<=1000000):LG.fn [M (l.map λx=>[Y x]) 1,Y x]=some (.bool (decide (x∈l))):=AK.BD (x:=(l,x)) h λ⟨b,c⟩ a=>by simpa using a
def a6N(t a:V):Prop:=a.next=t.next/\ ∀b,a.W b=t.W b
def Y4:List Nat:=[0,1,3,4,5,6,7,8]
theorem aEi(AD:u.A1.length<=24){bh:List Int}(AE:bh.length<=1000): ∀(r k d:Nat),k+r=u.A1.length->d<u.A1.length-> ∃w:Nat,w<u.A1.length/\ ∀(e:A6) (t:V) (Q:BM->A6->V->Prop) (i or:Nat),e 3=AA i->e 7=AQ or bh.length 1->e 9=Y d->e 10=Y k->t.W i=some ⟨A4 u,true⟩->t.W or=some ⟨bh.map Y,true⟩->
 (∀m y,(∀s∈Y4,m s=e s)->m 9=Y w->a6N t y->Q (.Ai 4) m y)->BY U (.loop Wb) e t Q:=by
 intro r;induction r with
 | zero=>intro k d R A;refine⟨d,A,λe t Q i or j o l p f q v=> ?_⟩;refine BU (an:=⟨[LG],[EM]⟩) λK B=> ?_;have L:=F f;have c: ¬(k:Int)<u.A1.length:=(by omega);have S: ¬k<u.A1.length:=(by omega);simp(disch:=first|omega|simp only[DI.A2];omega)[Wb,j,p,f,A4,c,-H,-E,-I,-G,-List.map_map];refine v _ _ (λs g=>by simp only[Y4,CM,EK,or_false]at g;rcases g with rfl|rfl|rfl|rfl|rfl|rfl|rfl|rfl<;>simp) (by simp[l]) ⟨rfl,λ_=>rfl⟩
 | succ r T=>
   intro k d R A;have M: ∀(t:V) (or:Nat),t.W or=some ⟨bh.map Y,true⟩->DI.Az 9 t (AQ or bh.length 1)=some (AH bh):= λt or h=>JG (n:=8) (by rw[K6];exact h) (by simp) KT;have c:(k:Int)<u.A1.length:=(by omega);have S:k<u.A1.length:=(by omega);have AF:bh.length<=1000000:=(by omega);by_cases N:(d:Int)∈bh
   case neg=>refine⟨d,A,λe t Q i or j o l p f q v=> ?_⟩;refine BU (an:=⟨[LG],[EM]⟩) λK B=> ?_;have L:=F f;have C:=M t or q;simp(disch:=first|omega|simp only[DI.A2];omega)[Wb,j,o,l,p,f,A4,c,C,N,-H,-E,-I,-G,-List.map_map];refine v _ _ (λs g=>by simp only[Y4,CM,EK,or_false]at g;rcases g with rfl|rfl|rfl|rfl|rfl|rfl|rfl|rfl<;>simp) (by simp[l]) ⟨by simp,λ_=>by simp⟩
   have X:=BX (n:=d) (by omega);have Z:=BX (n:=k) (by omega);obtain⟨z,O⟩: ∃z:Nat,((d:Int)+1).tmod u.A1.length=z/\z<u.A1.length:=(by have AG:=Int.tmod_lt_of_pos ((d:Int)+1) (show(0:Int)<u.A1.length by omega);have A0:=Int.tmod_nonneg (a:=(d:Int)+1) (u.A1.length:Int) (by omega);obtain⟨x,A3⟩:=DP A0;exact⟨x,A3,by omega⟩);obtain⟨w,A5,A7⟩:=T (k+1) z (by omega) O.2;refine⟨w,A5,λe t Q i or j o l p f q v=> ?_⟩;refine BU (an:=⟨[LG],[EM]⟩) λK B=> ?_;have L:=F f;have C:=M t or q;have A8:=O.1;have A9: ¬u.A1.length=0:=(by omega);simp(disch:=first|omega|simp only[DI.A2];omega)[Wb,j,o,l,p,f,A4,c,C,N,X,Z,A8,A9,-H,-E,-I,-G,-List.map_map];refine B _ _ (A7 _ _ Q i or (by simp[j]) (by simp[o]) (by simp) (by simp) (by simpa[A4]using f) (by simpa using q) λm y g AB P=>v m y (λs D=>(g s D).trans ?_) AB ⟨by rw[P.1];simp,λb=>by rw[P.2 b];simp⟩);simp only[Y4,CM,EK,or_false]at D;rcases D with rfl|rfl|rfl|rfl|rfl|rfl|rfl|rfl<;>simp
def Vd:List Nat:=[0,3,4,5,6]
def Zy(u:AY)(a:List Int):Prop:= ∀y∈a,-1<=y/\y<u.A1.length
theorem a0s(BB:l.length<=140737488355328)(h:Av u)(BC:1<=u.A1.length)(B6:v<u.A7.length): ∀(r:Nat) (a:List Int) (i:Nat),(a.length:Int)+r=CS u v->Zy u a->i+2*r+10<1000000->
 ∃ (J:List Int) (dW:Nat),(J.length:Int)=CS u v/\Zy u J/\dW<=i+2*r/\ ∀(m:A6) (t:V) (Q:BM->A6->V->Prop) (or:Nat) (A:List Nat),m 0=AA 0->m 3=AA 1->m 6=Y v->m 7=AQ or a.length 1->m 8=Y a.length->
   t.W 0=some ⟨[AH l,Y i],true⟩->t.W 1=some ⟨A4 u,true⟩->t.W or=some ⟨a.map Y,true⟩->or≠0->or≠1->(∀b∈A,b≠0/\b≠or/\b<t.next)->
   (∀Ab Z A5,(∀s∈Vd,Ab s=m s)->Ab 7=AQ A5 J.length 1->Z.W 0=some ⟨[AH l,Y dW],true⟩->Z.W 1=some ⟨A4 u,true⟩->Z.W A5=some ⟨J.map Y,true⟩->A5≠0->A5≠1->(∀b∈A,b≠A5/\Z.W b=t.W b)->t.next<=Z.next->Q (.Ai 2) Ab Z)->BY U (.loop TS) m t Q:=by
 have BD:=N9 h.ok B6;have BE:=h.ok.Ek;have BF:(u.A1.length:Int)<=1000000:=by omega
 intro r;induction r with
 | zero=>intro a i B7 A8 B8;refine⟨a,i,by omega,A8,by omega,λm t Q or A B o w K L M k x S T z X=> ?_⟩;refine BU (an:=⟨[LG,Ng u h.ok],[EM]⟩) λAd A0=> ?_;have Ae:=F k;have c: ¬(a.length:Int)<CS u v:=(by omega);simp(disch:=first|omega|simp only[DI.A2];omega)[TS,o,w,L,k,A4,c,-H,-E,-I,-G,-List.map_map];exact X _ _ or (λs f=>by simp only[Vd,CM,EK,or_false]at f;rcases f with rfl|rfl|rfl|rfl|rfl<;>simp) (by simp[K]) M k x S T (λb hb=>⟨(z b hb).2.1,rfl⟩) (Ao _)
 | succ r Af=>
   intro a i B7 A8 B8;have Ag: ∀(t:V) (or:Nat),t.W or=some ⟨a.map Y,true⟩->DI.Az 9 t (AQ or a.length 1)=some (AH a):= λt or h=>JG (n:=8) (by rw[K6];exact h) (by simp) KT;have c:(a.length:Int)<CS u v:=(by omega);have BG:a.length<=1000000:=(by omega);have B9:=En (l:=l) (i:=i) (n:=(u.A1.length:Int)) (by omega);obtain⟨An,BA⟩:=DP B9.1;have Ak:Bq l i (u.A1.length:Int)=(An:Int):=BA;obtain⟨Ap,BH,Al⟩:=aEi h.ok.Ek (bh:=a) (by omega) u.A1.length 0 An (by omega) (by omega);have Aq:((i:Int)+1).toNat=i+1:=(by omega);by_cases Am:(Ap:Int)∈a
   ·skip
    obtain⟨J,dW,A9,AB,Ar,AD⟩:=Af (a++[-1]) (i+1) (by simp;omega) (λy p=>by
     simp only[Cg,Gw]at p;rcases p with p|rfl
     ·exact A8 y p
     ·omega) (by omega)
    refine⟨J,dW,A9,AB,by omega,λm t Q or A B o w K L M k x S T z X=> ?_⟩;refine BU (an:=⟨[LG,Ng u h.ok],[EM]⟩) λAd A0=> ?_;have As:=F M;have Ae:=F k;have At:=F x;have Au: ¬0=or:= λe=>S e.symm;have Aw: ¬1=or:= λe=>T e.symm;simp(disch:=first|omega|simp only[DI.A2];omega)[TS,B,o,w,L,k,A4,M,c,FZ,Ak,-H,-E,-I,-G,-List.map_map];refine Al _ _ _ 1 or (by simp[o]) (by simp[K]) (by simp) (by simp) (by simp(disch:=first|omega|simp only[DI.A2];omega)[k,A4,-H,-E,-I,-G,-List.map_map]) (by simp(disch:=first|omega|simp only[DI.A2];omega)[x,-H,-E,-I,-G,-List.map_map]) λg d f AE j=> ?_;have z0:g 0=AA 0:=(f 0 (by decide)).trans (by simp[B]);have z3:g 3=AA 1:=(f 3 (by decide)).trans (by simp[o]);have z4:g 4=m 4:=(f 4 (by decide)).trans (by simp);have AF:g 5=m 5:=(f 5 (by decide)).trans (by simp);have N:g 6=Y v:=(f 6 (by decide)).trans (by simp[w]);have AG:g 7=AQ or a.length 1:=(f 7 (by decide)).trans (by simp[K]);have AJ:g 8=Y a.length:=(f 8 (by decide)).trans (by simp[L]);have O:d.W 0=some ⟨[AH l,Y ((i:Int)+1)],true⟩:=(j.2 0).trans (by simp(disch:=first|omega|simp only[DI.A2];omega)[-H,-E,-I,-G,-List.map_map]);have P:d.W 1=some ⟨A4 u,true⟩:=(j.2 1).trans (by simp(disch:=first|omega|simp only[DI.A2];omega)[k,A4,-H,-E,-I,-G,-List.map_map]);have C:d.W or=some ⟨a.map Y,true⟩:=(j.2 or).trans (by simp(disch:=first|omega|simp only[DI.A2];omega)[x,-H,-E,-I,-G,-List.map_map]);have AK: ∀b∈A,d.W b=t.W b:= λb hb=>(j.2 b).trans (by rw[A3 (z b hb).1]);have Ax:d.next=t.next:=j.1.trans (by simp)
    clear f j;have AL:=Ag d or C;have Ay:=F O;have B0:=F P;have B1:=F C;have AM:(a.length+1)*8<=140737488355328/\a.length<=9223372036854775806:=(by omega);have AN:IntKind.i64.wrap ((a.length:Int)+1)=(a.length:Int)+1:=Ah (by omega) (by omega);simp(disch:=first|omega|simp only[DI.A2];omega)[AG,AJ,AE,C,AL,Am,AM,AN,-H,-E,-I,-G,-List.map_map];refine A0 _ _ (AD _ _ Q (d.next+3) A (by simp[z0]) (by simp[z3]) (by simp[N]) (by simp) (by simp) ?_ ?_ ?_ (by omega) (by omega) (λb hb=> ?_) λAO AP AR AS AT AU q AV AW AX R AY=>X AO AP AR (λs D=>(AS s D).trans ?_) AT AU q AV AW AX (λb hb=>⟨(R b hb).1,(R b hb).2.trans ?_⟩) (by simp at AY;omega))
    ·simp(disch:=first|omega|simp only[DI.A2];omega)[O,-H,-E,-I,-G,-List.map_map]
    ·simp(disch:=first|omega|simp only[DI.A2];omega)[P,A4,-H,-E,-I,-G,-List.map_map]
    ·simp(disch:=first|omega|simp only[DI.A2];omega)[-H,-E,-I,-G,-List.map_map];exact DV (by simp)
    ·obtain⟨q,AZ,Aa⟩:=z b hb;exact⟨q,by omega,by simp;omega⟩
    ·simp only[Vd,CM,EK,or_false]at D;rcases D with rfl|rfl|rfl|rfl|rfl<;>simp[z0,z3,z4,AF,N,B,o,w]
    ·obtain⟨q,AZ,Aa⟩:=z b hb;have B2:b<d.next:=by omega
     have B3: ¬b=d.next+2:=by omega
     have B4: ¬b=d.next+3:=by omega
     simp(disch:=first|omega|simp only[DI.A2];omega)[AK b hb,-H,-E,-I,-G,-List.map_map]
   by_cases B5:Bq l (i+1) 12=0
   ·skip
    obtain⟨J,dW,A9,AB,Ar,AD⟩:=Af (a++[-1]) (i+2) (by simp;omega) (λy p=>by
     simp only[Cg,Gw]at p;rcases p with p|rfl
     ·exact A8 y p
     ·omega) (by omega)
    refine⟨J,dW,A9,AB,by omega,λm t Q or A B o w K L M k x S T z X=> ?_⟩;refine BU (an:=⟨[LG,Ng u h.ok],[EM]⟩) λAd A0=> ?_;have As:=F M;have Ae:=F k;have At:=F x;have Au: ¬0=or:= λe=>S e.symm;have Aw: ¬1=or:= λe=>T e.symm;simp(disch:=first|omega|simp only[DI.A2];omega)[TS,B,o,w,L,k,A4,M,c,FZ,Ak,-H,-E,-I,-G,-List.map_map];refine Al _ _ _ 1 or (by simp[o]) (by simp[K]) (by simp) (by simp) (by simp(disch:=first|omega|simp only[DI.A2];omega)[k,A4,-H,-E,-I,-G,-List.map_map]) (by simp(disch:=first|omega|simp only[DI.A2];omega)[x,-H,-E,-I,-G,-List.map_map]) λg d f AE j=> ?_;have z0:g 0=AA 0:=(f 0 (by decide)).trans (by simp[B]);have z3:g 3=AA 1:=(f 3 (by decide)).trans (by simp[o]);have z4:g 4=m 4:=(f 4 (by decide)).trans (by simp);have AF:g 5=m 5:=(f 5 (by decide)).trans (by simp);have N:g 6=Y v:=(f 6 (by decide)).trans (by simp[w]);have AG:g 7=AQ or a.length 1:=(f 7 (by decide)).trans (by simp[K]);have AJ:g 8=Y a.length:=(f 8 (by decide)).trans (by simp[L]);have O:d.W 0=some ⟨[AH l,Y ((i:Int)+1)],true⟩:=(j.2 0).trans (by simp(disch:=first|omega|simp only[DI.A2];omega)[-H,-E,-I,-G,-List.map_map]);have P:d.W 1=some ⟨A4 u,true⟩:=(j.2 1).trans (by simp(disch:=first|omega|simp only[DI.A2];omega)[k,A4,-H,-E,-I,-G,-List.map_map]);have C:d.W or=some ⟨a.map Y,true⟩:=(j.2 or).trans (by simp(disch:=first|omega|simp only[DI.A2];omega)[x,-H,-E,-I,-G,-List.map_map]);have AK: ∀b∈A,d.W b=t.W b:= λb hb=>(j.2 b).trans (by rw[A3 (z b hb).1]);have Ax:d.next=t.next:=j.1.trans (by simp)
    clear f j;have AL:=Ag d or C;have Ay:=F O;have B0:=F P;have B1:=F C;have AM:(a.length+1)*8<=140737488355328/\a.length<=9223372036854775806:=(by omega);have AN:IntKind.i64.wrap ((a.length:Int)+1)=(a.length:Int)+1:=Ah (by omega) (by omega);simp(disch:=first|omega|simp only[DI.A2];omega)[z0,AG,AJ,AE,O,C,AL,Am,B5,FZ,AM,AN,Aq,-H,-E,-I,-G,-List.map_map];refine A0 _ _ (AD _ _ Q (d.next+3) A (by simp[z0]) (by simp[z3]) (by simp[N]) (by simp) (by simp) ?_ ?_ ?_ (by omega) (by omega) (λb hb=> ?_) λAO AP AR AS AT AU q AV AW AX R AY=>X AO AP AR (λs D=>(AS s D).trans ?_) AT AU q AV AW AX (λb hb=>⟨(R b hb).1,(R b hb).2.trans ?_⟩) (by simp at AY;omega))
    ·simp(disch:=first|omega|simp only[DI.A2];omega)[-H,-E,-I,-G,-List.map_map];omega
    ·simp(disch:=first|omega|simp only[DI.A2];omega)[P,A4,-H,-E,-I,-G,-List.map_map]
    ·simp(disch:=first|omega|simp only[DI.A2];omega)[-H,-E,-I,-G,-List.map_map];exact DV (by simp)
    ·obtain⟨q,AZ,Aa⟩:=z b hb;exact⟨q,by omega,by simp;omega⟩
    ·simp only[Vd,CM,EK,or_false]at D;rcases D with rfl|rfl|rfl|rfl|rfl<;>simp[z0,z3,z4,AF,N,B,o,w]
    ·obtain⟨q,AZ,Aa⟩:=z b hb;have B2:b<d.next:=by omega
     have B3: ¬b=d.next+2:=by omega
     have B4: ¬b=d.next+3:=by omega
     simp(disch:=first|omega|simp only[DI.A2];omega)[AK b hb,-H,-E,-I,-G,-List.map_map]
   ·skip
    obtain⟨J,dW,A9,AB,Ar,AD⟩:=Af (a++[(Ap:Int)]) (i+2) (by simp;omega) (λy p=>by
     simp only[Cg,Gw]at p;rcases p with p|rfl
     ·exact A8 y p
     ·omega) (by omega)
    refine⟨J,dW,A9,AB,by omega,λm t Q or A B o w K L M k x S T z X=> ?_⟩;refine BU (an:=⟨[LG,Ng u h.ok],[EM]⟩) λAd A0=> ?_;have As:=F M;have Ae:=F k;have At:=F x;have Au: ¬0=or:= λe=>S e.symm;have Aw: ¬1=or:= λe=>T e.symm;simp(disch:=first|omega|simp only[DI.A2];omega)[TS,B,o,w,L,k,A4,M,c,FZ,Ak,-H,-E,-I,-G,-List.map_map];refine Al _ _ _ 1 or (by simp[o]) (by simp[K]) (by simp) (by simp) (by simp(disch:=first|omega|simp only[DI.A2];omega)[k,A4,-H,-E,-I,-G,-List.map_map]) (by simp(disch:=first|omega|simp only[DI.A2];omega)[x,-H,-E,-I,-G,-List.map_map]) λg d f AE j=> ?_;have z0:g 0=AA 0:=(f 0 (by decide)).trans (by simp[B]);have z3:g 3=AA 1:=(f 3 (by decide)).trans (by simp[o]);have z4:g 4=m 4:=(f 4 (by decide)).trans (by simp);have AF:g 5=m 5:=(f 5 (by decide)).trans (by simp);have N:g 6=Y v:=(f 6 (by decide)).trans (by simp[w]);have AG:g 7=AQ or a.length 1:=(f 7 (by decide)).trans (by simp[K]);have AJ:g 8=Y a.length:=(f 8 (by decide)).trans (by simp[L]);have O:d.W 0=some ⟨[AH l,Y ((i:Int)+1)],true⟩:=(j.2 0).trans (by simp(disch:=first|omega|simp only[DI.A2];omega)[-H,-E,-I,-G,-List.map_map]);have P:d.W 1=some ⟨A4 u,true⟩:=(j.2 1).trans (by simp(disch:=first|omega|simp only[DI.A2];omega)[k,A4,-H,-E,-I,-G,-List.map_map]);have C:d.W or=some ⟨a.map Y,true⟩:=(j.2 or).trans (by simp(disch:=first|omega|simp only[DI.A2];omega)[x,-H,-E,-I,-G,-List.map_map]);have AK: ∀b∈A,d.W b=t.W b:= λb hb=>(j.2 b).trans (by rw[A3 (z b hb).1]);have Ax:d.next=t.next:=j.1.trans (by simp)
    clear f j;have AL:=Ag d or C;have Ay:=F O;have B0:=F P;have B1:=F C;have AM:(a.length+1)*8<=140737488355328/\a.length<=9223372036854775806:=(by omega);have AN:IntKind.i64.wrap ((a.length:Int)+1)=(a.length:Int)+1:=Ah (by omega) (by omega);simp(disch:=first|omega|simp only[DI.A2];omega)[z0,AG,AJ,AE,O,C,AL,Am,B5,FZ,AM,AN,Aq,-H,-E,-I,-G,-List.map_map];refine A0 _ _ (AD _ _ Q (d.next+3) A (by simp[z0]) (by simp[z3]) (by simp[N]) (by simp) (by simp) ?_ ?_ ?_ (by omega) (by omega) (λb hb=> ?_) λAO AP AR AS AT AU q AV AW AX R AY=>X AO AP AR (λs D=>(AS s D).trans ?_) AT AU q AV AW AX (λb hb=>⟨(R b hb).1,(R b hb).2.trans ?_⟩) (by simp at AY;omega))
    ·simp(disch:=first|omega|simp only[DI.A2];omega)[-H,-E,-I,-G,-List.map_map];omega
    ·simp(disch:=first|omega|simp only[DI.A2];omega)[P,A4,-H,-E,-I,-G,-List.map_map]
    ·simp(disch:=first|omega|simp only[DI.A2];omega)[-H,-E,-I,-G,-List.map_map];exact DV (by simp)
    ·obtain⟨q,AZ,Aa⟩:=z b hb;exact⟨q,by omega,by simp;omega⟩
    ·simp only[Vd,CM,EK,or_false]at D;rcases D with rfl|rfl|rfl|rfl|rfl<;>simp[z0,z3,z4,AF,N,B,o,w]
    ·obtain⟨q,AZ,Aa⟩:=z b hb;have B2:b<d.next:=by omega
     have B3: ¬b=d.next+2:=by omega
     have B4: ¬b=d.next+3:=by omega
     simp(disch:=first|omega|simp only[DI.A2];omega)[AK b hb,-H,-E,-I,-G,-List.map_map]
def LW(u:AY)(L:List (List Int)):Prop:= ∀(w:Nat) (r:List Int),L[w]?=some r->(r.length:Int)=CS u w/\Zy u r
theorem LW.add{r:List Int}(h:LW u L)(b:(r.length:Int)=CS u L.length)(d:Zy u r):LW u (L++[r]):= λw x a=>by
 by_cases c:w<L.length
 ·rw[L8 c]at a;exact h w x a
 ·have f:=(AX.1 a).1;simp only[Ds,Df,Jx]at f;have e:w=L.length:=(by omega);subst e;rw[KM (Ao _)]at a;simp at a;subst a;exact⟨b,d⟩
theorem a34:(L.map BE).flatten.length=L.length:=by rw[JQ (z:=1) λr a=>by obtain⟨x,_,rfl⟩:=CP.1 a;rfl,Eb,Nat.mul_one]
theorem uA: ∀r∈L.map BE,r.length=1/\ ∀v∈r,Co v=true:= λr b=>by obtain⟨x,_,rfl⟩:=CP.1 b;exact⟨rfl,λv a=>by simp[BE]at a;subst a;rfl⟩
theorem a7u(Z:l.length<=140737488355328)(h:Av u)(A0:1<=u.A1.length): ∀(r:Nat) (L:List (List Int)) (i:Nat),L.length+r=u.A7.length->LW u L->i+20*r+100<1000000->
 ∃ (f:List (List Int)) (dW:Nat),f.length=u.A7.length/\LW u f/\dW<=i+20*r/\ ∀(d:A6) (t:V) (Q:BM->A6->V->Prop) (a:Nat),d 0=AA 0->d 3=AA 1->d 5=AQ a L.length 1->d 6=Y L.length->
   t.W 0=some ⟨[AH l,Y i],true⟩->t.W 1=some ⟨A4 u,true⟩->t.W a=some ⟨(L.map BE).flatten,true⟩->a≠0->a≠1->
   (∀M A B,M 5=AQ B f.length 1->A.W 0=some ⟨[AH l,Y dW],true⟩->A.W B=some ⟨(f.map BE).flatten,true⟩->B≠0->Q (.Ai 0) M A)->BY U (.loop dB) d t Q:=by
 have Aa:=h.ok.F4;intro r;induction r with
 | zero=>intro L i N C A5;refine⟨L,i,by omega,C,by omega,λd t Q a D k E m s g v G A8 H=> ?_⟩;refine BU (an:=⟨[LG,Ng u h.ok],[EM]⟩) λAB O=> ?_;have AD:=F g;have c: ¬(L.length:Int)<u.A7.length:=(by omega);have Ab: ¬L.length<u.A7.length:=(by omega);simp[dB,k,m,g,A4,c];exact H _ _ a (by simp[E]) s v G
 | succ r AE=>
   intro L i N C A5;have P:L.length<u.A7.length:=(by omega);have Ac:=N9 h.ok P;obtain⟨n,AF,AG,AJ,a3,a4⟩:=a0s (l:=l) Z h A0 P (CS u L.length).toNat [] i (by simp;omega) (λy AK=>by simp at AK) (by omega);obtain⟨f,dW,AL,AM,Ad,AN⟩:=AE (L++[n]) AF (by simp;omega) (C.add AG AJ) (by omega);refine⟨f,dW,AL,AM,by omega,λd t Q a D k E m s g v G A8 H=> ?_⟩;refine BU (an:=⟨[LG,Ng u h.ok],[EM]⟩) λAB O=> ?_;have Ae:=F s;have AD:=F g;have Af:=F v;have c:(L.length:Int)<u.A7.length:=(by omega);simp[dB,k,m,g,A4,c];refine a4 _ _ _ t.next [a] (by simp[D]) (by simp[k]) (by simp[m]) (by simp) (by simp) ?_ ?_ ?_ (by omega) (by omega) (λb hb=> ?_) λw I or q AO R S T Ag Ak J AP=> ?_
   ·simp(disch:=omega)[s]
   ·simp(disch:=omega)[g,A4]
   ·simp(disch:=first|omega|simp only[DI.A2];omega)
   ·simp only[CM,EK,or_false]at hb;subst hb;exact⟨G,by omega,by simp;omega⟩
   have z0:w 0=AA 0:=(q 0 (by decide)).trans (by simp[D]);have z3:w 3=AA 1:=(q 3 (by decide)).trans (by simp[k]);have AR:w 5=AQ a L.length 1:=(q 5 (by decide)).trans (by simp[E]);have AS:w 6=Y L.length:=(q 6 (by decide)).trans (by simp[m]);have X:I.W a=some ⟨(L.map BE).flatten,true⟩:=(J a (by simp)).2.trans (by simp(disch:=omega)[v]);have Al:=F R;have Am:=F S;have An:=F X;have Ao:=F T;have K:=a34 (L:=L);have AV:or=a->False:= λe=>(J a (by simp)).1 e.symm;clear q J AP;have AW:IntKind.i64.wrap ((L.length:Int)+1)=(L.length:Int)+1:=Ah (by omega) (by omega);have N: ∀x,(L++[n]).map BE=x->(L.map BE).flatten++[AH n]=x.flatten:= λx AX=>by subst AX;simp[BE]
   have AY:List.take L.length (L.map BE).flatten=(L.map BE).flatten:=DV (by omega);have AZ: ¬or=a:= λe=>by subst e;exact(AV rfl).elim
   simp(disch:=first|omega|simp only[DI.A2];omega)[AR,AS,AO,X,K,AW,AY];refine⟨by omega,O _ _ (LO (o:=or) (p:=I.next+3) (j:=L.length) (z:=1) (b5:=n.map λx=>[Y x]) (cells:=(L.map BE).flatten++[AQ or n.length 1]) ?_ KT ?_ ?_ (by omega) (AN _ _ Q (I.next+3) (by simp[z0]) (by simp[z3]) ?_ ?_ ?_ ?_ ?_ (by omega) (by omega) H))⟩
   ·rw[A3 (by omega),A3 AZ,A3 (by omega),V.AU,K6];exact T
   ·rw[AT (by simp)]
   ·rw[KM (by omega)];simp[K]
   ·simp
   ·simp
   ·rw[A3 (by omega),A3 (by omega),A3 (by omega),A3 (by omega),A3 (by omega),V.AU];exact R
   ·rw[A3 (by omega),A3 (by omega),A3 (by omega),A3 (by omega),A3 (by omega),V.AU];exact S
   ·rw[AT (by simp),List.set_append_right _ _ (by omega)];simp[K,BE]
theorem cg{l z:Nat}(h:t.W o=some ⟨b5.flatten,true⟩)(b: ∀r∈b5,r.length=z/\ ∀v∈r,Co v=true)(c:o≠0):0∉DI.As 9 t (AQ o l z):=by
 rw[Na,h];simp only[CM,LM,RG];rintro(e|⟨v,⟨r,d,f⟩,a⟩)
 ·exact c e.symm
 ·rw[DI.P9 ((b r d).2 v f)]at a;cases a
theorem a0N(c:l.length<=140737488355328)(x:i<600000)(h:Av u)(e:1<=u.A1.length): ∃L dW,L.length=u.A7.length/\LW u L/\dW<=i+20*u.A7.length/\Bv U 48 [AA 0,.agg (A4 u).toArray] (Gz l i) λv a=>DI.Az 9 a v=some (Ag L)/\a.W 0=some ⟨[AH l,Y dW],true⟩/\0∉As 9 a v:=by
 have y:=h.ok.F4;obtain⟨L,dW,f,g,j,k⟩:=a7u (l:=l) c h e u.A7.length [] i (by simp) (λw r m=>by simp at m) (by omega);refine⟨L,dW,f,g,j,?_⟩;refine Ak (an:=⟨[LG,Ng u h.ok],[EM]⟩) sq (by kernel_rfl) (by simp[cA]) ?_;simp[cA,pz,Gz];refine Pa (d:=5) (z:=1) (by simp) ?_;refine k _ _ _ 3 (by simp) (by simp) (by simp[D0]) (by simp) ?_ ?_ ?_ (by decide) (by decide) λB o C p q b s=> ?_
 ·rw[A3 (by simp[D0]),AU (by simp[D0]),A3 (by decide),AU (by simp[D0]),AT (by simp[D0])]
 ·rw[A3 (by simp[D0]),AU (by simp[D0]),AT (by simp[D0])]
 ·rw[show((((D0.AE 1).A0 0 (some {cells:=[AH l,Y i],own:=true})).AE 2).A0 1 (some {cells:=A4 u,own:=true})).next=3 from rfl];exact AT (by simp[D0])
 simp[p];refine⟨?_,q,cg b uA s⟩;have:=JG (n:=8) (t:=o) (l:=L.length) b (by simp) uA;exact this
def NI(aJ:Int)(R:List Int):Prop:= ∀y∈R,0<=y/\y<=aJ
theorem NI.set(h:NI aJ R){k:Nat}(a:0<=y/\y<=aJ):NI aJ (R.set k y):= λx b=>by
 rcases Qk b with q|q
 ·exact h x q
 ·rw[q];exact a
theorem a59(A8:l.length<=140737488355328)(A9:n<=1000)(AB:0<=aJ/\aJ<=900000): ∀(r k:Nat) (R:List Int) (i:Nat),k+r=n->R.length=n->NI aJ R->i+2*r+10<1000000->
 ∃ (h:List Int) (dW:Nat),h.length=n/\NI aJ h/\dW<=i+2*r/\ ∀(m:A6) (t:V) (Q:BM->A6->V->Prop) (a:Nat),m 0=AA 0->m 5=AQ a n 1->m 6=Y k->
   t.W 0=some ⟨[AH l,Y i],true⟩->t.W a=some ⟨R.map Y,true⟩->a≠0->
   (∀L B,L 5=AQ a n 1->B.W 0=some ⟨[AH l,Y dW],true⟩->B.W a=some ⟨h.map Y,true⟩->Q (.Ai 0) L B)->BY U (.loop Sw) m t Q:=by
 intro r;induction r with
 | zero=>intro k R i Z o s A0;refine⟨R,i,o,s,by omega,λm t Q a j b p d f g q=> ?_⟩;refine BU (an:=⟨[],[EM]⟩) λD u=> ?_;have c: ¬(k:Int)<n:=(by omega);simp[Sw,b,p,c];exact q _ _ (by simp[b]) d f
 | succ r J=>
   intro k R i Z o s A0;have M:k<R.length:=(by omega);obtain⟨x,A1⟩:=CF M;have N:=(AX.1 A1).2;have AD:=s x (by rw[<-N];exact Dc M);have c:(k:Int)<n:=(by omega);have K:=BX (n:=k) (by omega);have A4:IntKind.i64.wrap (x+1)=x+1:=Ah (by omega) (by omega);have A5:((i:Int)+1).toNat=i+1:=(by omega);have A7:((R.map Y).drop k).take 1=[Y x]:=by rw[Iy (by simp;omega)];simp[N]
   by_cases O:Bq l i 9=0
   ·obtain⟨h,dW,v,w,P,y⟩:=J (k+1) (R.set k 0) (i+1) (by omega) (by simp[o]) (s.set (by omega)) (by omega);refine⟨h,dW,v,w,by omega,λm t Q a j b p d f g q=> ?_⟩;refine BU (an:=⟨[],[EM]⟩) λD u=> ?_;have S:=F d;have T:=F f;have z: ¬0=a:= λe=>g e.symm;have A:(R.map Y).length=n:=(by simp[o]);simp(disch:=first|omega|simp only[DI.A2];omega)[Sw,j,b,p,d,f,c,O,K,FZ,A];refine⟨by omega,u _ _ (y _ _ Q a (by simp[j]) (by simp[b]) (by simp) ?_ ?_ g q)⟩
    ·rw[A3 z,AT (by omega)];simp
    ·rw[AT (by simp;omega),MG]
   ·by_cases X:Bq l i 9=1
    ·have AE:=En (l:=l) (i:=i+1) (n:=x+1) (by omega);obtain⟨h,dW,v,w,P,y⟩:=J (k+1) (R.set k (Bq l (i+1) (x+1))) (i+2) (by omega) (by simp[o]) (s.set (by omega)) (by omega);refine⟨h,dW,v,w,by omega,λm t Q a j b p d f g q=> ?_⟩;refine BU (an:=⟨[],[EM]⟩) λD u=> ?_;have S:=F d;have T:=F f;have z: ¬0=a:= λe=>g e.symm;have A:(R.map Y).length=n:=(by simp[o]);simp(disch:=first|omega|simp only[DI.A2];omega)[Sw,j,b,p,d,f,c,X,K,A4,A5,FZ,A,A7];refine⟨by omega,u _ _ (y _ _ Q a (by simp[j]) (by simp[b]) (by simp) ?_ ?_ g q)⟩
     ·rw[A3 z,AT (by omega)];simp;omega
     ·rw[AT (by simp;omega),MG]
    ·obtain⟨h,dW,v,w,P,y⟩:=J (k+1) R (i+1) (by omega) o s (by omega);refine⟨h,dW,v,w,by omega,λm t Q a j b p d f g q=> ?_⟩;refine BU (an:=⟨[],[EM]⟩) λD u=> ?_;have S:=F d;have T:=F f;have z: ¬0=a:= λe=>g e.symm;have A:(R.map Y).length=n:=(by simp[o]);simp(disch:=first|omega|simp only[DI.A2];omega)[Sw,j,b,p,d,c,O,X,K,FZ,-H,-E,-I,-G,-List.map_map];refine u _ _ (y _ _ Q a (by simp[j]) (by simp[b]) (by simp) ?_ ?_ g q)
     ·rw[AT (by omega)];simp
     ·rw[A3 g];exact f
theorem a7X(h:Av u)(X:1<=u.A1.length):Bv U 52 [.agg (A4 u).toArray,.slice none 0 0] D0 λv A=> ∃o,v=AQ o u.A1.length 1/\A.W o=some ⟨(BV u []).map Y,true⟩:=by
 refine Ak (an:=⟨[Jj u h.CV],[]⟩) nf (by kernel_rfl) (by simp[TT]) ?_;have Z:=h.ok.MC;have A0:=h.ok.Ek;simp(disch:=first|omega|simp only[DI.A2];omega)[TT,g8,A4,-H,-E,-I,-G,-List.map_map];refine Pa (d:=5) (z:=1) (by simp) ?_;refine CE (an:=⟨[Jj u h.CV],[]⟩) (λi a t=>t.W 0=some ⟨A4 u,true⟩/\(∃o,o≠0/\a 5=AQ o i 1/\t.W o=some ⟨Ct i (λj=>Y (CD u [] j)),true⟩)/\a 1= .slice none 0 0/\a 2=AA 0/\a 6=Y i) u.A1.length ?_ ?_ 0 _ _ (C0 _) ⟨by simp(disch:=first|omega|simp only[DI.A2];omega)[A4,-H,-E,-I,-G,-List.map_map],⟨2,by decide,by simp,by simp(disch:=first|omega|simp only[DI.A2];omega)[Ct,-H,-E,-I,-G,-List.map_map]⟩,by simp,by simp,by simp⟩
 ·rintro i a t r ⟨b,⟨o,C,g,c⟩,k,f,l⟩ A3 D;obtain⟨x,p⟩:=CF r;have J:=(AX.1 p).2;obtain⟨K,A5,a3,a4,A6⟩:=h.ok.Lx i x p;obtain⟨m,s⟩:=DP K;have L:m<u.Aa.length:=(by omega);obtain⟨y,q⟩:=CF L;have M:=(AX.1 q).2;have N:JT u i=y.ext:=(by simp only[JT,p,s,EE,q]);have hb:=h.ok.Xy m y q;have O:(i:Int)<u.A1.length:=(by omega);have P:(m:Int)<u.Aa.length:=(by omega);have A7:i+1<=u.A1.length:=r;have Q:=BX (n:=i) (by omega);have R:=F b;have A8:=F c;have S:(i+1)*8<=140737488355328/\i<=9223372036854775806:=(by omega);have T: ¬(0:Int)=u.A1.length:=(by omega);have w: ¬u.A1.length=0:=(by omega);have A9: ¬0=u.A1.length:=(by omega);have AB: ¬u.A1=[]:= λe=>by rw[e]at w;exact w rfl
  have V:CD u [] i=y.ext:=(by unfold CD;rw[if_neg (by simp;omega),N]);simp(disch:=first|omega|simp only[DI.A2];omega)[Ra,A4,CB,Ce,k,f,g,l,b,c,O,P,Q,J,s,M,T,S,-H,-E,-I,-G,-List.map_map];refine D _ _ ⟨by simp(disch:=first|omega|simp only[DI.A2];omega)[b,A4,-H,-E,-I,-G,-List.map_map],⟨t.next+3,by omega,by simp,?_⟩,by simp[k],by simp[f],by simp⟩;rw[AT (by simp),DV (by simp),fI,V]
 ·rintro a t ⟨b,⟨o,C,g,c⟩,k,f,l⟩;have R:=F b;simp[Ra,A4,b,f,g,l];rw[c,MA,PM]
noncomputable def kp(u:AY)(h:Av u)(b:1<=u.A1.length):DB U:= .Rp 52 Unit (λ_=>True) (λ_=>[.agg (A4 u).toArray,.slice none 0 0]) (λ_=>u.A1.length) (λ_=>1) (λ_=>(BV u []).map Y) λ_ _=>Y1 (λv a=>by simp at a;rcases a with rfl|rfl<;>rfl) WD (a7X h b)
@[simp] theorem aLP{h:Av u}{a:1<=u.A1.length}:(kp u h a).f=52:=rfl
@[simp] theorem aH2{h:Av u}{a:1<=u.A1.length}:(kp u h a).fn [.agg #[Y u.ext,M (u.Bz.map Cc) 4,M (u.Aa.map Ce) 4,M (u.A5.map Bd) 7,M (u.A1.map CB) 3,M (u.Ay.map B3) 17,M (u.A7.map Cd) 2],.slice none 0 0] t=some (.slice (some ⟨t.next,0,none⟩) u.A1.length 1,(t.AE 1).A0 t.next (some ⟨(BV u []).map Y,true⟩)):=DB.eo (x:=()) trivial λy b=>rfl
theorem aB6(h:Av u):NI 16 (BV u []):= λy a=>by
 unfold BV at a;obtain⟨d,c,rfl⟩:=CP.1 a;have e:d<u.A1.length:=FX.1 c;have f: ¬([]:List Int).length=u.A1.length:=by simp;omega
 simp only[if_neg f];obtain⟨x,b⟩:=CF e;obtain⟨g,k,a3,a4,l⟩:=h.ok.Lx d x b;obtain⟨m,i⟩:=DP g;have j:m<u.Aa.length:=by omega
 obtain⟨y,a⟩:=CF j;have n:JT u d=y.ext:=by simp only[JT,b,i,EE,a]
 have hb:=h.ok.Xy m y a;omega
theorem aEb:(BV u []).length=u.A1.length:=by unfold BV;simp
theorem aFO(d:l.length<=140737488355328)(q:i<600000)(h:Av u)(f:1<=u.A1.length): ∃R dW,R.length=u.A1.length/\NI 16 R/\dW<=i+2*u.A1.length/\Bv U 61 [AA 0,.agg (A4 u).toArray] (Gz l i) λv a=>DI.Az 9 a v=some (AH R)/\a.W 0=some ⟨[AH l,Y dW],true⟩/\0∉DI.As 9 a v:=by
 have r:=h.ok.Ek;obtain⟨R,dW,c,g,j,k⟩:=a59 (l:=l) d (n:=u.A1.length) (by omega) (aJ:=16) (by omega) u.A1.length 0 (BV u []) i (by omega) aEb (aB6 h) (by omega);refine⟨R,dW,c,g,j,?_⟩;refine Ak (an:=⟨[],[EM,kp u h f]⟩) sH (by kernel_rfl) (by simp[Zr]) ?_;simp[Zr,sR,Gz,A4];refine k _ _ _ 3 (by simp) (by simp) (by simp) ?_ ?_ (by decide) λw m o p b=> ?_
 ·rw[A3 (by decide),AU (by simp[D0]),A3 (by decide),AU (by simp[D0]),AT (by simp[D0])]
 ·exact AT (by simp[D0])
 simp[o];have e:(R.map Y)=(R.map λx=>[Y x]).flatten:=K6.symm;rw[e]at b;refine⟨?_,p,cg b KT (by decide)⟩;have:=JG (n:=8) (t:=m) (l:=u.A1.length) b (by simp[c]) KT;exact this
theorem wX(h:Av u)(i:L.length=u.A7.length)(c:LW u L):Bk L:=by
 have j:=h.ok.F4;refine⟨by omega,λr d=> ?_⟩;obtain⟨w,f,e⟩:=EC d;have g:L[w]?=some r:=by rw[AS f,e]
 have a:=(c w r g).1;have b:=N9 h.ok (v:=w) (by omega);omega
theorem mA(d:L.length=u.A7.length)(e:LW u L):EN u L=true:=by unfold EN;rw[AB,BF];refine⟨decide_eq_true d,λw f=> ?_⟩;have g:=FX.1 f;obtain⟨r,c⟩:=CF g;obtain⟨a,b⟩:=e w r c;simp only[c];unfold HR;rw[AB,BF];refine⟨decide_eq_true a,λy h=> ?_⟩;have:=b y h;rw[AB];exact⟨decide_eq_true this.1,decide_eq_true this.2⟩
open Classical in
noncomputable def Ob(f:Nat)(args cs g:List Value)(r:Value)(ok: ∀(t:V) (o:Nat),t.W o=some ⟨cs,true⟩->Bv U f (.pointer (some ⟨o,0,none⟩)::args) t λv c=>v=r/\c=t.A0 o (some ⟨g,true⟩)):DB U:=
 ⟨f,λd t=>if h: ∃o,Value.pointer (some ⟨o,0,none⟩)::args=d/\t.W o=some ⟨cs,true⟩then some (r,t.A0 h.choose (some ⟨g,true⟩))else none,λd t j c h a7 i=>by
  split at h
  ·next e=>cases h;have:=ok t _ e.choose_spec.2;rw[e.choose_spec.1]at this;exact this.AG λv c ⟨a,b⟩=>by rw[a,b];exact i
  ·cases h⟩
theorem aCU{ok: ∀(t:V) (o:Nat),t.W o=some ⟨cs,true⟩->Bv U f (.pointer (some ⟨o,0,none⟩)::args) t λv b=>v=r/\b=t.A0 o (some ⟨g,true⟩)}(h:t.W o=some ⟨cs,true⟩):
 (Ob f args cs g r ok).fn (.pointer (some ⟨o,0,none⟩)::args) t=some (r,t.A0 o (some ⟨g,true⟩)):=by
 have a: ∃q,Value.pointer (some ⟨q,0,none⟩)::args=Value.pointer (some ⟨o,0,none⟩)::args/\t.W q=some ⟨cs,true⟩:=⟨o,rfl,h⟩;have e:a.choose=o:=by have:=a.choose_spec.1;simpa using this
 simp only[Ob,dif_pos a];rw[e]
theorem Tb: ∀v∈[AH l,Y i],Co v=true:= λv a=>by simp at a;rcases a with rfl|rfl<;>rfl
theorem aBZ(e:l.length<=140737488355328)(f:i<500000)(g:a1<=100): ∃u dW,Xk u a1/\dW<=i+200/\ ∀(t:V) (o:Nat),t.W o=some ⟨[AH l,Y i],true⟩->Bv U 60 [AA o,Y a1] t λv h=>v= .agg (A4 u).toArray/\h=t.A0 o (some ⟨[AH l,Y dW],true⟩):=by obtain⟨u,dW,a,b,c⟩:=a27 e f g;exact⟨u,dW,a,b,λt o j=>n1 (by simp) (by simp) Tb Tb (λv d=>by simp at d;subst d;rfl) c j⟩
theorem ry(e:l.length<=140737488355328)(f:i<600000)(h:Av u)(g:1<=u.A1.length): ∃L dW,L.length=u.A7.length/\LW u L/\dW<=i+20*u.A7.length/\ ∀(t:V) (o:Nat),t.W o=some ⟨[AH l,Y i],true⟩->Bv U 48 [AA o,.agg (A4 u).toArray] t λv j=>v=Ag L/\j=t.A0 o (some ⟨[AH l,Y dW],true⟩):=by obtain⟨L,dW,a,b,k,c⟩:=a0N e f h g;exact⟨L,dW,a,b,k,λt o m=>n1 (by simp) (by simp) Tb Tb (λv d=>by simp at d;subst d;rfl) c m⟩
theorem aD5(e:l.length<=140737488355328)(f:i<600000)(h:Av u)(g:1<=u.A1.length): ∃R dW,R.length=u.A1.length/\NI 16 R/\dW<=i+2*u.A1.length/\ ∀(t:V) (o:Nat),t.W o=some ⟨[AH l,Y i],true⟩->Bv U 61 [AA o,.agg (A4 u).toArray] t λv j=>v=AH R/\j=t.A0 o (some ⟨[AH l,Y dW],true⟩):=by obtain⟨R,dW,a,b,k,c⟩:=aFO e f h g;exact⟨R,dW,a,b,k,λt o m=>n1 (by simp) (by simp) Tb Tb (λv d=>by simp at d;subst d;rfl) c m⟩
@[simp] theorem aLX{ok: ∀(t:V) (o:Nat),t.W o=some ⟨cs,true⟩->Bv U f (.pointer (some ⟨o,0,none⟩)::args) t λv a=>v=r/\a=t.A0 o (some ⟨g,true⟩)}:(Ob f args cs g r ok).f=f:=rfl
theorem bx{ok: ∀(t:V) (o:Nat),t.W o=some ⟨cs,true⟩->Bv U f (.pointer (some ⟨o,0,none⟩)::args) t λv a=>v=r/\a=t.A0 o (some ⟨g,true⟩)}(h:t.W o=some ⟨cs,true⟩)(b:k r (t.A0 o (some ⟨g,true⟩))):
 ep ((Ob f args cs g r ok).fn (.pointer (some ⟨o,0,none⟩)::args) t) k:=by
 rw[aCU h];exact b
theorem jK(a:l.length<=140737488355328): ∃(u:AY) (L:List (List Int)) (R:List Int) (i:Nat),Xk u 3/\L.length=u.A7.length/\LW u L/\R.length=u.A1.length/\NI 16 R/\i<=1000/\ ∀t:V,Bv U 18 [AH l] t λv g=>v= .tuple #[.agg (A4 u++[Ag L,AH R]).toArray,AA (t.next+4)]/\g.W (t.next+4)=some ⟨[AH l,Y i],true⟩:=by
 obtain⟨u,h,b,s,j⟩:=aBZ (l:=l) a (i:=0) (by decide) (a1:=3) (by decide);have c:=dn b (by decide);have d:1<=u.A1.length/\u.A1.length<=9:=b.Ek;have w:=c.ok.F4;obtain⟨L,k,m,n,x,o⟩:=ry (l:=l) a (i:=h) (by omega) c d.1;obtain⟨R,i3,p,q,y,r⟩:=aD5 (l:=l) a (i:=k) (by omega) c d.1;refine⟨u,L,R,i3,b,m,n,p,q,by omega,λt=> ?_⟩;refine Ak (an:=⟨[],[Ob 60 [Y 3] _ _ _ j,Ob 48 [.agg (A4 u).toArray] _ _ _ o,Ob 61 [.agg (A4 u).toArray] _ _ _ r]⟩) yR (by kernel_rfl) (by simp[Zv]) ?_;simp(disch:=first|omega|simp only[DI.A2];omega)[Zv,x3,-H,-E,-I,-G,-List.map_map];refine bx (by simp(disch:=first|omega|simp only[DI.A2];omega)[-H,-E,-I,-G,-List.map_map]) ?_;have e:(A4 u).length=7:=rfl;have hb:C3 [Value.int IntKind.i64 0,Value.slice none 0 0,Value.slice none 0 0,Value.slice none 0 0,Value.slice none 0 0,Value.slice none 0 0,Value.slice none 0 0] 0 (A4 u)=A4 u:=by simp[C3,A4]
 have f:List.take 7 (A4 u)=A4 u:=rfl;simp(disch:=first|omega|simp only[DI.A2];omega)[e,hb,f,-H,-E,-I,-G,-List.map_map];refine bx (by simp(disch:=first|omega|simp only[DI.A2];omega)[-H,-E,-I,-G,-List.map_map]) ?_;simp(disch:=first|omega|simp only[DI.A2];omega)[e,f,-H,-E,-I,-G,-List.map_map];refine⟨by simp[A4],bx (by simp(disch:=first|omega|simp only[DI.A2];omega)[h9,-H,-E,-I,-G,-List.map_map]) ?_⟩;simp(disch:=first|omega|simp only[DI.A2];omega)[jf,-H,-E,-I,-G,-List.map_map];exact⟨by simp[C3,A4],by simp[C3,A4],by simp[C3,A4]⟩
end Go.Proofs.YtmmkkggfmigppaaGreat
