/- A part of the proof. -/
import Derived.Test.YtmmkkggfmigppaaGreatZczae
set_option linter.all false
set_option maxRecDepth 8000
set_option maxHeartbeats 16000000
namespace Go.Proofs.YtmmkkggfmigppaaGreat
open Go Go.DI Go.Big
variable{Q:BM->A6->V->Prop}{m A N:A6}{iM:Prop}{kU cq O:List (List Value)}{nK td v o n:Nat}{p:Dw}{r R:List Int}{t0 t:V}{u:AY}{w:Bool}{x:Bw}{L:List (List Int)}
theorem aAx(h:Av u)(AL:u.Ay[GI u v]?=some p)(A6:r.length<=1000)(hb: ∀x∈r,x<u.A1.length)(A7:FL u [(td,⟨B3 p,true⟩)] m t0 v r kU nK)(V:kU=[]↔iM)(AM:kU.length<=4000)(f:m 13=AA td)(g:m 15=Y 1)
 (A8: ∀A t cq o,FL u [(td,⟨B3 p,true⟩)] A t v r cq o->(cq=[]↔iM/\ ∀i,i<u.A5.length->0<i->0<Fa p.D9 (Cb u i)->(Gf u r i:Int)<=Fa p.D9 (Cb u i))->cq.length<=kU.length+u.A5.length->Q (.Ai 8) A t):BY U (.loop T3) m t0 Q:=by
 have AN:=h.ok.DD;have A9:=h.ok.Di;refine CE (an:=⟨[g7 u h],[]⟩) (λi A t=> ∃cq o,FL u [(td,⟨B3 p,true⟩)] A t v r cq o/\A 13=AA td/\(cq=[]↔iM/\ ∀j,j<i->0<j->0<Fa p.D9 (Cb u j)->(Gf u r j:Int)<=Fa p.D9 (Cb u j))/\cq.length<=kU.length+i/\1<=i/\A 15=Y i) u.A5.length ?_ ?_ 1 _ _ A9 ⟨kU,nK,A7,f,⟨λe=>⟨V.1 e,λj a b=>by omega⟩,λe=>V.2 e.1⟩,by omega,Ao _,g⟩
 ·rintro i A t W ⟨cq,o,d,f,w,AB,D,g⟩ AO J;obtain⟨X,K⟩:=CF W;have L:=(AX.1 K).2;have AP:=h.ok.Fq i X D K;obtain⟨c,z⟩: ∃c:Nat,X.EH=c:=DP (by omega);have B:Cb u i=(c:Int):=(by unfold Cb;rw[K];exact z);have M:(i:Int)<u.A5.length:=(by omega);have N:=BX (n:=i) (by omega);have AQ:c<5:=(by omega);have O:(c:Int)<5:=(by omega);have P:(B3 p).length=17:=rfl;have R:4+c+1<=17:=(by omega);have AD:(B3 p)[4+c]?=some (Y (Fa p.D9 c)):=by
   obtain rfl|rfl|rfl|rfl:c=1\/c=2\/c=3\/c=4:=(by omega);all_goals rfl
  have S: ∀h,(B3 p)[4+c]'h=Y (Fa p.D9 c):= λh=>(AX.1 AD).2;have AE:=d.ET;have Z:=d.GG;have l:=d.Jp;have AF:=d.GJ;have k:=d.Cr;have AG:=F k;obtain⟨C,AR⟩:=d.fc td ⟨B3 p,true⟩ (by simp);have AS:=F C;have A0:=d.Kx;have AT:=F A0;have AH:=d.Q7;have AJ:List.take (cq.length*3) cq.flatten=cq.flatten:=DV (by omega);have AK:((cq.length+1)*24<=140737488355328/\cq.length<=9223372036854775806)/\cq.length*3<=cq.flatten.length:=(by omega);have AU:(r.length<=1000/\ ∀y∈r,y<u.A1.length)/\i<u.A5.length:=⟨⟨A6,hb⟩,W⟩;by_cases s:0<Fa p.D9 c
  ·by_cases A3:(Gf u r i:Int)<=Fa p.D9 c
   ·have T: ¬Fa p.D9 c<(Gf u r i:Int):=(by omega);simp(disch:=first|omega|simp only[DI.A2];omega)[T3,Z,l,f,g,M,N,L,z,k,C,Bd,A4,O,P,R,S,CC,s,T,-H,-E,-I,-G,-List.map_map];refine J _ _ ⟨cq,o,d.Ey (by simp) (by simp) (by simp) (by simp),by simp[f],?_,by omega,by omega,by simp⟩;rw[OM];exact Qx (λ_ _=>by rw[B];exact A3) w
   ·have T:Fa p.D9 c<(Gf u r i:Int):=(by omega);simp(disch:=first|omega|simp only[DI.A2];omega)[T3,AE,Z,l,AF,f,g,M,N,L,z,k,C,Bd,A4,O,P,R,S,CC,s,T,A0,AH,AJ,AK,-List.flatten_append,-List.length_flatten,-H,-E,-I,-G,-List.map_map];refine J _ _ ⟨cq++[[Y 5,Y v,Y i]],_,d.add (a:=4) (b:=5) (n:=7) (by omega) (by simp) (by simp) (by simp) (by simp),by simp[f],?_,by simp;omega,by omega,by simp⟩;rw[OM];exact XV λq=>A3 (by have:=q D (by rw[B];exact s);rwa [B]at this)
  ·simp(disch:=first|omega|simp only[DI.A2];omega)[T3,l,f,g,M,N,L,z,k,C,Bd,A4,O,P,R,S,CC,s,-H,-E,-I,-G,-List.map_map];refine J _ _ ⟨cq,o,d.Ey (by simp) (by simp) (by simp) (by simp),by simp[f],?_,by omega,by omega,by simp⟩;rw[OM];exact Qx (λ_ q=>absurd q (by rw[B];exact s)) w
 ·rintro A t ⟨cq,o,d,f,w,AB,D,g⟩;have l:=d.Jp;have k:=d.Cr;have AG:=F k;simp(disch:=first|omega|simp only[DI.A2];omega)[T3,l,g,k,A4,-H,-E,-I,-G,-List.map_map];exact A8 _ _ cq o (d.Ey (by simp) (by simp) (by simp) (by simp)) w (by omega)
structure QZ(u:AY)(v:Nat)(r:List Int):Prop where
 len:(r.length:Int)=CS u v
 ok:Ew u.A1.length r= -1
 aA5: ∀x∈r,x≠ -1
 ct: ∀d,d<u.A1.length->r.count (d:Int)<=1
 a7y: ∀x∈r,0<=x->Es u v x.toNat=true
 aP: ∀p,u.Ay[GI u v]?=some p-> ∀i,i<u.A5.length->0<i->0<Fa p.D9 (Cb u i)->(Gf u r i:Int)<=Fa p.D9 (Cb u i)
def hl(iM:Prop)(x:Value):Prop:= ∃cq:List (List Value),x=M cq 3/\(∀q∈cq,q.length=3/\ ∀y∈q,Co y=true)/\cq.length<=5000/\(cq=[]↔iM)
theorem yD(b:t.W o=some ⟨cq.flatten,w⟩)(a: ∀q∈cq,q.length=3/\ ∀x∈q,Co x=true)(c:cq.length<=5000)(d:cq=[]↔iM): ∃r,DI.Az 9 t (AQ o cq.length 3)=some r/\hl iM r:=
 ⟨_,JG (n:=8) b rfl a,cq,rfl,a,c,d⟩
theorem nA{a b c:Int}(e:t.W o=some ⟨[Y a,Y b,Y c],w⟩)(f: ¬iM): ∃r,DI.Az 9 t (AQ o 1 3)=some r/\hl iM r:=
 yD (cq:=[[Y a,Y b,Y c]]) e (λq g=>by obtain rfl:=Gw.1 g;exact⟨rfl,λv d=>by simp at d;rcases d with rfl|rfl|rfl<;>rfl⟩) (by simp) ⟨λh=>by simp at h,λh=>(f h).elim⟩
theorem aAd:Ew n r= -1\/0<=Ew n r:=by
 unfold Ew;split
 ·right;omega
 ·left;rfl
theorem uU(h:Ew n r= -1): ∀x∈r,-1<=x/\x<n:= λx a=>by have:=lK (n:=n) (r:=r);rw[h]at this;simp at this;exact this x a
theorem FL.E2{a:Nat}(h:FL u [] A t v r cq o)(k:a<n)(d:N 1=A 1)(e:N 2=A 2)(f:N 3=A 3)(g:N 8=A 8):
 FL u [(t.next+a,x)] N ((t.AE n).A0 (t.next+a) (some x)) v r cq o:=by
 have i:=F h.Cr;have j:=F h.Kx;have key: ∀c,c<t.next->((t.AE n).A0 (t.next+a) (some x)).W c=t.W c:= λc b=>by rw[A3 (by omega),AU b]
 refine⟨(key 0 i).trans h.Cr,(key o j).trans h.Kx,h.Vz,λc y b=> ?_,d.trans h.ET,e.trans h.GG,f.trans h.Jp,g.trans h.GJ,h.Mc⟩;simp at b;obtain⟨rfl,rfl⟩:=b;exact⟨AT (by simp;omega),by omega⟩
theorem a0I(h:Av u)(m:v<u.A7.length)(j:r.length<=1000):Mu U 161 [.agg (A4 u).toArray,Y v,AH r] (hl (QZ u v r)):=by
 have Z:=h.ok.Ek;have A0:=h.ok.DD;obtain⟨y,pi,p,s,w,A5,B,A6,_⟩:=Wg h.ok m;have K:GI u v=pi:=by unfold GI;rw[s];simp[w]
 have k:u.Ay[GI u v]?=some p:=by rw[K];exact B
 refine Wz (Ak (an:=⟨[h3 u h.ok,ko u],[]⟩) a6S (by kernel_rfl) (by simp[W6]) ?_);by_cases g:(r.length:Int)=CS u v
 ·by_cases i:Ew u.A1.length r= -1
  ·simp(disch:=first|omega|simp only[DI.A2];omega)[W6,cw,A4,g,i,-H,-E,-I,-G,-List.map_map];simp(disch:=first|omega|simp only[DI.A2];omega)[Zs,-H,-E,-I,-G,-List.map_map];refine Pa (d:=8) (z:=3) (by simp) ?_;refine a1u (u:=u) (v:=v) j (kU:=[]) (iM:=True) ⟨by rw[A3 (by simp),AU (by simp),AT (by simp)];rfl,AT (by simp),by simp,by simp,by simp,by simp,by simp,by simp,by simp⟩ (by simp) (by simp) (by simp) λA t cq o e f l=> ?_;simp(disch:=first|omega|simp only[DI.A2];omega)[Yh,-H,-E,-I,-G,-List.map_map];refine aFs h.ok j (e.Ey (by simp) (by simp) (by simp) (by simp)) f (by simp at l;omega) (by simp) λA t A8 o e f A9=> ?_;have L:=e.ET;have M:=e.Jp;have C:=e.Cr;have AB:=F C;have N:=(AX.1 s).2;have O:=(AX.1 B).2;have P:(v:Int)<u.A7.length:=(by omega);have Q:(pi:Int)<u.Ay.length:=(by omega);have D:= λx R=>(uU i x R).2;have S:(B3 p).length=17:=rfl;have T:List.take 17 (B3 p)=B3 p:=rfl;simp(disch:=first|omega|simp only[DI.A2];omega)[bL,L,M,C,A4,Cd,N,w,P,Q,O,S,T,-H,-E,-I,-G,-List.map_map];rw[show C3 [Value.string ⟨#[]⟩,Y 0,Y 0,Y 0,Y 0,Y 0,Y 0,Y 0,Y 0,.slice none 0 0,.slice none 0 0,.bool false,.slice none 0 0,.slice none 0 0,.bool false,.slice none 0 0,.slice none 0 0] 0 (B3 p)=B3 p from rfl];simp(disch:=first|omega|simp only[DI.A2];omega)[Yu,-H,-E,-I,-G,-List.map_map];refine aAK h m k j D (td:=t.next+10) (e.E2 (x:=⟨B3 p,true⟩) (a:=10) (n:=12) (by omega) (by simp) (by simp) (by simp) (by simp)) f (by simp at l;omega) (by simp) (by simp) λA t3 AD o e V f AE=> ?_;simp(disch:=first|omega|simp only[DI.A2];omega)[Ye,-H,-E,-I,-G,-List.map_map];refine aAx h k j D (td:=t.next+10) (e.Ey (by simp) (by simp) (by simp) (by simp)) f (by simp at l;omega) (by simp[V]) (by simp) λA t4 AF o e f AG=> ?_;have W:=e.GJ;simp(disch:=first|omega|simp only[DI.A2];omega)[ZB,W,-H,-E,-I,-G,-List.map_map];refine yD e.Kx e.Mc (by simp at l;omega) ?_;rw[f];simp only[true_and];exact⟨λ⟨⟨⟨a,b⟩,c⟩,d⟩=>⟨g,i,a,b,c,λAJ J=>by rw[k]at J;cases J;exact d⟩,λq=>⟨⟨⟨q.aA5,q.ct⟩,q.a7y⟩,q.aP p k⟩⟩
  ·have X:0<=Ew u.A1.length r:=aAd.resolve_left i;simp(disch:=first|omega|simp only[DI.A2];omega)[W6,cw,Zs,Yh,bL,Yu,Ye,ZB,A4,g,X,-H,-E,-I,-G,-List.map_map];exact nA (AT (by simp)) λq=>i q.ok
 ·simp(disch:=first|omega|simp only[DI.A2];omega)[W6,cw,Zs,Yh,bL,Yu,Ye,ZB,A4,g,-H,-E,-I,-G,-List.map_map];exact nA (AT (by simp)) λq=>g q.len
structure Ja(u:AY)(R:List Int)(L:List (List Int))(A:A6)(t:V)(cq:List (List Value))(o:Nat):Prop where
 Cr:t.W 0=some ⟨A4 u,true⟩
 Kx:t.W o=some ⟨cq.flatten,true⟩
 Vz:o≠0
 ET:A 1=Ag L
 GG:A 2=AH R
 Jp:A 3=AA 0
 LD:A 7=AQ o cq.length 3
 Mc: ∀q∈cq,q.length=3/\ ∀x∈q,Co x=true
theorem Ja.Q7(h:Ja u R L A t cq o):cq.flatten.length=cq.length*3:=JQ λq a=>(h.Mc q a).1
theorem Ja.Ey(h:Ja u R L A t cq o)(a:N 1=A 1)(b:N 2=A 2)(c:N 3=A 3)(d:N 7=A 7):Ja u R L N t cq o:=
 ⟨h.Cr,h.Kx,h.Vz,a.trans h.ET,b.trans h.GG,c.trans h.Jp,d.trans h.LD,h.Mc⟩
theorem Ja.Bg{a:V}{o':Nat}(h:Ja u R L A t cq o)(c: ∀b,b<t.next->b≠o->a.W b=t.W b)(Vz:t.next<=o')(Kx:a.W o'=some ⟨O.flatten,true⟩)(Mc: ∀q∈O,q.length=3/\ ∀x∈q,Co x=true)
 (d:N 1=A 1) (e:N 2=A 2) (f:N 3=A 3) (g:N 7=AQ o' O.length 3):Ja u R L N a O o':=
 ⟨(c 0 (F h.Cr) (Ne.symm h.Vz)).trans h.Cr,Kx,by have:=F h.Cr;omega,d.trans h.ET,e.trans h.GG,f.trans h.Jp,g,Mc⟩
structure RP(u:AY)(R:List Int)(L:List (List Int)):Prop where
 len:L.length=u.A7.length
 D8: ∀w r,L[w]?=some r->QZ u w r
 E4: ∀d,d<u.A1.length->((D1 L d:Nat):Int)<=CD u R d
theorem a24(h:Av u)(K:Bk L)(AE:L.length=u.A7.length)(M:Ja u R L m t0 [] nK)(e:m 8=Y 0)
 (N: ∀A t cq o,Ja u R L A t cq o->(cq=[]↔ ∀w r,L[w]?=some r->QZ u w r)->cq.length<=60000->Q (.Ai 0) A t):BY U (.loop YY) m t0 Q:=by
 have AF:=h.ok.F4;refine CE (an:=⟨[],[]⟩) (λi A t=> ∃cq o,Ja u R L A t cq o/\(cq=[]↔ ∀w,w<i-> ∀r,L[w]?=some r->QZ u w r)/\cq.length<=5000*i/\A 8=Y i) L.length ?_ ?_ 0 _ _ (C0 _) ⟨[],nK,M,by simp,by simp,e⟩
 ·rintro i A t O ⟨cq,o,a,j,S,e⟩ AH p;obtain⟨r,d⟩:=CF O;have T:=(AX.1 d).2;have V:=K.2 r (B9 d);have W:(i:Int)<L.length:=(by omega);have s:=BX (n:=i) (by omega);have f:=a.ET;have y:=a.Jp;have X:=a.LD;have k:=a.Cr;have Z:=F k;have g:=a.Kx;have A0:=F g;have z:=a.Q7;simp(disch:=first|omega|simp only[DI.A2];omega)[YY,f,y,X,e,W,T,BE,k,A4];refine((a0I h (v:=i) (by omega) V).O9 (λv B=>by simp at B;rcases B with rfl|rfl|rfl<;>rfl)).AG λx AJ ⟨⟨Og,A1,C,AK,D⟩,A5⟩=> ?_;subst A5;subst A1;have A6:List.take (cq.length*3) cq.flatten=cq.flatten:=DV (by omega);have AL:Og.flatten.length=Og.length*3:=JQ λq l=>(C q l).1;have A8:((cq.length+Og.length)*24<=140737488355328/\cq.length+Og.length<=9223372036854775807)/\cq.length*3<=cq.flatten.length:=(by omega);by_cases c:Og=[]
  ·subst c;simp(disch:=first|omega|simp only[DI.A2];omega)[e,s,g,z,-List.flatten_append,-List.length_flatten,-H,-E,-I,-G,-List.map_map];refine⟨by omega,p _ _ ⟨cq,o,⟨(AU Z).trans k,(AU A0).trans g,a.Vz,by simp[f],by simp[a.GG],by simp[y],by simp,a.Mc⟩,?_,by omega,by simp⟩⟩;have A9:=D.1 rfl;rw[OM (P:= λw=> ∀r,L[w]?=some r->QZ u w r)];exact j.trans ⟨λq=>⟨q,λAM J=>by rw[d]at J;cases J;exact A9⟩,λq=>q.1⟩
  ·simp(disch:=first|omega|simp only[DI.A2];omega)[e,s,g,z,A6,A8,c,-List.flatten_append,-List.length_flatten,-H,-E,-I,-G,-List.map_map];refine p _ _ ⟨cq++Og,t.next+8,a.Bg (λb hb AB=> ?_) (NF _ _) ?_ (λq l=>(Cg.1 l).elim (a.Mc q) (C q)) (by simp) (by simp) (by simp) (by simp),?_,by simp;omega,by simp⟩
   ·rw[A3 (by omega),A3 AB,AU hb]
   ·rw[AT (by simp),List.flatten_append]
   ·have AD: ¬QZ u i r:= λq=>c (D.2 q);rw[OM (P:= λw=> ∀r,L[w]?=some r->QZ u w r)];exact⟨λq=>absurd (List.append_eq_nil_iff.1 q).2 c,λq=>(AD (q.2 r d)).elim⟩
 ·rintro A t ⟨cq,o,a,j,S,e⟩;have f:=a.ET;simp[YY,f,e];refine N _ _ cq o (a.Ey (by simp) (by simp) (by simp) (by simp)) (j.trans ⟨λq w r d=>q w (AX.1 d).1 r d,λq w _ r d=>q w r d⟩) (by omega)
theorem a1l(h:Av u)(J:Ja u R L m t0 kU nK)(K:kU=[]↔iM)(A0:kU.length<=60000)(a:m 9=AH (BV u R))(f:m 10=AH (BZ u L))(g:m 11=Y 0)
 (M: ∀A t cq o,Ja u R L A t cq o->(cq=[]↔iM/\ ∀d,d<u.A1.length->((D1 L d:Nat):Int)<=CD u R d)->cq.length<=70000->Q (.Ai 2) A t):BY U (.loop WO) m t0 Q:=by
 have A4:=h.ok.Ek;have k:=JX (u:=u) (Ab:=R);have r:=JV (u:=u) (L:=L);refine CE (an:=⟨[],[]⟩) (λi A t=> ∃cq o,Ja u R L A t cq o/\A 9=AH (BV u R)/\A 10=AH (BZ u L)/\(cq=[]↔iM/\ ∀d,d<i->((D1 L d:Nat):Int)<=CD u R d)/\cq.length<=kU.length+i/\A 11=Y i) u.A1.length ?_ ?_ 0 _ _ (C0 _) ⟨kU,nK,J,a,f,by simpa using K,by omega,g⟩
 ·rintro i A t s ⟨cq,o,e,a,f,l,N,g⟩ A5 w;have x:(i:Int)<u.A1.length:=(by omega);have y:=BX (n:=i) (by omega);have O:(BV u R)[i]?=some (CD u R i):=(by rw[MA,Ej s]);have z: ∀h,(BV u R)[i]'h=CD u R i:= λh=>(AX.1 O).2;have S:(BZ u L)[i]?=some ((D1 L i:Nat):Int):=(by rw[IL,Ej s]);have B: ∀h,(BZ u L)[i]'h=((D1 L i:Nat):Int):= λh=>(AX.1 S).2;have T:=e.LD;have C:=e.Kx;have A6:=F C;have V:=e.Q7;have W:List.take (cq.length*3) cq.flatten=cq.flatten:=DV (by omega);have X:((cq.length+1)*24<=140737488355328/\cq.length<=9223372036854775806)/\cq.length*3<=cq.flatten.length:=(by omega);by_cases c:((D1 L i:Nat):Int)<=CD u R i
  ·have p: ¬CD u R i<((D1 L i:Nat):Int):=(by omega);simp(disch:=first|omega|simp only[DI.A2];omega)[WO,a,f,g,x,y,k,r,z,B,p,-H,-E,-I,-G,-List.map_map];refine w _ _ ⟨cq,o,e.Ey (by simp) (by simp) (by simp) (by simp),by simp[a],by simp[f],?_,by omega,by simp⟩;rw[OM (P:= λd=>((D1 L d:Nat):Int)<=CD u R d)];exact Qx c l
  ·have p:CD u R i<((D1 L i:Nat):Int):=(by omega);simp(disch:=first|omega|simp only[DI.A2];omega)[WO,T,a,f,g,x,y,k,r,z,B,p,C,V,W,X,-List.flatten_append,-List.length_flatten,-H,-E,-I,-G,-List.map_map];refine w _ _ ⟨cq++[[Y 6,Y (-1),Y i]],t.next+4,e.Bg (λb hb Z=> ?_) (NF _ _) ?_ (λq j=> ?_) (by simp) (by simp) (by simp) (by simp),by simp[a],by simp[f],?_,by simp;omega,by simp⟩
   ·rw[A3 (by omega),A3 Z,A3 (by omega),AU hb]
   ·rw[AT (by simp)];simp
   ·rcases Cg.1 j with j|j
    ·exact e.Mc q j
    ·obtain rfl:=Gw.1 j;exact⟨rfl,λv D=>by simp at D;rcases D with rfl|rfl|rfl<;>rfl⟩
   ·rw[OM (P:= λd=>((D1 L d:Nat):Int)<=CD u R d)];exact XV c
 ·rintro A t ⟨cq,o,e,a,f,l,N,g⟩;simp(disch:=first|omega|simp only[DI.A2];omega)[WO,a,g,k,-H,-E,-I,-G,-List.map_map];exact M _ _ cq o (e.Ey (by simp) (by simp) (by simp) (by simp)) l (by omega)
def a3u(iM:Prop)(x:Value):Prop:= ∃cq:List (List Value),x=M cq 3/\cq.length<=70000/\(cq=[]↔iM)
theorem a40(h:Av u)(i:Bk L):Mu U 103 [.agg (A4 u).toArray,Ag L,AH R] (a3u (RP u R L)):=by
 have w:=h.ok.MC;refine Wz (Ak (an:=⟨[Jj u h.CV,TV u h,S5 u h],[]⟩) a3I (by kernel_rfl) (by simp[dZ]) ?_);by_cases b:L.length=u.A7.length
 ·have c:(L.length:Int)=u.A7.length:=(by omega);simp(disch:=first|omega|simp only[DI.A2];omega)[dZ,gW,A4,c,-H,-E,-I,-G,-List.map_map];refine Pa (d:=7) (z:=3) (by simp) ?_;refine a24 (u:=u) (R:=R) h i b (nK:=2) ⟨by rw[A3 (by simp),AU (by simp),AT (by simp)];rfl,AT (by simp),by simp,by simp,by simp,by simp,by simp,by simp⟩ (by simp) λA t cq o a e f=> ?_;have j:=a.ET;have k:=a.GG;have l:=a.Jp;have g:=a.Cr;have x:=F g;simp(disch:=first|omega|simp only[DI.A2];omega)[gQ,j,k,l,g,A4,-H,-E,-I,-G,-List.map_map];refine a1l h (a.Ey (by simp) (by simp) (by simp) (by simp)) e f (by simp) (by simp) (by simp) λA t cq o a e f=> ?_;have m:=a.LD;simp(disch:=first|omega|simp only[DI.A2];omega)[mr,m,-H,-E,-I,-G,-List.map_map];exact⟨_,JG (n:=8) a.Kx rfl a.Mc,cq,rfl,f,e.trans ⟨λq=>⟨b,q.1,q.2⟩,λq=>⟨q.D8,q.E4⟩⟩⟩
 ·have c: ¬(L.length:Int)=u.A7.length:=(by omega);simp(disch:=first|omega|simp only[DI.A2];omega)[dZ,gW,gQ,mr,A4,c,-H,-E,-I,-G,-List.map_map];obtain⟨r,p,cq,s,y,B,v⟩:=nA (t:=(((D0.AE 2).A0 0 (some ⟨A4 u,true⟩)).AE 5).A0 5 (some ⟨[Y 1,Y (-1),Y L.length],true⟩)) (o:=5) (iM:=RP u R L) (AT (by simp)) λq=>b q.len;exact⟨r,p,cq,s,by omega,v⟩
noncomputable def L0(u:AY)(R:List Int)(L:List (List Int)):Bool:= @decide (RP u R L) (Classical.propDecidable _)
theorem dM:L0 u R L=true↔RP u R L:=by unfold L0;exact@decide_eq_true_iff (RP u R L) (Classical.propDecidable _)
theorem aCe(h:Av u)(b:Bk L):AL U 50 [.agg (A4 u).toArray,Ag L,AH R] (.bool (L0 u R L)):=by
 have a:=h.ok.MC;refine BG (Ak (an:=⟨[Jj u h.CV],[]⟩) a6V (by kernel_rfl) (by simp[j1]) ?_);simp(disch:=first|omega|simp only[DI.A2];omega)[j1,x6,A4];refine((a40 h b (R:=R)).O9 (λv a=>by simp at a;rcases a with rfl|rfl|rfl<;>rfl)).AG λx g ⟨⟨cq,c,i,d⟩,e⟩=> ?_;subst e;subst c;have f:decide (cq=[])=L0 u R L:=by rw[Bool.eq_iff_iff,dM,<-d];simp
 simp[f]
end Go.Proofs.YtmmkkggfmigppaaGreat
namespace Go.Big
def Ea:List Int->List Int->Nat
 |x::l,y::k=>(if x=y then 0 else 1)+Ea l k
 |_,_=>0
theorem Zn: ∀{a b:List Int},Ea a b<=a.length
 |[],_=>Ao _
 |_::_,[]=>C0 _
 | x::l,y::k=>by have:=Zn (a:=l) (b:=k);simp only[Ea,Df];split<;>omega
theorem w3: ∀{a:List Int},Ea a a=0
 |[]=>rfl
 |x::l=>by simp[Ea,w3 (a:=l)]
theorem kg: ∀{a b:List Int} {i:Nat} {x y:Int},a[i]?=some x->b[i]?=some y->Ea (a.take (i+1)) (b.take (i+1))=Ea (a.take i) (b.take i)+if x=y then 0 else 1
 | e::a,v::b,0,x,y,c,d=>by simp at c d;subst c;subst d;simp[Ea]
 | e::a,v::b,i+1,x,y,c,d=>by have:=kg (a:=a) (b:=b) (i:=i) (by simpa using c) (by simpa using d);simp only[WY,Ea];rw[this];omega
 |[],_,i,x,y,h,_=>by simp at h
 |_::_,[],i,x,y,_,h=>by simp at h
def EY:List (List Int)->List (List Int)->Nat
 |r::a,s::b=>Ea r s+EY a b
 |_,_=>0
theorem bI: ∀{a b:List (List Int)} {Z:Nat},(∀r∈a,r.length<=Z)->EY a b<=a.length*Z
 |[],_,Z,_=>C0 _
 |_::_,[],Z,_=>C0 _
 | r::a,s::b,Z,h=>by have d:=bI (a:=a) (b:=b) (Z:=Z) λx c=>h x (by simp[c]);have e:=Zn (a:=r) (b:=s);have f:=h r (by simp);simp only[EY,Df,Hl,Nat.one_mul];omega
theorem iy: ∀{a:List (List Int)},EY a a=0
 |[]=>rfl
 |x::l=>by simp[EY,iy (a:=l),w3]
theorem aH: ∀{a b:List (List Int)} {i:Nat} {r s:List Int},a[i]?=some r->b[i]?=some s->EY (a.take (i+1)) (b.take (i+1))=EY (a.take i) (b.take i)+Ea r s
 | e::a,v::b,0,x,y,c,d=>by simp at c d;subst c;subst d;simp[EY]
 | e::a,v::b,i+1,x,y,c,d=>by have:=aH (a:=a) (b:=b) (i:=i) (by simpa using c) (by simpa using d);simp only[WY,EY];rw[this];omega
 |[],_,i,x,y,h,_=>by simp at h
 |_::_,[],i,x,y,_,h=>by simp at h
def Mm:List (List Int)->List (List Int)->Bool
 |[],[]=>true
 |r::a,s::b=>decide (r.length=s.length)&&Mm a b
 |_,_=>false
theorem gi: ∀{a b:List (List Int)},a.length≠b.length->Mm a b=false
 |[],[],h=>absurd rfl h
 |[],_::_,_=>rfl
 |_::_,[],_=>rfl
 | r::a,s::b,h=>by simp only[Mm];rw[gi (a:=a) (b:=b) (by simpa using h),Bool.and_false]
theorem mX: ∀{a b:List (List Int)} {i:Nat} {r s:List Int},a[i]?=some r->b[i]?=some s->r.length≠s.length->Mm a b=false
 |f::a,v::b,0,x,y,c,d,e=>by simp at c d;subst c;subst d;simp[Mm,e]
 | f::a,v::b,i+1,x,y,c,d,e=>by simp only[Mm];rw[mX (a:=a) (b:=b) (i:=i) (by simpa using c) (by simpa using d) e,Bool.and_false]
 |[],_,i,x,y,h,_,_=>by simp at h
 |_::_,[],i,x,y,_,h,_=>by simp at h
theorem Qq: ∀{a b:List (List Int)},a.length=b.length->(∀(i:Nat) r s,a[i]?=some r->b[i]?=some s->r.length=s.length)->Mm a b=true
 |[],[],_,_=>rfl
 |[],_::_,h,_=>by simp at h
 |_::_,[],h,_=>by simp at h
 | d::a,v::b,h,c=>by simp only[Mm];rw[Qq (by simpa using h) λi x y e f=>c (i+1) x y (by simpa using e) (by simpa using f),c 0 d v rfl rfl];simp
def DY(a b:List (List Int)):Int:=if Mm a b then EY a b else-1
variable{a:List (List Int)}
theorem a1q:DY a a=0:=by unfold DY;rw[Qq rfl λi r s c b=>by rw[c]at b;cases b;rfl,iy];rfl
end Go.Big
namespace Go.Proofs.YtmmkkggfmigppaaGreat
open Go Go.DI Go.Big
def G7(aR:List (List Int))(v i:Nat)(x:Int):Prop:= ∃r,aR[v]?=some r/\r[i]?=some x
variable{aR B Fin L ym:List (List Int)}{i v j b o z q n s c0:Nat}{x y d a C D J K:Int}{aJ bG T:List Cn}{h:Cn}{r R l dc ed:List Int}{u:AY}{P aF:List (Int×Int)}{p:Int×Int}{an:Option Nat}{t:V}{w:Bool}{bd cs:List Value}{ps:List Nat}{es:List (Value×Value)}{Q:BM->A6->V->Prop}{m:A6}
theorem Rc(h:G7 aR v i x)(c:G7 aR v i y):x=y:=by obtain⟨r,d,e⟩:=h;obtain⟨s,a,b⟩:=c;rw[d]at a;cases a;rw[e]at b;cases b;rfl
theorem RS{w:Nat}{z:Int}(h:G7 aR v i z):G7 (Ci aR v i x) w j y↔if w=v/\j=i then y=x else G7 aR w j y:=by
 obtain⟨r,a,d⟩:=h;have f:=(AX.1 a).1;have g:=(AX.1 d).1;have k:aR.getD v []=r:=by rw[Dv,a];rfl
 unfold G7 Ci;rw[k];by_cases c:w=v
 ·subst c;rw[List.getElem?_set_self f];simp only[GY,exists_eq_left',true_and];by_cases b:j=i
  ·subst b;rw[List.getElem?_set_self g,if_pos rfl];simp only[GY];exact⟨Eq.symm,Eq.symm⟩
  ·rw[XG (λe=>b e.symm),if_neg b,a];simp
 ·rw[XG (λe=>c e.symm),if_neg λq=>c q.1]
def MF(aR B:List (List Int)):Prop:=aR.length=B.length/\ ∀(v:Nat) r s,aR[v]?=some r->B[v]?=some s->r.length=s.length
theorem vz(h:MF aR B):MF (Ci aR v i x) B:=by
 refine⟨by rw[ML,h.1],λw r s a b=> ?_⟩;unfold Ci at a;rw[Ig]at a;split at a
 ·next e=>
  subst e;split at a
  ·next d=>cases a;rw[MJ];have c:aR[v]?=some aR[v]:=AS d;rw[Dv,c];exact h.2 v _ s c b
  ·cases a
 ·exact h.2 w r s a b
theorem a6p(h:MF aR B)(f: ∀v i x y,G7 aR v i x->G7 B v i y->x=y):aR=B:=by
 apply N1;intro v;by_cases c:v<aR.length
 ·have g:v<B.length:=(by rw[<-h.1];exact c);have a:aR[v]?=some aR[v]:=AS c;have b:B[v]?=some B[v]:=AS g;have k:=h.2 v _ _ a b;rw[a,b];congr 1;apply N1;intro i;by_cases j:i<aR[v].length
  ·have d:aR[v][i]?=some aR[v][i]:=AS j;have e:B[v][i]?=some B[v][i]:=AS (by omega);rw[d,e,f v i _ _ ⟨_,a,d⟩ ⟨_,b,e⟩]
  ·rw[LF (by omega),LF (by omega)]
 ·rw[LF (by omega),LF (by rw[<-h.1];omega)]
def RK(aR Fin:List (List Int))(h:Cn):Prop:= ∃v i:Nat,h.Au=v/\h.B4=i/\G7 aR v i h.BQ/\G7 Fin v i h.Bg/\h.BQ≠h.Bg
structure HD(aR Fin:List (List Int))(T:List Cn):Prop where
 tQ:MF aR Fin
 TR: ∀v i x y,G7 aR v i x->G7 Fin v i y->x≠y-> ∃h∈T,h.Au=(v:Nat)/\h.B4=(i:Nat)
 left: ∀h∈T,RK aR Fin h
 VN:T.Pairwise λa b=> ¬(a.Au=b.Au/\a.B4=b.B4)
theorem HD.nil(h:HD aR Fin []):aR=Fin:=a6p h.tQ λv i x y a b=>TI λq=>by obtain⟨_,c,_⟩:=h.TR v i x y a b q;simp at c
theorem HD.a7z(e:HD aR Fin (bG++h::aJ)):HD (Ci aR h.Au.toNat h.B4.toNat h.Bg) Fin (bG++aJ):=by
 obtain⟨v,i,s,t,g,u,F⟩:=e.left h (by simp);obtain⟨z,A,l⟩:=Qv.1 e.VN;have m:=Su.1 A;have off: ∀k∈bG++aJ,¬(k.Au=(v:Nat)/\k.B4=(i:Nat)):= λk d q=>by
  rcases Cg.1 d with d|d
  ·exact l k d h (by simp) ⟨by omega,by omega⟩
  ·exact m.1 k d ⟨by omega,by omega⟩
 rw[s,t];simp only[EE];refine⟨vz e.tQ,λw j x y f n o=> ?_,λk d=> ?_,Qv.2 ⟨z,m.2,λa B b hb=>l a B b (by simp[hb])⟩⟩
 ·rw[RS g]at f;by_cases c:w=v/\j=i
  ·rw[if_pos c]at f;obtain⟨rfl,rfl⟩:=c;exact absurd (by rw[f];exact Rc u n) o
  ·rw[if_neg c]at f;obtain⟨k,d,p,r⟩:=e.TR w j x y f n o;simp only[Cg,CM]at d;rcases d with d|rfl|d
   ·exact⟨k,by simp[d],p,r⟩
   ·exact absurd ⟨by omega,by omega⟩ c
   ·exact⟨k,by simp[d],p,r⟩
 ·obtain⟨w,j,C,D,a3,a4,E⟩:=e.left k (by simp only[Cg,CM]at d⊢;rcases d with h|h;exact .inl h;exact .inr (.inr h));refine⟨w,j,C,D,?_,a4,E⟩;rw[RS g,if_neg λq=>off k d ⟨by omega,by omega⟩];exact a3
theorem HD.a6r(f:HD aR Fin (bG++h::aJ))(t:d≠h.Bg):HD (Ci aR h.Au.toNat h.B4.toNat d) Fin (bG++⟨h.Au,h.B4,d,h.Bg⟩::aJ):=by
 obtain⟨v,i,u,z,g,A,K⟩:=f.left h (by simp);obtain⟨B,C,l⟩:=Qv.1 f.VN;have m:=Su.1 C;have off: ∀k∈bG++aJ,¬(k.Au=(v:Nat)/\k.B4=(i:Nat)):= λk e q=>by
  rcases Cg.1 e with e|e
  ·exact l k e h (by simp) ⟨by omega,by omega⟩
  ·exact m.1 k e ⟨by omega,by omega⟩
 have D:h.Au.toNat=v:=by omega
 have E:h.B4.toNat=i:=by omega
 rw[D,E];have o: ∀k∈bG++aJ,RK (Ci aR v i d) Fin k:= λk e=>by obtain⟨w,j,F,G,a3,a4,H⟩:=f.left k (by simp only[Cg,CM]at e⊢;rcases e with h|h;exact .inl h;exact .inr (.inr h));refine⟨w,j,F,G,?_,a4,H⟩;rw[RS g,if_neg λq=>off k e ⟨by omega,by omega⟩];exact a3
 refine⟨vz f.tQ,λw j x y n I J=> ?_,λk e=> ?_,Qv.2 ⟨B,Su.2 ⟨λb hb=>m.1 b hb,m.2⟩,λa p b hb=> ?_⟩⟩
 ·rw[RS g]at n;by_cases c:w=v/\j=i
  ·exact⟨⟨h.Au,h.B4,d,h.Bg⟩,by simp,by simp only;omega,by simp only;omega⟩
  ·rw[if_neg c]at n;obtain⟨k,e,r,s⟩:=f.TR w j x y n I J;simp only[Cg,CM]at e;rcases e with e|rfl|e
   ·exact⟨k,by simp[e],r,s⟩
   ·exact absurd ⟨by omega,by omega⟩ c
   ·exact⟨k,by simp[e],r,s⟩
 ·simp only[Cg,CM]at e;rcases e with e|rfl|e
  ·exact o k (by simp[e])
  ·exact⟨v,i,u,z,(RS g).2 (by simp),A,t⟩
  ·exact o k (by simp[e])
 ·rcases CM.1 hb with rfl|hb
  ·exact l a p h (by simp)
  ·exact l a p b (by simp[hb])
structure Hf(L Fin:List (List Int))(v i:Nat)(T:List Cn):Prop where
 TR: ∀(w j:Nat) x y,(w<v\/w=v/\j<i)->G7 L w j x->G7 Fin w j y->x≠y-> ∃h∈T,h.Au=(w:Nat)/\h.B4=(j:Nat)
 left: ∀h∈T,RK L Fin h/\(h.Au<v\/h.Au=v/\h.B4<i)
 VN:T.Pairwise λa b=> ¬(a.Au=b.Au/\a.B4=b.B4)
 len:T.length<=8*v+i
theorem Hf.nil:Hf L Fin 0 0 []:=⟨λw j x y h=>by omega,by simp,.nil,by simp⟩
theorem Hf.skip(h:Hf L Fin v i T)(g:G7 L v i x)(l:G7 Fin v i x):Hf L Fin v (i+1) T:=by
 refine⟨λw j a b m d hb e=> ?_,λk f=>⟨(h.left k f).1,?_⟩,h.VN,by have:=h.len;omega⟩
 ·by_cases c:w=v/\j=i
  ·obtain⟨rfl,rfl⟩:=c;exact absurd ((Rc d g).trans (Rc l hb)) e
  ·exact h.TR w j a b (by omega) d hb e
 ·have:=(h.left k f).2;omega
theorem Hf.add(h:Hf L Fin v i T)(f:G7 L v i x)(g:G7 Fin v i y)(l:x≠y):Hf L Fin v (i+1) (T++[⟨v,i,x,y⟩]):=by
 refine⟨λw j a b p e hb m=> ?_,λk d=> ?_,Qv.2 ⟨h.VN,List.pairwise_singleton _ _,λa e b hb=> ?_⟩,by have:=h.len;simp;omega⟩
 ·by_cases c:w=v/\j=i
  ·exact⟨⟨v,i,x,y⟩,by simp,by simp[c.1],by simp[c.2]⟩
  ·obtain⟨k,n,o⟩:=h.TR w j a b (by omega) e hb m;exact⟨k,by simp[n],o⟩
 ·rcases Cg.1 d with d|d
  ·refine⟨(h.left k d).1,?_⟩;have:=(h.left k d).2;omega
  ·obtain rfl:=Gw.1 d;exact⟨⟨v,i,rfl,rfl,f,g,l⟩,.inr ⟨rfl,by simp only;omega⟩⟩
 ·obtain rfl:=Gw.1 hb;have:=(h.left a e).2;simp only;omega
theorem Hf.D8(h:Hf L Fin v r.length T)(g:L[v]?=some r)(m:r.length<=8):Hf L Fin (v+1) 0 T:=by
 refine⟨λw j a b n d hb i=> ?_,λk e=>⟨(h.left k e).1,?_⟩,h.VN,by have:=h.len;omega⟩
 ·refine h.TR w j a b ?_ d hb i;by_cases c:w=v
  ·subst c;obtain⟨s,f,l⟩:=d;rw[g]at f;cases f;exact .inr ⟨rfl,(AX.1 l).1⟩
  ·omega
 ·have:=(h.left k e).2;omega
theorem Hf.all(h:Hf L Fin L.length 0 T)(b:MF L Fin):HD L Fin T:=
 ⟨b,λv i x y a c d=>h.TR v i x y (.inl (by obtain⟨r,e,_⟩:=a;exact(AX.1 e).1)) a c d,λk f=>(h.left k f).1,h.VN⟩
theorem jY{u:AY}{R:List Int}{s:Cn}: ∀{S:List Cn} {L aR:List (List Int)},DE u R S L=(aR,S.length)->CI u.A1.length (BZ u aR) (BV u R) aR s=true->DE u R (S++[s]) L=(Ci aR s.Au.toNat s.B4.toNat s.Bg,S.length+1)
 | [],L,aR,h,b=>by simp only[DE,JM]at h;obtain⟨rfl,_⟩:=h;simp[DE,b]
 | a::S,L,aR,h,b=>by
   unfold DE at h;cases c:CI u.A1.length (BZ u L) (BV u R) L a with
   |false=>rw[c]at h;simp at h
   | true=>rw[c]at h;simp only[if_true,JM,Df]at h;have d:=jY (S:=S) (L:=Ci L a.Au.toNat a.B4.toNat a.Bg) (aR:=aR) (Prod.ext h.1 (by omega)) b;simp only[Ih,DE,c,if_true,d,Df]
theorem rG: ∀{r s:List Int} {i:Nat} {x:Int},Ea r (s.set i x)<=Ea r s+1
 |[],_,_,_=>by simp[Ea]
 |_::_,[],_,_=>by simp[Ea]
 | a::r,b::s,0,x=>by simp only[TU,Ea];split<;>split<;>omega
 | a::r,b::s,i+1,x=>by have:=rG (r:=r) (s:=s) (i:=i) (x:=x);simp only[PZ,Ea];omega
theorem ny: ∀{a b:List (List Int)} {v i:Nat} {x:Int},EY a (Ci b v i x)<=EY a b+1
 |[],_,_,_,_=>by simp[EY]
 |r::a,[],v,i,x=>by simp[Ci,EY]
 | r::a,s::b,0,i,x=>by have:=rG (r:=r) (s:=s) (i:=i) (x:=x);simp only[Ci,TU,EY,List.getD_cons_zero];omega
 | r::a,s::b,v+1,i,x=>by have:=ny (a:=a) (b:=b) (v:=v) (i:=i) (x:=x);simp only[Ci,PZ,EY,List.getD_cons_succ]at this⊢;omega
theorem sa{u:AY}{R:List Int}{ym:List (List Int)}: ∀{S:List Cn} {L:List (List Int)},EY ym (DE u R S L).1<=EY ym L+S.length
 |[],L=>by simp[DE]
 | s::S,L=>by
   unfold DE;split
   ·have:=sa (u:=u) (R:=R) (ym:=ym) (S:=S) (L:=Ci L s.Au.toNat s.B4.toNat s.Bg);have:=ny (a:=ym) (b:=L) (v:=s.Au.toNat) (i:=s.B4.toNat) (x:=s.Bg);simp only[Df];omega
   ·simp only;omega
def WN(u:AY)(R:List Int)(ym aR:List (List Int)):Prop:= ∀d,d<u.A1.length->((D1 aR d:Nat):Int)<=max (CD u R d) ((D1 ym d:Nat):Int)
theorem a3A{s:Cn}(h:WN u R ym aR)(a:CI u.A1.length (BZ u aR) (BV u R) aR s=true):WN u R ym (Ci aR s.Au.toNat s.B4.toNat s.Bg):=by
 obtain⟨a1,f,d,r,j,k,b,l,m,g,o⟩:=SG a;have p:((D1 aR d:Nat):Int)<CD u R d:=by unfold CI at a;simp only[AB,Ba]at a;obtain⟨_,_,_,_,_,_,_,_,i⟩:=a;rw[b,EE,IL,MA,Dv,Dv,Ej g,Ej g]at i;exact i
 intro e n;have:=iV (x:=(d:Int)) l m e;rw[j,k,b,EE,EE];have q:=h e n;by_cases c:d=e
 ·subst c;rw[if_pos rfl]at this;split at this<;>omega
 ·rw[if_neg (show¬(d:Int)=e by omega)]at this;split at this<;>omega
def Oc(L:List (List Int)):List (Int×Int):=(List.range L.length).flatMap λv=>(List.range (L.getD v []).length).map λi:Nat=>(((v:Nat):Int),((i:Nat):Int))
theorem a3L{b:Int}:(a,b)∈Oc L↔ ∃v i:Nat,a=v/\b=i/\ ∃x,G7 L v i x:=by
 unfold Oc;simp only[LM,CP,FX,JM];constructor
 ·rintro⟨v,g,i,d,rfl,rfl⟩;have e:L[v]?=some L[v]:=AS g;have c:L.getD v []=L[v]:=(by rw[Dv,e];rfl);rw[c]at d;exact⟨v,i,rfl,rfl,_,_,e,AS d⟩
 ·rintro⟨v,i,rfl,rfl,x,r,f,h⟩;have c:L.getD v []=r:=(by rw[Dv,f];rfl);exact⟨v,(AX.1 f).1,i,by rw[c];exact(AX.1 h).1,rfl,rfl⟩
def Qt(P aF:List (Int×Int)):Nat:=P.countP λp=> !aF.contains p
theorem zs(a:p∈P)(d:p∉aF):Qt P (aF++[p])<Qt P aF:=by
 unfold Qt;induction P with
 |nil=>simp at a
 | cons q P f=>
   have g: ∀P:List (Int×Int),P.countP (λx=> !(aF++[p]).contains x)<=P.countP λx=> !aF.contains x:= λP=>List.countP_mono_left λx _ b=>by simp only[Iz,UR,Nd,Cg,Gw,not_or]at b⊢;exact b.1
   rw[PG,PG];by_cases c:q=p
   ·subst c;have:=g P;simp[d];simp at this;omega
   ·have:=f (by rcases CM.1 a with e|e;exact absurd e.symm c;exact e);have e:(!(aF++[p]).contains q)= !aF.contains q:=(by simp[c]);rw[e];omega
@[simp] theorem aK8{l c:Nat}:Eg z (.slice (some ⟨b,o,an⟩) l c)=(c==z):=by simp[Eg,DL,Fj]
@[simp] theorem aI8{l c:Nat}{i:Int}:N6 (.slice (some ⟨b,o,an⟩) l c) z i= .pointer (some ⟨b,o+i.toNat*z,none⟩):=rfl
abbrev CL(T:List Cn):List Value:=(T.map CR).flatten
theorem Qn:(CL T).length=T.length*4:=by rw[JQ (z:=4) λr a=>by obtain⟨x,_,rfl⟩:=CP.1 a;rfl,Eb]
theorem VZ{bd:List Value}: ∀{T:List Cn} {i:Nat} {x:Cn},T[i]?=some x->List.take 4 (List.drop (i*4) (CL T++bd))=[Y x.Au,Y x.B4,Y x.BQ,Y x.Bg]
 | y::T,0,x,h=>by simp at h;subst h;simp[CL,CR]
 | y::T,i+1,x,h=>by have:=VZ (bd:=bd) (T:=T) (i:=i) (x:=x) (by simpa using h);rw[show(i+1)*4=i*4+4 by omega];simpa[CL,CR]using this
theorem a19{b c:Int}(g:t.W q=some ⟨[Y C,Y J,Y D,Y K],w⟩):Bv U 151 [.agg #[Y a,Y b,Y c,Y d],AA q] t λr e=>r= .bool (decide (d=D))/\e=(t.AE 2).A0 t.next (some ⟨[Y a,Y b,Y c,Y d],true⟩):=by refine Ak (an:=⟨[],[]⟩) aFr (by kernel_rfl) (by simp[mE]) ?_;have f:=F g;simp(disch:=first|omega|simp only[DI.A2];omega)[mE,zD,g]
def UH(a b c d:Int)(q:Nat)(t:V):Option (Value×V):=match t.W q with
 | some y=>(match y.cells with
   |[.int .i64 _,.int .i64 _,.int .i64 n,.int .i64 _]=>some (.bool (decide (d=n)),(t.AE 2).A0 t.next (some ⟨[Y a,Y b,Y c,Y d],true⟩))
   |_=>none)
 |none=>none
noncomputable def ba:DB U:= .B8 151 (Int×Int×Int×Int×Nat) (λy=>[.agg #[Y y.1,Y y.2.1,Y y.2.2.1,Y y.2.2.2.1],AA y.2.2.2.2]) (λy t=>UH y.1 y.2.1 y.2.2.1 y.2.2.2.1 y.2.2.2.2 t) λ⟨a,b,c,d,q⟩ t r e h a7 f=>by
 simp only[UH]at h;split at h
 ·next y g=>
  split at h
  ·next C J n K i=>cases h;obtain⟨cs,w⟩:=y;obtain rfl:cs=[Y C,Y J,Y n,Y K]:=i;exact(a19 g).AG λv e ⟨a,b⟩=>by rw[a,b];exact f
  ·cases h
 ·cases h
@[simp] theorem aLL:ba.f=151:=rfl
@[simp] theorem aOF{b c:Int}:ba.fn [.agg #[.int .i64 a,.int .i64 b,.int .i64 c,.int .i64 d],.pointer (some ⟨q,0,none⟩)] t=UH a b c d q t:=DB.BD (x:=(a,b,c,d,q)) (t:=t) λ⟨f,g,h,i,j⟩ e=>by simp at e⊢;omega
abbrev mF(q:Nat):Value:= .func (.func 151) #[] #[AA q]
def I9(t a:V):Prop:=t.next<=a.next/\(∀b,b<t.next->a.W b=t.W b)/\ ∀o es,t.BL o=some es->a.BL o=some es
theorem I9.refl(t:V):I9 t t:=⟨Ao _,λ_ _=>rfl,λ_ _ h=>h⟩
theorem I9.trans{a b c:V}(h:I9 a b)(d:I9 b c):I9 a c:=⟨Dh h.1 d.1,λq e=>(d.2.1 q (Eo e h.1)).trans (h.2.1 q e),λo es f=>d.2.2 o es (h.2.2 o es f)⟩
theorem I9.new{k:Nat}{x:Option Bw}(d:t.next<=j):I9 t ((t.AE k).A0 j x):=by refine⟨by simp,λb hb=>by rw[A3 (by omega),AU hb],λo es h=> ?_⟩;have:=F (DQ h).1;obtain⟨a,c⟩:=V.Hp h;exact V.E7 (by rw[A3 (by omega),AU this];exact a) c
theorem aEf(h:t.W o=some ⟨CL T++bd,true⟩)(j:t.W q=some ⟨[Y C,Y J,Y D,Y K],true⟩)(M:T.length<=1000000):
 Bv U 205 [.slice (some ⟨o,0,an⟩) T.length 4,mF q] t λr b=>I9 t b/\ ∃k:Int,r=Y k:=by
 refine Ak (an:=⟨[],[ba]⟩) aAh (by kernel_rfl) (by simp[n5]) ?_;have v:=F h;have w:=F j;have N:(CL T++bd).length=T.length*4+bd.length:=by rw[Ds,Qn]
 simp[n5,pe];refine CE (an:=⟨[],[ba]⟩) (λi A b=>I9 t b/\A 0= .slice (some ⟨o,0,an⟩) T.length 4/\A 1=mF q/\A 7=Y T.length/\A 8=Y i) T.length ?_ ?_ 0 _ _ (C0 _) ⟨I9.refl t,by simp,by simp,by simp,by simp⟩
 ·rintro i A b y ⟨a,e,f,d,g⟩ O z;obtain⟨x,B⟩:=CF y;have l:=VZ (bd:=bd) B;have m:=(a.2.1 o v).trans h;have p:=(a.2.1 q w).trans j;have s:(i:Int)<T.length:=(by omega);have u:i*4+4<=(CL T++bd).length:=(by omega);have L:=BX (n:=i) (by omega);by_cases c:x.Bg=D
  ·simp(disch:=first|omega|simp only[DI.A2];omega)[dH,UW,e,f,d,g,m,p,s,u,l,UH,c,-List.length_append,-H,-E,-I,-G,-List.map_map];exact a.trans (I9.new (Ao _))
  ·simp(disch:=first|omega|simp only[DI.A2];omega)[dH,UW,e,f,d,g,m,p,s,u,L,l,UH,c,-List.length_append,-H,-E,-I,-G,-List.map_map];exact z _ _ ⟨a.trans (I9.new (Ao _)),by simp[e],by simp[f],by simp[d],by simp⟩
 ·rintro A b ⟨a,e,f,d,g⟩;simp[dH,UW,UW,d,g];exact a
theorem aDr(b:t.W o=some ⟨CL T++bd,true⟩)(c:t.W q=some ⟨[Y C,Y J,Y D,Y K],true⟩)(d:T.length<=1000000):
 Bv U 150 [.slice (some ⟨o,0,an⟩) T.length 4,mF q] t λr a=>I9 t a/\ ∃k:Bool,r= .bool k:=by
 refine Ak (an:=⟨[],[]⟩) aAj (by kernel_rfl) (by simp[nj]) ?_;simp[nj,ov];refine(aEf b c d).AG λr a ⟨e,k,f⟩=> ?_;subst f;simp;exact⟨e,by omega⟩
def FK(aF:List (Int×Int)):List (Value×Value):=aF.map λp=>(.agg #[Y p.1,Y p.2],.bool true)
theorem qM{b:Int}:DX (.EF .i64) (.agg #[Y a,Y b]) (FK aF)=true:=by simp[DX,FK,DT]
theorem im{a b:Int}: ∀{aF:List (Int×Int)},CT (.agg #[Y a,Y b]) (FK aF)=if(a,b)∈aF then some (.bool true)else none
 |[]=>rfl
 | p::aF=>by
   have f:=im (a:=a) (b:=b) (aF:=aF);unfold FK at f⊢;rw[E1,CT,f];by_cases c:(a,b)=p
   ·subst c;simp[G0,Ev,Hq]
   ·have g:G0 (.agg #[Y a,Y b]) (.agg #[Y p.1,Y p.2])=false:=by
     have: ¬(a=p.1/\b=p.2):= λq=>c (Prod.ext q.1 q.2);simp only[G0,Ev,Hq,Bool.and_true];by_cases d:a=p.1
     ·have h: ¬b=p.2:= λe=>this ⟨d,e⟩;simp[d,h]
     ·simp[d]
    simp only[g,EI,if_false,CM,c,false_or]
theorem uD{a b:Int}: ∀{aF:List (Int×Int)},(a,b)∉aF->DM (.agg #[Y a,Y b]) (.bool true) (FK aF)=FK (aF++[(a,b)])
 |[],_=>rfl
 | p::aF,h=>by
   have f:=uD (a:=a) (b:=b) (aF:=aF) λq=>h (by simp[q]);have c: ¬(a,b)=p:= λq=>h (by simp[q]);unfold FK at f⊢;have g:G0 (.agg #[Y a,Y b]) (.agg #[Y p.1,Y p.2])=false:=by
    have: ¬(a=p.1/\b=p.2):= λq=>c (Prod.ext q.1 q.2);simp only[G0,Ev,Hq,Bool.and_true];by_cases d:a=p.1
    ·have i: ¬b=p.2:= λe=>this ⟨d,e⟩;simp[d,i]
    ·simp[d]
   rw[E1,DM,g,f];rfl
theorem jJ{l:Nat}(h:t.W b=some ⟨cs,w⟩):As (n+1) t (AQ b l z)=b::cs.flatMap (As n t):=by simp[As,Co,BB,Ec,h]
theorem aDY(h:t.W b=some ⟨cs,w⟩):As (n+1) t (AA b)=b::cs.flatMap (As n t):=by simp[As,Co,BB,Ec,h]
theorem yw:(l.map Y).flatMap (As n t)=[]:=by rw[List.flatMap_eq_nil_iff];intro v a;obtain⟨x,_,rfl⟩:=CP.1 a;exact vx
theorem ga{c:V}(h:E5 c s o q ps L dc ed){x:Nat}(a:x∈As 9 c (AA s)):x=s\/x=o\/x=q\/x∈ps:=by
 rw[aDY h.Dg]at a;simp only[List.flatMap_cons,List.flatMap_nil,NP,CM,Cg]at a;rcases a with rfl|a|a|a
 ·exact .inl rfl
 ·rw[jJ h.DR.Da]at a;rcases CM.1 a with rfl|a
  ·exact .inr (.inl rfl)
  ·obtain⟨v,d,b⟩:=LM.1 a;unfold Cv at d;obtain⟨j,m,e⟩:=EC d;have f:j<L.length:=(by simpa using m);have g:LI ps L j=v:=(by rw[<-e];simp[Ct]);have i:j<ps.length:=(by rw[h.DR.len];exact f);have k:ps[j]?=some ps[j]:=AS i;have l:L[j]?=some L[j]:=AS f;rw[Kb k l]at g;subst g;rw[jJ (h.DR.D8 j _ _ k l),yw]at b;simp at b;exact .inr (.inr (.inr (by rw[b];exact Dc i)))
 ·rw[jJ h.Ha,yw]at a;simp at a;exact .inr (.inr (.inl a))
 ·simp at a
theorem sF{l:List Nat}(h:t.BL o=some es)(a:o∉l):(Cm t l).BL o=some es:=by obtain⟨b,c⟩:=V.Hp h;refine V.E7 (by rw[Rd];exact b) ?_;show(if o∈l then none else t.mp o)=some es;rw[if_neg a];exact c
def a3t(n:Nat)(dc ed:List Int)(aR Fin:List (List Int))(T:List Cn)(aF:List (Int×Int))(v:Value):Prop:=
 v= .tuple #[Y (-1),Y (-1)]\/ ∃(i:Nat) (x:Cn) (d:Nat) (r:List Int),T[i]?=some x/\(x.Au,x.B4)∉aF/\CI n dc ed aR ⟨x.Au,x.B4,x.BQ,d⟩=true/\Fin[x.Au.toNat]?=some r/\(d:Int)∉r/\v= .tuple #[Y i,Y d]
theorem aCa{t0:V}{Fm:Nat}(A6:Bk aR)(X:Bk Fin)(A7:ed.length<=dc.length)(AE:ed.length<=1000)(A8:E5 t0 s o q ps aR dc ed)
 {x:Cn} (AF:T[i]?=some x) (Z:x.Au=v) (K:Fin[v]?=some r) (AG:(x.Au,x.B4)∉aF) (g:t0.W Fm=some ⟨[Y x.Au,Y x.B4,Y x.BQ,Y x.Bg],true⟩) (AJ:Fm≠s/\Fm≠o/\Fm≠q/\Fm∉ps) (A9:t0.BL c0=some es) (C:c0≠s/\c0≠o/\c0≠q/\c0∉ps)
 (D:m 0=AA s) (u:m 2=Ag Fin) (L:m 10=Y i) (w:m 11=AA Fm) (f:m 37=Y ed.length) (p:m 38=Y 0)
 (A0: ∀e N J,t0.next<=J.next->(∀b,b<t0.next->J.W b=t0.W b)->J.BL c0=some es->(e= .Ai 2/\ ∀k∈[0,1,2,3,10,11,13,14,15],N k=m k)\/(e= .DO/\ ∃d:Nat,CI ed.length dc ed aR ⟨x.Au,x.B4,x.BQ,d⟩=true/\(d:Int)∉r/\N 8=Y i/\N 9=Y d)->Q e N J):BY U (.loop Sf) m t0 Q:=by
 have AK:=X.1;have AL:=(AX.1 K).1;have M:=(AX.1 K).2;have AM:r.length<=1000000:=by have:=X.2 r (B9 K);omega
 refine CE (an:=⟨[Z9,N2 ed],[]⟩) (λj A t=>t0.next<=t.next/\(∀b,b<t0.next->t.W b=t0.W b)/\t.BL c0=some es/\(∀k∈[0,1,2,3,10,11,13,14,15],A k=m k)/\A 37=Y ed.length/\A 38=Y j) ed.length ?_ ?_ 0 m t0 (C0 _) ⟨Ao _,λb _=>rfl,A9,λj _=>rfl,f,p⟩
 ·rintro j A t AN ⟨y,a,z,l,f,p⟩ AO A1;have D:=(l 0 (by simp)).trans D;have u:=(l 2 (by simp)).trans u;have L:=(l 10 (by simp)).trans L;have w:=(l 11 (by simp)).trans w;have AB:=F g;have g:=(a Fm AB).trans g;have AP:=F g;have O:(j:Int)<ed.length:=(by omega);have A3:=BX (n:=j) (by omega);have P:(v:Int)<Fin.length:=(by omega);have R:E5 t s o q ps aR dc ed:=A8.DW a;have A4:=mf R;have B:(N2 ed).fn [BR [Ag aR,AH dc,AH ed] 0,.agg #[Y x.Au,Y x.B4,Y x.BQ,Y (j:Int)]]=some (.bool (CI ed.length dc ed aR ⟨x.Au,x.B4,x.BQ,j⟩)):=hk ⟨A6,A7⟩;have AD:=R.Dg;have AQ:=F AD;have A5:c0∉As 9 t (AA s):= λh=>by
   rcases ga R h with e|e|e|e
   ·exact C.1 e
   ·exact C.2.1 e
   ·exact C.2.2.1 e
   ·exact C.2.2.2 e
  rw[Z]at B g;by_cases c:(j:Int)∈r
  ·simp(disch:=first|omega|simp only[DI.A2];omega)[Sf,u,w,f,p,O,A3,g,P,M,BE,c];refine A1 _ _ ⟨y,a,z,λk a=> ?_,by simp[f],by simp⟩;have:=l k a;simp at a;rcases a with rfl|rfl|rfl|rfl|rfl|rfl|rfl|rfl|rfl<;>simp[this]
  ·cases S:CI ed.length dc ed aR ⟨(v:Int),x.B4,x.BQ,j⟩
   ·rw[S]at B;simp(disch:=first|omega|simp only[DI.A2];omega)[Sf,D,u,w,f,p,O,A3,g,P,M,BE,c,A4,B,-H,-E,-I,-G,-List.map_map];refine A1 _ _ ⟨y,λb hb=>a b hb,sF z A5,λk a=> ?_,by simp[f],by simp⟩;have:=l k a;simp at a;rcases a with rfl|rfl|rfl|rfl|rfl|rfl|rfl|rfl|rfl<;>simp[this]
   ·rw[S]at B;simp(disch:=first|omega|simp only[DI.A2];omega)[Sf,D,u,L,w,f,p,O,g,P,M,BE,c,A4,B,-H,-E,-I,-G,-List.map_map];exact A0 _ _ _ y (λb hb=>a b hb) (sF z A5) (.inr ⟨rfl,j,by rw[Z];exact S,c,by simp,by simp⟩)
 ·rintro A t ⟨y,a,z,l,f,p⟩;simp[Sf,f,p];refine A0 _ _ _ y a z (.inl ⟨rfl,λk a=> ?_⟩);have:=l k a;simp at a;rcases a with rfl|rfl|rfl|rfl|rfl|rfl|rfl|rfl|rfl<;>simp[this]
theorem aFS{c:Nat}(AJ:Bk aR)(AK:Bk Fin)(AL:ed.length<=dc.length)(AM:ed.length<=1000)(Ar:T.length<=1000)(u:E5 t s o q ps aR dc ed)
 (V:t.W c=some ⟨CL T++bd,true⟩) (AN:t.BL c0=some (FK aF)) (AO:c0≠s/\c0≠o/\c0≠q/\c0∉ps) (AP: ∀x∈T,∃(v:Nat) (r:List Int),x.Au=v/\Fin[v]?=some r):
 Bv U 97 [AA s,.slice (some ⟨c,0,an⟩) T.length 4,Ag Fin,.map (some c0)] t λv M=>a3t ed.length dc ed aR Fin T aF v/\t.next<=M.next/\(∀b,b<t.next->M.W b=t.W b)/\M.BL c0=some (FK aF):=by
 refine Ak (an:=⟨[],[]⟩) a0C (by kernel_rfl) (by simp[j5]) ?_;have AQ:=F V;simp(disch:=first|omega|simp only[DI.A2];omega)[j5,zR,-H,-E,-I,-G,-List.map_map];refine CE (an:=⟨[],[]⟩) (λi A a=>t.next<=a.next/\(∀b,b<t.next->a.W b=t.W b)/\a.BL c0=some (FK aF)/\A 0=AA s/\A 1= .slice (some ⟨c,0,an⟩) T.length 4/\A 2=Ag Fin/\A 3= .map (some c0)/\A 13= .slice (some ⟨c,0,an⟩) T.length 4/\A 14=Y T.length/\A 15=Y i) T.length ?_ ?_ 0 _ _ (C0 _) ⟨Ao _,λb _=>rfl,AN,by simp,by simp,by simp,by simp,by simp,by simp,by simp⟩
 ·rintro i A a AR ⟨X,w,y,j,z,B,l,m,f,g⟩ As O;obtain⟨x,J⟩:=CF AR;have Z:=VZ (bd:=bd) J;have At:(CL T++bd).length=T.length*4+bd.length:=(by rw[Ds,Qn]);have K:=(w c AQ).trans V;have AS:=F K;have Av:=F (DQ y).1;have A1:(i:Int)<T.length:=(by omega);have A4:i*4+4<=(CL T++bd).length:=(by omega);have P:=BX (n:=i) (by omega);obtain⟨v,r,A5,A6⟩:=AP x (B9 J);have A7:DX (.EF .i64) (.agg #[Y x.Au,Y x.B4]) (FK aF)=true:=qM;by_cases L:(x.Au,x.B4)∈aF
  ·have Q:CT (.agg #[Y x.Au,Y x.B4]) (FK aF)=some (.bool true):=(by rw[im,if_pos L]);simp(disch:=first|omega|simp only[DI.A2];omega)[Yq,V9,m,f,g,A1,A4,K,Z,-CT,-DM,-DX,-List.length_append,-H,-E,-I,-G,-List.map_map];have C: ∀b,b<a.next->((a.AE 6).A0 (a.next+3) (some ⟨[Y x.Au,Y x.B4,Y x.BQ,Y x.Bg],true⟩)).W b=a.W b:= λb hb=>by rw[A3 (by omega),AU hb]
   have p:((a.AE 6).A0 (a.next+3) (some ⟨[Y x.Au,Y x.B4,Y x.BQ,Y x.Bg],true⟩)).BL c0=some (FK aF):=(I9.new (by omega)).2.2 _ _ y;simp(disch:=first|omega|simp only[DI.A2];omega)[Tu,V0,l,g,P,p,A7,Q,-CT,-DM,-DX,-List.length_append,-H,-E,-I,-G,-List.map_map];exact O _ _ ⟨by simp;omega,λb hb=>(C b (by omega)).trans (w b hb),p,by simp[j],by simp[z],by simp[B],by simp[l],by simp[m],by simp[f],by simp⟩
  ·have Q:CT (.agg #[Y x.Au,Y x.B4]) (FK aF)=none:=(by rw[im,if_neg L]);simp(disch:=first|omega|simp only[DI.A2];omega)[Yq,V9,m,f,g,A1,A4,K,Z,-CT,-DM,-DX,-List.length_append,-H,-E,-I,-G,-List.map_map];have C: ∀b,b<a.next->((a.AE 6).A0 (a.next+3) (some ⟨[Y x.Au,Y x.B4,Y x.BQ,Y x.Bg],true⟩)).W b=a.W b:= λb hb=>by rw[A3 (by omega),AU hb]
   have p:((a.AE 6).A0 (a.next+3) (some ⟨[Y x.Au,Y x.B4,Y x.BQ,Y x.Bg],true⟩)).BL c0=some (FK aF):=(I9.new (by omega)).2.2 _ _ y;have D:((a.AE 6).A0 (a.next+3) (some ⟨[Y x.Au,Y x.B4,Y x.BQ,Y x.Bg],true⟩)).W (a.next+3)=some ⟨[Y x.Au,Y x.B4,Y x.BQ,Y x.Bg],true⟩:=AT (by simp);have AV:((a.AE 6).A0 (a.next+3) (some ⟨[Y x.Au,Y x.B4,Y x.BQ,Y x.Bg],true⟩)).next=a.next+6:=by simp
   generalize(a.AE 6).A0 (a.next+3) (some ⟨[Y x.Au,Y x.B4,Y x.BQ,Y x.Bg],true⟩)=Aw at C p D AV;have AW:=F D;simp(disch:=first|omega|simp only[DI.A2];omega)[Tu,z,l,p,D,A7,Q,-CT,-DM,-DX,-List.length_append,-H,-E,-I,-G,-List.map_map];have AX:=(C c AS).trans K;refine(aDr (an:=an) AX D (by omega)).AG λAx t3 ⟨AY,k,AZ⟩=> ?_;subst AZ;obtain⟨Ay,A8,Aa⟩:=AY;have A9:=Aa _ _ p;have R: ∀b,b<t.next->t3.W b=t.W b:= λb hb=>(A8 b (by omega)).trans ((C b (by omega)).trans (w b hb))
   cases k
   ·simp(disch:=first|omega|simp only[DI.A2];omega)[g,P,-H,-E,-I,-G,-List.map_map];exact O _ _ ⟨by omega,R,A9,by simp[j],by simp[z],by simp[B],by simp[l],by simp[m],by simp[f],by simp⟩
   ·have AB:E5 t3 s o q ps aR dc ed:=u.DW R;have AD:=AB.Dg;have Az:=F AD;have B0:=F u.Dg;have B1:=F u.DR.Da;have B2:=F u.Ha;have Ab:=(A8 _ AW).trans D;simp(disch:=first|omega|simp only[DI.A2];omega)[V0,j,AD,-H,-E,-I,-G,-List.map_map];refine aCa (Fm:=a.next+3) (c0:=c0) (es:=FK aF) AJ AK AL AM AB J A5 A6 L Ab ⟨by omega,by omega,by omega,λS=>by have:=u.DR.I7 S;omega⟩ A9 AO (by simp[j]) (by simp[B]) (by simp) (by simp) (by simp) (by simp) λe N t4 B5 Ac AF Ad=> ?_;have AH: ∀b,b<t.next->t4.W b=t.W b:= λb hb=>(Ac b (by omega)).trans (R b hb)
    rcases Ad with⟨rfl,h⟩|⟨rfl,d,S,Ae,Af,Ah⟩
    ·have a0:N 0=AA s:=(by rw[h 0 (by simp)];simp[j]);have Al:N 1= .slice (some ⟨c,0,an⟩) T.length 4:=(by rw[h 1 (by simp)];simp[z]);have Am:N 2=Ag Fin:=(by rw[h 2 (by simp)];simp[B]);have a3:N 3= .map (some c0):=(by rw[h 3 (by simp)];simp[l]);have An:N 13= .slice (some ⟨c,0,an⟩) T.length 4:=(by rw[h 13 (by simp)];simp[m]);have Ap:N 14=Y T.length:=(by rw[h 14 (by simp)];simp[f]);have Aq:N 15=Y i:=(by rw[h 15 (by simp)];simp[g]);simp(disch:=first|omega|simp only[DI.A2];omega)[Aq,P,-H,-E,-I,-G,-List.map_map];exact O _ _ ⟨by omega,AH,AF,by simp[a0],by simp[Al],by simp[Am],by simp[a3],by simp[An],by simp[Ap],by simp⟩
    ·simp(disch:=first|omega|simp only[DI.A2];omega)[Af,Ah,-H,-E,-I,-G,-List.map_map];refine⟨.inr ⟨i,x,d,r,J,L,S,by rw[A5];simpa using A6,Ae,rfl⟩,by omega,AH,AF⟩
 ·rintro A a ⟨X,w,y,j,z,B,l,m,f,g⟩;simp(disch:=first|omega|simp only[DI.A2];omega)[Yq,Tu,V0,V9,V9,Tu,V0,f,g,-H,-E,-I,-G,-List.map_map];exact⟨.inl rfl,X,w,y⟩
end Go.Proofs.YtmmkkggfmigppaaGreat
