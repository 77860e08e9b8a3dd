/-
  For every input the law returns true, and each argument reads behind the call as it read before. The last part of the proof; tools of ours have shortened it.
-/
import Derived.Test.YtmmkkggfmigppaaGreatZczai
set_option linter.all false
set_option maxRecDepth 8000
set_option maxHeartbeats 16000000
namespace Go.Proofs.YtmmkkggfmigppaaGreat
open Go Go.DI Go.Big
variable{a b Fin L uR:List (List Int)}{o q ND:Nat}{t:V}{x:Option Bw}{Q:BM->A6->V->Prop}{R fE m:List Int}{S:List Cn}{g:A6}{ps:List Nat}{u:AY}{n:Int}
theorem a7h(AK:a.length<=50)(Q: ∀r∈a,r.length<=140737488355328)(A5: ∀r∈b,r.length<=140737488355328):AL U 51 [M (a.map BE) 1,M (b.map BE) 1] (Y (DY a b)):=by
 refine BG (Ak (an:=⟨[],[]⟩) a0Z (by kernel_rfl) (by simp[YT]) ?_);by_cases q:a.length=b.length
 case neg=>have u:DY a b= -1:=(by unfold DY;rw[gi q];rfl);have A6: ¬(a.length:Int)=b.length:=(by omega);simp[YT,mC,hF,A6,u]
 simp[YT,mC,q];have hb:b.length<=50:=by omega
 simp(disch:=first|omega|simp only[DI.A2];omega)[hF];refine CE (an:=⟨[],[]⟩) (λi f t=> ∃c:Nat,c=EY (a.take i) (b.take i)/\(∀(j:Nat) r s,j<i->a[j]?=some r->b[j]?=some s->r.length=s.length)/\f 0=M (a.map BE) 1/\f 1=M (b.map BE) 1/\f 5=Y c/\f 6=Y i) a.length ?_ ?_ 0 _ _ (C0 _) ⟨0,by simp[EY],λj x y h=>by omega,by simp[],by simp[],by simp[],by simp[]⟩
 ·rintro i f t A7 ⟨c,K,L,g,l,m,k⟩ A8 B;obtain⟨r,o⟩:=CF A7;obtain⟨s,v⟩: ∃s,b[i]?=some s:=⟨_,AS (by omega)⟩;have w:=(AX.1 o).2;have C:b[i]'(by omega)=s:=(AX.1 v).2;have D:(i:Int)<b.length:=(by omega);have z:(i:Int)<a.length:=(by omega);have AM:i<b.length:=(by omega);have A9:=BX (n:=i) (by omega);have AN:=Q r (B9 o);have AO:=A5 s (B9 v);have AP:c<=50*140737488355328:=by
   have A:=bI (a:=a.take i) (b:=b.take i) (Z:=140737488355328) λx o=>Q x (K2 o);have N:(a.take i).length<=50:=(by rw[GC];omega);have AR:=IF 140737488355328 N;omega
  by_cases p:r.length=s.length
  case neg=>have u:DY a b= -1:=(by unfold DY;rw[mX o v p];rfl);have AB: ¬(r.length:Int)=s.length:=(by omega);simp(disch:=first|omega|simp only[DI.A2];omega)[aV,eu,BE,g,l,k,D,z,w,C,AB,u,-H,-E,-I,-G,-List.map_map]
  simp(disch:=first|omega|simp only[DI.A2];omega)[aV,BE,g,l,k,D,z,w,C,p,-H,-E,-I,-G,-List.map_map];simp(disch:=first|omega|simp only[DI.A2];omega)[eu,-H,-E,-I,-G,-List.map_map];refine CE (an:=⟨[],[]⟩) (λj f t=> ∃d:Nat,d=c+Ea (r.take j) (s.take j)/\f 0=M (a.map BE) 1/\f 1=M (b.map BE) 1/\f 5=Y d/\f 6=Y i/\f 7=Y j) r.length ?_ ?_ 0 _ _ (C0 _) ⟨c,by simp[Ea],by simp[g],by simp[l],by simp[m],by simp[k],by simp[]⟩
  ·rintro j f t AD ⟨d,S,g,l,m,k,F⟩ A8 B;obtain⟨x,T⟩:=CF AD;obtain⟨y,V⟩: ∃y,s[j]?=some y:=⟨_,AS (by omega)⟩;have W:=(AX.1 T).2;have X:s[j]'(by omega)=y:=(AX.1 V).2;have A0:(j:Int)<s.length:=(by omega);have AT:(j:Int)<r.length:=(by omega);have AU:j<s.length:=(by omega);have AV:d<=51*140737488355328:=by
    have A:=Zn (a:=r.take j) (b:=s.take j);rw[GC]at A;omega
   have v0:=BX (n:=j) (by omega);have AE:=BX (n:=d) (by omega);have A1:=kg T V;by_cases J:x=y
   ·rw[if_pos J]at A1;simp(disch:=first|omega|simp only[DI.A2];omega)[cp,BE,g,l,k,F,D,z,w,C,p,A0,W,X,v0,J,-H,-E,-I,-G,-List.map_map];exact B _ _ ⟨d,by omega,by simp[g],by simp[l],by simp[m],by simp[k],by simp[]⟩
   ·rw[if_neg J]at A1;simp(disch:=first|omega|simp only[DI.A2];omega)[cp,BE,g,l,m,k,F,D,z,w,C,p,A0,W,X,v0,AE,J,-H,-E,-I,-G,-List.map_map];exact B _ _ ⟨d+1,by omega,by simp[g],by simp[l],by simp[],by simp[k],by simp[]⟩
  ·rintro f t ⟨d,S,g,l,m,k,F⟩;have A3: ¬(((r.length:Nat):Int)<r.length):=(by omega);have AF: ¬(((s.length:Nat):Int)<s.length):=(by omega);have AG:d=EY (a.take (i+1)) (b.take (i+1)):=by
    rw[aH o v,S,K,EP,p,EP]
   simp(disch:=first|omega|simp only[DI.A2];omega)[cp,BE,g,k,F,z,w,p,AF,A9,-H,-E,-I,-G,-List.map_map];refine B _ _ ⟨d,AG,?_,by simp[g],by simp[l],by simp[m],by simp[]⟩;intro A4 AH AJ AW O P;by_cases e:A4=i
   ·subst e;rw[o]at O;rw[v]at P;cases O;cases P;exact p
   ·exact L A4 AH AJ (by omega) O P
 ·rintro f t ⟨c,K,L,g,l,m,k⟩;have A3: ¬(((b.length:Nat):Int)<b.length):=(by omega);have u:DY a b=c:=by
   unfold DY;rw[if_pos (Qq q λi x y A N=>L i x y (AX.1 A).1 A N),K,EP,q,EP]
  simp[aV,eu,g,m,k,A3,q,u]
theorem aF6(d:Bk a)(hb:Bk b)(e:a.length<=50):AL U 51 [Ag a,Ag b] (Y (DY a b)):=a7h e (λr c=>by have:=d.2 r c;omega) (λr c=>by have:=hb.2 r c;omega)
noncomputable def nd:AK U:= .B8 51 (List (List Int)×List (List Int)) (λx=>(Bk x.1/\Bk x.2)/\x.1.length<=50) (λx=>[Ag x.1,Ag x.2]) (λx=>Y (DY x.1 x.2)) λx h=>aF6 h.1.1 h.1.2 h.2
@[simp] theorem aKk:nd.f=51:=rfl
@[simp] theorem aLD(h:(Bk a/\Bk b)/\a.length<=50):nd.fn [M (a.map BE) 1,M (b.map BE) 1]=some (Y (DY a b)):=AK.BD (x:=(a,b)) h λ⟨d,e⟩ c=>by simpa using c
structure nD(u:AY)(R:List Int)(L Fin:List (List Int))(eR g:Int)(fE:List Int)(S:List Cn)(m:List Int)(e:A6)(t:V)(b c a o:Nat)(ps:List Nat)(f:List (List Int))(i:Nat):Prop where
 LD:e 7=AA b
 Xe:e 9=AA c
 yS:e 11=AA a
 qD:e 12=AQ o f.length 1
 Jn:t.W b=some ⟨A4 u++[Ag L,AH R],true⟩
 Ij:t.W c=some ⟨[Hr S,Ag Fin,Y eR,AH fE,Y g],true⟩
 aQP:t.W a=some ⟨[AH m,Y i],true⟩
 DR:Dt t o ps f
 d:b≠o/\c≠o/\a≠o/\b∉ps/\c∉ps/\a∉ps/\b≠a/\c≠a
theorem aA2{b:Nat}(h:b≠o)(a:b≠q):(ER t [o,q]).W b=t.W b:=eF (by simp[h,a])
theorem a4F{b:Nat}(h:b≠o)(d:b≠q):FU t ((ER t [o,q]).A0 b x) [o,q]=t.A0 b x:=by
 unfold FU ER V.A0;simp only;congr 1;funext c;by_cases a:c=b
 ·subst a;simp[h,d]
 ·by_cases e:c∈[o,q]<;>simp[a,e]
theorem aCl(Aq:1<=u.A1.length/\u.A1.length<=9){eR gl:Int}(Ar:m.length<=140737488355328)(As:ND<=900000)(A8:Fb u uR)(At:1<=uR.length){t0:V}{k5 ej kL:Nat}
 (A9:nD u R L Fin eR gl fE S m g t0 k5 ej kL o ps uR ND) (j:g 13=Y 0)
 (AB: ∀O P a i,Fb u a->a.length=uR.length->nD u R L Fin eR gl fE S m O P k5 ej kL o ps a i->Q (.Ai 0) O P):BY U (.loop Yk) g t0 Q:=by
 refine CE (an:=⟨[],[EM]⟩) (λk w t=> ∃a i,Fb u a/\a.length=uR.length/\i<=ND+3*k/\nD u R L Fin eR gl fE S m w t k5 ej kL o ps a i/\w 13=Y k) 3 ?_ ?_ 0 _ _ (C0 _) ⟨uR,ND,A8,rfl,by omega,A9,j⟩
 ·rintro k w t Av ⟨a,i,h,H,AD,⟨x,I,y,z,q,A,B,c,AE,AF,C,T,X,J,K,Z⟩,j⟩ Aw AG;have Ax:a.length<=1000:=h.1.1;have AJ:=En (l:=m) (i:=i) (n:=(a.length:Int)) (by omega);obtain⟨a1,A0⟩: ∃a1:Nat,Bq m i a.length=a1:=⟨(Bq m i a.length).toNat,by omega⟩;rw[A0]at AJ;have D:a1<a.length:=(by omega);obtain⟨r,s⟩:=CF D;have Az:1<=r.length:=h.2.1 r (B9 s);have B0:r.length<=1000:=h.1.2 r (B9 s);have AK:=En (l:=m) (i:=i+1) (n:=(r.length:Int)) (by omega);obtain⟨f,A2⟩: ∃f:Nat,Bq m (i+1) r.length=f:=⟨(Bq m (i+1) r.length).toNat,by omega⟩;rw[A2]at AK;have B1:f<r.length:=(by omega);have AL:=En (l:=m) (i:=i+2) (n:=(u.A1.length:Int)) (by omega);obtain⟨d,E⟩: ∃d:Nat,Bq m (i+2) u.A1.length=d:=⟨(Bq m (i+2) u.A1.length).toNat,by omega⟩;rw[E]at AL;have AM:d<u.A1.length:=(by omega);have AN:((i:Int)+1).toNat=i+1:=(by omega);have AO:((i:Int)+1+1).toNat=i+2:=(by omega);have AP:(k:Int)<3:=(by omega);have AR:=BX (n:=k) (by omega);have B2:=F q;have B4:=F A;have AU:=F B;have A4:=c.Da;have B5:=F A4;have AV:a1<ps.length:=(by rw[c.len];exact D);have v:ps[a1]?=some ps[a1]:=AS AV;generalize ps[a1]=p at v;have G:=B9 v;have A6:=c.D8 a1 p _ v s;have AW:=F A6;have AX:List.take 1 (List.drop a1 (Cv ps a))=[AQ p r.length 1]:=Lm (by rw[Cv,Ej D,Kb v s]);have N:a1+1<=(Cv ps a).length:=(by simp[Cv];omega);have AY: ¬p=k5:= λe=>T (e▸G);have AZ: ¬p=ej:= λe=>X (e▸G);have Ab: ¬p=kL:= λe=>J (e▸G);have Ac: ¬p=o:= λe=>c.Gq (e▸G);have B6: ¬o=kL:= λe=>C e.symm;have Ad:t.W k5=some ⟨[Y u.ext,M (u.Bz.map Cc) 4,M (u.Aa.map Ce) 4,M (u.A5.map Bd) 7,M (u.A1.map CB) 3,M (u.Ay.map B3) 17,M (u.A7.map Cd) 2,Ag L,AH R],true⟩:=q;have Ae:0<a.length:=(by omega);have Af:0<r.length:=(by omega);have Ah: ¬Cv ps a=[]:= λe=>by rw[e]at N;simp at N
  have B7: ¬kL=k5:= λe=>K e.symm;have B8: ¬kL=o:=C;have Ak:(a1:Int)<a.length:=(by omega);have Al:(f:Int)<r.length:=(by omega);simp(disch:=omega)[Yk,x,y,z,j,AP,AR,Ad,B,A4,A6,FZ,A0,A2,E,AX,N,AN,AO,Ae,Af,Ah,h9,aA2,jf,a4F,Ak,Al];have Am:a.getD a1 []=r:=(by simp[s]);have An:((a.getD a1 []).set f (d:Int)).map Y=(r.map Y).set f (Y d):=(by rw[Am,MG]);have Ao:(i:Int)+1+1+1=((i+3:Nat):Int):=(by omega);rw[Ao];refine⟨by omega,AG _ _ ⟨Ci a a1 f d,i+3,SL h AM,by rw[ML,H],by omega,⟨by simp[x],by simp[I],by simp[y],by simp[z,ML],?_,?_,?_,?_,AE,AF,C,T,X,J,K,Z⟩,by simp⟩⟩
  ·rw[A3 (λe=>AY e.symm),A3 K];exact q
  ·rw[A3 (λe=>AZ e.symm),A3 Z];exact A
  ·rw[A3 (λe=>Ab e.symm),AT AU]
  ·refine c.set D v ?_ (λb hb Ap=> ?_) ?_
   ·rw[A3 (λe=>Ac e.symm),A3 (λe=>C e.symm)]
   ·rw[A3 Ap,A3 (λe:b=kL=>J (e▸hb))]
   ·rw[An];exact AT AW
 ·rintro w t ⟨a,i,h,H,AD,⟨x,I,y,z,q,A,B,c,E⟩,j⟩;simp[Yk,j];exact AB _ _ a i h H ⟨by simp[x],by simp[I],by simp[y],by simp[z],q,A,B,c,E⟩
theorem a8h{l:List Int}(Am:l.length<=140737488355328)(AJ:m.length<=140737488355328):AL U 12 [AH l,AH m,Y n] (.bool true):=by
 obtain⟨u,L,R,BK,r,AK,AM,BL,BM,BN,An⟩:=jK Am;have f:=dn r (by decide);have N:=cP f AK AM;have AN:=mA (u:=u) (L:=L) AK AM;have AO:1<=u.A1.length/\u.A1.length<=9:=r.Ek;have BO:=r.F4;obtain⟨O,h,AP,AR,BP,Ao⟩:=ry (l:=m) AJ (i:=0) (by decide) f AO.1;refine BG (Ak (an:=⟨[Te,Sz u f,hf,nd],[ZN,Ob 48 [.agg (A4 u).toArray] _ _ _ Ao]⟩) a0n (by kernel_rfl) (by simp[nb]) ?_);simp(disch:=first|omega|simp only[DI.A2];omega)[nb,yA,-H,-E,-I,-G,-List.map_map];refine(An _).AG λv z ⟨A,Ap⟩=> ?_;subst A;have Aq:=F Ap;have BS:12<z.next:=Aq
 have Ar:(A4 u++[Ag L,AH R]).length=9:=rfl;have At:C3 [Value.int IntKind.i64 0,Value.slice none 0 0,Value.slice none 0 0,Value.slice none 0 0,Value.slice none 0 0,Value.slice none 0 0,Value.slice none 0 0,Value.slice none 0 0,Value.slice none 0 0] 0 (A4 u++[Ag L,AH R])=A4 u++[Ag L,AH R]:=by simp[C3,A4]
 have Au:5<z.next:=by omega
 simp(disch:=first|omega|simp only[DI.A2];omega)[Ar,At,-H,-E,-I,-G,-List.map_map];have B:(z.A0 5 (some ⟨A4 u++[Ag L,AH R],true⟩)).W 5=some ⟨[Y u.ext,M (u.Bz.map Cc) 4,M (u.Aa.map Ce) 4,M (u.A5.map Bd) 7,M (u.A1.map CB) 3,M (u.Ay.map B3) 17,M (u.A7.map Cd) 2,Ag L,AH R],true⟩:=AT Au;generalize z.A0 5 _=s at B⊢;have Av:=F B;simp(disch:=first|omega|simp only[DI.A2];omega)[xh,B,-H,-E,-I,-G,-List.map_map];refine((Z4 f r.F4.1 N AN (R:=R)).O9 (λv A=>by simp at A;rcases A with rfl|rfl|rfl<;>rfl)).AG λv t3 ⟨Aw,Ax⟩=> ?_;subst Ax;rcases Aw with⟨P,rfl⟩|⟨Fin,eR,fE,b,Az,⟨BU,BV,rfl⟩|⟨S,T,AS,BW,BX,BY,rfl⟩⟩
 ·simp(disch:=first|omega|simp only[DI.A2];omega)[bj,ZH,cO,NJ,OL,-H,-E,-I,-G,-List.map_map]
 ·simp(disch:=first|omega|simp only[DI.A2];omega)[bj,ZH,cO,NJ,OL,-H,-E,-I,-G,-List.map_map]
 obtain⟨B0,B1,BZ,B2⟩:=We f.ok AN Az;have B4:=N.1;have C:Fb u Fin:=by have:=dN (R:=R) (l:=S) N;rw[AS]at this;exact this
 have Ba:=wX f AP AR;have AV:=cP f AP AR;obtain⟨c,D⟩: ∃c,c=(s.AE 13).A0 (s.next+10) (some ⟨[Hr S,Ag Fin,Y eR,AH fE,Y ((S.length:Int)-eR)],true⟩):=⟨_,rfl⟩;have Bb:c.next=s.next+13:=by rw[D];simp
 have AW:c.W 5=some ⟨[Y u.ext,M (u.Bz.map Cc) 4,M (u.Aa.map Ce) 4,M (u.A5.map Bd) 7,M (u.A1.map CB) 3,M (u.Ay.map B3) 17,M (u.A7.map Cd) 2,Ag L,AH R],true⟩:=by rw[D,A3 (by omega),AU Av];exact B
 have Q:c.W (s.next+10)=some ⟨[Hr S,Ag Fin,Y eR,AH fE,Y ((S.length:Int)-eR)],true⟩:=by rw[D];exact AT (by simp)
 simp(disch:=first|omega|simp only[DI.A2];omega)[bj,-H,-E,-I,-G,-List.map_map];rw[<-D];generalize s.next+10=g at Q⊢
 have B5:=F AW;have B6:=F Q;simp(disch:=first|omega|simp only[DI.A2];omega)[ZH,-H,-E,-I,-G,-List.map_map];have JL:((c.AE 4).A0 (c.next+2) (some ⟨[AH m,Y 0],true⟩)).W 5=_:=(A3 (by omega)).trans ((AU B5).trans AW);have jp:((c.AE 4).A0 (c.next+2) (some ⟨[AH m,Y 0],true⟩)).W g=_:=(A3 (by omega)).trans ((AU B6).trans Q);have J:((c.AE 4).A0 (c.next+2) (some ⟨[AH m,Y 0],true⟩)).W (c.next+2)=some ⟨[AH m,Y 0],true⟩:=AT (by simp);have X:(5:Nat)≠c.next+2:=by omega
 have Z:g≠c.next+2:=by omega
 generalize(c.AE 4).A0 (c.next+2) (some ⟨[AH m,Y 0],true⟩)=k at JL jp J⊢;generalize c.next+2=e at J X Z⊢
 have Bc:=F JL;have Be:=F jp;have B7:=F J;simp(disch:=first|omega|simp only[DI.A2];omega)[cO,JL,-H,-E,-I,-G,-List.map_map];refine bx J ?_;have w:=(A3 (m:=k) (x:=some ⟨[AH m,Y h],true⟩) X).trans JL;have y:=(A3 (m:=k) (x:=some ⟨[AH m,Y h],true⟩) Z).trans jp;have A6:(k.A0 e (some ⟨[AH m,Y h],true⟩)).W e=some ⟨[AH m,Y h],true⟩:=AT B7;have B8:(k.A0 e (some ⟨[AH m,Y h],true⟩)).next=k.next:=rfl
 generalize k.A0 e (some ⟨[AH m,Y h],true⟩)=a at w y A6 B8⊢;have B9:=F w;have BA:=F y;have BB:=F A6;have AX:eR<=S.length:=by have Bf:EY L Fin<=S.length:=(by have:=sa (u:=u) (R:=R) (ym:=L) (S:=S) (L:=L);rw[AS,iy]at this;simpa using this);rw[B1];unfold DY;split<;>omega
 have BC:L.length<=50:=by have:=f.ok.F4;omega
 have AY: ∀d:List (List Int),Fb u d->(Bk L/\Bk d)/\L.length<=50:= λd p=>⟨⟨B4,p.1⟩,BC⟩;have AZ: ∀d:List (List Int),L0 u R d=true->eR<=DY L d:= λd p=>B2 d ((Yf f.ok).1 (dM.1 p));by_cases A8:I4 n 2=1
 ·have Bh:=C.1;have BD: ∀t:V,Mn Fin t=some (AQ t.next Fin.length 1,D2 t.next (Fh Fin t.next) (t.AE (Fin.length+1))):= λt=>kX C.1 C.2.1;simp(disch:=first|omega|simp only[DI.A2];omega)[NJ,A8,y,BD,-H,-E,-I,-G,-List.map_map];have A9: ∀b,b<a.next->(D2 a.next (Fh Fin a.next) (a.AE (Fin.length+1))).W b=a.W b:= λb hb=>by
   rw[PW hb,AU hb]
  have K:Dt (D2 a.next (Fh Fin a.next) (a.AE (Fin.length+1))) a.next (Fs Fin a.next) Fin:=ji (t:=a)
  have Ab:=(A9 5 B9).trans w;have Ac:=(A9 g BA).trans y;have Ad:=(A9 e BB).trans A6;have AB:(5:Nat)≠a.next/\g≠a.next/\e≠a.next/\5∉Fs Fin a.next/\g∉Fs Fin a.next/\e∉Fs Fin a.next/\(5:Nat)≠e/\g≠e:=⟨by omega,by omega,by omega,λq=>by have:=(Nc q).1;omega,λq=>by have:=(Nc q).1;omega,λq=>by have:=(Nc q).1;omega,X,Z⟩
  generalize D2 a.next (Fh Fin a.next) (a.AE (Fin.length+1))=Bi at K Ab Ac Ad⊢
  generalize Fs Fin a.next=ps at K AB
  generalize a.next=o at K AB⊢
  simp(disch:=first|omega|simp only[DI.A2];omega)[OL,-H,-E,-I,-G,-List.map_map];refine aCl AO (R:=R) (L:=L) (Fin:=Fin) (eR:=eR) (gl:=(S.length:Int)-eR) (fE:=fE) (S:=S) AJ (ND:=h) (by have:=f.ok.F4;omega) C (by have:=B0.len;have:=r.F4.1;omega) (k5:=5) (ej:=g) (kL:=e) (o:=o) (ps:=ps) ⟨by simp,by simp,by simp,by simp,Ab,Ac,Ad,K,AB⟩ (by simp) λBm t d i p Bn BE=> ?_;obtain⟨Ae,BF,Bo,Af,BH,Ah,Bp,P,Bq⟩:=BE;have AD:t.W 5=some ⟨[Y u.ext,M (u.Bz.map Cc) 4,M (u.Aa.map Ce) 4,M (u.A5.map Bd) 7,M (u.A1.map CB) 3,M (u.Ay.map B3) 17,M (u.A7.map Cd) 2,Ag L,AH R],true⟩:=BH;have Br:=F AD;have Bs:=F Ah;have BI:=AY d p;have Bt:=p.1;have Al:=Qp (n:=7) P;have BJ:=Qp (n:=7) (P.DW (au:=Cm t (As 9 t (AQ o d.length 1))) λb _=>by rw[Rd]);cases j:L0 u R d
  ·simp(disch:=first|omega|simp only[DI.A2];omega)[Ae,Af,AD,Al,j,-H,-E,-I,-G,-List.map_map]
  ·have AF:=AZ d j;simp(disch:=first|omega|simp only[DI.A2];omega)[Ae,BF,Af,AD,Ah,Al,BJ,j,AF,AX,-H,-E,-I,-G,-List.map_map]
 ·have BI:=AY O AV;have Bv:=AV.1;cases j:L0 u R O
  ·simp(disch:=first|omega|simp only[DI.A2];omega)[NJ,OL,NJ,OL,A8,w,j,-H,-E,-I,-G,-List.map_map]
  ·have AF:=AZ O j;simp(disch:=first|omega|simp only[DI.A2];omega)[NJ,OL,NJ,OL,NJ,OL,A8,w,y,j,AF,AX,-H,-E,-I,-G,-List.map_map]
theorem a7R(m:V)(a:List Value)(h:MU m [L5,L5,.int .i64] a):Aq U 12 a m λr _=>r= .bool true:=by
 refine kR (λts b=> ?_) m a h;cases b with
 | @cons _ d _ i ok c=>
   cases c with
   | @cons _ j _ k e f=>
     cases f with
     | @cons _ l _ n o g=>cases g;rw[Xo,Xo,a5K];exact a8h (dL ok) (dL e)
end Go.Proofs.YtmmkkggfmigppaaGreat
namespace Go.Proofs.YtmmkkggfmigppaaGreat.rebalanceLeastDone
open Go.ChangeShapes Go.WideShapes Go.ChangeAt Go.RowKit
section
theorem own:ownKnob Tryz.prog.godebug=none:=by kernel_rfl
theorem laidOut:laidOutB Tryz.prog=true:=by kernel_rfl
theorem mixed:Tryz.prog.follows .mixedOrders=true:=by kernel_rfl
set_option maxRecDepth 100000 in
theorem lifted(os:Os)(y:os.Started)(z:Type)(enc:TypeId×Value->z):
 ReturnsInHanded {} Tryz.checked os 12 .any (Rows.rebalanceLeastSpec.pre6 enc Tryz.prog Tryz.f12 Rows.rebalanceLeastRow.domain false) (Rows.rebalanceLeastSpec.post enc Tryz.prog Tryz.f12 false true false false):=by
 refine returnsInHanded_of_change_sized (C:=Tryz.checked) own y (by kernel_rfl) Tryz.func12
  (ChangeSpec.witness6 (enc:=enc) (C:=Tryz.checked) false ⟨#[],#[.slice none 0 0,.slice none 0 0,.int .i64 0],[]⟩ 8 (by kernel_rfl) (by kernel_rfl) (by kernel_rfl) (by kernel_rfl)) ?_
 intro a base args ds k V l o W A _;have r: ∀(j:Nat) t v,Tryz.f12.params[j]?=some t->args[j]?=some v->Value.okWide Tryz.prog a .any base t v:=l;have B:=o;obtain⟨p,q,s,u,rfl,X,Y⟩:=o;have D:k=[]:=(trodVars_none u).1;have E: ∀n∈DataW.weightsEach Tryz.prog Tryz.f12.params.toList ds,n<=reachBytes:= λn F=>by have G:(DataW.weightsEach Tryz.prog (Tryz.f12.params.toList++Rows.rebalanceLeastSpec.plain.varTypes Tryz.prog) (ds++k)).all (· <=reachBytes)=true:=A;have:=BF.1 G n (by rw[D];simpa[Rows.rebalanceLeastSpec,ChangeSpec.plain,DataSpec.varTypes]using F);simpa using this
 have i:DataW.TrodAll enc Tryz.prog a 0 (λ_=>true) true Tryz.f12.params.toList args.toList ds p:=s;have H:=Go.DI.ij (f:=12) (n:=12) mixed (ts:=Tryz.f12.params.toList) (nR:=[L5,L5,.int .i64]) (by kernel_rfl) (λj t v c d=>r j t v (by simpa using c) d) i E (λm I h=>a7R m I h);rw[Tryz.params12]at i r;obtain⟨v0,A0,A1,A2,J,A3,A4,rfl,rfl,w,K⟩:=trodAll_cons i;obtain⟨L,A5,A6,A7,M,A8,rfl,rfl,rfl,c,N⟩:=trodAll_cons K;obtain⟨O,A9,AB,AD,P,AE,rfl,rfl,rfl,d,Q⟩:=trodAll_cons N;obtain⟨rfl,rfl,rfl⟩:=trodAll_nil Q;obtain rfl:args= #[v0,L,O]:=by cases args;simp_all
 obtain⟨rfl,rfl⟩:=trodVars_none u;have R: ∀x∈J,x.block<a.heap.size:=by obtain⟨m,b⟩:=w;exact DataW.trod_lt m _ _ _ b
 have S: ∀x∈M,x.block<a.heap.size:=by obtain⟨m,b⟩:=c;exact DataW.trod_lt m _ _ _ b
 have T: ∀x∈P,x.block<a.heap.size:=by obtain⟨m,b⟩:=d;exact DataW.trod_lt m _ _ _ b
 clear s l;refine H.mono λe AF ⟨U,g⟩=> ?_;subst U;exact⟨_,rfl,_,_,_,[],_,[],B,trodAll_mk1 (shut_bool (by kernel_rfl) _),(trodAll_cons_mk (Below.trod laidOut (by kernel_rfl) (of_decide_eq_true (by kernel_rfl)) w g R) (trodAll_cons_mk (Below.trod laidOut (by kernel_rfl) (of_decide_eq_true (by kernel_rfl)) c g S) (trodAll_cons_mk (Below.trod laidOut (by kernel_rfl) (of_decide_eq_true (by kernel_rfl)) d g T) trodAll_mk0))),rfl,g.frame _,λh=>by cases h⟩
set_option maxRecDepth 10000
theorem BH{a b:Bool}(h:a=true)(c:b=true):(a&&b)=true:=by rw[h,c];rfl
theorem XS:(Rows.rebalanceLeastRow.wf (OpenSpec.ofChange Rows.rebalanceLeastSpec))=true:=by kernel_rfl
theorem K9:(laidOutB Tryz.pinned.checked.prog)=true:=by kernel_rfl
theorem KE:(mapsRowed Tryz.pinned.checked.prog)=true:=by kernel_rfl
theorem LU:(Tryz.f12.params.all (Tryz.pinned.checked.prog.readableRec ·))=true:=by kernel_rfl
theorem O8:(namedTie Tryz.pinned.checked.prog Rows.rebalanceLeastRow.named Rows.rebalanceLeastSpec.vars)=true:=by kernel_rfl
theorem JL:((Rows.rebalanceLeastRow.stops==[]))=true:=by kernel_rfl
theorem Nj:((Tryz.pinned.checked.prog.stops==[]))=true:=by kernel_rfl
theorem O6:((Rows.rebalanceLeastRow.knobs==[]))=true:=by kernel_rfl
theorem QJ:((Tryz.pinned.checked.prog.stopKnobs==[]))=true:=by kernel_rfl
theorem O7:((Rows.rebalanceLeastRow.inPlace==Tryz.pinned.checked.prog.inPlace 12))=true:=by kernel_rfl
theorem UD:((Rows.rebalanceLeastRow.unfollowed==Tryz.pinned.checked.prog.unfollowed 12))=true:=by kernel_rfl
theorem Tq:((Rows.rebalanceLeastRow.recurses==Tryz.pinned.checked.prog.recurses 12))=true:=by kernel_rfl
theorem U9:((Rows.rebalanceLeastRow.named==Tryz.pinned.checked.prog.varsNamed 12))=true:=by kernel_rfl
theorem Tk:((Rows.rebalanceLeastRow.maps==(Tryz.f12.params.toList++Rows.rebalanceLeastSpec.plain.varTypes Tryz.pinned.checked.prog).any (Tryz.pinned.checked.prog.mapsRec ·)))=true:=by kernel_rfl
theorem W4:((Rows.rebalanceLeastRow.ifaces==(Tryz.f12.params.toList++Rows.rebalanceLeastSpec.plain.varTypes Tryz.pinned.checked.prog).any (Tryz.pinned.checked.prog.ifacesRec ·)))=true:=by kernel_rfl
theorem Ux:((Rows.rebalanceLeastRow.mapsOut==Tryz.pinned.checked.prog.mapsAmong Tryz.f12.resultTypes.toList))=true:=by kernel_rfl
theorem W1:((Rows.rebalanceLeastRow.loops==(Tryz.f12.params.toList++Rows.rebalanceLeastSpec.plain.varTypes Tryz.pinned.checked.prog).any (Tryz.pinned.checked.prog.loopsFrom ·)))=true:=by kernel_rfl
theorem UJ:((Rows.rebalanceLeastRow.wideKeys==(Tryz.f12.params.toList++Rows.rebalanceLeastSpec.plain.varTypes Tryz.pinned.checked.prog++Tryz.f12.resultTypes.toList).any (Tryz.pinned.checked.prog.wideKeysFrom ·)))=true:=by kernel_rfl
theorem Vc:(Rows.rebalanceLeastSpec.vars.all (Tryz.pinned.checked.prog.varReadable ·))=true:=by kernel_rfl
theorem Uu:(Tryz.f12.resultTypes.all (λt=>Tryz.pinned.checked.prog.readableRec t&&decide (t<Tryz.pinned.checked.prog.types.size)))=true:=by kernel_rfl
theorem WH:((Rows.rebalanceLeastRow.ifacesOut==Tryz.f12.resultTypes.toList.any (Tryz.pinned.checked.prog.ifacesRec ·)))=true:=by kernel_rfl
theorem V4:((Rows.rebalanceLeastRow.loopsOut==Tryz.f12.resultTypes.toList.any (Tryz.pinned.checked.prog.loopsFrom ·)))=true:=by kernel_rfl
theorem VB:((Rows.rebalanceLeastRow.plainKeys==Tryz.pinned.checked.prog.plainKeys))=true:=by kernel_rfl
theorem Uj:(Rows.rebalanceLeastRow.shortTexts.isNone)=true:=by kernel_rfl
theorem W7:(Tryz.pinned.checked.prog.stopsHeard)=true:=by kernel_rfl
theorem WG:(Tryz.pinned.checked.prog.mayEnter)=true:=by kernel_rfl
theorem Vb:((Rows.rebalanceLeastRow.lifted==Tryz.pinned.checked.prog.liftsFinal))=true:=by kernel_rfl
theorem Up:((Tryz.pinned.checked.prog.make==some Rows.rebalanceLeastRow.make))=true:=by kernel_rfl
theorem VE:((Rows.rebalanceLeastRow.kinds==(if Rows.rebalanceLeastRow.domain.isEmpty then[]else Tryz.f12.params.toList.map λt=>match Tryz.pinned.checked.prog.underlying t with|some (.int k)=>some k|_=>none)))=true:=by kernel_rfl
theorem VO:((Rows.rebalanceLeastRow.pinned==Rows.rebalanceLeastRow.pinnedBy))=true:=by kernel_rfl
theorem Wc:((Rows.rebalanceLeastRow.veiled==(Tryz.f12.params.toList++Rows.rebalanceLeastSpec.plain.varTypes Tryz.pinned.checked.prog++Tryz.f12.resultTypes.toList).any (Tryz.pinned.checked.prog.veiledRec ·)))=true:=by kernel_rfl
theorem Ve:(Rows.rebalanceLeastRow.veiledFits Tryz.pinned.checked.prog Tryz.f12.params.toList (Tryz.f12.params.toList++Rows.rebalanceLeastSpec.plain.varTypes Tryz.pinned.checked.prog++Tryz.f12.resultTypes.toList))=true:=by kernel_rfl
theorem Vq:joinedFacts Tryz.pinned.checked.prog 12 Tryz.f12 Rows.rebalanceLeastSpec Rows.rebalanceLeastRow=true:=(BH (BH (BH (BH (BH (BH (BH (BH (BH (BH (BH (BH (BH (BH (BH (BH (BH (BH (BH (BH (BH (BH (BH (BH (BH (BH (BH (BH (BH (BH (BH XS K9) KE) LU) O8) JL) Nj) O6) QJ) O7) UD) Tq) U9) Tk) W4) Ux) W1) UJ) Vc) Uu) WH) V4) VB) Uj) W7) WG) Vb) Up) VE) VO) Wc) Ve)
theorem over:Rows.rebalanceLeastRow.holds Tryz.pinned (OpenSpec.ofChange Rows.rebalanceLeastSpec):=
 OpenClaim.holds_of_wide 12 Tryz.f12 rfl rfl rfl rfl rfl rfl rfl ⟨rfl,rfl,rfl,rfl,rfl⟩ rfl rfl rfl rfl rfl (by kernel_rfl) Tryz.func12 Vq
  (of_decide_eq_true (by kernel_rfl)) (by unfold Func.isWrapper;first|(rw[if_pos (by decide+kernel)];kernel_rfl)|(rw[if_neg (by decide+kernel)];exact⟨rfl,rfl⟩))
  (λos a b enc _=>lifted os a b enc)
theorem proved:Rows.RebalanceLeastSaid:=over
#print axioms proved
end
end Go.Proofs.YtmmkkggfmigppaaGreat.rebalanceLeastDone
