/- A part of the proof. -/
import Derived.Test.YtmmkkggfmigppaaGreatZcr
set_option linter.all false
set_option maxRecDepth 8000
set_option maxHeartbeats 16000000
namespace Go.Proofs.YtmmkkggfmigppaaGreat
open Go Go.DI Go.Big
structure Av(u:AY):Prop where
 ok:BW u
 CV:AY.CV u
noncomputable def UZ(u:AY)(h:AY.CV u):AK U:= .B8 62 Unit (λ_=>HO u=true) (λ_=>[.agg (A4 u).toArray]) (λ_=>Y 0) λ_ a=>xU h a
variable{u:AY}{e z x n c:Int}{l r:List Int}{t:V}{s L:List (List Int)}{v i d o:Nat}{p:Nat->Bool}{a7:Value->V->Prop}{ds:List Dj}
@[simp] theorem aMn{h:AY.CV u}:(UZ u h).f=62:=rfl
@[simp] theorem aPz{h:AY.CV u}(a:HO u=true):(UZ u h).fn [.agg #[Y u.ext,M (u.Bz.map Cc) 4,M (u.Aa.map Ce) 4,M (u.A5.map Bd) 7,M (u.A1.map CB) 3,M (u.Ay.map B3) 17,M (u.A7.map Cd) 2]]=some (Y 0):=AK.BD (x:=()) a λ_ _=>rfl
theorem a73(h:AY.CV u)(a:HO u=true):AL U 115 [.agg (A4 u).toArray] (.bool true):=by refine BG (Ak (an:=⟨[UZ u h],[]⟩) vi (by kernel_rfl) (by simp[bt]) ?_);simp(disch:=first|omega|simp only[AD];omega)[bt,r0,A4]
noncomputable def Pv(u:AY)(h:AY.CV u):AK U:= .B8 115 Unit (λ_=>HO u=true) (λ_=>[.agg (A4 u).toArray]) (λ_=> .bool true) λ_ a=>a73 h a
@[simp] theorem aNK{h:AY.CV u}:(Pv u h).f=115:=rfl
@[simp] theorem aNt{h:AY.CV u}(a:HO u=true):(Pv u h).fn [.agg #[Y u.ext,M (u.Bz.map Cc) 4,M (u.Aa.map Ce) 4,M (u.A5.map Bd) 7,M (u.A1.map CB) 3,M (u.Ay.map B3) 17,M (u.A7.map Cd) 2]]=some (.bool true):=AK.BD (x:=()) a λ_ _=>rfl
theorem a5k(h:0<=e):(if e<(if z<0 then 0 else z)then e else(if z<0 then 0 else z))=max 0 (min z e):=by split<;>split at* <;>omega
theorem a42(h:0<=e):(if 0<(if e<z then e else z)then(if e<z then e else z)else 0)=max 0 (min z e):=by split<;>split at* <;>omega
def CD(u:AY)(Ab:List Int)(d:Nat):Int:=if Ab.length=u.A1.length then max 0 (min (Ab.getD d 0) (JT u d))else JT u d
theorem MA{Ab:List Int}:BV u Ab=Ct u.A1.length (CD u Ab):=rfl
theorem KT: ∀r∈l.map (λx=>[Y x]),r.length=1/\ ∀v∈r,Co v=true:= λr b=>by obtain⟨x,_,rfl⟩:=CP.1 b;exact⟨rfl,λv a=>by simp at a;subst a;rfl⟩
theorem K6:(l.map (λx=>[Y x])).flatten=l.map Y:=by
 induction l with
 |nil=>rfl
 |cons x l a=>simp[a]
theorem WD: ∀v∈l.map Y,Co v=true:= λv a=>by obtain⟨x,_,rfl⟩:=CP.1 a;rfl
theorem xA(h:Av u){Ab:List Int}:Bv U 63 [.agg (A4 u).toArray,AH Ab] D0 λv X=> ∃o,v=AQ o u.A1.length 1/\X.W o=some ⟨(BV u Ab).map Y,true⟩:=by
 refine Ak (an:=⟨[Pv u h.CV],[]⟩) vf (by kernel_rfl) (by simp[ef]) ?_;have A7:=h.ok.MC;have A8:=h.ok.Ek;have A0:(u.A1.length:Int)*8<=140737488355328/\u.A1.length<=140737488355328/\(u.A1.length:Int)<=140737488355328/\(u.A1.length:Int)<=9223372036854775807:=by omega
 simp(disch:=first|omega|simp only[AD];omega)[ef,uX,A4,A0,-H,-E,-I,-G,-List.map_map];refine CE (an:=⟨[Pv u h.CV],[]⟩) (λi a t=>t.W 0=some ⟨A4 u,true⟩/\t.W 5=some ⟨Ct u.A1.length (λj=>if j<i then Y (CD u Ab j)else Y 0),true⟩/\a 1=AH Ab/\a 2=AA 0/\a 5=AQ 5 u.A1.length 1/\a 15=Y u.A1.length/\a 16=Y i) u.A1.length ?_ ?_ 0 _ _ (C0 _) ⟨by simp(disch:=first|omega|simp only[AD];omega)[A4,-H,-E,-I,-G,-List.map_map],by simp(disch:=first|omega|simp only[AD];omega)[-H,-E,-I,-G,-List.map_map];exact QE,by simp,by simp,by simp,by simp,by simp⟩
 ·rintro i a t K ⟨d,l,p,q,f,k,r⟩ A9 L;obtain⟨x,s⟩:=CF K;have M:=(AX.1 s).2;obtain⟨A2,AB,a3,a4,AE⟩:=h.ok.Lx i x s;obtain⟨m,w⟩:=DP A2;have A3:m<u.Aa.length:=(by omega);obtain⟨y,A⟩:=CF A3;have N:=(AX.1 A).2;have O:JT u i=y.ext:=(by simp only[JT,s,w,EE,A]);have hb:=h.ok.Xy m y A;have P:(i:Int)<u.A1.length:=(by omega);have Q:(m:Int)<u.Aa.length:=(by omega);have R:i+1<=u.A1.length:=K;have S:=BX (n:=i) (by omega);have AF:=F d;have AG:=F l;by_cases B:Ab.length=u.A1.length
  ·have T:(Ab.length:Int)=u.A1.length:=(by omega);have A5:i<Ab.length:=(by omega);have AJ:(i:Int)<Ab.length:=(by omega);obtain⟨z,V⟩:=CF A5;have A6:=(AX.1 V).2;have C:CD u Ab i=max 0 (min z y.ext):=(by unfold CD;rw[if_pos B,O,Dv,V];rfl);simp(disch:=omega)[Xj,A4,CB,Ce,p,q,f,k,r,d,l,P,Q,S,M,w,N,B,A6,Ej,KG,CC,R];refine L _ _ ⟨by simp(disch:=omega)[d,A4],?_,by simp[p],by simp[q],by simp[f],by simp[k],by simp⟩;simp(disch:=omega);refine FG λj D=> ?_;by_cases e:j=i
   ·subst e;have J:j<j+1:=(by omega);rw[if_pos rfl,if_pos J,C];exact congrArg Y (a5k (by omega))
   ·by_cases c:j<i
    ·have b:j<i+1:=(by omega);simp only[if_neg e,if_pos c,if_pos b]
    ·have b: ¬j<i+1:=(by omega);simp only[if_neg e,if_neg c,if_neg b]
  ·have T: ¬(Ab.length:Int)=u.A1.length:=(by omega);have C:CD u Ab i=y.ext:=(by unfold CD;rw[if_neg B,O]);simp(disch:=omega)[Xj,A4,CB,Ce,p,q,f,k,r,d,l,P,Q,S,M,w,N,T,KG,R];refine L _ _ ⟨by simp(disch:=omega)[d,A4],?_,by simp[p],by simp[q],by simp[f],by simp[k],by simp⟩;simp(disch:=omega);refine FG λj D=> ?_;by_cases e:j=i
   ·subst e;have J:j<j+1:=(by omega);rw[if_pos rfl,if_pos J,C]
   ·by_cases c:j<i
    ·have b:j<i+1:=(by omega);simp only[if_neg e,if_pos c,if_pos b]
    ·have b: ¬j<i+1:=(by omega);simp only[if_neg e,if_neg c,if_neg b]
 ·rintro a t ⟨d,l,p,q,f,k,r⟩;simp(disch:=omega)[Xj,f,k,r];rw[l,MA,PM];rw[FG (g:= λj=>Y (CD u Ab j)) λj D=>if_pos D]
theorem a2W(h:Av u){Ab:List Int}:AL U 63 [.agg (A4 u).toArray,AH Ab] (AH (BV u Ab)):=
 Ut (n:=u.A1.length) (by rw[Eb,MA,VI]) KT (by rw[K6];exact xA h)
theorem JX{Ab:List Int}:(BV u Ab).length=u.A1.length:=by rw[MA,VI]
theorem a8a(h:Av u){Ab:List Int}:Bv U 52 [.agg (A4 u).toArray,AH Ab] D0 λv P=> ∃o,v=AQ o u.A1.length 1/\P.W o=some ⟨(BV u Ab).map Y,true⟩:=by
 refine Ak (an:=⟨[Jj u h.CV],[]⟩) nf (by kernel_rfl) (by simp[TT]) ?_;have A0:=h.ok.MC;have A2:=h.ok.Ek;simp(disch:=first|omega|simp only[AD];omega)[TT,g8,A4];refine Pa (d:=5) (z:=1) (by simp) ?_;refine CE (an:=⟨[Jj u h.CV],[]⟩) (λi b t=>t.W 0=some ⟨A4 u,true⟩/\(∃o,o≠0/\b 5=AQ o i 1/\t.W o=some ⟨Ct i (λj=>Y (CD u Ab j)),true⟩)/\b 1=AH Ab/\b 2=AA 0/\b 6=Y i) u.A1.length ?_ ?_ 0 _ _ (C0 _) ⟨by simp(disch:=first|omega|simp only[AD];omega)[A4,-H,-E,-I,-G,-List.map_map],⟨2,by decide,by simp,by simp(disch:=first|omega|simp only[AD];omega)[Ct,-H,-E,-I,-G,-List.map_map]⟩,by simp,by simp,by simp⟩
 ·rintro i b t w ⟨a,⟨o,R,g,e⟩,f,c,k⟩ A3 A;obtain⟨x,l⟩:=CF w;have B:=(AX.1 l).2;obtain⟨S,A5,a3,a4,A6⟩:=h.ok.Lx i x l;obtain⟨m,p⟩:=DP S;have T:m<u.Aa.length:=(by omega);obtain⟨y,q⟩:=CF T;have C:=(AX.1 q).2;have D:JT u i=y.ext:=(by simp only[JT,l,p,EE,q]);have hb:=h.ok.Xy m y q;have J:(i:Int)<u.A1.length:=(by omega);have K:(m:Int)<u.Aa.length:=(by omega);have A7:i+1<=u.A1.length:=w;have L:=BX (n:=i) (by omega);have V:=F a;have A8:=F e;have M:(i+1)*8<=140737488355328/\i<=9223372036854775806:=(by omega);by_cases r:Ab.length=u.A1.length
  ·have N:(Ab.length:Int)=u.A1.length:=(by omega);have X:i<Ab.length:=(by omega);have A9:(i:Int)<Ab.length:=(by omega);obtain⟨z,O⟩:=CF X;have Z:=(AX.1 O).2;have s:CD u Ab i=max 0 (min z y.ext):=(by unfold CD;rw[if_pos r,D,Dv,O];rfl);have AB: ¬y.ext<0:=(by omega);simp(disch:=first|omega|simp only[AD];omega)[Ra,A4,CB,Ce,f,c,g,k,a,e,J,K,L,B,p,C,r,Z,M,-H,-E,-I,-G,-List.map_map];refine A _ _ ⟨by simp(disch:=first|omega|simp only[AD];omega)[a,A4,-H,-E,-I,-G,-List.map_map],⟨t.next+3,by omega,by simp,?_⟩,by simp[f],by simp[c],by simp⟩;rw[AT (by simp),DV (by simp),fI,s];simp only[GY,Bw.mk.injEq,and_true,List.append_cancel_left_eq,OW];exact congrArg Y (a42 (by omega))
  ·have N: ¬(Ab.length:Int)=u.A1.length:=(by omega);have s:CD u Ab i=y.ext:=(by unfold CD;rw[if_neg r,D]);simp(disch:=first|omega|simp only[AD];omega)[Ra,A4,CB,Ce,f,c,g,k,a,e,J,K,L,B,p,C,N,M,-H,-E,-I,-G,-List.map_map];refine A _ _ ⟨by simp(disch:=first|omega|simp only[AD];omega)[a,A4,-H,-E,-I,-G,-List.map_map],⟨t.next+3,by omega,by simp,?_⟩,by simp[f],by simp[c],by simp⟩;rw[AT (by simp),DV (by simp),fI,s]
 ·rintro b t ⟨a,⟨o,R,g,e⟩,f,c,k⟩;have V:=F a;simp[Ra,A4,a,c,g,k];rw[e,MA,PM]
theorem a2R(h:Av u){Ab:List Int}:AL U 52 [.agg (A4 u).toArray,AH Ab] (AH (BV u Ab)):=
 Ut (n:=u.A1.length) (by rw[Eb,JX]) KT (by rw[K6];exact a8a h)
noncomputable def Yp(u:AY)(h:Av u):AK U:= .B8 63 (List Int) (λ_=>True) (λx=>[.agg (A4 u).toArray,AH x]) (λx=>AH (BV u x)) λ_ _=>a2W h
@[simp] theorem aIn{h:Av u}:(Yp u h).f=63:=rfl
@[simp] theorem aHG{h:Av u}:(Yp u h).fn [.agg #[Y u.ext,M (u.Bz.map Cc) 4,M (u.Aa.map Ce) 4,M (u.A5.map Bd) 7,M (u.A1.map CB) 3,M (u.Ay.map B3) 17,M (u.A7.map Cd) 2],M (l.map λx=>[Y x]) 1]=some (AH (BV u l)):=AK.BD (x:=l) trivial λy a=>by simpa using a
noncomputable def cr(u:AY)(h:Av u):DB U:= .Rp 63 (List Int) (λ_=>True) (λx=>[.agg (A4 u).toArray,AH x]) (λ_=>u.A1.length) (λ_=>1) (λx=>(BV u x).map Y) λ_ _=>Y1 (λv a=>by simp at a;rcases a with rfl|rfl<;>rfl) WD (xA h)
@[simp] theorem aMZ{h:Av u}:(cr u h).f=63:=rfl
@[simp] theorem aHm{h:Av u}:(cr u h).fn [.agg #[Y u.ext,M (u.Bz.map Cc) 4,M (u.Aa.map Ce) 4,M (u.A5.map Bd) 7,M (u.A1.map CB) 3,M (u.Ay.map B3) 17,M (u.A7.map Cd) 2],M (l.map λx=>[Y x]) 1] t=some (.slice (some ⟨t.next,0,none⟩) u.A1.length 1,(t.AE 1).A0 t.next (some ⟨(BV u l).map Y,true⟩)):=DB.eo (x:=l) trivial λy a=>by simpa using a
noncomputable def TV(u:AY)(h:Av u):AK U:= .B8 52 (List Int) (λ_=>True) (λx=>[.agg (A4 u).toArray,AH x]) (λx=>AH (BV u x)) λ_ _=>a2R h
@[simp] theorem aKq{h:Av u}:(TV u h).f=52:=rfl
@[simp] theorem aIQ{h:Av u}:(TV u h).fn [.agg #[Y u.ext,M (u.Bz.map Cc) 4,M (u.Aa.map Ce) 4,M (u.A5.map Bd) 7,M (u.A1.map CB) 3,M (u.Ay.map B3) 17,M (u.A7.map Cd) 2],M (l.map λx=>[Y x]) 1]=some (AH (BV u l)):=AK.BD (x:=l) trivial λy a=>by simpa using a
def BE(r:List Int):List Value:=[AH r]
abbrev Ag(L:List (List Int)):Value:=M (L.map BE) 1
@[simp] theorem aLN{l:List (List Int)}:l.map BE=s.map BE↔l=s:=Nf λx y h=>by simpa[BE]using h
def Bk(L:List (List Int)):Prop:=L.length<=1000/\ ∀r∈L,r.length<=1000
theorem Wg(h:BW u)(i:v<u.A7.length): ∃x p q,u.A7[v]?=some x/\x.JD=(p:Nat)/\p<u.Ay.length/\u.Ay[p]?=some q/\CS u v=q.k+q.m/\1<=q.k/\0<=q.m/\q.k+q.m<=8:=by
 obtain⟨x,d⟩:=CF i;obtain⟨a,b⟩:=h.Au v x d;obtain⟨p,j⟩:=DP a;have g:p<u.Ay.length:=by omega
 obtain⟨q,f⟩:=CF g;have c:=(h.JD p q f).1;simp only[Fc,AB,Ba]at c;have l:=GQ c.1;have n:=GQ c.2.1;refine⟨x,p,q,d,j,g,f,?_,l.1,n.1,c.2.2.1⟩;have e:x.JD.toNat=p:=by omega
 unfold CS;rw[d];simp only[e,f]
theorem N9(h:BW u)(d:v<u.A7.length):1<=CS u v/\CS u v<=8:=by obtain⟨x,p,q,_,_,_,_,e,a,b,c⟩:=Wg h d;rw[e];omega
theorem a11(h:BW u)(a:v<u.A7.length):AL U 187 [.agg (A4 u).toArray,Y v] (Y (CS u v)):=by
 refine BG (Ak (an:=⟨[],[]⟩) rX (by kernel_rfl) (by simp[YL]) ?_);obtain⟨x,p,q,b,c,o,d,e,r,s,t⟩:=Wg h a;have f:=(AX.1 b).2;have g:=(AX.1 d).2;have i:(v:Int)<u.A7.length:=by omega
 have j:(p:Int)<u.Ay.length:=by omega
 have l:IntKind.i64.wrap (q.k+q.m)=q.k+q.m:=Ah (by omega) (by omega);rw[e];simp(disch:=first|omega|simp only[AD];omega)[YL,o0,A4,Cd,B3,i,j,f,c,g,l]
noncomputable def gy(u:AY)(h:BW u):AK U:= .B8 187 Nat (λv=>v<u.A7.length) (λv=>[.agg (A4 u).toArray,Y v]) (λv=>Y (CS u v)) λv a=>a11 h a
@[simp] theorem aPJ{h:BW u}:(gy u h).f=187:=rfl
@[simp] theorem aMB{h:BW u}(a:v<u.A7.length):(gy u h).fn [.agg #[Y u.ext,M (u.Bz.map Cc) 4,M (u.Aa.map Ce) 4,M (u.A5.map Bd) 7,M (u.A1.map CB) 3,M (u.Ay.map B3) 17,M (u.A7.map Cd) 2],Y v]=some (Y (CS u v)):=AK.BD (x:=v) a λy b=>by simp at b⊢;omega
theorem a6u(h:BW u)(a:v<u.A7.length):AL U 132 [.agg (A4 u).toArray,Y v] (Y (CS u v)):=by
 refine BG (Ak (an:=⟨[],[]⟩) aAo (by kernel_rfl) (by simp[jz]) ?_);obtain⟨x,p,q,b,c,o,d,e,r,s,t⟩:=Wg h a;have f:=(AX.1 b).2;have g:=(AX.1 d).2;have i:(v:Int)<u.A7.length:=by omega
 have j:(p:Int)<u.Ay.length:=by omega
 have l:IntKind.i64.wrap (q.k+q.m)=q.k+q.m:=Ah (by omega) (by omega);rw[e];simp(disch:=first|omega|simp only[AD];omega)[jz,ze,A4,Cd,B3,i,j,f,c,g,l]
noncomputable def h3(u:AY)(h:BW u):AK U:= .B8 132 Nat (λv=>v<u.A7.length) (λv=>[.agg (A4 u).toArray,Y v]) (λv=>Y (CS u v)) λv a=>a6u h a
@[simp] theorem aQD{h:BW u}:(h3 u h).f=132:=rfl
@[simp] theorem aPh{h:BW u}(a:v<u.A7.length):(h3 u h).fn [.agg #[Y u.ext,M (u.Bz.map Cc) 4,M (u.Aa.map Ce) 4,M (u.A5.map Bd) 7,M (u.A1.map CB) 3,M (u.Ay.map B3) 17,M (u.A7.map Cd) 2],Y v]=some (Y (CS u v)):=AK.BD (x:=v) a λy b=>by simp at b⊢;omega
def H7(n:Nat)(x:Int):Bool:=decide (x< -1)||decide ((n:Int)<=x)
def Ew(n:Nat)(r:List Int):Int:=match r.findIdx? (H7 n)with|some i=>i|none=> -1
theorem wv{n:Nat}(b:i<r.length)(hb:H7 n r[i]=true)(h: ∀j (a:j<r.length),j<i->H7 n r[j]=false):Ew n r=i:=by
 unfold Ew;have:r.findIdx? (H7 n)=some i:=by rw[Yr];exact⟨b,hb,λj a=>by rw[h j (by omega) a];simp⟩
 rw[this]
theorem nm{n:Nat}(h: ∀j (a:j<r.length),H7 n r[j]=false):Ew n r= -1:=by
 unfold Ew;have:r.findIdx? (H7 n)=none:=by rw[aT];intro x b;obtain⟨j,a,rfl⟩:=EC b;exact h j a
 rw[this]
theorem lK{n:Nat}:(r.all λx=>decide (-1<=x)&&decide (x<n))=decide (Ew n r= -1):=by
 have e: ∀x:Int,(decide (-1<=x)&&decide (x<n))= !H7 n x:= λx=>by unfold H7;rw[Bool.not_or,<-decide_not,<-decide_not];congr 1<;>exact decide_eq_decide.2 (by omega)
 cases a:r.findIdx? (H7 n)with
 | none=>have b:Ew n r= -1:=(by unfold Ew;rw[a]);rw[aT]at a;rw[b,decide_eq_true rfl,BF];intro x c;rw[e,a x c];rfl
 | some i=>have b:Ew n r=i:=(by unfold Ew;rw[a]);rw[Yr]at a;obtain⟨d,hb,_⟩:=a;have f: ¬((i:Int)= -1):=(by omega);rw[b,J5 f,List.all_eq_false];exact⟨r[i],Dc d,by rw[e,hb];simp⟩
theorem aD9(A:r.length<=1000):AL U 143 [.agg (A4 u).toArray,AH r] (Y (Ew u.A1.length r)):=by
 refine BG (Ak (an:=⟨[],[]⟩) aBC (by kernel_rfl) (by simp[nV]) ?_);simp[nV,p6,A4];refine CE (an:=⟨[],[]⟩) (λi c t=>(∀j (a:j<r.length),j<i->H7 u.A1.length r[j]=false)/\t.W 0=some ⟨A4 u,true⟩/\c 1=AH r/\c 2=AA 0/\c 5=Y i) r.length ?_ ?_ 0 _ _ (C0 _) ⟨λj a h=>absurd h (La _),by simp[A4],by simp,by simp,by simp⟩
 ·rintro i c t q ⟨l,d,b,m,f⟩ B w;obtain⟨x,y⟩:=CF q;have g:=(AX.1 y).2;have p:(i:Int)<r.length:=(by omega);have z:=BX (n:=i) (by omega);have C:=F d;have s:H7 u.A1.length x=true->Ew u.A1.length r=i:= λhb=>wv q (by rw[g];exact hb) l;by_cases k:x< -1
  ·have e:=s (by simp[H7,k]);simp(disch:=omega)[Vo,Ry,b,f,p,g,k,e]
  ·by_cases o:(u.A1.length:Int)<=x
   ·have e:=s (by simp[H7,o]);simp(disch:=omega)[Vo,Ry,A4,b,m,f,d,p,g,k,o,e]
   ·simp(disch:=omega)[Vo,Ry,A4,b,m,f,d,p,g,k,o,z];refine w _ _ ⟨λj a D=> ?_,by simp(disch:=first|omega|simp only[AD];omega)[d,A4,-H,-E,-I,-G,-List.map_map],by simp[b],by simp[m],by simp⟩;by_cases e:j=i
    ·subst e;rw[g];simp[H7,k,o]
    ·exact l j a (by omega)
 ·rintro c t ⟨l,d,b,m,f⟩;have e:=nm λj a=>l j a a;simp[Vo,Ry,Ry,b,f,e]
noncomputable def ko(u:AY):AK U:= .B8 143 (List Int) (λr=>r.length<=1000) (λr=>[.agg (A4 u).toArray,AH r]) (λr=>Y (Ew u.A1.length r)) λr a=>aD9 a
@[simp] theorem aGe:(ko u).f=143:=rfl
@[simp] theorem aLt(a:r.length<=1000):(ko u).fn [.agg #[Y u.ext,M (u.Bz.map Cc) 4,M (u.Aa.map Ce) 4,M (u.A5.map Bd) 7,M (u.A1.map CB) 3,M (u.Ay.map B3) 17,M (u.A7.map Cd) 2],M (r.map λx=>[Y x]) 1]=some (Y (Ew u.A1.length r)):=AK.BD (x:=r) a λy b=>by simpa using b
theorem en:HR u v r=(decide ((r.length:Int)=CS u v)&&decide (Ew u.A1.length r= -1)):=by unfold HR;rw[lK]
theorem aD6{n:Nat}:Ew n r= -1\/0<=Ew n r:=by
 unfold Ew;split
 ·right;omega
 ·left;rfl
theorem SZ(a:L[v]?=some r)(h:HR u v r=false):EN u L=false:=by unfold EN;rw[Bool.and_eq_false_iff];right;rw[List.all_eq_false];exact⟨v,FX.2 (AX.1 a).1,by rw[a];simp[h]⟩
theorem z5(b:L.length=u.A7.length)(h: ∀(v:Nat) r,L[v]?=some r->HR u v r=true):EN u L=true:=by unfold EN;rw[AB];refine⟨decide_eq_true b,?_⟩;rw[BF];intro v a;rw[FX]at a;rw[AS a];exact h v _ (AS a)
theorem Rs(a: ¬L.length=u.A7.length):EN u L=false:=by unfold EN;rw[J5 a];rfl
def Ia(u:AY)(L:List (List Int))(v:Nat):Value:=match L[v]? with
 |some r=>if¬(r.length:Int)=CS u v then .tuple #[.agg #[Y 1,Y v,Y r.length],.bool true]else if Ew u.A1.length r= -1 then .tuple #[.agg #[Y 0,Y 0,Y 0],.bool false]else .tuple #[.agg #[Y 1,Y v,Y (Ew u.A1.length r)],.bool true]
 |none=>undef
theorem aDF(h:Av u)(K:Bk L)(M:v<L.length/\v<u.A7.length):AL U 133 [.agg (A4 u).toArray,Ag L,Y v] (Ia u L v):=by
 refine BG (Ak (an:=⟨[gy u h.ok],[]⟩) oF (by kernel_rfl) (by simp[VR]) ?_);obtain⟨O,X⟩:=M;obtain⟨r,g⟩:=CF O;have B:=(AX.1 g).2;have C:(v:Int)<L.length:=by omega
 have Z:=K.2 r (B9 g);by_cases c:(r.length:Int)=CS u v
 case neg=>have e:Ia u L v= .tuple #[.agg #[Y 1,Y v,Y r.length],.bool true]:=(by unfold Ia;rw[g];simp[c]);rw[e];simp(disch:=first|omega|simp only[AD];omega)[VR,gp,A4,BE,B,C,c,-H,-E,-I,-G,-List.map_map]
 simp(disch:=first|omega|simp only[AD];omega)[VR,gp,vK,A4,BE,B,C,c,-H,-E,-I,-G,-List.map_map];refine CE (an:=⟨[],[]⟩) (λi a t=>(∀j (d:j<r.length),j<i->H7 u.A1.length r[j]=false)/\t.W 0=some ⟨A4 u,true⟩/\t.W 1=some ⟨[Y 0,Y 0,Y 0],true⟩/\a 2=Y v/\a 3=AA 0/\a 6=AA 1/\a 29=AH r/\a 30=Y r.length/\a 31=Y i) r.length ?_ ?_ 0 _ _ (C0 _) ⟨λj d h=>absurd h (La _),by simp(disch:=first|omega|simp only[AD];omega)[A4,-H,-E,-I,-G,-List.map_map],by simp(disch:=first|omega|simp only[AD];omega)[-H,-E,-I,-G,-List.map_map],by simp,by simp,by simp,by simp,by simp[c],by simp⟩
 ·rintro i a t D ⟨s,k,b,w,y,l,m,f,o⟩ A0 P;obtain⟨x,Q⟩:=CF D;have p:=(AX.1 Q).2;have A:(i:Int)<r.length:=(by omega);have R:=BX (n:=i) (by omega);have A2:=F k;have S:=F b;have J:H7 u.A1.length x=true->Ia u L v= .tuple #[.agg #[Y 1,Y v,Y i],.bool true]:= λhb=>by
   have e:=wv D (by rw[p];exact hb) s;have T: ¬(i:Int)= -1:=(by omega);unfold Ia;rw[g];simp only[c,not_true_eq_false,if_false,e,if_neg T]
  by_cases q:x< -1
  ·rw[J (by simp[H7,q])];simp(disch:=omega)[VY,Sv,w,l,m,f,o,b,A,p,q]
  ·by_cases z:(u.A1.length:Int)<=x
   ·rw[J (by simp[H7,z])];simp(disch:=first|omega|simp only[AD];omega)[VY,Sv,A4,w,y,l,m,f,o,k,b,A,p,q,z,-H,-E,-I,-G,-List.map_map]
   ·simp(disch:=first|omega|simp only[AD];omega)[VY,Sv,A4,y,m,f,o,k,A,p,q,z,R,-H,-E,-I,-G,-List.map_map];refine P _ _ ⟨λj d A3=> ?_,by simp(disch:=first|omega|simp only[AD];omega)[k,A4,-H,-E,-I,-G,-List.map_map],by simp(disch:=first|omega|simp only[AD];omega)[b,-H,-E,-I,-G,-List.map_map],by simp[w],by simp[y],by simp[l],by simp[m],by simp[f],by simp⟩;by_cases e:j=i
    ·subst e;rw[p];simp[H7,q,z]
    ·exact s j d (by omega)
 ·rintro a t ⟨s,k,b,w,y,l,m,f,o⟩;have e:=nm λj d=>s j d d;have V:Ia u L v= .tuple #[.agg #[Y 0,Y 0,Y 0],.bool false]:=(by unfold Ia;rw[g];simp only[c,not_true_eq_false,if_false,e,if_true]);have S:=F b;rw[V];simp(disch:=omega)[VY,Sv,Sv,l,f,o,b]
noncomputable def ew(u:AY)(h:Av u)(L:List (List Int))(a:Bk L):AK U:= .B8 133 Nat (λv=>v<L.length/\v<u.A7.length) (λv=>[.agg (A4 u).toArray,Ag L,Y v]) (λv=>Ia u L v) λv b=>aDF h a b
@[simp] theorem aIz{h:Av u}{a:Bk L}:(ew u h L a).f=133:=rfl
@[simp] theorem aOp{h:Av u}{a:Bk L}(b:v<L.length/\v<u.A7.length):(ew u h L a).fn [.agg #[Y u.ext,M (u.Bz.map Cc) 4,M (u.Aa.map Ce) 4,M (u.A5.map Bd) 7,M (u.A1.map CB) 3,M (u.Ay.map B3) 17,M (u.A7.map Cd) 2],M (L.map BE) 1,Y v]=some (Ia u L v):=AK.BD (x:=v) b λy c=>by simp at c⊢;omega
theorem a7Z(h:Av u)(y:Bk L):AL U 86 [.agg (A4 u).toArray,Ag L] (.bool (EN u L)):=by
 refine BG (Ak (an:=⟨[Pv u h.CV,ew u h L y],[]⟩) wG (by kernel_rfl) (by simp[Uw]) ?_);have m:=h.ok.MC;have K:=h.ok.F4;by_cases o:L.length=u.A7.length
 case neg=>have p: ¬(L.length:Int)=u.A7.length:=(by omega);have e:=Rs o;simp(disch:=first|omega|simp only[AD];omega)[Uw,ft,A4,p,e]
 have p:(L.length:Int)=u.A7.length:=by omega
 simp(disch:=first|omega|simp only[AD];omega)[Uw,ft,yh,A4,p];refine CE (an:=⟨[Pv u h.CV,ew u h L y],[]⟩) (λi b t=>(∀(v:Nat) r,v<i->L[v]?=some r->HR u v r=true)/\t.W 0=some ⟨A4 u,true⟩/\b 1=Ag L/\b 2=AA 0/\b 20=Y L.length/\b 21=Y i) L.length ?_ ?_ 0 _ _ (C0 _) ⟨λv r m=>absurd m (La _),by simp(disch:=first|omega|simp only[AD];omega)[A4,-H,-E,-I,-G,-List.map_map],by simp,by simp,by simp[o],by simp⟩
 ·rintro i b t B ⟨q,c,g,j,d,k⟩ M C;obtain⟨r,a⟩:=CF B;have s:(i:Int)<L.length:=(by omega);have N:i<L.length/\i<u.A7.length:=(by omega);have D:=BX (n:=i) (by omega);have O:=F c;by_cases f:(r.length:Int)=CS u i
  case neg=>have e:=SZ a (by rw[en,J5 f];rfl);have l:Ia u L i= .tuple #[.agg #[Y 1,Y i,Y r.length],.bool true]:=(by unfold Ia;rw[a];simp[f]);simp(disch:=first|omega|simp only[AD];omega)[VJ,Rh,A4,g,j,d,k,c,s,e,l,-H,-E,-I,-G,-List.map_map]
  rcases aD6 (n:=u.A1.length) (r:=r)with w|w
  ·have l:Ia u L i= .tuple #[.agg #[Y 0,Y 0,Y 0],.bool false]:=(by unfold Ia;rw[a];simp only[f,not_true_eq_false,if_false,w,if_true]);simp(disch:=first|omega|simp only[AD];omega)[VJ,Rh,A4,g,j,d,k,c,s,l,D];refine C _ _ ⟨λv J m x=> ?_,by simp(disch:=first|omega|simp only[AD];omega)[c,A4,-H,-E,-I,-G,-List.map_map],by simp[g],by simp[j],by simp[d],by simp⟩;by_cases e:v=i
   ·subst e;rw[a]at x;cases x;rw[en,decide_eq_true f,decide_eq_true w];rfl
   ·exact q v J (by omega) x
  ·have z: ¬Ew u.A1.length r= -1:=(by omega);have e:=SZ a (by rw[en,decide_eq_true f,J5 z];rfl);have l:Ia u L i= .tuple #[.agg #[Y 1,Y i,Y (Ew u.A1.length r)],.bool true]:=(by unfold Ia;rw[a];simp only[f,not_true_eq_false,if_false,if_neg z]);simp(disch:=first|omega|simp only[AD];omega)[VJ,Rh,A4,g,j,d,k,c,s,e,l,-H,-E,-I,-G,-List.map_map]
 ·rintro b t ⟨q,c,g,j,d,k⟩;have e:=z5 o λv r a=>q v r (AX.1 a).1 a;simp[VJ,Rh,Rh,d,k,e]
noncomputable def dg(u:AY)(h:Av u):AK U:= .B8 86 (List (List Int)) Bk (λL=>[.agg (A4 u).toArray,Ag L]) (λL=> .bool (EN u L)) λL a=>a7Z h a
@[simp] theorem aPC{h:Av u}:(dg u h).f=86:=rfl
@[simp] theorem aO4{h:Av u}(a:Bk L):(dg u h).fn [.agg #[Y u.ext,M (u.Bz.map Cc) 4,M (u.Aa.map Ce) 4,M (u.A5.map Bd) 7,M (u.A1.map CB) 3,M (u.Ay.map B3) 17,M (u.A7.map Cd) 2],M (L.map BE) 1]=some (.bool (EN u L)):=AK.BD (x:=L) a λy b=>by simpa using b
def D1(L:List (List Int))(d:Nat):Nat:=L.flatten.count (d:Int)
theorem kf(a:L[i]?=some r):D1 (L.take (i+1)) d=D1 (L.take i) d+r.count (d:Int):=by unfold D1;rw[MB a];simp
theorem dp(h: ∀r∈L,r.length<=1000):D1 L d<=L.length*1000:=by
 refine Dh WX ?_;induction L with
 |nil=>simp
 | cons r l a=>have:=h r (by simp);have:=a λx b=>h x (by simp[b]);simp only[HM,Ds,Df];omega
theorem IL:BZ u L=Ct u.A1.length λd=>((D1 L d:Nat):Int):=rfl
theorem JV:(BZ u L).length=u.A1.length:=by rw[IL,VI]
theorem a6j(h:Av u)(B:Bk L):Bv U 200 [.agg (A4 u).toArray,Ag L] D0 λv V=> ∃o,v=AQ o u.A1.length 1/\V.W o=some ⟨(BZ u L).map Y,true⟩:=by
 refine Ak (an:=⟨[],[]⟩) wB (by kernel_rfl) (by simp[dD]) ?_;have AJ:=h.ok.Ek;have AK:=h.ok.MC;have X:(u.A1.length:Int)*8<=140737488355328/\u.A1.length<=140737488355328/\(u.A1.length:Int)<=140737488355328/\(u.A1.length:Int)<=9223372036854775807:=by omega
 simp(disch:=first|omega|simp only[AD];omega)[dD,zX,A4,X,-H,-E,-I,-G,-List.map_map];refine CE (an:=⟨[],[]⟩) (λi a t=>t.W 0=some ⟨A4 u,true⟩/\t.W 5=some ⟨Ct u.A1.length (λj=>Y (D1 (L.take i) j)),true⟩/\a 2=AA 0/\a 5=AQ 5 u.A1.length 1/\a 14=Ag L/\a 15=Y L.length/\a 16=Y i) L.length ?_ ?_ 0 _ _ (C0 _) ⟨by simp(disch:=first|omega|simp only[AD];omega)[A4,-H,-E,-I,-G,-List.map_map],by simp(disch:=first|omega|simp only[AD];omega)[-H,-E,-I,-G,-List.map_map];exact QE,by simp,by simp,by simp,by simp,by simp⟩
 ·rintro i a t Z ⟨b,c,q,g,p,l,m⟩ A0 y;obtain⟨r,C⟩:=CF Z;have A2:=(AX.1 C).2;have A3:(i:Int)<L.length:=(by omega);have AL:=B.2 r (B9 C);have AM:=B.1;have A5:=BX (n:=i) (by omega);have D:=F b;have Q:=F c;simp(disch:=first|omega|simp only[AD];omega)[hK,fS,BE,p,l,m,A3,A2,-H,-E,-I,-G,-List.map_map];refine CE (an:=⟨[],[]⟩) (λk a t=>t.W 0=some ⟨A4 u,true⟩/\t.W 5=some ⟨Ct u.A1.length (λj=>Y (D1 (L.take i) j+(r.take k).count (j:Int):Nat)),true⟩/\a 2=AA 0/\a 5=AQ 5 u.A1.length 1/\a 14=Ag L/\a 15=Y L.length/\a 16=Y i/\a 20=AH r/\a 21=Y r.length/\a 22=Y k) r.length ?_ ?_ 0 _ _ (C0 _) ⟨by simp(disch:=first|omega|simp only[AD];omega)[b,A4,-H,-E,-I,-G,-List.map_map],by simp(disch:=first|omega|simp only[AD];omega)[c,-H,-E,-I,-G,-List.map_map],by simp[q],by simp[g],by simp[p],by simp[l],by simp[m],by simp[],by simp[],by simp[]⟩
  ·rintro k a t A6 ⟨b,c,q,g,p,l,m,w,s,z⟩ A0 y;obtain⟨x,R⟩:=CF A6;have J:=(AX.1 R).2;have K:(k:Int)<r.length:=(by omega);have v0:=BX (n:=k) (by omega);have D:=F b;have Q:=F c;have M: ∀j:Nat,(r.take (k+1)).count (j:Int)=(r.take k).count (j:Int)+if x=j then 1 else 0:= λj=>by
    rw[MB R,Qw];congr 1;by_cases e:x=j<;>simp[e]
   by_cases N:0<=x
   ·by_cases A7:x<u.A1.length
    ·obtain⟨f,S⟩:=DP N;have A8:f<u.A1.length:=(by omega);have A9:f+1<=u.A1.length:=A8;have AB:(f:Int)<u.A1.length:=(by omega);have AE:=dp (L:=L.take i) (d:=f) (λr AF=>B.2 r (K2 AF));have AG:(L.take i).length<=1000:=(by rw[GC];omega);have AN:(r.take k).count (f:Int)<=1000:=Dh WX (by rw[GC];omega);have AO:D1 (L.take i) f<=1000000:=Dh AE (IF 1000 AG);have T:IntKind.i64.wrap (((D1 (L.take i) f+(r.take k).count (f:Int):Nat):Int)+1)=((D1 (L.take i) f+(r.take k).count (f:Int):Nat):Int)+1:=Ah (by omega) (by omega);rw[ME]at T;simp(disch:=first|omega|simp only[AD];omega)[Vm,g,w,s,z,c,K,J,v0,S,A9,AB,T,Ej,KG,CC,-H,-E,-I,-G,-List.map_map];refine y _ _ ⟨by simp(disch:=first|omega|simp only[AD];omega)[b,A4,-H,-E,-I,-G,-List.map_map],?_,by simp[q],by simp[g],by simp[p],by simp[l],by simp[m],by simp[w],by simp[s],by simp[]⟩;simp(disch:=first|omega|simp only[AD];omega)[-H,-E,-I,-G,-List.map_map];refine FG λj O=> ?_;rw[M j,S];by_cases e:j=f
     ·subst e;simp;omega
     ·have A: ¬(f:Int)=j:=(by omega);simp only[if_neg e,if_neg A,Nq]
    ·simp(disch:=first|omega|simp only[AD];omega)[Vm,g,w,s,z,K,J,v0,N,A7,-H,-E,-I,-G,-List.map_map];refine y _ _ ⟨by simp(disch:=first|omega|simp only[AD];omega)[b,A4,-H,-E,-I,-G,-List.map_map],?_,by simp[q],by simp[g],by simp[p],by simp[l],by simp[m],by simp[w],by simp[s],by simp[]⟩;simp(disch:=first|omega|simp only[AD];omega)[c,-H,-E,-I,-G,-List.map_map];refine FG λj O=> ?_;have A: ¬x=j:=(by omega);rw[M j,if_neg A];simp
   ·simp(disch:=first|omega|simp only[AD];omega)[Vm,w,s,z,K,J,v0,N,-H,-E,-I,-G,-List.map_map];refine y _ _ ⟨by simp(disch:=first|omega|simp only[AD];omega)[b,A4,-H,-E,-I,-G,-List.map_map],?_,by simp[q],by simp[g],by simp[p],by simp[l],by simp[m],by simp[w],by simp[s],by simp[]⟩;simp(disch:=first|omega|simp only[AD];omega)[c,-H,-E,-I,-G,-List.map_map];refine FG λj O=> ?_;have A: ¬x=j:=(by omega);rw[M j,if_neg A];simp
  ·rintro a t ⟨b,c,q,g,p,l,m,w,s,z⟩;have D:=F b;have Q:=F c;simp(disch:=first|omega|simp only[AD];omega)[Vm,m,s,z,A5,-H,-E,-I,-G,-List.map_map];refine y _ _ ⟨by simp(disch:=first|omega|simp only[AD];omega)[b,A4,-H,-E,-I,-G,-List.map_map],?_,by simp[q],by simp[g],by simp[p],by simp[l],by simp[]⟩;simp(disch:=first|omega|simp only[AD];omega)[c,-H,-E,-I,-G,-List.map_map];refine FG λj O=> ?_;rw[kf C];simp
 ·rintro a t ⟨b,c,q,g,p,l,m⟩;have D:=F b;simp(disch:=first|omega|simp only[AD];omega)[hK,fS,g,l,m,-H,-E,-I,-G,-List.map_map];rw[c,EP,IL,PM]
noncomputable def jX(u:AY)(h:Av u):DB U:= .Rp 200 (List (List Int)) Bk (λL=>[.agg (A4 u).toArray,Ag L]) (λ_=>u.A1.length) (λ_=>1) (λL=>(BZ u L).map Y) λ_ b=>Y1 (λv a=>by simp at a;rcases a with rfl|rfl<;>rfl) WD (a6j h b)
@[simp] theorem aP4{h:Av u}:(jX u h).f=200:=rfl
@[simp] theorem aPi{h:Av u}(a:Bk L):(jX u h).fn [.agg #[Y u.ext,M (u.Bz.map Cc) 4,M (u.Aa.map Ce) 4,M (u.A5.map Bd) 7,M (u.A1.map CB) 3,M (u.Ay.map B3) 17,M (u.A7.map Cd) 2],M (L.map BE) 1] t=some (.slice (some ⟨t.next,0,none⟩) u.A1.length 1,(t.AE 1).A0 t.next (some ⟨(BZ u L).map Y,true⟩)):=DB.eo (x:=L) a λy b=>by simpa using b
theorem aFz(h:Av u)(A:Bk L):Bv U 34 [.agg (A4 u).toArray,Ag L] D0 λv T=> ∃o,v=AQ o u.A1.length 1/\T.W o=some ⟨(BZ u L).map Y,true⟩:=by
 refine Ak (an:=⟨[Jj u h.CV],[]⟩) xj (by kernel_rfl) (by simp[UN]) ?_;have AE:=h.ok.Ek;have AF:=h.ok.MC;have V:(u.A1.length:Int)*8<=140737488355328/\u.A1.length<=140737488355328/\(u.A1.length:Int)<=140737488355328/\(u.A1.length:Int)<=9223372036854775807:=by omega
 simp(disch:=first|omega|simp only[AD];omega)[UN,kG,A4,V,-H,-E,-I,-G,-List.map_map];refine CE (an:=⟨[Jj u h.CV],[]⟩) (λi a t=>t.W 0=some ⟨A4 u,true⟩/\t.W 5=some ⟨Ct u.A1.length (λj=>Y (D1 (L.take i) j)),true⟩/\a 1=Ag L/\a 2=AA 0/\a 5=AQ 5 u.A1.length 1/\a 6=Y i) L.length ?_ ?_ 0 _ _ (C0 _) ⟨by simp(disch:=first|omega|simp only[AD];omega)[A4,-H,-E,-I,-G,-List.map_map],by simp(disch:=first|omega|simp only[AD];omega)[-H,-E,-I,-G,-List.map_map];exact QE,by simp,by simp,by simp,by simp⟩
 ·rintro i a t X ⟨f,g,b,p,m,c⟩ Z q;obtain⟨r,B⟩:=CF X;have z:=(AX.1 B).2;have s:(i:Int)<L.length:=(by omega);have AG:=A.2 r (B9 B);have AH:=A.1;have A0:=BX (n:=i) (by omega);have C:=F f;have P:=F g;simp[U5,U0,b,c,s];refine CE (an:=⟨[Jj u h.CV],[]⟩) (λk a t=>t.W 0=some ⟨A4 u,true⟩/\t.W 5=some ⟨Ct u.A1.length (λj=>Y (D1 (L.take i) j+(r.take k).count (j:Int):Nat)),true⟩/\a 1=Ag L/\a 2=AA 0/\a 5=AQ 5 u.A1.length 1/\a 6=Y i/\a 7=Y k) r.length ?_ ?_ 0 _ _ (C0 _) ⟨by simp[f,A4],by simp[g],by simp[b],by simp[p],by simp[m],by simp[c],by simp[]⟩
  ·rintro k a t A2 ⟨f,g,b,p,m,c,w⟩ Z q;obtain⟨x,Q⟩:=CF A2;have D:=(AX.1 Q).2;have J:(k:Int)<r.length:=(by omega);have v0:=BX (n:=k) (by omega);have C:=F f;have P:=F g;have K: ∀j:Nat,(r.take (k+1)).count (j:Int)=(r.take k).count (j:Int)+if x=j then 1 else 0:= λj=>by
    rw[MB Q,Qw];congr 1;by_cases e:x=j<;>simp[e]
   by_cases M:0<=x
   ·by_cases A3:x<u.A1.length
    ·obtain⟨l,R⟩:=DP M;have A5:l<u.A1.length:=(by omega);have A6:l+1<=u.A1.length:=A5;have A7:(l:Int)<u.A1.length:=(by omega);have A8:=dp (L:=L.take i) (d:=l) (λr A9=>A.2 r (K2 A9));have AB:(L.take i).length<=1000:=(by rw[GC];omega);have AJ:(r.take k).count (l:Int)<=1000:=Dh WX (by rw[GC];omega);have AK:D1 (L.take i) l<=1000000:=Dh A8 (IF 1000 AB);have S:IntKind.i64.wrap (((D1 (L.take i) l+(r.take k).count (l:Int):Nat):Int)+1)=((D1 (L.take i) l+(r.take k).count (l:Int):Nat):Int)+1:=Ah (by omega) (by omega);rw[ME]at S;simp(disch:=omega)[NL,BE,b,m,c,w,g,s,J,z,D,v0,R,A6,A7,S,Ej,KG,CC];refine q _ _ ⟨by simp[f,A4],?_,by simp[b],by simp[p],by simp[m],by simp[c],by simp[]⟩;simp(disch:=omega);refine FG λj N=> ?_;rw[K j,R];by_cases e:j=l
     ·subst e;simp;omega
     ·have y: ¬(l:Int)=j:=(by omega);simp only[if_neg e,if_neg y,Nq]
    ·simp(disch:=omega)[NL,BE,b,m,c,w,s,J,z,D,v0,M,A3];refine q _ _ ⟨by simp[f,A4],?_,by simp[b],by simp[p],by simp[m],by simp[c],by simp[]⟩;simp[g];refine FG λj N=> ?_;have y: ¬x=j:=(by omega);rw[K j,if_neg y];simp
   ·simp(disch:=omega)[NL,BE,b,c,w,s,J,z,D,v0,M];refine q _ _ ⟨by simp[f,A4],?_,by simp[b],by simp[p],by simp[m],by simp[c],by simp[]⟩;simp[g];refine FG λj N=> ?_;have y: ¬x=j:=(by omega);rw[K j,if_neg y];simp
  ·rintro a t ⟨f,g,b,p,m,c,w⟩;have C:=F f;have P:=F g;simp(disch:=omega)[NL,BE,b,c,w,s,z,A0];refine q _ _ ⟨by simp[f,A4],?_,by simp[b],by simp[p],by simp[m],by simp[]⟩;simp[g];refine FG λj N=> ?_;rw[kf B];simp
 ·rintro a t ⟨f,g,b,p,m,c⟩;have C:=F f;simp[U5,U0,b,m,c];rw[g,EP,IL,PM]
theorem a2v(h:Av u)(a:Bk L):AL U 34 [.agg (A4 u).toArray,Ag L] (AH (BZ u L)):=
 Ut (n:=u.A1.length) (by rw[Eb,JV]) KT (by rw[K6];exact aFz h a)
noncomputable def S5(u:AY)(h:Av u):AK U:= .B8 34 (List (List Int)) Bk (λL=>[.agg (A4 u).toArray,Ag L]) (λL=>AH (BZ u L)) λL a=>a2v h a
@[simp] theorem aJ4{h:Av u}:(S5 u h).f=34:=rfl
@[simp] theorem aLB{h:Av u}(a:Bk L):(S5 u h).fn [.agg #[Y u.ext,M (u.Bz.map Cc) 4,M (u.Aa.map Ce) 4,M (u.A5.map Bd) 7,M (u.A1.map CB) 3,M (u.Ay.map B3) 17,M (u.A7.map Cd) 2],M (L.map BE) 1]=some (AH (BZ u L)):=AK.BD (x:=L) a λy b=>by simpa using b
theorem a3J(h:Av u)(b:Bk L):Bv U 147 [.agg (A4 u).toArray,Ag L] D0 λv a=> ∃o,v=AQ o u.A1.length 1/\a.W o=some ⟨(BZ u L).map Y,true⟩:=by refine Ak (an:=⟨[Pv u h.CV],[jX u h]⟩) q2 (by kernel_rfl) (by simp[ar]) ?_;have d:=h.ok.MC;simp(disch:=first|omega|simp only[AD];omega)[ar,qN,A4]
noncomputable def lZ(u:AY)(h:Av u):DB U:= .Rp 147 (List (List Int)) Bk (λL=>[.agg (A4 u).toArray,Ag L]) (λ_=>u.A1.length) (λ_=>1) (λL=>(BZ u L).map Y) λ_ b=>Y1 (λv a=>by simp at a;rcases a with rfl|rfl<;>rfl) WD (a3J h b)
@[simp] theorem aL9{h:Av u}:(lZ u h).f=147:=rfl
@[simp] theorem aIt{h:Av u}(a:Bk L):(lZ u h).fn [.agg #[Y u.ext,M (u.Bz.map Cc) 4,M (u.Aa.map Ce) 4,M (u.A5.map Bd) 7,M (u.A1.map CB) 3,M (u.Ay.map B3) 17,M (u.A7.map Cd) 2],M (L.map BE) 1] t=some (.slice (some ⟨t.next,0,none⟩) u.A1.length 1,(t.AE 1).A0 t.next (some ⟨(BZ u L).map Y,true⟩)):=DB.eo (x:=L) a λy b=>by simpa using b
theorem a1E{n:Nat}:(List.range (n+1)).filter p=(List.range n).filter p++if p n then[n]else[]:=by rw[MO,List.filter_append];cases h:p n<;>simp[h]
def KQ(x:Int)(l:List Int):Int:=match l.findIdx? (λy=>decide (x=y))with|some i=>i|none=> -1
theorem a0q(b:i<l.length)(c:x=l[i])(h: ∀j (a:j<l.length),j<i-> ¬x=l[j]):KQ x l=i:=by
 unfold KQ;have:l.findIdx? (λy=>decide (x=y))=some i:=by rw[Yr];exact⟨b,by simpa using c,λj a=>by simpa using h j (by omega) a⟩
 rw[this]
theorem aFF(h: ∀j (a:j<l.length),¬x=l[j]):KQ x l= -1:=by
 unfold KQ;have:l.findIdx? (λy=>decide (x=y))=none:=by rw[aT];intro y b;obtain⟨j,a,rfl⟩:=EC b;simpa using h j a
 rw[this]
theorem sr:0<=KQ x l↔x∈l:=by
 cases a:l.findIdx? (λy=>decide (x=y))with
 | some i=>have e:KQ x l=i:=(by unfold KQ;rw[a]);rw[Yr]at a;obtain⟨b,hb,_⟩:=a;have c:x=l[i]:=(by simpa using hb);rw[e];exact⟨λ_=>by rw[c];exact Dc b,λ_=>by omega⟩
 | none=>have e:KQ x l= -1:=(by unfold KQ;rw[a]);rw[aT]at a;rw[e];exact⟨λh=>by omega,λh=>by have:=a x h;simp at this⟩
theorem aDd(w:l.length<=1000000):AL U 123 [AH l,Y x] (Y (KQ x l)):=by
 refine BG (Ak (an:=⟨[],[]⟩) xK (by kernel_rfl) (by simp[ZJ]) ?_);simp[ZJ,vy];refine CE (an:=⟨[],[]⟩) (λi a t=>(∀j (b:j<l.length),j<i-> ¬x=l[j])/\a 0=AH l/\a 1=Y x/\a 7=Y l.length/\a 8=Y i) l.length ?_ ?_ 0 _ _ (C0 _) ⟨λj b h=>absurd h (La _),by simp,by simp,by simp,by simp⟩
 ·rintro i a t p ⟨f,g,k,d,m⟩ z s;obtain⟨y,u⟩:=CF p;have o:=(AX.1 u).2;have q:(i:Int)<l.length:=(by omega);have v:=BX (n:=i) (by omega);by_cases c:x=y
  ·have e:=a0q p (by rw[o];exact c) f;simp(disch:=first|omega|simp only[AD];omega)[e0,W3,g,k,d,m,q,o,eq_true c,e]
  ·simp(disch:=first|omega|simp only[AD];omega)[e0,W3,g,k,d,m,q,o,c,v,-H,-E,-I,-G,-List.map_map];refine s _ _ ⟨λj b A=> ?_,by simp[g],by simp[k],by simp[d],by simp⟩;by_cases e:j=i
   ·subst e;rw[o];exact c
   ·exact f j b (by omega)
 ·rintro a t ⟨f,g,k,d,m⟩;have e:=aFF λj b=>f j b b;simp[e0,W3,W3,d,m,e]
noncomputable def fe:AK U:= .B8 123 (List Int×Int) (λx=>x.1.length<=1000000) (λx=>[AH x.1,Y x.2]) (λx=>Y (KQ x.2 x.1)) λ_ h=>aDd h
@[simp] theorem aQ9:fe.f=123:=rfl
@[simp] theorem aHj(h:l.length<=1000000):fe.fn [M (l.map λx=>[Y x]) 1,Y x]=some (Y (KQ x l)):=AK.BD (x:=(l,x)) h λ⟨b,c⟩ a=>by simpa using a
theorem aEU(b:l.length<=1000000):AL U 78 [AH l,Y x] (.bool (decide (x∈l))):=by
 refine BG (Ak (an:=⟨[fe],[]⟩) yi (by kernel_rfl) (by simp[XU]) ?_);by_cases c:x∈l
 ·have a:=sr.2 c;simp(disch:=omega)[XU,hG,c,a]
 ·have a: ¬0<=KQ x l:= λh=>c (sr.1 h);simp(disch:=omega)[XU,hG,c,a]
noncomputable def Z9:AK U:= .B8 78 (List Int×Int) (λx=>x.1.length<=1000000) (λx=>[AH x.1,Y x.2]) (λx=> .bool (decide (x.2∈x.1))) λ_ h=>aEU h
@[simp] theorem aNL:Z9.f=78:=rfl
@[simp] theorem aIx(h:l.length<=1000000):Z9.fn [M (l.map λx=>[Y x]) 1,Y x]=some (.bool (decide (x∈l))):=AK.BD (x:=(l,x)) h λ⟨b,c⟩ a=>by simpa using a
def Fl(n d:Int):Prop:=(n=0/\d=1)\/(n=1/\d=1)\/(n=1/\d=2)\/(n=1/\d=1000)\/(n=30/\d=1)\/(n=1/\100<=d/\d<200)
def C9(n d:Int):Ac:=⟨false,if n=0 then[]else[n],[d]⟩
theorem u7{d:Int}(h:Fl n d):AL U 59 [Y n,Y d] (B5 (C9 n d)):=by
 rcases h with⟨rfl,rfl⟩|⟨rfl,rfl⟩|⟨rfl,rfl⟩|⟨rfl,rfl⟩|⟨rfl,rfl⟩|⟨rfl,b,a⟩
 ·exact aCF
 ·exact aDg
 ·exact a0r
 ·exact aAl
 ·exact a23
 ·exact aC8 (by omega) a
noncomputable def Nl:AK U:= .B8 59 (Int×Int) (λx=>Fl x.1 x.2) (λx=>[Y x.1,Y x.2]) (λx=>B5 (C9 x.1 x.2)) λx h=>u7 h
@[simp] theorem aPQ:Nl.f=59:=rfl
@[simp] theorem aPg{d:Int}(h:Fl n d):Nl.fn [Y n,Y d]=some (B5 (C9 n d)):=AK.BD (x:=(n,d)) h λ⟨b,c⟩ a=>by simpa using a
def Eu(c n:Nat):ByteArray:=⟨#[c.toUInt8,(97+n/26%26).toUInt8,(97+n%26).toUInt8]⟩
theorem aBA{c n:Nat}(f:c<256)(g:n<1000000):AL U 109 [.int .u8 c,Y n] (.string (Eu c n)):=by
 refine BG (Ak (an:=⟨[],[]⟩) sW (by kernel_rfl) (by simp[Xs]) ?_);have a:IntKind.i64.wrap ((n:Int)/26)=((n/26:Nat):Int):=by rw[Ah (by omega) (by omega)];omega
 have b:((n/26:Nat):Int).tmod 26=((n/26%26:Nat):Int):=by rw[Int.tmod_eq_emod_of_nonneg (by omega)];omega
 have a3:(n:Int).tmod 26=((n%26:Nat):Int):=by rw[Int.tmod_eq_emod_of_nonneg (by omega)];omega
 have w: ∀k:Nat,k<26->IntKind.u8.wrap (IntKind.i64.wrap (97+(k:Int)))=((97+k:Nat):Int):= λk i=>by rw[Ah (by omega) (by omega)];show(97+(k:Int))%256=_;omega
 have d:=w (n/26%26) (by omega);have e:=w (n%26) (by omega);simp[Xs,rO];rw[a,b,a3,d,e];simp only[toBytes,Eu,E1,List.map_nil];rfl
noncomputable def GB:AK U:= .B8 109 (Nat×Nat) (λx=>x.1<256/\x.2<1000000) (λx=>[.int .u8 x.1,Y x.2]) (λx=> .string (Eu x.1 x.2)) λx h=>aBA h.1 h.2
@[simp] theorem aIo:GB.f=109:=rfl
@[simp] theorem cC{C n:Nat}(a:c=C)(h:C<256/\n<1000000):GB.fn [.int .u8 c,Y n]=some (.string (Eu C n)):=by subst a;exact AK.BD (x:=(C,n)) h λ⟨d,e⟩ b=>by simp at b⊢;omega
def I4(x n:Int):Int:=if n<1 then 0 else if x.tmod n<0 then x.tmod n+n else x.tmod n
theorem aBO(h:1<=n):0<=I4 x n/\I4 x n<n:=by have a:=Int.tmod_lt_of_pos x (show 0<n by omega);have b:=Int.lt_tmod_of_pos x (show 0<n by omega);unfold I4;rw[if_neg (by omega)];split<;>omega
theorem lz(h:n<1):I4 x n=0:=by unfold I4;rw[if_pos h]
def bH(l:List Int)(i:Nat):Int:=match l[i]? with|some x=>x|none=>(i:Int)%3
def Bq(l:List Int)(i:Nat)(n:Int):Int:=I4 (bH l i) n
theorem En(h:1<=n):0<=Bq l i n/\Bq l i n<n:=aBO h
theorem a53(y:i<1000000)(z:l.length<=140737488355328)(A:n<=1000000)(d:t.W o=some ⟨[AH l,Y i],true⟩)
 (a:a7 (Y (Bq l i n)) (t.A0 o (some ⟨[AH l,Y (i+1:Nat)],true⟩))):Bv U 49 [.pointer (some ⟨o,0,none⟩),Y n] t a7:=by
 refine Ak (an:=⟨[],[]⟩) qv (by kernel_rfl) (by simp[O3]) ?_;have C:=F d;have h:=BX (n:=i) (by omega);have j:(i:Int).tmod 3=(i:Int)%3:=by rw[Int.tmod_eq_emod_of_nonneg (by omega)]
 have D:(some (Bw.mk [AH l,Y ((i:Int)+1)] true))=some ⟨[AH l,Y (i+1:Nat)],true⟩:=by simp
 have s: ∀x:Int,bH l i=x-> ∀k:Prop,(n<1->Bq l i n=0->k)->(1<=n-> ¬n<1-> ¬n=0->x.tmod n<0->IntKind.i64.wrap (x.tmod n+n)=Bq l i n->k)->(1<=n-> ¬n<1-> ¬n=0-> ¬x.tmod n<0->x.tmod n=Bq l i n->k)->k:= λx m k u v w=>by
  by_cases c:n<1
  ·exact u c (by unfold Bq;exact lz c)
  ·have E:=Int.tmod_lt_of_pos x (show 0<n by omega);have G:=Int.lt_tmod_of_pos x (show 0<n by omega);by_cases b:x.tmod n<0
   ·exact v (by omega) c (by omega) b (by rw[Ah (by omega) (by omega)];unfold Bq I4;rw[m,if_neg c,if_pos b])
   ·exact w (by omega) c (by omega) b (by unfold Bq I4;rw[m,if_neg c,if_neg b])
 by_cases q:i<l.length
 ·have f:(i:Int)<l.length:=(by omega);obtain⟨x,m⟩:=CF q;have p:=(AX.1 m).2;refine s x (by unfold bH;rw[m]) _ (λc e=> ?_) (λr c g b e=> ?_) λr c g b e=> ?_
  ·rw[e]at a;simp(disch:=omega)[O3,Qb,d,h,j,f,p,c];simpa using a
  ·rw[<-e]at a;simp(disch:=omega)[O3,Qb,d,h,j,f,p,c,g,b];simpa using a
  ·rw[<-e]at a;simp(disch:=omega)[O3,Qb,d,h,j,f,p,c,g,b];simpa using a
 ·have f: ¬(i:Int)<l.length:=(by omega);refine s ((i:Int)%3) (by unfold bH;rw[LF (by omega)]) _ (λc e=> ?_) (λr c g b e=> ?_) λr c g b e=> ?_
  ·rw[e]at a;simp[O3,Qb,d,h,j,f,c];simpa using a
  ·rw[<-e]at a;simp[O3,Qb,d,h,j,f,c,g,b];simpa using a
  ·rw[<-e]at a;simp[O3,Qb,d,h,j,f,c,g,b];simpa using a
open Classical in
noncomputable def Tf(o:Nat)(n:Int)(t:V)(b:Option Bw):Option (Value×V):=
 if h: ∃p:List Int×Nat,b=some ⟨[AH p.1,Y p.2],true⟩/\p.2<1000000/\p.1.length<=140737488355328/\n<=1000000 then some (Y (Bq h.choose.1 h.choose.2 n),t.A0 o (some ⟨[AH h.choose.1,Y (h.choose.2+1:Nat)],true⟩))else none
@[simp] theorem a2t(h:i<1000000/\l.length<=140737488355328/\n<=1000000):Tf o n t (some ⟨[M (l.map λx=>[Y x]) 1,.int .i64 i],true⟩)=some (Y (Bq l i n),t.A0 o (some ⟨[AH l,Y (i+1:Nat)],true⟩)):=by
  have a: ∃p:List Int×Nat,(some (Bw.mk [AH l,Y i] true))=some ⟨[AH p.1,Y p.2],true⟩/\p.2<1000000/\p.1.length<=140737488355328/\n<=1000000:=⟨(l,i),rfl,h⟩;unfold Tf;rw[dif_pos a];have this:=a.choose_spec.1;generalize a.choose=p at this⊢;obtain⟨c,b⟩:=p;simp only[GY,Bw.mk.injEq,OW,and_true,y7,uT,Value.int.injEq,true_and]at this;obtain⟨rfl,d⟩:=this;have:i=b:=by omega
  rw[this]
noncomputable def EM:DB U:= .B8 49 (Nat×Int) (λx=>[.pointer (some ⟨x.1,0,none⟩),Y x.2]) (λx t=>Tf x.1 x.2 t (t.W x.1)) λ⟨o,n⟩ t r g h a7 e=>by
 simp only[Tf]at h;split at h
 ·next f=>obtain⟨a,b,c,d⟩:=f.choose_spec;cases h;exact a53 b c d a e
 ·cases h
@[simp] theorem aMG:EM.f=49:=rfl
@[simp] theorem aML:EM.fn [.pointer (some ⟨o,0,none⟩),.int .i64 n] t=Tf o n t (t.W o):=DB.BD (x:=(o,n)) λ⟨b,c⟩ a=>by simp at a⊢;omega
theorem aFv(d:n<=1000000):AL U 19 [Y x,Y n] (Y (I4 x n)):=by
 refine BG (Ak (an:=⟨[],[]⟩) aFx (by kernel_rfl) (by simp[VL]) ?_);by_cases c:n<1
 ·rw[lz c];simp[VL,YG,c]
 ·have g:=Int.tmod_lt_of_pos x (show 0<n by omega);have h:=Int.lt_tmod_of_pos x (show 0<n by omega);have b: ¬n=0:=(by omega);have i:1<=n:=(by omega);have w:IntKind.i64.wrap (x.tmod n+n)=x.tmod n+n:=Ah (by omega) (by omega);by_cases a:x.tmod n<0
  ·have e:I4 x n=x.tmod n+n:=(by unfold I4;rw[if_neg c,if_pos a]);rw[e];simp[VL,YG,c,b,a,w]
  ·have e:I4 x n=x.tmod n:=(by unfold I4;rw[if_neg c,if_neg a]);rw[e];simp[VL,YG,c,b,a]
noncomputable def hf:AK U:= .B8 19 (Int×Int) (λx=>x.2<=1000000) (λx=>[Y x.1,Y x.2]) (λx=>Y (I4 x.1 x.2)) λ_ h=>aFv h
@[simp] theorem aI9:hf.f=19:=rfl
@[simp] theorem aKb(h:n<=1000000):hf.fn [Y x,Y n]=some (Y (I4 x n)):=AK.BD (x:=(x,n)) h λ⟨b,c⟩ a=>by simpa using a
theorem aFX{l:List Dj}:(l.map Bd).flatten.length=l.length*7:=by rw[JQ (z:=7) λr a=>by obtain⟨x,_,rfl⟩:=CP.1 a;rfl,Eb]
def Db(n:Nat)(a b c:Int):Dj:=⟨Eu 110 n,a,b,c,C9 0 1⟩
theorem rT:Fl 0 1:=by unfold Fl;omega
theorem a3K{a c:Nat}{i j k m n o:Value}(p:t.W a=some ⟨[i,j,k,AQ c ds.length 7,m,n,o],true⟩)(q:t.W c=some ⟨(ds.map Bd).flatten,true⟩)(r:c≠a)(z:ds.length<1000){e f g:Int}
 (s: ∀d h,t.next<=h->t.next<=d.next->d.W a=some ⟨[i,j,k,AQ h (ds++[Db ds.length e f g]).length 7,m,n,o],true⟩->d.W h=some ⟨((ds++[Db ds.length e f g]).map Bd).flatten,true⟩->(∀b,b<t.next->b≠a->b≠c->d.W b=t.W b)->a7 (Y ds.length) d):
 Bv U 108 [.pointer (some ⟨a,0,none⟩),Y e,Y f,Y g] t a7:=by
 refine Ak (an:=⟨[GB,Nl],[]⟩) xX (by kernel_rfl) (by simp[dC]) ?_;have B:=F p;have D:=F q;have u:GB.fn [.int .u8 110,Y ds.length]=some (.string (Eu 110 ds.length)):=cC (C:=110) rfl ⟨by decide,by omega⟩;have E:=rT;have v:=aFX (l:=ds);have G:a≠c:=r.symm;have w:(ds.length+1)*96<=140737488355328/\ds.length<=9223372036854775806:=by omega
 simp(disch:=first|omega|simp only[AD];omega)[dC,uH,p,q,u,v,w,BO];refine s _ (t.next+13) (by omega) (by simp) ?_ ?_ ?_
 ·rw[AT (by simp;omega)];simp
 ·rw[A3 (by omega),AT (by simp),DV (by omega)];simp[Bd,Db]
 ·intro b hb x y;rw[A3 x,A3 (by omega),A3 y,A3 (by omega),V.AU]
end Go.Proofs.YtmmkkggfmigppaaGreat
