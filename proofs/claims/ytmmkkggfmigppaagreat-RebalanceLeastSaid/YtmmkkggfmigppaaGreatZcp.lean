/- A part of the proof. -/
import Derived.Test.YtmmkkggfmigppaaGreatZco
set_option linter.all false
set_option maxRecDepth 8000
set_option maxHeartbeats 16000000
namespace Go.Proofs.YtmmkkggfmigppaaGreat
open Go Go.DI Go.Big
variable{x y:Int}{args:List Value}{f:Nat}{r:Value}{a b:List Int}{n:Bool}{l:List Ac}
theorem lv(a:0<=x)(g:x<4294967296):IntKind.u32.wrap x=x:=by show x%4294967296=x;omega
theorem k1(a:0<=x)(g:x<18446744073709551616):IntKind.u64.wrap x=x:=by show x%18446744073709551616=x;omega
theorem hC:IntKind.i64.wrap 0=0:=by decide
theorem iz:IntKind.i64.wrap 1=1:=by decide
theorem nG:IntKind.i64.wrap 2=2:=by decide
theorem kl:IntKind.i64.wrap (-1)= -1:=by decide
theorem ng:IntKind.u64.wrap 0=0:=by decide
theorem kk:IntKind.u64.wrap 1=1:=by decide
theorem l2:IntKind.u32.wrap 0=0:=by decide
attribute [local simp] hC iz nG kl ng kk l2
theorem nh: ∀r∈[[Br x]],r.length=1/\ ∀v∈r,Co v=true:= λr a=>by simp at a;subst a;exact⟨rfl,λv b=>by simp at b;subst b;rfl⟩
theorem aEu(a:x≠0):AL U 248 [AP [x]] (Y 1):=by refine BG (Ak (an:=⟨[],[]⟩) u6 (by kernel_rfl) (by simp[aC]) ?_);simp[aC,xb];refine BU (an:=⟨[],[]⟩) λc d=> ?_;simp[u0,a]
noncomputable def Lp:AK U:= .B8 248 Int (λx=>x≠0) (λx=>[AP [x]]) (λ_=>Y 1) λ_ h=>aEu h
@[simp] theorem aOq:Lp.f=248:=rfl
@[simp] theorem aHQ(h:x≠0):Lp.fn [M [[Br x]] 1]=some (Y 1):=AK.BD (x:=x) h λy a=>by simpa using a
theorem a1R(a:x≠0):AL U 271 [AP [x]] (.bool false):=by refine BG (Ak (an:=⟨[Lp],[]⟩) qj (by kernel_rfl) (by simp[YN]) ?_);simp(disch:=omega)[YN,oC]
noncomputable def TA:AK U:= .B8 271 Int (λx=>x≠0) (λx=>[AP [x]]) (λ_=> .bool false) λ_ h=>a1R h
@[simp] theorem aJY:TA.f=271:=rfl
@[simp] theorem aHp(h:x≠0):TA.fn [M [[Br x]] 1]=some (.bool false):=AK.BD (x:=x) h λy a=>by simpa using a
theorem aDS(a:x≠0):AL U 253 [AP [x]] (AP [x]):=by refine BG (Ak (an:=⟨[Lp],[]⟩) oQ (by kernel_rfl) (by simp[eP]) ?_);simp(disch:=omega)[eP,zI];exact JG (n:=8) (b5:=[[Br x]]) (w:=true) (by simp(disch:=first|omega|simp only[DI.A2];omega)[-H,-E,-I,-G,-List.map_map]) rfl nh
noncomputable def OV:AK U:= .B8 253 Int (λx=>x≠0) (λx=>[AP [x]]) (λx=>AP [x]) λ_ h=>aDS h
@[simp] theorem aOI:OV.f=253:=rfl
@[simp] theorem aHD(h:x≠0):OV.fn [M [[Br x]] 1]=some (AP [x]):=AK.BD (x:=x) h λy a=>by simpa using a
theorem aAW(f:x≠0)(g:y≠0):AL U 222 [AP [x],AP [y]] (Y (if x<y then-1 else if x>y then 1 else 0)):=by
 refine BG (Ak (an:=⟨[Lp],[]⟩) tR (by kernel_rfl) (by simp[bb]) ?_);simp(disch:=omega)[bb,x0];refine BU (an:=⟨[Lp],[]⟩) λe d=> ?_;by_cases a:x<y
 ·simp[Xa,Re,a]
 by_cases b:x>y
 ·simp[Xa,Re,a,b]
 simp[Xa,Re,a,b];refine d _ _ (BU (an:=⟨[Lp],[]⟩) λe d=> ?_);simp[Xa,Re,Re,a,b]
noncomputable def Yv:AK U:= .B8 222 (Int×Int) (λx=>x.1≠0/\x.2≠0) (λx=>[AP [x.1],AP [x.2]]) (λx=>Y (if x.1<x.2 then-1 else if x.1>x.2 then 1 else 0)) λ_ h=>aAW h.1 h.2
@[simp] theorem aMr:Yv.f=222:=rfl
@[simp] theorem aHl(h:x≠0/\y≠0):Yv.fn [M [[Br x]] 1,M [[Br y]] 1]=some (Y (if x<y then-1 else if x>y then 1 else 0)):=AK.BD (x:=(x,y)) h λ⟨a,b⟩ c=>by simpa using c
theorem aAO:AL U 217 [.int .u64 0] (AP []):=Ch (by kernel_rfl)
noncomputable def jE:AK U:= .B8 217 Unit (λ_=>True) (λ_=>[.int .u64 0]) (λ_=>AP []) λ_ _=>aAO
@[simp] theorem aJt:jE.f=217:=rfl
@[simp] theorem aJW:jE.fn [.int .u64 0]=some (AP []):=AK.BD (x:=()) trivial λ_ _=>rfl
section
variable {z:Int} (g:2<=z) (o:z<200)
include g o
theorem a2e:AL U 278 [AP [z],.int .u32 1] (.tuple #[AP [z],.int .u32 0]):=by
 have i:z≠0:=by omega
 have c:IntKind.u64.wrap z=z:=k1 (by omega) (by omega);have d:IntKind.u32.wrap z=z:=lv (by omega) (by omega);have e:z.tdiv 1=z:=by simp
 have f:z.tmod 1=0:=by simp
 refine BG (Ak (an:=⟨[Lp],[]⟩) oj (by kernel_rfl) (by simp[a9]) ?_);simp(disch:=omega)[a9,tr];refine BU (an:=⟨[Lp],[]⟩) λg b=> ?_;have h:max (z%2^IntKind.u64.bits) 0=z:=by show max (z%18446744073709551616) 0=z;omega
 simp(disch:=first|omega|simp only[DI.A2];omega)[lk,aU,c,d,h,e,f,-H,-E,-I,-G,-List.map_map];refine b _ _ (BU (an:=⟨[Lp],[]⟩) λg b=> ?_);simp(disch:=omega)[lk,aU,aU,RF,Na];simp(disch:=first|omega|simp only[DI.A2];omega)[a1I]
theorem a4k:AL U 273 [AP [1],AP [z]] (.tuple #[.slice none 0 0,AP [1]]):=by
 have a:z≠0:=by omega
 have c:(1:Int)<z:=by omega
 have b:(1:Int)≠0:=by decide
 refine BG (Ak (an:=⟨[Yv,OV],[]⟩) mo (by kernel_rfl) (by simp[Rg]) ?_);simp(disch:=omega)[Rg,kE,c]
noncomputable def lC:AK U:= .B8 278 Unit (λ_=>True) (λ_=>[AP [z],.int .u32 1]) (λ_=> .tuple #[AP [z],.int .u32 0]) λ_ _=>a2e g o
@[simp] theorem aJm:(lC g o).f=278:=rfl
@[simp] theorem aHs:(lC g o).fn [M [[Br z]] 1,.int .u32 1]=some (.tuple #[AP [z],.int .u32 0]):=AK.BD (x:=()) trivial λ_ _=>rfl
theorem a1b:AL U 273 [AP [z],AP [1]] (.tuple #[AP [z],AP []]):=by
 have b:z≠0:=by omega
 have c: ¬z<1:=by omega
 have a:z>1:=by omega
 have d:(1:Int)<z:=by omega
 have e:(1:Int)≠0:=by decide
 refine BG (Ak (an:=⟨[Yv,lC g o,jE],[]⟩) mo (by kernel_rfl) (by simp[Rg]) ?_);simp(disch:=omega)[Rg,kE,qJ,c,a]
noncomputable def R6:AK U:= .B8 273 Bool (λ_=>True) (λb=>if b then[AP [1],AP [z]]else[AP [z],AP [1]]) (λb=>if b then .tuple #[.slice none 0 0,AP [1]]else .tuple #[AP [z],AP []]) λb _=>by
 cases b
 ·exact a1b g o
 ·exact a4k g o
@[simp] theorem aGO:(R6 g o).f=273:=rfl
theorem a6f:(R6 g o).fn [M [[Br 1]] 1,M [[Br z]] 1]=some (.tuple #[.slice none 0 0,AP [1]]):=AK.BD (x:=true) trivial λb hb=>by
 cases b
 ·simp at hb;omega
 ·rfl
theorem a4a:(R6 g o).fn [M [[Br z]] 1,M [[Br 1]] 1]=some (.tuple #[AP [z],AP []]):=AK.BD (x:=false) trivial λb hb=>by
 cases b
 ·rfl
 ·simp at hb;omega
theorem a5z:AL U 251 [AP [1],AP [z]] (.tuple #[AP [1],Y 0]):=by
 have f:z≠0:=by omega
 have h:(1:Int)≠0:=by decide
 have d:=a6f g o;have e:=a4a g o;refine BG (Ak (an:=⟨[TA,OV,R6 g o],[]⟩) rB (by kernel_rfl) (by simp[e3]) ?_);simp(disch:=omega)[e3,sf];refine BU (an:=⟨[TA,OV,R6 g o],[]⟩) λc a=> ?_;simp[c9,Wh,d];refine a _ _ (BU (an:=⟨[TA,OV,R6 g o],[]⟩) λc a=> ?_);simp[c9,Wh,e];refine a _ _ (BU (an:=⟨[TA,OV,R6 g o],[]⟩) λc a=> ?_);simp[c9,Wh,Wh]
omit g o in
theorem aFK: ∀(n:Nat) (v k:Int),0<=v->v<2^n->0<=k->k+n<=1000-> ∃e,k<=e/\e<=k+n/\(0<v->k<e)/\ ∀(f:A6) (t:V) (Q:BM->A6->V->Prop),f 5=Br v->f 4=Y k->
 (∀p,p 4=Y e->Q (.Ai 0) p t)->BY U (.loop Vn) f t Q:=by
 intro n;induction n with
 | zero=>intro v k s g _ _;have m:v=0:=(by simp at g;omega);subst m;refine⟨k,HB _,by omega,λh=>absurd h (by decide),λf t Q i j l=> ?_⟩;refine BU (an:=⟨[],[]⟩) λr o=> ?_;simp[Vn,i];exact l _ (by simp[j])
 | succ n u=>
   intro v k s g y z;by_cases m:v=0
   ·subst m;refine⟨k,HB _,by omega,λh=>absurd h (by decide),λf t Q i j l=> ?_⟩;refine BU (an:=⟨[],[]⟩) λr o=> ?_;simp[Vn,i];exact l _ (by simp[j])
   ·have w:0<v:=(by omega);have A:(2:Int)^(n+1)=2*2^n:=(by rw[Int.pow_succ];omega);obtain⟨e,a,b,c,d⟩:=u (v/2) (k+1) (by omega) (by omega) (by omega) (by omega);refine⟨e,by omega,by omega,λ_=>by omega,λf t Q i j l=> ?_⟩;refine BU (an:=⟨[],[]⟩) λr o=> ?_;have x:IntKind.i64.wrap (k+1)=k+1:=Ah (by omega) (by omega);simp[Vn,i,j,w,x];refine o _ _ (d _ _ _ ?_ (by simp) l);rw[aFL,if_pos rfl,Int.fdiv_eq_ediv_of_nonneg _ (by decide)]
theorem ae: ∃b:Int,1<=b/\b<=8/\AL U 216 [AP [z]] (Y b):=by
 have g:z≠0:=by omega
 obtain⟨e,a,b,c,d⟩:=aFK 8 z 0 (by omega) (by show z<256;omega) (by omega) (by omega);refine⟨e,by have:=c (by omega);omega,by omega,?_⟩;refine BG (Ak (an:=⟨[Lp],[]⟩) y5 (by kernel_rfl) (by simp[dm]) ?_);simp(disch:=first|omega|simp only[DI.A2];omega)[dm,u9];refine d _ _ _ (by simp) (by simp) λi f=> ?_;simp[sN,f]
omit g o in
theorem a1M:AL U 216 [AP [1]] (Y 1):=Ch (by kernel_rfl)
omit g o in
noncomputable def R4(b:Int)(hb:AL U 216 [AP [z]] (Y b)):AK U:= .B8 216 Bool (λ_=>True) (λc=>if c then[AP [1]]else[AP [z]]) (λc=>if c then Y 1 else Y b) λc _=>by
 cases c
 ·exact hb
 ·exact a1M
omit g o in
@[simp] theorem aIy{b:Int}{hb:AL U 216 [AP [z]] (Y b)}:(R4 b hb).f=216:=rfl
theorem bU{b:Int}{hb:AL U 216 [AP [z]] (Y b)}:(R4 b hb).fn [M [[Br 1]] 1]=some (Y 1):=AK.BD (x:=true) trivial λc a=>by
 cases c
 ·simp at a;omega
 ·rfl
theorem fl{b:Int}{hb:AL U 216 [AP [z]] (Y b)}:(R4 b hb).fn [M [[Br z]] 1]=some (Y b):=AK.BD (x:=false) trivial λc a=>by
 cases c
 ·rfl
 ·simp at a;omega
noncomputable def kI:AK U:= .B8 251 Unit (λ_=>True) (λ_=>[AP [1],AP [z]]) (λ_=> .tuple #[AP [1],Y 0]) λ_ _=>a5z g o
@[simp] theorem aK7:(kI g o).f=251:=rfl
@[simp] theorem aGD:(kI g o).fn [M [[Br 1]] 1,M [[Br z]] 1]=some (.tuple #[AP [1],Y 0]):=AK.BD (x:=()) trivial λ_ _=>rfl
theorem a5s:AL U 219 [.bool false,AP [1],AP [z]] (.tuple #[B5 ⟨false,[1],[z]⟩,Y 0]):=by
 have e:z≠0:=by omega
 have f:(1:Int)≠0:=by decide
 obtain⟨b,h,i,hb⟩:=ae g o;have a:=bU g o (hb:=hb);have d:=fl g o (hb:=hb);have c: ¬b>4096:=by omega
 have j: ¬(4096:Int)<b:=by omega
 refine BG (Ak (an:=⟨[kI g o,R4 b hb,OV],[]⟩) yX (by kernel_rfl) (by simp[YU]) ?_);simp(disch:=first|omega|simp only[DI.A2];omega)[YU,rP,a,d,c,BO,-H,-E,-I,-G,-List.map_map]
theorem aCR:AL U 221 [B5 ⟨false,[1],[z]⟩] (.bool true):=by
 obtain⟨b,f,h,hb⟩:=ae g o;have a:=bU g o (hb:=hb);have d:=fl g o (hb:=hb);have c:0<b:=by omega
 have e:b<=4096:=by omega
 refine BG (Ak (an:=⟨[R4 b hb],[]⟩) xv (by kernel_rfl) (by simp[et]) ?_);simp[et,rH,a,d,c,e,BO]
noncomputable def hU:AK U:= .B8 219 Unit (λ_=>True) (λ_=>[.bool false,AP [1],AP [z]]) (λ_=> .tuple #[B5 ⟨false,[1],[z]⟩,Y 0]) λ_ _=>a5s g o
@[simp] theorem aHO:(hU g o).f=219:=rfl
@[simp] theorem aNH:(hU g o).fn [.bool false,M [[Br 1]] 1,M [[Br z]] 1]=some (.tuple #[B5 ⟨false,[1],[z]⟩,Y 0]):=AK.BD (x:=()) trivial λ_ _=>rfl
noncomputable def hd:AK U:= .B8 221 Unit (λ_=>True) (λ_=>[B5 ⟨false,[1],[z]⟩]) (λ_=> .bool true) λ_ _=>aCR g o
@[simp] theorem aIH:(hd g o).f=221:=rfl
@[simp] theorem aLe:(hd g o).fn [.agg #[.bool false,M [[Br 1]] 1,M [[Br z]] 1]]=some (.bool true):=AK.BD (x:=()) trivial λ_ _=>rfl
theorem aFD:AL U 215 [B5 ⟨false,[1],[z]⟩] (.tuple #[B5 ⟨false,[1],[z]⟩,Y 0]):=by refine BG (Ak (an:=⟨[hd g o,hU g o],[]⟩) pb (by kernel_rfl) (by simp[ah]) ?_);simp[ah,yg,BO]
noncomputable def jk:AK U:= .B8 215 Unit (λ_=>True) (λ_=>[B5 ⟨false,[1],[z]⟩]) (λ_=> .tuple #[B5 ⟨false,[1],[z]⟩,Y 0]) λ_ _=>aFD g o
@[simp] theorem aH7:(jk g o).f=215:=rfl
@[simp] theorem aOn:(jk g o).fn [.agg #[.bool false,M [[Br 1]] 1,M [[Br z]] 1]]=some (.tuple #[B5 ⟨false,[1],[z]⟩,Y 0]):=AK.BD (x:=()) trivial λ_ _=>rfl
theorem aCq:AL U 170 [B5 ⟨false,[1],[z]⟩] (.bool true):=by
 obtain⟨b,e,f,hb⟩:=ae g o;have a:=bU g o (hb:=hb);have d:=fl g o (hb:=hb);have c:b<=32:=by omega
 refine BG (Ak (an:=⟨[jk g o,R4 b hb],[]⟩) v5 (by kernel_rfl) (by simp[bk]) ?_);simp[bk,xy,a,d,c,BO]
theorem rr:AL U 171 [B5 ⟨false,[1],[z]⟩] (.bool true):=by obtain⟨b,c,d,hb⟩:=ae g o;have a:=bU g o (hb:=hb);refine BG (Ak (an:=⟨[R4 b hb],[]⟩) uM (by kernel_rfl) (by simp[ZQ]) ?_);simp[ZQ,rk,a,BO]
end
attribute [local simp] hC iz nG kl ng kk l2
abbrev EW:Value:= .slice none 0 0
noncomputable def Aw(h:AL U f args r):AK U:= .B8 f Unit (λ_=>True) (λ_=>args) (λ_=>r) λ_ _=>h
@[simp] theorem aGt{h:AL U f args r}:(Aw h).f=f:=rfl
theorem Dy(h:AL U f args r):(Aw h).fn args=some r:=AK.BD (x:=()) trivial λ_ _=>rfl
theorem N4{a:List Value}(h:AL U f args r)(b:args≠a):(Aw h).fn a=none:=by unfold Aw AK.B8;simp only;rw[dif_neg];rintro⟨_,_,e⟩;exact b e
noncomputable def Js(a b:AK U)(h:b.f=a.f):AK U:=⟨a.f,λargs=>match a.fn args with
 |some r=>some r
 | none=>b.fn args,λargs r c=>by
   cases d:a.fn args with
   |some e=>rw[d]at c;cases c;exact a.ok args r d
   |none=>rw[d]at c;have:=b.ok args r c;rw[h]at this;exact this⟩
@[simp] theorem aNh{a b:AK U}{h:b.f=a.f}:(Js a b h).f=a.f:=rfl
theorem O1{a b:AK U}{h:b.f=a.f}(c:a.fn args=some r):(Js a b h).fn args=some r:=by simp only[Js,c]
theorem MH{a b:AK U}{h:b.f=a.f}(c:a.fn args=none)(hb:b.fn args=some r):(Js a b h).fn args=some r:=by simp only[Js,c,hb]
theorem a64(a:x≠0):AL U 194 [AP [x]] (AP [x]):=by refine BG (Ak (an:=⟨[],[]⟩) me (by kernel_rfl) (by simp[T8]) ?_);simp[T8,h7];refine BU (an:=⟨[],[]⟩) λc d=> ?_;simp[a5,TQ,TQ,a];exact JG (n:=8) (b5:=[[Br x]]) (w:=true) (by simp) rfl nh
theorem aEP(c:x≠0):AL U 194 [AP [x,0]] (AP [x]):=by refine BG (Ak (an:=⟨[],[]⟩) me (by kernel_rfl) (by simp[T8]) ?_);simp[T8,h7];refine BU (an:=⟨[],[]⟩) λd b=> ?_;simp[a5,TQ];refine b _ _ (BU (an:=⟨[],[]⟩) λd b=> ?_);simp[a5,TQ,TQ,c];exact JG (n:=8) (b5:=[[Br x]]) (w:=true) (by simp) rfl nh
noncomputable def Hm:AK U:= .B8 194 Int (λx=>x≠0) (λx=>[AP [x]]) (λx=>AP [x]) λ_ h=>a64 h
@[simp] theorem aQ8:Hm.f=194:=rfl
@[simp] theorem aEw(h:x≠0):Hm.fn [M [[Br x]] 1]=some (AP [x]):=AK.BD (x:=x) h λy a=>by simpa using a
noncomputable def mh:AK U:= .B8 194 Int (λx=>x≠0) (λx=>[AP [x,0]]) (λx=>AP [x]) λ_ h=>aEP h
@[simp] theorem aN6:mh.f=194:=rfl
@[simp] theorem aGv(h:x≠0):mh.fn [M [[Br x],[Br 0]] 1]=some (AP [x]):=AK.BD (x:=x) h λy a=>by simpa using a
theorem a5B(a:x≠0):AL U 246 [AP [x]] (.bool false):=by refine BG (Ak (an:=⟨[Hm],[]⟩) zf (by kernel_rfl) (by simp[Z2]) ?_);simp(disch:=omega)[Z2,qy]
noncomputable def Qm:AK U:= .B8 246 Int (λx=>x≠0) (λx=>[AP [x]]) (λ_=> .bool false) λ_ h=>a5B h
@[simp] theorem aI5:Qm.f=246:=rfl
@[simp] theorem aGA(h:x≠0):Qm.fn [M [[Br x]] 1]=some (.bool false):=AK.BD (x:=x) h λy a=>by simpa using a
theorem a6q(f:x≠0)(g:y≠0):AL U 241 [AP [x],AP [y]] (Y (if x<y then-1 else if x>y then 1 else 0)):=by
 refine BG (Ak (an:=⟨[Hm],[]⟩) xq (by kernel_rfl) (by simp[Yd]) ?_);simp(disch:=omega)[Yd,th];refine BU (an:=⟨[Hm],[]⟩) λe d=> ?_;by_cases a:x<y
 ·simp[Tp,Sc,a]
 by_cases b:x>y
 ·simp[Tp,Sc,a,b]
 simp[Tp,Sc,a,b];refine d _ _ (BU (an:=⟨[Hm],[]⟩) λe d=> ?_);simp[Tp,Sc,Sc,a,b]
noncomputable def Sq:AK U:= .B8 241 (Int×Int) (λx=>x.1≠0/\x.2≠0) (λx=>[AP [x.1],AP [x.2]]) (λx=>Y (if x.1<x.2 then-1 else if x.1>x.2 then 1 else 0)) λ_ h=>a6q h.1 h.2
@[simp] theorem aIs:Sq.f=241:=rfl
@[simp] theorem aJE(h:x≠0/\y≠0):Sq.fn [M [[Br x]] 1,M [[Br y]] 1]=some (Y (if x<y then-1 else if x>y then 1 else 0)):=AK.BD (x:=(x,y)) h λ⟨a,b⟩ c=>by simpa using c
theorem dq:AL U 168 [.int .u64 0] EW:=Ch (by kernel_rfl)
theorem aAB(g:0<x)(o:x<4294967296):AL U 168 [.int .u64 x] (AP [x]):=by
 have c:x≠0:=by omega
 have a:IntKind.u32.wrap x=x:=lv (by omega) (by omega);have b:x.fdiv 4294967296=0:=by rw[Int.fdiv_eq_ediv_of_nonneg _ (by decide)];omega
 refine BG (Ak (an:=⟨[mh],[]⟩) y8 (by kernel_rfl) (by simp[Ys]) ?_);simp(disch:=first|omega|simp only[DI.A2];omega)[Ys,qE,a,b,RF,Na]
noncomputable def h8:AK U:= .B8 168 Int (λx=>0<x/\x<4294967296) (λx=>[.int .u64 x]) (λx=>AP [x]) λ_ h=>aAB h.1 h.2
@[simp] theorem aLF:h8.f=168:=rfl
@[simp] theorem aOW(h:0<x/\x<4294967296):h8.fn [.int .u64 x]=some (AP [x]):=AK.BD (x:=x) h λy a=>by simpa using a
section
variable {z:Int} (g:2<=z) (o:z<200)
include g o
theorem nT:AL U 247 [AP [1],AP [z]] (.tuple #[EW,AP [1]]):=by
 have a:z≠0:=by omega
 have c:(1:Int)<z:=by omega
 have b:(1:Int)≠0:=by decide
 refine BG (Ak (an:=⟨[Sq,Hm],[]⟩) jI (by kernel_rfl) (by simp[Ta]) ?_);simp(disch:=omega)[Ta,lO,c]
theorem zd:AL U 247 [AP [z],AP [1]] (.tuple #[AP [z],EW]):=by
 have l:z≠0:=by omega
 have c: ¬z<1:=by omega
 have d:z>1:=by omega
 have m:(1:Int)<z:=by omega
 have n:(1:Int)≠0:=by decide
 have e:IntKind.u64.wrap z=z:=k1 (by omega) (by omega);have f:IntKind.u32.wrap z=z:=lv (by omega) (by omega);have g:max (z%2^IntKind.u64.bits) 0=z:=by show max (z%18446744073709551616) 0=z;omega
 have h:z.tdiv 1=z:=by simp
 have i:z.tmod 1=0:=by simp
 have j:=Dy dq;refine BG (Ak (an:=⟨[Sq,Hm,Aw dq],[]⟩) jI (by kernel_rfl) (by simp[Ta]) ?_);simp(disch:=first|omega|simp only[DI.A2];omega)[Ta,lO,yp,c,d,-H,-E,-I,-G,-List.map_map];refine BU (an:=⟨[Sq,Hm,Aw dq],[]⟩) λk b=> ?_;simp(disch:=first|omega|simp only[DI.A2];omega)[lf,e,f,g,h,i,-H,-E,-I,-G,-List.map_map];refine b _ _ (BU (an:=⟨[Sq,Hm,Aw dq],[]⟩) λk b=> ?_);simp(disch:=first|omega|simp only[DI.A2];omega)[lf,ic,ic,j,RF,Na,-H,-E,-I,-G,-List.map_map]
theorem a5U:([AP [1],AP [z]]:List Value)≠[AP [z],AP [1]]:= λh=>by simp at h;omega
noncomputable def QS:AK U:=Js (Aw (nT g o)) (Aw (zd g o)) rfl
@[simp] theorem aPj:(QS g o).f=247:=rfl
theorem a0k:(QS g o).fn [M [[Br 1]] 1,M [[Br z]] 1]=some (.tuple #[EW,AP [1]]):=O1 (Dy (nT g o))
theorem a4i:(QS g o).fn [M [[Br z]] 1,M [[Br 1]] 1]=some (.tuple #[AP [z],EW]):=MH (N4 (nT g o) (a5U g o)) (Dy (zd g o))
theorem w4:AL U 213 [AP [1],AP [z]] (.tuple #[AP [1],Y 0]):=by
 have f:z≠0:=by omega
 have h:(1:Int)≠0:=by decide
 have d:=a0k g o;have e:=a4i g o;refine BG (Ak (an:=⟨[Qm,Hm,QS g o],[]⟩) xC (by kernel_rfl) (by simp[aw]) ?_);simp(disch:=omega)[aw,rE];refine BU (an:=⟨[Qm,Hm,QS g o],[]⟩) λc a=> ?_;simp[dO,Vr,d];refine a _ _ (BU (an:=⟨[Qm,Hm,QS g o],[]⟩) λc a=> ?_);simp[dO,Vr,e];refine a _ _ (BU (an:=⟨[Qm,Hm,QS g o],[]⟩) λc a=> ?_);simp[dO,Vr,Vr]
noncomputable def hs:AK U:=Aw (w4 g o)
@[simp] theorem aGK:(hs g o).f=213:=rfl
@[simp] theorem aLI:(hs g o).fn [M [[Br 1]] 1,M [[Br z]] 1]=some (.tuple #[AP [1],Y 0]):=Dy (w4 g o)
theorem q1:AL U 167 [.bool false,AP [1],AP [z]] (B5 ⟨false,[1],[z]⟩):=by
 have b:z≠0:=by omega
 have a:(1:Int)≠0:=by decide
 refine BG (Ak (an:=⟨[hs g o,Hm],[]⟩) xQ (by kernel_rfl) (by simp[fA]) ?_);simp(disch:=first|omega|simp only[DI.A2];omega)[fA,s4,a,BO,-H,-E,-I,-G,-List.map_map]
theorem rV:AL U 138 [B5 ⟨false,[1],[z]⟩] (.bool true):=by
 have a:z≠0:=by omega
 have b:(1:Int)≠0:=by decide
 refine BG (Ak (an:=⟨[Hm],[]⟩) xD (by kernel_rfl) (by simp[Xz]) ?_);simp(disch:=first|omega|simp only[DI.A2];omega)[Xz,pP,BO]
noncomputable def kP:AK U:=Aw (rV g o)
@[simp] theorem aMP:(kP g o).f=138:=rfl
@[simp] theorem aMf:(kP g o).fn [.agg #[.bool false,M [[Br 1]] 1,M [[Br z]] 1]]=some (.bool true):=Dy (rV g o)
noncomputable def bS:AK U:=Aw (q1 g o)
@[simp] theorem aJe:(bS g o).f=167:=rfl
@[simp] theorem aMS:(bS g o).fn [.bool false,M [[Br 1]] 1,M [[Br z]] 1]=some (B5 ⟨false,[1],[z]⟩):=Dy (q1 g o)
theorem vB:AL U 196 [B5 ⟨false,[1],[z]⟩] (.tuple #[B5 ⟨false,[1],[z]⟩,Y 0]):=by refine BG (Ak (an:=⟨[kP g o,bS g o],[]⟩) u5 (by kernel_rfl) (by simp[cW]) ?_);simp[cW,wJ,BO]
noncomputable def nO:AK U:=Aw (vB g o)
@[simp] theorem aKL:(nO g o).f=196:=rfl
@[simp] theorem aH0:(nO g o).fn [.agg #[.bool false,M [[Br 1]] 1,M [[Br z]] 1]]=some (.tuple #[B5 ⟨false,[1],[z]⟩,Y 0]):=Dy (vB g o)
theorem Wa:AL U 140 [B5 ⟨false,[1],[z]⟩] (.bool true):=by refine BG (Ak (an:=⟨[nO g o],[]⟩) r1 (by kernel_rfl) (by simp[bE]) ?_);simp[bE,zj,BO]
theorem qz:AL U 169 [Y z] (.int .u64 z):=by
 have a:IntKind.u64.wrap z=z:=k1 (by omega) (by omega);have c: ¬z<0:=by omega
 refine BG (Ak (an:=⟨[],[]⟩) qf (by kernel_rfl) (by simp[Xu]) ?_);simp[Xu,uz,a,c]
omit g o in
theorem hN:AL U 169 [Y 1] (.int .u64 1):=Ch (by kernel_rfl)
noncomputable def ey:AK U:=Js (Aw hN) (Aw (qz g o)) rfl
@[simp] theorem aJL:(ey g o).f=169:=rfl
@[simp] theorem aIE:(ey g o).fn [Y 1]=some (.int .u64 1):=O1 (Dy hN)
@[simp] theorem aH3:(ey g o).fn [Y z]=some (.int .u64 z):=MH (N4 hN (by simp;omega)) (Dy (qz g o))
theorem zQ:AL U 107 [Y 1,Y z] (.tuple #[B5 ⟨false,[1],[z]⟩,Y 0]):=by
 have a:z≠0:=by omega
 have c: ¬z<0:=by omega
 have b:(0:Int)<1/\(1:Int)<4294967296:=by decide
 have d:0<z/\z<4294967296:=by omega
 refine BG (Ak (an:=⟨[ey g o,h8,bS g o],[]⟩) yl (by kernel_rfl) (by simp[eH]) ?_);simp(disch:=first|omega|simp only[DI.A2];omega)[eH,tO,a,c,BO]
noncomputable def gT:AK U:=Aw (zQ g o)
@[simp] theorem aN7:(gT g o).f=107:=rfl
@[simp] theorem aPI:(gT g o).fn [Y 1,Y z]=some (.tuple #[B5 ⟨false,[1],[z]⟩,Y 0]):=Dy (zQ g o)
theorem aC8:AL U 59 [Y 1,Y z] (B5 ⟨false,[1],[z]⟩):=by refine BG (Ak (an:=⟨[gT g o],[]⟩) oe (by kernel_rfl) (by simp[ev]) ?_);simp[ev,vb,BO]
end
attribute [local simp] hC iz nG kl ng kk l2
noncomputable def Vy:AK U:= .B8 140 Ac Ac.B1 (λx=>[B5 x]) (λx=> .bool x.AZ.small) λ_ a=>za a
@[simp] theorem aOm:Vy.f=140:=rfl
theorem a6J(h:(Ac.mk n a b).B1):Vy.fn [.agg #[.bool n,AP a,AP b]]=some (.bool (Ac.mk n a b).AZ.small):=AK.BD (x:=Ac.mk n a b) h λy c=>Pf c
theorem mY{n:Nat}(k: ∀x∈l,x.B1)(s:n<1000000):AL U 190 [DZ l,Y n] (.bool (decide (l.length=n)&&l.all λx=>x.AZ.small)):=by
 have O:(l.all λx=>x.AZ.small)=true:=BF.2 λ_ _=>rfl;refine BG (Ak (an:=⟨[Vy],[]⟩) uf (by kernel_rfl) (by simp[SU]) ?_);by_cases j:l.length=n
 ·have e:((l.length:Nat):Int)=(n:Int):=(by omega);simp(disch:=omega)[SU,Yb,e];refine CE (an:=⟨[Vy],[]⟩) (λi c t=>c 0=DZ l/\c 1=Y n/\c 5=Y i) n ?_ ?_ 0 _ _ (C0 _) ⟨by simp,by simp,by simp⟩
  ·rintro i c t u ⟨g,d,h⟩ v o;have w:l[i]?=some l[i]:=AS (by omega);have p:l[i].B1:=k _ (Dc _);have q:=BX (n:=i) (by omega);have r:(i:Int)<n:=(by omega);have f:Vy.fn [.agg #[.bool l[i].HY,AP l[i].a,AP l[i].b]]=some (.bool true):=a6J (n:=l[i].HY) (a:=l[i].a) (b:=l[i].b) p;simp(disch:=first|omega|simp only[DI.A2];omega)[XO,Pd,g,d,h,r,q,f,BO,-H,-E,-I,-G,-List.map_map];exact⟨by omega,o _ _ ⟨by simp[g],by simp[d],by simp⟩⟩
  ·rintro c t ⟨g,d,h⟩;simp[XO,Pd,d,h,Pd];simp[j];exact BF.1 O
 ·have e: ¬((l.length:Nat):Int)=(n:Int):=(by omega);simp[SU,Yb,Pd,e,j]
theorem vM:AL U 193 [Y 0] (.agg #[.bool false,EW,AP [1]]):=Ch (by kernel_rfl)
theorem md:AL U 194 [EW] EW:=Ch (by kernel_rfl)
theorem ir:AL U 246 [EW] (.bool false):=Ch (by kernel_rfl)
theorem dR:AL U 194 [AP [0]] EW:=Ch (by kernel_rfl)
theorem jC:AL U 241 [AP [1],EW] (Y 1):=Ch (by kernel_rfl)
theorem jd:AL U 240 [AP [1],AP [1]] (AP [1]):=Ch (by kernel_rfl)
theorem o1: ¬EW=M [[Br x]] 1:=by unfold M;simp
theorem aEL: ¬M [[Br x]] 1=EW:=by unfold M;simp
noncomputable def aq:AK U:=Js (Aw ir) Qm rfl
theorem a1y:aq.f=246:=rfl
theorem aB2:aq.fn [EW]=some (.bool false):=O1 (Dy ir)
theorem aCI(h:x≠0):aq.fn [M [[Br x]] 1]=some (.bool false):=MH (N4 ir (by simp[o1])) (aGA h)
noncomputable def dz:AK U:=Js (Aw md) Hm rfl
theorem a54:dz.f=194:=rfl
theorem a0Q:dz.fn [EW]=some EW:=O1 (Dy md)
theorem aDy(h:x≠0):dz.fn [M [[Br x]] 1]=some (AP [x]):=MH (N4 md (by simp[o1])) (aEw h)
section
variable {z:Int} (g:2<=z) (o:z<200)
include g o
theorem nF:AL U 268 [EW,AP [z]] EW:=by have f:(Aw dR).fn [M [[Br 0]] 1]=some EW:=Dy dR;refine BG (Ak (an:=⟨[Aw dR],[]⟩) zW (by kernel_rfl) (by simp[dY]) ?_);simp[dY,s6];refine BU (an:=⟨[Aw dR],[]⟩) λb c=> ?_;simp[vO,fy,fy,f,RF,Na]
theorem gw:AL U 260 [EW,AP [z]] (.tuple #[EW,Y 0]):=by
 have a:z≠0:=by omega
 have b:=aB2;have c:=aCI a;have a3:=a0Q;have a4:=aDy a;have d:(Aw (nF g o)).fn [EW,M [[Br z]] 1]=some EW:=Dy (nF g o);refine BG (Ak (an:=⟨[aq,dz,Aw (nF g o)],[]⟩) yJ (by kernel_rfl) (by simp[Y2]) ?_);simp[Y2,o7,b,c,a3,a4,d,a1y,a54]
theorem zV:AL U 240 [EW,AP [z]] EW:=by have a:(Aw (gw g o)).fn [EW,M [[Br z]] 1]=some (.tuple #[EW,Y 0]):=Dy (gw g o);refine BG (Ak (an:=⟨[Aw (gw g o)],[]⟩) rN (by kernel_rfl) (by simp[cy]) ?_);simp[cy,oX,a]
noncomputable def ch:AK U:=Js (Aw jd) (Aw (zV g o)) rfl
theorem a7K:(ch g o).f=240:=rfl
theorem aD3:(ch g o).fn [M [[Br 1]] 1,M [[Br 1]] 1]=some (AP [1]):=O1 (Dy jd)
theorem aBG:(ch g o).fn [EW,M [[Br z]] 1]=some EW:=MH (N4 jd (λh=>aEL (List.cons.inj h).1)) (Dy (zV g o))
theorem iO:AL U 195 [B5 ⟨false,[1],[z]⟩,.agg #[.bool false,EW,AP [1]]] (Y 1):=by have a:=aD3 g o;have b:=aBG g o;have a3:(Aw jC).fn [M [[Br 1]] 1,EW]=some (Y 1):=Dy jC;refine BG (Ak (an:=⟨[ch g o,Aw jC],[]⟩) om (by kernel_rfl) (by simp[Xw]) ?_);simp[Xw,pO,a,b,a3,a7K,BO]
theorem tG:AL U 139 [B5 ⟨false,[1],[z]⟩] (Y 1):=by have a:=Dy vM;have b:(Aw (iO g o)).fn [.agg #[.bool false,M [[Br 1]] 1,M [[Br z]] 1],.agg #[.bool false,EW,M [[Br 1]] 1]]=some (Y 1):=Dy (iO g o);refine BG (Ak (an:=⟨[Aw vM,Aw (iO g o)],[]⟩) uB (by kernel_rfl) (by simp[aG]) ?_);simp[aG,uF,a,b,BO]
theorem ob:([B5 ⟨false,[],[1]⟩]:List Value)≠[B5 ⟨false,[1],[z]⟩]:= λh=>by simp[BO]at h
noncomputable def HU:AK U:=Js (Aw (hM (x:=⟨false,[],[1]⟩) (by unfold Ac.B1;decide))) (Aw (rr g o)) rfl
theorem Ya:(HU g o).f=171:=rfl
theorem yN:(HU g o).fn [.agg #[.bool false,M [] 1,M [[Br 1]] 1]]=some (.bool false):=O1 (Dy (hM (x:=⟨false,[],[1]⟩) (by unfold Ac.B1;decide)))
theorem aBm:(HU g o).fn [.agg #[.bool false,M [[Br 1]] 1,M [[Br z]] 1]]=some (.bool true):=MH (N4 _ (ob g o)) (Dy (rr g o))
omit g o in
theorem XB{b:Bool}:AL U 226 [.bool b] (.bool b):=by refine BG (Ak (an:=⟨[],[]⟩) a4W (by kernel_rfl) (by simp[nH]) ?_);simp[nH,uN]
omit g o in
theorem K0:AL U 225 [M [[.bool true]] 1,.func (.func 226) #[] #[]] (.bool true):=by have f:(Aw (XB (b:=true))).fn [.bool true]=some (.bool true):=Dy XB;refine BG (Ak (an:=⟨[Aw (XB (b:=true))],[]⟩) a7I (by kernel_rfl) (by simp[gM]) ?_);simp[gM,oH];refine BU (an:=⟨[Aw (XB (b:=true))],[]⟩) λd c=> ?_;simp[m9,Y0,f];refine c _ _ (BU (an:=⟨[Aw (XB (b:=true))],[]⟩) λd c=> ?_);simp[m9,Y0,Y0]
def Tc(BP:ByteArray)(z:Int):F1:=⟨BP,[⟨false,[1],[1]⟩],[[⟨false,[],[1]⟩]],[⟨false,[1],[z]⟩]⟩
theorem vu{BP:ByteArray}:AL U 176 [Of (Tc BP z)] (.bool true):=by have n:=yN g o;have d:=aBm g o;have f:(Aw K0).fn [M [[.bool true]] 1,.func (.func 226) #[] #[]]=some (.bool true):=Dy K0;refine BG (Ak (an:=⟨[HU g o,Aw K0],[]⟩) a09 (by kernel_rfl) (by simp[lE]) ?_);simp[lE,oU,Cc,Tc,BO];refine BU (an:=⟨[HU g o,Aw K0],[]⟩) λp e=> ?_;simp[cL,eO];refine BU (an:=⟨[HU g o,Aw K0],[]⟩) λh b=> ?_;simp[XK,d,BO];refine BU (an:=⟨[HU g o,Aw K0],[]⟩) λL c=> ?_;simp[Vt,BO];refine c _ _ (BU (an:=⟨[HU g o,Aw K0],[]⟩) λi j=> ?_);simp[Vt];refine b _ _ (BU (an:=⟨[HU g o,Aw K0],[]⟩) λk l=> ?_);simp[XK];refine e _ _ (BU (an:=⟨[HU g o,Aw K0],[]⟩) λq m=> ?_);simp[cL,eO];refine BU (an:=⟨[HU g o,Aw K0],[]⟩) λh b=> ?_;simp[XK,BO];refine BU (an:=⟨[HU g o,Aw K0],[]⟩) λL c=> ?_;simp[Vt,BO];refine c _ _ (BU (an:=⟨[HU g o,Aw K0],[]⟩) λi j=> ?_);simp[Vt];refine b _ _ (BU (an:=⟨[HU g o,Aw K0],[]⟩) λk l=> ?_);simp[XK];refine m _ _ (BU (an:=⟨[HU g o,Aw K0],[]⟩) λr s=> ?_);simp[cL,eO,f,Ya,RF,Na]
def TN(l:List Ac):Prop:=l.length<1000000/\ ∀x∈l,AL U 170 [B5 x] (.bool true)
variable{l:List Ac}
omit g o in
theorem a0f(h:TN l):AL U 172 [DZ l,.func (.func 170) #[] #[]] (.bool true):=by have:=sm (u:=170) (l:=l) (p:= λ_=>true) h.1 λx a=>h.2 x a;have e:(l.all λ_=>true)=true:=BF.2 λ_ _=>rfl;rw[e]at this;exact this
noncomputable def WA:AK U:= .B8 172 (List Ac) TN (λl=>[DZ l,.func (.func 170) #[] #[]]) (λ_=> .bool true) λ_ h=>a0f h
omit g o in
@[simp] theorem aJR:WA.f=172:=rfl
omit g o in
theorem mv{l:List Ac}(h:TN l):WA.fn [DZ l,.func (.func 170) #[] #[]]=some (.bool true):=AK.BD (x:=l) h λy a=>by simpa using a
theorem zm:TN [⟨false,[1],[z]⟩]:=⟨by simp,λx a=>by simp at a;subst a;exact aCq g o⟩
omit g o in
theorem a38:TN [⟨false,[1],[1]⟩]:=⟨by decide,λx a=>by simp at a;subst a;exact mL (by unfold Ac.B1;decide)⟩
omit g o in
theorem a07:TN [⟨false,[],[1]⟩]:=⟨by decide,λx a=>by simp at a;subst a;exact mL (by unfold Ac.B1;decide)⟩
noncomputable def WS(BP:ByteArray):AK U:=Aw (vu g o (BP:=BP))
theorem jO{BP:ByteArray}:(WS g o BP).f=176:=rfl
theorem aBr{BP:ByteArray}:AL U 112 [Of (Tc BP z)] (.bool true):=by
 have a:=mv (zm g o);have b:=mv a38;have a3:=mv a07;have a4:=yN g o;have d:(Aw Vg).fn [Y 1,Y 1]=some (.tuple #[.agg #[.bool false,AP [1],AP [1]],Y 0]):=Dy Vg;have e:(Aw Uc).fn [M [[.bool false,AP [1],AP [1]]] 3]=some (.tuple #[.agg #[.bool false,AP [1],AP [1]],Y 0]):=Dy Uc;have f:(Aw WV).fn [.agg #[.bool false,M [[Br 1]] 1,M [[Br 1]] 1],.agg #[.bool false,M [[Br 1]] 1,M [[Br 1]] 1]]=some (.tuple #[Y 0,Y 0]):=Dy WV;have h:(WS g o BP).fn [.agg #[.string BP,M [[.bool false,AP [1],AP [1]]] 3,M [[DZ [⟨false,[],[1]⟩]]] 1,M [[.bool false,AP [1],AP [z]]] 3]]=some (.bool true):=Dy (vu g o (BP:=BP));simp only[DZ,E1,List.map_nil,BO]at a b a3;have i:C6 1 1 4=true:=by decide
 refine BG (Ak (an:=⟨[Kh,WA,HU g o,Aw Vg,Aw Uc,Aw WV,WS g o BP],[]⟩) a3j (by kernel_rfl) (by simp[jW]) ?_);simp[jW,tF,Cc,Tc,BO,a,b,i,Ya,jO];refine BU (an:=⟨[Kh,WA,HU g o,Aw Vg,Aw Uc,Aw WV,WS g o BP],[]⟩) λk j=> ?_;simp[m5,l8,BO,a3,a4,Ya,jO];refine j _ _ (BU (an:=⟨[Kh,WA,HU g o,Aw Vg,Aw Uc,Aw WV,WS g o BP],[]⟩) λl m=> ?_);simp[m5];simp[l8,BO,d,e,f,h,Ya,jO]
omit g o in
theorem a4c{x:F1}(a:x.B1):AL U 112 [Of x] (.bool x.Md):=by obtain⟨BP,s,u,e⟩:=x;obtain⟨z,g,o,rfl,rfl,rfl⟩:=a;exact aBr g o (BP:=BP)
theorem bo:AL U 190 [DZ [⟨false,[1],[z]⟩],Y 1] (.bool true):=by have a:(Aw (Wa g o)).fn [.agg #[.bool false,M [[Br 1]] 1,M [[Br z]] 1]]=some (.bool true):=Dy (Wa g o);refine BG (Ak (an:=⟨[Aw (Wa g o)],[]⟩) uf (by kernel_rfl) (by simp[SU]) ?_);simp[SU,Yb,BO];refine BU (an:=⟨[Aw (Wa g o)],[]⟩) λd c=> ?_;simp[XO,Pd,a,BO];refine c _ _ (BU (an:=⟨[Aw (Wa g o)],[]⟩) λd c=> ?_);simp[XO,Pd,Pd]
omit g o in
theorem m7:AL U 190 [DZ [⟨false,[1],[1]⟩],Y 1] (.bool true):=mY (l:=[⟨false,[1],[1]⟩]) (n:=1) (λx a=>by simp at a;subst a;unfold Ac.B1;decide) (by decide)
omit g o in
theorem tp:AL U 190 [DZ [⟨false,[],[1]⟩],Y 1] (.bool true):=mY (l:=[⟨false,[],[1]⟩]) (n:=1) (λx a=>by simp at a;subst a;unfold Ac.B1;decide) (by decide)
noncomputable def J7:AK U:=Js (Aw (bo g o)) (Js (Aw m7) (Aw tp) rfl) rfl
theorem YQ:(J7 g o).f=190:=rfl
theorem zq:(J7 g o).fn [M [[.bool false,AP [1],AP [z]]] 3,Y 1]=some (.bool true):=O1 (Dy (bo g o))
theorem a6s:(J7 g o).fn [M [[.bool false,AP [1],AP [1]]] 3,Y 1]=some (.bool true):=MH (N4 (bo g o) λh=>by simp[BO]at h;omega) (O1 (Dy m7))
theorem aAw:(J7 g o).fn [M [[.bool false,AP [],AP [1]]] 3,Y 1]=some (.bool true):=MH (N4 (bo g o) λh=>by simp[BO]at h) (MH (N4 m7 λh=>by simp[BO]at h) (Dy tp))
noncomputable def JI:AK U:=Js (Aw (mO (x:=⟨false,[],[1]⟩) (by unfold Ac.B1;decide) rfl)) (Aw (tG g o)) rfl
theorem b8:(JI g o).f=139:=rfl
theorem aG4:(JI g o).fn [.agg #[.bool false,M [] 1,M [[Br 1]] 1]]=some (Y 0):=O1 (Dy (mO (x:=⟨false,[],[1]⟩) (by unfold Ac.B1;decide) rfl))
theorem a0l:(JI g o).fn [.agg #[.bool false,M [[Br 1]] 1,M [[Br z]] 1]]=some (Y 1):=MH (N4 _ (ob g o)) (Dy (tG g o))
theorem aDH{BP:ByteArray}:AL U 137 [Of (Tc BP z)] (.bool true):=by have b:=zq g o;have c:=a6s g o;have a3:=aAw g o;have a4:=aG4 g o;have d:=a0l g o;have e:(Aw Jm).fn [Y 1]=some (.agg #[.bool false,AP [1],AP [1]]):=Dy Jm;have f:(Aw Kd).fn [M [[.bool false,AP [1],AP [1]]] 3]=some (.tuple #[.agg #[.bool false,AP [1],AP [1]],Y 0]):=Dy Kd;have h:(Aw Ka).fn [.agg #[.bool false,M [[Br 1]] 1,M [[Br 1]] 1],.agg #[.bool false,M [[Br 1]] 1,M [[Br 1]] 1]]=some (.bool true):=Dy Ka;refine BG (Ak (an:=⟨[J7 g o,JI g o,Aw Jm,Aw Kd,Aw Ka],[]⟩) a68 (by kernel_rfl) (by simp[h0]) ?_);simp[h0,uY,b,c,b8,YQ,Cc,Tc,BO];refine BU (an:=⟨[J7 g o,JI g o,Aw Jm,Aw Kd,Aw Ka],[]⟩) λn i=> ?_;simp[fv,a3,a4,b8,YQ,BO];refine i _ _ (BU (an:=⟨[J7 g o,JI g o,Aw Jm,Aw Kd,Aw Ka],[]⟩) λp q=> ?_);simp[fv,e,f,h,b8,YQ,BO];refine BU (an:=⟨[J7 g o,JI g o,Aw Jm,Aw Kd,Aw Ka],[]⟩) λP j=> ?_;simp[lH];refine BU (an:=⟨[J7 g o,JI g o,Aw Jm,Aw Kd,Aw Ka],[]⟩) λQ k=> ?_;simp[hY,d,b8,YQ,BO];refine BU (an:=⟨[J7 g o,JI g o,Aw Jm,Aw Kd,Aw Ka],[]⟩) λR l=> ?_;simp[ni];refine l _ _ (BU (an:=⟨[J7 g o,JI g o,Aw Jm,Aw Kd,Aw Ka],[]⟩) λr s=> ?_);simp[ni];refine k _ _ (BU (an:=⟨[J7 g o,JI g o,Aw Jm,Aw Kd,Aw Ka],[]⟩) λt u=> ?_);simp[hY];refine j _ _ (BU (an:=⟨[J7 g o,JI g o,Aw Jm,Aw Kd,Aw Ka],[]⟩) λv w=> ?_);simp[lH];refine BU (an:=⟨[J7 g o,JI g o,Aw Jm,Aw Kd,Aw Ka],[]⟩) λx m=> ?_;simp[iY];refine m _ _ (BU (an:=⟨[J7 g o,JI g o,Aw Jm,Aw Kd,Aw Ka],[]⟩) λy A=> ?_);simp[iY]
omit g o in
theorem aDK{x:F1}(a:x.B1):AL U 137 [Of x] (.bool x.Md):=by obtain⟨BP,s,u,e⟩:=x;obtain⟨z,g,o,rfl,rfl,rfl⟩:=a;exact aDH g o (BP:=BP)
end
noncomputable def RQ:AK U:= .B8 170 Ac Ac.B1 (λx=>[B5 x]) (λx=> .bool x.AZ.small) λ_ a=>mL a
@[simp] theorem aHf:RQ.f=170:=rfl
@[simp] theorem aGU(h:(Ac.mk n a b).B1):RQ.fn [.agg #[.bool n,AP a,AP b]]=some (.bool (Ac.mk n a b).AZ.small):=AK.BD (x:=Ac.mk n a b) h λy c=>Pf c
noncomputable def bn:AK U:= .B8 171 Ac Ac.B1 (λx=>[B5 x]) (λx=> .bool (decide (0<x.AZ.n))) λ_ a=>hM a
@[simp] theorem aP3:bn.f=171:=rfl
@[simp] theorem aQ0(h:(Ac.mk n a b).B1):bn.fn [.agg #[.bool n,AP a,AP b]]=some (.bool (decide (0<(Ac.mk n a b).AZ.n))):=AK.BD (x:=Ac.mk n a b) h λy c=>Pf c
end Go.Proofs.YtmmkkggfmigppaaGreat
namespace Go.Big
structure I6 where
 a:Int
 b:Int
 c:Int
 d:Int
 e:Int
 deriving DecidableEq
structure RT where
 name:ByteArray
 ext:Int
 a1r:Int
 a22:Int
 deriving DecidableEq
structure Dj where
 name:ByteArray
 EH:Int
 parent:Int
 SF:Int
 HH:Ac
 deriving DecidableEq
structure IM where
 name:ByteArray
 model:Int
 Qz:Int
 deriving DecidableEq
structure Dw where
 name:ByteArray
 k:Int
 m:Int
 q:Int
 D9:I6
 Aa:List Int
 Mi:List Ac
 Kf:Ac
 KW:Ac
 deriving DecidableEq
structure Je where
 name:ByteArray
 JD:Int
 deriving DecidableEq
structure AY where
 ext:Int
 Bz:List F1
 Aa:List RT
 A5:List Dj
 A1:List IM
 Ay:List Dw
 A7:List Je
 deriving DecidableEq
end Go.Big
namespace Go.Proofs.YtmmkkggfmigppaaGreat
open Go Go.DI Go.Big
abbrev CU(s:ByteArray):Value:= .string s
abbrev RA(l:List ByteArray):Value:=M (l.map λs=>[CU s]) 1
abbrev AH(l:List Int):Value:=M (l.map λs=>[Y s]) 1
def Ce(x:RT):List Value:=[CU x.name,Y x.ext,Y x.a1r,Y x.a22]
def Bd(x:Dj):List Value:=[CU x.name,Y x.EH,Y x.parent,Y x.SF,.bool x.HH.HY,AP x.HH.a,AP x.HH.b]
def CB(x:IM):List Value:=[CU x.name,Y x.model,Y x.Qz]
def B3(x:Dw):List Value:=[CU x.name,Y x.k,Y x.m,Y x.q,Y x.D9.a,Y x.D9.b,Y x.D9.c,Y x.D9.d,Y x.D9.e,AH x.Aa,DZ x.Mi,.bool x.Kf.HY,AP x.Kf.a,AP x.Kf.b,.bool x.KW.HY,AP x.KW.a,AP x.KW.b]
def Cd(x:Je):List Value:=[CU x.name,Y x.JD]
def A4(x:AY):List Value:=[Y x.ext,M (x.Bz.map Cc) 4,M (x.Aa.map Ce) 4,M (x.A5.map Bd) 7,M (x.A1.map CB) 3,M (x.Ay.map B3) 17,M (x.A7.map Cd) 2]
variable{A l:List ByteArray}
@[simp] theorem aQ3:(l.map λs=>[CU s])=(A.map λs=>[CU s])↔l=A:=Nf λx y h=>by simpa using h
@[simp] theorem uT{l A:List Int}:(l.map λs=>[Y s])=(A.map λs=>[Y s])↔l=A:=Nf λx y h=>by simpa using h
end Go.Proofs.YtmmkkggfmigppaaGreat
namespace Go.Big
def IP(x:Be):Bool:=x.ok&&decide (IN x .Gd<=0)
def Hn(x:Ac):Bool:=x.AZ.small&&decide (0<x.AZ.n)
def J8(m:Int)(r:List Ac)(t h:Ac):Bool:=decide ((r.length:Int)=if 1>m then 1 else m)&&(r.all Hn&&(t.AZ.small&&(IP t.AZ&&h.AZ.small)))
end Go.Big
namespace Go.Proofs.YtmmkkggfmigppaaGreat
open Go Go.DI Go.Big
variable{x:Ac}{n:Bool}{l r:List Ac}{m:Int}
theorem aEN(a:x.B1):AL U 230 [B5 x] (.bool (IP x.AZ)):=a6m a
theorem a32(a:x.B1):AL U 229 [B5 x] (.bool (Hn x)):=by refine BG (Ak (an:=⟨[RQ,bn],[]⟩) aAG (by kernel_rfl) (by simp[l9]) ?_);cases h:x.AZ.small<;>simp(disch:=first|omega|simp only[AD];omega)[l9,wW,BO,h,Hn]
noncomputable def mM:AK U:= .B8 230 Ac Ac.B1 (λx=>[B5 x]) (λx=> .bool (IP x.AZ)) λ_ a=>aEN a
@[simp] theorem aLq:mM.f=230:=rfl
@[simp] theorem aMi{a b:List Int}(h:(Ac.mk n a b).B1):mM.fn [.agg #[.bool n,AP a,AP b]]=some (.bool (IP (Ac.mk n a b).AZ)):=AK.BD (x:=Ac.mk n a b) h λy c=>Pf c
noncomputable def nC:AK U:= .B8 172 (List Ac) (λl=>(∀x∈l,x.B1)/\l.length<1000000) (λl=>[DZ l,.func (.func 229) #[] #[]]) (λl=> .bool (l.all Hn)) λ_ h=>sm h.2 λx a=>a32 (h.1 x a)
@[simp] theorem aHL:nC.f=172:=rfl
@[simp] theorem aJu(h:(∀x∈l,x.B1)/\l.length<1000000):nC.fn [M (l.map BO) 3,.func (.func 229) #[] #[]]=some (.bool (l.all Hn)):=AK.BD (x:=l) h λy a=>by simpa using a
theorem a6I{t h:Ac}(c:(∀x∈r,x.B1)/\r.length<1000000)(d:t.B1)(e:h.B1):AL U 178 [Y m,DZ r,B5 t,B5 h] (.bool (J8 m r t h)):=by
 refine BG (Ak (an:=⟨[nC,RQ,mM],[]⟩) aCc (by kernel_rfl) (by simp[RL]) ?_);by_cases g:(r.length:Int)=if 1>m then 1 else m
 ·cases o:r.all Hn
  ·simp(disch:=omega)[RL,WI,BO,g,o,J8]
  ·cases a:t.AZ.small
   ·simp(disch:=first|omega|simp only[AD];omega)[RL,WI,BO,g,o,a,J8]
   ·cases b:IP t.AZ<;>simp(disch:=first|omega|simp only[AD];omega)[RL,WI,BO,g,o,a,b,J8]
 ·simp[RL,WI,BO,g,J8]
end Go.Proofs.YtmmkkggfmigppaaGreat
namespace Go.Big
def Fc(k m q:Int)(s:I6):Bool:=C6 k 1 6&&(C6 m 0 4&&(decide (k+m<=8)&&(C6 q k (k+m)&&(decide (s.a=0)&&(C6 s.a 0 8&&(C6 s.b 0 8&&(C6 s.c 0 8&&(C6 s.d 0 8&&C6 s.e 0 8))))))))
end Go.Big
namespace Go.Proofs.YtmmkkggfmigppaaGreat
open Go Go.DI Go.Big
variable{x:Int}{l:List Int}{s:I6}
theorem aCm:AL U 228 [Y x] (.bool (C6 x 0 8)):=by refine BG (Ak (an:=⟨[Kh],[]⟩) a63 (by kernel_rfl) (by simp[lB]) ?_);simp[lB,xI]
noncomputable def n3:AK U:= .B8 228 (Int) (λx=>True) (λx=>[Y x]) (λx=> .bool (C6 x 0 8)) (λx h=>aCm)
@[simp] theorem aMh:n3.f=228:=rfl
@[simp] theorem aJ0:n3.fn ([Y x])=some (.bool (C6 x 0 8)):=AK.BD (x:=x) trivial λy a=>by simpa using a
theorem tX(q:l.length<1000000):AL U 227 [AH l,.func (.func 228) #[] #[]] (.bool (l.all λx=>C6 x 0 8)):=by
 refine BG (Ak (an:=⟨[],[]⟩) aBo (by kernel_rfl) (by simp[kh]) ?_);simp[kh,sv];refine CE (an:=⟨[n3],[]⟩) (λi a t=>((l.take i).all λx=>C6 x 0 8)=true/\a 1= .func (.func 228) #[] #[]/\a 7=AH l/\a 8=Y l.length/\a 9=Y i) l.length ?_ ?_ 0 _ _ (C0 _) ⟨by simp,by simp,by simp,by simp,by simp⟩
 ·rintro i a t g ⟨c,d,e,b,f⟩ r k;have m:l[i]?=some l[i]:=AS g;have o:l[i]∈l:=Dc g;have p:=BX (n:=i) (by omega);have h:(i:Int)<l.length:=(by omega);cases hb:C6 l[i] 0 8
  ·simp(disch:=first|omega|simp only[AD];omega)[fN,Vs,d,e,b,f,h,hb];exact⟨_,o,hb⟩
  ·simp(disch:=first|omega|simp only[AD];omega)[fN,Vs,d,e,b,f,h,p,hb,-H,-E,-I,-G,-List.map_map];exact k _ _ ⟨by rw[MB m,List.all_append,c];simp[hb],by simp[d],by simp[e],by simp[b],by simp⟩
 ·rintro a t ⟨c,d,e,b,f⟩;rw[EP]at c;simp[fN,Vs,b,f,Vs];simpa using c
noncomputable def iS:AK U:= .B8 227 (List Int) (λl=>l.length<1000000) (λl=>[AH l,.func (.func 228) #[] #[]]) (λl=> .bool (l.all λx=>C6 x 0 8)) λ_ h=>tX h
@[simp] theorem aJd:iS.f=227:=rfl
@[simp] theorem aL8{a b c d e:Int}:iS.fn [M [[Y a],[Y b],[Y c],[Y d],[Y e]] 1,.func (.func 228) #[] #[]]=some (.bool (C6 a 0 8&&(C6 b 0 8&&(C6 c 0 8&&(C6 d 0 8&&C6 e 0 8))))):=by
  have:=AK.BD (ok:= λ_ h=>tX h) (x:=[a,b,c,d,e]) (dj:= λl=>l.length<1000000) (enc:= λl=>[AH l,.func (.func 228) #[] #[]]) (by simp) λy f=>uT.1 (y7.1 (List.cons.inj f).1).1;have e:[a,b,c,d,e].all (λx=>C6 x 0 8)=(C6 a 0 8&&(C6 b 0 8&&(C6 c 0 8&&(C6 d 0 8&&C6 e 0 8)))):=by simp
  rw[<-e];exact this
theorem aDk{k m q:Int}:AL U 177 [Y k,Y m,Y q,.agg #[Y s.a,Y s.b,Y s.c,Y s.d,Y s.e]] (.bool (Fc k m q s)):=by
 refine BG (Ak (an:=⟨[Kh,iS],[]⟩) aDc (by kernel_rfl) (by simp[P1]) ?_);have n:5<=maxLen:=by unfold maxLen;omega
 cases g:C6 k 1 6
 ·simp[P1,R2,g,Fc]
 ·cases o:C6 m 0 4
  ·simp[P1,R2,g,o,Fc]
  ·have h:IntKind.i64.wrap (k+m)=k+m:=(by simp[C6]at g o;exact Ah (by omega) (by omega));by_cases i:k+m<=8
   ·have f: ¬(8<k+m):=(by omega);cases j:C6 q k (k+m)
    ·simp[P1,R2,g,o,i,f,j,h,Fc]
    ·by_cases l:s.a=0
     ·simp[P1,R2,g,o,i,f,j,l,h,n,RF,Na,Fc]
     ·simp[P1,R2,g,o,i,f,j,l,h,Fc]
   ·have f:8<k+m:=(by omega);simp[P1,R2,g,o,i,f,h,Fc]
end Go.Proofs.YtmmkkggfmigppaaGreat
namespace Go.DI
open Go
variable {P:Program}
open Classical in
noncomputable def DB.B8(f:Nat)(bG:Type)(enc:bG->List Value)(b:bG->V->Option (Value×V))(ok: ∀x t r a,b x t=some (r,a)-> ∀a7:Value->V->Prop,a7 r a->Bv P f (enc x) t a7):DB P:=
 ⟨f,λargs t=>if h: ∃x,enc x=args then b h.choose t else none,λargs t r a h=>by
  split at h
  ·next c=>have:=ok _ t r a h;rw[c.choose_spec]at this;exact this
  ·cases h⟩
variable{bG:Type}{f:Nat}
theorem DB.BD{enc:bG->List Value}{a:bG->V->Option (Value×V)}{ok: ∀x t r b,a x t=some (r,b)-> ∀a7:Value->V->Prop,a7 r b->Bv P f (enc x) t a7}{x:bG}{t:V}(d: ∀y,enc y=enc x->y=x):(DB.B8 f bG enc a ok).fn (enc x) t=a x t:=by have c: ∃y,enc y=enc x:=⟨x,rfl⟩;simp only[DB.B8,dif_pos c];rw[d _ c.choose_spec]
end Go.DI
namespace Go.Proofs.YtmmkkggfmigppaaGreat
open Go Go.DI Go.Big
noncomputable def lj:AK U:= .B8 179 (ByteArray) (λT=>True) (λT=>[.string T]) (λT=> .bool (IY T)) (λT h=>aCY)
@[simp] theorem aJ8:lj.f=179:=rfl
variable{T n:ByteArray}{u:List (List Ac)}{e s:List Ac}{x:F1}
@[simp] theorem aHb:lj.fn ([.string T])=some (.bool (IY T)):=AK.BD (x:=T) trivial λy a=>by simpa using a
noncomputable def kF:AK U:= .B8 112 F1 F1.B1 (λx=>[Of x]) (λx=> .bool x.Md) λ_ h=>a4c h
@[simp] theorem aJU:kF.f=112:=rfl
theorem wc(h:[Of x]=[.agg #[CU n,DZ s,qA u,DZ e]]):x=⟨n,s,u,e⟩:=by obtain⟨a,b,c,d⟩:=x;simpa[Cc]using h
@[simp] theorem aGk(h:(F1.mk n s u e).B1):kF.fn [.agg #[CU n,M (s.map BO) 3,M (u.map λr=>[DZ r]) 1,M (e.map BO) 3]]=some (.bool (F1.mk n s u e).Md):=AK.BD (x:=F1.mk n s u e) h λy a=>wc a
end Go.Proofs.YtmmkkggfmigppaaGreat
namespace Go.Big
def I6.at(s:I6)(i:Int):Int:=if i=0 then s.a else if i=1 then s.b else if i=2 then s.c else if i=3 then s.d else s.e
end Go.Big
namespace Go.Proofs.YtmmkkggfmigppaaGreat
open Go Go.DI Go.Big
noncomputable def n0:AK U:= .B8 177 (Int×Int×Int×I6) (λ_=>True) (λp=>[Y p.1,Y p.2.1,Y p.2.2.1,.agg #[Y p.2.2.2.a,Y p.2.2.2.b,Y p.2.2.2.c,Y p.2.2.2.d,Y p.2.2.2.e]]) (λp=> .bool (Fc p.1 p.2.1 p.2.2.1 p.2.2.2)) λ_ _=>aDk
@[simp] theorem aGm:n0.f=177:=rfl
variable{c d e m f:Int}{a b:List Int}{n:Bool}{r:List Ac}{l:List ByteArray}{s:ByteArray}{x:Be}
@[simp] theorem aI4{k q a b:Int}:n0.fn [Y k,Y m,Y q,.agg #[Y a,Y b,Y c,Y d,Y e]]=some (.bool (Fc k m q ⟨a,b,c,d,e⟩)):=AK.BD (x:=(k,m,q,(⟨a,b,c,d,e⟩:I6))) trivial λy f=>by obtain⟨r,s,t,u,v,w,z,A⟩:=y;simp at f;obtain⟨g,o,h,i,j,l,n,p⟩:=f;simp[g,o,h,i,j,l,n,p]
noncomputable def nU:AK U:= .B8 178 (Int×List Ac×Ac×Ac) (λp=>((∀x∈p.2.1,x.B1)/\p.2.1.length<1000000)/\p.2.2.1.B1/\p.2.2.2.B1) (λp=>[Y p.1,DZ p.2.1,B5 p.2.2.1,B5 p.2.2.2]) (λp=> .bool (J8 p.1 p.2.1 p.2.2.1 p.2.2.2)) λ_ h=>a6I h.1 h.2.1 h.2.2
@[simp] theorem aOt:nU.f=178:=rfl
@[simp] theorem aHE{c:Bool}{d e:List Int}(h:((∀x∈r,x.B1)/\r.length<1000000)/\(Ac.mk n a b).B1/\(Ac.mk c d e).B1):nU.fn [Y m,M (r.map BO) 3,.agg #[.bool n,AP a,AP b],.agg #[.bool c,AP d,AP e]]=some (.bool (J8 m r ⟨n,a,b⟩ ⟨c,d,e⟩)):=AK.BD (x:=(m,r,(⟨n,a,b⟩:Ac),(⟨c,d,e⟩:Ac))) h λy f=>by obtain⟨s,t,⟨u,v,w⟩,⟨z,A,B⟩⟩:=y;simp[BO]at f;obtain⟨g,o,⟨i,j,k⟩,l,p,q⟩:=f;simp[g,o,i,j,k,l,p,q]
def H0(s:ByteArray):List ByteArray->Option Nat
 |[]=>none
 |x::l=>if s=x then some 0 else(H0 s l).map (· +1)
theorem aFe{a b:Int}:AL U 134 [Y a,Y b,Y c] (.bool (C6 a b c)):=by
 refine BG (Ak (an:=⟨[],[]⟩) aAJ (by kernel_rfl) (by simp[c3]) ?_);by_cases h:b<=a
 ·have d:a>=b:=h;simp[c3,j7,h,C6]
 ·have d: ¬a>=b:=h;simp[c3,j7,h,C6]
noncomputable def L1:AK U:= .B8 134 (Int×Int×Int) (λ⟨a,b,c⟩=>True) (λ⟨a,b,c⟩=>[Y a,Y b,Y c]) (λ⟨a,b,c⟩=> .bool (C6 a b c)) (λ⟨a,b,c⟩ h=>aFe)
@[simp] theorem aIk:L1.f=134:=rfl
@[simp] theorem aLy{a:Int}{b:Int}:L1.fn ([Y a,Y b,Y c])=some (.bool (C6 a b c)):=AK.BD (x:=(a,b,c)) trivial λy d=>by obtain⟨e,f,g⟩:=y;simpa using d
def Kw(a b c d e f:Int):Bool:=decide (a<=4)&&(decide (b<=4)&&(decide (c<=40)&&(decide (d<=24)&&(decide (e<=4)&&decide (f<=12)))))
theorem aER{a b:Int}:AL U 135 [Y a,Y b,Y c,Y d,Y e,Y f] (.bool (Kw a b c d e f)):=by
 refine BG (Ak (an:=⟨[],[]⟩) a5Z (by kernel_rfl) (by simp[PA]) ?_);by_cases g:a<=4
 ·by_cases o:b<=4
  ·by_cases h:c<=40
   ·by_cases i:d<=24
    ·by_cases j:e<=4
     ·simp[PA,Q2,g,o,h,i,j,Kw]
     ·simp[PA,Q2,g,o,h,i,j,Kw]
    ·simp[PA,Q2,g,o,h,i,Kw]
   ·simp[PA,Q2,g,o,h,Kw]
  ·simp[PA,Q2,g,o,Kw]
 ·simp[PA,Q2,g,Kw]
noncomputable def VK:AK U:= .B8 135 (Int×Int×Int×Int×Int×Int) (λ⟨a,b,c,d,e,f⟩=>True) (λ⟨a,b,c,d,e,f⟩=>[Y a,Y b,Y c,Y d,Y e,Y f]) (λ⟨a,b,c,d,e,f⟩=> .bool (Kw a b c d e f)) (λ⟨a,b,c,d,e,f⟩ h=>aER)
@[simp] theorem aNc:VK.f=135:=rfl
@[simp] theorem aO7{a:Int}{b:Int}:VK.fn ([Y a,Y b,Y c,Y d,Y e,Y f])=some (.bool (Kw a b c d e f)):=AK.BD (x:=(a,b,c,d,e,f)) trivial λy g=>by obtain⟨h,i,j,k,l,m⟩:=y;simpa using g
def On(s:ByteArray)(l:List ByteArray):Int:=match H0 s l with
 |none=> -1
 |some i=>i
theorem gL: ∀{i:Nat},(∀j (h:j<l.length),j<i->l[j]≠s)->i<=l.length->H0 s l=(H0 s (l.drop i)).map (· +i)
 |0,_,_=>by simp
 | i+1,h,d=>by rw[gL (i:=i) (λj a f=>h j a (by omega)) (by omega)];have b:l.drop i=l[i]::l.drop (i+1):=Iy (by omega);have c: ¬s=l[i]:= λe=>h i (by omega) (by omega) e.symm;rw[b];simp only[H0,if_neg c,Option.map_map];congr 1;funext k;simp only[Function.comp_apply];omega
theorem og(r:l.length<1000000):AL U 189 [RA l,CU s] (Y (On s l)):=by
 refine BG (Ak (an:=⟨[],[]⟩) a1p (by kernel_rfl) (by simp[mx]) ?_);simp[mx,xo];refine CE (an:=⟨[],[]⟩) (λi a t=>(∀j (h:j<l.length),j<i->l[j]≠s)/\a 0=RA l/\a 1=CU s/\a 5=Y i) l.length ?_ ?_ 0 _ _ (C0 _) ⟨by simp,by simp,by simp,by simp⟩
 ·rintro i a t g ⟨c,b,d,f⟩ u o;have v:l[i]?=some l[i]:=AS g;have p:=BX (n:=i) (by omega);have k:(i:Int)<l.length:=(by omega);by_cases hb:l[i]=s
  ·have e:On s l=i:=by
    unfold On;rw[gL c (by omega),Iy g];simp[H0,hb]
   simp(disch:=omega)[c2,UU,b,d,f,k,hb,e]
  ·simp(disch:=first|omega|simp only[AD];omega)[c2,UU,b,d,f,k,p,hb,-H,-E,-I,-G,-List.map_map];exact o _ _ ⟨λj q w=>by
    by_cases e:j=i
    ·subst e;exact hb
    ·exact c j q (by omega),by simp[b],by simp[d],by simp⟩
 ·rintro a t ⟨c,b,d,f⟩;have e:On s l= -1:=by
   unfold On;rw[gL c (Ao _),List.drop_length];rfl
  simp[c2,UU,b,f,UU,e]
noncomputable def eL:AK U:= .B8 140 Ac Ac.B1 (λx=>[B5 x]) (λx=> .bool x.AZ.small) λ_ a=>za a
@[simp] theorem aPG:eL.f=140:=rfl
@[simp] theorem aJx(h:(Ac.mk n a b).B1):eL.fn [.agg #[.bool n,AP a,AP b]]=some (.bool (Ac.mk n a b).AZ.small):=AK.BD (x:=Ac.mk n a b) h λy c=>Pf c
noncomputable def QD:AK U:= .B8 139 Ac (λx=>x.B1/\x.AZ.ok=true) (λx=>[B5 x]) (λx=>Y (IN x.AZ .nil)) λ_ a=>mO a.1 a.2
@[simp] theorem aHU:QD.f=139:=rfl
@[simp] theorem aLZ(h:(Ac.mk n a b).B1/\(Ac.mk n a b).AZ.ok=true):QD.fn [.agg #[.bool n,AP a,AP b]]=some (Y (IN (Ac.mk n a b).AZ .nil)):=AK.BD (x:=Ac.mk n a b) h λy c=>Pf c
noncomputable def W5:AK U:= .B8 138 Ac Ac.B1 (λx=>[B5 x]) (λx=> .bool x.AZ.ok) λ_ a=>a2K a
@[simp] theorem aP1:W5.f=138:=rfl
@[simp] theorem aNm(h:(Ac.mk n a b).B1):W5.fn [.agg #[.bool n,AP a,AP b]]=some (.bool (Ac.mk n a b).AZ.ok):=AK.BD (x:=Ac.mk n a b) h λy c=>Pf c
theorem wT(b:0<=x.n):(IN x .nil=0)=(x.n=0):=by
 have e:x.n*Be.nil.d=x.n:=by show x.n*1=x.n;omega
 have a:Be.nil.n*x.d=0:=by show 0*x.d=0;omega
 unfold IN;rw[e,a];apply propext;split
 ·omega
 ·split<;>omega
theorem aDp(a:0<=x.n):(IN x .nil=0)= ¬(0<x.n):=by rw[wT a];apply propext;omega
end Go.Proofs.YtmmkkggfmigppaaGreat
