/- A part of the proof. -/
import Derived.Test.YtmmkkggfmigppaaGreatZcq
set_option linter.all false
set_option maxRecDepth 8000
set_option maxHeartbeats 16000000
namespace Go.DI
open Go
variable {P:Program} {u:Ca} {J:C5} {t m K:V}
theorem BI.kY(c:BI J u t m)(f:m.next<=K.next)(h: ∀b,(∃o,J o=some b)\/u b≠none->K.W b=m.W b/\K.mp b=m.mp b):BI J u t K where
 Eh o x g:=by
  rcases c.Eh o x g with⟨b,cs,w,a,d,e,i⟩|a
  ·exact .inl ⟨b,cs,w,a,by rw[(h b (.inl ⟨o,a⟩)).1];exact d,e,i⟩
  ·exact .inr a
 maps o es j:=by obtain⟨b,k,a,d,e⟩:=c.maps o es j;obtain⟨l,n⟩:=h b (.inl ⟨o,a⟩);obtain⟨p,q⟩:=DQ d;exact⟨b,k,a,E7 (by rw[l];exact p) (by rw[n];exact q),e⟩
 Er:=c.Er
 inj:=c.inj
 B7 o b hb:=⟨(c.B7 o b hb).1,Eo (c.B7 o b hb).2 f⟩
 AZ b cs hb:=by obtain⟨⟨w,a⟩,d⟩:=c.AZ b cs hb;exact⟨⟨w,by rw[(h b (.inr (by rw[hb];simp))).1];exact a⟩,d⟩
variable{S:C5}{O:Ca}
theorem Be.kY{g a c:V}{i d:Nat}(h:Be i d J u t m S O g a)(j:a.next<=c.next)(k: ∀b,b<d->c.W b=a.W b):Be i d J u t m S O g c:=
 ⟨h.e,h.f,h.MR,h.fn,h.Gm,Dh h.Gt j,λb hb l=>by rw[k b hb];exact h.DW b hb l,h.To,h.TZ⟩
end Go.DI
namespace Go.Proofs.YtmmkkggfmigppaaGreat
open Go Go.DI Go.Big
noncomputable def Lg(l:List ByteArray)(s:ByteArray):Bool:=IY s&&(H0 s l).isNone
variable{l T dj:List ByteArray}{s:ByteArray}{i o q c d:Nat}{a6:Value}{m t t0:V}{J:C5}{a7:Value->V->Prop}{A N C:A6}{Q:BM->A6->V->Prop}{v:Int}{x:Dw}{X:Type}{an:J9 U}{dU:Nat->Nat}{B:Nat->List ByteArray}{Z:D}{R:Dj}{ds:List Dj}
theorem cl:Lg l s=if IY s then decide (On s l<0)else false:=by unfold Lg On;cases IY s<;>cases h:H0 s l<;>simp
def a3U(m:V)(a6:Value)(l:List ByteArray):Prop:=(∃b,a6= .slice (some ⟨b,0,none⟩) l.length 1/\m.W b=some ⟨DS l,true⟩)\/(a6= .slice none 0 0/\l=[])
theorem Oi:DS l=l.map CU:=by
 unfold DS;induction l with
 |nil=>rfl
 |cons x l a=>rw[E1,HM,a];rfl
theorem nL:(DS l).length=l.length:=by rw[Oi,Eb]
theorem a8c(h:l[i]?=some s):(DS l)[i]?=some (CU s):=by rw[Oi,GS,h];rfl
theorem vG(o:(∃b w,a6= .slice (some ⟨b,0,none⟩) l.length 1/\m.W b=some ⟨DS l,w⟩)\/(a6= .slice none 0 0/\l=[]))(g:l.length<1000000):
 Aq U 189 [a6,CU s] m λr _=>r=Y (On s l):=by
 rcases o with⟨b,w,rfl,hb⟩|⟨rfl,rfl⟩
 ·have a:AW (λx=>if x=b then some (DS l)else none) EX (RA l) (.slice (some ⟨b,0,none⟩) l.length 1):=by
   have:=AW.Ql (u:= λx=>if x=b then some (DS l)else none) (J:=EX) (v:=RA l) (b:=b) (off:=0) (z:=1) (cs:=DS l) (b5:=l.map λs=>[CU s]) rfl (by simp) (by simp[nL]) (λi r h=>by
    simp only[GS,Kz]at h;obtain⟨_,_,rfl⟩:=h;rfl) (λi j r x y k f n=>by
    simp only[GS,Kz]at k;obtain⟨q,p,rfl⟩:=k;have t:j=0:=(by have:=(AX.1 f).1;simpa using this);subst t;simp at f;subst f;rw[show 0+i*1+0=i by omega,a8c p]at n;cases n;exact .BT rfl)
   simpa using this
  refine(og g _ m _ (λc cs d=> ?_) (AJ.cons a (AJ.cons (.BT rfl) AJ.nil))).AG λr K h=> ?_
  ·split at d
   ·next e=>cases d;subst e;exact⟨w,hb⟩
   ·cases d
  ·obtain⟨_,_,O,_,_,a⟩:=h;exact a.Hd
 ·refine(og g (λ_=>none) m [.slice none 0 0,CU s] (λc cs d=>by cases d) (AJ.cons (.Oy rfl) (AJ.cons (.BT rfl) AJ.nil))).AG λr K h=> ?_;obtain⟨_,_,O,_,_,a⟩:=h;exact a.Hd
theorem vd(f:a3U m a6 l)(d:l.length<1000000):Aq U 136 [a6,CU s] m λr K=>r= .tuple #[.slice (some ⟨m.next+3,0,none⟩) (l.length+1) 1,.bool (Lg l s)]/\
 ∃k,K=((Dx ((m.AE 14).A0 (m.next+2) (some ⟨[CU s],true⟩)) a6).A0 (m.next+3) (some ⟨DS l++[CU s],true⟩)).AE k:=by
 rw[aF2 (by simp)];rcases f with⟨b,rfl,hb⟩|⟨rfl,rfl⟩
 ·have g:=F hb;have e:List.take l.length (DS l)=DS l:=DV (by rw[nL];omega);simp[br];rw[q0];simp(disch:=first|omega|simp only[AD];omega)[H4,DI.H6,hb,nL];refine⟨⟨by omega,by omega⟩,?_⟩;rw[q5,Wu];cases a:IY s
  ·simp(disch:=first|omega|simp only[AD];omega)[Wk,a,cl,hb,e,CW];exact⟨_,rfl⟩
  ·simp[];refine(vG (.inl ⟨b,false,rfl,by simp(disch:=omega)[T1,hb,SC]⟩) d).AG λr K c=> ?_;subst c;rw[Wu];simp(disch:=first|omega|simp only[AD];omega)[Wk,cl,a,hb,e,CW];exact⟨_,rfl⟩
 ·simp[br];rw[q0];simp[H4,DI.H6];rw[q5,Wu];cases a:IY s
  ·simp(disch:=first|omega|simp only[AD];omega)[Wk,a,cl,Oi];exact⟨_,rfl⟩
  ·simp(disch:=first|omega|simp only[AD];omega)[];refine(vG (l:=[]) (.inr ⟨rfl,rfl⟩) d).AG λr K c=> ?_;subst c;rw[Wu];simp(disch:=first|omega|simp only[AD];omega)[Wk,cl,a,Oi];exact⟨_,rfl⟩
theorem ql{u:Ca}: ∀{xs ys:List Value},AJ u J xs ys->(∀x∈xs,∃s,x=CU s)->ys=xs
 |[],ys,h,_=>Gy.1 h.1.symm
 |x::xs,[],h,_=>by have:=h.1;simp at this
 | x::xs,y::ys,h,c=>by obtain⟨s,rfl⟩:=c x (by simp);have d:=(h.2 0 (CU s) y rfl rfl).NV;rw[d,ql (xs:=xs) (ys:=ys) ⟨by simpa using h.1,λi a b p q=>h.2 (i+1) a b (by simpa using p) (by simpa using q)⟩ λz e=>c z (by simp[e])]
theorem aFo: ∀x∈DS l,∃s,x=CU s:=by rw[Oi];intro x a;obtain⟨s,_,rfl⟩:=CP.1 a;exact⟨s,rfl⟩
def M7(o:Nat)(l:List ByteArray)(s:ByteArray)(t:V):V:=((t.AE 14).A0 o none).A0 t.next (some ⟨DS (l++[s]),true⟩)
theorem a3W{J:C5}{u:Ca}{t m bC bw:V}(a:BI J u t m)(c:bC.next=t.next+14)(d:bw.next=m.next+14):DI.KB J u bC bw t.next (m.next+3) where
 e :=by
  cases h:J t.next with
  |none=>rfl
  |some b=>have:=(a.B7 _ _ h).1;omega
 b o h:=by have:=(a.B7 _ _ h).2;omega
 f :=by
  cases h:u (m.next+3)with
  |none=>rfl
  |some cs=>obtain⟨⟨w,g⟩,_⟩:=a.AZ _ _ h;have:=F g;omega
 Mt:=by omega
 LA:=by omega
theorem a0D(y:l.length<1000000)(j:t.W o=some ⟨DS l,true⟩)
 (H:a7 (.tuple #[.slice (some ⟨t.next,0,none⟩) (l.length+1) 1,.bool (Lg l s)]) (M7 o l s t)):Bv U 136 [.slice (some ⟨o,0,none⟩) l.length 1,CU s] t a7:=by
 intro J u AB m f I;obtain⟨a6,w,rfl,L,M⟩:=I.ct;have N:=M.NV;subst N;have P:=F j;have n:=mP f 14;have z:(t.AE 14).W o=some ⟨DS l,true⟩:=by rw[DI.AU P];exact j
 have A:DS (l++[s])=DS l++[CU s]:=tf;have Q: ∀{J:C5},AJ u J (DS (l++[s])) (DS l++[CU s]):=by rw[A,<-A,Oi];exact AJ.BT (by simp[BB])
 have R: ∀c,((∃p,CO J t.next (m.next+3) p=some c)\/u c≠none)->c=m.next+3\/(c<m.next/\((∃p,J p=some c)\/u c≠none)):=by
  rintro c (⟨p,h⟩|a)
  ·unfold CO at h;split at h
   ·cases h;exact .inl rfl
   ·exact .inr ⟨(f.B7 _ _ h).2,.inl ⟨p,h⟩⟩
  ·obtain⟨cs,T⟩:=Option.ne_none_iff_exists'.1 a;obtain⟨⟨w,g⟩,_⟩:=f.AZ _ _ T;exact .inr ⟨F g,.inr a⟩
 have B: ∀(d:V) (k:Nat) (cK:V),d.next=m.next+14->d.mp=m.mp->(∀c,c<m.next->cK.W c=d.W c)->cK.next=d.next+k->cK.mp=d.mp->cK.W (m.next+3)=some ⟨DS l++[CU s],true⟩->
  BI J u ((t.AE 14).A0 o none) d->DI.Be t.next m.next J u t m J u ((t.AE 14).A0 o none) d->
  ∃S O r q,a7 r q/\BI S O q cK/\AW O S r (.tuple #[.slice (some ⟨m.next+3,0,none⟩) (l.length+1) 1,.bool (Lg l s)])/\DI.Be t.next m.next J u t m S O q cK:=by
  intro d k cK X AD C AF D Y Z A1;have E:=a3W (bC:=(t.AE 14).A0 o none) (bw:=d) f rfl X;have A2:=eb Z E Q;have A4:DI.Be t.next m.next J u t m (CO J t.next (m.next+3)) u (M7 o l s t) (d.A0 (m.next+3) (some ⟨DS l++[CU s],true⟩)):=A1.trans (yd E (Ao _) (by omega))
  refine⟨_,u,_,M7 o l s t,H,A2.kY (by rw[Ar];omega) (λc a=> ?_),AJ.tuple (AJ.cons (.slice (by simp[CO])) (AJ.cons (.BT rfl) AJ.nil)),A4.kY (by rw[Ar];omega) (λc a=> ?_)⟩
  ·rcases R c a with rfl|⟨a,_⟩
   ·rw[AT (by omega),Y];exact⟨rfl,by rw[D];rfl⟩
   ·rw[A3 (by omega),C c a,D];exact⟨rfl,rfl⟩
  ·rw[A3 (by omega),C c a]
 rcases L.Fk with⟨b,hb,_,rfl⟩|⟨_,_,A5,rfl⟩
 ·have G:m.W b=some ⟨DS l,true⟩:=by
   rcases f.Eh o _ j with⟨AL,cs,w,i,A6,A7,A8⟩|⟨i,_⟩
   ·rw[hb]at i;cases i;rw[A6,A7 rfl,ql A8 aFo]
   ·rw[hb]at i;cases i
  have AM:=F G;refine(vd (.inl ⟨b,rfl,G⟩) y).AG λA9 K ⟨v,k,x⟩=> ?_;subst v;subst x;refine B ((m.AE 14).A0 b none) k _ rfl rfl (λc a=> ?_) rfl rfl ?_ (nz n hb z rfl) ((az f 14).trans (UL n hb z rfl))
  ·rw[V.AU,A3 (by omega)];by_cases e:c=b
   ·subst e;show(((m.AE 14).A0 (m.next+2) _).A0 c none).W c=_;rw[AT (by simp;omega),AT (by simp;omega)]
   ·show(((m.AE 14).A0 (m.next+2) _).A0 b none).W c=_;rw[A3 e,A3 e,A3 (by omega)]
  ·rw[V.AU,AT];show m.next+3<m.next+14
   omega
 ·obtain rfl:l=[]:=Gy.1 A5;refine(vd (.inr ⟨rfl,rfl⟩) y).AG λA9 K ⟨v,k,x⟩=> ?_;subst v;subst x;refine B (m.AE 14) k _ rfl rfl (λc a=> ?_) rfl rfl ?_ (se n) ((az f 14).trans zi)
  ·rw[V.AU,A3 (by omega)];show((m.AE 14).A0 (m.next+2) _).W c=_;rw[A3 (by omega)]
  ·rw[V.AU,AT];show m.next+3<m.next+14
   omega
theorem aDX:DS l=DS T↔l=T:=by rw[Oi,Oi];exact Nf λa b h=>by cases h;rfl
open Classical in
noncomputable def Tw(o n:Nat)(s:ByteArray)(t:V)(x:Option Bw):Option (Value×V):=
 if h: ∃l:List ByteArray,l.length=n/\n<1000000/\x=some ⟨DS l,true⟩then some (.tuple #[.slice (some ⟨t.next,0,none⟩) (n+1) 1,.bool (Lg h.choose s)],M7 o h.choose s t)else none
@[simp] theorem aIl(h:l.length<1000000):
 Tw o l.length s t (some ⟨DS l,true⟩)=some (.tuple #[.slice (some ⟨t.next,0,none⟩) (l.length+1) 1,.bool (Lg l s)],M7 o l s t):=by
  have a: ∃T:List ByteArray,T.length=l.length/\l.length<1000000/\some (⟨DS l,true⟩:Bw)=some ⟨DS T,true⟩:=⟨l,rfl,h,rfl⟩;have b:a.choose=l:=by have:=congrArg (λx:Option Bw=>(x.map Bw.cells).getD []) a.choose_spec.2.2;exact(aDX.1 this).symm
  simp only[Tw,dif_pos a,b]
noncomputable def PY:DB U:= .B8 136 (Nat×Nat×ByteArray) (λ⟨o,n,s⟩=>[.slice (some ⟨o,0,none⟩) n 1,CU s])
 (λ⟨o,n,s⟩ t=>Tw o n s t (t.W o))
 λ⟨o,n,s⟩ t r f h a7 a=>by
   simp only[Tw]at h;split at h
   ·next b=>cases h;obtain⟨c,e,d⟩:=b.choose_spec;generalize b.choose=l at c d a;subst c;exact a0D e d a
   ·cases h
@[simp] theorem aMA:PY.f=136:=rfl
@[simp] theorem aHP{n:Nat}:PY.fn [.slice (some ⟨o,0,none⟩) n 1,CU s] t=Tw o n s t (t.W o):=
  DB.BD (x:=(o,n,s)) (t:=t) λ⟨b,c,d⟩ a=>by simp at a;obtain⟨⟨rfl,rfl⟩,rfl⟩:=a;rfl
theorem a62:EO (l++[s])=(EO l&&Lg l s):=by
 rw[Bool.eq_iff_iff];unfold EO Lg;have i:(H0 s l).isNone=true↔s∉l:=by
  constructor
  ·intro h f;have:=nx f;rw[Rl]at h;exact this h
  ·intro h;rw[gd h];rfl
 simp only[AB,Ba,List.all_append,Mz,i,Fz,List.all_nil,and_true];constructor
 ·rintro⟨⟨a,b⟩,c,_,d⟩;exact⟨⟨a,c⟩,b,λf=>d s f s (by simp) rfl⟩
 ·rintro⟨⟨a,c⟩,b,d⟩;exact⟨⟨a,b⟩,c,by simp,λx j y g=>by simp at g;subst g;exact λe=>d (e▸j)⟩
theorem yy(h:EO (l++T)=true):EO l=true:=by unfold EO at*;simp only[AB,Ba,List.all_append,Mz]at*;exact⟨h.1.1,h.2.1⟩
def N8:List Nat:=[1,3,4,5,6,7,17,18]
theorem WZ(b:N 1=A 1)(c:N 3=A 3)(d:N 4=A 4)(e:N 5=A 5)(f:N 6=A 6)(g:N 7=A 7)(h:N 17=A 17)(i:N 18=A 18): ∀k∈N8,N k=A k:= λk a=>by simp only[N8,CM,EK,or_false]at a;rcases a with rfl|rfl|rfl|rfl|rfl|rfl|rfl|rfl<;>assumption
theorem SM{a:A6}(h: ∀k∈N8,N k=A k)(c: ∀k∈N8,a k=N k): ∀k∈N8,a k=A k:= λk b=>(c k b).trans (h k b)
theorem a6C{j:Nat}(f:x.Aa[j]?=some v)(l:v∉x.Aa.take j)(D:x.Aa.length<1000000)(m:t0.W q=some ⟨B3 x,true⟩)(g:C 18=AA q)(h:C 19=Y j)(o:C 20=Y 0)(p:C 8= .bool true)
 (r: ∀A,(∀k∈N8,A k=C k)->A 19=C 19->A 8= .bool true->Q (.Ai 12) A t0):BY U (.loop aW) C t0 Q:=by
 have F:j<x.Aa.length:=(AX.1 f).1;have s:(j:Int)<x.Aa.length:=by omega
 have u:=(AX.1 f).2;refine CE (an:=⟨[],[]⟩) (λk A t=>t=t0/\(∀k∈N8,A k=C k)/\A 19=Y j/\A 20=Y k/\A 8= .bool true) j ?_ ?_ 0 C t0 (C0 _) ⟨rfl,λ_ _=>rfl,h,o,p⟩
 ·rintro k A t J ⟨rfl,a,b,c,d⟩ K w;have L:x.Aa[k]?=some x.Aa[k]:=AS (by omega);have y:=BX (n:=k) (by omega);have z:(k:Int)<j:=(by omega);have B:(k:Int)<x.Aa.length:=(by omega);have i:A 18=AA q:=(a 18 (by decide)).trans g;have e: ¬x.Aa[k]=v:= λe=>l (List.mem_iff_getElem.2 ⟨k,by rw[GC];omega,by rw[List.getElem_take];exact e⟩);simp(disch:=first|omega|simp only[AD];omega)[aW,B3,i,b,c,d,m,z,s,B,y,u,e,-H,-E,-I,-G,-List.map_map];exact w _ _ ⟨rfl,SM a (WZ (by simp) (by simp) (by simp) (by simp) (by simp) (by simp) (by simp) (by simp)),by simp[b],by simp,by simp⟩
 ·rintro A t ⟨rfl,a,b,c,d⟩;have i:A 18=AA q:=(a 18 (by decide)).trans g;simp(disch:=first|omega|simp only[AD];omega)[aW,b,c,-H,-E,-I,-G,-List.map_map];exact r _ (SM a (WZ (by simp) (by simp) (by simp) (by simp) (by simp) (by simp) (by simp) (by simp))) (by simp[b,h]) (by simp[d])
def n4(a:List Int)(n:Nat):Bool:=(a.all λm=>C6 m 0 ((n:Int)-1))&&decide a.Nodup
theorem a6Y{u:AY}(i:AY.CV u)(d:n4 x.Aa u.Aa.length=true)(l:x.Aa.length<1000000)(m:t0.W 0=some ⟨A4 u,true⟩)(e:t0.W q=some ⟨B3 x,true⟩)(o:C 1=AA 0)(h:C 18=AA q)(p:C 19=Y 0)(r:C 8= .bool true)
 (s: ∀A,(∀k∈N8,A k=C k)->A 8= .bool true->Q (.Ai 10) A t0):BY U (.loop b1) C t0 Q:=by
 have v:IntKind.i64.wrap ((u.Aa.length:Int)-1)=(u.Aa.length:Int)-1:=Ah (by omega) (by have:=i.BP;omega);simp only[n4,AB,BF,Ba]at d;refine CE (an:=⟨[L1],[]⟩) (λj A t=>t=t0/\(∀k∈N8,A k=C k)/\A 19=Y j/\A 8= .bool true) x.Aa.length ?_ ?_ 0 C t0 (C0 _) ⟨rfl,λ_ _=>rfl,p,r⟩
 ·rintro j A t f ⟨rfl,a,b,g⟩ M w;have y:x.Aa[j]?=some x.Aa[j]:=AS f;have z:=BX (n:=j) (by omega);have B:(j:Int)<x.Aa.length:=(by omega);have c:A 18=AA q:=(a 18 (by decide)).trans h;have D:A 1=AA 0:=(a 1 (by decide)).trans o;have F:=d.1 _ (Dc f);simp(disch:=first|omega|simp only[AD];omega)[b1,B3,A4,D,c,b,g,e,m,B,v,F,-H,-E,-I,-G,-List.map_map];refine a6C y (vw d.2 f) l e (by simp[c]) (by simp[b]) (by simp) (by simp) λN J K L=> ?_;simp(disch:=omega)[K,b,z];refine w _ _ ⟨rfl,SM (SM (SM a (WZ ?_ ?_ ?_ ?_ ?_ ?_ ?_ ?_)) J) (WZ ?_ ?_ ?_ ?_ ?_ ?_ ?_ ?_),?_,?_⟩;all_goals simp[L]
 ·rintro A t ⟨rfl,a,b,g⟩;have c:A 18=AA q:=(a 18 (by decide)).trans h;simp(disch:=omega)[b1,B3,c,b,e];exact s _ (SM a (WZ (by simp) (by simp) (by simp) (by simp) (by simp) (by simp) (by simp) (by simp))) (by simp[g])
theorem a7m{l:List X}{f:X->ByteArray}{x:X}(b:l[i]?=some x)(a:EO (dj++l.map f)=true):Lg (dj++(l.take i).map f) (f x)=true:=by
 have e:dj++l.map f=((dj++(l.take i).map f)++[f x])++(l.drop (i+1)).map f:=by
  conv=>lhs;rw[<-List.take_append_drop (i+1) l,MB b]
  simp
 rw[e]at a;have:=yy a;rw[a62,AB]at this;exact this.2
theorem T7{u:AY}{l:List X}{BP:X->ByteArray}{w off:Nat}(m:3<=d)(p:d<=7)(A0:l.length<=1000)(z:DF u dU B C t0)(A1:(B d).length<=10000)(D:EO (B d++l.map BP)=true)
 (j:C c=Y off) (A2:off<=1)
 (body: ∀(i k:Nat) (A3:k=i+off) (r:i<l.length) (A:A6) (t:V) (o:Nat) (L:List ByteArray),l[i]?=some l[i]->IntKind.i64.wrap ((k:Int)+1)=(k:Int)+1->A 1=AA 0->A 8= .bool true->A d= .slice (some ⟨o,0,none⟩) L.length 1->t.W 0=some ⟨A4 u,true⟩->t.W o=some ⟨DS L,true⟩->0<t.next->o<t.next->o≠0->L.length<1000000->Lg L (BP l[i])=true->A c=Y k-> ∀q:A6->V->Prop,
  (∀N f o',(∀k∈KR,k≠d->N k=A k)->N 8= .bool true->N d= .slice (some ⟨o',0,none⟩) (L.length+1) 1->f.W o'=some ⟨DS (L++[BP l[i]]),true⟩->t.next<=o'->t.next<=f.next->(∀b,b<t.next->b≠o->f.W b=t.W b)->N c=Y ((k:Int)+1)->q N f)->ED an Z A t (Li q Q))
 (done: ∀(A:A6) (t:V) (k:Nat),k=l.length+off->A 1=AA 0->A 8= .bool true->t.W 0=some ⟨A4 u,true⟩->0<t.next->A c=Y k->(∀N,(∀k∈KR,N k=A k)->N 8=A 8->Q (.Ai w) N t)->ED an Z A t (Li (λ_ _=>False) Q))
 (E: ∀A t h,DF u h (DC B d (B d++l.map BP)) A t->Q (.Ai w) A t):BY U (.loop Z) C t0 Q:=by
 refine CE (an:=an) (λi A t=> ∃h,DF u h (DC B d (B d++(l.take i).map BP)) A t/\A c=Y ((i+off:Nat):Int)) l.length ?_ ?_ 0 C t0 (C0 _) ⟨dU,?_,by simpa using j⟩
 ·rintro i A t r ⟨h,a,j⟩ q G;have s:l[i]?=some l[i]:=AS r;have v:=a.g d m p;have x:=a.cR d m p;have y:= λ(o':Nat) (N:A6) (f:V)=>DF.step a d m p (o:=o') (A:=N) (t:=f) (PS:=[BP l[i]]) (n:=1) rfl;rw[Nh]at v x y;have A7:(B d++(l.take i).map BP).length<20000:=(by rw[Ds,Eb,GC];omega);refine body i (i+off) rfl r A t (h d) _ s (Ah (by omega) (by omega)) a.ET a.GJ x a.Cr v (F a.Cr) (F v) (a.Wf d m p) (by omega) (a7m s D) j q λN f o' H I J K M O P R=> ?_;have:=y o' N f H I (by rw[J]) K (.inr M) O P;rw[wq,wH s]at this;exact G _ _ ⟨_,this,by rw[R];congr 1;omega⟩
 ·rintro A t ⟨h,a,j⟩;rw[EP]at a;exact done A t _ rfl a.ET a.GJ a.Cr (F a.Cr) j λN S T=>E _ _ h (a.Km T S)
 ·have:DC B d (B d++(l.take 0).map BP)=B:=by
   funext k;by_cases e:k=d
   ·subst e;simp
   ·rw[JO e]
  rw[this];exact z
theorem a2T{u:AY}(h:AY.CV u)(l:u.Bz.all F1.Md=true)(m:DF u dU B C t0)(n:(B 3).length<=10000)(p:EO (B 3++u.Bz.map (·.name))=true)(a:C 9=Y 0)
 (q: ∀A t r,DF u r (DC B 3 (B 3++u.Bz.map (·.name))) A t->Q (.Ai 0) A t):BY U (.loop du) C t0 Q:=by
 refine T7 (off:=0) (an:=⟨[kq],[PY]⟩) (by decide) (by decide) h.mT m n p (by simpa using a) (by decide) ?_ ?_ q
 ·intro i k f g A t o L O s c j v e w x P R S y a T z;obtain rfl:k=i:=f;have D:(k:Int)<u.Bz.length:=(by omega);have V:=h.Bz _ (Dc g);have F:=BF.1 l _ (Dc g);simp(disch:=first|omega|simp only[DI.A2];omega)[du,mH,A4,Cc,M7,c,j,a,v,e,w,D,s,y,F,-H,-E,-I,-G,-List.map_map];refine z _ _ (t.next) (Kq (d:=3) ?_ ?_ ?_ ?_ ?_ ?_) ?_ ?_ ?_ (by omega) ?_ (λb hb J=> ?_) ?_
  all_goals first
   |(intro K;first|(exact absurd rfl K)|(simp;done))
   |(simp(disch:=first|omega|simp only[DI.A2];omega)[-H,-E,-I,-G,-List.map_map];done)
   |(simp(disch:=first|omega|simp only[DI.A2];omega)[hb,J,-H,-E,-I,-G,-List.map_map];done)
   |(simp(disch:=first|omega|simp only[DI.A2];omega)[-H,-E,-I,-G,-List.map_map];omega)
 ·intro A t k f c j e x a M;have N: ¬(k:Int)<u.Bz.length:=(by omega);simp(disch:=first|omega|simp only[DI.A2];omega)[du,mH,A4,c,a,e,N,-H,-E,-I,-G,-List.map_map];exact M _ (G4 (by simp) (by simp) (by simp) (by simp) (by simp) (by simp)) (by simp)
theorem a4r{u:AY}(h:AY.CV u)(l:u.Aa.all (OT u.Bz.length)=true)(m:DF u dU B C t0)(n:(B 4).length<=10000)(p:EO (B 4++u.Aa.map (·.name))=true)(a:C 10=Y 0)
 (q: ∀A t r,DF u r (DC B 4 (B 4++u.Aa.map (·.name))) A t->Q (.Ai 2) A t):BY U (.loop bK) C t0 Q:=by
 refine T7 (off:=0) (an:=⟨[L1],[PY]⟩) (by decide) (by decide) h.BP m n p (by simpa using a) (by decide) ?_ ?_ q
 ·intro i k g s A t o L T v c j w e x y V W X z a Z D;obtain rfl:k=i:=g;have F:(k:Int)<u.Aa.length:=(by omega);have J:IntKind.i64.wrap ((u.Bz.length:Int)-1)=(u.Bz.length:Int)-1:=Ah (by omega) (by have:=h.mT;omega);have f:=BF.1 l _ (Dc s);simp only[OT,AB]at f;obtain⟨K,M,N⟩:=f;simp(disch:=first|omega|simp only[DI.A2];omega)[bK,A4,Ce,M7,c,j,a,w,e,x,F,v,z,J,K,M,N,-H,-E,-I,-G,-List.map_map];refine D _ _ (t.next+7) (Kq (d:=4) ?_ ?_ ?_ ?_ ?_ ?_) ?_ ?_ ?_ (by omega) ?_ (λb hb O=> ?_) ?_
  all_goals first
   |(intro P;first|(exact absurd rfl P)|(simp;done))
   |(simp(disch:=first|omega|simp only[DI.A2];omega)[-H,-E,-I,-G,-List.map_map];done)
   |(simp(disch:=first|omega|simp only[DI.A2];omega)[hb,O,-H,-E,-I,-G,-List.map_map];done)
   |(simp(disch:=first|omega|simp only[DI.A2];omega)[-H,-E,-I,-G,-List.map_map];omega)
 ·intro A t k g c j e y a R;have S: ¬(k:Int)<u.Aa.length:=(by omega);simp(disch:=first|omega|simp only[DI.A2];omega)[bK,A4,c,a,e,S,-H,-E,-I,-G,-List.map_map];exact R _ (G4 (by simp) (by simp) (by simp) (by simp) (by simp) (by simp)) (by simp)
theorem a4l{u:AY}(h:AY.CV u)(q:u.A1.all (Od u.Aa.length u.A5)=true)(r:DF u dU B C t0)(s:(B 5).length<=10000)(v:EO (B 5++u.A1.map (·.name))=true)(a:C 15=Y 0)
 (w: ∀A t x,DF u x (DC B 5 (B 5++u.A1.map (·.name))) A t->Q (.Ai 6) A t):BY U (.loop fG) C t0 Q:=by
 refine T7 (off:=0) (an:=⟨[L1],[PY]⟩) (by decide) (by decide) h.Ek r s v (by simpa using a) (by decide) ?_ ?_ w
 ·intro i k m y A t o L A6 z j n D l F J A7 A8 A9 K a AD M;obtain rfl:k=i:=m;have N:(k:Int)<u.A1.length:=(by omega);have O:IntKind.i64.wrap ((u.Aa.length:Int)-1)=(u.Aa.length:Int)-1:=Ah (by omega) (by have:=h.BP;omega);have P:IntKind.i64.wrap ((u.A5.length:Int)-1)=(u.A5.length:Int)-1:=Ah (by omega) (by have:=h.DD;omega);have f:=BF.1 q _ (Dc y);simp only[Od,AB]at f;obtain⟨R,e,g⟩:=f;obtain⟨c,p⟩:=DP (K3.1 e).1;rw[p]at e g;have S:c<u.A5.length:=(by have:=K3.1 e;omega);have T:(c:Int)<u.A5.length:=(by omega);have V:u.A5[c]?=some u.A5[c]:=AS S;have W:u.A5[c].EH=4:=(by unfold WW at g;rw[EE,V]at g;simpa using g);simp(disch:=first|omega|simp only[DI.A2];omega)[fG,A4,CB,M7,j,n,a,D,l,F,N,z,K,O,P,Bd,R,e,p,T,W,-H,-E,-I,-G,-List.map_map];refine M _ _ (t.next+7) (Kq (d:=5) ?_ ?_ ?_ ?_ ?_ ?_) ?_ ?_ ?_ (by omega) ?_ (λb hb X=> ?_) ?_
  all_goals first
   |(intro Z;first|(exact absurd rfl Z)|(simp;done))
   |(simp(disch:=first|omega|simp only[DI.A2];omega)[-H,-E,-I,-G,-List.map_map];done)
   |(simp(disch:=first|omega|simp only[DI.A2];omega)[hb,X,-H,-E,-I,-G,-List.map_map];done)
   |(simp(disch:=first|omega|simp only[DI.A2];omega)[-H,-E,-I,-G,-List.map_map];omega)
 ·intro A t k m j n l J a A0;have A3: ¬(k:Int)<u.A1.length:=(by omega);simp(disch:=first|omega|simp only[DI.A2];omega)[fG,A4,j,a,l,A3,-H,-E,-I,-G,-List.map_map];exact A0 _ (G4 (by simp) (by simp) (by simp) (by simp) (by simp) (by simp)) (by simp)
theorem aBN{u:AY}(h:AY.CV u)(l:u.A7.all (Pz u.Ay.length)=true)(m:DF u dU B C t0)(n:(B 7).length<=10000)(p:EO (B 7++u.A7.map (·.name))=true)(a:C 21=Y 0)
 (q: ∀A t r,DF u r (DC B 7 (B 7++u.A7.map (·.name))) A t->Q (.Ai 14) A t):BY U (.loop bV) C t0 Q:=by
 refine T7 (off:=0) (an:=⟨[L1],[PY]⟩) (by decide) (by decide) h.F4 m n p (by simpa using a) (by decide) ?_ ?_ q
 ·intro i k f s A t o L P v c g w e x y R S T z a V D;obtain rfl:k=i:=f;have F:(k:Int)<u.A7.length:=(by omega);have J:IntKind.i64.wrap ((u.Ay.length:Int)-1)=(u.Ay.length:Int)-1:=Ah (by omega) (by have:=h.hH;omega);have j:=BF.1 l _ (Dc s);simp only[Pz]at j;simp(disch:=first|omega|simp only[DI.A2];omega)[bV,A4,Cd,M7,c,g,a,w,e,x,F,v,z,J,j,-H,-E,-I,-G,-List.map_map];refine D _ _ (t.next) (Kq (d:=7) ?_ ?_ ?_ ?_ ?_ ?_) ?_ ?_ ?_ (by omega) ?_ (λb hb K=> ?_) ?_
  all_goals first
   |(intro M;first|(exact absurd rfl M)|(simp;done))
   |(simp(disch:=first|omega|simp only[DI.A2];omega)[-H,-E,-I,-G,-List.map_map];done)
   |(simp(disch:=first|omega|simp only[DI.A2];omega)[hb,K,-H,-E,-I,-G,-List.map_map];done)
   |(simp(disch:=first|omega|simp only[DI.A2];omega)[-H,-E,-I,-G,-List.map_map];omega)
 ·intro A t k f c g e y a N;have O: ¬(k:Int)<u.A7.length:=(by omega);simp(disch:=first|omega|simp only[DI.A2];omega)[bV,A4,c,a,e,O,-H,-E,-I,-G,-List.map_map];exact N _ (G4 (by simp) (by simp) (by simp) (by simp) (by simp) (by simp)) (by simp)
theorem a52{u:AY}(h:AY.CV u)(a:u.A5=R::ds)(z:KU u.A5=true)(D:DF u dU B C t0)(F:(B 5).length<=10000)(J:EO (B 5++ds.map (·.name))=true)(f:C 13=Y 1)
 (K: ∀A t M,DF u M (DC B 5 (B 5++ds.map (·.name))) A t->Q (.Ai 4) A t):BY U (.loop cB) C t0 Q:=by
 refine T7 (off:=1) (an:=⟨[L1,eL],[PY]⟩) (by decide) (by decide) (by have:=h.DD;rw[a]at this;simp at this;omega) D F J (by simpa using f) (by decide) ?_ ?_ K
 ·intro i k v AG A t o L c N m w O n P S AH AJ AK p f AL q;have AM:u.A5.length=ds.length+1:=(by rw[a];rfl);have j:=rJ (a▸z) c;rw[<-a]at j;obtain⟨e,l⟩: ∃e,e=ds[i]:=⟨_,rfl⟩;rw[<-l]at c p q j;have c:u.A5[k]?=some e:=(by rw[v,a,RE];exact c);have AN:k<u.A5.length:=(by omega);have T:=(AX.1 c).2;have V:IntKind.i64.wrap ((k:Int)-1)=(i:Int):=(by rw[show(k:Int)-1=i by omega];exact Ah (by have:=h.DD;omega) (by have:=h.DD;omega));have W:(k:Int)<u.A5.length:=(by omega);have X:e.HH.B1:=h.A5 e (B9 c);clear l;obtain⟨AO,r,AP,AQ,⟨AR,AT,AU⟩⟩:=e;simp only[Nx,AB]at j X p q;obtain⟨x,s,y,Z,A0⟩:=j;have AV:=K3.1 y;have A1:IntKind.i64.wrap (r-1)=r-1:=Ah (by omega) (by omega);have A3:=K3.1 x;obtain⟨g,rfl⟩:=DP A3.1;have A6:g<u.A5.length:=(by omega);have A7:(g:Int)<u.A5.length:=(by omega);have A8:u.A5[g]?=some u.A5[g]:=AS A6;have A9:u.A5[g].EH=r-1:=(by unfold UC at s;simp only[EE,A8]at s;simpa using s);simp(disch:=first|omega|simp only[DI.A2];omega)[cB,A4,Bd,M7,m,w,f,O,n,P,W,N,p,V,T,y,x,A1,A7,A9,Z,A0,-H,-E,-I,-G,-List.map_map];refine q _ _ (t.next+7) (Kq (d:=5) ?_ ?_ ?_ ?_ ?_ ?_) ?_ ?_ ?_ (by omega) ?_ (λb hb AD=> ?_) ?_
  all_goals first
   |(intro AE;first|(exact absurd rfl AE)|(simp;done))
   |(simp(disch:=first|omega|simp only[DI.A2];omega)[-H,-E,-I,-G,-List.map_map];done)
   |(simp(disch:=first|omega|simp only[DI.A2];omega)[hb,AD,-H,-E,-I,-G,-List.map_map];done)
   |(simp(disch:=first|omega|simp only[DI.A2];omega)[-H,-E,-I,-G,-List.map_map];omega)
 ·intro A t k v m w n S f l;have AF: ¬(k:Int)<u.A5.length:=(by rw[a];simp;omega);simp(disch:=first|omega|simp only[DI.A2];omega)[cB,A4,m,f,n,AF,-H,-E,-I,-G,-List.map_map];exact l _ (G4 (by simp) (by simp) (by simp) (by simp) (by simp) (by simp)) (by simp)
theorem aBb{u:AY}(h:AY.CV u)(V:u.Ay.all (JW · u.Aa.length)=true)(W:DF u dU B C t0)(X:(B 6).length<=10000)(Z:EO (B 6++u.Ay.map (·.name))=true)(g:C 17=Y 0)
 (A0: ∀A t A1,DF u A1 (DC B 6 (B 6++u.Ay.map (·.name))) A t->Q (.Ai 8) A t):BY U (.loop e4) C t0 Q:=by
 refine T7 (off:=0) (an:=⟨[nX,hh],[PY]⟩) (by decide) (by decide) h.hH W X Z (by simpa using g) (by decide) ?_ ?_ A0
 ·intro i k K M A t o L A3 A5 j N A6 l A7 A8 AR AS AT p g AU r;obtain rfl:k=i:=K;have A9:(k:Int)<u.Ay.length:=(by omega);have s:=BF.1 V _ (Dc M);obtain⟨v,w,y,z⟩:=h.Ay _ (Dc M);obtain⟨x,D⟩: ∃x,x=u.Ay[k]:=⟨_,rfl⟩;rw[<-D]at A3 p r s v w y z;have AD:u.Ay[k]=x:=D.symm;clear D;obtain⟨BP,AE,m,q,⟨a,b,c,d,e⟩,n,F,⟨O,P,R⟩,⟨S,T,hb⟩⟩:=x;simp only[JW,AB,Iz]at s v w y z p r;obtain⟨J,AF,AG,AH⟩:=s;have AV: ¬n.length=0:= λe=>by rw[<-List.isEmpty_iff_length_eq_zero,AF]at e;cases e
  have AW:(0:Int)<n.length:=(by omega);have AJ:0<n.length:=(by omega);have AX:(0<=m/\m<=4)/\((∀x∈F,x.B1)/\F.length<1000000)/\(Ac.mk O P R).B1/\(Ac.mk S T hb).B1:=⟨K3.1 (by simp only[Fc,AB]at J;exact J.2.1),v,w,y⟩;simp(disch:=first|omega|simp only[DI.A2];omega)[e4,A4,B3,M7,j,N,g,A6,l,A7,A9,p,AD,J,AG,AJ,-H,-E,-I,-G,-List.map_map];refine a6Y h (x:=⟨BP,AE,m,q,⟨a,b,c,d,e⟩,n,F,⟨O,P,R⟩,⟨S,T,hb⟩⟩) (q:=t.next+5) (by simpa only[n4,AB]using AH) z (by simp(disch:=first|omega|simp only[DI.A2];omega)[l,-H,-E,-I,-G,-List.map_map]) (by simp(disch:=first|omega|simp only[DI.A2];omega)[B3,-H,-E,-I,-G,-List.map_map]) (by simp[j]) (by simp) (by simp) (by simp) λAK f AL=> ?_;have AM:AK 17=Y k:=(f 17 (by decide)).trans (by simp[g]);simp(disch:=first|omega|simp only[DI.A2];omega)[AM,A5,-H,-E,-I,-G,-List.map_map];refine r _ _ (t.next+7) (Kq (d:=6) ?_ ?_ ?_ ?_ ?_ ?_) ?_ ?_ ?_ (by omega) ?_ (λb hb AN=> ?_) ?_
  all_goals first
   |(intro AO;first|(exact absurd rfl AO)|(simp[f 1 (by decide),f 3 (by decide),f 4 (by decide),f 5 (by decide),f 7 (by decide)];done))
   |(simp(disch:=first|omega|simp only[DI.A2];omega)[f 6 (by decide),AL,-H,-E,-I,-G,-List.map_map];done)
   |(simp(disch:=first|omega|simp only[DI.A2];omega)[hb,AN,-H,-E,-I,-G,-List.map_map];done)
   |(simp(disch:=first|omega|simp only[DI.A2];omega)[-H,-E,-I,-G,-List.map_map];omega)
 ·intro A t k K j N l A8 g AP;have AQ: ¬(k:Int)<u.Ay.length:=(by omega);simp(disch:=first|omega|simp only[DI.A2];omega)[e4,A4,j,g,l,AQ,-H,-E,-I,-G,-List.map_map];exact AP _ (G4 (by simp) (by simp) (by simp) (by simp) (by simp) (by simp)) (by simp)
theorem a2n{x:Be}(b:0<=x.n):(x.ok&&decide (IN x .nil=0))=(x.small&& !decide (0<x.n)):=by
 simp only[Be.ok,Be.small,Bool.true_and,wT b];by_cases a:x.n=0
 ·simp[a]
 ·have:0<x.n:=(by omega);simp[a,this]
theorem DF.a7i{u:AY}{c:V}(h:DF u dU B A t)(g:N 8=A 8)(i: ∀k∈KR,N k=A k)(d: ∀o,o<t.next->c.W o=t.W o):DF u dU B N c:=by obtain⟨j,l,e,m,f,n,p⟩:=h.Km g i;exact⟨j,l,(d _ (F e)).trans e,m,λk a b=>(d _ (F (f k a b))).trans (f k a b),n,p⟩
theorem a6g{a b e f:Nat}:Kw a b c d e f=(decide (a<=4)&&(decide (b<=4)&&(decide (c<=40)&&(decide (d<=24)&&(decide (e<=4)&&decide (f<=12)))))):=by
 unfold Kw;congr 1
 ·exact decide_eq_decide.2 (by omega)
 congr 1
 ·exact decide_eq_decide.2 (by omega)
 congr 1
 ·exact decide_eq_decide.2 (by omega)
 congr 1
 ·exact decide_eq_decide.2 (by omega)
 congr 1
 ·exact decide_eq_decide.2 (by omega)
 ·exact decide_eq_decide.2 (by omega)
theorem a1L{u:AY}(h:AY.CV u)(c:u.A5[0]?=some R)(a:NH R=true)(b:DF u dU B A t)
 (n: ∀N e,DF u dU B N e->ED (P:=U) ⟨[L1,VK,W5,QD],[]⟩ fX N e Q):ED (P:=U) ⟨[L1,VK,W5,QD],[]⟩ db A t Q:=by
 have p:0<u.A5.length:=(AX.1 c).1;have C:(0:Int)<u.A5.length:=by omega
 have q:=(AX.1 c).2;have d:R.HH.B1:=h.A5 R (B9 c);have r:=b.ET;have f:=b.GJ;have g:=b.Cr;have D:=F g;have i:=a2n (x:=R.HH.AZ) (Ac.aCx d);obtain⟨E,G,H,I,⟨j,k,l⟩⟩:=R;simp only[NH]at d i a;rw[<-i]at a;simp only[AB,Ba]at a;obtain⟨s,v,w,y,m,z⟩:=a;have J:(Ac.mk j k l).B1/\(Ac.mk j k l).AZ.ok=true:=⟨d,m⟩;simp(disch:=first|omega|simp only[DI.A2];omega)[db,db,A4,Bd,r,f,g,p,q,s,v,w,y,m,z];exact n _ _ (b.a7i (by simp[f]) (G4 (by simp) (by simp) (by simp) (by simp) (by simp) (by simp)) (λo K=>by simp(disch:=omega)))
theorem zG{u:AY}(h:AY.CV u)(f:HO u=true):AL U 87 [.agg (A4 u).toArray] (.bool true):=by
 simp only[HO,AB,Ba]at f;obtain⟨g,i,j,d,k,l,m,c,n,o,a3,a4,p,q,r,e,s,v⟩:=f;refine BG (Ak (an:=⟨[L1,VK,W5,QD],[]⟩) aDu (by kernel_rfl) (by simp[kT]) ?_);have w:Kw u.Bz.length u.Aa.length u.A5.length u.A1.length u.Ay.length u.A7.length=true:=by rw[a6g];simp[i,j,d,k,l,m]
 obtain⟨R,ds,b⟩: ∃R ds,u.A5=R::ds:=by
  cases x:u.A5 with
  |nil=>rw[x]at c;cases c
  |cons R ds=>exact⟨R,ds,rfl⟩
 have y:NH R=true:=by rw[b,lI,AB]at c;exact c.1
 have z:u.A5.tail=ds:=by rw[b];rfl
 rw[z]at e;have B: ¬u.A5.length=0:=by rw[b];simp
 have E: ¬(u.A5.length:Int)=0:=by omega
 have F:(0:Int)<u.A5.length:=by omega
 have G:0<u.A5.length:=by omega
 have C:u.A5[0]?=some R:=by rw[b];rfl
 have H:ds.length<=39:=by rw[b]at d;simp at d;omega
 simp[kT,uh,A4,g,w,B];refine yL (u:=u) (by simp) (by simp) (by simp) (by simp) (by simp) (by simp) (by simp) (by simp[A4]) λA t dU a D=> ?_;refine a2T h n a (by simp) q ((D 9 (by decide)).trans (by simp)) λA t dU a=> ?_;simp[rA];refine a4r h o (a.Km (by simp) (G4 (by simp) (by simp) (by simp) (by simp) (by simp) (by simp))) (by simp[DC]<;>omega) (by simpa[DC]using r) (by simp) λA t dU a=> ?_;refine a1L h C y a λA t a=> ?_;simp[fX];refine a52 h b c (a.Km (by simp) (G4 (by simp) (by simp) (by simp) (by simp) (by simp) (by simp))) (by simp[DC]<;>omega) (by simpa[DC]using(yy e)) (by simp) λA t dU a=> ?_;simp[qt];refine a4l h a3 (a.Km (by simp) (G4 (by simp) (by simp) (by simp) (by simp) (by simp) (by simp))) (by simp[DC]<;>omega) (by simpa[DC]using e) (by simp) λA t dU a=> ?_;simp[sx];refine aBb h a4 (a.Km (by simp) (G4 (by simp) (by simp) (by simp) (by simp) (by simp) (by simp))) (by simp[DC]<;>omega) (by simpa[DC]using s) (by simp) λA t dU a=> ?_;simp[sL];refine aBN h p (a.Km (by simp) (G4 (by simp) (by simp) (by simp) (by simp) (by simp) (by simp))) (by simp[DC]<;>omega) (by simpa[DC]using v) (by simp) λA t dU a=> ?_;simp[uu,a.GJ]
noncomputable def Jj(u:AY)(h:AY.CV u):AK U:= .B8 87 Unit (λ_=>HO u=true) (λ_=>[.agg (A4 u).toArray]) (λ_=> .bool true) λ_ a=>zG h a
@[simp] theorem aKs{u:AY}{h:AY.CV u}:(Jj u h).f=87:=rfl
@[simp] theorem aNR{u:AY}{h:AY.CV u}(a:HO u=true):(Jj u h).fn [.agg #[Y u.ext,M (u.Bz.map Cc) 4,M (u.Aa.map Ce) 4,M (u.A5.map Bd) 7,M (u.A1.map CB) 3,M (u.Ay.map B3) 17,M (u.A7.map Cd) 2]]=some (.bool true):=AK.BD (x:=()) a λ_ _=>rfl
def D3(u:AY)(i:Nat):Nat:=match u.A5[i]? with|some d=>d.parent.toNat|none=>0
def Cb(u:AY)(i:Nat):Int:=match u.A5[i]? with|some d=>d.EH|none=>0
structure BW(u:AY):Prop where
 MC:HO u=true
 mT:u.Bz.length<=4
 BP:u.Aa.length<=4
 DD:u.A5.length<=40
 Ek:u.A1.length<=24
 hH:u.Ay.length<=4
 F4:u.A7.length<=12
 Di:0<u.A5.length
 Lv:Cb u 0=0/\ ∀d,u.A5[0]?=some d->d.parent= -1/\d.EH=0
 Fq: ∀(i:Nat) (d:Dj),0<i->u.A5[i]?=some d->0<=d.parent/\d.parent<i/\Cb u d.parent.toNat=d.EH-1/\1<=d.EH/\d.EH<=4
 Lx: ∀(i:Nat) (x:IM),u.A1[i]?=some x->0<=x.model/\x.model<u.Aa.length/\0<=x.Qz/\x.Qz<u.A5.length/\Cb u x.Qz.toNat=4
 Xy: ∀(i:Nat) (x:RT),u.Aa[i]?=some x->1<=x.ext/\x.ext<=16
 JD: ∀(i:Nat) (x:Dw),u.Ay[i]?=some x->Fc x.k x.m x.q x.D9=true/\x.Aa≠[]/\(∀m∈x.Aa,0<=m/\m<u.Aa.length)/\x.Aa.Nodup
 Au: ∀(i:Nat) (x:Je),u.A7[i]?=some x->0<=x.JD/\x.JD<u.Ay.length
theorem GQ{x a b:Int}(h:C6 x a b=true):a<=x/\x<=b:=K3.1 h
theorem aCt{u:AY}(h:HO u=true):BW u:=by
 have y:=h;simp only[HO,AB,Ba]at h;obtain⟨M,z,A,B,C,D,E,c,N,F,G,H,I,O,P,Q,S,T⟩:=h;unfold KU at c;cases f:u.A5 with
 |nil=>rw[f]at c;cases c
 | cons R l=>
   rw[f]at c;simp only[AB]at c;obtain⟨n,J⟩:=c;simp only[NH,AB,Ba]at n;have r:u.A5[0]?=some R:=(by rw[f];rfl);have o: ∀i q,u.A5[i]?=some q->Cb u i=q.EH:= λi q g=>by simp only[Cb,g]
   refine⟨y,z,A,B,C,D,E,by rw[f];simp,⟨by rw[o 0 R r];exact n.2.1,λd s=>by rw[r]at s;cases s;exact⟨n.2.2.1,n.2.1⟩⟩,λi d U a=> ?_,λi x a=> ?_,λi x a=> ?_,λi x a=> ?_,λi x a=> ?_⟩
   ·obtain⟨j,rfl⟩: ∃j,i=j+1:=⟨i-1,by omega⟩;have t:l[j]?=some d:=(by rw[f,RE]at a;exact a);have:=BF.1 J j (FX.2 (AX.1 t).1);rw[t]at this;simp only[Nx,AB]at this;obtain⟨k,b,a3,a4,v⟩:=this;have p:=GQ k;have w:=GQ a3;refine⟨p.1,by omega,?_,w.1,w.2⟩;unfold UC at b;split at b
    ·next q g=>rw[o _ q (by rw[f];exact g)];exact of_decide_eq_true b
    ·cases b
   ·have:=BF.1 G x (B9 a);simp only[Od,AB]at this;obtain⟨k,b,a3⟩:=this;have p:=GQ k;have K:=GQ b;refine⟨p.1,by omega,K.1,by omega,?_⟩;unfold WW at a3;split at a3
    ·next q g=>rw[o _ q g];exact of_decide_eq_true a3
    ·cases a3
   ·have:=BF.1 F x (B9 a);simp only[OT,AB]at this;exact GQ this.1
   ·have:=BF.1 H x (B9 a);simp only[JW,AB,Ba]at this;obtain⟨k,b,a3,a4,v⟩:=this;refine⟨k,by intro e;rw[e]at b;simp at b,λm L=> ?_,v⟩;have:=GQ (BF.1 a4 m L);exact⟨this.1,by omega⟩
   ·have:=BF.1 I x (B9 a);simp only[Pz]at this;have:=GQ this;exact⟨this.1,by omega⟩
variable {u:AY}
theorem BW.zE(h:BW u){i:Nat}(b:i<u.A5.length):0<=Cb u i/\Cb u i<=4:=by
 have a:u.A5[i]?=some u.A5[i]:=AS b;have e:Cb u i=u.A5[i].EH:=by simp only[Cb,a]
 cases i with
 |zero=>rw[h.Lv.1];omega
 |succ i=>rw[e];have:=h.Fq _ _ (by omega) a;omega
theorem BW.Gu(h:BW u){i:Nat}(b:i<u.A5.length)(c:0<Cb u i):D3 u i<i/\Cb u (D3 u i)=Cb u i-1/\0<i:=by
 have a:u.A5[i]?=some u.A5[i]:=AS b;have e:Cb u i=u.A5[i].EH:=by simp only[Cb,a]
 have d:D3 u i=u.A5[i].parent.toNat:=by simp only[D3,a]
 cases i with
 |zero=>rw[h.Lv.1]at c;omega
 | succ i=>have:=h.Fq _ _ (by omega) a;rw[d,e];refine⟨by omega,this.2.2.1,by omega⟩
theorem BW.HV(h:BW u)(b:i<u.A5.length)(c:0<i):0<Cb u i:=by
 have a:u.A5[i]?=some u.A5[i]:=AS b;have e:Cb u i=u.A5[i].EH:=by simp only[Cb,a]
 have:=h.Fq _ _ c a;omega
def F3(u:AY)(a:Int):Nat->Nat->Nat
 |0,i=>i
 |k+1,i=>if Cb u i>a then F3 u a k (D3 u i)else i
theorem oS(h:BW u){d:Int}(j:0<=d): ∀{k fC i:Nat},i<u.A5.length->Cb u i<=d+k->Cb u i<=d+fC->F3 u d k i=F3 u d fC i
 |0,0,i,_,_,_=>rfl
 | 0,fC+1,i,e,f,g=>by unfold F3;rw[if_neg (by omega)]
 | k+1,0,i,e,f,g=>by unfold F3;rw[if_neg (by omega)]
 | k+1,fC+1,i,e,f,g=>by
   unfold F3;split
   ·next l=>obtain⟨a,b,c⟩:=h.Gu e (by omega);exact oS h j (by omega) (by omega) (by omega)
   ·rfl
def CJ(u:AY)(d:Nat):Nat:=match u.A1[d]? with|some x=>x.Qz.toNat|none=>0
def JT(u:AY)(d:Nat):Int:=match u.A1[d]? with
 |some x=>(match u.Aa[x.model.toNat]? with|some m=>m.ext|none=>0)
 |none=>0
def BV(u:AY)(Ab:List Int):List Int:=(List.range u.A1.length).map λd=>if Ab.length=u.A1.length then max 0 (min (Ab.getD d 0) (JT u d))else JT u d
def BZ(u:AY)(L:List (List Int)):List Int:=(List.range u.A1.length).map λd:Nat=>((L.flatten.count (d:Int):Nat):Int)
def CS(u:AY)(v:Nat):Int:=match u.A7[v]? with
 |some x=>(match u.Ay[x.JD.toNat]? with|some p=>p.k+p.m|none=>0)
 |none=>0
def HR(u:AY)(v:Nat)(r:List Int):Bool:=decide ((r.length:Int)=CS u v)&&r.all λx=>decide (-1<=x)&&decide (x<u.A1.length)
def EN(u:AY)(L:List (List Int)):Bool:=decide (L.length=u.A7.length)&&(List.range L.length).all λv=>match L[v]? with
 |some r=>HR u v r
 |none=>true
theorem aAL{u:AY}(h:BW u){j:Int}(M:0<=j): ∀(k i:Nat) (A:A6) (t:V),i<u.A5.length->Cb u i<=j+k->t.W 0=some ⟨A4 u,true⟩->A 3=AA 0->A 7=Y i->A 2=Y j->(∀N w,N 7=Y (F3 u j k i)->Q (.Ai 0) N w)->BY U (.loop V1) A t Q:=by
 intro k;induction k with
 | zero=>intro i A t o B f m l n q;refine BU (an:=⟨[],[]⟩) λC x=> ?_;obtain⟨d,g⟩:=CF o;have r:=(AX.1 g).2;have e:Cb u i=d.EH:=(by simp only[Cb,g]);have s:(i:Int)<u.A5.length:=(by omega);have v: ¬j<d.EH:=(by omega);have D:=F f;simp(disch:=omega)[V1,m,l,n,f,A4,Bd,s,r,v];exact q _ _ (by simp[l,F3])
 | succ k J=>
   intro i A t o B f m l n q;refine BU (an:=⟨[],[]⟩) λC x=> ?_;obtain⟨d,g⟩:=CF o;have r:=(AX.1 g).2;have e:Cb u i=d.EH:=(by simp only[Cb,g]);have K:D3 u i=d.parent.toNat:=(by simp only[D3,g]);have s:(i:Int)<u.A5.length:=(by omega);have D:=F f;by_cases v:j<d.EH
   ·obtain⟨a,b,c⟩:=h.Gu o (by omega);obtain⟨p,y⟩:=DP (h.Fq i d c g).1;have z:D3 u i=p:=(by rw[K,y];rfl);rw[z]at a b;simp(disch:=omega)[V1,m,l,n,f,A4,Bd,s,r,v,y];refine x _ _ (J p _ _ (by omega) (by omega) (by simp(disch:=first|omega|simp only[AD];omega)[f,A4,-H,-E,-I,-G,-List.map_map]) (by simp[m]) (by simp) (by simp[n]) λN w L=>q N w ?_);rw[L,F3,if_pos (by omega),z]
   ·simp(disch:=omega)[V1,m,l,n,f,A4,Bd,s,r,v];exact q _ _ (by rw[F3,if_neg (by omega)];simp[l])
theorem aG9{u:AY}(h:BW u)(f:d<u.A1.length){a:Int}(g:0<=a):AL U 245 [.agg (A4 u).toArray,Y d,Y a] (Y (F3 u a 5 (CJ u d))):=by
 refine BG (Ak (an:=⟨[],[]⟩) aET (by kernel_rfl) (by simp[kQ]) ?_);obtain⟨x,b⟩:=CF f;have i:=(AX.1 b).2;obtain⟨n,o,a3,a4,e⟩:=h.Lx d x b;obtain⟨m,c⟩:=DP a3;have j:CJ u d=m:=by simp only[CJ,b,c];rfl
 have k:(d:Int)<u.A1.length:=by omega
 rw[c]at e;simp(disch:=first|omega|simp only[AD];omega)[kQ,tn,A4,CB,k,i,c,-H,-E,-I,-G,-List.map_map];refine aAL h g 5 m _ _ (by omega) (by have:Cb u m=4:=e;omega) (by simp(disch:=first|omega|simp only[AD];omega)[A4,-H,-E,-I,-G,-List.map_map]) (by simp) (by simp) (by simp) λN p l=> ?_;rw[j];simp(disch:=first|omega|simp only[AD];omega)[l]
noncomputable def av(u:AY)(h:BW u):AK U:= .B8 245 (Nat×Int) (λx=>x.1<u.A1.length/\0<=x.2) (λx=>[.agg (A4 u).toArray,Y x.1,Y x.2]) (λx=>Y (F3 u x.2 5 (CJ u x.1))) λx a=>aG9 h a.1 a.2
@[simp] theorem aGI{u:AY}{h:BW u}:(av u h).f=245:=rfl
@[simp] theorem aJ6{u:AY}{h:BW u}{a:Int}(b:d<u.A1.length/\0<=a):(av u h).fn [.agg #[Y u.ext,M (u.Bz.map Cc) 4,M (u.Aa.map Ce) 4,M (u.A5.map Bd) 7,M (u.A1.map CB) 3,M (u.Ay.map B3) 17,M (u.A7.map Cd) 2],Y d,Y a]=some (Y (F3 u a 5 (CJ u d))):=AK.BD (x:=(d,a)) b λ⟨e,f⟩ c=>by simp at c⊢;omega
end Go.Proofs.YtmmkkggfmigppaaGreat
