/- A part of the proof. -/
import Derived.Test.YtmmkkggfmigppaaGreatZcj
set_option linter.all false
set_option maxRecDepth 8000
set_option maxHeartbeats 16000000
namespace Go.DI
open Go Go.RowKit
variable {u:Ca} {J:C5} {A N:A6} {t m:V} {v b3:Value}
theorem LC(h:BB v=true):DL v=false/\GW v=false/\Ec v=false:=by cases v<;>simp_all [BB,DL,GW,Ec]
theorem AJ.headD{xs ys:List Value}(h:AJ u J xs ys):AW u J (xs.headD undef) (ys.headD undef):=by
 cases xs with
 | nil=>cases ys with
   |nil=>exact AW.undef
   |cons y ys=>simp[AJ]at h
 | cons x xs=>cases ys with
   |nil=>simp[AJ]at h
   |cons y ys=>exact h.2 0 x y rfl rfl
theorem AJ.vo: ∀{c d:List (List Value)},c.length=d.length->(∀(i:Nat) r e,c[i]?=some r->d[i]?=some e->AJ u J r e)->AJ u J c.flatten d.flatten
 |[],[],_,_=>AJ.nil
 |[],_::_,h,_=>by simp at h
 |_::_,[],h,_=>by simp at h
 | r::c,e::d,h,f=>by rw[HM,HM];exact(f 0 r e rfl rfl).Iu (AJ.vo (by simpa using h) λi a b g hb=>f (i+1) a b (by simpa using g) (by simpa using hb))
variable{cs oq:List Value}{n b o z:Nat}{x:Bw}{i:Int}{es g:List (Value×Value)}{k B C:Value}{ps:List (Nat×Nat×Operand)}{c:Ny}{op:BinOp}{y:Option Bw}{w:Bool}{bp:List (Operand×Operand)}
theorem AJ.D8{bh:List Value}{off k:Nat}(e:off+bh.length<=cs.length)(c: ∀(j:Nat) x y,bh[j]?=some x->cs[off+j]?=some y->AW u EX x y)(f:k+n<=bh.length):
 AJ u J ((bh.drop k).take n) ((cs.drop (off+k)).take n):=by
 refine⟨by simp;omega,λi x y a b=> ?_⟩;rw[QO]at a b;split at a
 ·rename_i d;rw[if_pos d]at b;rw[Pw]at a b;exact(c (k+i) x y a (by rw[<-JN];exact b)).AG (Cs.refl _) (CA.nil _)
 ·cases a
theorem BI.Hc(a:BI J u t m)(e:J o=some b)(c:t.W o=some x): ∃cs w,m.W b=some ⟨cs,w⟩/\(x.own=true->w=true)/\AJ u J x.cells cs:=by
 rcases a.Eh o x c with⟨f,cs,w,d,g,h,i⟩|⟨d,_⟩
 ·grind
 ·simp_all
theorem VF(d:BI J u t m)(e:AW u J v b3)(h:J6 t v n=true):Bx m b3 n=true:=by
 unfold J6 at h;split at h
 ·rename_i f;obtain⟨p,k,b,off,cs,rfl,rfl,g,q,r⟩:=e.pY f;obtain⟨⟨w,i⟩,_⟩:=d.AZ b cs g;simp at h;simp[i];omega
 ·rename_i s;unfold Bx at h;split at h
  ·next a=>
   obtain⟨b,j,y,rfl⟩:=e.Io;simp only[AB]at h;cases c:t.W a.block with
   |none=>rw[c]at h;simp at h
   | some x=>rw[c]at h;obtain⟨cs,w,l,_,o⟩:=d.Hc j c;simp at h;simp[l];have:=o.1;omega
  ·cases h
theorem hI(f:BI J u t m)(g:AW u J v b3){n:Nat}{c:Bool}(h:J6 t v n=true)(i:(c||decide (n=1))=true):AW u J (Nw t c n v) (DN m c n b3):=by
 unfold J6 at h;unfold Nw;split at h
 ·rename_i d;rw[if_pos d];obtain⟨y,k,b,off,cs,rfl,rfl,p,j,l⟩:=g.pY d;obtain⟨⟨w,q⟩,_⟩:=f.AZ b cs p;simp at h;simp only[aFG,vH,q,uJ,tL];cases c with
  |true=>exact(AJ.D8 j l h).agg
  |false=>simp at i;subst i;exact(AJ.D8 j l h).headD
 ·rename_i d;rw[if_neg d];unfold Bx at h;split at h
  ·next a=>
   obtain⟨b,r,z,rfl⟩:=g.Io;simp only[AB]at h;cases e:t.W a.block with
   |none=>rw[e]at h;simp at h
   | some x=>
     obtain⟨cs,w,s,_,o⟩:=f.Hc r e;simp only[DN,CW,s];rw[e];cases c with
     |true=>exact((o.drop _).take _).agg
     |false=>exact((o.drop _).take _).headD
  ·cases h
theorem nr(a:AW u J v b3)(h:IW v=true):J4 b3=true:=by
 cases a with
 |BT b=>obtain⟨_,c,_⟩:=LC b;simpa[IW,c]using h
 |AA h=>rfl
 |BR e=>rfl
 |Ql e=>subst e;simp[IW,J4,M,GW]at h
 |Oy e=>subst e;simp[IW,J4,M,GW]at h
 |_=>simp[IW,J4,GW]at h
theorem rm(b:AW u J v b3)(h:IW v=true)(n:Nat):AW u J (Mh v n) (Ml b3 n):=by
 cases b with
 | BT a=>
   obtain⟨_,c,_⟩:=LC a;simp only[IW,c,Bool.false_or,J4]at h;split at h
   ·simp[BB]at a
   ·cases h
 |AA d=>simp only[Mh,GW,Ml,EI,if_false];exact .AA d
 |BR e f g i=>subst e;simp only[Mh,aE2,if_true,tL,uJ,Ml,JN];exact .BR rfl f g i
 |Ql e=>subst e;simp[IW,J4,M,GW]at h
 |Oy e=>subst e;simp[IW,J4,M,GW]at h
 |_=>simp[IW,J4,GW]at h
theorem e5(a:AW u J v b3):Em v=De b3:=by
 cases a with
 |BT h=>simp[Em,(LC h).1]
 |Ql e=>subst e;simp[Em,De]
 |Oy e=>subst e;simp[Em,De]
 |BR e=>subst e;simp[Em,De,BR,DL]
 |_=>rfl
theorem a8(a:AW u J v b3):Dz v=CQ b3:=by
 cases a with
 |BT h=>simp[Dz,(LC h).1]
 |Ql e=>subst e;simp[Dz,CQ]
 |Oy e=>subst e;simp[Dz,CQ]
 |BR e=>subst e;simp[Dz,CQ,BR,DL]
 |_=>rfl
theorem aCg(a:AW u J v b3)(h:Ov v=true):Lo b3=true:=by
 cases a with
 |BT b=>simpa[Ov,(LC b).1]using h
 |Ql e=>rfl
 |Oy e=>rfl
 |BR e=>subst e;simp[Ov,BR,DL,Lo]at h
 |_=>simpa[Ov,DL,Lo]using h
theorem U2(a:AW u J v b3)(h:Eg z v=true):Fj z b3=true:=by
 cases a with
 |BT b=>simpa[Eg,(LC b).1]using h
 |Ql e=>subst e;simpa[Eg]using h
 |Oy e=>rfl
 |BR e=>subst e;simp[Eg,BR,DL,Fj]at h
 |Qs=>rfl
 |slice=>simpa[Eg,DL,Fj]using h
 |_=>simp[Eg,DL,Fj]at h
theorem yU(m:AW u J v b3){l h:Nat}(c:Eg z v=true)(t:l<=h)(f:h<=Dz v):AW u J (KN v z l h) (IT b3 z l h):=by
 cases m with
 | BT g=>
   simp only[KN,(LC g).1,EI,if_false];unfold IT;split
   ·simp[BB]at g
   ·exact .BT rfl
 | Ql e n w A B=>
   rename_i b off a cs d;subst e;have o:a=z:=(by simpa[Eg]using c);subst o;have p:h<=d.length:=(by simpa[Dz]using f);simp only[KN,dd,if_true,ZO,IT];have k:((d.take h).drop l).length=h-l:=(by simp;omega);have C:h*a<=d.length*a:=IF _ p;have D:l*a+(h-l)*a=h*a:=(by rw[<-Hl];congr 1;omega);rw[<-k];refine .Ql rfl n (by rw[k];omega) (λi r q=> ?_) λi j r x y q E F=> ?_
   ·grind
   ·grind
 | Oy e=>subst e;simp only[KN,dd,if_true,ZO,IT];simp;exact .Oy rfl
 |BR e=>subst e;simp[Eg,BR,DL,Fj]at c
 | Qs=>have:h=0:=(by simpa[Dz,DL,CQ]using f);subst this;have:l=0:=(by omega);subst this;simp only[KN,DL,IT,EI,if_false,Nat.zero_mul,Nq,Nat.sub_self];exact .Qs (.inl rfl)
 |slice s=>simp only[KN,DL,IT,EI,if_false];exact .slice s
 |_=>simp[Eg,DL,Fj]at c
theorem a05(c:AW u J v b3)(a:Eg z v=true)(b:DL v=false):AW u J (M8 v) (M8 b3):=by
 cases c with
 | BT d=>
   unfold M8;split
   ·simp[BB]at d
   ·exact .BT rfl
 |Ql e=>subst e;simp at b
 |Oy e=>subst e;simp at b
 |BR e=>subst e;simp[Eg,BR,DL,Fj]at a
 |Qs g=>exact .Qs (.inr rfl)
 |slice f=>exact .slice f
 |_=>simp[Eg,DL,Fj]at a
theorem a0w(m:AW u J v b3)(a:Eg z v=true)(o:0<=i)(c:i<Em v):AW u J (N6 v z i) (Pb b3 z i):=by
 obtain⟨n,rfl⟩:=DP o;cases m with
 | BT g=>
   simp only[Em,(LC g).1,EI,if_false]at c;simp only[Eg,(LC g).1,EI,if_false]at a;unfold Fj at a
   grind [De,BB]
 | Ql e p B q r=>rename_i b off d cs h;subst e;have s:d=z:=(by simpa[Eg]using a);subst s;have f:n<h.length:=(by simpa[Em]using c);simp only[N6,dd,if_true,ZO,Pb,EE];rw[Dv,AS f,L2];have l:=AS f;have C:=q _ _ l;have:(n+1)*d<=h.length*d:=IF _ f;rw[Hl]at this;exact .BR (off:=off+n*d) (k:=0) rfl p (by omega) λj x y t w=>r n j _ x y l t w
 |Oy e=>subst e;simp[Em]at c;omega
 |BR e=>subst e;simp[Eg,BR,DL,Fj]at a
 |Qs=>simp[Em,DL,De]at c;omega
 |slice A=>simp only[N6,DL,Pb,EI,if_false];exact .AA A
 |_=>simp[Eg,DL,Fj]at a
theorem WM(c:BI J u t m)(d:AW u J v b3)(h:FH t z v=true):Bp m z b3=true:=by
 cases d with
 | BT f=>
   simp only[FH,(LC f).1,EI,if_false]at h;unfold Bp at h
   grind [Bp,BB]
 | Ql e g i p q=>subst e;have:=(by simpa[FH]using h);subst this;obtain⟨⟨w,j⟩,_⟩:=c.AZ _ _ g;simp[j,i]
 |Oy e=>rfl
 |BR e=>subst e;simp[FH,BR,DL,Bp]at h
 |Qs=>rfl
 | slice k=>
   rename_i o b off l r s;simp only[FH,DL,EI,if_false,z2,AB]at h⊢;refine⟨h.1,?_⟩;cases a:t.W o with
   |none=>rw[a]at h;simp at h
   | some x=>
     rw[a]at h;obtain⟨cs,w,y,_,n⟩:=c.Hc k a;have:=n.1
     simp_all
 |_=>simp[FH,DL,Bp]at h
theorem Za(d:BI J u t m)(A:AW u J v b3)(h:FH t z v=true):AJ u J (FA t z v) (C7 m z b3):=by
 cases A with
 | BT f=>
   simp only[FH,(LC f).1,EI,if_false]at h;unfold Bp at h;split at h
   ·exact AJ.nil
   ·simp[BB]at f
   ·cases h
 | Ql e B C D E=>
   rename_i b off a cs g;subst e;have:=(by simpa[FH]using h);subst this;obtain⟨⟨w,F⟩,_⟩:=d.AZ _ _ B;simp only[FA,dd,if_true,ZO,a3S,vH,F];obtain⟨P,G,H,I⟩:=qL g.length off C;rw[<-H];refine AJ.vo G.symm λi r Q c p=> ?_;have q:=(AX.1 c).1;rw[I i q]at p;cases p;have R:=D _ _ c;have:(i+1)*a<=g.length*a:=IF _ q;rw[Hl]at this;have:=AJ.D8 (u:=u) (J:=J) (bh:=r) (cs:=cs) (off:=off+i*a) (k:=0) (n:=a) (by omega) (λj x y K L=>E i j r x y c K L) (by omega)
   grind
 |Oy e=>subst e;simp[FA,C7];exact AJ.nil
 |BR e=>subst e;simp[FH,BR,DL,Bp]at h
 | Qs=>
   grind [FA,DL,C7,CW,AJ.nil]
 | slice M=>
   rename_i o b off l a T;simp only[FH,DL,EI,if_false,z2,AB]at h;simp only[FA,DL,EI,if_false,C7,CW];cases s:t.W o with
   |none=>rw[s]at h;simp at h
   | some x=>obtain⟨cs,w,N,_,O⟩:=d.Hc M s;simp only[N];exact(O.drop _).take _
 |_=>simp[FH,DL,Bp]at h
theorem vZ(g:BI J u t m)(f:AW u J v b3)(h:Dl t v=true):Dl m b3=true:=by
 unfold Dl at h;split at h
 ·rename_i l c;cases f with
  |BT n=>rfl
  |Ql e=>simp[M]at e
  |Oy e=>simp[M]at e
  |BR e=>simp[BR]at e
 ·rename_i a l c;rcases f.Fk with⟨b,i,_,rfl⟩|⟨_,_,_,rfl⟩
  ·cases d:t.W a.block with
   |none=>rw[d]at h;cases h
   | some x=>rw[d]at h;obtain⟨cs,w,j,k,o⟩:=g.Hc i d;simp[j,k h]
  ·rfl
 ·cases h
theorem a0V(f:BI J u t m)(c:AW u J v b3)(h:Et t v=some es): ∃g,Et m b3=some g/\J2 u J es g:=by
 unfold Et at h;split at h
 ·cases h;have:b3= .map none:=c.DH rfl;subst this;exact⟨[],rfl,rfl,λi e n a=>by simp at a⟩
 ·obtain⟨b,g,j,k,l⟩:=f.maps _ _ h;obtain⟨o,d,rfl⟩:=c.UI;rw[j]at d;cases d;exact⟨g,k,l⟩
 ·cases h
theorem zT(c:AW u J v b3){bp:Hj}(h:DT bp v=true):b3=v:=by
 cases bp with
 |int k=>cases v<;>simp[DT]at h;exact c.Hd
 |str=>cases v<;>simp[DT]at h;exact c.NV
 | EF k=>
   obtain⟨a,b,rfl⟩:=NT h;obtain⟨ys,rfl,d⟩:=c.K8;obtain⟨l⟩:=ys
   match l,d.1 with
   | [e,f],_=>have g:=(d.2 0 _ e rfl rfl).Hd;have i:=(d.2 1 _ f rfl rfl).Hd;rw[g,i]
theorem oE{bp:Hj}(d:J2 u J es g)(k:AW u J v b3)(h:DX bp v es=true):DX bp b3 g=true/\b3=v/\ ∀(i:Nat) e c,es[i]?=some e->g[i]?=some c->c.1=e.1:=by
 simp only[DX,AB,BF]at h⊢;have l:=zT k h.1;subst l;have f: ∀(i:Nat) e c,es[i]?=some e->g[i]?=some c->c.1=e.1:= λi e c a b=>zT (d.2 i e c a b).1 (h.2 e (B9 a));refine⟨⟨h.1,λc m=> ?_⟩,rfl,f⟩;obtain⟨i,j,rfl⟩:=EC m;have n:i<es.length:=by rw[d.1];exact j
 rw[f i _ _ (AS n) (AS j)]
 grind
theorem s8: ∀{es g:List (Value×Value)},J2 u J es g->(∀(i:Nat) e c,es[i]?=some e->g[i]?=some c->c.1=e.1)->(CT k es=none/\CT k g=none)\/ ∃a b,CT k es=some a/\CT k g=some b/\AW u J a b
 |[],[],_,_=> .inl ⟨rfl,rfl⟩
 |[],_::_,h,_=>by simp[J2]at h
 |_::_,[],h,_=>by simp[J2]at h
 | e::es,c::g,h,f=>by
   have j:=f 0 e c rfl rfl;simp only[CT,j];split
   ·exact .inr ⟨_,_,rfl,rfl,(h.2 0 e c rfl rfl).2⟩
   ·exact s8 ⟨by simpa using h.1,λi a b d hb=>h.2 (i+1) a b (by simpa using d) (by simpa using hb)⟩ λi a b d hb=>f (i+1) a b (by simpa using d) (by simpa using hb)
theorem xR{v b3:Value}(f:AW u J k k)(j:AW u J v b3): ∀{es g:List (Value×Value)},J2 u J es g->(∀(i:Nat) e d,es[i]?=some e->g[i]?=some d->d.1=e.1)->J2 u J (DM k v es) (DM k b3 g)
 | [],[],_,_=>⟨rfl,λi a b c hb=>by
  grind [DM]⟩
 |[],_::_,h,_=>by simp[J2]at h
 |_::_,[],h,_=>by simp[J2]at h
 | e::es,d::g,h,l=>by
   have n:=l 0 e d rfl rfl;have m:J2 u J es g:=⟨by simpa using h.1,λi a b c hb=>h.2 (i+1) a b (by simpa using c) (by simpa using hb)⟩;simp only[DM,n];split
   ·refine⟨by simpa using h.1,λi a b c hb=> ?_⟩;cases i with
    |zero=>simp at c hb;subst c;subst hb;exact⟨f,j⟩
    |succ i=>exact m.2 i a b (by simpa using c) (by simpa using hb)
   ·have:=xR f j m λi a b c hb=>l (i+1) a b (by simpa using c) (by simpa using hb);refine⟨by simpa using this.1,λi a b c hb=> ?_⟩;cases i with
    |zero=>simp at c hb;subst c;subst hb;exact h.2 0 e d rfl rfl
    |succ i=>exact this.2 i a b (by simpa using c) (by simpa using hb)
variable {u:Ca} {J:C5} {A N:A6} {t m:V} {v b3:Value}
theorem Uf(a:D5 u J A N){x:Option Operand}(b: ∀o,x=some o->An o=true)(h:HW A x=true)(d:Int):HW N x=true/\Cq N x d=Cq A x d:=by
 cases x with
 |none=>exact⟨rfl,rfl⟩
 | some o=>
   have e:=Jf (a.O (b o rfl)) h
   simp_all
theorem wx(c:D5 u J A N)(d:cs.length=oq.length)(e: ∀p∈ps,An p.2.2=true)(h:I8 cs A ps=true):I8 oq N ps=true:=by simp only[I8,BF]at h⊢;intro p a;have:=h p a;obtain⟨off,n,x⟩:=p;simp only[AB,Ba]at this⊢;have b:=c.O (e _ a);exact⟨⟨b.E this.1.1,by rw[<-b.H.1];exact this.1.2⟩,by rw[<-d];exact this.2⟩
theorem fz(a:D5 u J A N): ∀{ps:List (Nat×Nat×Operand)} {cs oq:List Value},AJ u J cs oq->(∀p∈ps,An p.2.2=true)->AJ u J (G5 cs A ps) (G5 oq N ps)
 |[],_,_,h,_=>h
 | (off,n,x)::ps,_,_,h,b=>by simp only[G5];exact fz a (h.C3 off (a.O (b (off,n,x) (by simp))).H) λp c=>b p (by simp[c])
theorem AW.Ey{v:Value}(h:BB v=true\/v=Go.undef):AW u J v v:=by
 rcases h with h|rfl
 ·exact .BT h
 ·exact AW.undef
theorem a4g(op:BinOp)(k:IntKind)(a b:Int):BB (Sr op k a b)=true:=by cases op<;>rfl
theorem a3z(op:BinOp)(a b:ByteArray):BB (OQ op a b)=true\/OQ op a b=Go.undef:=by cases op<;>first|exact .inl rfl|exact .inr rfl
theorem a5d(op:BinOp)(x y:Value):BB (FY op x y)=true\/FY op x y=Go.undef:=by
 unfold FY;split
 ·exact .inl (a4g _ _ _ _)
 ·exact a3z _ _ _
 ·split
  ·exact .inl rfl
  ·exact .inl rfl
  ·exact .inr rfl
theorem oa(d:AW u J v b3)(h:GM v=true):b3=v\/(∃a c,v= .pointer (some a)/\b3= .pointer (some c))\/(∃a c l z,v= .slice (some a) l z/\b3= .slice (some c) l z)\/
 (∃f xs cs ys ds,v= .func (.func f) xs cs/\b3= .func (.func f) ys ds)\/(∃a b,v= .map a/\b3= .map b)\/(∃a b,v= .agg a/\b3= .agg b)\/(∃a b,v= .tuple a/\b3= .tuple b)\/ ∃t a b,v= .iface t a/\b3= .iface t b:=by
 cases d with
 |BT=>exact .inl rfl
 |AA=>exact .inr (.inl ⟨_,_,rfl,rfl⟩)
 |slice=>exact .inr (.inr (.inl ⟨_,_,_,_,rfl,rfl⟩))
 |Qs=>simp[GM,Ec]at h
 |map=>exact .inr (.inr (.inr (.inr (.inl ⟨_,_,rfl,rfl⟩))))
 |agg=>exact .inr (.inr (.inr (.inr (.inr (.inl ⟨_,_,rfl,rfl⟩)))))
 |tuple=>exact .inr (.inr (.inr (.inr (.inr (.inr (.inl ⟨_,_,rfl,rfl⟩))))))
 |func=>exact .inr (.inr (.inr (.inl ⟨_,_,_,_,_,rfl,rfl⟩)))
 |iface=>exact .inr (.inr (.inr (.inr (.inr (.inr (.inr ⟨_,_,_,rfl,rfl⟩))))))
 |Ql e=>subst e;simp[GM]at h
 |Oy e=>subst e;simp[GM]at h
 |BR e=>subst e;simp[GM]at h
theorem aFn{x y:Value}(h:(Bo x&&Bo y)=false)(a:(Fe x&&Fe y)=false):KP op c x y=(match op with| .eql| .neq=>M5 c x y|_=>false):=by
 unfold KP
 grind [Bo,Fe]
theorem a4O{x y:Value}(h:(Bo x&&Bo y)=false)(a:(Fe x&&Fe y)=false):FY op x y=(match op with| .eql=> .bool (I3 x y)| .neq=> .bool (!I3 x y)|_=>Go.undef):=by
 unfold FY
 grind [Bo,Fe]
theorem tJ(c:AW u J v b3)(h:GM v=true):Bo b3=Bo v/\Fe b3=Fe v:=by rcases oa c h with rfl|⟨a,d,rfl,rfl⟩|⟨a,d,l,z,rfl,rfl⟩|⟨f,xs,cs,ys,ds,rfl,rfl⟩|⟨a,b,rfl,rfl⟩|⟨a,b,rfl,rfl⟩|⟨a,b,rfl,rfl⟩|⟨t,a,b,rfl,rfl⟩<;>exact⟨rfl,rfl⟩
def SK:Value->Value
 | .pointer (some _)=> .pointer (some ⟨0,0,none⟩)
 | .slice (some _) _ _=> .slice (some ⟨0,0,none⟩) 0 0
 | .func _ _ _=> .func (.func 0) #[] #[]
 | .map _=> .map none
 | .agg _=> .agg #[]
 | .tuple _=> .tuple #[]
 | .iface _ _=> .iface 0 .nilIface
 |v=>v
theorem p0(c:Ny)(x y:Value):M5 c (SK x) (SK y)=M5 c x y:=by cases c<;>cases x<;>cases y<;>first|rfl|(cases‹Option Addr› <;>first|rfl|(cases‹Option Addr› <;>rfl))
theorem w6(x y:Value):I3 (SK x) (SK y)=I3 x y:=by cases x<;>cases y<;>first|rfl|(cases‹Option Addr› <;>first|rfl|(cases‹Option Addr› <;>rfl))
theorem Xr(c:AW u J v b3)(h:GM v=true):SK b3=SK v:=by rcases oa c h with rfl|⟨a,d,rfl,rfl⟩|⟨a,d,l,z,rfl,rfl⟩|⟨f,xs,cs,ys,ds,rfl,rfl⟩|⟨a,b,rfl,rfl⟩|⟨a,b,rfl,rfl⟩|⟨a,b,rfl,rfl⟩|⟨t,a,b,rfl,rfl⟩<;>rfl
theorem a2r{x y:Value}(a:AW u J x C)(b:AW u J y B)(d:GM x=true)(e:GM y=true)(h:M5 c x y=true):M5 c C B=true/\I3 C B=I3 x y:=by rw[<-p0,Xr a d,Xr b e,p0,<-w6 C B,Xr a d,Xr b e,w6];exact⟨h,rfl⟩
theorem a6X{x y:Value}(a:AW u J x C)(b:AW u J y B)(d:GM x=true)(e:GM y=true)(h:KP op c x y=true):KP op c C B=true/\FY op C B=FY op x y:=by
 obtain⟨f,g⟩:=tJ a d;obtain⟨i,j⟩:=tJ b e;by_cases k:(Bo x&&Bo y)=true
 ·grind [Jf]
 ·by_cases l:(Fe x&&Fe y)=true
  ·grind [TF]
  ·grind [aFn,a4O,a2r]
theorem wE: ∀{j:List IV} {e bs f g:List Value},Dp j e bs=true->AJ u J e f->AJ u J bs g->f=e/\g=bs
 | [],[],[],f,g,_,c,d=>by have n:f=[]:=MM (by rw[<-c.1];rfl);have o:g=[]:=MM (by rw[<-d.1];rfl);exact⟨n,o⟩
 |k::j,a::e,b::bs,[],_,_,c,_=>by simp[AJ]at c
 |k::j,a::e,b::bs,_::_,[],_,_,d=>by simp[AJ]at d
 | k::j,a::e,b::bs,p::f,q::g,h,c,d=>by
   simp only[Dp,AB]at h;obtain⟨n,o⟩:=wE h.2 ⟨by simpa using c.1,λi x y l m=>c.2 (i+1) x y (by simpa using l) (by simpa using m)⟩ ⟨by simpa using d.1,λi x y l m=>d.2 (i+1) x y (by simpa using l) (by simpa using m)⟩;have s:=c.2 0 a p rfl rfl;have hb:=d.2 0 b q rfl rfl;have r:=h.1;have t:p=a:=(by cases k<;>cases a<;>cases b<;>simp[Om]at r<;>exact s.DH rfl);have v:q=b:=by cases k<;>cases a<;>cases b<;>simp[Om]at r<;>exact hb.DH rfl
   simp_all
 |[],_::_,_,_,_,h,_,_=>by simp[Dp]at h
 |[],[],_::_,_,_,h,_,_=>by simp[Dp]at h
 |_::_,[],_,_,_,h,_,_=>by simp[Dp]at h
 |_::_,_::_,[],_,_,h,_,_=>by simp[Dp]at h
theorem sV(f:D5 u J A N)(b:Bool): ∀(xs:List Operand) (a:Value),xs.all An=true->(xs.all λy=>Bo (O A y))=true->Bo a=true->
 (xs.foldl (λa y=>if b then HI a (O N y)else H9 a (O N y)) a=xs.foldl (λa y=>if b then HI a (O A y)else H9 a (O A y)) a)/\Bo (xs.foldl (λa y=>if b then HI a (O A y)else H9 a (O A y)) a)=true
 |[],a,_,_,h=>⟨rfl,h⟩
 | y::xs,a,d,c,h=>by simp only[Fz,AB]at d c;have e:=Jf (f.O d.1) c.1;simp only[IJ,e];refine sV f b xs _ d.2 c.2 ?_;have g:=c.1;cases a<;>simp[Bo]at h;cases i:O A y<;>simp[i,Bo]at g;split<;>rfl
theorem a0U(h:Bo v=true):BB v=true:=by cases v<;>simp[Bo]at h<;>rfl
def K.nk:K->Bool
 | .IX _| .JP _| .HG _ _ _ _| .MS _| .IA _ _ _ _ _| .app _ _ _ _| .KD _ _ _ _ _| .Cm _ _| .LB| .store _ _ _| .Kn _ _ _ _| .KC _ _| .Iw _ _| .Ip _ _ _=>false
 |_=>true
theorem a0e{k:K}(h:k.nk=true){id lg:Nat}:k.Gz id A t=t/\k.Cl lg N m=m:=by cases k<;>first|exact⟨rfl,rfl⟩|cases h
theorem aCA(P:BI J u t m)(l:D5 u J A N){k:K}(A9:k.nk=true)(A2:OB k=true)(d:k.Dq A t=true)(id AD:Nat):k.ok N m=true/\AW u J (k.E0 id A t) (k.val AD N m):=by
 simp only[OB,AB]at A2;obtain⟨j,A3⟩:=A2;cases k with
 |F2 x=>simp[K.D6]at j;exact⟨rfl,l.O j⟩
 | T0 c a b=>
   simp[K.D6]at j;have e:=sz (l.O j.1) d;refine⟨by simp only[K.ok,e];exact d,?_⟩;simp only[K.E0,K.val,e];split
   ·exact l.O j.2.1
   ·exact l.O j.2.2
 | Lz x=>
   simp[K.D6]at j;have q:=l.O j;refine⟨?_,q⟩;simp only[K.Dq,K.ok]at d⊢;generalize O A x=a at q d;generalize O N x=AT at q;cases q with
   |BT=>exact d
   |_=>rfl
 | PR z ps=>have A4: ∀p∈ps,An p.2.2=true:= λp AE=>BF.1 j _ (by simp only[K.D6];exact List.mem_map_of_mem AE);have D:=AJ.BT (u:=u) (J:=J) A3;exact⟨wx l rfl A4 d,(fz l D A4).agg⟩
 | E4 AF n x=>simp[K.D6]at j;simp only[K.Dq,AB]at d;refine⟨?_,hI P (l.O j) d.1 d.2⟩;simp only[K.ok,AB];exact⟨VF P (l.O j) d.1,d.2⟩
 | Jw op c x y=>
   simp[K.D6]at j;simp only[K.Dq,AB]at d;obtain⟨r,s⟩:=a6X (l.O j.1) (l.O j.2) d.1.1 d.1.2 d.2;refine⟨r,?_⟩
   grind [K.E0,K.val,AW.Ey,a5d]
 | PC AU AV x y=>simp[K.D6]at j;simp only[K.Dq,K.ok,AB]at d;have v:=l.O j.1;have G:=l.O j.2;simp only[K.ok,K.E0,K.val];cases Q:O A x<;>simp[Q,Jc]at d;cases A5:O A y<;>simp[A5]at d;rw[Q]at v;rw[A5]at G;obtain⟨xs,w,AG⟩:=v.K8;obtain⟨ys,E,AH⟩:=G.K8;obtain⟨F,L⟩:=wE d AG AH;simp only[w,E,H,F,L,Jc,Bool.true_and];exact⟨d,.BT rfl⟩
 | S3 op x=>
   simp[K.D6]at j;have q:=l.O j;simp only[K.Dq,K.ok,K.E0,K.val]at d⊢;cases Q:O A x with
   |int k n=>rw[Q]at q d;rw[q.Hd];exact⟨d,by cases op<;>first|exact .BT rfl|exact AW.undef⟩
   |bool b=>rw[Q]at q d;rw[q.Jv];exact⟨d,by cases op<;>first|exact .BT rfl|exact AW.undef⟩
   |_=>rw[Q]at d;cases op<;>simp[NB]at d
 | X1 k x=>simp[K.D6]at j;have e:=Jf (l.O j) d;simp only[K.ok,K.E0,K.val,e];exact⟨d,.BT rfl⟩
 | Zp x=>simp[K.D6]at j;have e:=TF (l.O j) d;simp only[K.ok,K.E0,K.val,e];refine⟨d,?_⟩;simp only[K.Dq,K.ok]at d;cases v:O A x<;>simp[v,Fe]at d;exact .BT rfl
 | M6 x=>
   simp[K.D6]at j;have q:=l.O j;simp only[K.Dq,AB]at d;have D:=Za P q d.1;have e:C7 m 1 (O N x)=FA t 1 (O A x):=by
    apply LQ
    ·exact D.1.symm
    ·intro i r s;have A6:=D.2 i _ _ (AS s) (AS r);have A7:=BF.1 d.2 _ (Dc s);generalize(FA t 1 (O A x))[i]=a at A6 A7;cases a<;>simp[QX]at A7;exact A6.Hd
   simp only[K.ok,K.E0,K.val,e,AB];exact⟨⟨WM P q d.1,d.2⟩,.BT rfl⟩
 | Yj x R I=>simp[K.D6]at j;have S: ∀o,R=some o->An o=true:= λo h=>j.2.1 o h;have X: ∀o,I=some o->An o=true:= λo h=>j.2.2 o h;simp only[K.Dq,K.ok,AB,Ba]at d;obtain⟨⟨⟨⟨⟨r,s⟩,B⟩,C⟩,M⟩,T⟩:=d;have e:=TF (l.O j.1) r;obtain⟨w,E⟩:=Uf l S s 0;obtain⟨F,L⟩:=Uf l X B (De (O A x));simp only[K.ok,K.E0,K.val,e,w,E,F,L,AB,Ba];exact⟨⟨⟨⟨⟨⟨r,trivial⟩,trivial⟩,C⟩,M⟩,T⟩,.BT rfl⟩
 | N7 z x R I=>
   simp[K.D6]at j;have S: ∀o,R=some o->An o=true:= λo h=>j.2.1 o h;have X: ∀o,I=some o->An o=true:= λo h=>j.2.2 o h;simp only[K.Dq,AB,Ba]at d;obtain⟨⟨⟨⟨⟨⟨r,s⟩,B⟩,C⟩,M⟩,T⟩,Y⟩:=d;have q:=l.O j.1;have U:=e5 q;obtain⟨w,E⟩:=Uf l S s 0;obtain⟨F,L⟩:=Uf l X B (Em (O A x));simp only[K.ok,K.E0,K.val,<-U,w,E,F,L,AB,Ba];refine⟨⟨⟨⟨⟨⟨U2 q r,trivial⟩,trivial⟩,C⟩,M⟩,T⟩,?_⟩;split
   ·next V=>exact a05 q r (by simpa[V.1,V.2]using Y)
   refine yU q r (by omega) ?_;have:Em (O A x)=Dz (O A x):=by
    have Z:=U2 q r;rw[U,a8 q];unfold Fj at Z
    grind [De,CQ]
   omega
 | S8 z x R I A8=>
   simp[K.D6]at j;have S: ∀o,R=some o->An o=true:= λo h=>j.2.2.2 o (by simp[h]);simp only[K.Dq,AB,Ba]at d;obtain⟨⟨⟨⟨⟨⟨⟨r,s⟩,B⟩,C⟩,M⟩,T⟩,Y⟩,AK⟩:=d;have q:=l.O j.1;have U:=e5 q;obtain⟨w,E⟩:=Uf l S s 0;have F:=Jf (l.O j.2.1) B;have L:=Jf (l.O j.2.2.1) C;simp only[K.ok,K.E0,K.val,<-U,w,E,F,L,AB,Ba];refine⟨⟨⟨⟨⟨⟨⟨⟨U2 q r,trivial⟩,B⟩,C⟩,M⟩,T⟩,Y⟩,AK⟩,yU q r (by omega) ?_⟩;have:Em (O A x)=Dz (O A x):=by
    have Z:=U2 q r;rw[U,a8 q];unfold Fj at Z
    grind [De,CQ]
   omega
 | Nt z n x=>
   simp[K.D6]at j;have q:=l.O j;simp only[K.Dq,K.ok,AB]at d;simp only[K.ok,K.E0,K.val,AB];have AL:GW (O A x)=false:=by cases v:O A x<;>simp[v,Bx]at d<;>rfl
   have AM:J6 t (O A x) (n*z)=true:=(by rw[J6,AL];exact d.1);refine⟨⟨VF P q AM,d.2⟩,?_⟩;cases v:O A x<;>simp[v,Bx]at d
   next a=>
    cases a with
    |none=>simp at d
    | some a=>rw[v]at q;obtain⟨b,r,s,B⟩:=q.Io;rw[B];simp only[Ue];exact .slice r
 |GV off x=>simp[K.D6]at j;exact⟨nr (l.O j) d,rm (l.O j) d off⟩
 | field AF off n x=>
   simp[K.D6]at j;have q:=l.O j;simp only[K.Dq,K.ok,AB]at d;simp only[K.ok,K.E0,K.val,AB];cases v:O A x<;>simp[v,Uo]at d;rw[v]at q;obtain⟨ys,e,D⟩:=q.K8;have:=D.1;simp at this;rw[e];refine⟨⟨by simp[Uo];omega,by simpa using d.2⟩,?_⟩;simp only[Zi];split
   ·exact((D.drop _).take _).agg
   ·next AN=>
    rename_i cs;have r:n=1:=(by simpa[AN]using d.2);have I:off<cs.toList.length:=(by simp;omega);obtain⟨y,G,AO⟩:=D.W (AS I)
    grind
 | HN z x i=>
   simp[K.D6]at j;simp only[K.Dq,AB,Ba]at d;obtain⟨⟨⟨r,s⟩,B⟩,C⟩:=d;have q:=l.O j.1;have e:=Jf (l.O j.2) s
   grind [K.ok,K.E0,K.val,e5,U2,a0w]
 | Qy z n x i=>
   simp[K.D6]at j;simp only[K.Dq,AB,Ba]at d;obtain⟨⟨⟨r,s⟩,B⟩,C⟩:=d;have q:=l.O j.1;have e:=Jf (l.O j.2) s
   grind [K.ok,K.E0,K.val,nr,rm]
 | UO x i=>simp[K.D6]at j;simp only[K.Dq,K.ok,AB,Ba]at d;obtain⟨⟨⟨r,s⟩,B⟩,C⟩:=d;have e:=Jf (l.O j.2) s;have w:=TF (l.O j.1) r;simp only[K.ok,K.E0,K.val,e,w,AB,Ba];exact⟨⟨⟨⟨r,s⟩,B⟩,C⟩,.BT rfl⟩
 | ext i x=>
   simp[K.D6]at j;have q:=l.O j;simp only[K.Dq,K.ok]at d;simp only[K.ok,K.E0,K.val];cases v:O A x<;>simp[v,Rk]at d;rename_i AP;rw[v]at q;obtain⟨ys,e,D⟩:=q.S1;have:=D.1;simp at this;rw[e];have I:i<AP.toList.length:=(by simpa using d);obtain⟨y,G,AO⟩:=D.W (AS I)
   simp_all
 | UY x=>simp[K.D6]at j;have w:=TF (l.O j) d;simp only[K.ok,K.E0,K.val,w];exact⟨d,.BT rfl⟩
 | NR x=>simp[K.D6]at j;have q:=l.O j;refine⟨aCg q d,?_⟩;simp only[K.E0,K.val,e5 q];exact .BT rfl
 | Xv x=>simp[K.D6]at j;have q:=l.O j;simp only[K.Dq,K.ok]at d⊢;rw[aa d]at q;rw[q.DH rfl];exact⟨rfl,.BT rfl⟩
 | QM A8 x xs=>simp[K.D6]at j;simp only[K.Dq,K.ok,AB]at d;have e:=Jf (l.O j.1) d.1;have A0:xs.all An=true:=(by simpa using j.2);obtain⟨r,s⟩:=sV l A8 xs (O A x) A0 d.2 d.1;simp only[K.ok,K.E0,K.val,e,r,AB];refine⟨⟨d.1,?_⟩,.BT (a0U s)⟩;simp only[BF]at d A0⊢;intro y G;rw[Jf (l.O (A0 y G)) (d.2 y G)];exact d.2 y G
 | Q9 fn first AX=>
   simp only[K.Dq]at d;simp only[K.D6,List.all_append,AB]at j;refine⟨rfl,?_⟩;simp only[K.E0,K.val];cases fn with
   | func f=>have r:=l.PI j.1;have s:=l.PI j.2;exact .func (by simpa using r.1) (by simpa using r.2) (by simpa using s.1) (by simpa using s.2)
   |_=>cases d
 |XF AQ x=>simp[K.D6]at j;exact⟨rfl,.iface (l.O j)⟩
 | VC AQ x=>
   simp[K.D6]at j;have q:=l.O j;simp only[K.Dq,K.ok]at d;simp only[K.ok,K.E0,K.val];cases v:O A x<;>simp[v,W8]at d;rw[v]at q;obtain⟨y,e,r⟩:=q.V8
   simp_all
 | Ll bp z o x AR=>
   simp[K.D6]at j;simp only[K.Dq,K.ok]at d;simp only[K.ok,K.E0,K.val];cases A1:Et t (O A x)with
   |none=>rw[A1]at d;cases d
   | some es=>
     rw[A1]at d;simp only at d;obtain⟨g,r,s⟩:=a0V P (l.O j.1) A1;obtain⟨B,C,M⟩:=oE s (l.O j.2) d;rw[r,C];rw[C]at B;refine⟨B,?_⟩;simp only[Option.bind_some];have V:AW u J z z:= .BT A3;rcases s8 (k:=O A AR) s M with⟨w,E⟩|⟨a,b,w,E,F⟩
     ·rw[w,E];split
      ·exact(AJ.cons V (AJ.cons (.BT rfl) AJ.nil)).tuple
      ·exact V
     ·rw[w,E];split
      ·exact(AJ.cons F (AJ.cons (.BT rfl) AJ.nil)).tuple
      ·exact F
 |_=>cases A9
def CO(J:C5)(id mid:Nat):C5:= λo=>if o=id then some mid else J o
variable {u:Ca} {J:C5} {A N:A6} {t m:V} {v b3:Value} {id mid h4 iv:Nat}
theorem CA.set(h:J id=none):CA J (CO J id mid):= λo b hb=>by
 grind [CO]
structure KB(J:C5)(u:Ca)(t m:V)(id mid:Nat):Prop where
 e:J id=none
 b: ∀o,J o≠some mid
 f:u mid=none
 Mt:id<t.next
 LA:mid<m.next
theorem KB.Di(a:KB J u t m id mid)(h:J o=some b):b≠mid:= λe=>by subst e;exact a.b o h
theorem BI.Di(a:BI J u t m){p c:Nat}(h:J p=some c)(d:J o=some b)(f:p≠o):c≠b:= λe=>by subst e;exact f (a.inj p o c h d)
theorem DQ{m:V}(h:m.BL b=some es):m.W b=some ⟨[],true⟩/\m.mp b=some es:=by
 grind [V.BL]
theorem E7{m:V}(h:m.W b=some ⟨[],true⟩)(a:m.mp b=some es):m.BL b=some es:=by unfold V.BL;rw[h];exact a
theorem eb(j:BI J u t m)(c:KB J u t m id mid)(r:AJ u J cs oq):BI (CO J id mid) u (t.A0 id (some ⟨cs,true⟩)) (m.A0 mid (some ⟨oq,true⟩)) where
 Eh o x n:=by
  by_cases d:o=id
  ·subst d;rw[AT c.Mt]at n;cases n;exact .inl ⟨mid,oq,true,by simp[CO],AT c.LA,λ_=>rfl,r.AG (Cs.refl _) (CA.set c.e)⟩
  ·rw[A3 d]at n;rcases j.Eh o x n with⟨b,ds,w,i,k,p,s⟩|⟨i,k⟩
   ·exact .inl ⟨b,ds,w,by simp[CO,d,i],by rw[A3 (c.Di i),k],p,s.AG (Cs.refl _) (CA.set c.e)⟩
   ·exact .inr ⟨by simp[CO,d,i],k⟩
 maps o es q:=by
  by_cases d:o=id
  ·subst d;have:=(DQ q).2;rw[show(t.A0 o (some ⟨cs,true⟩)).mp=t.mp from rfl,j.Er o c.e]at this;cases this
  ·rw[IS d]at q;obtain⟨b,g,i,k,p⟩:=j.maps o es q;exact⟨b,g,by simp[CO,d,i],by rw[IS (c.Di i),k],p.AG (Cs.refl _) (CA.set c.e)⟩
 Er o h:=by
  simp only[CO]at h;split at h
  ·cases h
  ·exact j.Er o h
 inj o o' b h l:=by
  simp only[CO]at h l;split at h
  ·cases h;split at l
   ·next a b=>rw[a,b]
   ·exact absurd l (c.b o')
  ·split at l
   ·cases l;exact absurd h (c.b o)
   ·exact j.inj o o' b h l
 B7 o b h:=by
  simp only[CO]at h;split at h
  ·next e=>cases h;subst e;exact⟨c.Mt,c.LA⟩
  ·exact j.B7 o b h
 AZ b ds h:=by
  have hb:b≠mid:= λe=>by subst e;rw[c.f]at h;cases h
  obtain⟨⟨w,i⟩,k⟩:=j.AZ b ds h
  grind [A3,CO]
theorem yd(d:KB J u t m id mid)(i:h4<=id)(j:iv<=mid){x:Option Bw}:Be h4 iv J u t m (CO J id mid) u (t.A0 id x) (m.A0 mid y) where
 e:=CA.set d.e
 f:=Cs.refl _
 MR o b h:=by
  grind [CO]
 fn b cs h:= .inl h
 Gm:=Ao _
 Gt:=Ao _
 DW b hb _:=A3 (by omega)
 To b hb:= λ⟨o,y,h,a,g⟩=>by
  simp only[CO]at h;split at h
  ·cases h;omega
  ·next c=>exact⟨o,y,h,by rw[A3 c]at a;exact a,g⟩
 TZ b hb:= λ⟨o,y,h,a⟩=>by
  simp only[CO]at h;split at h
  ·cases h;omega
  ·next c=>exact⟨o,y,h,by rw[A3 c]at a;exact a⟩
theorem a5e(i:BI J u t m)(a:KB J u t m id mid)(p:J2 u J es g):BI (CO J id mid) u (t.Cf id es) (m.Cf mid g) where
 Eh o x k:=by
  by_cases c:o=id
  ·subst c;rw[Ym a.Mt]at k;cases k;exact .inl ⟨mid,[],true,by simp[CO],Ym a.LA,λ_=>rfl,AJ.nil⟩
  ·rw[H2 c]at k;rcases i.Eh o x k with⟨b,ds,w,d,j,n,q⟩|⟨d,j⟩
   ·exact .inl ⟨b,ds,w,by simp[CO,c,d],by rw[H2 (a.Di d),j],n,q.AG (Cs.refl _) (CA.set a.e)⟩
   ·exact .inr ⟨by simp[CO,c,d],j⟩
 maps o fs l:=by
  by_cases c:o=id
  ·subst c;rw[RX a.Mt]at l;cases l;exact⟨mid,g,by simp[CO],RX a.LA,p.AG (Cs.refl _) (CA.set a.e)⟩
  ·rw[VG c]at l;obtain⟨b,g,d,j,n⟩:=i.maps o fs l;exact⟨b,g,by simp[CO,c,d],by rw[VG (a.Di d),j],n.AG (Cs.refl _) (CA.set a.e)⟩
 Er o h:=by
  simp only[CO]at h;split at h
  ·cases h
  ·next r=>show(if o=id then some es else t.mp o)=none;rw[if_neg r];exact i.Er o h
 inj:=(eb i a (cs:=[]) (oq:=[]) AJ.nil).inj
 B7:=(eb i a (cs:=[]) (oq:=[]) AJ.nil).B7
 AZ b ds h:=by
  have hb:b≠mid:= λe=>by subst e;rw[a.f]at h;cases h
  obtain⟨⟨w,d⟩,j⟩:=i.AZ b ds h
  grind [H2,CO]
theorem a6v(d:KB J u t m id mid)(j:h4<=id)(k:iv<=mid):Be h4 iv J u t m (CO J id mid) u (t.Cf id es) (m.Cf mid g) where
 e:=CA.set d.e
 f:=Cs.refl _
 MR o b h:=by
  grind [CO]
 fn b cs h:= .inl h
 Gm:=Ao _
 Gt:=Ao _
 DW b hb _:=H2 (by omega)
 To b hb:= λ⟨o,y,h,a,i⟩=>by
  simp only[CO]at h;split at h
  ·cases h;omega
  ·next c=>exact⟨o,y,h,by rw[H2 c]at a;exact a,i⟩
 TZ b hb:= λ⟨o,y,h,a⟩=>by
  simp only[CO]at h;split at h
  ·cases h;omega
  ·next c=>exact⟨o,y,h,by rw[H2 c]at a;exact a⟩
theorem lY(d:BI J u t m)(f:J o=some b)(A:t.W o=some x)(r:x.own=true)(hb:m.W b=some ⟨oq,w⟩)
 {ds k:List Value} (B:ds.length=x.cells.length) (C:AJ u J ds k) (D:w=true):BI J u (t.A0 o (some ⟨ds,true⟩)) (m.A0 b (some ⟨k,w⟩)) where
 Eh p y s:=by
  have l:=d.B7 o b f;by_cases i:p=o
  ·grind [AT]
  ·rw[A3 i]at s;rcases d.Eh p y s with⟨c,ds,w,e,j,n,E⟩|e
   ·exact .inl ⟨c,ds,w,e,by rw[A3 (d.Di e f i),j],n,E⟩
   ·exact .inr e
 maps p es q:=by
  have l:=d.B7 o b f;by_cases i:p=o
  ·subst i;obtain⟨e,j⟩:=DQ q;rw[AT l.1]at e;have F:ds=[]:=(by simpa using e);subst F;have v:x.cells=[]:=MM B.symm;have:t.BL p=some es:=E7 (by rw[A];obtain⟨a,b⟩:=x;simp at v r;simp[v,r]) j;obtain⟨K,g,z,G,H⟩:=d.maps p es this;rw[f]at z;cases z;have I:k=[]:=MM (by rw[<-C.1];rfl);refine⟨b,g,f,?_,H⟩;subst I;subst D;exact E7 (AT l.2) (DQ G).2
  ·rw[IS i]at q;obtain⟨c,g,e,j,n⟩:=d.maps p es q;exact⟨c,g,e,by rw[IS (d.Di e f i),j],n⟩
 Er:=d.Er
 inj:=d.inj
 B7:=d.B7
 AZ c es h:=by
  obtain⟨⟨L,e⟩,j⟩:=d.AZ c es h
  grind [A3]
theorem UL(r:BI J u t m)(a:J o=some b)(i:t.W o=some x)(k:x.own=true){z:Option Bw}:Be h4 iv J u t m J u (t.A0 o y) (m.A0 b z) where
 e:=CA.refl _
 f:=Cs.refl _
 MR o b h:= .inl h
 fn b cs h:= .inl h
 Gm:=Ao _
 Gt:=Ao _
 DW c l n:=A3 (λe=>n (by subst e;exact⟨o,x,a,i,k⟩))
 To c l:= λ⟨p,j,h,d,q⟩=>by
  by_cases g:p=o
  ·subst g;rw[a]at h;cases h;exact⟨p,x,a,i,k⟩
  ·rw[A3 g]at d;exact⟨p,j,h,d,q⟩
 TZ c l:= λ⟨p,j,h,d⟩=>by
  by_cases g:p=o
  ·subst g;rw[a]at h;cases h;exact⟨p,x,a,i⟩
  ·rw[A3 g]at d;exact⟨p,j,h,d⟩
theorem se(d:BI J u t m):BI J u (t.A0 o none) m where
 Eh p y a:=by
  by_cases b:p=o
  ·subst b;by_cases g:p<t.next
   ·simp_all
   ·have e:(t.A0 p none).W p=none:=X4 (by simp;omega);rw[e]at a;cases a
  ·rw[A3 b]at a;exact d.Eh p y a
 maps p es f:=by
  by_cases b:p=o
  ·subst b;have:=(DQ f).1;by_cases g:p<t.next
   ·simp_all
   ·have e:(t.A0 p none).W p=none:=X4 (by simp;omega)
    simp_all
  ·rw[IS b]at f;exact d.maps p es f
 Er:=d.Er
 inj:=d.inj
 B7:=d.B7
 AZ c es h:=by
  obtain⟨e,i⟩:=d.AZ c es h;refine⟨e,λp y j a=> ?_⟩;by_cases b:p=o
  ·subst b;by_cases g:p<t.next
   ·simp_all
   ·have e:(t.A0 p none).W p=none:=X4 (by simp;omega);rw[e]at a;cases a
  ·rw[A3 b]at a;exact i p y j a
theorem zi:Be h4 iv J u t m J u (t.A0 o none) m where
 e:=CA.refl _
 f:=Cs.refl _
 MR o b h:= .inl h
 fn b cs h:= .inl h
 Gm:=Ao _
 Gt:=Ao _
 DW c j n:=rfl
 To c j:= λ⟨p,g,h,a,k⟩=>by
  by_cases d:p=o
  ·subst d;by_cases l:p<t.next
   ·simp_all
   ·have i:(t.A0 p none).W p=none:=X4 (by simp;omega);rw[i]at a;cases a
  ·rw[A3 d]at a;exact⟨p,g,h,a,k⟩
 TZ c j:= λ⟨p,g,h,a⟩=>by
  by_cases d:p=o
  ·subst d;by_cases l:p<t.next
   ·simp_all
   ·have i:(t.A0 p none).W p=none:=X4 (by simp;omega);rw[i]at a;cases a
  ·rw[A3 d]at a;exact⟨p,g,h,a⟩
theorem nz(a:BI J u t m)(f:J o=some b)(r:t.W o=some x)(s:x.own=true):BI J u (t.A0 o none) (m.A0 b none) where
 Eh p y k:=by
  have n:=a.B7 o b f;by_cases e:p=o
  ·simp_all
  ·rw[A3 e]at k;rcases a.Eh p y k with⟨c,ds,w,d,i,j,q⟩|d
   ·exact .inl ⟨c,ds,w,d,by rw[A3 (a.Di d f e),i],j,q⟩
   ·exact .inr d
 maps p es l:=by
  have n:=a.B7 o b f;by_cases e:p=o
  ·grind [DQ,AT]
  ·rw[IS e]at l;obtain⟨c,g,d,i,j⟩:=a.maps p es l;exact⟨c,g,d,by rw[IS (a.Di d f e),i],j⟩
 Er:=a.Er
 inj:=a.inj
 B7:=a.B7
 AZ c es h:=by
  obtain⟨⟨v,d⟩,i⟩:=a.AZ c es h
  grind [A3]
theorem a7S(s:ByteArray):AJ u J (SJ s) (SJ s):=AJ.BT (by simp only[SJ,List.all_map,BF];intro b _;rfl)
structure IG(h4 iv id mid:Nat)(J:C5)(u:Ca)(t m b c:V)(v b3:Value)(a:C5):Prop where
 q4:BI a u b c
 val:AW u a v b3
 AZ:Be h4 iv J u t m a u b c
 eQ: ∀o,o≠id->a o=J o
 self:a id=J id\/a id=some mid
theorem IG.new(b:BI J u t m)(a:KB J u t m id mid)(c:h4<=id)(d:iv<=mid)(e:AJ u J cs oq){v b3:Value}(f:AW u (CO J id mid) v b3):
 ∃g,IG h4 iv id mid J u t m (t.A0 id (some ⟨cs,true⟩)) (m.A0 mid (some ⟨oq,true⟩)) v b3 g:=
 ⟨CO J id mid,eb b a e,f,yd a c d,λo h=>by simp[CO,h],.inr (by simp[CO])⟩
theorem IG.Ey(a:BI J u t m){v b3:Value}(b:AW u J v b3): ∃c,IG h4 iv id mid J u t m t m v b3 c:=⟨J,a,b,Be.refl,λ_ _=>rfl,.inl rfl⟩
theorem wZ(j:BI J u t m)(R:D5 u J A N){k:K}(AV:k.F0=false)(AG:OB k=true)(D:k.Dq A t=true)(A1:k.Bt=true->KB J u t m id mid)(S:h4<=id)(V:iv<=mid):
 k.ok N m=true/\ ∃AX,IG h4 iv id mid J u t m (k.Gz id A t) (k.Cl mid N m) (k.E0 id A t) (k.val mid N m) AX:=by
 by_cases AY:k.nk=true
 ·obtain⟨a,b⟩:=aCA j R AY AG D id mid;obtain⟨s,M⟩:=a0e (A:=A) (N:=N) (t:=t) (m:=m) AY (id:=id) (lg:=mid);refine⟨a,?_⟩;rw[s,M];exact IG.Ey j b
 ·simp only[OB,AB]at AG;obtain⟨L,AH⟩:=AG;have Z:CO J id mid id=some mid:=(by simp[CO]);cases k with
  |IX z=>exact⟨rfl,IG.new j (A1 rfl) S V (AJ.BT AH) (.AA Z)⟩
  | JP x=>simp[K.D6]at L;exact⟨(R.O L).E D,IG.new j (A1 rfl) S V (R.O L).H (.AA Z)⟩
  | HG a n z ps=>have Ah: ∀p∈ps,An p.2.2=true:= λp T=>BF.1 L _ (by simp only[K.D6];exact List.mem_map_of_mem T);exact⟨wx R rfl Ah D,IG.new j (A1 rfl) S V (fz R (AJ.BT AH) Ah) (.slice Z)⟩
  | MS x=>simp[K.D6]at L;simp only[K.Dq,K.ok,AB]at D;have e:=TF (R.O L) D.1;simp only[K.ok,K.E0,K.val,K.Gz,K.Cl,e,AB];exact⟨D,IG.new j (A1 rfl) S V (a7S _) (.slice Z)⟩
  | IA z bytes zero l c=>simp[K.D6]at L;have BE:=D;simp only[K.Dq,K.ok,AB]at D;have s:=Jf (R.O L.1) D.1.1.1.1.1.1;have M:=Jf (R.O L.2) D.1.1.1.1.1.2;simp only[K.ok,K.E0,K.val,K.Gz,K.Cl,s,M,AB];exact⟨D,IG.new j (A1 rfl) S V (AJ.flatten (AJ.BT AH)) (.slice Z)⟩
  | KD z bytes zero x n=>simp[K.D6]at L;simp only[K.Dq,K.ok,AB]at D;have s:=Jf (R.O L.2) D.1.1.1.1.2;have B:=R.O L.1;have AR:=aa D.1.1.1.1.1;rw[AR]at B;have M:=(B.DH rfl).trans AR.symm;simp only[K.ok,K.E0,K.val,K.Gz,K.Cl,s,M,AB];exact⟨D,IG.new j (A1 rfl) S V (AJ.flatten (AJ.BT AH)) (.slice Z)⟩
  | Cm zero x=>
    simp[K.D6]at L;have B:=R.O L;simp only[K.Dq,K.ok,AB,Ba]at D;obtain⟨⟨C,I⟩,A5⟩:=D;have A3:DL (O A x)=false:=by cases F:O A x<;>simp[F,Bp]at C<;>rfl
    have A6:=WM j B (z:=zero.length) (by rw[FH,A3];exact C);have Aa:=vZ j B I;simp only[K.ok,K.E0,K.val,K.Gz,K.Cl,AB,Ba];refine⟨⟨⟨A6,Aa⟩,A5⟩,?_⟩;cases F:O A x with
    | slice p l c=>
      rw[F]at B C I;cases p with
      | none=>have AR:=B.DH (by simpa[Bp,BB]using C);rw[AR];exact IG.Ey j AW.undef
      | some As=>
        obtain⟨X,A7,AK⟩:=As;cases r:t.W X with
        |none=>simp[Bp,r]at C
        | some y=>
          have AS:y.own=true:=(by simpa[Dl,r]using I);have Ak:Gj t zero (.slice (some ⟨X,A7,AK⟩) l c)=t.A0 X (some ⟨C3 y.cells A7 (List.replicate l zero).flatten,y.own⟩):=(by simp only[Gj,r]);rcases B.Fk with⟨b,s,M,P⟩|⟨s,M,P,A8⟩
          ·simp only at s P;obtain⟨cs,w,Q,A2,Y⟩:=j.Hc s r;have A4:=A2 AS;subst A4;rw[Ak,P];simp only[Gj,Q,AS];refine⟨J,?_,AW.undef,UL j s r AS,λ_ _=>rfl,.inl rfl⟩;exact lY j s r AS Q (by
            have: ∀(U:List Value) (cs:List Value) (o:Nat),(C3 cs o U).length=cs.length:=by
             intro U;induction U with
             |nil=>intro cs o;rfl
             |cons v U AL=>intro cs o;simp only[C3,AL,MJ]
            exact this _ _ _) (Y.C3 _ (AJ.flatten (AJ.BT AH))) rfl
          ·simp only at s M P;subst P;have At:t.A0 X (some ⟨C3 y.cells A7 (List.replicate 0 zero).flatten,y.own⟩)=t:=r7 r;rw[Ak,At,A8];exact IG.Ey j AW.undef
    |_=>simp[F,Bp]at C
  | LB=>have:=A1 rfl;exact⟨rfl,CO J id mid,a5e j this ⟨rfl,λi e BG a=>by simp at a⟩,.map Z,a6v this S V,λo AG=>by simp[CO,AG],.inr Z⟩
  | store n x v=>
    simp[K.D6]at L;have B:=R.O L.1;have A9:=R.O L.2;simp only[K.Dq,K.ok,AB,Ba]at D;obtain⟨⟨⟨C,I⟩,A5⟩,Ab⟩:=D;have A3:GW (O A x)=false:=by cases F:O A x<;>simp[F,Bx]at C<;>rfl
    have A6:=VF j B (n:=n) (by rw[J6,A3];exact C);simp only[K.ok,K.E0,K.val,K.Gz,K.Cl,AB,Ba];cases F:O A x with
    | pointer p=>
      cases p with
      |none=>simp[F,Bx]at C
      | some a=>
        rw[F]at B C I;obtain⟨b,s,M,P⟩:=B.Io;obtain⟨X,A7,AK⟩:=a;simp only at s M P;subst M;cases r:t.W X with
        |none=>simp[r]at C
        | some y=>
          simp only[a4S,r,Ba]at C;simp only[vS,r]at I;obtain⟨cs,w,Q,A2,Y⟩:=j.Hc s r;have A4:=A2 I;subst A4;rw[P]at A6⊢;simp only[aBT,r,Q,vS,I];refine⟨⟨⟨⟨A6,trivial⟩,A9.E A5⟩,by rw[<-A9.H.1];exact Ab⟩,J,?_,AW.undef,UL j s r I,λ_ _=>rfl,.inl rfl⟩;exact lY j s r I Q (by
           have: ∀(U:List Value) (cs:List Value) (o:Nat),(C3 cs o U).length=cs.length:=by
            intro U;induction U with
            |nil=>intro cs o;rfl
            |cons v U AL=>intro cs o;simp only[C3,AL,MJ]
           exact this _ _ _) (Y.C3 _ A9.H) rfl
    |_=>simp[F,Bx]at C
  | app z bytes x y=>
    simp[K.D6]at L;have B:=R.O L.1;have AD:=R.O L.2;simp only[K.Dq,AB,Ba]at D;obtain⟨⟨⟨⟨⟨C,I⟩,A5⟩,Ab⟩,Au⟩,Av⟩:=D;have A3:DL (O A x)=false:=by cases F:O A x<;>simp[F,Bp]at C<;>rfl
    have Al:FH t z (O A x)=true:=(by rw[FH,A3];exact C);have A6:=WM j B Al;have Aa:=vZ j B I;have Aw:=WM j AD A5;have Ac:=a8 AD;have Ad:CQ (O A x)=CQ (O N x):=(by rw[<-a8 B,Dz,A3];rfl);have Ax:AJ u J (C7 t z (O A x)) (C7 m z (O N x)):=(by have:=Za j B Al;rw[FA,A3]at this;exact this);have Am:=Za j AD A5;simp only[K.ok,K.E0,K.val,K.Gz,K.Cl,AB,Ba];refine⟨⟨⟨⟨⟨⟨A6,Aa⟩,Aw⟩,Ab⟩,by rw[<-Ad,<-Ac];exact Au⟩,by rw[<-Ad,<-Ac];exact Av⟩,?_⟩;rw[<-Ac,<-Ad];split
    ·exact IG.Ey j B
    ·next BH=>
     have AM:=A1 rfl;have Ay:Dn t z (O A x) (Dz (O A y))=Dn m z (O N x) (Dz (O A y)):=by
      unfold Bp at C;split at C
      ·next F=>rw[F]at B⊢;have:O N x=_:=B.DH (by simpa[BB]using C);rw[this];rfl
      ·next a l c F=>
       rw[F]at B⊢;obtain⟨X,A7,AK⟩:=a;rcases B.Fk with⟨b,s,M,P⟩|⟨s,M,P,A8⟩
       ·rw[P];cases AK with
        |none=>rfl
        | some k=>
          simp only[AB]at C;cases r:t.W X with
          |none=>simp[r]at C
          | some y=>obtain⟨cs,w,Q,A2,Y⟩:=j.Hc s r;simp only[Dn,r,Q,Y.1]
       ·rw[A8];simp only at M P;subst P;rcases M with rfl|rfl
        ·rfl
        ·simp only[Dn,Bool.and_eq_false_iff,Nd];left;omega
      ·cases C
     rw[<-Ay];split
     ·next AN=>
      unfold Bp at C;split at C
      ·next F=>rw[F]at AN;simp[Dn]at AN
      ·next a l c F=>
       rw[F]at B I AN⊢;obtain⟨X,A7,AK⟩:=a;rcases B.Fk with⟨b,s,M,P⟩|⟨s,M,P,A8⟩
       ·rw[P];cases r:t.W X with
        |none=>simp[Dl,r]at I
        | some y=>
          simp only[Dl,r]at I;obtain⟨cs,w,Q,A2,Y⟩:=j.Hc s r;have A4:=A2 I;subst A4;simp only[SI,GA,r,Q];refine⟨J,?_,.slice s,UL j s r I,λ_ _=>rfl,.inl rfl⟩;rw[I];exact lY j s r I Q (by
           have: ∀(U:List Value) (cs:List Value) (o:Nat),(C3 cs o U).length=cs.length:=by
            intro U;induction U with
            |nil=>intro cs o;rfl
            |cons v U AL=>intro cs o;simp only[C3,AL,MJ]
           exact this _ _ _) (Y.C3 _ Am) rfl
       ·simp only at M P;subst P;rcases M with rfl|rfl
        ·simp[Dn]at AN
        ·simp only[Dn,AB,Ba]at AN;omega
      ·cases C
     have key: ∃AE AF,Dx t (O A x)=AE/\Dx m (O N x)=AF/\BI J u AE AF/\Be h4 iv J u t m J u AE AF/\AE.next=t.next/\AF.next=m.next:=by
      refine⟨_,_,rfl,rfl,?_⟩;unfold Bp at C;split at C
      ·next F=>rw[F]at B⊢;have:O N x=_:=B.DH (by simpa[BB]using C);rw[this];exact⟨j,Be.refl,rfl,rfl⟩
      ·next a l c F=>
       rw[F]at B I⊢;rcases B.Fk with⟨b,s,M,P⟩|⟨s,M,P,A8⟩
       ·rw[P];cases r:t.W a.block with
        |none=>simp[Dl,r]at I
        | some y=>simp only[Dl,r]at I;exact⟨nz j s r I,UL j s r I,rfl,rfl⟩
       ·rw[A8];exact⟨se j,zi,rfl,rfl⟩
      ·cases C
     obtain⟨AE,AF,s,M,Az,B0,B1,B2⟩:=key;rw[s,M];have B3:KB J u AE AF id mid:=⟨AM.e,AM.b,AM.f,by rw[B1];exact AM.Mt,by rw[B2];exact AM.LA⟩;obtain⟨AX,q⟩:=IG.new (h4:=h4) (iv:=iv) Az B3 S V (Ax.Iu Am) (v:= .slice (some ⟨id,0,none⟩) (CQ (O A x)+Dz (O A y)) z) (b3:= .slice (some ⟨mid,0,none⟩) (CQ (O A x)+Dz (O A y)) z) (.slice Z);exact⟨AX,q.q4,q.val,B0.trans q.AZ,q.eQ,q.self⟩
  | Kn bp x Ap v=>
    simp[K.D6]at L;have B:=R.O L.1;have Ae:=R.O L.2.1;have A9:=R.O L.2.2;simp only[K.Dq,K.ok]at D;split at D
    ·next b F=>
     cases AO:t.BL b with
     |none=>simp[AO]at D
     | some es=>
       simp only[AO,AB]at D;obtain⟨c,g,Q,A2,Y⟩:=j.maps b es AO;rw[F]at B;obtain⟨AT,Aq,B4⟩:=B.UI;rw[Q]at Aq;cases Aq;obtain⟨B5,Ar,B6⟩:=oE Y Ae D.1;simp only[K.ok,K.E0,K.val,K.Gz,K.Cl,F,B4,Mx,AO,A2,L2,AB];refine⟨⟨B5,A9.G D.2⟩,J,?_,AW.undef,?_,λ_ _=>rfl,.inl rfl⟩
       ·rw[Ar];have B8:AW u J (O A Ap) (O A Ap):=(by rw[Ar]at Ae;exact Ae);have BJ:=xR B8 A9 Y B6;have BK:=j.B7 b c Q;refine⟨λp y AD=> ?_,λp fs T=> ?_,λp T=> ?_,j.inj,j.B7,λd ds AU=> ?_⟩
        ·by_cases AP:p=b
         ·grind [Ym,AJ.nil]
         ·rw[H2 AP]at AD;rcases j.Eh p y AD with⟨AT,ds,w,S,V,Af,B9⟩|S
          ·exact .inl ⟨AT,ds,w,S,by rw[H2 (j.Di S Q AP),V],Af,B9⟩
          ·exact .inr S
        ·by_cases AP:p=b
         ·grind [RX]
         ·rw[VG AP]at T;obtain⟨AT,g,S,V,Af⟩:=j.maps p fs T;exact⟨AT,g,S,by rw[VG (j.Di S Q AP),V],Af⟩
        ·have BA:p≠b:= λe=>by subst e;rw[Q]at T;cases T
         show(if p=b then _ else t.mp p)=none;rw[if_neg BA];exact j.Er p T
        ·obtain⟨⟨BM,C⟩,I⟩:=j.AZ d ds AU
         grind [DQ,H2]
       ·have r:=(DQ AO).1;refine⟨CA.refl _,Cs.refl _,λ_ _ h=> .inl h,λ_ _ h=> .inl h,Ao _,Ao _,λd AU A4=> ?_,λd AU=> λ⟨p,Ag,h,AQ,BC⟩=> ?_,λd AU=> λ⟨p,Ag,h,AQ⟩=> ?_⟩
        ·exact H2 (λe=>A4 (by subst e;exact⟨b,_,Q,r,rfl⟩))
        ·by_cases T:p=b
         ·subst T;rw[Q]at h;cases h;exact⟨p,_,Q,r,rfl⟩
         ·rw[H2 T]at AQ;exact⟨p,Ag,h,AQ,BC⟩
        ·by_cases T:p=b
         ·subst T;rw[Q]at h;cases h;exact⟨p,_,Q,r⟩
         ·rw[H2 T]at AQ;exact⟨p,Ag,h,AQ⟩
    ·cases D
  |KC=>cases AV
  |Iw=>cases AV
  |Ip=>cases AV
  |_=>exact absurd rfl AY
theorem tv(w:BI J u t m)(z:D5 u J A N)(l:bp.all (λp=>An p.1&&An p.2)=true)(h:Du A t bp=true):Dm N bp=true:=by
 simp only[Dm,Du,BF]at h l⊢;intro p B;have i:=h p B;have q:=l p B;obtain⟨x,y⟩:=p;simp only[AB]at q;simp only at i⊢;have r:=z.O q.1;have g:=z.O q.2;generalize O A x=a at r i;generalize O N x=j at r;generalize O A y=b at g i;generalize O N y=D at g;have Q: ∀{a j:Value},AW u J a j->Ec a=true-> ∀c,I j=some c-> ∃cs,u c=some cs:= λl g c f=>by
  cases l with
  |BT h=>have:=(LC h).2.2;rw[this]at g;cases g
  |Ql e n=>simp[I]at f;subst f;exact⟨_,n⟩
  |Oy=>simp[I]at f
  |BR e n=>simp[I]at f;subst f;exact⟨_,n⟩
  |_=>simp[Ec]at g
 have C: ∀{a j:Value},AW u J a j->Ec a=false-> ∀c,I j=some c-> ∃o,I a=some o/\J o=some c:= λl g c f=>by
  cases l with
  | BT h=>rename_i a;unfold I at f;split at f<;>simp[BB]at h f
  |AA k=>simp[I]at f;subst f;exact⟨_,rfl,k⟩
  |slice k=>simp[I]at f;subst f;exact⟨_,rfl,k⟩
  |map k=>simp[I]at f;subst f;exact⟨_,rfl,k⟩
  |Ql e=>subst e;simp at g
  |Oy e=>subst e;simp at g
  |BR e=>subst e;simp at g
  |_=>simp[I]at f
 have R: ∀{c:Nat} {cs:List Value} {b:Value} {o:Nat},u c=some cs->I b=some o->U7 t b=true->J o=some c->False:= λ{c cs b o} n hb s k=>by
  simp only[U7,hb,OX]at s;cases v:t.W o with
  |none=>simp[v]at s
  | some x=>
    simp only[v]at s;have:=(w.AZ c cs n).2 o x k v
    simp_all
 cases E:I j with
 |none=>rfl
 | some c=>
   cases F:I D with
   |none=>rfl
   | some d=>
     simp only;unfold eV at i;split at i
     ·grind
     ·next G=>
      split at i
      ·grind
      ·next H=>obtain⟨o,K,L⟩:=C r (by simpa using G) c E;obtain⟨o',M,P⟩:=C g (by simpa using H) d F;rw[K,M]at i;simp only[bne_iff_ne,ne_eq]at i⊢;intro e;subst e;exact i (w.inj o o' c L P)
end Go.DI
