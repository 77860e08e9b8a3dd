/- A part of the proof. -/
import Derived.Test.YtmmkkggfmigppaaGreatZcu
set_option linter.all false
set_option maxRecDepth 8000
set_option maxHeartbeats 16000000
namespace Go.Proofs.YtmmkkggfmigppaaGreat
open Go Go.DI Go.Big
def uP(m:V)(v:Value)(l:List Int):Prop:=(v= .slice none 0 0/\l=[])\/ ∃b o cs w,v= .slice (some ⟨b,o,none⟩) l.length 1/\m.W b=some ⟨cs,w⟩/\(cs.drop o).take l.length=l.map Y/\o+l.length<=cs.length
variable{a6 v:Value}{l r:List Int}{m t au:V}{J:C5}{u:AY}{T:ByteArray}{L:List (List Int)}{p o f:Nat}{ps:List Nat}{x:Int}
theorem aAt(f:uP m a6 l)(j:l.length<=1000000):Aq U 71 [a6] m λr a=>m.next<=a.next/\(∀b,b<m.next->a.W b=m.W b/\a.mp b=m.mp b)/\
 ((l.length=0/\l.map Y=[]/\r= .slice none 0 0)\/ ∃q,m.next<=q/\q<a.next/\r= .slice (some ⟨q,0,none⟩) l.length 1/\a.W q=some ⟨l.map Y,true⟩):=by
 rcases f with⟨rfl,rfl⟩|⟨b,o,cs,w,rfl,c,g,d⟩
 ·rw[sU (by simp)];simp[Tx]
 ·have k:=V.F c;rw[sU (by simp)];by_cases e:l.length=0
  ·obtain rfl:=Gy.1 e;simp(disch:=first|omega|simp only[AD];omega)[Tx,c];refine⟨by simpa using d,λh i=>⟨by simp(disch:=first|omega|simp only[AD];omega),rfl⟩,⟨m.next,by omega,by omega,rfl,by simp(disch:=first|omega|simp only[AD];omega)⟩⟩
  ·simp(disch:=first|omega|simp only[AD];omega)[Tx,c,e];refine⟨⟨⟨d,by omega⟩,by omega⟩,λh i=>⟨by simp(disch:=first|omega|simp only[AD];omega),rfl⟩,m.next+2,by omega,by omega,rfl,by simp(disch:=first|omega|simp only[AD];omega)[g]⟩
def Sk:Value->Bool
 | .slice (some a) _ _=>a.spot.isNone
 |_=>true
theorem a58{u:Ca}(a:AW u J v a6)(h:Sk v=true):Sk a6=true:=by
 cases a with
 |slice _=>exact h
 |BT _=>exact h
 |_=>rfl
def LJ(t:V)(v:Value)(l:List Int):Prop:=(FH t 1 v=true/\Sk v=true)/\FA t 1 v=l.map Y
theorem a6z: ∀{l:List Int} {u:Ca} {J:C5} {ys:List Value},AJ u J (l.map Y) ys->ys=l.map Y:= λ{l u J ys} h=>by
 apply N1;intro i;cases a:(l.map Y)[i]? with
 | none=>have:=List.getElem?_eq_none_iff.1 a;rw[LF (by rw[<-h.1];exact this)]
 | some x=>have c:=(AX.1 a).1;obtain⟨y,b⟩: ∃y,ys[i]?=some y:=⟨_,AS (by rw[<-h.1];exact c)⟩;have d:=h.2 i x y a b;rw[GS,Kz]at a;obtain⟨n,_,rfl⟩:=a;rw[b,d.Hd]
theorem LJ.at{u:Ca}(h:LJ t v l)(d:BI J u t m)(c:AW u J v a6):uP m a6 l:=by
 have g:=a58 c h.1.2;have i:=WM d c h.1.1;have e:=Za d c h.1.1;rw[h.2]at e;have a:=a6z e;rcases P7 i with rfl|⟨b,off,len,x,j,rfl,f,o⟩
 ·refine .inl ⟨rfl,?_⟩;have:=congrArg List.length a;simp[C7]at this;exact Gy.1 this.symm
 ·obtain rfl:j=none:=(by simpa[Sk]using g);have k:C7 m 1 (.slice (some ⟨b,off,none⟩) len 1)=(x.cells.drop off).take len:=(by simp[C7,CW,f]);rw[k]at a;have n:len=l.length:=by
   have:=congrArg List.length a;rw[GC,List.length_drop,Eb]at this;omega
  subst n;exact .inr ⟨b,off,x.cells,x.own,rfl,f,a,by omega⟩
theorem LJ.inj{c:List Int}(h:LJ t v l)(d:LJ t v c):l=c:=by have:=h.2.symm.trans d.2;exact List.map_inj_right (λa b e=>by simpa using e)|>.1 this
theorem LJ.enc:LJ t (AH l) l:=⟨⟨by simp[FH],by simp[Sk,M]⟩,by
 have: ∀l:List Int,(l.map λd=>[Y d]).flatten=l.map Y:= λl=>by
  induction l with
  |nil=>rfl
  |cons x l a=>simp[a]
 simp[FA,this]⟩
theorem yV(h:LJ t v l)(a:l.length<=1000000):Bv U 71 [v] t λr au=>r=AQ t.next l.length 1/\au=(t.AE 1).A0 t.next (some ⟨l.map Y,true⟩):=
 aBh (by simp[BB]) λJ u e m b c=>by obtain⟨a6,rfl,d⟩:=c.Gd;exact aAt (h.at b d) a
open Classical in
noncomputable def Sh(v:Value)(t:V):Option (Value×V):=if h: ∃l,LJ t v l/\l.length<=1000000 then some (AQ t.next h.choose.length 1,(t.AE 1).A0 t.next (some ⟨h.choose.map Y,true⟩))else none
theorem a3B(h:LJ t v l)(b:l.length<=1000000):Sh v t=some (AQ t.next l.length 1,(t.AE 1).A0 t.next (some ⟨l.map Y,true⟩)):=by have a: ∃l,LJ t v l/\l.length<=1000000:=⟨l,h,b⟩;have e:a.choose=l:=a.choose_spec.1.inj h;unfold Sh;rw[dif_pos a,e]
noncomputable def ZM:DB U:= .B8 71 Value (λv=>[v]) (λv t=>Sh v t) λv t r au h a7 d=>by
 simp only[Sh]at h;split at h
 ·next c=>cases h;exact(yV c.choose_spec.1 c.choose_spec.2).AG λr au ⟨a,b⟩=>by rw[a,b];exact d
 ·cases h
@[simp] theorem aKK:ZM.f=71:=rfl
@[simp] theorem aIU:ZM.fn [v] t=Sh v t:=DB.BD (x:=v) (t:=t) λy a=>by simp at a;rw[a]
def UB(l:List Value):Option (List Int):=match l with
 |[]=>some []
 | .int .i64 n::l=>(match UB l with
   |some k=>some (n::k)
   |none=>none)
 |_=>none
theorem ya: ∀{cs:List Value} {l:List Int},UB cs=some l->cs=l.map Y
 |[],l,h=>by cases h;rfl
 | .int .i64 n::cs,l,h=>by
   simp only[UB]at h;cases a:UB cs with
   |none=>rw[a]at h;cases h
   |some k=>rw[a]at h;cases h;rw[ya a];rfl
def uO(k:Nat):KY:= λf args a=>bif Nat.beq f k then(match args with
 | [v]=>if FH (Ad a) 1 v&&Sk v then(match UB (FA (Ad a) 1 v)with
   | some l=>if Nat.ble l.length 1000000 then(match HX (RZ a 1) a.next (some ⟨l.map Y,true⟩)with
     |some b=>some (AQ a.next l.length 1,b)
     |none=>none)else none
   |none=>none)else none
 |_=>none)else none
theorem OK:KI U (uO 71):= λf args j r cK a h=>by
 unfold uO at h;cases hb:Nat.beq f 71 with
 |false=>rw[hb]at h;cases h
 | true=>
   rw[hb]at h;simp only[cond_true]at h;obtain rfl:=Nat.eq_of_beq_eq_true hb;split at h
   ·next v=>
    split at h
    ·next c=>
     split at h
     ·next l d=>
      split at h
      ·next e=>
       split at h
       ·next k g=>cases h;obtain⟨i,b⟩:=P2 (tH a) g;rw[vU a]at b;refine⟨i,?_⟩;rw[b];exact yV ⟨by simpa using c,ya d⟩ (by simpa using e)
       ·cases h
      ·cases h
     ·cases h
    ·cases h
   ·cases h
def RI(x:Ac):Bool:=decide (x∈VM)
theorem eK{x:Ac}(h:RI x=true):x.B1:=by unfold RI at h;rw[Ba]at h;exact h
def k9(x:F1):Bool:=match x.e with
 |[⟨false,[1],[z]⟩]=>decide (2<=z)&&decide (z<200)&&decide (x.s=[⟨false,[1],[1]⟩])&&decide (x.v9=[[⟨false,[],[1]⟩]])
 |_=>false
theorem aAD{x:F1}(h:k9 x=true):x.B1:=by
 obtain⟨BP,s,b,e⟩:=x;unfold k9 at h;split at h
 ·rename_i z a;simp only[AB,Ba]at h;exact⟨z,h.1.1.1,h.1.1.2,h.1.2,h.2,a⟩
 ·cases h
def mj(x:Dw):Bool:=x.Mi.all RI&&decide (x.Mi.length<=20)&&RI x.Kf&&RI x.KW&&decide (x.Aa.length<=20)
theorem a4w{x:Dw}(h:mj x=true):Dw.CV x:=by simp only[mj,AB,BF,Ba]at h;obtain⟨⟨⟨⟨a,e⟩,b⟩,c⟩,f⟩:=h;exact⟨⟨λr d=>eK (a r d),by omega⟩,eK b,eK c,by omega⟩
def Sy(u:AY):Bool:=u.Bz.all k9&&(u.A5.all λd=>RI d.HH)&&u.Ay.all mj&&decide (u.Bz.length<=100)&&decide (u.Aa.length<=100)&&decide (u.A5.length<=100)&&decide (u.A1.length<=100)&&decide (u.Ay.length<=100)&&decide (u.A7.length<=100)
theorem xH(h:Sy u=true):AY.CV u:=by simp only[Sy,AB,BF,Ba]at h;obtain⟨⟨⟨⟨⟨⟨⟨⟨b,c⟩,d⟩,e⟩,f⟩,g⟩,i⟩,j⟩,k⟩:=h;exact⟨λx a=>aAD (b x a),λx a=>eK (c x a),λx a=>a4w (d x a),by omega,by omega,by omega,by omega,by omega,by omega⟩
def lx(T:ByteArray):Bool:=decide (0<T.size/\T.size<=16/\Hs (LL T 0)=true/\KS GL T T.size 0=T.size)
theorem aAi(h:lx T=true):IY T=true:=Q3 (by unfold lx at h;unfold BP;exact of_decide_eq_true h)
def QN(l:List ByteArray):Bool:=l.all lx&&decide l.Nodup
theorem UX{l:List ByteArray}(h:QN l=true):EO l=true:=by unfold QN at h;unfold EO;simp only[AB,BF]at h⊢;exact⟨λx a=>aAi (h.1 x a),h.2⟩
def TX(u:AY):Bool:=C6 u.ext 1 4&&(decide (u.Bz.length<=4)&&(decide (u.Aa.length<=4)&&(decide (u.A5.length<=40)&&(decide (u.A1.length<=24)&&(decide (u.Ay.length<=4)&&(decide (u.A7.length<=12)&&(KU u.A5&&(u.Bz.all F1.Md&&(u.Aa.all (OT u.Bz.length)&&(u.A1.all (Od u.Aa.length u.A5)&&(u.Ay.all (JW · u.Aa.length)&&(u.A7.all (Pz u.Ay.length)&&(QN (u.Bz.map (·.name))&&(QN (u.Aa.map (·.name))&&(QN (u.A5.tail.map (·.name)++u.A1.map (·.name))&&(QN (u.Ay.map (·.name))&&QN (u.A7.map (·.name))))))))))))))))))
theorem zk(h:TX u=true):HO u=true:=by unfold TX at h;unfold HO;simp only[AB]at h⊢;obtain⟨a,b,a3,a4,c,d,e,f,g,i,j,k,l,m,n,o,p,q⟩:=h;exact⟨a,b,a3,a4,c,d,e,f,g,i,j,k,l,UX m,UX n,UX o,UX p,UX q⟩
theorem aAu(h:Sy u=true)(a:TX u=true):AL U 62 [.agg (A4 u).toArray] (.int .i64 0):=by exact xU (xH h) (zk a)
theorem vY(h:Sy u=true)(a:TX u=true):AL U 87 [.agg (A4 u).toArray] (.bool true):=by exact zG (xH h) (zk a)
theorem Sb{n d:Int}{x:Ac}(h:Fl n d)(a:C9 n d=x):AL U 59 [Y n,Y d] (B5 x):=by rw[<-a];exact u7 h
section
set_option maxRecDepth 100000
def mi:AY:=⟨1,[⟨⟨#[100,105,115,107]⟩,[⟨false,[1],[1]⟩],[[⟨false,[],[1]⟩]],[⟨false,[1],[101]⟩]⟩],[⟨⟨#[98,105,103]⟩,3,8,0⟩,⟨⟨#[111,108,100]⟩,2,6,0⟩],[⟨⟨#[]⟩,0,(-1),0,⟨false,[],[1]⟩⟩,⟨⟨#[110,97,98]⟩,1,0,17,⟨false,[],[1]⟩⟩,⟨⟨#[110,97,99]⟩,2,1,18,⟨false,[],[1]⟩⟩,⟨⟨#[110,97,100]⟩,3,2,8,⟨false,[],[1]⟩⟩,⟨⟨#[110,97,101]⟩,4,3,9,⟨false,[],[1]⟩⟩,⟨⟨#[110,97,102]⟩,3,2,8,⟨false,[],[1]⟩⟩,⟨⟨#[110,97,103]⟩,4,5,9,⟨false,[],[1]⟩⟩,⟨⟨#[110,97,104]⟩,3,2,8,⟨false,[],[1]⟩⟩,⟨⟨#[110,97,105]⟩,4,7,9,⟨false,[],[1]⟩⟩],[⟨⟨#[100,97,97]⟩,1,4⟩,⟨⟨#[100,97,98]⟩,1,6⟩,⟨⟨#[100,97,99]⟩,1,8⟩],[⟨⟨#[112,97,99]⟩,1,0,1,⟨0,0,0,2,0⟩,[0,1],[⟨false,[1],[2]⟩],⟨false,[1],[1000]⟩,⟨false,[30],[1]⟩⟩,⟨⟨#[112,97,98]⟩,1,0,1,⟨0,0,0,2,0⟩,[0,1],[⟨false,[1],[2]⟩],⟨false,[1],[1000]⟩,⟨false,[30],[1]⟩⟩],[⟨⟨#[118,97,100]⟩,0⟩,⟨⟨#[118,97,99]⟩,1⟩,⟨⟨#[118,97,98]⟩,0⟩]⟩
theorem aA1:Sy mi=true:=by decide+kernel
theorem a7t:TX mi=true:=by decide+kernel
def nQ:Value:= .agg #[.int .i64 1,M [[.string ⟨#[100,105,115,107]⟩,M [[.bool false,M [[.int .u32 1]] 1,M [[.int .u32 1]] 1]] 3,M [[M [[.bool false,M [] 1,M [[.int .u32 1]] 1]] 3]] 1,M [[.bool false,M [[.int .u32 1]] 1,M [[.int .u32 101]] 1]] 3]] 4,M [[.string ⟨#[98,105,103]⟩,.int .i64 3,.int .i64 8,.int .i64 0],[.string ⟨#[111,108,100]⟩,.int .i64 2,.int .i64 6,.int .i64 0]] 4,M [[.string ⟨#[]⟩,.int .i64 0,.int .i64 (-1),.int .i64 0,.bool false,M [] 1,M [[.int .u32 1]] 1],[.string ⟨#[110,97,98]⟩,.int .i64 1,.int .i64 0,.int .i64 17,.bool false,M [] 1,M [[.int .u32 1]] 1],[.string ⟨#[110,97,99]⟩,.int .i64 2,.int .i64 1,.int .i64 18,.bool false,M [] 1,M [[.int .u32 1]] 1],[.string ⟨#[110,97,100]⟩,.int .i64 3,.int .i64 2,.int .i64 8,.bool false,M [] 1,M [[.int .u32 1]] 1],[.string ⟨#[110,97,101]⟩,.int .i64 4,.int .i64 3,.int .i64 9,.bool false,M [] 1,M [[.int .u32 1]] 1],[.string ⟨#[110,97,102]⟩,.int .i64 3,.int .i64 2,.int .i64 8,.bool false,M [] 1,M [[.int .u32 1]] 1],[.string ⟨#[110,97,103]⟩,.int .i64 4,.int .i64 5,.int .i64 9,.bool false,M [] 1,M [[.int .u32 1]] 1],[.string ⟨#[110,97,104]⟩,.int .i64 3,.int .i64 2,.int .i64 8,.bool false,M [] 1,M [[.int .u32 1]] 1],[.string ⟨#[110,97,105]⟩,.int .i64 4,.int .i64 7,.int .i64 9,.bool false,M [] 1,M [[.int .u32 1]] 1]] 7,M [[.string ⟨#[100,97,97]⟩,.int .i64 1,.int .i64 4],[.string ⟨#[100,97,98]⟩,.int .i64 1,.int .i64 6],[.string ⟨#[100,97,99]⟩,.int .i64 1,.int .i64 8]] 3,M [[.string ⟨#[112,97,99]⟩,.int .i64 1,.int .i64 0,.int .i64 1,.int .i64 0,.int .i64 0,.int .i64 0,.int .i64 2,.int .i64 0,M [[.int .i64 0],[.int .i64 1]] 1,M [[.bool false,M [[.int .u32 1]] 1,M [[.int .u32 2]] 1]] 3,.bool false,M [[.int .u32 1]] 1,M [[.int .u32 1000]] 1,.bool false,M [[.int .u32 30]] 1,M [[.int .u32 1]] 1],[.string ⟨#[112,97,98]⟩,.int .i64 1,.int .i64 0,.int .i64 1,.int .i64 0,.int .i64 0,.int .i64 0,.int .i64 2,.int .i64 0,M [[.int .i64 0],[.int .i64 1]] 1,M [[.bool false,M [[.int .u32 1]] 1,M [[.int .u32 2]] 1]] 3,.bool false,M [[.int .u32 1]] 1,M [[.int .u32 1000]] 1,.bool false,M [[.int .u32 30]] 1,M [[.int .u32 1]] 1]] 17,M [[.string ⟨#[118,97,100]⟩,.int .i64 0],[.string ⟨#[118,97,99]⟩,.int .i64 1],[.string ⟨#[118,97,98]⟩,.int .i64 0]] 2]
theorem a7V:nQ= .agg (A4 mi).toArray:=by rfl
theorem aDG:AL U 87 [nQ] (.bool true):=by rw[a7V];exact vY aA1 a7t
def k0:AY:=⟨1,[⟨⟨#[100,105,115,107]⟩,[⟨false,[1],[1]⟩],[[⟨false,[],[1]⟩]],[⟨false,[1],[101]⟩]⟩],[⟨⟨#[98,105,103]⟩,3,8,0⟩,⟨⟨#[111,108,100]⟩,2,6,0⟩],[⟨⟨#[]⟩,0,(-1),0,⟨false,[],[1]⟩⟩,⟨⟨#[110,97,98]⟩,1,0,17,⟨false,[],[1]⟩⟩,⟨⟨#[110,97,99]⟩,2,1,18,⟨false,[],[1]⟩⟩,⟨⟨#[110,97,100]⟩,3,2,8,⟨false,[],[1]⟩⟩,⟨⟨#[110,97,101]⟩,4,3,9,⟨false,[],[1]⟩⟩,⟨⟨#[110,97,102]⟩,3,2,8,⟨false,[],[1]⟩⟩,⟨⟨#[110,97,103]⟩,4,5,9,⟨false,[],[1]⟩⟩,⟨⟨#[110,97,104]⟩,3,2,8,⟨false,[],[1]⟩⟩,⟨⟨#[110,97,105]⟩,4,7,9,⟨false,[],[1]⟩⟩],[⟨⟨#[100,97,97]⟩,1,4⟩,⟨⟨#[100,97,98]⟩,1,6⟩,⟨⟨#[100,97,99]⟩,1,8⟩],[⟨⟨#[112]⟩,1,0,1,⟨0,0,0,0,0⟩,[0,1],[⟨false,[1],[1]⟩],⟨false,[],[1]⟩,⟨false,[1],[1]⟩⟩],[⟨⟨#[118]⟩,0⟩]⟩
theorem tP:Sy k0=true:=by decide+kernel
theorem rv:TX k0=true:=by decide+kernel
def I2:Value:= .agg #[.int .i64 1,M [[.string ⟨#[100,105,115,107]⟩,M [[.bool false,M [[.int .u32 1]] 1,M [[.int .u32 1]] 1]] 3,M [[M [[.bool false,M [] 1,M [[.int .u32 1]] 1]] 3]] 1,M [[.bool false,M [[.int .u32 1]] 1,M [[.int .u32 101]] 1]] 3]] 4,M [[.string ⟨#[98,105,103]⟩,.int .i64 3,.int .i64 8,.int .i64 0],[.string ⟨#[111,108,100]⟩,.int .i64 2,.int .i64 6,.int .i64 0]] 4,M [[.string ⟨#[]⟩,.int .i64 0,.int .i64 (-1),.int .i64 0,.bool false,M [] 1,M [[.int .u32 1]] 1],[.string ⟨#[110,97,98]⟩,.int .i64 1,.int .i64 0,.int .i64 17,.bool false,M [] 1,M [[.int .u32 1]] 1],[.string ⟨#[110,97,99]⟩,.int .i64 2,.int .i64 1,.int .i64 18,.bool false,M [] 1,M [[.int .u32 1]] 1],[.string ⟨#[110,97,100]⟩,.int .i64 3,.int .i64 2,.int .i64 8,.bool false,M [] 1,M [[.int .u32 1]] 1],[.string ⟨#[110,97,101]⟩,.int .i64 4,.int .i64 3,.int .i64 9,.bool false,M [] 1,M [[.int .u32 1]] 1],[.string ⟨#[110,97,102]⟩,.int .i64 3,.int .i64 2,.int .i64 8,.bool false,M [] 1,M [[.int .u32 1]] 1],[.string ⟨#[110,97,103]⟩,.int .i64 4,.int .i64 5,.int .i64 9,.bool false,M [] 1,M [[.int .u32 1]] 1],[.string ⟨#[110,97,104]⟩,.int .i64 3,.int .i64 2,.int .i64 8,.bool false,M [] 1,M [[.int .u32 1]] 1],[.string ⟨#[110,97,105]⟩,.int .i64 4,.int .i64 7,.int .i64 9,.bool false,M [] 1,M [[.int .u32 1]] 1]] 7,M [[.string ⟨#[100,97,97]⟩,.int .i64 1,.int .i64 4],[.string ⟨#[100,97,98]⟩,.int .i64 1,.int .i64 6],[.string ⟨#[100,97,99]⟩,.int .i64 1,.int .i64 8]] 3,M [[.string ⟨#[112]⟩,.int .i64 1,.int .i64 0,.int .i64 1,.int .i64 0,.int .i64 0,.int .i64 0,.int .i64 0,.int .i64 0,M [[.int .i64 0],[.int .i64 1]] 1,M [[.bool false,M [[.int .u32 1]] 1,M [[.int .u32 1]] 1]] 3,.bool false,M [] 1,M [[.int .u32 1]] 1,.bool false,M [[.int .u32 1]] 1,M [[.int .u32 1]] 1]] 17,M [[.string ⟨#[118]⟩,.int .i64 0]] 2]
theorem rq:I2= .agg (A4 k0).toArray:=by rfl
theorem a76:AL U 62 [I2] (.int .i64 0):=by rw[rq];exact aAu tP rv
theorem aEa:AL U 87 [I2] (.bool true):=by rw[rq];exact vY tP rv
def a1J:List (Nat×AN):=[(18,Zv),(39,o6),(41,aZ),(44,Ze),(45,p1),(48,cA),(49,O3),(52,TT),(60,Xi),(61,Zr),(63,ef),(78,XU),(86,Uw),(91,ZS),(92,al),(93,LP),(94,WR),(96,cf),(98,rg),(99,W0),(101,fO),(102,cD),(108,dC),(109,Xs),(115,bt),(123,ZJ),(124,aY),(125,xW),(127,Yi),(128,XW),(129,Yc),(133,VR),(146,ZC),(147,ar),(148,ZT),(149,e8),(152,ZG),(153,zC),(154,sA),(155,uj),(156,ta),(157,c5),(183,ei),(184,yK),(185,sS),(186,ti),(187,YL),(200,dD),(201,pc),(202,eA),(203,Uq),(204,af),(206,YF),(207,u2),(208,p4),(209,zb),(210,xu),(211,yk),(234,ru),(235,o4),(236,y9),(242,zO),(243,wF),(244,oA),(261,pJ),(262,uC),(263,xS),(264,z9),(276,p8),(277,qY),(298,wo),(299,pW),(300,vI),(301,oM)]
theorem O4:ee U a1J:=⟨⟨⟨by kernel_rfl,yR⟩,by kernel_rfl⟩,⟨⟨⟨by kernel_rfl,aG2⟩,by kernel_rfl⟩,⟨⟨⟨by kernel_rfl,yv⟩,by kernel_rfl⟩,⟨⟨⟨by kernel_rfl,qC⟩,by kernel_rfl⟩,⟨⟨⟨by kernel_rfl,a7U⟩,by kernel_rfl⟩,⟨⟨⟨by kernel_rfl,sq⟩,by kernel_rfl⟩,⟨⟨⟨by kernel_rfl,qv⟩,by kernel_rfl⟩,⟨⟨⟨by kernel_rfl,nf⟩,by kernel_rfl⟩,⟨⟨⟨by kernel_rfl,q7⟩,by kernel_rfl⟩,⟨⟨⟨by kernel_rfl,sH⟩,by kernel_rfl⟩,⟨⟨⟨by kernel_rfl,vf⟩,by kernel_rfl⟩,⟨⟨⟨by kernel_rfl,yi⟩,by kernel_rfl⟩,⟨⟨⟨by kernel_rfl,wG⟩,by kernel_rfl⟩,⟨⟨⟨by kernel_rfl,su⟩,by kernel_rfl⟩,⟨⟨⟨by kernel_rfl,wi⟩,by kernel_rfl⟩,⟨⟨⟨by kernel_rfl,sK⟩,by kernel_rfl⟩,⟨⟨⟨by kernel_rfl,sP⟩,by kernel_rfl⟩,⟨⟨⟨by kernel_rfl,xF⟩,by kernel_rfl⟩,⟨⟨⟨by kernel_rfl,aFB⟩,by kernel_rfl⟩,⟨⟨⟨by kernel_rfl,sC⟩,by kernel_rfl⟩,⟨⟨⟨by kernel_rfl,pA⟩,by kernel_rfl⟩,⟨⟨⟨by kernel_rfl,wD⟩,by kernel_rfl⟩,⟨⟨⟨by kernel_rfl,xX⟩,by kernel_rfl⟩,⟨⟨⟨by kernel_rfl,sW⟩,by kernel_rfl⟩,⟨⟨⟨by kernel_rfl,vi⟩,by kernel_rfl⟩,⟨⟨⟨by kernel_rfl,xK⟩,by kernel_rfl⟩,⟨⟨⟨by kernel_rfl,y0⟩,by kernel_rfl⟩,⟨⟨⟨by kernel_rfl,xO⟩,by kernel_rfl⟩,⟨⟨⟨by kernel_rfl,zY⟩,by kernel_rfl⟩,⟨⟨⟨by kernel_rfl,so⟩,by kernel_rfl⟩,⟨⟨⟨by kernel_rfl,qc⟩,by kernel_rfl⟩,⟨⟨⟨by kernel_rfl,oF⟩,by kernel_rfl⟩,⟨⟨⟨by kernel_rfl,yZ⟩,by kernel_rfl⟩,⟨⟨⟨by kernel_rfl,q2⟩,by kernel_rfl⟩,⟨⟨⟨by kernel_rfl,rQ⟩,by kernel_rfl⟩,⟨⟨⟨by kernel_rfl,sB⟩,by kernel_rfl⟩,⟨⟨⟨by kernel_rfl,vW⟩,by kernel_rfl⟩,⟨⟨⟨by kernel_rfl,a2S⟩,by kernel_rfl⟩,⟨⟨⟨by kernel_rfl,aFY⟩,by kernel_rfl⟩,⟨⟨⟨by kernel_rfl,wO⟩,by kernel_rfl⟩,⟨⟨⟨by kernel_rfl,aG5⟩,by kernel_rfl⟩,⟨⟨⟨by kernel_rfl,wa⟩,by kernel_rfl⟩,⟨⟨⟨by kernel_rfl,zN⟩,by kernel_rfl⟩,⟨⟨⟨by kernel_rfl,vs⟩,by kernel_rfl⟩,⟨⟨⟨by kernel_rfl,v8⟩,by kernel_rfl⟩,⟨⟨⟨by kernel_rfl,wI⟩,by kernel_rfl⟩,⟨⟨⟨by kernel_rfl,rX⟩,by kernel_rfl⟩,⟨⟨⟨by kernel_rfl,wB⟩,by kernel_rfl⟩,⟨⟨⟨by kernel_rfl,py⟩,by kernel_rfl⟩,⟨⟨⟨by kernel_rfl,oh⟩,by kernel_rfl⟩,⟨⟨⟨by kernel_rfl,vJ⟩,by kernel_rfl⟩,⟨⟨⟨by kernel_rfl,vq⟩,by kernel_rfl⟩,⟨⟨⟨by kernel_rfl,xa⟩,by kernel_rfl⟩,⟨⟨⟨by kernel_rfl,aA0⟩,by kernel_rfl⟩,⟨⟨⟨by kernel_rfl,a4q⟩,by kernel_rfl⟩,⟨⟨⟨by kernel_rfl,aDo⟩,by kernel_rfl⟩,⟨⟨⟨by kernel_rfl,oT⟩,by kernel_rfl⟩,⟨⟨⟨by kernel_rfl,z6⟩,by kernel_rfl⟩,⟨⟨⟨by kernel_rfl,um⟩,by kernel_rfl⟩,⟨⟨⟨by kernel_rfl,sl⟩,by kernel_rfl⟩,⟨⟨⟨by kernel_rfl,r2⟩,by kernel_rfl⟩,⟨⟨⟨by kernel_rfl,tj⟩,by kernel_rfl⟩,⟨⟨⟨by kernel_rfl,xc⟩,by kernel_rfl⟩,⟨⟨⟨by kernel_rfl,a7s⟩,by kernel_rfl⟩,⟨⟨⟨by kernel_rfl,wg⟩,by kernel_rfl⟩,⟨⟨⟨by kernel_rfl,xr⟩,by kernel_rfl⟩,⟨⟨⟨by kernel_rfl,zM⟩,by kernel_rfl⟩,⟨⟨⟨by kernel_rfl,sD⟩,by kernel_rfl⟩,⟨⟨⟨by kernel_rfl,sh⟩,by kernel_rfl⟩,⟨⟨⟨by kernel_rfl,vQ⟩,by kernel_rfl⟩,⟨⟨⟨by kernel_rfl,qQ⟩,by kernel_rfl⟩,⟨⟨⟨by kernel_rfl,np⟩,by kernel_rfl⟩,⟨⟨⟨by kernel_rfl,qd⟩,by kernel_rfl⟩,⟨⟨⟨by kernel_rfl,qb⟩,by kernel_rfl⟩,trivial⟩⟩⟩⟩⟩⟩⟩⟩⟩⟩⟩⟩⟩⟩⟩⟩⟩⟩⟩⟩⟩⟩⟩⟩⟩⟩⟩⟩⟩⟩⟩⟩⟩⟩⟩⟩⟩⟩⟩⟩⟩⟩⟩⟩⟩⟩⟩⟩⟩⟩⟩⟩⟩⟩⟩⟩⟩⟩⟩⟩⟩⟩⟩⟩⟩⟩⟩⟩⟩⟩⟩⟩⟩⟩
def dX:II:=[(59,[.int .i64 1,.int .i64 1],.agg #[.bool false,M [[.int .u32 1]] 1,M [[.int .u32 1]] 1]),(59,[.int .i64 0,.int .i64 1],.agg #[.bool false,M [] 1,M [[.int .u32 1]] 1]),(59,[.int .i64 1,.int .i64 101],.agg #[.bool false,M [[.int .u32 1]] 1,M [[.int .u32 101]] 1]),(59,[.int .i64 1,.int .i64 1000],.agg #[.bool false,M [[.int .u32 1]] 1,M [[.int .u32 1000]] 1]),(59,[.int .i64 30,.int .i64 1],.agg #[.bool false,M [[.int .u32 30]] 1,M [[.int .u32 1]] 1]),(59,[.int .i64 1,.int .i64 2],.agg #[.bool false,M [[.int .u32 1]] 1,M [[.int .u32 2]] 1]),(87,[nQ],.bool true),(87,[I2],.bool true),(62,[I2],.int .i64 0)]
theorem mR:J0 U dX:=Hy (Sb (x:=⟨false,[1],[1]⟩) (by unfold Fl;decide) (by decide+kernel)) (Hy (Sb (x:=⟨false,[],[1]⟩) (by unfold Fl;decide) (by decide+kernel)) (Hy (Sb (x:=⟨false,[1],[101]⟩) (by unfold Fl;decide) (by decide+kernel)) (Hy (Sb (x:=⟨false,[1],[1000]⟩) (by unfold Fl;decide) (by decide+kernel)) (Hy (Sb (x:=⟨false,[30],[1]⟩) (by unfold Fl;decide) (by decide+kernel)) (Hy (Sb (x:=⟨false,[1],[2]⟩) (by unfold Fl;decide) (by decide+kernel)) (Hy (aDG) (Hy (aEa) (Hy (a76) (w1)))))))))
def w5:Value:= .agg #[.int .i64 14,.int .i64 0,.int .i64 1,M [[.int .i64 0,.int .i64 2,.int .i64 1,.int .i64 0],[.int .i64 2,.int .i64 3,.int .i64 1,.int .i64 0],[.int .i64 3,.int .i64 4,.int .i64 1,.int .i64 0],[.int .i64 4,.int .i64 5,.int .i64 1,.int .i64 0],[.int .i64 5,.int .i64 6,.int .i64 1,.int .i64 0],[.int .i64 4,.int .i64 7,.int .i64 1,.int .i64 0],[.int .i64 7,.int .i64 8,.int .i64 1,.int .i64 0],[.int .i64 4,.int .i64 9,.int .i64 1,.int .i64 0],[.int .i64 9,.int .i64 10,.int .i64 1,.int .i64 0],[.int .i64 6,.int .i64 11,.int .i64 1,.int .i64 0],[.int .i64 8,.int .i64 12,.int .i64 1,.int .i64 1],[.int .i64 10,.int .i64 13,.int .i64 1,.int .i64 1],[.int .i64 11,.int .i64 1,.int .i64 0,.int .i64 0],[.int .i64 12,.int .i64 1,.int .i64 2,.int .i64 0],[.int .i64 13,.int .i64 1,.int .i64 2,.int .i64 0]] 4]
def ZK:Value:= .tuple #[M [[.int .i64 1],[.int .i64 1],[.int .i64 1],[.int .i64 0],[.int .i64 0],[.int .i64 0],[.int .i64 0],[.int .i64 1],[.int .i64 1],[.int .i64 0],[.int .i64 0],[.int .i64 1],[.int .i64 0],[.int .i64 0],[.int .i64 1]] 1,.int .i64 1,M [[.int .i64 0],[.int .i64 1],[.int .i64 0],[.int .i64 0],[.int .i64 0],[.int .i64 0],[.int .i64 0],[.int .i64 0],[.int .i64 0],[.int .i64 0],[.int .i64 0],[.int .i64 0],[.int .i64 1],[.int .i64 1]] 1,.int .i64 0]
theorem aAA:AL U 201 [w5,.int .i64 1] (ZK):=Mq (Le O4) (c0:=dX) mR OK (n:=100000) (d:=80) (by kernel_rfl)
def uo:Value:= .agg #[.int .i64 14,.int .i64 0,.int .i64 1,M [[.int .i64 0,.int .i64 2,.int .i64 1,.int .i64 0],[.int .i64 2,.int .i64 3,.int .i64 1,.int .i64 0],[.int .i64 3,.int .i64 4,.int .i64 1,.int .i64 0],[.int .i64 4,.int .i64 5,.int .i64 1,.int .i64 0],[.int .i64 5,.int .i64 6,.int .i64 1,.int .i64 0],[.int .i64 4,.int .i64 7,.int .i64 1,.int .i64 0],[.int .i64 7,.int .i64 8,.int .i64 1,.int .i64 0],[.int .i64 4,.int .i64 9,.int .i64 1,.int .i64 0],[.int .i64 9,.int .i64 10,.int .i64 1,.int .i64 0],[.int .i64 6,.int .i64 11,.int .i64 1,.int .i64 0],[.int .i64 8,.int .i64 12,.int .i64 1,.int .i64 1],[.int .i64 10,.int .i64 13,.int .i64 1,.int .i64 1],[.int .i64 11,.int .i64 1,.int .i64 0,.int .i64 0],[.int .i64 12,.int .i64 1,.int .i64 1,.int .i64 0],[.int .i64 13,.int .i64 1,.int .i64 1,.int .i64 0]] 4]
theorem a2C:AL U 201 [uo,.int .i64 1] (ZK):=Mq (Le O4) (c0:=dX) mR OK (n:=100000) (d:=80) (by kernel_rfl)
def cS:II:=[(201,[w5,.int .i64 1],ZK),(201,[uo,.int .i64 1],ZK)]++dX
theorem mZ:J0 U cS:=Hy aAA (Hy a2C (mR))
def cx:Value:= .tuple #[.agg #[M [[M [[.int .i64 2]] 1]] 1,.int .i64 1,M [[.int .i64 0],[.int .i64 1],[.int .i64 0],[.int .i64 0],[.int .i64 0],[.int .i64 0],[.int .i64 0],[.int .i64 0],[.int .i64 0],[.int .i64 0],[.int .i64 0],[.int .i64 0],[.int .i64 1],[.int .i64 1]] 1],.int .i64 0]
theorem aCG:AL U 148 [I2,M [[M [[.int .i64 0]] 1]] 1,M [[.int .i64 0],[.int .i64 2],[.int .i64 2]] 1] (cx):=Mq (Le O4) (c0:=cS) mZ OK (n:=100000) (d:=80) (by kernel_rfl)
theorem a8r:AL U 148 [I2,M [[M [[.int .i64 0]] 1]] 1,M [[.int .i64 0],[.int .i64 1],[.int .i64 1]] 1] (cx):=Mq (Le O4) (c0:=cS) mZ OK (n:=100000) (d:=80) (by kernel_rfl)
def fq:II:=[(148,[I2,M [[M [[.int .i64 0]] 1]] 1,M [[.int .i64 0],[.int .i64 2],[.int .i64 2]] 1],cx),(148,[I2,M [[M [[.int .i64 0]] 1]] 1,M [[.int .i64 0],[.int .i64 1],[.int .i64 1]] 1],cx)]++cS
theorem vF:J0 U fq:=Hy aCG (Hy a8r (mZ))
def qH:Value:= .tuple #[.agg #[M [[.int .i64 0,.int .i64 0,.int .i64 0,.int .i64 2]] 4,M [[M [[.int .i64 2]] 1]] 1,.int .i64 1,M [[.int .i64 0],[.int .i64 1],[.int .i64 0],[.int .i64 0],[.int .i64 0],[.int .i64 0],[.int .i64 0],[.int .i64 0],[.int .i64 0],[.int .i64 0],[.int .i64 0],[.int .i64 0],[.int .i64 1],[.int .i64 1]] 1,.int .i64 0],.int .i64 0]
theorem a0K:AL U 44 [I2,M [[M [[.int .i64 0]] 1]] 1,M [[.int .i64 0],[.int .i64 2],[.int .i64 2]] 1] (qH):=Mq (Le O4) (c0:=fq) vF OK (n:=100000) (d:=80) (by kernel_rfl)
def jP:II:=[(44,[I2,M [[M [[.int .i64 0]] 1]] 1,M [[.int .i64 0],[.int .i64 2],[.int .i64 2]] 1],qH)]++fq
theorem tE:J0 U jP:=Hy a0K (vF)
def tW:Value:= .agg #[M [[M [[.int .i64 2]] 1]] 1,.int .i64 1,M [[.int .i64 0],[.int .i64 1],[.int .i64 0],[.int .i64 0],[.int .i64 0],[.int .i64 0],[.int .i64 0],[.int .i64 0],[.int .i64 0],[.int .i64 0],[.int .i64 0],[.int .i64 0],[.int .i64 1],[.int .i64 1]] 1]
theorem a4E:AL U 98 [I2,M [[M [[.int .i64 0]] 1]] 1,M [[.int .i64 0],[.int .i64 2],[.int .i64 2]] 1,tW] (.bool true):=Mq (Le O4) (c0:=jP) tE OK (n:=100000) (d:=80) (by kernel_rfl)
def jL:II:=[(98,[I2,M [[M [[.int .i64 0]] 1]] 1,M [[.int .i64 0],[.int .i64 2],[.int .i64 2]] 1,tW],.bool true)]++jP
theorem rC:J0 U jL:=Hy a4E (tE)
def si:Value:=M [[.int .i64 0,.int .i64 0,.int .i64 0,.int .i64 2]] 4
theorem aBF:AL U 41 [I2,M [[M [[.int .i64 0]] 1]] 1,M [[.int .i64 0],[.int .i64 2],[.int .i64 2]] 1,si] (.tuple #[M [[M [[.int .i64 2]] 1]] 1,.int .i64 1]):=Mq (Le O4) (c0:=jL) rC OK (n:=100000) (d:=80) (by kernel_rfl)
def m8:II:=[(41,[I2,M [[M [[.int .i64 0]] 1]] 1,M [[.int .i64 0],[.int .i64 2],[.int .i64 2]] 1,si],.tuple #[M [[M [[.int .i64 2]] 1]] 1,.int .i64 1])]++jL
theorem pK:J0 U m8:=Hy aBF (rC)
def yY:Value:= .agg #[M [[.int .i64 0,.int .i64 0,.int .i64 0,.int .i64 2]] 4,M [[M [[.int .i64 2]] 1]] 1,.int .i64 1,M [[.int .i64 0],[.int .i64 1],[.int .i64 0],[.int .i64 0],[.int .i64 0],[.int .i64 0],[.int .i64 0],[.int .i64 0],[.int .i64 0],[.int .i64 0],[.int .i64 0],[.int .i64 0],[.int .i64 1],[.int .i64 1]] 1,.int .i64 0]
theorem aBY:AL U 45 [I2,M [[M [[.int .i64 0]] 1]] 1,M [[.int .i64 0],[.int .i64 2],[.int .i64 2]] 1,yY] (.bool true):=Mq (Le O4) (c0:=m8) pK OK (n:=100000) (d:=80) (by kernel_rfl)
def wU:II:=[(45,[I2,M [[M [[.int .i64 0]] 1]] 1,M [[.int .i64 0],[.int .i64 2],[.int .i64 2]] 1,yY],.bool true)]++m8
theorem a6t:J0 U wU:=Hy aBY (pK)
theorem a1Q:AL U 39 [] (.bool true):=Mq (Le O4) (c0:=wU) a6t OK (n:=100000) (d:=80) (by kernel_rfl)
end
theorem hr{d e:Type}{f:d->Option e}: ∀{l:List d} {c:List e},c.length=l.length->(∀(i:Nat) (x:d) (y:e),l[i]?=some x->c[i]?=some y->f x=some y)->C8 f l=some c
 |[],[],_,_=>rfl
 |[],_::_,h,_=>by simp at h
 |_::_,[],h,_=>by simp at h
 | x::l,y::c,g,h=>by rw[fr,h 0 x y rfl rfl];simp only;rw[hr (by simpa using g) λi a b j hb=>h (i+1) a b (by simpa using j) (by simpa using hb)]
def LI(ps:List Nat)(L:List (List Int))(j:Nat):Value:=AQ (ps.getD j 0) (L.getD j []).length 1
theorem Kb{j:Nat}(a:ps[j]?=some p)(b:L[j]?=some r):LI ps L j=AQ p r.length 1:=by simp only[LI,Dv,a,b,L2]
def Cv(ps:List Nat)(L:List (List Int)):List Value:=Ct L.length (LI ps L)
structure Dt(t:V)(o:Nat)(ps:List Nat)(L:List (List Int)):Prop where
 len:ps.length=L.length
 DD:ps.Nodup
 Gq:o∉ps
 Da:t.W o=some ⟨Cv ps L,true⟩
 D8: ∀(i p:Nat) r,ps[i]?=some p->L[i]?=some r->t.W p=some ⟨r.map Y,true⟩
theorem Qp{n:Nat}(h:Dt t o ps L):DI.Az (n+2) t (AQ o L.length 1)=some (Ag L):=by
 have c:FE 1 L.length (Cv ps L)=(Cv ps L).map λv=>[v]:=by
  have:=e6 (z:=1) (b5:=(Cv ps L).map λv=>[v]) (λr j=>by obtain⟨v,_,rfl⟩:=CP.1 j;rfl);rw[Eb,show(Cv ps L).length=L.length from by simp[Cv]]at this;rw[<-this];congr 1;generalize Cv ps L=l;induction l with
  |nil=>rfl
  |cons x l k=>rw[E1,HM,<-k];rfl
 have d:C8 (C8 (DI.Az (n+1) t)) ((Cv ps L).map λv=>[v])=some (L.map BE):=hr (by simp[Cv]) λi x y e b=>by have a:i<L.length:=(by have:=(AX.1 b).1;simpa using this);rw[GS,Cv,Ej a]at e;rw[GS,AS a]at b;cases e;cases b;have m:i<ps.length:=(by rw[h.len];exact a);have f:ps[i]?=some ps[i]:=AS m;rw[Kb f (AS a)];have:=JG (n:=n) (b5:=L[i].map λx=>[Y x]) (l:=L[i].length) (z:=1) (w:=true) (by rw[K6];exact h.D8 i _ _ f (AS a)) (by simp) KT;rw[fr,this];rfl
 rw[dS,h.Da];simp only[Cv]at c d⊢;simp only[VI,KK,Nat.zero_add,Nat.mul_one,Ao,if_true];rw[c,d]
theorem Dt.AG(h:Dt t o ps L)(b:au.W o=t.W o)(c: ∀p∈ps,au.W p=t.W p):Dt au o ps L:=
 ⟨h.len,h.DD,h.Gq,by rw[b];exact h.Da,λi p r a d=>by rw[c p (B9 a)];exact h.D8 i p r a d⟩
def Ci(L:List (List Int))(v f:Nat)(x:Int):List (List Int):=L.set v ((L.getD v []).set f x)
theorem ML{v:Nat}:(Ci L v f x).length=L.length:=by simp[Ci]
theorem aDm{v:Nat}:Cv ps (Ci L v f x)=Cv ps L:=by
 unfold Cv;rw[ML];refine FG λj a=> ?_;have:((Ci L v f x).getD j []).length=(L.getD j []).length:=by
  simp only[Ci,Dv,Ig];by_cases h:v=j
  ·subst h;rw[if_pos rfl,if_pos a];simp
  ·rw[if_neg h]
 unfold LI;rw[this]
theorem Dt.set{v:Nat}(h:Dt t o ps L)(m:v<L.length)(k:ps[v]?=some p)(n:au.W o=t.W o)(s: ∀q∈ps,q≠p->au.W q=t.W q)(u:au.W p=some ⟨((L.getD v []).set f x).map Y,true⟩):Dt au o ps (Ci L v f x):=by
 refine⟨by rw[ML];exact h.len,h.DD,h.Gq,by rw[n,aDm];exact h.Da,λi q r d g=> ?_⟩;simp only[Ci,Ig]at g;by_cases j:v=i
 ·subst j;rw[if_pos rfl,if_pos m]at g;rw[k]at d;cases d;cases g;exact u
 ·rw[if_neg j]at g;have w:q≠p:= λe=>by
   subst e;have a:=AX.1 k;have b:=AX.1 d;have l:=NA.1 h.DD;rcases Nat.lt_trichotomy v i with c|c|c
   ·exact l v i a.1 b.1 c (a.2.trans b.2.symm)
   ·exact j c
   ·exact l i v b.1 a.1 c (b.2.trans a.2.symm)
  rw[s q (B9 d) w];exact h.D8 i q r d g
structure a2m(t:V)(o:Nat)(ps:List Nat)(L:List (List Int))(i:Nat):Prop where
 len:ps.length=i
 DD:ps.Nodup
 Gq:o∉ps
 B7: ∀p∈ps,p<t.next
 Da:t.W o=some ⟨Ct i (LI ps L),true⟩
 D8: ∀(j p:Nat) r,ps[j]?=some p->L[j]?=some r->t.W p=some ⟨r.map Y,true⟩
theorem aEm(y:Bk L)(J: ∀r∈L,1<=r.length):Bv U 46 [Ag L] D0 λv K=> ∃o ps,v=AQ o L.length 1/\Dt K o ps L:=by
 refine Ak (an:=⟨[],[]⟩) aA8 (by kernel_rfl) (by simp[mU]) ?_;simp[mU,wC];refine Pa (d:=3) (z:=1) (by simp) ?_;have A7:=y.1;refine CE (an:=⟨[],[]⟩) (λi k t=> ∃o ps,a2m t o ps L i/\k 0=Ag L/\k 3=AQ o i 1/\k 4=Y i) L.length ?_ ?_ 0 _ _ (C0 _) ?_
 ·rintro i k t q ⟨o,ps,f,l,u,w⟩ A8 N;have A:L[i]?=some L[i]:=AS q;have B:1<=L[i].length:=J _ (Dc q);have A9:L[i].length<=1000:=y.2 _ (Dc q);have O:=BX (n:=i) (by omega);have P:(i:Int)<L.length:=(by omega);have C:=f.Da;have AB:=F C;have Q: ¬L[i]=[]:= λe=>by rw[e]at B;simp at B
  have R:L[i].length*8<=140737488355328/\L[i].length<=9223372036854775807/\(i+1)*24<=140737488355328/\i<=9223372036854775806:=(by omega);have AD: ¬o=t.next+5:=by omega
  have AE: ¬o=t.next+6:=by omega
  have S:(Ct i (LI ps L)).take i=Ct i (LI ps L):=DV (by simp);have T:(L[i].map λs=>[Y s]).flatten=L[i].map Y:=K6;simp(disch:=first|omega|simp only[DI.A2];omega)[h6,er,l,u,w,P,O,C,BE,Q,R,S,T,-H,-E,-I,-G,-List.map_map];have m: ∀p∈ps,p≠t.next+5/\p≠t.next+6/\p≠t.next+7/\p<t.next/\p≠o:= λp g=>by have:=f.B7 p g;exact⟨by omega,by omega,by omega,this,λe=>f.Gq (e▸g)⟩
  have V: ∀j p,(ps++[t.next+5])[j]?=some p->(j<i/\ps[j]?=some p)\/(j=i/\p=t.next+5):= λj p g=>by
   rw[MY,f.len]at g;split at g
   ·next c=>exact .inl ⟨c,g⟩
   ·next c=>
    obtain rfl|AF:j=i\/i<j:=by omega
    ·simp at g;exact .inr ⟨rfl,g.symm⟩
    ·rw[LF (by simp;omega)]at g;cases g
  refine N _ _ ⟨t.next+7,ps++[t.next+5],⟨by simp[f.len],?_,?_,?_,?_,?_⟩,by simp[l],by simp,by simp⟩
  ·rw[Mz];exact⟨f.DD,by simp,λa W b hb=>by simp at hb;subst hb;exact(m a W).1⟩
  ·intro h;rcases Cg.1 h with h|h
   ·exact(m _ h).2.2.1 rfl
   ·simp at h
  ·intro p g;rcases Cg.1 g with h|h
   ·have:=(m p h).2.2.2.1;simp;omega
   ·simp at h;subst h;simp
  ·rw[AT (by simp)];congr 2;rw[fI];congr 1
   ·refine FG λj X=> ?_;have Z:j<ps.length:=(by rw[f.len];exact X);simp only[LI,Dv,L8 Z]
   ·rw[Kb (p:=t.next+5) (r:=L[i]) (by rw[<-f.len,KM (Ao _)];simp) A]
  ·intro j p r g x;rcases V j p g with⟨c,D⟩|⟨rfl,rfl⟩
   ·obtain⟨A0,A1,A4,A5,A6⟩:=m p (B9 D);rw[A3 A4,A3 A6,A3 A1,A3 A0,AU A5];exact f.D8 j p r D x
   ·rw[A]at x;cases x;rw[A3 (by omega),A3 (by omega),A3 (by omega),AT (by simp)]
 ·rintro k t ⟨o,ps,f,l,u,w⟩;simp[h6,er,er,l,u,w];exact⟨ps,f.len,f.DD,f.Gq,f.Da,f.D8⟩
 ·exact⟨0,[],⟨rfl,List.nodup_nil,by simp,by simp,by simp[Ct],by simp⟩,by simp,by simp,by simp⟩
def Fs(L:List (List Int))(k:Nat):List Nat:=(List.range L.length).map (k+1+ ·)
def Fh(L:List (List Int))(k:Nat):List (List Value):=Cv (Fs L k) L::L.map λr=>r.map Y
theorem xY{k i:Nat}(h:i<L.length):(Fs L k)[i]?=some (k+1+i):=by simp[Fs,h]
theorem zg(q:Bv U f [Ag L] D0 λv h=> ∃o ps,v=AQ o L.length 1/\Dt h o ps L)(t:V):Bv U f [Ag L] t λv au=>v=AQ t.next L.length 1/\au=D2 t.next (Fh L t.next) (t.AE (L.length+1)):=by
 refine cV (n:=L.length+1) (r:= λk=>AQ k L.length 1) (bs:=Fh L) (λk=>by simp[Fh]) (λv d=>by simp at d;subst d;rfl) (q.AG λv h ⟨o,ps,d,a⟩=> ?_) t;subst d;have j:(o::ps)[0]?=some o:=rfl;refine⟨o::ps,K5.2 ⟨a.Gq,a.DD⟩,by simp[a.len],λk=>⟨.slice ⟨0,j,rfl⟩,λi cs e=> ?_⟩⟩;cases i with
 | zero=>simp[Fh]at e;subst e;refine⟨o,_,j,a.Da,by simp[Cv],λi x y g l=> ?_⟩;have b:i<L.length:=(by have:=(AX.1 g).1;simpa[Cv]using this);have c:i<ps.length:=(by rw[a.len];exact b);have m:=AS b;rw[Cv,Ej b,Kb (AS c) m]at g;rw[Cv,Ej b,Kb (xY (k:=k) b) m]at l;cases g;cases l;exact .slice ⟨i+1,by rw[RE];exact AS c,by omega⟩
 | succ i=>simp only[Fh,RE,GS,Kz]at e;obtain⟨r,p,rfl⟩:=e;have b:=(AX.1 p).1;have c:i<ps.length:=(by rw[a.len];exact b);exact⟨ps[i],_,by rw[RE];exact AS c,a.D8 i _ r (AS c) p,EL.cells WD⟩
theorem ji:Dt (D2 t.next (Fh L t.next) (t.AE (L.length+1))) t.next (Fs L t.next) L:=by
 have a:(Fh L t.next).length=L.length+1:=by simp[Fh]
 refine⟨by simp[Fs],?_,?_,?_,λi p r b d=> ?_⟩
 ·unfold Fs;refine NA.2 λi j e f g=> ?_;simp;omega
 ·simp[Fs];omega
 ·have:=YO (i:=t.next) (j:=0) (t:=t.AE (L.length+1)) (l:=Fh L t.next) (c:=Cv (Fs L t.next) L) (by rw[a];simp[V.AE]) rfl;simpa using this
 ·have e:=(AX.1 d).1;rw[xY e]at b;cases b;have:=YO (i:=t.next) (j:=i+1) (t:=t.AE (L.length+1)) (l:=Fh L t.next) (c:=r.map Y) (by rw[a];simp[V.AE]) (by simp[Fh,d]);rw[show t.next+1+i=t.next+(i+1) by omega];exact this
structure aEK(t:V)(o:Nat)(ps:List Nat)(L:List (List Int))(i:Nat):Prop where
 len:ps.length=i
 DD:ps.Nodup
 Gq:o∉ps
 B7: ∀p∈ps,p<t.next
 Da:t.W o=some ⟨Ct L.length (λj=>if j<i then LI ps L j else .slice none 0 0),true⟩
 D8: ∀(j p:Nat) r,ps[j]?=some p->L[j]?=some r->t.W p=some ⟨r.map Y,true⟩
theorem aBp(x:Bk L):Bv U 146 [Ag L] D0 λv D=> ∃o ps,v=AQ o L.length 1/\Dt D o ps L:=by
 refine Ak (an:=⟨[],[ZM]⟩) yZ (by kernel_rfl) (by simp[ZC]) ?_;have X:=x.1;have Z:L.length*24<=140737488355328/\L.length<=9223372036854775807:=by omega
 simp(disch:=first|omega|simp only[DI.A2];omega)[ZC,ow,-H,-E,-I,-G,-List.map_map];refine⟨by omega,?_⟩;refine CE (an:=⟨[],[ZM]⟩) (λi g t=> ∃o ps,aEK t o ps L i/\g 3=AQ o L.length 1/\g 9=Ag L/\g 10=Y L.length/\g 11=Y i) L.length ?_ ?_ 0 _ _ (C0 _) ?_
 ·rintro i g t y ⟨o,ps,d,k,q,l,s⟩ A1 K;have z:L[i]?=some L[i]:=AS y;have A4:L[i].length<=1000:=x.2 _ (Dc y);have M:=BX (n:=i) (by omega);have N:(i:Int)<L.length:=(by omega);have A:=d.Da;have A5:=F A;have O: ∀t:V,Sh (AH L[i]) t=some (AQ t.next L[i].length 1,(t.AE 1).A0 t.next (some ⟨L[i].map Y,true⟩)):= λt=>a3B LJ.enc (by omega);simp(disch:=first|omega|simp only[DI.A2];omega)[na,Zu,k,q,l,s,N,M,A,BE,O,-H,-E,-I,-G,-List.map_map];have u: ∀p∈ps,p≠t.next/\p<t.next/\p≠o:= λp f=>by
   have:=d.B7 p f;exact⟨by omega,this,λe=>d.Gq (e▸f)⟩
  have P: ∀j p,(ps++[t.next])[j]?=some p->(j<i/\ps[j]?=some p)\/(j=i/\p=t.next):= λj p f=>by
   rw[MY,d.len]at f;split at f
   ·next c=>exact .inl ⟨c,f⟩
   ·next c=>
    obtain rfl|m:j=i\/i<j:=by omega
    ·simp at f;exact .inr ⟨rfl,f.symm⟩
    ·rw[LF (by simp;omega)]at f;cases f
  refine⟨by omega,K _ _ ⟨o,ps++[t.next],⟨by simp[d.len],?_,?_,?_,?_,?_⟩,by simp[k],by simp[q],by simp[l],by simp⟩⟩
  ·rw[Mz];exact⟨d.DD,by simp,λa Q b hb=>by simp at hb;subst hb;exact(u a Q).1⟩
  ·intro h;rcases Cg.1 h with h|h
   ·exact d.Gq h
   ·simp at h;omega
  ·intro p f;rcases Cg.1 f with h|h
   ·have:=(u p h).2.1;simp;omega
   ·simp at h;subst h;simp
  ·rw[AT (by simp;omega),KG];congr 2;refine FG λj B=> ?_;by_cases c:j=i
   ·subst c;rw[if_pos rfl,if_pos (by omega),Kb (p:=t.next) (r:=L[j]) (by rw[<-d.len,KM (Ao _)];simp) z]
   ·rw[if_neg c];by_cases m:j<i
    ·have R:j<ps.length:=(by rw[d.len];exact m);rw[if_pos m,if_pos (by omega)];simp only[LI,Dv,L8 R]
    ·rw[if_neg m,if_neg (by omega)]
  ·intro j p r f w;rcases P j p f with⟨c,C⟩|⟨rfl,rfl⟩
   ·obtain⟨S,T,W⟩:=u p (B9 C);rw[A3 W,A3 S,AU T];exact d.D8 j p r C w
   ·rw[z]at w;cases w;rw[A3 (by omega),AT (by simp)]
 ·rintro g t ⟨o,ps,d,k,q,l,s⟩;simp(disch:=omega)[na,Zu,Zu,k,l,s];refine⟨ps,d.len,d.DD,d.Gq,?_,d.D8⟩;rw[d.Da,Cv];congr 2;exact FG λj B=>if_pos B
 ·refine⟨2,[],⟨rfl,List.nodup_nil,by simp,by simp,?_,by simp⟩,by simp,by simp,by simp,by simp⟩;rw[QE];simp(disch:=first|omega|simp only[DI.A2];omega)
end Go.Proofs.YtmmkkggfmigppaaGreat
namespace Go.Big
structure Cn where
 Au:Int
 B4:Int
 BQ:Int
 Bg:Int
 deriving DecidableEq
def D4(L:List (List Int))(s:Cn):List Int:=L.getD s.Au.toNat []
def CI(n:Nat)(a b:List Int)(L:List (List Int))(s:Cn):Bool:=
 decide (0<=s.Au)&&(decide (s.Au<L.length)&&(decide (0<=s.B4)&&(decide (s.B4<(D4 L s).length)&&(decide ((D4 L s).getD s.B4.toNat 0=s.BQ)&&(decide (0<=s.Bg)&&(decide (s.Bg<n)&&(!(D4 L s).contains s.Bg&&decide (a.getD s.Bg.toNat 0<b.getD s.Bg.toNat 0))))))))
end Go.Big
namespace Go.Proofs.YtmmkkggfmigppaaGreat
open Go Go.DI Go.Big
def CR(s:Cn):List Value:=[Y s.Au,Y s.B4,Y s.BQ,Y s.Bg]
abbrev Hr(l:List Cn):Value:=M (l.map CR) 4
theorem aFJ{x y:Cn}:CR x=CR y↔x=y:=by obtain⟨a,b,c,d⟩:=x;obtain⟨e,f,g,h⟩:=y;simp[CR]
variable{L:List (List Int)}{R:List Int}{s:Cn}{u:AY}
theorem aE5(h:Av u)(A6:Bk L):AL U 53 [.agg (A4 u).toArray,Ag L,AH R,.agg (CR s).toArray] (.bool (CI u.A1.length (BZ u L) (BV u R) L s)):=by
 obtain⟨N,w,b,k⟩:=s;refine BG (Ak (an:=⟨[S5 u h,TV u h],[]⟩) aBn (by kernel_rfl) (by simp[LZ]) ?_);by_cases l:N<0
 ·have a:CI u.A1.length (BZ u L) (BV u R) L ⟨N,w,b,k⟩=false:=(by simp[CI];omega);rw[a];simp[LZ,Mk,Kl,A4,CR,l]
 obtain⟨a1,rfl⟩:=DP (by omega:0<=N);by_cases m:(a1:Int)>=L.length
 ·have a:CI u.A1.length (BZ u L) (BV u R) L ⟨a1,w,b,k⟩=false:=(by simp[CI];omega);rw[a];simp[LZ,Mk,Kl,A4,CR,l,m]
 have g:a1<L.length:=by omega
 have A8:L[a1]?=some L[a1]:=AS g;have D:D4 L ⟨(a1:Int),w,b,k⟩=L[a1]:=by simp[D4,A8]
 have AN:L[a1].length<=1000:=A6.2 _ (Dc g);by_cases q:w<0
 ·have a:CI u.A1.length (BZ u L) (BV u R) L ⟨a1,w,b,k⟩=false:=(by simp[CI];omega);rw[a];simp[LZ,Mk,Kl,A4,CR,l,m,q]
 obtain⟨f,rfl⟩:=DP (by omega:0<=w);by_cases y:(f:Int)>=L[a1].length
 ·have a:CI u.A1.length (BZ u L) (BV u R) L ⟨a1,f,b,k⟩=false:=by
   unfold CI;rw[D];simp;omega
  rw[a];simp[LZ,Mk,Kl,A4,CR,l,m,g,BE,q,y]
 have o:f<L[a1].length:=by omega
 have A9:L[a1][f]?=some L[a1][f]:=AS o;by_cases p:L[a1][f]=b
 ·by_cases J:k<0
  ·have a:CI u.A1.length (BZ u L) (BV u R) L ⟨a1,f,b,k⟩=false:=by
    unfold CI;simp;omega
   rw[a];simp[LZ,Mk,Kl,A4,CR,l,m,g,BE,q,y,o,p,J]
  obtain⟨d,rfl⟩:=DP (by omega:0<=k);by_cases O:(d:Int)>=u.A1.length
  ·have a:CI u.A1.length (BZ u L) (BV u R) L ⟨a1,f,b,d⟩=false:=by
    unfold CI;simp;omega
   rw[a];simp[LZ,Mk,Kl,A4,CR,l,m,g,BE,q,y,o,p,J,O]
  by_cases X:b=(d:Int)
  ·subst X;have a:CI u.A1.length (BZ u L) (BV u R) L ⟨a1,f,d,d⟩=false:=by
    unfold CI;rw[D];have:(d:Int)∈L[a1]:=(by rw[<-p];exact Dc o);simp[this]
   rw[a];simp[LZ,Mk,Kl,A4,CR,l,m,g,BE,q,y,o,p,J,O]
  have AB: ¬(d:Int)=b:= λe=>X e.symm;have P:d<u.A1.length:=(by omega);have Z:(BZ u L)[d]?=some (((D1 L d:Nat):Int)):=(by rw[IL,Ej P]);have A0:(BV u R)[d]?=some (CD u R d):=(by rw[MA,Ej P]);have a:CI u.A1.length (BZ u L) (BV u R) L ⟨a1,f,b,d⟩=(!(L[a1].contains (d:Int))&&decide (((D1 L d:Nat):Int)<CD u R d)):=by unfold CI;rw[D];have AD:(d:Int)<u.A1.length:=(by omega);simp[g,o,p,AD,Z,A0]
  rw[a];have AE:(BZ u L).length=u.A1.length:=JV;have AF:(BV u R).length=u.A1.length:=JX;simp[LZ,Mk,A4,CR,l,m,g,BE,q,y,o,p,J,O,AB];refine CE (an:=⟨[S5 u h,TV u h],[]⟩) (λi r t=>(∀j x,j<i->L[a1][j]?=some x->x≠(d:Int))/\r 1=Ag L/\r 2=AH R/\r 4=AA 0/\r 7=AA 1/\t.W 0=some ⟨A4 u,true⟩/\t.W 1=some ⟨CR ⟨a1,f,b,d⟩,true⟩/\r 9=Y i) L[a1].length ?_ ?_ 0 _ _ (C0 _) ⟨λj x z=>absurd z (La _),by simp,by simp,by simp,by simp,by simp[A4],by simp[CR],by simp⟩
  ·rintro i r t A3 ⟨Q,A,S,T,B,K,v,M⟩ AO AG;have AJ:L[a1][i]?=some L[a1][i]:=AS A3;have AK:=BX (n:=i) (by omega);have A5:(i:Int)<L[a1].length:=(by omega);have AM:=F v;by_cases e:L[a1][i]=(d:Int)
   ·have C:(d:Int)∈L[a1]:=(by rw[<-e];exact Dc A3);simp(disch:=first|omega|simp only[DI.A2];omega)[ec,Kl,A,B,M,v,CR,g,BE,A5,e,C,-H,-E,-I,-G,-List.map_map]
   ·simp(disch:=first|omega|simp only[DI.A2];omega)[ec,Kl,A,B,M,v,CR,g,BE,A5,AK,e,-H,-E,-I,-G,-List.map_map];refine AG _ _ ⟨λj x z V=> ?_,by simp[A],by simp[S],by simp[T],by simp[B],K,v,by simp⟩;by_cases c:j=i
    ·subst c;rw[AJ]at V;cases V;exact e
    ·exact Q j x (by omega) V
  ·rintro r t ⟨Q,A,S,T,B,K,v,M⟩;have C: ¬(d:Int)∈L[a1]:= λC=>by
    obtain⟨j,z,e⟩:=EC C;exact Q j _ z (AS z) e
   have AP:=F K;have AM:=F v;simp(disch:=omega)[ec,Kl,Kl,A,S,T,B,M,K,v,CR,A4,g,BE,P,AE,AF,C];rw[(AX.1 Z).2,(AX.1 A0).2]
 ·have a:CI u.A1.length (BZ u L) (BV u R) L ⟨a1,f,b,k⟩=false:=by
   unfold CI;rw[D];simp[A9,p]
  rw[a];simp[LZ,Mk,Kl,A4,CR,l,m,g,BE,q,y,o,p]
noncomputable def YH(u:AY)(h:Av u)(R:List Int):AK U:= .B8 53 (List (List Int)×Cn) (λx=>Bk x.1) (λx=>[.agg (A4 u).toArray,Ag x.1,AH R,.agg (CR x.2).toArray]) (λx=> .bool (CI u.A1.length (BZ u x.1) (BV u R) x.1 x.2)) λx a=>aE5 h a
@[simp] theorem aJs{h:Av u}:(YH u h R).f=53:=rfl
@[simp] theorem aK9{h:Av u}{a b c d:Int}(f:Bk L):(YH u h R).fn [.agg #[Y u.ext,M (u.Bz.map Cc) 4,M (u.Aa.map Ce) 4,M (u.A5.map Bd) 7,M (u.A1.map CB) 3,M (u.Ay.map B3) 17,M (u.A7.map Cd) 2],M (L.map BE) 1,M (R.map λx=>[Y x]) 1,.agg #[Y a,Y b,Y c,Y d]]=some (.bool (CI u.A1.length (BZ u L) (BV u R) L ⟨a,b,c,d⟩)):=
  AK.BD (x:=((L,Cn.mk a b c d):List (List Int)×Cn)) f λ⟨n,g⟩ e=>by obtain⟨o,p,q,r⟩:=g;simp[CR]at e;obtain⟨i,j,k,l,m⟩:=e;subst i;subst j;subst k;subst l;subst m;rfl
theorem a2a(x:Bk L){b a:List Int}(A:a.length<=b.length):AL U 93 [BR [Ag L,AH b,AH a] 0,.agg (CR s).toArray] (.bool (CI a.length b a L s)):=by
 obtain⟨q,n,e,g⟩:=s;refine BG (Ak (an:=⟨[Z9],[]⟩) sK (by kernel_rfl) (by simp[LP]) ?_);by_cases h:q<0
 ·have c:CI a.length b a L ⟨q,n,e,g⟩=false:=(by simp[CI];omega);rw[c];simp[LP,MQ,CR,h]
 obtain⟨a1,rfl⟩:=DP (by omega:0<=q);by_cases j:(a1:Int)>=L.length
 ·have c:CI a.length b a L ⟨a1,n,e,g⟩=false:=(by simp[CI];omega);rw[c];simp[LP,MQ,CR,h,j];rfl
 have i:a1<L.length:=by omega
 have y:L[a1]?=some L[a1]:=AS i;have r:D4 L ⟨(a1:Int),n,e,g⟩=L[a1]:=by simp[D4,y]
 have C:L[a1].length<=1000000:=by have:=x.2 _ (Dc i);omega
 by_cases k:n<0
 ·have c:CI a.length b a L ⟨a1,n,e,g⟩=false:=(by simp[CI];omega);rw[c];simp[LP,MQ,CR,h,j,k];rfl
 obtain⟨f,rfl⟩:=DP (by omega:0<=n);by_cases o:(f:Int)>=L[a1].length
 ·have c:CI a.length b a L ⟨a1,f,e,g⟩=false:=by
   unfold CI;rw[r];simp;omega
  rw[c];simp[LP,MQ,CR,h,j,i,BE,k,o];rfl
 have l:f<L[a1].length:=by omega
 have z:L[a1][f]?=some L[a1][f]:=AS l;by_cases m:L[a1][f]=e
 ·by_cases D:g<0
  ·have c:CI a.length b a L ⟨a1,f,e,g⟩=false:=by
    unfold CI;simp;omega
   have p: ¬g>=0:=(by omega);rw[c];simp[LP,MQ,CR,h,j,i,BE,k,o,l,m,p];rfl
  obtain⟨d,rfl⟩:=DP (by omega:0<=g);have p:(d:Int)>=0:=(by omega);by_cases t:(d:Int)<a.length
  ·have v:d<a.length:=(by omega);have u:d<b.length:=(by omega);have E:b[d]?=some b[d]:=AS u;have F:a[d]?=some a[d]:=AS v;have c:CI a.length b a L ⟨a1,f,e,d⟩=(!decide ((d:Int)∈L[a1])&&decide (b[d]<a[d])):=by
    unfold CI;rw[r];simp[i,l,m,v,u]
   rw[c];by_cases w:(d:Int)∈L[a1]
   ·simp(disch:=first|omega|simp only[DI.A2];omega)[LP,MQ,CR,h,j,i,BE,k,o,l,m,p,t,w];rfl
   ·simp(disch:=first|omega|simp only[DI.A2];omega)[LP,MQ,CR,h,j,i,BE,k,o,l,m,p,t,w,u];rfl
  ·have c:CI a.length b a L ⟨a1,f,e,d⟩=false:=by
    unfold CI;simp;omega
   rw[c];simp[LP,MQ,CR,h,j,i,BE,k,o,l,m,p,t];rfl
 ·have c:CI a.length b a L ⟨a1,f,e,g⟩=false:=by
   unfold CI;rw[r];simp[z,m]
  rw[c];simp[LP,MQ,CR,h,j,i,BE,k,o,l,m];rfl
end Go.Proofs.YtmmkkggfmigppaaGreat
