/-
  A part of the proof, shortened by tools of ours.
-/
import Derived.Test.YtmmkkggfmigppaaGreatZaw
set_option linter.all false
set_option maxRecDepth 8000
set_option maxHeartbeats 16000000
namespace Go.Proofs.YtmmkkggfmigppaaGreat
open Go Go.DI
section
set_option maxRecDepth 100000
def amr:cp N 84:=⟨_,by conv=>lhs;reduce⟩
def az6:aw:=aF (a:=bg amr.1.body 151) ⟨_,by conv=>lhs;reduce⟩
def az4:aw:=aF (a:= λx=>bh 151 x amr.1.body) ⟨_,by conv=>lhs;reduce⟩ az6
def alZ:b8:=⟨70,[.bJ 4,.bJ 5],az4⟩
theorem az5:cd N 84=some alZ:=by kernel_rfl
def SF:cp N 89:=⟨_,by conv=>lhs;reduce⟩
def LX:aw:=aF (a:=bg SF.1.body 9671) ⟨_,by conv=>lhs;reduce⟩
def LY:aw:=aF (a:=bg SF.1.body 10183) ⟨_,by conv=>lhs;reduce⟩
def St:aw:=aF (a:= λx y=>bh 318 y (bh 302 x (bg SF.1.body 39))) ⟨_,by conv=>lhs;reduce⟩ LX LY
def Zj:aw:=aF (a:= λx=>bh 39 x SF.1.body) ⟨_,by conv=>lhs;reduce⟩ St
def az9:b8:=⟨155,[.bJ 2,.bJ 3,.bJ 4,.bJ 5],Zj⟩
theorem aAa:cd N 89=some az9:=by kernel_rfl
theorem asV{args:List Value}{m:H}{bA:Value->H->Prop}(h:args.length<=155):ep N 89 args m bA=fG N Zj (ig args) m (nn [.bJ 2,.bJ 3,.bJ 4,.bJ 5] bA):=nN aAa h
def Zs:cp N 125:=⟨_,by conv=>lhs;reduce⟩
def XW:aw:=aF (a:=bg Zs.1.body 151) ⟨_,by conv=>lhs;reduce⟩
def QH:aw:=aF (a:=bg Zs.1.body 159) ⟨_,by conv=>lhs;reduce⟩
def XV:aw:=aF (a:= λx y=>bh 159 y (bh 151 x Zs.1.body)) ⟨_,by conv=>lhs;reduce⟩ XW QH
def aiI:b8:=⟨93,[.bJ 2,.bJ 3,.bJ 4,.bJ 5],XV⟩
theorem aiJ:cd N 125=some aiI:=by kernel_rfl
theorem asC{args:List Value}{m:H}{bA:Value->H->Prop}(h:args.length<=93):ep N 125 args m bA=fG N XV (ig args) m (nn [.bJ 2,.bJ 3,.bJ 4,.bJ 5] bA):=nN aiJ h
def ame:cp N 131:=⟨_,by conv=>lhs;reduce⟩
def yx:aw:=aF (a:=bg ame.1.body 75) ⟨_,by conv=>lhs;reduce⟩
def xd:aw:=aF (a:= λx=>bh 75 x ame.1.body) ⟨_,by conv=>lhs;reduce⟩ yx
def aiU:b8:=⟨94,[.bJ 2],xd⟩
theorem aiV:cd N 131=some aiU:=by kernel_rfl
theorem asD{args:List Value}{m:H}{bA:Value->H->Prop}(h:args.length<=94):ep N 131 args m bA=fG N xd (ig args) m (nn [.bJ 2] bA):=nN aiV h
def Zw:cp N 144:=⟨_,by conv=>lhs;reduce⟩
def X8:aw:=aF (a:=bg Zw.1.body 20111) ⟨_,by conv=>lhs;reduce⟩
def K5:aw:=aF (a:= λx=>bh 157 x (bg Zw.1.body 143)) ⟨_,by conv=>lhs;reduce⟩ X8
def X7:aw:=aF (a:= λx=>bh 143 x Zw.1.body) ⟨_,by conv=>lhs;reduce⟩ K5
def axK:b8:=⟨119,[.bJ 4,.bJ 5],X7⟩
theorem axL:cd N 144=some axK:=by kernel_rfl
theorem asF{args:List Value}{m:H}{bA:Value->H->Prop}(h:args.length<=119):ep N 144 args m bA=fG N X7 (ig args) m (nn [.bJ 4,.bJ 5] bA):=nN axL h
def Zx:cp N 145:=⟨_,by conv=>lhs;reduce⟩
def Et:aw:=aF (a:=bg Zx.1.body 151) ⟨_,by conv=>lhs;reduce⟩
def Eu:aw:=aF (a:=bg Zx.1.body 303) ⟨_,by conv=>lhs;reduce⟩
def X9:aw:=aF (a:= λx y=>bh 303 y (bh 151 x Zx.1.body)) ⟨_,by conv=>lhs;reduce⟩ Et Eu
def axM:b8:=⟨105,[.bJ 4,.bJ 5],X9⟩
theorem axN:cd N 145=some axM:=by kernel_rfl
theorem asG{args:List Value}{m:H}{bA:Value->H->Prop}(h:args.length<=105):ep N 145 args m bA=fG N X9 (ig args) m (nn [.bJ 4,.bJ 5] bA):=nN axN h
def ami:cp N 184:=⟨_,by conv=>lhs;reduce⟩
def B1:aw:=aF (a:=bg ami.1.body 151) ⟨_,by conv=>lhs;reduce⟩
def Ac:aw:=aF (a:= λx=>bh 151 x ami.1.body) ⟨_,by conv=>lhs;reduce⟩ B1
def ajt:b8:=⟨72,[.bJ 2],Ac⟩
theorem aju:cd N 184=some ajt:=by kernel_rfl
theorem asI{args:List Value}{m:H}{bA:Value->H->Prop}(h:args.length<=72):ep N 184 args m bA=fG N Ac (ig args) m (nn [.bJ 2] bA):=nN aju h
def ZA:cp N 185:=⟨_,by conv=>lhs;reduce⟩
def Hj:aw:=aF (a:=bg ZA.1.body 9367) ⟨_,by conv=>lhs;reduce⟩
def Ld:aw:=aF (a:= λx=>bh 73 x (bg ZA.1.body 151)) ⟨_,by conv=>lhs;reduce⟩ Hj
def Yd:aw:=aF (a:= λx=>bh 151 x ZA.1.body) ⟨_,by conv=>lhs;reduce⟩ Ld
def ajv:b8:=⟨84,[.bJ 2,.bJ 3],Yd⟩
theorem ajw:cd N 185=some ajv:=by kernel_rfl
theorem asJ{args:List Value}{m:H}{bA:Value->H->Prop}(h:args.length<=84):ep N 185 args m bA=fG N Yd (ig args) m (nn [.bJ 2,.bJ 3] bA):=nN ajw h
def ZB:cp N 186:=⟨_,by conv=>lhs;reduce⟩
def Hk:aw:=aF (a:=bg ZB.1.body 75) ⟨_,by conv=>lhs;reduce⟩
def Le:aw:=aF (a:=bg ZB.1.body 151) ⟨_,by conv=>lhs;reduce⟩
def Ye:aw:=aF (a:= λx y=>bh 151 y (bh 75 x ZB.1.body)) ⟨_,by conv=>lhs;reduce⟩ Hk Le
def ajx:b8:=⟨92,[.bJ 4],Ye⟩
theorem ajy:cd N 186=some ajx:=by kernel_rfl
theorem asK{args:List Value}{m:H}{bA:Value->H->Prop}(h:args.length<=92):ep N 186 args m bA=fG N Ye (ig args) m (nn [.bJ 4] bA):=nN ajy h
def aA3:cp N 234:=⟨_,by conv=>lhs;reduce⟩
def Yv:aw:=aF (a:=aA3.1.body) ⟨_,by conv=>lhs;reduce⟩
def akc:b8:=⟨12,[.bJ 3],Yv⟩
theorem akd:cd N 234=some akc:=by kernel_rfl
theorem asO{args:List Value}{m:H}{bA:Value->H->Prop}(h:args.length<=12):ep N 234 args m bA=fG N Yv (ig args) m (nn [.bJ 3] bA):=nN akd h
def aA4:cp N 235:=⟨_,by conv=>lhs;reduce⟩
def Rt:aw:=aF (a:=aA4.1.body) ⟨_,by conv=>lhs;reduce⟩
def ake:b8:=⟨52,[.bJ 4,.bJ 5],Rt⟩
theorem akf:cd N 235=some ake:=by kernel_rfl
theorem asP{args:List Value}{m:H}{bA:Value->H->Prop}(h:args.length<=52):ep N 235 args m bA=fG N Rt (ig args) m (nn [.bJ 4,.bJ 5] bA):=nN akf h
def aA5:cp N 236:=⟨_,by conv=>lhs;reduce⟩
def Ru:aw:=aF (a:=aA5.1.body) ⟨_,by conv=>lhs;reduce⟩
def akg:b8:=⟨26,[.bJ 4],Ru⟩
theorem akh:cd N 236=some akg:=by kernel_rfl
theorem asQ{args:List Value}{m:H}{bA:Value->H->Prop}(h:args.length<=26):ep N 236 args m bA=fG N Ru (ig args) m (nn [.bJ 4] bA):=nN akh h
end
open Go Go.DI Go.hR
theorem fx.trans{a b c:H}(h:fx a b)(cn:fx b c):fx a c:=⟨mD h.next cn.next,λx B=>by rw[cn.I x (ql B h.next),h.I x B]⟩
theorem fx.some{m U:H}(h:fx m U){b:Nat}{x:eM}(hb:m.I b=some x):U.I b= .some x:=by rw[h.I b (aM hb),hb]
theorem fx.b0{m U:H}(h:fx m U)(k:Nat):fx m (U.b0 k):=⟨by have:=h.next;simp only[fp];omega,λb hb=>by have:=h.next;rw[cJ (by omega),h.I b hb]⟩
theorem fx.aO{m U:H}(h:fx m U){i:Nat}{x:Option eM}(W:m.next<=i):fx m (U.aO i x):=⟨h.next,λb hb=>by rw[a7 (by omega),h.I b hb]⟩
def gL(a:c4):List Value:=[E a.f,E a.t,E a.c,E a.k]
def fV(l:List c4):List Value:=(l.map gL).flatten
@[simp] theorem Dm: ∀(l:List c4),(fV l).length=l.length*4
  |[]=>rfl
  | a::l=>by have:=Dm l;simp only[fV,lO,sX,iv,mC]at this⊢;rw[this];simp[gL];omega
theorem Bb: ∀{l:List c4} {i:Nat} {a:c4},l[i]?=some a->((fV l).drop (i*4)).take 4=gL a
 |[],_,_,h=>by simp at h
 |b::l,0,a,h=>by simp at h;subst h;rfl
 | b::l,i+1,a,h=>by have:= @Bb l i a (by simpa using h);rw[<-this,show(i+1)*4=i*4+4 by omega];simp[fV,gL]
theorem uk{l:List c4}{i j:Nat}{a:c4}(h:l[i]?=some a)(aX:j<4):(fV l)[i*4+j]?=(gL a)[j]?:=by rw[<-Bb h,rf,if_pos aX,zd]
def m0(m:H)(v:Value)(l:List c4):Prop:=(v= .slice none 0 0/\l=[])\/ ∃b o,v= .slice (some ⟨b,0,none⟩) l.length 4/\m.I b=some ⟨fV l,o⟩
def wx(m:H)(v:Value)(l:List Int):Prop:=(v= .slice none 0 0/\l=[])\/ ∃b o,v= .slice (some ⟨b,0,none⟩) l.length 1/\m.I b=some ⟨l.map (Value.int .i64 ·),o⟩
section
variable {m U:H} {v:Value}
theorem m0.bD{l:List c4}(h:m0 m v l)(aB:fx m U):m0 U v l:=by
 rcases h with h|⟨b,o,A,D⟩
 ·exact .inl h
 ·exact .inr ⟨b,o,A,aB.some D⟩
theorem wx.bD{l:List Int}(h:wx m v l)(aB:fx m U):wx U v l:=by
 rcases h with h|⟨b,o,A,D⟩
 ·exact .inl h
 ·exact .inr ⟨b,o,A,aB.some D⟩
theorem m0.len{l:List c4}(h:m0 m v l):fm v=l.length/\iC v=true:=by rcases h with⟨rfl,rfl⟩|⟨b,o,rfl,_⟩<;>exact⟨rfl,rfl⟩
theorem wx.len{l:List Int}(h:wx m v l):fm v=l.length/\iC v=true:=by rcases h with⟨rfl,rfl⟩|⟨b,o,rfl,_⟩<;>exact⟨rfl,rfl⟩
theorem m0.hI{l:List c4}(h:m0 m v l){i:Nat}(W:i<l.length): ∃b o,v= .slice (some ⟨b,0,none⟩) l.length 4/\m.I b=some ⟨fV l,o⟩:=by
 rcases h with⟨_,rfl⟩|h
 ·simp at W
 ·exact h
theorem wx.hI{l:List Int}(h:wx m v l){i:Nat}(W:i<l.length): ∃b o,v= .slice (some ⟨b,0,none⟩) l.length 1/\m.I b=some ⟨l.map (Value.int .i64 ·),o⟩:=by
 rcases h with⟨_,rfl⟩|h
 ·simp at W
 ·exact h
end
abbrev ma(n:dH)(v:Value):List Value:=[E n.dQ,E n.dI,E n.eT,v]
abbrev E8(n:dH)(v:Value):Value:= .agg #[E n.dQ,E n.dI,E n.eT,v]
def jJ(n:dH)(x:Int):Bool:=decide (0<=x)&&decide (x<n.dQ)
def nX(n:dH)(a:c4):Bool:=jJ n a.f&&jJ n a.t&& !decide (a.c<0)&& !decide (2147483647<a.c)
def jK(n:dH):Bool:= !decide (n.dQ<2)&& !decide (700<n.dQ)&& !decide (2500<n.bp.length)&&jJ n n.dI&&jJ n n.eT&& !decide (n.dI=n.eT)&&n.bp.all (nX n)
theorem aDt{n:dH}{x:Int}:jJ n x=true↔n.hN x:=by simp[jJ,dH.hN]
theorem Tk{n:dH}:jK n=true↔n.iN:=by
 simp only[jK,a6,r7,I1,dP,aDt,nX];constructor
 ·rintro⟨⟨⟨⟨⟨⟨A,D⟩,ai⟩,aT⟩,bF⟩,cW⟩,dU⟩;exact⟨by omega,by omega,by omega,aT,bF,cW,λa aa=>by obtain⟨⟨⟨bt,bR⟩,a3⟩,a4⟩:=dU a aa;exact⟨bt,bR,by omega,by omega⟩⟩
 ·rintro⟨A,D,ai,aT,bF,cW,dU⟩;exact⟨⟨⟨⟨⟨⟨by omega,by omega⟩,by omega⟩,aT⟩,bF⟩,cW⟩,λa aa=>by obtain⟨bt,bR,a3,a4⟩:=dU a aa;exact⟨⟨⟨bt,bR⟩,by omega⟩,by omega⟩⟩
theorem anH{n:dH}{v:Value}{b:Nat}{m:H}{o:Bool}(h:m.I b=some ⟨ma n v,o⟩)(x:Int)(bA:Value->H->Prop):ep N 234 [E x,bH b] m bA=bA (.bool (jJ n x)) m:=by refine(qq.xt ?_).wp;rw[asO (by simp)];by_cases A:0<=x<;>by_cases D:x<n.dQ<;>simp[Yv,h,A,D,jJ]
theorem aqo{n:dH}{v:Value}{b:Nat}{eA:H}(ae:eA.I b=some ⟨ma n v,true⟩)(M:m0 eA v n.bp)(az:n.bp.length<100000){Q:cM->aC->H->Prop}: ∀(r i:Nat) (m:H) (z:aC),i+r=n.bp.length->fx eA m->
 z 43=v->z 44=E n.bp.length->z 45=E i->z 3= .func (.func 234) #[] #[bH b]->
 (∀K U,fx eA U->(n.bp.drop i).all (nX n)=true->Q (.cH 0) K U)->(∀K U,fx eA U->(n.bp.drop i).all (nX n)=false->K 2= .bool false->Q .e3 K U)->fG N (.loop B1) z m Q
 | 0,i,m,z,W,aB,nJ,CF,xA,bW,bb,c0=>by refine j7 λbM a1=> ?_;have A: ¬i<n.bp.length:=(by omega);simp[B1,CF,xA,A];exact bb _ _ aB (by rw[I2 (by omega)];rfl)
 | r+1,i,m,z,W,aB,nJ,CF,xA,bW,bb,c0=>by
   refine j7 λbM a1=> ?_;have A:i<n.bp.length:=(by omega);obtain⟨a,aa⟩: ∃a,n.bp[i]?=some a:=⟨n.bp[i]'A,by simp⟩;have vA:n.bp.drop i=a::n.bp.drop (i+1):=by rw[rb A];rw[c1 A]at aa;cases aa;rfl
   obtain⟨c,o,rfl,ar⟩:=M.hI A;have mL:=aB.some ar;have lg:=aB.some ae;have tp:=aM lg;have yj:=aM mL;have tu:=aB.next
   have zQ:=aM ae;have hb:i*4+4<=n.bp.length*4:=(by omega);have ji:=Bb aa;have br:=fz (n:=i) (by omega);have oZ: ∀(x:Int) (k:Nat) (y:eM) (bA:Value->H->Prop),ep N 234 [E x,bH b] ((m.b0 4).aO (m.next+2) (some y)) bA=bA (.bool (jJ n x)) ((m.b0 4).aO (m.next+2) (some y)):= λx k y bA=>
    anH (by rw[a7 (by omega),cJ tp];exact lg) x bA
   have oZ:= λx y bA=>oZ x 0 y bA;have next: ∀(K:aC) (U:H),nX n a=true->fx eA U->K 43= .slice (some ⟨c,0,none⟩) n.bp.length 4->K 44=E n.bp.length->K 45=E ((i:Int)+1)->K 3= .func (.func 234) #[] #[bH b]->bM K U:=by
    intro K U av jF aEu aEv aEw cv;refine a1 _ _ (aqo ae M az r (i+1) U K (by omega) jF aEu aEv (by rw[aEw];simp) cv (λk9 vV aE a2=>bb _ _ aE ?_) (λk9 vV aE a2 cj=>c0 _ _ aE ?_ cj))
    ·rw[vA,mZ,av,a2];rfl
    ·rw[vA,mZ,av,a2];rfl
   have stop: ∀(K:aC) (U:H),nX n a=false->fx eA U->K 2= .bool false->Q .e3 K U:= λK U kh jF bV=>c0 _ _ jF (by rw[vA,mZ,kh];rfl) bV;have iz: ∀y,fx eA ((m.b0 4).aO (m.next+2) (some y)):= λy=>(aB.b0 4).aO (by omega);cases bK:jJ n a.f
   ·simp(disch:=first|omega|simp only[bE];omega) [B1,nJ,CF,xA,bW,A,mL,hb,ji,gL,oZ,bK];exact stop _ _ (by simp[nX,bK]) (iz _) (by simp)
   cases cz:jJ n a.t
   ·simp(disch:=first|omega|simp only[bE];omega) [B1,nJ,CF,xA,bW,A,mL,hb,ji,gL,oZ,bK,cz];exact stop _ _ (by simp[nX,cz]) (iz _) (by simp)
   by_cases dV:a.c<0
   ·simp(disch:=first|omega|simp only[bE];omega) [B1,nJ,CF,xA,bW,A,mL,hb,ji,gL,oZ,bK,cz,dV];exact stop _ _ (by simp[nX,dV]) (iz _) (by simp)
   by_cases gr:2147483647<a.c
   ·simp(disch:=first|omega|simp only[bE];omega) [B1,nJ,CF,xA,bW,A,mL,hb,ji,gL,oZ,bK,cz,dV,gr];exact stop _ _ (by simp[nX,gr]) (iz _) (by simp)
   ·simp(disch:=first|omega|simp only[bE];omega) [B1,nJ,CF,xA,bW,A,mL,hb,ji,gL,oZ,bK,cz,dV,gr,br];exact next _ _ (by simp[nX,bK,cz,dV,gr]) (iz _) (by simp[nJ]) (by simp[CF]) (by simp) (by simp[bW])
open Go Go.DI Go.Big
theorem aa6{dF pr:Type}{f:dF->Option pr}: ∀{l:List dF} {c5:List pr},c5.length=l.length->(∀(i:Nat) (x:dF) (y:pr),l[i]?=some x->c5[i]?=some y->f x=some y)->fD f l=some c5
 |[],[],_,_=>rfl
 |[],_::_,h,_=>by simp at h
 |_::_,[],h,_=>by simp at h
 | x::l,y::c5,az,h=>by rw[anY,h 0 x y rfl rfl];simp only;rw[aa6 (by simpa using az) λi a b aa hb=>h (i+1) a b (by simpa using aa) (by simpa using hb)]
def Ud(ps:List Nat)(L:List (List Int))(j:Nat):Value:=b7 (ps.getD j 0) (L.getD j []).length 1
theorem Ue{ps:List Nat}{L:List (List Int)}{j p:Nat}{r:List Int}(Z:ps[j]?=some p)(al:L[j]?=some r):Ud ps L j=b7 p r.length 1:=by simp only[Ud,nQ,Z,al,A0]
def o8(ps:List Nat)(L:List (List Int)):List Value:=iW L.length (Ud ps L)
structure oT(t:H)(o:Nat)(ps:List Nat)(L:List (List Int)):Prop where
 len:ps.length=L.length
 fg:ps.Nodup
 fL:o∉ps
 jd:t.I o=some ⟨o8 ps L,true⟩
 c3: ∀(i p:Nat) r,ps[i]?=some p->L[i]?=some r->t.I p=some ⟨r.map E,true⟩
theorem auv{t:H}{o n:Nat}{ps:List Nat}{L:List (List Int)}(h:oT t o ps L):DI.dt (n+2) t (b7 o L.length 1)=some (jO L):=by
 have ar:ld 1 L.length (o8 ps L)=(o8 ps L).map λv=>[v]:=by
  have:=O3 (G:=1) (bI:=(o8 ps L).map λv=>[v]) (λr al=>by obtain⟨v,_,rfl⟩:=gG.1 al;rfl);rw[k8,show(o8 ps L).length=L.length from by simp[o8]]at this;rw[<-this];congr 1;generalize o8 ps L=l;induction l with
  |nil=>rfl
  |cons x l cf=>rw[lO,sX,<-cf];rfl
 have ab:fD (fD (DI.dt (n+1) t)) ((o8 ps L).map λv=>[v])=some (L.map lq):=aa6 (by simp[o8]) λi x y B Y=>by have W:i<L.length:=(by have:=(cG.1 Y).1;simpa using this);rw[rh,o8,vZ W]at B;rw[rh,c1 W]at Y;cases B;cases Y;have hK:i<ps.length:=(by rw[h.len];exact W);have Z:ps[i]?=some ps[i]:=c1 hK;rw[Ue Z (c1 W)];have:=vu (n:=n) (bI:=L[i].map λx=>[E x]) (l:=L[i].length) (G:=1) (w:=true) (by rw[l5];exact h.c3 i _ _ Z (c1 W)) (by simp) su;rw[anY,this];rfl
 rw[JW,h.jd];simp only[o8]at ar ab⊢;simp only[TB,oj,zh,Nat.mul_one,c8,if_true];rw[ar,ab]
theorem oT.bD{t af:H}{o:Nat}{ps:List Nat}{L:List (List Int)}(h:oT t o ps L)(A:af.I o=t.I o)(D: ∀p∈ps,af.I p=t.I p):oT af o ps L:=
 ⟨h.len,h.fg,h.fL,by rw[A];exact h.jd,λi p r Z al=>by rw[D p (fr Z)];exact h.c3 i p r Z al⟩
end Go.Proofs.YtmmkkggfmigppaaGreat
namespace Go.DI
open Go Go.RowKit
section
variable {P:Program} {ax:mG P} {t:H} {z:aC} {c:aw} {Q:cM->aC->H->Prop}
theorem aup{J:eU}{u:fU}{m:H}{K:aC}(F:eb J u t m)(b2:hp u J z K){o d G:Nat}{bI:List (List Value)}(aB:t.I o=some ⟨bI.flatten,true⟩)(al: ∀r∈bI,r.length=G/\ ∀v∈r,hB v=true)(aV:z d= .slice (some ⟨o,0,none⟩) bI.length G):
 ∃cy,gS u cy/\(∀b cs,cy b=some cs->u b=some cs\/J o=some b)/\eb J cy (t.aO o none) m/\hp cy J (k7 z d (ad bI G)) K:=by
 have lE:=aM aB;have bw: ∀r∈bI,r.length=G:= λr h=>(al r h).1;obtain⟨cy,n5⟩: ∃cy:fU,cy= λb=>match u b with
  |some cs=>some cs
  |none=>if J o=some b then(m.I b).map (·.cells)else none:=⟨_,rfl⟩
 have eV:gS u cy:= λb cs hb=>by rw[n5];simp only[hb]
 have z1: ∀b cs w,J o=some b->m.I b=some ⟨cs,w⟩->cy b=some cs:= λb cs w ck aH=>by
  rw[n5];simp only;cases mm:u b with
  |some ds=>obtain⟨⟨w',kE⟩,_⟩:=F.bZ b ds mm;rw[aH]at kE;cases kE;rfl
  |none=>simp only;rw[if_pos ck,aH];rfl
 have bq:(t.aO o none).I o=none:=cx lE;have jE: ∀q,q≠o->(t.aO o none).I q=t.I q:= λq h=>a7 h;have zR: ∀b ds,cy b=some ds->u b=some ds\/(J o=some b/\ ∃w,m.I b=some ⟨ds,w⟩):= λb ds hb=>by
  rw[n5]at hb;simp only at hb;cases mm:u b with
  |some x=>rw[mm]at hb;simp only at hb;exact .inl hb
  | none=>
    rw[mm]at hb;simp only at hb;split at hb
    ·next h=>
     cases aH:m.I b with
     |none=>rw[aH]at hb;cases hb
     |some x=>rw[aH]at hb;cases hb;exact .inr ⟨h,x.own,rfl⟩
    ·cases hb
 refine⟨cy,eV,λb cs hb=> ?_,⟨λq x B=> ?_,λq es aQ=> ?_,F.jo,F.inj,F.cQ,λb ds hb=> ?_⟩,λi=> ?_⟩
 ·rcases zR b cs hb with h|⟨h,_⟩
  ·exact .inl h
  ·exact .inr h
 ·by_cases D:q=o
  ·subst D;rw[bq]at B;cases B
  ·rw[jE q D]at B;rcases F.iU q x B with⟨b,ds,w,aE,a2,cj,dy⟩|aE
   ·exact .inl ⟨b,ds,w,aE,a2,cj,dy.bD eV (fE.refl _)⟩
   ·exact .inr aE
 ·obtain⟨aD,aJ⟩:=jb aQ;by_cases D:q=o
  ·subst D;rw[bq]at aD;cases aD
  ·rw[jE q D]at aD;obtain⟨b,db,bK,cz,dV⟩:=F.maps q es (kB aD aJ);exact⟨b,db,bK,cz,dV.bD eV (fE.refl _)⟩
 ·rcases zR b ds hb with h|⟨h,w,aS⟩
  ·obtain⟨A,D⟩:=F.bZ b ds h;refine⟨A,λq x bo B=> ?_⟩;by_cases e:q=o
   ·subst e;rw[bq]at B;cases B
   ·rw[jE q e]at B;exact D q x bo B
  ·refine⟨⟨w,aS⟩,λq x bo B=> ?_⟩;have e:=F.inj q o b bo h;subst e;rw[bq]at B;cases B
 ·have M:=b2 i;by_cases e:i=d
  ·subst e;rw[show k7 z i (ad bI G) i=ad bI G from by simp[k7]];rw[aV]at M;generalize K i=bX at M⊢;rcases M.l6 with⟨b,aD,_,rfl⟩|⟨_,_,cg,rfl⟩
   ·obtain⟨cs,w',bK,_,dV⟩:=F.m1 aD aB;have dJ:(bI.flatten).length=bI.length*G:=wO bw;refine .jG (off:=0) rfl (z1 b cs w' aD bK) (by rw[<-dV.1];simp only;omega) (λi r W=>bw r (fr W)) λi uN r bf y W a9 Y=> ?_;have qP:=VQ bw W;have zW:=(cG.1 a9).1;rw[bw r (fr W)]at zW;have bF:(bI.flatten)[i*G+uN]?=some bf:=by
     rw[<-qP,rf,if_pos zW,zd]at a9;exact a9
    have cW:=dV.2 (i*G+uN) bf y bF (by rw[<-Y];congr 1;omega);exact JD eV cW ((al r (fr W)).2 bf (fr a9))
   ·have:bI=[]:=pU cg;subst this;exact .jH rfl
  ·rw[show k7 z d (ad bI G) i=z i from by simp[k7,e]];exact M.bD eV (fE.refl _)
theorem aID{o d G:Nat}{bI:List (List Value)}(aB:t.I o=some ⟨bI.flatten,true⟩)(al: ∀r∈bI,r.length=G/\ ∀v∈r,hB v=true)(aV:z d= .slice (some ⟨o,0,none⟩) bI.length G)(h:ec P c (k7 z d (ad bI G)) (t.aO o none) Q):ec P c z t Q:= λav J u K m F b2=>by
 obtain⟨ke,bK,cz,dV,gr⟩:=aup F b2 aB al aV;refine(h av J ke K m dV gr).bD λe aU bn bT=> ?_;obtain⟨cV,ea,c6,eC,A,D,ai,aT⟩:=bT;have fl: ∀q x,(t.aO o none).I q=some x->t.I q=some x:= λq x B=>by
  by_cases aJ:q=o
  ·subst aJ;rw[cx (aM aB)]at B;cases B
  ·rw[a7 aJ]at B;exact B
 have cj:eQ t.next m.next J u t m J ke (t.aO o none) m:=by
  refine⟨fE.refl _,bK,λ_ _ h=> .inl h,λb cs hb=> ?_,by simp,c8 _,λ_ _ _=>rfl,λb hb ⟨q,x,a8,bV,cv⟩=>⟨q,x,a8,fl q x bV,cv⟩,λb hb ⟨q,x,a8,bV⟩=>⟨q,x,a8,fl q x bV⟩⟩;rcases cz b cs hb with bF|bF
  ·exact .inl bF
  ·exact .inr (.inr ⟨o,_,bF,aB⟩)
 exact⟨cV,ea,c6,eC,A,D,ai,cj.trans (aT.wj cj.k5 (c8 _))⟩
theorem aIC(E:Nat->aC->H->Prop)(n:Nat)(step: ∀i z t,i<n->E i z t-> ∀bM:aC->H->Prop,(∀K af,E (i+1) K af->bM K af)->ix ax c z t (rM bM Q))
 (My: ∀z t,E n z t->ec P (.loop c) z t Q): ∀(i:Nat) (z:aC) (t:H),i<=n->E i z t->ec P (.loop c) z t Q:=by
 have key: ∀(r i:Nat) (z:aC) (t:H),i+r=n->E i z t->ec P (.loop c) z t Q:=by
  intro r;induction r with
  | zero=>intro i z t W jc;have e:i=n:=(by omega);subst e;exact My z t jc
  | succ r cf=>intro i z t W jc;exact eF (ax:=ax) λbM a1=>step i z t (by omega) jc bM λK af a=>a1 _ _ (cf (i+1) K af (by omega) a)
 exact λi z t W jc=>key (n-i) i z t (by omega) jc
end
end Go.DI
namespace Go.Proofs.YtmmkkggfmigppaaGreat
open Go Go.DI Go.Big Go.hR
theorem aIh{dw bU:Int}{v:Nat}(M:v<=1000):bP N 127 [.agg #[E dw,E bU],E v] (E (2+v)):=by refine du (c2 (ax:=⟨[],[]⟩) aiO (by kernel_rfl) (by simp[QK]) ?_);have w:IntKind.i64.wrap (2+(v:Int))=2+v:=cY (by omega) (by omega);simp[QK,aiN,w]
noncomputable def NI:bx N:= .cK 127 (Int×Int×Nat) (λx=>x.2.2<=1000) (λx=>[.agg #[E x.1,E x.2.1],E x.2.2]) (λx=>E (2+x.2.2)) λ_ h=>aIh h
@[simp] theorem aVO:NI.f=127:=rfl
@[simp] theorem aVP{dw bU:Int}{v:Nat}(M:v<=1000):NI.fn [.agg #[E dw,E bU],E v]=some (E (2+v)):=bx.dx (x:=(dw,bU,v)) M λ⟨a,b,c⟩ Y=>by simp at Y⊢;omega
def zD(dw bU v i:Nat):Int:=if i=0 then 2+(v:Int)else 2+dw+v*((bU:Int)-1)+i-1
def n3(dw bU d:Nat):Int:=2+(dw:Int)*bU+d
theorem atr{dw bU v i:Nat}(ch:dw<=1000)(h9:1<=bU/\bU<=1000)(M:v<=1000)(W:i<=1000):bP N 128 [.agg #[E dw,E bU],E v,E i] (E (zD dw bU v i)):=by
 refine du (c2 (ax:=⟨[NI],[]⟩) aiP (by kernel_rfl) (by simp[K0]) ?_);unfold zD;by_cases c:i=0
 ·subst c;simp(disch:=first|omega|simp only[DI.aK];omega) [K0,XY]
 ·have Jx: ¬(i:Int)=0:=(by omega);have bY:0<=(v:Int)*((bU:Int)-1):=A3 (by omega) (by omega);have A:(v:Int)*((bU:Int)-1)<=1000*1000:=Int.le_trans (y9 (by omega) (by omega)) (Ok (by omega) (by omega));have br:IntKind.i64.wrap (2+(dw:Int))=2+dw:=cY (by omega) (by omega);have ct:IntKind.i64.wrap ((bU:Int)-1)=(bU:Int)-1:=cY (by omega) (by omega);have dW:IntKind.i64.wrap ((v:Int)*((bU:Int)-1))=(v:Int)*((bU:Int)-1):=cY (by omega) (by omega);have kn:IntKind.i64.wrap (2+(dw:Int)+(v:Int)*((bU:Int)-1))=2+(dw:Int)+(v:Int)*((bU:Int)-1):=cY (by omega) (by omega);have AR:IntKind.i64.wrap (2+(dw:Int)+(v:Int)*((bU:Int)-1)+i)=2+(dw:Int)+(v:Int)*((bU:Int)-1)+i:=cY (by omega) (by omega);have N6:IntKind.i64.wrap (2+(dw:Int)+(v:Int)*((bU:Int)-1)+i-1)=2+(dw:Int)+(v:Int)*((bU:Int)-1)+i-1:=cY (by omega) (by omega);simp[K0,XY,c,br,ct,dW,kn,AR,N6]
noncomputable def Nv:bx N:= .cK 128 (Nat×Nat×Nat×Nat) (λx=>(x.1<=1000/\1<=x.2.1/\x.2.1<=1000)/\x.2.2.1<=1000/\x.2.2.2<=1000) (λx=>[.agg #[E x.1,E x.2.1],E x.2.2.1,E x.2.2.2]) (λx=>E (zD x.1 x.2.1 x.2.2.1 x.2.2.2)) λ_ h=>atr h.1.1 h.1.2 h.2.1 h.2.2
@[simp] theorem aTM:Nv.f=128:=rfl
@[simp] theorem aTN{dw bU v i:Nat}(h:(dw<=1000/\1<=bU/\bU<=1000)/\v<=1000/\i<=1000):Nv.fn [.agg #[E dw,E bU],E v,E i]=some (E (zD dw bU v i)):=bx.dx (x:=(dw,bU,v,i)) h λ⟨a,b,c,d⟩ Y=>by simp at Y⊢;omega
theorem atC{dw bU d:Nat}(ch:dw<=1000)(h9:bU<=1000)(aV:d<=1000):bP N 129 [.agg #[E dw,E bU],E d] (E (n3 dw bU d)):=by refine du (c2 (ax:=⟨[],[]⟩) aiR (by kernel_rfl) (by simp[QL]) ?_);have bY:0<=(dw:Int)*(bU:Int):=A3 (by omega) (by omega);have A:(dw:Int)*(bU:Int)<=1000*1000:=Int.le_trans (y9 (by omega) (by omega)) (Ok (by omega) (by omega));have dW:IntKind.i64.wrap ((dw:Int)*(bU:Int))=(dw:Int)*bU:=cY (by omega) (by omega);have kn:IntKind.i64.wrap (2+(dw:Int)*bU)=2+(dw:Int)*bU:=cY (by omega) (by omega);have AR:IntKind.i64.wrap (2+(dw:Int)*bU+d)=2+(dw:Int)*bU+d:=cY (by omega) (by omega);unfold n3;simp[QL,aiQ,dW,kn,AR]
noncomputable def CH:bx N:= .cK 129 (Nat×Nat×Nat) (λx=>x.1<=1000/\x.2.1<=1000/\x.2.2<=1000) (λx=>[.agg #[E x.1,E x.2.1],E x.2.2]) (λx=>E (n3 x.1 x.2.1 x.2.2)) λ_ h=>atC h.1 h.2.1 h.2.2
@[simp] theorem aTQ:CH.f=129:=rfl
@[simp] theorem aGf{dw bU d:Nat}(h:dw<=1000/\bU<=1000/\d<=1000):CH.fn [.agg #[E dw,E bU],E d]=some (E (n3 dw bU d)):=bx.dx (x:=(dw,bU,d)) h λ⟨a,b,c⟩ Y=>by simp at Y⊢;omega
theorem atD{u:aG}{d:Nat}:n3 u.aZ.length u.aP.length d=dg u d:=rfl
theorem aeN{l:List c4}{a:c4}:fV (l++[a])=fV l++gL a:=by simp[fV]
def rl(t:H)(q:Nat)(ao aN C:Int)(l:List c4)(aR:List Nat):Prop:= ∃o,q≠o/\t.I q=some ⟨[E ao,E aN,E C,.slice (some ⟨o,0,none⟩) l.length 4],true⟩/\t.I o=some ⟨fV l,true⟩/\ ∀b∈aR,b≠q/\b≠o/\b<t.next
theorem rl.bD{t af:H}{q:Nat}{ao aN C:Int}{l:List c4}{aR uf:List Nat}(h:rl t q ao aN C l aR)(ae:t.next<=af.next)(S: ∀b,b<t.next->af.I b=t.I b)(dz: ∀b∈uf,b∈aR\/(t.next<=b/\b<af.next)):rl af q ao aN C l uf:=by
 obtain⟨o,A,D,ai,aT⟩:=h;have Ch:=aM D;have bk:=aM ai;refine⟨o,A,by rw[S q Ch];exact D,by rw[S o bk];exact ai,λb hb=> ?_⟩;rcases dz b hb with h|h
 ·have:=aT b h;exact⟨this.1,this.2.1,by omega⟩
 ·exact⟨by omega,by omega,h.2⟩
structure I7(t:H)(q:Nat)(ao aN C:Int)(l:List c4)(aR:List Nat)(af:H):Prop where
 ht:rl af q ao aN C l aR
 next:t.next<=af.next
 dK: ∀b∈aR,af.I b=t.I b
theorem Jk{t:H}{q:Nat}{ao aN C:Int}{l:List c4}{aR:List Nat}(h:rl t q ao aN C l aR)(az:l.length<=100000){f g c:Int}:
 fc N 183 [E f,E g,E c,.pointer (some ⟨q,0,none⟩)] t λv af=>v= .tuple #[]/\I7 t q ao aN C (l++[(c4.mk f g c 0)]) aR af:=by
 obtain⟨o,bG,jE,bq,dz⟩:=h;refine c2 (ax:=⟨[],[]⟩) ajs (by kernel_rfl) (by simp[Q7]) ?_;have Ch:=aM jE;have bk:=aM bq;have e8:(l.length+1)*32<=140737488355328/\l.length<=9223372036854775806:=by omega
 have GQ: ¬o=q:= λe=>bG e.symm;simp(disch:=first|omega|simp only[DI.aK];omega) [Q7,ajr,jE,bq,e8,-an,-au,-ak,-aq,-List.map_map];have mN:List.take (l.length*4) (fV l)=fV l:=h7 (by rw[Dm];exact c8 _);have Ar: ¬t.next+7=q:=by omega
 refine⟨⟨t.next+7,by omega,?_,?_,λb hb=> ?_⟩,by simp,λb hb=> ?_⟩
 ·rw[cx (by simp;omega)];simp
 ·rw[a7 Ar,cx (by simp),mN,aeN];rfl
 ·have:=dz b hb;exact⟨this.1,by omega,by simp;omega⟩
 ·obtain⟨bK,cz,dV⟩:=dz b hb;rw[a7 bK,a7 (by omega),a7 cz,a7 (by omega),cJ dV]
structure zn(u:aG)(R:List Int)(v:Nat)(p:hQ)(l:List c4)(gu hA:Nat)(z:aC)(t:H):Prop where
 ht:rl t 18 (n3 u.aZ.length u.aP.length u.aY.length) 0 1 l [0,1,10,gu,hA]
 aL:t.I 0=some ⟨aI u,true⟩
 aE:t.I 1=some ⟨[E 0,E 0,E 0,.slice none 0 0],true⟩
 m5:t.I 10=some ⟨[E u.aZ.length,E u.aP.length],true⟩
 iy:t.I gu=some ⟨dE p,true⟩
 eY:t.I hA=some ⟨iW u.cr.length λi=> .bool (decide ((i:Int)∈p.cr)),true⟩
 aU:z 1=bm R
 bS:z 2=bH 0
 dR:z 4=bH 1
 bB:z 6=bH 10
 ca:z 7=bH 18
 bl:z 8= .func (.func 183) #[] #[bH 18]
 cP:z 9=E v
 gn:z 11=bH gu
 g6:z 12=b7 hA u.cr.length 1
 qe:z 41=ad (u.aZ.map ga) 2
 sJ:z 42=E u.aZ.length
 nJ:z 43=E v
def mj(u:aG)(cD:List c4)(v i:Nat):List c4:=cD++si u v::(List.range (i-1)).map λj=>uj u v (j+1)
theorem Vr{u:aG}{cD:List c4}{v i:Nat}(W:1<=i):mj u cD v (i+1)=mj u cD v i++[uj u v i]:=by obtain⟨k,rfl⟩: ∃k,i=k+1:=⟨i-1,by omega⟩;simp[mj,A2]
theorem Vq{u:aG}{cD:List c4}{v i:Nat}:(mj u cD v i).length<=cD.length+1+i:=by simp[mj];omega
theorem rl.g{t:H}{q:Nat}{ao aN C:Int}{l:List c4}{aR:List Nat}(h:rl t q ao aN C l aR){b:Nat}(hb:b∈aR):b≠q/\b<t.next:=by obtain⟨o,_,_,_,aT⟩:=h;have:=aT b hb;exact⟨this.1,this.2.2⟩
theorem aDc{u:aG}(h:cE u){R:List Int}{v gu hA:Nat}{p:hQ}(M:v<u.aZ.length)(Z:u.dj[nI u v]?=some p){cD:List c4}(gY:cD.length<=50000){Q:cM->aC->H->Prop}{z:aC}{t:H}
 (cc:zn u R v p (mj u cD v 0) gu hA z t) (AF:z 80=ad (u.aP.map eG) 7) (y1:z 81=E u.aP.length) (AG:z 82=E 0) (bb: ∀K af,zn u R v p (mj u cD v u.aP.length) gu hA K af->Q (.cH 4) K af):ec N (.loop Hd) z t Q:=by
 have eW:=h.ok.fg;have mo:=h.ok.j4;have bG:=h.ok.hl;obtain⟨k2,rF,_,_,vL,kt⟩:=Ic h.ok M;rw[Z]at rF;cases rF;simp only[mr,a6,ey]at vL;obtain⟨dY,ee,l9,Co,MO,sA,Ar,anr,ans,HZ⟩:=vL;have dY:=m9 dY;have ee:=m9 ee;refine gR (ax:=⟨[Nv],[]⟩) (λi z t=>zn u R v p (mj u cD v i) gu hA z t/\z 80=ad (u.aP.map eG) 7/\z 81=E u.aP.length/\z 82=E i) u.aP.length ?_ ?_ 0 z t (gi _) ⟨cc,AF,y1,AG⟩
 ·rintro i z t W ⟨cc,AF,y1,AG⟩ bM a1;obtain⟨d,B⟩:=gk W;have cS:=(cG.1 B).2;have bC:(i:Int)<u.aP.length:=(by omega);have br:=fz (n:=i) (by omega);have avl:=cc;obtain⟨ht,aL,aE,m5,iy,eY,aU,bS,dR,bB,ca,bl,cP,gn,g6,qe,sJ,nJ⟩:=cc;have dD:=aM aL;have SX:=aM m5;have E2:=aM iy;have nc:=aM eY;have rK:=ht.g (b:=gu) (by simp);have dK: ∀(K:aC) (af:H) (c5:List c4),rl af 18 (n3 u.aZ.length u.aP.length u.aY.length) 0 1 c5 [0,1,10,gu,hA]->(∀b∈[0,1,10,gu,hA],af.I b=t.I b)->(∀j,j∈[1,2,4,6,7,8,9,11,12,41,42,43]->K j=z j)->zn u R v p c5 gu hA K af:= λK af c5 a b c=>
   ⟨a,by rw[b 0 (by simp),aL],by rw[b 1 (by simp),aE],by rw[b 10 (by simp),m5],by rw[b gu (by simp),iy],by rw[b hA (by simp),eY],by rw[c 1 (by simp),aU],by rw[c 2 (by simp),bS],by rw[c 4 (by simp),dR],by rw[c 6 (by simp),bB],by rw[c 7 (by simp),ca],by rw[c 8 (by simp),bl],by rw[c 9 (by simp),cP],by rw[c 11 (by simp),gn],by rw[c 12 (by simp),g6],by rw[c 41 (by simp),qe],by rw[c 42 (by simp),sJ],by rw[c 43 (by simp),nJ]⟩
  have dm: ∀b∈[0,1,10,gu,hA],b<t.next:= λb hb=>(ht.g hb).2
  by_cases c:i=0
  ·subst c;have adD:IntKind.i64.wrap 1=1:=cY (by omega) (by omega);simp(disch:=first|omega|simp only[DI.aK];omega) [Hd,AF,y1,AG,adD,cS,W,eG,-an,-au,-ak,-aq,-List.map_map];refine a1 _ _ ⟨dK _ _ _ (ht.bD (by simp) (λb hb=>by rw[a7 (by omega),cJ hb]) λb hb=> .inl hb) (λb hb=>by have:=dm b hb;rw[a7 (by omega),cJ this]) (λj aX=> ?_),by simp[AF],by simp[y1],by simp⟩;have:j≠83/\j≠84/\j≠85/\j≠86/\j≠16/\j≠15/\j≠87/\j≠88/\j≠113/\j≠82:=by
    simp at aX;omega
   simp[k7,this]
  ·have Jx: ¬(i:Int)=0:=(by omega);obtain⟨fW,gI,iO,zB,Gw⟩:=h.ok.lf i d (by omega) B;obtain⟨P,gq⟩:=jX fW;obtain⟨jY,DT⟩:=jX (by omega:0<=d.jQ);have BH:(u.aZ.length<=1000/\1<=u.aP.length/\u.aP.length<=1000)/\v<=1000/\P<=1000:=(by omega);have PT:(u.aZ.length<=1000/\1<=u.aP.length/\u.aP.length<=1000)/\v<=1000/\i<=1000:=(by omega);have ct:IntKind.i64.wrap (p.k+p.m)=p.k+p.m:=cY (by omega) (by omega);have ave:jY<5:=(by omega);have Kb:(jY:Int)<5:=(by omega);have di:(dE p).length=17:=rfl;have Kc:4+jY+1<=17:=(by omega);have nB:List.take 1 (dE p).tail=[E p.k]:=rfl;have qL:(dE p)[2]?=some (E p.m):=rfl;have BK: ∀h,(dE p)[2]'h=E p.m:= λ_=>rfl;have rE:yH u v i=if sO p.ax jY=0 then p.k+p.m else sO p.ax jY:=by
    have e:hD u i=(jY:Int):=(by unfold hD;simp only[B,DT]);unfold yH;simp only[Z,e]
   have P5:jL u i=P:=(by unfold jL;simp only[B,gq,ns]);have Ea:rl ((t.b0 6).aO (t.next+3) (some ⟨[gD d.name,E jY,E P,E d.iu,.bool d.pk.ku,b5 d.pk.a,b5 d.pk.b],true⟩)) 18 (n3 u.aZ.length u.aP.length u.aY.length) 0 1 (mj u cD v i) [0,1,10,gu,hA]:=ht.bD (by simp) (λb hb=>by rw[a7 (by omega),cJ hb]) λb hb=> .inl hb;have WS:=Vq (u:=u) (cD:=cD) (v:=v) (i:=i);have kM: ∀(K:aC) (af:H) (c:Int),c=yH u v i->I7 ((t.b0 6).aO (t.next+3) (some ⟨[gD d.name,E jY,E P,E d.iu,.bool d.pk.ku,b5 d.pk.a,b5 d.pk.b],true⟩)) 18 (n3 u.aZ.length u.aP.length u.aY.length) 0 1 (mj u cD v i++[(c4.mk (zD u.aZ.length u.aP.length v P) (zD u.aZ.length u.aP.length v i) c 0)]) [0,1,10,gu,hA] af->(∀j,j∈[1,2,4,6,7,8,9,11,12,41,42,43]->K j=z j)->zn u R v p (mj u cD v (i+1)) gu hA K af:= λK af c ar dG aX=>by have e:mj u cD v (i+1)=mj u cD v i++[(c4.mk (zD u.aZ.length u.aP.length v P) (zD u.aZ.length u.aP.length v i) c 0)]:=(by rw[Vr (by omega),uj,P5,ar];rfl);rw[e];exact dK _ _ _ dG.ht (λb hb=>by rw[dG.dK b hb];have:=dm b hb;rw[a7 (by omega),cJ this]) aX
   have aOG:1<=jY:=(by omega);have vz:(dE p)[4+jY]?=some (E (sO p.ax jY)):=(by obtain rfl|rfl|rfl|rfl:jY=1\/jY=2\/jY=3\/jY=4:=(by omega);all_goals rfl);have Kn: ∀h,(dE p)[4+jY]'h=E (sO p.ax jY):= λh=>(cG.1 vz).2;by_cases cs:sO p.ax jY=0
   ·simp(disch:=first|omega|simp only[DI.aK];omega) [Hd,bB,bl,cP,gn,AF,y1,AG,bC,ct,cS,c,eG,gq,DT,m5,iy,Kb,di,Kc,nB,BK,Kn,cs,fC,-an,-au,-ak,-aq,-List.map_map];refine(Jk Ea (by omega)).bD λr af ⟨al,dG⟩=> ?_;subst al;simp(disch:=first|omega|simp only[DI.aK];omega) [AG,br,-an,-au,-ak,-aq,-List.map_map];refine a1 _ _ ⟨kM _ _ _ (by rw[rE,if_pos cs]) dG (λj aX=> ?_),by simp[AF],by simp[y1],by simp⟩;have:j≠83/\j≠84/\j≠85/\j≠86/\j≠16/\j≠15/\j≠17/\(j<87\/113<j)/\j≠82:=by
     simp at aX;omega
    obtain⟨uL,uM,xi,Af,Ag,Ah,Ai,ES,Aj⟩:=this;have uN: ∀k,87<=k->k<=113->j≠k:= λk a b=>by omega
    simp[k7,uL,uM,xi,Af,Ag,Ah,Ai,Aj,uN]
   ·simp(disch:=first|omega|simp only[DI.aK];omega) [Hd,bB,bl,cP,gn,AF,y1,AG,bC,cS,c,eG,gq,DT,m5,iy,Kb,di,Kc,Kn,cs,fC,-an,-au,-ak,-aq,-List.map_map];refine(Jk Ea (by omega)).bD λr af ⟨al,dG⟩=> ?_;subst al;simp(disch:=first|omega|simp only[DI.aK];omega) [AG,br,-an,-au,-ak,-aq,-List.map_map];refine a1 _ _ ⟨kM _ _ _ (by rw[rE,if_neg cs]) dG (λj aX=> ?_),by simp[AF],by simp[y1],by simp⟩;have:j≠83/\j≠84/\j≠85/\j≠86/\j≠16/\j≠15/\j≠17/\(j<87\/113<j)/\j≠82:=by
     simp at aX;omega
    obtain⟨uL,uM,xi,Af,Ag,Ah,Ai,ES,Aj⟩:=this;have uN: ∀k,87<=k->k<=113->j≠k:= λk a b=>by omega
    simp[k7,uL,uM,xi,Af,Ag,Ah,Ai,Aj,uN]
 ·rintro z t ⟨cc,AF,y1,AG⟩;simp(disch:=first|omega|simp only[DI.aK];omega) [Hd,y1,AG,-an,-au,-ak,-aq,-List.map_map];refine bb _ _ ⟨cc.ht,cc.aL,cc.aE,cc.m5,cc.iy,cc.eY,?_,?_,?_,?_,?_,?_,?_,?_,?_,?_,?_,?_⟩;all_goals simp[cc.aU,cc.bS,cc.dR,cc.bB,cc.ca,cc.bl,cc.cP,cc.gn,cc.g6,cc.qe,cc.sJ,cc.nJ]
def pc(u:aG)(cD:List c4)(v i:Nat):List c4:=mj u cD v u.aP.length++((List.range i).filter (pv u v)).map (qv u v)
theorem aoy{u:aG}{cD:List c4}{v i:Nat}:pc u cD v (i+1)=pc u cD v i++if pv u v i then[qv u v i]else[]:=by unfold pc;rw[VO];split<;>simp
theorem aox{u:aG}{cD:List c4}{v i:Nat}:(pc u cD v i).length<=cD.length+1+u.aP.length+i:=by have:=Vq (u:=u) (cD:=cD) (v:=v) (i:=u.aP.length);have:=Oh (pv u v) (List.range i);simp only[pc,iv,k8];simp only[F6]at this;omega
theorem aow{u:aG}{cD:List c4}{v:Nat}:pc u cD v u.aY.length=cD++qw u v:=by simp[pc,mj,qw]
theorem aDd{u:aG}(h:cE u){R:List Int}{v gu hA:Nat}{p:hQ}(M:v<u.aZ.length)(Z:u.dj[nI u v]?=some p){cD:List c4}(gY:cD.length<=50000){Q:cM->aC->H->Prop}{z:aC}{t:H}
 (cc:zn u R v p (pc u cD v 0) gu hA z t) (Ft:z 115=ad (u.aY.map fk) 3) (CD:z 116=E u.aY.length) (Fu:z 117=E 0) (bb: ∀K af,zn u R v p (cD++qw u v) gu hA K af->Q (.cH 6) K af):ec N (.loop KZ) z t Q:=by
 have eW:=h.ok.fg;have ic:=h.ok.h2;have mo:=h.ok.j4;have bG:=h.ok.hl;refine gR (ax:=⟨[Nv,CH],[]⟩) (λi z t=>zn u R v p (pc u cD v i) gu hA z t/\z 115=ad (u.aY.map fk) 3/\z 116=E u.aY.length/\z 117=E i) u.aY.length ?_ ?_ 0 z t (gi _) ⟨cc,Ft,CD,Fu⟩
 ·rintro i z t W ⟨cc,Ft,CD,Fu⟩ bM a1;obtain⟨x,B⟩:=gk W;have cS:=(cG.1 B).2;obtain⟨bt,bR,a3,a4,ft⟩:=h.ok.tf i x B;obtain⟨X,eE⟩:=jX bt;obtain⟨gK,vx⟩:=jX a3;have bC:(i:Int)<u.aY.length:=(by omega);have br:=fz (n:=i) (by omega);have avl:=cc;obtain⟨ht,aL,aE,m5,iy,eY,aU,bS,dR,bB,ca,bl,cP,gn,g6,qe,sJ,nJ⟩:=cc;have dD:=aM aL;have SX:=aM m5;have E2:=aM iy;have nc:=aM eY;have dK: ∀(K:aC) (af:H) (c5:List c4),rl af 18 (n3 u.aZ.length u.aP.length u.aY.length) 0 1 c5 [0,1,10,gu,hA]->(∀b∈[0,1,10,gu,hA],af.I b=t.I b)->(∀j,j∈[1,2,4,6,7,8,9,11,12,41,42,43]->K j=z j)->zn u R v p c5 gu hA K af:= λK af c5 a b c=>
   ⟨a,by rw[b 0 (by simp),aL],by rw[b 1 (by simp),aE],by rw[b 10 (by simp),m5],by rw[b gu (by simp),iy],by rw[b hA (by simp),eY],by rw[c 1 (by simp),aU],by rw[c 2 (by simp),bS],by rw[c 4 (by simp),dR],by rw[c 6 (by simp),bB],by rw[c 7 (by simp),ca],by rw[c 8 (by simp),bl],by rw[c 9 (by simp),cP],by rw[c 11 (by simp),gn],by rw[c 12 (by simp),g6],by rw[c 41 (by simp),qe],by rw[c 42 (by simp),sJ],by rw[c 43 (by simp),nJ]⟩
  have dm: ∀b∈[0,1,10,gu,hA],b<t.next:= λb hb=>(ht.g hb).2
  have rD:X<u.cr.length:=(by omega);have a8:(X:Int)<u.cr.length:=(by omega);have PH:X+1<=u.cr.length:=rD;have BH:(u.aZ.length<=1000/\1<=u.aP.length/\u.aP.length<=1000)/\v<=1000/\gK<=1000:=(by omega);have PT:u.aZ.length<=1000/\u.aP.length<=1000/\i<=1000:=(by omega);have fl:pv u v i=decide ((X:Int)∈p.cr):=(by unfold pv;simp only[Z,B,eE]);have BM:iD u i=gK:=(by unfold iD;simp only[B,vx,ns]);have yr:(iW u.cr.length λi=>Value.bool (decide ((i:Int)∈p.cr)))[X]?=some (.bool (pv u v i)):=(by rw[vZ rD,fl]);have ahL: ∀h,(iW u.cr.length λi=>Value.bool (decide ((i:Int)∈p.cr)))[X]'h= .bool (pv u v i):= λh=>(cG.1 yr).2;have Ea:rl ((t.b0 6).aO (t.next+3) (some ⟨[gD x.name,E X,E gK],true⟩)) 18 (n3 u.aZ.length u.aP.length u.aY.length) 0 1 (pc u cD v i) [0,1,10,gu,hA]:=ht.bD (by simp) (λb hb=>by rw[a7 (by omega),cJ hb]) λb hb=> .inl hb;have WS:=aox (u:=u) (cD:=cD) (v:=v) (i:=i);have es:=aoy (u:=u) (cD:=cD) (v:=v) (i:=i);cases hb:pv u v i
  ·rw[hb]at yr ahL es;simp(disch:=first|omega|simp only[DI.aK];omega) [KZ,g6,Ft,CD,Fu,bC,br,cS,fk,eE,vx,eY,a8,PH,yr,fC,-an,-au,-ak,-aq,-List.map_map];refine a1 _ _ ⟨?_,by simp[Ft],by simp[CD],by simp⟩;rw[es];simp only[je,if_false,r8];refine dK _ _ _ Ea (λb hb=>by have:=dm b hb;rw[a7 (by omega),cJ this]) (λj aX=> ?_);have:j≠18/\j≠19/\(j<117\/137<j):=(by simp at aX;omega);obtain⟨uL,uM,xi⟩:=this;have uN: ∀k,117<=k->k<=137->j≠k:= λk a b=>by omega
   simp[k7,uL,uM,uN]
  ·rw[hb]at yr ahL es;simp(disch:=first|omega|simp only[DI.aK];omega) [KZ,bB,bl,cP,g6,Ft,CD,Fu,bC,cS,fk,eE,vx,eY,m5,a8,PH,yr,fC];refine(Jk Ea (by omega)).bD λr af ⟨al,dG⟩=> ?_;subst al;simp[Fu,br];refine a1 _ _ ⟨?_,by simp[Ft],by simp[CD],by simp⟩;rw[es];simp only[if_true];have nz:qv u v i=c4.mk (zD u.aZ.length u.aP.length v gK) (n3 u.aZ.length u.aP.length i) 1 0:=(by rw[qv,BM];rfl);rw[nz];refine dK _ _ _ dG.ht (λb hb=>by rw[dG.dK b hb];have:=dm b hb;rw[a7 (by omega),cJ this]) (λj aX=> ?_);have:j≠18/\j≠19/\(j<117\/137<j):=(by simp at aX;omega);obtain⟨uL,uM,xi⟩:=this;have uN: ∀k,117<=k->k<=137->j≠k:= λk a b=>by omega
   simp[k7,uL,uM,uN]
 ·rintro z t ⟨cc,Ft,CD,Fu⟩;rw[aow]at cc;simp[KZ,CD,Fu];refine bb _ _ ⟨cc.ht,cc.aL,cc.aE,cc.m5,cc.iy,cc.eY,?_,?_,?_,?_,?_,?_,?_,?_,?_,?_,?_,?_⟩;all_goals simp[cc.aU,cc.bS,cc.dR,cc.bB,cc.ca,cc.bl,cc.cP,cc.gn,cc.g6,cc.qe,cc.sJ,cc.nJ]
end Go.Proofs.YtmmkkggfmigppaaGreat
