/-
  For every input the law returns true, and each argument reads behind the call as it read before. The last part of the proof; tools of ours have shortened it.
-/
import Derived.Test.YtmmkkggfmigppaaGreatZazag
set_option linter.all false
set_option maxRecDepth 8000
set_option maxHeartbeats 16000000
namespace Go.hR
open Go Go.DI
def iK(g:c4->Int->Int):List c4->List Int->Int
 |a::xs,bc::fs=>g a bc+iK g xs fs
 |_,_=>0
theorem Um{g h:c4->Int->Int}: ∀{xs:List c4} {fs:List Int},(∀(i:Nat) a bc,xs[i]?=some a->fs[i]?=some bc->g a bc=h a bc)->iK g xs fs=iK h xs fs
 |[],_,_=>rfl
 |_::_,[],_=>rfl
 | a::xs,bc::fs,e=>by simp only[iK,e 0 a bc rfl rfl,Um (xs:=xs) (fs:=fs) λi a bc aa en=>e (i+1) a bc (by simpa using aa) (by simpa using en)]
theorem apZ{g h:c4->Int->Int}: ∀{xs:List c4} {fs:List Int},(∀(i:Nat) a bc,xs[i]?=some a->fs[i]?=some bc->g a bc<=h a bc)->iK g xs fs<=iK h xs fs
 |[],_,_=>sY _
 |_::_,[],_=>sY _
 | a::xs,bc::fs,e=>by have bY:=e 0 a bc rfl rfl;have A:=apZ (xs:=xs) (fs:=fs) λi a bc aa en=>e (i+1) a bc (by simpa using aa) (by simpa using en);simp only[iK];omega
theorem adi{g h:c4->Int->Int}: ∀{xs:List c4} {fs:List Int},iK (λa bc=>g a bc-h a bc) xs fs=iK g xs fs-iK h xs fs
 |[],_=>rfl
 |_::_,[]=>rfl
 |a::xs,bc::fs=>by simp only[iK,adi (xs:=xs) (fs:=fs)];omega
theorem apW{g h:c4->Int->Int}: ∀{xs:List c4} {fs:List Int},iK (λa bc=>g a bc+h a bc) xs fs=iK g xs fs+iK h xs fs
 |[],_=>rfl
 |_::_,[]=>rfl
 |a::xs,bc::fs=>by simp only[iK,apW (xs:=xs) (fs:=fs)];omega
theorem Un: ∀{xs:List c4} {fs:List Int},iK (λ_ _=>0) xs fs=0
 |[],_=>rfl
 |_::_,[]=>rfl
 |a::xs,bc::fs=>by simp only[iK,Un (xs:=xs) (fs:=fs)];rfl
theorem apX{g:c4->Int->Int}: ∀{xs:List c4} {fs:List Int},(∀(i:Nat) a bc,xs[i]?=some a->fs[i]?=some bc->0<=g a bc)->iK g xs fs=0-> ∀(i:Nat) a bc,xs[i]?=some a->fs[i]?=some bc->g a bc=0
 |[],_,_,_,i,a,bc,aa,_=>by simp at aa
 |_::_,[],_,_,i,a,bc,_,en=>by simp at en
 | b::xs,ou::fs,e,bw,i,a,bc,aa,en=>by
   have dd: ∀(i:Nat) a bc,xs[i]?=some a->fs[i]?=some bc->0<=g a bc:= λi a bc aa en=>e (i+1) a bc (by simpa using aa) (by simpa using en);have bY:=e 0 b ou rfl rfl;have A:0<=iK g xs fs:=(by have:=apZ (g:= λ_ _=>0) (h:=g) dd;rwa [Un]at this);simp only[iK]at bw;cases i with
   |zero=>simp at aa en;subst aa;subst en;omega
   |succ i=>exact apX dd (by omega) i a bc (by simpa using aa) (by simpa using en)
theorem aaL{x:Int}: ∀{xs:List c4} {fs:List Int},jy xs fs x=iK (λa bc=>jT a.f x bc-jT a.t x bc) xs fs
 |[],_=>by simp[jy,iK]
 |_::_,[]=>by simp[jy,iK]
 |a::xs,bc::fs=>by simp only[jy,iK,aaL (xs:=xs) (fs:=fs)]
theorem afE{s:Int->Bool}: ∀{xs:List c4} {fs:List Int},pY xs fs s=iK (λa bc=>(if s a.f=true then bc else 0)-(if s a.t=true then bc else 0)) xs fs
 |[],_=>by simp[pY,iK]
 |_::_,[]=>by simp[pY,iK]
 |a::xs,bc::fs=>by simp only[pY,iK,afE (xs:=xs) (fs:=fs)]
theorem atg{n:dH}(h:n.iN){aj:List Int}(a5:mE n aj){s:Int->Bool}(A:s n.dI=false)(D:s n.eT=false):pY n.bp aj s=0:=by
 have ae:=h.ee;rw[<-adf s n.dQ.toNat n.bp aj h.afZ];have: ∀k:Nat,k<=n.dQ.toNat->po s (jy n.bp aj) k=0:= λk=>by
  induction k with
  |zero=>intro _;rfl
  | succ k cf=>
    intro S;simp only[po,cf (by omega)];split
    ·next F=>rw[a5.Gt k ⟨by omega,by omega⟩ (λe=>by rw[e,A]at F;cases F) (λe=>by rw[e,D]at F;cases F)];rfl
    ·rfl
 exact this _ (c8 _)
def r1(g:c4->Int):List c4->Int
 |a::xs=>g a+r1 g xs
 |[]=>0
def kI(f:Nat->Int):Nat->Int
 |0=>0
 |n+1=>kI f n+f n
theorem ac6{g:c4->Int}: ∀{l k:List c4},r1 g (l++k)=r1 g l+r1 g k
 |[],k=>by simp[r1]
 |a::l,k=>by simp only[tZ,r1,ac6 (l:=l) (k:=k)];omega
theorem ac7{g:c4->Int}: ∀{l:List c4},(∀a∈l,g a=0)->r1 g l=0
 |[],_=>rfl
 |a::l,h=>by simp only[r1,h a (by simp),ac7 (l:=l) λb hb=>h b (by simp[hb])];rfl
theorem apP{g:c4->Int}{f:Nat->List c4}: ∀n:Nat,r1 g ((List.range n).flatMap f)=kI (λv=>r1 g (f v)) n
 |0=>rfl
 | n+1=>by rw[A2,List.flatMap_append,ac6,apP n];simp[kI]
theorem NU{f g:Nat->Int}: ∀{n:Nat},(∀v,v<n->f v=g v)->kI f n=kI g n
 |0,_=>rfl
 |n+1,h=>by simp only[kI,h n (by omega),NU (n:=n) λv M=>h v (by omega)]
theorem ac9: ∀{n:Nat},kI (λ_=>0) n=0
 |0=>rfl
 |n+1=>by simp only[kI,ac9 (n:=n)];rfl
theorem ac8{v:Nat}{c:Int}: ∀{n:Nat},v<n->kI (λbf=>if bf=v then c else 0) n=c
 |0,h=>absurd h (xO _)
 | n+1,h=>by
   by_cases e:v=n
   ·subst e;have:kI (λbf=>if bf=v then c else 0) v=0:=by
     have bY:kI (λbf=>if bf=v then c else 0) v=kI (λ_=>0) v:=NU λbf a9=>if_neg (by omega);rw[bY,ac9]
    simp only[kI,this,if_true];omega
   ·have bY:kI (λbf=>if bf=v then c else 0) n=c:=ac8 (by omega);simp only[kI,bY,if_neg (λaJ:n=v=>e aJ.symm)];omega
theorem apR{f g:Nat->Int}: ∀{n:Nat},(∀v,v<n->f v<=g v)->kI f n<=kI g n
 |0,_=>sY _
 | n+1,h=>by have:=apR (n:=n) λv M=>h v (by omega);have:=h n (by omega);simp only[kI];omega
theorem apQ{f g:Nat->Int}: ∀{n:Nat},(∀v,v<n->f v<=g v)->kI g n<=kI f n-> ∀v,v<n->f v=g v
 |0,_,_,v,M=>absurd M (xO _)
 | n+1,h,F,v,M=>by
   have A:=apR (n:=n) λv M=>h v (by omega);have D:=h n (by omega);simp only[kI]at F;by_cases e:v=n
   ·subst e;omega
   ·exact apQ (n:=n) (λv M=>h v (by omega)) (by omega) v (by omega)
theorem apS{g:Nat->c4->Int->Int}{xs:List c4}{fs:List Int}: ∀{n:Nat},kI (λv=>iK (g v) xs fs) n=iK (λa bc=>kI (λv=>g v a bc) n) xs fs
 |0=>Un.symm
 | n+1=>by simp only[kI,apS (n:=n)];exact apW.symm
theorem apY{p:c4->Bool}: ∀{xs:List c4} {fs:List Int},(∀a∈xs,0<=a.c)->(∀(i:Nat) a bc,xs[i]?=some a->fs[i]?=some bc->bc<=a.c)->iK (λa bc=>if p a=true then bc else 0) xs fs<=r1 (λa=>if p a=true then a.c else 0) xs
 |[],_,_,_=>sY _
 | a::xs,[],ar,_=>by
   have: ∀{l:List c4},(∀a∈l,0<=a.c)->0<=r1 (λa=>if p a=true then a.c else 0) l:= λ{l}=>by
    induction l with
    |nil=>intro _;exact sY _
    | cons b l cf=>intro h;have A:=cf λx B=>h x (by simp[B]);have D:=h b (by simp);simp only[r1];split<;>omega
   exact this ar
 | a::xs,bc::fs,ar,h=>by have bY:=h 0 a bc rfl rfl;have A:=apY (p:=p) (xs:=xs) (fs:=fs) (λa aa=>ar a (by simp[aa])) λi a bc aa en=>h (i+1) a bc (by simpa using aa) (by simpa using en);simp only[iK,r1];split<;>omega
end Go.hR
namespace Go.Proofs.YtmmkkggfmigppaaGreat
open Go Go.DI Go.Big Go.hR
def Fk(u:aG)(a:c4):Nat:=((a.f-2-u.aZ.length).tdiv ((u.aP.length:Int)-1)).toNat
theorem aEE{u:aG}(h:fj u){v d:Nat}(aV:d<u.aY.length):Fk u (qv u v d)=v:=by have:=(N5 h (v:=v) aV).1;show((gF u v (iD u d)-2-u.aZ.length).tdiv ((u.aP.length:Int)-1)).toNat=v;rw[this];omega
def qd(u:aG)(v:Nat):List c4->List Int->List Int
 |a::l,bc::aj=>(if dg u 0<=a.t/\bc≠0/\Fk u a=v then[a.t-dg u 0]else[])++qd u v l aj
 |_,_=>[]
theorem SZ{u:aG}{v:Nat}: ∀{xs:List c4} {fs:List Int} {L:List (List Int)} {r:List Int},L[v]?=some r->(nd u xs fs L)[v]?=some (r++qd u v xs fs)
 |[],_,L,r,h=>by simp[nd,qd,h]
 |_::_,[],L,r,h=>by simp[nd,qd,h]
 | a::xs,bc::fs,L,r,h=>by
   have az:=(cG.1 h).1;simp only[nd,qd];by_cases c:dg u 0<=a.t/\bc≠0
   ·rw[if_pos c];by_cases e:Fk u a=v
    ·have dd:((a.f-2-u.aZ.length).tdiv ((u.aP.length:Int)-1)).toNat=v:=e;rw[dd,if_pos ⟨c.1,c.2,e⟩];have aH:L.getD v []=r:=(by simp[h]);rw[aH,SZ (r:=r++[a.t-dg u 0]) (by simp[az])];simp
    ·have dd:((a.f-2-u.aZ.length).tdiv ((u.aP.length:Int)-1)).toNat≠v:=e;rw[if_neg (λcR=>e cR.2.2),SZ (r:=r) (by rw[Oi dd,h])];simp
   ·rw[if_neg c,if_neg (λcR=>c ⟨cR.1,cR.2.1⟩),SZ (r:=r) h];simp
theorem aaj{u:aG}: ∀{xs:List c4} {fs:List Int} {L:List (List Int)},(nd u xs fs L).length=L.length
 |[],_,_=>by simp[nd]
 |_::_,[],_=>by simp[nd]
 | a::xs,bc::fs,L=>by simp only[nd];rw[aaj];split<;>simp
theorem aoT{u:aG}{v:Nat}: ∀{xs:List c4} {fs:List Int},((qd u v xs fs).length:Int)=iK (λa bc=>if dg u 0<=a.t/\bc≠0/\Fk u a=v then 1 else 0) xs fs
 |[],_=>by simp[qd,iK]
 |_::_,[]=>by simp[qd,iK]
 | a::xs,bc::fs=>by simp only[qd,iK,iv,Int.natCast_add,aoT (xs:=xs) (fs:=fs)];split<;>simp
theorem aoU{u:aG}{v:Nat}{x:Int}: ∀{xs:List c4} {fs:List Int},x∈qd u v xs fs-> ∃(i:Nat) (a:c4) (bc:Int),xs[i]?=some a/\fs[i]?=some bc/\dg u 0<=a.t/\bc≠0/\Fk u a=v/\x=a.t-dg u 0
 |[],_,h=>by simp[qd]at h
 |_::_,[],h=>by simp[qd]at h
 | a::xs,bc::fs,h=>by
   simp only[qd,js]at h;rcases h with h|h
   ·split at h
    ·next c=>simp at h;exact⟨0,a,bc,rfl,rfl,c.1,c.2.1,c.2.2,h⟩
    ·simp at h
   ·obtain⟨i,b,ou,A,D,ai⟩:=aoU h;exact⟨i+1,b,ou,by simpa using A,by simpa using D,ai⟩
def p8(u:aG)(v:Nat)(x:Int):Bool:=(List.range u.aP.length).any λi=>decide (x=gF u v i)
theorem aaV{u:aG}{v:Nat}{x:Int}:p8 u v x=true↔ ∃i,i<u.aP.length/\x=gF u v i:=by unfold p8;simp[Dd]
theorem atp{u:aG}(h:fj u){v w i j:Nat}(M:v<u.aZ.length)(aS:w<u.aZ.length)(W:i<u.aP.length)(aX:j<u.aP.length)(e:gF u v i=gF u w j):v=w/\i=j:=by
 have bG:=h.hl;obtain⟨bU,h9⟩: ∃bU:Nat,u.aP.length=bU+1:=⟨u.aP.length-1,by omega⟩;have aD:((u.aP.length:Int)-1)=bU:=by omega
 have G: ∀bf:Nat,0<=(bf:Int)*bU:= λbf=>A3 (by omega) (by omega);unfold gF at e;rw[aD]at e;have iw:=G v;have aZo:=G w;by_cases b6:i=0
 ·by_cases cR:j=0
  ·rw[if_pos b6,if_pos cR]at e;omega
  ·rw[if_pos b6,if_neg cR]at e;omega
 ·by_cases cR:j=0
  ·rw[if_neg b6,if_pos cR]at e;omega
  ·rw[if_neg b6,if_neg cR]at e;rcases Nat.lt_trichotomy v w with q|q|q
   ·have:((v:Int)+1)*bU<=(w:Int)*bU:=y9 (by omega) (by omega);rw[Int.add_mul]at this;omega
   ·subst q;omega
   ·have:((w:Int)+1)*bU<=(v:Int)*bU:=y9 (by omega) (by omega);rw[Int.add_mul]at this;omega
theorem Tj{u:aG}(h:fj u){v w i:Nat}(M:v<u.aZ.length)(aS:w<u.aZ.length)(W:i<u.aP.length):p8 u v (gF u w i)=decide (w=v):=by
 by_cases e:w=v
 ·subst e;rw[aaV.2 ⟨i,W,rfl⟩,decide_eq_true rfl]
 ·rw[rj e];cases ae:p8 u v (gF u w i)with
  |false=>rfl
  | true=>obtain⟨j,aX,aJ⟩:=aaV.1 ae;exact absurd (atp h aS M W aX aJ).1 e
theorem H5{u:aG}(h:fj u){v:Nat}(M:v<u.aZ.length){x:Int}(B:x<2\/dg u 0<=x):p8 u v x=false:=by
 cases ae:p8 u v x with
 |false=>rfl
 | true=>obtain⟨j,aX,aJ⟩:=aaV.1 ae;have:=pz h M aX;omega
theorem ar3{u:aG}(h:fj u){R:List Int}{v:Nat}(M:v<u.aZ.length){a:c4}(aa:a∈dC u R){bc:Int}(bY:0<=bc)(ar:bc<=a.c):
 ((if p8 u v a.f=true then bc else 0)-(if p8 u v a.t=true then bc else 0))=(if dg u 0<=a.t/\bc≠0/\Fk u a=v then 1 else 0)-(if(decide (a.f=0)&&decide (a.t=2+v))=true then bc else 0):=by
 have bG:=h.hl;have ik:=yJ h;rcases MK.1 aa with⟨w,aS,ab⟩|⟨d,aV,rfl⟩
 ·rcases ML.1 ab with rfl|⟨j,aX,rfl⟩|⟨d,aV,_,rfl⟩
  ·have al:=pz h aS (i:=0) bG;have hc:gF u w 0=2+(w:Int):=(by simp[gF]);have bK:p8 u v 0=false:=H5 h M (.inl (by omega));have cz:p8 u v (2+w)=decide (w=v):=(by rw[<-hc];exact Tj h M aS bG);have dV: ¬dg u 0<=2+(w:Int):=(by omega);simp only[si,bK,cz,dV,false_and,if_false,je];by_cases e:w=v
   ·subst e;simp
   ·have: ¬(2+(w:Int)=2+v):=(by omega);simp[e,this]
  ·have lD:j+1<u.aP.length:=(by omega);have Z:=(h.ni lD (h.vX lD (by omega))).1;have m8:jL u (j+1)<u.aP.length:=(by omega);have ek:=pz h aS m8;have gm:=pz h aS lD;have bK:=Tj h M aS m8;have cz:=Tj h M aS lD;have dV: ¬dg u 0<=gF u w (j+1):=(by omega);have gr: ¬gF u w (jL u (j+1))=0:=(by omega);simp only[uj,bK,cz,dV,gr,false_and,if_false,decide_false,Bool.false_and,je];omega
  ·have ab:=(DB h aV).1;have ek:=pz h aS ab;have bK:=Tj h M aS ab;have aD:dg u d=dg u 0+d:=(by unfold dg;omega);have cz:p8 u v (dg u d)=false:=H5 h M (.inr (by omega));have dV:dg u 0<=dg u d:=(by omega);have gr: ¬gF u w (iD u d)=0:=(by omega);have kj:=aEE h (v:=w) aV;rw[kj];have oC:bc<=1:=ar;simp only[qv,bK,cz,dV,gr,true_and,decide_false,Bool.false_and,je,if_false];by_cases e:w=v
   ·subst e;simp only[decide_true,if_true,and_true];split<;>omega
   ·simp[e]
 ·have aD:dg u d=dg u 0+d:=(by unfold dg;omega);have bK:p8 u v (dg u d)=false:=H5 h M (.inr (by omega));have cz:p8 u v 1=false:=H5 h M (.inl (by omega));have dV: ¬dg u 0<=1:=(by omega);have gr: ¬dg u d=0:=(by omega);simp[vj,bK,cz,dV,gr]
def KP(u:aG)(R aj:List Int)(v:Nat):Int:=iK (λa bc=>if(decide (a.f=0)&&decide (a.t=2+(v:Int)))=true then bc else 0) (dC u R) aj
theorem aFo{u:aG}(h:fj u){R aj:List Int}(a5:mE (im u R) aj){v:Nat}(M:v<u.aZ.length):((qd u v (dC u R) aj).length:Int)=KP u R aj v:=by
 have ch:=Cw h R;have ik:=yJ h;have ar:=atg ch a5 (s:=p8 u v) (H5 h M (.inl (by show(0:Int)<2;omega))) (H5 h M (.inl (by show(1:Int)<2;omega)));rw[afE]at ar
 have e:iK (λa bc=>(if p8 u v a.f=true then bc else 0)-(if p8 u v a.t=true then bc else 0)) (dC u R) aj=iK (λa bc=>(if dg u 0<=a.t/\bc≠0/\Fk u a=v then 1 else 0)-(if(decide (a.f=0)&&decide (a.t=2+(v:Int)))=true then bc else 0)) (dC u R) aj:=
  Um λi a bc aa en=>by have:=a5.kK.2 i a bc aa en;exact ar3 h M (fr aa) this.1 this.2
 have oC:iK (λa bc=>(if p8 u v a.f=true then bc else 0)-(if p8 u v a.t=true then bc else 0)) (dC u R) aj=0:=ar;rw[e,adi]at oC;rw[aoT];unfold KP;omega
theorem as0{u:aG}(h:fj u){R:List Int}{v:Nat}(M:v<u.aZ.length):r1 (λa=>if(decide (a.f=0)&&decide (a.t=2+(v:Int)))=true then a.c else 0) (dC u R)=iF u v:=by
 have bG:=h.hl;have ik:=yJ h;unfold dC;rw[ac6,apP,ac7 (l:=(List.range u.aY.length).map (vj u R))]
 ·rw[NU (g:= λbf=>if bf=v then iF u v else 0),ac8 M]
  ·omega
  ·intro w aS;unfold qw;simp only[r1];rw[ac7]
   ·by_cases e:w=v
    ·subst e;simp[si]
    ·have: ¬(2+(w:Int)=2+v):=(by omega);simp[si,e,this]
   ·intro a aa;have ab:a∈qw u w:=(by unfold qw;exact F5 _ aa);simp only[js,gG,om,List.mem_filter]at aa;rcases aa with⟨j,aX,rfl⟩|⟨d,⟨aV,_⟩,rfl⟩
    ·have lD:j+1<u.aP.length:=(by omega);have Z:=(h.ni lD (h.vX lD (by omega))).1;have:=(pz h aS (i:=jL u (j+1)) (by omega)).1;have gr: ¬gF u w (jL u (j+1))=0:=(by omega);simp[uj,gr]
    ·have:=(pz h aS (DB h aV).1).1;have gr: ¬gF u w (iD u d)=0:=(by omega);simp[qv,gr]
 ·intro a aa;obtain⟨d,aV,rfl⟩:=gG.1 aa;have aD:dg u d=dg u 0+d:=(by unfold dg;omega);have gr: ¬dg u d=0:=(by omega);simp[vj,gr]
theorem axc{u:aG}(h:fj u){R aj:List Int}(a5:mE (im u R) aj){v:Nat}(M:v<u.aZ.length):KP u R aj v<=iF u v:=by have ch:=Cw h R;rw[<-as0 h (R:=R) M];exact apY (p:= λa=>decide (a.f=0)&&decide (a.t=2+(v:Int))) (λa aa=>(ch.qu a aa).2.2.1) λi a bc aa en=>(a5.kK.2 i a bc aa en).2
theorem aH6{u:aG}(h:fj u){R aj:List Int}:value (im u R) aj=kI (KP u R aj) u.aZ.length:=by
 have bG:=h.hl;have ik:=yJ h;have ch:=Cw h R;show jy (dC u R) aj 0=kI (λv=>iK _ _ _) u.aZ.length;rw[aaL,apS];refine Um λi a bc aa en=> ?_;have ab:=fr aa;have off: ∀{x y bc:Int},¬x=y->jT x y bc=0:= λuF=>if_neg uF;have aei: ¬a.f=0->kI (λv=>if(decide (a.f=0)&&decide (a.t=2+(v:Int)))=true then bc else 0) u.aZ.length=0:= λbw=>by rw[NU (g:= λ_=>0),ac9];intro v _;simp[bw]
 rcases MK.1 ab with⟨w,aS,ab⟩|⟨d,aV,rfl⟩
 ·rcases ML.1 ab with rfl|⟨j,aX,rfl⟩|⟨d,aV,_,rfl⟩
  ·have e:kI (λv=>if(decide ((si u w).f=0)&&decide ((si u w).t=2+(v:Int)))=true then bc else 0) u.aZ.length=bc:=by
    rw[NU (g:= λbf=>if bf=w then bc else 0),ac8 aS];intro v _;by_cases e:v=w
    ·subst e;simp[si]
    ·have: ¬(2+(w:Int)=2+v):=(by omega);simp[si,e,this]
   rw[e];have:jT (si u w).t 0 bc=0:=off (by show¬2+(w:Int)=0;omega);rw[this];show jT 0 0 bc-0=bc;simp[jT]
  ·have lD:j+1<u.aP.length:=(by omega);have Z:=(h.ni lD (h.vX lD (by omega))).1;have ek:=(pz h aS (i:=jL u (j+1)) (by omega)).1;have gm:=(pz h aS lD).1;have bK: ¬(uj u w (j+1)).f=0:=(by show¬gF u w (jL u (j+1))=0;omega);have cz: ¬(uj u w (j+1)).t=0:=(by show¬gF u w (j+1)=0;omega);rw[aei bK,off bK,off cz];rfl
  ·have ek:=(pz h aS (DB h aV).1).1;have aD:dg u d=dg u 0+d:=(by unfold dg;omega);have bK: ¬(qv u w d).f=0:=(by show¬gF u w (iD u d)=0;omega);have cz: ¬(qv u w d).t=0:=(by show¬dg u d=0;omega);rw[aei bK,off bK,off cz];rfl
 ·have aD:dg u d=dg u 0+d:=(by unfold dg;omega);have bK: ¬(vj u R d).f=0:=(by show¬dg u d=0;omega);have cz: ¬(vj u R d).t=0:=(by show¬(1:Int)=0;omega);rw[aei bK,off bK,off cz];rfl
theorem aHO{u:aG}:q6 u=kI (iF u) u.aZ.length:=by
 unfold q6;have key: ∀(n:Nat) (c:Int),((List.range n).map (iF u)).foldr (· + ·) c=kI (iF u) n+c:= λn=>by
  induction n with
  |zero=>intro c;simp[kI]
  | succ n cf=>intro c;rw[A2,vf,List.foldr_append];simp only[lO,List.map_nil,List.foldr_cons,List.foldr_nil];rw[cf];simp only[kI];omega
 rw[key];omega
theorem atF{u:aG}(h:fj u){R aj:List Int}(a5:mE (im u R) aj){v d:Nat}(M:v<u.aZ.length)(aV:d<u.aY.length)(al:h4 u R d=0){i:Nat}{bc:Int}(aa:(dC u R)[i]?=some (qv u v d))(en:aj[i]?=some bc):bc=0:=by
 have ik:=yJ h;have bG:=h.hl;have aD: ∀d,dg u d=dg u 0+d:= λd=>by unfold dg;omega
 have aO2:=aD u.aY.length;have aNU:=aD d;have oZ:(im u R).hN (dg u d):=⟨by omega,by show dg u d<dg u u.aY.length;omega⟩;have ar:=a5.Gt (dg u d) oZ (by show¬dg u d=0;omega) (by show¬dg u d=1;omega);have ar:jy (dC u R) aj (dg u d)=0:=ar;rw[aaL]at ar;have e:iK (λa bc=>jT a.f (dg u d) bc-jT a.t (dg u d) bc) (dC u R) aj=iK (λa bc=>0-(if a.t=dg u d then bc else 0)) (dC u R) aj:=Um λj a ou aX z9=>by
  have hb:=a5.kK.2 j a ou aX z9;have bw:jT a.f (dg u d) ou=0:=by
   unfold jT;split
   ·next q=>
    rcases MK.1 (fr aX)with⟨w,aS,ab⟩|⟨lB,uz,rfl⟩
    ·exfalso;rcases ML.1 ab with rfl|⟨k,S,rfl⟩|⟨lB,uz,_,rfl⟩
     ·have q:(0:Int)=dg u d:=q;omega
     ·have lj:k+1<u.aP.length:=(by omega);have Z:=(h.ni lj (h.vX lj (by omega))).1;have:=(pz h aS (i:=jL u (k+1)) (by omega)).2;have q:gF u w (jL u (k+1))=dg u d:=q;omega
     ·have:=(pz h aS (DB h uz).1).2;have q:gF u w (iD u lB)=dg u d:=q;omega
    ·have q:dg u lB=dg u d:=q;have aJ:=aD lB;have:lB=d:=(by omega);subst this;have tj:ou<=h4 u R lB:=hb.2;omega
   ·rfl
  rw[bw];rfl
 rw[e,adi,Un]at ar;have:=apX (g:= λa bc=>if a.t=dg u d then bc else 0) (xs:=dC u R) (fs:=aj) (λj a ou aX z9=>by
  have hb:=a5.kK.2 j a ou aX z9;show 0<=if a.t=dg u d then ou else 0
  split<;>omega) (by omega) i _ bc aa en
 simpa[qv]using this
theorem amQ{u:aG}(h:fj u){R aj:List Int}(a5:mE (im u R) aj)(ba:q6 u<=value (im u R) aj):
 tR u (nd u (dC u R) aj (List.replicate u.aZ.length []))=true/\vg (nd u (dC u R) aj (List.replicate u.aZ.length []))/\ ∀x∈(nd u (dC u R) aj (List.replicate u.aZ.length [])).flatten,∃d:Nat,x=d/\d<u.aY.length/\h4 u R d≠0:=by
 have mo:=h.j4;obtain⟨L,gd⟩: ∃L,L=nd u (dC u R) aj (List.replicate u.aZ.length []):=⟨_,rfl⟩;rw[<-gd];have di:L.length=u.aZ.length:=by rw[gd,aaj];simp
 have qP: ∀v,v<u.aZ.length->L[v]?=some (qd u v (dC u R) aj):= λv M=>by rw[gd,SZ (r:=[]) (by simp[M])];simp
 have avG:=apQ (f:=KP u R aj) (g:=iF u) (n:=u.aZ.length) (λv M=>axc h a5 M) (by rw[<-aHO,<-aH6 h];exact ba);have nC: ∀v,v<u.aZ.length-> ∀x∈qd u v (dC u R) aj,∃d:Nat,x=d/\d<u.aY.length/\h4 u R d≠0:= λv M x B=>by obtain⟨i,a,bc,A,D,ai,aT,bF,cW⟩:=aoU B;obtain⟨w,d,aS,aV,rfl⟩:=U9 h (fr A) ai;refine⟨d,?_,aV,λal=>aT (atF h a5 aS aV al A D)⟩;rw[cW];show dg u d-dg u 0=d;unfold dg;omega
 have GX: ∀v,v<u.aZ.length->((qd u v (dC u R) aj).length:Int)=iF u v:= λv M=>by rw[aFo h a5 M,avG v M]
 have m1: ∀{v:Nat} {r:List Int},L[v]?=some r->v<u.aZ.length/\r=qd u v (dC u R) aj:= λ{v r} al=>by have M:v<u.aZ.length:=(by rw[<-di];exact(cG.1 al).1);rw[qP v M]at al;exact⟨M,by cases al;rfl⟩
 refine⟨aps di λv r al=> ?_,⟨by omega,λr al=> ?_⟩,λx B=> ?_⟩
 ·obtain⟨M,rfl⟩:=m1 al;unfold Fq;rw[decide_eq_true (GX v M),C9,dP];intro x B;obtain⟨d,rfl,aV,_⟩:=nC v M x B;simp;omega
 ·obtain⟨v,M,e⟩:=lN al;obtain⟨tx,rfl⟩:=m1 (v:=v) (r:=r) (by rw[c1 M,e]);have:=GX v tx;have:=(DK h tx).2;omega
 ·obtain⟨r,al,ab⟩:=zf.1 B;obtain⟨v,M,e⟩:=lN al;obtain⟨tx,rfl⟩:=m1 (v:=v) (r:=r) (by rw[c1 M,e]);exact nC v tx x ab
theorem aCd{u:aG}(h:fj u){R c9 aj:List Int}(a5:mE (im u (mV u R c9)) aj)(ba:q6 u<=value (im u (mV u R c9)) aj){n:Int}(ae:n∈c9)(bY: ¬n=0)(hb:mb u n=true):
 vo u (nd u (dC u (mV u R c9)) aj (List.replicate u.aZ.length [])) n=true:=by
 obtain⟨A,_,ai⟩:=amQ h a5 ba;rw[afW A hb];refine agk λx B ab=> ?_;obtain⟨d,rfl,aV,al⟩:=ai x B;obtain⟨lB,e,_,bT⟩:=(aaw h hb).1 ab;obtain rfl:d=lB:=by omega
 rw[abK h aV]at al;rw[if_pos (Dd.2 ⟨n,ae,bT.resolve_left bY⟩)]at al;exact al rfl
theorem aCo{ao ay:List Int}{n:Int}(ae:(ao++ay).Nodup)(h:n∈ao\/n∈ay):(fo ao n).length+(fo ay n).length+1=ao.length+ay.length:=by
 have ab:n∈ao++ay:=js.2 h;obtain⟨l,r,e⟩:=List.append_of_mem ab;have aD:fo (ao++ay) n=fo ao n++fo ay n:=by unfold fo;rw[List.filter_append]
 rw[e]at ae;have aJ:=amR ae;rw[<-e,aD]at aJ;have A:=congrArg List.length aJ;have D:=congrArg List.length e;simp only[iv,mC]at A D;omega
theorem aFp{u:aG}(h:cE u)(A:1<=u.aZ.length){R:List Int}(Z:vY u R=true):Gf N 37 [.agg (aI u).toArray,bm R] λv=> ∃aj,mE (im u R) aj/\q6 u<=value (im u R) aj/\v= .tuple #[jO (nd u (dC u R) aj (List.replicate u.aZ.length [])),E 0]:=
 aHP ((aoX h A).bD λv t ⟨_,M⟩=>by obtain⟨aj,iZ,o,ps,bo,ba,e,ae⟩:=M Z;have az:(nd u (dC u R) aj (List.replicate u.aZ.length [])).length=u.aZ.length:=(by rw[aaj];simp);have a5:=auv (n:=6) ae;rw[az]at a5;refine⟨_,?_,aj,bo.Pt,ba,rfl⟩;rw[e];simp(disch:=first|omega|simp only[DI.aK];omega) [a5])
theorem aHJ{u:aG}(h:cE u){L dX:List (List Int)}{R ao:List Int}{n2 oN:Nat}{z:aC}{t:H}{Q:cM->aC->H->Prop}{ay:Value}(dG:ao.length<=1000)(Ki:vg dX)(aQ: ∀n∈ao,vo u dX n=true)(ju:t.I n2=some ⟨oz u L R,true⟩)(n4:t.I oN=some ⟨[bm ao,ay],true⟩)(bz:z 5=bH n2)(e4:z 10=bH oN)(pg:z 13=jO dX)(CE:z 15=E 0)
 (bb: ∀K,K 1=z 1->K 2=z 2->K 5=z 5->K 7=z 7->K 8=z 8->K 10=z 10->Q (.cH 2) K t):ec N (.loop Sy) z t Q:=by
 have yB:=aM ju;have cQ:=aM n4;refine gR (ax:=⟨[acm u h],[]⟩) (λi K af=>af=t/\(K 1=z 1/\K 2=z 2/\K 5=z 5/\K 7=z 7/\K 8=z 8/\K 10=z 10)/\K 13=jO dX/\K 15=E i) ao.length ?_ ?_ 0 z t (gi _) ⟨rfl,⟨rfl,rfl,rfl,rfl,rfl,rfl⟩,pg,CE⟩
 ·rintro i K af W ⟨rfl,⟨aD,aJ,jj,oB,lC,pA⟩,adj,adk⟩ bM a1;obtain⟨x,B⟩:=gk W;have cS:=(cG.1 B).2;have g2:=aQ x (fr B);have bC:(i:Int)<ao.length:=(by omega);have br:=fz (n:=i) (by omega);have nL:=jj.trans bz;have pQ:=pA.trans e4;simp(disch:=first|omega|simp only[DI.aK];omega) [Sy,nL,pQ,adj,adk,ju,n4,bC,br,cS,g2,-an,-au,-ak,-aq,-List.map_map];exact a1 _ _ ⟨rfl,⟨by simp[aD],by simp[aJ],by simp[jj],by simp[oB],by simp[lC],by simp[pA]⟩,by simp[adj],by simp⟩
 ·rintro K af ⟨rfl,⟨aD,aJ,jj,oB,lC,pA⟩,adj,adk⟩;have pQ:=pA.trans e4;simp(disch:=first|omega|simp only[DI.aK];omega) [Sy,pQ,adk,n4,-an,-au,-ak,-aq,-List.map_map];exact bb _ (by simp[aD]) (by simp[aJ]) (by simp[jj]) (by simp[oB]) (by simp[lC]) (by simp[pA])
theorem aHK{u:aG}(h:cE u)(A:1<=u.aZ.length){L:List (List Int)}{R ao ay:List Int}{n2 oN:Nat}{z:aC}{t:H}{Q:cM->aC->H->Prop}(dG:ao.length+ay.length<=1000)(aQ: ∀n∈ay,gh u R (ao++[n])=false)(ju:t.I n2=some ⟨oz u L R,true⟩)(n4:t.I oN=some ⟨[bm ao,bm ay],true⟩)(bz:z 5=bH n2)(e4:z 10=bH oN)(u2:z 16=E 0)
 (bb: ∀K af,(∀b,b<t.next->af.I b=t.I b)->t.next<=af.next->K 1=z 1->K 2=z 2->K 5=z 5->K 7=z 7->K 8=z 8->K 10=z 10->Q (.cH 4) K af):ec N (.loop HM) z t Q:=by
 have yB:=aM ju;have cQ:=aM n4;refine gR (ax:=⟨[CK u h A],[]⟩) (λi K af=>((∀b,b<t.next->af.I b=t.I b)/\t.next<=af.next)/\(K 1=z 1/\K 2=z 2/\K 5=z 5/\K 7=z 7/\K 8=z 8/\K 10=z 10)/\K 16=E i) ay.length ?_ ?_ 0 z t (gi _) ⟨⟨λ_ _=>rfl,c8 _⟩,⟨rfl,rfl,rfl,rfl,rfl,rfl⟩,u2⟩
 ·rintro i K af W ⟨⟨S,ae⟩,⟨aD,aJ,jj,oB,lC,pA⟩,IL⟩ bM a1;obtain⟨x,B⟩:=gk W;have cS:=(cG.1 B).2;have g2:=aQ x (fr B);have bC:(i:Int)<ay.length:=(by omega);have br:=fz (n:=i) (by omega);have nL:=jj.trans bz;have pQ:=pA.trans e4;have ju:=(S n2 yB).trans ju;have n4:=(S oN cQ).trans n4;have aRd:=aM ju;have aCG:=aM n4;have WI:(ao++[x]).length<=1000000:=(by simp;omega);have e8:ao.length*8<=140737488355328/\ao.length<=9223372036854775807/\(ao.length+1)*8<=140737488355328/\ao.length<=9223372036854775806:=(by omega);have mN:List.take ao.length (ao.map E)=ao.map E:=h7 (by simp);have f9: ∀(X:H) (q:Nat),X.I q=some ⟨(ao++[x]).map E,true⟩->DI.dt 9 X (b7 q (ao.length+1) 1)=some (bm (ao++[x]))/\et 9 X (b7 q (ao.length+1) 1)=[q]:= λX q bo=>⟨(vt (fa.cK bo) (by simp)).1,Ng (fa.cK bo)⟩;by_cases zw:ao=[]
  ·have zx:ao.length=0:=(by rw[zw];rfl);simp(disch:=first|omega|simp only[DI.aK];omega) [HM,nL,pQ,IL,ju,n4,bC,cS,zx,-List.map_append,-an,-au,-ak,-aq,-List.map_map];generalize eE:H.aO _ (af.next+13) (some (eM.mk [Value.int IntKind.i64 x] true))=X;have qD:X.I (af.next+13)=some ⟨(ao++[x]).map E,true⟩:=(by rw[<-eE,zw];simp(disch:=first|omega|simp only[DI.aK];omega) [-an,-au,-ak,-aq,-List.map_map]);have na: ∀b,b<af.next->X.I b=af.I b:= λb hb=>by rw[<-eE,a7 (by omega),a7 (by omega),cJ hb]
   have Cp:X.next=af.next+15:=by rw[<-eE];simp
   obtain⟨f,r⟩:=f9 X _ qD;rw[zx]at f r;simp(disch:=first|omega|simp only[DI.aK];omega) [f,r,g2,br,IL,-List.map_append,-an,-au,-ak,-aq,-List.map_map];exact a1 _ _ ⟨⟨λb hb=>(na b (by omega)).trans (S b hb),by simp[Cp];omega⟩,⟨by simp[aD],by simp[aJ],by simp[jj],by simp[oB],by simp[lC],by simp[pA]⟩,by simp⟩
  ·have zx: ¬ao.length=0:= λe=>zw (pU e);have av9: ¬n2=af.next+6:=by omega
   simp(disch:=first|omega|simp only[DI.aK];omega) [HM,nL,pQ,IL,ju,n4,bC,cS,zx,e8,l5,mN,av9,-List.map_append,-an,-au,-ak,-aq,-List.map_map];generalize eE:H.aO _ (af.next+13) (some (eM.mk (ao.map E++[Value.int IntKind.i64 x]) true))=X;have qD:X.I (af.next+13)=some ⟨(ao++[x]).map E,true⟩:=(by rw[<-eE,vf];simp(disch:=first|omega|simp only[DI.aK];omega) [-an,-au,-ak,-aq,-List.map_map]);have na: ∀b,b<af.next->X.I b=af.I b:= λb hb=>by rw[<-eE,a7 (by omega),a7 (by omega),a7 (by omega),a7 (by omega),cJ hb]
   have Cp:X.next=af.next+15:=by rw[<-eE];simp
   obtain⟨f,r⟩:=f9 X _ qD;simp(disch:=first|omega|simp only[DI.aK];omega) [f,r,g2,br,IL,-List.map_append,-an,-au,-ak,-aq,-List.map_map];exact a1 _ _ ⟨⟨λb hb=>(na b (by omega)).trans (S b hb),by simp[Cp];omega⟩,⟨by simp[aD],by simp[aJ],by simp[jj],by simp[oB],by simp[lC],by simp[pA]⟩,by simp⟩
 ·rintro K af ⟨⟨S,ae⟩,⟨aD,aJ,jj,oB,lC,pA⟩,IL⟩;have pQ:=pA.trans e4;have n4:=(S oN cQ).trans n4;have aCG:=aM n4;simp(disch:=first|omega|simp only[DI.aK];omega) [HM,pQ,IL,n4,-an,-au,-ak,-aq,-List.map_map];exact bb _ _ S ae (by simp[aD]) (by simp[aJ]) (by simp[jj]) (by simp[oB]) (by simp[lC]) (by simp[pA])
noncomputable abbrev NR(u:aG)(h:cE u)(A:1<=u.aZ.length):mG N:=⟨[TQ u h A,TR u h A,FA u h,FC,TV u h],[]⟩
theorem aHM{u:aG}(h:cE u)(A:1<=u.aZ.length){L:List (List Int)}{R ao ay aq9 art:List Int}{n2 oN hx:Nat}{z:aC}{t:H}{Q:cM->aC->H->Prop}(az:ao.length+ay.length<=1000)(iR:hg u (ao++ay)=true)(Z:ao=[]\/gh u R ao=true)(aQ: ∀n∈ay,gh u R (ao++[n])=false)
 (ju:t.I n2=some ⟨oz u L R,true⟩) (n4:t.I oN=some ⟨[bm ao,bm ay],true⟩) (hr:t.I hx=some ⟨[bm aq9,bm art],true⟩) (d:hx≠n2/\hx≠oN) (bz:z 5=bH n2) (ca:z 7=bH hx) (e4:z 10=bH oN)
 (bb: ∀K af,af.I n2=some ⟨oz u L R,true⟩->af.I hx=some ⟨[bm ao,bm ay],true⟩->K 1=z 1->K 5=z 5->K 7=z 7->K 8=z 8->Q .eB K af):ix (NR u h A) HL z t Q:=by
 obtain⟨fW,gI⟩:=d;have yB:=aM ju;have cQ:=aM n4;have cl:=aM hr;have key: ∀(K:aC),K 16=E 0->K 1=z 1->K 2=z 2->K 5=z 5->K 7=z 7->K 8=z 8->K 10=z 10->ec N (.loop HM) K t (zt 4 (CX (NR u h A) (.kl [⟨0,some 168,none,.g4 true 2 (.tmp 10),[]⟩,⟨1,none,none,.store 2 (.tmp 7) (.tmp 168),[]⟩]) Q)):= λK aHY aD aJ jj oB lC pA=>by
  refine aHK h A (L:=L) (R:=R) (by omega) aQ ju n4 (jj.trans bz) (pA.trans e4) aHY λc6 eC S ae bK cz kj xk Ak xj=> ?_;have agM:=(S oN cQ).trans n4;have agL:=(S hx cl).trans hr;have auS:=(S n2 yB).trans ju;have S7:=aM agM;have amY:=aM agL;have pQ:=xj.trans (pA.trans e4);have IM:=xk.trans (oB.trans ca);simp[pQ,IM,agM,agL];refine bb _ _ ?_ ?_ (by simp[bK,aD]) (by simp[kj,jj]) (by simp[xk,oB]) (by simp[Ak,lC])
  ·rw[a7 (λe=>fW e.symm)];exact auS
  ·simp(disch:=omega)
 by_cases zw:ao=[]
 ·have zx:ao.length=0:=(by rw[zw];rfl);simp[HL,Sv,Sw,e4,n4,zx];exact key _ (by simp) (by simp) (by simp) (by simp) (by simp) (by simp) (by simp)
 ·have WU:=Z.resolve_left zw;have zx: ¬ao.length=0:= λe=>zw (pU e);have asA:0<ao.length:=(by omega);have WI:ao.length<=1000000:=(by omega);simp(disch:=omega) [HL,bz,e4,n4,ju,asA];have avk:vY u (mV u R ao)=true:=WU;have jk: ∀n∈ao,¬n=0/\mb u n=true:= λn ae=>by
   unfold hg at iR;rw[a6,dP]at iR;have:=iR.1 n (js.2 (.inl ae));rw[Ti]at this;simpa using this
  refine((aFp h A avk).aHD (t:=t) (λv M=>by simp at M;rcases M with rfl|rfl<;>rfl)).bD λv af ⟨⟨aj,a5,ba,M⟩,awA⟩=> ?_;subst M;subst awA;obtain⟨_,Ki,_⟩:=amQ h.ok a5 ba;have ahc: ∀n∈ao,vo u (nd u (dC u (mV u R ao)) aj (List.replicate u.aZ.length [])) n=true:= λn ae=>aCd h.ok a5 ba ae (jk n ae).1 (jk n ae).2;generalize nd u (dC u (mV u R ao)) aj (List.replicate u.aZ.length [])=dX at Ki ahc;simp[Sv];refine aHJ h (L:=L) (dX:=dX) (R:=R) (ao:=ao) (ay:=bm ay) (by omega) Ki ahc ju n4 (by simp[bz]) (by simp[e4]) (by simp) (by simp) λc6 bK cz kj xk Ak xj=> ?_;simp[Sw];exact key _ (by simp) (by simp[bK]) (by simp[cz]) (by simp[kj]) (by simp[xk]) (by simp[Ak]) (by simp[xj])
end Go.Proofs.YtmmkkggfmigppaaGreat
namespace Go.DI
open Go
theorem aIE{P:Program}{t:H}{z:aC}{c:aw}{Q:cM->aC->H->Prop}{o:Nat}{cs ds:List Value}(aB:t.I o=some ⟨cs,true⟩)(ar:cs≠[])(aS:ug cs ds)(h:ec P c z (t.aO o (some ⟨ds,true⟩)) Q):ec P c z t Q:=
 aqH (λJ u K m F b2=>by
  have dm:=aM aB;have aV:ds≠[]:= λe=>ar (pU (by rw[aS.len,e];rfl));refine⟨⟨λp x B=> ?_,λp es aQ=> ?_,F.jo,F.inj,F.cQ,λb fI hb=> ?_⟩,b2,⟨fE.refl _,gS.refl _,λ_ _ h=> .inl h,λ_ _ h=> .inl h,by simp,c8 _,λ_ _ _=>rfl,λb hb=> λ⟨p,x,aD,aJ,cg⟩=> ?_,λb hb=> λ⟨p,x,aD,aJ⟩=> ?_⟩⟩
  ·by_cases Z:p=o
   ·subst Z;rw[cx dm]at B;cases B;rcases F.iU p _ aB with⟨b,fI,w,A,D,ai,aT⟩|⟨A,D⟩
    ·exact .inl ⟨b,fI,w,A,D,ai,aS.kR aT⟩
    ·exact absurd D ar
   ·rw[a7 Z]at B;exact F.iU p x B
  ·obtain⟨aD,aJ⟩:=jb aQ;by_cases Z:p=o
   ·subst Z;rw[cx dm]at aD;have:ds=[]:=(by simpa using aD);exact absurd this aV
   ·rw[a7 Z]at aD;exact F.maps p es (kB aD aJ)
  ·obtain⟨A,D⟩:=F.bZ b fI hb;refine⟨A,λp x ck B=> ?_⟩;by_cases Z:p=o
   ·subst Z;have:=D p _ ck aB;cases this
   ·rw[a7 Z]at B;exact D p x ck B
  ·by_cases Z:p=o
   ·subst Z;exact⟨p,_,aD,aB,rfl⟩
   ·rw[a7 Z]at aJ;exact⟨p,x,aD,aJ,cg⟩
  ·by_cases Z:p=o
   ·subst Z;exact⟨p,_,aD,aB⟩
   ·rw[a7 Z]at aJ;exact⟨p,x,aD,aJ⟩) h
end Go.DI
namespace Go.Proofs.YtmmkkggfmigppaaGreat
open Go Go.DI Go.Big Go.hR
theorem aHL{u:aG}(h:cE u)(A:1<=u.aZ.length)(p4:1<=u.aY.length){L:List (List Int)}{R:List Int}{ops:List xU}(Kx:ops.length<=500){n2 hx:Nat}{Q:cM->aC->H->Prop}{z:aC}{t:H}(d:hx≠n2)(ju:t.I n2=some ⟨oz u L R,true⟩)(hr:t.I hx=some ⟨[bm [],bm []],true⟩)
 (aU:z 1=wL ops) (bz:z 5=bH n2) (ca:z 7=bH hx) (bl:z 8=E 0) (bb: ∀K af,Q (.cH 0) K af):ec N (.loop EH) z t Q:=by
 have eW:=h.ok.fg;have ic:=h.ok.h2;have bG:=h.ok.hl;refine gR (ax:=NR u h A) (λi z t=>(∃ao ay,hg u (ao++ay)=true/\ao.length+ay.length<=i/\t.I hx=some ⟨[bm ao,bm ay],true⟩)/\t.I n2=some ⟨oz u L R,true⟩/\z 1=wL ops/\z 5=bH n2/\z 7=bH hx/\z 8=E i) ops.length ?_ ?_ 0 z t (gi _) ⟨⟨[],[],apK,by simp,hr⟩,ju,aU,bz,ca,bl⟩
 ·rintro i z t W ⟨⟨ao,ay,iR,di,hr⟩,ju,aU,bz,ca,bl⟩ bM a1;obtain⟨⟨yA,fg,Il⟩,B⟩: ∃x,ops[i]?=some x:=⟨_,c1 W⟩;have cS:ops[i]=(yA,fg,Il):=(cG.1 B).2;have bC:(i:Int)<ops.length:=(by omega);have br:=fz (n:=i) (by omega);have yB:=aM ju;have cl:=aM hr;have D5:ao.length+ay.length<=999:=(by omega);have z0:IntKind.i64.wrap ((u.aP.length:Int)+u.aY.length)=(u.aP.length:Int)+u.aY.length:=cY (by omega) (by omega);have hY:IntKind.i64.wrap ((u.aP.length:Int)+u.aY.length-1)=(u.aP.length:Int)+u.aY.length-1:=cY (by omega) (by omega);have nb:(u.aP.length:Int)+u.aY.length-1<=1000000:=(by omega);have Cn: ∀x,0<=iS x ((u.aP.length:Int)+u.aY.length-1)/\iS x ((u.aP.length:Int)+u.aY.length-1)<(u.aP.length:Int)+u.aY.length-1:= λx=>HX (by omega);have jA: ∀x,IntKind.i64.wrap (1+iS x ((u.aP.length:Int)+u.aY.length-1))=1+iS x ((u.aP.length:Int)+u.aY.length-1):= λx=>cY (by have:=Cn x;omega) (by have:=Cn x;omega);obtain⟨ik,lk⟩: ∃ik,ik=1+iS fg ((u.aP.length:Int)+u.aY.length-1):=⟨_,rfl⟩;have sS:IntKind.i64.wrap ik=ik:=(by rw[lk];exact jA fg);obtain⟨fY,gX⟩: ∃fY,fY=kx u R ao ay ik:=⟨_,rfl⟩;obtain⟨ez,GF⟩: ∃ez,ez=lr u R ao ay ik:=⟨_,rfl⟩;have ef:=apj (h:=h) (A:=A) (R:=R) (n:=ik) D5;have e2:=apk (h:=h) (A:=A) (R:=R) (n:=ik) D5;rw[<-gX]at ef;rw[<-GF]at e2;have q9:IntKind.i64.wrap ((ao.length:Int)+ay.length)=(ao.length:Int)+ay.length:=cY (by omega) (by omega);have qk:IntKind.i64.wrap ((ao.length:Int)+ay.length+1)=(ao.length:Int)+ay.length+1:=cY (by omega) (by omega);have v3:IntKind.i64.wrap ((ao.length:Int)+ay.length+1-2)=(ao.length:Int)+ay.length+1-2:=cY (by omega) (by omega)
  -- Jr a lA aHE aXl
  have kM: ∀(dw:Ge) (UJ zq:List Int),dw=km u R UJ zq->dw.2.2=0->dw.1.length+dw.2.1.length<=i+1-> ∀(K:aC) (af:H),af.I n2=some ⟨oz u L R,true⟩->af.I hx=some ⟨[bm ao,bm ay],true⟩->af.I (t.next+10)=some ⟨[bm dw.1,bm dw.2.1],true⟩->K 1=wL ops->K 5=bH n2->K 7=bH hx->K 8=E i->K 10=bH (t.next+10)->
   ix (NR u h A) HL K af (zt 1 (CX (NR u h A) (.kl [⟨0,some 31,none,.hs (.tmp 8),[]⟩,⟨1,some 32,none,.nY .add .sC (.tmp 31) (.const (.int .i64 1)),[]⟩,⟨2,some 8,none,.hs (.tmp 32),[]⟩]) (rM bM Q))):= λdw UJ zq ch aQ GG K af k6 oi mz bj nL IM NV pQ=>by
   rw[ch]at aQ;obtain⟨_,aD,aJ,cg,_⟩:=Io h.ok aQ;rw[<-ch]at aD aJ cg;obtain⟨ek,gm,_⟩:=aoL (P:=gh u R) (λa b F Z=>aob h.ok a b F Z) UJ zq;rw[<-aD]at ek gm;rw[<-aJ]at gm;refine aHM h A (L:=L) (R:=R) (ao:=dw.1) (ay:=dw.2.1) (by omega) cg ek gm k6 mz oi ⟨d,by omega⟩ nL IM pQ λc6 eC bK cz dV kj xk Ak=> ?_;have IX:=Ak.trans NV;simp(disch:=first|omega|simp only[DI.aK];omega) [IX,br];exact a1 _ _ ⟨⟨dw.1,dw.2.1,cg,by omega,cz⟩,bK,by simp[dV,bj],by simp[kj,nL],by simp[xk,IM],by simp⟩
  have awc:(ao++ay).Nodup:=(by unfold hg at iR;rw[a6,ey]at iR;exact iR.2);by_cases cR:yA=2
  ·subst cR;by_cases j9:ez.2.2=0
   ·have JC:=j9;rw[GF]at JC;obtain⟨aE,a2,cj⟩:=aqy h.ok JC;obtain⟨_,_,_,dy,fB⟩:=Io h.ok a2;rw[<-aE,<-GF]at dy fB;have fb:=aCo awc cj;have WI:(ez.1++ez.2.1).length<=1000000:=(by simp;omega);have ja:(ez.1.length:Int)+ez.2.1.length=(ao.length:Int)+ay.length+1-2:=(by omega);simp(disch:=first|omega|simp only[DI.aK];omega) [EH,Sx,aU,bz,ca,bl,ju,hr,bC,cS,z0,hY,sS,<-lk,ef,e2,j9,il,qB,q9,qk,v3,dy,ja,-an,-au,-ak,-aq,-List.map_map];refine kM ez (fo ao ik) (fo ay ik) (by rw[GF,aE]) j9 (by omega) _ _ ?_ ?_ ?_ (by simp[aU]) (by simp[bz]) (by simp[ca]) (by simp[bl]) (by simp)
    ·simp(disch:=omega) [ju]
    ·simp(disch:=omega) [hr]
    ·simp(disch:=first|omega|simp only[DI.aK];omega)
   ·simp(disch:=first|omega|simp only[DI.aK];omega) [EH,aU,bz,ca,bl,ju,hr,bC,br,cS,z0,hY,sS,<-lk,ef,e2,j9,il,qB,-an,-au,-ak,-aq,-List.map_map];refine a1 _ _ ⟨⟨ao,ay,iR,by omega,?_⟩,?_,by simp[aU],by simp[bz],by simp[ca],by simp⟩
    ·simp(disch:=omega) [hr]
    ·simp(disch:=first|omega|simp only[DI.aK];omega) [ju]
  ·by_cases j9:fY.2.2=0
   ·have JC:=j9;rw[gX]at JC;obtain⟨aE,a2,cj⟩:=apn h.ok JC;obtain⟨_,_,_,dy,fB⟩:=Io h.ok a2;rw[<-aE,<-gX]at dy fB;have WI:(fY.1++fY.2.1).length<=1000000:=(by simp at fB⊢;omega);have ja:(fY.1.length:Int)+fY.2.1.length=(ao.length:Int)+ay.length+1:=(by simp at fB;omega);simp(disch:=first|omega|simp only[DI.aK];omega) [EH,Sx,aU,bz,ca,bl,ju,hr,bC,cS,z0,hY,sS,<-lk,ef,cR,j9,il,qB,q9,qk,dy,ja,-an,-au,-ak,-aq,-List.map_map];refine kM fY ao (ay++[ik]) (by rw[gX,aE]) j9 (by simp at fB;omega) _ _ ?_ ?_ ?_ (by simp[aU]) (by simp[bz]) (by simp[ca]) (by simp[bl]) (by simp)
    ·simp(disch:=omega) [ju]
    ·simp(disch:=omega) [hr]
    ·simp(disch:=first|omega|simp only[DI.aK];omega)
   ·simp(disch:=first|omega|simp only[DI.aK];omega) [EH,aU,bz,ca,bl,ju,hr,bC,br,cS,z0,hY,sS,<-lk,ef,cR,j9,il,qB,-an,-au,-ak,-aq,-List.map_map];refine a1 _ _ ⟨⟨ao,ay,iR,by omega,?_⟩,?_,by simp[aU],by simp[bz],by simp[ca],by simp⟩
    ·simp(disch:=omega) [hr]
    ·simp(disch:=omega) [ju]
 ·rintro z t ⟨_,ju,aU,bz,ca,bl⟩;simp[EH,Sx,HL,Sv,Sw,aU,bl];exact bb _ _
theorem atB{l:List Int}(az:l.length<=140737488355328){ops:List xU}:bP N 9 [bm l,wL ops] (.bool true):=by
 obtain⟨u,L,R,ap4,bt,er,eO,b6,cR,g8,MJ⟩:=aas az;have a5:=Ta bt (by decide);refine du (c2 (ax:=⟨[Iu],[]⟩) aAc (by kernel_rfl) (by simp[Su]) ?_);by_cases fW:(12:Int)<ops.length
 ·simp[Su,Zl,fW]
 simp[Su,Zl,amc,fW];refine(MJ _).bD λv bj ⟨M,aH,_⟩=> ?_;subst M;have MA:=aM aH;have Ci:12<bj.next:=MA
 have aap:5<bj.next:=by omega
 have iQ:(aI u++[jO L,bm R]).length=9:=rfl;have Kl:gE [Value.int IntKind.i64 0,Value.slice none 0 0,Value.slice none 0 0,Value.slice none 0 0,Value.slice none 0 0,Value.slice none 0 0,Value.slice none 0 0,Value.slice none 0 0,Value.slice none 0 0] 0 (aI u++[jO L,bm R])=aI u++[jO L,bm R]:=by simp[gE,aI]
 simp(disch:=first|omega|simp only[DI.aK];omega) [iQ,Kl,-an,-au,-ak,-aq,-List.map_map];have fB:(bj.aO 5 (some ⟨aI u++[jO L,bm R],true⟩)).I 5=some ⟨oz u L R,true⟩:=by rw[cx aap];rfl
 generalize bj.aO 5 _=eC at fB⊢;have EW:=aM fB;simp(disch:=first|omega|simp only[DI.aK];omega) [amd,-an,-au,-ak,-aq,-List.map_map];have ba:eC.next+1<((eC.b0 3).aO (eC.next+1) (some (eM.mk [Value.slice none 0 0,Value.slice none 0 0] true))).next:=by simp
 refine aIE (o:=eC.next+1) (cx (by simp)) (by simp) (ds:=[bm [],bm []]) ⟨.nil,.nil,trivial⟩ ?_;refine aHL a5 bt.j4.1 bt.h2.1 (L:=L) (R:=R) (ops:=ops) (by omega) (n2:=5) (hx:=eC.next+1) (by omega) ?_ (cx ba) (by simp) (by simp) (by simp) (by simp) λK af=> ?_
 ·rw[a7 (by omega),a7 (by omega),cJ EW];exact fB
 ·simp[amb]
theorem aty(m:H)(dp:List Value)(h:xQ m [tH,H8] dp):ep N 9 dp m λr _=>r= .bool true:=by
 refine aai (λts ba=> ?_) m dp h;cases ba with
 | @cons _ d _ vs ok F=>
   cases F with
   | @cons _ lB _ y7 Tn mM=>cases mM;rw[SM,anW];exact atB (HP ok)
end Go.Proofs.YtmmkkggfmigppaaGreat
namespace Go.Proofs.YtmmkkggfmigppaaGreat.drainTogetherDone
open Go.ChangeShapes Go.WideShapes Go.ChangeAt Go.RowKit
section
theorem own:ownKnob Tryz.prog.godebug=none:=by kernel_rfl
theorem laidOut:laidOutB Tryz.prog=true:=by kernel_rfl
theorem mixed:Tryz.prog.follows .mixedOrders=true:=by kernel_rfl
set_option maxRecDepth 100000 in
theorem lifted(os:Os)(xI:os.Started)(gK:Type)(enc:TypeId×Value->gK):
 ReturnsInHanded {} Tryz.checked os 9 .any (Rows.drainTogetherSpec.pre6 enc Tryz.prog Tryz.f9 Rows.drainTogetherRow.domain false) (Rows.drainTogetherSpec.post enc Tryz.prog Tryz.f9 false true false false):=by
 refine returnsInHanded_of_change_sized (C:=Tryz.checked) own xI (by kernel_rfl) Tryz.func9
  (ChangeSpec.witness6 (enc:=enc) (C:=Tryz.checked) false ⟨#[],#[.slice none 0 0,.slice none 0 0],[]⟩ 8 (by kernel_rfl) (by kernel_rfl) (by kernel_rfl) (by kernel_rfl)) ?_
 intro ay base args ds hr OO BR qH ag3 KF _;have tz: ∀(j:Nat) t v,Tryz.f9.params[j]?=some t->args[j]?=some v->Value.okWide Tryz.prog ay .any base t v:=BR;have Kh:=qH;obtain⟨p,q,Bw,ch,rfl,Kr,eW⟩:=qH;have ye:hr=[]:=(trodVars_none ch).1;have nE: ∀n∈DataW.weightsEach Tryz.prog Tryz.f9.params.toList ds,n<=reachBytes:= λn ae=>by have j3:(DataW.weightsEach Tryz.prog (Tryz.f9.params.toList++Rows.drainTogetherSpec.plain.varTypes Tryz.prog) (ds++hr)).all (· <=reachBytes)=true:=KF;have:=dP.1 j3 n (by rw[ye];simpa[Rows.drainTogetherSpec,ChangeSpec.plain,DataSpec.varTypes]using ae);simpa using this
 have dG:DataW.TrodAll enc Tryz.prog ay 0 (λ_=>true) true Tryz.f9.params.toList args.toList ds p:=Bw;have vy:=Go.DI.aah (f:=9) (n:=12) mixed (ts:=Tryz.f9.params.toList) (mX:=[tH,H8]) (by kernel_rfl) (λj t v A D=>tz j t v (by simpa using A) D) dG nE (λm dp h=>aty m dp h);rw[Tryz.params9]at dG tz;obtain⟨v0,aqu,DA,afS,pb,bC,PN,rfl,rfl,bY,mT⟩:=trodAll_cons dG;obtain⟨q9,aqv,fW,zE,ef,a8,rfl,rfl,rfl,A,ek⟩:=trodAll_cons mT;obtain⟨rfl,rfl,rfl⟩:=trodAll_nil ek;obtain rfl:args= #[v0,q9]:=by cases args;simp_all
 obtain⟨rfl,rfl⟩:=trodVars_none ch;have MC: ∀x∈pb,x.block<ay.heap.size:=by obtain⟨m,ab⟩:=bY;exact DataW.trod_lt m _ _ _ ab
 have Ci: ∀x∈ef,x.block<ay.heap.size:=by obtain⟨m,ab⟩:=A;exact DataW.trod_lt m _ _ _ ab
 clear Bw BR;refine vy.mono λe mH ⟨aQ,tb⟩=> ?_;subst aQ;exact⟨_,rfl,_,_,_,[],_,[],Kh,trodAll_mk1 (shut_bool (by kernel_rfl) _),(trodAll_cons_mk (Below.trod laidOut (by kernel_rfl) (of_decide_eq_true (by kernel_rfl)) bY tb MC) (trodAll_cons_mk (Below.trod laidOut (by kernel_rfl) (of_decide_eq_true (by kernel_rfl)) A tb Ci) trodAll_mk0)),rfl,tb.frame _,λh=>by cases h⟩
set_option maxRecDepth 10000
theorem eg{a b:Bool}(h:a=true)(cn:b=true):(a&&b)=true:=by rw[h,cn];rfl
theorem L9:(Rows.drainTogetherRow.wf (OpenSpec.ofChange Rows.drainTogetherSpec))=true:=by kernel_rfl
theorem uL:(laidOutB Tryz.pinned.checked.prog)=true:=by kernel_rfl
theorem uM:(mapsRowed Tryz.pinned.checked.prog)=true:=by kernel_rfl
theorem xi:(Tryz.f9.params.all (Tryz.pinned.checked.prog.readableRec ·))=true:=by kernel_rfl
theorem Af:(namedTie Tryz.pinned.checked.prog Rows.drainTogetherRow.named Rows.drainTogetherSpec.vars)=true:=by kernel_rfl
theorem Ag:((Rows.drainTogetherRow.stops==[]))=true:=by kernel_rfl
theorem Ah:((Tryz.pinned.checked.prog.stops==[]))=true:=by kernel_rfl
theorem Ai:((Rows.drainTogetherRow.knobs==[]))=true:=by kernel_rfl
theorem ES:((Tryz.pinned.checked.prog.stopKnobs==[]))=true:=by kernel_rfl
theorem Aj:((Rows.drainTogetherRow.inPlace==Tryz.pinned.checked.prog.inPlace 9))=true:=by kernel_rfl
theorem Ma:((Rows.drainTogetherRow.unfollowed==Tryz.pinned.checked.prog.unfollowed 9))=true:=by kernel_rfl
theorem Mb:((Rows.drainTogetherRow.recurses==Tryz.pinned.checked.prog.recurses 9))=true:=by kernel_rfl
theorem Mc:((Rows.drainTogetherRow.named==Tryz.pinned.checked.prog.varsNamed 9))=true:=by kernel_rfl
theorem Md:((Rows.drainTogetherRow.maps==(Tryz.f9.params.toList++Rows.drainTogetherSpec.plain.varTypes Tryz.pinned.checked.prog).any (Tryz.pinned.checked.prog.mapsRec ·)))=true:=by kernel_rfl
theorem Me:((Rows.drainTogetherRow.ifaces==(Tryz.f9.params.toList++Rows.drainTogetherSpec.plain.varTypes Tryz.pinned.checked.prog).any (Tryz.pinned.checked.prog.ifacesRec ·)))=true:=by kernel_rfl
theorem Mf:((Rows.drainTogetherRow.mapsOut==Tryz.pinned.checked.prog.mapsAmong Tryz.f9.resultTypes.toList))=true:=by kernel_rfl
theorem Mg:((Rows.drainTogetherRow.loops==(Tryz.f9.params.toList++Rows.drainTogetherSpec.plain.varTypes Tryz.pinned.checked.prog).any (Tryz.pinned.checked.prog.loopsFrom ·)))=true:=by kernel_rfl
theorem Mh:((Rows.drainTogetherRow.wideKeys==(Tryz.f9.params.toList++Rows.drainTogetherSpec.plain.varTypes Tryz.pinned.checked.prog++Tryz.f9.resultTypes.toList).any (Tryz.pinned.checked.prog.wideKeysFrom ·)))=true:=by kernel_rfl
theorem Mi:(Rows.drainTogetherSpec.vars.all (Tryz.pinned.checked.prog.varReadable ·))=true:=by kernel_rfl
theorem Mj:(Tryz.f9.resultTypes.all (λt=>Tryz.pinned.checked.prog.readableRec t&&decide (t<Tryz.pinned.checked.prog.types.size)))=true:=by kernel_rfl
theorem Mk:((Rows.drainTogetherRow.ifacesOut==Tryz.f9.resultTypes.toList.any (Tryz.pinned.checked.prog.ifacesRec ·)))=true:=by kernel_rfl
theorem Ml:((Rows.drainTogetherRow.loopsOut==Tryz.f9.resultTypes.toList.any (Tryz.pinned.checked.prog.loopsFrom ·)))=true:=by kernel_rfl
theorem Mm:((Rows.drainTogetherRow.plainKeys==Tryz.pinned.checked.prog.plainKeys))=true:=by kernel_rfl
theorem Mn:(Rows.drainTogetherRow.shortTexts.isNone)=true:=by kernel_rfl
theorem Mo:(Tryz.pinned.checked.prog.stopsHeard)=true:=by kernel_rfl
theorem Mp:(Tryz.pinned.checked.prog.mayEnter)=true:=by kernel_rfl
theorem Mq:((Rows.drainTogetherRow.lifted==Tryz.pinned.checked.prog.liftsFinal))=true:=by kernel_rfl
theorem Mr:((Tryz.pinned.checked.prog.make==some Rows.drainTogetherRow.make))=true:=by kernel_rfl
theorem Ms:((Rows.drainTogetherRow.kinds==(if Rows.drainTogetherRow.domain.isEmpty then[]else Tryz.f9.params.toList.map λt=>match Tryz.pinned.checked.prog.underlying t with|some (.int k)=>some k|_=>none)))=true:=by kernel_rfl
theorem Mt:((Rows.drainTogetherRow.pinned==Rows.drainTogetherRow.pinnedBy))=true:=by kernel_rfl
theorem Mu:((Rows.drainTogetherRow.veiled==(Tryz.f9.params.toList++Rows.drainTogetherSpec.plain.varTypes Tryz.pinned.checked.prog++Tryz.f9.resultTypes.toList).any (Tryz.pinned.checked.prog.veiledRec ·)))=true:=by kernel_rfl
theorem Mv:(Rows.drainTogetherRow.veiledFits Tryz.pinned.checked.prog Tryz.f9.params.toList (Tryz.f9.params.toList++Rows.drainTogetherSpec.plain.varTypes Tryz.pinned.checked.prog++Tryz.f9.resultTypes.toList))=true:=by kernel_rfl
theorem Mw:joinedFacts Tryz.pinned.checked.prog 9 Tryz.f9 Rows.drainTogetherSpec Rows.drainTogetherRow=true:=(eg (eg (eg (eg (eg (eg (eg (eg (eg (eg (eg (eg (eg (eg (eg (eg (eg (eg (eg (eg (eg (eg (eg (eg (eg (eg (eg (eg (eg (eg (eg L9 uL) uM) xi) Af) Ag) Ah) Ai) ES) Aj) Ma) Mb) Mc) Md) Me) Mf) Mg) Mh) Mi) Mj) Mk) Ml) Mm) Mn) Mo) Mp) Mq) Mr) Ms) Mt) Mu) Mv)
theorem over:Rows.drainTogetherRow.holds Tryz.pinned (OpenSpec.ofChange Rows.drainTogetherSpec):=
 OpenClaim.holds_of_wide 9 Tryz.f9 rfl rfl rfl rfl rfl rfl rfl ⟨rfl,rfl,rfl,rfl,rfl⟩ rfl rfl rfl rfl rfl (by kernel_rfl) Tryz.func9 Mw
  (of_decide_eq_true (by kernel_rfl)) (by unfold Func.isWrapper;first|(rw[if_pos (by decide+kernel)];kernel_rfl)|(rw[if_neg (by decide+kernel)];exact⟨rfl,rfl⟩))
  (λos xI gK enc _=>lifted os xI gK enc)
theorem proved:Rows.DrainTogetherSaid:=over
#print axioms proved
end
end Go.Proofs.YtmmkkggfmigppaaGreat.drainTogetherDone
