/-
  A part of the proof of the statement, in texts that tools of ours (wip/shrink.py, irpack.py, relax.py, minify.py, join.py, lay.py) have shortened.
-/
import Derived.Test.YtmmkkggfmigppaaGreatZah
set_option linter.all false
set_option maxRecDepth 8000
set_option maxHeartbeats 16000000
namespace Go.Proofs.YtmmkkggfmigppaaGreat
open Go Go.DI
def KE:J:= .B (.block 1 (.B (.F [A 0 23 0,A 1 24 3,a2 2 25 (.sW (E 23) (E 24)),b7 3 26 232 [E 25],ht 4 27 26]) (.aV (E 27) (.B (.F [cu 0 2 false]) (.aI)) (.skip)))) (.F [A 0 21 3,da 1 22 21,A 2 3 22])
def Gj:J:= .B (.B (.F [A 0 17 3,A 1 18 0,a2 2 19 (.r1 (E 18)),dq 3 20 17 19]) (.aV (E 20) (.skip) (.bh 0))) KE
def Gi:J:= .B (.F [cu 0 2 true]) (.aI)
def Gh:J:= .B (.B (.F [ba 0 3 0]) (.block 0 (.loop Gj))) Gi
def Gg:J:= .B (.B (.F [A 0 4 0,c9 1 5 .eql (E 4) (.const (.string ⟨#[]⟩)),A 2 6 5,dG 3 7 6 0,cw 4 8 6 false (.r1 (E 7)),lB 5 9 6 8 16,cZ 6 10 6 9,A 7 11 10,dG 8 12 11 0,cw 9 13 11 false (.sW (E 12) (.const aP)),jD 10 14 11 231 13,iF 11 15 11 14,cZ 12 16 11 15]) (.aV (E 16) (.B (.F [cu 0 2 false]) (.aI)) (.skip))) Gh
def Ce:J:=
  .B (
  .F [
 cu 0 2 false]) Gg
def anb:bU:=⟨28,[.bL 2],Ce⟩
theorem anc:b3 al 179=some anb:=by kernel_rfl
theorem ahu{args:List Value}{m:W}{cd:Value->W->Prop}(h:args.length<=28):gd al 179 args m cd=hG al Ce (jl args) m (ra [.bL 2] cd):=si anc h
def KG:J:= .B (.block 1 (.B (.F [A 0 24 0,A 1 25 3,a2 2 26 (.sW (E 24) (E 25)),b7 3 27 238 [E 26],ht 4 28 27]) (.aV (E 28) (.B (.F [cu 0 2 false]) (.aI)) (.skip)))) (.F [A 0 22 3,da 1 23 22,A 2 3 23])
def Gp:J:= .B (.B (.F [A 0 18 3,A 1 19 0,a2 2 20 (.r1 (E 19)),dq 3 21 18 20]) (.aV (E 21) (.skip) (.bh 0))) KG
def Gn:J:= .B (.F [cu 0 2 true]) (.aI)
def Gm:J:= .B (.B (.F [ba 0 3 0]) (.block 0 (.loop Gp))) Gn
def Gl:J:= .B (.B (.F [A 0 4 0,a2 1 5 (.r1 (E 4)),lz 2 6 5 1,A 3 7 6,dG 4 8 7 0,cw 5 9 7 false (.r1 (E 8)),lB 6 10 7 9 16,cZ 7 11 7 10,A 8 12 11,dG 9 13 12 0,cw 10 14 12 false (.sW (E 13) (.const aP)),jD 11 15 12 237 14,iF 12 16 12 15,cZ 13 17 12 16]) (.aV (E 17) (.B (.F [cu 0 2 false]) (.aI)) (.skip))) Gm
def Cf:J:=
  .B (
  .F [
 cu 0 2 false]) Gl
def an6:bU:=⟨29,[.bL 2],Cf⟩
theorem an7:b3 al 188=some an6:=by kernel_rfl
theorem ahv{args:List Value}{m:W}{cd:Value->W->Prop}(h:args.length<=29):gd al 188 args m cd=hG al Cf (jl args) m (ra [.bL 2] cd):=si an7 h
def aaW:J:= .B (.F [A 0 3 0,c9 1 4 .geq (E 3) (.const (.int .u8 97)),A 2 5 4,e0 3 6 5 0,Ac 4 7 5 6 122,di 5 8 5 7,A 6 9 8,dG 7 10 9 0,cw 8 11 9 false (.fg .geq .gl (E 10) (.const (.int .u8 65))),dG 9 12 9 11,e0 10 13 12 0,Ac 11 14 12 13 90,cw 12 15 9 false (.pE (E 12) (E 14) (.const (.bool false))),cZ 13 16 9 15,A 14 2 16]) (.aI)
def Rj:J:=
  .B (
  .F [
 cu 0 2 false]) aaW
def ao2:bU:=⟨17,[.bL 2],Rj⟩
theorem ao3:b3 al 231=some ao2:=by kernel_rfl
theorem ahw{args:List Value}{m:W}{cd:Value->W->Prop}(h:args.length<=17):gd al 231 args m cd=hG al Rj (jl args) m (ra [.bL 2] cd):=si ao3 h
def Cu:J:= .B (.F [A 0 3 0,b7 1 4 231 [E 3],A 2 5 4,dG 3 6 5 0,jD 4 7 5 255 6,cZ 5 8 5 7,A 6 9 8,dG 7 10 9 0,cw 8 11 9 false (.fg .eql .gl (E 10) (.const (.int .u8 45))),cZ 9 12 9 11,A 10 13 12,dG 11 14 13 0,cw 12 15 13 false (.fg .eql .gl (E 14) (.const (.int .u8 46))),cZ 13 16 13 15,A 14 2 16]) (.aI)
def zI:J:=
  .B (
  .F [
 cu 0 2 false]) Cu
def ao4:bU:=⟨17,[.bL 2],zI⟩
theorem ao5:b3 al 232=some ao4:=by kernel_rfl
theorem ahx{args:List Value}{m:W}{cd:Value->W->Prop}(h:args.length<=17):gd al 232 args m cd=hG al zI (jl args) m (ra [.bL 2] cd):=si ao5 h
def aa0:J:= .B (.F [A 0 3 0,c9 1 4 .geq (E 3) (.const (.int .u8 97)),A 2 5 4,e0 3 6 5 0,Ac 4 7 5 6 122,di 5 8 5 7,A 6 9 8,dG 7 10 9 0,cw 8 11 9 false (.fg .geq .gl (E 10) (.const (.int .u8 65))),dG 9 12 9 11,e0 10 13 12 0,Ac 11 14 12 13 90,cw 12 15 9 false (.pE (E 12) (E 14) (.const (.bool false))),cZ 13 16 9 15,A 14 2 16]) (.aI)
def Rk:J:=
  .B (
  .F [
 cu 0 2 false]) aa0
def aph:bU:=⟨17,[.bL 2],Rk⟩
theorem api:b3 al 237=some aph:=by kernel_rfl
theorem ahy{args:List Value}{m:W}{cd:Value->W->Prop}(h:args.length<=17):gd al 237 args m cd=hG al Rk (jl args) m (ra [.bL 2] cd):=si api h
def Cv:J:= .B (.F [A 0 3 0,b7 1 4 237 [E 3],A 2 5 4,dG 3 6 5 0,jD 4 7 5 256 6,cZ 5 8 5 7,A 6 9 8,dG 7 10 9 0,cw 8 11 9 false (.fg .eql .gl (E 10) (.const (.int .u8 45))),cZ 9 12 9 11,A 10 13 12,dG 11 14 13 0,cw 12 15 13 false (.fg .eql .gl (E 14) (.const (.int .u8 46))),cZ 13 16 13 15,A 14 2 16]) (.aI)
def zJ:J:=
  .B (
  .F [
 cu 0 2 false]) Cv
def apj:bU:=⟨17,[.bL 2],zJ⟩
theorem apk:b3 al 238=some apj:=by kernel_rfl
theorem ahz{args:List Value}{m:W}{cd:Value->W->Prop}(h:args.length<=17):gd al 238 args m cd=hG al zJ (jl args) m (ra [.bL 2] cd):=si apk h
def abA:J:= .B (.F [A 0 3 0,c9 1 4 .geq (E 3) (.const (.int .u8 48)),A 2 5 4,e0 3 6 5 0,Ac 4 7 5 6 57,di 5 8 5 7,A 6 2 8]) (.aI)
def Rv:J:=
  .B (
  .F [
 cu 0 2 false]) abA
def aqm:bU:=⟨9,[.bL 2],Rv⟩
theorem aqn:b3 al 255=some aqm:=by kernel_rfl
theorem ahA{args:List Value}{m:W}{cd:Value->W->Prop}(h:args.length<=9):gd al 255 args m cd=hG al Rv (jl args) m (ra [.bL 2] cd):=si aqn h
def abB:J:= .B (.F [A 0 3 0,c9 1 4 .geq (E 3) (.const (.int .u8 48)),A 2 5 4,e0 3 6 5 0,Ac 4 7 5 6 57,di 5 8 5 7,A 6 2 8]) (.aI)
def Rw:J:=
  .B (
  .F [
 cu 0 2 false]) abB
def aqo:bU:=⟨9,[.bL 2],Rw⟩
theorem aqp:b3 al 256=some aqo:=by kernel_rfl
theorem ahB{args:List Value}{m:W}{cd:Value->W->Prop}(h:args.length<=9):gd al 256 args m cd=hG al Rw (jl args) m (ra [.bL 2] cd):=si aqp h
def n3(n:Int):Bool:=(decide (97<=n)&&decide (n<=122))||(decide (65<=n)&&decide (n<=90))
def s4(n:Int):Bool:=decide (48<=n)&&decide (n<=57)
def lO(n:Int):Bool:=n3 n||s4 n||decide (n=45)||decide (n=46)
def rb(p:Int->Bool)(T:ByteArray):Nat->Nat->Nat
  |0,_=>0
  |n+1,i=>if p (ry T i)=true then rb p T n (i+1)+1 else 0
def eJ(T:ByteArray):Prop:=0<T.size/\T.size<=16/\n3 (ry T 0)=true/\rb lO T T.size 0=T.size
open Classical in
noncomputable def ng(T:ByteArray):Bool:=decide (eJ T)
theorem At{T:ByteArray}(h:eJ T):ng T=true:=by simp[ng,h]
theorem ya{T:ByteArray}(h: ¬eJ T):ng T=false:=by simp[ng,h]
theorem Wg{T:ByteArray}(h:T.size=0):T=⟨#[]⟩:=by apply ByteArray.ext;exact Array.eq_empty_of_size_eq_zero h
theorem Ag(n:Int)(m:W)(cd:Value->W->Prop):gd al 231 [.int .u8 n] m cd=cd (.bool (n3 n)) m:=by refine(qD.yd ?_).wp;rw[ahw (by simp)];by_cases D:97<=n<;>by_cases H:n<=122<;>by_cases aq:65<=n<;>by_cases aE:n<=90<;>simp(disch:=first|omega|simp only[aW];omega) [Rj,aaW,n3,D,H,aq,aE]
theorem JA(n:Int)(m:W)(cd:Value->W->Prop):gd al 255 [.int .u8 n] m cd=cd (.bool (s4 n)) m:=by refine(qD.yd ?_).wp;rw[ahA (by simp)];by_cases D:48<=n<;>by_cases H:n<=57<;>simp(disch:=first|omega|simp only[aW];omega) [Rv,abA,s4,D,H]
theorem X2(n:Int)(m:W)(cd:Value->W->Prop):gd al 232 [.int .u8 n] m cd=cd (.bool (lO n)) m:=by
  refine(qD.yd ?_).wp;rw[ahx (by simp)];by_cases D:n3 n=true
  · simp(disch:=first|omega|simp only[aW];omega) [zI,Cu,Ag,lO,D]
  by_cases H:s4 n=true
  · simp(disch:=first|omega|simp only[aW];omega) [zI,Cu,Ag,JA,lO,D,H]
  by_cases aq:n=45
  · subst aq;simp(disch:=first|omega|simp only[aW];omega) [zI,Cu,Ag,JA,lO,n3,s4]
  by_cases aE:n=46
  · subst aE;simp(disch:=first|omega|simp only[aW];omega) [zI,Cu,Ag,JA,lO,n3,s4]
  simp(disch:=first|omega|simp only[aW];omega) [zI,Cu,Ag,JA,lO,D,H,aq,aE]
theorem ad2{T:ByteArray}(dh:T.size<=16){Q:du->aM->W->Prop}: ∀(r i:Nat) (m:W) (z:aM),i+r=T.size->z 0= .string T->z 3=Z i->
    (rb lO T r i=r-> ∀ae,Q (.bh 0) ae m)->(rb lO T r i≠r-> ∀ae,ae 2= .bool false->Q .aI ae m)->hG al (.loop Gj) z m Q
  | 0,i,m,z,ak,cX,dJ,a3,br=>by refine DV λcx bk=> ?_;have: ¬(i:Int)<T.size:=(by omega);simp(disch:=first|omega|simp only[aW];omega) [Gj,KE,q4,cX,dJ,this];exact a3 rfl _
  | r+1,i,m,z,ak,cX,dJ,a3,br=>by
    refine DV λcx bk=> ?_;have D:(i:Int)<T.size:=(by omega);have c3:=g3 (n:=i) (by omega);by_cases hb:lO (ry T i)=true
    · simp(disch:=first|omega|simp only[aW];omega) [Gj,KE,q4,X2,cX,dJ,D,hb,c3];refine bk _ _ (ad2 dh r (i+1) _ _ (by omega) (by simp[cX]) (by simp) (λh=>a3 (by simp[rb,hb,h])) (λh=>br (by simp[rb,hb];exact h)))
    · have fN:lO (ry T i)=false:=(by simpa using hb);simp(disch:=first|omega|simp only[aW];omega) [Gj,KE,q4,X2,cX,dJ,D,fN];exact br (by simp[rb,fN]) _ (by simp)
theorem avr(T:ByteArray)(m:W)(cd:Value->W->Prop):gd al 179 [.string T] m cd=cd (.bool (ng T)) m:=by
  refine(qD.yd ?_).wp;rw[ahu (by simp)];by_cases cR:T.size=0
  · have e:=Wg cR;have JQ:(T.size:Int)<1:=(by omega);have au: ¬eJ T:= λh=>by have:=h.1;omega
    simp(disch:=first|omega|simp only[aW];omega) [Ce,Gg,Gh,Gi,e];rw[<-e,ya au]
  · have e: ¬T=⟨#[]⟩:= λh=>cR (by rw[h];rfl);have JQ:(0:Int)<T.size:=(by omega);have JR: ¬(T.size:Int)<1:=(by omega);have ai:0<T.size:=(by omega);by_cases D:16<T.size
    · have jj:(16:Int)<T.size:=(by omega);have au: ¬eJ T:= λh=>by have:=h.2.1;omega
      simp(disch:=first|omega|simp only[aW];omega) [Ce,Gg,Gh,Gi,q4,e,jj,ya au]
    · have jj: ¬(16:Int)<T.size:=(by omega);by_cases H:n3 (ry T 0)=true
      · simp(disch:=first|omega|simp only[aW];omega) [Ce,Gg,Gh,Gi,q4,Ag,e,ai,jj,H];refine ad2 (T:=T) (by omega) T.size 0 _ _ (by omega) (by simp) (by simp) (λh ae=> ?_) (λh ae g=> ?_)
        · simp(disch:=first|omega|simp only[aW];omega) [At ⟨by omega,by omega,H,h⟩]
        · have au: ¬eJ T:= λbN=>h bN.2.2.2;simp(disch:=first|omega|simp only[aW];omega) [g,ya au]
      · have au: ¬eJ T:= λbN=>H bN.2.2.1;have sJ:n3 (ry T 0)=false:=(by simpa using H);simp(disch:=first|omega|simp only[aW];omega) [Ce,Gg,Gh,Gi,q4,Ag,e,ai,jj,sJ,ya au]
theorem AG(n:Int)(m:W)(cd:Value->W->Prop):gd al 237 [.int .u8 n] m cd=cd (.bool (n3 n)) m:=by refine(qD.yd ?_).wp;rw[ahy (by simp)];by_cases D:97<=n<;>by_cases H:n<=122<;>by_cases aq:65<=n<;>by_cases aE:n<=90<;>simp(disch:=first|omega|simp only[aW];omega) [Rk,aa0,n3,D,H,aq,aE]
theorem MW(n:Int)(m:W)(cd:Value->W->Prop):gd al 256 [.int .u8 n] m cd=cd (.bool (s4 n)) m:=by refine(qD.yd ?_).wp;rw[ahB (by simp)];by_cases D:48<=n<;>by_cases H:n<=57<;>simp(disch:=first|omega|simp only[aW];omega) [Rw,abB,s4,D,H]
theorem aeK(n:Int)(m:W)(cd:Value->W->Prop):gd al 238 [.int .u8 n] m cd=cd (.bool (lO n)) m:=by
  refine(qD.yd ?_).wp;rw[ahz (by simp)];by_cases D:n3 n=true
  · simp(disch:=first|omega|simp only[aW];omega) [zJ,Cv,AG,lO,D]
  by_cases H:s4 n=true
  · simp(disch:=first|omega|simp only[aW];omega) [zJ,Cv,AG,MW,lO,D,H]
  by_cases aq:n=45
  · subst aq;simp(disch:=first|omega|simp only[aW];omega) [zJ,Cv,AG,MW,lO,n3,s4]
  by_cases aE:n=46
  · subst aE;simp(disch:=first|omega|simp only[aW];omega) [zJ,Cv,AG,MW,lO,n3,s4]
  simp(disch:=first|omega|simp only[aW];omega) [zJ,Cv,AG,MW,lO,D,H,aq,aE]
theorem aeL{T:ByteArray}(dh:T.size<=16){Q:du->aM->W->Prop}: ∀(r i:Nat) (m:W) (z:aM),i+r=T.size->z 0= .string T->z 3=Z i->
    (rb lO T r i=r-> ∀ae,Q (.bh 0) ae m)->(rb lO T r i≠r-> ∀ae,ae 2= .bool false->Q .aI ae m)->hG al (.loop Gp) z m Q
  | 0,i,m,z,ak,cX,dJ,a3,br=>by refine DV λcx bk=> ?_;have: ¬(i:Int)<T.size:=(by omega);simp(disch:=first|omega|simp only[aW];omega) [Gp,KG,q4,cX,dJ,this];exact a3 rfl _
  | r+1,i,m,z,ak,cX,dJ,a3,br=>by
    refine DV λcx bk=> ?_;have D:(i:Int)<T.size:=(by omega);have c3:=g3 (n:=i) (by omega);by_cases hb:lO (ry T i)=true
    · simp(disch:=first|omega|simp only[aW];omega) [Gp,KG,q4,aeK,cX,dJ,D,hb,c3];refine bk _ _ (aeL dh r (i+1) _ _ (by omega) (by simp[cX]) (by simp) (λh=>a3 (by simp[rb,hb,h])) (λh=>br (by simp[rb,hb];exact h)))
    · have fN:lO (ry T i)=false:=(by simpa using hb);simp(disch:=first|omega|simp only[aW];omega) [Gp,KG,q4,aeK,cX,dJ,D,fN];exact br (by simp[rb,fN]) _ (by simp)
theorem aeM(T:ByteArray)(m:W)(cd:Value->W->Prop):gd al 188 [.string T] m cd=cd (.bool (ng T)) m:=by
  refine(qD.yd ?_).wp;rw[ahv (by simp)];by_cases cR:T.size=0
  · have e:=Wg cR;have JQ:(T.size:Int)<1:=(by omega);have au: ¬eJ T:= λh=>by have:=h.1;omega
    simp(disch:=first|omega|simp only[aW];omega) [Cf,Gl,Gm,Gn,q4,JQ,ya au]
  · have e: ¬T=⟨#[]⟩:= λh=>cR (by rw[h];rfl);have JQ:(0:Int)<T.size:=(by omega);have JR: ¬(T.size:Int)<1:=(by omega);have ai:0<T.size:=(by omega);by_cases D:16<T.size
    · have jj:(16:Int)<T.size:=(by omega);have au: ¬eJ T:= λh=>by have:=h.2.1;omega
      simp(disch:=first|omega|simp only[aW];omega) [Cf,Gl,Gm,Gn,q4,JR,jj,ya au]
    · have jj: ¬(16:Int)<T.size:=(by omega);by_cases H:n3 (ry T 0)=true
      · simp(disch:=first|omega|simp only[aW];omega) [Cf,Gl,Gm,Gn,q4,AG,JR,ai,jj,H];refine aeL (T:=T) (by omega) T.size 0 _ _ (by omega) (by simp) (by simp) (λh ae=> ?_) (λh ae g=> ?_)
        · simp(disch:=first|omega|simp only[aW];omega) [At ⟨by omega,by omega,H,h⟩]
        · have au: ¬eJ T:= λbN=>h bN.2.2.2;simp(disch:=first|omega|simp only[aW];omega) [g,ya au]
      · have au: ¬eJ T:= λbN=>H bN.2.2.1;have sJ:n3 (ry T 0)=false:=(by simpa using H);simp(disch:=first|omega|simp only[aW];omega) [Cf,Gl,Gm,Gn,q4,AG,JR,ai,jj,sJ,ya au]
end Go.Proofs.YtmmkkggfmigppaaGreat
namespace Go.Big
structure bS where
  jR:Bool
  a:List Int
  b:List Int
  deriving DecidableEq
structure eD where
  jR:Bool
  n:Int
  d:Int
  deriving DecidableEq
def eD.nil:eD:=⟨false,0,1⟩
def eD.ni:eD:=⟨false,1,1⟩
def eD.ok(_:eD):Bool:=true
def eD.small(_:eD):Bool:=true
def nJ(x y:eD):Int:=if x.n*y.d<y.n*x.d then-1 else if y.n*x.d<x.n*y.d then 1 else 0
def bS.bA(x:bS):eD:=⟨x.jR,x.a.headD 0,x.b.headD 0⟩
def Ik:List bS:=[⟨false,[],[1]⟩,⟨false,[1],[1]⟩,⟨false,[1],[2]⟩,⟨false,[1],[1000]⟩,⟨false,[30],[1]⟩]
def bS.cY(x:bS):Prop:=x∈Ik
theorem afb{x:eD}(_:x.small=true):x.ok=true:=rfl
theorem bS.g7{x:bS}(h:x.cY):0<=x.bA.n:=by
  have: ∀y∈Ik,0<=y.bA.n:=by decide
  exact this x h
theorem bS.avG{x:bS}(h:x.cY):0<=x.bA.n:=bS.g7 h
end Go.Big
namespace Go.Proofs.YtmmkkggfmigppaaGreat
open Go Go.DI Go.Big
abbrev bM(l:List Int):Value:=aw (l.map λd=>[eP d]) 1
theorem x6{c4 kF:Type}{f:c4->kF}(h: ∀x y,f x=f y->x=y): ∀{l de:List c4},l.map f=de.map f↔l=de
  |[],[]=>by simp
  |[],_::_=>by simp
  |_::_,[]=>by simp
  | x::l,y::de=>by simp only[ln,so,x6 h];exact⟨λ⟨a,b⟩=>⟨h _ _ a,b⟩,λ⟨a,b⟩=>⟨by rw[a],b⟩⟩
@[simp] theorem aGK{l de:List Int}:(l.map λd=>[eP d])=(de.map λd=>[eP d])↔l=de:=x6 λx y h=>by simpa using h
def dS(x:bS):List Value:=[.bool x.jR,bM x.a,bM x.b]
theorem awt{x y:bS}:dS x=dS y↔x=y:=by obtain⟨a,b,c⟩:=x;obtain⟨dF,ca,l1⟩:=y;simp[dS]
@[simp] theorem aH1{x:bS}:(dS x).length=3:=rfl
abbrev dw(x:bS):Value:= .agg (dS x).toArray
abbrev hz(l:List bS):Value:=aw (l.map dS) 3
@[simp] theorem aH2{l de:List bS}:l.map dS=de.map dS↔l=de:=x6 λx y h=>awt.1 h
theorem auJ{f:Nat}{ts:List Value}{r:Value}(h: ∀m e2,D5 m ts e2->gd al f e2 m λdV an=>IV m an/\IQ an r dV):bK al f ts r:=
  ayL λm e2 ax=>(h m e2 ax).b6 λdV an aH=>⟨⟨aH.1.next,aH.1.X⟩,aH.2⟩
theorem avq{T:ByteArray}:bK al 179 [.string T] (.bool (ng T)):=auJ λm e2 ax=>by obtain⟨v,rfl,h⟩:=ax.ni;rw[h.vJ,avr];exact⟨IV.refl m,.cy rfl⟩
open Go Go.DI
def LG:J:= .B (.F [A 0 73 3,aL 1 74 0 10,aA 2 75 74,x1 3 76 75,iC 4 77 1 16 73 76,A 5 3 77]) (.F [A 0 78 8,A 1 79 78,iE 2 80 79 4 10,me 3 81 79 112 80,di 4 82 79 81,A 5 8 82])
def LF:J:= .B (.block 1 (.B (.F [bH 0 71 4 67 69,b2 1 72 4 71,a2 2 10 (.dz [.string ⟨#[]⟩,aG,aG,aG]),b4 3 4 10 72]) LG)) (.F [da 0 83 69,A 1 69 83])
def G4:J:= .B (.aV (E 70) (.skip) (.bh 0)) LF
def CP:J:= .B (.F [dq 0 70 69 68]) G4
def CM:J:= .B (.F [A 0 91 4,aL 1 92 0 12,aA 2 93 92,x1 3 94 93,iC 4 95 1 16 91 94,A 5 4 95]) (.F [A 0 96 8,A 1 97 96,ea 2 98 97 1 12,ep 3 99 97 98,z9 4 100 97 110 99 16,di 5 101 97 100,A 6 102 101,ea 7 103 102 2 12,ep 8 104 102 103,z9 9 105 102 110 104 64,di 10 106 102 105,A 11 107 106,ea 12 108 107 3 12,ep 13 109 107 108,ea 14 110 107 1 1,ep 15 111 107 110,lA 16 112 107 111,q3 17 113 107 112,ux 18 114 107 110 109 113,di 19 115 107 114,A 20 8 115])
def CL:J:= .B (.block 3 (.B (.F [bH 0 89 4 85 87,b2 1 90 4 89,a2 2 12 (.dz [.string ⟨#[]⟩,aP,aP,aP]),b4 3 4 12 90]) CM)) (.F [da 0 116 87,A 1 87 116])
def zY:J:= .B (.aV (E 88) (.skip) (.bh 2)) CL
def xM:J:= .B (.F [dq 0 88 87 86]) zY
def acB:J:= .B (.block 5 (.B (.F [bH 0 123 7 119 121,b2 1 124 7 123,a2 2 14 (.dz [.string ⟨#[]⟩,aP,aP,aP,.bool false,aG,aG]),b4 3 7 14 124]) (.F [A 0 125 5,aL 1 126 0 14,aA 2 127 126,x1 3 128 127,iC 4 129 1 16 125 128,A 5 5 129]))) (.F [da 0 130 121,A 1 121 130])
def R0:J:= .B (.aV (E 122) (.skip) (.bh 4)) acB
def LH:J:= .B (.F [dq 0 122 121 120]) R0
def CO:J:= .B (.F [A 0 138 5,aL 1 139 0 16,aA 2 140 139,x1 3 141 140,iC 4 142 1 16 138 141,A 5 5 142]) (.F [A 0 143 8,A 1 144 143,ea 2 145 144 1 16,ep 3 146 144 145,ea 4 147 144 2 1,ep 5 148 144 147,lA 6 149 144 148,q3 7 150 144 149,ux 8 151 144 110 146 150,di 9 152 144 151,A 10 153 152,ea 11 154 153 2 16,ep 12 155 153 154,ea 13 156 153 3 1,ep 14 157 153 156,lA 15 158 153 157,q3 16 159 153 158,ux 17 160 153 110 155 159,di 18 161 153 160,A 19 162 161,ea 20 163 162 3 1,ep 21 164 162 163,ea 22 165 162 2 16,ep 23 166 162 165,pz 24 167 162 7 164 166,ea 25 168 162 1 167,ep 26 169 162 168,s5 27 170 162 169 4,di 28 171 162 170,A 29 8 171])
def CN:J:= .B (.block 7 (.B (.F [bH 0 136 3 132 134,b2 1 137 3 136,a2 2 16 (.dz [.string ⟨#[]⟩,aP,aP]),b4 3 3 16 137]) CO)) (.F [da 0 172 134,A 1 134 172])
def zX:J:= .B (.aV (E 135) (.skip) (.bh 6)) CN
def xN:J:= .B (.F [dq 0 135 134 133]) zX
def LB:J:= .B (.F [A 0 180 6,aL 1 181 0 18,aA 2 182 181,x1 3 183 182,iC 4 184 1 16 180 183,A 5 6 184]) (.F [A 0 185 8,A 1 186 185,iE 2 187 186 17 18,ea 3 188 186 2 1,ep 4 189 186 188,lA 5 190 186 189,cw 6 191 186 true (.dm 113 [E 187,E 190]),di 7 192 186 191,A 8 8 192])
def LA:J:= .B (.block 9 (.B (.F [bH 0 178 17 174 176,b2 1 179 17 178,a2 2 18 (.dz [.string ⟨#[]⟩,aP,aP,aP,aP,aP,aP,aP,aP,aG,aG,.bool false,aG,aG,.bool false,aG,aG]),b4 3 17 18 179]) LB)) (.F [da 0 193 176,A 1 176 193])
def G2:J:= .B (.aV (E 177) (.skip) (.bh 8)) LA
def CQ:J:= .B (.F [dq 0 177 176 175]) G2
def LD:J:= .B (.F [A 0 201 7,aL 1 202 0 20,aA 2 203 202,x1 3 204 203,iC 4 205 1 16 201 204,A 5 7 205]) (.F [A 0 206 8,A 1 207 206,ea 2 208 207 1 20,ep 3 209 207 208,ea 4 210 207 5 1,ep 5 211 207 210,lA 6 212 207 211,q3 7 213 207 212,ux 8 214 207 110 209 213,di 9 215 207 214,A 10 8 215])
def LC:J:= .B (.block 11 (.B (.F [bH 0 199 2 195 197,b2 1 200 2 199,a2 2 20 (.dz [.string ⟨#[]⟩,aP]),b4 3 2 20 200]) LD)) (.F [da 0 216 197,A 1 197 216])
def G3:J:= .B (.aV (E 198) (.skip) (.bh 10)) LC
def CR:J:= .B (.F [dq 0 198 197 196]) G3
def xL:J:= .B (.F [ba 0 2 0]) (.aI)
def xK:J:= .B (.B (.F [A 0 217 8,ht 1 218 217,A 2 219 218,dG 3 220 219 3,jD 4 221 219 114 220,iF 5 222 219 221,cZ 6 223 219 222,A 7 224 223,dG 8 225 224 4,jD 9 226 224 114 225,iF 10 227 224 226,cZ 11 228 224 227,A 12 229 228,dG 13 230 229 5,jD 14 231 229 114 230,iF 15 232 229 231,cZ 16 233 229 232,A 17 234 233,dG 18 235 234 6,jD 19 236 234 114 235,iF 20 237 234 236,cZ 21 238 234 237,A 22 239 238,dG 23 240 239 7,jD 24 241 239 114 240,iF 25 242 239 241,cZ 26 243 239 242]) (.aV (E 243) (.B (.F [ba 0 2 1]) (.aI)) (.skip))) xL
def acF:J:= .B (.B (.F [aL 0 194 6 1,aA 1 195 194,bO 2 196 195,ba 3 197 0]) (.block 10 (.loop CR))) xK
def acD:J:= .B (.B (.F [aL 0 173 5 1,aA 1 174 173,bO 2 175 174,ba 3 176 0]) (.block 8 (.loop CQ))) acF
def acC:J:= .B (.B (.F [aL 0 131 4 1,aA 1 132 131,bO 2 133 132,ba 3 134 0]) (.block 6 (.loop xN))) acD
def acA:J:= .B (.B (.F [aL 0 117 3 1,aA 1 118 117,a2 2 119 (.mQ 7 (E 118) (some (.const (.int .i64 1))) none),bO 3 120 119,ba 4 121 0]) (.block 4 (.loop LH))) acC
def acI:J:= .B (.B (.F [aL 0 84 2 1,aA 1 85 84,bO 2 86 85,ba 3 87 0]) (.block 2 (.loop xM))) acA
def acH:J:= .B (.B (.F [aL 0 66 1 1,aA 1 67 66,bO 2 68 67,ba 3 69 0]) (.block 0 (.loop CP))) acI
def acG:J:= .B (.F [cu 0 8 true]) acH
def acE:J:= .B (.F [eN 0 3,eN 1 4,eN 2 5,eN 3 6,eN 4 7]) acG
def uq:J:= .B (.B (.F [aL 0 21 0 1,aA 1 22 21,Aa 2 23 110 22 1 4,ht 3 24 23,A 4 25 24,ew 5 26 25 1 1,dZ 6 27 25 26,iM 7 28 25 27,lB 8 29 25 28 4,cZ 9 30 25 29,A 10 31 30,ew 11 32 31 2 1,dZ 12 33 31 32,iM 13 34 31 33,lB 14 35 31 34 4,cZ 15 36 31 35,A 16 37 36,ew 17 38 37 3 1,dZ 18 39 37 38,iM 19 40 37 39,lB 20 41 37 40 40,cZ 21 42 37 41,A 22 43 42,ew 23 44 43 4 1,dZ 24 45 43 44,iM 25 46 43 45,lB 26 47 43 46 24,cZ 27 48 43 47,A 28 49 48,ew 29 50 49 5 1,dZ 30 51 49 50,iM 31 52 49 51,lB 32 53 49 52 4,cZ 33 54 49 53,A 34 55 54,ew 35 56 55 6 1,dZ 36 57 55 56,iM 37 58 55 57,lB 38 59 55 58 12,cZ 39 60 55 59,A 40 61 60,mH 41 62 61 7 1,jD 42 63 61 111 62,iF 43 64 61 63,cZ 44 65 61 64]) (.aV (E 65) (.B (.F [ba 0 2 1]) (.aI)) (.skip))) acE
def uo:J:=
  .B (
  .F [
 dT 0 1 0,
 ba 1 2 0]) uq
def s0:bU:=⟨244,[.bL 2],uo⟩
theorem asg:b3 al 62=some s0:=by kernel_rfl
def Yl:J:= .B (.F [A 0 7 0,A 1 8 1,c9 2 9 .geq (E 7) (E 8),A 3 10 9,e0 4 11 10 0,e0 5 12 10 2,cw 6 13 10 true (.fg .leq .gl (E 11) (E 12)),di 7 14 10 13,A 8 6 14]) (.aI)
def Yk:J:=
  .B (
  .F [
 cu 0 6 false]) Yl
def Qg:bU:=⟨15,[.bL 6],Yk⟩
theorem akE:b3 al 110=some Qg:=by kernel_rfl
def vR:J:= .B (.F [aL 0 52 2 5,aA 1 53 52,A 2 54 4,b7 3 55 110 [E 53,.const aP,E 54],ht 4 56 55,A 5 57 56,ew 6 58 57 3 1,dZ 7 59 57 58,ew 8 60 57 2 5,dZ 9 61 57 60,py 10 62 57 7 59 61,ew 11 63 57 1 62,dZ 12 64 57 63,ew 13 65 57 1 5,dZ 14 66 57 65,cw 15 67 57 false (.fg .sub .gl (E 66) (.const (.int .i64 1))),vZ 16 68 57 64 67,cZ 17 69 57 68,A 18 70 69,ew 19 71 70 1 5,dZ 20 72 70 71,cw 21 73 70 false (.dm 110 [E 72,.const (.int .i64 1),.const (.int .i64 4)]),iF 22 74 70 73,cZ 23 75 70 74,A 24 76 75,ew 25 77 76 3 5,dZ 26 78 76 77,cw 27 79 76 false (.dm 110 [E 78,.const (.int .i64 1),.const (.int .i64 64)]),iF 28 80 76 79,cZ 29 81 76 80,A 30 82 81,ew 31 83 82 4 5,mH 32 84 82 3 83,jD 33 85 82 170 84,iF 34 86 82 85,cZ 35 87 82 86]) (.aV (E 87) (.B (.F [cu 0 2 false]) (.aI)) (.skip))
def vQ:J:= .B (.block 1 (.B (.F [A 0 49 47,bH 1 50 7 45 47,b2 2 51 7 50,a2 3 5 (.dz [.string ⟨#[]⟩,aP,aP,aP,.bool false,aG,aG]),A 4 4 49,b4 5 7 5 51]) vR)) (.F [da 0 88 47,A 1 47 88])
def vP:J:= .B (.aV (E 48) (.skip) (.bh 0)) vQ
def xD:J:= .B (.F [dq 0 48 47 46]) vP
def oF:J:= .B (.F [cu 0 2 true]) (.aI)
def vO:J:= .B (.B (.F [aL 0 43 3 1,aA 1 44 43,a2 2 45 (.mQ 7 (E 44) (some (.const (.int .i64 1))) none),bO 3 46 45,ba 4 47 0]) (.block 0 (.loop xD))) oF
def vN:J:= .B (.B (.F [aL 0 14 0 3,aA 1 15 14,c9 2 16 .neq (E 15) (.const (.string ⟨#[]⟩)),A 3 17 16,ew 4 18 17 1 3,dZ 5 19 17 18,C6 6 20 17 19,cZ 7 21 17 20,A 8 22 21,ew 9 23 22 2 3,dZ 10 24 22 23,cw 11 25 22 false (.fg .neq .gl (E 24) (.const (.int .i64 (-1)))),cZ 12 26 22 25,A 13 27 26,ew 14 28 27 3 3,dZ 15 29 27 28,C6 16 30 27 29,cZ 17 31 27 30,A 18 32 31,ew 19 33 32 4 3,mH 20 34 32 3 33,jD 21 35 32 170 34,iF 22 36 32 35,cZ 23 37 32 36,A 24 38 37,ew 25 39 38 4 3,mH 26 40 38 3 39,jD 27 41 38 171 40,cZ 28 42 38 41]) (.aV (E 42) (.B (.F [cu 0 2 false]) (.aI)) (.skip))) vO
def vM:J:= .B (.F [aL 0 10 3 1,aA 1 11 10,x0 2 12 7 11,b2 3 13 7 12,a2 4 3 (.dz [.string ⟨#[]⟩,aP,aP,aP,.bool false,aG,aG]),b4 5 7 3 13]) vN
def vL:J:= .B (.B (.F [aL 0 6 3 1,aA 1 7 6,bO 2 8 7,jC 3 9 8 0]) (.aV (E 9) (.B (.F [cu 0 2 false]) (.aI)) (.skip))) vM
def vK:J:=
  .B (
  .F [
 dT 0 1 0,
 cu 1 2 false]) vL
def um:bU:=⟨89,[.bL 2],vK⟩
theorem akF:b3 al 111=some um:=by kernel_rfl
def Ql:J:= .B (.F [A 0 52 5,bO 1 53 52,A 2 54 3,c9 3 55 .neq (E 53) (E 54),A 4 56 55,dG 5 57 56 5,cw 6 58 56 false (.dm 172 [E 57,.func 170]),iF 7 59 56 58,cZ 8 60 56 59,A 9 61 60,dG 10 62 61 5,dG 11 63 61 4,py 12 64 61 3 62 63,mH 13 65 61 3 64,jD 14 66 61 171 65,cZ 15 67 61 66]) (.aV (E 67) (.B (.F [cu 0 2 false]) (.aI)) (.skip))
def Qk:J:= .B (.block 1 (.B (.F [A 0 49 47,bH 1 50 1 45 47,aA 2 51 50,A 3 4 49,A 4 5 51]) Ql)) (.F [da 0 68 47,A 1 47 68])
def Qj:J:= .B (.aV (E 48) (.skip) (.bh 0)) Qk
def Qp:J:= .B (.F [dq 0 48 47 46]) Qj
def Qi:J:= .B (.F [A 0 85 7,jC 1 86 85 0,A 2 87 86,e0 3 88 87 10,s5 4 89 87 88 0,di 5 90 87 89,A 6 91 90,iE 7 92 91 4 1,me 8 93 91 176 92,di 9 94 91 93,A 10 2 94]) (.aI)
def Qo:J:= .B (.F [b2 0 80 3 6,b2 1 81 3 8,dr 2 82 175 80 81,A 3 79 82,cE 4 83 0 79,cE 5 84 1 79,A 6 10 83,A 7 11 84]) Qi
def Qn:J:= .B (.F [vX 0 76 174 1 1,A 1 75 76,cE 2 77 0 75,cE 3 78 1 75,a2 4 8 (.dz [.bool false,aG,aG]),b4 5 3 8 77,A 6 9 78]) Qo
def Qm:J:= .B (.F [aL 0 70 1 1,aA 1 71 70,b7 2 72 173 [E 71],A 3 69 72,cE 4 73 0 69,cE 5 74 1 69,a2 6 6 (.dz [.bool false,aG,aG]),b4 7 3 6 73,A 8 7 74]) Qn
def Yp:J:= .B (.B (.F [aL 0 44 2 1,aA 1 45 44,bO 2 46 45,ba 3 47 0]) (.block 0 (.loop Qp))) Qm
def Yo:J:= .B (.B (.F [A 0 15 3,Aa 1 16 110 15 1 4,ht 2 17 16,A 3 18 17,ew 4 19 18 3 1,dZ 5 20 18 19,iM 6 21 18 20,dG 7 22 18 3,vZ 8 23 18 21 22,cZ 9 24 18 23,A 10 25 24,ew 11 26 25 2 1,dZ 12 27 25 26,iM 13 28 25 27,dG 14 29 25 3,vZ 15 30 25 28 29,cZ 16 31 25 30,A 17 32 31,ew 18 33 32 1 1,dZ 19 34 32 33,cw 20 35 32 false (.dm 172 [E 34,.func 170]),iF 21 36 32 35,cZ 22 37 32 36,A 23 38 37,ew 24 39 38 3 1,dZ 25 40 38 39,cw 26 41 38 false (.dm 172 [E 40,.func 170]),iF 27 42 38 41,cZ 28 43 38 42]) (.aV (E 43) (.B (.F [cu 0 2 false]) (.aI)) (.skip))) Yp
def Yn:J:= .B (.F [aL 0 12 1 1,aA 1 13 12,bO 2 14 13,A 3 3 14]) Yo
def Ym:J:=
  .B (
  .F [
 dT 0 1 0,
 cu 1 2 false]) Yn
def Qh:bU:=⟨95,[.bL 2],Ym⟩
theorem akG:b3 al 112=some Qh:=by kernel_rfl
def B5:J:= .B (.B (.F [A 0 45 7,A 1 46 1,h6 2 47 46 1,b7 3 48 110 [E 45,.const aP,E 47],ht 4 49 48,A 5 50 49,dG 6 51 50 5,dG 7 52 50 7,py 8 53 50 1 51 52,dZ 9 54 50 53,cZ 10 55 50 54]) (.aV (E 55) (.B (.F [cu 0 4 false]) (.aI)) (.skip))) (.F [A 0 56 5,A 1 57 7,bH 2 58 1 56 57,pt 3 (.store 1 (E 58) (.const (.bool true)))])
def B4:J:= .B (.block 1 (.B (.F [bH 0 43 1 39 41,aA 1 44 43,A 2 7 44]) B5)) (.F [da 0 59 41,A 1 41 59])
def B3:J:= .B (.aV (E 42) (.skip) (.bh 0)) B4
def FO:J:= .B (.F [dq 0 42 41 40]) B3
def vS:J:= .B (.F [cu 0 4 true]) (.aI)
def FN:J:= .B (.B (.F [aL 0 38 9 2,aA 1 39 38,bO 2 40 39,ba 3 41 0]) (.block 0 (.loop FO))) vS
def FM:J:= .B (.F [A 0 36 1,Ab 1 37 36 36,A 2 5 37]) FN
def FL:J:= .B (.B (.F [aL 0 8 1 2,aA 1 9 8,aL 2 10 2 2,aA 3 11 10,aL 4 12 3 2,aA 5 13 12,aL 6 14 4 2,b2 7 15 5 14,b7 8 16 177 [E 9,E 11,E 13,E 15],ht 9 17 16,A 10 18 17,ew 11 19 18 9 2,dZ 12 20 18 19,iM 13 21 18 20,z8 14 22 18 21,cZ 15 23 18 22,A 16 24 23,ew 17 25 24 2 2,dZ 18 26 24 25,ew 19 27 24 10 2,dZ 20 28 24 27,ew 21 29 24 11 2,mH 22 30 24 3 29,ew 23 31 24 14 2,mH 24 32 24 3 31,cw 25 33 24 false (.dm 178 [E 26,E 28,E 30,E 32]),iF 26 34 24 33,cZ 27 35 24 34]) (.aV (E 35) (.B (.F [cu 0 4 false]) (.aI)) (.skip))) FM
def FK:J:=
  .B (
  .F [
 dT 0 2 0,
 cu 1 4 false]) FL
def B2:bU:=⟨60,[.bL 4],FK⟩
theorem akH:b3 al 113=some B2:=by kernel_rfl
def B8:J:= .B (.B (.F [A 0 13 5,b7 1 14 179 [E 13],ht 2 15 14,A 3 16 15,dG 4 17 16 3,dG 5 18 16 5,cw 6 19 16 false (.nd .str (.bool false) false (E 17) (E 18)),cZ 7 20 16 19]) (.aV (E 20) (.B (.F [cu 0 2 false]) (.aI)) (.skip))) (.F [A 0 21 3,A 1 22 5,pt 2 (.lR .str (E 21) (E 22) (.const (.bool true)))])
def B7:J:= .B (.block 1 (.B (.F [bH 0 11 1 7 9,aA 1 12 11,A 2 5 12]) B8)) (.F [da 0 23 9,A 1 9 23])
def B6:J:= .B (.aV (E 10) (.skip) (.bh 0)) B7
def FP:J:= .B (.F [dq 0 10 9 8]) B6
def B9:J:= .B (.F [cu 0 2 true]) (.aI)
def Ys:J:= .B (.B (.F [A 0 7 0,bO 1 8 7,ba 2 9 0]) (.block 0 (.loop FP))) B9
def Yr:J:= .B (.F [a2 0 6 (.nc),A 1 3 6]) Ys
def Yq:J:=
  .B (
  .F [
 cu 0 2 false]) Yr
def Qq:bU:=⟨24,[.bL 2],Yq⟩
theorem akI:b3 al 114=some Qq:=by kernel_rfl
def Zo:J:= .B (.F [A 0 10 4,jC 1 11 10 0,A 2 12 11,ea 3 13 12 0 3,ep 4 14 12 13,rZ 5 15 12 14,di 6 16 12 15,A 7 17 16,ea 8 18 17 1 3,ep 9 19 17 18,me 10 20 17 216 19,nD 11 21 17 20 32,di 12 22 17 21,A 13 23 22,ea 14 24 23 2 3,ep 15 25 23 24,me 16 26 23 216 25,nD 17 27 23 26 32,di 18 28 23 27,A 19 2 28]) (.aI)
def Zn:J:= .B (.F [b2 0 6 3 1,b7 1 7 215 [E 6],A 2 5 7,cE 3 8 0 5,cE 4 9 1 5,a2 5 3 (.dz [.bool false,aG,aG]),b4 6 3 3 8,A 7 4 9]) Zo
def Zl:J:=
  .B (
  .F [
 dT 0 1 0,
 cu 1 2 false]) Zn
def Ky:bU:=⟨29,[.bL 2],Zl⟩
theorem Zm:b3 al 170=some Ky:=by kernel_rfl
def Zr:J:= .B (.F [aL 0 3 1 1,aA 1 4 3,b7 2 5 216 [E 4],kO 3 6 5 0,A 4 2 6]) (.aI)
def Zp:J:=
  .B (
  .F [
 dT 0 1 0,
 cu 1 2 false]) Zr
def Kz:bU:=⟨7,[.bL 2],Zp⟩
theorem Zq:b3 al 171=some Kz:=by kernel_rfl
def F4:J:= .B (.F [A 0 13 1,b2 1 14 3 6,a2 2 15 (.iy (E 13) [E 14]),ht 3 16 15]) (.aV (E 16) (.B (.F [cu 0 4 false]) (.aI)) (.skip))
def F3:J:= .B (.block 1 (.B (.F [bH 0 11 3 7 9,b2 1 12 3 11,a2 2 6 (.dz [.bool false,aG,aG]),b4 3 3 6 12]) F4)) (.F [da 0 17 9,A 1 9 17])
def F2:J:= .B (.aV (E 10) (.skip) (.bh 0)) F3
def KA:J:= .B (.F [dq 0 10 9 8]) F2
def F5:J:= .B (.F [cu 0 4 true]) (.aI)
def Zt:J:= .B (.B (.F [A 0 7 0,bO 1 8 7,ba 2 9 0]) (.block 0 (.loop KA))) F5
def Zs:J:=
  .B (
  .F [
 cu 0 4 false]) Zt
def QO:bU:=⟨18,[.bL 4],Zs⟩
theorem amM:b3 al 172=some QO:=by kernel_rfl
def Gb:J:= .B (.block 5 (.B (.F [A 0 46 44,bH 1 47 3 42 44,b2 2 48 3 47,a2 3 7 (.dz [.bool false,aG,aG]),A 4 6 46,b4 5 3 7 48]) (.F [A 0 49 3,A 1 50 5,A 2 51 3,A 3 52 5,bH 4 53 1 51 52,aA 5 54 53,A 6 55 54,mH 7 56 55 3 7,jD 8 57 55 171 56,dG 9 58 55 57,e0 10 59 58 3,e0 11 60 58 6,pz 12 61 58 1 59 60,ep 13 62 58 61,cw 14 63 55 false (.pE (E 58) (E 62) (.const (.bool false))),cZ 15 64 55 63,bH 16 65 1 49 50,b4 17 1 65 64]))) (.F [da 0 66 44,A 1 44 66])
def Ga:J:= .B (.aV (E 45) (.skip) (.bh 4)) Gb
def Gc:J:= .B (.F [dq 0 45 44 43]) Ga
def F9:J:= .B (.F [aL 0 38 2 1,aA 1 39 38,A 2 40 5,bH 3 41 1 39 40,aA 4 42 41,bO 5 43 42,ba 6 44 0]) (.block 4 (.loop Gc))
def F8:J:= .B (.F [A 0 23 3,A 1 24 5,A 2 25 3,A 3 26 5,bH 4 27 1 25 26,aA 5 28 27,A 6 29 28,ew 7 30 29 3 1,dZ 8 31 29 30,dG 9 32 29 5,py 10 33 29 3 31 32,mH 11 34 29 3 33,jD 12 35 29 171 34,cZ 13 36 29 35,bH 14 37 1 23 24,b4 15 1 37 36]) F9
def F7:J:= .B (.block 3 (.B (.F [A 0 22 20,A 1 5 22]) F8)) (.F [da 0 67 20,A 1 20 67])
def F6:J:= .B (.aV (E 21) (.skip) (.bh 2)) F7
def Gd:J:= .B (.F [dq 0 21 20 19]) F6
def KC:J:= .B (.block 1 (.B (.F [A 0 18 3,bO 1 19 18,ba 2 20 0]) (.block 2 (.loop Gd)))) (.F [A 0 16 4,da 1 17 16,A 2 4 17])
def KD:J:= .B (.B (.F [A 0 12 4,A 1 13 3,bO 2 14 13,c9 3 15 .leq (E 12) (E 14)]) (.aV (E 15) (.skip) (.bh 0))) KC
def KB:J:= .B (.F [A 0 68 3,b7 1 69 225 [E 68,.func 226],A 2 2 69]) (.aI)
def Zz:J:= .B (.B (.F [ba 0 4 0]) (.block 0 (.loop KD))) KB
def Zy:J:= .B (.F [aL 0 8 3 1,aA 1 9 8,bO 2 10 9,Ab 3 11 10 10,A 4 3 11]) Zz
def Zx:J:=
  .B (
  .F [
 dT 0 1 0,
 cu 1 2 false]) Zy
def QP:bU:=⟨70,[.bL 2],Zx⟩
theorem am8:b3 al 176=some QP:=by kernel_rfl
def zF:J:= .B (.F [a2 0 37 (.oT 1 5 (E 7)),b7 1 38 227 [E 37,.func 228],A 2 8 38]) (.aI)
def zE:J:= .B (.B (.F [A 0 9 0,Aa 1 10 110 9 1 6,ht 2 11 10,A 3 12 11,dG 4 13 12 1,cw 5 14 12 false (.dm 110 [E 13,.const aP,.const (.int .i64 4)]),iF 6 15 12 14,cZ 7 16 12 15,A 8 17 16,dG 9 18 17 0,dG 10 19 17 1,cw 11 20 17 false (.fg .add .gl (E 18) (E 19)),lB 12 21 17 20 8,cZ 13 22 17 21,A 14 23 22,dG 15 24 23 2,dG 16 25 23 0,dG 17 26 23 0,dG 18 27 23 1,cw 19 28 23 false (.fg .add .gl (E 26) (E 27)),cw 20 29 23 false (.dm 110 [E 24,E 25,E 28]),iF 21 30 23 29,cZ 22 31 23 30,A 23 32 31,cw 24 33 32 false (.oD 1 5 (E 7) (.const aP)),dZ 25 34 32 33,C6 26 35 32 34,cZ 27 36 32 35]) (.aV (E 36) (.B (.F [cu 0 8 false]) (.aI)) (.skip))) zF
def zD:J:=
  .B (
  .F [
 dT 0 7 3,
 cu 1 8 false]) zE
def xG:bU:=⟨39,[.bL 8],zD⟩
theorem am9:b3 al 177=some xG:=by kernel_rfl
def Gf:J:= .B (.F [A 0 9 1,bO 1 10 9,A 2 11 0,a2 3 12 (.oJ true (E 11) [.const (.int .i64 1)]),c9 4 13 .eql (E 10) (E 12),A 5 14 13,e0 6 15 14 1,cw 7 16 14 true (.dm 172 [E 15,.func 229]),di 8 17 14 16,A 9 18 17,iE 10 19 18 3 6,me 11 20 18 170 19,di 12 21 18 20,A 13 22 21,iE 14 23 22 3 6,me 15 24 22 230 23,di 16 25 22 24,A 17 26 25,iE 18 27 26 3 7,me 19 28 26 170 27,di 20 29 26 28,A 21 8 29]) (.aI)
def Ge:J:=
  .B (
  .F [
 dT 0 6 2,
 dT 1 7 3,
 cu 2 8 false]) Gf
def Cd:bU:=⟨30,[.bL 8],Ge⟩
theorem ana:b3 al 178=some Cd:=by kernel_rfl
def K6:J:= .B (.F [A 0 13 1,A 1 14 6,a2 2 15 (.iy (E 13) [E 14]),ht 3 16 15]) (.aV (E 16) (.B (.F [cu 0 4 false]) (.aI)) (.skip))
def K5:J:= .B (.block 1 (.B (.F [bH 0 11 1 7 9,aA 1 12 11,A 2 6 12]) K6)) (.F [da 0 17 9,A 1 9 17])
def K4:J:= .B (.aV (E 10) (.skip) (.bh 0)) K5
def Rd:J:= .B (.F [dq 0 10 9 8]) K4
def K7:J:= .B (.F [cu 0 4 true]) (.aI)
def aaH:J:= .B (.B (.F [A 0 7 0,bO 1 8 7,ba 2 9 0]) (.block 0 (.loop Rd))) K7
def aaG:J:=
  .B (
  .F [
 cu 0 4 false]) aaH
def Rc:bU:=⟨18,[.bL 4],aaG⟩
theorem aoR:b3 al 225=some Rc:=by kernel_rfl
def aaJ:J:= .B (.F [A 0 3 0,A 1 2 3]) (.aI)
def aaI:J:=
  .B (
  .F [
 cu 0 2 false]) aaJ
def Re:bU:=⟨4,[.bL 2],aaI⟩
theorem aoS:b3 al 226=some Re:=by kernel_rfl
def GF:J:= .B (.F [A 0 13 1,A 1 14 6,a2 2 15 (.iy (E 13) [E 14]),ht 3 16 15]) (.aV (E 16) (.B (.F [cu 0 4 false]) (.aI)) (.skip))
def GD:J:= .B (.block 1 (.B (.F [bH 0 11 1 7 9,aA 1 12 11,A 2 6 12]) GF)) (.F [da 0 17 9,A 1 9 17])
def GC:J:= .B (.aV (E 10) (.skip) (.bh 0)) GD
def K8:J:= .B (.F [dq 0 10 9 8]) GC
def GG:J:= .B (.F [cu 0 4 true]) (.aI)
def aaL:J:= .B (.B (.F [A 0 7 0,bO 1 8 7,ba 2 9 0]) (.block 0 (.loop K8))) GG
def aaK:J:=
  .B (
  .F [
 cu 0 4 false]) aaL
def Rf:bU:=⟨18,[.bL 4],aaK⟩
theorem aoT:b3 al 227=some Rf:=by kernel_rfl
def aaN:J:= .B (.F [A 0 3 0,Aa 1 4 110 3 0 8,A 2 2 4]) (.aI)
def aaM:J:=
  .B (
  .F [
 cu 0 2 false]) aaN
def Rg:bU:=⟨5,[.bL 2],aaM⟩
theorem aoU:b3 al 228=some Rg:=by kernel_rfl
def aaP:J:= .B (.F [b2 0 3 3 1,b7 1 4 170 [E 3],A 2 5 4,iE 3 6 5 3 1,me 4 7 5 171 6,di 5 8 5 7,A 6 2 8]) (.aI)
def aaO:J:=
  .B (
  .F [
 dT 0 1 0,
 cu 1 2 false]) aaP
def Rh:bU:=⟨9,[.bL 2],aaO⟩
theorem aoV:b3 al 229=some Rh:=by kernel_rfl
def ao1:J:= .B (.F [A 0 17 6,jC 1 18 17 0,A 2 19 18,e0 3 20 19 5,nD 4 21 19 20 0,di 5 22 19 21,A 6 2 22]) (.aI)
def ao0:J:= .B (.F [b2 0 12 3 1,b2 1 13 3 3,dr 2 14 175 12 13,A 3 11 14,cE 4 15 0 11,cE 5 16 1 11,A 6 5 15,A 7 6 16]) ao1
def aoZ:J:= .B (.F [vX 0 8 174 1 1,A 1 7 8,cE 2 9 0 7,cE 3 10 1 7,a2 4 3 (.dz [.bool false,aG,aG]),b4 5 3 3 9,A 6 4 10]) ao0
def aoX:J:=
  .B (
  .F [
 dT 0 1 0,
 cu 1 2 false]) aoZ
def aaV:bU:=⟨23,[.bL 2],aoX⟩
theorem aoY:b3 al 230=some aaV:=by kernel_rfl
theorem aeD{l:List bS}: ∀r∈l.map dS,r.length=3/\ ∀v∈r,gN v=true:= λr az=>by obtain⟨x,_,rfl⟩:=g4.1 az;exact⟨rfl,λv ad=>by simp[dS]at ad;rcases ad with rfl|rfl|rfl<;>rfl⟩
theorem awu{l:List bS}:(l.map dS).flatten.length=l.length*3:=by rw[rG (I:=3) λr az=>(aeD r az).1,jg]
end Go.Proofs.YtmmkkggfmigppaaGreat
namespace Go.Big
structure hX where
  name:ByteArray
  s:List bS
  cl:List (List bS)
  e:List bS
  deriving DecidableEq
def hX.cY(x:hX):Prop:= ∃I,2<=I/\I<200/\x.s=[⟨false,[1],[1]⟩]/\x.cl=[[⟨false,[],[1]⟩]]/\x.e=[⟨false,[1],[I]⟩]
def hX.mi(_:hX):Bool:=true
end Go.Big
namespace Go.Proofs.YtmmkkggfmigppaaGreat
open Go Go.DI Go.Big
abbrev Wh(l:List (List bS)):Value:=aw (l.map λr=>[hz r]) 1
def gZ(x:hX):List Value:=[.string x.name,hz x.s,Wh x.cl,hz x.e]
@[simp] theorem aEi{l de:List (List bS)}:(l.map λr=>[hz r])=(de.map λr=>[hz r])↔l=de:=x6 λx y h=>by simpa using h
abbrev yx(x:hX):Value:= .agg (gZ x).toArray
theorem mS{c4:Type}{l:List c4}{i:Nat}{x:c4}(h:l[i]?=some x):l.take (i+1)=l.take i++[x]:=by rw[u3,h];rfl
end Go.Proofs.YtmmkkggfmigppaaGreat
namespace Go.Big
def dE(a b c:Int):Bool:=decide (b<=a)&&decide (a<=c)
end Go.Big
namespace Go.Proofs.YtmmkkggfmigppaaGreat
open Go Go.DI Go.Big
theorem akw{a b c:Int}:bK al 110 [Z a,Z b,Z c] (.bool (dE a b c)):=by refine et (dM (aB:=⟨[],[]⟩) akE (by kernel_rfl) (by simp[Qg]) ?_);by_cases h:b<=a<;>simp(disch:=first|omega|simp only[aW];omega) [Qg,Yk,Yl,h,dE,-O,-U,-N,-S,-List.map_map]
noncomputable def rg:bE al:= .dR 110 (Int×Int×Int) (λ⟨a,b,c⟩=>True) (λ⟨a,b,c⟩=>[Z a,Z b,Z c]) (λ⟨a,b,c⟩=> .bool (dE a b c)) (λ⟨a,b,c⟩ h=>akw)
@[simp] theorem aI0:rg.f=110:=rfl
@[simp] theorem aI1{a:Int}{b:Int}{c:Int}:rg.fn ([Z a,Z b,Z c])=some (.bool (dE a b c)):=bE.eH (x:=(a,b,c)) trivial λy ag=>by obtain⟨og,kD,tD⟩:=y;simpa using ag
theorem yy{x:bS}{n:Bool}{a b:List Int}(h:[dw x]=[.agg #[.bool n,bM a,bM b]]):x=⟨n,a,b⟩:=by obtain⟨g0,dF,ca⟩:=x;simpa[dS]using h
noncomputable def Tu(u:Nat)(l:List bS)(p:bS->Bool)(ai: ∀x∈l,bK al u [dw x] (.bool (p x))):bE al:= .dR u bS (λx=>x∈l) (λx=>[dw x]) (λx=> .bool (p x)) ai
@[simp] theorem aIS{u:Nat}{l:List bS}{p:bS->Bool}{ai: ∀x∈l,bK al u [dw x] (.bool (p x))}:(Tu u l p ai).f=u:=rfl
@[simp] theorem aIT{u:Nat}{l:List bS}{p:bS->Bool}{ai: ∀x∈l,bK al u [dw x] (.bool (p x))}{n:Bool}{a b:List Int}(h:bS.mk n a b∈l):(Tu u l p ai).fn [.agg #[.bool n,bM a,bM b]]=some (.bool (p ⟨n,a,b⟩)):=
  bE.eH (x:=bS.mk n a b) h λy ag=>yy ag
theorem Vh{u:Nat}{l:List bS}{p:bS->Bool}(au:l.length<1000000)(ai: ∀x∈l,bK al u [dw x] (.bool (p x))):bK al 172 [hz l,.func (.func u) #[] #[]] (.bool (l.all p)):=by
  refine et (dM (aB:=⟨[],[]⟩) amM (by kernel_rfl) (by simp[QO]) ?_);simp(disch:=first|omega|simp only[aW];omega) [QO,Zs,Zt,-O,-U,-N,-S,-List.map_map];refine h4 (aB:=⟨[Tu u l p ai],[]⟩) (λi z t=>(l.take i).all p=true/\z 1= .func (.func u) #[] #[]/\z 7=hz l/\z 8=Z l.length/\z 9=Z i) l.length ?_ ?_ 0 _ _ (hx _) ⟨by simp,by simp,by simp,by simp,by simp⟩
  · rintro i z t ak ⟨ax,bl,eV,b9,gD⟩ cx bk;have G:l[i]?=some l[i]:=dD ak;have av:l[i]∈l:=nv ak;have bZ:=g3 (n:=i) (by omega);have bY:(i:Int)<l.length:=(by omega);cases hb:p l[i]
    · simp(disch:=first|omega|simp only[aW];omega) [KA,F2,F3,F4,F5,bl,eV,b9,gD,bY,hb,dS,-O,-U,-N,-S,-List.map_map];exact⟨_,av,hb⟩
    · simp(disch:=first|omega|simp only[aW];omega) [KA,F2,F3,F4,F5,bl,eV,b9,gD,bY,bZ,hb,dS,-O,-U,-N,-S,-List.map_map];exact bk _ _ ⟨by rw[mS G,rr,ax];simp[hb],by simp[bl],by simp[eV],by simp[b9],by simp⟩
  · rintro z t ⟨ax,bl,eV,b9,gD⟩;rw[kj]at ax;simp(disch:=first|omega|simp only[aW];omega) [KA,F2,F3,F4,F5,b9,gD,F5,F2,F3,F4,-O,-U,-N,-S,-List.map_map];simpa using ax
end Go.Proofs.YtmmkkggfmigppaaGreat
namespace Go.DI
open Go Go.RowKit
theorem Jc{a b:Nat}(h:a≠b):Nat.beq a b=false:=by
  cases hb:Nat.beq a b with
  |false=>rfl
  |true=>exact absurd (Nat.eq_of_beq_eq_true hb) h
inductive fv(c4:Type) where
  |nil
  |kh (v:Option c4) (l r:fv c4)
section
variable {c4:Type}
def fv.X:fv c4->Nat->Option c4
  | .nil,_=>none
  | .kh v l r,k=>bif Nat.beq k 0 then v else bif Nat.beq (k%2) 1 then l.X (k/2)else r.X (k/2-1)
def fv.set:Nat->fv c4->Nat->Option c4->fv c4
  |0,t,_,_=>t
  |n+1,.nil,k,x=>bif Nat.beq k 0 then .kh x .nil .nil else bif Nat.beq (k%2) 1 then .kh none (fv.set n .nil (k/2) x) .nil else .kh none .nil (fv.set n .nil (k/2-1) x)
  |n+1,.kh v l r,k,x=>bif Nat.beq k 0 then .kh x l r else bif Nat.beq (k%2) 1 then .kh v (fv.set n l (k/2) x) r else .kh v l (fv.set n r (k/2-1) x)
@[simp] theorem fv.aEj(k:Nat):(fv.nil:fv c4).X k=none:=rfl
theorem fv.y3{v:Option c4}{l r:fv c4}{k:Nat}:(fv.kh v l r).X k=if k=0 then v else if k%2=1 then l.X (k/2)else r.X (k/2-1):=by
  show(bif Nat.beq k 0 then _ else _)=_;by_cases h:k=0
  · simp[h]
  · have D:Nat.beq k 0=false:=Jc h;rw[D,if_neg h];show(bif Nat.beq (k%2) 1 then _ else _)=_;by_cases H:k%2=1
    · simp[H]
    · have aq:Nat.beq (k%2) 1=false:=Jc H;rw[aq,if_neg H];rfl
theorem fv.sI: ∀{n:Nat} {t:fv c4} {k:Nat} {x:Option c4} {j:Nat},k+1<2^n->(fv.set n t k x).X j=if j=k then x else t.X j
  |0,t,k,x,j,h=>by simp at h
  | n+1,t,k,x,j,h=>by
    have ai:2^(n+1)=2*2^n:=(by rw[Nat.pow_succ];omega);have bd: ∀(v:Option c4) (l r:fv c4),(if k=0 then fv.kh x l r else if k%2=1 then .kh v (fv.set n l (k/2) x) r else .kh v l (fv.set n r (k/2-1) x)).X j=if j=k then x else(fv.kh v l r).X j:= λv l r=>by
      by_cases cR:k=0
      · subst cR;rw[if_pos rfl,fv.y3,fv.y3];by_cases b1:j=0
        · simp[b1]
        · simp[b1]
      · rw[if_neg cR];by_cases D:k%2=1
        · rw[if_pos D,fv.y3,fv.y3];by_cases b1:j=0
          · have:j≠k:=(by omega);simp[b1];omega
          · rw[if_neg b1,if_neg b1];by_cases m4:j%2=1
            · rw[if_pos m4,if_pos m4,fv.sI (by omega)];by_cases e:j=k
              · rw[if_pos e,if_pos (by omega)]
              · rw[if_neg e,if_neg (by omega)]
            · rw[if_neg m4,if_neg m4,if_neg (by omega)]
        · rw[if_neg D,fv.y3,fv.y3];by_cases b1:j=0
          · simp[b1];omega
          · rw[if_neg b1,if_neg b1];by_cases m4:j%2=1
            · rw[if_pos m4,if_pos m4,if_neg (by omega)]
            · rw[if_neg m4,if_neg m4,fv.sI (by omega)];by_cases e:j=k
              · rw[if_pos e,if_pos (by omega)]
              · rw[if_neg e,if_neg (by omega)]
    have V6: ∀{kF:Type} (a b c:kF),(bif Nat.beq k 0 then a else bif Nat.beq (k%2) 1 then b else c)=if k=0 then a else if k%2=1 then b else c:= λa b c=>by
      by_cases cR:k=0
      · simp[cR]
      · have D:Nat.beq k 0=false:=Jc cR;rw[D,if_neg cR];show(bif Nat.beq (k%2) 1 then _ else _)=_;by_cases H:k%2=1
        · simp[H]
        · have aq:Nat.beq (k%2) 1=false:=Jc H;rw[aq,if_neg H];rfl
    cases t with
    | nil=>
      show(bif Nat.beq k 0 then fv.kh x .nil .nil else bif Nat.beq (k%2) 1 then .kh none (fv.set n .nil (k/2) x) .nil else .kh none .nil (fv.set n .nil (k/2-1) x)).X j=_;rw[V6,bd none .nil .nil];by_cases e:j=k
      · rw[if_pos e,if_pos e]
      · rw[if_neg e,if_neg e,fv.y3];simp
    | kh v l r=>show(bif Nat.beq k 0 then fv.kh x l r else bif Nat.beq (k%2) 1 then .kh v (fv.set n l (k/2) x) r else .kh v l (fv.set n r (k/2-1) x)).X j=_;rw[V6,bd v l r]
end
abbrev ij:=fv Value
def kA(cG:ij):aM:= λk=>match cG.X k with|some v=>v|none=>undef
def Ae(k:Nat):Bool:=Nat.blt k 2000000
theorem x3{k:Nat}(h:Ae k=true):k+1<2^21:=by
  have:k<2000000:=by simpa[Ae,Nat.blt_eq]using h
  omega
def wq(cG:ij)(d:Option Nat)(v:Value):Option ij:=match d with
  |none=>some cG
  |some k=>if Ae k then some (fv.set 21 cG k (some v))else none
theorem TZ{cG kG:ij}{d:Option Nat}{v:Value}(h:wq cG d v=some kG):kA kG=c0 (kA cG) d v:=by
  unfold wq at h;cases d with
  |none=>cases h;rfl
  | some k=>
    simp only at h;split at h
    · next aa=>
      cases h;funext j;show(match(fv.set 21 cG k (some v)).X j with|some v=>v|none=>undef)=mm (kA cG) k v j;rw[fv.sI (x3 aa)];unfold mm;by_cases e:j=k
      · rw[if_pos e,if_pos e]
      · rw[if_neg e,if_neg e];rfl
    · cases h
def zy:List Value->Nat->ij->ij
  |[],_,cG=>cG
  |v::l,k,cG=>zy l (k+1) (fv.set 21 cG k (some v))
theorem X1: ∀{l:List Value} {k:Nat} {cG:ij} {j:Nat},k+l.length<1000000->(zy l k cG).X j=if k<=j/\j<k+l.length then l[j-k]? else cG.X j
  | [],k,cG,j,h=>by rw[if_neg λH=>by simp at H;omega];rfl
  | v::l,k,cG,j,h=>by
    simp only[pS]at h;show(zy l (k+1) (fv.set 21 cG k (some v))).X j=_;rw[X1 (by omega),fv.sI (by omega)];by_cases e:j=k
    · subst e;rw[if_neg (by omega),if_pos rfl,if_pos ⟨dW _,by simp⟩];simp
    · by_cases H:k+1<=j/\j<k+1+l.length
      · rw[if_pos H,if_pos (by simp;omega)];have:j-k=(j-(k+1))+1:=(by omega);rw[this,DY]
      · rw[if_neg H,if_neg e,if_neg (by simp;omega)]
theorem ayi{args:List Value}(h:args.length<1000000):kA (zy args 0 .nil)=jl args:=by
  funext j;show(match(zy args 0 .nil).X j with|some v=>v|none=>undef)=args.getD j undef;rw[X1 (by omega)];by_cases H:j<args.length
  · rw[if_pos ⟨hx _,by omega⟩];simp[dD H]
  · rw[if_neg (by omega)];simp[pP (by omega:args.length<=j)]
structure eF where
  next:Nat
  ix:fv fq
  mp:fv (List (Value×Value))
def cv(ah:eF):W:=⟨ah.next,λb=>ah.ix.X b,λb=>ah.mp.X b⟩
def Ed:eF:=⟨0,.nil,.nil⟩
def fG(ah:eF):Prop:= ∀i,ah.next<=i->ah.ix.X i=none
theorem adO:cv Ed=g6:=rfl
theorem afR:fG Ed:= λ_ _=>rfl
def Bs(ah:eF)(k:Nat):eF:=⟨ah.next+k,ah.ix,ah.mp⟩
theorem adP{ah:eF}(h:fG ah){k:Nat}:cv (Bs ah k)=(cv ah).dp k:=by
  unfold cv Bs W.dp;simp only[W.mk.injEq,and_true,true_and];funext i;by_cases ak:i<ah.next
  · rw[if_pos ak]
  · rw[if_neg ak];exact h i (by omega)
theorem afS{ah:eF}(h:fG ah){k:Nat}:fG (Bs ah k):= λi ak=>h i (by simp[Bs]at ak;omega)
def nK(ah:eF)(b:Nat)(x:Option fq):Option eF:=if Ae b&&Nat.blt b ah.next then some ⟨ah.next,fv.set 21 ah.ix b x,ah.mp⟩else none
theorem ye{ah cg:eF}{b:Nat}{x:Option fq}(aZ:fG ah)(h:nK ah b x=some cg):fG cg/\cv cg=(cv ah).a0 b x:=by
  unfold nK at h;split at h
  · next aa=>
    cases h;simp only[aY,Nat.blt_eq]at aa;refine⟨λi ak=> ?_,?_⟩
    · show(fv.set 21 ah.ix b x).X i=none;rw[fv.sI (x3 aa.1),if_neg (by simp at ak;omega)];exact aZ i ak
    · unfold cv W.a0;simp only[W.mk.injEq,and_true,true_and];funext i;rw[fv.sI (x3 aa.1)]
  · cases h
def MT(ah:eF)(b:Nat)(a9:List (Value×Value)):Option eF:=if Ae b&&Nat.blt b ah.next then some ⟨ah.next,fv.set 21 ah.ix b (some ⟨[],true⟩),fv.set 21 ah.mp b (some a9)⟩else none
theorem aey{ah cg:eF}{b:Nat}{a9:List (Value×Value)}(aZ:fG ah)(h:MT ah b a9=some cg):fG cg/\cv cg=(cv ah).gL b a9:=by
  unfold MT at h;split at h
  · next aa=>
    cases h;simp only[aY,Nat.blt_eq]at aa;refine⟨λi ak=> ?_,?_⟩
    · show(fv.set 21 ah.ix b (some ⟨[],true⟩)).X i=none;rw[fv.sI (x3 aa.1),if_neg (by simp at ak;omega)];exact aZ i ak
    · unfold cv W.gL;simp only[W.mk.injEq,true_and];refine⟨?_,?_⟩
      · funext i;rw[fv.sI (x3 aa.1)]
      · funext i;rw[fv.sI (x3 aa.1)]
  · cases h
def Am(k:af)(id:Nat)(z:aM)(ah:eF):Option eF:=
  match k with
  | .dz I=>nK ah id (some ⟨I,true⟩)
  | .l0 x=>nK ah id (some ⟨O (Y z x),true⟩)
  | .fR _ _ I ps=>nK ah id (some ⟨lE I z ps,true⟩)
  | .store _ x v=>(match Y z x with
    | .pointer (some a)=>(match ah.ix.X a.block with|some y=>nK ah a.block (some ⟨gy y.cells a.off (O (Y z v)),y.own⟩)|none=>none)
    |_=>none)
  | .ny x=>nK ah id (some ⟨wh (pZ (Y z x)),true⟩)
  | .jY _ _ zero l _=>nK ah id (some ⟨(List.replicate (eG (Y z l)).toNat zero).flatten,true⟩)
  | .lZ _ _ zero _ l=>nK ah id (some ⟨(List.replicate (eG (Y z l)).toNat zero).flatten,true⟩)
  | .hl zero x=>(match Y z x with
    | .slice none _ _=>some ah
    | .slice (some a) l _=>(match ah.ix.X a.block with|some y=>nK ah a.block (some ⟨gy y.cells a.off (List.replicate l zero).flatten,y.own⟩)|none=>none)
    |_=>none)
  | .app I _ x y=>if j3 (Y z y)=0 then some ah else(match Y z x with
    | .slice (some a) l _=>(match nK ah a.block none with
      |some cT=>nK cT id (some ⟨fZ (cv ah) I (Y z x)++k5 (cv ah) I (Y z y),true⟩)
      |none=>none)
    | .slice none _ _=>nK ah id (some ⟨k5 (cv ah) I (Y z y),true⟩)
    |_=>none)
  | .nc=>MT ah id []
  | .lR _ x k v=>MT ah (uC (Y z x)) (iZ (Y z k) (Y z v) (((cv ah).eK (uC (Y z x))).getD []))
  |_=>some ah
theorem adQ{ah:eF}{b:Nat}{x:fq}(aZ:fG ah)(h:ah.ix.X b=some x):(cv ah).X b=some x:=by
  have:b<ah.next:=Nat.lt_of_not_le λe=>by rw[aZ b e]at h;cases h
  show(if b<ah.next then ah.ix.X b else none)=_;rw[if_pos this,h]
theorem adD{k:af}{id:Nat}{z:aM}{ah cg:eF}(aZ:fG ah)(h:Am k id z ah=some cg):fG cg/\cv cg=k.mJ id z (cv ah):=by
  have key: ∀{b:Nat} {x:Option fq},nK ah b x=some cg->fG cg/\cv cg=(cv ah).a0 b x:= λh=>ye aZ h;cases k with
  |dz I=>exact key h
  |l0 x=>exact key h
  |fR a b I ps=>exact key h
  | store n x v=>
    simp only[Am]at h;show fG cg/\cv cg=nq (cv ah) (Y z x) (O (Y z v));split at h
    · next a G=>
      split at h
      · next y ag=>obtain⟨D,H⟩:=key h;refine⟨D,?_⟩;rw[H];unfold nq;rw[G];simp only[adQ aZ ag]
      · cases h
    · cases h
  |ny x=>exact key h
  |jY a b c d e=>exact key h
  |lZ a b c d e=>exact key h
  | hl zero x=>
    simp only[Am]at h;show fG cg/\cv cg=mv (cv ah) zero (Y z x);split at h
    · next l c G=>cases h;rw[G];exact⟨aZ,rfl⟩
    · next a l c G=>
      split at h
      · next y ag=>obtain⟨D,H⟩:=key h;refine⟨D,?_⟩;rw[H];unfold mv;rw[G];simp only[adQ aZ ag]
      · cases h
    · cases h
  | app I iI x y=>
    simp only[Am]at h;show fG cg/\cv cg=if j3 (Y z y)=0 then cv ah else(kf (cv ah) (Y z x)).a0 id (some ⟨fZ (cv ah) I (Y z x)++k5 (cv ah) I (Y z y),true⟩)
    split at h
    · next cR=>cases h;rw[if_pos cR];exact⟨aZ,rfl⟩
    · next cR=>
      rw[if_neg cR];split at h
      · next a l c G=>
        split at h
        · next cT D=>obtain⟨c3,aK⟩:=ye aZ D;obtain⟨e3,aR⟩:=ye c3 h;refine⟨e3,?_⟩;rw[aR,aK,G];rfl
        · cases h
      · next l c G=>obtain⟨e3,aR⟩:=ye aZ h;refine⟨e3,?_⟩;rw[aR,G];rfl
      · cases h
  |nc=>exact aey aZ h
  |lR a x k v=>exact aey aZ h
  |_=>cases h;exact⟨aZ,rfl⟩
abbrev lH:=Nat->List Value->eF->Option (Value×eF)
def Jw(ah:eF):List Nat->Option eF
  |[]=>some ah
  | o::l=>match nK ah o none with
    |some cT=>Jw cT l
    |none=>none
def Mk(ah cT:eF):List Nat->Option eF
  |[]=>some cT
  | o::l=>match nK cT o (ah.ix.X o)with
    |some fa=>Mk ah fa l
    |none=>none
def DD(ah:eF):List Nat->Option eF
  |[]=>some ah
  | o::l=>match ah.ix.X o with
    | some x=>(match nK ah o (some ⟨x.cells,false⟩)with
      |some cT=>DD cT l
      |none=>none)
    |none=>DD ah l
def yP(ah:eF):List Nat->Option eF
  |[]=>some ah
  | o::l=>match ah.mp.X o with
    |some _=>if Ae o then yP ⟨ah.next,ah.ix,fv.set 21 ah.mp o none⟩ l else none
    |none=>yP ah l
def AA(bG:lH)(f:Nat)(args:List Value)(ah:eF):Option (Value×eF):=match yZ 9 (cv ah) args with
  | some ts=>(match bG f ts Ed with
    | some (v,cT)=>(match dO 9 (cv cT) v with
      | some r=>if my r then(match yP ah (args.flatMap (ed 9 (cv ah)))with
          |some fa=>some (r,fa)
          |none=>none)
        else(match DD ah (args.flatMap (ed 9 (cv ah)))with
          |some fa=>some (r,fa)
          |none=>none)
      |none=>none)
    |none=>none)
  |none=>none
def sz(bG:lH)(f:Nat)(args:List Value)(ah:eF):List Nat->Option (Value×eF)
  |[]=>bG f args ah
  | L =>if L.all (λo=>match ah.ix.X o with|some x=> !x.cells.isEmpty|none=>false)then
      (match Jw ah L with
      | some vc=>(match bG f args vc with
        | some (r,cT)=>(match Mk ah cT L with
          |some fa=>some (r,fa)
          |none=>none)
        |none=>AA bG f args ah)
      |none=>none)
    else AA bG f args ah
def Ax(bG:lH)(base:Nat)(o:bp)(cG:ij)(ah:eF):Option (ij×eF):=
  let z:=kA cG
  let jc (x:Option (Value×eF)):Option (ij×eF):=match x with
    | some (r,cg)=>(match wq cG o.d r with
      |some kG=>some (kG,cg)
      |none=>none)
    |none=>none
  match o.k with
  | .dm f bz=>jc (sz bG f (bz.map (Y z)) ah (lf z (cv ah) o.a4))
  | .iy x bz=>(match Y z x with
    | .func (.func f) first l3=>jc (sz bG f (first.toList++bz.map (Y z)++l3.toList) ah (lf z (cv ah) o.a4))
    |_=>none)
  | .kv a8 x bz=>(match Y z x with
    | .iface t v=>(match a8.find? (λr=>r.1==t)with
      |some (_,f,none)=>jc (sz bG f (v::bz.map (Y z)) ah (lf z (cv ah) o.a4))
      |some (_,f,some (dd,n))=>if o8 (cv ah) v n&&(dd||decide (n=1))then jc (sz bG f (v9 (cv ah) dd n v::bz.map (Y z)) ah (lf z (cv ah) o.a4))else none
      |none=>none)
    |_=>none)
  | k=>if k.hW z (cv ah)&&hO z (cv ah) o.a4 then(match Am k (base+o.aN) z ah with
    |some cg=>jc (some (k.ic (base+o.aN) z (cv ah),cg))
    |none=>none)else none
def uF(bG:lH)(base:Nat):List bp->ij->eF->Option (ij×eF)
  |[],cG,ah=>some (cG,ah)
  | o ::bR,cG,ah=>if eA (kA cG) o.g then(match Ax bG base o cG ah with
      |some (kG,cg)=>uF bG base bR kG cg
      |none=>none)
    else(match wq cG o.d undef with
      |some kG=>uF bG base bR kG ah
      |none=>none)
def Dm(ops:List bp)(ah:eF):eF:=if ops.any (λo=>o.k.eW)then Bs ah ops.length else ah
def Mg(f:ij->eF->Option (du×ij×eF)):Nat->ij->eF->Option (du×ij×eF)
  |0,_,_=>none
  | n+1,cG,ah=>match f cG ah with
    |some (.er,kG,cg)=>Mg f n kG cg
    |r=>r
def p2(bG:lH)(n:Nat):J->ij->eF->Option (du×ij×eF)
  | .skip,cG,ah=>some (.er,cG,ah)
  | .F ops,cG,ah=>(match uF bG ah.next ops cG (Dm ops ah)with
    |some (kG,cg)=>some (.er,kG,cg)
    |none=>none)
  | .qh _ _ _,_,_=>none
  | .B a b,cG,ah=>(match p2 bG n a cG ah with
    |some (.er,kG,cg)=>p2 bG n b kG cg
    |r=>r)
  | .aV c a b,cG,ah=>(match Y (kA cG) c with
    | .bool true=>p2 bG n a cG ah
    | .bool false=>p2 bG n b cG ah
    |_=>none)
  | .block id c,cG,ah=>(match p2 bG n c cG ah with
    |some (.bh iB,kG,cg)=>if iB=id then some (.er,kG,cg)else some (.bh iB,kG,cg)
    |r=>r)
  | .loop c,cG,ah=>Mg (p2 bG n c) n cG ah
  | .bh id,cG,ah=>some (.bh id,cG,ah)
  | .aI,cG,ah=>some (.aI,cG,ah)
def JD(cl:List k3):Option (du×ij×eF)->Option (Value×eF)
  |some (.bh _,_,_)=>none
  |some (_,cG,ah)=>if kU (cv ah) (kA cG) cl then some (lj (cv ah) (kA cG) cl,ah)else none
  |none=>none
theorem adR{ah:eF}(aZ:fG ah){b:Nat}:(cv ah).X b=ah.ix.X b:=by
  show(if b<ah.next then ah.ix.X b else none)=_;by_cases h:b<ah.next
  · rw[if_pos h]
  · rw[if_neg h,aZ b (by omega)]
theorem Oz: ∀{L:List Nat} {ah vc:eF},fG ah->Jw ah L=some vc->fG vc/\cv vc=kc (cv ah) L
  | [],ah,vc,aZ,h=>by cases h;refine⟨aZ,?_⟩;unfold kc;simp
  | o::l,ah,vc,aZ,h=>by
    simp only[Jw]at h;split at h
    · next cT D=>
      obtain⟨c3,aK⟩:=ye aZ D;obtain⟨e3,aR⟩:=Oz c3 h;refine⟨e3,?_⟩;rw[aR,aK];unfold kc W.a0;simp only[W.mk.injEq,true_and,and_true];funext b;by_cases D:b∈l
      · rw[if_pos D,if_pos (by simp[D])]
      · rw[if_neg D];by_cases H:b=o
        · rw[if_pos H,if_pos (by simp[H])]
        · rw[if_neg H,if_neg (by simp[D,H])]
    · cases h
theorem Se{ah:eF}: ∀{L:List Nat} {cT fa:eF},fG cT->Mk ah cT L=some fa->fG fa/\cv fa=lP (cv ah) (cv cT) L
  | [],cT,fa,aZ,h=>by cases h;refine⟨aZ,?_⟩;unfold lP;simp
  | o::l,cT,fa,aZ,h=>by
    simp only[Mk]at h;split at h
    · next aAs D=>
      obtain⟨c3,aK⟩:=ye aZ D;obtain⟨e3,aR⟩:=Se c3 h;refine⟨e3,?_⟩;rw[aR,aK];unfold lP W.a0;simp only[W.mk.injEq,true_and,and_true];funext b;by_cases D:b∈l
      · rw[if_pos D,if_pos (by simp[D])]
      · rw[if_neg D];by_cases H:b=o
        · rw[if_pos H,if_pos (by simp[H]),H];rfl
        · rw[if_neg H,if_neg (by simp[D,H])]
    · cases h
theorem Ib: ∀{L:List Nat} {ah fa:eF},fG ah->DD ah L=some fa->fG fa/\cv fa=qu (cv ah) L
  |[],ah,fa,aZ,h=>by cases h;exact⟨aZ,rfl⟩
  | o::l,ah,fa,aZ,h=>by
    simp only[DD]at h;rw[Ns,adR aZ];split at h
    · next x G=>
      rw[G];simp only;split at h
      · next cT D=>obtain⟨c3,aK⟩:=ye aZ D;rw[<-aK];exact Ib c3 h
      · cases h
    · next G=>rw[G];exact Ib aZ h
theorem Jt: ∀{L:List Nat} {ah fa:eF},fG ah->yP ah L=some fa->fG fa/\cv fa=hl (cv ah) L
  |[],ah,fa,aZ,h=>by cases h;exact⟨aZ,(ahL _).symm⟩
  | o::l,ah,fa,aZ,h=>by
    have ar: ∀{cg:eF},fG cg->yP cg l=some fa->cg.next=ah.next->cg.ix=ah.ix->(∀b,b∉l->cg.mp.X b=if b=o then none else ah.mp.X b)->fG fa/\cv fa=hl (cv ah) (o::l):= λ{cg} mb bN au hb av=>by
      obtain⟨w,e⟩:=Jt mb bN;refine⟨w,?_⟩;rw[e];unfold hl cv;simp only[W.mk.injEq,au,hb,true_and];funext b;by_cases D:b∈l
      · rw[if_pos D,if_pos (by simp[D])]
      · rw[if_neg D,av b D];by_cases H:b=o
        · rw[if_pos H,if_pos (by simp[H])]
        · rw[if_neg H,if_neg (by simp[D,H])]
    simp only[yP]at h;split at h
    · split at h
      · next aa=>exact ar (cg:=⟨ah.next,ah.ix,fv.set 21 ah.mp o none⟩) aZ h rfl rfl λb _=>fv.sI (x3 aa)
      · cases h
    · next G=>
      refine ar aZ h rfl rfl λb _=> ?_;by_cases H:b=o
      · rw[if_pos H,H];exact G
      · rw[if_neg H]
section
variable {P:Program} {K:eC} {u:fz} {t m:W} {z ae:aM}
noncomputable def MN{f:Nat}{ts:List Value}{r:Value}(h:bK P f ts r):bE P:=by
  classical exact⟨f,λbz=>if bz=ts then some r else none,λbz dV e=>by
    by_cases bb:bz=ts
    · rw[if_pos bb]at e;cases e;rw[bb];exact h
    · rw[if_neg bb]at e;cases e⟩
theorem MO{f:Nat}{args ts:List Value}{r:Value}(h:bK P f ts r)(a6:yZ 9 t args=some ts){aT:Value->W->Prop}(dY:aT r (if my r then hl t (args.flatMap (ed 9 t))else qu t (args.flatMap (ed 9 t)))):uM [MN h] f args t aT:=by unfold uM;rw[a6];simp only[tw,MN,if_true];exact dY
def qA(P:Program)(bG:lH):Prop:= ∀f args ah r cg,fG ah->bG f args ah=some (r,cg)->fG cg/\fA P f args (cv ah) λdV aJ=>dV=r/\aJ=cv cg
theorem awh{bG:lH}(b0:qA P bG){f:Nat}{args:List Value}{ah cg:eF}{r:Value}(aZ:fG ah)(h:AA bG f args ah=some (r,cg)):
    fG cg/\ ∃ts,∃ai:bK P f ts r,uM [MN ai] f args (cv ah) λdV aJ=>dV=r/\aJ=cv cg:=by
  unfold AA at h;split at h
  · next ts Ft=>
    split at h
    · next v cT D=>
      obtain⟨c3,a3⟩:=b0 _ _ _ _ _ afR D;split at h
      · next fL az=>
        have ai:bK P f ts fL:=et (by have:=a3;rw[adO]at this;exact this.b6 λdV aJ aH=>by rw[aH.1,aH.2];exact az);split at h
        · next fC=>
          split at h
          · next fa H=>cases h;obtain⟨e3,aR⟩:=Jt aZ H;exact⟨e3,ts,ai,MO ai Ft ⟨rfl,by rw[if_pos fC,aR]⟩⟩
          · cases h
        · next fC=>
          split at h
          · next fa H=>cases h;obtain⟨e3,aR⟩:=Ib aZ H;exact⟨e3,ts,ai,MO ai Ft ⟨rfl,by rw[if_neg fC,aR]⟩⟩
          · cases h
      · cases h
    · cases h
  · cases h
theorem ahC{bG:lH}(b0:qA P bG){f:Nat}{args bz:List Value}{ah cg:eF}{r:Value}{a4:List (Operand×Operand)}(aZ:fG ah)(M:dN K u (cv ah) m)(bB:gF u K z ae)(g5:a4.all (λp=>cO p.1&&cO p.2)=true)(ax:bj u K args bz)
    (h:sz bG f args ah (lf z (cv ah) a4)=some (r,cg)):fG cg/\
    gd P f bz m λdV an=>qg ae a4 m an/\ ∃cz cr,dN cz cr (cv cg) an/\bV cr cz r dV/\eD (cv ah).next m.next K u (cv ah) m cz cr (cv cg) an:=by
  have pure: ∀{x:Value×eF},AA bG f args ah=some x->x=(r,cg)->fG cg/\gd P f bz m λdV an=>qg ae a4 m an/\ ∃cz cr,dN cz cr (cv cg) an/\bV cr cz r dV/\eD (cv ah).next m.next K u (cv ah) m cz cr (cv cg) an:= λ{x} G e=>by subst e;obtain⟨w,ts,ai,q⟩:=awh b0 aZ G;refine⟨w,(SY M ax q).b6 λdV an aH=> ?_⟩;obtain⟨D,cr,mj,aJ,⟨rfl,rfl⟩,aq,aE,bq⟩:=aH;exact⟨adp M bB g5 D,K,cr,aq,aE,bq⟩
  cases eZ:lf z (cv ah) a4 with
  | nil=>rw[eZ]at h;simp only[sz]at h;obtain⟨w,q⟩:=b0 _ _ _ _ _ aZ h;refine⟨w,(q K u bz m M ax).b6 λdV an aH=> ?_⟩;obtain⟨cz,cr,mj,aJ,⟨rfl,rfl⟩,H,aq,aE⟩:=aH;exact⟨Mp M bB g5 aE.la (by rw[eZ];nofun),cz,cr,H,aq,aE⟩
  | cons o l=>
    rw[eZ]at h;simp only[sz]at h;split at h
    · next cW=>
      split at h
      · next vc ar=>
        obtain⟨Us,aid⟩:=Oz aZ ar;split at h
        · next fL cT D=>
          split at h
          · next fa H=>
            cases h;obtain⟨c3,a3⟩:=b0 _ _ _ _ _ Us D;obtain⟨e3,aR⟩:=Se c3 H;refine⟨e3,?_⟩;rw[aid]at a3;have PC: ∀p∈o::l,∃x,(cv ah).X p=some x/\x.cells≠[]:= λp ai=>by
              have:=eQ.1 cW p ai;rw[adR aZ];split at this
              · next x G=>exact⟨x,G,λe=>by rw[e]at this;simp at this⟩
              · cases this
            refine(Wx PC a3 M ax).b6 λdV an aH=> ?_;obtain⟨ec,cz,cr,mj,aJ,⟨rfl,rfl⟩,aq,aE,bq⟩:=aH;rw[<-aR]at aq bq;exact⟨Mp M bB g5 bq.la (by rw[eZ];exact ec),cz,cr,aq,aE,bq⟩
          · cases h
        · exact pure h rfl
      · cases h
    · exact pure h rfl
end
section
variable {P:Program}
def qB(gE hg:Nat)(K:eC)(u:fz)(t m:W)(hq:ij)(cT:eF)(jx:aM)(an:W):Prop:= ∃cz cr,dN cz cr (cv cT) an/\gF cr cz (kA hq) jx/\eD gE hg K u t m cz cr (cv cT) an
theorem MP{bG:lH}(b0:qA P bG){base gr:Nat}: ∀{ops:List bp} {K:eC} {u:fz} {cG hq:ij} {ah cT:eF} {m:W} {ae:aM},ops.all HA=true->uE (ops.map (·.aN))=true->fG ah->dN K u (cv ah) m->gF u K (kA cG) ae->wY K u (cv ah) m base gr ops->base<=ah.next->gr<=m.next->
    uF bG base ops cG ah=some (hq,cT)->fG cT/\hc P gr ops ae m λjx an=>qB base gr K u (cv ah) m hq cT jx an
  | [],K,u,cG,hq,ah,cT,m,ae,_,_,aZ,M,bB,_,_,_,h=>by cases h;refine⟨aZ,?_⟩;rw[UD];exact⟨K,u,M,bB,eD.refl⟩
  | o::ops,K,u,cG,hq,ah,cT,m,ae,ao,hS,aZ,M,bB,fe,hb,rS,h=>by
    obtain⟨aN,d,g,k,a4⟩:=o;simp only[mW,aY]at ao;obtain⟨cW,zl⟩:=nodup_cons hS;have ui:=ao.1;simp only[HA,aY]at ui;have skip: ∀{nT:ij},wq cG d undef=some nT->uF bG base ops nT ah=some (hq,cT)->fG cT/\hc P gr ops (c0 ae d undef) m λjx an=>qB base gr K u (cv ah) m hq cT jx an:= λ{nT} ai h=>by refine MP b0 ao.2 zl aZ M ?_ (λo aC ax=>fe o (by simp[aC]) ax) hb rS h;rw[TZ ai];exact bB.a0 bV.undef
    have wb: ∀{x:ij×eF},Ax bG base ⟨aN,d,g,k,a4⟩ cG ah=some x->uF bG base ops x.1 x.2=some (hq,cT)->fG cT/\hc P gr (⟨aN,d,none,k,a4⟩::ops) ae m λjx an=>qB base gr K u (cv ah) m hq cT jx an:= λ{x} G h=>by
      -- Oj a dm
      have after: ∀{f:Nat} {args bz:List Value} {y:ij×eF} {Eg:Value->W->Prop},bj u K args bz->(match sz bG f args ah (lf (kA cG) (cv ah) a4)with
          | some (r,cg)=>(match wq cG d r with
            |some kG=>some (kG,cg)
            |none=>none)
          |none=>none)=some x->fG cT/\gd P f bz m (vk P gr d a4 ops ae m (λjx an=>qB base gr K u (cv ah) m hq cT jx an)):= λ{f args bz y Eg} ax ar=>by
        split at ar
        · next r fa D=>
          split at ar
          · next nT H=>
            cases ar;obtain⟨e3,q⟩:=ahC b0 aZ M bB ui.2 ax D;have step: ∀{cq:eC} {dt:fz} {dV:Value} {bg:W},dN cq dt (cv fa) bg->bV dt cq r dV->eD (cv ah).next m.next K u (cv ah) m cq dt (cv fa) bg->fG cT/\hc P gr ops (c0 ae d dV) bg λjx an=>qB base gr K u (cv ah) m hq cT jx an:= λ{cq dt dV bg} a7 cD dI=>by
              have zx:gF dt cq (kA nT) (c0 ae d dV):=(by rw[TZ H];exact(bB.b6 dI.f dI.e).a0 cD);have za:wY cq dt (cv fa) bg base gr ops:= λo aC ax=>by
                have au:=fe o (by simp[aC]) ax;refine⟨?_,λo' l8=> ?_,?_,oY au.sh dI.je,oY au.qi dI.jE⟩
                · cases bb:cq (base+o.aN)with
                  |none=>rfl
                  | some b=>
                    rcases dI.iJ _ _ bb with bq|⟨bq,_⟩
                    · rw[au.e]at bq;cases bq
                    · have:=au.sh;omega
                · rcases dI.iJ _ _ l8 with bq|⟨_,bq⟩
                  · exact au.b _ bq
                  · have:=au.qi;omega
                · cases bb:dt (gr+o.aN)with
                  |none=>rfl
                  | some cs=>
                    rcases dI.fn _ _ bb with bq|bq|⟨o',_,bq,_⟩
                    · rw[au.f]at bq;cases bq
                    · have:=au.qi;omega
                    · exact absurd bq (au.b o')
              obtain⟨mT,cc⟩:=MP b0 ao.2 zl e3 a7 zx za (kZ hb dI.je) (kZ rS dI.jE) h;refine⟨mT,?_⟩;obtain⟨n,bl,dH,hs,fM,ig,br,bX,e1⟩:=cc;exact⟨n,bl,dH,hs,fM,ig,br,bX,(dI.uX hb rS).trans e1⟩
            have aki:fG cT:=(by obtain⟨n,dV,an,_,_,cq,dt,a7,cD,dI⟩:=q;exact(step a7 cD dI).1);refine⟨aki,q.b6 λdV bg aH=> ?_⟩;obtain⟨aa,cq,dt,a7,cD,dI⟩:=aH;exact⟨aa,(step a7 cD dI).2⟩
          · cases ar
        · cases ar
      have SQ: ∀{k:af},k.jO=false->wi k=true->(k.eW=true->qC K u (cv ah) m (base+aN) (gr+aN))->(if k.hW (kA cG) (cv ah)&&hO (kA cG) (cv ah) a4 then(match Am k (base+aN) (kA cG) ah with
          | some cg=>(match some (k.ic (base+aN) (kA cG) (cv ah),cg)with
            | some (r,cg)=>(match wq cG d r with
              |some kG=>some (kG,cg)
              |none=>none)
            |none=>none)
          |none=>none)else none)=some x->
          fG cT/\hc P gr (⟨aN,d,none,k,a4⟩::ops) ae m λjx an=>qB base gr K u (cv ah) m hq cT jx an:= λ{k} ar aa au G=>by
        split at G
        · next zn=>
          simp only[aY]at zn;split at G
          · next fa rM=>
            simp only at G;split at G
            · next nT qQ=>
              cases G;obtain⟨e3,aR⟩:=adD aZ rM;obtain⟨D,cq,q⟩:=aec (gE:=base) (hg:=gr) (id:=base+aN) (mid:=gr+aN) M bB ar aa zn.1 au (by omega) (by omega);have zx:gF u cq (kA nT) (c0 ae d (k.val (gr+aN) ae m)):=(by rw[TZ qQ];exact(bB.b6 q.bA.f q.bA.e).a0 q.val);have za:wY cq u (cv fa) (k.gu (gr+aN) ae m) base gr ops:= λo aC ax=>by
                have au:=fe o (by simp[aC]) ax;have G:=cW o aC;simp only at G;rw[aR];refine⟨by rw[q.HH _ (by omega)];exact au.e,λo' l8=> ?_,au.f,oY au.sh q.bA.je,oY au.qi q.bA.jE⟩;by_cases e:o'=base+aN
                · subst e;rcases q.self with bq|bq
                  · rw[bq]at l8;exact au.b _ l8
                  · rw[bq]at l8;simp only[ll]at l8;omega
                · rw[q.HH _ e]at l8;exact au.b _ l8
              have bc:=q.T2;have fe:=q.bA;rw[<-aR]at bc fe;obtain⟨mT,cc⟩:=MP b0 ao.2 zl e3 bc zx za (kZ hb fe.je) (kZ rS fe.jE) h;refine⟨mT,?_⟩;rw[uY ar];refine⟨D,VZ M bB ui.2 zn.2,?_⟩;obtain⟨n,bl,dH,hs,fM,ig,br,bX,e1⟩:=cc;exact⟨n,bl,dH,hs,fM,ig,br,bX,fe.trans e1⟩
            · cases G
          · cases G
        · cases G
      have vD:=fe ⟨aN,d,g,k,a4⟩ (by simp);have zd:=ui.1;have bx:=zd;simp only[wi,aY]at bx;cases k with
      | dm f bz=>rw[UC];exact after (y:=x) (Eg:= λ_ _=>True) (bB.xe bx.1) G
      | iy x bz=>
        simp only[Ax]at G;simp only[af.gR,mW,aY]at bx;split at G
        · next f first l3 PS=>have ad:=bB.Y bx.1.1;rw[PS]at ad;obtain⟨ys,ds,e,jo,jq⟩:=ad.zz;rw[afY e];exact after (y:=⟨cG,ah⟩) (Eg:= λ_ _=>True) ((jo.oq (bB.xe bx.1.2)).oq jq) G
        · cases G
      | kv a8 x bz=>
        simp only[Ax]at G;simp only[af.gR,mW,aY]at bx;rw[azo];split at G
        · next nS v PS=>
          have ad:=bB.Y bx.1.1;rw[PS]at ad;obtain⟨bu,e,qY⟩:=ad.FG;rw[e];unfold Kh;split at G
          · next a f a6=>simp only[a6];exact after (y:=⟨cG,ah⟩) (Eg:= λ_ _=>True) (bj.cons qY (bB.xe bx.1.2)) G
          · next a f dd n a6=>
            simp only[a6];split at G
            · next ar=>simp only[aY]at ar;have D:=Eh M qY ar.1;obtain⟨w,q⟩:=after (y:=⟨cG,ah⟩) (Eg:= λ_ _=>True) (bj.cons (Sq M qY ar.1 ar.2) (bB.xe bx.1.2)) G;exact⟨w,by rw[D,ar.2];rfl,q⟩
            · cases G
          · cases G
        · cases G
      |_=>exact SQ rfl zd vD G
    simp only[uF]at h;split at h
    · next m6=>
      split at h
      · next nT fa D=>
        cases g with
        |none=>exact wb D h
        | some g=>obtain⟨j,b⟩:=g;obtain⟨w,q⟩:=wb D h;refine⟨w,?_⟩;rw[NR,Ur bB,if_pos m6];exact q
      · cases h
    · next m6=>
      split at h
      · next nT D=>
        cases g with
        |none=>exact absurd rfl m6
        | some g=>obtain⟨j,b⟩:=g;obtain⟨w,q⟩:=skip D h;refine⟨w,?_⟩;rw[NR,Ur bB,if_neg m6];exact q
      · cases h
theorem aeG{ops:List bp}{ah:eF}(aZ:fG ah):fG (Dm ops ah)/\cv (Dm ops ah)=gW ops (cv ah):=by
  unfold Dm gW;split
  · exact⟨afS aZ,adP aZ⟩
  · exact⟨aZ,rfl⟩
theorem awz{bG:lH}(b0:qA P bG){ops:List bp}(ao:mM (.F ops)=true){K:eC}{u:fz}{cG hq:ij}{ah cT:eF}{m:W}{ae:aM}(aZ:fG ah)(M:dN K u (cv ah) m)(bB:gF u K (kA cG) ae)(h:uF bG ah.next ops cG (Dm ops ah)=some (hq,cT)):
    fG cT/\hc P m.next ops ae (gW ops m) λjx an=>qB ah.next m.next K u (cv ah) m hq cT jx an:=by
  simp only[mM,aY]at ao;obtain⟨gh,ow⟩:=aeG (ops:=ops) aZ;have uj:dN K u (gW ops (cv ah)) (gW ops m):=by
    unfold gW;split
    · exact Ok M _
    · exact M
  have rN:eD ah.next m.next K u (cv ah) m K u (gW ops (cv ah)) (gW ops m):=by
    unfold gW;split
    · exact Jd M _
    · exact eD.refl
  have vB:wY K u (gW ops (cv ah)) (gW ops m) ah.next m.next ops:= λo aC ax=>by
    have E7:(ops.any λo=>o.k.eW)=true:=List.any_eq_true.2 ⟨o,aC,ax⟩;have p9:o.aN<ops.length:=(by simpa using eQ.1 ao.2 o aC);refine⟨?_,λo' l8=> ?_,?_,by simp[gW,E7,p9,cv],by simp[gW,E7,p9]⟩
    · cases bb:K (ah.next+o.aN)with
      |none=>rfl
      |some b=>have:=(M.c2 _ _ bb).1;simp[cv]at this;omega
    · have:=(M.c2 _ _ l8).2;omega
    · cases bb:u (m.next+o.aN)with
      |none=>rfl
      |some cs=>obtain⟨⟨w,D⟩,_⟩:=M.bA _ _ bb;have:=bn D;omega
  have gE:ah.next<=(Dm ops ah).next:=by have:=rN.je;rw[<-ow]at this;exact this
  rw[<-ow]at uj rN vB;obtain⟨c3,q⟩:=MP b0 ao.1.1 ao.1.2 gh uj bB vB gE rN.jE h;refine⟨c3,?_⟩;obtain⟨n,bl,dH,hs,fM,ig,br,bX,e1⟩:=q;exact⟨n,bl,dH,hs,fM,ig,br,bX,rN.trans e1⟩
def N7(P:Program)(c:J)(e:du)(cG:ij)(ah:eF)(hq:ij)(cT:eF):Prop:=fG cT/\ ∀(K:eC) (u:fz) (ae:aM) (m:W),dN K u (cv ah) m->gF u K (kA cG) ae->hG P c ae m λdX jx an=>dX=e/\qB ah.next m.next K u (cv ah) m hq cT jx an
theorem qB.trans{gE hg Ir Hw:Nat}{K cq:eC}{u dt:fz}{t m bg:W}{cT:eF}{nT:ij}{fa:eF}{dj:aM}{dH:W}(h:eD gE hg K u t m cq dt (cv cT) bg)(bN:qB Ir Hw cq dt (cv cT) bg nT fa dj dH)(D:gE<=Ir)(H:hg<=Hw):qB gE hg K u t m nT fa dj dH:=by obtain⟨fM,ig,a,b,c⟩:=bN;exact⟨fM,ig,a,b,h.trans (c.uX D H)⟩
theorem adj{c:J}(ar:mM c=true){f:ij->eF->Option (du×ij×eF)}(a6: ∀{cG ah e hq cT},fG ah->f cG ah=some (e,hq,cT)->N7 P c e cG ah hq cT): ∀{n:Nat} {cG:ij} {ah:eF} {e:du} {hq:ij} {cT:eF},fG ah->Mg f n cG ah=some (e,hq,cT)->N7 P (.loop c) e cG ah hq cT
  |0,cG,ah,e,hq,cT,aZ,h=>by cases h
  | n+1,cG,ah,e,hq,cT,aZ,h=>by
    simp only[Mg]at h;split at h
    · next nT fa D=>obtain⟨e3,q⟩:=a6 aZ D;obtain⟨mT,bX⟩:=adj ar a6 e3 h;refine⟨mT,λK u ae m M bB=> ?_⟩;refine DV λcx bk=> ?_;refine(q K u ae m M bB).b6 λdX bl bg aH=> ?_;obtain⟨rfl,cq,dt,aQ,a7,cD⟩:=aH;refine bk _ _ ((bX cq dt bl bg aQ a7).b6 λaR eU dH aH=> ?_);obtain⟨rfl,dI⟩:=aH;exact⟨rfl,qB.trans cD dI cD.je cD.jE⟩
    · next cW=>
      obtain⟨e3,q⟩:=a6 aZ h;refine⟨e3,λK u ae m M bB=> ?_⟩;refine DV λcx bk=> ?_;refine(q K u ae m M bB).b6 λdX bl bg aH=> ?_;obtain⟨rfl,g⟩:=aH;cases dX with
      |er=>exact absurd h (cW _ _)
      |bh id=>exact⟨rfl,g⟩
      |aI=>exact⟨rfl,g⟩
end
section
variable {P:Program}
theorem aeu{bG:lH}{f:Nat}{args:List Value}{ah cg:eF}{r:Value}(aZ:fG ah)(h:AA bG f args ah=some (r,cg)):fG cg:=by
  unfold AA at h
  repeat' split at h
  all_goals first|cases h|skip
  all_goals first|exact(Jt aZ (by assumption)).1|exact(Ib aZ (by assumption)).1
theorem ahD{bG:lH}(b0:qA P bG){f:Nat}{args:List Value}{ah cg:eF}{r:Value}{L:List Nat}(aZ:fG ah)(h:sz bG f args ah L=some (r,cg)):fG cg:=by
  cases L with
  |nil=>exact(b0 _ _ _ _ _ aZ h).1
  | cons o l=>
    simp only[sz]at h;split at h
    · split at h
      · next vc ar=>
        split at h
        · next fL cT D=>
          split at h
          · next fa H=>cases h;exact(Se (b0 _ _ _ _ _ (Oz aZ ar).1 D).1 H).1
          · cases h
        · exact aeu aZ h
      · cases h
    · exact aeu aZ h
theorem avU{bG:lH}(b0:qA P bG){base:Nat}{o:bp}{cG:ij}{ah:eF}{x:ij×eF}(aZ:fG ah)(h:Ax bG base o cG ah=some x):fG x.2:=by
  have jc: ∀{f:Nat} {args:List Value} {L:List Nat},(match sz bG f args ah L with
      | some (r,cg)=>(match wq cG o.d r with
        |some kG=>some (kG,cg)
        |none=>none)
      |none=>none)=some x->fG x.2:= λ{f args L} h=>by
    split at h
    · next r fa D=>
      split at h
      · cases h;exact ahD b0 aZ D
      · cases h
    · cases h
  have plain: ∀{k:af},(if k.hW (kA cG) (cv ah)&&hO (kA cG) (cv ah) o.a4 then(match Am k (base+o.aN) (kA cG) ah with
      | some cg=>(match some (k.ic (base+o.aN) (kA cG) (cv ah),cg)with
        | some (r,cg)=>(match wq cG o.d r with
          |some kG=>some (kG,cg)
          |none=>none)
        |none=>none)
      |none=>none)else none)=some x->fG x.2:= λ{k} h=>by
    split at h
    · split at h
      · next fa rM=>
        simp only at h;split at h
        · cases h;exact(adD aZ rM).1
        · cases h
      · cases h
    · cases h
  obtain⟨aN,d,g,k,a4⟩:=o;cases k with
  |dm f bz=>exact jc h
  | iy y bz=>
    simp only[Ax]at h;split at h
    · exact jc h
    · cases h
  | kv a8 y bz=>
    simp only[Ax]at h;split at h
    · split at h
      · exact jc h
      · split at h
        · exact jc h
        · cases h
      · cases h
    · cases h
  |_=>exact plain h
theorem SR{bG:lH}(b0:qA P bG){base:Nat}: ∀{ops:List bp} {cG hq:ij} {ah cT:eF},fG ah->uF bG base ops cG ah=some (hq,cT)->fG cT
  |[],cG,hq,ah,cT,aZ,h=>by cases h;exact aZ
  | o::ops,cG,hq,ah,cT,aZ,h=>by
    simp only[uF]at h;split at h
    · split at h
      · next nT fa D=>exact SR b0 (avU b0 aZ D) h
      · cases h
    · split at h
      · exact SR b0 aZ h
      · cases h
theorem vm{bG:lH}(b0:qA P bG){n:Nat}: ∀{c:J} {cG hq:ij} {ah cT:eF} {e:du},mM c=true->fG ah->p2 bG n c cG ah=some (e,hq,cT)->N7 P c e cG ah hq cT
  | .skip,cG,hq,ah,cT,e,ao,aZ,h=>by cases h;exact⟨aZ,λK u ae m M bB=>by rw[UB];exact⟨rfl,K,u,M,bB,eD.refl⟩⟩
  | .bh id,cG,hq,ah,cT,e,ao,aZ,h=>by cases h;exact⟨aZ,λK u ae m M bB=>by rw[Uy];exact⟨rfl,K,u,M,bB,eD.refl⟩⟩
  | .aI,cG,hq,ah,cT,e,ao,aZ,h=>by cases h;exact⟨aZ,λK u ae m M bB=>by rw[UA];exact⟨rfl,K,u,M,bB,eD.refl⟩⟩
  | .qh _ _ _,cG,hq,ah,cT,e,ao,aZ,h=>by cases h
  | .F ops,cG,hq,ah,cT,e,ao,aZ,h=>by
    simp only[p2]at h;split at h
    · next nT fa D=>cases h;exact⟨SR b0 (aeG aZ).1 D,λK u ae m M bB=>by rw[Uz];obtain⟨n,bl,dH,az,q⟩:=(awz b0 ao aZ M bB D).2;exact⟨n,bl,dH,az,rfl,q⟩⟩
    · cases h
  | .B a b,cG,hq,ah,cT,e,ao,aZ,h=>by
    simp only[mM,aY]at ao;simp only[p2]at h;split at h
    · next nT fa D=>obtain⟨e3,q⟩:=vm b0 ao.1 aZ D;obtain⟨mT,bX⟩:=vm b0 ao.2 e3 h;refine⟨mT,λK u ae m M bB=> ?_⟩;rw[NP];refine(q K u ae m M bB).b6 λdX bl bg aH=> ?_;obtain⟨rfl,cq,dt,aQ,a7,cD⟩:=aH;rw[Ub];refine(bX cq dt bl bg aQ a7).b6 λaR eU dH aH=> ?_;obtain⟨rfl,dI⟩:=aH;exact⟨rfl,qB.trans cD dI cD.je cD.jE⟩
    · next cW=>
      obtain⟨e3,q⟩:=vm b0 ao.1 aZ h;refine⟨e3,λK u ae m M bB=> ?_⟩;rw[NP];refine(q K u ae m M bB).b6 λdX bl bg aH=> ?_;obtain⟨rfl,g⟩:=aH;cases dX with
      |er=>exact absurd h (cW _ _)
      |bh id=>exact⟨rfl,g⟩
      |aI=>exact⟨rfl,g⟩
  | .aV c a b,cG,hq,ah,cT,e,ao,aZ,h=>by
    simp only[mM,aY]at ao;simp only[p2]at h;split at h
    · next ar=>obtain⟨e3,q⟩:=vm b0 ao.1.2 aZ h;refine⟨e3,λK u ae m M bB=> ?_⟩;have ad:=(bB.Y ao.1.1);rw[ar]at ad;rw[NO,ad.qd];exact⟨rfl,q K u ae m M bB⟩
    · next ar=>obtain⟨e3,q⟩:=vm b0 ao.2 aZ h;refine⟨e3,λK u ae m M bB=> ?_⟩;have ad:=(bB.Y ao.1.1);rw[ar]at ad;rw[NO,ad.qd];exact⟨rfl,q K u ae m M bB⟩
    · cases h
  | .block id c,cG,hq,ah,cT,e,ao,aZ,h=>by
    simp only[p2]at h;split at h
    · next iB nT fa D=>
      obtain⟨e3,q⟩:=vm (c:=c) b0 ao aZ D;split at h
      · next eg=>cases h;refine⟨e3,λK u ae m M bB=> ?_⟩;rw[Ix];refine(q K u ae m M bB).b6 λdX bl bg aH=> ?_;obtain⟨rfl,g⟩:=aH;rw[Br,if_pos eg];exact⟨rfl,g⟩
      · next eg=>cases h;refine⟨e3,λK u ae m M bB=> ?_⟩;rw[Ix];refine(q K u ae m M bB).b6 λdX bl bg aH=> ?_;obtain⟨rfl,g⟩:=aH;rw[Br,if_neg eg];exact⟨rfl,g⟩
    · next cW=>
      obtain⟨e3,q⟩:=vm (c:=c) b0 ao aZ h;refine⟨e3,λK u ae m M bB=> ?_⟩;rw[Ix];refine(q K u ae m M bB).b6 λdX bl bg aH=> ?_;obtain⟨rfl,g⟩:=aH;cases dX with
      |bh iB=>exact absurd h (cW _ _ _)
      |er=>exact⟨rfl,g⟩
      |aI=>exact⟨rfl,g⟩
  | .loop c,cG,hq,ah,cT,e,ao,aZ,h=>by simp only[p2]at h;exact adj (c:=c) ao (λaZ h=>vm b0 ao aZ h) aZ h
def I1(P:Program)(nR:Nat->Option bU):Prop:= ∀f Fn,nR f=some Fn->b3 P f=some Fn/\mM Fn.body=true
def Ip:List (Nat×bU)->fv bU
  |[]=> .nil
  |p::l=>fv.set 21 (Ip l) p.1 (some p.2)
def I0(P:Program):List (Nat×bU)->Prop
  |[]=>True
  |p::l=>((Ae p.1=true/\b3 P p.1=some p.2)/\mM p.2.body=true)/\I0 P l
theorem DM: ∀{l:List (Nat×bU)},I0 P l->I1 P (Ip l).X
  |[],_=> λf Fn h=>by cases h
  | p::l,h=> λf Fn a6=>by
    have e:(Ip (p::l)).X f=if f=p.1 then some p.2 else(Ip l).X f:=fv.sI (x3 h.1.1.1)
    rw[e]at a6;split at a6
    · next bb=>cases a6;rw[bb];exact⟨h.1.1.2,h.1.2⟩
    · exact DM h.2 f Fn a6
end
end Go.DI
