/-
  A part of the proof of the statement, in texts that tools of ours (wip/shrink.py, irpack.py, relax.py, minify.py, join.py, lay.py) have shortened.
-/
import Derived.Test.YtmmkkggfmigppaaGreatZah
set_option linter.all false
set_option maxRecDepth 8000
set_option maxHeartbeats 16000000
namespace Go.Proofs.YtmmkkggfmigppaaGreat
open Go Go.DI
def LI:H:= .B (.block 1 (.B (.D [z 0 23 0,z 1 24 3,a4 2 25 (.tL (F 23) (F 24)),b0 3 26 232 [F 25],g6 4 27 26]) (.aM (F 27) (.B (.D [cr 0 2 false]) (.aF)) (.skip)))) (.D [z 0 21 3,cI 1 22 21,z 2 3 22])
def Hf:H:= .B (.B (.D [z 0 17 3,z 1 18 0,a4 2 19 (.sL (F 18)),cY 3 20 17 19]) (.aM (F 20) (.skip) (.a7 0))) LI
def He:H:= .B (.D [cr 0 2 true]) (.aF)
def Hd:H:= .B (.B (.D [a5 0 3 0]) (.block 0 (.loop Hf))) He
def Hc:H:= .B (.B (.D [z 0 4 0,df 1 5 .eql (F 4) (.const (.string ⟨#[]⟩)),z 2 6 5,du 3 7 6 0,cQ 4 8 6 false (.sL (F 7)),mm 5 9 6 8 16,c6 6 10 6 9,z 7 11 10,du 8 12 11 0,cQ 9 13 11 false (.tL (F 12) (.const aG)),jv 10 14 11 231 13,jh 11 15 11 14,c6 12 16 11 15]) (.aM (F 16) (.B (.D [cr 0 2 false]) (.aF)) (.skip))) Hd
def Dc:H:=
  .B (
  .D [
 cr 0 2 false]) Hc
def aqi:bM:=⟨28,[.bw 2],Dc⟩
theorem aqj:bW al 179=some aqi:=by kernel_rfl
theorem ake{args:List Value}{m:W}{cj:Value->W->Prop}(h:args.length<=28):gp al 179 args m cj=ia al Dc (jI args) m (r1 [.bw 2] cj):=sY aqj h
def LL:H:= .B (.block 1 (.B (.D [z 0 24 0,z 1 25 3,a4 2 26 (.tL (F 24) (F 25)),b0 3 27 238 [F 26],g6 4 28 27]) (.aM (F 28) (.B (.D [cr 0 2 false]) (.aF)) (.skip)))) (.D [z 0 22 3,cI 1 23 22,z 2 3 23])
def Hj:H:= .B (.B (.D [z 0 18 3,z 1 19 0,a4 2 20 (.sL (F 19)),cY 3 21 18 20]) (.aM (F 21) (.skip) (.a7 0))) LL
def Hi:H:= .B (.D [cr 0 2 true]) (.aF)
def Hh:H:= .B (.B (.D [a5 0 3 0]) (.block 0 (.loop Hj))) Hi
def Hg:H:= .B (.B (.D [z 0 4 0,a4 1 5 (.sL (F 4)),kt 2 6 5 1,z 3 7 6,du 4 8 7 0,cQ 5 9 7 false (.sL (F 8)),mm 6 10 7 9 16,c6 7 11 7 10,z 8 12 11,du 9 13 12 0,cQ 10 14 12 false (.tL (F 13) (.const aG)),jv 11 15 12 237 14,jh 12 16 12 15,c6 13 17 12 16]) (.aM (F 17) (.B (.D [cr 0 2 false]) (.aF)) (.skip))) Hh
def Dd:H:=
  .B (
  .D [
 cr 0 2 false]) Hg
def aqV:bM:=⟨29,[.bw 2],Dd⟩
theorem aqW:bW al 188=some aqV:=by kernel_rfl
theorem akf{args:List Value}{m:W}{cj:Value->W->Prop}(h:args.length<=29):gp al 188 args m cj=ia al Dd (jI args) m (r1 [.bw 2] cj):=sY aqW h
def adg:H:= .B (.D [z 0 3 0,df 1 4 .geq (F 3) (.const (.int .u8 97)),z 2 5 4,dg 3 6 5 0,A6 4 7 5 6 122,cR 5 8 5 7,z 6 9 8,du 7 10 9 0,cQ 8 11 9 false (.e8 .geq .fW (F 10) (.const (.int .u8 65))),du 9 12 9 11,dg 10 13 12 0,A6 11 14 12 13 90,D3 12 15 9 12 14,c6 13 16 9 15,z 14 2 16]) (.aF)
def SD:H:=
  .B (
  .D [
 cr 0 2 false]) adg
def atA:bM:=⟨17,[.bw 2],SD⟩
theorem atB:bW al 231=some atA:=by kernel_rfl
theorem akg{args:List Value}{m:W}{cj:Value->W->Prop}(h:args.length<=17):gp al 231 args m cj=ia al SD (jI args) m (r1 [.bw 2] cj):=sY atB h
def Dm:H:= .B (.D [z 0 3 0,b0 1 4 231 [F 3],z 2 5 4,du 3 6 5 0,jv 4 7 5 255 6,c6 5 8 5 7,z 6 9 8,du 7 10 9 0,cQ 8 11 9 false (.e8 .eql .fW (F 10) (.const (.int .u8 45))),c6 9 12 9 11,z 10 13 12,du 11 14 13 0,cQ 12 15 13 false (.e8 .eql .fW (F 14) (.const (.int .u8 46))),c6 13 16 13 15,z 14 2 16]) (.aF)
def AG:H:=
  .B (
  .D [
 cr 0 2 false]) Dm
def atC:bM:=⟨17,[.bw 2],AG⟩
theorem atD:bW al 232=some atC:=by kernel_rfl
theorem akh{args:List Value}{m:W}{cj:Value->W->Prop}(h:args.length<=17):gp al 232 args m cj=ia al AG (jI args) m (r1 [.bw 2] cj):=sY atD h
def adk:H:= .B (.D [z 0 3 0,df 1 4 .geq (F 3) (.const (.int .u8 97)),z 2 5 4,dg 3 6 5 0,A6 4 7 5 6 122,cR 5 8 5 7,z 6 9 8,du 7 10 9 0,cQ 8 11 9 false (.e8 .geq .fW (F 10) (.const (.int .u8 65))),du 9 12 9 11,dg 10 13 12 0,A6 11 14 12 13 90,D3 12 15 9 12 14,c6 13 16 9 15,z 14 2 16]) (.aF)
def SE:H:=
  .B (
  .D [
 cr 0 2 false]) adk
def atP:bM:=⟨17,[.bw 2],SE⟩
theorem atQ:bW al 237=some atP:=by kernel_rfl
theorem aki{args:List Value}{m:W}{cj:Value->W->Prop}(h:args.length<=17):gp al 237 args m cj=ia al SE (jI args) m (r1 [.bw 2] cj):=sY atQ h
def Dn:H:= .B (.D [z 0 3 0,b0 1 4 237 [F 3],z 2 5 4,du 3 6 5 0,jv 4 7 5 256 6,c6 5 8 5 7,z 6 9 8,du 7 10 9 0,cQ 8 11 9 false (.e8 .eql .fW (F 10) (.const (.int .u8 45))),c6 9 12 9 11,z 10 13 12,du 11 14 13 0,cQ 12 15 13 false (.e8 .eql .fW (F 14) (.const (.int .u8 46))),c6 13 16 13 15,z 14 2 16]) (.aF)
def AH:H:=
  .B (
  .D [
 cr 0 2 false]) Dn
def atR:bM:=⟨17,[.bw 2],AH⟩
theorem atS:bW al 238=some atR:=by kernel_rfl
theorem akj{args:List Value}{m:W}{cj:Value->W->Prop}(h:args.length<=17):gp al 238 args m cj=ia al AH (jI args) m (r1 [.bw 2] cj):=sY atS h
def adV:H:= .B (.D [z 0 3 0,df 1 4 .geq (F 3) (.const (.int .u8 48)),z 2 5 4,dg 3 6 5 0,A6 4 7 5 6 57,cR 5 8 5 7,z 6 2 8]) (.aF)
def SK:H:=
  .B (
  .D [
 cr 0 2 false]) adV
def avW:bM:=⟨9,[.bw 2],SK⟩
theorem avX:bW al 255=some avW:=by kernel_rfl
theorem akk{args:List Value}{m:W}{cj:Value->W->Prop}(h:args.length<=9):gp al 255 args m cj=ia al SK (jI args) m (r1 [.bw 2] cj):=sY avX h
def adW:H:= .B (.D [z 0 3 0,df 1 4 .geq (F 3) (.const (.int .u8 48)),z 2 5 4,dg 3 6 5 0,A6 4 7 5 6 57,cR 5 8 5 7,z 6 2 8]) (.aF)
def SL:H:=
  .B (
  .D [
 cr 0 2 false]) adW
def avY:bM:=⟨9,[.bw 2],SL⟩
theorem avZ:bW al 256=some avY:=by kernel_rfl
theorem akl{args:List Value}{m:W}{cj:Value->W->Prop}(h:args.length<=9):gp al 256 args m cj=ia al SL (jI args) m (r1 [.bw 2] cj):=sY avZ h
def oI(n:Int):Bool:=(decide (97<=n)&&decide (n<=122))||(decide (65<=n)&&decide (n<=90))
def tS(n:Int):Bool:=decide (48<=n)&&decide (n<=57)
def mj(n:Int):Bool:=oI n||tS n||decide (n=45)||decide (n=46)
def r3(p:Int->Bool)(T:ByteArray):Nat->Nat->Nat
  |0,_=>0
  |n+1,i=>if p (sh T i)=true then r3 p T n (i+1)+1 else 0
def eO(T:ByteArray):Prop:=0<T.size/\T.size<=16/\oI (sh T 0)=true/\r3 mj T T.size 0=T.size
open Classical in
noncomputable def nH(T:ByteArray):Bool:=decide (eO T)
theorem Bu{T:ByteArray}(h:eO T):nH T=true:=by simp[nH,h]
theorem y5{T:ByteArray}(h: ¬eO T):nH T=false:=by simp[nH,h]
theorem X8{T:ByteArray}(h:T.size=0):T=⟨#[]⟩:=by apply ByteArray.ext;exact Array.eq_empty_of_size_eq_zero h
theorem Bc(n:Int)(m:W)(cj:Value->W->Prop):gp al 231 [.int .u8 n] m cj=cj (.bool (oI n)) m:=by refine(rp.y7 ?_).wp;rw[akg (by simp)];by_cases E:97<=n<;>by_cases I:n<=122<;>by_cases av:65<=n<;>by_cases aH:n<=90<;>simp(disch:=first|omega|simp only[aO];omega) [SD,adg,oI,E,I,av,aH]
theorem Kl(n:Int)(m:W)(cj:Value->W->Prop):gp al 255 [.int .u8 n] m cj=cj (.bool (tS n)) m:=by refine(rp.y7 ?_).wp;rw[akk (by simp)];by_cases E:48<=n<;>by_cases I:n<=57<;>simp(disch:=first|omega|simp only[aO];omega) [SK,adV,tS,E,I]
theorem ZK(n:Int)(m:W)(cj:Value->W->Prop):gp al 232 [.int .u8 n] m cj=cj (.bool (mj n)) m:=by
  refine(rp.y7 ?_).wp;rw[akh (by simp)];by_cases E:oI n=true
  · simp(disch:=first|omega|simp only[aO];omega) [AG,Dm,Bc,mj,E]
  by_cases I:tS n=true
  · simp(disch:=first|omega|simp only[aO];omega) [AG,Dm,Bc,Kl,mj,E,I]
  by_cases av:n=45
  · subst av;simp(disch:=first|omega|simp only[aO];omega) [AG,Dm,Bc,Kl,mj,oI,tS]
  by_cases aH:n=46
  · subst aH;simp(disch:=first|omega|simp only[aO];omega) [AG,Dm,Bc,Kl,mj,oI,tS]
  simp(disch:=first|omega|simp only[aO];omega) [AG,Dm,Bc,Kl,mj,E,I,av,aH]
theorem agI{T:ByteArray}(dr:T.size<=16){Q:dA->aR->W->Prop}: ∀(r i:Nat) (m:W) (A:aR),i+r=T.size->A 0= .string T->A 3=Y i->
    (r3 mj T r i=r-> ∀ak,Q (.a7 0) ak m)->(r3 mj T r i≠r-> ∀ak,ak 2= .bool false->Q .aF ak m)->ia al (.loop Hf) A m Q
  | 0,i,m,A,ai,cE,eL,a8,bE=>by refine ER λcS bm=> ?_;have: ¬(i:Int)<T.size:=(by omega);simp(disch:=first|omega|simp only[aO];omega) [Hf,LI,rT,cE,eL,this];exact a8 rfl _
  | r+1,i,m,A,ai,cE,eL,a8,bE=>by
    refine ER λcS bm=> ?_;have E:(i:Int)<T.size:=(by omega);have c8:=gY (n:=i) (by omega);by_cases hb:mj (sh T i)=true
    · simp(disch:=first|omega|simp only[aO];omega) [Hf,LI,rT,ZK,cE,eL,E,hb,c8];refine bm _ _ (agI dr r (i+1) _ _ (by omega) (by simp[cE]) (by simp) (λh=>a8 (by simp[r3,hb,h])) (λh=>bE (by simp[r3,hb];exact h)))
    · have fH:mj (sh T i)=false:=(by simpa using hb);simp(disch:=first|omega|simp only[aO];omega) [Hf,LI,rT,ZK,cE,eL,E,fH];exact bE (by simp[r3,fH]) _ (by simp)
theorem aAS(T:ByteArray)(m:W)(cj:Value->W->Prop):gp al 179 [.string T] m cj=cj (.bool (nH T)) m:=by
  refine(rp.y7 ?_).wp;rw[ake (by simp)];by_cases dk:T.size=0
  · have e:=X8 dk;have KF:(T.size:Int)<1:=(by omega);have az: ¬eO T:= λh=>by have:=h.1;omega
    simp(disch:=first|omega|simp only[aO];omega) [Dc,Hc,Hd,He,e];rw[<-e,y5 az]
  · have e: ¬T=⟨#[]⟩:= λh=>dk (by rw[h];rfl);have KF:(0:Int)<T.size:=(by omega);have KG: ¬(T.size:Int)<1:=(by omega);have ab:0<T.size:=(by omega);by_cases E:16<T.size
    · have jF:(16:Int)<T.size:=(by omega);have az: ¬eO T:= λh=>by have:=h.2.1;omega
      simp(disch:=first|omega|simp only[aO];omega) [Dc,Hc,Hd,He,rT,e,jF,y5 az]
    · have jF: ¬(16:Int)<T.size:=(by omega);by_cases I:oI (sh T 0)=true
      · simp(disch:=first|omega|simp only[aO];omega) [Dc,Hc,Hd,He,rT,Bc,e,ab,jF,I];refine agI (T:=T) (by omega) T.size 0 _ _ (by omega) (by simp) (by simp) (λh ak=> ?_) (λh ak g=> ?_)
        · simp(disch:=first|omega|simp only[aO];omega) [Bu ⟨by omega,by omega,I,h⟩]
        · have az: ¬eO T:= λbS=>h bS.2.2.2;simp(disch:=first|omega|simp only[aO];omega) [g,y5 az]
      · have az: ¬eO T:= λbS=>I bS.2.2.1;have tx:oI (sh T 0)=false:=(by simpa using I);simp(disch:=first|omega|simp only[aO];omega) [Dc,Hc,Hd,He,rT,Bc,e,ab,jF,tx,y5 az]
theorem BH(n:Int)(m:W)(cj:Value->W->Prop):gp al 237 [.int .u8 n] m cj=cj (.bool (oI n)) m:=by refine(rp.y7 ?_).wp;rw[aki (by simp)];by_cases E:97<=n<;>by_cases I:n<=122<;>by_cases av:65<=n<;>by_cases aH:n<=90<;>simp(disch:=first|omega|simp only[aO];omega) [SE,adk,oI,E,I,av,aH]
theorem N3(n:Int)(m:W)(cj:Value->W->Prop):gp al 256 [.int .u8 n] m cj=cj (.bool (tS n)) m:=by refine(rp.y7 ?_).wp;rw[akl (by simp)];by_cases E:48<=n<;>by_cases I:n<=57<;>simp(disch:=first|omega|simp only[aO];omega) [SL,adW,tS,E,I]
theorem ahp(n:Int)(m:W)(cj:Value->W->Prop):gp al 238 [.int .u8 n] m cj=cj (.bool (mj n)) m:=by
  refine(rp.y7 ?_).wp;rw[akj (by simp)];by_cases E:oI n=true
  · simp(disch:=first|omega|simp only[aO];omega) [AH,Dn,BH,mj,E]
  by_cases I:tS n=true
  · simp(disch:=first|omega|simp only[aO];omega) [AH,Dn,BH,N3,mj,E,I]
  by_cases av:n=45
  · subst av;simp(disch:=first|omega|simp only[aO];omega) [AH,Dn,BH,N3,mj,oI,tS]
  by_cases aH:n=46
  · subst aH;simp(disch:=first|omega|simp only[aO];omega) [AH,Dn,BH,N3,mj,oI,tS]
  simp(disch:=first|omega|simp only[aO];omega) [AH,Dn,BH,N3,mj,E,I,av,aH]
theorem ahr{T:ByteArray}(dr:T.size<=16){Q:dA->aR->W->Prop}: ∀(r i:Nat) (m:W) (A:aR),i+r=T.size->A 0= .string T->A 3=Y i->
    (r3 mj T r i=r-> ∀ak,Q (.a7 0) ak m)->(r3 mj T r i≠r-> ∀ak,ak 2= .bool false->Q .aF ak m)->ia al (.loop Hj) A m Q
  | 0,i,m,A,ai,cE,eL,a8,bE=>by refine ER λcS bm=> ?_;have: ¬(i:Int)<T.size:=(by omega);simp(disch:=first|omega|simp only[aO];omega) [Hj,LL,rT,cE,eL,this];exact a8 rfl _
  | r+1,i,m,A,ai,cE,eL,a8,bE=>by
    refine ER λcS bm=> ?_;have E:(i:Int)<T.size:=(by omega);have c8:=gY (n:=i) (by omega);by_cases hb:mj (sh T i)=true
    · simp(disch:=first|omega|simp only[aO];omega) [Hj,LL,rT,ahp,cE,eL,E,hb,c8];refine bm _ _ (ahr dr r (i+1) _ _ (by omega) (by simp[cE]) (by simp) (λh=>a8 (by simp[r3,hb,h])) (λh=>bE (by simp[r3,hb];exact h)))
    · have fH:mj (sh T i)=false:=(by simpa using hb);simp(disch:=first|omega|simp only[aO];omega) [Hj,LL,rT,ahp,cE,eL,E,fH];exact bE (by simp[r3,fH]) _ (by simp)
theorem ahs(T:ByteArray)(m:W)(cj:Value->W->Prop):gp al 188 [.string T] m cj=cj (.bool (nH T)) m:=by
  refine(rp.y7 ?_).wp;rw[akf (by simp)];by_cases dk:T.size=0
  · have e:=X8 dk;have KF:(T.size:Int)<1:=(by omega);have az: ¬eO T:= λh=>by have:=h.1;omega
    simp(disch:=first|omega|simp only[aO];omega) [Dd,Hg,Hh,Hi,rT,KF,y5 az]
  · have e: ¬T=⟨#[]⟩:= λh=>dk (by rw[h];rfl);have KF:(0:Int)<T.size:=(by omega);have KG: ¬(T.size:Int)<1:=(by omega);have ab:0<T.size:=(by omega);by_cases E:16<T.size
    · have jF:(16:Int)<T.size:=(by omega);have az: ¬eO T:= λh=>by have:=h.2.1;omega
      simp(disch:=first|omega|simp only[aO];omega) [Dd,Hg,Hh,Hi,rT,KG,jF,y5 az]
    · have jF: ¬(16:Int)<T.size:=(by omega);by_cases I:oI (sh T 0)=true
      · simp(disch:=first|omega|simp only[aO];omega) [Dd,Hg,Hh,Hi,rT,BH,KG,ab,jF,I];refine ahr (T:=T) (by omega) T.size 0 _ _ (by omega) (by simp) (by simp) (λh ak=> ?_) (λh ak g=> ?_)
        · simp(disch:=first|omega|simp only[aO];omega) [Bu ⟨by omega,by omega,I,h⟩]
        · have az: ¬eO T:= λbS=>h bS.2.2.2;simp(disch:=first|omega|simp only[aO];omega) [g,y5 az]
      · have az: ¬eO T:= λbS=>I bS.2.2.1;have tx:oI (sh T 0)=false:=(by simpa using I);simp(disch:=first|omega|simp only[aO];omega) [Dd,Hg,Hh,Hi,rT,BH,KG,ab,jF,tx,y5 az]
end Go.Proofs.YtmmkkggfmigppaaGreat
namespace Go.Big
structure b1 where
  kh:Bool
  a:List Int
  b:List Int
  deriving DecidableEq
structure eN where
  kh:Bool
  n:Int
  d:Int
  deriving DecidableEq
def eN.nil:eN:=⟨false,0,1⟩
def eN.nJ:eN:=⟨false,1,1⟩
def eN.ok(_:eN):Bool:=true
def eN.small(_:eN):Bool:=true
def od(x y:eN):Int:=if x.n*y.d<y.n*x.d then-1 else if y.n*x.d<x.n*y.d then 1 else 0
def b1.bF(x:b1):eN:=⟨x.kh,x.a.headD 0,x.b.headD 0⟩
def I6:List b1:=[⟨false,[],[1]⟩,⟨false,[1],[1]⟩,⟨false,[1],[2]⟩,⟨false,[1],[1000]⟩,⟨false,[30],[1]⟩]
def b1.c7(x:b1):Prop:=x∈I6
theorem ahR{x:eN}(_:x.small=true):x.ok=true:=rfl
theorem b1.hS{x:b1}(h:x.c7):0<=x.bF.n:=by
  have: ∀y∈I6,0<=y.bF.n:=by decide
  exact this x h
theorem b1.aA9{x:b1}(h:x.c7):0<=x.bF.n:=b1.hS h
end Go.Big
namespace Go.Proofs.YtmmkkggfmigppaaGreat
open Go Go.DI Go.Big
abbrev bT(l:List Int):Value:=aj (l.map λd=>[eV d]) 1
theorem xa{c4 lb:Type}{f:c4->lb}(h: ∀x y,f x=f y->x=y): ∀{l dh:List c4},l.map f=dh.map f↔l=dh
  |[],[]=>by simp
  |[],_::_=>by simp
  |_::_,[]=>by simp
  | x::l,y::dh=>by simp only[mO,s7,xa h];exact⟨λ⟨a,b⟩=>⟨h _ _ a,b⟩,λ⟨a,b⟩=>⟨by rw[a],b⟩⟩
@[simp] theorem aMp{l dh:List Int}:(l.map λd=>[eV d])=(dh.map λd=>[eV d])↔l=dh:=xa λx y h=>by simpa using h
def eb(x:b1):List Value:=[.bool x.kh,bT x.a,bT x.b]
theorem aB0{x y:b1}:eb x=eb y↔x=y:=by obtain⟨a,b,c⟩:=x;obtain⟨dG,cd,km⟩:=y;simp[eb]
@[simp] theorem aNM{x:b1}:(eb x).length=3:=rfl
abbrev dy(x:b1):Value:= .agg (eb x).toArray
abbrev h5(l:List b1):Value:=aj (l.map eb) 3
@[simp] theorem aNN{l dh:List b1}:l.map eb=dh.map eb↔l=dh:=xa λx y h=>aB0.1 h
theorem aAe{f:Nat}{ts:List Value}{r:Value}(h: ∀m fb,E3 m ts fb->gp al f fb m λdL aq=>JG m aq/\JD aq r dL):bH al f ts r:=
  aEp λm fb aA=>(h m fb aA).b8 λdL aq aQ=>⟨⟨aQ.1.next,aQ.1.X⟩,aQ.2⟩
theorem aAR{T:ByteArray}:bH al 179 [.string T] (.bool (nH T)):=aAe λm fb aA=>by obtain⟨v,rfl,h⟩:=aA.nJ;rw[h.wN,aAS];exact⟨JG.refl m,.cH rfl⟩
open Go Go.DI
def MT:H:= .B (.D [z 0 73 3,ay 1 74 0 10,ao 2 75 74,yY 3 76 75,iC 4 77 1 16 73 76,z 5 3 77]) (.D [z 0 78 8,z 1 79 78,kJ 2 80 79 4 10,m3 3 81 79 112 80,cR 4 82 79 81,z 5 8 82])
def MS:H:= .B (.block 1 (.B (.D [aY 0 71 4 67 69,bL 1 72 4 71,a4 2 10 (.c9 [.string ⟨#[]⟩,aX,aX,aX]),bz 3 4 10 72]) MT)) (.D [cI 0 83 69,z 1 69 83])
def HT:H:= .B (.aM (F 70) (.skip) (.a7 0)) MS
def DH:H:= .B (.D [cY 0 70 69 68]) HT
def DE:H:= .B (.D [z 0 91 4,ay 1 92 0 12,ao 2 93 92,yY 3 94 93,iC 4 95 1 16 91 94,z 5 4 95]) (.D [z 0 96 8,z 1 97 96,eB 2 98 97 1 12,dQ 3 99 97 98,A2 4 100 97 110 99 16,cR 5 101 97 100,z 6 102 101,eB 7 103 102 2 12,dQ 8 104 102 103,A2 9 105 102 110 104 64,cR 10 106 102 105,z 11 107 106,eB 12 108 107 3 12,dQ 13 109 107 108,eB 14 110 107 1 1,dQ 15 111 107 110,k3 16 112 107 111,rS 17 113 107 112,vn 18 114 107 110 109 113,cR 19 115 107 114,z 20 8 115])
def DD:H:= .B (.block 3 (.B (.D [aY 0 89 4 85 87,bL 1 90 4 89,a4 2 12 (.c9 [.string ⟨#[]⟩,aG,aG,aG]),bz 3 4 12 90]) DE)) (.D [cI 0 116 87,z 1 87 116])
def AS:H:= .B (.aM (F 88) (.skip) (.a7 2)) DD
def yF:H:= .B (.D [cY 0 88 87 86]) AS
def afn:H:= .B (.block 5 (.B (.D [aY 0 123 7 119 121,bL 1 124 7 123,a4 2 14 (.c9 [.string ⟨#[]⟩,aG,aG,aG,.bool false,aX,aX]),bz 3 7 14 124]) (.D [z 0 125 5,ay 1 126 0 14,ao 2 127 126,yY 3 128 127,iC 4 129 1 16 125 128,z 5 5 129]))) (.D [cI 0 130 121,z 1 121 130])
def Ty:H:= .B (.aM (F 122) (.skip) (.a7 4)) afn
def MU:H:= .B (.D [cY 0 122 121 120]) Ty
def DG:H:= .B (.D [z 0 138 5,ay 1 139 0 16,ao 2 140 139,yY 3 141 140,iC 4 142 1 16 138 141,z 5 5 142]) (.D [z 0 143 8,z 1 144 143,eB 2 145 144 1 16,dQ 3 146 144 145,eB 4 147 144 2 1,dQ 5 148 144 147,k3 6 149 144 148,rS 7 150 144 149,vn 8 151 144 110 146 150,cR 9 152 144 151,z 10 153 152,eB 11 154 153 2 16,dQ 12 155 153 154,eB 13 156 153 3 1,dQ 14 157 153 156,k3 15 158 153 157,rS 16 159 153 158,vn 17 160 153 110 155 159,cR 18 161 153 160,z 19 162 161,eB 20 163 162 3 1,dQ 21 164 162 163,eB 22 165 162 2 16,dQ 23 166 162 165,ml 24 167 162 7 164 166,eB 25 168 162 1 167,dQ 26 169 162 168,pl 27 170 162 169 4,cR 28 171 162 170,z 29 8 171])
def DF:H:= .B (.block 7 (.B (.D [aY 0 136 3 132 134,bL 1 137 3 136,a4 2 16 (.c9 [.string ⟨#[]⟩,aG,aG]),bz 3 3 16 137]) DG)) (.D [cI 0 172 134,z 1 134 172])
def AR:H:= .B (.aM (F 135) (.skip) (.a7 6)) DF
def yG:H:= .B (.D [cY 0 135 134 133]) AR
def MP:H:= .B (.D [z 0 180 6,ay 1 181 0 18,ao 2 182 181,yY 3 183 182,iC 4 184 1 16 180 183,z 5 6 184]) (.D [z 0 185 8,z 1 186 185,kJ 2 187 186 17 18,eB 3 188 186 2 1,dQ 4 189 186 188,k3 5 190 186 189,qX 6 191 186 113 187 190,cR 7 192 186 191,z 8 8 192])
def MO:H:= .B (.block 9 (.B (.D [aY 0 178 17 174 176,bL 1 179 17 178,a4 2 18 (.c9 [.string ⟨#[]⟩,aG,aG,aG,aG,aG,aG,aG,aG,aX,aX,.bool false,aX,aX,.bool false,aX,aX]),bz 3 17 18 179]) MP)) (.D [cI 0 193 176,z 1 176 193])
def HR:H:= .B (.aM (F 177) (.skip) (.a7 8)) MO
def DJ:H:= .B (.D [cY 0 177 176 175]) HR
def MR:H:= .B (.D [z 0 201 7,ay 1 202 0 20,ao 2 203 202,yY 3 204 203,iC 4 205 1 16 201 204,z 5 7 205]) (.D [z 0 206 8,z 1 207 206,eB 2 208 207 1 20,dQ 3 209 207 208,eB 4 210 207 5 1,dQ 5 211 207 210,k3 6 212 207 211,rS 7 213 207 212,vn 8 214 207 110 209 213,cR 9 215 207 214,z 10 8 215])
def MQ:H:= .B (.block 11 (.B (.D [aY 0 199 2 195 197,bL 1 200 2 199,a4 2 20 (.c9 [.string ⟨#[]⟩,aG]),bz 3 2 20 200]) MR)) (.D [cI 0 216 197,z 1 197 216])
def HS:H:= .B (.aM (F 198) (.skip) (.a7 10)) MQ
def DK:H:= .B (.D [cY 0 198 197 196]) HS
def yE:H:= .B (.D [a5 0 2 0]) (.aF)
def yD:H:= .B (.B (.D [z 0 217 8,g6 1 218 217,z 2 219 218,du 3 220 219 3,jv 4 221 219 114 220,jh 5 222 219 221,c6 6 223 219 222,z 7 224 223,du 8 225 224 4,jv 9 226 224 114 225,jh 10 227 224 226,c6 11 228 224 227,z 12 229 228,du 13 230 229 5,jv 14 231 229 114 230,jh 15 232 229 231,c6 16 233 229 232,z 17 234 233,du 18 235 234 6,jv 19 236 234 114 235,jh 20 237 234 236,c6 21 238 234 237,z 22 239 238,du 23 240 239 7,jv 24 241 239 114 240,jh 25 242 239 241,c6 26 243 239 242]) (.aM (F 243) (.B (.D [a5 0 2 1]) (.aF)) (.skip))) yE
def afr:H:= .B (.B (.D [ay 0 194 6 1,ao 1 195 194,bq 2 196 195,a5 3 197 0]) (.block 10 (.loop DK))) yD
def afp:H:= .B (.B (.D [ay 0 173 5 1,ao 1 174 173,bq 2 175 174,a5 3 176 0]) (.block 8 (.loop DJ))) afr
def afo:H:= .B (.B (.D [ay 0 131 4 1,ao 1 132 131,bq 2 133 132,a5 3 134 0]) (.block 6 (.loop yG))) afp
def afm:H:= .B (.B (.D [ay 0 117 3 1,ao 1 118 117,a4 2 119 (.nO 7 (F 118) (some (.const (.int .i64 1))) none),bq 3 120 119,a5 4 121 0]) (.block 4 (.loop MU))) afo
def afu:H:= .B (.B (.D [ay 0 84 2 1,ao 1 85 84,bq 2 86 85,a5 3 87 0]) (.block 2 (.loop yF))) afm
def aft:H:= .B (.B (.D [ay 0 66 1 1,ao 1 67 66,bq 2 68 67,a5 3 69 0]) (.block 0 (.loop DH))) afu
def afs:H:= .B (.D [cr 0 8 true]) aft
def afq:H:= .B (.D [dV 0 3,dV 1 4,dV 2 5,dV 3 6,dV 4 7]) afs
def vd:H:= .B (.B (.D [ay 0 21 0 1,ao 1 22 21,A3 2 23 110 22 1 4,g6 3 24 23,z 4 25 24,eg 5 26 25 1 1,dM 6 27 25 26,iT 7 28 25 27,mm 8 29 25 28 4,c6 9 30 25 29,z 10 31 30,eg 11 32 31 2 1,dM 12 33 31 32,iT 13 34 31 33,mm 14 35 31 34 4,c6 15 36 31 35,z 16 37 36,eg 17 38 37 3 1,dM 18 39 37 38,iT 19 40 37 39,mm 20 41 37 40 40,c6 21 42 37 41,z 22 43 42,eg 23 44 43 4 1,dM 24 45 43 44,iT 25 46 43 45,mm 26 47 43 46 24,c6 27 48 43 47,z 28 49 48,eg 29 50 49 5 1,dM 30 51 49 50,iT 31 52 49 51,mm 32 53 49 52 4,c6 33 54 49 53,z 34 55 54,eg 35 56 55 6 1,dM 36 57 55 56,iT 37 58 55 57,mm 38 59 55 58 12,c6 39 60 55 59,z 40 61 60,mI 41 62 61 7 1,jv 42 63 61 111 62,jh 43 64 61 63,c6 44 65 61 64]) (.aM (F 65) (.B (.D [a5 0 2 1]) (.aF)) (.skip))) afq
def vc:H:=
  .B (
  .D [
 dJ 0 1 0,
 a5 1 2 0]) vd
def tQ:bM:=⟨244,[.bw 2],vc⟩
theorem ayy:bW al 62=some tQ:=by kernel_rfl
def aag:H:= .B (.D [z 0 7 0,z 1 8 1,df 2 9 .geq (F 7) (F 8),z 3 10 9,dg 4 11 10 0,dg 5 12 10 2,cQ 6 13 10 true (.e8 .leq .fW (F 11) (F 12)),cR 7 14 10 13,z 8 6 14]) (.aF)
def aaf:H:=
  .B (
  .D [
 cr 0 6 false]) aag
def RL:bM:=⟨15,[.bw 6],aaf⟩
theorem anf:bW al 110=some RL:=by kernel_rfl
def wV:H:= .B (.D [ay 0 52 2 5,ao 1 53 52,z 2 54 4,b0 3 55 110 [F 53,.const aG,F 54],g6 4 56 55,z 5 57 56,eg 6 58 57 3 1,dM 7 59 57 58,eg 8 60 57 2 5,dM 9 61 57 60,n7 10 62 57 7 59 61,eg 11 63 57 1 62,dM 12 64 57 63,eg 13 65 57 1 5,dM 14 66 57 65,cQ 15 67 57 false (.e8 .sub .fW (F 66) (.const (.int .i64 1))),qW 16 68 57 64 67,c6 17 69 57 68,z 18 70 69,eg 19 71 70 1 5,dM 20 72 70 71,cQ 21 73 70 false (.dY 110 [F 72,.const (.int .i64 1),.const (.int .i64 4)]),jh 22 74 70 73,c6 23 75 70 74,z 24 76 75,eg 25 77 76 3 5,dM 26 78 76 77,cQ 27 79 76 false (.dY 110 [F 78,.const (.int .i64 1),.const (.int .i64 64)]),jh 28 80 76 79,c6 29 81 76 80,z 30 82 81,eg 31 83 82 4 5,mI 32 84 82 3 83,jv 33 85 82 170 84,jh 34 86 82 85,c6 35 87 82 86]) (.aM (F 87) (.B (.D [cr 0 2 false]) (.aF)) (.skip))
def wU:H:= .B (.block 1 (.B (.D [z 0 49 47,aY 1 50 7 45 47,bL 2 51 7 50,a4 3 5 (.c9 [.string ⟨#[]⟩,aG,aG,aG,.bool false,aX,aX]),z 4 4 49,bz 5 7 5 51]) wV)) (.D [cI 0 88 47,z 1 47 88])
def wT:H:= .B (.aM (F 48) (.skip) (.a7 0)) wU
def yy:H:= .B (.D [cY 0 48 47 46]) wT
def pk:H:= .B (.D [cr 0 2 true]) (.aF)
def wS:H:= .B (.B (.D [ay 0 43 3 1,ao 1 44 43,a4 2 45 (.nO 7 (F 44) (some (.const (.int .i64 1))) none),bq 3 46 45,a5 4 47 0]) (.block 0 (.loop yy))) pk
def wR:H:= .B (.B (.D [ay 0 14 0 3,ao 1 15 14,df 2 16 .neq (F 15) (.const (.string ⟨#[]⟩)),z 3 17 16,eg 4 18 17 1 3,dM 5 19 17 18,D2 6 20 17 19,c6 7 21 17 20,z 8 22 21,eg 9 23 22 2 3,dM 10 24 22 23,cQ 11 25 22 false (.e8 .neq .fW (F 24) (.const (.int .i64 (-1)))),c6 12 26 22 25,z 13 27 26,eg 14 28 27 3 3,dM 15 29 27 28,D2 16 30 27 29,c6 17 31 27 30,z 18 32 31,eg 19 33 32 4 3,mI 20 34 32 3 33,jv 21 35 32 170 34,jh 22 36 32 35,c6 23 37 32 36,z 24 38 37,eg 25 39 38 4 3,mI 26 40 38 3 39,jv 27 41 38 171 40,c6 28 42 38 41]) (.aM (F 42) (.B (.D [cr 0 2 false]) (.aF)) (.skip))) wS
def wQ:H:= .B (.D [ay 0 10 3 1,ao 1 11 10,yX 2 12 7 11,bL 3 13 7 12,a4 4 3 (.c9 [.string ⟨#[]⟩,aG,aG,aG,.bool false,aX,aX]),bz 5 7 3 13]) wR
def wP:H:= .B (.B (.D [ay 0 6 3 1,ao 1 7 6,bq 2 8 7,kI 3 9 8 0]) (.aM (F 9) (.B (.D [cr 0 2 false]) (.aF)) (.skip))) wQ
def wO:H:=
  .B (
  .D [
 dJ 0 1 0,
 cr 1 2 false]) wP
def u7:bM:=⟨89,[.bw 2],wO⟩
theorem ang:bW al 111=some u7:=by kernel_rfl
def RQ:H:= .B (.D [z 0 52 5,bq 1 53 52,z 2 54 3,nF 3 55 53 54,z 4 56 55,du 5 57 56 5,cQ 6 58 56 false (.dY 172 [F 57,.func 170]),jh 7 59 56 58,c6 8 60 56 59,z 9 61 60,du 10 62 61 5,du 11 63 61 4,n7 12 64 61 3 62 63,mI 13 65 61 3 64,jv 14 66 61 171 65,c6 15 67 61 66]) (.aM (F 67) (.B (.D [cr 0 2 false]) (.aF)) (.skip))
def RP:H:= .B (.block 1 (.B (.D [z 0 49 47,aY 1 50 1 45 47,ao 2 51 50,z 3 4 49,z 4 5 51]) RQ)) (.D [cI 0 68 47,z 1 47 68])
def RO:H:= .B (.aM (F 48) (.skip) (.a7 0)) RP
def RU:H:= .B (.D [cY 0 48 47 46]) RO
def RN:H:= .B (.D [z 0 85 7,kI 1 86 85 0,z 2 87 86,dg 3 88 87 10,pl 4 89 87 88 0,cR 5 90 87 89,z 6 91 90,kJ 7 92 91 4 1,m3 8 93 91 176 92,cR 9 94 91 93,z 10 2 94]) (.aF)
def RT:H:= .B (.D [bL 0 80 3 6,bL 1 81 3 8,db 2 82 175 80 81,z 3 79 82,b3 4 83 0 79,b3 5 84 1 79,z 6 10 83,z 7 11 84]) RN
def RS:H:= .B (.D [tT 0 76 174 1 1,z 1 75 76,b3 2 77 0 75,b3 3 78 1 75,a4 4 8 (.c9 [.bool false,aX,aX]),bz 5 3 8 77,z 6 9 78]) RT
def RR:H:= .B (.D [ay 0 70 1 1,ao 1 71 70,b0 2 72 173 [F 71],z 3 69 72,b3 4 73 0 69,b3 5 74 1 69,a4 6 6 (.c9 [.bool false,aX,aX]),bz 7 3 6 73,z 8 7 74]) RS
def aak:H:= .B (.B (.D [ay 0 44 2 1,ao 1 45 44,bq 2 46 45,a5 3 47 0]) (.block 0 (.loop RU))) RR
def aaj:H:= .B (.B (.D [z 0 15 3,A3 1 16 110 15 1 4,g6 2 17 16,z 3 18 17,eg 4 19 18 3 1,dM 5 20 18 19,iT 6 21 18 20,du 7 22 18 3,qW 8 23 18 21 22,c6 9 24 18 23,z 10 25 24,eg 11 26 25 2 1,dM 12 27 25 26,iT 13 28 25 27,du 14 29 25 3,qW 15 30 25 28 29,c6 16 31 25 30,z 17 32 31,eg 18 33 32 1 1,dM 19 34 32 33,cQ 20 35 32 false (.dY 172 [F 34,.func 170]),jh 21 36 32 35,c6 22 37 32 36,z 23 38 37,eg 24 39 38 3 1,dM 25 40 38 39,cQ 26 41 38 false (.dY 172 [F 40,.func 170]),jh 27 42 38 41,c6 28 43 38 42]) (.aM (F 43) (.B (.D [cr 0 2 false]) (.aF)) (.skip))) aak
def aai:H:= .B (.D [ay 0 12 1 1,ao 1 13 12,bq 2 14 13,z 3 3 14]) aaj
def aah:H:=
  .B (
  .D [
 dJ 0 1 0,
 cr 1 2 false]) aai
def RM:bM:=⟨95,[.bw 2],aah⟩
theorem anh:bW al 112=some RM:=by kernel_rfl
def CY:H:= .B (.B (.D [z 0 45 7,z 1 46 1,h0 2 47 46 1,b0 3 48 110 [F 45,.const aG,F 47],g6 4 49 48,z 5 50 49,du 6 51 50 5,du 7 52 50 7,n7 8 53 50 1 51 52,dM 9 54 50 53,c6 10 55 50 54]) (.aM (F 55) (.B (.D [cr 0 4 false]) (.aF)) (.skip))) (.D [z 0 56 5,z 1 57 7,aY 2 58 1 56 57,rM 3 (.store 1 (F 58) (.const (.bool true)))])
def CX:H:= .B (.block 1 (.B (.D [aY 0 43 1 39 41,ao 1 44 43,z 2 7 44]) CY)) (.D [cI 0 59 41,z 1 41 59])
def CW:H:= .B (.aM (F 42) (.skip) (.a7 0)) CX
def GH:H:= .B (.D [cY 0 42 41 40]) CW
def wW:H:= .B (.D [cr 0 4 true]) (.aF)
def GG:H:= .B (.B (.D [ay 0 38 9 2,ao 1 39 38,bq 2 40 39,a5 3 41 0]) (.block 0 (.loop GH))) wW
def GF:H:= .B (.D [z 0 36 1,AZ 1 37 36 36,z 2 5 37]) GG
def GD:H:= .B (.B (.D [ay 0 8 1 2,ao 1 9 8,ay 2 10 2 2,ao 3 11 10,ay 4 12 3 2,ao 5 13 12,ay 6 14 4 2,bL 7 15 5 14,b0 8 16 177 [F 9,F 11,F 13,F 15],g6 9 17 16,z 10 18 17,eg 11 19 18 9 2,dM 12 20 18 19,iT 13 21 18 20,H7 14 22 18 21,c6 15 23 18 22,z 16 24 23,eg 17 25 24 2 2,dM 18 26 24 25,eg 19 27 24 10 2,dM 20 28 24 27,eg 21 29 24 11 2,mI 22 30 24 3 29,eg 23 31 24 14 2,mI 24 32 24 3 31,cQ 25 33 24 false (.dY 178 [F 26,F 28,F 30,F 32]),jh 26 34 24 33,c6 27 35 24 34]) (.aM (F 35) (.B (.D [cr 0 4 false]) (.aF)) (.skip))) GF
def GC:H:=
  .B (
  .D [
 dJ 0 2 0,
 cr 1 4 false]) GD
def CV:bM:=⟨60,[.bw 4],GC⟩
theorem ani:bW al 113=some CV:=by kernel_rfl
def C1:H:= .B (.B (.D [z 0 13 5,b0 1 14 179 [F 13],g6 2 15 14,z 3 16 15,du 4 17 16 3,du 5 18 16 5,cQ 6 19 16 false (.m7 .str (.bool false) false (F 17) (F 18)),c6 7 20 16 19]) (.aM (F 20) (.B (.D [cr 0 2 false]) (.aF)) (.skip))) (.D [z 0 21 3,z 1 22 5,rM 2 (.l3 .str (F 21) (F 22) (.const (.bool true)))])
def C0:H:= .B (.block 1 (.B (.D [aY 0 11 1 7 9,ao 1 12 11,z 2 5 12]) C1)) (.D [cI 0 23 9,z 1 9 23])
def CZ:H:= .B (.aM (F 10) (.skip) (.a7 0)) C0
def GI:H:= .B (.D [cY 0 10 9 8]) CZ
def C2:H:= .B (.D [cr 0 2 true]) (.aF)
def aan:H:= .B (.B (.D [z 0 7 0,bq 1 8 7,a5 2 9 0]) (.block 0 (.loop GI))) C2
def aam:H:= .B (.D [a4 0 6 (.m6),z 1 3 6]) aan
def aal:H:=
  .B (
  .D [
 cr 0 2 false]) aam
def RV:bM:=⟨24,[.bw 2],aal⟩
theorem anj:bW al 114=some RV:=by kernel_rfl
def abw:H:= .B (.D [z 0 10 4,kI 1 11 10 0,z 2 12 11,eB 3 13 12 0 3,dQ 4 14 12 13,rR 5 15 12 14,cR 6 16 12 15,z 7 17 16,eB 8 18 17 1 3,dQ 9 19 17 18,m3 10 20 17 216 19,n8 11 21 17 20 32,cR 12 22 17 21,z 13 23 22,eB 14 24 23 2 3,dQ 15 25 23 24,m3 16 26 23 216 25,n8 17 27 23 26 32,cR 18 28 23 27,z 19 2 28]) (.aF)
def abv:H:= .B (.D [bL 0 6 3 1,b0 1 7 215 [F 6],z 2 5 7,b3 3 8 0 5,b3 4 9 1 5,a4 5 3 (.c9 [.bool false,aX,aX]),bz 6 3 3 8,z 7 4 9]) abw
def abt:H:=
  .B (
  .D [
 dJ 0 1 0,
 cr 1 2 false]) abv
def LB:bM:=⟨29,[.bw 2],abt⟩
theorem abu:bW al 170=some LB:=by kernel_rfl
def abz:H:= .B (.D [ay 0 3 1 1,ao 1 4 3,b0 2 5 216 [F 4],jX 3 6 5 0,z 4 2 6]) (.aF)
def abx:H:=
  .B (
  .D [
 dJ 0 1 0,
 cr 1 2 false]) abz
def LC:bM:=⟨7,[.bw 2],abx⟩
theorem aby:bW al 171=some LC:=by kernel_rfl
def G0:H:= .B (.D [z 0 13 1,bL 1 14 3 6,a4 2 15 (.iN (F 13) [F 14]),g6 3 16 15]) (.aM (F 16) (.B (.D [cr 0 4 false]) (.aF)) (.skip))
def GZ:H:= .B (.block 1 (.B (.D [aY 0 11 3 7 9,bL 1 12 3 11,a4 2 6 (.c9 [.bool false,aX,aX]),bz 3 3 6 12]) G0)) (.D [cI 0 17 9,z 1 9 17])
def GY:H:= .B (.aM (F 10) (.skip) (.a7 0)) GZ
def LD:H:= .B (.D [cY 0 10 9 8]) GY
def G1:H:= .B (.D [cr 0 4 true]) (.aF)
def abB:H:= .B (.B (.D [z 0 7 0,bq 1 8 7,a5 2 9 0]) (.block 0 (.loop LD))) G1
def abA:H:=
  .B (
  .D [
 cr 0 4 false]) abB
def Si:bM:=⟨18,[.bw 4],abA⟩
theorem apT:bW al 172=some Si:=by kernel_rfl
def G7:H:= .B (.block 5 (.B (.D [z 0 46 44,aY 1 47 3 42 44,bL 2 48 3 47,a4 3 7 (.c9 [.bool false,aX,aX]),z 4 6 46,bz 5 3 7 48]) (.D [z 0 49 3,z 1 50 5,z 2 51 3,z 3 52 5,aY 4 53 1 51 52,ao 5 54 53,z 6 55 54,mI 7 56 55 3 7,jv 8 57 55 171 56,du 9 58 55 57,dg 10 59 58 3,dg 11 60 58 6,ml 12 61 58 1 59 60,dQ 13 62 58 61,D3 14 63 55 58 62,c6 15 64 55 63,aY 16 65 1 49 50,bz 17 1 65 64]))) (.D [cI 0 66 44,z 1 44 66])
def G6:H:= .B (.aM (F 45) (.skip) (.a7 4)) G7
def G8:H:= .B (.D [cY 0 45 44 43]) G6
def G5:H:= .B (.D [ay 0 38 2 1,ao 1 39 38,z 2 40 5,aY 3 41 1 39 40,ao 4 42 41,bq 5 43 42,a5 6 44 0]) (.block 4 (.loop G8))
def G4:H:= .B (.D [z 0 23 3,z 1 24 5,z 2 25 3,z 3 26 5,aY 4 27 1 25 26,ao 5 28 27,z 6 29 28,eg 7 30 29 3 1,dM 8 31 29 30,du 9 32 29 5,n7 10 33 29 3 31 32,mI 11 34 29 3 33,jv 12 35 29 171 34,c6 13 36 29 35,aY 14 37 1 23 24,bz 15 1 37 36]) G5
def G3:H:= .B (.block 3 (.B (.D [z 0 22 20,z 1 5 22]) G4)) (.D [cI 0 67 20,z 1 20 67])
def G2:H:= .B (.aM (F 21) (.skip) (.a7 2)) G3
def G9:H:= .B (.D [cY 0 21 20 19]) G2
def LG:H:= .B (.block 1 (.B (.D [z 0 18 3,bq 1 19 18,a5 2 20 0]) (.block 2 (.loop G9)))) (.D [z 0 16 4,cI 1 17 16,z 2 4 17])
def LH:H:= .B (.B (.D [z 0 12 4,z 1 13 3,bq 2 14 13,df 3 15 .leq (F 12) (F 14)]) (.aM (F 15) (.skip) (.a7 0))) LG
def LF:H:= .B (.D [z 0 68 3,b0 1 69 225 [F 68,.func 226],z 2 2 69]) (.aF)
def abH:H:= .B (.B (.D [a5 0 4 0]) (.block 0 (.loop LH))) LF
def abG:H:= .B (.D [ay 0 8 3 1,ao 1 9 8,bq 2 10 9,AZ 3 11 10 10,z 4 3 11]) abH
def abF:H:=
  .B (
  .D [
 dJ 0 1 0,
 cr 1 2 false]) abG
def Sj:bM:=⟨70,[.bw 2],abF⟩
theorem aqf:bW al 176=some Sj:=by kernel_rfl
def AD:H:= .B (.D [a4 0 37 (.pC 1 5 (F 7)),b0 1 38 227 [F 37,.func 228],z 2 8 38]) (.aF)
def AB:H:= .B (.B (.D [z 0 9 0,A3 1 10 110 9 1 6,g6 2 11 10,z 3 12 11,du 4 13 12 1,cQ 5 14 12 false (.dY 110 [F 13,.const aG,.const (.int .i64 4)]),jh 6 15 12 14,c6 7 16 12 15,z 8 17 16,du 9 18 17 0,du 10 19 17 1,cQ 11 20 17 false (.e8 .add .fW (F 18) (F 19)),mm 12 21 17 20 8,c6 13 22 17 21,z 14 23 22,du 15 24 23 2,du 16 25 23 0,du 17 26 23 0,du 18 27 23 1,cQ 19 28 23 false (.e8 .add .fW (F 26) (F 27)),cQ 20 29 23 false (.dY 110 [F 24,F 25,F 28]),jh 21 30 23 29,c6 22 31 23 30,z 23 32 31,cQ 24 33 32 false (.ph 1 5 (F 7) (.const aG)),dM 25 34 32 33,D2 26 35 32 34,c6 27 36 32 35]) (.aM (F 36) (.B (.D [cr 0 8 false]) (.aF)) (.skip))) AD
def AA:H:=
  .B (
  .D [
 dJ 0 7 3,
 cr 1 8 false]) AB
def yB:bM:=⟨39,[.bw 8],AA⟩
theorem aqg:bW al 177=some yB:=by kernel_rfl
def Hb:H:= .B (.D [z 0 9 1,bq 1 10 9,z 2 11 0,D0 3 12 11 1,df 4 13 .eql (F 10) (F 12),z 5 14 13,dg 6 15 14 1,cQ 7 16 14 true (.dY 172 [F 15,.func 229]),cR 8 17 14 16,z 9 18 17,kJ 10 19 18 3 6,m3 11 20 18 170 19,cR 12 21 18 20,z 13 22 21,kJ 14 23 22 3 6,m3 15 24 22 230 23,cR 16 25 22 24,z 17 26 25,kJ 18 27 26 3 7,m3 19 28 26 170 27,cR 20 29 26 28,z 21 8 29]) (.aF)
def Ha:H:=
  .B (
  .D [
 dJ 0 6 2,
 dJ 1 7 3,
 cr 2 8 false]) Hb
def Db:bM:=⟨30,[.bw 8],Ha⟩
theorem aqh:bW al 178=some Db:=by kernel_rfl
def Mc:H:= .B (.D [z 0 13 1,z 1 14 6,a4 2 15 (.iN (F 13) [F 14]),g6 3 16 15]) (.aM (F 16) (.B (.D [cr 0 4 false]) (.aF)) (.skip))
def Mb:H:= .B (.block 1 (.B (.D [aY 0 11 1 7 9,ao 1 12 11,z 2 6 12]) Mc)) (.D [cI 0 17 9,z 1 9 17])
def Ma:H:= .B (.aM (F 10) (.skip) (.a7 0)) Mb
def Sy:H:= .B (.D [cY 0 10 9 8]) Ma
def Md:H:= .B (.D [cr 0 4 true]) (.aF)
def ac4:H:= .B (.B (.D [z 0 7 0,bq 1 8 7,a5 2 9 0]) (.block 0 (.loop Sy))) Md
def ac3:H:=
  .B (
  .D [
 cr 0 4 false]) ac4
def Sx:bM:=⟨18,[.bw 4],ac3⟩
theorem atq:bW al 225=some Sx:=by kernel_rfl
def ac6:H:= .B (.D [z 0 3 0,z 1 2 3]) (.aF)
def ac5:H:=
  .B (
  .D [
 cr 0 2 false]) ac6
def Sz:bM:=⟨4,[.bw 2],ac5⟩
theorem atr:bW al 226=some Sz:=by kernel_rfl
def Hy:H:= .B (.D [z 0 13 1,z 1 14 6,a4 2 15 (.iN (F 13) [F 14]),g6 3 16 15]) (.aM (F 16) (.B (.D [cr 0 4 false]) (.aF)) (.skip))
def Hx:H:= .B (.block 1 (.B (.D [aY 0 11 1 7 9,ao 1 12 11,z 2 6 12]) Hy)) (.D [cI 0 17 9,z 1 9 17])
def Hw:H:= .B (.aM (F 10) (.skip) (.a7 0)) Hx
def Me:H:= .B (.D [cY 0 10 9 8]) Hw
def Hz:H:= .B (.D [cr 0 4 true]) (.aF)
def ac8:H:= .B (.B (.D [z 0 7 0,bq 1 8 7,a5 2 9 0]) (.block 0 (.loop Me))) Hz
def ac7:H:=
  .B (
  .D [
 cr 0 4 false]) ac8
def SA:bM:=⟨18,[.bw 4],ac7⟩
theorem ats:bW al 227=some SA:=by kernel_rfl
def ada:H:= .B (.D [z 0 3 0,A3 1 4 110 3 0 8,z 2 2 4]) (.aF)
def ac9:H:=
  .B (
  .D [
 cr 0 2 false]) ada
def SB:bM:=⟨5,[.bw 2],ac9⟩
theorem att:bW al 228=some SB:=by kernel_rfl
def ade:H:= .B (.D [bL 0 3 3 1,b0 1 4 170 [F 3],z 2 5 4,kJ 3 6 5 3 1,m3 4 7 5 171 6,cR 5 8 5 7,z 6 2 8]) (.aF)
def adb:H:=
  .B (
  .D [
 dJ 0 1 0,
 cr 1 2 false]) ade
def SC:bM:=⟨9,[.bw 2],adb⟩
theorem atu:bW al 229=some SC:=by kernel_rfl
def atz:H:= .B (.D [z 0 17 6,kI 1 18 17 0,z 2 19 18,dg 3 20 19 5,n8 4 21 19 20 0,cR 5 22 19 21,z 6 2 22]) (.aF)
def aty:H:= .B (.D [bL 0 12 3 1,bL 1 13 3 3,db 2 14 175 12 13,z 3 11 14,b3 4 15 0 11,b3 5 16 1 11,z 6 5 15,z 7 6 16]) atz
def atx:H:= .B (.D [tT 0 8 174 1 1,z 1 7 8,b3 2 9 0 7,b3 3 10 1 7,a4 4 3 (.c9 [.bool false,aX,aX]),bz 5 3 3 9,z 6 4 10]) aty
def atv:H:=
  .B (
  .D [
 dJ 0 1 0,
 cr 1 2 false]) atx
def adf:bM:=⟨23,[.bw 2],atv⟩
theorem atw:bW al 230=some adf:=by kernel_rfl
theorem ahj{l:List b1}: ∀r∈l.map eb,r.length=3/\ ∀v∈r,ha v=true:= λr aw=>by obtain⟨x,_,rfl⟩:=hn.1 aw;exact⟨rfl,λv ad=>by simp[eb]at ad;rcases ad with rfl|rfl|rfl<;>rfl⟩
theorem aB1{l:List b1}:(l.map eb).flatten.length=l.length*3:=by rw[sq (J:=3) λr aw=>(ahj r aw).1,j5]
end Go.Proofs.YtmmkkggfmigppaaGreat
namespace Go.Big
structure ik where
  name:ByteArray
  s:List b1
  cy:List (List b1)
  e:List b1
  deriving DecidableEq
def ik.c7(x:ik):Prop:= ∃J,2<=J/\J<200/\x.s=[⟨false,[1],[1]⟩]/\x.cy=[[⟨false,[],[1]⟩]]/\x.e=[⟨false,[1],[J]⟩]
def ik.mJ(_:ik):Bool:=true
end Go.Big
namespace Go.Proofs.YtmmkkggfmigppaaGreat
open Go Go.DI Go.Big
abbrev X9(l:List (List b1)):Value:=aj (l.map λr=>[h5 r]) 1
def gZ(x:ik):List Value:=[.string x.name,h5 x.s,X9 x.cy,h5 x.e]
@[simp] theorem aJM{l dh:List (List b1)}:(l.map λr=>[h5 r])=(dh.map λr=>[h5 r])↔l=dh:=xa λx y h=>by simpa using h
abbrev zu(x:ik):Value:= .agg (gZ x).toArray
theorem l6{c4:Type}{l:List c4}{i:Nat}{x:c4}(h:l[i]?=some x):l.take (i+1)=l.take i++[x]:=by rw[List.take_add_one,h];rfl
end Go.Proofs.YtmmkkggfmigppaaGreat
namespace Go.Big
def dK(a b c:Int):Bool:=decide (b<=a)&&decide (a<=c)
end Go.Big
namespace Go.Proofs.YtmmkkggfmigppaaGreat
open Go Go.DI Go.Big
theorem am8{a b c:Int}:bH al 110 [Y a,Y b,Y c] (.bool (dK a b c)):=by refine ei (dD (aC:=⟨[],[]⟩) anf (by kernel_rfl) (by simp[RL]) ?_);by_cases h:b<=a<;>simp(disch:=first|omega|simp only[aO];omega) [RL,aaf,aag,h,dK,-O,-U,-N,-S,-List.map_map]
noncomputable def r7:bC al:= .dN 110 (Int×Int×Int) (λ⟨a,b,c⟩=>True) (λ⟨a,b,c⟩=>[Y a,Y b,Y c]) (λ⟨a,b,c⟩=> .bool (dK a b c)) (λ⟨a,b,c⟩ h=>am8)
@[simp] theorem aOL:r7.f=110:=rfl
@[simp] theorem aOM{a:Int}{b:Int}{c:Int}:r7.fn ([Y a,Y b,Y c])=some (.bool (dK a b c)):=bC.eh (x:=(a,b,c)) trivial λy af=>by obtain⟨uA,nj,se⟩:=y;simpa using af
theorem zv{x:b1}{n:Bool}{a b:List Int}(h:[dy x]=[.agg #[.bool n,bT a,bT b]]):x=⟨n,a,b⟩:=by obtain⟨ho,dG,cd⟩:=x;simpa[eb]using h
noncomputable def U5(u:Nat)(l:List b1)(p:b1->Bool)(ab: ∀x∈l,bH al u [dy x] (.bool (p x))):bC al:= .dN u b1 (λx=>x∈l) (λx=>[dy x]) (λx=> .bool (p x)) ab
@[simp] theorem aOD{u:Nat}{l:List b1}{p:b1->Bool}{ab: ∀x∈l,bH al u [dy x] (.bool (p x))}:(U5 u l p ab).f=u:=rfl
@[simp] theorem aOE{u:Nat}{l:List b1}{p:b1->Bool}{ab: ∀x∈l,bH al u [dy x] (.bool (p x))}{n:Bool}{a b:List Int}(h:b1.mk n a b∈l):(U5 u l p ab).fn [.agg #[.bool n,bT a,bT b]]=some (.bool (p ⟨n,a,b⟩)):=
  bC.eh (x:=b1.mk n a b) h λy af=>zv af
theorem W0{u:Nat}{l:List b1}{p:b1->Bool}(az:l.length<1000000)(ab: ∀x∈l,bH al u [dy x] (.bool (p x))):bH al 172 [h5 l,.func (.func u) #[] #[]] (.bool (l.all p)):=by
  refine ei (dD (aC:=⟨[],[]⟩) apT (by kernel_rfl) (by simp[Si]) ?_);simp(disch:=first|omega|simp only[aO];omega) [Si,abA,abB,-O,-U,-N,-S,-List.map_map];refine h9 (aC:=⟨[U5 u l p ab],[]⟩) (λi A t=>(l.take i).all p=true/\A 1= .func (.func u) #[] #[]/\A 7=h5 l/\A 8=Y l.length/\A 9=Y i) l.length ?_ ?_ 0 _ _ (ht _) ⟨by simp,by simp,by simp,by simp,by simp⟩
  · rintro i A t ai ⟨aA,ba,fa,b9,gT⟩ cS bm;have G:l[i]?=some l[i]:=cD ai;have ax:l[i]∈l:=jQ ai;have cg:=gY (n:=i) (by omega);have b6:(i:Int)<l.length:=(by omega);cases hb:p l[i]
    · simp(disch:=first|omega|simp only[aO];omega) [LD,GY,GZ,G0,G1,ba,fa,b9,gT,b6,hb,eb,-O,-U,-N,-S,-List.map_map];exact⟨_,ax,hb⟩
    · simp(disch:=first|omega|simp only[aO];omega) [LD,GY,GZ,G0,G1,ba,fa,b9,gT,b6,cg,hb,eb,-O,-U,-N,-S,-List.map_map];exact bm _ _ ⟨by rw[l6 G,s6,aA];simp[hb],by simp[ba],by simp[fa],by simp[b9],by simp⟩
  · rintro A t ⟨aA,ba,fa,b9,gT⟩;rw[nk]at aA;simp(disch:=first|omega|simp only[aO];omega) [LD,GY,GZ,G0,G1,b9,gT,G1,GY,GZ,G0,-O,-U,-N,-S,-List.map_map];simpa using aA
end Go.Proofs.YtmmkkggfmigppaaGreat
namespace Go.DI
open Go Go.RowKit
theorem JY{a b:Nat}(h:a≠b):Nat.beq a b=false:=by
  cases hb:Nat.beq a b with
  |false=>rfl
  |true=>exact absurd (Nat.eq_of_beq_eq_true hb) h
inductive fD(c4:Type) where
  |nil
  |m8 (v:Option c4) (l r:fD c4)
section
variable {c4:Type}
def fD.X:fD c4->Nat->Option c4
  | .nil,_=>none
  | .m8 v l r,k=>bif Nat.beq k 0 then v else bif Nat.beq (k%2) 1 then l.X (k/2)else r.X (k/2-1)
def fD.set:Nat->fD c4->Nat->Option c4->fD c4
  |0,t,_,_=>t
  |n+1,.nil,k,x=>bif Nat.beq k 0 then .m8 x .nil .nil else bif Nat.beq (k%2) 1 then .m8 none (fD.set n .nil (k/2) x) .nil else .m8 none .nil (fD.set n .nil (k/2-1) x)
  |n+1,.m8 v l r,k,x=>bif Nat.beq k 0 then .m8 x l r else bif Nat.beq (k%2) 1 then .m8 v (fD.set n l (k/2) x) r else .m8 v l (fD.set n r (k/2-1) x)
@[simp] theorem fD.aJN(k:Nat):(fD.nil:fD c4).X k=none:=rfl
theorem fD.z3{v:Option c4}{l r:fD c4}{k:Nat}:(fD.m8 v l r).X k=if k=0 then v else if k%2=1 then l.X (k/2)else r.X (k/2-1):=by
  show(bif Nat.beq k 0 then _ else _)=_;by_cases h:k=0
  · simp[h]
  · have E:Nat.beq k 0=false:=JY h;rw[E,if_neg h];show(bif Nat.beq (k%2) 1 then _ else _)=_;by_cases I:k%2=1
    · simp[I]
    · have av:Nat.beq (k%2) 1=false:=JY I;rw[av,if_neg I];rfl
theorem fD.tw: ∀{n:Nat} {t:fD c4} {k:Nat} {x:Option c4} {j:Nat},k+1<2^n->(fD.set n t k x).X j=if j=k then x else t.X j
  |0,t,k,x,j,h=>by simp at h
  | n+1,t,k,x,j,h=>by
    have ab:2^(n+1)=2*2^n:=(by rw[Nat.pow_succ];omega);have bU: ∀(v:Option c4) (l r:fD c4),(if k=0 then fD.m8 x l r else if k%2=1 then .m8 v (fD.set n l (k/2) x) r else .m8 v l (fD.set n r (k/2-1) x)).X j=if j=k then x else(fD.m8 v l r).X j:= λv l r=>by
      by_cases dk:k=0
      · subst dk;rw[if_pos rfl,fD.z3,fD.z3];by_cases bj:j=0
        · simp[bj]
        · simp[bj]
      · rw[if_neg dk];by_cases E:k%2=1
        · rw[if_pos E,fD.z3,fD.z3];by_cases bj:j=0
          · have:j≠k:=(by omega);simp[bj];omega
          · rw[if_neg bj,if_neg bj];by_cases nx:j%2=1
            · rw[if_pos nx,if_pos nx,fD.tw (by omega)];by_cases e:j=k
              · rw[if_pos e,if_pos (by omega)]
              · rw[if_neg e,if_neg (by omega)]
            · rw[if_neg nx,if_neg nx,if_neg (by omega)]
        · rw[if_neg E,fD.z3,fD.z3];by_cases bj:j=0
          · simp[bj];omega
          · rw[if_neg bj,if_neg bj];by_cases nx:j%2=1
            · rw[if_pos nx,if_pos nx,if_neg (by omega)]
            · rw[if_neg nx,if_neg nx,fD.tw (by omega)];by_cases e:j=k
              · rw[if_pos e,if_pos (by omega)]
              · rw[if_neg e,if_neg (by omega)]
    have XY: ∀{lb:Type} (a b c:lb),(bif Nat.beq k 0 then a else bif Nat.beq (k%2) 1 then b else c)=if k=0 then a else if k%2=1 then b else c:= λa b c=>by
      by_cases dk:k=0
      · simp[dk]
      · have E:Nat.beq k 0=false:=JY dk;rw[E,if_neg dk];show(bif Nat.beq (k%2) 1 then _ else _)=_;by_cases I:k%2=1
        · simp[I]
        · have av:Nat.beq (k%2) 1=false:=JY I;rw[av,if_neg I];rfl
    cases t with
    | nil=>
      show(bif Nat.beq k 0 then fD.m8 x .nil .nil else bif Nat.beq (k%2) 1 then .m8 none (fD.set n .nil (k/2) x) .nil else .m8 none .nil (fD.set n .nil (k/2-1) x)).X j=_;rw[XY,bU none .nil .nil];by_cases e:j=k
      · rw[if_pos e,if_pos e]
      · rw[if_neg e,if_neg e,fD.z3];simp
    | m8 v l r=>show(bif Nat.beq k 0 then fD.m8 x l r else bif Nat.beq (k%2) 1 then .m8 v (fD.set n l (k/2) x) r else .m8 v l (fD.set n r (k/2-1) x)).X j=_;rw[XY,bU v l r]
end
abbrev iM:=fD Value
def k8(bV:iM):aR:= λk=>match bV.X k with|some v=>v|none=>undef
def A9(k:Nat):Bool:=Nat.blt k 2000000
theorem y0{k:Nat}(h:A9 k=true):k+1<2^21:=by
  have:k<2000000:=by simpa[A9,Nat.blt_eq]using h
  omega
def xj(bV:iM)(d:Option Nat)(v:Value):Option iM:=match d with
  |none=>some bV
  |some k=>if A9 k then some (fD.set 21 bV k (some v))else none
theorem VN{bV jC:iM}{d:Option Nat}{v:Value}(h:xj bV d v=some jC):k8 jC=dc (k8 bV) d v:=by
  unfold xj at h;cases d with
  |none=>cases h;rfl
  | some k=>
    simp only at h;split at h
    · next aa=>
      cases h;funext j;show(match(fD.set 21 bV k (some v)).X j with|some v=>v|none=>undef)=qt (k8 bV) k v j;rw[fD.tw (y0 aa)];unfold qt;by_cases e:j=k
      · rw[if_pos e,if_pos e]
      · rw[if_neg e,if_neg e];rfl
    · cases h
def Av:List Value->Nat->iM->iM
  |[],_,bV=>bV
  |v::l,k,bV=>Av l (k+1) (fD.set 21 bV k (some v))
theorem ZJ: ∀{l:List Value} {k:Nat} {bV:iM} {j:Nat},k+l.length<1000000->(Av l k bV).X j=if k<=j/\j<k+l.length then l[j-k]? else bV.X j
  | [],k,bV,j,h=>by rw[if_neg λI=>by simp at I;omega];rfl
  | v::l,k,bV,j,h=>by
    simp only[pI]at h;show(Av l (k+1) (fD.set 21 bV k (some v))).X j=_;rw[ZJ (by omega),fD.tw (by omega)];by_cases e:j=k
    · subst e;rw[if_neg (by omega),if_pos rfl,if_pos ⟨ey _,by simp⟩];simp
    · by_cases I:k+1<=j/\j<k+1+l.length
      · rw[if_pos I,if_pos (by simp;omega)];have:j-k=(j-(k+1))+1:=(by omega);rw[this,xH]
      · rw[if_neg I,if_neg e,if_neg (by simp;omega)]
theorem aDM{args:List Value}(h:args.length<1000000):k8 (Av args 0 .nil)=jI args:=by
  funext j;show(match(Av args 0 .nil).X j with|some v=>v|none=>undef)=args.getD j undef;rw[ZJ (by omega)];by_cases I:j<args.length
  · rw[if_pos ⟨ht _,by omega⟩];simp[cD I]
  · rw[if_neg (by omega)];simp[qv (by omega:args.length<=j)]
structure eK where
  next:Nat
  gV:fD fB
  mp:fD (List (Value×Value))
def cF(ah:eK):W:=⟨ah.next,λb=>ah.gV.X b,λb=>ah.mp.X b⟩
def Fa:eK:=⟨0,.nil,.nil⟩
def fK(ah:eK):Prop:= ∀i,ah.next<=i->ah.gV.X i=none
theorem agu:cF Fa=g0:=rfl
theorem ais:fK Fa:= λ_ _=>rfl
def Ci(ah:eK)(k:Nat):eK:=⟨ah.next+k,ah.gV,ah.mp⟩
theorem agv{ah:eK}(h:fK ah){k:Nat}:cF (Ci ah k)=(cF ah).cf k:=by
  unfold cF Ci W.cf;simp only[W.mk.injEq,and_true,true_and];funext i;by_cases ai:i<ah.next
  · rw[if_pos ai]
  · rw[if_neg ai];exact h i (by omega)
theorem ait{ah:eK}(h:fK ah){k:Nat}:fK (Ci ah k):= λi ai=>h i (by simp[Ci]at ai;omega)
def oe(ah:eK)(b:Nat)(x:Option fB):Option eK:=if A9 b&&Nat.blt b ah.next then some ⟨ah.next,fD.set 21 ah.gV b x,ah.mp⟩else none
theorem y9{ah cv:eK}{b:Nat}{x:Option fB}(a3:fK ah)(h:oe ah b x=some cv):fK cv/\cF cv=(cF ah).a0 b x:=by
  unfold oe at h;split at h
  · next aa=>
    cases h;simp only[a1,Nat.blt_eq]at aa;refine⟨λi ai=> ?_,?_⟩
    · show(fD.set 21 ah.gV b x).X i=none;rw[fD.tw (y0 aa.1),if_neg (by simp at ai;omega)];exact a3 i ai
    · unfold cF W.a0;simp only[W.mk.injEq,and_true,true_and];funext i;rw[fD.tw (y0 aa.1)]
  · cases h
def N0(ah:eK)(b:Nat)(bc:List (Value×Value)):Option eK:=if A9 b&&Nat.blt b ah.next then some ⟨ah.next,fD.set 21 ah.gV b (some ⟨[],true⟩),fD.set 21 ah.mp b (some bc)⟩else none
theorem ahc{ah cv:eK}{b:Nat}{bc:List (Value×Value)}(a3:fK ah)(h:N0 ah b bc=some cv):fK cv/\cF cv=(cF ah).g2 b bc:=by
  unfold N0 at h;split at h
  · next aa=>
    cases h;simp only[a1,Nat.blt_eq]at aa;refine⟨λi ai=> ?_,?_⟩
    · show(fD.set 21 ah.gV b (some ⟨[],true⟩)).X i=none;rw[fD.tw (y0 aa.1),if_neg (by simp at ai;omega)];exact a3 i ai
    · unfold cF W.g2;simp only[W.mk.injEq,true_and];refine⟨?_,?_⟩
      · funext i;rw[fD.tw (y0 aa.1)]
      · funext i;rw[fD.tw (y0 aa.1)]
  · cases h
def Bm(k:ag)(id:Nat)(A:aR)(ah:eK):Option eK:=
  match k with
  | .c9 J=>oe ah id (some ⟨J,true⟩)
  | .mz x=>oe ah id (some ⟨O (Z A x),true⟩)
  | .gM _ _ J ps=>oe ah id (some ⟨l5 J A ps,true⟩)
  | .store _ x v=>(match Z A x with
    | .pointer (some a)=>(match ah.gV.X a.block with|some y=>oe ah a.block (some ⟨gL y.cells a.off (O (Z A v)),y.own⟩)|none=>none)
    |_=>none)
  | .nX x=>oe ah id (some ⟨xc (qB (Z A x)),true⟩)
  | .kN _ _ zero l _=>oe ah id (some ⟨(List.replicate (eZ (Z A l)).toNat zero).flatten,true⟩)
  | .np _ _ zero _ l=>oe ah id (some ⟨(List.replicate (eZ (Z A l)).toNat zero).flatten,true⟩)
  | .hv zero x=>(match Z A x with
    | .slice none _ _=>some ah
    | .slice (some a) l _=>(match ah.gV.X a.block with|some y=>oe ah a.block (some ⟨gL y.cells a.off (List.replicate l zero).flatten,y.own⟩)|none=>none)
    |_=>none)
  | .app J _ x y=>if kz (Z A y)=0 then some ah else(match Z A x with
    | .slice (some a) l _=>(match oe ah a.block none with
      |some c2=>oe c2 id (some ⟨gj (cF ah) J (Z A x)++lh (cF ah) J (Z A y),true⟩)
      |none=>none)
    | .slice none _ _=>oe ah id (some ⟨lh (cF ah) J (Z A y),true⟩)
    |_=>none)
  | .m6=>N0 ah id []
  | .l3 _ x k v=>N0 ah (vt (Z A x)) (lM (Z A k) (Z A v) (((cF ah).eS (vt (Z A x))).getD []))
  |_=>some ah
theorem agw{ah:eK}{b:Nat}{x:fB}(a3:fK ah)(h:ah.gV.X b=some x):(cF ah).X b=some x:=by
  have:b<ah.next:=Nat.lt_of_not_le λe=>by rw[a3 b e]at h;cases h
  show(if b<ah.next then ah.gV.X b else none)=_;rw[if_pos this,h]
theorem agk{k:ag}{id:Nat}{A:aR}{ah cv:eK}(a3:fK ah)(h:Bm k id A ah=some cv):fK cv/\cF cv=k.mo id A (cF ah):=by
  have key: ∀{b:Nat} {x:Option fB},oe ah b x=some cv->fK cv/\cF cv=(cF ah).a0 b x:= λh=>y9 a3 h;cases k with
  |c9 J=>exact key h
  |mz x=>exact key h
  |gM a b J ps=>exact key h
  | store n x v=>
    simp only[Bm]at h;show fK cv/\cF cv=nP (cF ah) (Z A x) (O (Z A v));split at h
    · next a G=>
      split at h
      · next y af=>obtain⟨E,I⟩:=key h;refine⟨E,?_⟩;rw[I];unfold nP;rw[G];simp only[agw a3 af]
      · cases h
    · cases h
  |nX x=>exact key h
  |kN a b c d e=>exact key h
  |np a b c d e=>exact key h
  | hv zero x=>
    simp only[Bm]at h;show fK cv/\cF cv=mS (cF ah) zero (Z A x);split at h
    · next l c G=>cases h;rw[G];exact⟨a3,rfl⟩
    · next a l c G=>
      split at h
      · next y af=>obtain⟨E,I⟩:=key h;refine⟨E,?_⟩;rw[I];unfold mS;rw[G];simp only[agw a3 af]
      · cases h
    · cases h
  | app J pU x y=>
    simp only[Bm]at h;show fK cv/\cF cv=if kz (Z A y)=0 then cF ah else(kL (cF ah) (Z A x)).a0 id (some ⟨gj (cF ah) J (Z A x)++lh (cF ah) J (Z A y),true⟩)
    split at h
    · next dk=>cases h;rw[if_pos dk];exact⟨a3,rfl⟩
    · next dk=>
      rw[if_neg dk];split at h
      · next a l c G=>
        split at h
        · next c2 E=>obtain⟨c8,aJ⟩:=y9 a3 E;obtain⟨e7,aU⟩:=y9 c8 h;refine⟨e7,?_⟩;rw[aU,aJ,G];rfl
        · cases h
      · next l c G=>obtain⟨e7,aU⟩:=y9 a3 h;refine⟨e7,?_⟩;rw[aU,G];rfl
      · cases h
  |m6=>exact ahc a3 h
  |l3 a x k v=>exact ahc a3 h
  |_=>cases h;exact⟨a3,rfl⟩
abbrev l8:=Nat->List Value->eK->Option (Value×eK)
def Ki(ah:eK):List Nat->Option eK
  |[]=>some ah
  | o::l=>match oe ah o none with
    |some c2=>Ki c2 l
    |none=>none
def Np(ah c2:eK):List Nat->Option eK
  |[]=>some c2
  | o::l=>match oe c2 o (ah.gV.X o)with
    |some fe=>Np ah fe l
    |none=>none
def EB(ah:eK):List Nat->Option eK
  |[]=>some ah
  | o::l=>match ah.gV.X o with
    | some x=>(match oe ah o (some ⟨x.cells,false⟩)with
      |some c2=>EB c2 l
      |none=>none)
    |none=>EB ah l
def zQ(ah:eK):List Nat->Option eK
  |[]=>some ah
  | o::l=>match ah.mp.X o with
    |some _=>if A9 o then zQ ⟨ah.next,ah.gV,fD.set 21 ah.mp o none⟩ l else none
    |none=>zQ ah l
def BA(bJ:l8)(f:Nat)(args:List Value)(ah:eK):Option (Value×eK):=match zZ 9 (cF ah) args with
  | some ts=>(match bJ f ts Fa with
    | some (v,c2)=>(match dI 9 (cF c2) v with
      | some r=>if mV r then(match zQ ah (args.flatMap (ed 9 (cF ah)))with
          |some fe=>some (r,fe)
          |none=>none)
        else(match EB ah (args.flatMap (ed 9 (cF ah)))with
          |some fe=>some (r,fe)
          |none=>none)
      |none=>none)
    |none=>none)
  |none=>none
def tj(bJ:l8)(f:Nat)(args:List Value)(ah:eK):List Nat->Option (Value×eK)
  |[]=>bJ f args ah
  | L =>if L.all (λo=>match ah.gV.X o with|some x=> !x.cells.isEmpty|none=>false)then
      (match Ki ah L with
      | some v7=>(match bJ f args v7 with
        | some (r,c2)=>(match Np ah c2 L with
          |some fe=>some (r,fe)
          |none=>none)
        |none=>BA bJ f args ah)
      |none=>none)
    else BA bJ f args ah
def By(bJ:l8)(base:Nat)(o:bp)(bV:iM)(ah:eK):Option (iM×eK):=
  let A:=k8 bV
  let jA (x:Option (Value×eK)):Option (iM×eK):=match x with
    | some (r,cv)=>(match xj bV o.d r with
      |some jC=>some (jC,cv)
      |none=>none)
    |none=>none
  match o.k with
  | .dY f bY=>jA (tj bJ f (bY.map (Z A)) ah (lO A (cF ah) o.a9))
  | .iN x bY=>(match Z A x with
    | .func (.func f) first mA=>jA (tj bJ f (first.toList++bY.map (Z A)++mA.toList) ah (lO A (cF ah) o.a9))
    |_=>none)
  | .iR bh x bY=>(match Z A x with
    | .iface t v=>(match bh.find? (λr=>r.1==t)with
      |some (_,f,none)=>jA (tj bJ f (v::bY.map (Z A)) ah (lO A (cF ah) o.a9))
      |some (_,f,some (dp,n))=>if pS (cF ah) v n&&(dp||decide (n=1))then jA (tj bJ f (w7 (cF ah) dp n v::bY.map (Z A)) ah (lO A (cF ah) o.a9))else none
      |none=>none)
    |_=>none)
  | k=>if k.iw A (cF ah)&&iO A (cF ah) o.a9 then(match Bm k (base+o.aS) A ah with
    |some cv=>jA (some (k.iJ (base+o.aS) A (cF ah),cv))
    |none=>none)else none
def vx(bJ:l8)(base:Nat):List bp->iM->eK->Option (iM×eK)
  |[],bV,ah=>some (bV,ah)
  | o ::b4,bV,ah=>if eR (k8 bV) o.g then(match By bJ base o bV ah with
      |some (jC,cv)=>vx bJ base b4 jC cv
      |none=>none)
    else(match xj bV o.d undef with
      |some jC=>vx bJ base b4 jC ah
      |none=>none)
def El(ops:List bp)(ah:eK):eK:=if ops.any (λo=>o.k.e3)then Ci ah ops.length else ah
def Nn(f:iM->eK->Option (dA×iM×eK)):Nat->iM->eK->Option (dA×iM×eK)
  |0,_,_=>none
  | n+1,bV,ah=>match f bV ah with
    |some (.ew,jC,cv)=>Nn f n jC cv
    |r=>r
def qE(bJ:l8)(n:Nat):H->iM->eK->Option (dA×iM×eK)
  | .skip,bV,ah=>some (.ew,bV,ah)
  | .D ops,bV,ah=>(match vx bJ ah.next ops bV (El ops ah)with
    |some (jC,cv)=>some (.ew,jC,cv)
    |none=>none)
  | .q0 _ _ _,_,_=>none
  | .B a b,bV,ah=>(match qE bJ n a bV ah with
    |some (.ew,jC,cv)=>qE bJ n b jC cv
    |r=>r)
  | .aM c a b,bV,ah=>(match Z (k8 bV) c with
    | .bool true=>qE bJ n a bV ah
    | .bool false=>qE bJ n b bV ah
    |_=>none)
  | .block id c,bV,ah=>(match qE bJ n c bV ah with
    |some (.a7 jg,jC,cv)=>if jg=id then some (.ew,jC,cv)else some (.a7 jg,jC,cv)
    |r=>r)
  | .loop c,bV,ah=>Nn (qE bJ n c) n bV ah
  | .a7 id,bV,ah=>some (.a7 id,bV,ah)
  | .aF,bV,ah=>some (.aF,bV,ah)
def Kq(cy:List ld):Option (dA×iM×eK)->Option (Value×eK)
  |some (.a7 _,_,_)=>none
  |some (_,bV,ah)=>if k7 (cF ah) (k8 bV) cy then some (lu (cF ah) (k8 bV) cy,ah)else none
  |none=>none
theorem agx{ah:eK}(a3:fK ah){b:Nat}:(cF ah).X b=ah.gV.X b:=by
  show(if b<ah.next then ah.gV.X b else none)=_;by_cases h:b<ah.next
  · rw[if_pos h]
  · rw[if_neg h,a3 b (by omega)]
theorem PR: ∀{L:List Nat} {ah v7:eK},fK ah->Ki ah L=some v7->fK v7/\cF v7=iY (cF ah) L
  | [],ah,v7,a3,h=>by cases h;refine⟨a3,?_⟩;unfold iY;simp
  | o::l,ah,v7,a3,h=>by
    simp only[Ki]at h;split at h
    · next c2 E=>
      obtain⟨c8,aJ⟩:=y9 a3 E;obtain⟨e7,aU⟩:=PR c8 h;refine⟨e7,?_⟩;rw[aU,aJ];unfold iY W.a0;simp only[W.mk.injEq,true_and,and_true];funext b;by_cases E:b∈l
      · rw[if_pos E,if_pos (by simp[E])]
      · rw[if_neg E];by_cases I:b=o
        · rw[if_pos I,if_pos (by simp[I])]
        · rw[if_neg I,if_neg (by simp[E,I])]
    · cases h
theorem TR{ah:eK}: ∀{L:List Nat} {c2 fe:eK},fK c2->Np ah c2 L=some fe->fK fe/\cF fe=kK (cF ah) (cF c2) L
  | [],c2,fe,a3,h=>by cases h;refine⟨a3,?_⟩;unfold kK;simp
  | o::l,c2,fe,a3,h=>by
    simp only[Np]at h;split at h
    · next aFZ E=>
      obtain⟨c8,aJ⟩:=y9 a3 E;obtain⟨e7,aU⟩:=TR c8 h;refine⟨e7,?_⟩;rw[aU,aJ];unfold kK W.a0;simp only[W.mk.injEq,true_and,and_true];funext b;by_cases E:b∈l
      · rw[if_pos E,if_pos (by simp[E])]
      · rw[if_neg E];by_cases I:b=o
        · rw[if_pos I,if_pos (by simp[I]),I];rfl
        · rw[if_neg I,if_neg (by simp[E,I])]
    · cases h
theorem IZ: ∀{L:List Nat} {ah fe:eK},fK ah->EB ah L=some fe->fK fe/\cF fe=re (cF ah) L
  |[],ah,fe,a3,h=>by cases h;exact⟨a3,rfl⟩
  | o::l,ah,fe,a3,h=>by
    simp only[EB]at h;rw[OC,agx a3];split at h
    · next x G=>
      rw[G];simp only;split at h
      · next c2 E=>obtain⟨c8,aJ⟩:=y9 a3 E;rw[<-aJ];exact IZ c8 h
      · cases h
    · next G=>rw[G];exact IZ a3 h
theorem Kf: ∀{L:List Nat} {ah fe:eK},fK ah->zQ ah L=some fe->fK fe/\cF fe=hv (cF ah) L
  |[],ah,fe,a3,h=>by cases h;exact⟨a3,(akv _).symm⟩
  | o::l,ah,fe,a3,h=>by
    have ar: ∀{cv:eK},fK cv->zQ cv l=some fe->cv.next=ah.next->cv.gV=ah.gV->(∀b,b∉l->cv.mp.X b=if b=o then none else ah.mp.X b)->fK fe/\cF fe=hv (cF ah) (o::l):= λ{cv} n4 bS az hb ax=>by
      obtain⟨w,e⟩:=Kf n4 bS;refine⟨w,?_⟩;rw[e];unfold hv cF;simp only[W.mk.injEq,az,hb,true_and];funext b;by_cases E:b∈l
      · rw[if_pos E,if_pos (by simp[E])]
      · rw[if_neg E,ax b E];by_cases I:b=o
        · rw[if_pos I,if_pos (by simp[I])]
        · rw[if_neg I,if_neg (by simp[E,I])]
    simp only[zQ]at h;split at h
    · split at h
      · next aa=>exact ar (cv:=⟨ah.next,ah.gV,fD.set 21 ah.mp o none⟩) a3 h rfl rfl λb _=>fD.tw (y0 aa)
      · cases h
    · next G=>
      refine ar a3 h rfl rfl λb _=> ?_;by_cases I:b=o
      · rw[if_pos I,I];exact G
      · rw[if_neg I]
section
variable {P:Program} {M:eM} {u:fQ} {t m:W} {A ak:aR}
noncomputable def NT{f:Nat}{ts:List Value}{r:Value}(h:bH P f ts r):bC P:=by
  classical exact⟨f,λbY=>if bY=ts then some r else none,λbY dL e=>by
    by_cases bn:bY=ts
    · rw[if_pos bn]at e;cases e;rw[bn];exact h
    · rw[if_neg bn]at e;cases e⟩
theorem NU{f:Nat}{args ts:List Value}{r:Value}(h:bH P f ts r)(aT:zZ 9 t args=some ts){aW:Value->W->Prop}(dU:aW r (if mV r then hv t (args.flatMap (ed 9 t))else re t (args.flatMap (ed 9 t)))):vD [NT h] f args t aW:=by unfold vD;rw[aT];simp only[uu,NT,if_true];exact dU
def rk(P:Program)(bJ:l8):Prop:= ∀f args ah r cv,fK ah->bJ f args ah=some (r,cv)->fK cv/\fi P f args (cF ah) λdL aI=>dL=r/\aI=cF cv
theorem aBK{bJ:l8}(ca:rk P bJ){f:Nat}{args:List Value}{ah cv:eK}{r:Value}(a3:fK ah)(h:BA bJ f args ah=some (r,cv)):
    fK cv/\ ∃ts,∃ab:bH P f ts r,vD [NT ab] f args (cF ah) λdL aI=>dL=r/\aI=cF cv:=by
  unfold BA at h;split at h
  · next ts Gm=>
    split at h
    · next v c2 E=>
      obtain⟨c8,a8⟩:=ca _ _ _ _ _ ais E;split at h
      · next fs aw=>
        have ab:bH P f ts fs:=ei (by have:=a8;rw[agu]at this;exact this.b8 λdL aI aQ=>by rw[aQ.1,aQ.2];exact aw);split at h
        · next e1=>
          split at h
          · next fe I=>cases h;obtain⟨e7,aU⟩:=Kf a3 I;exact⟨e7,ts,ab,NU ab Gm ⟨rfl,by rw[if_pos e1,aU]⟩⟩
          · cases h
        · next e1=>
          split at h
          · next fe I=>cases h;obtain⟨e7,aU⟩:=IZ a3 I;exact⟨e7,ts,ab,NU ab Gm ⟨rfl,by rw[if_neg e1,aU]⟩⟩
          · cases h
      · cases h
    · cases h
  · cases h
theorem akm{bJ:l8}(ca:rk P bJ){f:Nat}{args bY:List Value}{ah cv:eK}{r:Value}{a9:List (Operand×Operand)}(a3:fK ah)(K:ec M u (cF ah) m)(bI:g4 u M A ak)(hy:a9.all (λp=>cX p.1&&cX p.2)=true)(aA:bo u M args bY)
    (h:tj bJ f args ah (lO A (cF ah) a9)=some (r,cv)):fK cv/\
    gp P f bY m λdL aq=>qZ ak a9 m aq/\ ∃cL cP,ec cL cP (cF cv) aq/\b5 cP cL r dL/\eN (cF ah).next m.next M u (cF ah) m cL cP (cF cv) aq:=by
  have pure: ∀{x:Value×eK},BA bJ f args ah=some x->x=(r,cv)->fK cv/\gp P f bY m λdL aq=>qZ ak a9 m aq/\ ∃cL cP,ec cL cP (cF cv) aq/\b5 cP cL r dL/\eN (cF ah).next m.next M u (cF ah) m cL cP (cF cv) aq:= λ{x} G e=>by subst e;obtain⟨w,ts,ab,q⟩:=aBK ca a3 G;refine⟨w,(UB K aA q).b8 λdL aq aQ=> ?_⟩;obtain⟨E,cP,mK,aI,⟨rfl,rfl⟩,av,aH,br⟩:=aQ;exact⟨af5 K bI hy E,M,cP,av,aH,br⟩
  cases ck:lO A (cF ah) a9 with
  | nil=>rw[ck]at h;simp only[tj]at h;obtain⟨w,q⟩:=ca _ _ _ _ _ a3 h;refine⟨w,(q M u bY m K aA).b8 λdL aq aQ=> ?_⟩;obtain⟨cL,cP,mK,aI,⟨rfl,rfl⟩,I,av,aH⟩:=aQ;exact⟨Nu K bI hy aH.jx (by rw[ck];nofun),cL,cP,I,av,aH⟩
  | cons o l=>
    rw[ck]at h;simp only[tj]at h;split at h
    · next cJ=>
      split at h
      · next v7 ar=>
        obtain⟨Wd,akU⟩:=PR a3 ar;split at h
        · next fs c2 E=>
          split at h
          · next fe I=>
            cases h;obtain⟨c8,a8⟩:=ca _ _ _ _ _ Wd E;obtain⟨e7,aU⟩:=TR c8 I;refine⟨e7,?_⟩;rw[akU]at a8;have Q6: ∀p∈o::l,∃x,(cF ah).X p=some x/\x.cells≠[]:= λp ab=>by
              have:=eQ.1 cJ p ab;rw[agx a3];split at this
              · next x G=>exact⟨x,G,λe=>by rw[e]at this;simp at this⟩
              · cases this
            refine(Yl Q6 a8 K aA).b8 λdL aq aQ=> ?_;obtain⟨en,cL,cP,mK,aI,⟨rfl,rfl⟩,av,aH,br⟩:=aQ;rw[<-aU]at av br;exact⟨Nu K bI hy br.jx (by rw[ck];exact en),cL,cP,av,aH,br⟩
          · cases h
        · exact pure h rfl
      · cases h
    · exact pure h rfl
end
section
variable {P:Program}
def rl(gU hL:Nat)(M:eM)(u:fQ)(t m:W)(hU:iM)(c2:eK)(jU:aR)(aq:W):Prop:= ∃cL cP,ec cL cP (cF c2) aq/\g4 cP cL (k8 hU) jU/\eN gU hL M u t m cL cP (cF c2) aq
theorem NV{bJ:l8}(ca:rk P bJ){base gF:Nat}: ∀{ops:List bp} {M:eM} {u:fQ} {bV hU:iM} {ah c2:eK} {m:W} {ak:aR},ops.all Ip=true->vw (ops.map (·.aS))=true->fK ah->ec M u (cF ah) m->g4 u M (k8 bV) ak->xS M u (cF ah) m base gF ops->base<=ah.next->gF<=m.next->
    vx bJ base ops bV ah=some (hU,c2)->fK c2/\hI P gF ops ak m λjU aq=>rl base gF M u (cF ah) m hU c2 jU aq
  | [],M,u,bV,hU,ah,c2,m,ak,_,_,a3,K,bI,_,_,_,h=>by cases h;refine⟨a3,?_⟩;rw[Wo];exact⟨M,u,K,bI,eN.refl⟩
  | o::ops,M,u,bV,hU,ah,c2,m,ak,au,js,a3,K,bI,eX,hb,sD,h=>by
    obtain⟨aS,d,g,k,a9⟩:=o;simp only[nm,a1]at au;obtain⟨cJ,Al⟩:=nodup_cons js;have u3:=au.1;simp only[Ip,a1]at u3;have skip: ∀{mb:iM},xj bV d undef=some mb->vx bJ base ops mb ah=some (hU,c2)->fK c2/\hI P gF ops (dc ak d undef) m λjU aq=>rl base gF M u (cF ah) m hU c2 jU aq:= λ{mb} ab h=>by refine NV ca au.2 Al a3 K ?_ (λo aE aA=>eX o (by simp[aE]) aA) hb sD h;rw[VN ab];exact bI.a0 b5.undef
    have Bl: ∀{x:iM×eK},By bJ base ⟨aS,d,g,k,a9⟩ bV ah=some x->vx bJ base ops x.1 x.2=some (hU,c2)->fK c2/\hI P gF (⟨aS,d,none,k,a9⟩::ops) ak m λjU aq=>rl base gF M u (cF ah) m hU c2 jU aq:= λ{x} G h=>by
      -- PC a dY
      have after: ∀{f:Nat} {args bY:List Value} {y:iM×eK} {Fe:Value->W->Prop},bo u M args bY->(match tj bJ f args ah (lO (k8 bV) (cF ah) a9)with
          | some (r,cv)=>(match xj bV d r with
            |some jC=>some (jC,cv)
            |none=>none)
          |none=>none)=some x->fK c2/\gp P f bY m (wi P gF d a9 ops ak m (λjU aq=>rl base gF M u (cF ah) m hU c2 jU aq)):= λ{f args bY y Fe} aA ar=>by
        split at ar
        · next r fe E=>
          split at ar
          · next mb I=>
            cases ar;obtain⟨e7,q⟩:=akm ca a3 K bI u3.2 aA E;have step: ∀{cC:eM} {dz:fQ} {dL:Value} {bk:W},ec cC dz (cF fe) bk->b5 dz cC r dL->eN (cF ah).next m.next M u (cF ah) m cC dz (cF fe) bk->fK c2/\hI P gF ops (dc ak d dL) bk λjU aq=>rl base gF M u (cF ah) m hU c2 jU aq:= λ{cC dz dL bk} bb c0 ea=>by
              have Au:g4 dz cC (k8 mb) (dc ak d dL):=(by rw[VN I];exact(bI.b8 ea.f ea.e).a0 c0);have Ab:xS cC dz (cF fe) bk base gF ops:= λo aE aA=>by
                have az:=eX o (by simp[aE]) aA;refine⟨?_,λo' mE=> ?_,?_,pH az.sX ea.jP,pH az.q1 ea.jZ⟩
                · cases bn:cC (base+o.aS)with
                  |none=>rfl
                  | some b=>
                    rcases ea.kb _ _ bn with br|⟨br,_⟩
                    · rw[az.e]at br;cases br
                    · have:=az.sX;omega
                · rcases ea.kb _ _ mE with br|⟨_,br⟩
                  · exact az.b _ br
                  · have:=az.q1;omega
                · cases bn:dz (gF+o.aS)with
                  |none=>rfl
                  | some cs=>
                    rcases ea.fn _ _ bn with br|br|⟨o',_,br,_⟩
                    · rw[az.f]at br;cases br
                    · have:=az.q1;omega
                    · exact absurd br (az.b o')
              obtain⟨ni,cx⟩:=NV ca au.2 Al e7 bb Au Ab (kC hb ea.jP) (kC sD ea.jZ) h;refine⟨ni,?_⟩;obtain⟨n,ba,dR,hZ,fP,ji,bE,b7,eH⟩:=cx;exact⟨n,ba,dR,hZ,fP,ji,bE,b7,(ea.zx hb sD).trans eH⟩
            have amX:fK c2:=(by obtain⟨n,dL,aq,_,_,cC,dz,bb,c0,ea⟩:=q;exact(step bb c0 ea).1);refine⟨amX,q.b8 λdL bk aQ=> ?_⟩;obtain⟨aa,cC,dz,bb,c0,ea⟩:=aQ;exact⟨aa,(step bb c0 ea).2⟩
          · cases ar
        · cases ar
      have Uq: ∀{k:ag},k.ke=false->xd k=true->(k.e3=true->rn M u (cF ah) m (base+aS) (gF+aS))->(if k.iw (k8 bV) (cF ah)&&iO (k8 bV) (cF ah) a9 then(match Bm k (base+aS) (k8 bV) ah with
          | some cv=>(match some (k.iJ (base+aS) (k8 bV) (cF ah),cv)with
            | some (r,cv)=>(match xj bV d r with
              |some jC=>some (jC,cv)
              |none=>none)
            |none=>none)
          |none=>none)else none)=some x->
          fK c2/\hI P gF (⟨aS,d,none,k,a9⟩::ops) ak m λjU aq=>rl base gF M u (cF ah) m hU c2 jU aq:= λ{k} ar aa az G=>by
        split at G
        · next Am=>
          simp only[a1]at Am;split at G
          · next fe rE=>
            simp only at G;split at G
            · next mb pd=>
              cases G;obtain⟨e7,aU⟩:=agk a3 rE;obtain⟨E,cC,q⟩:=agP (gU:=base) (hL:=gF) (id:=base+aS) (mid:=gF+aS) K bI ar aa Am.1 az (by omega) (by omega);have Au:g4 u cC (k8 mb) (dc ak d (k.val (gF+aS) ak m)):=(by rw[VN pd];exact(bI.b8 q.bF.f q.bF.e).a0 q.val);have Ab:xS cC u (cF fe) (k.gG (gF+aS) ak m) base gF ops:= λo aE aA=>by
                have az:=eX o (by simp[aE]) aA;have G:=cJ o aE;simp only at G;rw[aU];refine⟨by rw[q.Iw _ (by omega)];exact az.e,λo' mE=> ?_,az.f,pH az.sX q.bF.jP,pH az.q1 q.bF.jZ⟩;by_cases e:o'=base+aS
                · subst e;rcases q.self with br|br
                  · rw[br]at mE;exact az.b _ mE
                  · rw[br]at mE;simp only[lV]at mE;omega
                · rw[q.Iw _ e]at mE;exact az.b _ mE
              have bd:=q.VR;have eX:=q.bF;rw[<-aU]at bd eX;obtain⟨ni,cx⟩:=NV ca au.2 Al e7 bd Au Ab (kC hb eX.jP) (kC sD eX.jZ) h;refine⟨ni,?_⟩;rw[vS ar];refine⟨E,XN K bI u3.2 Am.2,?_⟩;obtain⟨n,ba,dR,hZ,fP,ji,bE,b7,eH⟩:=cx;exact⟨n,ba,dR,hZ,fP,ji,bE,b7,eX.trans eH⟩
            · cases G
          · cases G
        · cases G
      have wI:=eX ⟨aS,d,g,k,a9⟩ (by simp);have Ac:=u3.1;have bB:=Ac;simp only[xd,a1]at bB;cases k with
      | dY f bY=>rw[Wn];exact after (y:=x) (Fe:= λ_ _=>True) (bI.x5 bB.1) G
      | iN x bY=>
        simp only[By]at G;simp only[ag.hh,nm,a1]at bB;split at G
        · next f first mA Rl=>have ad:=bI.Z bB.1.1;rw[Rl]at ad;obtain⟨ys,ds,e,gu,ga⟩:=ad.Aw;rw[aiz e];exact after (y:=⟨bV,ah⟩) (Fe:= λ_ _=>True) ((gu.o6 (bI.x5 bB.1.2)).o6 ga) G
        · cases G
      | iR bh x bY=>
        simp only[By]at G;simp only[ag.hh,nm,a1]at bB;rw[aEZ];split at G
        · next qq v Rl=>
          have ad:=bI.Z bB.1.1;rw[Rl]at ad;obtain⟨bx,e,rL⟩:=ad.Gy;rw[e];unfold K9;split at G
          · next a f aT=>simp only[aT];exact after (y:=⟨bV,ah⟩) (Fe:= λ_ _=>True) (bo.cons rL (bI.x5 bB.1.2)) G
          · next a f dp n aT=>
            simp only[aT];split at G
            · next ar=>simp only[a1]at ar;have E:=Ff K rL ar.1;obtain⟨w,q⟩:=after (y:=⟨bV,ah⟩) (Fe:= λ_ _=>True) (bo.cons (T2 K rL ar.1 ar.2) (bI.x5 bB.1.2)) G;exact⟨w,by rw[E,ar.2];rfl,q⟩
            · cases G
          · cases G
        · cases G
      |_=>exact Uq rfl Ac wI G
    simp only[vx]at h;split at h
    · next nA=>
      split at h
      · next mb fe E=>
        cases g with
        |none=>exact Bl E h
        | some g=>obtain⟨j,b⟩:=g;obtain⟨w,q⟩:=Bl E h;refine⟨w,?_⟩;rw[O1,Wc bI,if_pos nA];exact q
      · cases h
    · next nA=>
      split at h
      · next mb E=>
        cases g with
        |none=>exact absurd rfl nA
        | some g=>obtain⟨j,b⟩:=g;obtain⟨w,q⟩:=skip E h;refine⟨w,?_⟩;rw[O1,Wc bI,if_neg nA];exact q
      · cases h
theorem ahm{ops:List bp}{ah:eK}(a3:fK ah):fK (El ops ah)/\cF (El ops ah)=hl ops (cF ah):=by
  unfold El hl;split
  · exact⟨ait a3,agv a3⟩
  · exact⟨a3,rfl⟩
theorem aB7{bJ:l8}(ca:rk P bJ){ops:List bp}(au:m9 (.D ops)=true){M:eM}{u:fQ}{bV hU:iM}{ah c2:eK}{m:W}{ak:aR}(a3:fK ah)(K:ec M u (cF ah) m)(bI:g4 u M (k8 bV) ak)(h:vx bJ ah.next ops bV (El ops ah)=some (hU,c2)):
    fK c2/\hI P m.next ops ak (hl ops m) λjU aq=>rl ah.next m.next M u (cF ah) m hU c2 jU aq:=by
  simp only[m9,a1]at au;obtain⟨gx,pa⟩:=ahm (ops:=ops) a3;have u5:ec M u (hl ops (cF ah)) (hl ops m):=by
    unfold hl;split
    · exact PD K _
    · exact K
  have sy:eN ah.next m.next M u (cF ah) m M u (hl ops (cF ah)) (hl ops m):=by
    unfold hl;split
    · exact JZ K _
    · exact eN.refl
  have wG:xS M u (hl ops (cF ah)) (hl ops m) ah.next m.next ops:= λo aE aA=>by
    have F0:(ops.any λo=>o.k.e3)=true:=List.any_eq_true.2 ⟨o,aE,aA⟩;have qP:o.aS<ops.length:=(by simpa using eQ.1 au.2 o aE);refine⟨?_,λo' mE=> ?_,?_,by simp[hl,F0,qP,cF],by simp[hl,F0,qP]⟩
    · cases bn:M (ah.next+o.aS)with
      |none=>rfl
      |some b=>have:=(K.cV _ _ bn).1;simp[cF]at this;omega
    · have:=(K.cV _ _ mE).2;omega
    · cases bn:u (m.next+o.aS)with
      |none=>rfl
      |some cs=>obtain⟨⟨w,E⟩,_⟩:=K.bF _ _ bn;have:=a6 E;omega
  have gU:ah.next<=(El ops ah).next:=by have:=sy.jP;rw[<-pa]at this;exact this
  rw[<-pa]at u5 sy wG;obtain⟨c8,q⟩:=NV ca au.1.1 au.1.2 gx u5 bI wG gU sy.jZ h;refine⟨c8,?_⟩;obtain⟨n,ba,dR,hZ,fP,ji,bE,b7,eH⟩:=q;exact⟨n,ba,dR,hZ,fP,ji,bE,b7,sy.trans eH⟩
def Pk(P:Program)(c:H)(e:dA)(bV:iM)(ah:eK)(hU:iM)(c2:eK):Prop:=fK c2/\ ∀(M:eM) (u:fQ) (ak:aR) (m:W),ec M u (cF ah) m->g4 u M (k8 bV) ak->ia P c ak m λet jU aq=>et=e/\rl ah.next m.next M u (cF ah) m hU c2 jU aq
theorem rl.trans{gU hL Jd Ik:Nat}{M cC:eM}{u dz:fQ}{t m bk:W}{c2:eK}{mb:iM}{fe:eK}{dt:aR}{dR:W}(h:eN gU hL M u t m cC dz (cF c2) bk)(bS:rl Jd Ik cC dz (cF c2) bk mb fe dt dR)(E:gU<=Jd)(I:hL<=Ik):rl gU hL M u t m mb fe dt dR:=by obtain⟨fP,ji,a,b,c⟩:=bS;exact⟨fP,ji,a,b,h.trans (c.zx E I)⟩
theorem afW{c:H}(ar:m9 c=true){f:iM->eK->Option (dA×iM×eK)}(aT: ∀{bV ah e hU c2},fK ah->f bV ah=some (e,hU,c2)->Pk P c e bV ah hU c2): ∀{n:Nat} {bV:iM} {ah:eK} {e:dA} {hU:iM} {c2:eK},fK ah->Nn f n bV ah=some (e,hU,c2)->Pk P (.loop c) e bV ah hU c2
  |0,bV,ah,e,hU,c2,a3,h=>by cases h
  | n+1,bV,ah,e,hU,c2,a3,h=>by
    simp only[Nn]at h;split at h
    · next mb fe E=>obtain⟨e7,q⟩:=aT a3 E;obtain⟨ni,b7⟩:=afW ar aT e7 h;refine⟨ni,λM u ak m K bI=> ?_⟩;refine ER λcS bm=> ?_;refine(q M u ak m K bI).b8 λet ba bk aQ=> ?_;obtain⟨rfl,cC,dz,aK,bb,c0⟩:=aQ;refine bm _ _ ((b7 cC dz ba bk aK bb).b8 λaU eP dR aQ=> ?_);obtain⟨rfl,ea⟩:=aQ;exact⟨rfl,rl.trans c0 ea c0.jP c0.jZ⟩
    · next cJ=>
      obtain⟨e7,q⟩:=aT a3 h;refine⟨e7,λM u ak m K bI=> ?_⟩;refine ER λcS bm=> ?_;refine(q M u ak m K bI).b8 λet ba bk aQ=> ?_;obtain⟨rfl,g⟩:=aQ;cases et with
      |ew=>exact absurd h (cJ _ _)
      |a7 id=>exact⟨rfl,g⟩
      |aF=>exact⟨rfl,g⟩
end
section
variable {P:Program}
theorem ag8{bJ:l8}{f:Nat}{args:List Value}{ah cv:eK}{r:Value}(a3:fK ah)(h:BA bJ f args ah=some (r,cv)):fK cv:=by
  unfold BA at h
  repeat' split at h
  all_goals first|cases h|skip
  all_goals first|exact(Kf a3 (by assumption)).1|exact(IZ a3 (by assumption)).1
theorem akn{bJ:l8}(ca:rk P bJ){f:Nat}{args:List Value}{ah cv:eK}{r:Value}{L:List Nat}(a3:fK ah)(h:tj bJ f args ah L=some (r,cv)):fK cv:=by
  cases L with
  |nil=>exact(ca _ _ _ _ _ a3 h).1
  | cons o l=>
    simp only[tj]at h;split at h
    · split at h
      · next v7 ar=>
        split at h
        · next fs c2 E=>
          split at h
          · next fe I=>cases h;exact(TR (ca _ _ _ _ _ (PR a3 ar).1 E).1 I).1
          · cases h
        · exact ag8 a3 h
      · cases h
    · exact ag8 a3 h
theorem aBm{bJ:l8}(ca:rk P bJ){base:Nat}{o:bp}{bV:iM}{ah:eK}{x:iM×eK}(a3:fK ah)(h:By bJ base o bV ah=some x):fK x.2:=by
  have jA: ∀{f:Nat} {args:List Value} {L:List Nat},(match tj bJ f args ah L with
      | some (r,cv)=>(match xj bV o.d r with
        |some jC=>some (jC,cv)
        |none=>none)
      |none=>none)=some x->fK x.2:= λ{f args L} h=>by
    split at h
    · next r fe E=>
      split at h
      · cases h;exact akn ca a3 E
      · cases h
    · cases h
  have plain: ∀{k:ag},(if k.iw (k8 bV) (cF ah)&&iO (k8 bV) (cF ah) o.a9 then(match Bm k (base+o.aS) (k8 bV) ah with
      | some cv=>(match some (k.iJ (base+o.aS) (k8 bV) (cF ah),cv)with
        | some (r,cv)=>(match xj bV o.d r with
          |some jC=>some (jC,cv)
          |none=>none)
        |none=>none)
      |none=>none)else none)=some x->fK x.2:= λ{k} h=>by
    split at h
    · split at h
      · next fe rE=>
        simp only at h;split at h
        · cases h;exact(agk a3 rE).1
        · cases h
      · cases h
    · cases h
  obtain⟨aS,d,g,k,a9⟩:=o;cases k with
  |dY f bY=>exact jA h
  | iN y bY=>
    simp only[By]at h;split at h
    · exact jA h
    · cases h
  | iR bh y bY=>
    simp only[By]at h;split at h
    · split at h
      · exact jA h
      · split at h
        · exact jA h
        · cases h
      · cases h
    · cases h
  |_=>exact plain h
theorem Ur{bJ:l8}(ca:rk P bJ){base:Nat}: ∀{ops:List bp} {bV hU:iM} {ah c2:eK},fK ah->vx bJ base ops bV ah=some (hU,c2)->fK c2
  |[],bV,hU,ah,c2,a3,h=>by cases h;exact a3
  | o::ops,bV,hU,ah,c2,a3,h=>by
    simp only[vx]at h;split at h
    · split at h
      · next mb fe E=>exact Ur ca (aBm ca a3 E) h
      · cases h
    · split at h
      · exact Ur ca a3 h
      · cases h
theorem wk{bJ:l8}(ca:rk P bJ){n:Nat}: ∀{c:H} {bV hU:iM} {ah c2:eK} {e:dA},m9 c=true->fK ah->qE bJ n c bV ah=some (e,hU,c2)->Pk P c e bV ah hU c2
  | .skip,bV,hU,ah,c2,e,au,a3,h=>by cases h;exact⟨a3,λM u ak m K bI=>by rw[Wm];exact⟨rfl,M,u,K,bI,eN.refl⟩⟩
  | .a7 id,bV,hU,ah,c2,e,au,a3,h=>by cases h;exact⟨a3,λM u ak m K bI=>by rw[Wj];exact⟨rfl,M,u,K,bI,eN.refl⟩⟩
  | .aF,bV,hU,ah,c2,e,au,a3,h=>by cases h;exact⟨a3,λM u ak m K bI=>by rw[Wl];exact⟨rfl,M,u,K,bI,eN.refl⟩⟩
  | .q0 _ _ _,bV,hU,ah,c2,e,au,a3,h=>by cases h
  | .D ops,bV,hU,ah,c2,e,au,a3,h=>by
    simp only[qE]at h;split at h
    · next mb fe E=>cases h;exact⟨Ur ca (ahm a3).1 E,λM u ak m K bI=>by rw[Wk];obtain⟨n,ba,dR,aw,q⟩:=(aB7 ca au a3 K bI E).2;exact⟨n,ba,dR,aw,rfl,q⟩⟩
    · cases h
  | .B a b,bV,hU,ah,c2,e,au,a3,h=>by
    simp only[m9,a1]at au;simp only[qE]at h;split at h
    · next mb fe E=>obtain⟨e7,q⟩:=wk ca au.1 a3 E;obtain⟨ni,b7⟩:=wk ca au.2 e7 h;refine⟨ni,λM u ak m K bI=> ?_⟩;rw[OZ];refine(q M u ak m K bI).b8 λet ba bk aQ=> ?_;obtain⟨rfl,cC,dz,aK,bb,c0⟩:=aQ;rw[VW];refine(b7 cC dz ba bk aK bb).b8 λaU eP dR aQ=> ?_;obtain⟨rfl,ea⟩:=aQ;exact⟨rfl,rl.trans c0 ea c0.jP c0.jZ⟩
    · next cJ=>
      obtain⟨e7,q⟩:=wk ca au.1 a3 h;refine⟨e7,λM u ak m K bI=> ?_⟩;rw[OZ];refine(q M u ak m K bI).b8 λet ba bk aQ=> ?_;obtain⟨rfl,g⟩:=aQ;cases et with
      |ew=>exact absurd h (cJ _ _)
      |a7 id=>exact⟨rfl,g⟩
      |aF=>exact⟨rfl,g⟩
  | .aM c a b,bV,hU,ah,c2,e,au,a3,h=>by
    simp only[m9,a1]at au;simp only[qE]at h;split at h
    · next ar=>obtain⟨e7,q⟩:=wk ca au.1.2 a3 h;refine⟨e7,λM u ak m K bI=> ?_⟩;have ad:=(bI.Z au.1.1);rw[ar]at ad;rw[OY,ad.qT];exact⟨rfl,q M u ak m K bI⟩
    · next ar=>obtain⟨e7,q⟩:=wk ca au.2 a3 h;refine⟨e7,λM u ak m K bI=> ?_⟩;have ad:=(bI.Z au.1.1);rw[ar]at ad;rw[OY,ad.qT];exact⟨rfl,q M u ak m K bI⟩
    · cases h
  | .block id c,bV,hU,ah,c2,e,au,a3,h=>by
    simp only[qE]at h;split at h
    · next jg mb fe E=>
      obtain⟨e7,q⟩:=wk (c:=c) ca au a3 E;split at h
      · next ep=>cases h;refine⟨e7,λM u ak m K bI=> ?_⟩;rw[Ji];refine(q M u ak m K bI).b8 λet ba bk aQ=> ?_;obtain⟨rfl,g⟩:=aQ;rw[Ch,if_pos ep];exact⟨rfl,g⟩
      · next ep=>cases h;refine⟨e7,λM u ak m K bI=> ?_⟩;rw[Ji];refine(q M u ak m K bI).b8 λet ba bk aQ=> ?_;obtain⟨rfl,g⟩:=aQ;rw[Ch,if_neg ep];exact⟨rfl,g⟩
    · next cJ=>
      obtain⟨e7,q⟩:=wk (c:=c) ca au a3 h;refine⟨e7,λM u ak m K bI=> ?_⟩;rw[Ji];refine(q M u ak m K bI).b8 λet ba bk aQ=> ?_;obtain⟨rfl,g⟩:=aQ;cases et with
      |a7 jg=>exact absurd h (cJ _ _ _)
      |ew=>exact⟨rfl,g⟩
      |aF=>exact⟨rfl,g⟩
  | .loop c,bV,hU,ah,c2,e,au,a3,h=>by simp only[qE]at h;exact afW (c:=c) au (λa3 h=>wk ca au a3 h) a3 h
def JM(P:Program)(oo:Nat->Option bM):Prop:= ∀f Fn,oo f=some Fn->bW P f=some Fn/\m9 Fn.body=true
def Jb:List (Nat×bM)->fD bM
  |[]=> .nil
  |p::l=>fD.set 21 (Jb l) p.1 (some p.2)
def JL(P:Program):List (Nat×bM)->Prop
  |[]=>True
  |p::l=>((A9 p.1=true/\bW P p.1=some p.2)/\m9 p.2.body=true)/\JL P l
theorem uw: ∀{l:List (Nat×bM)},JL P l->JM P (Jb l).X
  |[],_=> λf Fn h=>by cases h
  | p::l,h=> λf Fn aT=>by
    have e:(Jb (p::l)).X f=if f=p.1 then some p.2 else(Jb l).X f:=fD.tw (y0 h.1.1.1)
    rw[e]at aT;split at aT
    · next bn=>cases aT;rw[bn];exact⟨h.1.1.2,h.1.2⟩
    · exact uw h.2 f Fn aT
end
end Go.DI
