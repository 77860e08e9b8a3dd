/-
  A part of the proof of the statement, in texts that tools of ours (wip/shrink.py, irpack.py, relax.py, minify.py, join.py, lay.py) have shortened.
-/
import Derived.Test.YtmmkkggfmigppaaGreatZai
set_option linter.all false
set_option maxRecDepth 8000
set_option maxHeartbeats 16000000
namespace Go.DI
open Go Go.RowKit
def rf:Nat->Value->Value->Bool
  |0,_,_=>false
  | n+1,a,b=>match a,b with
    | .bool x,.bool y=>decide (x=y)
    | .int k x,.int gg y=>decide (k=gg)&&decide (x=y)
    | .string s,.string ki=>decide (s.data.toList=ki.data.toList)
    | .nilFunc,.nilFunc=>true
    | .nilIface,.nilIface=>true
    | .pointer none,.pointer none=>true
    | .slice none l J,.slice none dh jB=>Nat.beq l dh&&Nat.beq J jB
    | .agg xs,.agg ys=>wz (rf n) xs.toList ys.toList
    | .tuple xs,.tuple ys=>wz (rf n) xs.toList ys.toList
    | .func (.yield k) xs cs,.func (.yield gg) ys ds=>Nat.beq k gg&&(wz (rf n) xs.toList ys.toList&&wz (rf n) cs.toList ds.toList)
    |_,_=>false
where
  wz (f:Value->Value->Bool):List Value->List Value->Bool
  |[],[]=>true
  |x::l,y::k=>f x y&&wz f l k
  |_,_=>false
theorem P7{f:Value->Value->Bool}(aT: ∀a b,f a b=true->a=b): ∀{l k:List Value},rf.wz f l k=true->l=k
  |[],[],_=>rfl
  |[],_::_,h=>by cases h
  |_::_,[],h=>by cases h
  | x::l,y::k,h=>by simp only[rf.wz,a1]at h;rw[aT x y h.1,P7 aT h.2]
theorem Wa: ∀{n:Nat} (a b:Value),rf n a b=true->a=b
  |0,_,_,h=>by cases h
  | n+1,a,b,h=>by
    have cx: ∀a b,rf n a b=true->a=b:= λa b h=>Wa a b h;have iX: ∀{xs ys:Array Value},rf.wz (rf n) xs.toList ys.toList=true->xs=ys:= λ{xs ys} h=>B6.1 (P7 cx h);simp only[rf]at h;split at h
    · rw[of_decide_eq_true h]
    · simp only[a1,e2]at h;rw[h.1,h.2]
    · next s ki=>have:=of_decide_eq_true h;obtain⟨⟨l⟩⟩:=s;obtain⟨⟨dh⟩⟩:=ki;simp only at this;rw[this]
    · rfl
    · rfl
    · rfl
    · simp only[a1,Nat.beq_eq]at h;rw[h.1,h.2]
    · rw[iX h]
    · rw[iX h]
    · simp only[a1,Nat.beq_eq]at h;rw[h.1,iX h.2.1,iX h.2.2]
    · cases h
def uy(n:Nat)(l k:List Value):Bool:=rf.wz (rf n) l k
theorem aEH{n:Nat}{l k:List Value}(h:uy n l k=true):l=k:=P7 (λa b h=>Wa a b h) h
abbrev mR:=List (Nat×List Value×Value)
def NJ(f:Nat)(ts:List Value):mR->Option Value
  |[]=>none
  |p::l=>bif Nat.beq p.1 f&&uy 30 p.2.1 ts then some p.2.2 else NJ f ts l
def QJ(f:Nat):mR->Bool
  |[]=>false
  |p::l=>Nat.beq p.1 f||QJ f l
def pO(P:Program)(l:mR):Prop:= ∀p∈l,bH P p.1 p.2.1 p.2.2
theorem agm{P:Program}{f:Nat}{ts:List Value}{r:Value}: ∀{l:mR},pO P l->NJ f ts l=some r->bH P f ts r
  |[],_,h=>by cases h
  | p::l,aB,h=>by
    simp only[NJ]at h;cases hb:Nat.beq p.1 f&&uy 30 p.2.1 ts with
    |false=>rw[hb]at h;exact agm (λq bd=>aB q (by simp[bd])) h
    | true=>rw[hb]at h;simp only[cond_true,lV]at h;simp only[a1,Nat.beq_eq]at hb;rw[<-hb.1,<-aEH hb.2,<-h];exact aB p (by simp)
def TY(hz:mR)(f:Nat)(args:List Value)(ah:eK):Option (Value×eK):=match zZ 9 (cF ah) args with
  | some ts=>(match NJ f ts hz with
    | some r=>if mV r then(match zQ ah (args.flatMap (ed 9 (cF ah)))with
          |some fe=>some (r,fe)
          |none=>none)
        else(match EB ah (args.flatMap (ed 9 (cF ah)))with
          |some fe=>some (r,fe)
          |none=>none)
    |none=>none)
  |none=>none
theorem azU{P:Program}{hz:mR}(u1:pO P hz){f:Nat}{args:List Value}{ah cv:eK}{r:Value}(a3:fK ah)(h:TY hz f args ah=some (r,cv)):fK cv/\fi P f args (cF ah) λdL aI=>dL=r/\aI=cF cv:=by
  have mU: ∀{ts:List Value},∀ab:bH P f ts r,vD [NT ab] f args (cF ah) (λdL aI=>dL=r/\aI=cF cv)->fi P f args (cF ah) λdL aI=>dL=r/\aI=cF cv:= λ{ts} ab q M u bY m K aA=>by refine(UB K aA q).b8 λdL aq aQ=> ?_;obtain⟨E,cP,mK,aI,⟨rfl,rfl⟩,av,aH,br⟩:=aQ;exact⟨M,cP,_,_,⟨rfl,rfl⟩,av,aH,br⟩
  unfold TY at h;split at h
  · next ts Gm=>
    split at h
    · next fs aw=>
      have ab:bH P f ts fs:=agm u1 aw;split at h
      · next e1=>
        split at h
        · next fe I=>cases h;obtain⟨e7,aU⟩:=Kf a3 I;exact⟨e7,mU ab (NU ab Gm ⟨rfl,by rw[if_pos e1,aU]⟩)⟩
        · cases h
      · next e1=>
        split at h
        · next fe I=>cases h;obtain⟨e7,aU⟩:=IZ a3 I;exact⟨e7,mU ab (NU ab Gm ⟨rfl,by rw[if_neg e1,aU]⟩)⟩
        · cases h
    · cases h
  · cases h
def FK(oo:Nat->Option bM)(hz:mR)(hq:l8)(n:Nat):Nat->l8
  |0=> λ_ _ _=>none
  | d+1=> λf args ah=>match hq f args ah with
    |some x=>some x
    | none=>bif QJ f hz then TY hz f args ah else match oo f with
      |some Fn=>if Nat.ble args.length Fn.cZ&&Nat.blt args.length 1000000 then Kq Fn.jA (qE (FK oo hz hq n d) n Fn.body (Av args 0 .nil) ah)else none
      |none=>none
theorem Yq{P:Program}{oo:Nat->Option bM}(bA:JM P oo){hz:mR}(u1:pO P hz){hq:l8}(gP:rk P hq){n:Nat}: ∀d,rk P (FK oo hz hq n d)
  |0=> λf args ah r cv a3 h=>by cases h
  | d+1=> λf args ah r cv a3 h=>by
    simp only[FK]at h;cases bn:hq f args ah with
    |some x=>rw[bn]at h;cases h;exact gP _ _ _ _ _ a3 bn
    |none=>
    rw[bn]at h;simp only at h;cases hb:QJ f hz with
    |true=>rw[hb]at h;exact azU u1 a3 h
    |false=>
    rw[hb]at h;simp only[cond_false]at h;split at h
    · next Fn aT=>
      obtain⟨dx,au⟩:=bA f Fn aT;split at h
      · next aB=>
        simp only[a1,Nat.ble_eq,Nat.blt_eq]at aB;cases ar:qE (FK oo hz hq n d) n Fn.body (Av args 0 .nil) ah with
        |none=>rw[ar]at h;cases h
        | some x=>
          obtain⟨e,bV,c2⟩:=x;rw[ar]at h;obtain⟨w,q⟩:=wk (Yq bA u1 gP d) au a3 ar;have mU:e≠ .a7 0->(∀id,e≠ .a7 id)->k7 (cF c2) (k8 bV) Fn.jA=true->r=lu (cF c2) (k8 bV) Fn.jA->cv=c2->fK cv/\fi P f args (cF ah) λdL aI=>dL=r/\aI=cF cv:= λ_ cJ aw aJ aU=>by
            subst aJ;subst aU;refine⟨w,λM u bY m K aA=> ?_⟩;rw[sY dx (by rw[<-aA.1];exact aB.1)];refine(q M u (jI bY) m K (by rw[aDM aB.2];exact g4.init aA)).b8 λet ba bk aQ=> ?_;obtain⟨rfl,cC,dz,aK,bb,c0⟩:=aQ;obtain⟨a,b⟩:=UJ aK bb aw;cases et with
            |a7 id=>exact absurd rfl (cJ id)
            |ew=>exact⟨a,cC,dz,_,_,⟨rfl,rfl⟩,aK,b,c0⟩
            |aF=>exact⟨a,cC,dz,_,_,⟨rfl,rfl⟩,aK,b,c0⟩
          cases e with
          |a7 id=>simp only[Kq]at h;cases h
          | ew=>
            simp only[Kq]at h;split at h
            · next aw=>cases h;exact mU (by simp) (by simp) aw rfl rfl
            · cases h
          | aF=>
            simp only[Kq]at h;split at h
            · next aw=>cases h;exact mU (by simp) (by simp) aw rfl rfl
            · cases h
      · cases h
    · cases h
def P9(oo:Nat->Option bM)(hz:mR)(hq:l8)(n d f:Nat)(args:List Value)(r:Value):Bool:=match FK oo hz hq n d f args Fa with
  | some (v,c2)=>(match dI 9 (cF c2) v with
    |some fs=>rf 30 fs r
    |none=>false)
  |none=>false
theorem uR{P:Program}{oo:Nat->Option bM}(bA:JM P oo){hz:mR}(u1:pO P hz){hq:l8}(gP:rk P hq){n d f:Nat}{args:List Value}{r:Value}(h:P9 oo hz hq n d f args r=true):bH P f args r:=by
  unfold P9 at h;split at h
  · next v c2 rE=>
    obtain⟨w,q⟩:=Yq bA u1 gP d f args Fa _ _ ais rE;rw[agu]at q;split at h
    · next fs aw=>have:=Wa _ _ h;subst this;exact ei (q.b8 λdL aI aQ=>by rw[aQ.1,aQ.2];exact aw)
    · cases h
  · cases h
def agM:l8:= λ_ _ _=>none
theorem aBa{P:Program}:rk P agM:= λ_ _ _ _ _ _ h=>by cases h
def Yf(oo:Nat->Option bM)(hz:mR)(n d f:Nat)(args:List Value)(r:Value):Bool:=P9 oo hz agM n d f args r
theorem ak1{P:Program}{oo:Nat->Option bM}(bA:JM P oo){hz:mR}(u1:pO P hz){n d f:Nat}{args:List Value}{r:Value}(h:Yf oo hz n d f args r=true):bH P f args r:=uR bA u1 aBa h
theorem agn{P:Program}:pO P []:= λp ab=>by cases ab
theorem oK{P:Program}{p:Nat×List Value×Value}{l:mR}(h:bH P p.1 p.2.1 p.2.2)(aB:pO P l):pO P (p::l):= λq bd=>by
  rcases hH.1 bd with rfl|bd
  · exact h
  · exact aB q bd
end Go.DI
namespace Go.Proofs.YtmmkkggfmigppaaGreat
open Go Go.DI
def ZY:H:= .B (.D [z 0 9 0,kt 1 10 9 0,z 2 11 1,kt 3 12 11 0,a4 4 13 (.e8 .neq .bool (F 10) (F 12)),z 5 14 0,b0 6 15 169 [F 14],b0 7 16 168 [F 15],z 8 17 1,b0 9 18 169 [F 17],b0 10 19 168 [F 18],b0 11 20 167 [F 13,F 16,F 19],bz 12 3 4 20,a5 13 5 0]) (.aF)
def ZX:H:= .B (.B (.D [z 0 6 1,kI 1 7 6 0]) (.aM (F 7) (.B (.D [a4 0 8 (.fF [.bool false,aX,aX] []),bz 1 3 4 8,a5 2 5 3]) (.aF)) (.skip))) ZY
def ZV:H:=
  .B (
  .D [
 a4 0 4 (.c9 [.bool false,aX,aX]),
 a5 1 5 0]) ZX
def Li:bM:=⟨21,[.im 4 true 3,.bw 5],ZV⟩
theorem ZW:bW al 107=some Li:=by kernel_rfl
def aaO:H:= .B (.D [ay 0 3 2 1,ao 1 4 3,b0 2 5 194 [F 4],bq 3 6 5,jX 4 7 6 0,z 5 8 7,eB 6 9 8 2 1,dQ 7 10 8 9,m3 8 11 8 194 10,k3 9 12 8 11,n8 10 13 8 12 128,cR 11 14 8 13,z 12 15 14,eB 13 16 15 1 1,dQ 14 17 15 16,m3 15 18 15 194 17,k3 16 19 15 18,n8 17 20 15 19 128,cR 18 21 15 20,z 19 2 21]) (.aF)
def aaM:H:=
  .B (
  .D [
 dJ 0 1 0,
 cr 1 2 false]) aaO
def Lp:bM:=⟨22,[.bw 2],aaM⟩
theorem aaN:bW al 138=some Lp:=by kernel_rfl
def aaR:H:= .B (.D [bL 0 3 3 1,iS 1 4 (.dY 193 [.const aG]) [(F 1,F 1)],db 2 5 195 3 4,z 3 2 5]) (.aF)
def aaP:H:=
  .B (
  .D [
 dJ 0 1 0,
 a5 1 2 0]) aaR
def Lq:bM:=⟨6,[.bw 2],aaP⟩
theorem aaQ:bW al 139=some Lq:=by kernel_rfl
def abj:H:= .B (.D [z 0 24 7,bq 1 25 24,jX 2 26 25 1,z 3 27 26,du 4 28 27 7,cQ 5 29 27 false (.oH 1 (F 28) (.const aG)),dM 6 30 27 29,cQ 7 31 27 false (.e8 .gtr .fW (F 30) (.const (.int .u32 1))),c6 8 32 27 31]) (.aM (F 32) (.B (.D [z 0 34 1,z 1 35 7,db 2 36 214 34 35,z 3 33 36,b3 4 37 0 33,b3 5 38 1 33,b3 6 39 2 33,z 7 1 37]) (.D [z 0 41 2,z 1 42 7,db 2 43 214 41 42,z 3 40 43,b3 4 44 0 40,b3 5 45 1 40,b3 6 46 2 40,z 7 2 44])) (.skip))
def abk:H:= .B (.D [z 0 47 0,z 1 48 1,z 2 49 2,a4 3 50 (.fF [.bool false,aX,aX] [(0,1,F 47),(1,1,F 48),(2,1,F 49)]),bz 4 3 6 50]) (.aF)
def abi:H:= .B (.B (.D [z 0 19 1,z 1 20 2,db 2 21 213 19 20,z 3 18 21,b3 4 22 0 18,b3 5 23 1 18,z 6 7 22,z 7 8 23]) abj) abk
def abh:H:= .B (.B (.D [z 0 13 1,bq 1 14 13,kI 2 15 14 0]) (.aM (F 15) (.B (.D [a4 0 16 (.gM 1 1 [.int .u32 0] [(0,1,.const (.int .u32 1))]),a4 1 17 (.fF [.bool false,aX,aX] [(2,1,F 16)]),bz 2 3 6 17]) (.aF)) (.skip))) abi
def abg:H:= .B (.D [z 0 9 1,b0 1 10 194 [F 9],z 2 11 2,b0 3 12 194 [F 11],z 4 1 10,z 5 2 12]) abh
def abe:H:=
  .B (
  .D [
 a4 0 6 (.c9 [.bool false,aX,aX])]) abg
def Ly:bM:=⟨51,[.im 6 true 3],abe⟩
theorem abf:bW al 167=some Ly:=by kernel_rfl
def abr:H:= .B (.D [z 0 10 0,jK 1 11 10,z 2 2 11]) (.aF)
def abq:H:= .B (.B (.D [z 0 3 0,kt 1 4 3 0]) (.aM (F 4) (.B (.D [z 0 5 0,cI 1 6 5,a4 2 7 (.qs .neg (F 6)),jK 3 8 7,df 4 9 .add (F 8) (.const (.int .u64 1)),z 5 2 9]) (.aF)) (.skip))) abr
def abo:H:=
  .B (
  .D [
 vm 0 2 0]) abq
def LA:bM:=⟨12,[.bw 2],abo⟩
theorem abp:bW al 169=some LA:=by kernel_rfl
def ap1:H:= .B (.B (.D [z 0 23 8,tU 1 24 23]) (.aM (F 24) (.B (.D [a4 0 25 (.fF [.bool false,aX,aX] []),z 1 26 8,bz 2 3 2 25,z 3 3 26]) (.aF)) (.skip))) (.D [bL 0 27 3 7,bz 1 3 4 27])
def ap0:H:= .B (.D [bL 0 18 3 4,bL 1 19 3 6,db 2 20 218 18 19,z 3 17 20,b3 4 21 0 17,b3 5 22 1 17,a4 6 7 (.c9 [.bool false,aX,aX]),bz 7 3 7 21,z 8 8 22]) ap1
def apZ:H:= .B (.block 1 (.B (.D [aY 0 15 3 11 13,bL 1 16 3 15,a4 2 6 (.c9 [.bool false,aX,aX]),bz 3 3 6 16]) ap0)) (.D [cI 0 28 13,z 1 13 28])
def apY:H:= .B (.aM (F 14) (.skip) (.a7 0)) apZ
def ap3:H:= .B (.D [cY 0 14 13 12]) apY
def ap2:H:= .B (.D [bL 0 29 3 4,bz 1 3 2 29,a5 2 3 0]) (.aF)
def apX:H:= .B (.B (.D [z 0 11 0,bq 1 12 11,a5 2 13 0]) (.block 0 (.loop ap3))) ap2
def apW:H:= .B (.D [b0 0 9 217 [.const (.int .u64 1)],a4 1 10 (.fF [.bool false,aX,aX] [(2,1,F 9)]),a4 2 4 (.c9 [.bool false,aX,aX]),bz 3 3 4 10]) apX
def apU:H:=
  .B (
  .D [
 a4 0 2 (.c9 [.bool false,aX,aX]),
 a5 1 3 0]) apW
def abC:bM:=⟨30,[.im 2 true 3,.bw 3],apU⟩
theorem apV:bW al 173=some abC:=by kernel_rfl
def ap7:H:= .B (.D [z 0 9 0,kt 1 10 9 0,z 2 11 1,kt 3 12 11 0,a4 4 13 (.e8 .neq .bool (F 10) (F 12)),z 5 14 0,b0 6 15 220 [F 14],z 7 16 1,b0 8 17 220 [F 16],b0 9 18 219 [F 13,F 15,F 17],b3 10 19 0 18,b3 11 20 1 18,bz 12 3 4 19,z 13 5 20]) (.aF)
def ap6:H:= .B (.B (.D [z 0 6 1,kI 1 7 6 0]) (.aM (F 7) (.B (.D [a4 0 8 (.fF [.bool false,aX,aX] []),bz 1 3 4 8,a5 2 5 3]) (.aF)) (.skip))) ap7
def ap4:H:=
  .B (
  .D [
 a4 0 4 (.c9 [.bool false,aX,aX]),
 a5 1 5 0]) ap6
def abD:bM:=⟨21,[.im 4 true 3,.bw 5],ap4⟩
theorem ap5:bW al 174=some abD:=by kernel_rfl
def aqe:H:= .B (.D [z 0 53 6,z 1 4 53,a5 2 5 0]) (.aF)
def aqd:H:= .B (.block 0 (.B (.D [z 0 43 7,z 1 44 43,dg 2 45 44 8,cR 3 46 44 45,z 4 42 46]) (.aM (F 42) (.B (.D [z 0 47 6,a4 1 48 (.qs .neg (F 47)),z 2 4 48,a5 3 5 0]) (.aF)) (.B (.D [z 0 50 7,z 1 49 50]) (.aM (F 49) (.B (.D [a5 0 4 (-1),a5 1 5 0]) (.aF)) (.B (.D [z 0 52 8,z 1 51 52]) (.aM (F 51) (.B (.D [a5 0 4 1,a5 1 5 0]) (.aF)) (.skip)))))))) aqe
def aqc:H:= .B (.D [ay 0 28 0 2,ao 1 29 28,z 2 30 29,kJ 3 31 30 3 2,ay 7 35 0 3,ao 8 36 35,⟨4,some 32,some (30,true),.dY 224 [F 31],[(F 35,F 35)]⟩,rR 5 33 30 32,cR 6 34 30 33,z 9 37 36,kJ 10 38 37 3 3,m3 11 39 37 224 38,rR 12 40 37 39,cR 13 41 37 40,z 14 7 34,z 15 8 41]) aqd
def aqb:H:= .B (.D [ay 0 17 1 2,ao 1 18 17,ay 2 19 2 3,ao 3 20 19,ay 5 22 1 3,ao 6 23 22,ay 7 24 2 2,ao 8 25 24,iS 4 21 (.dY 223 [F 18,F 20]) [(F 24,F 24),(F 22,F 22)],db 9 26 223 23 25,db 10 27 222 21 26,z 11 6 27]) aqc
def aqa:H:= .B (.B (.D [bL 0 9 3 2,b0 1 10 221 [F 9],g6 2 11 10,z 3 12 11,mI 4 13 12 3 3,jv 5 14 12 221 13,jh 6 15 12 14,c6 7 16 12 15]) (.aM (F 16) (.B (.D [a5 0 4 0,a5 1 5 1]) (.aF)) (.skip))) aqb
def ap8:H:=
  .B (
  .D [
 dJ 0 2 0,
 dJ 1 3 1,
 a5 2 4 0,
 a5 3 5 0]) aqa
def abE:bM:=⟨54,[.bw 4,.bw 5],ap8⟩
theorem ap9:bW al 175=some abE:=by kernel_rfl
def aq3:H:= .B (.B (.D [z 0 24 7,tU 1 25 24]) (.aM (F 25) (.B (.D [a4 0 26 (.fF [.bool false,aX,aX] []),z 1 27 7,bz 2 3 2 26,z 3 3 27]) (.aF)) (.skip))) (.D [bL 0 28 3 6,bz 1 3 4 28])
def aq2:H:= .B (.block 1 (.B (.D [bL 0 16 3 4,z 1 17 0,z 2 18 5,aY 3 19 3 17 18,bL 4 20 3 19,db 5 21 239 16 20,z 6 15 21,b3 7 22 0 15,b3 8 23 1 15,a4 9 6 (.c9 [.bool false,aX,aX]),bz 10 3 6 22,z 11 7 23]) aq3)) (.D [z 0 13 5,cI 1 14 13,z 2 5 14])
def aq5:H:= .B (.B (.D [z 0 9 5,z 1 10 0,bq 2 11 10,cY 3 12 9 11]) (.aM (F 12) (.skip) (.a7 0))) aq2
def aq4:H:= .B (.D [bL 0 29 3 4,bz 1 3 2 29,a5 2 3 0]) (.aF)
def aq1:H:= .B (.B (.D [a5 0 5 0]) (.block 0 (.loop aq5))) aq4
def aq0:H:= .B (.D [b0 0 8 193 [.const aG],a4 1 4 (.c9 [.bool false,aX,aX]),bz 2 3 4 8]) aq1
def aqY:H:=
  .B (
  .D [
 a4 0 2 (.c9 [.bool false,aX,aX]),
 a5 1 3 0]) aq0
def abZ:bM:=⟨30,[.im 2 true 3,.bw 3],aqY⟩
theorem aqZ:bW al 191=some abZ:=by kernel_rfl
def aq8:H:= .B (.D [bL 0 5 3 2,bL 1 6 3 3,db 2 7 195 5 6,kI 3 8 7 0,z 4 4 8]) (.aF)
def aq6:H:=
  .B (
  .D [
 dJ 0 2 0,
 dJ 1 3 1,
 cr 2 4 false]) aq8
def ab0:bM:=⟨9,[.bw 4],aq6⟩
theorem aq7:bW al 192=some ab0:=by kernel_rfl
def arc:H:= .B (.D [bL 0 10 3 3,bz 1 3 2 10]) (.aF)
def arb:H:= .B (.D [z 0 6 0,k4 1 7 107 6 1,z 2 5 7,b3 3 8 0 5,b3 4 9 1 5,a4 5 3 (.c9 [.bool false,aX,aX]),bz 6 3 3 8,z 7 4 9]) arc
def aq9:H:=
  .B (
  .D [
 a4 0 2 (.c9 [.bool false,aX,aX])]) arb
def ab1:bM:=⟨11,[.im 2 true 3],aq9⟩
theorem ara:bW al 193=some ab1:=by kernel_rfl
def ab7:H:= .B (.D [z 0 50 5,z 1 51 6,db 2 52 241 50 51,z 3 4 52]) (.aF)
def ab6:H:= .B (.block 0 (.B (.D [z 0 34 7,z 1 35 34,dg 2 36 35 8,rR 3 37 35 36,cR 4 38 35 37,z 5 33 38]) (.aM (F 33) (.B (.D [a5 0 4 (-1)]) (.aF)) (.B (.D [z 0 40 8,z 1 41 40,dg 2 42 41 7,rR 3 43 41 42,cR 4 44 41 43,z 5 39 44]) (.aM (F 39) (.B (.D [a5 0 4 1]) (.aF)) (.B (.D [z 0 46 7,z 1 45 46]) (.aM (F 45) (.B (.D [z 0 47 6,z 1 48 5,db 2 49 241 47 48,z 3 4 49]) (.aF)) (.skip)))))))) ab7
def ab5:H:= .B (.D [ay 0 19 0 2,ao 1 20 19,z 2 21 20,dg 3 22 21 5,k3 4 23 21 22,yW 5 24 21 23,cR 6 25 21 24,ay 7 26 0 3,ao 8 27 26,z 9 28 27,dg 10 29 28 6,k3 11 30 28 29,yW 12 31 28 30,cR 13 32 28 31,z 14 7 25,z 15 8 32]) ab6
def ab4:H:= .B (.D [ay 0 9 1 2,ao 1 10 9,ay 2 11 2 3,ao 3 12 11,ay 5 14 1 3,ao 6 15 14,ay 7 16 2 2,ao 8 17 16,iS 4 13 (.dY 240 [F 10,F 12]) [(F 16,F 16),(F 14,F 14)],db 9 18 240 15 17,z 10 5 13,z 11 6 18]) ab5
def ab2:H:=
  .B (
  .D [
 dJ 0 2 0,
 dJ 1 3 1,
 a5 2 4 0]) ab4
def LR:bM:=⟨53,[.bw 4],ab2⟩
theorem ab3:bW al 195=some LR:=by kernel_rfl
def acb:H:= .B (.D [ay 0 8 0 1,ao 1 9 8,ay 2 10 1 1,ao 3 11 10,ay 4 12 2 1,ao 5 13 12,b0 6 14 167 [F 9,F 11,F 13],bz 7 3 2 14,a5 8 3 0]) (.aF)
def aca:H:= .B (.B (.D [bL 0 4 3 1,b0 1 5 138 [F 4],g6 2 6 5]) (.aM (F 6) (.B (.D [a4 0 7 (.fF [.bool false,aX,aX] []),bz 1 3 2 7,a5 2 3 1]) (.aF)) (.skip))) acb
def ab8:H:=
  .B (
  .D [
 dJ 0 1 0,
 a4 1 2 (.c9 [.bool false,aX,aX]),
 a5 2 3 0]) aca
def LS:bM:=⟨15,[.im 2 true 3,.bw 3],ab8⟩
theorem ab9:bW al 196=some LS:=by kernel_rfl
def ari:H:= .B (.D [bL 0 5 3 2,bL 1 6 3 3,db 2 7 195 5 6,kt 3 8 7 0,z 4 4 8]) (.aF)
def arf:H:=
  .B (
  .D [
 dJ 0 2 0,
 dJ 1 3 1,
 cr 2 4 false]) ari
def acd:bM:=⟨9,[.bw 4],arf⟩
theorem arh:bW al 199=some acd:=by kernel_rfl
def acC:H:= .B (.D [ay 0 8 0 1,ao 1 9 8,ay 2 10 1 1,ao 3 11 10,ay 4 12 2 1,ao 5 13 12,b0 6 14 219 [F 9,F 11,F 13],b3 7 15 0 14,b3 8 16 1 14,bz 9 3 2 15,z 10 3 16]) (.aF)
def acB:H:= .B (.B (.D [bL 0 4 3 1,b0 1 5 221 [F 4],g6 2 6 5]) (.aM (F 6) (.B (.D [a4 0 7 (.fF [.bool false,aX,aX] []),bz 1 3 2 7,a5 2 3 1]) (.aF)) (.skip))) acC
def acz:H:=
  .B (
  .D [
 dJ 0 1 0,
 a4 1 2 (.c9 [.bool false,aX,aX]),
 a5 2 3 0]) acB
def L4:bM:=⟨17,[.im 2 true 3,.bw 3],acz⟩
theorem acA:bW al 215=some L4:=by kernel_rfl
def atd:H:= .B (.D [ay 0 50 0 2,ao 1 51 50,z 2 52 9,z 3 53 8,b0 4 54 219 [F 51,F 52,F 53],b3 5 55 0 54,b3 6 56 1 54,bz 7 3 4 55,z 8 5 56]) (.aF)
def atf:H:= .B (.D [ay 0 67 0 2,ao 1 68 67,z 2 69 11,z 3 70 8,b0 4 71 219 [F 68,F 69,F 70],b3 5 72 0 71,b3 6 73 1 71,bz 7 3 4 72,z 8 5 73]) (.aF)
def ath:H:= .B (.D [ay 0 80 0 3,ao 1 81 80,z 2 82 13,z 3 83 8,b0 4 84 219 [F 81,F 82,F 83],b3 5 85 0 84,b3 6 86 1 84,bz 7 3 4 85,z 8 5 86]) (.aF)
def atg:H:= .B (.D [z 0 75 7,z 1 76 6,db 2 77 250 75 76,z 3 74 77,b3 4 78 0 74,b3 5 79 1 74,z 6 13 78,z 7 14 79]) ath
def ate:H:= .B (.B (.D [z 0 57 6,z 1 58 7,db 2 59 222 57 58,lL 3 60 59 0]) (.aM (F 60) (.B (.D [z 0 62 6,z 1 63 7,db 2 64 250 62 63,z 3 61 64,b3 4 65 0 61,b3 5 66 1 61,z 6 11 65,z 7 12 66]) atf) (.skip))) atg
def atc:H:= .B (.B (.D [ay 0 39 0 2,ao 1 40 39,ay 2 41 0 3,ao 3 42 41,a4 4 43 (.e8 .eql .bool (F 40) (F 42))]) (.aM (F 43) (.B (.D [z 0 45 6,z 1 46 7,db 2 47 249 45 46,z 3 44 47,b3 4 48 0 44,b3 5 49 1 44,z 6 9 48,z 7 10 49]) atd) (.skip))) ate
def atb:H:= .B (.D [ay 0 24 1 2,ao 1 25 24,ay 2 26 2 3,ao 3 27 26,ay 5 29 1 3,ao 6 30 29,ay 7 31 2 2,ao 8 32 31,ay 10 34 2 2,ao 11 35 34,ay 12 36 2 3,ao 13 37 36,iS 4 28 (.dY 223 [F 25,F 27]) [(F 36,F 36),(F 34,F 34),(F 31,F 31),(F 29,F 29)],iS 9 33 (.dY 223 [F 30,F 32]) [(F 36,F 36),(F 34,F 34)],db 14 38 223 35 37,z 15 6 28,z 16 7 33,z 17 8 38]) atc
def ata:H:= .B (.B (.D [bL 0 15 3 2,b0 1 16 221 [F 15],g6 2 17 16,z 3 18 17,mI 4 19 18 3 3,jv 5 20 18 221 19,jh 6 21 18 20,c6 7 22 18 21]) (.aM (F 22) (.B (.D [a4 0 23 (.fF [.bool false,aX,aX] []),bz 1 3 4 23,a5 2 5 1]) (.aF)) (.skip))) atb
def as8:H:=
  .B (
  .D [
 dJ 0 2 0,
 dJ 1 3 1,
 a4 2 4 (.c9 [.bool false,aX,aX]),
 a5 3 5 0]) ata
def acL:bM:=⟨87,[.im 4 true 3,.bw 5],as8⟩
theorem as9:bW al 218=some acL:=by kernel_rfl
def acP:H:= .B (.D [z 0 16 8,b0 1 17 216 [F 16],jX 2 18 17 1]) (.aM (F 18) (.B (.D [z 0 20 1,z 1 21 8,db 2 22 252 20 21,z 3 19 22,b3 4 23 0 19,b3 5 24 1 19,b3 6 25 2 19,z 7 1 23]) (.D [z 0 27 2,z 1 28 8,db 2 29 252 27 28,z 3 26 29,b3 4 30 0 26,b3 5 31 1 26,b3 6 32 2 26,z 7 2 30])) (.skip))
def acR:H:= .B (.D [z 0 42 0,z 1 43 42,dg 2 44 43 1,m3 3 45 43 216 44,yW 4 46 43 45,cR 5 47 43 46,z 6 48 1,b0 7 49 253 [F 48],z 8 50 2,b0 9 51 253 [F 50],a4 10 52 (.fF [.bool false,aX,aX] [(0,1,F 47),(1,1,F 49),(2,1,F 51)]),bz 11 3 6 52,a5 12 7 0]) (.aF)
def acQ:H:= .B (.B (.D [z 0 33 1,b0 1 34 216 [F 33],jX 2 35 34 4096,z 3 36 35,du 4 37 36 2,jv 5 38 36 216 37,mm 6 39 36 38 4096,c6 7 40 36 39]) (.aM (F 40) (.B (.D [a4 0 41 (.fF [.bool false,aX,aX] []),bz 1 3 6 41,a5 2 7 2]) (.aF)) (.skip))) acR
def acO:H:= .B (.B (.D [z 0 11 1,z 1 12 2,db 2 13 251 11 12,z 3 10 13,b3 4 14 0 10,b3 5 15 1 10,z 6 8 14,z 7 9 15]) acP) acQ
def acM:H:=
  .B (
  .D [
 a4 0 6 (.c9 [.bool false,aX,aX]),
 a5 1 7 0]) acO
def L7:bM:=⟨53,[.im 6 true 3,.bw 7],acM⟩
theorem acN:bW al 219=some L7:=by kernel_rfl
def atl:H:= .B (.D [z 0 9 0,jK 1 10 9,b0 2 11 217 [F 10],z 3 2 11]) (.aF)
def atk:H:= .B (.B (.D [z 0 3 0,kt 1 4 3 0]) (.aM (F 4) (.B (.D [z 0 5 0,jK 1 6 5,a4 2 7 (.qs .neg (F 6)),b0 3 8 217 [F 7],z 4 2 8]) (.aF)) (.skip))) atl
def ati:H:=
  .B (
  .D [
 dV 0 2]) atk
def acS:bM:=⟨12,[.bw 2],ati⟩
theorem atj:bW al 220=some acS:=by kernel_rfl
def acW:H:= .B (.D [z 0 7 3,jX 1 8 7 0,z 2 9 8,dg 3 10 9 3,n8 4 11 9 10 4096,cR 5 12 9 11,z 6 13 12,eB 7 14 13 1 1,dQ 8 15 13 14,m3 9 16 13 216 15,n8 10 17 13 16 4096,cR 11 18 13 17,z 12 2 18]) (.aF)
def acV:H:= .B (.D [ay 0 4 2 1,ao 1 5 4,b0 2 6 216 [F 5],z 3 3 6]) acW
def acT:H:=
  .B (
  .D [
 dJ 0 1 0,
 cr 1 2 false]) acV
def L8:bM:=⟨19,[.bw 2],acT⟩
theorem acU:bW al 221=some L8:=by kernel_rfl
def atp:H:= .B (.D [z 0 13 5,z 1 4 13]) (.aF)
def ato:H:= .B (.D [z 0 8 0,z 1 9 1,db 2 10 254 8 9,z 3 7 10,b3 4 11 0 7,b3 5 12 1 7,z 6 5 11,z 7 6 12]) atp
def atm:H:=
  .B (
  .D [
 dV 0 4]) ato
def ac2:bM:=⟨14,[.bw 4],atm⟩
theorem atn:bW al 223=some ac2:=by kernel_rfl
def atY:H:= .B (.D [ay 0 50 0 2,ao 1 51 50,z 2 52 9,z 3 53 8,b0 4 54 167 [F 51,F 52,F 53],b0 5 55 258 [F 54],b3 6 56 0 55,b3 7 57 1 55,bz 8 3 4 56,z 9 5 57]) (.aF)
def at0:H:= .B (.D [ay 0 68 0 2,ao 1 69 68,z 2 70 11,z 3 71 8,b0 4 72 167 [F 69,F 70,F 71],b0 5 73 258 [F 72],b3 6 74 0 73,b3 7 75 1 73,bz 8 3 4 74,z 9 5 75]) (.aF)
def at2:H:= .B (.D [ay 0 82 0 3,ao 1 83 82,z 2 84 13,z 3 85 8,b0 4 86 167 [F 83,F 84,F 85],b0 5 87 258 [F 86],b3 6 88 0 87,b3 7 89 1 87,bz 8 3 4 88,z 9 5 89]) (.aF)
def at1:H:= .B (.D [z 0 77 7,z 1 78 6,db 2 79 259 77 78,z 3 76 79,b3 4 80 0 76,b3 5 81 1 76,z 6 13 80,z 7 14 81]) at2
def atZ:H:= .B (.B (.D [z 0 58 6,z 1 59 7,db 2 60 241 58 59,lL 3 61 60 0]) (.aM (F 61) (.B (.D [z 0 63 6,z 1 64 7,db 2 65 259 63 64,z 3 62 65,b3 4 66 0 62,b3 5 67 1 62,z 6 11 66,z 7 12 67]) at0) (.skip))) at1
def atX:H:= .B (.B (.D [ay 0 39 0 2,ao 1 40 39,ay 2 41 0 3,ao 3 42 41,a4 4 43 (.e8 .eql .bool (F 40) (F 42))]) (.aM (F 43) (.B (.D [z 0 45 6,z 1 46 7,db 2 47 257 45 46,z 3 44 47,b3 4 48 0 44,b3 5 49 1 44,z 6 9 48,z 7 10 49]) atY) (.skip))) atZ
def atW:H:= .B (.D [ay 0 24 1 2,ao 1 25 24,ay 2 26 2 3,ao 3 27 26,ay 5 29 1 3,ao 6 30 29,ay 7 31 2 2,ao 8 32 31,ay 10 34 2 2,ao 11 35 34,ay 12 36 2 3,ao 13 37 36,iS 4 28 (.dY 240 [F 25,F 27]) [(F 36,F 36),(F 34,F 34),(F 31,F 31),(F 29,F 29)],iS 9 33 (.dY 240 [F 30,F 32]) [(F 36,F 36),(F 34,F 34)],db 14 38 240 35 37,z 15 6 28,z 16 7 33,z 17 8 38]) atX
def atV:H:= .B (.B (.D [bL 0 15 3 2,b0 1 16 138 [F 15],g6 2 17 16,z 3 18 17,mI 4 19 18 3 3,jv 5 20 18 138 19,jh 6 21 18 20,c6 7 22 18 21]) (.aM (F 22) (.B (.D [a4 0 23 (.fF [.bool false,aX,aX] []),bz 1 3 4 23,a5 2 5 1]) (.aF)) (.skip))) atW
def atT:H:=
  .B (
  .D [
 dJ 0 2 0,
 dJ 1 3 1,
 a4 2 4 (.c9 [.bool false,aX,aX]),
 a5 3 5 0]) atV
def adl:bM:=⟨90,[.im 4 true 3,.bw 5],atT⟩
theorem atU:bW al 239=some adl:=by kernel_rfl
def adp:H:= .B (.D [z 0 13 5,z 1 4 13]) (.aF)
def ado:H:= .B (.D [z 0 8 0,z 1 9 1,db 2 10 260 8 9,z 3 7 10,b3 4 11 0 7,b3 5 12 1 7,z 6 5 11,z 7 6 12]) adp
def adm:H:=
  .B (
  .D [
 dV 0 4]) ado
def Mf:bM:=⟨14,[.bw 4],adm⟩
theorem adn:bW al 240=some Mf:=by kernel_rfl
def av9:H:= .B (.D [bL 0 7 3 1,bz 1 3 2 7,a5 2 3 0]) (.aF)
def av8:H:= .B (.B (.D [bL 0 4 3 1,b0 1 5 275 [F 4]]) (.aM (F 5) (.B (.D [a4 0 6 (.fF [.bool false,aX,aX] []),bz 1 3 2 6,a5 2 3 2]) (.aF)) (.skip))) av9
def av6:H:=
  .B (
  .D [
 dJ 0 1 0,
 a4 1 2 (.c9 [.bool false,aX,aX]),
 a5 2 3 0]) av8
def adY:bM:=⟨8,[.im 2 true 3,.bw 3],av6⟩
theorem av7:bW al 258=some adY:=by kernel_rfl
def aw8:H:= .B (.D [ay 0 3 1 1,ao 1 4 3,bq 2 5 4,jX 3 6 5 128,z 4 7 6,eg 5 8 7 2 1,dM 6 9 7 8,iT 7 10 7 9,mm 8 11 7 10 128,c6 9 12 7 11,z 10 2 12]) (.aF)
def aw6:H:=
  .B (
  .D [
 dJ 0 1 0,
 cr 1 2 false]) aw8
def ael:bM:=⟨13,[.bw 2],aw6⟩
theorem aw7:bW al 275=some ael:=by kernel_rfl
def TB:H:= .B (.D [a5 0 2 0]) (.aF)
def TA:H:= .B (.B (.D [bL 0 3 7 1,b0 1 4 87 [F 3],g6 2 5 4]) (.aM (F 5) (.B (.D [a5 0 2 1]) (.aF)) (.skip))) TB
def Tz:H:=
  .B (
  .D [
 dJ 0 1 0,
 a5 1 2 0]) TA
def M1:bM:=⟨6,[.bw 2],Tz⟩
theorem ayz:bW al 66=some M1:=by kernel_rfl
def DT:H:= .B (.block 1 (.B (.D [z 0 65 3,ay 1 66 1 1,ao 2 67 66,z 3 68 9,aY 4 69 4 67 68,ay 5 70 0 69,ao 6 71 70,db 7 72 136 65 71,z 8 64 72,b3 9 73 0 64,b3 10 74 1 64,z 11 3 73,z 12 8 74]) (.D [z 0 75 8,z 1 76 75,eB 2 77 76 1 1,dQ 3 78 76 77,dg 4 79 76 9,ml 5 80 76 4 78 79,kJ 6 81 76 4 80,m3 7 82 76 137 81,cR 8 83 76 82,z 9 8 83]))) (.D [z 0 62 9,cI 1 63 62,z 2 9 63])
def AT:H:= .B (.B (.D [z 0 54 9,ay 1 55 1 1,ao 2 56 55,bq 3 57 56,cY 4 58 54 57,z 5 59 58,dg 6 60 59 8,cR 7 61 59 60]) (.aM (F 61) (.skip) (.a7 0))) DT
def yO:H:= .B (.D [z 0 100 4,ay 1 101 0 11,ao 2 102 101,db 3 103 136 100 102,z 4 99 103,b3 5 104 0 99,b3 6 105 1 99,z 7 4 104,z 8 8 105]) (.D [z 0 106 8,z 1 107 106,eB 2 108 107 1 11,dQ 3 109 107 108,A2 4 110 107 134 109 16,cR 5 111 107 110,z 6 112 111,eB 7 113 112 2 11,dQ 8 114 112 113,A2 9 115 112 134 114 64,cR 10 116 112 115,z 11 117 116,eB 12 118 117 3 11,dQ 13 119 117 118,eB 14 120 117 1 1,dQ 15 121 117 120,k3 16 122 117 121,rS 17 123 117 122,vn 18 124 117 134 119 123,cR 19 125 117 124,z 20 8 125])
def yN:H:= .B (.block 3 (.B (.D [ay 0 94 2 1,ao 1 95 94,z 2 96 10,aY 3 97 4 95 96,bL 4 98 4 97,a4 5 11 (.c9 [.string ⟨#[]⟩,aG,aG,aG]),bz 6 4 11 98]) yO)) (.D [z 0 92 10,cI 1 93 92,z 2 10 93])
def wY:H:= .B (.B (.D [z 0 84 10,ay 1 85 2 1,ao 2 86 85,bq 3 87 86,cY 4 88 84 87,z 5 89 88,dg 6 90 89 8,cR 7 91 89 90]) (.aM (F 91) (.skip) (.a7 2))) yN
def vf:H:= .B (.D [z 0 178 5,ay 1 179 0 14,ao 2 180 179,db 3 181 136 178 180,z 4 177 181,b3 5 182 0 177,b3 6 183 1 177,z 7 5 182,z 8 8 183]) (.D [z 0 184 8,z 1 185 184,eB 2 186 185 1 14,dQ 3 187 185 186,A2 4 188 185 134 187 4,cR 5 189 185 188,z 6 190 189,eB 7 191 190 2 14,dQ 8 192 190 191,dg 9 193 190 13,rS 10 194 190 193,vn 11 195 190 134 192 194,cR 12 196 190 195,z 13 197 196,eB 14 198 197 3 1,dQ 15 199 197 198,eB 16 200 197 2 14,dQ 17 201 197 200,ml 18 202 197 7 199 201,eB 19 203 197 1 202,dQ 20 204 197 203,eB 21 205 197 1 14,dQ 22 206 197 205,rS 23 207 197 206,cQ 24 208 197 true (.e8 .eql .fW (F 204) (F 207)),cR 25 209 197 208,z 26 210 209,eB 27 211 210 3 14,dQ 28 212 210 211,A2 29 213 210 134 212 64,cR 30 214 210 213,z 31 215 214,eB 32 216 215 4 14,kJ 33 217 215 3 216,m3 34 218 215 140 217,cR 35 219 215 218,z 36 8 219])
def ve:H:= .B (.block 5 (.B (.D [ay 0 172 3 1,ao 1 173 172,z 2 174 13,aY 3 175 7 173 174,bL 4 176 7 175,a4 5 14 (.c9 [.string ⟨#[]⟩,aG,aG,aG,.bool false,aX,aX]),bz 6 7 14 176]) vf)) (.D [z 0 170 13,cI 1 171 170,z 2 13 171])
def tR:H:= .B (.B (.D [z 0 162 13,ay 1 163 3 1,ao 2 164 163,bq 3 165 164,cY 4 166 162 165,z 5 167 166,dg 6 168 167 8,cR 7 169 167 168]) (.aM (F 169) (.skip) (.a7 4))) ve
def yI:H:= .B (.D [z 0 236 5,ay 1 237 0 16,ao 2 238 237,db 3 239 136 236 238,z 4 235 239,b3 5 240 0 235,b3 6 241 1 235,z 7 5 240,z 8 8 241]) (.D [z 0 242 8,z 1 243 242,eB 2 244 243 1 16,dQ 3 245 243 244,eB 4 246 243 2 1,dQ 5 247 243 246,k3 6 248 243 247,rS 7 249 243 248,vn 8 250 243 134 245 249,cR 9 251 243 250,z 10 252 251,eB 11 253 252 2 16,dQ 12 254 252 253,eB 13 255 252 3 1,dQ 14 256 252 255,k3 15 257 252 256,rS 16 258 252 257,vn 17 259 252 134 254 258,cR 18 260 252 259,z 19 261 260,eB 20 262 261 3 1,dQ 21 263 261 262,eB 22 264 261 2 16,dQ 23 265 261 264,ml 24 266 261 7 263 265,eB 25 267 261 1 266,dQ 26 268 261 267,pl 27 269 261 268 4,cR 28 270 261 269,z 29 8 270])
def yH:H:= .B (.block 7 (.B (.D [ay 0 230 4 1,ao 1 231 230,z 2 232 15,aY 3 233 3 231 232,bL 4 234 3 233,a4 5 16 (.c9 [.string ⟨#[]⟩,aG,aG]),bz 6 3 16 234]) yI)) (.D [z 0 228 15,cI 1 229 228,z 2 15 229])
def wZ:H:= .B (.B (.D [z 0 220 15,ay 1 221 4 1,ao 2 222 221,bq 3 223 222,cY 4 224 220 223,z 5 225 224,dg 6 226 225 8,cR 7 227 225 226]) (.aM (F 227) (.skip) (.a7 6))) yH
def H0:H:= .B (.block 13 (.D [z 0 347 8,z 1 348 347,eB 2 349 348 9 18,dQ 3 350 348 349,dg 4 351 348 20,ml 5 352 348 1 350 351,dQ 6 353 348 352,eB 7 354 348 9 18,dQ 8 355 348 354,dg 9 356 348 19,ml 10 357 348 1 355 356,dQ 11 358 348 357,cQ 12 359 348 true (.e8 .neq .fW (F 353) (F 358)),cR 13 360 348 359,z 14 8 360])) (.D [z 0 345 20,cI 1 346 345,z 2 20 346])
def DU:H:= .B (.B (.D [z 0 342 20,z 1 343 19,cY 2 344 342 343]) (.aM (F 344) (.skip) (.a7 12))) H0
def M9:H:= .B (.D [a5 0 20 0]) (.block 12 (.loop DU))
def M8:H:= .B (.block 11 (.B (.D [ay 0 332 9 18,ao 1 333 332,z 2 334 19,aY 3 335 1 333 334,ao 4 336 335,ay 5 337 2 1,ao 6 338 337,bq 7 339 338,h0 8 340 339 1,b0 9 341 134 [F 336,.const aG,F 340],z 10 8 341]) M9)) (.D [z 0 330 19,cI 1 331 330,z 2 19 331])
def DV:H:= .B (.B (.D [z 0 322 19,ay 1 323 9 18,ao 2 324 323,bq 3 325 324,cY 4 326 322 325,z 5 327 326,dg 6 328 327 8,cR 7 329 327 328]) (.aM (F 329) (.skip) (.a7 10))) M8
def yM:H:= .B (.D [a5 0 19 0]) (.block 10 (.loop DV))
def yL:H:= .B (.D [z 0 293 8,z 1 294 293,eB 2 295 294 1 18,dQ 3 296 294 295,eB 4 297 294 2 18,dQ 5 298 294 297,eB 6 299 294 3 18,dQ 7 300 294 299,eB 8 301 294 4 18,kJ 9 302 294 5 301,cQ 10 303 294 true (.dY 141 [F 296,F 298,F 300,F 302]),cR 11 304 294 303,z 12 305 304,eB 13 306 305 2 18,dQ 14 307 305 306,eB 15 308 305 10 18,dQ 16 309 305 308,eB 17 310 305 11 18,kJ 18 311 305 3 310,eB 19 312 305 14 18,kJ 20 313 305 3 312,cQ 21 314 305 true (.dY 142 [F 307,F 309,F 311,F 313]),cR 22 315 305 314,z 23 316 315,eB 24 317 316 9 18,dQ 25 318 316 317,k3 26 319 316 318,yW 27 320 316 319,cR 28 321 316 320,z 29 8 321]) yM
def yK:H:= .B (.D [z 0 287 6,ay 1 288 0 18,ao 2 289 288,db 3 290 136 287 289,z 4 286 290,b3 5 291 0 286,b3 6 292 1 286,z 7 6 291,z 8 8 292]) yL
def yJ:H:= .B (.block 9 (.B (.D [ay 0 281 5 1,ao 1 282 281,z 2 283 17,aY 3 284 17 282 283,bL 4 285 17 284,a4 5 18 (.c9 [.string ⟨#[]⟩,aG,aG,aG,aG,aG,aG,aG,aG,aX,aX,.bool false,aX,aX,.bool false,aX,aX]),bz 6 17 18 285]) yK)) (.D [z 0 279 17,cI 1 280 279,z 2 17 280])
def w0:H:= .B (.B (.D [z 0 271 17,ay 1 272 5 1,ao 2 273 272,bq 3 274 273,cY 4 275 271 274,z 5 276 275,dg 6 277 276 8,cR 7 278 276 277]) (.aM (F 278) (.skip) (.a7 8))) yJ
def DS:H:= .B (.block 15 (.B (.D [z 0 372 7,ay 1 373 6 1,ao 2 374 373,z 3 375 21,aY 4 376 2 374 375,ay 5 377 0 376,ao 6 378 377,db 7 379 136 372 378,z 8 371 379,b3 9 380 0 371,b3 10 381 1 371,z 11 7 380,z 12 8 381]) (.D [z 0 382 8,z 1 383 382,eB 2 384 383 6 1,dQ 3 385 383 384,dg 4 386 383 21,ml 5 387 383 2 385 386,eB 6 388 383 1 387,dQ 7 389 383 388,eB 8 390 383 5 1,dQ 9 391 383 390,k3 10 392 383 391,rS 11 393 383 392,vn 12 394 383 134 389 393,cR 13 395 383 394,z 14 8 395]))) (.D [z 0 369 21,cI 1 370 369,z 2 21 370])
def AU:H:= .B (.B (.D [z 0 361 21,ay 1 362 6 1,ao 2 363 362,bq 3 364 363,cY 4 365 361 364,z 5 366 365,dg 6 367 366 8,cR 7 368 366 367]) (.aM (F 368) (.skip) (.a7 14))) DS
def Nb:H:= .B (.D [z 0 396 8,z 1 2 396]) (.aF)
def Na:H:= .B (.B (.D [a5 0 21 0]) (.block 14 (.loop AU))) Nb
def M6:H:= .B (.B (.D [a5 0 17 0]) (.block 8 (.loop w0))) Na
def M5:H:= .B (.B (.D [a5 0 15 0]) (.block 6 (.loop wZ))) M6
def DR:H:= .B (.B (.D [a5 0 13 1]) (.block 4 (.loop tR))) M5
def nE:H:= .B (.D [z 0 130 8,z 1 131 130,eB 2 132 131 0 12,dQ 3 133 131 132,cQ 4 134 131 true (.e8 .eql .fW (F 133) (.const (.string ⟨#[]⟩))),cR 5 135 131 134,z 6 136 135,eB 7 137 136 1 12,dQ 8 138 136 137,pl 9 139 136 138 0,cR 10 140 136 139,z 11 141 140,eB 12 142 141 2 12,dQ 13 143 141 142,cQ 14 144 141 true (.e8 .eql .fW (F 143) (.const (.int .i64 (-1)))),cR 15 145 141 144,z 16 146 145,eB 17 147 146 3 12,dQ 18 148 146 147,pl 19 149 146 148 0,cR 20 150 146 149,z 21 151 150,eB 22 152 151 4 12,kJ 23 153 151 3 152,m3 24 154 151 138 153,cR 25 155 151 154,z 26 156 155,eB 27 157 156 4 12,kJ 28 158 156 3 157,m3 29 159 156 139 158,pl 30 160 156 159 0,cR 31 161 156 160,z 32 8 161]) DR
def m2:H:= .B (.D [ay 0 126 3 1,ao 1 127 126,yX 2 128 7 127,bL 3 129 7 128,a4 4 12 (.c9 [.string ⟨#[]⟩,aG,aG,aG,.bool false,aX,aX]),bz 5 7 12 129]) nE
def Nf:H:= .B (.B (.D [a5 0 10 0]) (.block 2 (.loop wY))) m2
def Nd:H:= .B (.B (.D [a5 0 9 0]) (.block 0 (.loop AT))) Nf
def Nc:H:= .B (.D [cr 0 8 true]) Nd
def M7:H:= .B (.D [dV 0 3,dV 1 4,dV 2 5,dV 3 6,dV 4 7]) Nc
def HZ:H:= .B (.B (.D [ay 0 22 0 1,ao 1 23 22,A3 2 24 134 23 1 4,g6 3 25 24,z 4 26 25,eg 5 27 26 1 1,dM 6 28 26 27,iT 7 29 26 28,eg 8 30 26 2 1,dM 9 31 26 30,iT 10 32 26 31,eg 11 33 26 3 1,dM 12 34 26 33,iT 13 35 26 34,eg 14 36 26 4 1,dM 15 37 26 36,iT 16 38 26 37,eg 17 39 26 5 1,dM 18 40 26 39,iT 19 41 26 40,eg 20 42 26 6 1,dM 21 43 26 42,iT 22 44 26 43,cQ 23 45 26 false (.dY 135 [F 29,F 32,F 35,F 38,F 41,F 44]),jh 24 46 26 45,c6 25 47 26 46,z 26 48 47,eg 27 49 48 3 1,dM 28 50 48 49,iT 29 51 48 50,H7 30 52 48 51,c6 31 53 48 52]) (.aM (F 53) (.B (.D [cr 0 2 false]) (.aF)) (.skip))) M7
def HY:H:=
  .B (
  .D [
 dJ 0 1 0,
 cr 1 2 false]) HZ
def DQ:bM:=⟨397,[.bw 2],HY⟩
theorem ayC:bW al 87=some DQ:=by kernel_rfl
def R2:H:= .B (.D [z 0 7 0,z 1 8 1,df 2 9 .geq (F 7) (F 8),z 3 10 9,dg 4 11 10 0,dg 5 12 10 2,cQ 6 13 10 true (.e8 .leq .fW (F 11) (F 12)),cR 7 14 10 13,z 8 6 14]) (.aF)
def R1:H:=
  .B (
  .D [
 cr 0 6 false]) R2
def Ln:bM:=⟨15,[.bw 6],R1⟩
theorem aog:bW al 134=some Ln:=by kernel_rfl
def Az:H:= .B (.D [z 0 13 0,df 1 14 .leq (F 13) (.const (.int .i64 4)),z 2 15 14,dg 3 16 15 1,n8 4 17 15 16 4,cR 5 18 15 17,z 6 19 18,dg 7 20 19 2,n8 8 21 19 20 40,cR 9 22 19 21,z 10 23 22,dg 11 24 23 3,n8 12 25 23 24 24,cR 13 26 23 25,z 14 27 26,dg 15 28 27 4,n8 16 29 27 28 4,cR 17 30 27 29,z 18 31 30,dg 19 32 31 5,n8 20 33 31 32 12,cR 21 34 31 33,z 22 12 34]) (.aF)
def Ay:H:=
  .B (
  .D [
 cr 0 12 false]) Az
def yz:bM:=⟨35,[.bw 12],Ay⟩
theorem aoh:bW al 135=some yz:=by kernel_rfl
def R3:H:= .B (.q0 [z 0 6 0,z 1 7 1,yY 2 8 7] (a4 3 9 (.app 1 16 (F 6) (F 8))) [z 4 10 1,b0 5 11 188 [F 10],z 6 12 11,dg 7 13 12 0,dg 8 14 12 1,qX 9 15 12 189 13 14,cQ 10 16 12 true (.e8 .lss .fW (F 15) (.const aG)),cR 11 17 12 16,z 12 4 9,z 13 5 17]) (.aF)
def Lo:H:=
  .B (
  .D [
 dV 0 4,
 cr 1 5 false]) R3
def aoi:bM:=⟨18,[.bw 4,.bw 5],Lo⟩
theorem aoj:bW al 136=some aoi:=by kernel_rfl
theorem akd{args:List Value}{m:W}{cj:Value->W->Prop}(h:args.length<=18):gp al 136 args m cj=ia al Lo (jI args) m (r1 [.bw 4,.bw 5] cj):=sY aoj h
def R9:H:= .B (.block 1 (.B (.D [ay 0 47 2 1,ao 1 48 47,z 2 49 4,aY 3 50 1 48 49,ao 4 51 50,z 5 52 3,db 6 53 190 51 52,g6 7 54 53,z 8 55 54,eg 9 56 55 2 1,dM 10 57 55 56,du 11 58 55 4,n7 12 59 55 1 57 58,dM 13 60 55 59,du 14 61 55 4,n7 15 62 55 3 60 61,mI 16 63 55 3 62,jv 17 64 55 139 63,D2 18 65 55 64,c6 19 66 55 65]) (.aM (F 66) (.B (.D [cr 0 2 false]) (.aF)) (.skip)))) (.D [z 0 45 4,cI 1 46 45,z 2 4 46])
def Sb:H:= .B (.B (.D [z 0 42 4,z 1 43 3,cY 2 44 42 43]) (.aM (F 44) (.skip) (.a7 0))) R9
def aaJ:H:= .B (.D [z 0 73 6,tU 1 74 73,z 2 75 74,mI 3 76 75 3 5,⟨4,some 77,some (75,false),.dY 193 [.const (.int .i64 1)],[(F 5,F 5)]⟩,cQ 5 78 75 false (.dY 192 [F 76,F 77]),jh 6 79 75 78,c6 7 80 75 79]) (.aM (F 80) (.B (.D [cr 0 2 false]) (.aF)) (.skip))
def R7:H:= .B (.block 7 (.D [z 0 114 7,z 1 115 9,z 2 116 7,z 3 117 9,aY 4 118 1 116 117,ao 5 119 118,z 6 120 119,eg 7 121 120 2 1,dM 8 122 120 121,du 9 123 120 9,n7 10 124 120 1 122 123,dM 11 125 120 124,du 12 126 120 10,n7 13 127 120 3 125 126,mI 14 128 120 3 127,jv 15 129 120 139 128,mm 16 130 120 129 0,du 17 131 120 130,dg 18 132 131 7,dg 19 133 131 10,ml 20 134 131 1 132 133,dQ 21 135 131 134,D3 22 136 120 131 135,c6 23 137 120 136,aY 24 138 1 114 115,bz 25 1 138 137])) (.D [z 0 112 10,cI 1 113 112,z 2 10 113])
def Sc:H:= .B (.B (.D [z 0 109 10,z 1 110 3,cY 2 111 109 110]) (.aM (F 111) (.skip) (.a7 6))) R7
def R6:H:= .B (.D [a5 0 10 0]) (.block 6 (.loop Sc))
def R5:H:= .B (.block 5 (.B (.D [z 0 93 7,z 1 94 9,z 2 95 7,z 3 96 9,aY 4 97 1 95 96,ao 5 98 97,z 6 99 98,eg 7 100 99 3 1,dM 8 101 99 100,du 9 102 99 9,n7 10 103 99 3 101 102,mI 11 104 99 3 103,jv 12 105 99 139 104,mm 13 106 99 105 0,c6 14 107 99 106,aY 15 108 1 93 94,bz 16 1 108 107]) R6)) (.D [z 0 91 9,cI 1 92 91,z 2 9 92])
def Sd:H:= .B (.B (.D [z 0 88 9,z 1 89 3,cY 2 90 88 89]) (.aM (F 90) (.skip) (.a7 4))) R5
def Sa:H:= .B (.block 3 (.B (.D [a5 0 9 0]) (.block 4 (.loop Sd)))) (.D [z 0 86 8,cI 1 87 86,z 2 8 87])
def Se:H:= .B (.B (.D [z 0 83 8,z 1 84 3,cY 2 85 83 84]) (.aM (F 85) (.skip) (.a7 2))) Sa
def R8:H:= .B (.block 9 (.B (.D [z 0 144 7,z 1 145 11,aY 2 146 1 144 145,ao 3 147 146,g6 4 148 147]) (.aM (F 148) (.B (.D [cr 0 2 false]) (.aF)) (.skip)))) (.D [z 0 142 11,cI 1 143 142,z 2 11 143])
def Sf:H:= .B (.B (.D [z 0 139 11,z 1 140 3,cY 2 141 139 140]) (.aM (F 141) (.skip) (.a7 8))) R8
def aaF:H:= .B (.D [cr 0 2 true]) (.aF)
def aaE:H:= .B (.B (.D [a5 0 11 0]) (.block 8 (.loop Sf))) aaF
def aaL:H:= .B (.B (.D [a5 0 8 0]) (.block 2 (.loop Se))) aaE
def aaK:H:= .B (.D [z 0 81 3,AZ 1 82 81 81,z 2 7 82]) aaL
def aaI:H:= .B (.B (.D [ay 0 68 1 1,ao 1 69 68,b0 2 70 191 [F 69],z 3 67 70,b3 4 71 0 67,b3 5 72 1 67,a4 6 5 (.c9 [.bool false,aX,aX]),bz 7 3 5 71,z 8 6 72]) aaJ) aaK
def aaH:H:= .B (.B (.D [a5 0 4 0]) (.block 0 (.loop Sb))) aaI
def aaG:H:= .B (.B (.D [z 0 15 3,kt 1 16 15 1,z 2 17 16,du 3 18 17 3,mm 4 19 17 18 4,c6 5 20 17 19,z 6 21 20,eg 7 22 21 1 1,dM 8 23 21 22,du 9 24 21 3,cQ 10 25 21 false (.dY 190 [F 23,F 24]),jh 11 26 21 25,c6 12 27 21 26,z 13 28 27,eg 14 29 28 3 1,dM 15 30 28 29,du 16 31 28 3,cQ 17 32 28 false (.dY 190 [F 30,F 31]),jh 18 33 28 32,c6 19 34 28 33,z 20 35 34,eg 21 36 35 2 1,dM 22 37 35 36,iT 23 38 35 37,du 24 39 35 3,qW 25 40 35 38 39,c6 26 41 35 40]) (.aM (F 41) (.B (.D [cr 0 2 false]) (.aF)) (.skip))) aaH
def aaD:H:= .B (.D [ay 0 12 1 1,ao 1 13 12,bq 2 14 13,z 3 3 14]) aaG
def aaC:H:=
  .B (
  .D [
 dJ 0 1 0,
 cr 1 2 false]) aaD
def R4:bM:=⟨149,[.bw 2],aaC⟩
theorem aok:bW al 137=some R4:=by kernel_rfl
def aaV:H:= .B (.D [z 0 10 4,kI 1 11 10 0,z 2 12 11,eB 3 13 12 0 3,dQ 4 14 12 13,rR 5 15 12 14,cR 6 16 12 15,z 7 17 16,eB 8 18 17 1 3,dQ 9 19 17 18,k3 10 20 17 19,n8 11 21 17 20 1,cR 12 22 17 21,z 13 23 22,eB 14 24 23 2 3,dQ 15 25 23 24,k3 16 26 23 25,n8 17 27 23 26 1,cR 18 28 23 27,z 19 2 28]) (.aF)
def aaU:H:= .B (.D [bL 0 6 3 1,b0 1 7 196 [F 6],z 2 5 7,b3 3 8 0 5,b3 4 9 1 5,a4 5 3 (.c9 [.bool false,aX,aX]),bz 6 3 3 8,z 7 4 9]) aaV
def aaS:H:=
  .B (
  .D [
 dJ 0 1 0,
 cr 1 2 false]) aaU
def Lr:bM:=⟨29,[.bw 2],aaS⟩
theorem aaT:bW al 140=some Lr:=by kernel_rfl
def GU:H:= .B (.block 1 (.B (.D [z 0 32 9,a4 1 33 (.ph 1 5 (F 7) (F 32)),ao 2 34 33,A3 3 35 134 34 0 8,g6 4 36 35]) (.aM (F 36) (.B (.D [cr 0 8 false]) (.aF)) (.skip)))) (.D [z 0 30 9,cI 1 31 30,z 2 9 31])
def Ls:H:= .B (.B (.D [z 0 28 9,kt 1 29 28 5]) (.aM (F 29) (.skip) (.a7 0))) GU
def yA:H:= .B (.D [cr 0 8 true]) (.aF)
def GS:H:= .B (.B (.D [a5 0 9 1]) (.block 0 (.loop Ls))) yA
def GR:H:= .B (.B (.D [z 0 10 0,z 1 11 1,db 2 12 197 10 11,g6 3 13 12,z 4 14 13,du 5 15 14 2,du 6 16 14 0,du 7 17 14 0,du 8 18 14 1,cQ 9 19 14 false (.e8 .add .fW (F 17) (F 18)),cQ 10 20 14 false (.dY 134 [F 15,F 16,F 19]),jh 11 21 14 20,c6 12 22 14 21,z 13 23 22,cQ 14 24 23 false (.ph 1 5 (F 7) (.const aG)),dM 15 25 23 24,D2 16 26 23 25,c6 17 27 23 26]) (.aM (F 27) (.B (.D [cr 0 8 false]) (.aF)) (.skip))) GS
def GQ:H:=
  .B (
  .D [
 dJ 0 7 3,
 cr 1 8 false]) GR
def C7:bM:=⟨37,[.bw 8],GQ⟩
theorem aol:bW al 141=some C7:=by kernel_rfl
def GW:H:= .B (.D [z 0 9 1,z 1 10 0,db 2 11 198 9 10,z 3 12 11,kJ 4 13 12 3 6,m3 5 14 12 140 13,cR 6 15 12 14,z 7 16 15,kJ 9 18 16 3 6,⟨8,some 17,some (16,true),.dY 193 [.const (.int .i64 1)],[(F 6,F 6)]⟩,qX 10 19 16 199 17 18,rR 11 20 16 19,cR 12 21 16 20,z 13 22 21,kJ 14 23 22 3 7,m3 15 24 22 140 23,cR 16 25 22 24,z 17 8 25]) (.aF)
def GV:H:=
  .B (
  .D [
 dJ 0 6 2,
 dJ 1 7 3,
 cr 2 8 false]) GW
def C8:bM:=⟨26,[.bw 8],GV⟩
theorem aom:bW al 142=some C8:=by kernel_rfl
def Hk:H:= .B (.block 1 (.B (.D [z 0 12 0,z 1 13 5,aY 2 14 1 12 13,ao 3 15 14,z 4 16 1,df 5 17 .eql (F 15) (F 16)]) (.aM (F 17) (.B (.D [z 0 18 5,z 1 4 18]) (.aF)) (.skip)))) (.D [z 0 10 5,cI 1 11 10,z 2 5 11])
def LM:H:= .B (.B (.D [z 0 6 5,z 1 7 0,bq 2 8 7,cY 3 9 6 8]) (.aM (F 9) (.skip) (.a7 0))) Hk
def Hl:H:= .B (.D [a5 0 4 (-1)]) (.aF)
def abR:H:= .B (.B (.D [a5 0 5 0]) (.block 0 (.loop LM))) Hl
def abQ:H:=
  .B (
  .D [
 a5 0 4 0]) abR
def Sk:bM:=⟨19,[.bw 4],abQ⟩
theorem aqX:bW al 189=some Sk:=by kernel_rfl
def AE:H:= .B (.block 1 (.B (.D [z 0 15 0,z 1 16 5,aY 2 17 3 15 16,bL 3 18 3 17,b0 4 19 140 [F 18],g6 5 20 19]) (.aM (F 20) (.B (.D [cr 0 4 false]) (.aF)) (.skip)))) (.D [z 0 13 5,cI 1 14 13,z 2 5 14])
def Hn:H:= .B (.B (.D [z 0 10 5,z 1 11 1,cY 2 12 10 11]) (.aM (F 12) (.skip) (.a7 0))) AE
def yC:H:= .B (.D [cr 0 4 true]) (.aF)
def LP:H:= .B (.B (.D [a5 0 5 0]) (.block 0 (.loop Hn))) yC
def LO:H:= .B (.B (.D [z 0 6 0,bq 1 7 6,z 2 8 1,nF 3 9 7 8]) (.aM (F 9) (.B (.D [cr 0 4 false]) (.aF)) (.skip))) LP
def LN:H:=
  .B (
  .D [
 cr 0 4 false]) LO
def De:bM:=⟨21,[.bw 4],LN⟩
theorem abY:bW al 190=some De:=by kernel_rfl
def Di:H:= .B (.D [z 0 5 0,lL 1 6 5 1,z 2 7 6,dg 3 8 7 0,n8 4 9 7 8 6,cR 5 10 7 9,z 6 11 10,dg 7 12 11 1,cQ 8 13 11 true (.e8 .geq .fW (F 12) (.const aG)),cR 9 14 11 13,z 10 15 14,dg 11 16 15 1,n8 12 17 15 16 4,cR 13 18 15 17,z 14 19 18,dg 15 20 19 0,dg 16 21 19 1,cQ 17 22 19 true (.e8 .add .fW (F 20) (F 21)),n8 18 23 19 22 8,cR 19 24 19 23,z 20 4 24]) (.aF)
def Dh:H:=
  .B (
  .D [
 cr 0 4 false]) Di
def AF:bM:=⟨25,[.bw 4],Dh⟩
theorem ard:bW al 197=some AF:=by kernel_rfl
def Ho:H:= .B (.block 1 (.B (.D [z 0 17 0,z 1 18 5,aY 2 19 3 17 18,bL 3 20 3 19,b0 4 21 139 [F 20],kI 5 22 21 0]) (.aM (F 22) (.B (.D [cr 0 4 false]) (.aF)) (.skip)))) (.D [z 0 15 5,cI 1 16 15,z 2 5 16])
def LV:H:= .B (.B (.D [z 0 11 5,z 1 12 0,bq 2 13 12,cY 3 14 11 13]) (.aM (F 14) (.skip) (.a7 0))) Ho
def Dj:H:= .B (.D [cr 0 4 true]) (.aF)
def Sr:H:= .B (.B (.D [a5 0 5 0]) (.block 0 (.loop LV))) Dj
def Sq:H:= .B (.B (.D [z 0 6 0,z 1 7 1,D0 2 8 7 1,db 3 9 190 6 8,g6 4 10 9]) (.aM (F 10) (.B (.D [cr 0 4 false]) (.aF)) (.skip))) Sr
def Sp:H:=
  .B (
  .D [
 cr 0 4 false]) Sq
def LU:bM:=⟨23,[.bw 4],Sp⟩
theorem are:bW al 198=some LU:=by kernel_rfl
def L0:H:= .B (.D [z 0 16 5,z 1 4 16]) (.aF)
def LZ:H:= .B (.B (.D [z 0 11 5,kt 1 12 11 0]) (.aM (F 12) (.B (.D [z 0 13 5,z 1 14 1,hc 2 15 13 14,z 3 4 15]) (.aF)) (.skip))) L0
def LY:H:= .B (.D [z 0 8 0,z 1 9 1,df 2 10 .rem (F 8) (F 9),z 3 5 10]) LZ
def LX:H:= .B (.B (.D [z 0 6 1,kt 1 7 6 1]) (.aM (F 7) (.B (.D [a5 0 4 0]) (.aF)) (.skip))) LY
def LW:H:=
  .B (
  .D [
 a5 0 4 0]) LX
def Hm:bM:=⟨17,[.bw 4],LW⟩
theorem arj:bW al 19=some Hm:=by kernel_rfl
def MG:H:= .B (.block 5 (.D [z 0 43 9,cI 1 44 43,ay 2 45 4 3,ao 3 46 45,bq 4 47 46,df 5 48 .rem (F 44) (F 47),z 6 9 48])) (.D [z 0 41 10,cI 1 42 41,z 2 10 42])
def HJ:H:= .B (.B (.D [z 0 31 10,ay 1 32 4 3,ao 2 33 32,bq 3 34 33,cY 4 35 31 34,z 5 36 35,dg 6 37 36 7,dg 7 38 36 9,qX 8 39 36 102 37 38,cR 9 40 36 39]) (.aM (F 40) (.skip) (.a7 4))) MG
def HI:H:= .B (.B (.D [z 0 49 7,z 1 50 9,db 2 51 102 49 50,z 3 52 51,du 4 53 52 0,cQ 5 54 52 false (.dY 49 [F 53,.const (.int .i64 12)]),H7 6 55 52 54,c6 7 56 52 55]) (.aM (F 56) (.D [a5 0 9 (-1)]) (.skip))) (.D [z 0 57 7,z 1 58 9,vl 2 59 58,iC 3 60 1 8 57 59,z 4 7 60])
def HH:H:= .B (.B (.D [a5 0 10 0]) (.block 4 (.loop HJ))) HI
def HG:H:= .B (.block 3 (.B (.D [z 0 26 0,ay 1 27 4 3,ao 2 28 27,bq 3 29 28,db 4 30 49 26 29,z 5 9 30]) HH)) (.D [z 0 24 8,cI 1 25 24,z 2 8 25])
def Dw:H:= .B (.B (.D [z 0 19 8,bL 1 20 7 3,z 2 21 6,db 3 22 101 20 21,cY 4 23 19 22]) (.aM (F 23) (.skip) (.a7 2))) HG
def Th:H:= .B (.B (.D [a5 0 8 0]) (.block 2 (.loop Dw))) (.D [z 0 61 5,z 1 62 7,A0 2 63 62,iC 3 64 1 24 61 63,z 4 5 64])
def Tg:H:= .B (.block 1 (.B (.D [a4 0 18 (.gM 1 0 [] []),z 1 7 18]) Th)) (.D [z 0 16 6,cI 1 17 16,z 2 6 17])
def MH:H:= .B (.B (.D [z 0 11 6,ay 1 12 6 3,ao 2 13 12,bq 3 14 13,cY 4 15 11 14]) (.aM (F 15) (.skip) (.a7 0))) Tg
def aeY:H:= .B (.D [z 0 65 5,z 1 4 65]) (.aF)
def aeX:H:= .B (.B (.D [a5 0 6 0]) (.block 0 (.loop MH))) aeY
def aeW:H:= .B (.D [dV 0 5]) aeX
def aeU:H:=
  .B (
  .D [
 dJ 0 3 1,
 dV 1 4]) aeW
def MF:bM:=⟨66,[.bw 4],aeU⟩
theorem aeV:bW al 48=some MF:=by kernel_rfl
def AP:H:= .B (.D [z 0 49 6,z 1 4 49]) (.aF)
def AO:H:= .B (.B (.D [z 0 44 6,kt 1 45 44 0]) (.aM (F 45) (.B (.D [z 0 46 6,z 1 47 1,hc 2 48 46 47,z 3 4 48]) (.aF)) (.skip))) AP
def AN:H:= .B (.D [z 0 41 5,z 1 42 1,df 2 43 .rem (F 41) (F 42),z 3 6 43]) AO
def AM:H:= .B (.B (.D [z 0 39 1,kt 1 40 39 1]) (.aM (F 40) (.B (.D [a5 0 4 0]) (.aF)) (.skip))) AN
def AL:H:= .B (.D [z 0 32 0,fq 1 33 32,ay 2 34 1 33,ao 3 35 34,cI 4 36 35,fq 5 37 32,ay 6 38 1 37,bz 7 1 38 36]) AM
def AK:H:= .B (.B (.D [z 0 12 0,fq 1 13 12,ay 2 14 1 13,ao 3 15 14,z 4 16 0,fq 5 17 16,ay 6 18 0 17,ao 7 19 18,bq 8 20 19,cY 9 21 15 20]) (.aM (F 21) (.D [z 0 22 0,fq 1 23 22,ay 2 24 0 23,ao 3 25 24,z 4 26 0,fq 5 27 26,ay 6 28 1 27,ao 7 29 28,aY 8 30 1 25 29,ao 9 31 30,z 10 5 31]) (.skip))) AL
def AJ:H:= .B (.D [z 0 7 0,fq 1 8 7,ay 2 9 1 8,ao 3 10 9,df 4 11 .rem (F 10) (.const (.int .i64 3)),z 5 5 11]) AK
def AI:H:=
  .B (
  .D [
 a5 0 4 0]) AJ
def wX:bM:=⟨50,[.bw 4],AI⟩
theorem aeZ:bW al 49=some wX:=by kernel_rfl
def ae3:H:= .B (.D [bL 0 13 3 5,bz 1 3 4 13]) (.aF)
def ae2:H:= .B (.D [z 0 8 0,z 1 9 1,db 2 10 107 8 9,z 3 7 10,b3 4 11 0 7,b3 5 12 1 7,a4 6 5 (.c9 [.bool false,aX,aX]),bz 7 3 5 11,z 8 6 12]) ae3
def ae0:H:=
  .B (
  .D [
 a4 0 4 (.c9 [.bool false,aX,aX])]) ae2
def MJ:bM:=⟨14,[.im 4 true 3],ae0⟩
theorem ae1:bW al 59=some MJ:=by kernel_rfl
def HN:H:= .B (.D [z 0 76 7,z 1 77 0,k4 2 78 49 77 17,l2 3 79 16 78,b0 4 80 108 [F 5,.const (.int .i64 2),F 76,F 79],z 5 8 80]) (.D [z 0 81 8,z 1 82 0,k4 2 83 49 82 9,l2 3 84 8 83,b0 4 85 108 [F 5,.const (.int .i64 3),F 81,F 84],z 5 9 85])
def HM:H:= .B (.B (.D [z 0 112 0,k4 1 113 49 112 4,kI 2 114 113 0]) (.aM (F 114) (.D [a5 0 13 1]) (.skip))) (.D [ay 0 115 4 5,ao 1 116 115,ay 2 117 4 5,ao 3 118 117,bq 4 119 118,z 6 121 13,z 7 122 11,iS 5 120 (.dY 109 [.const (.int .u8 100),F 119]) [(F 115,F 115)],a4 8 123 (.fF [.string ⟨#[]⟩,aG,aG] [(0,1,F 120),(1,1,F 121),(2,1,F 122)]),a4 9 124 (.gM 3 1 [.string ⟨#[]⟩,aG,aG] [(0,3,F 123)]),iC 10 125 3 32 116 124,ay 11 126 4 5,bz 12 1 126 125])
def HL:H:= .B (.block 3 (.B (.D [a5 0 13 0]) HM)) (.D [z 0 110 12,h0 1 111 110 1,z 2 12 111])
def AQ:H:= .B (.B (.D [z 0 102 12,jX 1 103 102 0,z 2 104 103,eB 3 105 104 4 5,dQ 4 106 104 105,k3 5 107 104 106,cQ 6 108 104 true (.e8 .lss .fW (F 107) (.const (.int .i64 9))),cR 7 109 104 108]) (.aM (F 109) (.skip) (.a7 2))) HL
def ae7:H:= .B (.D [z 0 99 0,k4 1 100 49 99 2,l2 2 101 1 100,z 3 12 101]) (.block 2 (.loop AQ))
def To:H:= .B (.D [z 0 94 9,z 1 95 0,k4 2 96 49 95 9,l2 3 97 8 96,b0 4 98 108 [F 5,.const (.int .i64 4),F 94,F 97],z 5 11 98]) ae7
def DB:H:= .B (.block 1 (.B (.B (.D [z 0 65 10,kI 1 66 65 0,z 2 67 66,du 3 68 67 0,cQ 4 69 67 false (.dY 49 [F 68,.const (.int .i64 4)]),H7 5 70 67 69,c6 6 71 67 70]) (.aM (F 71) (.B (.D [z 0 72 0,k4 1 73 49 72 17,l2 2 74 16 73,b0 3 75 108 [F 5,.const (.int .i64 1),.const aG,F 74],z 4 7 75]) HN) (.B (.D [z 0 86 0,k4 1 87 49 86 2,kI 2 88 87 0]) (.aM (F 88) (.D [z 0 89 8,z 1 90 0,k4 2 91 49 90 9,l2 3 92 8 91,b0 4 93 108 [F 5,.const (.int .i64 3),F 89,F 92],z 5 9 93]) (.skip))))) To)) (.D [z 0 63 10,cI 1 64 63,z 2 10 64])
def ML:H:= .B (.B (.D [z 0 60 10,z 1 61 6,cY 2 62 60 61]) (.aM (F 62) (.skip) (.a7 0))) DB
def Tw:H:= .B (.block 7 (.D [ay 0 172 10 17,ao 1 173 172,iS 2 174 (.dY 59 [.const (.int .i64 1),.const (.int .i64 2)]) [(F 172,F 172)],D1 3 175 174,iC 4 176 3 56 173 175,ay 5 177 10 17,bz 6 1 177 176])) (.D [z 0 170 18,cI 1 171 170,z 2 18 171])
def HO:H:= .B (.B (.D [z 0 166 18,z 1 167 16,D0 2 168 167 1,cY 3 169 166 168]) (.aM (F 169) (.skip) (.a7 6))) Tw
def Tv:H:= .B (.B (.D [a5 0 18 0]) (.block 6 (.loop HO))) (.D [ay 0 178 5 5,ao 1 179 178,bL 2 180 17 17,TQ 3 181 180,iC 4 182 17 240 179 181,ay 5 183 5 5,bz 6 1 183 182])
def Tu:H:= .B (.B (.D [z 0 161 0,k4 1 162 49 161 5,kI 2 163 162 0]) (.aM (F 163) (.D [a4 0 164 (.gM 1 1 [aG] [(0,1,.const aG)]),ay 1 165 9 17,bz 2 1 165 164]) (.skip))) Tv
def Tt:H:= .B (.D [z 0 157 0,k4 1 158 49 157 3,ay 2 159 4 17,a4 3 160 (.ph 1 5 (F 159) (.const (.int .i64 4))),bz 4 1 160 158]) Tu
def Ts:H:= .B (.D [z 0 153 0,k4 1 154 49 153 4,ay 2 155 4 17,a4 3 156 (.ph 1 5 (F 155) (.const (.int .i64 3))),bz 4 1 156 154]) Tt
def Tr:H:= .B (.D [z 0 139 14,b0 1 140 109 [.const (.int .u8 112),F 139],z 2 141 15,z 3 142 16,z 4 143 15,z 5 144 0,z 6 145 16,cI 7 146 145,db 8 147 49 144 146,hc 9 148 143 147,a4 10 149 (.gM 1 2 [aG,aG] [(0,1,.const aG),(1,1,.const (.int .i64 1))]),tT 11 150 59 1 1000,tT 12 151 59 30 1,a4 13 152 (.fF [.string ⟨#[]⟩,aG,aG,aG,aG,aG,aG,aG,aG,aX,aX,.bool false,aX,aX,.bool false,aX,aX] [(0,1,F 140),(1,1,F 141),(2,1,F 142),(3,1,F 148),(9,1,F 149),(11,3,F 150),(14,3,F 151)]),a4 14 17 (.c9 [.string ⟨#[]⟩,aG,aG,aG,aG,aG,aG,aG,aG,aX,aX,.bool false,aX,aX,.bool false,aX,aX]),bz 15 17 17 152]) Ts
def Tq:H:= .B (.D [z 0 137 0,k4 1 138 49 137 3,z 2 16 138]) Tr
def Tp:H:= .B (.block 5 (.B (.D [z 0 134 0,k4 1 135 49 134 2,l2 2 136 1 135,z 3 15 136]) Tq)) (.D [z 0 132 14,h0 1 133 132 1,z 2 14 133])
def HP:H:= .B (.B (.D [z 0 130 14,jX 1 131 130 0]) (.aM (F 131) (.skip) (.a7 4))) Tp
def Tx:H:= .B (.block 9 (.D [ay 0 192 6 5,ao 1 193 192,z 2 194 19,z 4 196 0,ay 5 197 5 5,ao 6 198 197,bq 7 199 198,iS 3 195 (.dY 109 [.const (.int .u8 118),F 194]) [(F 197,F 197),(F 192,F 192)],iS 8 200 (.dY 49 [F 196,F 199]) [(F 192,F 192)],a4 9 201 (.fF [.string ⟨#[]⟩,aG] [(0,1,F 195),(1,1,F 200)]),a4 10 202 (.gM 2 1 [.string ⟨#[]⟩,aG] [(0,2,F 201)]),iC 11 203 2 24 193 202,ay 12 204 6 5,bz 13 1 204 203])) (.D [z 0 190 19,h0 1 191 190 1,z 2 19 191])
def MM:H:= .B (.B (.D [z 0 188 19,jX 1 189 188 0]) (.aM (F 189) (.skip) (.a7 8))) Tx
def afb:H:= .B (.D [bL 0 205 7 5,bz 1 7 4 205]) (.aF)
def afa:H:= .B (.B (.D [z 0 184 0,z 1 185 1,db 2 186 49 184 185,l2 3 187 1 186,z 4 19 187]) (.block 8 (.loop MM))) afb
def ae8:H:= .B (.B (.D [z 0 127 0,k4 1 128 49 127 2,l2 2 129 1 128,z 3 14 129]) (.block 4 (.loop HP))) afa
def afg:H:= .B (.B (.D [a5 0 10 0]) (.block 0 (.loop ML))) ae8
def aff:H:= .B (.D [a5 0 7 0,a5 1 8 0,a5 2 9 0]) afg
def afe:H:= .B (.D [z 0 57 0,k4 1 58 49 57 3,l2 2 59 3 58,z 3 6 59]) aff
def afd:H:= .B (.D [tT 0 53 59 0 1,a4 1 54 (.fF [.string ⟨#[]⟩,aG,aG,aG,.bool false,aX,aX] [(2,1,.const (.int .i64 (-1))),(4,3,F 53)]),a4 2 55 (.gM 7 1 [.string ⟨#[]⟩,aG,aG,aG,.bool false,aX,aX] [(0,7,F 54)]),ay 3 56 3 5,bz 4 1 56 55]) afe
def afc:H:= .B (.D [z 0 37 0,k4 1 38 49 37 2,l2 2 39 3 38,z 3 40 0,k4 4 41 49 40 9,l2 5 42 8 41,a4 6 43 (.fF [.string ⟨#[]⟩,aG,aG,aG] [(0,1,.const (.string ⟨#[98,105,103]⟩)),(1,1,F 39),(2,1,F 42),(3,1,.const aG)]),z 7 44 0,k4 8 45 49 44 3,l2 9 46 1 45,z 10 47 0,k4 11 48 49 47 9,l2 12 49 4 48,a4 13 50 (.fF [.string ⟨#[]⟩,aG,aG,aG] [(0,1,.const (.string ⟨#[111,108,100]⟩)),(1,1,F 46),(2,1,F 49),(3,1,.const aG)]),a4 14 51 (.gM 4 2 [.string ⟨#[]⟩,aG,aG,aG,.string ⟨#[]⟩,aG,aG,aG] [(0,4,F 43),(4,4,F 50)]),ay 15 52 2 5,bz 16 1 52 51]) afd
def ae9:H:= .B (.D [tT 0 24 59 1 1,D1 1 25 24,tT 2 26 59 0 1,D1 3 27 26,A0 4 28 27,z 5 29 0,k4 6 30 49 29 100,l2 7 31 100 30,b0 8 32 59 [.const (.int .i64 1),F 31],D1 9 33 32,a4 10 34 (.fF [.string ⟨#[]⟩,aX,aX,aX] [(0,1,.const (.string ⟨#[100,105,115,107]⟩)),(1,1,F 25),(2,1,F 28),(3,1,F 33)]),a4 11 35 (.gM 4 1 [.string ⟨#[]⟩,aX,aX,aX] [(0,4,F 34)]),ay 12 36 1 5,bz 13 1 36 35]) afc
def ae6:H:= .B (.D [z 0 20 0,k4 1 21 49 20 2,l2 2 22 1 21,a4 3 23 (.fF [aG,aX,aX,aX,aX,aX,aX] [(0,1,F 22)]),a4 4 5 (.c9 [aG,aX,aX,aX,aX,aX,aX]),bz 5 7 5 23]) ae9
def ae4:H:=
  .B (
  .D [
 a4 0 4 (.c9 [aG,aX,aX,aX,aX,aX,aX])]) ae6
def MK:bM:=⟨206,[.im 4 true 7],ae4⟩
theorem ae5:bW al 60=some MK:=by kernel_rfl
def HQ:H:= .B (.block 1 (.B (.D [z 0 15 0,k4 1 16 49 15 9]) (.block 2 (.B (.D [kI 0 18 16 0,z 1 17 18]) (.aM (F 17) (.D [z 0 19 5,z 1 20 6,aY 2 21 1 19 20,A1 3 1 21 0]) (.B (.D [kI 0 23 16 1,z 1 22 23]) (.aM (F 22) (.D [z 0 24 5,z 1 25 6,z 2 26 0,z 3 27 5,z 4 28 6,aY 5 29 1 27 28,ao 6 30 29,cI 7 31 30,db 8 32 49 26 31,aY 9 33 1 24 25,bz 10 1 33 32]) (.skip)))))))) (.D [z 0 13 6,cI 1 14 13,z 2 6 14])
def DC:H:= .B (.B (.D [z 0 9 6,z 1 10 5,bq 2 11 10,cY 3 12 9 11]) (.aM (F 12) (.skip) (.a7 0))) HQ
def afl:H:= .B (.D [z 0 34 5,z 1 4 34]) (.aF)
def afk:H:= .B (.B (.D [a5 0 6 0]) (.block 0 (.loop DC))) afl
def afj:H:= .B (.D [bL 0 7 7 3,b0 1 8 52 [F 7,.const (aX)],z 2 5 8]) afk
def afh:H:=
  .B (
  .D [
 dJ 0 3 1,
 dV 1 4]) afj
def MN:bM:=⟨35,[.bw 4],afh⟩
theorem afi:bW al 61=some MN:=by kernel_rfl
def ZR:H:= .B (.D [ay 0 16 1 5,ao 1 17 16,ay 2 18 2 5,ao 3 19 18,hc 4 20 17 19,z 5 4 20]) (.aF)
def ZQ:H:= .B (.D [ay 0 6 5 2,ao 1 7 6,ay 2 8 6 2,ao 3 9 8,z 4 10 1,aY 5 11 2 9 10,ay 6 12 1 11,ao 7 13 12,aY 8 14 17 7 13,bL 9 15 17 14,a4 10 5 (.c9 [.string ⟨#[]⟩,aG,aG,aG,aG,aG,aG,aG,aG,aX,aX,.bool false,aX,aX,.bool false,aX,aX]),bz 11 17 5 15]) ZR
def ZO:H:=
  .B (
  .D [
 dJ 0 2 0,
 a5 1 4 0]) ZQ
def Lf:bM:=⟨21,[.bw 4],ZO⟩
theorem ZP:bW al 101=some Lf:=by kernel_rfl
def GA:H:= .B (.block 1 (.B (.D [z 0 12 0,z 1 13 5,aY 2 14 1 12 13,ao 3 15 14,z 4 16 1,df 5 17 .eql (F 15) (F 16)]) (.aM (F 17) (.B (.D [cr 0 4 true]) (.aF)) (.skip)))) (.D [z 0 10 5,cI 1 11 10,z 2 5 11])
def Lh:H:= .B (.B (.D [z 0 6 5,z 1 7 0,bq 2 8 7,cY 3 9 6 8]) (.aM (F 9) (.skip) (.a7 0))) GA
def GB:H:= .B (.D [cr 0 4 false]) (.aF)
def ZU:H:= .B (.B (.D [a5 0 5 0]) (.block 0 (.loop Lh))) GB
def ZS:H:=
  .B (
  .D [
 cr 0 4 false]) ZU
def Lg:bM:=⟨18,[.bw 4],ZS⟩
theorem ZT:bW al 102=some Lg:=by kernel_rfl
def Z3:H:= .B (.D [z 0 31 9,z 1 8 31]) (.aF)
def Z2:H:= .B (.D [z 0 15 0,z 1 16 0,fq 2 17 16,ay 3 18 3 17,ao 4 19 18,z 5 20 9,z 7 22 1,z 8 23 2,z 9 24 3,iS 6 21 (.dY 109 [.const (.int .u8 110),F 20]) [(F 18,F 18)],iS 10 25 (.dY 59 [.const aG,.const (.int .i64 1)]) [(F 18,F 18)],a4 11 26 (.fF [.string ⟨#[]⟩,aG,aG,aG,.bool false,aX,aX] [(0,1,F 21),(1,1,F 22),(2,1,F 23),(3,1,F 24),(4,3,F 25)]),a4 12 27 (.gM 7 1 [.string ⟨#[]⟩,aG,aG,aG,.bool false,aX,aX] [(0,7,F 26)]),iC 13 28 7 96 19 27,fq 14 29 15,ay 15 30 3 29,bz 16 1 30 28]) Z3
def Z1:H:= .B (.D [z 0 10 0,fq 1 11 10,ay 2 12 3 11,ao 3 13 12,bq 4 14 13,z 5 9 14]) Z2
def ZZ:H:=
  .B (
  .D [
 a5 0 8 0]) Z1
def Lj:bM:=⟨32,[.bw 8],ZZ⟩
theorem Z0:bW al 108=some Lj:=by kernel_rfl
def Z6:H:= .B (.D [z 0 5 0,z 1 6 1,df 2 7 .quo (F 6) (.const (.int .i64 26)),df 3 8 .rem (F 7) (.const (.int .i64 26)),l2 4 9 97 8,a4 5 10 (.si .u8 (F 9)),z 6 11 1,df 7 12 .rem (F 11) (.const (.int .i64 26)),l2 8 13 97 12,a4 9 14 (.si .u8 (F 13)),a4 10 15 (.gM 1 3 [.int .u8 0,.int .u8 0,.int .u8 0] [(0,1,F 5),(1,1,F 10),(2,1,F 14)]),a4 11 16 (.mT (F 15)),z 12 4 16]) (.aF)
def Z4:H:=
  .B (
  .D [
 a4 0 4 (.mq (.const (.string ⟨#[]⟩)))]) Z6
def Lk:bM:=⟨17,[.bw 4],Z4⟩
theorem Z5:bW al 109=some Lk:=by kernel_rfl
open Go Go.DI Go.Big
section
set_option maxRecDepth 100000
def ahQ:List (Nat×bM):=[(59,MJ),(107,Li),(138,Lp),(139,Lq),(140,Lr),(167,Ly),(168,Lz),(169,LA),(170,LB),(171,LC),(173,abC),(174,abD),(175,abE),(191,abZ),(192,ab0),(193,ab1),(194,Df),(195,LR),(196,LS),(199,acd),(213,L2),(215,L4),(216,L5),(217,acK),(218,acL),(219,L7),(220,acS),(221,L8),(222,L9),(223,ac2),(230,adf),(239,adl),(240,Mf),(241,Mg),(246,Mh),(247,Ds),(248,Mk),(249,adL),(251,Ml),(253,Mn),(254,adU),(257,adX),(258,adY),(274,aek),(275,ael),(260,Mo),(268,Mp),(271,Mq),(272,aeh),(273,Dt),(278,Mr)]
theorem aD4:JL al ahQ:=⟨⟨⟨by kernel_rfl,ae1⟩,by kernel_rfl⟩,⟨⟨⟨by kernel_rfl,ZW⟩,by kernel_rfl⟩,⟨⟨⟨by kernel_rfl,aaN⟩,by kernel_rfl⟩,⟨⟨⟨by kernel_rfl,aaQ⟩,by kernel_rfl⟩,⟨⟨⟨by kernel_rfl,aaT⟩,by kernel_rfl⟩,⟨⟨⟨by kernel_rfl,abf⟩,by kernel_rfl⟩,⟨⟨⟨by kernel_rfl,abm⟩,by kernel_rfl⟩,⟨⟨⟨by kernel_rfl,abp⟩,by kernel_rfl⟩,⟨⟨⟨by kernel_rfl,abu⟩,by kernel_rfl⟩,⟨⟨⟨by kernel_rfl,aby⟩,by kernel_rfl⟩,⟨⟨⟨by kernel_rfl,apV⟩,by kernel_rfl⟩,⟨⟨⟨by kernel_rfl,ap5⟩,by kernel_rfl⟩,⟨⟨⟨by kernel_rfl,ap9⟩,by kernel_rfl⟩,⟨⟨⟨by kernel_rfl,aqZ⟩,by kernel_rfl⟩,⟨⟨⟨by kernel_rfl,aq7⟩,by kernel_rfl⟩,⟨⟨⟨by kernel_rfl,ara⟩,by kernel_rfl⟩,⟨⟨⟨by kernel_rfl,Sm⟩,by kernel_rfl⟩,⟨⟨⟨by kernel_rfl,ab3⟩,by kernel_rfl⟩,⟨⟨⟨by kernel_rfl,ab9⟩,by kernel_rfl⟩,⟨⟨⟨by kernel_rfl,arh⟩,by kernel_rfl⟩,⟨⟨⟨by kernel_rfl,acv⟩,by kernel_rfl⟩,⟨⟨⟨by kernel_rfl,acA⟩,by kernel_rfl⟩,⟨⟨⟨by kernel_rfl,acE⟩,by kernel_rfl⟩,⟨⟨⟨by kernel_rfl,as5⟩,by kernel_rfl⟩,⟨⟨⟨by kernel_rfl,as9⟩,by kernel_rfl⟩,⟨⟨⟨by kernel_rfl,acN⟩,by kernel_rfl⟩,⟨⟨⟨by kernel_rfl,atj⟩,by kernel_rfl⟩,⟨⟨⟨by kernel_rfl,acU⟩,by kernel_rfl⟩,⟨⟨⟨by kernel_rfl,acY⟩,by kernel_rfl⟩,⟨⟨⟨by kernel_rfl,atn⟩,by kernel_rfl⟩,⟨⟨⟨by kernel_rfl,atw⟩,by kernel_rfl⟩,⟨⟨⟨by kernel_rfl,atU⟩,by kernel_rfl⟩,⟨⟨⟨by kernel_rfl,adn⟩,by kernel_rfl⟩,⟨⟨⟨by kernel_rfl,adr⟩,by kernel_rfl⟩,⟨⟨⟨by kernel_rfl,adA⟩,by kernel_rfl⟩,⟨⟨⟨by kernel_rfl,SG⟩,by kernel_rfl⟩,⟨⟨⟨by kernel_rfl,adG⟩,by kernel_rfl⟩,⟨⟨⟨by kernel_rfl,avq⟩,by kernel_rfl⟩,⟨⟨⟨by kernel_rfl,adN⟩,by kernel_rfl⟩,⟨⟨⟨by kernel_rfl,adS⟩,by kernel_rfl⟩,⟨⟨⟨by kernel_rfl,avG⟩,by kernel_rfl⟩,⟨⟨⟨by kernel_rfl,av1⟩,by kernel_rfl⟩,⟨⟨⟨by kernel_rfl,av7⟩,by kernel_rfl⟩,⟨⟨⟨by kernel_rfl,awW⟩,by kernel_rfl⟩,⟨⟨⟨by kernel_rfl,aw7⟩,by kernel_rfl⟩,⟨⟨⟨by kernel_rfl,ad0⟩,by kernel_rfl⟩,⟨⟨⟨by kernel_rfl,aea⟩,by kernel_rfl⟩,⟨⟨⟨by kernel_rfl,aef⟩,by kernel_rfl⟩,⟨⟨⟨by kernel_rfl,awv⟩,by kernel_rfl⟩,⟨⟨⟨by kernel_rfl,SQ⟩,by kernel_rfl⟩,⟨⟨⟨by kernel_rfl,aep⟩,by kernel_rfl⟩,trivial⟩⟩⟩⟩⟩⟩⟩⟩⟩⟩⟩⟩⟩⟩⟩⟩⟩⟩⟩⟩⟩⟩⟩⟩⟩⟩⟩⟩⟩⟩⟩⟩⟩⟩⟩⟩⟩⟩⟩⟩⟩⟩⟩⟩⟩⟩⟩⟩⟩⟩⟩
theorem gv{f:Nat}{args:List Value}{r:Value}(h:Yf (Jb ahQ).X [] 100000 80 f args r=true):bH al f args r:=ak1 (uw aD4) agn h
theorem B1{p:b1->Prop}(dk:p ⟨false,[],[1]⟩)(E:p ⟨false,[1],[1]⟩)(I:p ⟨false,[1],[2]⟩)(av:p ⟨false,[1],[1000]⟩)(aH:p ⟨false,[30],[1]⟩){x:b1}(G:x.c7):p x:=by
  simp only[b1.c7,I6,hH,jm,or_false]at G;rcases G with rfl|rfl|rfl|rfl|rfl
  · exact dk
  · exact E
  · exact I
  · exact av
  · exact aH
theorem RI{x:b1}(aa:x.c7):bH al 170 [dy x] (.bool x.bF.small):=
  B1 (p:= λx=>bH al 170 [dy x] (.bool x.bF.small)) (gv (by kernel_rfl)) (gv (by kernel_rfl)) (gv (by kernel_rfl)) (gv (by kernel_rfl)) (gv (by kernel_rfl)) aa
theorem Pq{x:b1}(aa:x.c7):bH al 171 [dy x] (.bool (decide (0<x.bF.n))):=
  B1 (p:= λx=>bH al 171 [dy x] (.bool (decide (0<x.bF.n)))) (gv (by kernel_rfl)) (gv (by kernel_rfl)) (gv (by kernel_rfl)) (gv (by kernel_rfl)) (gv (by kernel_rfl)) aa
theorem aAb{x:b1}(aa:x.c7):bH al 230 [dy x] (.bool (decide (od x.bF .nJ<=0))):=
  B1 (p:= λx=>bH al 230 [dy x] (.bool (decide (od x.bF .nJ<=0)))) (gv (by kernel_rfl)) (gv (by kernel_rfl)) (gv (by kernel_rfl)) (gv (by kernel_rfl)) (gv (by kernel_rfl)) aa
theorem ahu{x:b1}(aa:x.c7):bH al 140 [dy x] (.bool x.bF.small):=
  B1 (p:= λx=>bH al 140 [dy x] (.bool x.bF.small)) (gv (by kernel_rfl)) (gv (by kernel_rfl)) (gv (by kernel_rfl)) (gv (by kernel_rfl)) (gv (by kernel_rfl)) aa
theorem UQ{x:b1}(aa:x.c7)(aMb:x.bF.ok=true):bH al 139 [dy x] (Y (od x.bF .nil)):=
  B1 (p:= λx=>bH al 139 [dy x] (Y (od x.bF .nil))) (gv (by kernel_rfl)) (gv (by kernel_rfl)) (gv (by kernel_rfl)) (gv (by kernel_rfl)) (gv (by kernel_rfl)) aa
theorem aC1{x:b1}(aa:x.c7):bH al 138 [dy x] (.bool x.bF.ok):=
  B1 (p:= λx=>bH al 138 [dy x] (.bool x.bF.ok)) (gv (by kernel_rfl)) (gv (by kernel_rfl)) (gv (by kernel_rfl)) (gv (by kernel_rfl)) (gv (by kernel_rfl)) aa
theorem aCf{x:b1}(aa:x.c7):bH al 199 [dy ⟨false,[1],[1]⟩,dy x] (.bool (decide (od .nJ x.bF<0))):=
  B1 (p:= λx=>bH al 199 [dy ⟨false,[1],[1]⟩,dy x] (.bool (decide (od .nJ x.bF<0)))) (gv (by kernel_rfl)) (gv (by kernel_rfl)) (gv (by kernel_rfl)) (gv (by kernel_rfl)) (gv (by kernel_rfl)) aa
theorem q4:bH al 193 [Y 1] (dy ⟨false,[1],[1]⟩):=gv (by kernel_rfl)
theorem ala:bH al 59 [Y 0,Y 1] (dy ⟨false,[],[1]⟩):=by have h:bH al 59 [Y 0,Y 1] (.agg #[.bool false,.slice none 0 0,bT [1]]):=gv (by kernel_rfl);intro u m cz dx aA;refine(h u m cz dx aA).b8 λr aq ⟨E,I,cP,av,aH,br⟩=>⟨E,I,cP,av,aH,?_⟩;obtain⟨ys,rfl,aB⟩:=br.rN;obtain⟨a,b,c,e,aK,bb,c0⟩:=bo.aEo (x:= .bool false) (y:= .slice none 0 0) (J:=bT [1]) aB;have et:ys= #[a,b,c]:=B6.1 e;subst et;rw[bb.h7 rfl];exact bo.agg (bo.cons aK (bo.cons (.hR rfl) (bo.cons c0 bo.nil)))
theorem alb:bH al 59 [Y 1,Y 1] (dy ⟨false,[1],[1]⟩):=gv (by kernel_rfl)
theorem alc:bH al 59 [Y 1,Y 2] (dy ⟨false,[1],[2]⟩):=gv (by kernel_rfl)
theorem ald:bH al 59 [Y 1,Y 1000] (dy ⟨false,[1],[1000]⟩):=gv (by kernel_rfl)
theorem ale:bH al 59 [Y 30,Y 1] (dy ⟨false,[30],[1]⟩):=gv (by kernel_rfl)
theorem Iz:bH al 174 [Y 1,Y 1] (.tuple #[dy ⟨false,[1],[1]⟩,Y 0]):=gv (by kernel_rfl)
theorem IA:bH al 173 [h5 [⟨false,[1],[1]⟩]] (.tuple #[dy ⟨false,[1],[1]⟩,Y 0]):=gv (by kernel_rfl)
theorem Iy:bH al 175 [dy ⟨false,[1],[1]⟩,dy ⟨false,[1],[1]⟩] (.tuple #[Y 0,Y 0]):=gv (by kernel_rfl)
theorem r5:bH al 191 [h5 [⟨false,[1],[1]⟩]] (.tuple #[dy ⟨false,[1],[1]⟩,Y 0]):=gv (by kernel_rfl)
theorem r4:bH al 192 [dy ⟨false,[1],[1]⟩,dy ⟨false,[1],[1]⟩] (.bool true):=gv (by kernel_rfl)
end
theorem V2{x:Int}(dk:0<=x)(E:x<4294967296):IntKind.u32.wrap x=x:=by show x%4294967296=x;omega
theorem V3{x:Int}(dk:0<=x)(E:x<18446744073709551616):IntKind.u64.wrap x=x:=by show x%18446744073709551616=x;omega
theorem Wf:IntKind.i64.wrap 0=0:=by decide
theorem Wg:IntKind.i64.wrap 1=1:=by decide
theorem Wh:IntKind.i64.wrap 2=2:=by decide
theorem Wi:IntKind.i64.wrap (-1)= -1:=by decide
theorem Wr:IntKind.u64.wrap 0=0:=by decide
theorem Ws:IntKind.u64.wrap 1=1:=by decide
theorem Wt:IntKind.u32.wrap 0=0:=by decide
attribute [local simp] Wf Wg Wh Wi Wr Ws Wt
theorem UN{x:Int}: ∀r∈[[eV x]],r.length=1/\ ∀v∈r,ha v=true:= λr aw=>by simp at aw;subst aw;exact⟨rfl,λv ad=>by simp at ad;subst ad;rfl⟩
theorem aFM{x:Int}(G:x≠0):bH al 248 [bT [x]] (Y 1):=by refine ei (dD (aC:=⟨[],[]⟩) adG (by kernel_rfl) (by simp[Mk]) ?_);simp(disch:=first|omega|simp only[DI.ae];omega) [Mk,adF,adH,adI,adJ,-O,-U,-N,-S,-List.map_map];refine eE (aC:=⟨[],[]⟩) λcS bm=> ?_;simp(disch:=first|omega|simp only[DI.ae];omega) [adK,G,-O,-U,-N,-S,-List.map_map]
noncomputable def uq:bC al:= .dN 248 Int (λx=>x≠0) (λx=>[bT [x]]) (λ_=>Y 1) λ_ h=>aFM h
@[simp] theorem aQP:uq.f=248:=rfl
@[simp] theorem aQQ{x:Int}(h:x≠0):uq.fn [aj [[eV x]] 1]=some (Y 1):=bC.eh (x:=x) h λy af=>by simpa using af
theorem aFL{x:Int}(G:x≠0):bH al 271 [bT [x]] (.bool false):=by refine ei (dD (aC:=⟨[uq],[]⟩) aef (by kernel_rfl) (by simp[Mq]) ?_);simp(disch:=first|omega|simp only[DI.ae];omega) [Mq,aee,aeg,-O,-U,-N,-S,-List.map_map]
noncomputable def Ez:bC al:= .dN 271 Int (λx=>x≠0) (λx=>[bT [x]]) (λ_=> .bool false) λ_ h=>aFL h
@[simp] theorem aQN:Ez.f=271:=rfl
@[simp] theorem aQO{x:Int}(h:x≠0):Ez.fn [aj [[eV x]] 1]=some (.bool false):=bC.eh (x:=x) h λy af=>by simpa using af
theorem aFR{x:Int}(G:x≠0):bH al 253 [bT [x]] (bT [x]):=by refine ei (dD (aC:=⟨[uq],[]⟩) adS (by kernel_rfl) (by simp[Mn]) ?_);simp(disch:=first|omega|simp only[DI.ae];omega) [Mn,adR,adT,-O,-U,-N,-S,-List.map_map];exact ss (n:=8) (bh:=[[eV x]]) (w:=true) (by simp(disch:=first|omega|simp only[DI.ae];omega) [-O,-U,-N,-S,-List.map_map]) rfl UN
noncomputable def zi:bC al:= .dN 253 Int (λx=>x≠0) (λx=>[bT [x]]) (λx=>bT [x]) λ_ h=>aFR h
@[simp] theorem aQZ:zi.f=253:=rfl
@[simp] theorem aQ0{x:Int}(h:x≠0):zi.fn [aj [[eV x]] 1]=some (bT [x]):=bC.eh (x:=x) h λy af=>by simpa using af
theorem aFF{x y:Int}(G:x≠0)(af:y≠0):bH al 222 [bT [x],bT [y]] (Y (if x<y then-1 else if x>y then 1 else 0)):=by
  refine ei (dD (aC:=⟨[uq],[]⟩) acY (by kernel_rfl) (by simp[L9]) ?_);simp(disch:=first|omega|simp only[DI.ae];omega) [L9,acX,acZ,ac0,ac1,-O,-U,-N,-S,-List.map_map];refine eE (aC:=⟨[uq],[]⟩) λcS bm=> ?_;by_cases bO:x<y
  · simp(disch:=first|omega|simp only[DI.ae];omega) [Hv,Dk,Dl,bO,-O,-U,-N,-S,-List.map_map]
  by_cases cA:x>y
  · simp(disch:=first|omega|simp only[DI.ae];omega) [Hv,Dk,Dl,bO,cA,-O,-U,-N,-S,-List.map_map]
  simp(disch:=first|omega|simp only[DI.ae];omega) [Hv,Dk,Dl,bO,cA,-O,-U,-N,-S,-List.map_map];refine bm _ _ (eE (aC:=⟨[uq],[]⟩) λcS bm=> ?_);simp(disch:=first|omega|simp only[DI.ae];omega) [Hv,Dk,Dl,Dl,Dk,bO,cA,-O,-U,-N,-S,-List.map_map]
noncomputable def Ox:bC al:= .dN 222 (Int×Int) (λx=>x.1≠0/\x.2≠0) (λx=>[bT [x.1],bT [x.2]]) (λx=>Y (if x.1<x.2 then-1 else if x.1>x.2 then 1 else 0)) λ_ h=>aFF h.1 h.2
@[simp] theorem aQI:Ox.f=222:=rfl
@[simp] theorem aQJ{x y:Int}(h:x≠0/\y≠0):Ox.fn [aj [[eV x]] 1,aj [[eV y]] 1]=some (Y (if x<y then-1 else if x>y then 1 else 0)):=bC.eh (x:=(x,y)) h λ⟨a,b⟩ af=>by simpa using af
theorem aFO:bH al 217 [.int .u64 0] (bT []):=gv (by kernel_rfl)
noncomputable def VI:bC al:= .dN 217 Unit (λ_=>True) (λ_=>[.int .u64 0]) (λ_=>bT []) λ_ _=>aFO
@[simp] theorem aQT:VI.f=217:=rfl
@[simp] theorem aQU:VI.fn [.int .u64 0]=some (bT []):=bC.eh (x:=()) trivial λ_ _=>rfl
section
variable {J:Int} (E:2<=J) (I:J<200)
include E I
theorem aFQ:bH al 278 [bT [J],.int .u32 1] (.tuple #[bT [J],.int .u32 0]):=by
  have bK:J≠0:=by omega
  have c8:IntKind.u64.wrap J=J:=V3 (by omega) (by omega);have e7:IntKind.u32.wrap J=J:=V2 (by omega) (by omega);have aJ:J.tdiv 1=J:=by simp
  have aU:J.tmod 1=0:=by simp
  refine ei (dD (aC:=⟨[uq],[]⟩) aep (by kernel_rfl) (by simp[Mr]) ?_);simp(disch:=first|omega|simp only[DI.ae];omega) [Mr,aeo,aeq,aer,aes,-O,-U,-N,-S,-List.map_map];refine eE (aC:=⟨[uq],[]⟩) λcS bm=> ?_;have ni:max (J%2^IntKind.u64.bits) 0=J:=by show max (J%18446744073709551616) 0=J;omega
  simp(disch:=first|omega|simp only[DI.ae];omega) [SS,Ms,Mt,Mu,c8,e7,ni,aJ,aU,-O,-U,-N,-S,-List.map_map];refine bm _ _ (eE (aC:=⟨[uq],[]⟩) λcS bm=> ?_);simp(disch:=first|omega|simp only[DI.ae];omega) [SS,Ms,Mt,Mu,Mu,Ms,Mt,su,rZ,-O,-U,-N,-S,-List.map_map];simp(disch:=first|omega|simp only[DI.ae];omega) [ali,-O,-U,-N,-S,-List.map_map]
theorem aFG:bH al 273 [bT [1],bT [J]] (.tuple #[.slice none 0 0,bT [1]]):=by
  have bK:J≠0:=by omega
  have c:(1:Int)<J:=by omega
  have gb:(1:Int)≠0:=by decide
  refine ei (dD (aC:=⟨[Ox,zi],[]⟩) SQ (by kernel_rfl) (by simp[Dt]) ?_);simp(disch:=first|omega|simp only[DI.ae];omega) [Dt,SP,SR,c,-O,-U,-N,-S,-List.map_map]
noncomputable def VK:bC al:= .dN 278 Unit (λ_=>True) (λ_=>[bT [J],.int .u32 1]) (λ_=> .tuple #[bT [J],.int .u32 0]) λ_ _=>aFQ E I
@[simp] theorem aQX:(VK E I).f=278:=rfl
@[simp] theorem aQY:(VK E I).fn [aj [[eV J]] 1,.int .u32 1]=some (.tuple #[bT [J],.int .u32 0]):=bC.eh (x:=()) trivial λ_ _=>rfl
theorem aFH:bH al 273 [bT [J],bT [1]] (.tuple #[bT [J],bT []]):=by
  have bK:J≠0:=by omega
  have c: ¬J<1:=by omega
  have cA:J>1:=by omega
  have gz:(1:Int)<J:=by omega
  have gb:(1:Int)≠0:=by decide
  refine ei (dD (aC:=⟨[Ox,VK E I,VI],[]⟩) SQ (by kernel_rfl) (by simp[Dt]) ?_);simp(disch:=first|omega|simp only[DI.ae];omega) [Dt,SP,SR,aei,aej,c,cA,-O,-U,-N,-S,-List.map_map]
noncomputable def BP:bC al:= .dN 273 Bool (λ_=>True) (λb=>if b then[bT [1],bT [J]]else[bT [J],bT [1]]) (λb=>if b then .tuple #[.slice none 0 0,bT [1]]else .tuple #[bT [J],bT []]) λb _=>by
  cases b
  · exact aFH E I
  · exact aFG E I
@[simp] theorem aQK:(BP E I).f=273:=rfl
theorem aDs:(BP E I).fn [aj [[eV 1]] 1,aj [[eV J]] 1]=some (.tuple #[.slice none 0 0,bT [1]]):=bC.eh (x:=true) trivial λb hb=>by
  cases b
  · simp at hb;omega
  · rfl
theorem aDt:(BP E I).fn [aj [[eV J]] 1,aj [[eV 1]] 1]=some (.tuple #[bT [J],bT []]):=bC.eh (x:=false) trivial λb hb=>by
  cases b
  · rfl
  · simp at hb;omega
theorem aFJ:bH al 251 [bT [1],bT [J]] (.tuple #[bT [1],Y 0]):=by
  have bK:J≠0:=by omega
  have gb:(1:Int)≠0:=by decide
  have g5:=aDs E I;have gN:=aDt E I;refine ei (dD (aC:=⟨[Ez,zi,BP E I],[]⟩) adN (by kernel_rfl) (by simp[Ml]) ?_);simp(disch:=first|omega|simp only[DI.ae];omega) [Ml,adM,adO,adP,adQ,-O,-U,-N,-S,-List.map_map];refine eE (aC:=⟨[Ez,zi,BP E I],[]⟩) λcS bm=> ?_;simp(disch:=first|omega|simp only[DI.ae];omega) [Mm,HB,g5,-O,-U,-N,-S,-List.map_map];refine bm _ _ (eE (aC:=⟨[Ez,zi,BP E I],[]⟩) λcS bm=> ?_);simp(disch:=first|omega|simp only[DI.ae];omega) [Mm,HB,gN,-O,-U,-N,-S,-List.map_map];refine bm _ _ (eE (aC:=⟨[Ez,zi,BP E I],[]⟩) λcS bm=> ?_);simp(disch:=first|omega|simp only[DI.ae];omega) [Mm,HB,HB,-O,-U,-N,-S,-List.map_map]
omit E I in
theorem aj7: ∀(n:Nat) (v k:Int),0<=v->v<2^n->0<=k->k+n<=1000-> ∃gg,k<=gg/\gg<=k+n/\(0<v->k<gg)/\ ∀(A:aR) (t:W) (Q:dA->aR->W->Prop),A 5=eV v->A 4=Y k->
    (∀ak,ak 4=Y gg->Q (.a7 0) ak t)->fZ al (.loop Hu) A t Q:=by
  intro n;induction n with
  | zero=>intro v k dk E _ _;have ad:v=0:=(by simp at E;omega);subst ad;refine⟨k,Int.le_refl _,by omega,λh=>absurd h (by decide),λA t Q cq hs b2=> ?_⟩;refine eE (aC:=⟨[],[]⟩) λcS bm=> ?_;simp(disch:=first|omega|simp only[DI.ae];omega) [Hu,L6,cq,-O,-U,-N,-S,-List.map_map];exact b2 _ (by simp[hs])
  | succ n cx=>
    intro v k dk E aa az;by_cases ad:v=0
    · subst ad;refine⟨k,Int.le_refl _,by omega,λh=>absurd h (by decide),λA t Q cq hs b2=> ?_⟩;refine eE (aC:=⟨[],[]⟩) λcS bm=> ?_;simp(disch:=first|omega|simp only[DI.ae];omega) [Hu,L6,cq,-O,-U,-N,-S,-List.map_map];exact b2 _ (by simp[hs])
    · have ab:0<v:=(by omega);have av:(2:Int)^(n+1)=2*2^n:=(by rw[Int.pow_succ];omega);obtain⟨gg,a,b,c,d⟩:=cx (v/2) (k+1) (by omega) (by omega) (by omega) (by omega);refine⟨gg,by omega,by omega,λ_=>by omega,λA t Q cq hs b2=> ?_⟩;refine eE (aC:=⟨[],[]⟩) λcS bm=> ?_;have c8:IntKind.i64.wrap (k+1)=k+1:=fV (by omega) (by omega);simp(disch:=first|omega|simp only[DI.ae];omega) [Hu,L6,cq,hs,ab,c8,-O,-U,-N,-S,-List.map_map];refine bm _ _ (d _ _ _ ?_ (by simp) b2);rw[aEx,if_pos rfl,Int.fdiv_eq_ediv_of_nonneg _ (by decide)]
theorem Pd: ∃b:Int,1<=b/\b<=8/\bH al 216 [bT [J]] (Y b):=by
  have bK:J≠0:=by omega
  obtain⟨gg,a,b,c,d⟩:=aj7 8 J 0 (by omega) (by show J<256;omega) (by omega) (by omega);refine⟨gg,by have:=c (by omega);omega,by omega,?_⟩;refine ei (dD (aC:=⟨[uq],[]⟩) acE (by kernel_rfl) (by simp[L5]) ?_);simp(disch:=first|omega|simp only[DI.ae];omega) [L5,acD,acF,acG,acH,acI,-O,-U,-N,-S,-List.map_map];refine d _ _ _ (by simp) (by simp) λak hs=> ?_;simp(disch:=first|omega|simp only[DI.ae];omega) [acJ,hs,-O,-U,-N,-S,-List.map_map]
omit E I in
theorem aj6:bH al 216 [bT [1]] (Y 1):=gv (by kernel_rfl)
omit E I in
noncomputable def BO(b:Int)(hb:bH al 216 [bT [J]] (Y b)):bC al:= .dN 216 Bool (λ_=>True) (λc=>if c then[bT [1]]else[bT [J]]) (λc=>if c then Y 1 else Y b) λc _=>by
  cases c
  · exact hb
  · exact aj6
omit E I in
@[simp] theorem aQH{b:Int}{hb:bH al 216 [bT [J]] (Y b)}:(BO b hb).f=216:=rfl
theorem Ow{b:Int}{hb:bH al 216 [bT [J]] (Y b)}:(BO b hb).fn [aj [[eV 1]] 1]=some (Y 1):=bC.eh (x:=true) trivial λc ar=>by
  cases c
  · simp at ar;omega
  · rfl
theorem VF{b:Int}{hb:bH al 216 [bT [J]] (Y b)}:(BO b hb).fn [aj [[eV J]] 1]=some (Y b):=bC.eh (x:=false) trivial λc ar=>by
  cases c
  · rfl
  · simp at ar;omega
noncomputable def VG:bC al:= .dN 251 Unit (λ_=>True) (λ_=>[bT [1],bT [J]]) (λ_=> .tuple #[bT [1],Y 0]) λ_ _=>aFJ E I
@[simp] theorem aQL:(VG E I).f=251:=rfl
@[simp] theorem aQM:(VG E I).fn [aj [[eV 1]] 1,aj [[eV J]] 1]=some (.tuple #[bT [1],Y 0]):=bC.eh (x:=()) trivial λ_ _=>rfl
theorem aFN:bH al 219 [.bool false,bT [1],bT [J]] (.tuple #[dy ⟨false,[1],[J]⟩,Y 0]):=by
  have bK:J≠0:=by omega
  have gb:(1:Int)≠0:=by decide
  obtain⟨b,dd,ee,hb⟩:=Pd E I;have dj:=Ow E I (hb:=hb);have dw:=VF E I (hb:=hb);have c: ¬b>4096:=by omega
  have km: ¬(4096:Int)<b:=by omega
  refine ei (dD (aC:=⟨[VG E I,BO b hb,zi],[]⟩) acN (by kernel_rfl) (by simp[L7]) ?_);simp(disch:=first|omega|simp only[DI.ae];omega) [L7,acM,acO,acP,acQ,acR,dj,dw,c,eb,-O,-U,-N,-S,-List.map_map]
theorem aFS:bH al 221 [dy ⟨false,[1],[J]⟩] (.bool true):=by
  obtain⟨b,dd,ee,hb⟩:=Pd E I;have dj:=Ow E I (hb:=hb);have dw:=VF E I (hb:=hb);have c:0<b:=by omega
  have km:b<=4096:=by omega
  refine ei (dD (aC:=⟨[BO b hb],[]⟩) acU (by kernel_rfl) (by simp[L8]) ?_);simp(disch:=first|omega|simp only[DI.ae];omega) [L8,acT,acV,acW,dj,dw,c,km,eb,-O,-U,-N,-S,-List.map_map]
noncomputable def VH:bC al:= .dN 219 Unit (λ_=>True) (λ_=>[.bool false,bT [1],bT [J]]) (λ_=> .tuple #[dy ⟨false,[1],[J]⟩,Y 0]) λ_ _=>aFN E I
@[simp] theorem aQR:(VH E I).f=219:=rfl
@[simp] theorem aQS:(VH E I).fn [.bool false,aj [[eV 1]] 1,aj [[eV J]] 1]=some (.tuple #[dy ⟨false,[1],[J]⟩,Y 0]):=bC.eh (x:=()) trivial λ_ _=>rfl
noncomputable def VL:bC al:= .dN 221 Unit (λ_=>True) (λ_=>[dy ⟨false,[1],[J]⟩]) (λ_=> .bool true) λ_ _=>aFS E I
@[simp] theorem aQ1:(VL E I).f=221:=rfl
@[simp] theorem aQ2:(VL E I).fn [.agg #[.bool false,aj [[eV 1]] 1,aj [[eV J]] 1]]=some (.bool true):=bC.eh (x:=()) trivial λ_ _=>rfl
theorem aFP:bH al 215 [dy ⟨false,[1],[J]⟩] (.tuple #[dy ⟨false,[1],[J]⟩,Y 0]):=by refine ei (dD (aC:=⟨[VL E I,VH E I],[]⟩) acA (by kernel_rfl) (by simp[L4]) ?_);simp(disch:=first|omega|simp only[DI.ae];omega) [L4,acz,acB,acC,eb,-O,-U,-N,-S,-List.map_map]
noncomputable def VJ:bC al:= .dN 215 Unit (λ_=>True) (λ_=>[dy ⟨false,[1],[J]⟩]) (λ_=> .tuple #[dy ⟨false,[1],[J]⟩,Y 0]) λ_ _=>aFP E I
@[simp] theorem aQV:(VJ E I).f=215:=rfl
@[simp] theorem aQW:(VJ E I).fn [.agg #[.bool false,aj [[eV 1]] 1,aj [[eV J]] 1]]=some (.tuple #[dy ⟨false,[1],[J]⟩,Y 0]):=bC.eh (x:=()) trivial λ_ _=>rfl
theorem aFK:bH al 170 [dy ⟨false,[1],[J]⟩] (.bool true):=by
  obtain⟨b,dd,ee,hb⟩:=Pd E I;have dj:=Ow E I (hb:=hb);have dw:=VF E I (hb:=hb);have c:b<=32:=by omega
  refine ei (dD (aC:=⟨[VJ E I,BO b hb],[]⟩) abu (by kernel_rfl) (by simp[LB]) ?_);simp(disch:=first|omega|simp only[DI.ae];omega) [LB,abt,abv,abw,dj,dw,c,eb,-O,-U,-N,-S,-List.map_map]
theorem aiW:bH al 171 [dy ⟨false,[1],[J]⟩] (.bool true):=by obtain⟨b,dd,ee,hb⟩:=Pd E I;have dj:=Ow E I (hb:=hb);refine ei (dD (aC:=⟨[BO b hb],[]⟩) aby (by kernel_rfl) (by simp[LC]) ?_);simp(disch:=first|omega|simp only[DI.ae];omega) [LC,abx,abz,dj,eb,-O,-U,-N,-S,-List.map_map]
end
end Go.Proofs.YtmmkkggfmigppaaGreat
