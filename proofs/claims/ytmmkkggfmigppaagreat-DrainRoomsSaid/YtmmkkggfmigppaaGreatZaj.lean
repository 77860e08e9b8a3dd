/-
  A part of the proof of the statement, in texts that tools of ours (wip/shrink.py, irpack.py, relax.py, minify.py, join.py, lay.py) have shortened.
-/
import Derived.Test.YtmmkkggfmigppaaGreatZai
set_option linter.all false
set_option maxRecDepth 8000
set_option maxHeartbeats 16000000
namespace Go.DI
open Go Go.RowKit
def qw:Nat->Value->Value->Bool
  |0,_,_=>false
  | n+1,a,b=>match a,b with
    | .bool x,.bool y=>decide (x=y)
    | .int k x,.int eX y=>decide (k=eX)&&decide (x=y)
    | .string s,.string kV=>decide (s.data.toList=kV.data.toList)
    | .nilFunc,.nilFunc=>true
    | .nilIface,.nilIface=>true
    | .pointer none,.pointer none=>true
    | .slice none l I,.slice none de jf=>Nat.beq l de&&Nat.beq I jf
    | .agg xs,.agg ys=>vs (qw n) xs.toList ys.toList
    | .tuple xs,.tuple ys=>vs (qw n) xs.toList ys.toList
    | .func (.yield k) xs cs,.func (.yield eX) ys ds=>Nat.beq k eX&&(vs (qw n) xs.toList ys.toList&&vs (qw n) cs.toList ds.toList)
    |_,_=>false
where
  vs (f:Value->Value->Bool):List Value->List Value->Bool
  |[],[]=>true
  |x::l,y::k=>f x y&&vs f l k
  |_,_=>false
theorem ON{f:Value->Value->Bool}(a6: ∀a b,f a b=true->a=b): ∀{l k:List Value},qw.vs f l k=true->l=k
  |[],[],_=>rfl
  |[],_::_,h=>by cases h
  |_::_,[],h=>by cases h
  | x::l,y::k,h=>by simp only[qw.vs,aY]at h;rw[a6 x y h.1,ON a6 h.2]
theorem Up: ∀{n:Nat} (a b:Value),qw n a b=true->a=b
  |0,_,_,h=>by cases h
  | n+1,a,b,h=>by
    have cc: ∀a b,qw n a b=true->a=b:= λa b h=>Up a b h;have im: ∀{xs ys:Array Value},qw.vs (qw n) xs.toList ys.toList=true->xs=ys:= λ{xs ys} h=>Bf.1 (ON cc h);simp only[qw]at h;split at h
    · rw[of_decide_eq_true h]
    · simp only[aY,eO]at h;rw[h.1,h.2]
    · next s kV=>have:=of_decide_eq_true h;obtain⟨⟨l⟩⟩:=s;obtain⟨⟨de⟩⟩:=kV;simp only at this;rw[this]
    · rfl
    · rfl
    · rfl
    · simp only[aY,Nat.beq_eq]at h;rw[h.1,h.2]
    · rw[im h]
    · rw[im h]
    · simp only[aY,Nat.beq_eq]at h;rw[h.1,im h.2.1,im h.2.2]
    · cases h
def tB(n:Nat)(l k:List Value):Bool:=qw.vs (qw n) l k
theorem ay3{n:Nat}{l k:List Value}(h:tB n l k=true):l=k:=ON (λa b h=>Up a b h) h
abbrev o4:=List (Nat×List Value×Value)
def MB(f:Nat)(ts:List Value):o4->Option Value
  |[]=>none
  |p::l=>bif Nat.beq p.1 f&&tB 30 p.2.1 ts then some p.2.2 else MB f ts l
def Pk(f:Nat):o4->Bool
  |[]=>false
  |p::l=>Nat.beq p.1 f||Pk f l
def tP(P:Program)(l:o4):Prop:= ∀p∈l,bK P p.1 p.2.1 p.2.2
theorem adG{P:Program}{f:Nat}{ts:List Value}{r:Value}: ∀{l:o4},tP P l->MB f ts l=some r->bK P f ts r
  |[],_,h=>by cases h
  | p::l,aD,h=>by
    simp only[MB]at h;cases hb:Nat.beq p.1 f&&tB 30 p.2.1 ts with
    |false=>rw[hb]at h;exact adG (λq bc=>aD q (by simp[bc])) h
    | true=>rw[hb]at h;simp only[cond_true,ll]at h;simp only[aY,Nat.beq_eq]at hb;rw[<-hb.1,<-ay3 hb.2,<-h];exact aD p (by simp)
def Sl(hJ:o4)(f:Nat)(args:List Value)(ah:eF):Option (Value×eF):=match yZ 9 (cv ah) args with
  | some ts=>(match MB f ts hJ with
    | some r=>if my r then(match yP ah (args.flatMap (ed 9 (cv ah)))with
          |some fa=>some (r,fa)
          |none=>none)
        else(match DD ah (args.flatMap (ed 9 (cv ah)))with
          |some fa=>some (r,fa)
          |none=>none)
    |none=>none)
  |none=>none
theorem aum{P:Program}{hJ:o4}(uh:tP P hJ){f:Nat}{args:List Value}{ah cg:eF}{r:Value}(aZ:fG ah)(h:Sl hJ f args ah=some (r,cg)):fG cg/\fA P f args (cv ah) λdV aJ=>dV=r/\aJ=cv cg:=by
  have m0: ∀{ts:List Value},∀ai:bK P f ts r,uM [MN ai] f args (cv ah) (λdV aJ=>dV=r/\aJ=cv cg)->fA P f args (cv ah) λdV aJ=>dV=r/\aJ=cv cg:= λ{ts} ai q K u bz m M ax=>by refine(SY M ax q).b6 λdV an aH=> ?_;obtain⟨D,cr,mj,aJ,⟨rfl,rfl⟩,aq,aE,bq⟩:=aH;exact⟨K,cr,_,_,⟨rfl,rfl⟩,aq,aE,bq⟩
  unfold Sl at h;split at h
  · next ts Ft=>
    split at h
    · next fL az=>
      have ai:bK P f ts fL:=adG uh az;split at h
      · next fC=>
        split at h
        · next fa H=>cases h;obtain⟨e3,aR⟩:=Jt aZ H;exact⟨e3,m0 ai (MO ai Ft ⟨rfl,by rw[if_pos fC,aR]⟩)⟩
        · cases h
      · next fC=>
        split at h
        · next fa H=>cases h;obtain⟨e3,aR⟩:=Ib aZ H;exact⟨e3,m0 ai (MO ai Ft ⟨rfl,by rw[if_neg fC,aR]⟩)⟩
        · cases h
    · cases h
  · cases h
def ES(nR:Nat->Option bU)(hJ:o4)(g2:lH)(n:Nat):Nat->lH
  |0=> λ_ _ _=>none
  | d+1=> λf args ah=>match g2 f args ah with
    |some x=>some x
    | none=>bif Pk f hJ then Sl hJ f args ah else match nR f with
      |some Fn=>if Nat.ble args.length Fn.cQ&&Nat.blt args.length 1000000 then JD Fn.jc (p2 (ES nR hJ g2 n d) n Fn.body (zy args 0 .nil) ah)else none
      |none=>none
theorem WC{P:Program}{nR:Nat->Option bU}(bt:I1 P nR){hJ:o4}(uh:tP P hJ){g2:lH}(gQ:qA P g2){n:Nat}: ∀d,qA P (ES nR hJ g2 n d)
  |0=> λf args ah r cg aZ h=>by cases h
  | d+1=> λf args ah r cg aZ h=>by
    simp only[ES]at h;cases bb:g2 f args ah with
    |some x=>rw[bb]at h;cases h;exact gQ _ _ _ _ _ aZ bb
    |none=>
    rw[bb]at h;simp only at h;cases hb:Pk f hJ with
    |true=>rw[hb]at h;exact aum uh aZ h
    |false=>
    rw[hb]at h;simp only[cond_false]at h;split at h
    · next Fn a6=>
      obtain⟨dv,ao⟩:=bt f Fn a6;split at h
      · next aD=>
        simp only[aY,Nat.ble_eq,Nat.blt_eq]at aD;cases ar:p2 (ES nR hJ g2 n d) n Fn.body (zy args 0 .nil) ah with
        |none=>rw[ar]at h;cases h
        | some x=>
          obtain⟨e,cG,cT⟩:=x;rw[ar]at h;obtain⟨w,q⟩:=vm (WC bt uh gQ d) ao aZ ar;have m0:e≠ .bh 0->(∀id,e≠ .bh id)->kU (cv cT) (kA cG) Fn.jc=true->r=lj (cv cT) (kA cG) Fn.jc->cg=cT->fG cg/\fA P f args (cv ah) λdV aJ=>dV=r/\aJ=cv cg:= λ_ cW az aK aR=>by
            subst aK;subst aR;refine⟨w,λK u bz m M ax=> ?_⟩;rw[si dv (by rw[<-ax.1];exact aD.1)];refine(q K u (jl bz) m M (by rw[ayi aD.2];exact gF.init ax)).b6 λdX bl bg aH=> ?_;obtain⟨rfl,cq,dt,aQ,a7,cD⟩:=aH;obtain⟨a,b⟩:=S7 aQ a7 az;cases dX with
            |bh id=>exact absurd rfl (cW id)
            |er=>exact⟨a,cq,dt,_,_,⟨rfl,rfl⟩,aQ,b,cD⟩
            |aI=>exact⟨a,cq,dt,_,_,⟨rfl,rfl⟩,aQ,b,cD⟩
          cases e with
          |bh id=>simp only[JD]at h;cases h
          | er=>
            simp only[JD]at h;split at h
            · next az=>cases h;exact m0 (by simp) (by simp) az rfl rfl
            · cases h
          | aI=>
            simp only[JD]at h;split at h
            · next az=>cases h;exact m0 (by simp) (by simp) az rfl rfl
            · cases h
      · cases h
    · cases h
def OO(nR:Nat->Option bU)(hJ:o4)(g2:lH)(n d f:Nat)(args:List Value)(r:Value):Bool:=match ES nR hJ g2 n d f args Ed with
  | some (v,cT)=>(match dO 9 (cv cT) v with
    |some fL=>qw 30 fL r
    |none=>false)
  |none=>false
theorem EL{P:Program}{nR:Nat->Option bU}(bt:I1 P nR){hJ:o4}(uh:tP P hJ){g2:lH}(gQ:qA P g2){n d f:Nat}{args:List Value}{r:Value}(h:OO nR hJ g2 n d f args r=true):bK P f args r:=by
  unfold OO at h;split at h
  · next v cT rM=>
    obtain⟨w,q⟩:=WC bt uh gQ d f args Ed _ _ afR rM;rw[adO]at q;split at h
    · next fL az=>have:=Up _ _ h;subst this;exact et (q.b6 λdV aJ aH=>by rw[aH.1,aH.2];exact az)
    · cases h
  · cases h
def ad6:lH:= λ_ _ _=>none
theorem avH{P:Program}:qA P ad6:= λ_ _ _ _ _ _ h=>by cases h
def Wo(nR:Nat->Option bU)(hJ:o4)(n d f:Nat)(args:List Value)(r:Value):Bool:=OO nR hJ ad6 n d f args r
theorem aim{P:Program}{nR:Nat->Option bU}(bt:I1 P nR){hJ:o4}(uh:tP P hJ){n d f:Nat}{args:List Value}{r:Value}(h:Wo nR hJ n d f args r=true):bK P f args r:=EL bt uh avH h
theorem adH{P:Program}:tP P []:= λp ai=>by cases ai
theorem x8{P:Program}{p:Nat×List Value×Value}{l:o4}(h:bK P p.1 p.2.1 p.2.2)(aD:tP P l):tP P (p::l):= λq bc=>by
  rcases gT.1 bc with rfl|bc
  · exact h
  · exact aD q bc
end Go.DI
namespace Go.Proofs.YtmmkkggfmigppaaGreat
open Go Go.DI
def Yd:J:= .B (.F [A 0 9 0,lz 1 10 9 0,A 2 11 1,lz 3 12 11 0,a2 4 13 (.fg .neq .bool (E 10) (E 12)),A 5 14 0,b7 6 15 169 [E 14],b7 7 16 168 [E 15],A 8 17 1,b7 9 18 169 [E 17],b7 10 19 168 [E 18],b7 11 20 167 [E 13,E 16,E 19],b4 12 3 4 20,ba 13 5 0]) (.aI)
def Yc:J:= .B (.B (.F [A 0 6 1,jC 1 7 6 0]) (.aV (E 7) (.B (.F [a2 0 8 (.eY [.bool false,aG,aG] []),b4 1 3 4 8,ba 2 5 3]) (.aI)) (.skip))) Yd
def Ya:J:=
  .B (
  .F [
 a2 0 4 (.dz [.bool false,aG,aG]),
 ba 1 5 0]) Yc
def Km:bU:=⟨21,[.hZ 4 true 3,.bL 5],Ya⟩
theorem Yb:b3 al 107=some Km:=by kernel_rfl
def YY:J:= .B (.F [aL 0 3 2 1,aA 1 4 3,b7 2 5 194 [E 4],bO 3 6 5,kO 4 7 6 0,A 5 8 7,ea 6 9 8 2 1,ep 7 10 8 9,me 8 11 8 194 10,lA 9 12 8 11,nD 10 13 8 12 128,di 11 14 8 13,A 12 15 14,ea 13 16 15 1 1,ep 14 17 15 16,me 15 18 15 194 17,lA 16 19 15 18,nD 17 20 15 19 128,di 18 21 15 20,A 19 2 21]) (.aI)
def YW:J:=
  .B (
  .F [
 dT 0 1 0,
 cu 1 2 false]) YY
def Kr:bU:=⟨22,[.bL 2],YW⟩
theorem YX:b3 al 138=some Kr:=by kernel_rfl
def Y1:J:= .B (.F [b2 0 3 3 1,iv 1 4 (.dm 193 [.const aP]) [(E 1,E 1)],dr 2 5 195 3 4,A 3 2 5]) (.aI)
def YZ:J:=
  .B (
  .F [
 dT 0 1 0,
 ba 1 2 0]) Y1
def Ks:bU:=⟨6,[.bL 2],YZ⟩
theorem Y0:b3 al 139=some Ks:=by kernel_rfl
def Zb:J:= .B (.F [A 0 24 7,bO 1 25 24,kO 2 26 25 1,A 3 27 26,dG 4 28 27 7,cw 5 29 27 false (.qc 1 (E 28) (.const aP)),dZ 6 30 27 29,cw 7 31 27 false (.fg .gtr .gl (E 30) (.const (.int .u32 1))),cZ 8 32 27 31]) (.aV (E 32) (.B (.F [A 0 34 1,A 1 35 7,dr 2 36 214 34 35,A 3 33 36,cE 4 37 0 33,cE 5 38 1 33,cE 6 39 2 33,A 7 1 37]) (.F [A 0 41 2,A 1 42 7,dr 2 43 214 41 42,A 3 40 43,cE 4 44 0 40,cE 5 45 1 40,cE 6 46 2 40,A 7 2 44])) (.skip))
def Zc:J:= .B (.F [A 0 47 0,A 1 48 1,A 2 49 2,a2 3 50 (.eY [.bool false,aG,aG] [(0,1,E 47),(1,1,E 48),(2,1,E 49)]),b4 4 3 6 50]) (.aI)
def Za:J:= .B (.B (.F [A 0 19 1,A 1 20 2,dr 2 21 213 19 20,A 3 18 21,cE 4 22 0 18,cE 5 23 1 18,A 6 7 22,A 7 8 23]) Zb) Zc
def Y9:J:= .B (.B (.F [A 0 13 1,bO 1 14 13,jC 2 15 14 0]) (.aV (E 15) (.B (.F [a2 0 16 (.fR 1 1 [.int .u32 0] [(0,1,.const (.int .u32 1))]),a2 1 17 (.eY [.bool false,aG,aG] [(2,1,E 16)]),b4 2 3 6 17]) (.aI)) (.skip))) Za
def Y8:J:= .B (.F [A 0 9 1,b7 1 10 194 [E 9],A 2 11 2,b7 3 12 194 [E 11],A 4 1 10,A 5 2 12]) Y9
def Y6:J:=
  .B (
  .F [
 a2 0 6 (.dz [.bool false,aG,aG])]) Y8
def Kv:bU:=⟨51,[.hZ 6 true 3],Y6⟩
theorem Y7:b3 al 167=some Kv:=by kernel_rfl
def Zj:J:= .B (.F [A 0 10 0,jn 1 11 10,A 2 2 11]) (.aI)
def Zi:J:= .B (.B (.F [A 0 3 0,lz 1 4 3 0]) (.aV (E 4) (.B (.F [A 0 5 0,da 1 6 5,a2 2 7 (.qv .neg (E 6)),jn 3 8 7,c9 4 9 .add (E 8) (.const (.int .u64 1)),A 5 2 9]) (.aI)) (.skip))) Zj
def Zg:J:=
  .B (
  .F [
 uw 0 2 0]) Zi
def Kx:bU:=⟨12,[.bL 2],Zg⟩
theorem Zh:b3 al 169=some Kx:=by kernel_rfl
def amU:J:= .B (.B (.F [A 0 23 8,r0 1 24 23]) (.aV (E 24) (.B (.F [a2 0 25 (.eY [.bool false,aG,aG] []),A 1 26 8,b4 2 3 2 25,A 3 3 26]) (.aI)) (.skip))) (.F [b2 0 27 3 7,b4 1 3 4 27])
def amT:J:= .B (.F [b2 0 18 3 4,b2 1 19 3 6,dr 2 20 218 18 19,A 3 17 20,cE 4 21 0 17,cE 5 22 1 17,a2 6 7 (.dz [.bool false,aG,aG]),b4 7 3 7 21,A 8 8 22]) amU
def amS:J:= .B (.block 1 (.B (.F [bH 0 15 3 11 13,b2 1 16 3 15,a2 2 6 (.dz [.bool false,aG,aG]),b4 3 3 6 16]) amT)) (.F [da 0 28 13,A 1 13 28])
def amR:J:= .B (.aV (E 14) (.skip) (.bh 0)) amS
def amW:J:= .B (.F [dq 0 14 13 12]) amR
def amV:J:= .B (.F [b2 0 29 3 4,b4 1 3 2 29,ba 2 3 0]) (.aI)
def amQ:J:= .B (.B (.F [A 0 11 0,bO 1 12 11,ba 2 13 0]) (.block 0 (.loop amW))) amV
def amP:J:= .B (.F [b7 0 9 217 [.const (.int .u64 1)],a2 1 10 (.eY [.bool false,aG,aG] [(2,1,E 9)]),a2 2 4 (.dz [.bool false,aG,aG]),b4 3 3 4 10]) amQ
def amN:J:=
  .B (
  .F [
 a2 0 2 (.dz [.bool false,aG,aG]),
 ba 1 3 0]) amP
def Zu:bU:=⟨30,[.hZ 2 true 3,.bL 3],amN⟩
theorem amO:b3 al 173=some Zu:=by kernel_rfl
def am0:J:= .B (.F [A 0 9 0,lz 1 10 9 0,A 2 11 1,lz 3 12 11 0,a2 4 13 (.fg .neq .bool (E 10) (E 12)),A 5 14 0,b7 6 15 220 [E 14],A 7 16 1,b7 8 17 220 [E 16],b7 9 18 219 [E 13,E 15,E 17],cE 10 19 0 18,cE 11 20 1 18,b4 12 3 4 19,A 13 5 20]) (.aI)
def amZ:J:= .B (.B (.F [A 0 6 1,jC 1 7 6 0]) (.aV (E 7) (.B (.F [a2 0 8 (.eY [.bool false,aG,aG] []),b4 1 3 4 8,ba 2 5 3]) (.aI)) (.skip))) am0
def amX:J:=
  .B (
  .F [
 a2 0 4 (.dz [.bool false,aG,aG]),
 ba 1 5 0]) amZ
def Zv:bU:=⟨21,[.hZ 4 true 3,.bL 5],amX⟩
theorem amY:b3 al 174=some Zv:=by kernel_rfl
def am7:J:= .B (.F [A 0 53 6,A 1 4 53,ba 2 5 0]) (.aI)
def am6:J:= .B (.block 0 (.B (.F [A 0 43 7,A 1 44 43,e0 2 45 44 8,di 3 46 44 45,A 4 42 46]) (.aV (E 42) (.B (.F [A 0 47 6,a2 1 48 (.qv .neg (E 47)),A 2 4 48,ba 3 5 0]) (.aI)) (.B (.F [A 0 50 7,A 1 49 50]) (.aV (E 49) (.B (.F [ba 0 4 (-1),ba 1 5 0]) (.aI)) (.B (.F [A 0 52 8,A 1 51 52]) (.aV (E 51) (.B (.F [ba 0 4 1,ba 1 5 0]) (.aI)) (.skip)))))))) am7
def am5:J:= .B (.F [aL 0 28 0 2,aA 1 29 28,A 2 30 29,iE 3 31 30 3 2,aL 7 35 0 3,aA 8 36 35,⟨4,some 32,some (30,true),.dm 224 [E 31],[(E 35,E 35)]⟩,rZ 5 33 30 32,di 6 34 30 33,A 9 37 36,iE 10 38 37 3 3,me 11 39 37 224 38,rZ 12 40 37 39,di 13 41 37 40,A 14 7 34,A 15 8 41]) am6
def am4:J:= .B (.F [aL 0 17 1 2,aA 1 18 17,aL 2 19 2 3,aA 3 20 19,aL 5 22 1 3,aA 6 23 22,aL 7 24 2 2,aA 8 25 24,vY 4 21 223 18 20 24 24 22 22,dr 9 26 223 23 25,dr 10 27 222 21 26,A 11 6 27]) am5
def am3:J:= .B (.B (.F [b2 0 9 3 2,b7 1 10 221 [E 9],ht 2 11 10,A 3 12 11,mH 4 13 12 3 3,jD 5 14 12 221 13,iF 6 15 12 14,cZ 7 16 12 15]) (.aV (E 16) (.B (.F [ba 0 4 0,ba 1 5 1]) (.aI)) (.skip))) am4
def am1:J:=
  .B (
  .F [
 dT 0 2 0,
 dT 1 3 1,
 ba 2 4 0,
 ba 3 5 0]) am3
def Zw:bU:=⟨54,[.bL 4,.bL 5],am1⟩
theorem am2:b3 al 175=some Zw:=by kernel_rfl
def aof:J:= .B (.B (.F [A 0 24 7,r0 1 25 24]) (.aV (E 25) (.B (.F [a2 0 26 (.eY [.bool false,aG,aG] []),A 1 27 7,b4 2 3 2 26,A 3 3 27]) (.aI)) (.skip))) (.F [b2 0 28 3 6,b4 1 3 4 28])
def aoe:J:= .B (.block 1 (.B (.F [b2 0 16 3 4,A 1 17 0,A 2 18 5,bH 3 19 3 17 18,b2 4 20 3 19,dr 5 21 239 16 20,A 6 15 21,cE 7 22 0 15,cE 8 23 1 15,a2 9 6 (.dz [.bool false,aG,aG]),b4 10 3 6 22,A 11 7 23]) aof)) (.F [A 0 13 5,da 1 14 13,A 2 5 14])
def aoh:J:= .B (.B (.F [A 0 9 5,A 1 10 0,bO 2 11 10,dq 3 12 9 11]) (.aV (E 12) (.skip) (.bh 0))) aoe
def aog:J:= .B (.F [b2 0 29 3 4,b4 1 3 2 29,ba 2 3 0]) (.aI)
def aod:J:= .B (.B (.F [ba 0 5 0]) (.block 0 (.loop aoh))) aog
def aoc:J:= .B (.F [b7 0 8 193 [.const aP],a2 1 4 (.dz [.bool false,aG,aG]),b4 2 3 4 8]) aod
def aoa:J:=
  .B (
  .F [
 a2 0 2 (.dz [.bool false,aG,aG]),
 ba 1 3 0]) aoc
def ZS:bU:=⟨30,[.hZ 2 true 3,.bL 3],aoa⟩
theorem aob:b3 al 191=some ZS:=by kernel_rfl
def aok:J:= .B (.F [b2 0 5 3 2,b2 1 6 3 3,dr 2 7 195 5 6,jC 3 8 7 0,A 4 4 8]) (.aI)
def aoi:J:=
  .B (
  .F [
 dT 0 2 0,
 dT 1 3 1,
 cu 2 4 false]) aok
def ZT:bU:=⟨9,[.bL 4],aoi⟩
theorem aoj:b3 al 192=some ZT:=by kernel_rfl
def aoo:J:= .B (.F [b2 0 10 3 3,b4 1 3 2 10]) (.aI)
def aon:J:= .B (.F [A 0 6 0,kP 1 7 107 6 1,A 2 5 7,cE 3 8 0 5,cE 4 9 1 5,a2 5 3 (.dz [.bool false,aG,aG]),b4 6 3 3 8,A 7 4 9]) aoo
def aol:J:=
  .B (
  .F [
 a2 0 2 (.dz [.bool false,aG,aG])]) aon
def ZU:bU:=⟨11,[.hZ 2 true 3],aol⟩
theorem aom:b3 al 193=some ZU:=by kernel_rfl
def Z0:J:= .B (.F [A 0 50 5,A 1 51 6,dr 2 52 241 50 51,A 3 4 52]) (.aI)
def ZZ:J:= .B (.block 0 (.B (.F [A 0 34 7,A 1 35 34,e0 2 36 35 8,rZ 3 37 35 36,di 4 38 35 37,A 5 33 38]) (.aV (E 33) (.B (.F [ba 0 4 (-1)]) (.aI)) (.B (.F [A 0 40 8,A 1 41 40,e0 2 42 41 7,rZ 3 43 41 42,di 4 44 41 43,A 5 39 44]) (.aV (E 39) (.B (.F [ba 0 4 1]) (.aI)) (.B (.F [A 0 46 7,A 1 45 46]) (.aV (E 45) (.B (.F [A 0 47 6,A 1 48 5,dr 2 49 241 47 48,A 3 4 49]) (.aI)) (.skip)))))))) Z0
def ZY:J:= .B (.F [aL 0 19 0 2,aA 1 20 19,A 2 21 20,e0 3 22 21 5,lA 4 23 21 22,Hk 5 24 21 23,di 6 25 21 24,aL 7 26 0 3,aA 8 27 26,A 9 28 27,e0 10 29 28 6,lA 11 30 28 29,Hk 12 31 28 30,di 13 32 28 31,A 14 7 25,A 15 8 32]) ZZ
def ZX:J:= .B (.F [aL 0 9 1 2,aA 1 10 9,aL 2 11 2 3,aA 3 12 11,aL 5 14 1 3,aA 6 15 14,aL 7 16 2 2,aA 8 17 16,vY 4 13 240 10 12 16 16 14 14,dr 9 18 240 15 17,A 10 5 13,A 11 6 18]) ZY
def ZV:J:=
  .B (
  .F [
 dT 0 2 0,
 dT 1 3 1,
 ba 2 4 0]) ZX
def KM:bU:=⟨53,[.bL 4],ZV⟩
theorem ZW:b3 al 195=some KM:=by kernel_rfl
def Z4:J:= .B (.F [aL 0 8 0 1,aA 1 9 8,aL 2 10 1 1,aA 3 11 10,aL 4 12 2 1,aA 5 13 12,b7 6 14 167 [E 9,E 11,E 13],b4 7 3 2 14,ba 8 3 0]) (.aI)
def Z3:J:= .B (.B (.F [b2 0 4 3 1,b7 1 5 138 [E 4],ht 2 6 5]) (.aV (E 6) (.B (.F [a2 0 7 (.eY [.bool false,aG,aG] []),b4 1 3 2 7,ba 2 3 1]) (.aI)) (.skip))) Z4
def Z1:J:=
  .B (
  .F [
 dT 0 1 0,
 a2 1 2 (.dz [.bool false,aG,aG]),
 ba 2 3 0]) Z3
def KN:bU:=⟨15,[.hZ 2 true 3,.bL 3],Z1⟩
theorem Z2:b3 al 196=some KN:=by kernel_rfl
def aot:J:= .B (.F [b2 0 5 3 2,b2 1 6 3 3,dr 2 7 195 5 6,lz 3 8 7 0,A 4 4 8]) (.aI)
def aor:J:=
  .B (
  .F [
 dT 0 2 0,
 dT 1 3 1,
 cu 2 4 false]) aot
def Z5:bU:=⟨9,[.bL 4],aor⟩
theorem aos:b3 al 199=some Z5:=by kernel_rfl
def aaf:J:= .B (.F [aL 0 8 0 1,aA 1 9 8,aL 2 10 1 1,aA 3 11 10,aL 4 12 2 1,aA 5 13 12,b7 6 14 219 [E 9,E 11,E 13],cE 7 15 0 14,cE 8 16 1 14,b4 9 3 2 15,A 10 3 16]) (.aI)
def aae:J:= .B (.B (.F [b2 0 4 3 1,b7 1 5 221 [E 4],ht 2 6 5]) (.aV (E 6) (.B (.F [a2 0 7 (.eY [.bool false,aG,aG] []),b4 1 3 2 7,ba 2 3 1]) (.aI)) (.skip))) aaf
def aac:J:=
  .B (
  .F [
 dT 0 1 0,
 a2 1 2 (.dz [.bool false,aG,aG]),
 ba 2 3 0]) aae
def KY:bU:=⟨17,[.hZ 2 true 3,.bL 3],aac⟩
theorem aad:b3 al 215=some KY:=by kernel_rfl
def aoE:J:= .B (.F [aL 0 50 0 2,aA 1 51 50,A 2 52 9,A 3 53 8,b7 4 54 219 [E 51,E 52,E 53],cE 5 55 0 54,cE 6 56 1 54,b4 7 3 4 55,A 8 5 56]) (.aI)
def aoG:J:= .B (.F [aL 0 67 0 2,aA 1 68 67,A 2 69 11,A 3 70 8,b7 4 71 219 [E 68,E 69,E 70],cE 5 72 0 71,cE 6 73 1 71,b4 7 3 4 72,A 8 5 73]) (.aI)
def aoI:J:= .B (.F [aL 0 80 0 3,aA 1 81 80,A 2 82 13,A 3 83 8,b7 4 84 219 [E 81,E 82,E 83],cE 5 85 0 84,cE 6 86 1 84,b4 7 3 4 85,A 8 5 86]) (.aI)
def aoH:J:= .B (.F [A 0 75 7,A 1 76 6,dr 2 77 250 75 76,A 3 74 77,cE 4 78 0 74,cE 5 79 1 74,A 6 13 78,A 7 14 79]) aoI
def aoF:J:= .B (.B (.F [A 0 57 6,A 1 58 7,dr 2 59 222 57 58,oG 3 60 59 0]) (.aV (E 60) (.B (.F [A 0 62 6,A 1 63 7,dr 2 64 250 62 63,A 3 61 64,cE 4 65 0 61,cE 5 66 1 61,A 6 11 65,A 7 12 66]) aoG) (.skip))) aoH
def aoD:J:= .B (.B (.F [aL 0 39 0 2,aA 1 40 39,aL 2 41 0 3,aA 3 42 41,a2 4 43 (.fg .eql .bool (E 40) (E 42))]) (.aV (E 43) (.B (.F [A 0 45 6,A 1 46 7,dr 2 47 249 45 46,A 3 44 47,cE 4 48 0 44,cE 5 49 1 44,A 6 9 48,A 7 10 49]) aoE) (.skip))) aoF
def aoC:J:= .B (.F [aL 0 24 1 2,aA 1 25 24,aL 2 26 2 3,aA 3 27 26,aL 5 29 1 3,aA 6 30 29,aL 7 31 2 2,aA 8 32 31,aL 10 34 2 2,aA 11 35 34,aL 12 36 2 3,aA 13 37 36,iv 4 28 (.dm 223 [E 25,E 27]) [(E 36,E 36),(E 34,E 34),(E 31,E 31),(E 29,E 29)],vY 9 33 223 30 32 36 36 34 34,dr 14 38 223 35 37,A 15 6 28,A 16 7 33,A 17 8 38]) aoD
def aoB:J:= .B (.B (.F [b2 0 15 3 2,b7 1 16 221 [E 15],ht 2 17 16,A 3 18 17,mH 4 19 18 3 3,jD 5 20 18 221 19,iF 6 21 18 20,cZ 7 22 18 21]) (.aV (E 22) (.B (.F [a2 0 23 (.eY [.bool false,aG,aG] []),b4 1 3 4 23,ba 2 5 1]) (.aI)) (.skip))) aoC
def aoz:J:=
  .B (
  .F [
 dT 0 2 0,
 dT 1 3 1,
 a2 2 4 (.dz [.bool false,aG,aG]),
 ba 3 5 0]) aoB
def aao:bU:=⟨87,[.hZ 4 true 3,.bL 5],aoz⟩
theorem aoA:b3 al 218=some aao:=by kernel_rfl
def aas:J:= .B (.F [A 0 16 8,b7 1 17 216 [E 16],kO 2 18 17 1]) (.aV (E 18) (.B (.F [A 0 20 1,A 1 21 8,dr 2 22 252 20 21,A 3 19 22,cE 4 23 0 19,cE 5 24 1 19,cE 6 25 2 19,A 7 1 23]) (.F [A 0 27 2,A 1 28 8,dr 2 29 252 27 28,A 3 26 29,cE 4 30 0 26,cE 5 31 1 26,cE 6 32 2 26,A 7 2 30])) (.skip))
def aau:J:= .B (.F [A 0 42 0,A 1 43 42,e0 2 44 43 1,me 3 45 43 216 44,Hk 4 46 43 45,di 5 47 43 46,A 6 48 1,b7 7 49 253 [E 48],A 8 50 2,b7 9 51 253 [E 50],a2 10 52 (.eY [.bool false,aG,aG] [(0,1,E 47),(1,1,E 49),(2,1,E 51)]),b4 11 3 6 52,ba 12 7 0]) (.aI)
def aat:J:= .B (.B (.F [A 0 33 1,b7 1 34 216 [E 33],kO 2 35 34 4096,A 3 36 35,dG 4 37 36 2,jD 5 38 36 216 37,lB 6 39 36 38 4096,cZ 7 40 36 39]) (.aV (E 40) (.B (.F [a2 0 41 (.eY [.bool false,aG,aG] []),b4 1 3 6 41,ba 2 7 2]) (.aI)) (.skip))) aau
def aar:J:= .B (.B (.F [A 0 11 1,A 1 12 2,dr 2 13 251 11 12,A 3 10 13,cE 4 14 0 10,cE 5 15 1 10,A 6 8 14,A 7 9 15]) aas) aat
def aap:J:=
  .B (
  .F [
 a2 0 6 (.dz [.bool false,aG,aG]),
 ba 1 7 0]) aar
def K1:bU:=⟨53,[.hZ 6 true 3,.bL 7],aap⟩
theorem aaq:b3 al 219=some K1:=by kernel_rfl
def aoM:J:= .B (.F [A 0 9 0,jn 1 10 9,b7 2 11 217 [E 10],A 3 2 11]) (.aI)
def aoL:J:= .B (.B (.F [A 0 3 0,lz 1 4 3 0]) (.aV (E 4) (.B (.F [A 0 5 0,jn 1 6 5,a2 2 7 (.qv .neg (E 6)),b7 3 8 217 [E 7],A 4 2 8]) (.aI)) (.skip))) aoM
def aoJ:J:=
  .B (
  .F [
 eN 0 2]) aoL
def aav:bU:=⟨12,[.bL 2],aoJ⟩
theorem aoK:b3 al 220=some aav:=by kernel_rfl
def aaz:J:= .B (.F [A 0 7 3,kO 1 8 7 0,A 2 9 8,e0 3 10 9 3,nD 4 11 9 10 4096,di 5 12 9 11,A 6 13 12,ea 7 14 13 1 1,ep 8 15 13 14,me 9 16 13 216 15,nD 10 17 13 16 4096,di 11 18 13 17,A 12 2 18]) (.aI)
def aay:J:= .B (.F [aL 0 4 2 1,aA 1 5 4,b7 2 6 216 [E 5],A 3 3 6]) aaz
def aaw:J:=
  .B (
  .F [
 dT 0 1 0,
 cu 1 2 false]) aay
def K2:bU:=⟨19,[.bL 2],aaw⟩
theorem aax:b3 al 221=some K2:=by kernel_rfl
def aoQ:J:= .B (.F [A 0 13 5,A 1 4 13]) (.aI)
def aoP:J:= .B (.F [A 0 8 0,A 1 9 1,dr 2 10 254 8 9,A 3 7 10,cE 4 11 0 7,cE 5 12 1 7,A 6 5 11,A 7 6 12]) aoQ
def aoN:J:=
  .B (
  .F [
 eN 0 4]) aoP
def aaF:bU:=⟨14,[.bL 4],aoN⟩
theorem aoO:b3 al 223=some aaF:=by kernel_rfl
def apr:J:= .B (.F [aL 0 50 0 2,aA 1 51 50,A 2 52 9,A 3 53 8,b7 4 54 167 [E 51,E 52,E 53],b7 5 55 258 [E 54],cE 6 56 0 55,cE 7 57 1 55,b4 8 3 4 56,A 9 5 57]) (.aI)
def apt:J:= .B (.F [aL 0 68 0 2,aA 1 69 68,A 2 70 11,A 3 71 8,b7 4 72 167 [E 69,E 70,E 71],b7 5 73 258 [E 72],cE 6 74 0 73,cE 7 75 1 73,b4 8 3 4 74,A 9 5 75]) (.aI)
def apv:J:= .B (.F [aL 0 82 0 3,aA 1 83 82,A 2 84 13,A 3 85 8,b7 4 86 167 [E 83,E 84,E 85],b7 5 87 258 [E 86],cE 6 88 0 87,cE 7 89 1 87,b4 8 3 4 88,A 9 5 89]) (.aI)
def apu:J:= .B (.F [A 0 77 7,A 1 78 6,dr 2 79 259 77 78,A 3 76 79,cE 4 80 0 76,cE 5 81 1 76,A 6 13 80,A 7 14 81]) apv
def aps:J:= .B (.B (.F [A 0 58 6,A 1 59 7,dr 2 60 241 58 59,oG 3 61 60 0]) (.aV (E 61) (.B (.F [A 0 63 6,A 1 64 7,dr 2 65 259 63 64,A 3 62 65,cE 4 66 0 62,cE 5 67 1 62,A 6 11 66,A 7 12 67]) apt) (.skip))) apu
def apq:J:= .B (.B (.F [aL 0 39 0 2,aA 1 40 39,aL 2 41 0 3,aA 3 42 41,a2 4 43 (.fg .eql .bool (E 40) (E 42))]) (.aV (E 43) (.B (.F [A 0 45 6,A 1 46 7,dr 2 47 257 45 46,A 3 44 47,cE 4 48 0 44,cE 5 49 1 44,A 6 9 48,A 7 10 49]) apr) (.skip))) aps
def apo:J:= .B (.F [aL 0 24 1 2,aA 1 25 24,aL 2 26 2 3,aA 3 27 26,aL 5 29 1 3,aA 6 30 29,aL 7 31 2 2,aA 8 32 31,aL 10 34 2 2,aA 11 35 34,aL 12 36 2 3,aA 13 37 36,iv 4 28 (.dm 240 [E 25,E 27]) [(E 36,E 36),(E 34,E 34),(E 31,E 31),(E 29,E 29)],vY 9 33 240 30 32 36 36 34 34,dr 14 38 240 35 37,A 15 6 28,A 16 7 33,A 17 8 38]) apq
def apn:J:= .B (.B (.F [b2 0 15 3 2,b7 1 16 138 [E 15],ht 2 17 16,A 3 18 17,mH 4 19 18 3 3,jD 5 20 18 138 19,iF 6 21 18 20,cZ 7 22 18 21]) (.aV (E 22) (.B (.F [a2 0 23 (.eY [.bool false,aG,aG] []),b4 1 3 4 23,ba 2 5 1]) (.aI)) (.skip))) apo
def apl:J:=
  .B (
  .F [
 dT 0 2 0,
 dT 1 3 1,
 a2 2 4 (.dz [.bool false,aG,aG]),
 ba 3 5 0]) apn
def aa1:bU:=⟨90,[.hZ 4 true 3,.bL 5],apl⟩
theorem apm:b3 al 239=some aa1:=by kernel_rfl
def aa5:J:= .B (.F [A 0 13 5,A 1 4 13]) (.aI)
def aa4:J:= .B (.F [A 0 8 0,A 1 9 1,dr 2 10 260 8 9,A 3 7 10,cE 4 11 0 7,cE 5 12 1 7,A 6 5 11,A 7 6 12]) aa5
def aa2:J:=
  .B (
  .F [
 eN 0 4]) aa4
def Lc:bU:=⟨14,[.bL 4],aa2⟩
theorem aa3:b3 al 240=some Lc:=by kernel_rfl
def aqz:J:= .B (.F [b2 0 7 3 1,b4 1 3 2 7,ba 2 3 0]) (.aI)
def aqy:J:= .B (.B (.F [b2 0 4 3 1,b7 1 5 275 [E 4]]) (.aV (E 5) (.B (.F [a2 0 6 (.eY [.bool false,aG,aG] []),b4 1 3 2 6,ba 2 3 2]) (.aI)) (.skip))) aqz
def aqw:J:=
  .B (
  .F [
 dT 0 1 0,
 a2 1 2 (.dz [.bool false,aG,aG]),
 ba 2 3 0]) aqy
def abD:bU:=⟨8,[.hZ 2 true 3,.bL 3],aqw⟩
theorem aqx:b3 al 258=some abD:=by kernel_rfl
def arx:J:= .B (.F [aL 0 3 1 1,aA 1 4 3,bO 2 5 4,kO 3 6 5 128,A 4 7 6,ew 5 8 7 2 1,dZ 6 9 7 8,iM 7 10 7 9,lB 8 11 7 10 128,cZ 9 12 7 11,A 10 2 12]) (.aI)
def arv:J:=
  .B (
  .F [
 dT 0 1 0,
 cu 1 2 false]) arx
def abX:bU:=⟨13,[.bL 2],arv⟩
theorem arw:b3 al 275=some abX:=by kernel_rfl
def R8:J:= .B (.F [ba 0 2 0]) (.aI)
def R7:J:= .B (.B (.F [b2 0 3 7 1,b7 1 4 87 [E 3],ht 2 5 4]) (.aV (E 5) (.B (.F [ba 0 2 1]) (.aI)) (.skip))) R8
def R6:J:=
  .B (
  .F [
 dT 0 1 0,
 ba 1 2 0]) R7
def LO:bU:=⟨6,[.bL 2],R6⟩
theorem ash:b3 al 66=some LO:=by kernel_rfl
def C2:J:= .B (.block 1 (.B (.F [A 0 65 3,aL 1 66 1 1,aA 2 67 66,A 3 68 9,bH 4 69 4 67 68,aL 5 70 0 69,aA 6 71 70,dr 7 72 136 65 71,A 8 64 72,cE 9 73 0 64,cE 10 74 1 64,A 11 3 73,A 12 8 74]) (.F [A 0 75 8,A 1 76 75,ea 2 77 76 1 1,ep 3 78 76 77,e0 4 79 76 9,pz 5 80 76 4 78 79,iE 6 81 76 4 80,me 7 82 76 137 81,di 8 83 76 82,A 9 8 83]))) (.F [A 0 62 9,da 1 63 62,A 2 9 63])
def zZ:J:= .B (.B (.F [A 0 54 9,aL 1 55 1 1,aA 2 56 55,bO 3 57 56,dq 4 58 54 57,A 5 59 58,e0 6 60 59 8,di 7 61 59 60]) (.aV (E 61) (.skip) (.bh 0))) C2
def xV:J:= .B (.F [A 0 100 4,aL 1 101 0 11,aA 2 102 101,dr 3 103 136 100 102,A 4 99 103,cE 5 104 0 99,cE 6 105 1 99,A 7 4 104,A 8 8 105]) (.F [A 0 106 8,A 1 107 106,ea 2 108 107 1 11,ep 3 109 107 108,z9 4 110 107 134 109 16,di 5 111 107 110,A 6 112 111,ea 7 113 112 2 11,ep 8 114 112 113,z9 9 115 112 134 114 64,di 10 116 112 115,A 11 117 116,ea 12 118 117 3 11,ep 13 119 117 118,ea 14 120 117 1 1,ep 15 121 117 120,lA 16 122 117 121,q3 17 123 117 122,ux 18 124 117 134 119 123,di 19 125 117 124,A 20 8 125])
def xU:J:= .B (.block 3 (.B (.F [aL 0 94 2 1,aA 1 95 94,A 2 96 10,bH 3 97 4 95 96,b2 4 98 4 97,a2 5 11 (.dz [.string ⟨#[]⟩,aP,aP,aP]),b4 6 4 11 98]) xV)) (.F [A 0 92 10,da 1 93 92,A 2 10 93])
def vT:J:= .B (.B (.F [A 0 84 10,aL 1 85 2 1,aA 2 86 85,bO 3 87 86,dq 4 88 84 87,A 5 89 88,e0 6 90 89 8,di 7 91 89 90]) (.aV (E 91) (.skip) (.bh 2))) xU
def uu:J:= .B (.F [A 0 178 5,aL 1 179 0 14,aA 2 180 179,dr 3 181 136 178 180,A 4 177 181,cE 5 182 0 177,cE 6 183 1 177,A 7 5 182,A 8 8 183]) (.F [A 0 184 8,A 1 185 184,ea 2 186 185 1 14,ep 3 187 185 186,z9 4 188 185 134 187 4,di 5 189 185 188,A 6 190 189,ea 7 191 190 2 14,ep 8 192 190 191,e0 9 193 190 13,q3 10 194 190 193,ux 11 195 190 134 192 194,di 12 196 190 195,A 13 197 196,ea 14 198 197 3 1,ep 15 199 197 198,ea 16 200 197 2 14,ep 17 201 197 200,pz 18 202 197 7 199 201,ea 19 203 197 1 202,ep 20 204 197 203,ea 21 205 197 1 14,ep 22 206 197 205,q3 23 207 197 206,cw 24 208 197 true (.fg .eql .gl (E 204) (E 207)),di 25 209 197 208,A 26 210 209,ea 27 211 210 3 14,ep 28 212 210 211,z9 29 213 210 134 212 64,di 30 214 210 213,A 31 215 214,ea 32 216 215 4 14,iE 33 217 215 3 216,me 34 218 215 140 217,di 35 219 215 218,A 36 8 219])
def ur:J:= .B (.block 5 (.B (.F [aL 0 172 3 1,aA 1 173 172,A 2 174 13,bH 3 175 7 173 174,b2 4 176 7 175,a2 5 14 (.dz [.string ⟨#[]⟩,aP,aP,aP,.bool false,aG,aG]),b4 6 7 14 176]) uu)) (.F [A 0 170 13,da 1 171 170,A 2 13 171])
def s3:J:= .B (.B (.F [A 0 162 13,aL 1 163 3 1,aA 2 164 163,bO 3 165 164,dq 4 166 162 165,A 5 167 166,e0 6 168 167 8,di 7 169 167 168]) (.aV (E 169) (.skip) (.bh 4))) ur
def xP:J:= .B (.F [A 0 236 5,aL 1 237 0 16,aA 2 238 237,dr 3 239 136 236 238,A 4 235 239,cE 5 240 0 235,cE 6 241 1 235,A 7 5 240,A 8 8 241]) (.F [A 0 242 8,A 1 243 242,ea 2 244 243 1 16,ep 3 245 243 244,ea 4 246 243 2 1,ep 5 247 243 246,lA 6 248 243 247,q3 7 249 243 248,ux 8 250 243 134 245 249,di 9 251 243 250,A 10 252 251,ea 11 253 252 2 16,ep 12 254 252 253,ea 13 255 252 3 1,ep 14 256 252 255,lA 15 257 252 256,q3 16 258 252 257,ux 17 259 252 134 254 258,di 18 260 252 259,A 19 261 260,ea 20 262 261 3 1,ep 21 263 261 262,ea 22 264 261 2 16,ep 23 265 261 264,pz 24 266 261 7 263 265,ea 25 267 261 1 266,ep 26 268 261 267,s5 27 269 261 268 4,di 28 270 261 269,A 29 8 270])
def xO:J:= .B (.block 7 (.B (.F [aL 0 230 4 1,aA 1 231 230,A 2 232 15,bH 3 233 3 231 232,b2 4 234 3 233,a2 5 16 (.dz [.string ⟨#[]⟩,aP,aP]),b4 6 3 16 234]) xP)) (.F [A 0 228 15,da 1 229 228,A 2 15 229])
def vU:J:= .B (.B (.F [A 0 220 15,aL 1 221 4 1,aA 2 222 221,bO 3 223 222,dq 4 224 220 223,A 5 225 224,e0 6 226 225 8,di 7 227 225 226]) (.aV (E 227) (.skip) (.bh 6))) xO
def Hg:J:= .B (.block 13 (.F [A 0 347 8,A 1 348 347,ea 2 349 348 9 18,ep 3 350 348 349,e0 4 351 348 20,pz 5 352 348 1 350 351,ep 6 353 348 352,ea 7 354 348 9 18,ep 8 355 348 354,e0 9 356 348 19,pz 10 357 348 1 355 356,ep 11 358 348 357,cw 12 359 348 true (.fg .neq .gl (E 353) (E 358)),di 13 360 348 359,A 14 8 360])) (.F [A 0 345 20,da 1 346 345,A 2 20 346])
def C3:J:= .B (.B (.F [A 0 342 20,A 1 343 19,dq 2 344 342 343]) (.aV (E 344) (.skip) (.bh 12))) Hg
def L4:J:= .B (.F [ba 0 20 0]) (.block 12 (.loop C3))
def L3:J:= .B (.block 11 (.B (.F [aL 0 332 9 18,aA 1 333 332,A 2 334 19,bH 3 335 1 333 334,aA 4 336 335,aL 5 337 2 1,aA 6 338 337,bO 7 339 338,h6 8 340 339 1,b7 9 341 134 [E 336,.const aP,E 340],A 10 8 341]) L4)) (.F [A 0 330 19,da 1 331 330,A 2 19 331])
def C4:J:= .B (.B (.F [A 0 322 19,aL 1 323 9 18,aA 2 324 323,bO 3 325 324,dq 4 326 322 325,A 5 327 326,e0 6 328 327 8,di 7 329 327 328]) (.aV (E 329) (.skip) (.bh 10))) L3
def xT:J:= .B (.F [ba 0 19 0]) (.block 10 (.loop C4))
def xS:J:= .B (.F [A 0 293 8,A 1 294 293,ea 2 295 294 1 18,ep 3 296 294 295,ea 4 297 294 2 18,ep 5 298 294 297,ea 6 299 294 3 18,ep 7 300 294 299,ea 8 301 294 4 18,iE 9 302 294 5 301,cw 10 303 294 true (.dm 141 [E 296,E 298,E 300,E 302]),di 11 304 294 303,A 12 305 304,ea 13 306 305 2 18,ep 14 307 305 306,ea 15 308 305 10 18,ep 16 309 305 308,ea 17 310 305 11 18,iE 18 311 305 3 310,ea 19 312 305 14 18,iE 20 313 305 3 312,cw 21 314 305 true (.dm 142 [E 307,E 309,E 311,E 313]),di 22 315 305 314,A 23 316 315,ea 24 317 316 9 18,ep 25 318 316 317,lA 26 319 316 318,Hk 27 320 316 319,di 28 321 316 320,A 29 8 321]) xT
def xR:J:= .B (.F [A 0 287 6,aL 1 288 0 18,aA 2 289 288,dr 3 290 136 287 289,A 4 286 290,cE 5 291 0 286,cE 6 292 1 286,A 7 6 291,A 8 8 292]) xS
def xQ:J:= .B (.block 9 (.B (.F [aL 0 281 5 1,aA 1 282 281,A 2 283 17,bH 3 284 17 282 283,b2 4 285 17 284,a2 5 18 (.dz [.string ⟨#[]⟩,aP,aP,aP,aP,aP,aP,aP,aP,aG,aG,.bool false,aG,aG,.bool false,aG,aG]),b4 6 17 18 285]) xR)) (.F [A 0 279 17,da 1 280 279,A 2 17 280])
def vV:J:= .B (.B (.F [A 0 271 17,aL 1 272 5 1,aA 2 273 272,bO 3 274 273,dq 4 275 271 274,A 5 276 275,e0 6 277 276 8,di 7 278 276 277]) (.aV (E 278) (.skip) (.bh 8))) xQ
def C1:J:= .B (.block 15 (.B (.F [A 0 372 7,aL 1 373 6 1,aA 2 374 373,A 3 375 21,bH 4 376 2 374 375,aL 5 377 0 376,aA 6 378 377,dr 7 379 136 372 378,A 8 371 379,cE 9 380 0 371,cE 10 381 1 371,A 11 7 380,A 12 8 381]) (.F [A 0 382 8,A 1 383 382,ea 2 384 383 6 1,ep 3 385 383 384,e0 4 386 383 21,pz 5 387 383 2 385 386,ea 6 388 383 1 387,ep 7 389 383 388,ea 8 390 383 5 1,ep 9 391 383 390,lA 10 392 383 391,q3 11 393 383 392,ux 12 394 383 134 389 393,di 13 395 383 394,A 14 8 395]))) (.F [A 0 369 21,da 1 370 369,A 2 21 370])
def z0:J:= .B (.B (.F [A 0 361 21,aL 1 362 6 1,aA 2 363 362,bO 3 364 363,dq 4 365 361 364,A 5 366 365,e0 6 367 366 8,di 7 368 366 367]) (.aV (E 368) (.skip) (.bh 14))) C1
def L6:J:= .B (.F [A 0 396 8,A 1 2 396]) (.aI)
def L5:J:= .B (.B (.F [ba 0 21 0]) (.block 14 (.loop z0))) L6
def L1:J:= .B (.B (.F [ba 0 17 0]) (.block 8 (.loop vV))) L5
def L0:J:= .B (.B (.F [ba 0 15 0]) (.block 6 (.loop vU))) L1
def C0:J:= .B (.B (.F [ba 0 13 1]) (.block 4 (.loop s3))) L0
def na:J:= .B (.F [A 0 130 8,A 1 131 130,ea 2 132 131 0 12,ep 3 133 131 132,cw 4 134 131 true (.fg .eql .gl (E 133) (.const (.string ⟨#[]⟩))),di 5 135 131 134,A 6 136 135,ea 7 137 136 1 12,ep 8 138 136 137,s5 9 139 136 138 0,di 10 140 136 139,A 11 141 140,ea 12 142 141 2 12,ep 13 143 141 142,cw 14 144 141 true (.fg .eql .gl (E 143) (.const (.int .i64 (-1)))),di 15 145 141 144,A 16 146 145,ea 17 147 146 3 12,ep 18 148 146 147,s5 19 149 146 148 0,di 20 150 146 149,A 21 151 150,ea 22 152 151 4 12,iE 23 153 151 3 152,me 24 154 151 138 153,di 25 155 151 154,A 26 156 155,ea 27 157 156 4 12,iE 28 158 156 3 157,me 29 159 156 139 158,s5 30 160 156 159 0,di 31 161 156 160,A 32 8 161]) C0
def mG:J:= .B (.F [aL 0 126 3 1,aA 1 127 126,x0 2 128 7 127,b2 3 129 7 128,a2 4 12 (.dz [.string ⟨#[]⟩,aP,aP,aP,.bool false,aG,aG]),b4 5 7 12 129]) na
def L9:J:= .B (.B (.F [ba 0 10 0]) (.block 2 (.loop vT))) mG
def L8:J:= .B (.B (.F [ba 0 9 0]) (.block 0 (.loop zZ))) L9
def L7:J:= .B (.F [cu 0 8 true]) L8
def L2:J:= .B (.F [eN 0 3,eN 1 4,eN 2 5,eN 3 6,eN 4 7]) L7
def Hf:J:= .B (.B (.F [aL 0 22 0 1,aA 1 23 22,Aa 2 24 134 23 1 4,ht 3 25 24,A 4 26 25,ew 5 27 26 1 1,dZ 6 28 26 27,iM 7 29 26 28,ew 8 30 26 2 1,dZ 9 31 26 30,iM 10 32 26 31,ew 11 33 26 3 1,dZ 12 34 26 33,iM 13 35 26 34,ew 14 36 26 4 1,dZ 15 37 26 36,iM 16 38 26 37,ew 17 39 26 5 1,dZ 18 40 26 39,iM 19 41 26 40,ew 20 42 26 6 1,dZ 21 43 26 42,iM 22 44 26 43,cw 23 45 26 false (.dm 135 [E 29,E 32,E 35,E 38,E 41,E 44]),iF 24 46 26 45,cZ 25 47 26 46,A 26 48 47,ew 27 49 48 3 1,dZ 28 50 48 49,iM 29 51 48 50,z8 30 52 48 51,cZ 31 53 48 52]) (.aV (E 53) (.B (.F [cu 0 2 false]) (.aI)) (.skip))) L2
def He:J:=
  .B (
  .F [
 dT 0 1 0,
 cu 1 2 false]) Hf
def CZ:bU:=⟨397,[.bL 2],He⟩
theorem atD:b3 al 87=some CZ:=by kernel_rfl
def QA:J:= .B (.F [A 0 7 0,A 1 8 1,c9 2 9 .geq (E 7) (E 8),A 3 10 9,e0 4 11 10 0,e0 5 12 10 2,cw 6 13 10 true (.fg .leq .gl (E 11) (E 12)),di 7 14 10 13,A 8 6 14]) (.aI)
def Qz:J:=
  .B (
  .F [
 cu 0 6 false]) QA
def Kp:bU:=⟨15,[.bL 6],Qz⟩
theorem amF:b3 al 134=some Kp:=by kernel_rfl
def zC:J:= .B (.F [A 0 13 0,c9 1 14 .leq (E 13) (.const (.int .i64 4)),A 2 15 14,e0 3 16 15 1,nD 4 17 15 16 4,di 5 18 15 17,A 6 19 18,e0 7 20 19 2,nD 8 21 19 20 40,di 9 22 19 21,A 10 23 22,e0 11 24 23 3,nD 12 25 23 24 24,di 13 26 23 25,A 14 27 26,e0 15 28 27 4,nD 16 29 27 28 4,di 17 30 27 29,A 18 31 30,e0 19 32 31 5,nD 20 33 31 32 12,di 21 34 31 33,A 22 12 34]) (.aI)
def zB:J:=
  .B (
  .F [
 cu 0 12 false]) zC
def xE:bU:=⟨35,[.bL 12],zB⟩
theorem amG:b3 al 135=some xE:=by kernel_rfl
def QB:J:= .B (.qh [A 0 6 0,A 1 7 1,x1 2 8 7] (a2 3 9 (.app 1 16 (E 6) (E 8))) [A 4 10 1,b7 5 11 188 [E 10],A 6 12 11,e0 7 13 12 0,e0 8 14 12 1,cw 9 15 12 true (.dm 189 [E 13,E 14]),cw 10 16 12 true (.fg .lss .gl (E 15) (.const aP)),di 11 17 12 16,A 12 4 9,A 13 5 17]) (.aI)
def Kq:J:=
  .B (
  .F [
 eN 0 4,
 cu 1 5 false]) QB
def amH:bU:=⟨18,[.bL 4,.bL 5],Kq⟩
theorem amI:b3 al 136=some amH:=by kernel_rfl
theorem aht{args:List Value}{m:W}{cd:Value->W->Prop}(h:args.length<=18):gd al 136 args m cd=hG al Kq (jl args) m (ra [.bL 4,.bL 5] cd):=si amI h
def QH:J:= .B (.block 1 (.B (.F [aL 0 47 2 1,aA 1 48 47,A 2 49 4,bH 3 50 1 48 49,aA 4 51 50,A 5 52 3,dr 6 53 190 51 52,ht 7 54 53,A 8 55 54,ew 9 56 55 2 1,dZ 10 57 55 56,dG 11 58 55 4,py 12 59 55 1 57 58,dZ 13 60 55 59,dG 14 61 55 4,py 15 62 55 3 60 61,mH 16 63 55 3 62,jD 17 64 55 139 63,C6 18 65 55 64,cZ 19 66 55 65]) (.aV (E 66) (.B (.F [cu 0 2 false]) (.aI)) (.skip)))) (.F [A 0 45 4,da 1 46 45,A 2 4 46])
def QJ:J:= .B (.B (.F [A 0 42 4,A 1 43 3,dq 2 44 42 43]) (.aV (E 44) (.skip) (.bh 0))) QH
def YT:J:= .B (.F [A 0 73 6,r0 1 74 73,A 2 75 74,mH 3 76 75 3 5,⟨4,some 77,some (75,false),.dm 193 [.const (.int .i64 1)],[(E 5,E 5)]⟩,cw 5 78 75 false (.dm 192 [E 76,E 77]),iF 6 79 75 78,cZ 7 80 75 79]) (.aV (E 80) (.B (.F [cu 0 2 false]) (.aI)) (.skip))
def QF:J:= .B (.block 7 (.F [A 0 114 7,A 1 115 9,A 2 116 7,A 3 117 9,bH 4 118 1 116 117,aA 5 119 118,A 6 120 119,ew 7 121 120 2 1,dZ 8 122 120 121,dG 9 123 120 9,py 10 124 120 1 122 123,dZ 11 125 120 124,dG 12 126 120 10,py 13 127 120 3 125 126,mH 14 128 120 3 127,jD 15 129 120 139 128,lB 16 130 120 129 0,dG 17 131 120 130,e0 18 132 131 7,e0 19 133 131 10,pz 20 134 131 1 132 133,ep 21 135 131 134,cw 22 136 120 false (.pE (E 131) (E 135) (.const (.bool false))),cZ 23 137 120 136,bH 24 138 1 114 115,b4 25 1 138 137])) (.F [A 0 112 10,da 1 113 112,A 2 10 113])
def QK:J:= .B (.B (.F [A 0 109 10,A 1 110 3,dq 2 111 109 110]) (.aV (E 111) (.skip) (.bh 6))) QF
def QE:J:= .B (.F [ba 0 10 0]) (.block 6 (.loop QK))
def QD:J:= .B (.block 5 (.B (.F [A 0 93 7,A 1 94 9,A 2 95 7,A 3 96 9,bH 4 97 1 95 96,aA 5 98 97,A 6 99 98,ew 7 100 99 3 1,dZ 8 101 99 100,dG 9 102 99 9,py 10 103 99 3 101 102,mH 11 104 99 3 103,jD 12 105 99 139 104,lB 13 106 99 105 0,cZ 14 107 99 106,bH 15 108 1 93 94,b4 16 1 108 107]) QE)) (.F [A 0 91 9,da 1 92 91,A 2 9 92])
def QL:J:= .B (.B (.F [A 0 88 9,A 1 89 3,dq 2 90 88 89]) (.aV (E 90) (.skip) (.bh 4))) QD
def QI:J:= .B (.block 3 (.B (.F [ba 0 9 0]) (.block 4 (.loop QL)))) (.F [A 0 86 8,da 1 87 86,A 2 8 87])
def QM:J:= .B (.B (.F [A 0 83 8,A 1 84 3,dq 2 85 83 84]) (.aV (E 85) (.skip) (.bh 2))) QI
def QG:J:= .B (.block 9 (.B (.F [A 0 144 7,A 1 145 11,bH 2 146 1 144 145,aA 3 147 146,ht 4 148 147]) (.aV (E 148) (.B (.F [cu 0 2 false]) (.aI)) (.skip)))) (.F [A 0 142 11,da 1 143 142,A 2 11 143])
def QN:J:= .B (.B (.F [A 0 139 11,A 1 140 3,dq 2 141 139 140]) (.aV (E 141) (.skip) (.bh 8))) QG
def YP:J:= .B (.F [cu 0 2 true]) (.aI)
def YO:J:= .B (.B (.F [ba 0 11 0]) (.block 8 (.loop QN))) YP
def YV:J:= .B (.B (.F [ba 0 8 0]) (.block 2 (.loop QM))) YO
def YU:J:= .B (.F [A 0 81 3,Ab 1 82 81 81,A 2 7 82]) YV
def YS:J:= .B (.B (.F [aL 0 68 1 1,aA 1 69 68,b7 2 70 191 [E 69],A 3 67 70,cE 4 71 0 67,cE 5 72 1 67,a2 6 5 (.dz [.bool false,aG,aG]),b4 7 3 5 71,A 8 6 72]) YT) YU
def YR:J:= .B (.B (.F [ba 0 4 0]) (.block 0 (.loop QJ))) YS
def YQ:J:= .B (.B (.F [A 0 15 3,lz 1 16 15 1,A 2 17 16,dG 3 18 17 3,lB 4 19 17 18 4,cZ 5 20 17 19,A 6 21 20,ew 7 22 21 1 1,dZ 8 23 21 22,dG 9 24 21 3,cw 10 25 21 false (.dm 190 [E 23,E 24]),iF 11 26 21 25,cZ 12 27 21 26,A 13 28 27,ew 14 29 28 3 1,dZ 15 30 28 29,dG 16 31 28 3,cw 17 32 28 false (.dm 190 [E 30,E 31]),iF 18 33 28 32,cZ 19 34 28 33,A 20 35 34,ew 21 36 35 2 1,dZ 22 37 35 36,iM 23 38 35 37,dG 24 39 35 3,vZ 25 40 35 38 39,cZ 26 41 35 40]) (.aV (E 41) (.B (.F [cu 0 2 false]) (.aI)) (.skip))) YR
def YN:J:= .B (.F [aL 0 12 1 1,aA 1 13 12,bO 2 14 13,A 3 3 14]) YQ
def YM:J:=
  .B (
  .F [
 dT 0 1 0,
 cu 1 2 false]) YN
def QC:bU:=⟨149,[.bL 2],YM⟩
theorem amJ:b3 al 137=some QC:=by kernel_rfl
def Y5:J:= .B (.F [A 0 10 4,jC 1 11 10 0,A 2 12 11,ea 3 13 12 0 3,ep 4 14 12 13,rZ 5 15 12 14,di 6 16 12 15,A 7 17 16,ea 8 18 17 1 3,ep 9 19 17 18,lA 10 20 17 19,nD 11 21 17 20 1,di 12 22 17 21,A 13 23 22,ea 14 24 23 2 3,ep 15 25 23 24,lA 16 26 23 25,nD 17 27 23 26 1,di 18 28 23 27,A 19 2 28]) (.aI)
def Y4:J:= .B (.F [b2 0 6 3 1,b7 1 7 196 [E 6],A 2 5 7,cE 3 8 0 5,cE 4 9 1 5,a2 5 3 (.dz [.bool false,aG,aG]),b4 6 3 3 8,A 7 4 9]) Y5
def Y2:J:=
  .B (
  .F [
 dT 0 1 0,
 cu 1 2 false]) Y4
def Kt:bU:=⟨29,[.bL 2],Y2⟩
theorem Y3:b3 al 140=some Kt:=by kernel_rfl
def FZ:J:= .B (.block 1 (.B (.F [A 0 32 9,a2 1 33 (.oD 1 5 (E 7) (E 32)),aA 2 34 33,Aa 3 35 134 34 0 8,ht 4 36 35]) (.aV (E 36) (.B (.F [cu 0 8 false]) (.aI)) (.skip)))) (.F [A 0 30 9,da 1 31 30,A 2 9 31])
def Ku:J:= .B (.B (.F [A 0 28 9,lz 1 29 28 5]) (.aV (E 29) (.skip) (.bh 0))) FZ
def xF:J:= .B (.F [cu 0 8 true]) (.aI)
def FY:J:= .B (.B (.F [ba 0 9 1]) (.block 0 (.loop Ku))) xF
def FX:J:= .B (.B (.F [A 0 10 0,A 1 11 1,dr 2 12 197 10 11,ht 3 13 12,A 4 14 13,dG 5 15 14 2,dG 6 16 14 0,dG 7 17 14 0,dG 8 18 14 1,cw 9 19 14 false (.fg .add .gl (E 17) (E 18)),cw 10 20 14 false (.dm 134 [E 15,E 16,E 19]),iF 11 21 14 20,cZ 12 22 14 21,A 13 23 22,cw 14 24 23 false (.oD 1 5 (E 7) (.const aP)),dZ 15 25 23 24,C6 16 26 23 25,cZ 17 27 23 26]) (.aV (E 27) (.B (.F [cu 0 8 false]) (.aI)) (.skip))) FY
def FW:J:=
  .B (
  .F [
 dT 0 7 3,
 cu 1 8 false]) FX
def Cb:bU:=⟨37,[.bL 8],FW⟩
theorem amK:b3 al 141=some Cb:=by kernel_rfl
def F1:J:= .B (.F [A 0 9 1,A 1 10 0,dr 2 11 198 9 10,A 3 12 11,iE 4 13 12 3 6,me 5 14 12 140 13,di 6 15 12 14,A 7 16 15,iE 9 18 16 3 6,⟨8,some 17,some (16,true),.dm 193 [.const (.int .i64 1)],[(E 6,E 6)]⟩,cw 10 19 16 true (.dm 199 [E 17,E 18]),rZ 11 20 16 19,di 12 21 16 20,A 13 22 21,iE 14 23 22 3 7,me 15 24 22 140 23,di 16 25 22 24,A 17 8 25]) (.aI)
def F0:J:=
  .B (
  .F [
 dT 0 6 2,
 dT 1 7 3,
 cu 2 8 false]) F1
def Cc:bU:=⟨26,[.bL 8],F0⟩
theorem amL:b3 al 142=some Cc:=by kernel_rfl
def Gq:J:= .B (.block 1 (.B (.F [A 0 12 0,A 1 13 5,bH 2 14 1 12 13,aA 3 15 14,A 4 16 1,c9 5 17 .eql (E 15) (E 16)]) (.aV (E 17) (.B (.F [A 0 18 5,A 1 4 18]) (.aI)) (.skip)))) (.F [A 0 10 5,da 1 11 10,A 2 5 11])
def KH:J:= .B (.B (.F [A 0 6 5,A 1 7 0,bO 2 8 7,dq 3 9 6 8]) (.aV (E 9) (.skip) (.bh 0))) Gq
def Gr:J:= .B (.F [ba 0 4 (-1)]) (.aI)
def ZL:J:= .B (.B (.F [ba 0 5 0]) (.block 0 (.loop KH))) Gr
def ZK:J:=
  .B (
  .F [
 ba 0 4 0]) ZL
def QR:bU:=⟨19,[.bL 4],ZK⟩
theorem an8:b3 al 189=some QR:=by kernel_rfl
def zG:J:= .B (.block 1 (.B (.F [A 0 15 0,A 1 16 5,bH 2 17 3 15 16,b2 3 18 3 17,b7 4 19 140 [E 18],ht 5 20 19]) (.aV (E 20) (.B (.F [cu 0 4 false]) (.aI)) (.skip)))) (.F [A 0 13 5,da 1 14 13,A 2 5 14])
def Gt:J:= .B (.B (.F [A 0 10 5,A 1 11 1,dq 2 12 10 11]) (.aV (E 12) (.skip) (.bh 0))) zG
def xH:J:= .B (.F [cu 0 4 true]) (.aI)
def KK:J:= .B (.B (.F [ba 0 5 0]) (.block 0 (.loop Gt))) xH
def KJ:J:= .B (.B (.F [A 0 6 0,bO 1 7 6,A 2 8 1,c9 3 9 .neq (E 7) (E 8)]) (.aV (E 9) (.B (.F [cu 0 4 false]) (.aI)) (.skip))) KK
def KI:J:=
  .B (
  .F [
 cu 0 4 false]) KJ
def Cg:bU:=⟨21,[.bL 4],KI⟩
theorem ZR:b3 al 190=some Cg:=by kernel_rfl
def Ck:J:= .B (.F [A 0 5 0,oG 1 6 5 1,A 2 7 6,e0 3 8 7 0,nD 4 9 7 8 6,di 5 10 7 9,A 6 11 10,e0 7 12 11 1,cw 8 13 11 true (.fg .geq .gl (E 12) (.const aP)),di 9 14 11 13,A 10 15 14,e0 11 16 15 1,nD 12 17 15 16 4,di 13 18 15 17,A 14 19 18,e0 15 20 19 0,e0 16 21 19 1,cw 17 22 19 true (.fg .add .gl (E 20) (E 21)),nD 18 23 19 22 8,di 19 24 19 23,A 20 4 24]) (.aI)
def Cj:J:=
  .B (
  .F [
 cu 0 4 false]) Ck
def zH:bU:=⟨25,[.bL 4],Cj⟩
theorem aop:b3 al 197=some zH:=by kernel_rfl
def Gu:J:= .B (.block 1 (.B (.F [A 0 17 0,A 1 18 5,bH 2 19 3 17 18,b2 3 20 3 19,b7 4 21 139 [E 20],jC 5 22 21 0]) (.aV (E 22) (.B (.F [cu 0 4 false]) (.aI)) (.skip)))) (.F [A 0 15 5,da 1 16 15,A 2 5 16])
def KP:J:= .B (.B (.F [A 0 11 5,A 1 12 0,bO 2 13 12,dq 3 14 11 13]) (.aV (E 14) (.skip) (.bh 0))) Gu
def Cl:J:= .B (.F [cu 0 4 true]) (.aI)
def QY:J:= .B (.B (.F [ba 0 5 0]) (.block 0 (.loop KP))) Cl
def QX:J:= .B (.B (.F [A 0 6 0,A 1 7 1,a2 2 8 (.oJ true (E 7) [.const (.int .i64 1)]),dr 3 9 190 6 8,ht 4 10 9]) (.aV (E 10) (.B (.F [cu 0 4 false]) (.aI)) (.skip))) QY
def QW:J:=
  .B (
  .F [
 cu 0 4 false]) QX
def KO:bU:=⟨23,[.bL 4],QW⟩
theorem aoq:b3 al 198=some KO:=by kernel_rfl
def KU:J:= .B (.F [A 0 16 5,A 1 4 16]) (.aI)
def KT:J:= .B (.B (.F [A 0 11 5,lz 1 12 11 0]) (.aV (E 12) (.B (.F [A 0 13 5,A 1 14 1,gI 2 15 13 14,A 3 4 15]) (.aI)) (.skip))) KU
def KS:J:= .B (.F [A 0 8 0,A 1 9 1,c9 2 10 .rem (E 8) (E 9),A 3 5 10]) KT
def KR:J:= .B (.B (.F [A 0 6 1,lz 1 7 6 1]) (.aV (E 7) (.B (.F [ba 0 4 0]) (.aI)) (.skip))) KS
def KQ:J:=
  .B (
  .F [
 ba 0 4 0]) KR
def Gs:bU:=⟨17,[.bL 4],KQ⟩
theorem aou:b3 al 19=some Gs:=by kernel_rfl
def Gw:J:= .B (.block 1 (.B (.F [A 0 17 0,A 1 18 5,bH 2 19 1 17 18,aA 3 20 19,A 4 21 1,A 5 22 5,bH 6 23 1 21 22,aA 7 24 23,c9 8 25 .neq (E 20) (E 24)]) (.aV (E 25) (.B (.F [cu 0 4 false]) (.aI)) (.skip)))) (.F [A 0 15 5,da 1 16 15,A 2 5 16])
def KV:J:= .B (.B (.F [A 0 11 5,A 1 12 0,bO 2 13 12,dq 3 14 11 13]) (.aV (E 14) (.skip) (.bh 0))) Gw
def Gx:J:= .B (.F [cu 0 4 true]) (.aI)
def Q1:J:= .B (.B (.F [ba 0 5 0]) (.block 0 (.loop KV))) Gx
def Q0:J:= .B (.B (.F [A 0 6 0,bO 1 7 6,A 2 8 1,bO 3 9 8,c9 4 10 .neq (E 7) (E 9)]) (.aV (E 10) (.B (.F [cu 0 4 false]) (.aI)) (.skip))) Q1
def QZ:J:=
  .B (
  .F [
 cu 0 4 false]) Q0
def Gv:bU:=⟨26,[.bL 4],QZ⟩
theorem Z6:b3 al 20=some Gv:=by kernel_rfl
def Lv:J:= .B (.block 5 (.F [A 0 43 9,da 1 44 43,aL 2 45 4 3,aA 3 46 45,bO 4 47 46,c9 5 48 .rem (E 44) (E 47),A 6 9 48])) (.F [A 0 41 10,da 1 42 41,A 2 10 42])
def GV:J:= .B (.B (.F [A 0 31 10,aL 1 32 4 3,aA 2 33 32,bO 3 34 33,dq 4 35 31 34,A 5 36 35,e0 6 37 36 7,e0 7 38 36 9,cw 8 39 36 true (.dm 102 [E 37,E 38]),di 9 40 36 39]) (.aV (E 40) (.skip) (.bh 4))) Lv
def GU:J:= .B (.B (.F [A 0 49 7,A 1 50 9,dr 2 51 102 49 50,A 3 52 51,dG 4 53 52 0,cw 5 54 52 false (.dm 49 [E 53,.const (.int .i64 12)]),z8 6 55 52 54,cZ 7 56 52 55]) (.aV (E 56) (.F [ba 0 9 (-1)]) (.skip))) (.F [A 0 57 7,A 1 58 9,q2 2 59 58,iC 3 60 1 8 57 59,A 4 7 60])
def GS:J:= .B (.B (.F [ba 0 10 0]) (.block 4 (.loop GV))) GU
def GR:J:= .B (.block 3 (.B (.F [A 0 26 0,aL 1 27 4 3,aA 2 28 27,bO 3 29 28,dr 4 30 49 26 29,A 5 9 30]) GS)) (.F [A 0 24 8,da 1 25 24,A 2 8 25])
def CE:J:= .B (.B (.F [A 0 19 8,b2 1 20 7 3,A 2 21 6,dr 3 22 101 20 21,dq 4 23 19 22]) (.aV (E 23) (.skip) (.bh 2))) GR
def RH:J:= .B (.B (.F [ba 0 8 0]) (.block 2 (.loop CE))) (.F [A 0 61 5,A 1 62 7,a2 2 63 (.fR 1 1 [aG] [(0,1,E 62)]),iC 3 64 1 24 61 63,A 4 5 64])
def RG:J:= .B (.block 1 (.B (.F [a2 0 18 (.fR 1 0 [] []),A 1 7 18]) RH)) (.F [A 0 16 6,da 1 17 16,A 2 6 17])
def Lw:J:= .B (.B (.F [A 0 11 6,aL 1 12 6 3,aA 2 13 12,bO 3 14 13,dq 4 15 11 14]) (.aV (E 15) (.skip) (.bh 0))) RG
def acd:J:= .B (.F [A 0 65 5,A 1 4 65]) (.aI)
def acb:J:= .B (.B (.F [ba 0 6 0]) (.block 0 (.loop Lw))) acd
def aca:J:= .B (.F [eN 0 5]) acb
def ab9:J:=
  .B (
  .F [
 dT 0 3 1,
 eN 1 4]) aca
def RF:bU:=⟨66,[.bL 4],ab9⟩
theorem asc:b3 al 48=some RF:=by kernel_rfl
def zV:J:= .B (.F [A 0 49 6,A 1 4 49]) (.aI)
def zU:J:= .B (.B (.F [A 0 44 6,lz 1 45 44 0]) (.aV (E 45) (.B (.F [A 0 46 6,A 1 47 1,gI 2 48 46 47,A 3 4 48]) (.aI)) (.skip))) zV
def zT:J:= .B (.F [A 0 41 5,A 1 42 1,c9 2 43 .rem (E 41) (E 42),A 3 6 43]) zU
def zS:J:= .B (.B (.F [A 0 39 1,lz 1 40 39 1]) (.aV (E 40) (.B (.F [ba 0 4 0]) (.aI)) (.skip))) zT
def zR:J:= .B (.F [A 0 32 0,iD 1 33 32,aL 2 34 1 33,aA 3 35 34,da 4 36 35,iD 5 37 32,aL 6 38 1 37,b4 7 1 38 36]) zS
def zQ:J:= .B (.B (.F [A 0 12 0,iD 1 13 12,aL 2 14 1 13,aA 3 15 14,A 4 16 0,iD 5 17 16,aL 6 18 0 17,aA 7 19 18,bO 8 20 19,dq 9 21 15 20]) (.aV (E 21) (.F [A 0 22 0,iD 1 23 22,aL 2 24 0 23,aA 3 25 24,A 4 26 0,iD 5 27 26,aL 6 28 1 27,aA 7 29 28,bH 8 30 1 25 29,aA 9 31 30,A 10 5 31]) (.skip))) zR
def zP:J:= .B (.F [A 0 7 0,iD 1 8 7,aL 2 9 1 8,aA 3 10 9,c9 4 11 .rem (E 10) (.const (.int .i64 3)),A 5 5 11]) zQ
def zO:J:=
  .B (
  .F [
 ba 0 4 0]) zP
def xJ:bU:=⟨50,[.bL 4],zO⟩
theorem asd:b3 al 49=some xJ:=by kernel_rfl
def ach:J:= .B (.F [b2 0 13 3 5,b4 1 3 4 13]) (.aI)
def acg:J:= .B (.F [A 0 8 0,A 1 9 1,dr 2 10 107 8 9,A 3 7 10,cE 4 11 0 7,cE 5 12 1 7,a2 6 5 (.dz [.bool false,aG,aG]),b4 7 3 5 11,A 8 6 12]) ach
def ace:J:=
  .B (
  .F [
 a2 0 4 (.dz [.bool false,aG,aG])]) acg
def Lx:bU:=⟨14,[.hZ 4 true 3],ace⟩
theorem acf:b3 al 59=some Lx:=by kernel_rfl
def GY:J:= .B (.F [A 0 76 7,A 1 77 0,kP 2 78 49 77 17,kQ 3 79 16 78,b7 4 80 108 [E 5,.const (.int .i64 2),E 76,E 79],A 5 8 80]) (.F [A 0 81 8,A 1 82 0,kP 2 83 49 82 9,kQ 3 84 8 83,b7 4 85 108 [E 5,.const (.int .i64 3),E 81,E 84],A 5 9 85])
def GX:J:= .B (.B (.F [A 0 112 0,kP 1 113 49 112 4,jC 2 114 113 0]) (.aV (E 114) (.F [ba 0 13 1]) (.skip))) (.F [aL 0 115 4 5,aA 1 116 115,aL 2 117 4 5,aA 3 118 117,bO 4 119 118,A 6 121 13,A 7 122 11,iv 5 120 (.dm 109 [.const (.int .u8 100),E 119]) [(E 115,E 115)],a2 8 123 (.eY [.string ⟨#[]⟩,aP,aP] [(0,1,E 120),(1,1,E 121),(2,1,E 122)]),a2 9 124 (.fR 3 1 [.string ⟨#[]⟩,aP,aP] [(0,3,E 123)]),iC 10 125 3 32 116 124,aL 11 126 4 5,b4 12 1 126 125])
def GW:J:= .B (.block 3 (.B (.F [ba 0 13 0]) GX)) (.F [A 0 110 12,h6 1 111 110 1,A 2 12 111])
def zW:J:= .B (.B (.F [A 0 102 12,kO 1 103 102 0,A 2 104 103,ea 3 105 104 4 5,ep 4 106 104 105,lA 5 107 104 106,cw 6 108 104 true (.fg .lss .gl (E 107) (.const (.int .i64 9))),di 7 109 104 108]) (.aV (E 109) (.skip) (.bh 2))) GW
def ack:J:= .B (.F [A 0 99 0,kP 1 100 49 99 2,kQ 2 101 1 100,A 3 12 101]) (.block 2 (.loop zW))
def RP:J:= .B (.F [A 0 94 9,A 1 95 0,kP 2 96 49 95 9,kQ 3 97 8 96,b7 4 98 108 [E 5,.const (.int .i64 4),E 94,E 97],A 5 11 98]) ack
def CJ:J:= .B (.block 1 (.B (.B (.F [A 0 65 10,jC 1 66 65 0,A 2 67 66,dG 3 68 67 0,cw 4 69 67 false (.dm 49 [E 68,.const (.int .i64 4)]),z8 5 70 67 69,cZ 6 71 67 70]) (.aV (E 71) (.B (.F [A 0 72 0,kP 1 73 49 72 17,kQ 2 74 16 73,b7 3 75 108 [E 5,.const (.int .i64 1),.const aP,E 74],A 4 7 75]) GY) (.B (.F [A 0 86 0,kP 1 87 49 86 2,jC 2 88 87 0]) (.aV (E 88) (.F [A 0 89 8,A 1 90 0,kP 2 91 49 90 9,kQ 3 92 8 91,b7 4 93 108 [E 5,.const (.int .i64 3),E 89,E 92],A 5 9 93]) (.skip))))) RP)) (.F [A 0 63 10,da 1 64 63,A 2 10 64])
def Ly:J:= .B (.B (.F [A 0 60 10,A 1 61 6,dq 2 62 60 61]) (.aV (E 62) (.skip) (.bh 0))) CJ
def RX:J:= .B (.block 7 (.F [aL 0 172 10 17,aA 1 173 172,iv 2 174 (.dm 59 [.const (.int .i64 1),.const (.int .i64 2)]) [(E 172,E 172)],vW 3 175 174,iC 4 176 3 56 173 175,aL 5 177 10 17,b4 6 1 177 176])) (.F [A 0 170 18,da 1 171 170,A 2 18 171])
def GZ:J:= .B (.B (.F [A 0 166 18,A 1 167 16,a2 2 168 (.oJ true (E 167) [.const (.int .i64 1)]),dq 3 169 166 168]) (.aV (E 169) (.skip) (.bh 6))) RX
def RW:J:= .B (.B (.F [ba 0 18 0]) (.block 6 (.loop GZ))) (.F [aL 0 178 5 5,aA 1 179 178,b2 2 180 17 17,Sc 3 181 180,iC 4 182 17 240 179 181,aL 5 183 5 5,b4 6 1 183 182])
def RV:J:= .B (.B (.F [A 0 161 0,kP 1 162 49 161 5,jC 2 163 162 0]) (.aV (E 163) (.F [a2 0 164 (.fR 1 1 [aP] [(0,1,.const aP)]),aL 1 165 9 17,b4 2 1 165 164]) (.skip))) RW
def RU:J:= .B (.F [A 0 157 0,kP 1 158 49 157 3,aL 2 159 4 17,a2 3 160 (.oD 1 5 (E 159) (.const (.int .i64 4))),b4 4 1 160 158]) RV
def RT:J:= .B (.F [A 0 153 0,kP 1 154 49 153 4,aL 2 155 4 17,a2 3 156 (.oD 1 5 (E 155) (.const (.int .i64 3))),b4 4 1 156 154]) RU
def RS:J:= .B (.F [A 0 139 14,b7 1 140 109 [.const (.int .u8 112),E 139],A 2 141 15,A 3 142 16,A 4 143 15,A 5 144 0,A 6 145 16,da 7 146 145,dr 8 147 49 144 146,gI 9 148 143 147,a2 10 149 (.fR 1 2 [aP,aP] [(0,1,.const aP),(1,1,.const (.int .i64 1))]),vX 11 150 59 1 1000,vX 12 151 59 30 1,a2 13 152 (.eY [.string ⟨#[]⟩,aP,aP,aP,aP,aP,aP,aP,aP,aG,aG,.bool false,aG,aG,.bool false,aG,aG] [(0,1,E 140),(1,1,E 141),(2,1,E 142),(3,1,E 148),(9,1,E 149),(11,3,E 150),(14,3,E 151)]),a2 14 17 (.dz [.string ⟨#[]⟩,aP,aP,aP,aP,aP,aP,aP,aP,aG,aG,.bool false,aG,aG,.bool false,aG,aG]),b4 15 17 17 152]) RT
def RR:J:= .B (.F [A 0 137 0,kP 1 138 49 137 3,A 2 16 138]) RS
def RQ:J:= .B (.block 5 (.B (.F [A 0 134 0,kP 1 135 49 134 2,kQ 2 136 1 135,A 3 15 136]) RR)) (.F [A 0 132 14,h6 1 133 132 1,A 2 14 133])
def G0:J:= .B (.B (.F [A 0 130 14,kO 1 131 130 0]) (.aV (E 131) (.skip) (.bh 4))) RQ
def RY:J:= .B (.block 9 (.F [aL 0 192 6 5,aA 1 193 192,A 2 194 19,A 4 196 0,aL 5 197 5 5,aA 6 198 197,bO 7 199 198,iv 3 195 (.dm 109 [.const (.int .u8 118),E 194]) [(E 197,E 197),(E 192,E 192)],iv 8 200 (.dm 49 [E 196,E 199]) [(E 192,E 192)],a2 9 201 (.eY [.string ⟨#[]⟩,aP] [(0,1,E 195),(1,1,E 200)]),a2 10 202 (.fR 2 1 [.string ⟨#[]⟩,aP] [(0,2,E 201)]),iC 11 203 2 24 193 202,aL 12 204 6 5,b4 13 1 204 203])) (.F [A 0 190 19,h6 1 191 190 1,A 2 19 191])
def Lz:J:= .B (.B (.F [A 0 188 19,kO 1 189 188 0]) (.aV (E 189) (.skip) (.bh 8))) RY
def acp:J:= .B (.F [b2 0 205 7 5,b4 1 7 4 205]) (.aI)
def aco:J:= .B (.B (.F [A 0 184 0,A 1 185 1,dr 2 186 49 184 185,kQ 3 187 1 186,A 4 19 187]) (.block 8 (.loop Lz))) acp
def acm:J:= .B (.B (.F [A 0 127 0,kP 1 128 49 127 2,kQ 2 129 1 128,A 3 14 129]) (.block 4 (.loop G0))) aco
def acv:J:= .B (.B (.F [ba 0 10 0]) (.block 0 (.loop Ly))) acm
def acu:J:= .B (.F [ba 0 7 0,ba 1 8 0,ba 2 9 0]) acv
def acs:J:= .B (.F [A 0 57 0,kP 1 58 49 57 3,kQ 2 59 3 58,A 3 6 59]) acu
def acr:J:= .B (.F [vX 0 53 59 0 1,Sd 1 54 53,a2 2 55 (.fR 7 1 [.string ⟨#[]⟩,aP,aP,aP,.bool false,aG,aG] [(0,7,E 54)]),aL 3 56 3 5,b4 4 1 56 55]) acs
def acq:J:= .B (.F [A 0 37 0,kP 1 38 49 37 2,kQ 2 39 3 38,A 3 40 0,kP 4 41 49 40 9,kQ 5 42 8 41,a2 6 43 (.eY [.string ⟨#[]⟩,aP,aP,aP] [(0,1,.const (.string ⟨#[98,105,103]⟩)),(1,1,E 39),(2,1,E 42),(3,1,.const aP)]),A 7 44 0,kP 8 45 49 44 3,kQ 9 46 1 45,A 10 47 0,kP 11 48 49 47 9,kQ 12 49 4 48,a2 13 50 (.eY [.string ⟨#[]⟩,aP,aP,aP] [(0,1,.const (.string ⟨#[111,108,100]⟩)),(1,1,E 46),(2,1,E 49),(3,1,.const aP)]),a2 14 51 (.fR 4 2 [.string ⟨#[]⟩,aP,aP,aP,.string ⟨#[]⟩,aP,aP,aP] [(0,4,E 43),(4,4,E 50)]),aL 15 52 2 5,b4 16 1 52 51]) acr
def acn:J:= .B (.F [vX 0 24 59 1 1,vW 1 25 24,vX 2 26 59 0 1,vW 3 27 26,a2 4 28 (.fR 1 1 [aG] [(0,1,E 27)]),A 5 29 0,kP 6 30 49 29 100,kQ 7 31 100 30,b7 8 32 59 [.const (.int .i64 1),E 31],vW 9 33 32,a2 10 34 (.eY [.string ⟨#[]⟩,aG,aG,aG] [(0,1,.const (.string ⟨#[100,105,115,107]⟩)),(1,1,E 25),(2,1,E 28),(3,1,E 33)]),a2 11 35 (.fR 4 1 [.string ⟨#[]⟩,aG,aG,aG] [(0,4,E 34)]),aL 12 36 1 5,b4 13 1 36 35]) acq
def acj:J:= .B (.F [A 0 20 0,kP 1 21 49 20 2,kQ 2 22 1 21,a2 3 23 (.eY [aP,aG,aG,aG,aG,aG,aG] [(0,1,E 22)]),a2 4 5 (.dz [aP,aG,aG,aG,aG,aG,aG]),b4 5 7 5 23]) acn
def aci:J:=
  .B (
  .F [
 a2 0 4 (.dz [aP,aG,aG,aG,aG,aG,aG])]) acj
def RO:bU:=⟨206,[.hZ 4 true 7],aci⟩
theorem ase:b3 al 60=some RO:=by kernel_rfl
def G1:J:= .B (.block 1 (.B (.F [A 0 15 0,kP 1 16 49 15 9]) (.block 2 (.B (.F [jC 0 18 16 0,A 1 17 18]) (.aV (E 17) (.F [A 0 19 5,A 1 20 6,bH 2 21 1 19 20,pt 3 (.store 1 (E 21) (.const aP))]) (.B (.F [jC 0 23 16 1,A 1 22 23]) (.aV (E 22) (.F [A 0 24 5,A 1 25 6,A 2 26 0,A 3 27 5,A 4 28 6,bH 5 29 1 27 28,aA 6 30 29,da 7 31 30,dr 8 32 49 26 31,bH 9 33 1 24 25,b4 10 1 33 32]) (.skip)))))))) (.F [A 0 13 6,da 1 14 13,A 2 6 14])
def CK:J:= .B (.B (.F [A 0 9 6,A 1 10 5,bO 2 11 10,dq 3 12 9 11]) (.aV (E 12) (.skip) (.bh 0))) G1
def acz:J:= .B (.F [A 0 34 5,A 1 4 34]) (.aI)
def acy:J:= .B (.B (.F [ba 0 6 0]) (.block 0 (.loop CK))) acz
def acx:J:= .B (.F [b2 0 7 7 3,b7 1 8 52 [E 7,.const (aG)],A 2 5 8]) acy
def acw:J:=
  .B (
  .F [
 dT 0 3 1,
 eN 1 4]) acx
def RZ:bU:=⟨35,[.bL 4],acw⟩
theorem asf:b3 al 61=some RZ:=by kernel_rfl
def X7:J:= .B (.F [aL 0 16 1 5,aA 1 17 16,aL 2 18 2 5,aA 3 19 18,gI 4 20 17 19,A 5 4 20]) (.aI)
def X6:J:= .B (.F [aL 0 6 5 2,aA 1 7 6,aL 2 8 6 2,aA 3 9 8,A 4 10 1,bH 5 11 2 9 10,aL 6 12 1 11,aA 7 13 12,bH 8 14 17 7 13,b2 9 15 17 14,a2 10 5 (.dz [.string ⟨#[]⟩,aP,aP,aP,aP,aP,aP,aP,aP,aG,aG,.bool false,aG,aG,.bool false,aG,aG]),b4 11 17 5 15]) X7
def X5:J:=
  .B (
  .F [
 dT 0 2 0,
 ba 1 4 0]) X6
def Qc:bU:=⟨21,[.bL 4],X5⟩
theorem akA:b3 al 101=some Qc:=by kernel_rfl
def FI:J:= .B (.block 1 (.B (.F [A 0 12 0,A 1 13 5,bH 2 14 1 12 13,aA 3 15 14,A 4 16 1,c9 5 17 .eql (E 15) (E 16)]) (.aV (E 17) (.B (.F [cu 0 4 true]) (.aI)) (.skip)))) (.F [A 0 10 5,da 1 11 10,A 2 5 11])
def Kl:J:= .B (.B (.F [A 0 6 5,A 1 7 0,bO 2 8 7,dq 3 9 6 8]) (.aV (E 9) (.skip) (.bh 0))) FI
def FJ:J:= .B (.F [cu 0 4 false]) (.aI)
def X9:J:= .B (.B (.F [ba 0 5 0]) (.block 0 (.loop Kl))) FJ
def X8:J:=
  .B (
  .F [
 cu 0 4 false]) X9
def Qd:bU:=⟨18,[.bL 4],X8⟩
theorem akB:b3 al 102=some Qd:=by kernel_rfl
def Yh:J:= .B (.F [A 0 31 9,A 1 8 31]) (.aI)
def Yg:J:= .B (.F [A 0 15 0,A 1 16 0,iD 2 17 16,aL 3 18 3 17,aA 4 19 18,A 5 20 9,A 7 22 1,A 8 23 2,A 9 24 3,iv 6 21 (.dm 109 [.const (.int .u8 110),E 20]) [(E 18,E 18)],iv 10 25 (.dm 59 [.const aP,.const (.int .i64 1)]) [(E 18,E 18)],a2 11 26 (.eY [.string ⟨#[]⟩,aP,aP,aP,.bool false,aG,aG] [(0,1,E 21),(1,1,E 22),(2,1,E 23),(3,1,E 24),(4,3,E 25)]),a2 12 27 (.fR 7 1 [.string ⟨#[]⟩,aP,aP,aP,.bool false,aG,aG] [(0,7,E 26)]),iC 13 28 7 96 19 27,iD 14 29 15,aL 15 30 3 29,b4 16 1 30 28]) Yh
def Yf:J:= .B (.F [A 0 10 0,iD 1 11 10,aL 2 12 3 11,aA 3 13 12,bO 4 14 13,A 5 9 14]) Yg
def Ye:J:=
  .B (
  .F [
 ba 0 8 0]) Yf
def Qe:bU:=⟨32,[.bL 8],Ye⟩
theorem akC:b3 al 108=some Qe:=by kernel_rfl
def Yj:J:= .B (.F [A 0 5 0,A 1 6 1,c9 2 7 .quo (E 6) (.const (.int .i64 26)),c9 3 8 .rem (E 7) (.const (.int .i64 26)),kQ 4 9 97 8,a2 5 10 (.rz .u8 (E 9)),A 6 11 1,c9 7 12 .rem (E 11) (.const (.int .i64 26)),kQ 8 13 97 12,a2 9 14 (.rz .u8 (E 13)),a2 10 15 (.fR 1 3 [.int .u8 0,.int .u8 0,.int .u8 0] [(0,1,E 5),(1,1,E 10),(2,1,E 14)]),a2 11 16 (.mw (E 15)),A 12 4 16]) (.aI)
def Yi:J:=
  .B (
  .F [
 a2 0 4 (.nf (.const (.string ⟨#[]⟩)))]) Yj
def Qf:bU:=⟨17,[.bL 4],Yi⟩
theorem akD:b3 al 109=some Qf:=by kernel_rfl
open Go Go.DI Go.Big
section
set_option maxRecDepth 100000
def afa:List (Nat×bU):=[(59,Lx),(107,Km),(138,Kr),(139,Ks),(140,Kt),(167,Kv),(168,Kw),(169,Kx),(170,Ky),(171,Kz),(173,Zu),(174,Zv),(175,Zw),(191,ZS),(192,ZT),(193,ZU),(194,Ch),(195,KM),(196,KN),(199,Z5),(213,KW),(215,KY),(216,KZ),(217,aan),(218,aao),(219,K1),(220,aav),(221,K2),(222,K3),(223,aaF),(230,aaV),(239,aa1),(240,Lc),(241,Ld),(246,Le),(247,CB),(248,Lh),(249,abo),(251,Li),(253,Lk),(254,abz),(257,abC),(258,abD),(274,abW),(275,abX),(260,Ll),(268,Lm),(271,Ln),(272,abT),(273,CC),(278,Lo)]
theorem ayq:I0 al afa:=⟨⟨⟨by kernel_rfl,acf⟩,by kernel_rfl⟩,⟨⟨⟨by kernel_rfl,Yb⟩,by kernel_rfl⟩,⟨⟨⟨by kernel_rfl,YX⟩,by kernel_rfl⟩,⟨⟨⟨by kernel_rfl,Y0⟩,by kernel_rfl⟩,⟨⟨⟨by kernel_rfl,Y3⟩,by kernel_rfl⟩,⟨⟨⟨by kernel_rfl,Y7⟩,by kernel_rfl⟩,⟨⟨⟨by kernel_rfl,Ze⟩,by kernel_rfl⟩,⟨⟨⟨by kernel_rfl,Zh⟩,by kernel_rfl⟩,⟨⟨⟨by kernel_rfl,Zm⟩,by kernel_rfl⟩,⟨⟨⟨by kernel_rfl,Zq⟩,by kernel_rfl⟩,⟨⟨⟨by kernel_rfl,amO⟩,by kernel_rfl⟩,⟨⟨⟨by kernel_rfl,amY⟩,by kernel_rfl⟩,⟨⟨⟨by kernel_rfl,am2⟩,by kernel_rfl⟩,⟨⟨⟨by kernel_rfl,aob⟩,by kernel_rfl⟩,⟨⟨⟨by kernel_rfl,aoj⟩,by kernel_rfl⟩,⟨⟨⟨by kernel_rfl,aom⟩,by kernel_rfl⟩,⟨⟨⟨by kernel_rfl,QT⟩,by kernel_rfl⟩,⟨⟨⟨by kernel_rfl,ZW⟩,by kernel_rfl⟩,⟨⟨⟨by kernel_rfl,Z2⟩,by kernel_rfl⟩,⟨⟨⟨by kernel_rfl,aos⟩,by kernel_rfl⟩,⟨⟨⟨by kernel_rfl,Z8⟩,by kernel_rfl⟩,⟨⟨⟨by kernel_rfl,aad⟩,by kernel_rfl⟩,⟨⟨⟨by kernel_rfl,aah⟩,by kernel_rfl⟩,⟨⟨⟨by kernel_rfl,aow⟩,by kernel_rfl⟩,⟨⟨⟨by kernel_rfl,aoA⟩,by kernel_rfl⟩,⟨⟨⟨by kernel_rfl,aaq⟩,by kernel_rfl⟩,⟨⟨⟨by kernel_rfl,aoK⟩,by kernel_rfl⟩,⟨⟨⟨by kernel_rfl,aax⟩,by kernel_rfl⟩,⟨⟨⟨by kernel_rfl,aaB⟩,by kernel_rfl⟩,⟨⟨⟨by kernel_rfl,aoO⟩,by kernel_rfl⟩,⟨⟨⟨by kernel_rfl,aoY⟩,by kernel_rfl⟩,⟨⟨⟨by kernel_rfl,apm⟩,by kernel_rfl⟩,⟨⟨⟨by kernel_rfl,aa3⟩,by kernel_rfl⟩,⟨⟨⟨by kernel_rfl,aa7⟩,by kernel_rfl⟩,⟨⟨⟨by kernel_rfl,abd⟩,by kernel_rfl⟩,⟨⟨⟨by kernel_rfl,Rr⟩,by kernel_rfl⟩,⟨⟨⟨by kernel_rfl,abj⟩,by kernel_rfl⟩,⟨⟨⟨by kernel_rfl,apP⟩,by kernel_rfl⟩,⟨⟨⟨by kernel_rfl,abr⟩,by kernel_rfl⟩,⟨⟨⟨by kernel_rfl,abx⟩,by kernel_rfl⟩,⟨⟨⟨by kernel_rfl,ap6⟩,by kernel_rfl⟩,⟨⟨⟨by kernel_rfl,aqr⟩,by kernel_rfl⟩,⟨⟨⟨by kernel_rfl,aqx⟩,by kernel_rfl⟩,⟨⟨⟨by kernel_rfl,arj⟩,by kernel_rfl⟩,⟨⟨⟨by kernel_rfl,arw⟩,by kernel_rfl⟩,⟨⟨⟨by kernel_rfl,abF⟩,by kernel_rfl⟩,⟨⟨⟨by kernel_rfl,abL⟩,by kernel_rfl⟩,⟨⟨⟨by kernel_rfl,abR⟩,by kernel_rfl⟩,⟨⟨⟨by kernel_rfl,aqR⟩,by kernel_rfl⟩,⟨⟨⟨by kernel_rfl,RB⟩,by kernel_rfl⟩,⟨⟨⟨by kernel_rfl,abZ⟩,by kernel_rfl⟩,trivial⟩⟩⟩⟩⟩⟩⟩⟩⟩⟩⟩⟩⟩⟩⟩⟩⟩⟩⟩⟩⟩⟩⟩⟩⟩⟩⟩⟩⟩⟩⟩⟩⟩⟩⟩⟩⟩⟩⟩⟩⟩⟩⟩⟩⟩⟩⟩⟩⟩⟩⟩
theorem gf{f:Nat}{args:List Value}{r:Value}(h:Wo (Ip afa).X [] 100000 80 f args r=true):bK al f args r:=aim (DM ayq) adH h
theorem A6{p:bS->Prop}(cR:p ⟨false,[],[1]⟩)(D:p ⟨false,[1],[1]⟩)(H:p ⟨false,[1],[2]⟩)(aq:p ⟨false,[1],[1000]⟩)(aE:p ⟨false,[30],[1]⟩){x:bS}(G:x.cY):p x:=by
  simp only[bS.cY,Ik,gT,iP,or_false]at G;rcases G with rfl|rfl|rfl|rfl|rfl
  · exact cR
  · exact D
  · exact H
  · exact aq
  · exact aE
theorem Qa{x:bS}(aa:x.cY):bK al 170 [dw x] (.bool x.bA.small):=
  A6 (p:= λx=>bK al 170 [dw x] (.bool x.bA.small)) (gf (by kernel_rfl)) (gf (by kernel_rfl)) (gf (by kernel_rfl)) (gf (by kernel_rfl)) (gf (by kernel_rfl)) aa
theorem Od{x:bS}(aa:x.cY):bK al 171 [dw x] (.bool (decide (0<x.bA.n))):=
  A6 (p:= λx=>bK al 171 [dw x] (.bool (decide (0<x.bA.n)))) (gf (by kernel_rfl)) (gf (by kernel_rfl)) (gf (by kernel_rfl)) (gf (by kernel_rfl)) (gf (by kernel_rfl)) aa
theorem auG{x:bS}(aa:x.cY):bK al 230 [dw x] (.bool (decide (nJ x.bA .ni<=0))):=
  A6 (p:= λx=>bK al 230 [dw x] (.bool (decide (nJ x.bA .ni<=0)))) (gf (by kernel_rfl)) (gf (by kernel_rfl)) (gf (by kernel_rfl)) (gf (by kernel_rfl)) (gf (by kernel_rfl)) aa
theorem aeP{x:bS}(aa:x.cY):bK al 140 [dw x] (.bool x.bA.small):=
  A6 (p:= λx=>bK al 140 [dw x] (.bool x.bA.small)) (gf (by kernel_rfl)) (gf (by kernel_rfl)) (gf (by kernel_rfl)) (gf (by kernel_rfl)) (gf (by kernel_rfl)) aa
theorem Tg{x:bS}(aa:x.cY)(aGx:x.bA.ok=true):bK al 139 [dw x] (Z (nJ x.bA .nil)):=
  A6 (p:= λx=>bK al 139 [dw x] (Z (nJ x.bA .nil))) (gf (by kernel_rfl)) (gf (by kernel_rfl)) (gf (by kernel_rfl)) (gf (by kernel_rfl)) (gf (by kernel_rfl)) aa
theorem axs{x:bS}(aa:x.cY):bK al 138 [dw x] (.bool x.bA.ok):=
  A6 (p:= λx=>bK al 138 [dw x] (.bool x.bA.ok)) (gf (by kernel_rfl)) (gf (by kernel_rfl)) (gf (by kernel_rfl)) (gf (by kernel_rfl)) (gf (by kernel_rfl)) aa
theorem awI{x:bS}(aa:x.cY):bK al 199 [dw ⟨false,[1],[1]⟩,dw x] (.bool (decide (nJ .ni x.bA<0))):=
  A6 (p:= λx=>bK al 199 [dw ⟨false,[1],[1]⟩,dw x] (.bool (decide (nJ .ni x.bA<0)))) (gf (by kernel_rfl)) (gf (by kernel_rfl)) (gf (by kernel_rfl)) (gf (by kernel_rfl)) (gf (by kernel_rfl)) aa
theorem qm:bK al 193 [Z 1] (dw ⟨false,[1],[1]⟩):=gf (by kernel_rfl)
theorem aiw:bK al 59 [Z 0,Z 1] (dw ⟨false,[],[1]⟩):=by have h:bK al 59 [Z 0,Z 1] (.agg #[.bool false,.slice none 0 0,bM [1]]):=gf (by kernel_rfl);intro u m cj dv ax;refine(h u m cj dv ax).b6 λr an ⟨D,H,cr,aq,aE,bq⟩=>⟨D,H,cr,aq,aE,?_⟩;obtain⟨ys,rfl,aD⟩:=bq.q0;obtain⟨a,b,c,e,aQ,a7,cD⟩:=bj.ayJ (x:= .bool false) (y:= .slice none 0 0) (I:=bM [1]) aD;have dX:ys= #[a,b,c]:=Bf.1 e;subst dX;rw[a7.hC rfl];exact bj.agg (bj.cons aQ (bj.cons (.hf rfl) (bj.cons cD bj.nil)))
theorem aix:bK al 59 [Z 1,Z 1] (dw ⟨false,[1],[1]⟩):=gf (by kernel_rfl)
theorem aiy:bK al 59 [Z 1,Z 2] (dw ⟨false,[1],[2]⟩):=gf (by kernel_rfl)
theorem aiz:bK al 59 [Z 1,Z 1000] (dw ⟨false,[1],[1000]⟩):=gf (by kernel_rfl)
theorem aiA:bK al 59 [Z 30,Z 1] (dw ⟨false,[30],[1]⟩):=gf (by kernel_rfl)
theorem HL:bK al 174 [Z 1,Z 1] (.tuple #[dw ⟨false,[1],[1]⟩,Z 0]):=gf (by kernel_rfl)
theorem HM:bK al 173 [hz [⟨false,[1],[1]⟩]] (.tuple #[dw ⟨false,[1],[1]⟩,Z 0]):=gf (by kernel_rfl)
theorem HK:bK al 175 [dw ⟨false,[1],[1]⟩,dw ⟨false,[1],[1]⟩] (.tuple #[Z 0,Z 0]):=gf (by kernel_rfl)
theorem rf:bK al 191 [hz [⟨false,[1],[1]⟩]] (.tuple #[dw ⟨false,[1],[1]⟩,Z 0]):=gf (by kernel_rfl)
theorem re:bK al 192 [dw ⟨false,[1],[1]⟩,dw ⟨false,[1],[1]⟩] (.bool true):=gf (by kernel_rfl)
end
theorem Ug{x:Int}(cR:0<=x)(D:x<4294967296):IntKind.u32.wrap x=x:=by show x%4294967296=x;omega
theorem Uh{x:Int}(cR:0<=x)(D:x<18446744073709551616):IntKind.u64.wrap x=x:=by show x%18446744073709551616=x;omega
theorem Uu:IntKind.i64.wrap 0=0:=by decide
theorem Uv:IntKind.i64.wrap 1=1:=by decide
theorem Uw:IntKind.i64.wrap 2=2:=by decide
theorem Ux:IntKind.i64.wrap (-1)= -1:=by decide
theorem UG:IntKind.u64.wrap 0=0:=by decide
theorem UH:IntKind.u64.wrap 1=1:=by decide
theorem UI:IntKind.u32.wrap 0=0:=by decide
attribute [local simp] Uu Uv Uw Ux UG UH UI
theorem Td{x:Int}: ∀r∈[[eP x]],r.length=1/\ ∀v∈r,gN v=true:= λr az=>by simp at az;subst az;exact⟨rfl,λv ad=>by simp at ad;subst ad;rfl⟩
theorem aAf{x:Int}(G:x≠0):bK al 248 [bM [x]] (Z 1):=by refine et (dM (aB:=⟨[],[]⟩) abj (by kernel_rfl) (by simp[Lh]) ?_);simp(disch:=first|omega|simp only[DI.ab];omega) [Lh,abi,abk,abl,abm,-O,-U,-N,-S,-List.map_map];refine eu (aB:=⟨[],[]⟩) λcx bk=> ?_;simp(disch:=first|omega|simp only[DI.ab];omega) [abn,G,-O,-U,-N,-S,-List.map_map]
noncomputable def tv:bE al:= .dR 248 Int (λx=>x≠0) (λx=>[bM [x]]) (λ_=>Z 1) λ_ h=>aAf h
@[simp] theorem aKT:tv.f=248:=rfl
@[simp] theorem aKU{x:Int}(h:x≠0):tv.fn [aw [[eP x]] 1]=some (Z 1):=bE.eH (x:=x) h λy ag=>by simpa using ag
theorem aAe{x:Int}(G:x≠0):bK al 271 [bM [x]] (.bool false):=by refine et (dM (aB:=⟨[tv],[]⟩) abR (by kernel_rfl) (by simp[Ln]) ?_);simp(disch:=first|omega|simp only[DI.ab];omega) [Ln,abQ,abS,-O,-U,-N,-S,-List.map_map]
noncomputable def DB:bE al:= .dR 271 Int (λx=>x≠0) (λx=>[bM [x]]) (λ_=> .bool false) λ_ h=>aAe h
@[simp] theorem aKR:DB.f=271:=rfl
@[simp] theorem aKS{x:Int}(h:x≠0):DB.fn [aw [[eP x]] 1]=some (.bool false):=bE.eH (x:=x) h λy ag=>by simpa using ag
theorem aAk{x:Int}(G:x≠0):bK al 253 [bM [x]] (bM [x]):=by refine et (dM (aB:=⟨[tv],[]⟩) abx (by kernel_rfl) (by simp[Lk]) ?_);simp(disch:=first|omega|simp only[DI.ab];omega) [Lk,abw,aby,-O,-U,-N,-S,-List.map_map];exact sG (n:=8) (a8:=[[eP x]]) (w:=true) (by simp(disch:=first|omega|simp only[DI.ab];omega) [-O,-U,-N,-S,-List.map_map]) rfl Td
noncomputable def ym:bE al:= .dR 253 Int (λx=>x≠0) (λx=>[bM [x]]) (λx=>bM [x]) λ_ h=>aAk h
@[simp] theorem aK3:ym.f=253:=rfl
@[simp] theorem aK4{x:Int}(h:x≠0):ym.fn [aw [[eP x]] 1]=some (bM [x]):=bE.eH (x:=x) h λy ag=>by simpa using ag
theorem az8{x y:Int}(G:x≠0)(ag:y≠0):bK al 222 [bM [x],bM [y]] (Z (if x<y then-1 else if x>y then 1 else 0)):=by
  refine et (dM (aB:=⟨[tv],[]⟩) aaB (by kernel_rfl) (by simp[K3]) ?_);simp(disch:=first|omega|simp only[DI.ab];omega) [K3,aaA,aaC,aaD,aaE,-O,-U,-N,-S,-List.map_map];refine eu (aB:=⟨[tv],[]⟩) λcx bk=> ?_;by_cases ch:x<y
  · simp(disch:=first|omega|simp only[DI.ab];omega) [GB,Cr,Cs,ch,-O,-U,-N,-S,-List.map_map]
  by_cases c6:x>y
  · simp(disch:=first|omega|simp only[DI.ab];omega) [GB,Cr,Cs,ch,c6,-O,-U,-N,-S,-List.map_map]
  simp(disch:=first|omega|simp only[DI.ab];omega) [GB,Cr,Cs,ch,c6,-O,-U,-N,-S,-List.map_map];refine bk _ _ (eu (aB:=⟨[tv],[]⟩) λcx bk=> ?_);simp(disch:=first|omega|simp only[DI.ab];omega) [GB,Cr,Cs,Cs,Cr,ch,c6,-O,-U,-N,-S,-List.map_map]
noncomputable def Nq:bE al:= .dR 222 (Int×Int) (λx=>x.1≠0/\x.2≠0) (λx=>[bM [x.1],bM [x.2]]) (λx=>Z (if x.1<x.2 then-1 else if x.1>x.2 then 1 else 0)) λ_ h=>az8 h.1 h.2
@[simp] theorem aKM:Nq.f=222:=rfl
@[simp] theorem aKN{x y:Int}(h:x≠0/\y≠0):Nq.fn [aw [[eP x]] 1,aw [[eP y]] 1]=some (Z (if x<y then-1 else if x>y then 1 else 0)):=bE.eH (x:=(x,y)) h λ⟨a,b⟩ ag=>by simpa using ag
theorem aAh:bK al 217 [.int .u64 0] (bM []):=gf (by kernel_rfl)
noncomputable def TU:bE al:= .dR 217 Unit (λ_=>True) (λ_=>[.int .u64 0]) (λ_=>bM []) λ_ _=>aAh
@[simp] theorem aKX:TU.f=217:=rfl
@[simp] theorem aKY:TU.fn [.int .u64 0]=some (bM []):=bE.eH (x:=()) trivial λ_ _=>rfl
section
variable {I:Int} (D:2<=I) (H:I<200)
include D H
theorem aAj:bK al 278 [bM [I],.int .u32 1] (.tuple #[bM [I],.int .u32 0]):=by
  have bD:I≠0:=by omega
  have c3:IntKind.u64.wrap I=I:=Uh (by omega) (by omega);have e3:IntKind.u32.wrap I=I:=Ug (by omega) (by omega);have aK:I.tdiv 1=I:=by simp
  have aR:I.tmod 1=0:=by simp
  refine et (dM (aB:=⟨[tv],[]⟩) abZ (by kernel_rfl) (by simp[Lo]) ?_);simp(disch:=first|omega|simp only[DI.ab];omega) [Lo,abY,ab0,ab1,ab2,-O,-U,-N,-S,-List.map_map];refine eu (aB:=⟨[tv],[]⟩) λcx bk=> ?_;have mT:max (I%2^IntKind.u64.bits) 0=I:=by show max (I%18446744073709551616) 0=I;omega
  simp(disch:=first|omega|simp only[DI.ab];omega) [RD,Lp,Lq,Lr,c3,e3,mT,aK,aR,-O,-U,-N,-S,-List.map_map];refine bk _ _ (eu (aB:=⟨[tv],[]⟩) λcx bk=> ?_);simp(disch:=first|omega|simp only[DI.ab];omega) [RD,Lp,Lq,Lr,Lr,Lp,Lq,qM,ql,-O,-U,-N,-S,-List.map_map];simp(disch:=first|omega|simp only[DI.ab];omega) [aiG,-O,-U,-N,-S,-List.map_map]
theorem az9:bK al 273 [bM [1],bM [I]] (.tuple #[.slice none 0 0,bM [1]]):=by
  have bD:I≠0:=by omega
  have c:(1:Int)<I:=by omega
  have gk:(1:Int)≠0:=by decide
  refine et (dM (aB:=⟨[Nq,ym],[]⟩) RB (by kernel_rfl) (by simp[CC]) ?_);simp(disch:=first|omega|simp only[DI.ab];omega) [CC,RA,RC,c,-O,-U,-N,-S,-List.map_map]
noncomputable def TW:bE al:= .dR 278 Unit (λ_=>True) (λ_=>[bM [I],.int .u32 1]) (λ_=> .tuple #[bM [I],.int .u32 0]) λ_ _=>aAj D H
@[simp] theorem aK1:(TW D H).f=278:=rfl
@[simp] theorem aK2:(TW D H).fn [aw [[eP I]] 1,.int .u32 1]=some (.tuple #[bM [I],.int .u32 0]):=bE.eH (x:=()) trivial λ_ _=>rfl
theorem aAa:bK al 273 [bM [I],bM [1]] (.tuple #[bM [I],bM []]):=by
  have bD:I≠0:=by omega
  have c: ¬I<1:=by omega
  have c6:I>1:=by omega
  have iq:(1:Int)<I:=by omega
  have gk:(1:Int)≠0:=by decide
  refine et (dM (aB:=⟨[Nq,TW D H,TU],[]⟩) RB (by kernel_rfl) (by simp[CC]) ?_);simp(disch:=first|omega|simp only[DI.ab];omega) [CC,RA,RC,abU,abV,c,c6,-O,-U,-N,-S,-List.map_map]
noncomputable def AS:bE al:= .dR 273 Bool (λ_=>True) (λb=>if b then[bM [1],bM [I]]else[bM [I],bM [1]]) (λb=>if b then .tuple #[.slice none 0 0,bM [1]]else .tuple #[bM [I],bM []]) λb _=>by
  cases b
  · exact aAa D H
  · exact az9 D H
@[simp] theorem aKO:(AS D H).f=273:=rfl
theorem axZ:(AS D H).fn [aw [[eP 1]] 1,aw [[eP I]] 1]=some (.tuple #[.slice none 0 0,bM [1]]):=bE.eH (x:=true) trivial λb hb=>by
  cases b
  · simp at hb;omega
  · rfl
theorem ax0:(AS D H).fn [aw [[eP I]] 1,aw [[eP 1]] 1]=some (.tuple #[bM [I],bM []]):=bE.eH (x:=false) trivial λb hb=>by
  cases b
  · rfl
  · simp at hb;omega
theorem aAc:bK al 251 [bM [1],bM [I]] (.tuple #[bM [1],Z 0]):=by
  have bD:I≠0:=by omega
  have gk:(1:Int)≠0:=by decide
  have hP:=axZ D H;have hd:=ax0 D H;refine et (dM (aB:=⟨[DB,ym,AS D H],[]⟩) abr (by kernel_rfl) (by simp[Li]) ?_);simp(disch:=first|omega|simp only[DI.ab];omega) [Li,abq,abt,abu,abv,-O,-U,-N,-S,-List.map_map];refine eu (aB:=⟨[DB,ym,AS D H],[]⟩) λcx bk=> ?_;simp(disch:=first|omega|simp only[DI.ab];omega) [Lj,GO,hP,-O,-U,-N,-S,-List.map_map];refine bk _ _ (eu (aB:=⟨[DB,ym,AS D H],[]⟩) λcx bk=> ?_);simp(disch:=first|omega|simp only[DI.ab];omega) [Lj,GO,hd,-O,-U,-N,-S,-List.map_map];refine bk _ _ (eu (aB:=⟨[DB,ym,AS D H],[]⟩) λcx bk=> ?_);simp(disch:=first|omega|simp only[DI.ab];omega) [Lj,GO,GO,-O,-U,-N,-S,-List.map_map]
omit D H in
theorem ahl: ∀(n:Nat) (v k:Int),0<=v->v<2^n->0<=k->k+n<=1000-> ∃eX,k<=eX/\eX<=k+n/\(0<v->k<eX)/\ ∀(z:aM) (t:W) (Q:du->aM->W->Prop),z 5=eP v->z 4=Z k->
    (∀ae,ae 4=Z eX->Q (.bh 0) ae t)->fl al (.loop Gz) z t Q:=by
  intro n;induction n with
  | zero=>intro v k cR D _ _;have ad:v=0:=(by simp at D;omega);subst ad;refine⟨k,Int.le_refl _,by omega,λh=>absurd h (by decide),λz t Q ct j2 bT=> ?_⟩;refine eu (aB:=⟨[],[]⟩) λcx bk=> ?_;simp(disch:=first|omega|simp only[DI.ab];omega) [Gz,K0,ct,-O,-U,-N,-S,-List.map_map];exact bT _ (by simp[j2])
  | succ n cc=>
    intro v k cR D aa au;by_cases ad:v=0
    · subst ad;refine⟨k,Int.le_refl _,by omega,λh=>absurd h (by decide),λz t Q ct j2 bT=> ?_⟩;refine eu (aB:=⟨[],[]⟩) λcx bk=> ?_;simp(disch:=first|omega|simp only[DI.ab];omega) [Gz,K0,ct,-O,-U,-N,-S,-List.map_map];exact bT _ (by simp[j2])
    · have ai:0<v:=(by omega);have aq:(2:Int)^(n+1)=2*2^n:=(by rw[Int.pow_succ];omega);obtain⟨eX,a,b,c,d⟩:=cc (v/2) (k+1) (by omega) (by omega) (by omega) (by omega);refine⟨eX,by omega,by omega,λ_=>by omega,λz t Q ct j2 bT=> ?_⟩;refine eu (aB:=⟨[],[]⟩) λcx bk=> ?_;have c3:IntKind.i64.wrap (k+1)=k+1:=fx (by omega) (by omega);simp(disch:=first|omega|simp only[DI.ab];omega) [Gz,K0,ct,j2,ai,c3,-O,-U,-N,-S,-List.map_map];refine bk _ _ (d _ _ _ ?_ (by simp) bT);rw[ayT,if_pos rfl,Int.fdiv_eq_ediv_of_nonneg _ (by decide)]
theorem N4: ∃b:Int,1<=b/\b<=8/\bK al 216 [bM [I]] (Z b):=by
  have bD:I≠0:=by omega
  obtain⟨eX,a,b,c,d⟩:=ahl 8 I 0 (by omega) (by show I<256;omega) (by omega) (by omega);refine⟨eX,by have:=c (by omega);omega,by omega,?_⟩;refine et (dM (aB:=⟨[tv],[]⟩) aah (by kernel_rfl) (by simp[KZ]) ?_);simp(disch:=first|omega|simp only[DI.ab];omega) [KZ,aag,aai,aaj,aak,aal,-O,-U,-N,-S,-List.map_map];refine d _ _ _ (by simp) (by simp) λae j2=> ?_;simp(disch:=first|omega|simp only[DI.ab];omega) [aam,j2,-O,-U,-N,-S,-List.map_map]
omit D H in
theorem ahk:bK al 216 [bM [1]] (Z 1):=gf (by kernel_rfl)
omit D H in
noncomputable def AR(b:Int)(hb:bK al 216 [bM [I]] (Z b)):bE al:= .dR 216 Bool (λ_=>True) (λc=>if c then[bM [1]]else[bM [I]]) (λc=>if c then Z 1 else Z b) λc _=>by
  cases c
  · exact hb
  · exact ahk
omit D H in
@[simp] theorem aKL{b:Int}{hb:bK al 216 [bM [I]] (Z b)}:(AR b hb).f=216:=rfl
theorem Np{b:Int}{hb:bK al 216 [bM [I]] (Z b)}:(AR b hb).fn [aw [[eP 1]] 1]=some (Z 1):=bE.eH (x:=true) trivial λc ar=>by
  cases c
  · simp at ar;omega
  · rfl
theorem TR{b:Int}{hb:bK al 216 [bM [I]] (Z b)}:(AR b hb).fn [aw [[eP I]] 1]=some (Z b):=bE.eH (x:=false) trivial λc ar=>by
  cases c
  · rfl
  · simp at ar;omega
noncomputable def TS:bE al:= .dR 251 Unit (λ_=>True) (λ_=>[bM [1],bM [I]]) (λ_=> .tuple #[bM [1],Z 0]) λ_ _=>aAc D H
@[simp] theorem aKP:(TS D H).f=251:=rfl
@[simp] theorem aKQ:(TS D H).fn [aw [[eP 1]] 1,aw [[eP I]] 1]=some (.tuple #[bM [1],Z 0]):=bE.eH (x:=()) trivial λ_ _=>rfl
theorem aAg:bK al 219 [.bool false,bM [1],bM [I]] (.tuple #[dw ⟨false,[1],[I]⟩,Z 0]):=by
  have bD:I≠0:=by omega
  have gk:(1:Int)≠0:=by decide
  obtain⟨b,dk,ev,hb⟩:=N4 D H;have db:=Np D H (hb:=hb);have dx:=TR D H (hb:=hb);have c: ¬b>4096:=by omega
  have l1: ¬(4096:Int)<b:=by omega
  refine et (dM (aB:=⟨[TS D H,AR b hb,ym],[]⟩) aaq (by kernel_rfl) (by simp[K1]) ?_);simp(disch:=first|omega|simp only[DI.ab];omega) [K1,aap,aar,aas,aat,aau,db,dx,c,dS,-O,-U,-N,-S,-List.map_map]
theorem aAl:bK al 221 [dw ⟨false,[1],[I]⟩] (.bool true):=by
  obtain⟨b,dk,ev,hb⟩:=N4 D H;have db:=Np D H (hb:=hb);have dx:=TR D H (hb:=hb);have c:0<b:=by omega
  have l1:b<=4096:=by omega
  refine et (dM (aB:=⟨[AR b hb],[]⟩) aax (by kernel_rfl) (by simp[K2]) ?_);simp(disch:=first|omega|simp only[DI.ab];omega) [K2,aaw,aay,aaz,db,dx,c,l1,dS,-O,-U,-N,-S,-List.map_map]
noncomputable def TT:bE al:= .dR 219 Unit (λ_=>True) (λ_=>[.bool false,bM [1],bM [I]]) (λ_=> .tuple #[dw ⟨false,[1],[I]⟩,Z 0]) λ_ _=>aAg D H
@[simp] theorem aKV:(TT D H).f=219:=rfl
@[simp] theorem aKW:(TT D H).fn [.bool false,aw [[eP 1]] 1,aw [[eP I]] 1]=some (.tuple #[dw ⟨false,[1],[I]⟩,Z 0]):=bE.eH (x:=()) trivial λ_ _=>rfl
noncomputable def TX:bE al:= .dR 221 Unit (λ_=>True) (λ_=>[dw ⟨false,[1],[I]⟩]) (λ_=> .bool true) λ_ _=>aAl D H
@[simp] theorem aK5:(TX D H).f=221:=rfl
@[simp] theorem aK6:(TX D H).fn [.agg #[.bool false,aw [[eP 1]] 1,aw [[eP I]] 1]]=some (.bool true):=bE.eH (x:=()) trivial λ_ _=>rfl
theorem aAi:bK al 215 [dw ⟨false,[1],[I]⟩] (.tuple #[dw ⟨false,[1],[I]⟩,Z 0]):=by refine et (dM (aB:=⟨[TX D H,TT D H],[]⟩) aad (by kernel_rfl) (by simp[KY]) ?_);simp(disch:=first|omega|simp only[DI.ab];omega) [KY,aac,aae,aaf,dS,-O,-U,-N,-S,-List.map_map]
noncomputable def TV:bE al:= .dR 215 Unit (λ_=>True) (λ_=>[dw ⟨false,[1],[I]⟩]) (λ_=> .tuple #[dw ⟨false,[1],[I]⟩,Z 0]) λ_ _=>aAi D H
@[simp] theorem aKZ:(TV D H).f=215:=rfl
@[simp] theorem aK0:(TV D H).fn [.agg #[.bool false,aw [[eP 1]] 1,aw [[eP I]] 1]]=some (.tuple #[dw ⟨false,[1],[I]⟩,Z 0]):=bE.eH (x:=()) trivial λ_ _=>rfl
theorem aAd:bK al 170 [dw ⟨false,[1],[I]⟩] (.bool true):=by
  obtain⟨b,dk,ev,hb⟩:=N4 D H;have db:=Np D H (hb:=hb);have dx:=TR D H (hb:=hb);have c:b<=32:=by omega
  refine et (dM (aB:=⟨[TV D H,AR b hb],[]⟩) Zm (by kernel_rfl) (by simp[Ky]) ?_);simp(disch:=first|omega|simp only[DI.ab];omega) [Ky,Zl,Zn,Zo,db,dx,c,dS,-O,-U,-N,-S,-List.map_map]
theorem ago:bK al 171 [dw ⟨false,[1],[I]⟩] (.bool true):=by obtain⟨b,dk,ev,hb⟩:=N4 D H;have db:=Np D H (hb:=hb);refine et (dM (aB:=⟨[AR b hb],[]⟩) Zq (by kernel_rfl) (by simp[Kz]) ?_);simp(disch:=first|omega|simp only[DI.ab];omega) [Kz,Zp,Zr,db,dS,-O,-U,-N,-S,-List.map_map]
end
end Go.Proofs.YtmmkkggfmigppaaGreat
