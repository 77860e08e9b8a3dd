/- A part of the proof. -/
import Derived.Test.YtmmkkggfmigppaaGreatZdm
set_option linter.all false
set_option maxRecDepth 20000
set_option maxHeartbeats 16000000
noncomputable section
namespace Go.DI
open Go Go.RowKit
def Jq:Nat->Value->Value->Bool
 |0,_,_=>false
 | n+1,a,b=>match a,b with
   | .bool x,.bool y=>decide (x=y)
   | .int k x,.int c y=>decide (k=c)&&decide (x=y)
   | .string s,.string d=>decide (s.data.toList=d.data.toList)
   | .nilFunc,.nilFunc=>true
   | .nilIface,.nilIface=>true
   | .pointer none,.pointer none=>true
   | .slice none l z,.slice none e g=>Nat.beq l e&&Nat.beq z g
   | .agg xs,.agg ys=>iN (Jq n) xs.toList ys.toList
   | .tuple xs,.tuple ys=>iN (Jq n) xs.toList ys.toList
   | .func (.yield k) xs cs,.func (.yield c) ys ds=>Nat.beq k c&&(iN (Jq n) xs.toList ys.toList&&iN (Jq n) cs.toList ds.toList)
   |_,_=>false
where
 iN (f:Value->Value->Bool):List Value->List Value->Bool
 |[],[]=>true
 |x::l,y::k=>f x y&&iN f l k
 |_,_=>false
variable{f:Value->Value->Bool}{n:Nat}{P:Program}{args:List Value}{r:Value}
theorem dr(c: ∀a b,f a b=true->a=b): ∀{l k:List Value},Jq.iN f l k=true->l=k
 |[],[],_=>rfl
 |[],_::_,h=>by cases h
 |_::_,[],h=>by cases h
 | x::l,y::k,h=>by simp only[Jq.iN,AF]at h;rw[c x y h.1,dr c h.2]
theorem kH: ∀{n:Nat} (a b:Value),Jq n a b=true->a=b
 |0,_,_,h=>by cases h
 | n+1,a,b,h=>by
   have d: ∀a b,Jq n a b=true->a=b:= λa b h=>kH a b h;have c: ∀{xs ys:Array Value},Jq.iN (Jq n) xs.toList ys.toList=true->xs=ys:= λ{xs ys} h=>Array.toList_inj.1 (dr d h);simp only[Jq]at h;split at h
   ·simp_all
   ·simp_all
   ·next s e=>
    have:=of_decide_eq_true h;obtain⟨⟨l⟩⟩:=s;obtain⟨⟨f⟩⟩:=e
    simp_all
   ·rfl
   ·rfl
   ·rfl
   ·simp_all
   ·rw[c h]
   ·rw[c h]
   ·grind [Nat.beq_eq]
   ·cases h
def M4(n:Nat)(l k:List Value):Bool:=Jq.iN (Jq n) l k
theorem aAs{l k:List Value}(h:M4 n l k=true):l=k:=dr (λa b h=>kH a b h) h
abbrev IJ:=List (Nat×List Value×Value)
def Xp(f:Nat)(ts:List Value):IJ->Option Value
 |[]=>none
 |p::l=>bif Nat.beq p.1 f&&M4 30 p.2.1 ts then some p.2.2 else Xp f ts l
def h8(f:Nat):IJ->Bool
 |[]=>false
 |p::l=>Nat.beq p.1 f||h8 f l
def JT(P:Program)(l:IJ):Prop:= ∀p∈l,AO P p.1 p.2.1 p.2.2
theorem pT{P:Program}{f:Nat}{ts:List Value}{r:Value}: ∀{l:IJ},JT P l->Xp f ts l=some r->AO P f ts r
 |[],_,h=>by cases h
 | p::l,a,h=>by
   simp only[Xp]at h;cases hb:Nat.beq p.1 f&&M4 30 p.2.1 ts with
   |false=>rw[hb]at h;exact pT (λq b=>a q (by simp[b])) h
   | true=>rw[hb]at h;simp only[cond_true,Fx]at h;simp only[AF,Nat.beq_eq]at hb;rw[<-hb.1,<-aAs hb.2,<-h];exact a p (by simp)
def j0(jo:IJ)(f:Nat)(args:List Value)(a:C7):Option (Value×C7):=match Ms 9 (Al a) args with
 | some ts=>(match Xp f ts jo with
   | some r=>if G4 r then(match QL a (args.flatMap (BL 9 (Al a)))with
    |some b=>some (r,b)
    |none=>none)
    else(match So a (args.flatMap (BL 9 (Al a)))with
     |some b=>some (r,b)
     |none=>none)
   |none=>none)
 |none=>none
variable{jo l:IJ}{d:Nat}{j:Hv}{i:Nat->Option HT}{p:Nat×List Value×Value}
theorem aDN(e:JT P jo){f:Nat}{b cX:C7}(l:CJ b)(h:j0 jo f args b=some (r,cX)):CJ cX/\Bh P f args (Al b) λa c=>a=r/\c=Al cX:=by
 have n: ∀{ts:List Value},∀d:AO P f ts r,O6 [ZM d] f args (Al b) (λa c=>a=r/\c=Al cX)->Bh P f args (Al b) λa c=>a=r/\c=Al cX:= λ{ts} d q o p s m g i=>by
  refine(eF g i q).AD λa t u=> ?_
  grind
 unfold j0 at h;split at h
 ·next ts v=>
  split at h
  ·next j k=>
   have d:AO P f ts j:=pT e k
   grind [Zv,hZ,WL]
  ·cases h
 ·cases h
def W0(i:Nat->Option HT)(jo:IJ)(j:Hv)(n:Nat):Nat->Hv
 |0=> λ_ _ _=>none
 | d+1=> λf args a=>match j f args a with
   |some x=>some x
   | none=>bif h8 f jo then j0 jo f args a else match i f with
     |some Fn=>if Nat.ble args.length Fn.cv&&Nat.blt args.length 1000000 then au Fn.Mn (K5 (W0 i jo j n d) n Fn.body (Qj args 0 .nil) a)else none
     |none=>none
theorem mD{P:Program}{i:Nat->Option HT}(t:b3 P i){jo:IJ}(u:JT P jo){j:Hv}(v:KW P j){n:Nat}: ∀d,KW P (W0 i jo j n d)
 |0=> λf args c r cX g h=>by cases h
 | d+1=> λf args c r cX g h=>by
   simp only[W0]at h;cases k:j f args c with
   |some x=>rw[k]at h;cases h;exact v _ _ _ _ _ g k
   |none=>
   rw[k]at h;simp only at h;cases hb:h8 f jo with
   |true=>rw[hb]at h;exact aDN u g h
   |false=>
   rw[hb]at h;simp only[cond_false]at h;split at h
   ·next Fn C=>
    obtain⟨D,E⟩:=t f Fn C;split at h
    ·next l=>
     simp only[AF,Nat.ble_eq,Nat.blt_eq]at l;cases o:K5 (W0 i jo j n d) n Fn.body (Qj args 0 .nil) c with
     |none=>rw[o]at h;cases h
     | some x=>
       obtain⟨e,S,p⟩:=x;rw[o]at h;obtain⟨w,q⟩:=OD (mD t u v d) E g o;have U:e≠ .Ao 0->(∀id,e≠ .Ao id)->Fi (Al p) (FY S) Fn.Mn=true->r=Fv (Al p) (FY S) Fn.Mn->cX=p->CJ cX/\Bh P f args (Al c) λF G=>F=r/\G=Al cX:= λ_ H I J K=>by
        subst J;subst K;refine⟨w,λL M N m O y=> ?_⟩;rw[DV D (by rw[<-y.1];exact l.1)];refine(q L M (CQ N) m O (by rw[a5f l.2];exact D5.init y)).AD λQ V W R=> ?_;obtain⟨rfl,z,A,s,T,B⟩:=R;obtain⟨a,b⟩:=ib s T I;cases Q with
        |Ao id=>exact absurd rfl (H id)
        |CK=>exact⟨a,z,A,_,_,⟨rfl,rfl⟩,s,b,B⟩
        |Cz=>exact⟨a,z,A,_,_,⟨rfl,rfl⟩,s,b,B⟩
       cases e with
       |Ao id=>simp only[au]at h;cases h
       | CK=>
         grind [au]
       | Cz=>
         grind [au]
    ·cases h
   ·cases h
def lI(i:Nat->Option HT)(jo:IJ)(j:Hv)(n d f:Nat)(args:List Value)(r:Value):Bool:=match W0 i jo j n d f args Tb with
 | some (v,a)=>(match B3 9 (Al a) v with
   |some b=>Jq 30 b r
   |none=>false)
 |none=>false
theorem N7(b:b3 P i)(c:JT P jo)(e:KW P j){f:Nat}(h:lI i jo j n d f args r=true):AO P f args r:=by
 unfold lI at h;split at h
 ·next v l g=>
  obtain⟨w,q⟩:=mD b c e d f args Tb _ _ xU g;rw[wB]at q;split at h
  ·next m k=>have:=kH _ _ h;subst this;exact BQ (q.AD λo p a=>by rw[a.1,a.2];exact k)
  ·cases h
 ·cases h
def nj:Hv:= λ_ _ _=>none
theorem aBX:KW P nj:= λ_ _ _ _ _ _ h=>by cases h
def me(i:Nat->Option HT)(jo:IJ)(n d f:Nat)(args:List Value)(r:Value):Bool:=lI i jo nj n d f args r
theorem a8g(a:b3 P i)(b:JT P jo){f:Nat}(h:me i jo n d f args r=true):AO P f args r:=N7 a b aBX h
theorem u0:JT P []:= λp a=>by cases a
theorem II(h:AO P p.1 p.2.1 p.2.2)(b:JT P l):JT P (p::l):= λq a=>by
 rcases CZ.1 a with rfl|a
 ·exact h
 ·exact b q a
end Go.DI
namespace Go.Proofs.YtmmkkggfmigppaaGreat
open Go Go.DI
section
set_option maxRecDepth 100000
def a6G:AU V 107:=AW
def nr:=G a6G.1.body
def cB:=AV V 107 ⟨21,[.DE 4 true 3,.AH 5],nr⟩
def zM:AU V 138:=AW
def x0:=G zM.1.body
def Xj:=AV V 138 ⟨22,[.AH 2],x0⟩
def a2H:AU V 139:=AW
def pw:=G a2H.1.body
def bI:=AV V 139 ⟨6,[.AH 2],pw⟩
def a1c:AU V 167:=AW
def uO:=G a1c.1.body
def YY:=AV V 167 ⟨51,[.DE 6 true 3],uO⟩
def aAc:AU V 169:=AW
def n8:=G aAc.1.body
def b6:=AV V 169 ⟨12,[.AH 2],n8⟩
def v9:AU V 173:=AW
def aBs:=G (A8 v9.1.body 75)
def yb:=(G λx=>AA 75 x v9.1.body) aBs
def uV:=AV V 173 ⟨30,[.DE 2 true 3,.AH 3],yb⟩
def a23:AU V 174:=AW
def aB1:=G a23.1.body
def qk:=AV V 174 ⟨21,[.DE 4 true 3,.AH 5],aB1⟩
def a0x:AU V 175:=AW
def aBc:=G a0x.1.body
def xu:=AV V 175 ⟨54,[.AH 4,.AH 5],aBc⟩
def sj:AU V 191:=AW
def a7n:=G (A8 sj.1.body 75)
def a8i:=(G λx=>AA 75 x sj.1.body) a7n
def vk:=AV V 191 ⟨30,[.DE 2 true 3,.AH 3],a8i⟩
def a8G:AU V 192:=AW
def a3X:=G a8G.1.body
def q8:=AV V 192 ⟨9,[.AH 4],a3X⟩
def a1L:AU V 193:=AW
def zR:=G a1L.1.body
def xR:=AV V 193 ⟨11,[.DE 2 true 3],zR⟩
def aAX:AU V 195:=AW
def qb:=G aAX.1.body
def ZO:=AV V 195 ⟨53,[.AH 4],qb⟩
def a7F:AU V 196:=AW
def md:=G a7F.1.body
def ZB:=AV V 196 ⟨15,[.DE 2 true 3,.AH 3],md⟩
def a5A:AU V 199:=AW
def aBB:=G a5A.1.body
def rH:=AV V 199 ⟨9,[.AH 4],aBB⟩
def a7i:AU V 215:=AW
def yM:=G a7i.1.body
def Zb:=AV V 215 ⟨17,[.DE 2 true 3,.AH 3],yM⟩
def zG:AU V 218:=AW
def aCs:=G zG.1.body
def r5:=AV V 218 ⟨87,[.DE 4 true 3,.AH 5],aCs⟩
def a7K:AU V 219:=AW
def wD:=G a7K.1.body
def X4:=AV V 219 ⟨53,[.DE 6 true 3,.AH 7],wD⟩
def aDF:AU V 220:=AW
def aAN:=G aDF.1.body
def y1:=AV V 220 ⟨12,[.AH 2],aAN⟩
def a3k:AU V 221:=AW
def qR:=G a3k.1.body
def dC:=AV V 221 ⟨19,[.AH 2],qR⟩
def a1I:AU V 223:=AW
def a7Z:=G a1I.1.body
def vN:=AV V 223 ⟨14,[.AH 4],a7Z⟩
def a2D:AU V 239:=AW
def a2a:=G a2D.1.body
def pX:=AV V 239 ⟨90,[.DE 4 true 3,.AH 5],a2a⟩
def a3i:AU V 240:=AW
def pO:=G a3i.1.body
def ao:=AV V 240 ⟨14,[.AH 4],pO⟩
def a4u:AU V 258:=AW
def a6F:=G a4u.1.body
def x9:=AV V 258 ⟨8,[.DE 2 true 3,.AH 3],a6F⟩
def a1O:AU V 275:=AW
def a40:=G a1O.1.body
def uX:=AV V 275 ⟨13,[.AH 2],a40⟩
end
section
set_option maxRecDepth 100000
def IS:AU V 87:=AW
def eD:=G (A8 IS.1.body 815)
def ba:=(G λx=>AA 3 x (A8 IS.1.body 303)) eD
def XB:=G (A8 IS.1.body 607)
def cm:=G (A8 IS.1.body 4863)
def XF:=G (A8 IS.1.body 9727)
def YH:=G (A8 IS.1.body 1285442559)
def Zh:=(G λx=>AA 153 x (A8 IS.1.body 10374143)) YH
def aN:=(G λx=>AA 633 x (A8 IS.1.body 19455)) Zh
def Yc:=G (A8 IS.1.body 38911)
def nL:=G (A8 IS.1.body 8191)
def u2:=(G λx y=>AA 3 y (AA 18 x (A8 IS.1.body 4095))) Yc nL
def tk:=(G λx y=>AA 3 y (AA 18 x (A8 IS.1.body 2047))) aN u2
def mV:=(G λx y=>AA 3 y (AA 18 x (A8 IS.1.body 1023))) XF tk
def kq:=(G λx y=>AA 3 y (AA 18 x (A8 IS.1.body 511))) cm mV
def ak:=(G λx=>AA 7 x (A8 IS.1.body 127)) kq
def wI:=(G λx y=>AA 3 y (AA 18 x (A8 IS.1.body 63))) XB ak
def y8:=(G λx y=>AA 63 y (AA 303 x IS.1.body)) ba wI
def q4:=AV V 87 ⟨397,[.AH 2],y8⟩
def a3N:AU V 134:=AW
def fe:=G a3N.1.body
def jV:=AV V 134 ⟨15,[.AH 6],fe⟩
def zF:AU V 135:=AW
def Q4:=G zF.1.body
def QD:=AV V 135 ⟨35,[.AH 12],Q4⟩
def aCO:AU V 136:=AW
def ZH:=G aCO.1.body
def aAK:=AV V 136 ⟨18,[.AH 4,.AH 5],ZH⟩
variable{a7:Value->X->Prop}{args:List Value}
theorem aCy{m:X}(h:args.length<=18):At V 136 args m a7=Az V ZH (CQ args) m (DQ [.AH 4,.AH 5] a7):=DV aAK.2 h
def TX:AU V 137:=AW
def ha:=G (A8 TX.1.body 151)
def fr:=G (A8 TX.1.body 10036415)
def hx:=(G λx=>AA 153 x (A8 TX.1.body 74943)) fr
def fI:=(G λx=>AA 73 x (A8 TX.1.body 1215)) hx
def ey:=G (A8 TX.1.body 2431)
def qd:=(G λx y z=>AA 2431 z (AA 1215 y (AA 151 x TX.1.body))) ha fI ey
def xG:=AV V 137 ⟨149,[.AH 2],qd⟩
def a6S:AU V 140:=AW
def rh:=G a6S.1.body
def X2:=AV V 140 ⟨29,[.AH 2],rh⟩
def k4:AU V 141:=AW
def YS:=G (A8 k4.1.body 75)
def Pl:=G (A8 k4.1.body 15)
def Um:=(G λx y=>AA 15 y (AA 75 x k4.1.body)) YS Pl
def WS:=AV V 141 ⟨37,[.AH 8],Um⟩
def aAB:AU V 142:=AW
def Uo:=G aAB.1.body
def Uh:=AV V 142 ⟨26,[.AH 8],Uo⟩
def ef:AU V 189:=AW
def Xd:=G (A8 ef.1.body 37)
def VW:=G (A8 ef.1.body 7)
def sc:=(G λx y=>AA 7 y (AA 37 x ef.1.body)) Xd VW
def qC:=AV V 189 ⟨19,[.AH 4],sc⟩
def iP:AU V 190:=AW
def Wf:=G (A8 iP.1.body 75)
def PW:=G (A8 iP.1.body 15)
def dG:=(G λx y=>AA 15 y (AA 75 x iP.1.body)) Wf PW
def WI:=AV V 190 ⟨21,[.AH 4],dG⟩
def aCt:AU V 197:=AW
def TR:=G aCt.1.body
def SU:=AV V 197 ⟨25,[.AH 4],TR⟩
def hH:AU V 198:=AW
def dR:=G (A8 hH.1.body 75)
def Ri:=G (A8 hH.1.body 15)
def kd:=(G λx y=>AA 15 y (AA 75 x hH.1.body)) dR Ri
def ld:=AV V 198 ⟨23,[.AH 4],kd⟩
end
section
set_option maxRecDepth 100000
def aBy:AU V 19:=AW
def cg:=G aBy.1.body
def Zq:=AV V 19 ⟨17,[.AH 4],cg⟩
def XS:AU V 48:=AW
def Uy:=G (A8 XS.1.body 4868683)
def Rn:=(G λx=>AA 297 x (A8 XS.1.body 19019)) Uy
def Zj:=(G λx=>AA 297 x (A8 XS.1.body 75)) Rn
def oZ:=(G λx=>AA 75 x XS.1.body) Zj
def a5:=AV V 48 ⟨66,[.AH 4],oZ⟩
def a4j:AU V 49:=AW
def RA:=G a4j.1.body
def Nv:=AV V 49 ⟨50,[.AH 4],RA⟩
def a79:AU V 59:=AW
def vu:=G a79.1.body
def bY:=AV V 59 ⟨14,[.DE 4 true 3],vu⟩
def Jo:AU V 60:=AW
def U9:=G (A8 Jo.1.body 428415)
def R1:=G (A8 Jo.1.body 641407)
def kx:=(G λx=>AA 19 x (A8 Jo.1.body 51583)) R1
def Sr:=(G λx y=>AA 12 y (AA 104 x (A8 Jo.1.body 6527))) U9 kx
def dU:=(G λx=>AA 3 x (A8 Jo.1.body 2431)) Sr
def k8:=G (A8 Jo.1.body 106926847)
def To:=(G λx=>AA 3 x (A8 Jo.1.body 39817983)) k8
def hv:=(G λx=>AA 4860 x (A8 Jo.1.body 13055)) To
def W6:=(G λx=>AA 3 x (A8 Jo.1.body 4863)) hv
def aI:=G (A8 Jo.1.body 9727)
def ow:=G (A8 Jo.1.body 2047)
def vh:=(G λx y=>AA 3 y (AA 18 x (A8 Jo.1.body 1023))) aI ow
def oW:=(G λx y=>AA 3 y (AA 18 x (A8 Jo.1.body 511))) W6 vh
def mr:=(G λx y=>AA 511 y (AA 2431 x Jo.1.body)) dU oW
def Yg:=AV V 60 ⟨206,[.DE 4 true 7],mr⟩
def rz:AU V 61:=AW
def Sk:=G (A8 rz.1.body 75)
def xe:=(G λx=>AA 75 x rz.1.body) Sk
def an:=AV V 61 ⟨35,[.AH 4],xe⟩
def yW:AU V 101:=AW
def uM:=G yW.1.body
def XP:=AV V 101 ⟨21,[.AH 4],uM⟩
def hV:AU V 102:=AW
def bt:=G (A8 hV.1.body 37)
def Vz:=G (A8 hV.1.body 7)
def qY:=(G λx y=>AA 7 y (AA 37 x hV.1.body)) bt Vz
def YF:=AV V 102 ⟨18,[.AH 4],qY⟩
def a1s:AU V 108:=AW
def qv:=G a1s.1.body
def cJ:=AV V 108 ⟨32,[.AH 8],qv⟩
def a0f:AU V 109:=AW
def vI:=G a0f.1.body
def dZ:=AV V 109 ⟨17,[.AH 4],vI⟩
end
open Go Go.DI Go.Big
section
set_option maxRecDepth 100000
def uH:List (Nat×HT):=[(59,bY.1),(107,cB.1),(138,Xj.1),(139,bI.1),(140,X2.1),(167,YY.1),(168,aT.1),(169,b6.1),(170,cq.1),(171,Zu.1),(173,uV.1),(174,qk.1),(175,xu.1),(191,vk.1),(192,q8.1),(193,xR.1),(194,Ro.1),(195,ZO.1),(196,ZB.1),(199,rH.1),(213,ZK.1),(215,Zb.1),(216,aD.1),(217,nm.1),(218,r5.1),(219,X4.1),(220,y1.1),(221,dC.1),(222,bu.1),(223,vN.1),(230,u6.1),(239,pX.1),(240,ao.1),(241,Zl.1),(246,YL.1),(247,St.1),(248,cM.1),(249,sJ.1),(251,ag.1),(253,XZ.1),(254,vT.1),(257,pZ.1),(258,x9.1),(274,u3.1),(275,uX.1),(260,bk.1),(268,XX.1),(271,Y6.1),(272,yD.1),(273,Rb.1),(278,YV.1)]
theorem a8O:XG V uH:=⟨⟨⟨by kernel_rfl,bY.2⟩,by kernel_rfl⟩,⟨⟨⟨by kernel_rfl,cB.2⟩,by kernel_rfl⟩,⟨⟨⟨by kernel_rfl,Xj.2⟩,by kernel_rfl⟩,⟨⟨⟨by kernel_rfl,bI.2⟩,by kernel_rfl⟩,⟨⟨⟨by kernel_rfl,X2.2⟩,by kernel_rfl⟩,⟨⟨⟨by kernel_rfl,YY.2⟩,by kernel_rfl⟩,⟨⟨⟨by kernel_rfl,aT.2⟩,by kernel_rfl⟩,⟨⟨⟨by kernel_rfl,b6.2⟩,by kernel_rfl⟩,⟨⟨⟨by kernel_rfl,cq.2⟩,by kernel_rfl⟩,⟨⟨⟨by kernel_rfl,Zu.2⟩,by kernel_rfl⟩,⟨⟨⟨by kernel_rfl,uV.2⟩,by kernel_rfl⟩,⟨⟨⟨by kernel_rfl,qk.2⟩,by kernel_rfl⟩,⟨⟨⟨by kernel_rfl,xu.2⟩,by kernel_rfl⟩,⟨⟨⟨by kernel_rfl,vk.2⟩,by kernel_rfl⟩,⟨⟨⟨by kernel_rfl,q8.2⟩,by kernel_rfl⟩,⟨⟨⟨by kernel_rfl,xR.2⟩,by kernel_rfl⟩,⟨⟨⟨by kernel_rfl,Ro.2⟩,by kernel_rfl⟩,⟨⟨⟨by kernel_rfl,ZO.2⟩,by kernel_rfl⟩,⟨⟨⟨by kernel_rfl,ZB.2⟩,by kernel_rfl⟩,⟨⟨⟨by kernel_rfl,rH.2⟩,by kernel_rfl⟩,⟨⟨⟨by kernel_rfl,ZK.2⟩,by kernel_rfl⟩,⟨⟨⟨by kernel_rfl,Zb.2⟩,by kernel_rfl⟩,⟨⟨⟨by kernel_rfl,aD.2⟩,by kernel_rfl⟩,⟨⟨⟨by kernel_rfl,nm.2⟩,by kernel_rfl⟩,⟨⟨⟨by kernel_rfl,r5.2⟩,by kernel_rfl⟩,⟨⟨⟨by kernel_rfl,X4.2⟩,by kernel_rfl⟩,⟨⟨⟨by kernel_rfl,y1.2⟩,by kernel_rfl⟩,⟨⟨⟨by kernel_rfl,dC.2⟩,by kernel_rfl⟩,⟨⟨⟨by kernel_rfl,bu.2⟩,by kernel_rfl⟩,⟨⟨⟨by kernel_rfl,vN.2⟩,by kernel_rfl⟩,⟨⟨⟨by kernel_rfl,u6.2⟩,by kernel_rfl⟩,⟨⟨⟨by kernel_rfl,pX.2⟩,by kernel_rfl⟩,⟨⟨⟨by kernel_rfl,ao.2⟩,by kernel_rfl⟩,⟨⟨⟨by kernel_rfl,Zl.2⟩,by kernel_rfl⟩,⟨⟨⟨by kernel_rfl,YL.2⟩,by kernel_rfl⟩,⟨⟨⟨by kernel_rfl,St.2⟩,by kernel_rfl⟩,⟨⟨⟨by kernel_rfl,cM.2⟩,by kernel_rfl⟩,⟨⟨⟨by kernel_rfl,sJ.2⟩,by kernel_rfl⟩,⟨⟨⟨by kernel_rfl,ag.2⟩,by kernel_rfl⟩,⟨⟨⟨by kernel_rfl,XZ.2⟩,by kernel_rfl⟩,⟨⟨⟨by kernel_rfl,vT.2⟩,by kernel_rfl⟩,⟨⟨⟨by kernel_rfl,pZ.2⟩,by kernel_rfl⟩,⟨⟨⟨by kernel_rfl,x9.2⟩,by kernel_rfl⟩,⟨⟨⟨by kernel_rfl,u3.2⟩,by kernel_rfl⟩,⟨⟨⟨by kernel_rfl,uX.2⟩,by kernel_rfl⟩,⟨⟨⟨by kernel_rfl,bk.2⟩,by kernel_rfl⟩,⟨⟨⟨by kernel_rfl,XX.2⟩,by kernel_rfl⟩,⟨⟨⟨by kernel_rfl,Y6.2⟩,by kernel_rfl⟩,⟨⟨⟨by kernel_rfl,yD.2⟩,by kernel_rfl⟩,⟨⟨⟨by kernel_rfl,Rb.2⟩,by kernel_rfl⟩,⟨⟨⟨by kernel_rfl,YV.2⟩,by kernel_rfl⟩,trivial⟩⟩⟩⟩⟩⟩⟩⟩⟩⟩⟩⟩⟩⟩⟩⟩⟩⟩⟩⟩⟩⟩⟩⟩⟩⟩⟩⟩⟩⟩⟩⟩⟩⟩⟩⟩⟩⟩⟩⟩⟩⟩⟩⟩⟩⟩⟩⟩⟩⟩⟩
variable{args:List Value}{f:Nat}{r:Value}{p:Am->Prop}{x:Am}
theorem Ch(h:me (Wa uH).Y [] 100000 80 f args r=true):AO V f args r:=a8g (Lt a8O) u0 h
theorem RO(b:p ⟨false,[],[1]⟩)(B:p ⟨false,[1],[1]⟩)(g:p ⟨false,[1],[2]⟩)(c:p ⟨false,[1],[1000]⟩)(d:p ⟨false,[30],[1]⟩)(a:x.BA):p x:=by
 simp only[Am.BA,VG,CZ,EK,or_false]at a;rcases a with rfl|rfl|rfl|rfl|rfl
 ·exact b
 ·exact B
 ·exact g
 ·exact c
 ·exact d
theorem hD(a:x.BA):AO V 170 [BK x] (.bool x.AZ.small):=
 RO (p:= λx=>AO V 170 [BK x] (.bool x.AZ.small)) (Ch (by kernel_rfl)) (Ch (by kernel_rfl)) (Ch (by kernel_rfl)) (Ch (by kernel_rfl)) (Ch (by kernel_rfl)) a
theorem fq(a:x.BA):AO V 171 [BK x] (.bool (decide (0<x.AZ.n))):=
 RO (p:= λx=>AO V 171 [BK x] (.bool (decide (0<x.AZ.n)))) (Ch (by kernel_rfl)) (Ch (by kernel_rfl)) (Ch (by kernel_rfl)) (Ch (by kernel_rfl)) (Ch (by kernel_rfl)) a
theorem a0Z(a:x.BA):AO V 230 [BK x] (.bool (decide (Iw x.AZ .Gx<=0))):=
 RO (p:= λx=>AO V 230 [BK x] (.bool (decide (Iw x.AZ .Gx<=0)))) (Ch (by kernel_rfl)) (Ch (by kernel_rfl)) (Ch (by kernel_rfl)) (Ch (by kernel_rfl)) (Ch (by kernel_rfl)) a
theorem lv(a:x.BA):AO V 140 [BK x] (.bool x.AZ.small):=
 RO (p:= λx=>AO V 140 [BK x] (.bool x.AZ.small)) (Ch (by kernel_rfl)) (Ch (by kernel_rfl)) (Ch (by kernel_rfl)) (Ch (by kernel_rfl)) (Ch (by kernel_rfl)) a
theorem jQ(a:x.BA)(b:x.AZ.ok=true):AO V 139 [BK x] (Z (Iw x.AZ .nil)):=
 RO (p:= λx=>AO V 139 [BK x] (Z (Iw x.AZ .nil))) (Ch (by kernel_rfl)) (Ch (by kernel_rfl)) (Ch (by kernel_rfl)) (Ch (by kernel_rfl)) (Ch (by kernel_rfl)) a
theorem a5V(a:x.BA):AO V 138 [BK x] (.bool x.AZ.ok):=
 RO (p:= λx=>AO V 138 [BK x] (.bool x.AZ.ok)) (Ch (by kernel_rfl)) (Ch (by kernel_rfl)) (Ch (by kernel_rfl)) (Ch (by kernel_rfl)) (Ch (by kernel_rfl)) a
theorem a3b(a:x.BA):AO V 199 [BK ⟨false,[1],[1]⟩,BK x] (.bool (decide (Iw .Gx x.AZ<0))):=
 RO (p:= λx=>AO V 199 [BK ⟨false,[1],[1]⟩,BK x] (.bool (decide (Iw .Gx x.AZ<0)))) (Ch (by kernel_rfl)) (Ch (by kernel_rfl)) (Ch (by kernel_rfl)) (Ch (by kernel_rfl)) (Ch (by kernel_rfl)) a
theorem JY:AO V 193 [Z 1] (BK ⟨false,[1],[1]⟩):=Ch (by kernel_rfl)
theorem a7w:AO V 59 [Z 0,Z 1] (BK ⟨false,[],[1]⟩):=by have h:AO V 59 [Z 0,Z 1] (.agg #[.bool false,.slice none 0 0,AT [1]]):=Ch (by kernel_rfl);intro d m f i j;refine(h d m f i j).AD λr v ⟨B,g,k,l,n,o⟩=>⟨B,g,k,l,n,?_⟩;obtain⟨ys,rfl,p⟩:=o.Ka;obtain⟨a,b,c,e,q,s,t⟩:=AJ.a7Q (x:= .bool false) (y:= .slice none 0 0) (z:=AT [1]) p;have u:ys= #[a,b,c]:=Array.toList_inj.1 e;subst u;rw[s.DF rfl];exact AJ.agg (AJ.cons q (AJ.cons (.OW rfl) (AJ.cons t AJ.nil)))
theorem zh:AO V 59 [Z 1,Z 1] (BK ⟨false,[1],[1]⟩):=Ch (by kernel_rfl)
theorem aCw:AO V 59 [Z 1,Z 2] (BK ⟨false,[1],[2]⟩):=Ch (by kernel_rfl)
theorem a0d:AO V 59 [Z 1,Z 1000] (BK ⟨false,[1],[1000]⟩):=Ch (by kernel_rfl)
theorem yi:AO V 59 [Z 30,Z 1] (BK ⟨false,[30],[1]⟩):=Ch (by kernel_rfl)
theorem Wh:AO V 174 [Z 1,Z 1] (.tuple #[BK ⟨false,[1],[1]⟩,Z 0]):=Ch (by kernel_rfl)
theorem WX:AO V 173 [DU [⟨false,[1],[1]⟩]] (.tuple #[BK ⟨false,[1],[1]⟩,Z 0]):=Ch (by kernel_rfl)
theorem Ul:AO V 175 [BK ⟨false,[1],[1]⟩,BK ⟨false,[1],[1]⟩] (.tuple #[Z 0,Z 0]):=Ch (by kernel_rfl)
theorem Kq:AO V 191 [DU [⟨false,[1],[1]⟩]] (.tuple #[BK ⟨false,[1],[1]⟩,Z 0]):=Ch (by kernel_rfl)
theorem Ko:AO V 192 [BK ⟨false,[1],[1]⟩,BK ⟨false,[1],[1]⟩] (.bool true):=Ch (by kernel_rfl)
end
variable{x y:Int}{args:List Value}{f:Nat}{r:Value}{a b:AN V}
theorem eI(a:0<=x)(B:x<4294967296):IntKind.u32.wrap x=x:=by show x%4294967296=x;omega
theorem eG(a:0<=x)(B:x<18446744073709551616):IntKind.u64.wrap x=x:=by show x%18446744073709551616=x;omega
theorem ih:IntKind.i64.wrap 0=0:=by decide
theorem ht:IntKind.i64.wrap 1=1:=by decide
theorem ij:IntKind.i64.wrap 2=2:=by decide
theorem jy:IntKind.i64.wrap (-1)= -1:=by decide
theorem k3:IntKind.u64.wrap 0=0:=by decide
theorem lE:IntKind.u64.wrap 1=1:=by decide
theorem eW:IntKind.u32.wrap 0=0:=by decide
attribute [local simp] ih ht ij jy k3 lE eW
theorem lX: ∀r∈[[Ag x]],r.length=1/\ ∀v∈r,DA v=true:= λr a=>by simp at a;subst a;exact⟨rfl,λv b=>by simp at b;subst b;rfl⟩
theorem a6f(a:x≠0):AO V 248 [AT [x]] (Z 1):=by refine BQ (Ax (aC:=⟨[],[]⟩) cM.2 ?_);simp[cM,lz];refine Ba (aC:=⟨[],[]⟩) λc d=> ?_;simp[qs,a]
abbrev MJ:AN V:= .B9 248 Int (λx=>x≠0) (λx=>[AT [x]]) (λ_=>Z 1) λ_ h=>a6f h
@[simp] theorem aHY(h:x≠0):MJ.fn [O [[Ag x]] 1]=some (Z 1):=AN.BH (x:=x) h λy a=>by simpa using a
theorem a3O(a:x≠0):AO V 271 [AT [x]] (.bool false):=by refine BQ (Ax (aC:=⟨[MJ],[]⟩) Y6.2 ?_);simp(disch:=omega)[Y6,nC]
abbrev UY:AN V:= .B9 271 Int (λx=>x≠0) (λx=>[AT [x]]) (λ_=> .bool false) λ_ h=>a3O h
@[simp] theorem aL7(h:x≠0):UY.fn [O [[Ag x]] 1]=some (.bool false):=AN.BH (x:=x) h λy a=>by simpa using a
theorem a8D(a:x≠0):AO V 253 [AT [x]] (AT [x]):=by refine BQ (Ax (aC:=⟨[MJ],[]⟩) XZ.2 ?_);simp(disch:=omega)[XZ,xx];exact Kn (n:=8) (cb:=[[Ag x]]) (w:=true) (by simp(disch:=first|omega|simp only[DI.AB];omega)[-H,-D,-I,-F,-List.map_map]) rfl lX
abbrev RI:AN V:= .B9 253 Int (λx=>x≠0) (λx=>[AT [x]]) (λx=>AT [x]) λ_ h=>a8D h
@[simp] theorem aGF(h:x≠0):RI.fn [O [[Ag x]] 1]=some (AT [x]):=AN.BH (x:=x) h λy a=>by simpa using a
theorem yR(f:x≠0)(g:y≠0):AO V 222 [AT [x],AT [y]] (Z (if x<y then-1 else if x>y then 1 else 0)):=by
 refine BQ (Ax (aC:=⟨[MJ],[]⟩) bu.2 ?_);simp(disch:=omega)[bu,xp];refine Ba (aC:=⟨[MJ],[]⟩) λe d=> ?_;by_cases a:x<y
 ·simp[U4,RW,a]
 by_cases b:x>y
 ·simp[U4,RW,a,b]
 simp[U4,RW,a,b];refine d _ _ (Ba (aC:=⟨[MJ],[]⟩) λe d=> ?_);simp[U4,RW,RW,a,b]
abbrev h2:AN V:= .B9 222 (Int×Int) (λx=>x.1≠0/\x.2≠0) (λx=>[AT [x.1],AT [x.2]]) (λx=>Z (if x.1<x.2 then-1 else if x.1>x.2 then 1 else 0)) λ_ h=>yR h.1 h.2
@[simp] theorem aK6(h:x≠0/\y≠0):h2.fn [O [[Ag x]] 1,O [[Ag y]] 1]=some (Z (if x<y then-1 else if x>y then 1 else 0)):=AN.BH (x:=(x,y)) h λ⟨a,b⟩ c=>by simpa using c
theorem a8a:AO V 217 [.int .u64 0] (AT []):=Ch (by kernel_rfl)
abbrev rR:AN V:= .B9 217 Unit (λ_=>True) (λ_=>[.int .u64 0]) (λ_=>AT []) λ_ _=>a8a
@[simp] theorem aFf:rR.fn [.int .u64 0]=some (AT []):=AN.BH (x:=()) trivial λ_ _=>rfl
section
variable {z:Int} (B:2<=z) (g:z<200)
include B g
theorem a4s:AO V 278 [AT [z],.int .u32 1] (.tuple #[AT [z],.int .u32 0]):=by
 have i:z≠0:=by omega
 have c:IntKind.u64.wrap z=z:=eG (by omega) (by omega);have d:IntKind.u32.wrap z=z:=eI (by omega) (by omega);have e:z.tdiv 1=z:=by simp
 have f:z.tmod 1=0:=by simp
 refine BQ (Ax (aC:=⟨[MJ],[]⟩) YV.2 ?_);simp(disch:=omega)[YV,sP];refine Ba (aC:=⟨[MJ],[]⟩) λg b=> ?_;have h:max (z%2^IntKind.u64.bits) 0=z:=by show max (z%18446744073709551616) 0=z;omega
 simp(disch:=first|omega|simp only[DI.AB];omega)[hu,Y8,c,d,h,e,f,-H,-D,-I,-F,-List.map_map];refine b _ _ (Ba (aC:=⟨[MJ],[]⟩) λg b=> ?_);simp(disch:=omega)[hu,Y8,Y8,RD,OO];simp(disch:=first|omega|simp only[DI.AB];omega)[aC0]
theorem a7H:AO V 273 [AT [1],AT [z]] (.tuple #[.slice none 0 0,AT [1]]):=by
 have a:z≠0:=by omega
 have c:(1:Int)<z:=by omega
 have b:(1:Int)≠0:=by decide
 refine BQ (Ax (aC:=⟨[h2,RI],[]⟩) Rb.2 ?_);simp(disch:=omega)[Rb,kX,c]
abbrev pG:AN V:= .B9 278 Unit (λ_=>True) (λ_=>[AT [z],.int .u32 1]) (λ_=> .tuple #[AT [z],.int .u32 0]) λ_ _=>a4s B g
@[simp] theorem aLa:(pG B g).fn [O [[Ag z]] 1,.int .u32 1]=some (.tuple #[AT [z],.int .u32 0]):=AN.BH (x:=()) trivial λ_ _=>rfl
theorem aB3:AO V 273 [AT [z],AT [1]] (.tuple #[AT [z],AT []]):=by
 have b:z≠0:=by omega
 have c: ¬z<1:=by omega
 have a:z>1:=by omega
 have d:(1:Int)<z:=by omega
 have e:(1:Int)≠0:=by decide
 refine BQ (Ax (aC:=⟨[h2,pG B g,rR],[]⟩) Rb.2 ?_);simp(disch:=omega)[Rb,kX,lp,c,a]
abbrev T5:AN V:= .B9 273 Bool (λ_=>True) (λb=>if b then[AT [1],AT [z]]else[AT [z],AT [1]]) (λb=>if b then .tuple #[.slice none 0 0,AT [1]]else .tuple #[AT [z],AT []]) λb _=>by
 cases b
 ·exact aB3 B g
 ·exact a7H B g
theorem a0q:(T5 B g).fn [O [[Ag 1]] 1,O [[Ag z]] 1]=some (.tuple #[.slice none 0 0,AT [1]]):=AN.BH (x:=true) trivial λb hb=>by
 cases b
 ·simp at hb;omega
 ·rfl
theorem a2C:(T5 B g).fn [O [[Ag z]] 1,O [[Ag 1]] 1]=some (.tuple #[AT [z],AT []]):=AN.BH (x:=false) trivial λb hb=>by
 cases b
 ·rfl
 ·simp at hb;omega
theorem aAO:AO V 251 [AT [1],AT [z]] (.tuple #[AT [1],Z 0]):=by
 have f:z≠0:=by omega
 have h:(1:Int)≠0:=by decide
 have d:=a0q B g;have e:=a2C B g;refine BQ (Ax (aC:=⟨[UY,RI,T5 B g],[]⟩) ag.2 ?_);simp(disch:=omega)[ag,mQ];refine Ba (aC:=⟨[UY,RI,T5 B g],[]⟩) λc a=> ?_;simp[bS,Uw,d];refine a _ _ (Ba (aC:=⟨[UY,RI,T5 B g],[]⟩) λc a=> ?_);simp[bS,Uw,e];refine a _ _ (Ba (aC:=⟨[UY,RI,T5 B g],[]⟩) λc a=> ?_);simp[bS,Uw,Uw]
omit B g in
theorem a1n: ∀(n:Nat) (v k:Int),0<=v->v<2^n->0<=k->k+n<=1000-> ∃e,k<=e/\e<=k+n/\(0<v->k<e)/\ ∀(f:A2) (t:X) (Q:BM->A2->X->Prop),f 5=Ag v->f 4=Z k->
 (∀o,o 4=Z e->Q (.Ao 0) o t)->Bc V (.loop WJ) f t Q:=by
 intro n;induction n with
 | zero=>intro v k r B _ _;have l:v=0:=(by simp at B;omega);subst l;refine⟨k,FM _,by omega,λh=>absurd h (by decide),λf t Q g i j=> ?_⟩;refine Ba (aC:=⟨[],[]⟩) λq m=> ?_;simp[WJ,g];exact j _ (by simp[i])
 | succ n s=>
   intro v k r B x y;by_cases l:v=0
   ·subst l;refine⟨k,FM _,by omega,λh=>absurd h (by decide),λf t Q g i j=> ?_⟩;refine Ba (aC:=⟨[],[]⟩) λq m=> ?_;simp[WJ,g];exact j _ (by simp[i])
   ·have u:0<v:=(by omega);have z:(2:Int)^(n+1)=2*2^n:=(by rw[Int.pow_succ];omega);obtain⟨e,a,b,c,d⟩:=s (v/2) (k+1) (by omega) (by omega) (by omega) (by omega);refine⟨e,by omega,by omega,λ_=>by omega,λf t Q g i j=> ?_⟩;refine Ba (aC:=⟨[],[]⟩) λq m=> ?_;have w:IntKind.i64.wrap (k+1)=k+1:=Ac (by omega) (by omega);simp[WJ,g,i,u,w];refine m _ _ (d _ _ _ ?_ (by simp) j);rw[a4P,if_pos rfl,Int.fdiv_eq_ediv_of_nonneg _ (by decide)]
theorem YO: ∃b:Int,1<=b/\b<=8/\AO V 216 [AT [z]] (Z b):=by
 have g:z≠0:=by omega
 obtain⟨e,a,b,c,d⟩:=a1n 8 z 0 (by omega) (by show z<256;omega) (by omega) (by omega);refine⟨e,by have:=c (by omega);omega,by omega,?_⟩;refine BQ (Ax (aC:=⟨[MJ],[]⟩) aD.2 ?_);simp(disch:=first|omega|simp only[DI.AB];omega)[aD,vZ];refine d _ _ _ (by simp) (by simp) λi f=> ?_;simp[tn,f]
omit B g in
theorem aAJ:AO V 216 [AT [1]] (Z 1):=Ch (by kernel_rfl)
omit B g in
abbrev Sy(b:Int)(hb:AO V 216 [AT [z]] (Z b)):AN V:= .B9 216 Bool (λ_=>True) (λc=>if c then[AT [1]]else[AT [z]]) (λc=>if c then Z 1 else Z b) λc _=>by
 cases c
 ·exact hb
 ·exact aAJ
variable{b:Int}
theorem XQ{hb:AO V 216 [AT [z]] (Z b)}:(Sy b hb).fn [O [[Ag 1]] 1]=some (Z 1):=AN.BH (x:=true) trivial λc a=>by
 cases c
 ·simp at a;omega
 ·rfl
theorem hn{hb:AO V 216 [AT [z]] (Z b)}:(Sy b hb).fn [O [[Ag z]] 1]=some (Z b):=AN.BH (x:=false) trivial λc a=>by
 cases c
 ·rfl
 ·simp at a;omega
abbrev xS:AN V:= .B9 251 Unit (λ_=>True) (λ_=>[AT [1],AT [z]]) (λ_=> .tuple #[AT [1],Z 0]) λ_ _=>aAO B g
@[simp] theorem aLP:(xS B g).fn [O [[Ag 1]] 1,O [[Ag z]] 1]=some (.tuple #[AT [1],Z 0]):=AN.BH (x:=()) trivial λ_ _=>rfl
theorem aCL:AO V 219 [.bool false,AT [1],AT [z]] (.tuple #[BK ⟨false,[1],[z]⟩,Z 0]):=by
 have e:z≠0:=by omega
 have f:(1:Int)≠0:=by decide
 obtain⟨b,h,i,hb⟩:=YO B g;have a:=XQ B g (hb:=hb);have d:=hn B g (hb:=hb);have c: ¬b>4096:=by omega
 have j: ¬(4096:Int)<b:=by omega
 refine BQ (Ax (aC:=⟨[xS B g,Sy b hb,RI],[]⟩) X4.2 ?_);simp(disch:=first|omega|simp only[DI.AB];omega)[X4,wD,a,d,c,BT,-H,-D,-I,-F,-List.map_map]
theorem aC6:AO V 221 [BK ⟨false,[1],[z]⟩] (.bool true):=by
 obtain⟨b,f,h,hb⟩:=YO B g;have a:=XQ B g (hb:=hb);have d:=hn B g (hb:=hb);have c:0<b:=by omega
 have e:b<=4096:=by omega
 refine BQ (Ax (aC:=⟨[Sy b hb],[]⟩) dC.2 ?_);simp[dC,qR,a,d,c,e,BT]
abbrev oH:AN V:= .B9 219 Unit (λ_=>True) (λ_=>[.bool false,AT [1],AT [z]]) (λ_=> .tuple #[BK ⟨false,[1],[z]⟩,Z 0]) λ_ _=>aCL B g
@[simp] theorem aJj:(oH B g).fn [.bool false,O [[Ag 1]] 1,O [[Ag z]] 1]=some (.tuple #[BK ⟨false,[1],[z]⟩,Z 0]):=AN.BH (x:=()) trivial λ_ _=>rfl
abbrev mm:AN V:= .B9 221 Unit (λ_=>True) (λ_=>[BK ⟨false,[1],[z]⟩]) (λ_=> .bool true) λ_ _=>aC6 B g
@[simp] theorem aFa:(mm B g).fn [.agg #[.bool false,O [[Ag 1]] 1,O [[Ag z]] 1]]=some (.bool true):=AN.BH (x:=()) trivial λ_ _=>rfl
theorem a00:AO V 215 [BK ⟨false,[1],[z]⟩] (.tuple #[BK ⟨false,[1],[z]⟩,Z 0]):=by refine BQ (Ax (aC:=⟨[mm B g,oH B g],[]⟩) Zb.2 ?_);simp[Zb,yM,BT]
abbrev w8:AN V:= .B9 215 Unit (λ_=>True) (λ_=>[BK ⟨false,[1],[z]⟩]) (λ_=> .tuple #[BK ⟨false,[1],[z]⟩,Z 0]) λ_ _=>a00 B g
@[simp] theorem aJy:(w8 B g).fn [.agg #[.bool false,O [[Ag 1]] 1,O [[Ag z]] 1]]=some (.tuple #[BK ⟨false,[1],[z]⟩,Z 0]):=AN.BH (x:=()) trivial λ_ _=>rfl
theorem a1R:AO V 170 [BK ⟨false,[1],[z]⟩] (.bool true):=by
 obtain⟨b,e,f,hb⟩:=YO B g;have a:=XQ B g (hb:=hb);have d:=hn B g (hb:=hb);have c:b<=32:=by omega
 refine BQ (Ax (aC:=⟨[w8 B g,Sy b hb],[]⟩) cq.2 ?_);simp[cq,y5,a,d,c,BT]
theorem rA:AO V 171 [BK ⟨false,[1],[z]⟩] (.bool true):=by obtain⟨b,c,d,hb⟩:=YO B g;have a:=XQ B g (hb:=hb);refine BQ (Ax (aC:=⟨[Sy b hb],[]⟩) Zu.2 ?_);simp[Zu,mu,a,BT]
end
attribute [local simp] ih ht ij jy k3 lE eW
abbrev Ed:Value:= .slice none 0 0
abbrev B8(h:AO V f args r):AN V:= .B9 f Unit (λ_=>True) (λ_=>args) (λ_=>r) λ_ _=>h
theorem E6(h:AO V f args r):(B8 h).fn args=some r:=AN.BH (x:=()) trivial λ_ _=>rfl
theorem Md{a:List Value}(h:AO V f args r)(b:args≠a):(B8 h).fn a=none:=by unfold B8 AN.B9;simp only;rw[dif_neg];rintro⟨_,_,e⟩;exact b e
def Je(a b:AN V)(h:b.f=a.f):AN V:=⟨a.f,λargs=>match a.fn args with
 |some r=>some r
 | none=>b.fn args,λargs r c=>by
   cases d:a.fn args with
   |some e=>rw[d]at c;cases c;exact a.ok args r d
   |none=>rw[d]at c;have:=b.ok args r c;rw[h]at this;exact this⟩
@[simp] theorem aGz{h:b.f=a.f}:(Je a b h).f=a.f:=rfl
theorem NF{h:b.f=a.f}(c:a.fn args=some r):(Je a b h).fn args=some r:=by simp only[Je,c]
theorem MP{h:b.f=a.f}(c:a.fn args=none)(hb:b.fn args=some r):(Je a b h).fn args=some r:=by simp only[Je,c,hb]
theorem a6a(a:x≠0):AO V 194 [AT [x]] (AT [x]):=by refine BQ (Ax (aC:=⟨[],[]⟩) Ro.2 ?_);simp[Ro,fz];refine Ba (aC:=⟨[],[]⟩) λc d=> ?_;simp[bl,TG,TG,a];exact Kn (n:=8) (cb:=[[Ag x]]) (w:=true) (by simp) rfl lX
theorem aAm(c:x≠0):AO V 194 [AT [x,0]] (AT [x]):=by refine BQ (Ax (aC:=⟨[],[]⟩) Ro.2 ?_);simp[Ro,fz];refine Ba (aC:=⟨[],[]⟩) λd b=> ?_;simp[bl,TG];refine b _ _ (Ba (aC:=⟨[],[]⟩) λd b=> ?_);simp[bl,TG,TG,c];exact Kn (n:=8) (cb:=[[Ag x]]) (w:=true) (by simp) rfl lX
abbrev Im:AN V:= .B9 194 Int (λx=>x≠0) (λx=>[AT [x]]) (λx=>AT [x]) λ_ h=>a6a h
@[simp] theorem yy(h:x≠0):Im.fn [O [[Ag x]] 1]=some (AT [x]):=AN.BH (x:=x) h λy a=>by simpa using a
abbrev o2:AN V:= .B9 194 Int (λx=>x≠0) (λx=>[AT [x,0]]) (λx=>AT [x]) λ_ h=>aAm h
@[simp] theorem aIZ(h:x≠0):o2.fn [O [[Ag x],[Ag 0]] 1]=some (AT [x]):=AN.BH (x:=x) h λy a=>by simpa using a
theorem a5s(a:x≠0):AO V 246 [AT [x]] (.bool false):=by refine BQ (Ax (aC:=⟨[Im],[]⟩) YL.2 ?_);simp(disch:=omega)[YL,oR]
abbrev TN:AN V:= .B9 246 Int (λx=>x≠0) (λx=>[AT [x]]) (λ_=> .bool false) λ_ h=>a5s h
@[simp] theorem a4k(h:x≠0):TN.fn [O [[Ag x]] 1]=some (.bool false):=AN.BH (x:=x) h λy a=>by simpa using a
theorem a31(f:x≠0)(g:y≠0):AO V 241 [AT [x],AT [y]] (Z (if x<y then-1 else if x>y then 1 else 0)):=by
 refine BQ (Ax (aC:=⟨[Im],[]⟩) Zl.2 ?_);simp(disch:=omega)[Zl,nx];refine Ba (aC:=⟨[Im],[]⟩) λe d=> ?_;by_cases a:x<y
 ·simp[VJ,S4,a]
 by_cases b:x>y
 ·simp[VJ,S4,a,b]
 simp[VJ,S4,a,b];refine d _ _ (Ba (aC:=⟨[Im],[]⟩) λe d=> ?_);simp[VJ,S4,S4,a,b]
abbrev V6:AN V:= .B9 241 (Int×Int) (λx=>x.1≠0/\x.2≠0) (λx=>[AT [x.1],AT [x.2]]) (λx=>Z (if x.1<x.2 then-1 else if x.1>x.2 then 1 else 0)) λ_ h=>a31 h.1 h.2
@[simp] theorem aDV(h:x≠0/\y≠0):V6.fn [O [[Ag x]] 1,O [[Ag y]] 1]=some (Z (if x<y then-1 else if x>y then 1 else 0)):=AN.BH (x:=(x,y)) h λ⟨a,b⟩ c=>by simpa using c
theorem dQ:AO V 168 [.int .u64 0] Ed:=Ch (by kernel_rfl)
theorem zB(B:0<x)(g:x<4294967296):AO V 168 [.int .u64 x] (AT [x]):=by
 have c:x≠0:=by omega
 have a:IntKind.u32.wrap x=x:=eI (by omega) (by omega);have b:x.fdiv 4294967296=0:=by rw[Int.fdiv_eq_ediv_of_nonneg _ (by decide)];omega
 refine BQ (Ax (aC:=⟨[o2],[]⟩) aT.2 ?_);simp(disch:=first|omega|simp only[DI.AB];omega)[aT,mN,a,b,RD,OO]
abbrev s4:AN V:= .B9 168 Int (λx=>0<x/\x<4294967296) (λx=>[.int .u64 x]) (λx=>AT [x]) λ_ h=>zB h.1 h.2
@[simp] theorem aKU(h:0<x/\x<4294967296):s4.fn [.int .u64 x]=some (AT [x]):=AN.BH (x:=x) h λy a=>by simpa using a
section
variable {z:Int} (B:2<=z) (g:z<200)
include B g
theorem lh:AO V 247 [AT [1],AT [z]] (.tuple #[Ed,AT [1]]):=by
 have a:z≠0:=by omega
 have c:(1:Int)<z:=by omega
 have b:(1:Int)≠0:=by decide
 refine BQ (Ax (aC:=⟨[V6,Im],[]⟩) St.2 ?_);simp(disch:=omega)[St,iK,c]
theorem xQ:AO V 247 [AT [z],AT [1]] (.tuple #[AT [z],Ed]):=by
 have l:z≠0:=by omega
 have c: ¬z<1:=by omega
 have d:z>1:=by omega
 have m:(1:Int)<z:=by omega
 have n:(1:Int)≠0:=by decide
 have e:IntKind.u64.wrap z=z:=eG (by omega) (by omega);have f:IntKind.u32.wrap z=z:=eI (by omega) (by omega);have g:max (z%2^IntKind.u64.bits) 0=z:=by show max (z%18446744073709551616) 0=z;omega
 have h:z.tdiv 1=z:=by simp
 have i:z.tmod 1=0:=by simp
 have j:=E6 dQ;refine BQ (Ax (aC:=⟨[V6,Im,B8 dQ],[]⟩) St.2 ?_);simp(disch:=first|omega|simp only[DI.AB];omega)[St,iK,qW,c,d,-H,-D,-I,-F,-List.map_map];refine Ba (aC:=⟨[V6,Im,B8 dQ],[]⟩) λk b=> ?_;simp(disch:=first|omega|simp only[DI.AB];omega)[eb,e,f,g,h,i,-H,-D,-I,-F,-List.map_map];refine b _ _ (Ba (aC:=⟨[V6,Im,B8 dQ],[]⟩) λk b=> ?_);simp(disch:=first|omega|simp only[DI.AB];omega)[eb,iw,iw,j,RD,OO,-H,-D,-I,-F,-List.map_map]
theorem a6M:([AT [1],AT [z]]:List Value)≠[AT [z],AT [1]]:= λh=>by simp at h;omega
def Qu:AN V:=Je (B8 (lh B g)) (B8 (xQ B g)) rfl
@[simp] theorem aG4:(Qu B g).f=247:=rfl
theorem aAz:(Qu B g).fn [O [[Ag 1]] 1,O [[Ag z]] 1]=some (.tuple #[Ed,AT [1]]):=NF (E6 (lh B g))
theorem aAL:(Qu B g).fn [O [[Ag z]] 1,O [[Ag 1]] 1]=some (.tuple #[AT [z],Ed]):=MP (Md (lh B g) (a6M B g)) (E6 (xQ B g))
theorem tE:AO V 213 [AT [1],AT [z]] (.tuple #[AT [1],Z 0]):=by
 have f:z≠0:=by omega
 have h:(1:Int)≠0:=by decide
 have d:=aAz B g;have e:=aAL B g;refine BQ (Ax (aC:=⟨[TN,Im,Qu B g],[]⟩) ZK.2 ?_);simp(disch:=omega)[ZK,p8];refine Ba (aC:=⟨[TN,Im,Qu B g],[]⟩) λc a=> ?_;simp[dJ,WY,d];refine a _ _ (Ba (aC:=⟨[TN,Im,Qu B g],[]⟩) λc a=> ?_);simp[dJ,WY,e];refine a _ _ (Ba (aC:=⟨[TN,Im,Qu B g],[]⟩) λc a=> ?_);simp[dJ,WY,WY]
def gF:AN V:=B8 (tE B g)
@[simp] theorem aJm:(gF B g).f=213:=rfl
@[simp] theorem aJA:(gF B g).fn [O [[Ag 1]] 1,O [[Ag z]] 1]=some (.tuple #[AT [1],Z 0]):=E6 (tE B g)
theorem qE:AO V 167 [.bool false,AT [1],AT [z]] (BK ⟨false,[1],[z]⟩):=by
 have b:z≠0:=by omega
 have a:(1:Int)≠0:=by decide
 refine BQ (Ax (aC:=⟨[gF B g,Im],[]⟩) YY.2 ?_);simp(disch:=first|omega|simp only[DI.AB];omega)[YY,uO,a,BT,-H,-D,-I,-F,-List.map_map]
theorem oE:AO V 138 [BK ⟨false,[1],[z]⟩] (.bool true):=by
 have a:z≠0:=by omega
 have b:(1:Int)≠0:=by decide
 refine BQ (Ax (aC:=⟨[Im],[]⟩) Xj.2 ?_);simp(disch:=first|omega|simp only[DI.AB];omega)[Xj,x0,BT]
def g7:AN V:=B8 (oE B g)
@[simp] theorem aEz:(g7 B g).f=138:=rfl
@[simp] theorem aJO:(g7 B g).fn [.agg #[.bool false,O [[Ag 1]] 1,O [[Ag z]] 1]]=some (.bool true):=E6 (oE B g)
def ZL:AN V:=B8 (qE B g)
@[simp] theorem aF7:(ZL B g).f=167:=rfl
@[simp] theorem aLC:(ZL B g).fn [.bool false,O [[Ag 1]] 1,O [[Ag z]] 1]=some (BK ⟨false,[1],[z]⟩):=E6 (qE B g)
theorem ti:AO V 196 [BK ⟨false,[1],[z]⟩] (.tuple #[BK ⟨false,[1],[z]⟩,Z 0]):=by refine BQ (Ax (aC:=⟨[g7 B g,ZL B g],[]⟩) ZB.2 ?_);simp[ZB,md,BT]
def g8:AN V:=B8 (ti B g)
@[simp] theorem aFv:(g8 B g).f=196:=rfl
@[simp] theorem aFn:(g8 B g).fn [.agg #[.bool false,O [[Ag 1]] 1,O [[Ag z]] 1]]=some (.tuple #[BK ⟨false,[1],[z]⟩,Z 0]):=E6 (ti B g)
theorem Wr:AO V 140 [BK ⟨false,[1],[z]⟩] (.bool true):=by refine BQ (Ax (aC:=⟨[g8 B g],[]⟩) X2.2 ?_);simp[X2,rh,BT]
theorem vi:AO V 169 [Z z] (.int .u64 z):=by
 have a:IntKind.u64.wrap z=z:=eG (by omega) (by omega);have c: ¬z<0:=by omega
 refine BQ (Ax (aC:=⟨[],[]⟩) b6.2 ?_);simp[b6,n8,a,c]
omit B g in
theorem fF:AO V 169 [Z 1] (.int .u64 1):=Ch (by kernel_rfl)
def aG:AN V:=Je (B8 fF) (B8 (vi B g)) rfl
@[simp] theorem aF3:(aG B g).f=169:=rfl
@[simp] theorem aDd:(aG B g).fn [Z 1]=some (.int .u64 1):=NF (E6 fF)
@[simp] theorem aFr:(aG B g).fn [Z z]=some (.int .u64 z):=MP (Md fF (by simp;omega)) (E6 (vi B g))
theorem vR:AO V 107 [Z 1,Z z] (.tuple #[BK ⟨false,[1],[z]⟩,Z 0]):=by
 have a:z≠0:=by omega
 have c: ¬z<0:=by omega
 have b:(0:Int)<1/\(1:Int)<4294967296:=by decide
 have d:0<z/\z<4294967296:=by omega
 refine BQ (Ax (aC:=⟨[aG B g,s4,ZL B g],[]⟩) cB.2 ?_);simp(disch:=first|omega|simp only[DI.AB];omega)[cB,nr,a,c,BT]
def hE:AN V:=B8 (vR B g)
@[simp] theorem aIH:(hE B g).f=107:=rfl
@[simp] theorem aH2:(hE B g).fn [Z 1,Z z]=some (.tuple #[BK ⟨false,[1],[z]⟩,Z 0]):=E6 (vR B g)
theorem a6R:AO V 59 [Z 1,Z z] (BK ⟨false,[1],[z]⟩):=by refine BQ (Ax (aC:=⟨[hE B g],[]⟩) bY.2 ?_);simp[bY,vu,BT]
end
end Go.Proofs.YtmmkkggfmigppaaGreat
end
