/-
  A part of the proof, shortened by tools of ours.
-/
import Derived.Test.YtmmkkggfmigppaaGreatZcg
set_option linter.all false
set_option maxRecDepth 8000
set_option maxHeartbeats 16000000
namespace Go.Proofs.YtmmkkggfmigppaaGreat
open Go Go.DI
section
set_option maxRecDepth 100000
def aCM:AV U 19:=⟨_,by conv=>lhs;reduce⟩
def YG:D:=B (a:=aCM.1.body) ⟨_,by conv=>lhs;reduce⟩
def VL:AN:=⟨17,[.AI 4],YG⟩
theorem aFx:AR U 19=some VL:=by kernel_rfl
def cZ:AV U 48:=⟨_,by conv=>lhs;reduce⟩
def Wb:D:=B (a:=A8 cZ.1.body 4868683) ⟨_,by conv=>lhs;reduce⟩
def TS:D:=B (a:= λx=>A9 297 x (A8 cZ.1.body 19019)) ⟨_,by conv=>lhs;reduce⟩ Wb
def dB:D:=B (a:= λx=>A9 297 x (A8 cZ.1.body 75)) ⟨_,by conv=>lhs;reduce⟩ TS
def pz:D:=B (a:= λx=>A9 75 x cZ.1.body) ⟨_,by conv=>lhs;reduce⟩ dB
def cA:AN:=⟨66,[.AI 4],pz⟩
theorem sq:AR U 48=some cA:=by kernel_rfl
def a3s:AV U 49:=⟨_,by conv=>lhs;reduce⟩
def Qb:D:=B (a:=a3s.1.body) ⟨_,by conv=>lhs;reduce⟩
def O3:AN:=⟨50,[.AI 4],Qb⟩
theorem qv:AR U 49=some O3:=by kernel_rfl
def zv:AV U 59:=⟨_,by conv=>lhs;reduce⟩
def vb:D:=B (a:=zv.1.body) ⟨_,by conv=>lhs;reduce⟩
def ev:AN:=⟨14,[.E2 4 true 3],vb⟩
theorem oe:AR U 59=some ev:=by kernel_rfl
def Jy:AV U 60:=⟨_,by conv=>lhs;reduce⟩
def UT:D:=B (a:=A8 Jy.1.body 428415) ⟨_,by conv=>lhs;reduce⟩
def Qo:D:=B (a:=A8 Jy.1.body 641407) ⟨_,by conv=>lhs;reduce⟩
def kv:D:=B (a:= λx=>A9 19 x (A8 Jy.1.body 51583)) ⟨_,by conv=>lhs;reduce⟩ Qo
def TP:D:=B (a:= λx y=>A9 12 y (A9 104 x (A8 Jy.1.body 6527))) ⟨_,by conv=>lhs;reduce⟩ UT kv
def Zx:D:=B (a:= λx=>A9 3 x (A8 Jy.1.body 2431)) ⟨_,by conv=>lhs;reduce⟩ TP
def gP:D:=B (a:=A8 Jy.1.body 106926847) ⟨_,by conv=>lhs;reduce⟩
def WT:D:=B (a:= λx=>A9 3 x (A8 Jy.1.body 39817983)) ⟨_,by conv=>lhs;reduce⟩ gP
def iR:D:=B (a:= λx=>A9 4860 x (A8 Jy.1.body 13055)) ⟨_,by conv=>lhs;reduce⟩ WT
def Vl:D:=B (a:= λx=>A9 3 x (A8 Jy.1.body 4863)) ⟨_,by conv=>lhs;reduce⟩ iR
def cX:D:=B (a:=A8 Jy.1.body 9727) ⟨_,by conv=>lhs;reduce⟩
def u4:D:=B (a:=A8 Jy.1.body 2047) ⟨_,by conv=>lhs;reduce⟩
def sj:D:=B (a:= λx y=>A9 3 y (A9 18 x (A8 Jy.1.body 1023))) ⟨_,by conv=>lhs;reduce⟩ cX u4
def u1:D:=B (a:= λx y=>A9 3 y (A9 18 x (A8 Jy.1.body 511))) ⟨_,by conv=>lhs;reduce⟩ Vl sj
def pL:D:=B (a:= λx y=>A9 511 y (A9 2431 x Jy.1.body)) ⟨_,by conv=>lhs;reduce⟩ Zx u1
def Xi:AN:=⟨206,[.E2 4 true 7],pL⟩
theorem q7:AR U 60=some Xi:=by kernel_rfl
def oi:AV U 61:=⟨_,by conv=>lhs;reduce⟩
def Sw:D:=B (a:=A8 oi.1.body 75) ⟨_,by conv=>lhs;reduce⟩
def sR:D:=B (a:= λx=>A9 75 x oi.1.body) ⟨_,by conv=>lhs;reduce⟩ Sw
def Zr:AN:=⟨35,[.AI 4],sR⟩
theorem sH:AR U 61=some Zr:=by kernel_rfl
def aBI:AV U 101:=⟨_,by conv=>lhs;reduce⟩
def yn:D:=B (a:=aBI.1.body) ⟨_,by conv=>lhs;reduce⟩
def fO:AN:=⟨21,[.AI 4],yn⟩
theorem pA:AR U 101=some fO:=by kernel_rfl
def kD:AV U 102:=⟨_,by conv=>lhs;reduce⟩
def ZI:D:=B (a:=A8 kD.1.body 37) ⟨_,by conv=>lhs;reduce⟩
def U1:D:=B (a:=A8 kD.1.body 7) ⟨_,by conv=>lhs;reduce⟩
def o3:D:=B (a:= λx y=>A9 7 y (A9 37 x kD.1.body)) ⟨_,by conv=>lhs;reduce⟩ ZI U1
def cD:AN:=⟨18,[.AI 4],o3⟩
theorem wD:AR U 102=some cD:=by kernel_rfl
def a1K:AV U 108:=⟨_,by conv=>lhs;reduce⟩
def uH:D:=B (a:=a1K.1.body) ⟨_,by conv=>lhs;reduce⟩
def dC:AN:=⟨32,[.AI 8],uH⟩
theorem xX:AR U 108=some dC:=by kernel_rfl
def aEH:AV U 109:=⟨_,by conv=>lhs;reduce⟩
def rO:D:=B (a:=aEH.1.body) ⟨_,by conv=>lhs;reduce⟩
def Xs:AN:=⟨17,[.AI 4],rO⟩
theorem sW:AR U 109=some Xs:=by kernel_rfl
end
section
set_option maxRecDepth 100000
end
section
set_option maxRecDepth 100000
def P3:AV U 12:=⟨_,by conv=>lhs;reduce⟩
def Yk:D:=B (a:=A8 P3.1.body 9919) ⟨_,by conv=>lhs;reduce⟩
def OL:D:=B (a:= λx=>A9 9 x (A8 P3.1.body 1727)) ⟨_,by conv=>lhs;reduce⟩ Yk
def NJ:D:=B (a:= λx=>A9 26 x (A8 P3.1.body 127)) ⟨_,by conv=>lhs;reduce⟩ OL
def cO:D:=B (a:= λx=>A9 3 x (A8 P3.1.body 63)) ⟨_,by conv=>lhs;reduce⟩ NJ
def ZH:D:=B (a:= λx=>A9 3 x (A8 P3.1.body 31)) ⟨_,by conv=>lhs;reduce⟩ cO
def bj:D:=B (a:= λx=>A9 3 x (A8 P3.1.body 15)) ⟨_,by conv=>lhs;reduce⟩ ZH
def xh:D:=B (a:= λx=>A9 3 x (A8 P3.1.body 7)) ⟨_,by conv=>lhs;reduce⟩ bj
def yA:D:=B (a:= λx=>A9 7 x P3.1.body) ⟨_,by conv=>lhs;reduce⟩ xh
def nb:AN:=⟨112,[.AI 6],yA⟩
theorem a0n:AR U 12=some nb:=by kernel_rfl
def LK:AV U 13:=⟨_,by conv=>lhs;reduce⟩
def Ts:D:=B (a:=A8 LK.1.body 2483391) ⟨_,by conv=>lhs;reduce⟩
def Uv:D:=B (a:=A8 LK.1.body 2614463) ⟨_,by conv=>lhs;reduce⟩
def nW:D:=B (a:= λx=>A9 9 x (A8 LK.1.body 517311)) ⟨_,by conv=>lhs;reduce⟩ Uv
def iA:D:=B (a:= λx y=>A9 3 y (A9 18 x (A8 LK.1.body 255167))) ⟨_,by conv=>lhs;reduce⟩ Ts nW
def kW:D:=B (a:= λx=>A9 3 x (A8 LK.1.body 124095)) ⟨_,by conv=>lhs;reduce⟩ iA
def kZ:D:=B (a:= λx=>A9 7 x (A8 LK.1.body 25791)) ⟨_,by conv=>lhs;reduce⟩ kW
def eM:D:=B (a:= λx=>A9 25 x (A8 LK.1.body 1215)) ⟨_,by conv=>lhs;reduce⟩ kZ
def ao:D:=B (a:=A8 LK.1.body 255) ⟨_,by conv=>lhs;reduce⟩
def eX:D:=B (a:= λx y=>A9 7 y (A9 37 x (A8 LK.1.body 63))) ⟨_,by conv=>lhs;reduce⟩ eM ao
def Zk:D:=B (a:= λx=>A9 7 x (A8 LK.1.body 15)) ⟨_,by conv=>lhs;reduce⟩ eX
def vp:D:=B (a:= λx=>A9 3 x (A8 LK.1.body 7)) ⟨_,by conv=>lhs;reduce⟩ Zk
def w7:D:=B (a:= λx=>A9 7 x LK.1.body) ⟨_,by conv=>lhs;reduce⟩ vp
def iL:AN:=⟨154,[.AI 2],w7⟩
theorem a21:AR U 13=some iL:=by kernel_rfl
def Ti:AV U 14:=⟨_,by conv=>lhs;reduce⟩
def c8:D:=B (a:=A8 Ti.1.body 255) ⟨_,by conv=>lhs;reduce⟩
def XP:D:=B (a:= λx=>A9 7 x (A8 Ti.1.body 63)) ⟨_,by conv=>lhs;reduce⟩ c8
def Tl:D:=B (a:= λx=>A9 3 x (A8 Ti.1.body 31)) ⟨_,by conv=>lhs;reduce⟩ XP
def Z0:D:=B (a:= λx=>A9 3 x (A8 Ti.1.body 15)) ⟨_,by conv=>lhs;reduce⟩ Tl
def qF:D:=B (a:= λx=>A9 3 x (A8 Ti.1.body 7)) ⟨_,by conv=>lhs;reduce⟩ Z0
def tk:D:=B (a:= λx=>A9 7 x Ti.1.body) ⟨_,by conv=>lhs;reduce⟩ qF
def lU:AN:=⟨87,[.AI 2],tk⟩
theorem aE8:AR U 14=some lU:=by kernel_rfl
def aDT:AV U 18:=⟨_,by conv=>lhs;reduce⟩
def x3:D:=B (a:=aDT.1.body) ⟨_,by conv=>lhs;reduce⟩
def Zv:AN:=⟨22,[.E2 2 true 9,.AI 3],x3⟩
theorem yR:AR U 18=some Zv:=by kernel_rfl
def a69:AV U 39:=⟨_,by conv=>lhs;reduce⟩
def a01:D:=B (a:=a69.1.body) ⟨_,by conv=>lhs;reduce⟩
def o6:AN:=⟨96,[.AI 0],a01⟩
theorem aG2:AR U 39=some o6:=by kernel_rfl
def bu:AV U 41:=⟨_,by conv=>lhs;reduce⟩
def Vx:D:=B (a:=A8 bu.1.body 151) ⟨_,by conv=>lhs;reduce⟩
def oO:D:=B (a:=A8 bu.1.body 31) ⟨_,by conv=>lhs;reduce⟩
def xz:D:=B (a:= λx y=>A9 3 y (A9 18 x (A8 bu.1.body 15))) ⟨_,by conv=>lhs;reduce⟩ Vx oO
def ra:D:=B (a:= λx=>A9 15 x bu.1.body) ⟨_,by conv=>lhs;reduce⟩ xz
def aZ:AN:=⟨47,[.AI 8,.AI 9],ra⟩
theorem yv:AR U 41=some aZ:=by kernel_rfl
def Jo:AV U 44:=⟨_,by conv=>lhs;reduce⟩
def XR:D:=B (a:=A8 Jo.1.body 157279) ⟨_,by conv=>lhs;reduce⟩
def bR:D:=B (a:= λx=>A9 307 x (A8 Jo.1.body 607)) ⟨_,by conv=>lhs;reduce⟩ XR
def Wo:D:=B (a:=A8 Jo.1.body 610815) ⟨_,by conv=>lhs;reduce⟩
def Rq:D:=B (a:=A8 Jo.1.body 66769407) ⟨_,by conv=>lhs;reduce⟩
def SW:D:=B (a:= λx=>A9 3 x (A8 Jo.1.body 33214975)) ⟨_,by conv=>lhs;reduce⟩ Rq
def Q1:D:=B (a:= λx=>A9 31 x (A8 Jo.1.body 1757695)) ⟨_,by conv=>lhs;reduce⟩ SW
def XH:D:=B (a:= λx=>A9 26 x (A8 Jo.1.body 119295)) ⟨_,by conv=>lhs;reduce⟩ Q1
def Us:D:=B (a:= λx y=>A9 29 y (A9 149 x (A8 Jo.1.body 4607))) ⟨_,by conv=>lhs;reduce⟩ Wo XH
def aK:D:=B (a:=A8 Jo.1.body 2047) ⟨_,by conv=>lhs;reduce⟩
def lr:D:=B (a:= λx y=>A9 3 y (A9 8 x (A8 Jo.1.body 1023))) ⟨_,by conv=>lhs;reduce⟩ Us aK
def mK:D:=B (a:= λx=>A9 7 x (A8 Jo.1.body 255)) ⟨_,by conv=>lhs;reduce⟩ lr
def ll:D:=B (a:= λx=>A9 3 x (A8 Jo.1.body 127)) ⟨_,by conv=>lhs;reduce⟩ mK
def mu:D:=B (a:= λx y=>A9 15 y (A9 75 x (A8 Jo.1.body 15))) ⟨_,by conv=>lhs;reduce⟩ bR ll
def sE:D:=B (a:= λx=>A9 15 x Jo.1.body) ⟨_,by conv=>lhs;reduce⟩ mu
def Ze:AN:=⟨170,[.E2 6 true 5,.AI 7],sE⟩
theorem qC:AR U 44=some Ze:=by kernel_rfl
def a50:AV U 45:=⟨_,by conv=>lhs;reduce⟩
def aA7:D:=B (a:=a50.1.body) ⟨_,by conv=>lhs;reduce⟩
def p1:AN:=⟨52,[.AI 8],aA7⟩
theorem a7U:AR U 45=some p1:=by kernel_rfl
def hS:AV U 46:=⟨_,by conv=>lhs;reduce⟩
def h6:D:=B (a:=A8 hS.1.body 75) ⟨_,by conv=>lhs;reduce⟩
def er:D:=B (a:=A8 hS.1.body 15) ⟨_,by conv=>lhs;reduce⟩
def wC:D:=B (a:= λx y=>A9 15 y (A9 75 x hS.1.body)) ⟨_,by conv=>lhs;reduce⟩ h6 er
def mU:AN:=⟨20,[.AI 2],wC⟩
theorem aA8:AR U 46=some mU:=by kernel_rfl
def gJ:AV U 53:=⟨_,by conv=>lhs;reduce⟩
def ec:D:=B (a:=A8 gJ.1.body 75) ⟨_,by conv=>lhs;reduce⟩
def Kl:D:=B (a:=A8 gJ.1.body 15) ⟨_,by conv=>lhs;reduce⟩
def Mk:D:=B (a:= λx y=>A9 15 y (A9 75 x gJ.1.body)) ⟨_,by conv=>lhs;reduce⟩ ec Kl
def LZ:AN:=⟨106,[.AI 8],Mk⟩
theorem aBn:AR U 53=some LZ:=by kernel_rfl
def a1Y:AV U 91:=⟨_,by conv=>lhs;reduce⟩
def oW:D:=B (a:=a1Y.1.body) ⟨_,by conv=>lhs;reduce⟩
def ZS:AN:=⟨13,[.AI 4],oW⟩
theorem su:AR U 91=some ZS:=by kernel_rfl
def aFC:AV U 92:=⟨_,by conv=>lhs;reduce⟩
def rL:D:=B (a:=aFC.1.body) ⟨_,by conv=>lhs;reduce⟩
def al:AN:=⟨17,[.AI 6],rL⟩
theorem wi:AR U 92=some al:=by kernel_rfl
def aBa:AV U 93:=⟨_,by conv=>lhs;reduce⟩
def MQ:D:=B (a:=aBa.1.body) ⟨_,by conv=>lhs;reduce⟩
def LP:AN:=⟨95,[.AI 4],MQ⟩
theorem sK:AR U 93=some LP:=by kernel_rfl
def aAI:AV U 94:=⟨_,by conv=>lhs;reduce⟩
def l7:D:=B (a:=aAI.1.body) ⟨_,by conv=>lhs;reduce⟩
def WR:AN:=⟨40,[],l7⟩
theorem sP:AR U 94=some WR:=by kernel_rfl
def iG:AV U 96:=⟨_,by conv=>lhs;reduce⟩
def Uy:D:=B (a:=A8 iG.1.body 31) ⟨_,by conv=>lhs;reduce⟩
def j9:D:=B (a:= λx=>A9 7 x (A8 iG.1.body 7)) ⟨_,by conv=>lhs;reduce⟩ Uy
def oZ:D:=B (a:= λx=>A9 7 x iG.1.body) ⟨_,by conv=>lhs;reduce⟩ j9
def cf:AN:=⟨46,[.E2 6 true 3,.AI 7,.AI 8],oZ⟩
theorem xF:AR U 96=some cf:=by kernel_rfl
def Rm:AV U 97:=⟨_,by conv=>lhs;reduce⟩
def Sf:D:=B (a:=A8 Rm.1.body 20069) ⟨_,by conv=>lhs;reduce⟩
def V0:D:=B (a:= λx=>A9 9 x (A8 Rm.1.body 3685)) ⟨_,by conv=>lhs;reduce⟩ Sf
def Tu:D:=B (a:= λx=>A9 3 x (A8 Rm.1.body 1637)) ⟨_,by conv=>lhs;reduce⟩ V0
def Yq:D:=B (a:= λx=>A9 51 x (A8 Rm.1.body 37)) ⟨_,by conv=>lhs;reduce⟩ Tu
def V9:D:=B (a:=A8 Rm.1.body 7) ⟨_,by conv=>lhs;reduce⟩
def zR:D:=B (a:= λx y=>A9 7 y (A9 37 x Rm.1.body)) ⟨_,by conv=>lhs;reduce⟩ Yq V9
def j5:AN:=⟨65,[.AI 8,.AI 9],zR⟩
theorem a0C:AR U 97=some j5:=by kernel_rfl
def jb:AV U 146:=⟨_,by conv=>lhs;reduce⟩
def na:D:=B (a:=A8 jb.1.body 75) ⟨_,by conv=>lhs;reduce⟩
def Zu:D:=B (a:=A8 jb.1.body 15) ⟨_,by conv=>lhs;reduce⟩
def ow:D:=B (a:= λx y=>A9 15 y (A9 75 x jb.1.body)) ⟨_,by conv=>lhs;reduce⟩ na Zu
def ZC:AN:=⟨23,[.AI 2],ow⟩
theorem yZ:AR U 146=some ZC:=by kernel_rfl
def gf:AV U 149:=⟨_,by conv=>lhs;reduce⟩
def nB:D:=B (a:=A8 gf.1.body 75) ⟨_,by conv=>lhs;reduce⟩
def cd:D:=B (a:=A8 gf.1.body 15) ⟨_,by conv=>lhs;reduce⟩
def ss:D:=B (a:= λx y=>A9 15 y (A9 75 x gf.1.body)) ⟨_,by conv=>lhs;reduce⟩ nB cd
def e8:AN:=⟨26,[.AI 4],ss⟩
theorem sB:AR U 149=some e8:=by kernel_rfl
def aD2:AV U 151:=⟨_,by conv=>lhs;reduce⟩
def zD:D:=B (a:=aD2.1.body) ⟨_,by conv=>lhs;reduce⟩
def mE:AN:=⟨9,[.AI 3],zD⟩
theorem aFr:AR U 151=some mE:=by kernel_rfl
end
section
set_option maxRecDepth 100000
def a2q:AV U 71:=⟨_,by conv=>lhs;reduce⟩
def Tx:D:=B (a:=a2q.1.body) ⟨_,by conv=>lhs;reduce⟩
def a4n:AN:=⟨8,[.AI 2],Tx⟩
theorem aCn:AR U 71=some a4n:=by kernel_rfl
variable{a7:Value->V->Prop}{args:List Value}
theorem sU{m:V}(h:args.length<=8):Aq U 71 args m a7=BS U Tx (Cp args) m (EA [.AI 2] a7):=EG aCn h
def aDZ:AV U 78:=⟨_,by conv=>lhs;reduce⟩
def hG:D:=B (a:=aDZ.1.body) ⟨_,by conv=>lhs;reduce⟩
def XU:AN:=⟨9,[.AI 4],hG⟩
theorem yi:AR U 78=some XU:=by kernel_rfl

def iw:AV U 123:=⟨_,by conv=>lhs;reduce⟩
def e0:D:=B (a:=A8 iw.1.body 37) ⟨_,by conv=>lhs;reduce⟩
def W3:D:=B (a:=A8 iw.1.body 7) ⟨_,by conv=>lhs;reduce⟩
def vy:D:=B (a:= λx y=>A9 7 y (A9 37 x iw.1.body)) ⟨_,by conv=>lhs;reduce⟩ e0 W3
def ZJ:AN:=⟨19,[.AI 4],vy⟩
theorem xK:AR U 123=some ZJ:=by kernel_rfl
def aDC:AV U 150:=⟨_,by conv=>lhs;reduce⟩
def ov:D:=B (a:=aDC.1.body) ⟨_,by conv=>lhs;reduce⟩
def nj:AN:=⟨9,[.AI 4],ov⟩
theorem aAj:AR U 150=some nj:=by kernel_rfl
def hP:AV U 205:=⟨_,by conv=>lhs;reduce⟩
def dH:D:=B (a:=A8 hP.1.body 37) ⟨_,by conv=>lhs;reduce⟩
def UW:D:=B (a:=A8 hP.1.body 7) ⟨_,by conv=>lhs;reduce⟩
def pe:D:=B (a:= λx y=>A9 7 y (A9 37 x hP.1.body)) ⟨_,by conv=>lhs;reduce⟩ dH UW
def n5:AN:=⟨19,[.AI 4],pe⟩
theorem aAh:AR U 205=some n5:=by kernel_rfl
end
end Go.Proofs.YtmmkkggfmigppaaGreat
namespace Go.DI
open Go
variable {m:V} {b G k:Nat} {x y:Option Bw} {z:Bw}
@[simp] theorem Ar:(m.A0 b x).next=m.next:=rfl
@[simp] theorem BC:(m.AE k).next=m.next+k:=rfl
theorem F(h:m.W b=some z):b<m.next:=by
 unfold V.W at h;split at h
 ·assumption
 ·cases h
theorem AT(h:b<m.next):(m.A0 b x).W b=x:=by simp[V.W,V.A0,h]
theorem A3(h:G≠b):(m.A0 b x).W G=m.W G:=by simp[V.W,V.A0,h]
theorem AU(h:b<m.next):(m.AE k).W b=m.W b:=by
 have:b<m.next+k:=by omega
 simp[V.W,V.AE,h,this]
variable{es e:List (Value×Value)}{n o f I base:Nat}{C:Bool}{cs args:List Value}{s d:Option Nat}{N:Type}{H aF:A6->V->Prop}{a7:Value->V->Prop}{E:List Operand}{bd:List Ap}{bp:List (Operand×Operand)}{b5:List (TypeId×Nat×Option (Bool×Nat))}{au t:TypeId}{v a0 bA bX a3 a4 fJ r:Value}{M:Nat×List Value}{w:V}{b4:Callee}{J:List Fy}
@[simp] theorem aFV:(m.Cf b es).next=m.next:=rfl
theorem AD:(∀(m:V) (b:Nat) (x:Option Bw),(m.A0 b x).next=m.next)/\(∀(m:V) (k:Nat),(m.AE k).next=m.next+k)/\ ∀(m:V) (b:Nat) (es:List (Value×Value)),(m.Cf b es).next=m.next:=⟨λ_ _ _=>rfl,λ_ _=>rfl,λ_ _ _=>rfl⟩
theorem Ym(h:b<m.next):(m.Cf b es).W b=some ⟨[],true⟩:=by simp[V.W,V.Cf,h]
theorem H2(h:G≠b):(m.Cf b es).W G=m.W G:=by simp[V.W,V.Cf,h]
theorem RX(h:b<m.next):(m.Cf b es).BL b=some es:=by simp[V.BL,Ym h];simp[V.Cf]
theorem VG(h:G≠b):(m.Cf b es).BL G=m.BL G:=by simp[V.BL,H2 h];simp[V.Cf,h]
theorem IS(h:G≠b):(m.A0 b x).BL G=m.BL G:=by simp[V.BL,A3 h];rfl
theorem Ul(h:b<m.next):(m.AE k).BL b=m.BL b:=by simp[V.BL,AU h];rfl
theorem VD:(m.A0 b x).A0 b y=m.A0 b y:=by simp only[V.A0,V.mk.injEq,true_and,and_true];funext i;by_cases h:i=b<;>simp[h]
theorem Z1(h:m.W b=some z):m.A0 b (some z)=m:=by
 obtain⟨n,f,g⟩:=m;have a:=F h;simp only[V.W,V.A0,V.mk.injEq,true_and,and_true]at h a⊢;rw[if_pos a]at h;funext i;by_cases c:i=b
 ·subst c;simp[h]
 ·simp[c]
@[simp] theorem a4S{a:Nat}:Bx m (.pointer (some ⟨a,o,none⟩)) n=(match m.W a with|some x=>decide (o+n<=x.cells.length)|none=>false):=rfl
@[simp] theorem vS{a:Nat}:GN m (.pointer (some ⟨a,o,none⟩))=(match m.W a with|some x=>x.own|none=>false):=rfl
@[simp] theorem aFG{a:Nat}:DN m C n (.pointer (some ⟨a,o,none⟩))=if C then .agg (CW m a o n).toArray else(CW m a o 1).headD undef:=rfl
@[simp] theorem vH{a:Nat}:CW m a o n=match m.W a with|some x=>(x.cells.drop o).take n|none=>[]:=rfl
@[simp] theorem aBT{a:Nat}:FJ m (.pointer (some ⟨a,o,none⟩)) cs=match m.W a with|some x=>m.A0 a (some ⟨C3 x.cells o cs,x.own⟩)|none=>m:=rfl
@[simp] theorem z2{a l c:Nat}:Bp m n (.slice (some ⟨a,o,s⟩) l c)=(c==n&&(match m.W a with|some x=>decide (o+l*n<=x.cells.length)|none=>false)):=rfl
@[simp] theorem aJr:Bp m n (.slice none 0 0)=true:=rfl
@[simp] theorem aPw{a l c:Nat}:Dl m (.slice (some ⟨a,o,s⟩) l c)=(match m.W a with|some x=>x.own|none=>false):=rfl
@[simp] theorem aGZ{l c:Nat}:Dl m (.slice none l c)=true:=rfl
@[simp] theorem a3S{a l c:Nat}:C7 m n (.slice (some ⟨a,o,s⟩) l c)=CW m a o (l*n):=rfl
@[simp] theorem aMY{l c:Nat}:C7 m n (.slice none l c)=[]:=rfl
@[simp] theorem aOP{a l c:Nat}:Dx m (.slice (some ⟨a,o,s⟩) l c)=m.A0 a none:=rfl
@[simp] theorem a3i{a l c z:Nat}:Dn m z (.slice (some ⟨a,o,none⟩) l c) n=false:=rfl
@[simp] theorem aMt{l c z:Nat}:Dn m z (.slice none l c) n=false:=rfl
@[simp] theorem aME{a l c z k:Nat}:Dn m z (.slice (some ⟨a,o,some k⟩) l c) n=(decide (l+n<=k)&&(match m.W a with|some x=>decide (o+(l+n)*z<=x.cells.length)|none=>false)):=rfl
@[simp] theorem aGf{a l c:Nat}:SI (.slice (some ⟨a,o,s⟩) l c) n= .slice (some ⟨a,o,s⟩) (l+n) c:=rfl
@[simp] theorem aL2{a l c z:Nat}:GA m z (.slice (some ⟨a,o,s⟩) l c) cs=match m.W a with|some x=>m.A0 a (some ⟨C3 x.cells (o+l*z) cs,x.own⟩)|none=>m:=rfl
@[simp] theorem aO0{a l c:Nat}:M8 (.slice (some ⟨a,o,s⟩) l c)= .slice (some ⟨a,o,some l⟩) 0 c:=rfl
@[simp] theorem aMN{l c:Nat}:M8 (.slice none l c)= .slice none 0 0:=rfl
@[simp] theorem aGc:KA none=false:=rfl
@[simp] theorem aGp:KA (some (.tmp n))=false:=rfl
@[simp] theorem aJZ{k:IntKind}{n:Int}:KA (some (.const (.int k n)))=(n==0):=rfl
@[simp] theorem aQF{l c:Nat}:Dx m (.slice none l c)=m:=rfl
theorem Ah{n:Int}(a: -9223372036854775808<=n)(b:n<=9223372036854775807):IntKind.i64.wrap n=n:=IntWalk.i64_in n ⟨a,b⟩
theorem BX(h:n<9223372036854775807):IntKind.i64.wrap ((n:Int)+1)=(n:Int)+1:=Ah (by omega) (by omega)
theorem CF{l:List N}{i:Nat}(h:i<l.length): ∃x,l[i]?=some x:=⟨_,List.getElem?_eq_getElem h⟩
variable {P:Program} {A:A6} {m:V} {Q:BM->A6->V->Prop}
def Li(H:A6->V->Prop)(Q:BM->A6->V->Prop)(e:BM)(A:A6)(m:V):Prop:=match e with| .Cx=>H A m|e=>Q e A m
@[simp] theorem aMl:Li H Q .Cx A m=H A m:=rfl
@[simp] theorem aPx{id:Nat}:Li H Q (.Ai id) A m=Q (.Ai id) A m:=rfl
@[simp] theorem aId:Li H Q .DO A m=Q .DO A m:=rfl
theorem D7{c:D}(h: ∀H:A6->V->Prop,(∀a w,BS P (.loop c) a w Q->H a w)->BS P c A m (Li H Q)):BS P (.loop c) A m Q:=by rw[z7];refine(h (λa w=>BS P (.loop c) a w Q) (λ_ _ h=>h)).AG λe a w h=> ?_;cases e<;>exact h
def dK(P:Program)(v:Value)(args:List Value)(m:V)(a7:Value->V->Prop):Prop:=match v with
 | .func (.func f) first a=>Aq P f (first.toList++args++a.toList) m a7
 |_=>False
@[simp] theorem aNb{first a:Array Value}:dK P (.func (.func f) first a) args m a7=Aq P f (first.toList++args++a.toList) m a7:=rfl
@[simp] theorem aK3{x:Operand}:
 Bm P base (⟨I,d,none,.Iw x E,bp⟩::bd) A m aF=dK P (O A x) (E.map (O A)) m (M9 P base d bp bd A m aF):=by
  by_cases a: ∃f first b,O A x= .func (.func f) first b
  ·obtain⟨f,first,b,a⟩:=a;rw[k8 a,a];rfl
  ·have c:(K.Iw x E).C2 A m=none:=by
    simp only[K.C2];split
    ·rename_i f first b h;exact absurd ⟨f,first,b,h⟩ a
    ·rfl
   have e:dK P (O A x) (E.map (O A)) m (M9 P base d bp bd A m aF)=False:=by
    unfold dK;split
    ·rename_i f first b h;exact absurd ⟨f,first,b,h⟩ a
    ·rfl
   rw[e];refine propext ⟨λ⟨n,j,w,h,q⟩=> ?_,False.elim⟩;obtain⟨k,l,g,_,_⟩:=Iq h;obtain⟨i,_⟩:=Z5 (o:=⟨I,d,none,.Iw x E,bp⟩) rfl c g;cases i
def HK(P:Program)(b5:List (TypeId×Nat×Option (Bool×Nat)))(v:Value)(args:List Value)(m:V)(a7:Value->V->Prop):Prop:=match v with
 | .iface t v=>match b5.find? (λr=>r.1==t)with
   |some (_,f,none)=>Aq P f (v::args) m a7
   |some (_,f,some (C,n))=>(Bx m v n&&(C||decide (n=1)))=true/\Aq P f (DN m C n v::args) m a7
   |none=>False
 |_=>False
theorem aDq{x:Operand}:
 Bm P base (⟨I,d,none,.Ip b5 x E,bp⟩::bd) A m aF=HK P b5 (O A x) (E.map (O A)) m (M9 P base d bp bd A m aF):=by
 have e:(K.Ip b5 x E).C2 A m=none->Bm P base (⟨I,d,none,.Ip b5 x E,bp⟩::bd) A m aF=False:= λg=>by refine propext ⟨λ⟨n,j,w,h,q⟩=> ?_,False.elim⟩;obtain⟨k,l,i,_,_⟩:=Iq h;obtain⟨a,_⟩:=Z5 (o:=⟨I,d,none,.Ip b5 x E,bp⟩) rfl g i;cases a
 unfold HK;split
 ·rename_i t v c;split
  ·rename_i r f b;exact YB (by simp only[K.C2,c,b])
  ·rename_i r f C n b;by_cases a:(Bx m v n&&(C||decide (n=1)))=true
   ·rw[YB (f:=f) (args:=DN m C n v::E.map (O A)) (by simp only[K.C2,c,b,a,if_true])];simp only[a,true_and]
   ·rw[e (by simp only[K.C2,c,b,if_neg a])];exact propext ⟨False.elim,λh=>absurd h.1 a⟩
  ·rename_i b;rw[e (by simp only[K.C2,c,b])]
 ·rename_i c;refine e ?_;simp only[K.C2]
@[simp] theorem a7l{x:Operand}:
 Bm P base (⟨I,d,none,.Ip b5 x E,bp⟩::bd) A m aF=HK P b5 (O A x) (E.map (O A)) m (M9 P base d bp bd A m aF):=aDq
@[simp] theorem L4:
 HK P ((au,f,none)::b5) (.iface t v) args m a7=if au=t then Aq P f (v::args) m a7 else HK P b5 (.iface t v) args m a7:=by
  by_cases h:au=t
  ·subst h;simp[HK]
  ·simp[HK,h]
@[simp] theorem Kj:
 HK P ((au,f,some (C,n))::b5) (.iface t v) args m a7=if au=t then((Bx m v n&&(C||decide (n=1)))=true/\Aq P f (DN m C n v::args) m a7)else HK P b5 (.iface t v) args m a7:=by
  by_cases h:au=t
  ·subst h;simp[HK]
  ·simp[HK,h]
@[simp] theorem aJ7{d:Value}{l:List Value}:(a0::l)[0]?.getD d=a0:=rfl
@[simp] theorem aHZ{d:Value}{l:List Value}:(a0::bA::l)[1]?.getD d=bA:=rfl
@[simp] theorem aN3{d:Value}{l:List Value}:(a0::bA::bX::l)[2]?.getD d=bX:=rfl
@[simp] theorem aPq{d:Value}{l:List Value}:(a0::bA::bX::a3::l)[3]?.getD d=a3:=rfl
@[simp] theorem aOL{d:Value}{l:List Value}:(a0::bA::bX::a3::a4::l)[4]?.getD d=a4:=rfl
@[simp] theorem aNA{d:Value}{l:List Value}:(a0::bA::bX::a3::a4::fJ::l)[5]?.getD d=fJ:=rfl
@[simp] theorem aHA{d a:Value}{l:List Value}:(a0::bA::bX::a3::a4::fJ::a::l)[6]?.getD d=a:=rfl
@[simp] theorem aLU{d b a:Value}{l:List Value}:(a0::bA::bX::a3::a4::fJ::b::a::l)[7]?.getD d=a:=rfl
attribute [simp] K.ok K.val K.Cl
variable {p:Option Addr} {a:Addr} {l c z i j:Nat}
@[simp] theorem KX{s:ByteArray}:De (.string s)=s.size:=rfl
@[simp] theorem aMw:De (.slice p l c)=l:=rfl
@[simp] theorem aJn:Lo (.slice p l c)=true:=rfl
@[simp] theorem aKE:CQ (.slice p l c)=l:=rfl
@[simp] theorem aJS{b:Nat}:Fj z (.slice (some ⟨b,o,none⟩) l c)=(c==z):=rfl
@[simp] theorem aM2{b:Nat}{n:Int}:Pb (.slice (some ⟨b,o,none⟩) l c) z n= .pointer (some ⟨b,o+n.toNat*z,none⟩):=rfl
@[simp] theorem aPv{b:Nat}:IT (.slice (some ⟨b,o,none⟩) l c) z i j= .slice (some ⟨b,o+i*z,none⟩) (j-i) c:=rfl
@[simp] theorem aJP:Fj z (.slice none 0 0)=true:=rfl
@[simp] theorem aLA:IT (.slice none 0 0) z i j= .slice none 0 0:=rfl
@[simp] theorem aPT:min n IntKind.u64.bits=min n 64:=rfl
@[simp] theorem aLd:min n IntKind.u32.bits=min n 32:=rfl
attribute [simp] AT A3 AU VD
open Go Go.RowKit
structure Bl(u:Nat->Prop)(aR m Z:V):Prop where
 next:Z.next=m.next
 dr:aR.next<=m.next
 EZ: ∀b,u b->b<m.next
 off: ∀b,u b->m.W b=none
 AZ: ∀b,u b->Z.W b=aR.W b/\Z.mp b=aR.mp b
 eq: ∀b,¬u b->Z.W b=m.W b
 mp:Z.mp=m.mp
variable {u:Nat->Prop} {aR m Z:V}
theorem Bl.DD(a:Bl u aR m Z){b:Nat}{x:Bw}(h:m.W b=some x): ¬u b:= λc=>by rw[a.off b c]at h;cases h
theorem Bl.W(a:Bl u aR m Z){b:Nat}{x:Bw}(h:m.W b=some x):Z.W b=some x:=by rw[a.eq b (a.DD h),h]
theorem Bl.BL(c:Bl u aR m Z){b:Nat}(h:m.BL b=some e):Z.BL b=some e:=by
 unfold V.BL at h⊢;cases a:m.W b with
 |none=>rw[a]at h;cases h
 |some x=>rw[a]at h;rw[c.W a,c.mp];exact h
theorem Bl.nP(c:Bl u aR m Z){b:Nat}(h:m.BL b=some e): ¬u b:=by
 unfold V.BL at h;cases a:m.W b with
 |none=>rw[a]at h;cases h
 |some x=>exact c.DD a
theorem Bl.A0(a:Bl u aR m Z){b:Nat}(hb: ¬u b)(x:Option Bw):Bl u aR (m.A0 b x) (Z.A0 b x) where
 next:=a.next
 dr:=a.dr
 EZ:=a.EZ
 off c d:=by rw[A3 (show c≠b from λh=>hb (h▸d)),a.off c d]
 AZ c d:=⟨by rw[A3 (show c≠b from λh=>hb (h▸d)),(a.AZ c d).1],(a.AZ c d).2⟩
 eq c d:=by
  by_cases h:c=b
  ·subst h;simp only[V.W,V.A0,a.next,if_true]
  ·rw[A3 h,A3 h,a.eq c d]
 mp:=a.mp
theorem Bl.Cf(a:Bl u aR m Z){b:Nat}(hb: ¬u b)(e:List (Value×Value)):Bl u aR (m.Cf b e) (Z.Cf b e) where
 next:=a.next
 dr:=a.dr
 EZ:=a.EZ
 off c d:=by rw[H2 (show c≠b from λh=>hb (h▸d)),a.off c d]
 AZ c d:=by refine⟨by rw[H2 (show c≠b from λh=>hb (h▸d)),(a.AZ c d).1],by show(if c=b then some e else Z.mp c)=_;rw[if_neg (show c≠b from λh=>hb (h▸d))];exact(a.AZ c d).2⟩
 eq c d:=by
  by_cases h:c=b
  ·subst h;simp only[V.W,V.Cf,a.next,if_true]
  ·rw[H2 h,H2 h,a.eq c d]
 mp:=by show(λi=>if i=b then some e else Z.mp i)=_;rw[a.mp];rfl
theorem Bl.AE(a:Bl u aR m Z)(k:Nat):Bl u aR (m.AE k) (Z.AE k) where
 next:=by show Z.next+k=m.next+k;rw[a.next]
 dr:=by have:=a.dr;show aR.next<=m.next+k;omega
 EZ b hb:=by have:=a.EZ b hb;show b<m.next+k;omega
 off b hb:=by rw[AU (a.EZ b hb),a.off b hb]
 AZ b hb:=⟨by rw[AU (by rw[a.next];exact a.EZ b hb),(a.AZ b hb).1],(a.AZ b hb).2⟩
 eq b hb:=by
  by_cases h:b<m.next
  ·rw[AU h,AU (by rw[a.next];exact h),a.eq b hb]
  ·simp[V.W,V.AE,a.next,h]
 mp:=a.mp
theorem Bl.Bx(c:Bl u aR m Z)(h:Bx m v n=true):Bx Z v n=true:=by
 unfold DI.Bx at h⊢;split at h
 ·rename_i a;simp only[AB]at h⊢;refine⟨h.1,?_⟩;cases b:m.W a.block with
  |none=>rw[b]at h;simp at h
  |some x=>rw[b]at h;rw[c.W b];exact h.2
 ·cases h
theorem Bl.GN(c:Bl u aR m Z)(h:GN m v=true):GN Z v=true:=by
 unfold DI.GN at h⊢;split at h
 ·rename_i a;cases b:m.W a.block with
  |none=>rw[b]at h;cases h
  |some x=>rw[b]at h;rw[c.W b];exact h
 ·cases h
theorem Bl.DN(c:Bl u aR m Z)(h:DI.Bx m v n=true):DN Z C n v=DN m C n v:=by
 unfold DI.Bx at h;split at h
 ·rename_i a;simp only[AB]at h;cases b:m.W a.block with
  |none=>rw[b]at h;simp at h
  |some x=>simp only[DI.DN,CW,b,c.W b]
 ·cases h
theorem Bl.FJ(c:Bl u aR m Z)(h:DI.Bx m v n=true):Bl u aR (FJ m v cs) (FJ Z v cs):=by
 unfold DI.Bx at h;split at h
 ·rename_i a;simp only[AB]at h;cases b:m.W a.block with
  |none=>rw[b]at h;simp at h
  |some x=>simp only[DI.FJ,b,c.W b];exact c.A0 (c.DD b) _
 ·cases h
theorem Bl.Bp(d:Bl u aR m Z){z:Nat}(h:Bp m z v=true):Bp Z z v=true:=by
 unfold DI.Bp at h⊢;split at h
 ·exact h
 ·rename_i a l c;simp only[AB]at h⊢;refine⟨h.1,?_⟩;cases b:m.W a.block with
  |none=>rw[b]at h;simp at h
  |some x=>rw[b]at h;rw[d.W b];exact h.2
 ·cases h
theorem Bl.Dl(d:Bl u aR m Z)(h:Dl m v=true):Dl Z v=true:=by
 unfold DI.Dl at h⊢;split at h
 ·rfl
 ·rename_i a l c;cases b:m.W a.block with
  |none=>rw[b]at h;cases h
  |some x=>rw[b]at h;rw[d.W b];exact h
 ·cases h
theorem Bl.C7(d:Bl u aR m Z){z:Nat}(h:DI.Bp m z v=true):C7 Z z v=C7 m z v:=by
 unfold DI.Bp at h;split at h
 ·rfl
 ·rename_i a l c;simp only[AB]at h;cases b:m.W a.block with
  |none=>rw[b]at h;simp at h
  |some x=>simp only[DI.C7,CW,b,d.W b]
 ·cases h
theorem Bl.Dx(b:Bl u aR m Z){z:Nat}(h:DI.Bp m z v=true):Bl u aR (Dx m v) (Dx Z v):=by
 unfold DI.Bp at h;split at h
 ·exact b
 ·rename_i a l c;simp only[AB]at h;cases d:m.W a.block with
  |none=>rw[d]at h;simp at h
  |some x=>exact b.A0 (b.DD d) _
 ·cases h
theorem Bl.Gj(b:Bl u aR m Z){z:Nat}(h:DI.Bp m z v=true):Bl u aR (Gj m cs v) (Gj Z cs v):=by
 unfold DI.Bp at h;split at h
 ·exact b
 ·rename_i a l c;simp only[AB]at h;cases d:m.W a.block with
  |none=>rw[d]at h;simp at h
  |some x=>simp only[DI.Gj,d,b.W d];exact b.A0 (b.DD d) _
 ·cases h
theorem Bl.Dn(e:Bl u aR m Z){z:Nat}(h:DI.Bp m z v=true):Dn Z z v n=Dn m z v n:=by
 unfold DI.Bp at h;split at h
 ·rfl
 ·rename_i a l c;simp only[AB]at h;obtain⟨b,off,f⟩:=a;cases d:m.W b with
  |none=>simp only[d]at h;simp at h
  |some x=>cases f<;>simp only[DI.Dn,d,e.W d]
 ·cases h
theorem Bl.GA(b:Bl u aR m Z){z:Nat}(h:DI.Bp m z v=true):Bl u aR (GA m z v cs) (GA Z z v cs):=by
 unfold DI.Bp at h;split at h
 ·exact b
 ·rename_i a l c;simp only[AB]at h;cases d:m.W a.block with
  |none=>rw[d]at h;simp at h
  |some x=>simp only[DI.GA,d,b.W d];exact b.A0 (b.DD d) _
 ·cases h
theorem Bl.Et(a:Bl u aR m Z)(h:Et m v=some es):Et Z v=some es:=by
 unfold DI.Et at h⊢;split at h
 ·exact h
 ·exact a.BL h
 ·cases h
theorem U3(a:Bl u aR m Z){k:K}{A:A6}(h:k.ok A m=true):k.ok A Z=true:=by
 cases k with
 |Nt z n y=>simp only[K.ok,AB]at h⊢;exact⟨a.Bx h.1,h.2⟩
 |E4 C n x=>simp only[K.ok,AB]at h⊢;exact⟨a.Bx h.1,h.2⟩
 |store n x v=>simp only[K.ok,AB]at h⊢;exact⟨⟨⟨a.Bx h.1.1.1,a.GN h.1.1.2⟩,h.1.2⟩,h.2⟩
 |M6 x=>simp only[K.ok,AB]at h⊢;exact⟨a.Bp h.1,by rw[a.C7 h.1];exact h.2⟩
 |app z bytes x y=>simp only[K.ok,AB]at h⊢;exact⟨⟨⟨⟨⟨a.Bp h.1.1.1.1.1,a.Dl h.1.1.1.1.2⟩,a.Bp h.1.1.1.2⟩,h.1.1.2⟩,h.1.2⟩,h.2⟩
 |Cm z x=>simp only[K.ok,AB]at h⊢;exact⟨⟨a.Bp h.1.1,a.Dl h.1.2⟩,h.2⟩
 | Ll bp z o x d=>
   simp only[K.ok]at h⊢;cases c:DI.Et m (O A x)with
   |none=>rw[c]at h;cases h
   |some es=>rw[c]at h;rw[a.Et c];exact h
 | Kn bp x d v=>
   simp only[K.ok]at h⊢;split at h
   ·rename_i e b hb;cases c:m.BL b with
    |none=>rw[c]at h;cases h
    |some es=>rw[c]at h;rw[a.BL c];exact h
   ·cases h
 |_=>exact h
theorem XQ(a:Bl u aR m Z){k:K}{A:A6}{id:Nat}(h:k.ok A m=true):k.val id A Z=k.val id A m:=by
 cases k with
 |E4 C n x=>simp only[K.ok,AB]at h;exact a.DN h.1
 |M6 x=>simp only[K.ok,AB]at h;simp only[K.val,a.C7 h.1]
 | app z bytes x y=>simp only[K.ok,AB]at h;simp only[K.val,a.Dn h.1.1.1.1.1]
 | Ll bp z o x c=>
   simp only[K.ok]at h;cases b:DI.Et m (O A x)with
   |none=>rw[b]at h;cases h
   |some es=>simp only[K.val,b,a.Et b]
 |_=>rfl
theorem Wr(f:Bl u aR m Z){k:K}{A:A6}{id:Nat}(g: ¬u id)(h:k.ok A m=true):Bl u aR (k.Cl id A m) (k.Cl id A Z):=by
 cases k with
 |IX z=>exact f.A0 g _
 |JP x=>exact f.A0 g _
 |HG a b c d=>exact f.A0 g _
 |MS x=>exact f.A0 g _
 |KD a b c d e=>exact f.A0 g _
 |Cm z x=>simp only[K.ok,AB]at h;exact f.Gj h.1.1
 |IA a b c d e=>exact f.A0 g _
 |store n x v=>simp only[K.ok,AB]at h;exact f.FJ h.1.1.1
 | app z bytes x y=>
   simp only[K.ok,AB]at h;simp only[K.Cl,f.Dn h.1.1.1.1.1];split
   ·exact f
   ·rw[f.C7 h.1.1.1.1.1,f.C7 h.1.1.1.2];split
    ·exact f.GA h.1.1.1.1.1
    ·exact(f.Dx h.1.1.1.1.1).A0 g _
 |LB=>exact f.Cf g _
 | Kn bp x j v=>
   simp only[K.ok]at h;split at h
   ·rename_i l b hb;cases i:m.BL b with
    |none=>rw[i]at h;cases h
    |some es=>simp only[K.Cl,hb,Mx,i,f.BL i];exact f.Cf (f.nP i) _
   ·cases h
 |_=>exact f
theorem bz(b:Bl u aR m Z){k:K}{A:A6}(h:k.C2 A m=some M):k.C2 A Z=some M:=by
 cases k with
 | Ip b5 x args=>
   simp only[K.C2]at h⊢;split at h
   ·split at h
    ·exact h
    ·split at h
     ·rename_i a;simp only[AB]at a;rw[if_pos (by simp only[AB];exact⟨b.Bx a.1,a.2⟩),b.DN a.1];exact h
     ·cases h
    ·cases h
   ·cases h
 |_=>exact h
theorem hJ{m Z:V}{k:K}{A:A6}(h:k.C2 A m=none)(c:k.ok A m=true):k.C2 A Z=none:=by
 refine Ks ?_;cases k with
 |KC f a=>simp[K.ok]at c
 |Iw f a=>simp[K.ok]at c
 |Ip f a b=>simp[K.ok]at c
 |_=>rfl
def Zh(u:Nat->Prop)(aR:V)(b4:Callee):Prop:= ∀f a m r w,b4 f a m=some (r,w)-> ∀Z,Bl u aR m Z-> ∃cK,b4 f a Z=some (r,cK)/\Bl u aR w cK
theorem fk{cK:V}(c:Bl u aR m Z)(d:Bl u aR w cK){A:A6}(h:KO A bp m w):KO A bp Z cK:= λp e b hb=>by
 by_cases a:u b
 ·rw[(c.AZ b a).1,(d.AZ b a).1]
 ·rw[c.eq b a,d.eq b a];exact h p e b hb
theorem jM(i:Zh u aR b4)(j:Bl u aR m Z)(hb: ∀b,u b->b<base){o:Ap}{A d:A6}(h:DK b4 base o A m=some (d,w))(a:Hv o A m w):
 ∃cK,DK b4 base o A Z=some (d,cK)/\Bl u aR w cK/\Hv o A Z cK:=by
 unfold DK at h⊢;unfold Hv at a⊢;by_cases e:Bf A o.g=true
 ·rw[if_pos e]at h⊢
  replace a:=a e
  cases l:o.k.C2 A m with
  | none=>
    grind [hJ,U3,XQ,Wr]
  | some M=>
    obtain⟨f,args⟩:=M;rw[l]at h a;simp only at h a;cases c:b4 f args m with
    |none=>rw[c]at h;cases h
    | some n=>
      obtain⟨v,p⟩:=n;rw[c]at h;cases h;obtain⟨cK,q,r⟩:=i _ _ _ _ _ c Z j
      grind [bz,fk]
 ·simp_all
theorem OF(c:Zh u aR b4)(hb: ∀b,u b->b<base): ∀{L:List Ap} {A d:A6} {m w Z:V},Bl u aR m Z->Ef b4 base L A m=some (d,w)-> ∃cK,Ef b4 base L A Z=some (d,cK)/\Bl u aR w cK
 |[],_,_,_,_,Z,a,h=>by cases h;exact⟨Z,rfl,a⟩
 | _::_,_,_,_,_,Z,a,h=>by obtain⟨p,q,e,f,g⟩:=Iq h;obtain⟨r,i,j,k⟩:=jM c a hb e f;obtain⟨l,n,o⟩:=OF c hb j g;exact⟨l,Ns i k n,o⟩
theorem UE{f:A6->V->Option (BM×A6×V)}(b: ∀A m e a w,f A m=some (e,a,w)-> ∀Z,Bl u aR m Z-> ∃cK,f A Z=some (e,a,cK)/\Bl u aR w cK):
 ∀{n:Nat} {A:A6} {m:V} {e:BM} {a:A6} {w Z:V},Ed f n A m=some (e,a,w)->Bl u aR m Z-> ∃cK,Ed f n A Z=some (e,a,cK)/\Bl u aR w cK
 |0,_,_,_,_,_,_,h,_=>by simp[Ed]at h
 | n+1,A,m,e,a,w,Z,h,g=>by
   rcases Ui h with⟨p,q,c,d⟩|⟨c,d⟩
   ·obtain⟨r,i,j⟩:=b _ _ _ _ _ c Z g;obtain⟨k,l,o⟩:=UE b d j;exact⟨k,by simp only[Ed,i];exact l,o⟩
   ·grind [Ed]
theorem T1{m:V}{b:Nat}:(HC m).W b=(m.W b).map SC:=by
 unfold V.W;show(if b<m.next then _ else _)=_;by_cases h:b<m.next
 ·rw[if_pos h,if_pos h];rfl
 ·grind
theorem Bl.HC(a:Bl u aR m Z):Bl u (HC aR) (HC m) (HC Z) where
 next:=a.next
 dr:=a.dr
 EZ:=a.EZ
 off b hb:=by rw[T1,a.off b hb];rfl
 AZ b hb:=⟨by rw[T1,T1,(a.AZ b hb).1],rfl⟩
 eq b hb:=by rw[T1,T1,a.eq b hb]
 mp:=rfl
theorem Bl.H6(d:Bl u aR m Z){z:Nat}(h:H6 z m v=true):H6 z Z v=true:=by
 unfold DI.H6 at h⊢;split at h
 ·rename_i a l c;cases b:m.W a.block with
  |none=>rw[b]at h;cases h
  |some x=>rw[b]at h;rw[d.W b];exact h
 ·rfl
theorem Bl.H4(a:Bl u aR m Z){o:Ap}{A:A6}(h:H4 o A m=true):H4 o A Z=true:=by
 unfold DI.H4 at h⊢;simp only[AB]at h⊢;refine⟨⟨h.1.1,?_⟩,U3 a h.2⟩;have:=h.1.2;split at this
 ·exact a.H6 this
 ·cases this
theorem HA(i: ∀aR,Zh u aR b4): ∀{c:D} {A l:A6} {m w Z:V} {e:BM},Bb b4 n c A m=some (e,l,w)->Bl u aR m Z-> ∃cK,Bb b4 n c A Z=some (e,l,cK)/\Bl u aR w cK
 | .skip,_,_,_,_,Z,_,h,d=>by cases h;exact⟨Z,rfl,d⟩
 | .FI ops,A,l,m,w,Z,e,h,d=>by
   simp only[Bb]at h⊢;split at h
   ·rename_i y z E;cases h;have F:Bl u aR (Cu ops m) (Cu ops Z):=by
     unfold Cu;split
     ·exact d.AE _
     ·exact d
    obtain⟨cK,g,s⟩:=OF (i aR) (base:=m.next) (λb hb=>d.EZ b hb) F E;refine⟨cK,?_,s⟩;rw[d.next,g]
   ·cases h
 | .Ky J o bd,A,l,m,w,Z,e,h,d=>by
   simp only[Bb]at h⊢;split at h
   ·rename_i y z p;split at h
    ·rename_i t;split at h
     ·rename_i K L q;cases h;obtain⟨v,r,j⟩:=OF (i aR) (base:=m.next) (λb hb=>d.EZ b hb) (d.AE _) p;have B:o.k.ok y z=true:=(by unfold DI.H4 at t;simp only[AB]at t;exact t.2);obtain⟨G,C,s⟩:=OF (i _) (base:=m.next) (λb hb=>d.EZ b hb) j.HC q;rw[d.next,r];simp only[j.H4 t,if_true,XQ j B,C,s.next,j.next];exact⟨_,rfl,(Wr j (λH=>by have:=d.EZ _ H;omega) B).AE _⟩
     ·cases h
    ·cases h
   ·cases h
 | .Ez a b,A,l,m,w,Z,e,h,d=>by
   simp only[Bb]at h⊢;split at h
   ·rename_i y z p;obtain⟨v,r,j⟩:=HA i p d;obtain⟨G,C,s⟩:=HA i h j
    simp_all
   ·rename_i I;obtain⟨v,r,j⟩:=HA i h d
    simp_all
 | .Gh x a b,A,l,m,w,Z,e,h,d=>by
   simp only[Bb]at h⊢;split at h
   ·rename_i p;rw[if_pos p];split at h
    ·rename_i q;rw[if_pos q];exact HA i h d
    ·rename_i q;rw[if_neg q];exact HA i h d
   ·cases h
 | .block id c,A,l,m,w,Z,e,h,d=>by
   simp only[Bb]at h⊢;split at h
   ·rename_i p;obtain⟨v,r,j⟩:=HA i p d
    grind
   ·rename_i I;obtain⟨v,r,j⟩:=HA i h d
    simp_all
 | .loop c,A,l,m,w,Z,e,h,d=>by simp only[Bb]at h⊢;exact UE (f:=Bb b4 n c) (λA m e l w p Z d=>HA i p d) h d
 | .Ai id,_,_,_,_,Z,_,h,d=>by cases h;exact⟨Z,rfl,d⟩
 | .DO,_,_,_,_,Z,_,h,d=>by cases h;exact⟨Z,rfl,d⟩
theorem QB(a:Bl u aR m Z){A:A6}{r:Fy}(h:IQ m A r=true):IQ Z A r=true/\Ik Z A r=Ik m A r:=by
 cases r with
 |AI t=>exact⟨rfl,rfl⟩
 | E2 t C n=>simp only[IQ,AB]at h⊢;exact⟨⟨a.Bx h.1,h.2⟩,a.DN h.1⟩
theorem gF(a:Bl u aR m Z){A:A6}(h:FM m A J=true):FM Z A J=true/\Fg Z A J=Fg m A J:=by
 have b: ∀r∈J,IQ m A r=true:=by simpa[FM]using h
 refine⟨by simp only[FM,BF];exact λr c=>(QB a (b r c)).1,?_⟩;unfold Fg;split
 ·exact(QB a (b _ (by simp))).2
 ·rw[X7 λr c=>(QB a (b r c)).2]
theorem kB(f:Bl u aR m Z)(h:L3 args m=some (r,w)): ∃cK,L3 args Z=some (r,cK)/\Bl u aR w cK:=by
 obtain⟨s,i,y,rfl,g,rfl,rfl⟩:=aS h;simp only[Ok,AB]at g;obtain⟨a,b,c,d,e⟩:=g;have j:Ok Z s i y=true:=by simp only[Ok,AB];exact⟨f.Bp a,f.Dl b,f.Bp c,f.Dl d,e⟩
 have l: ∀k,k=m.next-> ¬u k:= λk n=>by intro h;have:=f.EZ _ h;omega
 refine⟨((Dx Z s).AE 1).A0 m.next (some ⟨C7 m 1 y++C7 m 1 s,true⟩),?_,((f.Dx a).AE 1).A0 (l _ rfl) _⟩;simp only[L3,j,if_true,ai,U6,f.next,f.C7 a,f.C7 c]
theorem UF{P:Program}: ∀n aR,Zh u aR (El P n)
 |0,_=> λf a m r w h=>by simp[El]at h
 | n+1,aR=> λf a m r w h Z b=>by
   simp only[El]at h⊢;split at h
   ·rename_i g i;split at h
    ·rename_i c;rw[if_pos c];split at h
     ·cases h
     ·rename_i e j k l d;obtain⟨o,p,q⟩:=HA (UF n) d b
      grind [gF]
     ·cases h
    ·cases h
   ·grind [kB]
structure QR(p m:V):Prop where
 next:p.next=m.next
 mp:p.mp=m.mp
 W: ∀b x,p.W b=some x->m.W b=some x
structure a5T(p m a w:V):Prop where
 part:QR a w
 next:m.next<=w.next
 Da: ∀b,b<m.next->p.W b=none->w.W b=m.W b/\a.W b=none/\w.mp b=m.mp b
theorem Aq.frame{P:Program}{p m:V}(c:QR p m)(h:Aq P f args p a7):
 Aq P f args m λr w=> ∃d,a7 r d/\a5T p m d w:=by
 obtain⟨n,r,d,j,q⟩:=h;have k:Bl (λb=>b<p.next/\p.W b=none) m p m:=by
  refine⟨c.next.symm,by rw[c.next];exact Ao _,λb hb=>hb.1,λb hb=>hb.2,λb _=>⟨rfl,rfl⟩,λb hb=> ?_,c.mp.symm⟩;cases i:p.W b with
  |some x=>exact c.W b x i
  | none=>
    have: ¬b<p.next:= λl=>hb ⟨l,i⟩
    have e: ¬b<m.next:=by rw[<-c.next];exact this
    simp only[V.W,e,if_false]
 obtain⟨w,e,a⟩:=UF n m _ _ _ _ _ j m k;refine⟨n,r,w,e,d,q,⟨a.next.symm,a.mp.symm,λb x hb=>a.W hb⟩,?_,λb hb o=> ?_⟩
 ·rw[a.next];exact a.dr
 ·have g:b<p.next/\p.W b=none:=⟨by rw[c.next];exact hb,o⟩
  exact⟨(a.AZ b g).1,a.off b g,(a.AZ b g).2⟩
end Go.DI
