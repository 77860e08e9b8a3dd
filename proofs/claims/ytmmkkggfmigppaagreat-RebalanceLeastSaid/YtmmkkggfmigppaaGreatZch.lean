/-
  A part of the proof, shortened by tools of ours.
-/
import Derived.Test.YtmmkkggfmigppaaGreatZcg
set_option linter.all false
set_option maxRecDepth 8000
set_option maxHeartbeats 16000000
namespace Go.Proofs.YtmmkkggfmigppaaGreat
open Go Go.DI
section
set_option maxRecDepth 100000
def a3q:AV U 168:=⟨_,by conv=>lhs;reduce⟩
def qE:D:=B (a:=a3q.1.body) ⟨_,by conv=>lhs;reduce⟩
def Ys:AN:=⟨10,[.AI 2],qE⟩
theorem y8:AR U 168=some Ys:=by kernel_rfl
def ik:AV U 194:=⟨_,by conv=>lhs;reduce⟩
def a5:D:=B (a:=A8 ik.1.body 35) ⟨_,by conv=>lhs;reduce⟩
def TQ:D:=B (a:=A8 ik.1.body 15) ⟨_,by conv=>lhs;reduce⟩
def h7:D:=B (a:= λx y=>A9 15 y (A9 35 x ik.1.body)) ⟨_,by conv=>lhs;reduce⟩ a5 TQ
def T8:AN:=⟨22,[.AI 2],h7⟩
theorem me:AR U 194=some T8:=by kernel_rfl
def m6:AV U 213:=⟨_,by conv=>lhs;reduce⟩
def dO:D:=B (a:=A8 m6.1.body 71) ⟨_,by conv=>lhs;reduce⟩
def Vr:D:=B (a:=A8 m6.1.body 31) ⟨_,by conv=>lhs;reduce⟩
def rE:D:=B (a:= λx y=>A9 31 y (A9 71 x m6.1.body)) ⟨_,by conv=>lhs;reduce⟩ dO Vr
def aw:AN:=⟨32,[.AI 4,.AI 5],rE⟩
theorem xC:AR U 213=some aw:=by kernel_rfl
def jw:AV U 216:=⟨_,by conv=>lhs;reduce⟩
def Vn:D:=B (a:=A8 jw.1.body 303) ⟨_,by conv=>lhs;reduce⟩
def sN:D:=B (a:=A8 jw.1.body 63) ⟨_,by conv=>lhs;reduce⟩
def u9:D:=B (a:= λx y=>A9 63 y (A9 303 x jw.1.body)) ⟨_,by conv=>lhs;reduce⟩ Vn sN
def dm:AN:=⟨25,[.AI 2],u9⟩
theorem y5:AR U 216=some dm:=by kernel_rfl
def a2l:AV U 217:=⟨_,by conv=>lhs;reduce⟩
def a3e:D:=B (a:=a2l.1.body) ⟨_,by conv=>lhs;reduce⟩
def tx:AN:=⟨14,[.AI 2],a3e⟩
theorem aCp:AR U 217=some tx:=by kernel_rfl
def fh:AV U 222:=⟨_,by conv=>lhs;reduce⟩
def Xa:D:=B (a:=A8 fh.1.body 151) ⟨_,by conv=>lhs;reduce⟩
def Re:D:=B (a:=A8 fh.1.body 31) ⟨_,by conv=>lhs;reduce⟩
def x0:D:=B (a:= λx y=>A9 31 y (A9 151 x fh.1.body)) ⟨_,by conv=>lhs;reduce⟩ Xa Re
def bb:AN:=⟨46,[.AI 4],x0⟩
theorem tR:AR U 222=some bb:=by kernel_rfl
def j4:AV U 241:=⟨_,by conv=>lhs;reduce⟩
def Tp:D:=B (a:=A8 j4.1.body 151) ⟨_,by conv=>lhs;reduce⟩
def Sc:D:=B (a:=A8 j4.1.body 31) ⟨_,by conv=>lhs;reduce⟩
def th:D:=B (a:= λx y=>A9 31 y (A9 151 x j4.1.body)) ⟨_,by conv=>lhs;reduce⟩ Tp Sc
def Yd:AN:=⟨45,[.AI 4],th⟩
theorem xq:AR U 241=some Yd:=by kernel_rfl
def a5F:AV U 246:=⟨_,by conv=>lhs;reduce⟩
def qy:D:=B (a:=a5F.1.body) ⟨_,by conv=>lhs;reduce⟩
def Z2:AN:=⟨7,[.AI 2],qy⟩
theorem zf:AR U 246=some Z2:=by kernel_rfl
def Ox:AV U 247:=⟨_,by conv=>lhs;reduce⟩
def lf:D:=B (a:=A8 Ox.1.body 2411) ⟨_,by conv=>lhs;reduce⟩
def ic:D:=B (a:=A8 Ox.1.body 491) ⟨_,by conv=>lhs;reduce⟩
def a1g:D:=B (a:=A8 Ox.1.body 2331391) ⟨_,by conv=>lhs;reduce⟩
def a4K:D:=B (a:=A8 Ox.1.body 19895039) ⟨_,by conv=>lhs;reduce⟩
def a3f:D:=B (a:= λx y=>A9 4857 y (A9 569 x (A8 Ox.1.body 4863))) ⟨_,by conv=>lhs;reduce⟩ a1g a4K
def aG7:D:=B (a:= λx=>A9 607 x (A8 Ox.1.body 15)) ⟨_,by conv=>lhs;reduce⟩ a3f
def yp:D:=B (a:= λx y z=>A9 3 z (A9 122 y (A9 602 x (A8 Ox.1.body 7)))) ⟨_,by conv=>lhs;reduce⟩ lf ic aG7
def lO:D:=B (a:= λx=>A9 7 x Ox.1.body) ⟨_,by conv=>lhs;reduce⟩ yp
def Ta:AN:=⟨198,[.AI 4,.AI 5],lO⟩
theorem jI:AR U 247=some Ta:=by kernel_rfl
def yr:AV U 248:=⟨_,by conv=>lhs;reduce⟩
def u0:D:=B (a:=A8 yr.1.body 35) ⟨_,by conv=>lhs;reduce⟩
def xb:D:=B (a:= λx=>A9 35 x yr.1.body) ⟨_,by conv=>lhs;reduce⟩ u0
def aC:AN:=⟨19,[.AI 2],xb⟩
theorem u6:AR U 248=some aC:=by kernel_rfl
def tU:AV U 249:=⟨_,by conv=>lhs;reduce⟩
def aFI:D:=B (a:=A8 tU.1.body 1215) ⟨_,by conv=>lhs;reduce⟩
def aDL:D:=B (a:= λx=>A9 1215 x tU.1.body) ⟨_,by conv=>lhs;reduce⟩ aFI
def vt:AN:=⟨75,[.AI 4,.AI 5],aDL⟩
theorem aCE:AR U 249=some vt:=by kernel_rfl
def gX:AV U 251:=⟨_,by conv=>lhs;reduce⟩
def c9:D:=B (a:=A8 gX.1.body 71) ⟨_,by conv=>lhs;reduce⟩
def Wh:D:=B (a:=A8 gX.1.body 31) ⟨_,by conv=>lhs;reduce⟩
def sf:D:=B (a:= λx y=>A9 31 y (A9 71 x gX.1.body)) ⟨_,by conv=>lhs;reduce⟩ c9 Wh
def e3:AN:=⟨30,[.AI 4,.AI 5],sf⟩
theorem rB:AR U 251=some e3:=by kernel_rfl
def a51:AV U 253:=⟨_,by conv=>lhs;reduce⟩
def zI:D:=B (a:=a51.1.body) ⟨_,by conv=>lhs;reduce⟩
def eP:AN:=⟨8,[.AI 2],zI⟩
theorem oQ:AR U 253=some eP:=by kernel_rfl
def jH:AV U 254:=⟨_,by conv=>lhs;reduce⟩
def zw:D:=B (a:=A8 jH.1.body 308015) ⟨_,by conv=>lhs;reduce⟩
def aDB:D:=B (a:= λx=>A9 1203 x (A8 jH.1.body 303)) ⟨_,by conv=>lhs;reduce⟩ zw
def aE4:D:=B (a:= λx=>A9 303 x jH.1.body) ⟨_,by conv=>lhs;reduce⟩ aDB
def xN:AN:=⟨84,[.AI 4,.AI 5],aE4⟩
theorem a6L:AR U 254=some xN:=by kernel_rfl
def a6W:AV U 257:=⟨_,by conv=>lhs;reduce⟩
def a3h:D:=B (a:=a6W.1.body) ⟨_,by conv=>lhs;reduce⟩
def nt:AN:=⟨21,[.AI 4,.AI 5],a3h⟩
theorem a2D:AR U 257=some nt:=by kernel_rfl
def aG8:AV U 260:=⟨_,by conv=>lhs;reduce⟩
def o7:D:=B (a:=aG8.1.body) ⟨_,by conv=>lhs;reduce⟩
def Y2:AN:=⟨21,[.AI 4,.AI 5],o7⟩
theorem yJ:AR U 260=some Y2:=by kernel_rfl
def YE:AV U 268:=⟨_,by conv=>lhs;reduce⟩
def aB8:D:=B (a:=A8 YE.1.body 19019) ⟨_,by conv=>lhs;reduce⟩
def vO:D:=B (a:= λx=>A9 297 x (A8 YE.1.body 75)) ⟨_,by conv=>lhs;reduce⟩ aB8
def fy:D:=B (a:=A8 YE.1.body 15) ⟨_,by conv=>lhs;reduce⟩
def s6:D:=B (a:= λx y=>A9 15 y (A9 75 x YE.1.body)) ⟨_,by conv=>lhs;reduce⟩ vO fy
def dY:AN:=⟨68,[.AI 4],s6⟩
theorem zW:AR U 268=some dY:=by kernel_rfl
def a5n:AV U 271:=⟨_,by conv=>lhs;reduce⟩
def oC:D:=B (a:=a5n.1.body) ⟨_,by conv=>lhs;reduce⟩
def YN:AN:=⟨6,[.AI 2],oC⟩
theorem qj:AR U 271=some YN:=by kernel_rfl
def aA9:AV U 272:=⟨_,by conv=>lhs;reduce⟩
def a5W:D:=B (a:=aA9.1.body) ⟨_,by conv=>lhs;reduce⟩
def y3:AN:=⟨13,[.AI 2,.AI 3],a5W⟩
theorem aEA:AR U 272=some y3:=by kernel_rfl
def Pl:AV U 273:=⟨_,by conv=>lhs;reduce⟩
def a0p:D:=B (a:=A8 Pl.1.body 143) ⟨_,by conv=>lhs;reduce⟩
def a1w:D:=B (a:=A8 Pl.1.body 2303487) ⟨_,by conv=>lhs;reduce⟩
def a0R:D:=B (a:= λx=>A9 281 x (A8 Pl.1.body 9727)) ⟨_,by conv=>lhs;reduce⟩ a1w
def aBq:D:=B (a:=A8 Pl.1.body 38911) ⟨_,by conv=>lhs;reduce⟩
def a0A:D:=B (a:= λx y z=>A9 4863 z (A9 1215 y (A9 17 x (A8 Pl.1.body 15)))) ⟨_,by conv=>lhs;reduce⟩ a0p a0R aBq
def qJ:D:=B (a:= λx=>A9 3 x (A8 Pl.1.body 7)) ⟨_,by conv=>lhs;reduce⟩ a0A
def kE:D:=B (a:= λx=>A9 7 x Pl.1.body) ⟨_,by conv=>lhs;reduce⟩ qJ
def Rg:AN:=⟨198,[.AI 4,.AI 5],kE⟩
theorem mo:AR U 273=some Rg:=by kernel_rfl
def pw:AV U 274:=⟨_,by conv=>lhs;reduce⟩
def a5P:D:=B (a:=A8 pw.1.body 151) ⟨_,by conv=>lhs;reduce⟩
def a7n:D:=B (a:= λx=>A9 151 x pw.1.body) ⟨_,by conv=>lhs;reduce⟩ a5P
def vl:AN:=⟨57,[.AI 4],a7n⟩
theorem a13:AR U 274=some vl:=by kernel_rfl
def k4:AV U 278:=⟨_,by conv=>lhs;reduce⟩
def lk:D:=B (a:=A8 k4.1.body 151) ⟨_,by conv=>lhs;reduce⟩
def aU:D:=B (a:=A8 k4.1.body 31) ⟨_,by conv=>lhs;reduce⟩
def tr:D:=B (a:= λx y=>A9 31 y (A9 151 x k4.1.body)) ⟨_,by conv=>lhs;reduce⟩ lk aU
def a9:AN:=⟨45,[.AI 4,.AI 5],tr⟩
theorem oj:AR U 278=some a9:=by kernel_rfl
end
section
set_option maxRecDepth 100000
def a4j:AV U 107:=⟨_,by conv=>lhs;reduce⟩
def tO:D:=B (a:=a4j.1.body) ⟨_,by conv=>lhs;reduce⟩
def eH:AN:=⟨21,[.E2 4 true 3,.AI 5],tO⟩
theorem yl:AR U 107=some eH:=by kernel_rfl
def aDW:AV U 138:=⟨_,by conv=>lhs;reduce⟩
def pP:D:=B (a:=aDW.1.body) ⟨_,by conv=>lhs;reduce⟩
def Xz:AN:=⟨22,[.AI 2],pP⟩
theorem xD:AR U 138=some Xz:=by kernel_rfl
def a6d:AV U 139:=⟨_,by conv=>lhs;reduce⟩
def uF:D:=B (a:=a6d.1.body) ⟨_,by conv=>lhs;reduce⟩
def aG:AN:=⟨6,[.AI 2],uF⟩
theorem uB:AR U 139=some aG:=by kernel_rfl
def aDA:AV U 167:=⟨_,by conv=>lhs;reduce⟩
def s4:D:=B (a:=aDA.1.body) ⟨_,by conv=>lhs;reduce⟩
def fA:AN:=⟨51,[.E2 6 true 3],s4⟩
theorem xQ:AR U 167=some fA:=by kernel_rfl
def a6T:AV U 169:=⟨_,by conv=>lhs;reduce⟩
def uz:D:=B (a:=a6T.1.body) ⟨_,by conv=>lhs;reduce⟩
def Xu:AN:=⟨12,[.AI 2],uz⟩
theorem qf:AR U 169=some Xu:=by kernel_rfl
def x1:AV U 173:=⟨_,by conv=>lhs;reduce⟩
def a5X:D:=B (a:=A8 x1.1.body 75) ⟨_,by conv=>lhs;reduce⟩
def a5M:D:=B (a:= λx=>A9 75 x x1.1.body) ⟨_,by conv=>lhs;reduce⟩ a5X
def ou:AN:=⟨30,[.E2 2 true 3,.AI 3],a5M⟩
theorem aCT:AR U 173=some ou:=by kernel_rfl
def a5t:AV U 174:=⟨_,by conv=>lhs;reduce⟩
def a4o:D:=B (a:=a5t.1.body) ⟨_,by conv=>lhs;reduce⟩
def rU:AN:=⟨21,[.E2 4 true 3,.AI 5],a4o⟩
theorem a15:AR U 174=some rU:=by kernel_rfl
def a4Z:AV U 175:=⟨_,by conv=>lhs;reduce⟩
def a1A:D:=B (a:=a4Z.1.body) ⟨_,by conv=>lhs;reduce⟩
def vj:AN:=⟨54,[.AI 4,.AI 5],a1A⟩
theorem aAm:AR U 175=some vj:=by kernel_rfl
def xg:AV U 191:=⟨_,by conv=>lhs;reduce⟩
def a0M:D:=B (a:=A8 xg.1.body 75) ⟨_,by conv=>lhs;reduce⟩
def a5i:D:=B (a:= λx=>A9 75 x xg.1.body) ⟨_,by conv=>lhs;reduce⟩ a0M
def tm:AN:=⟨30,[.E2 2 true 3,.AI 3],a5i⟩
theorem a10:AR U 191=some tm:=by kernel_rfl
def zp:AV U 192:=⟨_,by conv=>lhs;reduce⟩
def a8p:D:=B (a:=zp.1.body) ⟨_,by conv=>lhs;reduce⟩
def oI:AN:=⟨9,[.AI 4],a8p⟩
theorem a3v:AR U 192=some oI:=by kernel_rfl
def a8d:AV U 193:=⟨_,by conv=>lhs;reduce⟩
def aDf:D:=B (a:=a8d.1.body) ⟨_,by conv=>lhs;reduce⟩
def wR:AN:=⟨11,[.E2 2 true 3],aDf⟩
theorem a2P:AR U 193=some wR:=by kernel_rfl
def aGB:AV U 195:=⟨_,by conv=>lhs;reduce⟩
def pO:D:=B (a:=aGB.1.body) ⟨_,by conv=>lhs;reduce⟩
def Xw:AN:=⟨53,[.AI 4],pO⟩
theorem om:AR U 195=some Xw:=by kernel_rfl
def a2y:AV U 196:=⟨_,by conv=>lhs;reduce⟩
def wJ:D:=B (a:=a2y.1.body) ⟨_,by conv=>lhs;reduce⟩
def cW:AN:=⟨15,[.E2 2 true 3,.AI 3],wJ⟩
theorem u5:AR U 196=some cW:=by kernel_rfl
def a61:AV U 199:=⟨_,by conv=>lhs;reduce⟩
def a0G:D:=B (a:=a61.1.body) ⟨_,by conv=>lhs;reduce⟩
def sT:AN:=⟨9,[.AI 4],a0G⟩
theorem a2V:AR U 199=some sT:=by kernel_rfl
def a4A:AV U 215:=⟨_,by conv=>lhs;reduce⟩
def yg:D:=B (a:=a4A.1.body) ⟨_,by conv=>lhs;reduce⟩
def ah:AN:=⟨17,[.E2 2 true 3,.AI 3],yg⟩
theorem pb:AR U 215=some ah:=by kernel_rfl
def a3a:AV U 218:=⟨_,by conv=>lhs;reduce⟩
def a2c:D:=B (a:=a3a.1.body) ⟨_,by conv=>lhs;reduce⟩
def s3:AN:=⟨87,[.E2 4 true 3,.AI 5],a2c⟩
theorem a1G:AR U 218=some s3:=by kernel_rfl
def a5u:AV U 219:=⟨_,by conv=>lhs;reduce⟩
def rP:D:=B (a:=a5u.1.body) ⟨_,by conv=>lhs;reduce⟩
def YU:AN:=⟨53,[.E2 6 true 3,.AI 7],rP⟩
theorem yX:AR U 219=some YU:=by kernel_rfl
def aBM:AV U 220:=⟨_,by conv=>lhs;reduce⟩
def aFa:D:=B (a:=aBM.1.body) ⟨_,by conv=>lhs;reduce⟩
def qX:AN:=⟨12,[.AI 2],aFa⟩
theorem aF5:AR U 220=some qX:=by kernel_rfl
def aDP:AV U 221:=⟨_,by conv=>lhs;reduce⟩
def rH:D:=B (a:=aDP.1.body) ⟨_,by conv=>lhs;reduce⟩
def et:AN:=⟨19,[.AI 2],rH⟩
theorem xv:AR U 221=some et:=by kernel_rfl
def aCw:AV U 223:=⟨_,by conv=>lhs;reduce⟩
def aFl:D:=B (a:=aCw.1.body) ⟨_,by conv=>lhs;reduce⟩
def wN:AN:=⟨14,[.AI 4],aFl⟩
theorem aBL:AR U 223=some wN:=by kernel_rfl
def a14:AV U 239:=⟨_,by conv=>lhs;reduce⟩
def aFE:D:=B (a:=a14.1.body) ⟨_,by conv=>lhs;reduce⟩
def pZ:AN:=⟨90,[.E2 4 true 3,.AI 5],aFE⟩
theorem a7M:AR U 239=some pZ:=by kernel_rfl
def aEs:AV U 240:=⟨_,by conv=>lhs;reduce⟩
def oX:D:=B (a:=aEs.1.body) ⟨_,by conv=>lhs;reduce⟩
def cy:AN:=⟨14,[.AI 4],oX⟩
theorem rN:AR U 240=some cy:=by kernel_rfl
def a2Y:AV U 258:=⟨_,by conv=>lhs;reduce⟩
def a5L:D:=B (a:=a2Y.1.body) ⟨_,by conv=>lhs;reduce⟩
def pC:AN:=⟨8,[.E2 2 true 3,.AI 3],a5L⟩
theorem aCz:AR U 258=some pC:=by kernel_rfl
def a2N:AV U 275:=⟨_,by conv=>lhs;reduce⟩
def a4G:D:=B (a:=a2N.1.body) ⟨_,by conv=>lhs;reduce⟩
def y1:AN:=⟨13,[.AI 2],a4G⟩
theorem aFH:AR U 275=some y1:=by kernel_rfl
end
section
set_option maxRecDepth 100000
def rZ:AV U 179:=⟨_,by conv=>lhs;reduce⟩
def XM:D:=B (a:=A8 rZ.1.body 75) ⟨_,by conv=>lhs;reduce⟩
def TE:D:=B (a:= λx=>A9 75 x rZ.1.body) ⟨_,by conv=>lhs;reduce⟩ XM
def aBf:AN:=⟨28,[.AI 2],TE⟩
theorem a7v:AR U 179=some aBf:=by kernel_rfl
variable{a7:Value->V->Prop}{args:List Value}{m:V}
theorem aEl(h:args.length<=28):Aq U 179 args m a7=BS U TE (Cp args) m (EA [.AI 2] a7):=EG a7v h
def o8:AV U 188:=⟨_,by conv=>lhs;reduce⟩
def X5:D:=B (a:=A8 o8.1.body 75) ⟨_,by conv=>lhs;reduce⟩
def Ro:D:=B (a:= λx=>A9 75 x o8.1.body) ⟨_,by conv=>lhs;reduce⟩ X5
def a5R:AN:=⟨29,[.AI 2],Ro⟩
theorem a5l:AR U 188=some a5R:=by kernel_rfl
theorem a3D(h:args.length<=29):Aq U 188 args m a7=BS U Ro (Cp args) m (EA [.AI 2] a7):=EG a5l h
def aEM:AV U 231:=⟨_,by conv=>lhs;reduce⟩
def kV:D:=B (a:=aEM.1.body) ⟨_,by conv=>lhs;reduce⟩
def aCf:AN:=⟨17,[.AI 2],kV⟩
theorem a6y:AR U 231=some aCf:=by kernel_rfl
theorem aFU(h:args.length<=17):Aq U 231 args m a7=BS U kV (Cp args) m (EA [.AI 2] a7):=EG a6y h
def a7w:AV U 232:=⟨_,by conv=>lhs;reduce⟩
def QT:D:=B (a:=a7w.1.body) ⟨_,by conv=>lhs;reduce⟩
def a3o:AN:=⟨17,[.AI 2],QT⟩
theorem a4t:AR U 232=some a3o:=by kernel_rfl
theorem aBc(h:args.length<=17):Aq U 232 args m a7=BS U QT (Cp args) m (EA [.AI 2] a7):=EG a4t h
def aCL:AV U 237:=⟨_,by conv=>lhs;reduce⟩
def jA:D:=B (a:=aCL.1.body) ⟨_,by conv=>lhs;reduce⟩
def aCO:AN:=⟨17,[.AI 2],jA⟩
theorem aAY:AR U 237=some aCO:=by kernel_rfl
theorem a0c(h:args.length<=17):Aq U 237 args m a7=BS U jA (Cp args) m (EA [.AI 2] a7):=EG aAY h
def a0h:AV U 238:=⟨_,by conv=>lhs;reduce⟩
def QG:D:=B (a:=a0h.1.body) ⟨_,by conv=>lhs;reduce⟩
def aDN:AN:=⟨17,[.AI 2],QG⟩
theorem a2w:AR U 238=some aDN:=by kernel_rfl
theorem aFW(h:args.length<=17):Aq U 238 args m a7=BS U QG (Cp args) m (EA [.AI 2] a7):=EG a2w h
def aFt:AV U 255:=⟨_,by conv=>lhs;reduce⟩
def l6:D:=B (a:=aFt.1.body) ⟨_,by conv=>lhs;reduce⟩
def aE7:AN:=⟨9,[.AI 2],l6⟩
theorem a4P:AR U 255=some aE7:=by kernel_rfl
theorem a4h(h:args.length<=9):Aq U 255 args m a7=BS U l6 (Cp args) m (EA [.AI 2] a7):=EG a4P h
def aD1:AV U 256:=⟨_,by conv=>lhs;reduce⟩
def ib:D:=B (a:=aD1.1.body) ⟨_,by conv=>lhs;reduce⟩
def aDI:AN:=⟨9,[.AI 2],ib⟩
theorem aFN:AR U 256=some aDI:=by kernel_rfl
theorem aEF(h:args.length<=9):Aq U 256 args m a7=BS U ib (Cp args) m (EA [.AI 2] a7):=EG aFN h
end
section
set_option maxRecDepth 100000
def Gx:AV U 62:=⟨_,by conv=>lhs;reduce⟩
def qa:D:=B (a:=A8 Gx.1.body 1839) ⟨_,by conv=>lhs;reduce⟩
def Z6:D:=B (a:= λx=>A9 7 x (A8 Gx.1.body 303)) ⟨_,by conv=>lhs;reduce⟩ qa
def uy:D:=B (a:=A8 Gx.1.body 3679) ⟨_,by conv=>lhs;reduce⟩
def b2:D:=B (a:= λx=>A9 7 x (A8 Gx.1.body 607)) ⟨_,by conv=>lhs;reduce⟩ uy
def vh:D:=B (a:=A8 Gx.1.body 7359) ⟨_,by conv=>lhs;reduce⟩
def dx:D:=B (a:= λx=>A9 7 x (A8 Gx.1.body 1215)) ⟨_,by conv=>lhs;reduce⟩ vh
def tV:D:=B (a:=A8 Gx.1.body 14719) ⟨_,by conv=>lhs;reduce⟩
def Y3:D:=B (a:= λx=>A9 7 x (A8 Gx.1.body 2431)) ⟨_,by conv=>lhs;reduce⟩ tV
def xV:D:=B (a:=A8 Gx.1.body 29439) ⟨_,by conv=>lhs;reduce⟩
def fL:D:=B (a:= λx=>A9 7 x (A8 Gx.1.body 4863)) ⟨_,by conv=>lhs;reduce⟩ xV
def yW:D:=B (a:=A8 Gx.1.body 58879) ⟨_,by conv=>lhs;reduce⟩
def Y8:D:=B (a:= λx=>A9 7 x (A8 Gx.1.body 9727)) ⟨_,by conv=>lhs;reduce⟩ yW
def zl:D:=B (a:=A8 Gx.1.body 2047) ⟨_,by conv=>lhs;reduce⟩
def w9:D:=B (a:= λx y=>A9 3 y (A9 18 x (A8 Gx.1.body 1023))) ⟨_,by conv=>lhs;reduce⟩ Y8 zl
def x9:D:=B (a:= λx y=>A9 3 y (A9 18 x (A8 Gx.1.body 511))) ⟨_,by conv=>lhs;reduce⟩ fL w9
def xe:D:=B (a:= λx y=>A9 3 y (A9 18 x (A8 Gx.1.body 255))) ⟨_,by conv=>lhs;reduce⟩ Y3 x9
def vV:D:=B (a:= λx y=>A9 3 y (A9 18 x (A8 Gx.1.body 127))) ⟨_,by conv=>lhs;reduce⟩ dx xe
def qR:D:=B (a:= λx y=>A9 3 y (A9 18 x (A8 Gx.1.body 63))) ⟨_,by conv=>lhs;reduce⟩ b2 vV
def zH:D:=B (a:= λx y=>A9 15 y (A9 75 x (A8 Gx.1.body 7))) ⟨_,by conv=>lhs;reduce⟩ Z6 qR
def r8:D:=B (a:= λx=>A9 7 x Gx.1.body) ⟨_,by conv=>lhs;reduce⟩ zH
def iC:AN:=⟨244,[.AI 2],r8⟩
theorem aDz:AR U 62=some iC:=by kernel_rfl
def a72:AV U 110:=⟨_,by conv=>lhs;reduce⟩
def wy:D:=B (a:=a72.1.body) ⟨_,by conv=>lhs;reduce⟩
def ma:AN:=⟨15,[.AI 6],wy⟩
theorem a5f:AR U 110=some ma:=by kernel_rfl
def RN:AV U 111:=⟨_,by conv=>lhs;reduce⟩
def YP:D:=B (a:=A8 RN.1.body 13103) ⟨_,by conv=>lhs;reduce⟩
def cj:D:=B (a:= λx=>A9 12 x (A8 RN.1.body 1839)) ⟨_,by conv=>lhs;reduce⟩ YP
def YI:D:=B (a:= λx=>A9 3 x (A8 RN.1.body 815)) ⟨_,by conv=>lhs;reduce⟩ cj
def kJ:D:=B (a:= λx=>A9 3 x (A8 RN.1.body 303)) ⟨_,by conv=>lhs;reduce⟩ YI
def eD:D:=B (a:=A8 RN.1.body 63) ⟨_,by conv=>lhs;reduce⟩
def ri:D:=B (a:= λx y=>A9 63 y (A9 303 x RN.1.body)) ⟨_,by conv=>lhs;reduce⟩ kJ eD
def js:AN:=⟨89,[.AI 2],ri⟩
theorem a6i:AR U 111=some js:=by kernel_rfl
def nc:AV U 112:=⟨_,by conv=>lhs;reduce⟩
def m5:D:=B (a:=A8 nc.1.body 151) ⟨_,by conv=>lhs;reduce⟩
def l8:D:=B (a:=A8 nc.1.body 31) ⟨_,by conv=>lhs;reduce⟩
def tF:D:=B (a:= λx y=>A9 31 y (A9 151 x nc.1.body)) ⟨_,by conv=>lhs;reduce⟩ m5 l8
def jW:AN:=⟨95,[.AI 2],tF⟩
theorem a3j:AR U 112=some jW:=by kernel_rfl
def hQ:AV U 113:=⟨_,by conv=>lhs;reduce⟩
def mm:D:=B (a:=A8 hQ.1.body 151) ⟨_,by conv=>lhs;reduce⟩
def YW:D:=B (a:=A8 hQ.1.body 31) ⟨_,by conv=>lhs;reduce⟩
def ub:D:=B (a:= λx y=>A9 31 y (A9 151 x hQ.1.body)) ⟨_,by conv=>lhs;reduce⟩ mm YW
def kx:AN:=⟨60,[.AI 4],ub⟩
theorem a2s:AR U 113=some kx:=by kernel_rfl
def iX:AV U 114:=⟨_,by conv=>lhs;reduce⟩
def m2:D:=B (a:=A8 iX.1.body 75) ⟨_,by conv=>lhs;reduce⟩
def Zq:D:=B (a:=A8 iX.1.body 15) ⟨_,by conv=>lhs;reduce⟩
def xw:D:=B (a:= λx y=>A9 15 y (A9 75 x iX.1.body)) ⟨_,by conv=>lhs;reduce⟩ m2 Zq
def lh:AN:=⟨24,[.AI 2],xw⟩
theorem aF0:AR U 114=some lh:=by kernel_rfl
def aBy:AV U 170:=⟨_,by conv=>lhs;reduce⟩
def xy:D:=B (a:=aBy.1.body) ⟨_,by conv=>lhs;reduce⟩
def bk:AN:=⟨29,[.AI 2],xy⟩
theorem v5:AR U 170=some bk:=by kernel_rfl
def aDx:AV U 171:=⟨_,by conv=>lhs;reduce⟩
def rk:D:=B (a:=aDx.1.body) ⟨_,by conv=>lhs;reduce⟩
def ZQ:AN:=⟨7,[.AI 2],rk⟩
theorem uM:AR U 171=some ZQ:=by kernel_rfl
def gr:AV U 172:=⟨_,by conv=>lhs;reduce⟩
def Zw:D:=B (a:=A8 gr.1.body 37) ⟨_,by conv=>lhs;reduce⟩
def Tv:D:=B (a:=A8 gr.1.body 7) ⟨_,by conv=>lhs;reduce⟩
def vm:D:=B (a:= λx y=>A9 7 y (A9 37 x gr.1.body)) ⟨_,by conv=>lhs;reduce⟩ Zw Tv
def mw:AN:=⟨18,[.AI 4],vm⟩
theorem a2b:AR U 172=some mw:=by kernel_rfl
def UP:AV U 176:=⟨_,by conv=>lhs;reduce⟩
def Vt:D:=B (a:=A8 UP.1.body 2568779) ⟨_,by conv=>lhs;reduce⟩
def XK:D:=B (a:= λx=>A9 627 x (A8 UP.1.body 4683)) ⟨_,by conv=>lhs;reduce⟩ Vt
def cL:D:=B (a:= λx=>A9 73 x (A8 UP.1.body 75)) ⟨_,by conv=>lhs;reduce⟩ XK
def eO:D:=B (a:=A8 UP.1.body 15) ⟨_,by conv=>lhs;reduce⟩
def oU:D:=B (a:= λx y=>A9 15 y (A9 75 x UP.1.body)) ⟨_,by conv=>lhs;reduce⟩ cL eO
def lE:AN:=⟨70,[.AI 2],oU⟩
theorem a09:AR U 176=some lE:=by kernel_rfl
def a6c:AV U 177:=⟨_,by conv=>lhs;reduce⟩
def R2:D:=B (a:=a6c.1.body) ⟨_,by conv=>lhs;reduce⟩
def P1:AN:=⟨39,[.AI 8],R2⟩
theorem aDc:AR U 177=some P1:=by kernel_rfl
def aFm:AV U 178:=⟨_,by conv=>lhs;reduce⟩
def WI:D:=B (a:=aFm.1.body) ⟨_,by conv=>lhs;reduce⟩
def RL:AN:=⟨30,[.AI 8],WI⟩
theorem aCc:AR U 178=some RL:=by kernel_rfl
def ix:AV U 225:=⟨_,by conv=>lhs;reduce⟩
def m9:D:=B (a:=A8 ix.1.body 37) ⟨_,by conv=>lhs;reduce⟩
def Y0:D:=B (a:=A8 ix.1.body 7) ⟨_,by conv=>lhs;reduce⟩
def oH:D:=B (a:= λx y=>A9 7 y (A9 37 x ix.1.body)) ⟨_,by conv=>lhs;reduce⟩ m9 Y0
def gM:AN:=⟨18,[.AI 4],oH⟩
theorem a7I:AR U 225=some gM:=by kernel_rfl
def a5S:AV U 226:=⟨_,by conv=>lhs;reduce⟩
def uN:D:=B (a:=a5S.1.body) ⟨_,by conv=>lhs;reduce⟩
def nH:AN:=⟨4,[.AI 2],uN⟩
theorem a4W:AR U 226=some nH:=by kernel_rfl
def hV:AV U 227:=⟨_,by conv=>lhs;reduce⟩
def fN:D:=B (a:=A8 hV.1.body 37) ⟨_,by conv=>lhs;reduce⟩
def Vs:D:=B (a:=A8 hV.1.body 7) ⟨_,by conv=>lhs;reduce⟩
def sv:D:=B (a:= λx y=>A9 7 y (A9 37 x hV.1.body)) ⟨_,by conv=>lhs;reduce⟩ fN Vs
def kh:AN:=⟨18,[.AI 4],sv⟩
theorem aBo:AR U 227=some kh:=by kernel_rfl
def a5o:AV U 228:=⟨_,by conv=>lhs;reduce⟩
def xI:D:=B (a:=a5o.1.body) ⟨_,by conv=>lhs;reduce⟩
def lB:AN:=⟨5,[.AI 2],xI⟩
theorem a63:AR U 228=some lB:=by kernel_rfl
def a4s:AV U 229:=⟨_,by conv=>lhs;reduce⟩
def wW:D:=B (a:=a4s.1.body) ⟨_,by conv=>lhs;reduce⟩
def l9:AN:=⟨9,[.AI 2],wW⟩
theorem aAG:AR U 229=some l9:=by kernel_rfl
def aFQ:AV U 230:=⟨_,by conv=>lhs;reduce⟩
def a7f:D:=B (a:=aFQ.1.body) ⟨_,by conv=>lhs;reduce⟩
def yB:AN:=⟨23,[.AI 2],a7f⟩
theorem a3x:AR U 230=some yB:=by kernel_rfl
end
section
set_option maxRecDepth 100000
def Hu:AV U 87:=⟨_,by conv=>lhs;reduce⟩
def mH:D:=B (a:=A8 Hu.1.body 815) ⟨_,by conv=>lhs;reduce⟩
def du:D:=B (a:= λx=>A9 3 x (A8 Hu.1.body 303)) ⟨_,by conv=>lhs;reduce⟩ mH
def bK:D:=B (a:=A8 Hu.1.body 607) ⟨_,by conv=>lhs;reduce⟩
def cB:D:=B (a:=A8 Hu.1.body 4863) ⟨_,by conv=>lhs;reduce⟩
def fG:D:=B (a:=A8 Hu.1.body 9727) ⟨_,by conv=>lhs;reduce⟩
def aW:D:=B (a:=A8 Hu.1.body 1285442559) ⟨_,by conv=>lhs;reduce⟩
def b1:D:=B (a:= λx=>A9 153 x (A8 Hu.1.body 10374143)) ⟨_,by conv=>lhs;reduce⟩ aW
def e4:D:=B (a:= λx=>A9 633 x (A8 Hu.1.body 19455)) ⟨_,by conv=>lhs;reduce⟩ b1
def bV:D:=B (a:=A8 Hu.1.body 38911) ⟨_,by conv=>lhs;reduce⟩
def uu:D:=B (a:=A8 Hu.1.body 8191) ⟨_,by conv=>lhs;reduce⟩
def sL:D:=B (a:= λx y=>A9 3 y (A9 18 x (A8 Hu.1.body 4095))) ⟨_,by conv=>lhs;reduce⟩ bV uu
def sx:D:=B (a:= λx y=>A9 3 y (A9 18 x (A8 Hu.1.body 2047))) ⟨_,by conv=>lhs;reduce⟩ e4 sL
def qt:D:=B (a:= λx y=>A9 3 y (A9 18 x (A8 Hu.1.body 1023))) ⟨_,by conv=>lhs;reduce⟩ fG sx
def fX:D:=B (a:= λx y=>A9 3 y (A9 18 x (A8 Hu.1.body 511))) ⟨_,by conv=>lhs;reduce⟩ cB qt
def db:D:=B (a:= λx=>A9 7 x (A8 Hu.1.body 127)) ⟨_,by conv=>lhs;reduce⟩ fX
def rA:D:=B (a:= λx y=>A9 3 y (A9 18 x (A8 Hu.1.body 63))) ⟨_,by conv=>lhs;reduce⟩ bK db
def uh:D:=B (a:= λx y=>A9 63 y (A9 303 x Hu.1.body)) ⟨_,by conv=>lhs;reduce⟩ du rA
def kT:AN:=⟨397,[.AI 2],uh⟩
theorem aDu:AR U 87=some kT:=by kernel_rfl
def aCQ:AV U 134:=⟨_,by conv=>lhs;reduce⟩
def j7:D:=B (a:=aCQ.1.body) ⟨_,by conv=>lhs;reduce⟩
def c3:AN:=⟨15,[.AI 6],j7⟩
theorem aAJ:AR U 134=some c3:=by kernel_rfl
def zo:AV U 135:=⟨_,by conv=>lhs;reduce⟩
def Q2:D:=B (a:=zo.1.body) ⟨_,by conv=>lhs;reduce⟩
def PA:AN:=⟨35,[.AI 12],Q2⟩
theorem a5Z:AR U 135=some PA:=by kernel_rfl
def a1f:AV U 136:=⟨_,by conv=>lhs;reduce⟩
def br:D:=B (a:=a1f.1.body) ⟨_,by conv=>lhs;reduce⟩
def a74:AN:=⟨18,[.AI 4,.AI 5],br⟩
theorem aBe:AR U 136=some a74:=by kernel_rfl
variable{a7:Value->V->Prop}{args:List Value}
theorem aF2{m:V}(h:args.length<=18):Aq U 136 args m a7=BS U br (Cp args) m (EA [.AI 4,.AI 5] a7):=EG aBe h
def SB:AV U 137:=⟨_,by conv=>lhs;reduce⟩
def fv:D:=B (a:=A8 SB.1.body 151) ⟨_,by conv=>lhs;reduce⟩
def ni:D:=B (a:=A8 SB.1.body 10036415) ⟨_,by conv=>lhs;reduce⟩
def hY:D:=B (a:= λx=>A9 153 x (A8 SB.1.body 74943)) ⟨_,by conv=>lhs;reduce⟩ ni
def lH:D:=B (a:= λx=>A9 73 x (A8 SB.1.body 1215)) ⟨_,by conv=>lhs;reduce⟩ hY
def iY:D:=B (a:=A8 SB.1.body 2431) ⟨_,by conv=>lhs;reduce⟩
def uY:D:=B (a:= λx y z=>A9 2431 z (A9 1215 y (A9 151 x SB.1.body))) ⟨_,by conv=>lhs;reduce⟩ fv lH iY
def h0:AN:=⟨149,[.AI 2],uY⟩
theorem a68:AR U 137=some h0:=by kernel_rfl
def aDE:AV U 140:=⟨_,by conv=>lhs;reduce⟩
def zj:D:=B (a:=aDE.1.body) ⟨_,by conv=>lhs;reduce⟩
def bE:AN:=⟨29,[.AI 2],zj⟩
theorem r1:AR U 140=some bE:=by kernel_rfl
def gv:AV U 141:=⟨_,by conv=>lhs;reduce⟩
def cn:D:=B (a:=A8 gv.1.body 75) ⟨_,by conv=>lhs;reduce⟩
def PX:D:=B (a:=A8 gv.1.body 15) ⟨_,by conv=>lhs;reduce⟩
def VT:D:=B (a:= λx y=>A9 15 y (A9 75 x gv.1.body)) ⟨_,by conv=>lhs;reduce⟩ cn PX
def RU:AN:=⟨37,[.AI 8],VT⟩
theorem aB0:AR U 141=some RU:=by kernel_rfl
def aAV:AV U 142:=⟨_,by conv=>lhs;reduce⟩
def XA:D:=B (a:=aAV.1.body) ⟨_,by conv=>lhs;reduce⟩
def Sa:AN:=⟨26,[.AI 8],XA⟩
theorem a3O:AR U 142=some Sa:=by kernel_rfl
def iW:AV U 189:=⟨_,by conv=>lhs;reduce⟩
def c2:D:=B (a:=A8 iW.1.body 37) ⟨_,by conv=>lhs;reduce⟩
def UU:D:=B (a:=A8 iW.1.body 7) ⟨_,by conv=>lhs;reduce⟩
def xo:D:=B (a:= λx y=>A9 7 y (A9 37 x iW.1.body)) ⟨_,by conv=>lhs;reduce⟩ c2 UU
def mx:AN:=⟨19,[.AI 4],xo⟩
theorem a1p:AR U 189=some mx:=by kernel_rfl
def nS:AV U 190:=⟨_,by conv=>lhs;reduce⟩
def XO:D:=B (a:=A8 nS.1.body 75) ⟨_,by conv=>lhs;reduce⟩
def Pd:D:=B (a:=A8 nS.1.body 15) ⟨_,by conv=>lhs;reduce⟩
def Yb:D:=B (a:= λx y=>A9 15 y (A9 75 x nS.1.body)) ⟨_,by conv=>lhs;reduce⟩ XO Pd
def SU:AN:=⟨21,[.AI 4],Yb⟩
theorem uf:AR U 190=some SU:=by kernel_rfl
def aAR:AV U 197:=⟨_,by conv=>lhs;reduce⟩
def S0:D:=B (a:=aAR.1.body) ⟨_,by conv=>lhs;reduce⟩
def R8:AN:=⟨25,[.AI 4],S0⟩
theorem aDM:AR U 197=some R8:=by kernel_rfl
def lP:AV U 198:=⟨_,by conv=>lhs;reduce⟩
def cY:D:=B (a:=A8 lP.1.body 75) ⟨_,by conv=>lhs;reduce⟩
def Si:D:=B (a:=A8 lP.1.body 15) ⟨_,by conv=>lhs;reduce⟩
def mS:D:=B (a:= λx y=>A9 15 y (A9 75 x lP.1.body)) ⟨_,by conv=>lhs;reduce⟩ cY Si
def c7:AN:=⟨23,[.AI 4],mS⟩
theorem a1z:AR U 198=some c7:=by kernel_rfl
end
section
set_option maxRecDepth 100000
def V3:AV U 51:=⟨_,by conv=>lhs;reduce⟩
def cp:D:=B (a:=A8 V3.1.body 19607) ⟨_,by conv=>lhs;reduce⟩
def eu:D:=B (a:= λx=>A9 9 x (A8 V3.1.body 3223)) ⟨_,by conv=>lhs;reduce⟩ cp
def aV:D:=B (a:= λx=>A9 25 x (A8 V3.1.body 151)) ⟨_,by conv=>lhs;reduce⟩ eu
def hF:D:=B (a:= λx=>A9 18 x (A8 V3.1.body 15)) ⟨_,by conv=>lhs;reduce⟩ aV
def mC:D:=B (a:= λx=>A9 15 x V3.1.body) ⟨_,by conv=>lhs;reduce⟩ hF
def YT:AN:=⟨57,[.AI 4],mC⟩
theorem a0Z:AR U 51=some YT:=by kernel_rfl
def aAv:AV U 98:=⟨_,by conv=>lhs;reduce⟩
def a08:D:=B (a:=aAv.1.body) ⟨_,by conv=>lhs;reduce⟩
def rg:AN:=⟨67,[.AI 8],a08⟩
theorem aFB:AR U 98=some rg:=by kernel_rfl
def VS:AV U 99:=⟨_,by conv=>lhs;reduce⟩
def dI:D:=B (a:=A8 VS.1.body 80279) ⟨_,by conv=>lhs;reduce⟩
def eI:D:=B (a:= λx=>A9 9 x (A8 VS.1.body 14743)) ⟨_,by conv=>lhs;reduce⟩ dI
def YA:D:=B (a:= λx=>A9 115 x (A8 VS.1.body 151)) ⟨_,by conv=>lhs;reduce⟩ eI
def kn:D:=B (a:= λx=>A9 18 x (A8 VS.1.body 15)) ⟨_,by conv=>lhs;reduce⟩ YA
def fb:D:=B (a:= λx=>A9 15 x VS.1.body) ⟨_,by conv=>lhs;reduce⟩ kn
def W0:AN:=⟨57,[.AI 4],fb⟩
theorem sC:AR U 99=some W0:=by kernel_rfl
def SO:AV U 148:=⟨_,by conv=>lhs;reduce⟩
def TM:D:=B (a:=A8 SO.1.body 2431) ⟨_,by conv=>lhs;reduce⟩
def bO:D:=B (a:=A8 SO.1.body 9727) ⟨_,by conv=>lhs;reduce⟩
def jq:D:=B (a:=A8 SO.1.body 2047) ⟨_,by conv=>lhs;reduce⟩
def lW:D:=B (a:= λx y=>A9 7 y (A9 37 x (A8 SO.1.body 511))) ⟨_,by conv=>lhs;reduce⟩ bO jq
def fY:D:=B (a:= λx y=>A9 31 y (A9 151 x (A8 SO.1.body 31))) ⟨_,by conv=>lhs;reduce⟩ TM lW
def qW:D:=B (a:= λx=>A9 31 x SO.1.body) ⟨_,by conv=>lhs;reduce⟩ fY
def ZT:AN:=⟨120,[.E2 6 true 3,.AI 7],qW⟩
theorem rQ:AR U 148=some ZT:=by kernel_rfl
def hn:AV U 152:=⟨_,by conv=>lhs;reduce⟩
def SY:D:=B (a:=A8 hn.1.body 303) ⟨_,by conv=>lhs;reduce⟩
def qO:D:=B (a:=A8 hn.1.body 63) ⟨_,by conv=>lhs;reduce⟩
def xE:D:=B (a:= λx y=>A9 63 y (A9 303 x hn.1.body)) ⟨_,by conv=>lhs;reduce⟩ SY qO
def ZG:AN:=⟨66,[.E2 6 true 4,.AI 7],xE⟩
theorem vW:AR U 152=some ZG:=by kernel_rfl
def hL:AV U 154:=⟨_,by conv=>lhs;reduce⟩
def a8i:D:=B (a:=A8 hL.1.body 10474287) ⟨_,by conv=>lhs;reduce⟩
def a4H:D:=B (a:= λx=>A9 40915 x (A8 hL.1.body 303)) ⟨_,by conv=>lhs;reduce⟩ a8i
def a2H:D:=B (a:= λx=>A9 303 x hL.1.body) ⟨_,by conv=>lhs;reduce⟩ a4H
def sA:AN:=⟨112,[.AI 6],a2H⟩
theorem aFY:AR U 154=some sA:=by kernel_rfl
def fU:AV U 157:=⟨_,by conv=>lhs;reduce⟩
def gb:D:=B (a:=A8 fU.1.body 75) ⟨_,by conv=>lhs;reduce⟩
def Xl:D:=B (a:=A8 fU.1.body 15) ⟨_,by conv=>lhs;reduce⟩
def vC:D:=B (a:= λx y=>A9 15 y (A9 75 x fU.1.body)) ⟨_,by conv=>lhs;reduce⟩ gb Xl
def c5:AN:=⟨18,[.AI 2],vC⟩
theorem wa:AR U 157=some c5:=by kernel_rfl
def aFd:AV U 202:=⟨_,by conv=>lhs;reduce⟩
def wu:D:=B (a:=aFd.1.body) ⟨_,by conv=>lhs;reduce⟩
def eA:AN:=⟨14,[.AI 4],wu⟩
theorem oh:AR U 202=some eA:=by kernel_rfl
def aBl:AV U 203:=⟨_,by conv=>lhs;reduce⟩
def fZ:D:=B (a:=aBl.1.body) ⟨_,by conv=>lhs;reduce⟩
def Uq:AN:=⟨21,[.AI 4],fZ⟩
theorem vJ:AR U 203=some Uq:=by kernel_rfl
def TH:AV U 204:=⟨_,by conv=>lhs;reduce⟩
def RR:D:=B (a:=A8 TH.1.body 151) ⟨_,by conv=>lhs;reduce⟩
def Ud:D:=B (a:=A8 TH.1.body 78639) ⟨_,by conv=>lhs;reduce⟩
def kr:D:=B (a:= λx=>A9 307 x (A8 TH.1.body 303)) ⟨_,by conv=>lhs;reduce⟩ Ud
def OP:D:=B (a:=A8 TH.1.body 63) ⟨_,by conv=>lhs;reduce⟩
def R0:D:=B (a:= λx y=>A9 3 y (A9 18 x (A8 TH.1.body 31))) ⟨_,by conv=>lhs;reduce⟩ kr OP
def qe:D:=B (a:= λx y=>A9 31 y (A9 151 x TH.1.body)) ⟨_,by conv=>lhs;reduce⟩ RR R0
def af:AN:=⟨77,[.AI 4],qe⟩
theorem vq:AR U 204=some af:=by kernel_rfl
def hv:AV U 206:=⟨_,by conv=>lhs;reduce⟩
def Zd:D:=B (a:=A8 hv.1.body 37) ⟨_,by conv=>lhs;reduce⟩
def WB:D:=B (a:=A8 hv.1.body 7) ⟨_,by conv=>lhs;reduce⟩
def xd:D:=B (a:= λx y=>A9 7 y (A9 37 x hv.1.body)) ⟨_,by conv=>lhs;reduce⟩ Zd WB
def YF:AN:=⟨17,[.AI 4],xd⟩
theorem xa:AR U 206=some YF:=by kernel_rfl
def zU:AV U 208:=⟨_,by conv=>lhs;reduce⟩
def a77:D:=B (a:=A8 zU.1.body 35) ⟨_,by conv=>lhs;reduce⟩
def a4I:D:=B (a:= λx=>A9 35 x zU.1.body) ⟨_,by conv=>lhs;reduce⟩ a77
def p4:AN:=⟨26,[.AI 6],a4I⟩
theorem a4q:AR U 208=some p4:=by kernel_rfl
def aC3:AV U 209:=⟨_,by conv=>lhs;reduce⟩
def a4d:D:=B (a:=aC3.1.body) ⟨_,by conv=>lhs;reduce⟩
def zb:AN:=⟨15,[.AI 4],a4d⟩
theorem aDo:AR U 209=some zb:=by kernel_rfl
end
section
set_option maxRecDepth 100000
def e2:AV U 34:=⟨_,by conv=>lhs;reduce⟩
def NL:D:=B (a:=A8 e2.1.body 9367) ⟨_,by conv=>lhs;reduce⟩
def U5:D:=B (a:= λx=>A9 73 x (A8 e2.1.body 151)) ⟨_,by conv=>lhs;reduce⟩ NL
def U0:D:=B (a:=A8 e2.1.body 31) ⟨_,by conv=>lhs;reduce⟩
def kG:D:=B (a:= λx y=>A9 31 y (A9 151 x e2.1.body)) ⟨_,by conv=>lhs;reduce⟩ U5 U0
def UN:AN:=⟨63,[.AI 4],kG⟩
theorem xj:AR U 34=some UN:=by kernel_rfl
def a33:AV U 50:=⟨_,by conv=>lhs;reduce⟩
def x6:D:=B (a:=a33.1.body) ⟨_,by conv=>lhs;reduce⟩
def j1:AN:=⟨17,[.AI 6],x6⟩
theorem a6V:AR U 50=some j1:=by kernel_rfl
def oy:AV U 52:=⟨_,by conv=>lhs;reduce⟩
def Ra:D:=B (a:=A8 oy.1.body 151) ⟨_,by conv=>lhs;reduce⟩
def g8:D:=B (a:= λx=>A9 151 x oy.1.body) ⟨_,by conv=>lhs;reduce⟩ Ra
def TT:AN:=⟨47,[.AI 4],g8⟩
theorem nf:AR U 52=some TT:=by kernel_rfl
def yM:AV U 63:=⟨_,by conv=>lhs;reduce⟩
def Xj:D:=B (a:=A8 yM.1.body 151) ⟨_,by conv=>lhs;reduce⟩
def uX:D:=B (a:= λx=>A9 151 x yM.1.body) ⟨_,by conv=>lhs;reduce⟩ Xj
def ef:AN:=⟨53,[.AI 4],uX⟩
theorem vf:AR U 63=some ef:=by kernel_rfl
def aE:AV U 86:=⟨_,by conv=>lhs;reduce⟩
def VJ:D:=B (a:=A8 aE.1.body 75) ⟨_,by conv=>lhs;reduce⟩
def Rh:D:=B (a:=A8 aE.1.body 15) ⟨_,by conv=>lhs;reduce⟩
def yh:D:=B (a:= λx y=>A9 3 y (A9 18 x (A8 aE.1.body 7))) ⟨_,by conv=>lhs;reduce⟩ VJ Rh
def ft:D:=B (a:= λx=>A9 7 x aE.1.body) ⟨_,by conv=>lhs;reduce⟩ yh
def Uw:AN:=⟨33,[.AI 4],ft⟩
theorem wG:AR U 86=some Uw:=by kernel_rfl
def Wx:AV U 103:=⟨_,by conv=>lhs;reduce⟩
def YY:D:=B (a:=A8 Wx.1.body 303) ⟨_,by conv=>lhs;reduce⟩
def WO:D:=B (a:=A8 Wx.1.body 1215) ⟨_,by conv=>lhs;reduce⟩
def mr:D:=B (a:=A8 Wx.1.body 255) ⟨_,by conv=>lhs;reduce⟩
def gQ:D:=B (a:= λx y=>A9 7 y (A9 37 x (A8 Wx.1.body 63))) ⟨_,by conv=>lhs;reduce⟩ WO mr
def gW:D:=B (a:= λx y=>A9 63 y (A9 303 x Wx.1.body)) ⟨_,by conv=>lhs;reduce⟩ YY gQ
def dZ:AN:=⟨67,[.AI 6],gW⟩
theorem a3I:AR U 103=some dZ:=by kernel_rfl
def a5G:AV U 115:=⟨_,by conv=>lhs;reduce⟩
def r0:D:=B (a:=a5G.1.body) ⟨_,by conv=>lhs;reduce⟩
def bt:AN:=⟨6,[.AI 2],r0⟩
theorem vi:AR U 115=some bt:=by kernel_rfl
def hX:AV U 130:=⟨_,by conv=>lhs;reduce⟩
def Zc:D:=B (a:=A8 hX.1.body 37) ⟨_,by conv=>lhs;reduce⟩
def Wi:D:=B (a:=A8 hX.1.body 7) ⟨_,by conv=>lhs;reduce⟩
def ud:D:=B (a:= λx y=>A9 7 y (A9 37 x hX.1.body)) ⟨_,by conv=>lhs;reduce⟩ Zc Wi
def jy:AN:=⟨27,[.AI 6],ud⟩
theorem a45:AR U 130=some jy:=by kernel_rfl
def a1t:AV U 132:=⟨_,by conv=>lhs;reduce⟩
def ze:D:=B (a:=a1t.1.body) ⟨_,by conv=>lhs;reduce⟩
def jz:AN:=⟨21,[.AI 4],ze⟩
theorem aAo:AR U 132=some jz:=by kernel_rfl
def Z3:AV U 133:=⟨_,by conv=>lhs;reduce⟩
def VY:D:=B (a:=A8 Z3.1.body 75) ⟨_,by conv=>lhs;reduce⟩
def Sv:D:=B (a:=A8 Z3.1.body 15) ⟨_,by conv=>lhs;reduce⟩
def vK:D:=B (a:= λx y=>A9 3 y (A9 18 x (A8 Z3.1.body 7))) ⟨_,by conv=>lhs;reduce⟩ VY Sv
def gp:D:=B (a:= λx=>A9 7 x Z3.1.body) ⟨_,by conv=>lhs;reduce⟩ vK
def VR:AN:=⟨50,[.E2 6 true 3,.AI 7],gp⟩
theorem oF:AR U 133=some VR:=by kernel_rfl
def lR:AV U 143:=⟨_,by conv=>lhs;reduce⟩
def Vo:D:=B (a:=A8 lR.1.body 37) ⟨_,by conv=>lhs;reduce⟩
def Ry:D:=B (a:=A8 lR.1.body 7) ⟨_,by conv=>lhs;reduce⟩
def p6:D:=B (a:= λx y=>A9 7 y (A9 37 x lR.1.body)) ⟨_,by conv=>lhs;reduce⟩ Vo Ry
def nV:AN:=⟨28,[.AI 4],p6⟩
theorem aBC:AR U 143=some nV:=by kernel_rfl
def aFZ:AV U 147:=⟨_,by conv=>lhs;reduce⟩
def qN:D:=B (a:=aFZ.1.body) ⟨_,by conv=>lhs;reduce⟩
def ar:AN:=⟨11,[.AI 4],qN⟩
theorem q2:AR U 147=some ar:=by kernel_rfl
def aDw:AV U 153:=⟨_,by conv=>lhs;reduce⟩
def a7O:D:=B (a:=aDw.1.body) ⟨_,by conv=>lhs;reduce⟩
def zC:AN:=⟨17,[.AI 6],a7O⟩
theorem a2S:AR U 153=some zC:=by kernel_rfl
def KL:AV U 161:=⟨_,by conv=>lhs;reduce⟩
def Tt:D:=B (a:=A8 KL.1.body 303) ⟨_,by conv=>lhs;reduce⟩
def WU:D:=B (a:=A8 KL.1.body 152159) ⟨_,by conv=>lhs;reduce⟩
def YZ:D:=B (a:=A8 KL.1.body 29279) ⟨_,by conv=>lhs;reduce⟩
def Zb:D:=B (a:= λx y=>A9 57 y (A9 297 x (A8 KL.1.body 607))) ⟨_,by conv=>lhs;reduce⟩ WU YZ
def Tg:D:=B (a:=A8 KL.1.body 2431) ⟨_,by conv=>lhs;reduce⟩
def T3:D:=B (a:=A8 KL.1.body 4863) ⟨_,by conv=>lhs;reduce⟩
def ZB:D:=B (a:=A8 KL.1.body 1023) ⟨_,by conv=>lhs;reduce⟩
def Ye:D:=B (a:= λx y=>A9 3 y (A9 18 x (A8 KL.1.body 511))) ⟨_,by conv=>lhs;reduce⟩ T3 ZB
def Yu:D:=B (a:= λx y=>A9 3 y (A9 18 x (A8 KL.1.body 255))) ⟨_,by conv=>lhs;reduce⟩ Tg Ye
def bL:D:=B (a:= λx=>A9 3 x (A8 KL.1.body 127)) ⟨_,by conv=>lhs;reduce⟩ Yu
def Yh:D:=B (a:= λx y=>A9 3 y (A9 18 x (A8 KL.1.body 63))) ⟨_,by conv=>lhs;reduce⟩ Zb bL
def Zs:D:=B (a:= λx y=>A9 3 y (A9 18 x (A8 KL.1.body 31))) ⟨_,by conv=>lhs;reduce⟩ Tt Yh
def cw:D:=B (a:= λx=>A9 31 x KL.1.body) ⟨_,by conv=>lhs;reduce⟩ Zs
def W6:AN:=⟨153,[.AI 6],cw⟩
theorem a6S:AR U 161=some W6:=by kernel_rfl
def a0x:AV U 187:=⟨_,by conv=>lhs;reduce⟩
def o0:D:=B (a:=a0x.1.body) ⟨_,by conv=>lhs;reduce⟩
def YL:AN:=⟨21,[.AI 4],o0⟩
theorem rX:AR U 187=some YL:=by kernel_rfl
def Xh:AV U 200:=⟨_,by conv=>lhs;reduce⟩
def Vm:D:=B (a:=A8 Xh.1.body 19659) ⟨_,by conv=>lhs;reduce⟩
def hK:D:=B (a:= λx=>A9 307 x (A8 Xh.1.body 75)) ⟨_,by conv=>lhs;reduce⟩ Vm
def fS:D:=B (a:=A8 Xh.1.body 15) ⟨_,by conv=>lhs;reduce⟩
def zX:D:=B (a:= λx y=>A9 15 y (A9 75 x Xh.1.body)) ⟨_,by conv=>lhs;reduce⟩ hK fS
def dD:AN:=⟨43,[.AI 4],zX⟩
theorem wB:AR U 200=some dD:=by kernel_rfl
def nI:AV U 207:=⟨_,by conv=>lhs;reduce⟩
def aAs:D:=B (a:=A8 nI.1.body 151) ⟨_,by conv=>lhs;reduce⟩
def a56:D:=B (a:=A8 nI.1.body 607) ⟨_,by conv=>lhs;reduce⟩
def a5E:D:=B (a:= λx y=>A9 607 y (A9 151 x nI.1.body)) ⟨_,by conv=>lhs;reduce⟩ aAs a56
def u2:AN:=⟨78,[.AI 6],a5E⟩
theorem aA0:AR U 207=some u2:=by kernel_rfl
def jc:AV U 212:=⟨_,by conv=>lhs;reduce⟩
def Ur:D:=B (a:=A8 jc.1.body 75) ⟨_,by conv=>lhs;reduce⟩
def RM:D:=B (a:=A8 jc.1.body 15) ⟨_,by conv=>lhs;reduce⟩
def yf:D:=B (a:= λx y=>A9 15 y (A9 75 x jc.1.body)) ⟨_,by conv=>lhs;reduce⟩ Ur RM
def l1:AN:=⟨39,[.AI 6],yf⟩
theorem aCB:AR U 212=some l1:=by kernel_rfl
def TO:AV U 244:=⟨_,by conv=>lhs;reduce⟩
def aBX:D:=B (a:=A8 TO.1.body 151) ⟨_,by conv=>lhs;reduce⟩
def aEQ:D:=B (a:=A8 TO.1.body 5216639) ⟨_,by conv=>lhs;reduce⟩
def aES:D:=B (a:= λx=>A9 2547 x (A8 TO.1.body 2431)) ⟨_,by conv=>lhs;reduce⟩ aEQ
def aBv:D:=B (a:=A8 TO.1.body 9727) ⟨_,by conv=>lhs;reduce⟩
def aCo:D:=B (a:=A8 TO.1.body 38911) ⟨_,by conv=>lhs;reduce⟩
def aAT:D:=B (a:= λx y z b=>A9 38911 b (A9 9727 z (A9 2431 y (A9 151 x TO.1.body)))) ⟨_,by conv=>lhs;reduce⟩ aBX aES aBv aCo
def oA:AN:=⟨171,[.AI 6],aAT⟩
theorem a7s:AR U 244=some oA:=by kernel_rfl
def xP:AV U 245:=⟨_,by conv=>lhs;reduce⟩
def V1:D:=B (a:=A8 xP.1.body 35) ⟨_,by conv=>lhs;reduce⟩
def tn:D:=B (a:= λx=>A9 35 x xP.1.body) ⟨_,by conv=>lhs;reduce⟩ V1
def kQ:AN:=⟨29,[.AI 6],tn⟩
theorem aET:AR U 245=some kQ:=by kernel_rfl
end
section
set_option maxRecDepth 100000
def M3:AV U 124:=⟨_,by conv=>lhs;reduce⟩
def de:D:=B (a:=A8 M3.1.body 1238623) ⟨_,by conv=>lhs;reduce⟩
def Sp:D:=B (a:=A8 M3.1.body 4974175) ⟨_,by conv=>lhs;reduce⟩
def XI:D:=B (a:=A8 M3.1.body 5236319) ⟨_,by conv=>lhs;reduce⟩
def kC:D:=B (a:= λx=>A9 9 x (A8 M3.1.body 1042015)) ⟨_,by conv=>lhs;reduce⟩ XI
def lN:D:=B (a:= λx y=>A9 3 y (A9 18 x (A8 M3.1.body 517727))) ⟨_,by conv=>lhs;reduce⟩ Sp kC
def iF:D:=B (a:= λx=>A9 3 x (A8 M3.1.body 255583)) ⟨_,by conv=>lhs;reduce⟩ lN
def Y9:D:=B (a:= λx y=>A9 499 y (A9 2419 x (A8 M3.1.body 607))) ⟨_,by conv=>lhs;reduce⟩ de iF
def bZ:D:=B (a:=A8 M3.1.body 1215) ⟨_,by conv=>lhs;reduce⟩
def oc:D:=B (a:=A8 M3.1.body 255) ⟨_,by conv=>lhs;reduce⟩
def qV:D:=B (a:= λx y=>A9 3 y (A9 18 x (A8 M3.1.body 127))) ⟨_,by conv=>lhs;reduce⟩ bZ oc
def s5:D:=B (a:= λx y=>A9 127 y (A9 607 x M3.1.body)) ⟨_,by conv=>lhs;reduce⟩ Y9 qV
def aY:AN:=⟨156,[.E2 4 true 4,.AI 5],s5⟩
theorem y0:AR U 124=some aY:=by kernel_rfl
def a41:AV U 127:=⟨_,by conv=>lhs;reduce⟩
def vr:D:=B (a:=a41.1.body) ⟨_,by conv=>lhs;reduce⟩
def Yi:AN:=⟨7,[.AI 4],vr⟩
theorem zY:AR U 127=some Yi:=by kernel_rfl
def a1e:AV U 128:=⟨_,by conv=>lhs;reduce⟩
def kO:D:=B (a:=a1e.1.body) ⟨_,by conv=>lhs;reduce⟩
def XW:AN:=⟨24,[.AI 6],kO⟩
theorem so:AR U 128=some XW:=by kernel_rfl
def aEE:AV U 129:=⟨_,by conv=>lhs;reduce⟩
def pf:D:=B (a:=aEE.1.body) ⟨_,by conv=>lhs;reduce⟩
def Yc:AN:=⟨13,[.AI 4],pf⟩
theorem qc:AR U 129=some Yc:=by kernel_rfl
def a3r:AV U 183:=⟨_,by conv=>lhs;reduce⟩
def uE:D:=B (a:=a3r.1.body) ⟨_,by conv=>lhs;reduce⟩
def ei:AN:=⟨16,[],uE⟩
theorem zN:AR U 183=some ei:=by kernel_rfl
end
section
set_option maxRecDepth 100000
def g3:AV U 125:=⟨_,by conv=>lhs;reduce⟩
def fi:D:=B (a:=A8 g3.1.body 151) ⟨_,by conv=>lhs;reduce⟩
def eN:D:=B (a:=A8 g3.1.body 159) ⟨_,by conv=>lhs;reduce⟩
def gx:D:=B (a:= λx y=>A9 159 y (A9 151 x g3.1.body)) ⟨_,by conv=>lhs;reduce⟩ fi eN
def xW:AN:=⟨93,[.AI 2,.AI 3,.AI 4,.AI 5],gx⟩
theorem xO:AR U 125=some xW:=by kernel_rfl
variable{a7:Value->V->Prop}{args:List Value}{m:V}
theorem a7b(h:args.length<=93):Aq U 125 args m a7=BS U gx (Cp args) m (EA [.AI 2,.AI 3,.AI 4,.AI 5] a7):=EG xO h
def tS:AV U 155:=⟨_,by conv=>lhs;reduce⟩
def YM:D:=B (a:=A8 tS.1.body 151) ⟨_,by conv=>lhs;reduce⟩
def jr:D:=B (a:= λx=>A9 151 x tS.1.body) ⟨_,by conv=>lhs;reduce⟩ YM
def uj:AN:=⟨43,[.AI 4,.AI 5],jr⟩
theorem wO:AR U 155=some uj:=by kernel_rfl
theorem a43(h:args.length<=43):Aq U 155 args m a7=BS U jr (Cp args) m (EA [.AI 4,.AI 5] a7):=EG wO h
def jF:AV U 156:=⟨_,by conv=>lhs;reduce⟩
def a3N:D:=B (a:=A8 jF.1.body 151) ⟨_,by conv=>lhs;reduce⟩
def a1j:D:=B (a:=A8 jF.1.body 303) ⟨_,by conv=>lhs;reduce⟩
def a7g:D:=B (a:= λx y=>A9 303 y (A9 151 x jF.1.body)) ⟨_,by conv=>lhs;reduce⟩ a3N a1j
def ta:AN:=⟨99,[.AI 8],a7g⟩
theorem aG5:AR U 156=some ta:=by kernel_rfl
def p2:AV U 184:=⟨_,by conv=>lhs;reduce⟩
def Ow:D:=B (a:=A8 p2.1.body 151) ⟨_,by conv=>lhs;reduce⟩
def OC:D:=B (a:= λx=>A9 151 x p2.1.body) ⟨_,by conv=>lhs;reduce⟩ Ow
def yK:AN:=⟨72,[.AI 2],OC⟩
theorem vs:AR U 184=some yK:=by kernel_rfl
theorem a5Y(h:args.length<=72):Aq U 184 args m a7=BS U OC (Cp args) m (EA [.AI 2] a7):=EG vs h
def lu:AV U 185:=⟨_,by conv=>lhs;reduce⟩
def T4:D:=B (a:=A8 lu.1.body 9367) ⟨_,by conv=>lhs;reduce⟩
def VH:D:=B (a:= λx=>A9 73 x (A8 lu.1.body 151)) ⟨_,by conv=>lhs;reduce⟩ T4
def hp:D:=B (a:= λx=>A9 151 x lu.1.body) ⟨_,by conv=>lhs;reduce⟩ VH
def sS:AN:=⟨84,[.AI 2,.AI 3],hp⟩
theorem v8:AR U 185=some sS:=by kernel_rfl
theorem aBg(h:args.length<=84):Aq U 185 args m a7=BS U hp (Cp args) m (EA [.AI 2,.AI 3] a7):=EG v8 h
def jR:AV U 186:=⟨_,by conv=>lhs;reduce⟩
def T6:D:=B (a:=A8 jR.1.body 75) ⟨_,by conv=>lhs;reduce⟩
def US:D:=B (a:=A8 jR.1.body 151) ⟨_,by conv=>lhs;reduce⟩
def hR:D:=B (a:= λx y=>A9 151 y (A9 75 x jR.1.body)) ⟨_,by conv=>lhs;reduce⟩ T6 US
def ti:AN:=⟨92,[.AI 4],hR⟩
theorem wI:AR U 186=some ti:=by kernel_rfl
theorem a44(h:args.length<=92):Aq U 186 args m a7=BS U hR (Cp args) m (EA [.AI 4] a7):=EG wI h
def fB:AV U 201:=⟨_,by conv=>lhs;reduce⟩
def nE:D:=B (a:=A8 fB.1.body 607) ⟨_,by conv=>lhs;reduce⟩
def Xx:D:=B (a:=A8 fB.1.body 76351) ⟨_,by conv=>lhs;reduce⟩
def Tm:D:=B (a:= λx=>A9 149 x (A8 fB.1.body 575)) ⟨_,by conv=>lhs;reduce⟩ Xx
def ha:D:=B (a:= λx y=>A9 575 y (A9 607 x fB.1.body)) ⟨_,by conv=>lhs;reduce⟩ nE Tm
def pc:AN:=⟨142,[.AI 4,.AI 5,.AI 6,.AI 7],ha⟩
theorem py:AR U 201=some pc:=by kernel_rfl
theorem aAp(h:args.length<=142):Aq U 201 args m a7=BS U ha (Cp args) m (EA [.AI 4,.AI 5,.AI 6,.AI 7] a7):=EG py h
def n8:AV U 210:=⟨_,by conv=>lhs;reduce⟩
def QV:D:=B (a:=A8 n8.1.body 151) ⟨_,by conv=>lhs;reduce⟩
def Q8:D:=B (a:=A8 n8.1.body 303) ⟨_,by conv=>lhs;reduce⟩
def il:D:=B (a:= λx y=>A9 303 y (A9 151 x n8.1.body)) ⟨_,by conv=>lhs;reduce⟩ QV Q8
def xu:AN:=⟨97,[.AI 4,.AI 5],il⟩
theorem oT:AR U 210=some xu:=by kernel_rfl
theorem a1P(h:args.length<=97):Aq U 210 args m a7=BS U il (Cp args) m (EA [.AI 4,.AI 5] a7):=EG oT h
def xx:AV U 211:=⟨_,by conv=>lhs;reduce⟩
def Pp:D:=B (a:=A8 xx.1.body 37) ⟨_,by conv=>lhs;reduce⟩
def iI:D:=B (a:= λx=>A9 37 x xx.1.body) ⟨_,by conv=>lhs;reduce⟩ Pp
def yk:AN:=⟨28,[.AI 2],iI⟩
theorem z6:AR U 211=some yk:=by kernel_rfl
theorem aAn(h:args.length<=28):Aq U 211 args m a7=BS U iI (Cp args) m (EA [.AI 2] a7):=EG z6 h
def a5c:AV U 234:=⟨_,by conv=>lhs;reduce⟩
def fR:D:=B (a:=a5c.1.body) ⟨_,by conv=>lhs;reduce⟩
def ru:AN:=⟨12,[.AI 3],fR⟩
theorem um:AR U 234=some ru:=by kernel_rfl
theorem aAe(h:args.length<=12):Aq U 234 args m a7=BS U fR (Cp args) m (EA [.AI 3] a7):=EG um h
def zt:AV U 235:=⟨_,by conv=>lhs;reduce⟩
def aD:D:=B (a:=zt.1.body) ⟨_,by conv=>lhs;reduce⟩
def o4:AN:=⟨52,[.AI 4,.AI 5],aD⟩
theorem sl:AR U 235=some o4:=by kernel_rfl
theorem zn(h:args.length<=52):Aq U 235 args m a7=BS U aD (Cp args) m (EA [.AI 4,.AI 5] a7):=EG sl h
def a3E:AV U 236:=⟨_,by conv=>lhs;reduce⟩
def ZW:D:=B (a:=a3E.1.body) ⟨_,by conv=>lhs;reduce⟩
def y9:AN:=⟨26,[.AI 4],ZW⟩
theorem r2:AR U 236=some y9:=by kernel_rfl
theorem aEq(h:args.length<=26):Aq U 236 args m a7=BS U ZW (Cp args) m (EA [.AI 4] a7):=EG r2 h
def Y7:AV U 242:=⟨_,by conv=>lhs;reduce⟩
def Y6:D:=B (a:=A8 Y7.1.body 75) ⟨_,by conv=>lhs;reduce⟩
def eU:D:=B (a:=A8 Y7.1.body 40223) ⟨_,by conv=>lhs;reduce⟩
def Vj:D:=B (a:= λx=>A9 157 x (A8 Y7.1.body 287)) ⟨_,by conv=>lhs;reduce⟩ eU
def jB:D:=B (a:= λx y=>A9 287 y (A9 75 x Y7.1.body)) ⟨_,by conv=>lhs;reduce⟩ Y6 Vj
def zO:AN:=⟨138,[.AI 4,.AI 5],jB⟩
theorem tj:AR U 242=some zO:=by kernel_rfl
theorem a3H(h:args.length<=138):Aq U 242 args m a7=BS U jB (Cp args) m (EA [.AI 4,.AI 5] a7):=EG tj h
def mq:AV U 243:=⟨_,by conv=>lhs;reduce⟩
def eY:D:=B (a:=A8 mq.1.body 37) ⟨_,by conv=>lhs;reduce⟩
def cu:D:=B (a:=A8 mq.1.body 75) ⟨_,by conv=>lhs;reduce⟩
def gz:D:=B (a:= λx y=>A9 75 y (A9 37 x mq.1.body)) ⟨_,by conv=>lhs;reduce⟩ eY cu
def wF:AN:=⟨89,[.AI 6],gz⟩
theorem xc:AR U 243=some wF:=by kernel_rfl
theorem a4C(h:args.length<=89):Aq U 243 args m a7=BS U gz (Cp args) m (EA [.AI 6] a7):=EG xc h
def a5I:AV U 261:=⟨_,by conv=>lhs;reduce⟩
def jV:D:=B (a:=a5I.1.body) ⟨_,by conv=>lhs;reduce⟩
def pJ:AN:=⟨5,[.AI 2],jV⟩
theorem wg:AR U 261=some pJ:=by kernel_rfl
theorem a1s(h:args.length<=5):Aq U 261 args m a7=BS U jV (Cp args) m (EA [.AI 2] a7):=EG wg h
def aD4:AV U 262:=⟨_,by conv=>lhs;reduce⟩
def gS:D:=B (a:=aD4.1.body) ⟨_,by conv=>lhs;reduce⟩
def uC:AN:=⟨15,[.AI 2],gS⟩
theorem xr:AR U 262=some uC:=by kernel_rfl
theorem a2L(h:args.length<=15):Aq U 262 args m a7=BS U gS (Cp args) m (EA [.AI 2] a7):=EG xr h
def aBz:AV U 263:=⟨_,by conv=>lhs;reduce⟩
def dP:D:=B (a:=aBz.1.body) ⟨_,by conv=>lhs;reduce⟩
def xS:AN:=⟨60,[.AI 4,.AI 5,.AI 6,.AI 7],dP⟩
theorem zM:AR U 263=some xS:=by kernel_rfl
theorem a0z(h:args.length<=60):Aq U 263 args m a7=BS U dP (Cp args) m (EA [.AI 4,.AI 5,.AI 6,.AI 7] a7):=EG zM h
def aFj:AV U 264:=⟨_,by conv=>lhs;reduce⟩
def kK:D:=B (a:=aFj.1.body) ⟨_,by conv=>lhs;reduce⟩
def z9:AN:=⟨12,[],kK⟩
theorem sD:AR U 264=some z9:=by kernel_rfl
theorem aAF(h:args.length<=12):Aq U 264 args m a7=BS U kK (Cp args) m (EA [] a7):=EG sD h
def uZ:AV U 276:=⟨_,by conv=>lhs;reduce⟩
def MV:D:=B (a:=A8 uZ.1.body 35) ⟨_,by conv=>lhs;reduce⟩
def mn:D:=B (a:= λx=>A9 35 x uZ.1.body) ⟨_,by conv=>lhs;reduce⟩ MV
def p8:AN:=⟨48,[.AI 6],mn⟩
theorem sh:AR U 276=some p8:=by kernel_rfl
theorem aBB(h:args.length<=48):Aq U 276 args m a7=BS U mn (Cp args) m (EA [.AI 6] a7):=EG sh h
def zh:AV U 277:=⟨_,by conv=>lhs;reduce⟩
def U4:D:=B (a:=A8 zh.1.body 4) ⟨_,by conv=>lhs;reduce⟩
def lF:D:=B (a:= λx=>A9 4 x zh.1.body) ⟨_,by conv=>lhs;reduce⟩ U4
def qY:AN:=⟨23,[],lF⟩
theorem vQ:AR U 277=some qY:=by kernel_rfl
theorem a46(h:args.length<=23):Aq U 277 args m a7=BS U lF (Cp args) m (EA [] a7):=EG vQ h
def aD7:AV U 298:=⟨_,by conv=>lhs;reduce⟩
def kz:D:=B (a:=aD7.1.body) ⟨_,by conv=>lhs;reduce⟩
def wo:AN:=⟨18,[.AI 6],kz⟩
theorem qQ:AR U 298=some wo:=by kernel_rfl
theorem aCr(h:args.length<=18):Aq U 298 args m a7=BS U kz (Cp args) m (EA [.AI 6] a7):=EG qQ h
def aEd:AV U 299:=⟨_,by conv=>lhs;reduce⟩
def n2:D:=B (a:=aEd.1.body) ⟨_,by conv=>lhs;reduce⟩
def pW:AN:=⟨25,[.AI 2],n2⟩
theorem np:AR U 299=some pW:=by kernel_rfl
theorem a7J(h:args.length<=25):Aq U 299 args m a7=BS U n2 (Cp args) m (EA [.AI 2] a7):=EG np h
def a60:AV U 300:=⟨_,by conv=>lhs;reduce⟩
def l3:D:=B (a:=a60.1.body) ⟨_,by conv=>lhs;reduce⟩
def vI:AN:=⟨13,[],l3⟩
theorem qd:AR U 300=some vI:=by kernel_rfl
theorem a0H(h:args.length<=13):Aq U 300 args m a7=BS U l3 (Cp args) m (EA [] a7):=EG qd h
def a5O:AV U 301:=⟨_,by conv=>lhs;reduce⟩
def lq:D:=B (a:=a5O.1.body) ⟨_,by conv=>lhs;reduce⟩
def oM:AN:=⟨20,[],lq⟩
theorem qb:AR U 301=some oM:=by kernel_rfl
theorem aC5(h:args.length<=20):Aq U 301 args m a7=BS U lq (Cp args) m (EA [] a7):=EG qb h
end
end Go.Proofs.YtmmkkggfmigppaaGreat
