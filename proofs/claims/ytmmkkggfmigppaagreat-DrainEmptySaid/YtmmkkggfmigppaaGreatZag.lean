/-
  A part of the proof of the statement, in texts that tools of ours (wip/shrink.py, irpack.py, relax.py, minify.py, join.py, lay.py) have shortened.
-/
import Derived.Test.YtmmkkggfmigppaaGreatZae
set_option linter.all false
set_option maxRecDepth 8000
set_option maxHeartbeats 16000000
namespace Go.Proofs.YtmmkkggfmigppaaGreat
open Go Go.DI
def atJ:I:= .B (.block 1 (.B (.E [A 0 40 1,aH 1 41 3 2,av 2 42 41,A 3 43 7,bo 4 44 4 42 43,aH 5 45 0 44,av 6 46 45,bo 7 47 1 40 46,av 8 48 47,A 9 49 48,ep 10 50 49 1,ec 11 51 49 3 2,eo 12 52 49 51,ep 13 53 49 7,nx 14 54 49 4 52 53,ec 15 55 49 1 54,eo 16 56 49 55,nx 17 57 49 1 50 56,eo 18 58 49 57,rW 19 59 49 58,dd 20 60 49 59]) (.aR (F 60) (.E [A 0 61 6,aH 1 62 3 2,av 2 63 62,A 3 64 7,bo 4 65 4 63 64,aH 5 66 2 65,av 6 67 66,gy 7 68 61 67,A 8 6 68]) (.skip)))) (.E [A 0 38 7,cO 1 39 38,A 2 7 39])
def atL:I:= .B (.B (.E [A 0 33 7,aH 1 34 3 2,av 2 35 34,bC 3 36 35,c6 4 37 33 36]) (.aR (F 37) (.skip) (.ba 0))) atJ
def atK:I:= .B (.E [A 0 69 6,A 1 4 69,ch 2 5 true]) (.aG)
def atI:I:= .B (.B (.E [a6 0 7 0]) (.block 0 (.loop atL))) atK
def atH:I:= .B (.E [a6 0 6 0]) atI
def atG:I:= .B (.B (.E [bZ 0 8 4 2,b6 1 9 131 [F 8],g2 2 10 9,A 3 11 10,di 4 12 11 1,hM 5 13 11 12,eb 6 14 11 0 2,dJ 7 15 11 14,sS 8 16 11 13 15,cJ 9 17 11 16,A 10 18 17,di 11 19 18 1,eb 12 20 18 1 2,dJ 13 21 18 20,oC 14 22 18 1 19 21,dJ 15 23 18 22,ih 16 24 18 23,cJ 17 25 18 24,A 18 26 25,di 19 27 26 1,eb 20 28 26 2 2,dJ 21 29 26 28,oC 22 30 26 1 27 29,dJ 23 31 26 30,cJ 24 32 26 31]) (.aR (F 32) (.B (.E [a6 0 4 0,ch 1 5 false]) (.aG)) (.skip))) atH
def atE:I:=
  .B (
  .E [
 dI 0 2 0,
 a6 1 4 0,
 ch 2 5 false]) atG
def acK:bS:=⟨70,[.bG 4,.bG 5],atE⟩
theorem atF:b2 al 84=some acK:=by kernel_rfl
def alq:I:= .B (.E [A 0 33 6,iA 1 34 33,aH 2 35 5 34,av 3 36 35,aH 4 37 0 8,av 5 38 37,A 6 39 6,iA 7 40 39,aH 8 41 5 40,av 9 42 41,aH 10 43 0 8,av 11 44 43,bo 12 45 1 42 44,av 13 46 45,A 14 47 7,rU 15 48 47,j2 16 49 (.app 1 8 (F 46) (F 48)) [(F 37,F 46),(F 35,F 46)],bo 17 50 1 36 38,b0 18 1 50 49]) (.E [A 0 51 6,iA 1 52 51,aH 2 53 5 52,av 3 54 53,aH 4 55 1 8,av 5 56 55,A 6 57 6,iA 7 58 57,aH 8 59 5 58,av 9 60 59,aH 10 61 1 8,av 11 62 61,bo 12 63 1 60 62,av 13 64 63,A 14 65 7,c3 15 66 .sub (.const (.int .i64 (-1))) (F 65),rU 16 67 66,j2 17 68 (.app 1 8 (F 64) (F 67)) [(F 55,F 64),(F 53,F 64)],bo 18 69 1 54 56,b0 19 1 69 68])
def alp:I:= .B (.block 1 (.B (.E [A 0 30 28,bo 1 31 4 26 28,bZ 2 32 4 31,a1 3 8 (.dm [aK,aK,aK,aK]),A 4 7 30,b0 5 4 8 32]) alq)) (.E [cO 0 70 28,A 1 28 70])
def alo:I:= .B (.aR (F 29) (.skip) (.ba 0)) alp
def alu:I:= .B (.E [c6 0 29 28 27]) alo
def als:I:= .B (.B (.E [A 0 76 11,aH 1 77 2 1,av 2 78 77,bo 3 79 1 76 78,av 4 80 79,g2 5 81 80]) (.aR (F 81) (.B (.E [A 0 82 6,iA 1 83 82,aH 2 84 4 83,av 3 85 84,A 4 86 9,A 5 87 11,A 6 2 85,A 7 3 86,A 8 4 87,a6 9 5 0]) (.aG)) (.skip))) (.E [A 0 88 9,A 1 89 6,A 2 90 10,dg 3 91 186 89 90,gy 4 92 88 91,A 5 9 92])
def alv:I:= .block 3 (.B (.E [A 0 72 6,b6 1 73 185 [F 72],A 2 71 73,cw 3 74 0 71,cw 4 75 1 71,A 5 10 74,A 6 11 75]) als)
def alr:I:= .B (.E [a6 0 9 0]) (.block 2 (.loop alv))
def aln:I:= .B (.B (.E [aH 0 25 3 1,av 1 26 25,bC 2 27 26,a6 3 28 0]) (.block 0 (.loop alu))) alr
def alm:I:= .B (.E [bZ 0 15 4 1,aH 1 16 3 1,av 2 17 16,bC 3 18 17,aH 5 20 0 1,av 6 21 20,a1 4 19 (.jq 1 8 [aK] (F 18) (F 18)),a1 7 22 (.jq 1 24 [aI] (F 21) (F 21)),a1 8 23 (.eT [aK,aK,aK,aI,aI,aI] [(0,4,F 15),(4,1,F 19),(5,1,F 22)]),dI 9 24 23,A 10 6 24]) aln
def alk:I:= .B (.B (.E [bZ 0 12 4 1,b6 1 13 184 [F 12],g2 2 14 13]) (.aR (F 14) (.B (.E [eL 0 2,a6 1 3 0,eL 2 4,a6 3 5 1]) (.aG)) (.skip))) alm
def ali:I:=
  .B (
  .E [
 dI 0 1 0,
 eL 1 2,
 a6 2 3 0,
 eL 3 4,
 a6 4 5 0]) alk
def X7:bS:=⟨93,[.bG 2,.bG 3,.bG 4,.bG 5],ali⟩
theorem alj:b2 al 125=some X7:=by kernel_rfl
def alZ:I:= .B (.E [aH 0 62 0 4,av 1 63 62,lp 2 64 63 0,A 3 65 64,eb 4 66 65 0 4,dJ 5 67 65 66,eb 6 68 65 0 1,dJ 7 69 65 68,ue 8 70 65 67 69,cJ 9 71 65 70,A 10 72 71,eb 11 73 72 1 4,dJ 12 74 72 73,xL 13 75 72 74,cJ 14 76 72 75,A 15 77 76,eb 16 78 77 1 4,dJ 17 79 77 78,eb 18 80 77 0 1,dJ 19 81 77 80,ue 20 82 77 79 81,cJ 21 83 77 82,A 22 84 83,eb 23 85 84 2 4,dJ 24 86 84 85,xL 25 87 84 86,cJ 26 88 84 87,A 27 89 88,eb 28 90 89 2 4,dJ 29 91 89 90,l4 30 92 89 91 2147483647,cJ 31 93 89 92]) (.aR (F 93) (.B (.E [ch 0 2 false]) (.aG)) (.skip))
def alY:I:= .B (.block 1 (.B (.E [aH 0 57 3 1,av 1 58 57,A 2 59 3,bo 3 60 4 58 59,bZ 4 61 4 60,a1 5 4 (.dm [aK,aK,aK,aK]),b0 6 4 4 61]) alZ)) (.E [A 0 55 3,cO 1 56 55,A 2 3 56])
def al1:I:= .B (.B (.E [A 0 50 3,aH 1 51 3 1,av 2 52 51,bC 3 53 52,c6 4 54 50 53]) (.aR (F 54) (.skip) (.ba 0))) alY
def al0:I:= .B (.E [ch 0 2 true]) (.aG)
def alX:I:= .B (.B (.E [a6 0 3 0]) (.block 0 (.loop al1))) al0
def alW:I:= .B (.B (.E [aH 0 5 0 1,av 1 6 5,lp 2 7 6 2,A 3 8 7,eb 4 9 8 0 1,dJ 5 10 8 9,l4 6 11 8 10 700,cJ 7 12 8 11,A 8 13 12,eb 9 14 13 3 1,dJ 10 15 13 14,hM 11 16 13 15,l4 12 17 13 16 2500,cJ 13 18 13 17,A 14 19 18,eb 15 20 19 1 1,dJ 16 21 19 20,xL 17 22 19 21,cJ 18 23 19 22,A 19 24 23,eb 20 25 24 1 1,dJ 21 26 24 25,eb 22 27 24 0 1,dJ 23 28 24 27,ue 24 29 24 26 28,cJ 25 30 24 29,A 26 31 30,eb 27 32 31 2 1,dJ 28 33 31 32,xL 29 34 31 33,cJ 30 35 31 34,A 31 36 35,eb 32 37 36 2 1,dJ 33 38 36 37,eb 34 39 36 0 1,dJ 35 40 36 39,ue 36 41 36 38 40,cJ 37 42 36 41,A 38 43 42,eb 39 44 43 1 1,dJ 40 45 43 44,eb 41 46 43 2 1,dJ 42 47 43 46,cq 43 48 43 false (.eX .eql .fR (F 45) (F 47)),cJ 44 49 43 48]) (.aR (F 49) (.B (.E [ch 0 2 false]) (.aG)) (.skip))) alX
def alU:I:=
  .B (
  .E [
 dI 0 1 0,
 ch 1 2 false]) alW
def Yd:bS:=⟨94,[.bG 2],alU⟩
theorem alV:b2 al 131=some Yd:=by kernel_rfl
def am1:I:= .B (.E [A 0 49 3,aH 1 50 0 5,av 2 51 50,a1 3 52 (.iw (F 49) [F 51]),g2 4 53 52,A 5 54 53,di 6 55 54 3,eb 7 56 54 1 5,dJ 8 57 54 56,cq 9 58 54 false (.iw (F 55) [F 57]),ih 10 59 54 58,cJ 11 60 54 59,A 12 61 60,eb 13 62 61 2 5,dJ 14 63 61 62,xL 15 64 61 63,cJ 16 65 61 64,A 17 66 65,eb 18 67 66 2 5,dJ 19 68 66 67,l4 20 69 66 68 2147483647,cJ 21 70 66 69]) (.aR (F 70) (.B (.E [ch 0 2 false]) (.aG)) (.skip))
def am0:I:= .B (.block 1 (.B (.E [bo 0 47 4 43 45,bZ 1 48 4 47,a1 2 5 (.dm [aK,aK,aK,aK]),b0 3 4 5 48]) am1)) (.E [cO 0 71 45,A 1 45 71])
def amZ:I:= .B (.aR (F 46) (.skip) (.ba 0)) am0
def am3:I:= .B (.E [c6 0 46 45 44]) amZ
def am2:I:= .B (.E [ch 0 2 true]) (.aG)
def amY:I:= .B (.B (.E [aH 0 42 3 1,av 1 43 42,bC 2 44 43,a6 3 45 0]) (.block 0 (.loop am3))) am2
def amX:I:= .B (.B (.E [aH 0 7 0 1,av 1 8 7,lp 2 9 8 2,A 3 10 9,eb 4 11 10 0 1,dJ 5 12 10 11,l4 6 13 10 12 700,cJ 7 14 10 13,A 8 15 14,eb 9 16 15 3 1,dJ 10 17 15 16,hM 11 18 15 17,l4 12 19 15 18 2500,cJ 13 20 15 19,A 14 21 20,di 15 22 21 3,eb 16 23 21 1 1,dJ 17 24 21 23,cq 18 25 21 false (.iw (F 22) [F 24]),ih 19 26 21 25,cJ 20 27 21 26,A 21 28 27,di 22 29 28 3,eb 23 30 28 2 1,dJ 24 31 28 30,cq 25 32 28 false (.iw (F 29) [F 31]),ih 26 33 28 32,cJ 27 34 28 33,A 28 35 34,eb 29 36 35 1 1,dJ 30 37 35 36,eb 31 38 35 2 1,dJ 32 39 35 38,cq 33 40 35 false (.eX .eql .fR (F 37) (F 39)),cJ 34 41 35 40]) (.aR (F 41) (.B (.E [ch 0 2 false]) (.aG)) (.skip))) amY
def amW:I:= .B (.E [a1 0 6 (.s3 (.func 234) [] [F 1]),A 1 3 6]) amX
def amU:I:=
  .B (
  .E [
 dI 0 1 0,
 ch 1 2 false]) amW
def Zg:bS:=⟨72,[.bG 2],amU⟩
theorem amV:b2 al 184=some Zg:=by kernel_rfl
def ane:I:= .B (.E [A 0 61 10,ko 1 62 61 0,A 2 63 62,ep 3 64 63 5,ep 4 65 63 9,nx 5 66 63 1 64 65,eo 6 67 63 66,rW 7 68 63 67,dd 8 69 63 68]) (.aR (F 69) (.B (.E [A 0 70 5,A 1 71 9,A 2 72 4,A 3 73 9,A 4 74 8,bo 5 75 1 70 71,p4 6 (.store 1 (F 75) (.const (.bool true))),bo 7 76 1 72 73,b0 8 1 76 74]) (.E [A 0 77 6,A 1 78 9,rU 2 79 78,iN 3 80 1 8 77 79,A 4 6 80])) (.skip))
def anc:I:= .B (.E [A 0 56 0,A 1 57 8,dg 2 58 235 56 57,A 3 55 58,cw 4 59 0 55,cw 5 60 1 55,A 6 9 59,A 7 10 60]) ane
def anb:I:= .B (.block 3 (.B (.E [bo 0 53 1 49 51,av 1 54 53,A 2 8 54]) anc)) (.E [cO 0 81 51,A 1 51 81])
def ana:I:= .B (.aR (F 52) (.skip) (.ba 2)) anb
def ang:I:= .B (.E [c6 0 52 51 50]) ana
def am9:I:= .B (.block 1 (.B (.E [A 0 41 0,iA 1 42 41,aH 2 43 5 42,av 3 44 43,A 4 45 6,xM 5 46 1 45,av 6 47 46,bo 7 48 1 44 47,av 8 49 48,bC 9 50 49,a6 10 51 0]) (.block 2 (.loop ang)))) (.E [A 0 39 6,a1 1 40 (.nb 1 (F 39) (some (.const (.int .i64 1))) none),A 2 6 40])
def anh:I:= .B (.B (.E [A 0 36 6,bC 1 37 36,ko 2 38 37 0]) (.aR (F 38) (.skip) (.ba 0))) am9
def anf:I:= .B (.E [A 0 82 4,A 1 83 5,A 2 2 82,A 3 3 83]) (.aG)
def am8:I:= .B (.B (.E [A 0 30 0,iA 1 31 30,aH 2 32 0 31,aH 3 33 1 32,av 4 34 33,rU 5 35 34,A 6 6 35]) (.block 0 (.loop anh))) anf
def am7:I:= .B (.E [A 0 23 5,A 1 24 0,iA 2 25 24,aH 3 26 0 25,aH 4 27 1 26,av 5 28 27,bo 6 29 1 23 28,p4 7 (.store 1 (F 29) (.const (.bool true)))]) am8
def am6:I:= .B (.E [A 0 11 0,iA 1 12 11,aH 2 13 0 12,aH 3 14 0 13,av 4 15 14,A 6 17 0,iA 7 18 17,aH 8 19 0 18,aH 9 20 0 19,av 10 21 20,a1 5 16 (.jq 1 8 [aK] (F 15) (F 15)),A 12 4 16,zY 11 22 21 21,A 13 5 22]) am7
def am4:I:=
  .B (
  .E [
 eL 0 2,
 eL 1 3]) am6
def Zh:bS:=⟨84,[.bG 2,.bG 3],am4⟩
theorem am5:b2 al 185=some Zh:=by kernel_rfl
def ann:I:= .B (.E [A 0 38 5,lp 1 39 38 0,A 2 40 39,di 3 41 40 8,di 4 42 40 5,cq 5 43 40 false (.eX .lss .fR (F 41) (F 42)),cJ 6 44 40 43]) (.aR (F 44) (.E [A 0 45 8,A 1 5 45]) (.skip))
def anm:I:= .B (.block 1 (.B (.E [A 0 30 0,A 1 31 1,A 2 32 6,bo 3 33 1 31 32,av 4 34 33,dg 5 35 235 30 34,A 6 29 35,cw 7 36 0 29,cw 8 37 1 29,A 9 7 36,A 10 8 37]) ann)) (.E [A 0 23 0,A 1 24 1,A 2 25 6,bo 3 26 1 24 25,av 4 27 26,dg 5 28 236 23 27,A 6 6 28])
def ans:I:= .B (.B (.E [A 0 16 6,A 1 17 0,iA 2 18 17,aH 3 19 0 18,aH 4 20 1 19,av 5 21 20,c3 6 22 .neq (F 16) (F 21)]) (.aR (F 22) (.skip) (.ba 0))) anm
def anq:I:= .B (.E [A 0 68 10,nw 1 69 68 0]) (.aR (F 69) (.E [A 0 70 0,iA 1 71 70,aH 2 72 4 71,av 3 73 72,A 4 74 10,bo 5 75 1 73 74,av 6 76 75,A 7 77 5,gy 8 78 76 77,bo 9 79 1 73 74,b0 10 1 79 78]) (.E [A 0 80 0,iA 1 81 80,aH 2 82 4 81,av 3 83 82,A 4 84 10,c3 5 85 .sub (.const (.int .i64 (-1))) (F 84),bo 6 86 1 83 85,av 7 87 86,A 8 88 5,c3 9 89 .sub (F 87) (F 88),bo 10 90 1 83 85,b0 11 1 90 89]))
def anp:I:= .B (.block 3 (.B (.E [A 0 64 1,A 1 65 9,bo 2 66 1 64 65,av 3 67 66,A 4 10 67]) anq)) (.E [A 0 58 0,A 1 59 1,A 2 60 9,bo 3 61 1 59 60,av 4 62 61,dg 5 63 236 58 62,A 6 9 63])
def ant:I:= .B (.B (.E [A 0 51 9,A 1 52 0,iA 2 53 52,aH 3 54 0 53,aH 4 55 1 54,av 5 56 55,c3 6 57 .neq (F 51) (F 56)]) (.aR (F 57) (.skip) (.ba 2))) anp
def anr:I:= .B (.E [A 0 91 5,A 1 4 91]) (.aG)
def ano:I:= .B (.B (.E [A 0 46 0,iA 1 47 46,aH 2 48 0 47,aH 3 49 2 48,av 4 50 49,A 5 9 50]) (.block 2 (.loop ant))) anr
def anl:I:= .B (.B (.E [A 0 11 0,iA 1 12 11,aH 2 13 0 12,aH 3 14 2 13,av 4 15 14,A 5 6 15]) (.block 0 (.loop ans))) ano
def ank:I:= .B (.E [a6 0 5 (-1)]) anl
def ani:I:=
  .B (
  .E [
 a6 0 4 0]) ank
def Zi:bS:=⟨92,[.bG 4],ani⟩
theorem anj:b2 al 186=some Zi:=by kernel_rfl
def aoT:I:= .B (.E [A 0 4 0,nw 1 5 4 0,A 2 6 5,ep 3 7 6 0,ec 4 8 6 0 1,eo 5 9 6 8,cq 6 10 6 true (.eX .lss .fR (F 7) (F 9)),dd 7 11 6 10,A 8 3 11]) (.aG)
def aoR:I:=
  .B (
  .E [
 ch 0 3 false]) aoT
def aaz:bS:=⟨12,[.bG 3],aoR⟩
theorem aoS:b2 al 234=some aaz:=by kernel_rfl
def aoX:I:= .B (.E [A 0 34 0,iA 1 35 34,aH 2 36 0 35,aH 3 37 3 36,av 4 38 37,A 5 39 1,c3 6 40 .sub (.const (.int .i64 (-1))) (F 39),bo 7 41 4 38 40,aH 8 42 0 41,av 9 43 42,A 10 44 0,iA 11 45 44,aH 12 46 4 45,av 13 47 46,A 14 48 1,c3 15 49 .sub (.const (.int .i64 (-1))) (F 48),bo 16 50 1 47 49,av 17 51 50,A 18 4 43,A 19 5 51]) (.aG)
def aoW:I:= .B (.B (.E [A 0 6 1,nw 1 7 6 0]) (.aR (F 7) (.B (.E [A 0 8 0,iA 1 9 8,aH 2 10 0 9,aH 3 11 3 10,av 4 12 11,A 5 13 1,bo 6 14 4 12 13,aH 7 15 1 14,av 8 16 15,A 9 17 0,iA 10 18 17,aH 11 19 0 18,aH 12 20 3 19,av 13 21 20,A 14 22 1,bo 15 23 4 21 22,aH 16 24 2 23,av 17 25 24,A 18 26 0,iA 19 27 26,aH 20 28 4 27,av 21 29 28,A 22 30 1,bo 23 31 1 29 30,av 24 32 31,c3 25 33 .sub (F 25) (F 32),A 26 4 16,A 27 5 33]) (.aG)) (.skip))) aoX
def aoU:I:=
  .B (
  .E [
 a6 0 4 0,
 a6 1 5 0]) aoW
def aaA:bS:=⟨52,[.bG 4,.bG 5],aoU⟩
theorem aoV:b2 al 235=some aaA:=by kernel_rfl
def ao1:I:= .B (.E [A 0 16 0,iA 1 17 16,aH 2 18 0 17,aH 3 19 3 18,av 4 20 19,A 5 21 1,c3 6 22 .sub (.const (.int .i64 (-1))) (F 21),bo 7 23 4 20 22,aH 8 24 1 23,av 9 25 24,A 10 4 25]) (.aG)
def ao0:I:= .B (.B (.E [A 0 5 1,nw 1 6 5 0]) (.aR (F 6) (.B (.E [A 0 7 0,iA 1 8 7,aH 2 9 0 8,aH 3 10 3 9,av 4 11 10,A 5 12 1,bo 6 13 4 11 12,aH 7 14 0 13,av 8 15 14,A 9 4 15]) (.aG)) (.skip))) ao1
def aoY:I:=
  .B (
  .E [
 a6 0 4 0]) ao0
def aaB:bS:=⟨26,[.bG 4],aoY⟩
theorem aoZ:b2 al 236=some aaB:=by kernel_rfl
def KE:I:= .B (.E [A 0 16 5,A 1 4 16]) (.aG)
def KD:I:= .B (.B (.E [A 0 11 5,lp 1 12 11 0]) (.aR (F 12) (.B (.E [A 0 13 5,A 1 14 1,gy 2 15 13 14,A 3 4 15]) (.aG)) (.skip))) KE
def KC:I:= .B (.E [A 0 8 0,A 1 9 1,c3 2 10 .rem (F 8) (F 9),A 3 5 10]) KD
def KB:I:= .B (.B (.E [A 0 6 1,lp 1 7 6 1]) (.aR (F 7) (.B (.E [a6 0 4 0]) (.aG)) (.skip))) KC
def KA:I:=
  .B (
  .E [
 a6 0 4 0]) KB
def F4:bS:=⟨17,[.bG 4],KA⟩
theorem anU:b2 al 19=some F4:=by kernel_rfl
def an0:I:= .B (.block 1 (.B (.E [A 0 17 0,A 1 18 5,bo 2 19 1 17 18,av 3 20 19,A 4 21 1,A 5 22 5,bo 6 23 1 21 22,av 7 24 23,c3 8 25 .neq (F 20) (F 24)]) (.aR (F 25) (.B (.E [ch 0 4 false]) (.aG)) (.skip)))) (.E [A 0 15 5,cO 1 16 15,A 2 5 16])
def an2:I:= .B (.B (.E [A 0 11 5,A 1 12 0,bC 2 13 12,c6 3 14 11 13]) (.aR (F 14) (.skip) (.ba 0))) an0
def an1:I:= .B (.E [ch 0 4 true]) (.aG)
def anZ:I:= .B (.B (.E [a6 0 5 0]) (.block 0 (.loop an2))) an1
def anY:I:= .B (.B (.E [A 0 6 0,bC 1 7 6,A 2 8 1,bC 3 9 8,c3 4 10 .neq (F 7) (F 9)]) (.aR (F 10) (.B (.E [ch 0 4 false]) (.aG)) (.skip))) anZ
def anW:I:=
  .B (
  .E [
 ch 0 4 false]) anY
def ZI:bS:=⟨26,[.bG 4],anW⟩
theorem anX:b2 al 20=some ZI:=by kernel_rfl
def Lf:I:= .B (.block 5 (.E [A 0 43 9,cO 1 44 43,aH 2 45 4 3,av 3 46 45,bC 4 47 46,c3 5 48 .rem (F 44) (F 47),A 6 9 48])) (.E [A 0 41 10,cO 1 42 41,A 2 10 42])
def Gv:I:= .B (.B (.E [A 0 31 10,aH 1 32 4 3,av 2 33 32,bC 3 34 33,c6 4 35 31 34,A 5 36 35,ep 6 37 36 7,ep 7 38 36 9,cq 8 39 36 true (.dA 102 [F 37,F 38]),dd 9 40 36 39]) (.aR (F 40) (.skip) (.ba 4))) Lf
def Gu:I:= .B (.B (.E [A 0 49 7,A 1 50 9,dg 2 51 102 49 50,A 3 52 51,di 4 53 52 0,cq 5 54 52 false (.dA 49 [F 53,.const (.int .i64 12)]),zV 6 55 52 54,cJ 7 56 52 55]) (.aR (F 56) (.E [a6 0 9 (-1)]) (.skip))) (.E [A 0 57 7,A 1 58 9,rU 2 59 58,iN 3 60 1 8 57 59,A 4 7 60])
def Gt:I:= .B (.B (.E [a6 0 10 0]) (.block 4 (.loop Gv))) Gu
def Gs:I:= .B (.block 3 (.B (.E [A 0 26 0,aH 1 27 4 3,av 2 28 27,bC 3 29 28,dg 4 30 49 26 29,A 5 9 30]) Gt)) (.E [A 0 24 8,cO 1 25 24,A 2 8 25])
def Cg:I:= .B (.B (.E [A 0 19 8,bZ 1 20 7 3,A 2 21 6,dg 3 22 101 20 21,c6 4 23 19 22]) (.aR (F 23) (.skip) (.ba 2))) Gs
def Rh:I:= .B (.B (.E [a6 0 8 0]) (.block 2 (.loop Cg))) (.E [A 0 61 5,A 1 62 7,a1 2 63 (.fI 1 1 [aI] [(0,1,F 62)]),iN 3 64 1 24 61 63,A 4 5 64])
def Rg:I:= .B (.block 1 (.B (.E [a1 0 18 (.fI 1 0 [] []),A 1 7 18]) Rh)) (.E [A 0 16 6,cO 1 17 16,A 2 6 17])
def Lg:I:= .B (.B (.E [A 0 11 6,aH 1 12 6 3,av 2 13 12,bC 3 14 13,c6 4 15 11 14]) (.aR (F 15) (.skip) (.ba 0))) Rg
def abS:I:= .B (.E [A 0 65 5,A 1 4 65]) (.aG)
def abR:I:= .B (.B (.E [a6 0 6 0]) (.block 0 (.loop Lg))) abS
def abQ:I:= .B (.E [eL 0 5]) abR
def abP:I:=
  .B (
  .E [
 dI 0 3 1,
 eL 1 4]) abQ
def Rf:bS:=⟨66,[.bG 4],abP⟩
theorem ar7:b2 al 48=some Rf:=by kernel_rfl
def zI:I:= .B (.E [A 0 49 6,A 1 4 49]) (.aG)
def zH:I:= .B (.B (.E [A 0 44 6,lp 1 45 44 0]) (.aR (F 45) (.B (.E [A 0 46 6,A 1 47 1,gy 2 48 46 47,A 3 4 48]) (.aG)) (.skip))) zI
def zG:I:= .B (.E [A 0 41 5,A 1 42 1,c3 2 43 .rem (F 41) (F 42),A 3 6 43]) zH
def zF:I:= .B (.B (.E [A 0 39 1,lp 1 40 39 1]) (.aR (F 40) (.B (.E [a6 0 4 0]) (.aG)) (.skip))) zG
def zE:I:= .B (.E [A 0 32 0,iA 1 33 32,aH 2 34 1 33,av 3 35 34,cO 4 36 35,iA 5 37 32,aH 6 38 1 37,b0 7 1 38 36]) zF
def zD:I:= .B (.B (.E [A 0 12 0,iA 1 13 12,aH 2 14 1 13,av 3 15 14,A 4 16 0,iA 5 17 16,aH 6 18 0 17,av 7 19 18,bC 8 20 19,c6 9 21 15 20]) (.aR (F 21) (.E [A 0 22 0,iA 1 23 22,aH 2 24 0 23,av 3 25 24,A 4 26 0,iA 5 27 26,aH 6 28 1 27,av 7 29 28,bo 8 30 1 25 29,av 9 31 30,A 10 5 31]) (.skip))) zE
def zC:I:= .B (.E [A 0 7 0,iA 1 8 7,aH 2 9 1 8,av 3 10 9,c3 4 11 .rem (F 10) (.const (.int .i64 3)),A 5 5 11]) zD
def zB:I:=
  .B (
  .E [
 a6 0 4 0]) zC
def xv:bS:=⟨50,[.bG 4],zB⟩
theorem ar8:b2 al 49=some xv:=by kernel_rfl
def ab2:I:= .B (.E [bZ 0 13 3 5,b0 1 3 4 13]) (.aG)
def ab1:I:= .B (.E [A 0 8 0,A 1 9 1,dg 2 10 107 8 9,A 3 7 10,cw 4 11 0 7,cw 5 12 1 7,a1 6 5 (.dm [.bool false,aI,aI]),b0 7 3 5 11,A 8 6 12]) ab2
def abZ:I:=
  .B (
  .E [
 a1 0 4 (.dm [.bool false,aI,aI])]) ab1
def Li:bS:=⟨14,[.hL 4 true 3],abZ⟩
theorem ab0:b2 al 59=some Li:=by kernel_rfl
def Gy:I:= .B (.E [A 0 76 7,A 1 77 0,kG 2 78 49 77 17,kH 3 79 16 78,b6 4 80 108 [F 5,.const (.int .i64 2),F 76,F 79],A 5 8 80]) (.E [A 0 81 8,A 1 82 0,kG 2 83 49 82 9,kH 3 84 8 83,b6 4 85 108 [F 5,.const (.int .i64 3),F 81,F 84],A 5 9 85])
def Gx:I:= .B (.B (.E [A 0 112 0,kG 1 113 49 112 4,jn 2 114 113 0]) (.aR (F 114) (.E [a6 0 13 1]) (.skip))) (.E [aH 0 115 4 5,av 1 116 115,aH 2 117 4 5,av 3 118 117,bC 4 119 118,A 6 121 13,A 7 122 11,j2 5 120 (.dA 109 [.const (.int .u8 100),F 119]) [(F 115,F 115)],a1 8 123 (.eT [.string ⟨#[]⟩,aK,aK] [(0,1,F 120),(1,1,F 121),(2,1,F 122)]),a1 9 124 (.fI 3 1 [.string ⟨#[]⟩,aK,aK] [(0,3,F 123)]),iN 10 125 3 32 116 124,aH 11 126 4 5,b0 12 1 126 125])
def Gw:I:= .B (.block 3 (.B (.E [a6 0 13 0]) Gx)) (.E [A 0 110 12,h3 1 111 110 1,A 2 12 111])
def zJ:I:= .B (.B (.E [A 0 102 12,ko 1 103 102 0,A 2 104 103,ec 3 105 104 4 5,eo 4 106 104 105,lq 5 107 104 106,cq 6 108 104 true (.eX .lss .fR (F 107) (.const (.int .i64 9))),dd 7 109 104 108]) (.aR (F 109) (.skip) (.ba 2))) Gw
def ab5:I:= .B (.E [A 0 99 0,kG 1 100 49 99 2,kH 2 101 1 100,A 3 12 101]) (.block 2 (.loop zJ))
def Rm:I:= .B (.E [A 0 94 9,A 1 95 0,kG 2 96 49 95 9,kH 3 97 8 96,b6 4 98 108 [F 5,.const (.int .i64 4),F 94,F 97],A 5 11 98]) ab5
def Ch:I:= .B (.block 1 (.B (.B (.E [A 0 65 10,jn 1 66 65 0,A 2 67 66,di 3 68 67 0,cq 4 69 67 false (.dA 49 [F 68,.const (.int .i64 4)]),zV 5 70 67 69,cJ 6 71 67 70]) (.aR (F 71) (.B (.E [A 0 72 0,kG 1 73 49 72 17,kH 2 74 16 73,b6 3 75 108 [F 5,.const (.int .i64 1),.const aK,F 74],A 4 7 75]) Gy) (.B (.E [A 0 86 0,kG 1 87 49 86 2,jn 2 88 87 0]) (.aR (F 88) (.E [A 0 89 8,A 1 90 0,kG 2 91 49 90 9,kH 3 92 8 91,b6 4 93 108 [F 5,.const (.int .i64 3),F 89,F 92],A 5 9 93]) (.skip))))) Rm)) (.E [A 0 63 10,cO 1 64 63,A 2 10 64])
def Lj:I:= .B (.B (.E [A 0 60 10,A 1 61 6,c6 2 62 60 61]) (.aR (F 62) (.skip) (.ba 0))) Ch
def Ru:I:= .B (.block 7 (.E [aH 0 172 10 17,av 1 173 172,j2 2 174 (.dA 59 [.const (.int .i64 1),.const (.int .i64 2)]) [(F 172,F 172)],vI 3 175 174,iN 4 176 3 56 173 175,aH 5 177 10 17,b0 6 1 177 176])) (.E [A 0 170 18,cO 1 171 170,A 2 18 171])
def Gz:I:= .B (.B (.E [A 0 166 18,A 1 167 16,a1 2 168 (.oF true (F 167) [.const (.int .i64 1)]),c6 3 169 166 168]) (.aR (F 169) (.skip) (.ba 6))) Ru
def Rt:I:= .B (.B (.E [a6 0 18 0]) (.block 6 (.loop Gz))) (.E [aH 0 178 5 5,av 1 179 178,bZ 2 180 17 17,RN 3 181 180,iN 4 182 17 240 179 181,aH 5 183 5 5,b0 6 1 183 182])
def Rs:I:= .B (.B (.E [A 0 161 0,kG 1 162 49 161 5,jn 2 163 162 0]) (.aR (F 163) (.E [a1 0 164 (.fI 1 1 [aK] [(0,1,.const aK)]),aH 1 165 9 17,b0 2 1 165 164]) (.skip))) Rt
def Rr:I:= .B (.E [A 0 157 0,kG 1 158 49 157 3,aH 2 159 4 17,a1 3 160 (.oz 1 5 (F 159) (.const (.int .i64 4))),b0 4 1 160 158]) Rs
def Rq:I:= .B (.E [A 0 153 0,kG 1 154 49 153 4,aH 2 155 4 17,a1 3 156 (.oz 1 5 (F 155) (.const (.int .i64 3))),b0 4 1 156 154]) Rr
def Rp:I:= .B (.E [A 0 139 14,b6 1 140 109 [.const (.int .u8 112),F 139],A 2 141 15,A 3 142 16,A 4 143 15,A 5 144 0,A 6 145 16,cO 7 146 145,dg 8 147 49 144 146,gy 9 148 143 147,a1 10 149 (.fI 1 2 [aK,aK] [(0,1,.const aK),(1,1,.const (.int .i64 1))]),vJ 11 150 59 1 1000,vJ 12 151 59 30 1,a1 13 152 (.eT [.string ⟨#[]⟩,aK,aK,aK,aK,aK,aK,aK,aK,aI,aI,.bool false,aI,aI,.bool false,aI,aI] [(0,1,F 140),(1,1,F 141),(2,1,F 142),(3,1,F 148),(9,1,F 149),(11,3,F 150),(14,3,F 151)]),a1 14 17 (.dm [.string ⟨#[]⟩,aK,aK,aK,aK,aK,aK,aK,aK,aI,aI,.bool false,aI,aI,.bool false,aI,aI]),b0 15 17 17 152]) Rq
def Ro:I:= .B (.E [A 0 137 0,kG 1 138 49 137 3,A 2 16 138]) Rp
def Rn:I:= .B (.block 5 (.B (.E [A 0 134 0,kG 1 135 49 134 2,kH 2 136 1 135,A 3 15 136]) Ro)) (.E [A 0 132 14,h3 1 133 132 1,A 2 14 133])
def GA:I:= .B (.B (.E [A 0 130 14,ko 1 131 130 0]) (.aR (F 131) (.skip) (.ba 4))) Rn
def Rv:I:= .B (.block 9 (.E [aH 0 192 6 5,av 1 193 192,A 2 194 19,A 4 196 0,aH 5 197 5 5,av 6 198 197,bC 7 199 198,j2 3 195 (.dA 109 [.const (.int .u8 118),F 194]) [(F 197,F 197),(F 192,F 192)],sT 8 200 49 196 199 192 192,a1 9 201 (.eT [.string ⟨#[]⟩,aK] [(0,1,F 195),(1,1,F 200)]),a1 10 202 (.fI 2 1 [.string ⟨#[]⟩,aK] [(0,2,F 201)]),iN 11 203 2 24 193 202,aH 12 204 6 5,b0 13 1 204 203])) (.E [A 0 190 19,h3 1 191 190 1,A 2 19 191])
def Lk:I:= .B (.B (.E [A 0 188 19,ko 1 189 188 0]) (.aR (F 189) (.skip) (.ba 8))) Rv
def ab9:I:= .B (.E [bZ 0 205 7 5,b0 1 7 4 205]) (.aG)
def ab8:I:= .B (.B (.E [A 0 184 0,A 1 185 1,dg 2 186 49 184 185,kH 3 187 1 186,A 4 19 187]) (.block 8 (.loop Lk))) ab9
def ab6:I:= .B (.B (.E [A 0 127 0,kG 1 128 49 127 2,kH 2 129 1 128,A 3 14 129]) (.block 4 (.loop GA))) ab8
def acf:I:= .B (.B (.E [a6 0 10 0]) (.block 0 (.loop Lj))) ab6
def ace:I:= .B (.E [a6 0 7 0,a6 1 8 0,a6 2 9 0]) acf
def acd:I:= .B (.E [A 0 57 0,kG 1 58 49 57 3,kH 2 59 3 58,A 3 6 59]) ace
def acb:I:= .B (.E [vJ 0 53 59 0 1,RO 1 54 53,a1 2 55 (.fI 7 1 [.string ⟨#[]⟩,aK,aK,aK,.bool false,aI,aI] [(0,7,F 54)]),aH 3 56 3 5,b0 4 1 56 55]) acd
def aca:I:= .B (.E [A 0 37 0,kG 1 38 49 37 2,kH 2 39 3 38,A 3 40 0,kG 4 41 49 40 9,kH 5 42 8 41,a1 6 43 (.eT [.string ⟨#[]⟩,aK,aK,aK] [(0,1,.const (.string ⟨#[98,105,103]⟩)),(1,1,F 39),(2,1,F 42),(3,1,.const aK)]),A 7 44 0,kG 8 45 49 44 3,kH 9 46 1 45,A 10 47 0,kG 11 48 49 47 9,kH 12 49 4 48,a1 13 50 (.eT [.string ⟨#[]⟩,aK,aK,aK] [(0,1,.const (.string ⟨#[111,108,100]⟩)),(1,1,F 46),(2,1,F 49),(3,1,.const aK)]),a1 14 51 (.fI 4 2 [.string ⟨#[]⟩,aK,aK,aK,.string ⟨#[]⟩,aK,aK,aK] [(0,4,F 43),(4,4,F 50)]),aH 15 52 2 5,b0 16 1 52 51]) acb
def ab7:I:= .B (.E [vJ 0 24 59 1 1,vI 1 25 24,vJ 2 26 59 0 1,vI 3 27 26,a1 4 28 (.fI 1 1 [aI] [(0,1,F 27)]),A 5 29 0,kG 6 30 49 29 100,kH 7 31 100 30,b6 8 32 59 [.const (.int .i64 1),F 31],vI 9 33 32,a1 10 34 (.eT [.string ⟨#[]⟩,aI,aI,aI] [(0,1,.const (.string ⟨#[100,105,115,107]⟩)),(1,1,F 25),(2,1,F 28),(3,1,F 33)]),a1 11 35 (.fI 4 1 [.string ⟨#[]⟩,aI,aI,aI] [(0,4,F 34)]),aH 12 36 1 5,b0 13 1 36 35]) aca
def ab4:I:= .B (.E [A 0 20 0,kG 1 21 49 20 2,kH 2 22 1 21,a1 3 23 (.eT [aK,aI,aI,aI,aI,aI,aI] [(0,1,F 22)]),a1 4 5 (.dm [aK,aI,aI,aI,aI,aI,aI]),b0 5 7 5 23]) ab7
def ab3:I:=
  .B (
  .E [
 a1 0 4 (.dm [aK,aI,aI,aI,aI,aI,aI])]) ab4
def Rl:bS:=⟨206,[.hL 4 true 7],ab3⟩
theorem ar9:b2 al 60=some Rl:=by kernel_rfl
def GB:I:= .B (.block 1 (.B (.E [A 0 15 0,kG 1 16 49 15 9]) (.block 2 (.B (.E [jn 0 18 16 0,A 1 17 18]) (.aR (F 17) (.E [A 0 19 5,A 1 20 6,bo 2 21 1 19 20,p4 3 (.store 1 (F 21) (.const aK))]) (.B (.E [jn 0 23 16 1,A 1 22 23]) (.aR (F 22) (.E [A 0 24 5,A 1 25 6,A 2 26 0,A 3 27 5,A 4 28 6,bo 5 29 1 27 28,av 6 30 29,cO 7 31 30,dg 8 32 49 26 31,bo 9 33 1 24 25,b0 10 1 33 32]) (.skip)))))))) (.E [A 0 13 6,cO 1 14 13,A 2 6 14])
def Ci:I:= .B (.B (.E [A 0 9 6,A 1 10 5,bC 2 11 10,c6 3 12 9 11]) (.aR (F 12) (.skip) (.ba 0))) GB
def acj:I:= .B (.E [A 0 34 5,A 1 4 34]) (.aG)
def aci:I:= .B (.B (.E [a6 0 6 0]) (.block 0 (.loop Ci))) acj
def ach:I:= .B (.E [bZ 0 7 7 3,b6 1 8 52 [F 7,.const (aI)],A 2 5 8]) aci
def acg:I:=
  .B (
  .E [
 dI 0 3 1,
 eL 1 4]) ach
def Rw:bS:=⟨35,[.bG 4],acg⟩
theorem asa:b2 al 61=some Rw:=by kernel_rfl
def Xx:I:= .B (.E [aH 0 16 1 5,av 1 17 16,aH 2 18 2 5,av 3 19 18,gy 4 20 17 19,A 5 4 20]) (.aG)
def Xw:I:= .B (.E [aH 0 6 5 2,av 1 7 6,aH 2 8 6 2,av 3 9 8,A 4 10 1,bo 5 11 2 9 10,aH 6 12 1 11,av 7 13 12,bo 8 14 17 7 13,bZ 9 15 17 14,a1 10 5 (.dm [.string ⟨#[]⟩,aK,aK,aK,aK,aK,aK,aK,aK,aI,aI,.bool false,aI,aI,.bool false,aI,aI]),b0 11 17 5 15]) Xx
def Xv:I:=
  .B (
  .E [
 dI 0 2 0,
 a6 1 4 0]) Xw
def PV:bS:=⟨21,[.bG 4],Xv⟩
theorem aj3:b2 al 101=some PV:=by kernel_rfl
def Fc:I:= .B (.block 1 (.B (.E [A 0 12 0,A 1 13 5,bo 2 14 1 12 13,av 3 15 14,A 4 16 1,c3 5 17 .eql (F 15) (F 16)]) (.aR (F 17) (.B (.E [ch 0 4 true]) (.aG)) (.skip)))) (.E [A 0 10 5,cO 1 11 10,A 2 5 11])
def J1:I:= .B (.B (.E [A 0 6 5,A 1 7 0,bC 2 8 7,c6 3 9 6 8]) (.aR (F 9) (.skip) (.ba 0))) Fc
def Fe:I:= .B (.E [ch 0 4 false]) (.aG)
def Xz:I:= .B (.B (.E [a6 0 5 0]) (.block 0 (.loop J1))) Fe
def Xy:I:=
  .B (
  .E [
 ch 0 4 false]) Xz
def PW:bS:=⟨18,[.bG 4],Xy⟩
theorem aj4:b2 al 102=some PW:=by kernel_rfl
def XH:I:= .B (.E [A 0 31 9,A 1 8 31]) (.aG)
def XG:I:= .B (.E [A 0 15 0,A 1 16 0,iA 2 17 16,aH 3 18 3 17,av 4 19 18,A 5 20 9,A 7 22 1,A 8 23 2,A 9 24 3,j2 6 21 (.dA 109 [.const (.int .u8 110),F 20]) [(F 18,F 18)],j2 10 25 (.dA 59 [.const aK,.const (.int .i64 1)]) [(F 18,F 18)],a1 11 26 (.eT [.string ⟨#[]⟩,aK,aK,aK,.bool false,aI,aI] [(0,1,F 21),(1,1,F 22),(2,1,F 23),(3,1,F 24),(4,3,F 25)]),a1 12 27 (.fI 7 1 [.string ⟨#[]⟩,aK,aK,aK,.bool false,aI,aI] [(0,7,F 26)]),iN 13 28 7 96 19 27,iA 14 29 15,aH 15 30 3 29,b0 16 1 30 28]) XH
def XF:I:= .B (.E [A 0 10 0,iA 1 11 10,aH 2 12 3 11,av 3 13 12,bC 4 14 13,A 5 9 14]) XG
def XE:I:=
  .B (
  .E [
 a6 0 8 0]) XF
def PX:bS:=⟨32,[.bG 8],XE⟩
theorem aj5:b2 al 108=some PX:=by kernel_rfl
def XJ:I:= .B (.E [A 0 5 0,A 1 6 1,c3 2 7 .quo (F 6) (.const (.int .i64 26)),c3 3 8 .rem (F 7) (.const (.int .i64 26)),kH 4 9 97 8,a1 5 10 (.ru .u8 (F 9)),A 6 11 1,c3 7 12 .rem (F 11) (.const (.int .i64 26)),kH 8 13 97 12,a1 9 14 (.ru .u8 (F 13)),a1 10 15 (.fI 1 3 [.int .u8 0,.int .u8 0,.int .u8 0] [(0,1,F 5),(1,1,F 10),(2,1,F 14)]),a1 11 16 (.mg (F 15)),A 12 4 16]) (.aG)
def XI:I:=
  .B (
  .E [
 a1 0 4 (.m2 (.const (.string ⟨#[]⟩)))]) XJ
def PY:bS:=⟨17,[.bG 4],XI⟩
theorem aj6:b2 al 109=some PY:=by kernel_rfl
def LL:I:= .B (.block 1 (.B (.E [A 0 23 2,A 1 24 7,bo 2 25 1 23 24,av 3 26 25,bC 4 27 26,ko 5 28 27 20]) (.aR (F 28) (.B (.E [b6 0 29 17 [],A 1 6 29]) (.aG)) (.skip)))) (.E [A 0 21 7,cO 1 22 21,A 2 7 22])
def LQ:I:= .B (.B (.E [A 0 17 7,A 1 18 2,bC 2 19 18,c6 3 20 17 19]) (.aR (F 20) (.skip) (.ba 0))) LL
def GS:I:= .B (.block 3 (.E [A 0 55 11,A 1 56 55,ec 2 57 56 0 8,jc 3 58 56 7 57,ec 4 59 56 7 8,eo 5 60 56 59,ec 6 61 56 0 8,ec 7 62 56 3 61,eo 8 63 56 62,lq 9 64 56 63,ep 10 65 56 12,cq 11 66 56 true (.eX .add .fR (F 64) (F 65)),ec 13 68 56 0 8,jc 14 69 56 7 68,ec 15 70 56 7 8,eo 16 71 56 70,ep 18 73 56 12,⟨12,some 67,some (56,true),.dA 33 [F 58,F 60,F 66],[(F 70,F 70),(F 68,F 68)]⟩,cq 17 72 56 true (.dA 34 [F 69,F 71]),nx 19 74 56 1 72 73,eo 20 75 56 74,rV 21 76 56 75 0,cq 22 77 56 true (.eX .eql .bool (F 67) (F 76)),dd 23 78 56 77,A 24 11 78])) (.E [A 0 53 12,cO 1 54 53,A 2 12 54])
def LR:I:= .B (.B (.E [A 0 47 12,aH 1 48 0 8,aH 2 49 4 48,av 3 50 49,bC 4 51 50,c6 5 52 47 51]) (.aR (F 52) (.skip) (.ba 2))) GS
def zP:I:= .B (.E [b6 0 79 17 [],A 1 80 79,ep 2 81 80 11,dd 3 82 80 81,A 4 83 82,ec 5 84 83 0 8,jc 6 85 83 7 84,ec 7 86 83 7 8,eo 8 87 83 86,ep 9 88 83 10,ec 11 90 83 0 8,jc 12 91 83 7 90,ec 13 92 83 7 8,eo 14 93 83 92,ep 15 94 83 10,⟨10,some 89,some (83,true),.dA 33 [F 85,F 87,F 88],[(F 92,F 92),(F 90,F 90)]⟩,cq 16 95 83 true (.dA 35 [F 91,F 93,F 94]),cq 17 96 83 true (.eX .eql .bool (F 89) (F 95)),dd 18 97 83 96,A 19 98 97,ec 20 99 98 0 8,jc 21 100 98 7 99,ep 22 101 98 2,ep 23 102 98 1,ec 25 104 98 0 8,jc 26 105 98 7 104,ep 27 106 98 2,ep 28 107 98 1,⟨24,some 103,some (98,true),.dA 33 [F 100,F 101,F 102],[(F 104,F 104)]⟩,cq 29 108 98 true (.dA 35 [F 105,F 106,F 107]),cq 30 109 98 true (.eX .eql .bool (F 103) (F 108)),dd 31 110 98 109,A 32 111 110,cq 33 112 111 true (.eT [aK,aI,aI,aI,aI,aI,aI] []),ec 34 113 111 7 8,eo 35 114 111 113,cq 36 115 111 true (.dA 33 [F 112,F 114,.const aK]),rW 37 116 111 115,dd 38 117 111 116,A 39 6 117]) (.aG)
def LP:I:= .B (.B (.E [a6 0 12 0]) (.block 2 (.loop LR))) zP
def LO:I:= .B (.E [ch 0 11 true]) LP
def LN:I:= .B (.E [A 0 35 1,aH 1 36 0 8,aH 2 37 3 36,av 3 38 37,bC 4 39 38,aH 5 40 0 8,aH 6 41 4 40,av 7 42 41,bC 8 43 42,gy 9 44 39 43,cO 10 45 44,dg 11 46 19 35 45,A 12 10 46]) LO
def LM:I:= .B (.E [A 0 31 0,b6 1 32 18 [F 31],A 2 30 32,cw 3 33 0 30,cw 4 34 1 30,a1 5 8 (.dm [aK,aI,aI,aI,aI,aI,aI,aI,aI]),b0 6 9 8 33,A 7 9 34]) LN
def acO:I:= .B (.B (.E [a6 0 7 0]) (.block 0 (.loop LQ))) LM
def RM:I:= .B (.B (.E [A 0 13 2,bC 1 14 13,ko 2 15 14 20]) (.aR (F 15) (.B (.E [b6 0 16 17 [],A 1 6 16]) (.aG)) (.skip))) acO
def RL:I:=
  .B (
  .E [
 ch 0 6 false]) RM
def Lw:bS:=⟨118,[.bG 6],RL⟩
theorem atV:b2 al 8=some Lw:=by kernel_rfl
def amJ:I:= .B (.E [A 0 68 4,jn 1 69 68 0,A 2 70 69,ep 3 71 70 6,rV 4 72 70 71 0,dd 5 73 70 72,A 6 74 73,ep 7 75 74 8,rV 8 76 74 75 0,dd 9 77 74 76,A 10 78 77,jc 11 79 78 2 5,cq 12 80 78 true (.fI 1 1 [aK] [(0,1,.const (.int .i64 4))]),cq 13 81 78 true (.fI 1 1 [aK] [(0,1,.const (.int .i64 5))]),cq 14 82 78 true (.eT [aI,aI] [(0,1,F 80),(1,1,F 81)]),cq 15 83 78 true (.dA 27 [F 79,F 82]),dd 16 84 78 83,A 17 85 84,ec 18 86 85 0 7,eo 19 87 85 86,rV 20 88 85 87 4,dd 21 89 85 88,A 22 90 89,jc 23 91 90 7 2,cq 24 92 90 true (.fI 1 3 [aK,aK,aK] [(0,1,.const aK),(1,1,.const aK),(2,1,.const (.int .i64 2))]),ec 25 93 90 1 7,jc 26 94 90 3 93,cq 27 95 90 true (.dA 31 [F 91,F 92,F 94]),dd 28 96 90 95,A 29 0 96]) (.aG)
def amI:I:= .B (.E [bZ 0 63 7 2,bZ 1 64 2 5,b6 2 65 29 [F 63,.const (aI),F 64,.const (.int .i64 5)],A 3 62 65,cw 4 66 0 62,cw 5 67 1 62,a1 6 7 (.dm [aK,aI,aI,aI]),b0 7 4 7 66,A 8 8 67]) amJ
def amH:I:= .B (.E [bZ 0 57 7 2,bZ 1 58 2 3,b6 2 59 36 [F 57,.const (aI),F 58,.const (.int .i64 5)],A 3 56 59,cw 4 60 0 56,cw 5 61 1 56,a1 6 5 (.dm [aI,aI]),b0 7 2 5 60,A 8 6 61]) amI
def amG:I:= .B (.E [bZ 0 51 7 2,a1 1 52 (.eT [aI,aI] []),b6 2 53 36 [F 51,.const (aI),F 52,.const (.int .i64 4)],A 3 50 53,cw 4 54 0 50,cw 5 55 1 50,a1 6 3 (.dm [aI,aI]),b0 7 2 3 54,A 8 4 55]) amH
def amF:I:= .B (.E [bZ 2 12 3 1,a1 9 19 (.eT [.string ⟨#[]⟩,aK,aK,aK] [(0,1,.const (.string ⟨#[109]⟩)),(1,1,.const (.int .i64 2)),(2,1,.const (.int .i64 1))]),bZ 11 21 3 1,RO 12 22 21,bZ 13 23 3 1,a1 14 24 (.eT [.string ⟨#[]⟩,aK,aK,aK,.bool false,aI,aI] [(0,1,.const (.string ⟨#[97]⟩)),(1,1,.const (.int .i64 1)),(3,1,.const (.int .i64 1)),(4,3,F 23)]),bZ 15 25 3 1,CF 16 26 98 2 1 25,bZ 17 27 3 1,CF 18 28 99 3 2 27,bZ 19 29 3 1,CF 20 30 100 4 3 29,bZ 21 31 3 1,CF 22 32 101 4 3 31,bZ 23 33 3 1,CF 24 34 102 4 3 33,L0 26 36 120 4,L0 27 37 121 5,L0 28 38 122 6,bZ 33 43 3 1,bZ 34 44 3 1,a1 37 47 (.eT [.string ⟨#[]⟩,aK] [(0,1,.const (.string ⟨#[118]⟩))]),L1 0 10 1,L1 5 15 2,L1 31 41 1,vI 1 11 10,vI 3 13 12,a1 4 14 (.fI 1 1 [aI] [(0,1,F 13)]),vI 6 16 15,a1 7 17 (.eT [.string ⟨#[]⟩,aI,aI,aI] [(0,1,.const (.string ⟨#[108]⟩)),(1,1,F 11),(2,1,F 14),(3,1,F 16)]),a1 8 18 (.fI 4 1 [.string ⟨#[]⟩,aI,aI,aI] [(0,4,F 17)]),a1 10 20 (.fI 4 1 [.string ⟨#[]⟩,aK,aK,aK] [(0,4,F 19)]),a1 25 35 (.fI 7 7 [.string ⟨#[]⟩,aK,aK,aK,.bool false,aI,aI,.string ⟨#[]⟩,aK,aK,aK,.bool false,aI,aI,.string ⟨#[]⟩,aK,aK,aK,.bool false,aI,aI,.string ⟨#[]⟩,aK,aK,aK,.bool false,aI,aI,.string ⟨#[]⟩,aK,aK,aK,.bool false,aI,aI,.string ⟨#[]⟩,aK,aK,aK,.bool false,aI,aI,.string ⟨#[]⟩,aK,aK,aK,.bool false,aI,aI] [(0,7,F 22),(7,7,F 24),(14,7,F 26),(21,7,F 28),(28,7,F 30),(35,7,F 32),(42,7,F 34)]),a1 29 39 (.fI 3 3 [.string ⟨#[]⟩,aK,aK,.string ⟨#[]⟩,aK,aK,.string ⟨#[]⟩,aK,aK] [(0,3,F 36),(3,3,F 37),(6,3,F 38)]),a1 30 40 (.fI 1 1 [aK] [(0,1,.const aK)]),vI 32 42 41,a1 35 45 (.eT [.string ⟨#[]⟩,aK,aK,aK,aK,aK,aK,aK,aK,aI,aI,.bool false,aI,aI,.bool false,aI,aI] [(0,1,.const (.string ⟨#[112]⟩)),(1,1,.const (.int .i64 1)),(2,1,.const (.int .i64 1)),(3,1,.const (.int .i64 1)),(9,1,F 40),(10,1,F 42),(11,3,F 43),(14,3,F 44)]),RN 36 46 45,a1 38 48 (.fI 2 1 [.string ⟨#[]⟩,aK] [(0,2,F 47)]),a1 39 49 (.eT [aK,aI,aI,aI,aI,aI,aI] [(0,1,.const (.int .i64 1)),(1,1,F 18),(2,1,F 20),(3,1,F 35),(4,1,F 39),(5,1,F 46),(6,1,F 48)]),a1 40 2 (.dm [aK,aI,aI,aI,aI,aI,aI]),b0 41 7 2 49]) amG
def amE:I:= .B (.E [vJ 0 9 59 0 1,a1 1 1 (.dm [.bool false,aI,aI]),b0 2 3 1 9]) amF
def amC:I:=
  .B (
  .E [
 ch 0 0 false]) amE
def YT:bS:=⟨97,[.bG 0],amC⟩
theorem amD:b2 al 17=some YT:=by kernel_rfl
def aos:I:= .B (.block 3 (.B (.E [bo 0 38 1 34 36,av 1 39 38,A 2 11 39]) (.E [A 0 40 7,A 1 41 11,bo 2 42 1 40 41,p4 3 (.store 1 (F 42) (.const aK))]))) (.E [cO 0 43 36,A 1 36 43])
def aor:I:= .B (.aR (F 37) (.skip) (.ba 2)) aos
def aot:I:= .B (.E [c6 0 37 36 35]) aor
def aoq:I:= .B (.E [bZ 0 32 7 3,A 1 33 9,dg 2 34 65 32 33,bC 3 35 34,a6 4 36 0]) (.block 2 (.loop aot))
def aop:I:= .B (.B (.E [A 0 24 9,jn 1 25 24 0,A 2 26 25,k2 3 27 26 7 3,di 4 28 26 9,cq 5 29 26 false (.dA 64 [F 27,F 28]),ih 6 30 26 29,cJ 7 31 26 30]) (.aR (F 31) (.ba 1) (.skip))) aoq
def aoo:I:= .B (.block 1 (.B (.E [bo 0 22 1 18 20,av 1 23 22,A 2 9 23]) aop)) (.E [cO 0 44 20,A 1 20 44])
def aon:I:= .B (.aR (F 21) (.skip) (.ba 0)) aoo
def aou:I:= .B (.E [c6 0 21 20 19]) aon
def aok:I:= .B (.E [A 0 45 7,A 1 6 45]) (.aG)
def aom:I:= .B (.B (.E [A 0 18 2,bC 1 19 18,a6 2 20 0]) (.block 0 (.loop aou))) aok
def aol:I:= .B (.E [bZ 0 15 7 3,A 1 16 1,dg 2 17 63 15 16,A 3 7 17]) aom
def aoj:I:= .B (.B (.E [bZ 0 12 7 3,b6 1 13 62 [F 12],sU 2 14 13]) (.aR (F 14) (.B (.E [eL 0 6]) (.aG)) (.skip))) aol
def aoh:I:=
  .B (
  .E [
 dI 0 3 0,
 eL 1 6]) aoj
def ZM:bS:=⟨46,[.bG 6],aoh⟩
theorem aoi:b2 al 21=some ZM:=by kernel_rfl
def apn:I:= .B (.B (.E [A 0 23 7,jn 1 24 23 0,A 2 25 24,k2 3 26 25 7 2,di 4 27 25 7,cq 5 28 25 false (.dA 64 [F 26,F 27]),ih 6 29 25 28,cJ 7 30 25 29,A 8 31 30,di 9 32 31 5,di 10 33 31 7,cq 11 34 31 false (.m1 (.int .i64) (.bool false) false (F 32) (F 33)),cJ 12 35 31 34]) (.aR (F 35) (.B (.E [ch 0 4 false]) (.aG)) (.skip))) (.E [A 0 36 5,A 1 37 7,p4 2 (.lJ (.int .i64) (F 36) (F 37) (.const (.bool true)))])
def apm:I:= .B (.block 1 (.B (.E [bo 0 21 1 17 19,av 1 22 21,A 2 7 22]) apn)) (.E [cO 0 38 19,A 1 19 38])
def apl:I:= .B (.aR (F 20) (.skip) (.ba 0)) apm
def apq:I:= .B (.E [c6 0 20 19 18]) apl
def apo:I:= .B (.E [ch 0 4 true]) (.aG)
def apk:I:= .B (.B (.E [aH 0 12 0 3,av 1 13 12,aH 2 14 1 3,av 3 15 14,a1 4 16 (.fI 1 2 [aI,aI] [(0,1,F 13),(1,1,F 15)]),b6 5 17 68 [F 16],bC 6 18 17,a6 7 19 0]) (.block 0 (.loop apq))) apo
def apj:I:= .B (.E [a1 0 11 (.m0),A 1 5 11]) apk
def api:I:= .B (.B (.E [bZ 0 8 7 2,b6 1 9 62 [F 8],sU 2 10 9]) (.aR (F 10) (.B (.E [ch 0 4 false]) (.aG)) (.skip))) apj
def apg:I:=
  .B (
  .E [
 dI 0 2 0,
 dI 1 3 1,
 ch 2 4 false]) api
def aaw:bS:=⟨39,[.bG 4],apg⟩
theorem aph:b2 al 23=some aaw:=by kernel_rfl
def aqz:I:= .B (.E [A 0 37 9,A 1 38 8,A 2 39 10,bo 3 40 1 38 39,av 4 41 40,rU 5 42 41,b6 6 43 73 [F 37,.const aK,F 42],A 7 9 43]) (.E [A 0 44 8,A 1 45 10,nX 2 46 44 45,A 3 8 46])
def aqF:I:= .B (.B (.E [A 0 24 8,bC 1 25 24,ko 2 26 25 0,A 3 27 26,jc 4 28 27 7 3,ep 5 29 27 1,ep 6 30 27 8,cq 7 31 27 true (.dA 72 [F 28,F 29,F 30]),rW 8 32 27 31,dd 9 33 27 32]) (.aR (F 33) (.skip) (.ba 0))) (.block 1 (.B (.E [A 0 34 8,bC 1 35 34,h3 2 36 35 1,A 3 10 36]) aqz))
def aqD:I:= .B (.E [bZ 0 54 7 3,A 1 55 1,A 2 56 8,A 3 57 12,sT 4 58 74 56 57 3 3,b6 5 59 72 [F 54,F 55,F 58]]) (.aR (F 59) (.E [A 0 60 8,A 1 61 12,dg 2 62 74 60 61,A 3 63 9,A 4 64 12,dg 5 65 75 63 64,A 6 8 62,A 7 9 65]) (.skip))
def aqC:I:= .B (.block 3 (.B (.E [bo 0 52 1 48 50,av 1 53 52,A 2 12 53]) aqD)) (.E [cO 0 66 50,A 1 50 66])
def aqB:I:= .B (.aR (F 51) (.skip) (.ba 2)) aqC
def aqG:I:= .B (.E [c6 0 51 50 49]) aqB
def aqE:I:= .B (.E [A 0 67 8,A 1 68 9,a1 2 69 (.eT [aI,aI] [(0,1,F 67),(1,1,F 68)]),b0 3 2 6 69,a6 4 7 0]) (.aG)
def aqA:I:= .B (.B (.E [A 0 47 9,b6 1 48 71 [F 47],bC 2 49 48,a6 3 50 0]) (.block 2 (.loop aqG))) aqE
def aqy:I:= .B (.block 0 (.loop aqF)) aqA
def aqx:I:= .B (.E [aH 0 18 0 5,av 1 19 18,aH 3 21 1 5,av 4 22 21,j2 2 20 (.dA 71 [F 19]) [(F 21,F 21)],b6 5 23 71 [F 22],A 6 8 20,A 7 9 23]) aqy
def aqw:I:= .B (.B (.E [bZ 0 13 7 3,bZ 1 14 2 5,dg 2 15 23 13 14,g2 3 16 15]) (.aR (F 16) (.B (.E [a1 0 17 (.eT [aI,aI] []),b0 1 2 6 17,a6 2 7 1]) (.aG)) (.skip))) aqx
def aqu:I:=
  .B (
  .E [
 dI 0 3 0,
 dI 1 5 2,
 a1 2 6 (.dm [aI,aI]),
 a6 3 7 0]) aqw
def aa1:bS:=⟨70,[.hL 6 true 2,.bG 7],aqu⟩
theorem aqv:b2 al 25=some aa1:=by kernel_rfl
def aru:I:= .B (.E [aH 0 5 0 2,av 1 6 5,aH 2 7 0 3,av 3 8 7,dg 4 9 20 6 8,A 5 10 9,ec 6 11 10 1 2,eo 7 12 10 11,ec 8 13 10 1 3,eo 9 14 10 13,cq 10 15 10 true (.dA 20 [F 12,F 14]),dd 11 16 10 15,A 12 4 16]) (.aG)
def ars:I:=
  .B (
  .E [
 dI 0 2 0,
 dI 1 3 1,
 ch 2 4 false]) aru
def abq:bS:=⟨17,[.bG 4],ars⟩
theorem art:b2 al 27=some abq:=by kernel_rfl
def arE:I:= .B (.E [bZ 0 47 7 4,A 1 48 1,aH 2 49 0 6,av 3 50 49,A 4 51 13,A 6 53 3,sT 5 52 75 50 51 4 4,sT 7 54 74 52 53 4 4,b6 8 55 72 [F 47,F 48,F 54]]) (.aR (F 55) (.B (.E [A 0 56 13,bZ 1 57 3 10,a1 2 58 (.eT [aK,aI,aI,aI] [(0,1,F 56),(1,3,F 57)]),b0 3 4 8 58,a6 4 9 0]) (.aG)) (.skip))
def arD:I:= .B (.block 1 (.B (.E [bo 0 45 1 41 43,av 1 46 45,A 2 13 46]) arE)) (.E [cO 0 59 43,A 1 43 59])
def arC:I:= .B (.aR (F 44) (.skip) (.ba 0)) arD
def arG:I:= .B (.E [c6 0 44 43 42]) arC
def arF:I:= .B (.E [bZ 0 60 3 10,a1 1 61 (.eT [aK,aI,aI,aI] [(0,1,.const (.int .i64 (-1))),(1,3,F 60)]),b0 2 4 8 61,a6 3 9 0]) (.aG)
def arB:I:= .B (.B (.E [aH 0 40 0 6,av 1 41 40,bC 2 42 41,a6 3 43 0]) (.block 0 (.loop arG))) arF
def arA:I:= .B (.B (.E [A 0 37 11,g2 1 38 37]) (.aR (F 38) (.B (.E [a1 0 39 (.eT [aK,aI,aI,aI] []),b0 1 4 8 39,a6 2 9 110]) (.aG)) (.skip))) arB
def arz:I:= .B (.E [bZ 0 26 7 4,bZ 1 27 7 4,A 2 28 1,aH 3 29 0 6,av 4 30 29,A 5 31 3,vK 6 32 74 30 31 4 4 4 4,j2 7 33 (.dA 21 [F 27,F 28,F 32]) [(F 4,F 4)],dg 8 34 79 26 33,A 9 25 34,cw 10 35 0 25,cw 11 36 1 25,a1 12 10 (.dm [aI,aI,aI]),b0 13 3 10 35,A 14 11 36]) arA
def ary:I:= .B (.B (.E [aH 0 19 1 6,av 1 20 19,A 2 21 3,dg 3 22 78 20 21,g2 4 23 22]) (.aR (F 23) (.B (.E [a1 0 24 (.eT [aK,aI,aI,aI] []),b0 1 4 8 24,a6 2 9 110]) (.aG)) (.skip))) arz
def arx:I:= .B (.B (.E [bZ 0 14 7 4,bZ 1 15 2 6,dg 2 16 23 14 15,g2 3 17 16]) (.aR (F 17) (.B (.E [a1 0 18 (.eT [aK,aI,aI,aI] []),b0 1 4 8 18,a6 2 9 1]) (.aG)) (.skip))) ary
def arv:I:=
  .B (
  .E [
 dI 0 4 0,
 dI 1 6 2,
 a1 2 8 (.dm [aK,aI,aI,aI]),
 a6 3 9 0]) arx
def abF:bS:=⟨62,[.hL 8 true 4,.bG 9],arv⟩
theorem arw:b2 al 29=some abF:=by kernel_rfl
def Ld:I:= .B (.E [A 0 37 7,A 1 38 11,dg 2 39 78 37 38]) (.aR (F 39) (.B (.E [ch 0 6 false]) (.aG)) (.skip))
def Lc:I:= .B (.block 3 (.B (.E [bo 0 35 1 31 33,av 1 36 35,A 2 11 36]) Ld)) (.E [cO 0 40 33,A 1 33 40])
def Lb:I:= .B (.aR (F 34) (.skip) (.ba 2)) Lc
def Le:I:= .B (.E [c6 0 34 33 32]) Lb
def La:I:= .B (.E [A 0 31 9,bC 1 32 31,a6 2 33 0]) (.block 2 (.loop Le))
def K9:I:= .B (.block 1 (.B (.E [bo 0 29 1 25 27,av 1 30 29,A 2 9 30]) La)) (.E [cO 0 41 27,A 1 27 41])
def K8:I:= .B (.aR (F 28) (.skip) (.ba 0)) K9
def Ra:I:= .B (.E [c6 0 28 27 26]) K8
def Gm:I:= .B (.E [ch 0 6 true]) (.aG)
def Q9:I:= .B (.B (.E [A 0 25 1,bC 1 26 25,a6 2 27 0]) (.block 0 (.loop Ra))) Gm
def Q8:I:= .B (.E [bZ 0 22 7 3,A 1 23 2,dg 2 24 65 22 23,A 3 7 24]) Q9
def Gl:I:= .B (.B (.E [bZ 0 12 7 3,A 1 13 1,dg 2 14 86 12 13,g2 3 15 14,A 4 16 15,k2 5 17 16 7 3,di 6 18 16 2,cq 7 19 16 false (.dA 64 [F 17,F 18]),ih 8 20 16 19,cJ 9 21 16 20]) (.aR (F 21) (.B (.E [ch 0 6 false]) (.aG)) (.skip))) Q8
def Gk:I:=
  .B (
  .E [
 dI 0 3 0,
 ch 1 6 false]) Gl
def zy:bS:=⟨42,[.bG 6],Gk⟩
theorem abH:b2 al 33=some zy:=by kernel_rfl
def zz:I:= .B (.block 1 (.B (.E [A 0 42 7,A 1 43 8,bo 2 44 1 42 43,av 3 45 44,ko 4 46 45 0,A 5 47 46,ep 6 48 47 2,rV 7 49 47 48 0,ep 8 50 47 49,k2 9 51 50 7 3,di 10 52 50 8,di 11 53 50 2,cq 12 54 50 false (.dA 67 [F 51,F 52,F 53]),cq 13 55 47 true (.oL (F 50) (.const (.bool true)) (F 54)),dd 14 56 47 55]) (.aR (F 56) (.B (.E [ch 0 6 false]) (.aG)) (.skip)))) (.E [A 0 40 8,cO 1 41 40,A 2 8 41])
def Cf:I:= .B (.B (.E [A 0 36 8,A 1 37 7,bC 2 38 37,c6 3 39 36 38]) (.aR (F 39) (.skip) (.ba 0))) zz
def zA:I:= .B (.E [ch 0 6 true]) (.aG)
def abN:I:= .B (.B (.E [a6 0 8 0]) (.block 0 (.loop Cf))) zA
def abM:I:= .B (.E [bZ 0 33 7 3,A 1 34 1,dg 2 35 34 33 34,A 3 7 35]) abN
def Gr:I:= .B (.B (.E [bZ 0 9 7 3,b6 1 10 66 [F 9],sU 2 11 10,A 3 12 11,k2 4 13 12 7 3,di 5 14 12 1,cq 6 15 12 false (.dA 88 [F 13,F 14]),ih 7 16 12 15,cJ 8 17 12 16,A 9 18 17,di 10 19 18 2,xL 11 20 18 19,cJ 12 21 18 20,A 13 22 21,di 14 23 22 2,eb 15 24 22 3 3,dJ 16 25 22 24,hM 17 26 22 25,eb 18 27 22 4 3,dJ 19 28 22 27,hM 20 29 22 28,cq 21 30 22 false (.eX .add .fR (F 26) (F 29)),ue 22 31 22 23 30,cJ 23 32 22 31]) (.aR (F 32) (.B (.E [ch 0 6 false]) (.aG)) (.skip))) abM
def Gq:I:=
  .B (
  .E [
 dI 0 3 0,
 ch 1 6 false]) Gr
def Ce:bS:=⟨57,[.bG 6],Gq⟩
theorem ar0:b2 al 35=some Ce:=by kernel_rfl
def ar6:I:= .B (.E [bZ 0 41 7 4,A 1 42 1,bZ 2 43 2 6,b6 3 44 25 [F 41,F 42,F 43],cw 4 45 0 44,cw 5 46 1 44,b0 6 2 8 45,A 7 9 46]) (.aG)
def ar5:I:= .B (.E [aH 0 36 1 6,av 1 37 36,A 2 38 3,dg 3 39 74 37 38,aH 4 40 1 6,b0 5 1 40 39]) ar6
def ar4:I:= .B (.B (.E [aH 0 25 0 6,av 1 26 25,A 2 27 3,dg 3 28 78 26 27,A 4 29 28,eb 5 30 29 1 6,dJ 6 31 29 30,di 7 32 29 3,cq 8 33 29 false (.dA 78 [F 31,F 32]),cJ 9 34 29 33]) (.aR (F 34) (.B (.E [a1 0 35 (.eT [aI,aI] []),b0 1 2 8 35,a6 2 9 8]) (.aG)) (.skip))) ar5
def ar3:I:= .B (.B (.E [bZ 0 10 7 4,bZ 1 11 2 6,dg 2 12 23 10 11,g2 3 13 12,A 4 14 13,di 5 15 14 3,zV 6 16 14 15,cJ 7 17 14 16,A 8 18 17,k2 9 19 18 7 4,di 10 20 18 3,cq 11 21 18 false (.dA 64 [F 19,F 20]),ih 12 22 18 21,cJ 13 23 18 22]) (.aR (F 23) (.B (.E [a1 0 24 (.eT [aI,aI] []),b0 1 2 8 24,a6 2 9 1]) (.aG)) (.skip))) ar4
def ar1:I:=
  .B (
  .E [
 dI 0 4 0,
 dI 1 6 2,
 a1 2 8 (.dm [aI,aI]),
 a6 3 9 0]) ar3
def abO:bS:=⟨47,[.hL 8 true 2,.bG 9],ar1⟩
theorem ar2:b2 al 36=some abO:=by kernel_rfl
def Rz:I:= .B (.E [A 0 5 1,nw 1 6 5 0,A 2 7 6,ep 3 8 7 1,ec 4 9 7 3 2,eo 5 10 7 9,lq 6 11 7 10,ec 7 12 7 4 2,eo 8 13 7 12,lq 9 14 7 13,cq 10 15 7 true (.eX .add .fR (F 11) (F 14)),cq 11 16 7 true (.eX .lss .fR (F 8) (F 15)),dd 12 17 7 16,A 13 4 17]) (.aG)
def Ry:I:=
  .B (
  .E [
 dI 0 2 0,
 ch 1 4 false]) Rz
def GG:bS:=⟨18,[.bG 4],Ry⟩
theorem acw:b2 al 64=some GG:=by kernel_rfl
def RC:I:= .B (.E [bZ 0 16 7 2,A 1 17 1,dg 2 18 116 16 17,A 3 4 18]) (.aG)
def RB:I:= .B (.B (.E [A 0 5 1,aH 1 6 3 2,av 2 7 6,bC 3 8 7,c3 4 9 .geq (F 5) (F 8)]) (.aR (F 9) (.B (.E [A 0 10 1,aH 1 11 3 2,av 2 12 11,bC 3 13 12,c3 4 14 .sub (F 10) (F 13),rU 5 15 14,A 6 4 15]) (.aG)) (.skip))) RC
def RA:I:=
  .B (
  .E [
 dI 0 2 0,
 eL 1 4]) RB
def GH:bS:=⟨19,[.bG 4],RA⟩
theorem acx:b2 al 65=some GH:=by kernel_rfl
def GK:I:= .B (.B (.E [A 0 30 7,A 1 31 2,c3 2 32 .gtr (F 30) (F 31)]) (.aR (F 32) (.skip) (.ba 0))) (.block 1 (.E [aH 0 33 3 3,av 1 34 33,A 2 35 7,bo 3 36 7 34 35,aH 4 37 2 36,av 5 38 37,A 6 7 38]))
def acA:I:= .B (.E [A 0 39 7,A 1 40 2,c3 2 41 .eql (F 39) (F 40),A 3 6 41]) (.aG)
def acz:I:= .B (.block 0 (.loop GK)) acA
def acy:I:= .B (.E [aH 0 24 4 3,av 1 25 24,A 2 26 1,bo 3 27 3 25 26,aH 4 28 2 27,av 5 29 28,A 6 7 29]) acz
def Lt:I:= .B (.B (.E [A 0 15 2,c3 1 16 .leq (F 15) (.const aK),A 2 17 16,di 3 18 17 2,eb 4 19 17 3 3,dJ 5 20 17 19,hM 6 21 17 20,ue 7 22 17 18 21,cJ 8 23 17 22]) (.aR (F 23) (.B (.E [ch 0 6 false]) (.aG)) (.skip))) acy
def GJ:I:= .B (.B (.E [A 0 8 2,aH 1 9 3 3,av 2 10 9,bC 3 11 10,A 4 12 1,gy 5 13 11 12,c3 6 14 .eql (F 8) (F 13)]) (.aR (F 14) (.B (.E [ch 0 6 true]) (.aG)) (.skip))) Lt
def GI:I:=
  .B (
  .E [
 dI 0 3 0,
 ch 1 6 false]) GJ
def Cq:bS:=⟨42,[.bG 6],GI⟩
theorem asp:b2 al 67=some Cq:=by kernel_rfl
def asK:I:= .B (.E [A 0 18 8,jn 1 19 18 0,A 2 6 19]) (.aG)
def asJ:I:= .B (.E [bZ 0 10 7 3,bZ 1 11 7 3,A 2 12 1,A 3 13 2,j2 4 14 (.dA 21 [F 11,F 12,F 13]) [(F 3,F 3)],dg 5 15 118 10 14,A 6 9 15,cw 7 16 0 9,cw 8 17 1 9,A 9 7 16,A 10 8 17]) asK
def asH:I:=
  .B (
  .E [
 dI 0 3 0,
 ch 1 6 false]) asJ
def acC:bS:=⟨20,[.bG 6],asH⟩
theorem asI:b2 al 72=some acC:=by kernel_rfl
def asN:I:= .B (.E [A 0 5 0,b6 1 6 71 [F 5],A 2 7 1,rU 3 8 7,iN 4 9 1 8 6 8,A 5 4 9]) (.aG)
def asL:I:=
  .B (
  .E [
 eL 0 4]) asN
def acD:bS:=⟨10,[.bG 4],asL⟩
theorem asM:b2 al 74=some acD:=by kernel_rfl
def asQ:I:= .B (.E [A 0 5 0,b6 1 6 71 [F 5],a1 2 7 (.s3 (.func 122) [] [F 3]),dg 3 8 121 6 7,A 4 4 8]) (.aG)
def asO:I:=
  .B (
  .E [
 dI 0 3 1,
 eL 1 4]) asQ
def acE:bS:=⟨9,[.bG 4],asO⟩
theorem asP:b2 al 75=some acE:=by kernel_rfl
def akJ:I:= .B (.E [A 0 4 0,av 1 5 1,c3 2 6 .eql (F 4) (F 5),A 3 3 6]) (.aG)
def akH:I:=
  .B (
  .E [
 ch 0 3 false]) akJ
def X2:bS:=⟨7,[.bG 3],akH⟩
theorem akI:b2 al 122=some X2:=by kernel_rfl
def Zs:I:= .B (.E [bZ 0 15 7 5,A 1 16 6,A 2 17 4,bZ 3 18 7 5,A 6 21 4,sT 4 19 61 17 18 5 5,a1 5 20 (.eT [aK,aI,aI,aI,aI,aI,aI,aI,aI] [(0,7,F 15),(7,1,F 16),(8,1,F 19)]),b0 7 9 2 20,A 8 3 21]) (.aG)
def Zr:I:= .B (.E [A 0 12 4,bZ 1 13 7 5,dg 2 14 48 12 13,A 3 6 14]) Zs
def Zq:I:= .B (.E [A 0 10 4,kG 1 11 60 10 3,a1 2 5 (.dm [aK,aI,aI,aI,aI,aI,aI]),b0 3 7 5 11]) Zr
def Zp:I:= .B (.E [A 0 7 0,a1 1 8 (.eT [aI,aK] [(0,1,F 7)]),dI 2 9 8,A 3 4 9]) Zq
def Zo:I:=
  .B (
  .E [
 a1 0 2 (.dm [aK,aI,aI,aI,aI,aI,aI,aI,aI]),
 a1 1 3 (.m2 (.const (.pointer none)))]) Zp
def Qw:bS:=⟨22,[.hL 2 true 9,.bG 3],Zo⟩
theorem anz:b2 al 18=some Qw:=by kernel_rfl
def asz:I:= .B (.E [A 0 19 3,lp 1 20 19 0]) (.aR (F 20) (.E [a1 0 21 (.xT 9 (.const (.string ⟨#[108,101,110,32,111,117,116,32,111,102,32,114,97,110,103,101]⟩))),p4 1 (.s8 (.const (.pointer none)))]) (.skip))
def asy:I:= .B (.E [A 0 15 3,A 1 16 5,bC 2 17 16,gy 3 18 15 17,A 4 3 18]) asz
def asx:I:= .B (.block 1 (.B (.E [bo 0 13 1 9 11,av 1 14 13,A 2 5 14]) asy)) (.E [cO 0 22 11,A 1 11 22])
def asw:I:= .B (.aR (F 12) (.skip) (.ba 0)) asx
def asD:I:= .B (.E [c6 0 12 11 10]) asw
def ast:I:= .B (.block 3 (.B (.E [bo 0 29 1 25 27,av 1 30 29,A 2 8 30]) (.E [A 0 31 6,A 1 32 8,iN 2 33 1 8 31 32,A 3 6 33]))) (.E [cO 0 34 27,A 1 27 34])
def asC:I:= .B (.aR (F 28) (.skip) (.ba 2)) ast
def asE:I:= .B (.E [c6 0 28 27 26]) asC
def asu:I:= .B (.E [A 0 35 6,A 1 2 35]) (.aG)
def asB:I:= .B (.B (.E [A 0 25 0,bC 1 26 25,a6 2 27 0]) (.block 2 (.loop asE))) asu
def asA:I:= .B (.E [A 0 23 3,b6 1 24 117 [.const (aI),F 23],A 2 6 24]) asB
def asv:I:= .B (.B (.E [A 0 9 0,bC 1 10 9,a6 2 11 0]) (.block 0 (.loop asD))) asA
def ass:I:= .B (.E [a6 0 3 0]) asv
def asq:I:=
  .B (
  .E [
 eL 0 2]) ass
def acB:bS:=⟨36,[.bG 2],asq⟩
theorem asr:b2 al 68=some acB:=by kernel_rfl
def Lv:I:= .B (.E [a1 0 5 (.fI 1 0 [] []),A 1 6 0,iN 2 7 1 8 5 6,A 3 2 7]) (.aG)
def Lu:I:= .B (.B (.E [A 0 3 0,a1 1 4 (.eX .eql .slice (F 3) (.const (aI)))]) (.aR (F 4) (.B (.E [eL 0 2]) (.aG)) (.skip))) Lv
def GL:I:=
  .B (
  .E [
 eL 0 2]) Lu
def asF:bS:=⟨8,[.bG 2],GL⟩
theorem asG:b2 al 71=some asF:=by kernel_rfl
theorem Va{args:List Value}{m:W}{cg:Value->W->Prop}(h:args.length<=8):fZ al 71 args m cg=hD al GL (ja args) m (q7 [.bG 2] cg):=r9 asG h
def RH:I:= .B (.E [A 0 5 0,A 1 6 1,dg 2 7 123 5 6,nw 3 8 7 0,A 4 4 8]) (.aG)
def RG:I:=
  .B (
  .E [
 ch 0 4 false]) RH
def GM:bS:=⟨9,[.bG 4],RG⟩
theorem acF:b2 al 78=some GM:=by kernel_rfl
def akg:I:= .B (.E [A 0 15 1,ko 1 16 15 0]) (.aR (F 16) (.E [A 0 17 0,A 1 18 0,a1 2 19 (.wR (F 18)),nX 3 20 17 19,A 4 21 1,a1 5 22 (.me 1 8 [aK] (F 20) (F 21)),A 6 23 0,bC 7 24 23,nX 8 25 22 24,A 9 0 25]) (.skip))
def akh:I:= .B (.E [A 0 26 0,A 1 4 26]) (.aG)
def akf:I:= .B (.B (.E [A 0 8 1,A 1 9 0,a1 2 10 (.wR (F 9)),A 3 11 0,bC 4 12 11,c3 5 13 .sub (F 10) (F 12),c3 6 14 .sub (F 8) (F 13),A 7 1 14]) akg) akh
def ake:I:= .B (.B (.E [A 0 5 1,lp 1 6 5 0]) (.aR (F 6) (.E [a1 0 7 (.xT 9 (.const (.string ⟨#[99,97,110,110,111,116,32,98,101,32,110,101,103,97,116,105,118,101]⟩))),p4 1 (.s8 (.const (.pointer none)))]) (.skip))) akf
def akc:I:=
  .B (
  .E [
 eL 0 4]) ake
def XZ:bS:=⟨27,[.bG 4],akc⟩
theorem akd:b2 al 117=some XZ:=by kernel_rfl
-- jf aDL for 119
def akD:I:= .B (.E [A 0 26 1,A 1 27 7,a1 2 28 (.iw (F 26) [F 27]),g2 3 29 28]) (.aR (F 29) (.B (.E [A 0 30 0,A 1 31 5,A 2 32 7,bo 3 33 1 30 31,b0 4 1 33 32]) (.E [A 0 34 5,cO 1 35 34,A 2 5 35])) (.skip))
def akC:I:= .B (.block 1 (.B (.E [A 0 22 0,A 1 23 6,bo 2 24 1 22 23,av 3 25 24,A 4 7 25]) akD)) (.E [A 0 20 6,cO 1 21 20,A 2 6 21])
def akG:I:= .B (.B (.E [A 0 16 6,A 1 17 0,bC 2 18 17,c6 3 19 16 18]) (.aR (F 19) (.skip) (.ba 0))) akC
def akF:I:= .B (.E [A 0 39 0,A 1 40 5,nX 2 41 39 40,A 3 4 41]) (.aG)
def akE:I:= .B (.E [A 0 36 0,A 1 37 5,a1 2 38 (.nb 1 (F 36) (some (F 37)) none),p4 3 (.hg [aK] (F 38))]) akF
def akB:I:= .B (.B (.E [A 0 14 5,cO 1 15 14,A 2 6 15]) (.block 0 (.loop akG))) akE
def akA:I:= .B (.B (.E [A 0 11 5,c3 1 12 .eql (F 11) (.const (.int .i64 (-1)))]) (.aR (F 12) (.B (.E [A 0 13 0,A 1 4 13]) (.aG)) (.skip))) akB
def akz:I:= .B (.E [A 0 8 0,A 1 9 1,dg 2 10 182 8 9,A 3 5 10]) akA
def akx:I:=
  .B (
  .E [
 eL 0 4]) akz
def X1:bS:=⟨42,[.bG 4],akx⟩
theorem aky:b2 al 121=some X1:=by kernel_rfl
def Fu:I:= .B (.E [A 0 11 1,A 1 12 0,A 2 13 5,bo 3 14 1 12 13,av 4 15 14,c3 5 16 .eql (F 11) (F 15)]) (.aR (F 16) (.B (.E [A 0 17 5,A 1 4 17]) (.aG)) (.skip))
def Ft:I:= .B (.block 1 (.B (.E [A 0 10 8,A 1 5 10]) Fu)) (.E [cO 0 18 8,A 1 8 18])
def Fs:I:= .B (.aR (F 9) (.skip) (.ba 0)) Ft
def J6:I:= .B (.E [c6 0 9 8 7]) Fs
def Fv:I:= .B (.E [a6 0 4 (-1)]) (.aG)
def X5:I:= .B (.B (.E [A 0 6 0,bC 1 7 6,a6 2 8 0]) (.block 0 (.loop J6))) Fv
def X3:I:=
  .B (
  .E [
 a6 0 4 0]) X5
def J5:bS:=⟨19,[.bG 4],X3⟩
theorem X4:b2 al 123=some J5:=by kernel_rfl
def amP:I:= .B (.E [A 0 11 1,A 1 12 0,A 2 13 5,bo 3 14 1 12 13,av 4 15 14,a1 5 16 (.iw (F 11) [F 15])]) (.aR (F 16) (.B (.E [A 0 17 5,A 1 4 17]) (.aG)) (.skip))
def amO:I:= .B (.block 1 (.B (.E [A 0 10 8,A 1 5 10]) amP)) (.E [cO 0 18 8,A 1 8 18])
def amN:I:= .B (.aR (F 9) (.skip) (.ba 0)) amO
def amR:I:= .B (.E [c6 0 9 8 7]) amN
def amQ:I:= .B (.E [a6 0 4 (-1)]) (.aG)
def amM:I:= .B (.B (.E [A 0 6 0,bC 1 7 6,a6 2 8 0]) (.block 0 (.loop amR))) amQ
def amK:I:=
  .B (
  .E [
 a6 0 4 0]) amM
def Ze:bS:=⟨19,[.bG 4],amK⟩
theorem amL:b2 al 182=some Ze:=by kernel_rfl
end Go.Proofs.YtmmkkggfmigppaaGreat
namespace Go.DI
open Go
section
variable {m:W} {b ca k:Nat} {x y:Option fm} {J:fm}
@[simp] theorem l5:(m.a4 b x).next=m.next:=rfl
@[simp] theorem xU:(m.du k).next=m.next+k:=rfl
theorem bm(h:m.Y b=some J):b<m.next:=by
  unfold W.Y at h;split at h
  · assumption
  · cases h
theorem eZ(h:b<m.next):(m.a4 b x).Y b=x:=by simp[W.Y,W.a4,h]
theorem b3(h:ca≠b):(m.a4 b x).Y ca=m.Y ca:=by simp[W.Y,W.a4,h]
theorem e9(h:b<m.next):(m.du k).Y b=m.Y b:=by
  have:b<m.next+k:=by omega
  simp[W.Y,W.du,h,this]
@[simp] theorem aGS{a9:List (Value×Value)}:(m.gH b a9).next=m.next:=rfl
theorem aE:(∀(m:W) (b:Nat) (x:Option fm),(m.a4 b x).next=m.next)/\(∀(m:W) (k:Nat),(m.du k).next=m.next+k)/\ ∀(m:W) (b:Nat) (a9:List (Value×Value)),(m.gH b a9).next=m.next:=⟨λ_ _ _=>rfl,λ_ _=>rfl,λ_ _ _=>rfl⟩
theorem Ew{a9:List (Value×Value)}(h:b<m.next):(m.gH b a9).Y b=some ⟨[],true⟩:=by simp[W.Y,W.gH,h]
theorem ml{a9:List (Value×Value)}(h:ca≠b):(m.gH b a9).Y ca=m.Y ca:=by simp[W.Y,W.gH,h]
theorem Eu{a9:List (Value×Value)}(h:b<m.next):(m.gH b a9).eJ b=some a9:=by simp[W.eJ,Ew h];simp[W.gH]
theorem Et{a9:List (Value×Value)}(h:ca≠b):(m.gH b a9).eJ ca=m.eJ ca:=by simp[W.eJ,ml h];simp[W.gH,h]
theorem sy(h:ca≠b):(m.a4 b x).eJ ca=m.eJ ca:=by simp[W.eJ,b3 h];rfl
theorem OL(h:b<m.next):(m.du k).eJ b=m.eJ b:=by simp[W.eJ,e9 h];rfl
theorem awt:(m.a4 b x).a4 b y=m.a4 b y:=by simp only[W.a4,W.mk.injEq,true_and,and_true];funext i;by_cases h:i=b<;>simp[h]
@[simp] theorem agC{a o n:Nat}:gk m (.pointer (some ⟨a,o,none⟩)) n=(match m.Y a with|some x=>decide (o+n<=x.cells.length)|none=>false):=rfl
@[simp] theorem UF{a o:Nat}:o7 m (.pointer (some ⟨a,o,none⟩))=(match m.Y a with|some x=>x.own|none=>false):=rfl
@[simp] theorem au8{a o n:Nat}{dc:Bool}:j4 m dc n (.pointer (some ⟨a,o,none⟩))=if dc then .agg (hf m a o n).toArray else(hf m a o 1).headD undef:=rfl
@[simp] theorem Vf{a o n:Nat}:hf m a o n=match m.Y a with|some x=>(x.cells.drop o).take n|none=>[]:=rfl
@[simp] theorem ayA{a o:Nat}{cs:List Value}:nc m (.pointer (some ⟨a,o,none⟩)) cs=match m.Y a with|some x=>m.a4 a (some ⟨gx x.cells o cs,x.own⟩)|none=>m:=rfl
@[simp] theorem aeO{a o l c n:Nat}:fG m n (.slice (some ⟨a,o,none⟩) l c)=(c==n&&(match m.Y a with|some x=>decide (o+l*n<=x.cells.length)|none=>false)):=rfl
@[simp] theorem aLx{n:Nat}:fG m n (.slice none 0 0)=true:=rfl
@[simp] theorem aLz{a o l c:Nat}:jG m (.slice (some ⟨a,o,none⟩) l c)=(match m.Y a with|some x=>x.own|none=>false):=rfl
@[simp] theorem aLy{l c:Nat}:jG m (.slice none l c)=true:=rfl
@[simp] theorem ayt{a o l c n:Nat}:fV m n (.slice (some ⟨a,o,none⟩) l c)=hf m a o (l*n):=rfl
@[simp] theorem aLs{l c n:Nat}:fV m n (.slice none l c)=[]:=rfl
@[simp] theorem aGi{a o l c:Nat}:j3 m (.slice (some ⟨a,o,none⟩) l c)=m.a4 a none:=rfl
@[simp] theorem aGh{l c:Nat}:j3 m (.slice none l c)=m:=rfl
end
theorem fl{n:Int}(D: -9223372036854775808<=n)(H:n<=9223372036854775807):IntKind.i64.wrap n=n:=IntWalk.i64_in n ⟨D,H⟩
theorem gT{n:Nat}(h:n<9223372036854775807):IntKind.i64.wrap ((n:Int)+1)=(n:Int)+1:=fl (by omega) (by omega)
theorem iW{c7:Type}{l:List c7}{i:Nat}(h:i<l.length): ∃x,l[i]?=some x:=⟨_,List.getElem?_eq_getElem h⟩
section
variable {P:Program} {z:aP} {m:W} {Q:dy->aP->W->Prop}
def z5(cK:aP->W->Prop)(Q:dy->aP->W->Prop)(e:dy)(z:aP)(m:W):Prop:=match e with| .et=>cK z m|e=>Q e z m
@[simp] theorem aGD{cK:aP->W->Prop}:z5 cK Q .et z m=cK z m:=rfl
@[simp] theorem aGC{cK:aP->W->Prop}{id:Nat}:z5 cK Q (.ba id) z m=Q (.ba id) z m:=rfl
@[simp] theorem aGE{cK:aP->W->Prop}:z5 cK Q .aG z m=Q .aG z m:=rfl
theorem Dt{c:I}(h: ∀cK:aP->W->Prop,(∀aj an,hD P (.loop c) aj an Q->cK aj an)->hD P c z m (z5 cK Q)):hD P (.loop c) z m Q:=by rw[afy];refine(h (λaj an=>hD P (.loop c) aj an Q) (λ_ _ h=>h)).cd λe aj an h=> ?_;cases e<;>exact h
def JX(P:Program)(bg:List (TypeId×Nat×Option (Bool×Nat)))(v:Value)(args:List Value)(m:W)(cg:Value->W->Prop):Prop:=match v with
  | .iface t v=>match bg.find? (λr=>r.1==t)with
    |some (_,f,none)=>fZ P f (v::args) m cg
    |some (_,f,some (dc,n))=>(gk m v n&&(dc||decide (n=1)))=true/\fZ P f (j4 m dc n v::args) m cg
    |none=>False
  |_=>False
theorem azr{base aN:Nat}{d:Option Nat}{bV:List bn}{aW:aP->W->Prop}{a5:List (Operand×Operand)}{bg:List (TypeId×Nat×Option (Bool×Nat))}{x:Operand}{bQ:List Operand}:
    g7 P base (⟨aN,d,none,.kn bg x bQ,a5⟩::bV) z m aW=JX P bg (X z x) (bQ.map (X z)) m (u7 P base d a5 bV z m aW):=by
  have Pn:(ad.kn bg x bQ).e8 z m=none->g7 P base (⟨aN,d,none,.kn bg x bQ,a5⟩::bV) z m aW=False:= λgi=>by refine propext ⟨λ⟨n,aj,an,h,q⟩=> ?_,False.elim⟩;obtain⟨bI,bd,D,_,_⟩:=qg h;obtain⟨ao,_⟩:=TH (o:=⟨aN,d,none,.kn bg x bQ,a5⟩) rfl gi D;cases ao
  unfold JX;split
  · rename_i t v ab;split
    · rename_i r f ay;exact Nv (by simp only[ad.e8,ab,ay])
    · rename_i r f dc n ay;by_cases ao:(gk m v n&&(dc||decide (n=1)))=true
      · rw[Nv (f:=f) (args:=j4 m dc n v::bQ.map (X z)) (by simp only[ad.e8,ab,ay,ao,if_true])];simp only[ao,true_and]
      · rw[Pn (by simp only[ad.e8,ab,ay,if_neg ao])];exact propext ⟨False.elim,λh=>absurd h.1 ao⟩
    · rename_i ay;rw[Pn (by simp only[ad.e8,ab,ay])]
  · rename_i ab;refine Pn ?_;simp only[ad.e8]
@[simp] theorem azq{base aN:Nat}{d:Option Nat}{bV:List bn}{aW:aP->W->Prop}{a5:List (Operand×Operand)}{bg:List (TypeId×Nat×Option (Bool×Nat))}{x:Operand}{bQ:List Operand}:
    g7 P base (⟨aN,d,none,.kn bg x bQ,a5⟩::bV) z m aW=JX P bg (X z x) (bQ.map (X z)) m (u7 P base d a5 bV z m aW):=azr
end
@[simp] theorem aGp{d gE:Value}{l:List Value}:(gE::l)[0]?.getD d=gE:=rfl
@[simp] theorem aGq{d gE bw:Value}{l:List Value}:(gE::bw::l)[1]?.getD d=bw:=rfl
@[simp] theorem aGr{d gE bw bJ:Value}{l:List Value}:(gE::bw::bJ::l)[2]?.getD d=bJ:=rfl
@[simp] theorem aGs{d gE bw bJ cc:Value}{l:List Value}:(gE::bw::bJ::cc::l)[3]?.getD d=cc:=rfl
@[simp] theorem aGt{d gE bw bJ cc eI:Value}{l:List Value}:(gE::bw::bJ::cc::eI::l)[4]?.getD d=eI:=rfl
@[simp] theorem aGu{d gE bw bJ cc eI fp:Value}{l:List Value}:(gE::bw::bJ::cc::eI::fp::l)[5]?.getD d=fp:=rfl
@[simp] theorem aGv{d gE bw bJ cc eI fp hv:Value}{l:List Value}:(gE::bw::bJ::cc::eI::fp::hv::l)[6]?.getD d=hv:=rfl
@[simp] theorem aGw{d gE bw bJ cc eI fp hv jx:Value}{l:List Value}:(gE::bw::bJ::cc::eI::fp::hv::jx::l)[7]?.getD d=jx:=rfl
attribute [simp] ad.ok ad.val ad.gu
section
variable {p:Option Addr} {a:Addr} {l c J i j:Nat}
@[simp] theorem qZ{s:ByteArray}:hY (.string s)=s.size:=rfl
@[simp] theorem aGm:hY (.slice p l c)=l:=rfl
@[simp] theorem aFU:xJ (.slice p l c)=true:=rfl
@[simp] theorem aLt:gv (.slice p l c)=l:=rfl
@[simp] theorem aLl{b o:Nat}:mE J (.slice (some ⟨b,o,none⟩) l c)=(c==J):=rfl
@[simp] theorem aLe{b o:Nat}{n:Int}:wi (.slice (some ⟨b,o,none⟩) l c) J n= .pointer (some ⟨b,o+n.toNat*J,none⟩):=rfl
@[simp] theorem aLq{b o:Nat}:oQ (.slice (some ⟨b,o,none⟩) l c) J i j= .slice (some ⟨b,o+i*J,none⟩) (j-i) c:=rfl
@[simp] theorem aLk:mE J (.slice none 0 0)=true:=rfl
@[simp] theorem aLp:oQ (.slice none 0 0) J i j= .slice none 0 0:=rfl
end
@[simp] theorem aMB{n:Nat}:min n IntKind.u64.bits=min n 64:=rfl
@[simp] theorem aMz{n:Nat}:min n IntKind.u32.bits=min n 32:=rfl
attribute [simp] eZ b3 e9 awt
open Go Go.RowKit
structure e3(cE:Nat->Prop)(dN m ae:W):Prop where
  next:ae.next=m.next
  wy:dN.next<=m.next
  ct: ∀b,cE b->b<m.next
  off: ∀b,cE b->m.Y b=none
  bA: ∀b,cE b->ae.Y b=dN.Y b/\ae.mp b=dN.mp b
  eq: ∀b,¬cE b->ae.Y b=m.Y b
  mp:ae.mp=m.mp
section
variable {cE:Nat->Prop} {dN m ae:W}
theorem e3.kr(K:e3 cE dN m ae){b:Nat}{x:fm}(h:m.Y b=some x): ¬cE b:= λaA=>by rw[K.off b aA]at h;cases h
theorem e3.Y(K:e3 cE dN m ae){b:Nat}{x:fm}(h:m.Y b=some x):ae.Y b=some x:=by rw[K.eq b (K.kr h),h]
theorem e3.eJ(K:e3 cE dN m ae){b:Nat}{e:List (Value×Value)}(h:m.eJ b=some e):ae.eJ b=some e:=by
  unfold W.eJ at h⊢;cases aM:m.Y b with
  |none=>rw[aM]at h;cases h
  |some x=>rw[aM]at h;rw[K.Y aM,K.mp];exact h
theorem e3.OM(K:e3 cE dN m ae){b:Nat}{e:List (Value×Value)}(h:m.eJ b=some e): ¬cE b:=by
  unfold W.eJ at h;cases aM:m.Y b with
  |none=>rw[aM]at h;cases h
  |some x=>exact K.kr aM
theorem e3.a4(K:e3 cE dN m ae){b:Nat}(hb: ¬cE b)(x:Option fm):e3 cE dN (m.a4 b x) (ae.a4 b x) where
  next:=K.next
  wy:=K.wy
  ct:=K.ct
  off c ar:=by rw[b3 (show c≠b from λh=>hb (h▸ar)),K.off c ar]
  bA c ar:=⟨by rw[b3 (show c≠b from λh=>hb (h▸ar)),(K.bA c ar).1],(K.bA c ar).2⟩
  eq c ar:=by
    by_cases h:c=b
    · subst h;simp only[W.Y,W.a4,K.next,if_true]
    · rw[b3 h,b3 h,K.eq c ar]
  mp:=K.mp
theorem e3.gH(K:e3 cE dN m ae){b:Nat}(hb: ¬cE b)(e:List (Value×Value)):e3 cE dN (m.gH b e) (ae.gH b e) where
  next:=K.next
  wy:=K.wy
  ct:=K.ct
  off c ar:=by rw[ml (show c≠b from λh=>hb (h▸ar)),K.off c ar]
  bA c ar:=by refine⟨by rw[ml (show c≠b from λh=>hb (h▸ar)),(K.bA c ar).1],by show(if c=b then some e else ae.mp c)=_;rw[if_neg (show c≠b from λh=>hb (h▸ar))];exact(K.bA c ar).2⟩
  eq c ar:=by
    by_cases h:c=b
    · subst h;simp only[W.Y,W.gH,K.next,if_true]
    · rw[ml h,ml h,K.eq c ar]
  mp:=by show(λi=>if i=b then some e else ae.mp i)=_;rw[K.mp];rfl
theorem e3.du(K:e3 cE dN m ae)(k:Nat):e3 cE dN (m.du k) (ae.du k) where
  next:=by show ae.next+k=m.next+k;rw[K.next]
  wy:=by have:=K.wy;show dN.next<=m.next+k;omega
  ct b hb:=by have:=K.ct b hb;show b<m.next+k;omega
  off b hb:=by rw[e9 (K.ct b hb),K.off b hb]
  bA b hb:=⟨by rw[e9 (by rw[K.next];exact K.ct b hb),(K.bA b hb).1],(K.bA b hb).2⟩
  eq b hb:=by
    by_cases h:b<m.next
    · rw[e9 h,e9 (by rw[K.next];exact h),K.eq b hb]
    · simp[W.Y,W.du,K.next,h]
  mp:=K.mp
theorem e3.gk(K:e3 cE dN m ae){v:Value}{n:Nat}(h:gk m v n=true):gk ae v n=true:=by
  unfold DI.gk at h⊢;split at h
  · rename_i a;simp only[aX]at h⊢;refine⟨h.1,?_⟩;cases aM:m.Y a.block with
    |none=>rw[aM]at h;simp at h
    |some x=>rw[aM]at h;rw[K.Y aM];exact h.2
  · cases h
theorem e3.o7(K:e3 cE dN m ae){v:Value}(h:o7 m v=true):o7 ae v=true:=by
  unfold DI.o7 at h⊢;split at h
  · rename_i a;cases aM:m.Y a.block with
    |none=>rw[aM]at h;cases h
    |some x=>rw[aM]at h;rw[K.Y aM];exact h
  · cases h
theorem e3.j4(K:e3 cE dN m ae){v:Value}{n:Nat}{dc:Bool}(h:DI.gk m v n=true):j4 ae dc n v=j4 m dc n v:=by
  unfold DI.gk at h;split at h
  · rename_i a;simp only[aX]at h;cases aM:m.Y a.block with
    |none=>rw[aM]at h;simp at h
    |some x=>simp only[DI.j4,hf,aM,K.Y aM]
  · cases h
theorem e3.nc(K:e3 cE dN m ae){v:Value}{n:Nat}{cs:List Value}(h:DI.gk m v n=true):e3 cE dN (nc m v cs) (nc ae v cs):=by
  unfold DI.gk at h;split at h
  · rename_i a;simp only[aX]at h;cases aM:m.Y a.block with
    |none=>rw[aM]at h;simp at h
    |some x=>simp only[DI.nc,aM,K.Y aM];exact K.a4 (K.kr aM) _
  · cases h
theorem e3.fG(K:e3 cE dN m ae){v:Value}{J:Nat}(h:fG m J v=true):fG ae J v=true:=by
  unfold DI.fG at h⊢;split at h
  · exact h
  · rename_i a l c;simp only[aX]at h⊢;refine⟨h.1,?_⟩;cases aM:m.Y a.block with
    |none=>rw[aM]at h;simp at h
    |some x=>rw[aM]at h;rw[K.Y aM];exact h.2
  · cases h
theorem e3.jG(K:e3 cE dN m ae){v:Value}(h:jG m v=true):jG ae v=true:=by
  unfold DI.jG at h⊢;split at h
  · rfl
  · rename_i a l c;cases aM:m.Y a.block with
    |none=>rw[aM]at h;cases h
    |some x=>rw[aM]at h;rw[K.Y aM];exact h
  · cases h
theorem e3.fV(K:e3 cE dN m ae){v:Value}{J:Nat}(h:DI.fG m J v=true):fV ae J v=fV m J v:=by
  unfold DI.fG at h;split at h
  · rfl
  · rename_i a l c;simp only[aX]at h;cases aM:m.Y a.block with
    |none=>rw[aM]at h;simp at h
    |some x=>simp only[DI.fV,hf,aM,K.Y aM]
  · cases h
theorem e3.j3(K:e3 cE dN m ae){v:Value}{J:Nat}(h:DI.fG m J v=true):e3 cE dN (j3 m v) (j3 ae v):=by
  unfold DI.fG at h;split at h
  · exact K
  · rename_i a l c;simp only[aX]at h;cases aM:m.Y a.block with
    |none=>rw[aM]at h;simp at h
    |some x=>exact K.a4 (K.kr aM) _
  · cases h
theorem e3.mf(K:e3 cE dN m ae){v:Value}{J:Nat}{cs:List Value}(h:DI.fG m J v=true):e3 cE dN (mf m cs v) (mf ae cs v):=by
  unfold DI.fG at h;split at h
  · exact K
  · rename_i a l c;simp only[aX]at h;cases aM:m.Y a.block with
    |none=>rw[aM]at h;simp at h
    |some x=>simp only[DI.mf,aM,K.Y aM];exact K.a4 (K.kr aM) _
  · cases h
theorem e3.jM(K:e3 cE dN m ae){v:Value}{a9:List (Value×Value)}(h:jM m v=some a9):jM ae v=some a9:=by
  unfold DI.jM at h⊢;split at h
  · exact h
  · exact K.eJ h
  · cases h
theorem Hd(K:e3 cE dN m ae){k:ad}{z:aP}(h:k.ok z m=true):k.ok z ae=true:=by
  cases k with
  |oR J n y=>simp only[ad.ok,aX]at h⊢;exact⟨K.gk h.1,h.2⟩
  |kp dc n x=>simp only[ad.ok,aX]at h⊢;exact⟨K.gk h.1,h.2⟩
  |store n x v=>simp only[ad.ok,aX]at h⊢;exact⟨⟨⟨K.gk h.1.1.1,K.o7 h.1.1.2⟩,h.1.2⟩,h.2⟩
  |mg x=>simp only[ad.ok,aX]at h⊢;exact⟨K.fG h.1,by rw[K.fV h.1];exact h.2⟩
  |app J bytes x y=>simp only[ad.ok,aX]at h⊢;exact⟨⟨⟨⟨⟨K.fG h.1.1.1.1.1,K.jG h.1.1.1.1.2⟩,K.fG h.1.1.1.2⟩,h.1.1.2⟩,h.1.2⟩,h.2⟩
  |hg J x=>simp only[ad.ok,aX]at h⊢;exact⟨⟨K.fG h.1.1,K.jG h.1.2⟩,h.2⟩
  | m1 a5 J o x fB=>
    simp only[ad.ok]at h⊢;cases aw:DI.jM m (X z x)with
    |none=>rw[aw]at h;cases h
    |some a9=>rw[aw]at h;rw[K.jM aw];exact h
  | lJ a5 x fB v=>
    simp only[ad.ok]at h⊢;split at h
    · rename_i cl b hb;cases aw:m.eJ b with
      |none=>rw[aw]at h;cases h
      |some a9=>rw[aw]at h;rw[K.eJ aw];exact h
    · cases h
  |_=>exact h
theorem H7(K:e3 cE dN m ae){k:ad}{z:aP}{id:Nat}(h:k.ok z m=true):k.val id z ae=k.val id z m:=by
  cases k with
  |kp dc n x=>simp only[ad.ok,aX]at h;exact K.j4 h.1
  |mg x=>simp only[ad.ok,aX]at h;simp only[ad.val,K.fV h.1]
  | m1 a5 J o x fB=>
    simp only[ad.ok]at h;cases aw:DI.jM m (X z x)with
    |none=>rw[aw]at h;cases h
    |some a9=>simp only[ad.val,aw,K.jM aw]
  |_=>rfl
theorem G7(K:e3 cE dN m ae){k:ad}{z:aP}{id:Nat}(eg: ¬cE id)(h:k.ok z m=true):e3 cE dN (k.gu id z m) (k.gu id z ae):=by
  cases k with
  |dm J=>exact K.a4 eg _
  |lQ x=>exact K.a4 eg _
  |fI a b c d=>exact K.a4 eg _
  |nm x=>exact K.a4 eg _
  |me a b c d e=>exact K.a4 eg _
  |hg J x=>simp only[ad.ok,aX]at h;exact K.mf h.1.1
  |jq a b c d e=>exact K.a4 eg _
  |store n x v=>simp only[ad.ok,aX]at h;exact K.nc h.1.1.1
  | app J bytes x y=>
    simp only[ad.ok,aX]at h;simp only[ad.gu];split
    · exact K
    · rw[K.fV h.1.1.1.1.1,K.fV h.1.1.1.2];exact(K.j3 h.1.1.1.1.1).a4 eg _
  |m0=>exact K.gH eg _
  | lJ a5 x fB v=>
    simp only[ad.ok]at h;split at h
    · rename_i cl b hb;cases aw:m.eJ b with
      |none=>rw[aw]at h;cases h
      |some a9=>simp only[ad.gu,hb,um,aw,K.eJ aw];exact K.gH (K.OM aw) _
    · cases h
  |_=>exact K
theorem IX(K:e3 cE dN m ae){k:ad}{z:aP}{ki:Nat×List Value}(h:k.e8 z m=some ki):k.e8 z ae=some ki:=by
  cases k with
  | kn bg x args=>
    simp only[ad.e8]at h⊢;split at h
    · split at h
      · exact h
      · split at h
        · rename_i ar;simp only[aX]at ar;rw[if_pos (by simp only[aX];exact⟨K.gk ar.1,ar.2⟩),K.j4 ar.1];exact h
        · cases h
      · cases h
    · cases h
  |_=>exact h
theorem N6{m ae:W}{k:ad}{z:aP}(h:k.e8 z m=none)(ao:k.ok z m=true):k.e8 z ae=none:=by
  refine qW ?_;cases k with
  |dA f a=>simp[ad.ok]at ao
  |iw f a=>simp[ad.ok]at ao
  |kn f a b=>simp[ad.ok]at ao
  |_=>rfl
def Is(cE:Nat->Prop)(dN:W)(bF:Callee):Prop:= ∀f a m r an,bF f a m=some (r,an)-> ∀ae,e3 cE dN m ae-> ∃cj,bF f a ae=some (r,cj)/\e3 cE dN an cj
theorem RU{an cj:W}(K:e3 cE dN m ae)(cy:e3 cE dN an cj){z:aP}{a5:List (Operand×Operand)}(h:p9 z a5 m an):p9 z a5 ae cj:= λp af b hb=>by
  by_cases aA:cE b
  · rw[(K.bA b aA).1,(cy.bA b aA).1]
  · rw[K.eq b aA,cy.eq b aA];exact h p af b hb
theorem TG{bF:Callee}(b5:Is cE dN bF)(K:e3 cE dN m ae){base:Nat}(hb: ∀b,cE b->b<base){o:bn}{z aj:aP}{an:W}(h:g4 bF base o z m=some (aj,an))(aa:nO o z m an):
    ∃cj,g4 bF base o z ae=some (aj,cj)/\e3 cE dN an cj/\nO o z ae cj:=by
  unfold g4 at h⊢;unfold nO at aa⊢;by_cases aZ:eH z o.g=true
  · rw[if_pos aZ]at h⊢
    replace aa:=aa aZ
    cases ar:o.k.e8 z m with
    | none=>
      rw[ar]at h aa;simp only at h aa;split at h
      · rename_i ao;cases h;simp only[N6 ar ao];rw[if_pos (Hd K ao),H7 K ao];exact⟨_,rfl,G7 K (λaA=>by have:=hb _ aA;omega) ao,λ_=>aa⟩
      · cases h
    | some ki=>
      obtain⟨f,args⟩:=ki;rw[ar]at h aa;simp only at h aa;cases a3:bF f args m with
      |none=>rw[a3]at h;cases h
      | some Dr=>obtain⟨v,bd⟩:=Dr;rw[a3]at h;cases h;obtain⟨cj,D,cy⟩:=b5 _ _ _ _ _ a3 ae K;simp only[IX K ar,D];exact⟨_,rfl,cy,λ_=>RU K cy aa⟩
  · rw[if_neg aZ]at h⊢;cases h;exact⟨ae,rfl,K,λh=>absurd h aZ⟩
theorem vV{bF:Callee}(b5:Is cE dN bF){base:Nat}(hb: ∀b,cE b->b<base): ∀{L:List bn} {z aj:aP} {m an ae:W},e3 cE dN m ae->ju bF base L z m=some (aj,an)-> ∃cj,ju bF base L z ae=some (aj,cj)/\e3 cE dN an cj
  |[],_,_,_,_,ae,K,h=>by cases h;exact⟨ae,rfl,K⟩
  | _::_,_,_,_,_,ae,K,h=>by obtain⟨bI,bd,D,H,aq⟩:=qg h;obtain⟨cQ,aQ,cp,a8⟩:=TG b5 K hb D H;obtain⟨e7,cN,fD⟩:=vV b5 hb cp aq;exact⟨e7,v8 aQ a8 cN,fD⟩
theorem GU{f:aP->W->Option (dy×aP×W)}(a3: ∀z m e aj an,f z m=some (e,aj,an)-> ∀ae,e3 cE dN m ae-> ∃cj,f z ae=some (e,aj,cj)/\e3 cE dN an cj):
    ∀{n:Nat} {z:aP} {m:W} {e:dy} {aj:aP} {an ae:W},jb f n z m=some (e,aj,an)->e3 cE dN m ae-> ∃cj,jb f n z ae=some (e,aj,cj)/\e3 cE dN an cj
  |0,_,_,_,_,_,_,h,_=>by simp[jb]at h
  | n+1,z,m,e,aj,an,ae,h,K=>by
    rcases GV h with⟨bI,bd,D,H⟩|⟨D,H⟩
    · obtain⟨cQ,aQ,cp⟩:=a3 _ _ _ _ _ D ae K;obtain⟨e7,a8,fD⟩:=GU a3 H cp;exact⟨e7,by simp only[jb,aQ];exact a8,fD⟩
    · obtain⟨cQ,aQ,cp⟩:=a3 _ _ _ _ _ D ae K;refine⟨cQ,?_,cp⟩;simp only[jb,aQ];cases e with
      |et=>exact absurd rfl H
      |ba id=>rfl
      |aG=>rfl
theorem BD{m:W}{b:Nat}:(mW m).Y b=(m.Y b).map BC:=by
  unfold W.Y;show(if b<m.next then _ else _)=_;by_cases h:b<m.next
  · rw[if_pos h,if_pos h];rfl
  · rw[if_neg h,if_neg h];rfl
theorem e3.mW(K:e3 cE dN m ae):e3 cE (mW dN) (mW m) (mW ae) where
  next:=K.next
  wy:=K.wy
  ct:=K.ct
  off b hb:=by rw[BD,K.off b hb];rfl
  bA b hb:=⟨by rw[BD,BD,(K.bA b hb).1],rfl⟩
  eq b hb:=by rw[BD,BD,K.eq b hb]
  mp:=rfl
theorem e3.pC(K:e3 cE dN m ae){J:Nat}{v:Value}(h:pC J m v=true):pC J ae v=true:=by
  unfold DI.pC at h⊢;split at h
  · rename_i a l c;cases aM:m.Y a.block with
    |none=>rw[aM]at h;cases h
    |some x=>rw[aM]at h;rw[K.Y aM];exact h
  · rfl
theorem e3.mw(K:e3 cE dN m ae){o:bn}{z:aP}(h:mw o z m=true):mw o z ae=true:=by
  unfold DI.mw at h⊢;simp only[aX]at h⊢;refine⟨⟨h.1.1,?_⟩,Hd K h.2⟩;have:=h.1.2;split at this
  · exact K.pC this
  · cases this
theorem mP{bF:Callee}(b5: ∀dN,Is cE dN bF){n:Nat}: ∀{c:I} {z aj:aP} {m an ae:W} {e:dy},en bF n c z m=some (e,aj,an)->e3 cE dN m ae-> ∃cj,en bF n c z ae=some (e,aj,cj)/\e3 cE dN an cj
  | .skip,_,_,_,_,ae,_,h,K=>by cases h;exact⟨ae,rfl,K⟩
  | .E ops,z,aj,m,an,ae,e,h,K=>by
    simp only[en]at h⊢;split at h
    · rename_i bI bd ay;cases h;have cy:e3 cE dN (gQ ops m) (gQ ops ae):=by
        unfold gQ;split
        · exact K.du _
        · exact K
      obtain⟨cj,g,fD⟩:=vV (b5 dN) (base:=m.next) (λb hb=>K.ct b hb) cy ay;refine⟨cj,?_,fD⟩;rw[K.next,g]
    · cases h
  | .qa bP o bV,z,aj,m,an,ae,e,h,K=>by
    simp only[en]at h⊢;split at h
    · rename_i bI bd D;split at h
      · rename_i ao;split at h
        · rename_i dh dE H;cases h;obtain⟨cQ,aQ,cp⟩:=vV (b5 dN) (base:=m.next) (λb hb=>K.ct b hb) (K.du _) D;have aa:o.k.ok bI bd=true:=(by unfold DI.mw at ao;simp only[aX]at ao;exact ao.2);obtain⟨e7,a8,fD⟩:=vV (b5 _) (base:=m.next) (λb hb=>K.ct b hb) cp.mW H;rw[K.next,aQ];simp only[cp.mw ao,if_true,H7 cp aa,a8,fD.next,cp.next];exact⟨_,rfl,(G7 cp (λaA=>by have:=K.ct _ aA;omega) aa).du _⟩
        · cases h
      · cases h
    · cases h
  | .B a b,z,aj,m,an,ae,e,h,K=>by
    simp only[en]at h⊢;split at h
    · rename_i bI bd D;obtain⟨cQ,aQ,cp⟩:=mP b5 D K;obtain⟨e7,a8,fD⟩:=mP b5 h cp;exact⟨e7,by rw[aQ];exact a8,fD⟩
    · rename_i cZ;obtain⟨cQ,aQ,cp⟩:=mP b5 h K;refine⟨cQ,?_,cp⟩;rw[aQ];cases e with
      |et=>exact absurd h (cZ _ _)
      |ba id=>rfl
      |aG=>rfl
  | .aR x a b,z,aj,m,an,ae,e,h,K=>by
    simp only[en]at h⊢;split at h
    · rename_i D;rw[if_pos D];split at h
      · rename_i H;rw[if_pos H];exact mP b5 h K
      · rename_i H;rw[if_neg H];exact mP b5 h K
    · cases h
  | .block id c,z,aj,m,an,ae,e,h,K=>by
    simp only[en]at h⊢;split at h
    · rename_i D;obtain⟨cQ,aQ,cp⟩:=mP b5 D K;rw[aQ];simp only;split at h
      · rename_i eg;cases h;exact⟨cQ,by rw[if_pos eg],cp⟩
      · rename_i eg;cases h;exact⟨cQ,by rw[if_neg eg],cp⟩
    · rename_i cZ;obtain⟨cQ,aQ,cp⟩:=mP b5 h K;refine⟨cQ,?_,cp⟩;rw[aQ];cases e with
      |et=>rfl
      |ba id=>exact absurd h (cZ _ _ _)
      |aG=>rfl
  | .loop c,z,aj,m,an,ae,e,h,K=>by simp only[en]at h⊢;exact GU (f:=en bF n c) (λz m e aj an D ae K=>mP b5 D K) h K
  | .ba id,_,_,_,_,ae,_,h,K=>by cases h;exact⟨ae,rfl,K⟩
  | .aG,_,_,_,_,ae,_,h,K=>by cases h;exact⟨ae,rfl,K⟩
theorem At(K:e3 cE dN m ae){z:aP}{r:kU}(h:oN m z r=true):oN ae z r=true/\pw ae z r=pw m z r:=by
  cases r with
  |bG t=>exact⟨rfl,rfl⟩
  | hL t dc n=>simp only[oN,aX]at h⊢;exact⟨⟨K.gk h.1,h.2⟩,K.j4 h.1⟩
theorem SF(K:e3 cE dN m ae){z:aP}{cm:List kU}(h:kK m z cm=true):kK ae z cm=true/\lb ae z cm=lb m z cm:=by
  have ay: ∀r∈cm,oN m z r=true:=by simpa[kK]using h
  refine⟨by simp only[kK,eD];exact λr aw=>(At K (ay r aw)).1,?_⟩;unfold lb;split
  · exact(At K (ay _ (by simp))).2
  · rw[yu λr aw=>(At K (ay r aw)).2]
theorem D6{P:Program}: ∀n dN,Is cE dN (jl P n)
  |0,_=> λf a m r an h=>by simp[jl]at h
  | n+1,dN=> λf a m r an h ae K=>by
    simp only[jl]at h⊢;split at h
    · rename_i u dn;split at h
      · rename_i fJ;rw[if_pos fJ];split at h
        · cases h
        · rename_i e aj bd cZ hh;obtain⟨cQ,aQ,cp⟩:=mP (D6 n) hh K;split at h
          · rename_i ay;cases h;obtain⟨a8,cN⟩:=SF cp ay;rw[aQ];refine⟨cQ,?_,cp⟩;cases e with
            |et=>simp only[a8,cN,if_true]
            |aG=>simp only[a8,cN,if_true]
            |ba id=>exact absurd rfl (cZ id)
          · cases h
        · cases h
      · cases h
    · cases h
end
structure u2(p m:W):Prop where
  next:p.next=m.next
  mp:p.mp=m.mp
  Y: ∀b x,p.Y b=some x->m.Y b=some x
structure agc(p m lu an:W):Prop where
  part:u2 lu an
  next:m.next<=an.next
  An: ∀b,b<m.next->p.Y b=none->an.Y b=m.Y b/\lu.Y b=none/\an.mp b=m.mp b
theorem u2.refl(m:W):u2 m m:=⟨rfl,rfl,λ_ _ h=>h⟩
theorem fZ.frame{P:Program}{f:Nat}{args:List Value}{p m:W}{cg:Value->W->Prop}(af:u2 p m)(h:fZ P f args p cg):
    fZ P f args m λr an=> ∃lu,cg r lu/\agc p m lu an:=by
  obtain⟨n,r,lu,D,q⟩:=h;have K:e3 (λb=>b<p.next/\p.Y b=none) m p m:=by
    refine⟨af.next.symm,by rw[af.next];exact ev _,λb hb=>hb.1,λb hb=>hb.2,λb _=>⟨rfl,rfl⟩,λb hb=> ?_,af.mp.symm⟩;cases aM:p.Y b with
    |some x=>exact af.Y b x aM
    | none=>
      have: ¬b<p.next:= λee=>hb ⟨ee,aM⟩
      have H: ¬b<m.next:=by rw[<-af.next];exact this
      simp only[W.Y,H,if_false]
  obtain⟨an,H,cy⟩:=D6 n m _ _ _ _ _ D m K;refine⟨n,r,an,H,lu,q,⟨cy.next.symm,cy.mp.symm,λb x hb=>cy.Y hb⟩,?_,λb hb ax=> ?_⟩
  · rw[cy.next];exact cy.wy
  · have aA:b<p.next/\p.Y b=none:=⟨by rw[af.next];exact hb,ax⟩
    exact⟨(cy.bA b aA).1,cy.off b aA,(cy.bA b aA).2⟩
end Go.DI
