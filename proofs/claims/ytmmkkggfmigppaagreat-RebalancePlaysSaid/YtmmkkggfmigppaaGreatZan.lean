/-
  A part of the proof of the statement, in texts that tools of ours (wip/shrink.py, irpack.py, relax.py, minify.py, join.py, lay.py) have shortened.
-/
import Derived.Test.YtmmkkggfmigppaaGreatZam
set_option linter.all false
set_option maxRecDepth 8000
set_option maxHeartbeats 16000000
namespace Go.Proofs.YtmmkkggfmigppaaGreat
open Go Go.DI
def HC:H:= .B (.block 3 (.B (.D [z 0 30 1,z 1 31 6,aY 2 32 1 30 31,ao 3 33 32,z 4 34 7,aY 5 35 1 33 34,ao 6 36 35,lL 7 37 36 0,z 8 38 37,dg 9 39 38 1,dg 10 40 38 6,ml 11 41 38 1 39 40,dQ 12 42 38 41,dg 13 43 38 7,ml 14 44 38 1 42 43,dQ 15 45 38 44,dg 16 46 38 5,k3 17 47 38 46,yT 18 48 38 45 47,cR 19 49 38 48]) (.aM (F 49) (.D [z 0 50 5,z 1 51 1,z 2 52 6,aY 3 53 1 51 52,ao 4 54 53,z 5 55 7,aY 6 56 1 54 55,ao 7 57 56,aY 8 58 1 50 57,ao 9 59 58,cI 10 60 59,aY 11 61 1 50 57,bz 12 1 61 60]) (.skip)))) (.D [z 0 28 7,cI 1 29 28,z 2 7 29])
def HD:H:= .B (.B (.D [z 0 21 7,z 1 22 1,z 2 23 6,aY 3 24 1 22 23,ao 4 25 24,bq 5 26 25,cY 6 27 21 26]) (.aM (F 27) (.skip) (.a7 2))) HC
def SV:H:= .B (.block 1 (.B (.D [a5 0 7 0]) (.block 2 (.loop HD)))) (.D [z 0 19 6,cI 1 20 19,z 2 6 20])
def SX:H:= .B (.B (.D [z 0 15 6,z 1 16 1,bq 2 17 16,cY 3 18 15 17]) (.aM (F 18) (.skip) (.a7 0))) SV
def SW:H:= .B (.D [z 0 62 5,z 1 4 62]) (.aF)
def aeA:H:= .B (.B (.D [a5 0 6 0]) (.block 0 (.loop SX))) SW
def aez:H:= .B (.D [ay 0 11 4 2,ao 1 12 11,bq 2 13 12,qc 3 14 13 13,z 4 5 14]) aeA
def aey:H:= .B (.B (.D [bL 0 8 7 2,b0 1 9 87 [F 8],g6 2 10 9]) (.aM (F 10) (.B (.D [dV 0 4]) (.aF)) (.skip))) aez
def aex:H:=
  .B (
  .D [
 dJ 0 2 0,
 dV 1 4]) aey
def SU:bM:=⟨63,[.bw 4],aex⟩
theorem axD:bW al 34=some SU:=by kernel_rfl
def Dz:H:= .B (.B (.D [z 0 29 1,bq 1 30 29,ay 2 31 4 2,ao 3 32 31,bq 4 33 32,df 5 34 .eql (F 30) (F 33)]) (.aM (F 34) (.D [z 0 35 1,z 1 36 6,aY 2 37 1 35 36,ao 3 38 37,z 4 39 7,a4 5 40 (.pq false (F 38) [F 39]),a4 6 41 (.pq true (.const aG) [F 40]),z 7 7 41]) (.skip))) (.D [z 0 42 5,z 1 43 7,vl 2 44 43,iC 3 45 1 8 42 44,z 4 5 45])
def Dy:H:= .B (.block 1 (.B (.D [ay 0 18 2 2,ao 1 19 18,ay 2 20 4 2,ao 3 21 20,z 4 22 6,aY 5 23 3 21 22,ay 6 24 1 23,ao 7 25 24,aY 8 26 4 19 25,ay 9 27 1 26,ao 10 28 27,z 11 7 28]) Dz)) (.D [z 0 16 6,cI 1 17 16,z 2 6 17])
def DA:H:= .B (.B (.D [z 0 11 6,ay 1 12 4 2,ao 2 13 12,bq 3 14 13,cY 4 15 11 14]) (.aM (F 15) (.skip) (.a7 0))) Dy
def Tn:H:= .B (.D [z 0 46 5,z 1 4 46]) (.aF)
def Tm:H:= .B (.B (.D [a5 0 6 0]) (.block 0 (.loop DA))) Tn
def Tl:H:= .B (.D [dV 0 5]) Tm
def Tk:H:= .B (.B (.D [bL 0 8 7 2,b0 1 9 87 [F 8],g6 2 10 9]) (.aM (F 10) (.B (.D [dV 0 4]) (.aF)) (.skip))) Tl
def Ti:H:=
  .B (
  .D [
 dJ 0 2 0,
 dV 1 4]) Tk
def Dx:bM:=⟨47,[.bw 4],Ti⟩
theorem Tj:bW al 52=some Dx:=by kernel_rfl
def MZ:H:= .B (.D [z 0 33 1,bq 1 34 33,z 2 35 5,bq 3 36 35,df 4 37 .eql (F 34) (F 36)]) (.aM (F 37) (.D [z 0 38 5,z 1 39 6,z 2 40 1,z 3 41 6,aY 4 42 1 40 41,ao 5 43 42,D0 6 44 43 0,z 7 45 5,z 8 46 6,aY 9 47 1 45 46,ao 10 48 47,a4 11 49 (.pq false (F 44) [F 48]),aY 12 50 1 38 39,bz 13 1 50 49]) (.skip))
def MY:H:= .B (.D [z 0 19 5,z 1 20 6,ay 2 21 2 2,ao 3 22 21,ay 4 23 4 2,ao 5 24 23,z 6 25 6,aY 7 26 3 24 25,ay 8 27 1 26,ao 9 28 27,aY 10 29 4 22 28,ay 11 30 1 29,ao 12 31 30,aY 13 32 1 19 20,bz 14 1 32 31]) MZ
def MX:H:= .B (.block 1 (.B (.D [z 0 18 16,z 1 6 18]) MY)) (.D [cI 0 51 16,z 1 16 51])
def MW:H:= .B (.aM (F 17) (.skip) (.a7 0)) MX
def M0:H:= .B (.D [cY 0 17 16 15]) MW
def afA:H:= .B (.D [z 0 52 5,z 1 4 52]) (.aF)
def afz:H:= .B (.B (.D [z 0 14 5,bq 1 15 14,a5 2 16 0]) (.block 0 (.loop M0))) afA
def afy:H:= .B (.D [ay 0 10 4 2,ao 1 11 10,bq 2 12 11,qc 3 13 12 12,z 4 5 13]) afz
def afx:H:= .B (.B (.D [bL 0 7 7 2,b0 1 8 115 [F 7],g6 2 9 8]) (.aM (F 9) (.B (.D [dV 0 4]) (.aF)) (.skip))) afy
def afv:H:=
  .B (
  .D [
 dJ 0 2 0,
 dV 1 4]) afx
def MV:bM:=⟨53,[.bw 4],afv⟩
theorem afw:bW al 63=some MV:=by kernel_rfl
def DO:H:= .B (.D [z 0 31 7]) (.aM (F 31) (.B (.D [cr 0 4 false]) (.aF)) (.skip))
def DN:H:= .B (.D [bL 0 25 7 2,z 1 26 1,z 2 27 5,b0 3 28 133 [F 25,F 26,F 27],z 4 24 28,b3 5 29 0 24,b3 6 30 1 24,a4 7 6 (.c9 [aG,aG,aG]),bz 8 3 6 29,z 9 7 30]) DO
def DM:H:= .B (.block 1 (.B (.D [z 0 23 21,z 1 5 23]) DN)) (.D [cI 0 32 21,z 1 21 32])
def DL:H:= .B (.aM (F 22) (.skip) (.a7 0)) DM
def HX:H:= .B (.D [cY 0 22 21 20]) DL
def DP:H:= .B (.D [cr 0 4 true]) (.aF)
def afD:H:= .B (.B (.D [z 0 19 1,bq 1 20 19,a5 2 21 0]) (.block 0 (.loop HX))) DP
def TF:H:= .B (.B (.D [bL 0 8 7 2,b0 1 9 115 [F 8],g6 2 10 9,z 3 11 10,du 4 12 11 1,iT 5 13 11 12,eg 6 14 11 6 2,dM 7 15 11 14,iT 8 16 11 15,qW 9 17 11 13 16,c6 10 18 11 17]) (.aM (F 18) (.B (.D [cr 0 4 false]) (.aF)) (.skip))) afD
def TE:H:=
  .B (
  .D [
 dJ 0 2 0,
 cr 1 4 false]) TF
def HW:bM:=⟨33,[.bw 4],TE⟩
theorem afC:bW al 86=some HW:=by kernel_rfl
def DW:H:= .B (.block 1 (.B (.D [z 0 23 1,z 1 24 5,aY 2 25 1 23 24,ao 3 26 25,bq 4 27 26,bL 5 28 7 2,z 6 29 5,iS 7 30 (.dY 132 [F 28,F 29]) [(F 25,F 25)],nF 8 31 27 30,z 9 32 31,mI 10 33 32 7 2,du 11 34 32 1,du 12 35 32 5,n7 13 36 32 1 34 35,dM 14 37 32 36,cQ 15 38 32 false (.dY 143 [F 33,F 37]),cQ 16 39 32 false (.e8 .geq .fW (F 38) (.const aG)),c6 17 40 32 39]) (.aM (F 40) (.B (.D [cr 0 4 false]) (.aF)) (.skip)))) (.D [z 0 21 5,cI 1 22 21,z 2 5 22])
def H2:H:= .B (.B (.D [z 0 17 5,z 1 18 1,bq 2 19 18,cY 3 20 17 19]) (.aM (F 20) (.skip) (.a7 0))) DW
def DX:H:= .B (.D [cr 0 4 true]) (.aF)
def afE:H:= .B (.B (.D [a5 0 5 0]) (.block 0 (.loop H2))) DX
def TH:H:= .B (.B (.D [bL 0 6 7 2,b0 1 7 87 [F 6],g6 2 8 7,z 3 9 8,du 4 10 9 1,iT 5 11 9 10,eg 6 12 9 6 2,dM 7 13 9 12,iT 8 14 9 13,qW 9 15 9 11 14,c6 10 16 9 15]) (.aM (F 16) (.B (.D [cr 0 4 false]) (.aF)) (.skip))) afE
def TG:H:=
  .B (
  .D [
 dJ 0 2 0,
 cr 1 4 false]) TH
def Ng:bM:=⟨41,[.bw 4],TG⟩
theorem ayD:bW al 88=some Ng:=by kernel_rfl
def RX:H:= .B (.D [bL 0 3 7 1,b0 1 4 62 [F 3],kI 2 5 4 0,z 3 2 5]) (.aF)
def RW:H:=
  .B (
  .D [
 dJ 0 1 0,
 cr 1 2 false]) RX
def GJ:bM:=⟨6,[.bw 2],RW⟩
theorem aao:bW al 115=some GJ:=by kernel_rfl
def aaz:H:= .B (.D [ay 0 16 1 5,ao 1 17 16,ay 2 18 2 5,ao 3 19 18,hc 4 20 17 19,z 5 4 20]) (.aF)
def aay:H:= .B (.D [ay 0 6 5 2,ao 1 7 6,ay 2 8 6 2,ao 3 9 8,z 4 10 1,aY 5 11 2 9 10,ay 6 12 1 11,ao 7 13 12,aY 8 14 17 7 13,bL 9 15 17 14,a4 10 5 (.c9 [.string ⟨#[]⟩,aG,aG,aG,aG,aG,aG,aG,aG,aX,aX,.bool false,aX,aX,.bool false,aX,aX]),bz 11 17 5 15]) aaz
def aax:H:=
  .B (
  .D [
 dJ 0 2 0,
 a5 1 4 0]) aay
def RY:bM:=⟨21,[.bw 4],aax⟩
theorem aof:bW al 132=some RY:=by kernel_rfl
def C5:H:= .B (.D [z 0 36 9,df 1 37 .lss (F 36) (.const (.int .i64 (-1))),z 2 38 37,du 3 39 38 9,eg 4 40 38 4 3,dM 5 41 38 40,iT 6 42 38 41,yU 7 43 38 39 42,c6 8 44 38 43]) (.aM (F 44) (.B (.D [z 0 45 2,z 1 46 8,a4 2 47 (.fF [aG,aG,aG] [(0,1,.const (.int .i64 1)),(1,1,F 45),(2,1,F 46)]),bz 3 3 6 47,cr 4 7 true]) (.aF)) (.skip))
def C4:H:= .B (.block 1 (.B (.D [z 0 33 31,aY 1 34 1 29 31,ao 2 35 34,z 3 8 33,z 4 9 35]) C5)) (.D [cI 0 48 31,z 1 31 48])
def C3:H:= .B (.aM (F 32) (.skip) (.a7 0)) C4
def GP:H:= .B (.D [cY 0 32 31 30]) C3
def C6:H:= .B (.D [a4 0 49 (.fF [aG,aG,aG] []),bz 1 3 6 49,cr 2 7 false]) (.aF)
def aaB:H:= .B (.B (.D [z 0 26 1,z 1 27 2,aY 2 28 1 26 27,ao 3 29 28,bq 4 30 29,a5 5 31 0]) (.block 0 (.loop GP))) C6
def R0:H:= .B (.B (.D [z 0 10 1,z 1 11 2,aY 2 12 1 10 11,ao 3 13 12,bq 4 14 13,bL 5 15 7 3,z 6 16 2,iS 7 17 (.dY 187 [F 15,F 16]) [(F 12,F 12)],nF 8 18 14 17]) (.aM (F 18) (.B (.D [z 0 19 2,z 1 20 1,z 2 21 2,aY 3 22 1 20 21,ao 4 23 22,bq 5 24 23,a4 6 25 (.fF [aG,aG,aG] [(0,1,.const (.int .i64 1)),(1,1,F 19),(2,1,F 24)]),bz 7 3 6 25,cr 8 7 true]) (.aF)) (.skip))) aaB
def RZ:H:=
  .B (
  .D [
 dJ 0 3 0,
 a4 1 6 (.c9 [aG,aG,aG]),
 cr 2 7 false]) R0
def GO:bM:=⟨50,[.im 6 true 3,.bw 7],RZ⟩
theorem aaA:bW al 133=some GO:=by kernel_rfl
def C9:H:= .B (.block 1 (.B (.D [z 0 12 1,z 1 13 5,aY 2 14 1 12 13,ao 3 15 14,df 4 16 .lss (F 15) (.const (.int .i64 (-1))),z 5 17 16,du 6 18 17 1,du 7 19 17 5,n7 8 20 17 1 18 19,dM 9 21 17 20,eg 10 22 17 4 2,dM 11 23 17 22,iT 12 24 17 23,yU 13 25 17 21 24,c6 14 26 17 25]) (.aM (F 26) (.B (.D [z 0 27 5,z 1 4 27]) (.aF)) (.skip)))) (.D [z 0 10 5,cI 1 11 10,z 2 5 11])
def GX:H:= .B (.B (.D [z 0 6 5,z 1 7 1,bq 2 8 7,cY 3 9 6 8]) (.aM (F 9) (.skip) (.a7 0))) C9
def Da:H:= .B (.D [a5 0 4 (-1)]) (.aF)
def aaX:H:= .B (.B (.D [a5 0 5 0]) (.block 0 (.loop GX))) Da
def aaW:H:=
  .B (
  .D [
 dJ 0 2 0,
 a5 1 4 0]) aaX
def Sg:bM:=⟨28,[.bw 4],aaW⟩
theorem aon:bW al 143=some Sg:=by kernel_rfl
def aa5:H:= .B (.D [bL 0 8 7 2,z 1 9 1,db 2 10 200 8 9,z 3 4 10]) (.aF)
def aa4:H:= .B (.B (.D [bL 0 5 7 2,b0 1 6 115 [F 5],g6 2 7 6]) (.aM (F 7) (.B (.D [dV 0 4]) (.aF)) (.skip))) aa5
def aa2:H:=
  .B (
  .D [
 dJ 0 2 0,
 dV 1 4]) aa4
def Lx:bM:=⟨11,[.bw 4],aa2⟩
theorem aa3:bW al 147=some Lx:=by kernel_rfl
def ao5:H:= .B (.D [bL 0 7 7 3,b0 1 8 115 [F 7],z 2 9 8,kJ 3 10 9 7 3,dg 4 11 9 1,dg 5 12 9 2,cQ 6 13 9 true (.dY 207 [F 10,F 11,F 12]),k3 7 14 9 13,pl 8 15 9 14 0,cR 9 16 9 15,z 10 6 16]) (.aF)
def ao3:H:=
  .B (
  .D [
 dJ 0 3 0,
 cr 1 6 false]) ao5
def aa9:bM:=⟨17,[.bw 6],ao3⟩
theorem ao4:bW al 153=some aa9:=by kernel_rfl
def abP:H:= .B (.D [ay 0 16 1 5,ao 1 17 16,ay 2 18 2 5,ao 3 19 18,hc 4 20 17 19,z 5 4 20]) (.aF)
def abO:H:= .B (.D [ay 0 6 5 2,ao 1 7 6,ay 2 8 6 2,ao 3 9 8,z 4 10 1,aY 5 11 2 9 10,ay 6 12 1 11,ao 7 13 12,aY 8 14 17 7 13,bL 9 15 17 14,a4 10 5 (.c9 [.string ⟨#[]⟩,aG,aG,aG,aG,aG,aG,aG,aG,aX,aX,.bool false,aX,aX,.bool false,aX,aX]),bz 11 17 5 15]) abP
def abM:H:=
  .B (
  .D [
 dJ 0 2 0,
 a5 1 4 0]) abO
def LK:bM:=⟨21,[.bw 4],abM⟩
theorem abN:bW al 187=some LK:=by kernel_rfl
def Hr:H:= .B (.D [z 0 26 9,lL 1 27 26 0,z 2 28 27,dg 3 29 28 9,dg 4 30 28 5,k3 5 31 28 30,yT 6 32 28 29 31,cR 7 33 28 32]) (.aM (F 33) (.D [z 0 34 5,z 1 35 9,aY 2 36 1 34 35,ao 3 37 36,cI 4 38 37,aY 5 39 1 34 35,bz 6 1 39 38]) (.skip))
def Hq:H:= .B (.block 3 (.B (.D [aY 0 24 1 20 22,ao 1 25 24,z 2 9 25]) Hr)) (.D [cI 0 40 22,z 1 22 40])
def Hp:H:= .B (.aM (F 23) (.skip) (.a7 2)) Hq
def Hs:H:= .B (.D [cY 0 23 22 21]) Hp
def Su:H:= .B (.D [z 0 20 7,bq 1 21 20,a5 2 22 0]) (.block 2 (.loop Hs))
def St:H:= .B (.block 1 (.B (.D [aY 0 18 1 14 16,ao 1 19 18,z 2 7 19]) Su)) (.D [cI 0 41 16,z 1 16 41])
def Ss:H:= .B (.aM (F 17) (.skip) (.a7 0)) St
def Sw:H:= .B (.D [cY 0 17 16 15]) Ss
def Sv:H:= .B (.D [z 0 42 5,z 1 4 42]) (.aF)
def ach:H:= .B (.B (.D [z 0 14 1,bq 1 15 14,a5 2 16 0]) (.block 0 (.loop Sw))) Sv
def acg:H:= .B (.D [ay 0 10 4 2,ao 1 11 10,bq 2 12 11,qc 3 13 12 12,z 4 5 13]) ach
def ace:H:=
  .B (
  .D [
 dJ 0 2 0,
 dV 1 4]) acg
def L1:bM:=⟨43,[.bw 4],ace⟩
theorem acf:bW al 200=some L1:=by kernel_rfl
def ass:H:= .B (.D [z 0 41 10]) (.aM (F 41) (.B (.D [z 0 42 7,bL 1 43 3 9,yV 2 44 43,iC 3 45 3 24 42 44,z 4 7 45]) (.a7 2)) (.skip))
def asr:H:= .B (.B (.D [bL 0 35 7 3,z 1 36 1,z 2 37 8,b0 3 38 133 [F 35,F 36,F 37],z 4 34 38,b3 5 39 0 34,b3 6 40 1 34,a4 7 9 (.c9 [aG,aG,aG]),bz 8 3 9 39,z 9 10 40]) ass) (.D [z 0 46 7,bL 1 47 7 3,z 2 48 1,z 3 49 8,b0 4 50 244 [F 47,F 48,F 49],iC 5 51 3 24 46 50,z 6 7 51])
def asq:H:= .B (.block 2 (.B (.D [z 0 33 31,z 1 8 33]) asr)) (.D [cI 0 52 31,z 1 31 52])
def asp:H:= .B (.aM (F 32) (.skip) (.a7 1)) asq
def asv:H:= .B (.D [cY 0 32 31 30]) asp
def asl:H:= .B (.D [z 0 65 13,z 1 66 11,z 2 67 12,aY 3 68 1 66 67,ao 4 69 68,df 5 70 .gtr (F 65) (F 69)]) (.aM (F 70) (.D [z 0 71 7,z 1 72 12,a4 2 73 (.fF [aG,aG,aG] [(0,1,.const (.int .i64 6)),(1,1,.const (.int .i64 (-1))),(2,1,F 72)]),yV 3 74 73,iC 4 75 3 24 71 74,z 5 7 75]) (.skip))
def asj:H:= .B (.block 4 (.B (.D [z 0 62 60,aY 1 63 1 58 60,ao 2 64 63,z 3 12 62,z 4 13 64]) asl)) (.D [cI 0 76 60,z 1 60 76])
def asi:H:= .B (.aM (F 61) (.skip) (.a7 3)) asj
def asw:H:= .B (.D [cY 0 61 60 59]) asi
def asm:H:= .B (.D [z 0 77 7,z 1 6 77]) (.aF)
def asu:H:= .B (.B (.D [bL 0 56 7 3,z 1 57 1,db 2 58 200 56 57,bq 3 59 58,a5 4 60 0]) (.block 3 (.loop asw))) asm
def ast:H:= .B (.D [bL 0 53 7 3,z 1 54 2,db 2 55 63 53 54,z 3 11 55]) asu
def aso:H:= .B (.B (.D [z 0 29 1,bq 1 30 29,a5 2 31 0]) (.block 1 (.loop asv))) ast
def asn:H:= .B (.D [dV 0 7]) aso
def ash:H:= .B (.block 0 (.B (.D [bL 0 15 7 3,b0 1 16 115 [F 15],g6 2 17 16,z 3 14 17]) (.aM (F 14) (.B (.D [dV 0 6]) (.aF)) (.B (.D [z 0 19 1,bq 1 20 19,ay 2 21 6 3,ao 3 22 21,bq 4 23 22,nF 5 24 20 23,z 6 18 24]) (.aM (F 18) (.B (.D [z 0 25 1,bq 1 26 25,a4 2 27 (.fF [aG,aG,aG] [(0,1,.const (.int .i64 1)),(1,1,.const (.int .i64 (-1))),(2,1,F 26)]),yV 3 28 27,z 4 6 28]) (.aF)) (.skip)))))) asn
def asf:H:=
  .B (
  .D [
 dJ 0 3 0,
 dV 1 6]) ash
def aco:bM:=⟨78,[.bw 6],asf⟩
theorem asg:bW al 207=some aco:=by kernel_rfl
def auX:H:= .B (.block 1 (.B (.D [aY 0 44 1 40 42,ao 1 45 44,z 2 10 45]) (.D [z 0 46 8,z 1 47 10,aY 2 48 1 46 47,rM 3 (.store 1 (F 48) (.const (.bool true)))]))) (.D [cI 0 49 42,z 1 42 49])
def auW:H:= .B (.aM (F 43) (.skip) (.a7 0)) auX
def au2:H:= .B (.D [cY 0 43 42 41]) auW
def auH:H:= .B (.block 5 (.D [z 0 113 15,z 1 114 18,aY 2 115 1 113 114,ao 3 116 115,cI 4 117 116,aY 5 118 1 113 114,bz 6 1 118 117])) (.D [ay 0 107 3 3,ao 1 108 107,z 2 109 18,aY 3 110 7 108 109,ay 4 111 2 110,ao 5 112 111,z 6 18 112])
def au3:H:= .B (.B (.D [z 0 105 18,jX 1 106 105 0]) (.aM (F 106) (.skip) (.a7 4))) auH
def auG:H:= .B (.D [ay 0 99 4 3,ao 1 100 99,z 2 101 17,aY 3 102 3 100 101,ay 4 103 2 102,ao 5 104 103,z 6 18 104]) (.block 4 (.loop au3))
def auF:H:= .B (.D [z 0 93 14,z 1 94 17,aY 2 95 1 93 94,ao 3 96 95,cI 4 97 96,aY 5 98 1 93 94,bz 6 1 98 97]) auG
def auE:H:= .B (.B (.D [z 0 77 8,ay 1 78 4 3,ao 2 79 78,z 3 80 17,aY 4 81 3 79 80,ay 5 82 1 81,ao 6 83 82,aY 7 84 1 77 83,ao 8 85 84,g6 9 86 85]) (.aM (F 86) (.D [z 0 87 13,z 1 88 11,z 2 89 16,a4 3 90 (.iN (F 88) [.const (.int .i64 4),F 89]),yV 4 91 90,iC 5 92 3 24 87 91,z 6 13 92]) (.skip))) auF
def auD:H:= .B (.B (.D [z 0 69 17,kt 1 70 69 0]) (.aM (F 70) (.B (.D [z 0 71 12,z 1 72 11,z 2 73 16,a4 3 74 (.iN (F 72) [.const (.int .i64 2),F 73]),yV 4 75 74,iC 5 76 3 24 71 75,z 6 12 76]) (.a7 3)) (.skip))) auE
def auC:H:= .B (.block 3 (.B (.D [z 0 66 64,aY 1 67 1 62 64,ao 2 68 67,z 3 16 66,z 4 17 68]) auD)) (.D [cI 0 119 64,z 1 64 119])
def auB:H:= .B (.aM (F 65) (.skip) (.a7 2)) auC
def au4:H:= .B (.D [cY 0 65 64 63]) auB
def auN:H:= .B (.D [z 0 128 21,jX 1 129 128 1]) (.aM (F 129) (.D [z 0 130 19,z 1 131 11,z 2 132 20,a4 3 133 (.iN (F 131) [.const (.int .i64 3),F 132]),yV 4 134 133,iC 5 135 3 24 130 134,z 6 19 135]) (.skip))
def auM:H:= .B (.block 7 (.B (.D [z 0 125 123,aY 1 126 1 121 123,ao 2 127 126,z 3 20 125,z 4 21 127]) auN)) (.D [cI 0 136 123,z 1 123 136])
def auK:H:= .B (.aM (F 124) (.skip) (.a7 6)) auM
def au5:H:= .B (.D [cY 0 124 123 122]) auK
def auT:H:= .B (.D [z 0 156 24,jX 1 157 156 0,z 2 158 157,dg 3 159 158 23,dg 4 160 158 24,cQ 5 161 158 true (.e8 .gtr .fW (F 159) (F 160)),cR 6 162 158 161]) (.aM (F 162) (.D [z 0 163 19,z 1 164 11,z 2 165 22,a4 3 166 (.iN (F 164) [.const (.int .i64 5),F 165]),yV 4 167 166,iC 5 168 3 24 163 167,z 6 19 168]) (.skip))
def auS:H:= .B (.D [ay 0 147 3 3,ao 1 148 147,z 2 149 22,aY 3 150 7 148 149,ay 4 151 1 150,ao 5 152 151,ay 6 153 4 7,a4 7 154 (.ph 1 5 (F 153) (F 152)),ao 8 155 154,z 9 24 155]) auT
def auR:H:= .B (.block 9 (.B (.D [z 0 144 142,aY 1 145 1 140 142,ao 2 146 145,z 3 22 144,z 4 23 146]) auS)) (.D [cI 0 169 142,z 1 142 169])
def auQ:H:= .B (.aM (F 143) (.skip) (.a7 8)) auR
def au6:H:= .B (.D [cY 0 143 142 141]) auQ
def auU:H:= .B (.D [z 0 170 19,z 1 6 170]) (.aF)
def auP:H:= .B (.B (.D [z 0 140 15,bq 1 141 140,a5 2 142 0]) (.block 8 (.loop au6))) auU
def auO:H:= .B (.D [z 0 137 19,z 1 138 13,iC 2 139 3 24 137 138,z 3 19 139]) auP
def auJ:H:= .B (.B (.D [z 0 121 14,bq 1 122 121,a5 2 123 0]) (.block 6 (.loop au5))) auO
def auI:H:= .B (.D [z 0 120 12,z 1 19 120]) auJ
def au1:H:= .B (.B (.D [z 0 59 1,ao 1 60 5,aY 2 61 1 59 60,ao 3 62 61,bq 4 63 62,a5 5 64 0]) (.block 2 (.loop au4))) auI
def au0:H:= .B (.D [ay 0 51 4 3,ao 1 52 51,bq 2 53 52,ay 4 55 3 3,ao 5 56 55,bq 6 57 56,qc 3 54 53 53,z 8 14 54,qc 7 58 57 57,z 9 15 58]) au1
def auZ:H:= .B (.D [dV 0 12,dV 1 13]) au0
def auY:H:= .B (.D [a4 0 50 (.ub (.func 265) [] [F 5]),z 1 11 50]) auZ
def auV:H:= .B (.B (.D [ay 0 39 9 7,ao 1 40 39,bq 2 41 40,a5 3 42 0]) (.block 0 (.loop au2))) auY
def auL:H:= .B (.D [ay 0 35 2 3,ao 1 36 35,bq 2 37 36,AZ 3 38 37 37,z 4 8 38]) auV
def auA:H:= .B (.D [ay 0 25 5 3,ao 1 26 25,ay 2 27 6 3,ao 3 28 27,ao 4 29 5,aY 5 30 2 28 29,ay 6 31 1 30,ao 7 32 31,aY 8 33 17 26 32,bL 9 34 17 33,a4 10 7 (.c9 [.string ⟨#[]⟩,aG,aG,aG,aG,aG,aG,aG,aG,aX,aX,.bool false,aX,aX,.bool false,aX,aX]),bz 11 17 7 34]) auL
def auy:H:=
  .B (
  .D [
 dJ 0 3 0,
 dJ 1 5 2,
 dV 2 6]) auA
def ady:bM:=⟨171,[.bw 6],auy⟩
theorem auz:bW al 244=some ady:=by kernel_rfl
open Go Go.DI Go.Big
structure eF(u:bg):Prop where
  ok:nV u
  fO:bg.fO u
noncomputable def On(u:bg)(h:bg.fO u):bC al:= .dN 62 Unit (λ_=>True) (λ_=>[.agg (aL u).toArray]) (λ_=>Y (if gk u then 0 else 1)) λ_ _=>V6 h
@[simp] theorem aP7{u:bg}{h:bg.fO u}:(On u h).f=62:=rfl
@[simp] theorem aP8{u:bg}{h:bg.fO u}:(On u h).fn [.agg #[Y u.ext,aj (u.cN.map gZ) 4,aj (u.bf.map gE) 4,aj (u.bP.map ez) 7,aj (u.aZ.map gr) 3,aj (u.cK.map e5) 17,aj (u.cm.map hx) 2]]=some (Y (if gk u then 0 else 1)):=bC.eh (x:=()) trivial λ_ _=>rfl
noncomputable def Vu(u:bg)(h:bg.fO u):bC al:= .dN 66 Unit (λ_=>True) (λ_=>[.agg (aL u).toArray]) (λ_=>Y (if gk u then 0 else 1)) λ_ _=>aC2 h
@[simp] theorem aP9{u:bg}{h:bg.fO u}:(Vu u h).f=66:=rfl
@[simp] theorem aQa{u:bg}{h:bg.fO u}:(Vu u h).fn [.agg #[Y u.ext,aj (u.cN.map gZ) 4,aj (u.bf.map gE) 4,aj (u.bP.map ez) 7,aj (u.aZ.map gr) 3,aj (u.cK.map e5) 17,aj (u.cm.map hx) 2]]=some (Y (if gk u then 0 else 1)):=bC.eh (x:=()) trivial λ_ _=>rfl
theorem aBQ{u:bg}(h:bg.fO u):bH al 115 [.agg (aL u).toArray] (.bool (gk u)):=by
  refine ei (dD (aC:=⟨[On u h],[]⟩) aao (by kernel_rfl) (by simp[GJ]) ?_);cases ad:gk u
  · simp(disch:=first|omega|simp only[aO];omega) [GJ,RW,RX,aL,ad,-O,-U,-N,-S,-List.map_map]
  · simp(disch:=first|omega|simp only[aO];omega) [GJ,RW,RX,aL,ad,-O,-U,-N,-S,-List.map_map]
noncomputable def BL(u:bg)(h:bg.fO u):bC al:= .dN 115 Unit (λ_=>True) (λ_=>[.agg (aL u).toArray]) (λ_=> .bool (gk u)) λ_ _=>aBQ h
@[simp] theorem aPe{u:bg}{h:bg.fO u}:(BL u h).f=115:=rfl
@[simp] theorem aPf{u:bg}{h:bg.fO u}:(BL u h).fn [.agg #[Y u.ext,aj (u.cN.map gZ) 4,aj (u.bf.map gE) 4,aj (u.bP.map ez) 7,aj (u.aZ.map gr) 3,aj (u.cK.map e5) 17,aj (u.cm.map hx) 2]]=some (.bool (gk u)):=bC.eh (x:=()) trivial λ_ _=>rfl
theorem aAI{J e:Int}(h:0<=e):(if e<(if J<0 then 0 else J)then e else(if J<0 then 0 else J))=max 0 (min J e):=by split<;>split at* <;>omega
theorem aAJ{J e:Int}(h:0<=e):(if 0<(if e<J then e else J)then(if e<J then e else J)else 0)=max 0 (min J e):=by split<;>split at* <;>omega
def oP(u:bg)(gH:List Int)(d:Nat):Int:=if gH.length=u.aZ.length then max 0 (min (gH.getD d 0) (sn u d))else sn u d
theorem Eo{u:bg}{gH:List Int}:g8 u gH=iV u.aZ.length (oP u gH):=rfl
theorem tN{l:List Int}: ∀r∈l.map (λx=>[Y x]),r.length=1/\ ∀v∈r,ha v=true:= λr aw=>by obtain⟨x,_,rfl⟩:=hn.1 aw;exact⟨rfl,λv ad=>by simp at ad;subst ad;rfl⟩
theorem tO{l:List Int}:(l.map (λx=>[Y x])).flatten=l.map Y:=by
  induction l with
  |nil=>rfl
  |cons x l cx=>simp[cx]
theorem Ld{l:List Int}: ∀v∈l.map Y,ha v=true:= λv ad=>by obtain⟨x,_,rfl⟩:=hn.1 ad;rfl
theorem aBI{u:bg}(h:eF u){gH:List Int}:fi al 63 [.agg (aL u).toArray,cp gH] g0 λv bD=> ∃o,v=dm o u.aZ.length 1/\bD.X o=some ⟨(g8 u gH).map Y,true⟩:=by
  refine dD (aC:=⟨[BL u h.fO],[]⟩) afw (by kernel_rfl) (by simp[MV]) ?_;have ad:=h.ok.vR;have k1:=h.ok.pr;have gh:(u.aZ.length:Int)*8<=140737488355328/\u.aZ.length<=140737488355328/\(u.aZ.length:Int)<=140737488355328/\(u.aZ.length:Int)<=9223372036854775807:=by omega
  simp(disch:=first|omega|simp only[aO];omega) [MV,afv,afx,afy,afz,afA,aL,ad,gh,-O,-U,-N,-S,-List.map_map];refine h9 (aC:=⟨[BL u h.fO],[]⟩) (λi A t=>t.X 0=some ⟨aL u,true⟩/\t.X 5=some ⟨iV u.aZ.length (λj=>if j<i then Y (oP u gH j)else Y 0),true⟩/\A 1=cp gH/\A 2=cw 0/\A 5=dm 5 u.aZ.length 1/\A 15=Y u.aZ.length/\A 16=Y i) u.aZ.length ?_ ?_ 0 _ _ (ht _) ⟨by simp(disch:=first|omega|simp only[aO];omega) [aL,-O,-U,-N,-S,-List.map_map],by simp(disch:=first|omega|simp only[aO];omega) [-O,-U,-N,-S,-List.map_map];exact N5,by simp,by simp,by simp,by simp,by simp⟩
  · rintro i A t ai ⟨aN,e9,ba,eP,cq,oS,mu⟩ cS bm;obtain⟨x,G⟩:=kp ai;have fE:=(dO.1 G).2;obtain⟨bu,bN,cn,eW,fU⟩:=h.ok.Km i x G;obtain⟨m,ax⟩:=jS bu;have wH:m<u.bf.length:=(by omega);obtain⟨y,af⟩:=kp wH;have mG:=(dO.1 af).2;have gP:sn u i=y.ext:=(by simp only[sn,G,ax,ot,af]);have hb:=h.ok.NL m y af;have b6:(i:Int)<u.aZ.length:=(by omega);have a8:(m:Int)<u.bf.length:=(by omega);have p1:i+1<=u.aZ.length:=ai;have cg:=gY (n:=i) (by omega);have fl:=a6 aN;have w3:=a6 e9;by_cases aw:gH.length=u.aZ.length
    · have p7:(gH.length:Int)=u.aZ.length:=(by omega);have CN:i<gH.length:=(by omega);have amG:(i:Int)<gH.length:=(by omega);obtain⟨J,bK⟩:=kp CN;have Ry:=(dO.1 bK).2;have wJ:oP u gH i=max 0 (min J y.ext):=(by unfold oP;rw[if_pos aw,gP,la,bK];rfl);simp(disch:=first|omega|simp only[aO];omega) [M0,MW,MX,MY,MZ,aL,gr,gE,ba,eP,cq,oS,mu,aN,e9,b6,a8,cg,fE,ax,mG,aw,Ry,na,zc,F4,p1,-O,-U,-N,-S,-List.map_map];refine bm _ _ ⟨by simp(disch:=first|omega|simp only[aO];omega) [aN,aL,-O,-U,-N,-S,-List.map_map],?_,by simp[ba],by simp[eP],by simp[cq],by simp[oS],by simp⟩;simp(disch:=first|omega|simp only[aO];omega) [-O,-U,-N,-S,-List.map_map];refine oO λj bj=> ?_;by_cases e:j=i
      · subst e;have nx:j<j+1:=(by omega);rw[if_pos rfl,if_pos nx,wJ];exact congrArg Y (aAI (by omega))
      · by_cases c:j<i
        · have bO:j<i+1:=(by omega);simp only[if_neg e,if_pos c,if_pos bO]
        · have bO: ¬j<i+1:=(by omega);simp only[if_neg e,if_neg c,if_neg bO]
    · have p7: ¬(gH.length:Int)=u.aZ.length:=(by omega);have wJ:oP u gH i=y.ext:=(by unfold oP;rw[if_neg aw,gP]);simp(disch:=first|omega|simp only[aO];omega) [M0,MW,MX,MY,MZ,aL,gr,gE,ba,eP,cq,oS,mu,aN,e9,b6,a8,cg,fE,ax,mG,p7,zc,p1,-O,-U,-N,-S,-List.map_map];refine bm _ _ ⟨by simp(disch:=first|omega|simp only[aO];omega) [aN,aL,-O,-U,-N,-S,-List.map_map],?_,by simp[ba],by simp[eP],by simp[cq],by simp[oS],by simp⟩;simp(disch:=first|omega|simp only[aO];omega) [-O,-U,-N,-S,-List.map_map];refine oO λj bj=> ?_;by_cases e:j=i
      · subst e;have nx:j<j+1:=(by omega);rw[if_pos rfl,if_pos nx,wJ]
      · by_cases c:j<i
        · have bO:j<i+1:=(by omega);simp only[if_neg e,if_pos c,if_pos bO]
        · have bO: ¬j<i+1:=(by omega);simp only[if_neg e,if_neg c,if_neg bO]
  · rintro A t ⟨aN,e9,ba,eP,cq,oS,mu⟩;simp(disch:=first|omega|simp only[aO];omega) [M0,MW,MX,MY,MZ,cq,oS,mu,-O,-U,-N,-S,-List.map_map];rw[e9,Eo,IG];rw[oO (g:= λj=>Y (oP u gH j)) λj bj=>if_pos bj]
theorem aBH{u:bg}(h:eF u){gH:List Int}:bH al 63 [.agg (aL u).toArray,cp gH] (cp (g8 u gH)):=
  VY (n:=u.aZ.length) (by rw[j5,Eo,N4]) tN (by rw[tO];exact aBI h)
theorem N7{u:bg}{gH:List Int}:(g8 u gH).length=u.aZ.length:=by rw[Eo,N4]
theorem aCy{u:bg}(h:eF u){gH:List Int}:fi al 52 [.agg (aL u).toArray,cp gH] g0 λv bD=> ∃o,v=dm o u.aZ.length 1/\bD.X o=some ⟨(g8 u gH).map Y,true⟩:=by
  refine dD (aC:=⟨[sS u h.fO],[]⟩) Tj (by kernel_rfl) (by simp[Dx]) ?_;have ad:=h.ok.vR;have k1:=h.ok.pr;simp(disch:=first|omega|simp only[aO];omega) [Dx,Ti,Tk,Tl,Tm,Tn,aL,ad,-O,-U,-N,-S,-List.map_map];refine ES (d:=5) (J:=1) (by simp) ?_;refine h9 (aC:=⟨[sS u h.fO],[]⟩) (λi A t=>t.X 0=some ⟨aL u,true⟩/\(∃o,o≠0/\A 5=dm o i 1/\t.X o=some ⟨iV i (λj=>Y (oP u gH j)),true⟩)/\A 1=cp gH/\A 2=cw 0/\A 6=Y i) u.aZ.length ?_ ?_ 0 _ _ (ht _) ⟨by simp(disch:=first|omega|simp only[aO];omega) [aL,-O,-U,-N,-S,-List.map_map],⟨2,by decide,by simp,by simp(disch:=first|omega|simp only[aO];omega) [iV,-O,-U,-N,-S,-List.map_map]⟩,by simp,by simp,by simp⟩
  · rintro i A t ai ⟨aN,⟨o,aE,cq,bU⟩,ba,eP,ft⟩ cS bm;obtain⟨x,G⟩:=kp ai;have fE:=(dO.1 G).2;obtain⟨bu,bN,cn,eW,fU⟩:=h.ok.Km i x G;obtain⟨m,ax⟩:=jS bu;have wH:m<u.bf.length:=(by omega);obtain⟨y,af⟩:=kp wH;have mG:=(dO.1 af).2;have gP:sn u i=y.ext:=(by simp only[sn,G,ax,ot,af]);have hb:=h.ok.NL m y af;have b6:(i:Int)<u.aZ.length:=(by omega);have a8:(m:Int)<u.bf.length:=(by omega);have p1:i+1<=u.aZ.length:=ai;have cg:=gY (n:=i) (by omega);have fl:=a6 aN;have cB:=a6 bU;have gh:(i+1)*8<=140737488355328/\i<=9223372036854775806:=(by omega);by_cases aw:gH.length=u.aZ.length
    · have p7:(gH.length:Int)=u.aZ.length:=(by omega);have CN:i<gH.length:=(by omega);have amG:(i:Int)<gH.length:=(by omega);obtain⟨J,bK⟩:=kp CN;have Ry:=(dO.1 bK).2;have wJ:oP u gH i=max 0 (min J y.ext):=(by unfold oP;rw[if_pos aw,gP,la,bK];rfl);have fR: ¬y.ext<0:=(by omega);simp(disch:=first|omega|simp only[aO];omega) [DA,Dy,Dz,aL,gr,gE,ba,eP,cq,ft,aN,bU,b6,a8,cg,fE,ax,mG,aw,Ry,gh,-O,-U,-N,-S,-List.map_map];refine bm _ _ ⟨by simp(disch:=first|omega|simp only[aO];omega) [aN,aL,-O,-U,-N,-S,-List.map_map],⟨t.next+3,by omega,by simp,?_⟩,by simp[ba],by simp[eP],by simp⟩;rw[eD (by simp),jT (by simp),N6,wJ];simp only[lV,fB.mk.injEq,and_true,List.append_cancel_left_eq,s7];exact congrArg Y (aAJ (by omega))
    · have p7: ¬(gH.length:Int)=u.aZ.length:=(by omega);have wJ:oP u gH i=y.ext:=(by unfold oP;rw[if_neg aw,gP]);simp(disch:=first|omega|simp only[aO];omega) [DA,Dy,Dz,aL,gr,gE,ba,eP,cq,ft,aN,bU,b6,a8,cg,fE,ax,mG,p7,gh,-O,-U,-N,-S,-List.map_map];refine bm _ _ ⟨by simp(disch:=first|omega|simp only[aO];omega) [aN,aL,-O,-U,-N,-S,-List.map_map],⟨t.next+3,by omega,by simp,?_⟩,by simp[ba],by simp[eP],by simp⟩;rw[eD (by simp),jT (by simp),N6,wJ]
  · rintro A t ⟨aN,⟨o,aE,cq,bU⟩,ba,eP,ft⟩;have fl:=a6 aN;simp(disch:=first|omega|simp only[aO];omega) [DA,Dy,Dz,aL,aN,eP,cq,ft,-O,-U,-N,-S,-List.map_map];rw[bU,Eo,IG]
theorem aCx{u:bg}(h:eF u){gH:List Int}:bH al 52 [.agg (aL u).toArray,cp gH] (cp (g8 u gH)):=
  VY (n:=u.aZ.length) (by rw[j5,N7]) tN (by rw[tO];exact aCy h)
noncomputable def Vg(u:bg)(h:eF u):bC al:= .dN 63 (List Int) (λ_=>True) (λx=>[.agg (aL u).toArray,cp x]) (λx=>cp (g8 u x)) λ_ _=>aBH h
@[simp] theorem aPa{u:bg}{h:eF u}:(Vg u h).f=63:=rfl
@[simp] theorem aPb{u:bg}{h:eF u}{l:List Int}:(Vg u h).fn [.agg #[Y u.ext,aj (u.cN.map gZ) 4,aj (u.bf.map gE) 4,aj (u.bP.map ez) 7,aj (u.aZ.map gr) 3,aj (u.cK.map e5) 17,aj (u.cm.map hx) 2],aj (l.map λx=>[Y x]) 1]=some (cp (g8 u l)):=bC.eh (x:=l) trivial λy af=>by simpa using af
noncomputable def Oh(u:bg)(h:eF u):bC al:= .dN 52 (List Int) (λ_=>True) (λx=>[.agg (aL u).toArray,cp x]) (λx=>cp (g8 u x)) λ_ _=>aCx h
@[simp] theorem aPA{u:bg}{h:eF u}:(Oh u h).f=52:=rfl
@[simp] theorem aPB{u:bg}{h:eF u}{l:List Int}:(Oh u h).fn [.agg #[Y u.ext,aj (u.cN.map gZ) 4,aj (u.bf.map gE) 4,aj (u.bP.map ez) 7,aj (u.aZ.map gr) 3,aj (u.cK.map e5) 17,aj (u.cm.map hx) 2],aj (l.map λx=>[Y x]) 1]=some (cp (g8 u l)):=bC.eh (x:=l) trivial λy af=>by simpa using af
def fA(r:List Int):List Value:=[cp r]
abbrev dW(L:List (List Int)):Value:=aj (L.map fA) 1
@[simp] theorem aOp{l dh:List (List Int)}:l.map fA=dh.map fA↔l=dh:=xa λx y h=>by simpa[fA]using h
def hu(L:List (List Int)):Prop:=L.length<=1000/\ ∀r∈L,r.length<=1000
theorem Kw{u:bg}(h:nV u){v:Nat}(ad:v<u.cm.length): ∃x p q,u.cm[v]?=some x/\x.qi=(p:Nat)/\p<u.cK.length/\u.cK[p]?=some q/\kY u v=q.k+q.m/\1<=q.k/\0<=q.m/\q.k+q.m<=8:=by
  obtain⟨x,G⟩:=kp ad;obtain⟨a,b⟩:=h.nh v x G;obtain⟨p,ab⟩:=jS a;have kd:p<u.cK.length:=by omega
  obtain⟨q,bd⟩:=kp kd;have az:=(h.qi p q bd).1;simp only[lN,a1,e2]at az;have E:=wM az.1;have I:=wM az.2.1;refine⟨x,p,q,G,ab,kd,bd,?_,E.1,I.1,az.2.2.1⟩;have e:x.qi.toNat=p:=by omega
  unfold kY;rw[G];simp only[e,bd]
theorem Kx{u:bg}(h:nV u){v:Nat}(ad:v<u.cm.length):1<=kY u v/\kY u v<=8:=by obtain⟨x,p,q,_,_,_,_,e,a,b,c⟩:=Kw h ad;rw[e];omega
theorem ai5{u:bg}(h:nV u){v:Nat}(ad:v<u.cm.length):bH al 187 [.agg (aL u).toArray,Y v] (Y (kY u v)):=by
  refine ei (dD (aC:=⟨[],[]⟩) abN (by kernel_rfl) (by simp[LK]) ?_);obtain⟨x,p,q,G,ab,kd,bd,aT,E,I,av⟩:=Kw h ad;have fE:=(dO.1 G).2;have Gj:=(dO.1 bd).2;have b6:(v:Int)<u.cm.length:=by omega
  have a8:(p:Int)<u.cK.length:=by omega
  have cg:IntKind.i64.wrap (q.k+q.m)=q.k+q.m:=fV (by omega) (by omega);rw[aT];simp(disch:=first|omega|simp only[aO];omega) [LK,abM,abO,abP,aL,hx,e5,b6,a8,fE,ab,Gj,cg,-O,-U,-N,-S,-List.map_map]
noncomputable def Ve(u:bg)(h:nV u):bC al:= .dN 187 Nat (λv=>v<u.cm.length) (λv=>[.agg (aL u).toArray,Y v]) (λv=>Y (kY u v)) λv ad=>ai5 h ad
@[simp] theorem aO8{u:bg}{h:nV u}:(Ve u h).f=187:=rfl
@[simp] theorem aO9{u:bg}{h:nV u}{v:Nat}(ad:v<u.cm.length):(Ve u h).fn [.agg #[Y u.ext,aj (u.cN.map gZ) 4,aj (u.bf.map gE) 4,aj (u.bP.map ez) 7,aj (u.aZ.map gr) 3,aj (u.cK.map e5) 17,aj (u.cm.map hx) 2],Y v]=some (Y (kY u v)):=bC.eh (x:=v) ad λy af=>by simp at af⊢;omega
theorem ai8{u:bg}(h:nV u){v:Nat}(ad:v<u.cm.length):bH al 132 [.agg (aL u).toArray,Y v] (Y (kY u v)):=by
  refine ei (dD (aC:=⟨[],[]⟩) aof (by kernel_rfl) (by simp[RY]) ?_);obtain⟨x,p,q,G,ab,kd,bd,aT,E,I,av⟩:=Kw h ad;have fE:=(dO.1 G).2;have Gj:=(dO.1 bd).2;have b6:(v:Int)<u.cm.length:=by omega
  have a8:(p:Int)<u.cK.length:=by omega
  have cg:IntKind.i64.wrap (q.k+q.m)=q.k+q.m:=fV (by omega) (by omega);rw[aT];simp(disch:=first|omega|simp only[aO];omega) [RY,aax,aay,aaz,aL,hx,e5,b6,a8,fE,ab,Gj,cg,-O,-U,-N,-S,-List.map_map]
noncomputable def Of(u:bg)(h:nV u):bC al:= .dN 132 Nat (λv=>v<u.cm.length) (λv=>[.agg (aL u).toArray,Y v]) (λv=>Y (kY u v)) λv ad=>ai8 h ad
@[simp] theorem aPq{u:bg}{h:nV u}:(Of u h).f=132:=rfl
@[simp] theorem aPr{u:bg}{h:nV u}{v:Nat}(ad:v<u.cm.length):(Of u h).fn [.agg #[Y u.ext,aj (u.cN.map gZ) 4,aj (u.bf.map gE) 4,aj (u.bP.map ez) 7,aj (u.aZ.map gr) 3,aj (u.cK.map e5) 17,aj (u.cm.map hx) 2],Y v]=some (Y (kY u v)):=bC.eh (x:=v) ad λy af=>by simp at af⊢;omega
def nr(n:Nat)(x:Int):Bool:=decide (x< -1)||decide ((n:Int)<=x)
def lY(n:Nat)(r:List Int):Int:=match r.findIdx? (nr n)with|some i=>i|none=> -1
theorem Xm{n i:Nat}{r:List Int}(ai:i<r.length)(hb:nr n r[i]=true)(h: ∀j (bj:j<r.length),j<i->nr n r[j]=false):lY n r=i:=by
  unfold lY;have:r.findIdx? (nr n)=some i:=by rw[Pe];exact⟨ai,hb,λj bj=>by rw[h j (by omega) bj];simp⟩
  rw[this]
theorem Xo{n:Nat}{r:List Int}(h: ∀j (bj:j<r.length),nr n r[j]=false):lY n r= -1:=by
  unfold lY;have:r.findIdx? (nr n)=none:=by rw[Ph];intro x G;obtain⟨j,bj,rfl⟩:=j4 G;exact h j bj
  rw[this]
theorem aj0{n:Nat}{r:List Int}:(r.all λx=>decide (-1<=x)&&decide (x<n))=decide (lY n r= -1):=by
  have e: ∀x:Int,(decide (-1<=x)&&decide (x<n))= !nr n x:= λx=>by unfold nr;rw[Bool.not_or,<-decide_not,<-decide_not];congr 1<;>exact decide_eq_decide.2 (by omega)
  cases aT:r.findIdx? (nr n)with
  | none=>have E:lY n r= -1:=(by unfold lY;rw[aT]);rw[Ph]at aT;rw[E,decide_eq_true rfl,eQ];intro x G;rw[e,aT x G];rfl
  | some i=>have E:lY n r=i:=(by unfold lY;rw[aT]);rw[Pe]at aT;obtain⟨ai,hb,_⟩:=aT;have I: ¬((i:Int)= -1):=(by omega);rw[E,zH I,zF];exact⟨r[i],jQ ai,by rw[e,hb];simp⟩
theorem aB3{u:bg}{r:List Int}(aw:r.length<=1000):bH al 143 [.agg (aL u).toArray,cp r] (Y (lY u.aZ.length r)):=by
  refine ei (dD (aC:=⟨[],[]⟩) aon (by kernel_rfl) (by simp[Sg]) ?_);simp(disch:=first|omega|simp only[aO];omega) [Sg,aaW,aaX,aL,-O,-U,-N,-S,-List.map_map];refine h9 (aC:=⟨[],[]⟩) (λi A t=>(∀j (bj:j<r.length),j<i->nr u.aZ.length r[j]=false)/\t.X 0=some ⟨aL u,true⟩/\A 1=cp r/\A 2=cw 0/\A 5=Y i) r.length ?_ ?_ 0 _ _ (ht _) ⟨λj bj h=>absurd h (xN _),by simp(disch:=first|omega|simp only[aO];omega) [aL,-O,-U,-N,-S,-List.map_map],by simp,by simp,by simp⟩
  · rintro i A t ai ⟨hX,aN,ba,eP,cq⟩ cS bm;obtain⟨x,G⟩:=kp ai;have fE:=(dO.1 G).2;have b6:(i:Int)<r.length:=(by omega);have cg:=gY (n:=i) (by omega);have fl:=a6 aN;have mU:nr u.aZ.length x=true->lY u.aZ.length r=i:= λhb=>Xm ai (by rw[fE];exact hb) hX;by_cases bO:x< -1
    · have e:=mU (by simp[nr,bO]);simp(disch:=first|omega|simp only[aO];omega) [GX,C9,Da,ba,cq,b6,fE,bO,e,-O,-U,-N,-S,-List.map_map]
    · by_cases cA:(u.aZ.length:Int)<=x
      · have e:=mU (by simp[nr,cA]);simp(disch:=first|omega|simp only[aO];omega) [GX,C9,Da,aL,ba,eP,cq,aN,b6,fE,bO,cA,e,-O,-U,-N,-S,-List.map_map]
      · simp(disch:=first|omega|simp only[aO];omega) [GX,C9,Da,aL,ba,eP,cq,aN,b6,fE,bO,cA,cg,-O,-U,-N,-S,-List.map_map];refine bm _ _ ⟨λj bj F8=> ?_,by simp(disch:=first|omega|simp only[aO];omega) [aN,aL,-O,-U,-N,-S,-List.map_map],by simp[ba],by simp[eP],by simp⟩;by_cases e:j=i
        · subst e;rw[fE];simp[nr,bO,cA]
        · exact hX j bj (by omega)
  · rintro A t ⟨hX,aN,ba,eP,cq⟩;have e:=Xo λj bj=>hX j bj bj;simp(disch:=first|omega|simp only[aO];omega) [GX,C9,Da,Da,C9,ba,cq,e,-O,-U,-N,-S,-List.map_map]
noncomputable def Oe(u:bg):bC al:= .dN 143 (List Int) (λr=>r.length<=1000) (λr=>[.agg (aL u).toArray,cp r]) (λr=>Y (lY u.aZ.length r)) λr aw=>aB3 aw
@[simp] theorem aPm{u:bg}:(Oe u).f=143:=rfl
@[simp] theorem aPn{u:bg}{r:List Int}(aw:r.length<=1000):(Oe u).fn [.agg #[Y u.ext,aj (u.cN.map gZ) 4,aj (u.bf.map gE) 4,aj (u.bP.map ez) 7,aj (u.aZ.map gr) 3,aj (u.cK.map e5) 17,aj (u.cm.map hx) 2],aj (r.map λx=>[Y x]) 1]=some (Y (lY u.aZ.length r)):=bC.eh (x:=r) aw λy af=>by simpa using af
theorem Ep{u:bg}{v:Nat}{r:List Int}:zd u v r=(decide ((r.length:Int)=kY u v)&&decide (lY u.aZ.length r= -1)):=by unfold zd;rw[aj0]
theorem Xn{n:Nat}{r:List Int}:lY n r= -1\/0<=lY n r:=by
  unfold lY;split
  · right;omega
  · left;rfl
theorem Oz{u:bg}{L:List (List Int)}{v:Nat}{r:List Int}(G:L[v]?=some r)(h:zd u v r=false):kP u L=false:=by unfold kP;rw[zC];right;rw[zF];exact⟨v,ou.2 (dO.1 G).1,by rw[G];simp[h]⟩
theorem ahI{u:bg}{L:List (List Int)}(aB:L.length=u.cm.length)(h: ∀(v:Nat) r,L[v]?=some r->zd u v r=true):kP u L=true:=by unfold kP;rw[a1];refine⟨decide_eq_true aB,?_⟩;rw[eQ];intro v ad;rw[ou]at ad;rw[cD ad];exact h v _ (cD ad)
theorem ahJ{u:bg}{L:List (List Int)}(aB: ¬L.length=u.cm.length):kP u L=false:=by unfold kP;rw[zH aB];rfl
theorem aCB{u:bg}(h:eF u){L:List (List Int)}(ck:hu L):bH al 88 [.agg (aL u).toArray,dW L] (.bool (kP u L)):=by
  refine ei (dD (aC:=⟨[sS u h.fO,Of u h.ok,Oe u],[]⟩) ayD (by kernel_rfl) (by simp[Ng]) ?_);have ad:=h.ok.vR;have yl:=h.ok.rV;by_cases aB:L.length=u.cm.length
  case neg=>have lI: ¬(L.length:Int)=u.cm.length:=(by omega);have e:=ahJ aB;simp(disch:=first|omega|simp only[aO];omega) [Ng,TG,TH,aL,ad,lI,e,-O,-U,-N,-S,-List.map_map]
  have lI:(L.length:Int)=u.cm.length:=by omega
  simp(disch:=first|omega|simp only[aO];omega) [Ng,TG,TH,afE,aL,ad,lI,-O,-U,-N,-S,-List.map_map];refine h9 (aC:=⟨[sS u h.fO,Of u h.ok,Oe u],[]⟩) (λi A t=>(∀(v:Nat) r,v<i->L[v]?=some r->zd u v r=true)/\t.X 0=some ⟨aL u,true⟩/\A 1=dW L/\A 2=cw 0/\A 5=Y i) L.length ?_ ?_ 0 _ _ (ht _) ⟨λv r ad=>absurd ad (xN _),by simp(disch:=first|omega|simp only[aO];omega) [aL,-O,-U,-N,-S,-List.map_map],by simp,by simp,by simp⟩
  · rintro i A t ai ⟨hX,aN,ba,eP,cq⟩ cS bm;obtain⟨r,G⟩:=kp ai;have fE:=(dO.1 G).2;have b6:(i:Int)<L.length:=(by omega);have al5:i<u.cm.length:=(by omega);have cg:=gY (n:=i) (by omega);have fl:=a6 aN;have tG:=ck.2 r (gJ G);by_cases bO:(r.length:Int)=kY u i
    case neg=>have e:=Oz G (by rw[Ep,zH bO];rfl);simp(disch:=first|omega|simp only[aO];omega) [H2,DW,DX,aL,fA,ba,eP,cq,aN,b6,fE,bO,e,-O,-U,-N,-S,-List.map_map]
    rcases Xn (n:=u.aZ.length) (r:=r)with cA|cA
    · have gz: ¬0<=lY u.aZ.length r:=(by omega);simp(disch:=first|omega|simp only[aO];omega) [H2,DW,DX,aL,fA,ba,eP,cq,aN,b6,fE,bO,gz,cg,-O,-U,-N,-S,-List.map_map];refine bm _ _ ⟨λv dL ad hQ=> ?_,by simp(disch:=first|omega|simp only[aO];omega) [aN,aL,-O,-U,-N,-S,-List.map_map],by simp[ba],by simp[eP],by simp⟩;by_cases e:v=i
      · subst e;rw[G]at hQ;cases hQ;rw[Ep,decide_eq_true bO,decide_eq_true cA];rfl
      · exact hX v dL (by omega) hQ
    · have gz: ¬lY u.aZ.length r= -1:=(by omega);have e:=Oz G (by rw[Ep,decide_eq_true bO,zH gz];rfl);simp(disch:=first|omega|simp only[aO];omega) [H2,DW,DX,aL,fA,ba,eP,cq,aN,b6,fE,bO,cA,e,-O,-U,-N,-S,-List.map_map]
  · rintro A t ⟨hX,aN,ba,eP,cq⟩;have e:=ahI aB λv r G=>hX v r (dO.1 G).1 G;have ev: ¬(((u.cm.length:Nat):Int)<u.cm.length):=(by omega);simp(disch:=first|omega|simp only[aO];omega) [H2,DW,DX,DX,DW,ba,cq,e,-O,-U,-N,-S,-List.map_map]
def qn(u:bg)(L:List (List Int))(v:Nat):Value:=match L[v]? with
  |some r=>if¬(r.length:Int)=kY u v then .tuple #[.agg #[Y 1,Y v,Y r.length],.bool true]else if lY u.aZ.length r= -1 then .tuple #[.agg #[Y 0,Y 0,Y 0],.bool false]else .tuple #[.agg #[Y 1,Y v,Y (lY u.aZ.length r)],.bool true]
  |none=>undef
theorem aDN{u:bg}(h:eF u){L:List (List Int)}(ck:hu L){v:Nat}(ad:v<L.length/\v<u.cm.length):bH al 133 [.agg (aL u).toArray,dW L,Y v] (qn u L v):=by
  refine ei (dD (aC:=⟨[Ve u h.ok],[]⟩) aaA (by kernel_rfl) (by simp[GO]) ?_);obtain⟨At,yq⟩:=ad;obtain⟨r,G⟩:=kp At;have fE:=(dO.1 G).2;have b6:(v:Int)<L.length:=by omega
  have tG:=ck.2 r (gJ G);by_cases bO:(r.length:Int)=kY u v
  case neg=>have e:qn u L v= .tuple #[.agg #[Y 1,Y v,Y r.length],.bool true]:=(by unfold qn;rw[G];simp[bO]);rw[e];simp(disch:=first|omega|simp only[aO];omega) [GO,RZ,R0,aL,fA,fE,b6,bO,-O,-U,-N,-S,-List.map_map]
  simp(disch:=first|omega|simp only[aO];omega) [GO,RZ,R0,aaB,aL,fA,fE,b6,bO,-O,-U,-N,-S,-List.map_map];refine h9 (aC:=⟨[],[]⟩) (λi A t=>(∀j (bj:j<r.length),j<i->nr u.aZ.length r[j]=false)/\t.X 0=some ⟨aL u,true⟩/\t.X 1=some ⟨[Y 0,Y 0,Y 0],true⟩/\A 2=Y v/\A 3=cw 0/\A 6=cw 1/\A 29=cp r/\A 30=Y r.length/\A 31=Y i) r.length ?_ ?_ 0 _ _ (ht _) ⟨λj bj h=>absurd h (xN _),by simp(disch:=first|omega|simp only[aO];omega) [aL,-O,-U,-N,-S,-List.map_map],by simp(disch:=first|omega|simp only[aO];omega) [-O,-U,-N,-S,-List.map_map],by simp,by simp,by simp,by simp,by simp[bO],by simp⟩
  · rintro i A t ai ⟨hX,aN,aK,eP,eL,ft,IM,Es,IN⟩ cS bm;obtain⟨x,af⟩:=kp ai;have mG:=(dO.1 af).2;have a8:(i:Int)<r.length:=(by omega);have cg:=gY (n:=i) (by omega);have fl:=a6 aN;have gu:=a6 aK;have mU:nr u.aZ.length x=true->qn u L v= .tuple #[.agg #[Y 1,Y v,Y i],.bool true]:= λhb=>by
      have e:=Xm ai (by rw[mG];exact hb) hX;have cu: ¬(i:Int)= -1:=(by omega);unfold qn;rw[G];simp only[bO,not_true_eq_false,if_false,e,if_neg cu]
    by_cases g5:x< -1
    · rw[mU (by simp[nr,g5])];simp(disch:=first|omega|simp only[aO];omega) [GP,C3,C4,C5,C6,eP,ft,IM,Es,IN,aK,a8,mG,g5,-O,-U,-N,-S,-List.map_map]
    · by_cases gN:(u.aZ.length:Int)<=x
      · rw[mU (by simp[nr,gN])];simp(disch:=first|omega|simp only[aO];omega) [GP,C3,C4,C5,C6,aL,eP,eL,ft,IM,Es,IN,aN,aK,a8,mG,g5,gN,-O,-U,-N,-S,-List.map_map]
      · simp(disch:=first|omega|simp only[aO];omega) [GP,C3,C4,C5,C6,aL,eL,IM,Es,IN,aN,a8,mG,g5,gN,cg,-O,-U,-N,-S,-List.map_map];refine bm _ _ ⟨λj bj F8=> ?_,by simp(disch:=first|omega|simp only[aO];omega) [aN,aL,-O,-U,-N,-S,-List.map_map],by simp(disch:=first|omega|simp only[aO];omega) [aK,-O,-U,-N,-S,-List.map_map],by simp[eP],by simp[eL],by simp[ft],by simp[IM],by simp[Es],by simp⟩;by_cases e:j=i
        · subst e;rw[mG];simp[nr,g5,gN]
        · exact hX j bj (by omega)
  · rintro A t ⟨hX,aN,aK,eP,eL,ft,IM,Es,IN⟩;have e:=Xo λj bj=>hX j bj bj;have aU:qn u L v= .tuple #[.agg #[Y 0,Y 0,Y 0],.bool false]:=(by unfold qn;rw[G];simp only[bO,not_true_eq_false,if_false,e,if_true]);have gu:=a6 aK;rw[aU];simp(disch:=first|omega|simp only[aO];omega) [GP,C3,C4,C5,C6,C6,C3,C4,C5,ft,Es,IN,aK,-O,-U,-N,-S,-List.map_map]
noncomputable def Ol(u:bg)(h:eF u)(L:List (List Int))(ck:hu L):bC al:= .dN 133 Nat (λv=>v<L.length/\v<u.cm.length) (λv=>[.agg (aL u).toArray,dW L,Y v]) (λv=>qn u L v) λv ad=>aDN h ck ad
@[simp] theorem aP1{u:bg}{h:eF u}{L:List (List Int)}{ck:hu L}:(Ol u h L ck).f=133:=rfl
@[simp] theorem aP2{u:bg}{h:eF u}{L:List (List Int)}{ck:hu L}{v:Nat}(ad:v<L.length/\v<u.cm.length):(Ol u h L ck).fn [.agg #[Y u.ext,aj (u.cN.map gZ) 4,aj (u.bf.map gE) 4,aj (u.bP.map ez) 7,aj (u.aZ.map gr) 3,aj (u.cK.map e5) 17,aj (u.cm.map hx) 2],aj (L.map fA) 1,Y v]=some (qn u L v):=bC.eh (x:=v) ad λy af=>by simp at af⊢;omega
theorem aBJ{u:bg}(h:eF u){L:List (List Int)}(ck:hu L):bH al 86 [.agg (aL u).toArray,dW L] (.bool (kP u L)):=by
  refine ei (dD (aC:=⟨[BL u h.fO,Ol u h L ck],[]⟩) afC (by kernel_rfl) (by simp[HW]) ?_);have ad:=h.ok.vR;have yl:=h.ok.rV;by_cases aB:L.length=u.cm.length
  case neg=>have lI: ¬(L.length:Int)=u.cm.length:=(by omega);have e:=ahJ aB;simp(disch:=first|omega|simp only[aO];omega) [HW,TE,TF,aL,ad,lI,e,-O,-U,-N,-S,-List.map_map]
  have lI:(L.length:Int)=u.cm.length:=by omega
  simp(disch:=first|omega|simp only[aO];omega) [HW,TE,TF,afD,aL,ad,lI,-O,-U,-N,-S,-List.map_map];refine h9 (aC:=⟨[BL u h.fO,Ol u h L ck],[]⟩) (λi A t=>(∀(v:Nat) r,v<i->L[v]?=some r->zd u v r=true)/\t.X 0=some ⟨aL u,true⟩/\A 1=dW L/\A 2=cw 0/\A 20=Y L.length/\A 21=Y i) L.length ?_ ?_ 0 _ _ (ht _) ⟨λv r ad=>absurd ad (xN _),by simp(disch:=first|omega|simp only[aO];omega) [aL,-O,-U,-N,-S,-List.map_map],by simp,by simp,by simp[aB],by simp⟩
  · rintro i A t ai ⟨hX,aN,ba,eP,pA,nN⟩ cS bm;obtain⟨r,G⟩:=kp ai;have b6:(i:Int)<L.length:=(by omega);have al5:i<L.length/\i<u.cm.length:=(by omega);have cg:=gY (n:=i) (by omega);have fl:=a6 aN;by_cases bO:(r.length:Int)=kY u i
    case neg=>have e:=Oz G (by rw[Ep,zH bO];rfl);have aU:qn u L i= .tuple #[.agg #[Y 1,Y i,Y r.length],.bool true]:=(by unfold qn;rw[G];simp[bO]);simp(disch:=first|omega|simp only[aO];omega) [HX,DL,DM,DN,DO,DP,aL,ba,eP,pA,nN,aN,b6,e,aU,-O,-U,-N,-S,-List.map_map]
    rcases Xn (n:=u.aZ.length) (r:=r)with cA|cA
    · have aU:qn u L i= .tuple #[.agg #[Y 0,Y 0,Y 0],.bool false]:=(by unfold qn;rw[G];simp only[bO,not_true_eq_false,if_false,cA,if_true]);simp(disch:=first|omega|simp only[aO];omega) [HX,DL,DM,DN,DO,DP,aL,ba,eP,pA,nN,aN,b6,aU,cg,-O,-U,-N,-S,-List.map_map];refine bm _ _ ⟨λv dL ad hQ=> ?_,by simp(disch:=first|omega|simp only[aO];omega) [aN,aL,-O,-U,-N,-S,-List.map_map],by simp[ba],by simp[eP],by simp[pA],by simp⟩;by_cases e:v=i
      · subst e;rw[G]at hQ;cases hQ;rw[Ep,decide_eq_true bO,decide_eq_true cA];rfl
      · exact hX v dL (by omega) hQ
    · have gz: ¬lY u.aZ.length r= -1:=(by omega);have e:=Oz G (by rw[Ep,decide_eq_true bO,zH gz];rfl);have aU:qn u L i= .tuple #[.agg #[Y 1,Y i,Y (lY u.aZ.length r)],.bool true]:=(by unfold qn;rw[G];simp only[bO,not_true_eq_false,if_false,if_neg gz]);simp(disch:=first|omega|simp only[aO];omega) [HX,DL,DM,DN,DO,DP,aL,ba,eP,pA,nN,aN,b6,e,aU,-O,-U,-N,-S,-List.map_map]
  · rintro A t ⟨hX,aN,ba,eP,pA,nN⟩;have e:=ahI aB λv r G=>hX v r (dO.1 G).1 G;simp(disch:=first|omega|simp only[aO];omega) [HX,DL,DM,DN,DO,DP,DP,DL,DM,DN,DO,pA,nN,e,-O,-U,-N,-S,-List.map_map]
noncomputable def Vh(u:bg)(h:eF u):bC al:= .dN 86 (List (List Int)) hu (λL=>[.agg (aL u).toArray,dW L]) (λL=> .bool (kP u L)) λL ck=>aBJ h ck
@[simp] theorem aPc{u:bg}{h:eF u}:(Vh u h).f=86:=rfl
@[simp] theorem aPd{u:bg}{h:eF u}{L:List (List Int)}(ck:hu L):(Vh u h).fn [.agg #[Y u.ext,aj (u.cN.map gZ) 4,aj (u.bf.map gE) 4,aj (u.bP.map ez) 7,aj (u.aZ.map gr) 3,aj (u.cK.map e5) 17,aj (u.cm.map hx) 2],aj (L.map fA) 1]=some (.bool (kP u L)):=bC.eh (x:=L) ck λy af=>by simpa using af
noncomputable def Vm(u:bg)(h:eF u):bC al:= .dN 88 (List (List Int)) hu (λL=>[.agg (aL u).toArray,dW L]) (λL=> .bool (kP u L)) λL ck=>aCB h ck
@[simp] theorem aPC{u:bg}{h:eF u}:(Vm u h).f=88:=rfl
@[simp] theorem aPD{u:bg}{h:eF u}{L:List (List Int)}(ck:hu L):(Vm u h).fn [.agg #[Y u.ext,aj (u.cN.map gZ) 4,aj (u.bf.map gE) 4,aj (u.bP.map ez) 7,aj (u.aZ.map gr) 3,aj (u.cK.map e5) 17,aj (u.cm.map hx) 2],aj (L.map fA) 1]=some (.bool (kP u L)):=bC.eh (x:=L) ck λy af=>by simpa using af
def ko(L:List (List Int))(d:Nat):Nat:=L.flatten.count (d:Int)
theorem XQ{L:List (List Int)}{i d:Nat}{r:List Int}(G:L[i]?=some r):ko (L.take (i+1)) d=ko (L.take i) d+r.count (d:Int):=by unfold ko;rw[l6 G];simp
theorem PN{L:List (List Int)}{d:Nat}(h: ∀r∈L,r.length<=1000):ko L d<=L.length*1000:=by
  refine kC List.count_le_length ?_;induction L with
  |nil=>simp
  | cons r l cx=>have:=h r (by simp);have:=cx λx G=>h x (by simp[G]);simp only[oY,kT,pI];omega
theorem tY{u:bg}{L:List (List Int)}:hf u L=iV u.aZ.length λd=>((ko L d:Nat):Int):=rfl
theorem Bd{u:bg}{L:List (List Int)}:(hf u L).length=u.aZ.length:=by rw[tY,N4]
theorem aBy{u:bg}(h:eF u){L:List (List Int)}(ck:hu L):fi al 200 [.agg (aL u).toArray,dW L] g0 λv bD=> ∃o,v=dm o u.aZ.length 1/\bD.X o=some ⟨(hf u L).map Y,true⟩:=by
  refine dD (aC:=⟨[],[]⟩) acf (by kernel_rfl) (by simp[L1]) ?_;have k1:=h.ok.pr;have ad:=h.ok.vR;have gh:(u.aZ.length:Int)*8<=140737488355328/\u.aZ.length<=140737488355328/\(u.aZ.length:Int)<=140737488355328/\(u.aZ.length:Int)<=9223372036854775807:=by omega
  simp(disch:=first|omega|simp only[aO];omega) [L1,ace,acg,ach,aL,gh,-O,-U,-N,-S,-List.map_map];refine h9 (aC:=⟨[],[]⟩) (λi A t=>t.X 0=some ⟨aL u,true⟩/\t.X 5=some ⟨iV u.aZ.length (λj=>Y (ko (L.take i) j)),true⟩/\A 2=cw 0/\A 5=dm 5 u.aZ.length 1/\A 14=dW L/\A 15=Y L.length/\A 16=Y i) L.length ?_ ?_ 0 _ _ (ht _) ⟨by simp(disch:=first|omega|simp only[aO];omega) [aL,-O,-U,-N,-S,-List.map_map],by simp(disch:=first|omega|simp only[aO];omega) [-O,-U,-N,-S,-List.map_map];exact N5,by simp,by simp,by simp,by simp,by simp⟩
  · rintro i A t ai ⟨aN,e9,eP,cq,oR,oS,mu⟩ cS bm;obtain⟨r,G⟩:=kp ai;have fE:=(dO.1 G).2;have b6:(i:Int)<L.length:=(by omega);have tG:=ck.2 r (gJ G);have Ai:=ck.1;have cg:=gY (n:=i) (by omega);have fl:=a6 aN;have w3:=a6 e9;simp(disch:=first|omega|simp only[aO];omega) [Sw,Ss,St,Su,Sv,fA,oR,oS,mu,b6,fE,-O,-U,-N,-S,-List.map_map];refine h9 (aC:=⟨[],[]⟩) (λk A t=>t.X 0=some ⟨aL u,true⟩/\t.X 5=some ⟨iV u.aZ.length (λj=>Y (ko (L.take i) j+(r.take k).count (j:Int):Nat)),true⟩/\A 2=cw 0/\A 5=dm 5 u.aZ.length 1/\A 14=dW L/\A 15=Y L.length/\A 16=Y i/\A 20=cp r/\A 21=Y r.length/\A 22=Y k) r.length ?_ ?_ 0 _ _ (ht _) ⟨by simp(disch:=first|omega|simp only[aO];omega) [aN,aL,-O,-U,-N,-S,-List.map_map],by simp(disch:=first|omega|simp only[aO];omega) [e9,-O,-U,-N,-S,-List.map_map],by simp[eP],by simp[cq],by simp[oR],by simp[oS],by simp[mu],by simp[],by simp[],by simp[]⟩
    · rintro k A t aa ⟨aN,e9,eP,cq,oR,oS,mu,pA,nN,um⟩ cS bm;obtain⟨x,af⟩:=kp aa;have mG:=(dO.1 af).2;have a8:(k:Int)<r.length:=(by omega);have xB:=gY (n:=k) (by omega);have fl:=a6 aN;have w3:=a6 e9;have jG: ∀j:Nat,(r.take (k+1)).count (j:Int)=(r.take k).count (j:Int)+if x=j then 1 else 0:= λj=>by
        rw[l6 af,List.count_append];congr 1;by_cases e:x=j<;>simp[e]
      by_cases bO:0<=x
      · by_cases cA:x<u.aZ.length
        · obtain⟨dX,z9⟩:=jS bO;have cb:dX<u.aZ.length:=(by omega);have cG:dX+1<=u.aZ.length:=cb;have dn:(dX:Int)<u.aZ.length:=(by omega);have dd:=PN (L:=L.take i) (d:=dX) (λr aw=>ck.2 r (xJ aw));have ee:(L.take i).length<=1000:=(by rw[nU];omega);have gm:(r.take k).count (dX:Int)<=1000:=kC List.count_le_length (by rw[nU];omega);have gq:ko (L.take i) dX<=1000000:=kC dd (ri 1000 ee);have c8:IntKind.i64.wrap (((ko (L.take i) dX+(r.take k).count (dX:Int):Nat):Int)+1)=((ko (L.take i) dX+(r.take k).count (dX:Int):Nat):Int)+1:=fV (by omega) (by omega);rw[Int.natCast_add]at c8;simp(disch:=first|omega|simp only[aO];omega) [Hs,Hp,Hq,Hr,cq,pA,nN,um,e9,a8,mG,xB,z9,cG,dn,c8,na,zc,F4,-O,-U,-N,-S,-List.map_map];refine bm _ _ ⟨by simp(disch:=first|omega|simp only[aO];omega) [aN,aL,-O,-U,-N,-S,-List.map_map],?_,by simp[eP],by simp[cq],by simp[oR],by simp[oS],by simp[mu],by simp[pA],by simp[nN],by simp[]⟩;simp(disch:=first|omega|simp only[aO];omega) [-O,-U,-N,-S,-List.map_map];refine oO λj bj=> ?_;rw[jG j,z9];by_cases e:j=dX
          · subst e;simp;omega
          · have aJ: ¬(dX:Int)=j:=(by omega);simp only[if_neg e,if_neg aJ,Nat.add_zero]
        · simp(disch:=first|omega|simp only[aO];omega) [Hs,Hp,Hq,Hr,cq,pA,nN,um,a8,mG,xB,bO,cA,-O,-U,-N,-S,-List.map_map];refine bm _ _ ⟨by simp(disch:=first|omega|simp only[aO];omega) [aN,aL,-O,-U,-N,-S,-List.map_map],?_,by simp[eP],by simp[cq],by simp[oR],by simp[oS],by simp[mu],by simp[pA],by simp[nN],by simp[]⟩;simp(disch:=first|omega|simp only[aO];omega) [e9,-O,-U,-N,-S,-List.map_map];refine oO λj bj=> ?_;have aJ: ¬x=j:=(by omega);rw[jG j,if_neg aJ];simp
      · simp(disch:=first|omega|simp only[aO];omega) [Hs,Hp,Hq,Hr,pA,nN,um,a8,mG,xB,bO,-O,-U,-N,-S,-List.map_map];refine bm _ _ ⟨by simp(disch:=first|omega|simp only[aO];omega) [aN,aL,-O,-U,-N,-S,-List.map_map],?_,by simp[eP],by simp[cq],by simp[oR],by simp[oS],by simp[mu],by simp[pA],by simp[nN],by simp[]⟩;simp(disch:=first|omega|simp only[aO];omega) [e9,-O,-U,-N,-S,-List.map_map];refine oO λj bj=> ?_;have aJ: ¬x=j:=(by omega);rw[jG j,if_neg aJ];simp
    · rintro A t ⟨aN,e9,eP,cq,oR,oS,mu,pA,nN,um⟩;have fl:=a6 aN;have w3:=a6 e9;simp(disch:=first|omega|simp only[aO];omega) [Hs,Hp,Hq,Hr,mu,nN,um,cg,-O,-U,-N,-S,-List.map_map];refine bm _ _ ⟨by simp(disch:=first|omega|simp only[aO];omega) [aN,aL,-O,-U,-N,-S,-List.map_map],?_,by simp[eP],by simp[cq],by simp[oR],by simp[oS],by simp[]⟩;simp(disch:=first|omega|simp only[aO];omega) [e9,-O,-U,-N,-S,-List.map_map];refine oO λj bj=> ?_;rw[XQ G];simp
  · rintro A t ⟨aN,e9,eP,cq,oR,oS,mu⟩;have fl:=a6 aN;simp(disch:=first|omega|simp only[aO];omega) [Sw,Ss,St,Su,Sv,cq,oS,mu,-O,-U,-N,-S,-List.map_map];rw[e9,nk,tY,IG]
noncomputable def RC(u:bg)(h:eF u):ie al:= .FH 200 (List (List Int)) hu (λL=>[.agg (aL u).toArray,dW L]) (λ_=>u.aZ.length) (λ_=>1) (λL=>(hf u L).map Y) λ_ ck=>Wp (λv ad=>by simp at ad;rcases ad with rfl|rfl<;>rfl) Ld (aBy h ck)
@[simp] theorem aKG{u:bg}{h:eF u}:(RC u h).f=200:=rfl
@[simp] theorem aKH{u:bg}{h:eF u}{L:List (List Int)}{t:W}(ck:hu L):(RC u h).fn [.agg #[Y u.ext,aj (u.cN.map gZ) 4,aj (u.bf.map gE) 4,aj (u.bP.map ez) 7,aj (u.aZ.map gr) 3,aj (u.cK.map e5) 17,aj (u.cm.map hx) 2],aj (L.map fA) 1] t=some (.slice (some ⟨t.next,0,none⟩) u.aZ.length 1,(t.cf 1).a0 t.next (some ⟨(hf u L).map Y,true⟩)):=ie.Qh (x:=L) ck λy af=>by simpa using af
theorem aCh{u:bg}(h:eF u){L:List (List Int)}(ck:hu L):fi al 34 [.agg (aL u).toArray,dW L] g0 λv bD=> ∃o,v=dm o u.aZ.length 1/\bD.X o=some ⟨(hf u L).map Y,true⟩:=by
  refine dD (aC:=⟨[sS u h.fO],[]⟩) axD (by kernel_rfl) (by simp[SU]) ?_;have k1:=h.ok.pr;have ad:=h.ok.vR;have gh:(u.aZ.length:Int)*8<=140737488355328/\u.aZ.length<=140737488355328/\(u.aZ.length:Int)<=140737488355328/\(u.aZ.length:Int)<=9223372036854775807:=by omega
  simp(disch:=first|omega|simp only[aO];omega) [SU,aex,aey,aez,aeA,aL,ad,gh,-O,-U,-N,-S,-List.map_map];refine h9 (aC:=⟨[sS u h.fO],[]⟩) (λi A t=>t.X 0=some ⟨aL u,true⟩/\t.X 5=some ⟨iV u.aZ.length (λj=>Y (ko (L.take i) j)),true⟩/\A 1=dW L/\A 2=cw 0/\A 5=dm 5 u.aZ.length 1/\A 6=Y i) L.length ?_ ?_ 0 _ _ (ht _) ⟨by simp(disch:=first|omega|simp only[aO];omega) [aL,-O,-U,-N,-S,-List.map_map],by simp(disch:=first|omega|simp only[aO];omega) [-O,-U,-N,-S,-List.map_map];exact N5,by simp,by simp,by simp,by simp⟩
  · rintro i A t ai ⟨aN,e9,ba,eP,cq,ft⟩ cS bm;obtain⟨r,G⟩:=kp ai;have fE:=(dO.1 G).2;have b6:(i:Int)<L.length:=(by omega);have tG:=ck.2 r (gJ G);have Ai:=ck.1;have cg:=gY (n:=i) (by omega);have fl:=a6 aN;have w3:=a6 e9;simp(disch:=first|omega|simp only[aO];omega) [SX,SV,SW,ba,ft,b6,-O,-U,-N,-S,-List.map_map];refine h9 (aC:=⟨[sS u h.fO],[]⟩) (λk A t=>t.X 0=some ⟨aL u,true⟩/\t.X 5=some ⟨iV u.aZ.length (λj=>Y (ko (L.take i) j+(r.take k).count (j:Int):Nat)),true⟩/\A 1=dW L/\A 2=cw 0/\A 5=dm 5 u.aZ.length 1/\A 6=Y i/\A 7=Y k) r.length ?_ ?_ 0 _ _ (ht _) ⟨by simp(disch:=first|omega|simp only[aO];omega) [aN,aL,-O,-U,-N,-S,-List.map_map],by simp(disch:=first|omega|simp only[aO];omega) [e9,-O,-U,-N,-S,-List.map_map],by simp[ba],by simp[eP],by simp[cq],by simp[ft],by simp[]⟩
    · rintro k A t aa ⟨aN,e9,ba,eP,cq,ft,fa⟩ cS bm;obtain⟨x,af⟩:=kp aa;have mG:=(dO.1 af).2;have a8:(k:Int)<r.length:=(by omega);have xB:=gY (n:=k) (by omega);have fl:=a6 aN;have w3:=a6 e9;have jG: ∀j:Nat,(r.take (k+1)).count (j:Int)=(r.take k).count (j:Int)+if x=j then 1 else 0:= λj=>by
        rw[l6 af,List.count_append];congr 1;by_cases e:x=j<;>simp[e]
      by_cases bO:0<=x
      · by_cases cA:x<u.aZ.length
        · obtain⟨dX,z9⟩:=jS bO;have cb:dX<u.aZ.length:=(by omega);have cG:dX+1<=u.aZ.length:=cb;have dn:(dX:Int)<u.aZ.length:=(by omega);have dd:=PN (L:=L.take i) (d:=dX) (λr aw=>ck.2 r (xJ aw));have ee:(L.take i).length<=1000:=(by rw[nU];omega);have gm:(r.take k).count (dX:Int)<=1000:=kC List.count_le_length (by rw[nU];omega);have gq:ko (L.take i) dX<=1000000:=kC dd (ri 1000 ee);have c8:IntKind.i64.wrap (((ko (L.take i) dX+(r.take k).count (dX:Int):Nat):Int)+1)=((ko (L.take i) dX+(r.take k).count (dX:Int):Nat):Int)+1:=fV (by omega) (by omega);rw[Int.natCast_add]at c8;simp(disch:=first|omega|simp only[aO];omega) [HD,HC,fA,ba,cq,ft,fa,e9,b6,a8,fE,mG,xB,z9,cG,dn,c8,na,zc,F4,-O,-U,-N,-S,-List.map_map];refine bm _ _ ⟨by simp(disch:=first|omega|simp only[aO];omega) [aN,aL,-O,-U,-N,-S,-List.map_map],?_,by simp[ba],by simp[eP],by simp[cq],by simp[ft],by simp[]⟩;simp(disch:=first|omega|simp only[aO];omega) [-O,-U,-N,-S,-List.map_map];refine oO λj bj=> ?_;rw[jG j,z9];by_cases e:j=dX
          · subst e;simp;omega
          · have aJ: ¬(dX:Int)=j:=(by omega);simp only[if_neg e,if_neg aJ,Nat.add_zero]
        · simp(disch:=first|omega|simp only[aO];omega) [HD,HC,fA,ba,cq,ft,fa,b6,a8,fE,mG,xB,bO,cA,-O,-U,-N,-S,-List.map_map];refine bm _ _ ⟨by simp(disch:=first|omega|simp only[aO];omega) [aN,aL,-O,-U,-N,-S,-List.map_map],?_,by simp[ba],by simp[eP],by simp[cq],by simp[ft],by simp[]⟩;simp(disch:=first|omega|simp only[aO];omega) [e9,-O,-U,-N,-S,-List.map_map];refine oO λj bj=> ?_;have aJ: ¬x=j:=(by omega);rw[jG j,if_neg aJ];simp
      · simp(disch:=first|omega|simp only[aO];omega) [HD,HC,fA,ba,ft,fa,b6,a8,fE,mG,xB,bO,-O,-U,-N,-S,-List.map_map];refine bm _ _ ⟨by simp(disch:=first|omega|simp only[aO];omega) [aN,aL,-O,-U,-N,-S,-List.map_map],?_,by simp[ba],by simp[eP],by simp[cq],by simp[ft],by simp[]⟩;simp(disch:=first|omega|simp only[aO];omega) [e9,-O,-U,-N,-S,-List.map_map];refine oO λj bj=> ?_;have aJ: ¬x=j:=(by omega);rw[jG j,if_neg aJ];simp
    · rintro A t ⟨aN,e9,ba,eP,cq,ft,fa⟩;have fl:=a6 aN;have w3:=a6 e9;simp(disch:=first|omega|simp only[aO];omega) [HD,HC,fA,ba,ft,fa,b6,fE,cg,-O,-U,-N,-S,-List.map_map];refine bm _ _ ⟨by simp(disch:=first|omega|simp only[aO];omega) [aN,aL,-O,-U,-N,-S,-List.map_map],?_,by simp[ba],by simp[eP],by simp[cq],by simp[]⟩;simp(disch:=first|omega|simp only[aO];omega) [e9,-O,-U,-N,-S,-List.map_map];refine oO λj bj=> ?_;rw[XQ G];simp
  · rintro A t ⟨aN,e9,ba,eP,cq,ft⟩;have fl:=a6 aN;simp(disch:=first|omega|simp only[aO];omega) [SX,SV,SW,ba,cq,ft,-O,-U,-N,-S,-List.map_map];rw[e9,nk,tY,IG]
theorem aCg{u:bg}(h:eF u){L:List (List Int)}(ck:hu L):bH al 34 [.agg (aL u).toArray,dW L] (cp (hf u L)):=
  VY (n:=u.aZ.length) (by rw[j5,Bd]) tN (by rw[tO];exact aCh h ck)
noncomputable def Og(u:bg)(h:eF u):bC al:= .dN 34 (List (List Int)) hu (λL=>[.agg (aL u).toArray,dW L]) (λL=>cp (hf u L)) λL ck=>aCg h ck
@[simp] theorem aPs{u:bg}{h:eF u}:(Og u h).f=34:=rfl
@[simp] theorem aPt{u:bg}{h:eF u}{L:List (List Int)}(ck:hu L):(Og u h).fn [.agg #[Y u.ext,aj (u.cN.map gZ) 4,aj (u.bf.map gE) 4,aj (u.bP.map ez) 7,aj (u.aZ.map gr) 3,aj (u.cK.map e5) 17,aj (u.cm.map hx) 2],aj (L.map fA) 1]=some (cp (hf u L)):=bC.eh (x:=L) ck λy af=>by simpa using af
theorem aBr{u:bg}(h:eF u){L:List (List Int)}(ck:hu L):fi al 147 [.agg (aL u).toArray,dW L] g0 λv bD=> ∃o,v=dm o u.aZ.length 1/\bD.X o=some ⟨(hf u L).map Y,true⟩:=by refine dD (aC:=⟨[BL u h.fO],[RC u h]⟩) aa3 (by kernel_rfl) (by simp[Lx]) ?_;have ad:=h.ok.vR;simp(disch:=first|omega|simp only[aO];omega) [Lx,aa2,aa4,aa5,aL,ad,-O,-U,-N,-S,-List.map_map]
noncomputable def RB(u:bg)(h:eF u):ie al:= .FH 147 (List (List Int)) hu (λL=>[.agg (aL u).toArray,dW L]) (λ_=>u.aZ.length) (λ_=>1) (λL=>(hf u L).map Y) λ_ ck=>Wp (λv ad=>by simp at ad;rcases ad with rfl|rfl<;>rfl) Ld (aBr h ck)
@[simp] theorem aKE{u:bg}{h:eF u}:(RB u h).f=147:=rfl
@[simp] theorem aKF{u:bg}{h:eF u}{L:List (List Int)}{t:W}(ck:hu L):(RB u h).fn [.agg #[Y u.ext,aj (u.cN.map gZ) 4,aj (u.bf.map gE) 4,aj (u.bP.map ez) 7,aj (u.aZ.map gr) 3,aj (u.cK.map e5) 17,aj (u.cm.map hx) 2],aj (L.map fA) 1] t=some (.slice (some ⟨t.next,0,none⟩) u.aZ.length 1,(t.cf 1).a0 t.next (some ⟨(hf u L).map Y,true⟩)):=ie.Qh (x:=L) ck λy af=>by simpa using af
def M4:H:= .B (.D [a4 0 5 (.gM 1 0 [] []),z 1 6 0,iC 2 7 1 8 5 6,z 3 2 7]) (.aF)
def M3:H:= .B (.B (.D [z 0 3 0,a4 1 4 (.e8 .eql .slice (F 3) (.const (aX)))]) (.aM (F 4) (.B (.D [dV 0 2]) (.aF)) (.skip))) M4
def HU:H:=
  .B (
  .D [
 dV 0 2]) M3
def ayA:bM:=⟨8,[.bw 2],HU⟩
theorem ayB:bW al 71=some ayA:=by kernel_rfl
theorem Xy{args:List Value}{m:W}{cj:Value->W->Prop}(h:args.length<=8):gp al 71 args m cj=ia al HU (jI args) m (r1 [.bw 2] cj):=sY ayB h
def TD:H:= .B (.D [z 0 5 0,z 1 6 1,db 2 7 123 5 6,lL 3 8 7 0,z 4 4 8]) (.aF)
def TC:H:=
  .B (
  .D [
 cr 0 4 false]) TD
def HV:bM:=⟨9,[.bw 4],TC⟩
theorem afB:bW al 78=some HV:=by kernel_rfl
-- hg aJl for 119
def GM:H:= .B (.D [z 0 11 1,z 1 12 0,z 2 13 5,aY 3 14 1 12 13,ao 4 15 14,df 5 16 .eql (F 11) (F 15)]) (.aM (F 16) (.B (.D [z 0 17 5,z 1 4 17]) (.aF)) (.skip))
def GL:H:= .B (.block 1 (.B (.D [z 0 10 8,z 1 5 10]) GM)) (.D [cI 0 18 8,z 1 8 18])
def GK:H:= .B (.aM (F 9) (.skip) (.a7 0)) GL
def Lm:H:= .B (.D [cY 0 9 8 7]) GK
def GN:H:= .B (.D [a5 0 4 (-1)]) (.aF)
def aar:H:= .B (.B (.D [z 0 6 0,bq 1 7 6,a5 2 8 0]) (.block 0 (.loop Lm))) GN
def aap:H:=
  .B (
  .D [
 a5 0 4 0]) aar
def Ll:bM:=⟨19,[.bw 4],aap⟩
theorem aaq:bW al 123=some Ll:=by kernel_rfl
def rQ(x:Int)(l:List Int):Int:=match l.findIdx? (λy=>decide (x=y))with|some i=>i|none=> -1
theorem azg{x:Int}{l:List Int}{i:Nat}(ai:i<l.length)(G:x=l[i])(h: ∀j (bj:j<l.length),j<i-> ¬x=l[j]):rQ x l=i:=by
  unfold rQ;have:l.findIdx? (λy=>decide (x=y))=some i:=by rw[Pe];exact⟨ai,by simpa using G,λj bj=>by simpa using h j (by omega) bj⟩
  rw[this]
theorem azh{x:Int}{l:List Int}(h: ∀j (bj:j<l.length),¬x=l[j]):rQ x l= -1:=by
  unfold rQ;have:l.findIdx? (λy=>decide (x=y))=none:=by rw[Ph];intro y af;obtain⟨j,bj,rfl⟩:=j4 af;simpa using h j bj
  rw[this]
theorem afX{x:Int}{l:List Int}:0<=rQ x l↔x∈l:=by
  cases aT:l.findIdx? (λy=>decide (x=y))with
  | some i=>have e:rQ x l=i:=(by unfold rQ;rw[aT]);rw[Pe]at aT;obtain⟨ai,hb,_⟩:=aT;have fH:x=l[i]:=(by simpa using hb);rw[e];exact⟨λ_=>by rw[fH];exact jQ ai,λ_=>by omega⟩
  | none=>have e:rQ x l= -1:=(by unfold rQ;rw[aT]);rw[Ph]at aT;rw[e];exact⟨λh=>by omega,λh=>by have:=aT x h;simp at this⟩
theorem aDY{l:List Int}{x:Int}(aB:l.length<=1000000):bH al 123 [cp l,Y x] (Y (rQ x l)):=by
  refine ei (dD (aC:=⟨[],[]⟩) aaq (by kernel_rfl) (by simp[Ll]) ?_);simp(disch:=first|omega|simp only[aO];omega) [Ll,aap,aar,-O,-U,-N,-S,-List.map_map];refine h9 (aC:=⟨[],[]⟩) (λi A t=>(∀j (bj:j<l.length),j<i-> ¬x=l[j])/\A 0=cp l/\A 1=Y x/\A 7=Y l.length/\A 8=Y i) l.length ?_ ?_ 0 _ _ (ht _) ⟨λj bj h=>absurd h (xN _),by simp,by simp,by simp,by simp⟩
  · rintro i A t ai ⟨hX,cE,ba,fa,b9⟩ cS bm;obtain⟨y,G⟩:=kp ai;have fE:=(dO.1 G).2;have b6:(i:Int)<l.length:=(by omega);have cg:=gY (n:=i) (by omega);by_cases c:x=y
    · have e:=azg ai (by rw[fE];exact c) hX;simp(disch:=first|omega|simp only[aO];omega) [Lm,GK,GL,GM,GN,cE,ba,fa,b9,b6,fE,eq_true c,e,-O,-U,-N,-S,-List.map_map]
    · simp(disch:=first|omega|simp only[aO];omega) [Lm,GK,GL,GM,GN,cE,ba,fa,b9,b6,fE,c,cg,-O,-U,-N,-S,-List.map_map];refine bm _ _ ⟨λj bj F8=> ?_,by simp[cE],by simp[ba],by simp[fa],by simp⟩;by_cases e:j=i
      · subst e;rw[fE];exact c
      · exact hX j bj (by omega)
  · rintro A t ⟨hX,cE,ba,fa,b9⟩;have e:=azh λj bj=>hX j bj bj;simp(disch:=first|omega|simp only[aO];omega) [Lm,GK,GL,GM,GN,GN,GK,GL,GM,fa,b9,e,-O,-U,-N,-S,-List.map_map]
noncomputable def U7:bC al:= .dN 123 (List Int×Int) (λx=>x.1.length<=1000000) (λx=>[cp x.1,Y x.2]) (λx=>Y (rQ x.2 x.1)) λ_ h=>aDY h
@[simp] theorem aON:U7.f=123:=rfl
@[simp] theorem aOO{l:List Int}{x:Int}(h:l.length<=1000000):U7.fn [aj (l.map λx=>[Y x]) 1,Y x]=some (Y (rQ x l)):=bC.eh (x:=(l,x)) h λ⟨uA,nj⟩ af=>by simpa using af
theorem aDL{l:List Int}{x:Int}(aB:l.length<=1000000):bH al 78 [cp l,Y x] (.bool (decide (x∈l))):=by
  refine ei (dD (aC:=⟨[U7],[]⟩) afB (by kernel_rfl) (by simp[HV]) ?_);by_cases c:x∈l
  · have bO:=afX.2 c;simp(disch:=first|omega|simp only[aO];omega) [HV,TC,TD,c,bO,-O,-U,-N,-S,-List.map_map]
  · have bO: ¬0<=rQ x l:= λh=>c (afX.1 h);simp(disch:=first|omega|simp only[aO];omega) [HV,TC,TD,c,bO,-O,-U,-N,-S,-List.map_map]
noncomputable def U3:bC al:= .dN 78 (List Int×Int) (λx=>x.1.length<=1000000) (λx=>[cp x.1,Y x.2]) (λx=> .bool (decide (x.2∈x.1))) λ_ h=>aDL h
@[simp] theorem aOB:U3.f=78:=rfl
@[simp] theorem aOC{l:List Int}{x:Int}(h:l.length<=1000000):U3.fn [aj (l.map λx=>[Y x]) 1,Y x]=some (.bool (decide (x∈l))):=bC.eh (x:=(l,x)) h λ⟨uA,nj⟩ af=>by simpa using af
def lB(n d:Int):Prop:=(n=0/\d=1)\/(n=1/\d=1)\/(n=1/\d=2)\/(n=1/\d=1000)\/(n=30/\d=1)\/(n=1/\100<=d/\d<200)
def fx(n d:Int):b1:=⟨false,if n=0 then[]else[n],[d]⟩
theorem Yk{n d:Int}(h:lB n d):bH al 59 [Y n,Y d] (dy (fx n d)):=by
  rcases h with⟨rfl,rfl⟩|⟨rfl,rfl⟩|⟨rfl,rfl⟩|⟨rfl,rfl⟩|⟨rfl,rfl⟩|⟨rfl,E,I⟩
  · exact ala
  · exact alb
  · exact alc
  · exact ald
  · exact ale
  · exact alf (by omega) I
noncomputable def xt:bC al:= .dN 59 (Int×Int) (λx=>lB x.1 x.2) (λx=>[Y x.1,Y x.2]) (λx=>dy (fx x.1 x.2)) λx h=>Yk h
@[simp] theorem aOF:xt.f=59:=rfl
@[simp] theorem aOG{n d:Int}(h:lB n d):xt.fn [Y n,Y d]=some (dy (fx n d)):=bC.eh (x:=(n,d)) h λ⟨uA,nj⟩ af=>by simpa using af
def kv(c n:Nat):ByteArray:=⟨#[c.toUInt8,(97+n/26%26).toUInt8,(97+n%26).toUInt8]⟩
theorem aAK{c n:Nat}(ar:c<256)(az:n<1000000):bH al 109 [.int .u8 c,Y n] (.string (kv c n)):=by
  refine ei (dD (aC:=⟨[],[]⟩) Z5 (by kernel_rfl) (by simp[Lk]) ?_);have bu:IntKind.i64.wrap ((n:Int)/26)=((n/26:Nat):Int):=by rw[fV (by omega) (by omega)];omega
  have bN:((n/26:Nat):Int).tmod 26=((n/26%26:Nat):Int):=by rw[Int.tmod_eq_emod_of_nonneg (by omega)];omega
  have cn:(n:Int).tmod 26=((n%26:Nat):Int):=by rw[Int.tmod_eq_emod_of_nonneg (by omega)];omega
  have w: ∀k:Nat,k<26->IntKind.u8.wrap (IntKind.i64.wrap (97+(k:Int)))=((97+k:Nat):Int):= λk aa=>by rw[fV (by omega) (by omega)];show(97+(k:Int))%256=_;omega
  have c8:=w (n/26%26) (by omega);have e7:=w (n%26) (by omega);simp(disch:=first|omega|simp only[aO];omega) [Lk,Z4,Z6,-O,-U,-N,-S,-List.map_map];rw[bu,bN,cn,c8,e7];simp only[toBytes,kv,mO,xP];rfl
noncomputable def mv:bC al:= .dN 109 (Nat×Nat) (λx=>x.1<256/\x.2<1000000) (λx=>[.int .u8 x.1,Y x.2]) (λx=> .string (kv x.1 x.2)) λx h=>aAK h.1 h.2
@[simp] theorem aOZ:mv.f=109:=rfl
@[simp] theorem Oc{c:Int}{C n:Nat}(ar:c=C)(h:C<256/\n<1000000):mv.fn [.int .u8 c,Y n]=some (.string (kv C n)):=by subst ar;exact bC.eh (x:=(C,n)) h λ⟨uA,nj⟩ af=>by simp at af⊢;omega
def oL(x n:Int):Int:=if n<1 then 0 else if x.tmod n<0 then x.tmod n+n else x.tmod n
theorem agz{x n:Int}(h:1<=n):0<=oL x n/\oL x n<n:=by have E:=Int.tmod_lt_of_pos x (show 0<n by omega);have I:=Int.lt_tmod_of_pos x (show 0<n by omega);unfold oL;rw[if_neg (by omega)];split<;>omega
theorem Ud{x n:Int}(h:n<1):oL x n=0:=by unfold oL;rw[if_pos h]
def ON(l:List Int)(i:Nat):Int:=match l[i]? with|some x=>x|none=>(i:Int)%3
def eU(l:List Int)(i:Nat)(n:Int):Int:=oL (ON l i) n
theorem j0{l:List Int}{i:Nat}{n:Int}(h:1<=n):0<=eU l i n/\eU l i n<n:=agz h
theorem aA0{o i:Nat}{l:List Int}{n:Int}{t:W}(ai:i<1000000)(aB:l.length<=140737488355328)(az:n<=1000000)(aE:t.X o=some ⟨[cp l,Y i],true⟩){cj:Value->W->Prop}
    (iB:cj (Y (eU l i n)) (t.a0 o (some ⟨[cp l,Y (i+1:Nat)],true⟩))):fi al 49 [.pointer (some ⟨o,0,none⟩),Y n] t cj:=by
  refine dD (aC:=⟨[],[]⟩) aeZ (by kernel_rfl) (by simp[wX]) ?_;have cB:=a6 aE;have cg:=gY (n:=i) (by omega);have cu:(i:Int).tmod 3=(i:Int)%3:=by rw[Int.tmod_eq_emod_of_nonneg (by omega)]
  have Zk:(some (fB.mk [cp l,Y ((i:Int)+1)] true))=some ⟨[cp l,Y (i+1:Nat)],true⟩:=by simp
  have mU: ∀x:Int,ON l i=x-> ∀mP:Prop,(n<1->eU l i n=0->mP)->(1<=n-> ¬n<1-> ¬n=0->x.tmod n<0->IntKind.i64.wrap (x.tmod n+n)=eU l i n->mP)->(1<=n-> ¬n<1-> ¬n=0-> ¬x.tmod n<0->x.tmod n=eU l i n->mP)->mP:= λx G mP dj dw h6=>by
    by_cases c:n<1
    · exact dj c (by unfold eU;exact Ud c)
    · have E:=Int.tmod_lt_of_pos x (show 0<n by omega);have I:=Int.lt_tmod_of_pos x (show 0<n by omega);by_cases cA:x.tmod n<0
      · exact dw (by omega) c (by omega) cA (by rw[fV (by omega) (by omega)];unfold eU oL;rw[G,if_neg c,if_pos cA])
      · exact h6 (by omega) c (by omega) cA (by unfold eU oL;rw[G,if_neg c,if_neg cA])
  by_cases q:i<l.length
  · have a8:(i:Int)<l.length:=(by omega);obtain⟨x,G⟩:=kp q;have fE:=(dO.1 G).2;refine mU x (by unfold ON;rw[G]) _ (λc e=> ?_) (λbO c kn cA e=> ?_) λbO c kn cA e=> ?_
    · rw[e]at iB;simp(disch:=first|omega|simp only[aO];omega) [wX,AI,AJ,AK,AL,AM,AN,AO,AP,aE,cg,cu,a8,fE,c,-O,-U,-N,-S,-List.map_map];simpa using iB
    · rw[<-e]at iB;simp(disch:=first|omega|simp only[aO];omega) [wX,AI,AJ,AK,AL,AM,AN,AO,AP,aE,cg,cu,a8,fE,c,kn,cA,-O,-U,-N,-S,-List.map_map];simpa using iB
    · rw[<-e]at iB;simp(disch:=first|omega|simp only[aO];omega) [wX,AI,AJ,AK,AL,AM,AN,AO,AP,aE,cg,cu,a8,fE,c,kn,cA,-O,-U,-N,-S,-List.map_map];simpa using iB
  · have a8: ¬(i:Int)<l.length:=(by omega);refine mU ((i:Int)%3) (by unfold ON;rw[qv (by omega)]) _ (λc e=> ?_) (λbO c kn cA e=> ?_) λbO c kn cA e=> ?_
    · rw[e]at iB;simp(disch:=first|omega|simp only[aO];omega) [wX,AI,AJ,AK,AL,AM,AN,AO,AP,aE,cg,cu,a8,c,-O,-U,-N,-S,-List.map_map];simpa using iB
    · rw[<-e]at iB;simp(disch:=first|omega|simp only[aO];omega) [wX,AI,AJ,AK,AL,AM,AN,AO,AP,aE,cg,cu,a8,c,kn,cA,-O,-U,-N,-S,-List.map_map];simpa using iB
    · rw[<-e]at iB;simp(disch:=first|omega|simp only[aO];omega) [wX,AI,AJ,AK,AL,AM,AN,AO,AP,aE,cg,cu,a8,c,kn,cA,-O,-U,-N,-S,-List.map_map];simpa using iB
open Classical in
noncomputable def Eb(o:Nat)(n:Int)(t:W)(b:Option fB):Option (Value×W):=
  if h: ∃p:List Int×Nat,b=some ⟨[cp p.1,Y p.2],true⟩/\p.2<1000000/\p.1.length<=140737488355328/\n<=1000000 then some (Y (eU h.choose.1 h.choose.2 n),t.a0 o (some ⟨[cp h.choose.1,Y (h.choose.2+1:Nat)],true⟩))else none
@[simp] theorem aAZ{o i:Nat}{n:Int}{t:W}{l:List Int}(h:i<1000000/\l.length<=140737488355328/\n<=1000000):Eb o n t (some ⟨[aj (l.map λx=>[Y x]) 1,.int .i64 i],true⟩)=some (Y (eU l i n),t.a0 o (some ⟨[cp l,Y (i+1:Nat)],true⟩)):=by
  have gP: ∃p:List Int×Nat,(some (fB.mk [cp l,Y i] true))=some ⟨[cp p.1,Y p.2],true⟩/\p.2<1000000/\p.1.length<=140737488355328/\n<=1000000:=⟨(l,i),rfl,h⟩;unfold Eb;rw[dif_pos gP];have this:=gP.choose_spec.1;generalize gP.choose=p at this⊢;obtain⟨gd,hj⟩:=p;simp only[lV,fB.mk.injEq,s7,and_true,ZF,afU,Value.int.injEq,true_and]at this;obtain⟨rfl,I⟩:=this;have:i=hj:=by omega
  rw[this]
noncomputable def iQ:ie al:= .dN 49 (Nat×Int) (λx=>[.pointer (some ⟨x.1,0,none⟩),Y x.2]) (λx t=>Eb x.1 x.2 t (t.X x.1)) λ⟨o,n⟩ t r aI h cj iB=>by
  simp only[Eb]at h;split at h
  · next G=>obtain⟨a,b,c,d⟩:=G.choose_spec;cases h;exact aA0 b c d a iB
  · cases h
@[simp] theorem aKC:iQ.f=49:=rfl
@[simp] theorem aKD{o:Nat}{n:Int}{t:W}:iQ.fn [.pointer (some ⟨o,0,none⟩),.int .i64 n] t=Eb o n t (t.X o):=ie.eh (x:=(o,n)) λ⟨nj,se⟩ af=>by simp at af⊢;omega
theorem aEW{x n:Int}(az:n<=1000000):bH al 19 [Y x,Y n] (Y (oL x n)):=by
  refine ei (dD (aC:=⟨[],[]⟩) arj (by kernel_rfl) (by simp[Hm]) ?_);by_cases c:n<1
  · rw[Ud c];simp(disch:=first|omega|simp only[aO];omega) [Hm,LW,LX,LY,LZ,L0,c,-O,-U,-N,-S,-List.map_map]
  · have E:=Int.tmod_lt_of_pos x (show 0<n by omega);have I:=Int.lt_tmod_of_pos x (show 0<n by omega);have kn: ¬n=0:=(by omega);have bO:1<=n:=(by omega);have w:IntKind.i64.wrap (x.tmod n+n)=x.tmod n+n:=fV (by omega) (by omega);by_cases cA:x.tmod n<0
    · have e:oL x n=x.tmod n+n:=(by unfold oL;rw[if_neg c,if_pos cA]);rw[e];simp(disch:=first|omega|simp only[aO];omega) [Hm,LW,LX,LY,LZ,L0,c,kn,cA,w,-O,-U,-N,-S,-List.map_map]
    · have e:oL x n=x.tmod n:=(by unfold oL;rw[if_neg c,if_neg cA]);rw[e];simp(disch:=first|omega|simp only[aO];omega) [Hm,LW,LX,LY,LZ,L0,c,kn,cA,-O,-U,-N,-S,-List.map_map]
noncomputable def Vy:bC al:= .dN 19 (Int×Int) (λx=>x.2<=1000000) (λx=>[Y x.1,Y x.2]) (λx=>Y (oL x.1 x.2)) λ_ h=>aEW h
@[simp] theorem aQj:Vy.f=19:=rfl
@[simp] theorem aQk{x n:Int}(h:n<=1000000):Vy.fn [Y x,Y n]=some (Y (oL x n)):=bC.eh (x:=(x,n)) h λ⟨uA,nj⟩ af=>by simpa using af
theorem akI{l:List gB}:(l.map ez).flatten.length=l.length*7:=by rw[sq (J:=7) λr aw=>by obtain⟨x,_,rfl⟩:=hn.1 aw;rfl,j5]
def h1(n:Nat)(jM y8 jc:Int):gB:=⟨kv 110 n,jM,y8,jc,fx 0 1⟩
theorem ahS:lB 0 1:=by unfold lB;omega
theorem akE{sr iF:Nat}{ds:List gB}{kn bO cA hJ iy nW:Value}{t:W}(ir:t.X sr=some ⟨[kn,bO,cA,dm iF ds.length 7,hJ,iy,nW],true⟩)(sw:t.X iF=some ⟨(ds.map ez).flatten,true⟩)(cJ:iF≠sr)(az:ds.length<1000){jM y8 jc:Int}{cj:Value->W->Prop}
    (iB: ∀aI Im,t.next<=Im->t.next<=aI.next->aI.X sr=some ⟨[kn,bO,cA,dm Im (ds++[h1 ds.length jM y8 jc]).length 7,hJ,iy,nW],true⟩->aI.X Im=some ⟨((ds++[h1 ds.length jM y8 jc]).map ez).flatten,true⟩->(∀b,b<t.next->b≠sr->b≠iF->aI.X b=t.X b)->cj (Y ds.length) aI):
    fi al 108 [.pointer (some ⟨sr,0,none⟩),Y jM,Y y8,Y jc] t cj:=by
  refine dD (aC:=⟨[mv,xt],[]⟩) Z0 (by kernel_rfl) (by simp[Lj]) ?_;have w6:=a6 ir;have dE:=a6 sw;have kr:mv.fn [.int .u8 110,Y ds.length]=some (.string (kv 110 ds.length)):=Oc (C:=110) rfl ⟨by decide,by omega⟩;have aD5:=ahS;have e1:=akI (l:=ds);have Zc:sr≠iF:=cJ.symm;have gh:(ds.length+1)*96<=140737488355328/\ds.length<=9223372036854775806:=by omega
  simp(disch:=first|omega|simp only[aO];omega) [Lj,ZZ,Z1,Z2,Z3,ir,sw,kr,e1,gh,eb,-O,-U,-N,-S,-List.map_map];refine iB _ (t.next+13) (by omega) (by simp) ?_ ?_ ?_
  · rw[eD (by simp;omega)];simp
  · rw[bR (by omega),eD (by simp),jT (by omega)];simp[ez,h1]
  · intro b hb E I;rw[bR E,bR (by omega),bR I,bR (by omega),W.e0]
def kE(ds:List gB)(k:Nat)(v:Int):Prop:= ∃q,ds[k]?=some q/\q.jY=v
theorem kE.app{ds:List gB}{k:Nat}{v:Int}{x:gB}(h:kE ds k v):kE (ds++[x]) k v:=by obtain⟨q,E,I⟩:=h;exact⟨q,by rw[sf (dO.1 E).1];exact E,I⟩
theorem kE.cV{ds:List gB}{k:Nat}{v:Int}(h:kE ds k v):k<ds.length:=by obtain⟨q,E,_⟩:=h;exact(dO.1 E).1
structure qx(ds:List gB):Prop where
  q5:ds[0]?=some ⟨⟨#[]⟩,0,-1,0,fx 0 1⟩
  mf: ∀(i:Nat) (d:gB),0<i->ds[i]?=some d->d.name=kv 110 i/\0<=d.parent/\d.parent<i/\kE ds d.parent.toNat (d.jY-1)/\1<=d.jY/\d.jY<=4/\1<=d.jc/\d.jc<=64/\d.oj=fx 0 1
theorem qx.Uz{ds:List gB}(h:qx ds):0<ds.length:=(dO.1 h.q5).1
theorem qx.add{ds:List gB}(h:qx ds){jM jc:Int}{p:Nat}(ab:kE ds p (jM-1))(E:1<=jM)(I:jM<=4)(av:1<=jc)(aH:jc<=64):qx (ds++[h1 ds.length jM p jc]) where
  q5:=by rw[sf h.Uz];exact h.q5
  mf i d ai G:=by
    by_cases c:i<ds.length
    · rw[sf c]at G;obtain⟨bu,bN,cn,eW,fU⟩:=h.mf i d ai G;exact⟨bu,bN,cn,eW.app,fU⟩
    · have aB:=(dO.1 G).1;simp only[kT,pI,xM]at aB;have e:i=ds.length:=(by omega);subst e;rw[s4 (ey _)]at G;simp at G;subst G;have:=ab.cV;exact⟨rfl,by simp[h1],by simp[h1];omega,by simpa[h1]using ab.app,E,I,av,aH,rfl⟩
theorem vv{ds:List gB}{jM jc:Int}{p:Int}:kE (ds++[h1 ds.length jM p jc]) ds.length jM:=⟨h1 ds.length jM p jc,by simp,rfl⟩
def pP(ds:List gB)(cy:List mQ):Prop:= ∀(i:Nat) (x:mQ),cy[i]?=some x->x.name=kv 100 i/\0<=x.model/\x.model<2/\ ∃m:Nat,x.w9=m/\kE ds m 4
theorem pP.app{ds:List gB}{cy:List mQ}(h:pP ds cy){d:gB}:pP (ds++[d]) cy:= λi x G=>by obtain⟨a,b,c,m,e,f⟩:=h i x G;exact⟨a,b,c,m,e,f.app⟩
theorem pP.add{ds:List gB}{cy:List mQ}(h:pP ds cy){m:Nat}(ax:kE ds m 4){y:Int}(dk:0<=y)(E:y<2):pP ds (cy++[⟨kv 100 cy.length,y,m⟩]):= λi x G=>by
  by_cases c:i<cy.length
  · rw[sf c]at G;exact h i x G
  · have aB:=(dO.1 G).1;simp only[kT,pI,xM]at aB;have e:i=cy.length:=(by omega);subst e;rw[s4 (ey _)]at G;simp at G;subst G;exact⟨rfl,dk,E,m,rfl,ax⟩
def y4:List Value:=[Y 0,.slice none 0 0,.slice none 0 0,.slice none 0 0,.slice none 0 0,.slice none 0 0,.slice none 0 0]
structure ai2(l:List Int)(i:Nat)(M:Int)(fI fJ il g9:Value)(ds:List gB)(cy:List mQ)(iF or:Nat)(t:W):Prop where
  aN:t.X 0=some ⟨[cp l,Y i],true⟩
  aK:t.X 1=some ⟨y4,true⟩
  fo:t.X 6=some ⟨[Y M,fI,fJ,dm iF ds.length 7,dm or cy.length 3,il,g9],true⟩
  sw:t.X iF=some ⟨(ds.map ez).flatten,true⟩
  hW:t.X or=some ⟨(cy.map gr).flatten,true⟩
  gb:iF≠0/\iF≠1/\iF≠6
  hr:or≠0/\or≠1/\or≠6
  nG:iF≠or
def kU(l:List Int)(i:Nat)(M:Int)(fI fJ il g9:Value)(ds:List gB)(cy:List mQ)(t:W):Prop:= ∃iF or,ai2 l i M fI fJ il g9 ds cy iF or t
theorem akM{l:List mQ}:(l.map gr).flatten.length=l.length*3:=by rw[sq (J:=3) λr aw=>by obtain⟨x,_,rfl⟩:=hn.1 aw;rfl,j5]
def I0:List Nat:=[0,1,4,5,6,7,8,9,10,11]
theorem OF{A ak:aR}(dk:ak 0=A 0)(E:ak 1=A 1)(aH:ak 4=A 4)(br:ak 5=A 5)(cW:ak 6=A 6)(fu:ak 7=A 7)(hK:ak 8=A 8)(iZ:ak 9=A 9)(x9:ak 10=A 10)(KH:ak 11=A 11): ∀k∈I0,ak k=A k:= λk aa=>by simp only[I0,hH,jm,or_false]at aa;rcases aa with rfl|rfl|rfl|rfl|rfl|rfl|rfl|rfl|rfl|rfl<;>assumption
theorem akK{l:List Int}(aB:l.length<=140737488355328){M:Int}{fI fJ il g9:Value}{ds:List gB}{m:Nat}(ax:kE ds m 4): ∀(k i:Nat) (cy:List mQ),pP ds cy->cy.length<=9->i+k<1000000->
    ∃ jO cU,pP ds jO/\jO.length<=9/\min (cy.length+min k 1) 9<=jO.length/\cU<=i+k/\ ∀(A:aR) (t:W) (Q:dA->aR->W->Prop),A 0=cw 0->A 5=cw 6->A 11=Y m->A 12=Y k->kU l i M fI fJ il g9 ds cy t->
      (∀ak aI,(∀s∈I0,ak s=A s)->kU l cU M fI fJ il g9 ds jO aI->Q (.a7 2) ak aI)->fZ al (.loop AQ) A t Q:=by
  intro k;induction k with
  | zero=>intro i cy aw iZ ai;refine⟨cy,i,aw,iZ,by omega,by omega,λA t Q cE cq q7 Er kc b2=> ?_⟩;refine eE (aC:=⟨[mv],[iQ]⟩) λcS bm=> ?_;simp(disch:=first|omega|simp only[aO];omega) [AQ,HL,HM,Er,-O,-U,-N,-S,-List.map_map];exact b2 _ _ (OF (by simp) (by simp) (by simp) (by simp) (by simp) (by simp) (by simp) (by simp) (by simp) (by simp)) kc
  | succ k cx=>
    intro i cy aw iZ ai;have cg:IntKind.i64.wrap (k:Int)=(k:Int):=fV (by omega) (by omega);have b6:(0:Int)<(k:Int)+1:=(by omega);by_cases aID:cy.length<9
    case neg=>refine⟨cy,i,aw,iZ,by omega,by omega,λA t Q cE cq q7 Er kc b2=> ?_⟩;refine eE (aC:=⟨[mv],[iQ]⟩) λcS bm=> ?_;obtain⟨iF,or,lJ⟩:=kc;have fo:=lJ.fo;have vr:=a6 fo;have J0: ¬(cy.length:Int)<9:=(by omega);simp(disch:=first|omega|simp only[aO];omega) [AQ,HL,HM,cq,Er,b6,J0,fo,-O,-U,-N,-S,-List.map_map];exact b2 _ _ (OF (by simp) (by simp) (by simp) (by simp) (by simp) (by simp) (by simp) (by simp) (by simp) (by simp)) ⟨iF,or,lJ⟩
    obtain⟨y,af⟩: ∃y:Int,y=if eU l i 4=0 then 1 else 0:=⟨_,rfl⟩
    have Gr:0<=y/\y<2:=(by rw[af];split<;>omega);obtain⟨jO,cU,bu,bN,cn,eW,fU⟩:=cx (i+1) (cy++[⟨kv 100 cy.length,y,m⟩]) (aw.add ax Gr.1 Gr.2) (by simp;omega) (by omega);refine⟨jO,cU,bu,bN,by simp only[kT,pI,xM]at cn;omega,by omega,λA t Q cE cq q7 Er kc b2=> ?_⟩;obtain⟨iF,or,⟨aN,aK,fo,sw,hW,gb,hr,nG⟩⟩:=kc;refine eE (aC:=⟨[mv],[iQ]⟩) λcS bm=> ?_;have J0:(cy.length:Int)<9:=(by omega);have fl:=a6 aN;have gu:=a6 aK;have vr:=a6 fo;have dE:=a6 sw;have tZ:=a6 hW;obtain⟨Uh,agE,NO⟩:=hr;obtain⟨NN,Uf,Ug⟩:=gb;have aME:0≠or:= λe=>Uh e.symm;have aMF:6≠or:= λe=>NO e.symm;have jf:i<1000000/\l.length<=140737488355328/\(4:Int)<=1000000:=⟨by omega,aB,by decide⟩;have kr:mv.fn [.int .u8 100,Y cy.length]=some (.string (kv 100 cy.length)):=Oc (C:=100) rfl ⟨by decide,by omega⟩;have e1:=akM (l:=cy);have gh:(cy.length+1)*32<=140737488355328/\cy.length<=9223372036854775806:=by omega
    have mU: ∀(bQ:aR) (bD:W),(∀s∈I0,bQ s=A s)->bQ 12=Y k->bD.X 0=some ⟨[cp l,Y (i+1:Nat)],true⟩->bD.X 1=t.X 1->bD.X 6=some ⟨[Y M,fI,fJ,dm iF ds.length 7,dm (t.next+10) (cy.length+1) 3,il,g9],true⟩->bD.X iF=t.X iF->
        bD.X (t.next+10)=some ⟨(cy.map gr).flatten++[fT (kv 100 cy.length),Y y,Y m],true⟩->fZ al (.loop AQ) bQ bD Q:= λbQ bD K FV hV aJ ka qL pa=>by
      refine fU bQ bD Q ((K 0 (by decide)).trans cE) ((K 5 (by decide)).trans cq) ((K 11 (by decide)).trans q7) FV ⟨iF,t.next+10,⟨hV,aJ.trans aK,?_,qL.trans sw,?_,⟨NN,Uf,Ug⟩,⟨by omega,by omega,by omega⟩,by omega⟩⟩ λak aI u5=>b2 ak aI λs fk=>(u5 s fk).trans (K s fk)
      · rw[ka];simp
      · rw[pa];simp[gr]
    by_cases qG:eU l i 4=0
    · rw[if_pos qG]at af;subst af;simp(disch:=first|omega|simp only[aO];omega) [AQ,HL,HM,cE,cq,q7,Er,b6,J0,aN,fo,hW,kr,e1,gh,qG,cg,-O,-U,-N,-S,-List.map_map];refine bm _ _ (mU _ _ (OF (by simp) (by simp) (by simp) (by simp) (by simp) (by simp) (by simp) (by simp) (by simp) (by simp)) (by simp[]) ?_ ?_ ?_ ?_ ?_)
      · simp(disch:=first|omega|simp only[aO];omega) [-O,-U,-N,-S,-List.map_map]
      · simp(disch:=first|omega|simp only[aO];omega) [-O,-U,-N,-S,-List.map_map]
      · simp(disch:=first|omega|simp only[aO];omega) [-O,-U,-N,-S,-List.map_map]
      · simp(disch:=first|omega|simp only[aO];omega) [-O,-U,-N,-S,-List.map_map]
      · simp(disch:=first|omega|simp only[aO];omega) [-O,-U,-N,-S,-List.map_map];exact jT (by omega)
    · rw[if_neg qG]at af;subst af;simp(disch:=first|omega|simp only[aO];omega) [AQ,HL,HM,cE,cq,q7,Er,b6,J0,aN,fo,hW,kr,e1,gh,qG,cg,-O,-U,-N,-S,-List.map_map];refine bm _ _ (mU _ _ (OF (by simp) (by simp) (by simp) (by simp) (by simp) (by simp) (by simp) (by simp) (by simp) (by simp)) (by simp[]) ?_ ?_ ?_ ?_ ?_)
      · simp(disch:=first|omega|simp only[aO];omega) [-O,-U,-N,-S,-List.map_map]
      · simp(disch:=first|omega|simp only[aO];omega) [-O,-U,-N,-S,-List.map_map]
      · simp(disch:=first|omega|simp only[aO];omega) [-O,-U,-N,-S,-List.map_map]
      · simp(disch:=first|omega|simp only[aO];omega) [-O,-U,-N,-S,-List.map_map]
      · simp(disch:=first|omega|simp only[aO];omega) [-O,-U,-N,-S,-List.map_map];exact jT (by omega)
end Go.Proofs.YtmmkkggfmigppaaGreat
