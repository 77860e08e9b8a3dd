/-
  For every input the law returns true, and each argument reads behind the call as it read before. The last part of the proof; tools of ours have shortened it.
-/
import Derived.ProofKit
import Derived.ShutString
import Derived.Below
import Derived.Carry
import Derived.Test.YtmmkkggfmigppaaGreatZaq
set_option linter.all false
set_option maxRecDepth 8000
set_option maxHeartbeats 16000000
namespace Go.Proofs.YtmmkkggfmigppaaGreat
open Go Go.DI
def an0:H:= .B (.D [z 0 33 6,fq 1 34 33,ay 2 35 5 34,ao 3 36 35,ay 4 37 0 8,ao 5 38 37,z 6 39 6,fq 7 40 39,ay 8 41 5 40,ao 9 42 41,ay 10 43 0 8,ao 11 44 43,aY 12 45 1 42 44,ao 13 46 45,z 14 47 7,vl 15 48 47,iS 16 49 (.app 1 8 (F 46) (F 48)) [(F 37,F 46),(F 35,F 46)],aY 17 50 1 36 38,bz 18 1 50 49]) (.D [z 0 51 6,fq 1 52 51,ay 2 53 5 52,ao 3 54 53,ay 4 55 1 8,ao 5 56 55,z 6 57 6,fq 7 58 57,ay 8 59 5 58,ao 9 60 59,ay 10 61 1 8,ao 11 62 61,aY 12 63 1 60 62,ao 13 64 63,z 14 65 7,vo 15 66 65,vl 16 67 66,iS 17 68 (.app 1 8 (F 64) (F 67)) [(F 55,F 64),(F 53,F 64)],aY 18 69 1 54 56,bz 19 1 69 68])
def anZ:H:= .B (.block 1 (.B (.D [z 0 30 28,aY 1 31 4 26 28,bL 2 32 4 31,a4 3 8 (.c9 [aG,aG,aG,aG]),z 4 7 30,bz 5 4 8 32]) an0)) (.D [cI 0 70 28,z 1 28 70])
def anY:H:= .B (.aM (F 29) (.skip) (.a7 0)) anZ
def an3:H:= .B (.D [cY 0 29 28 27]) anY
def an2:H:= .B (.B (.D [z 0 76 11,ay 1 77 2 1,ao 2 78 77,aY 3 79 1 76 78,ao 4 80 79,g6 5 81 80]) (.aM (F 81) (.B (.D [z 0 82 6,fq 1 83 82,ay 2 84 4 83,ao 3 85 84,z 4 86 9,z 5 87 11,z 6 2 85,z 7 3 86,z 8 4 87,a5 9 5 0]) (.aF)) (.skip))) (.D [z 0 88 9,z 1 89 6,z 2 90 10,db 3 91 186 89 90,hc 4 92 88 91,z 5 9 92])
def an4:H:= .block 3 (.B (.D [z 0 72 6,b0 1 73 185 [F 72],z 2 71 73,b3 3 74 0 71,b3 4 75 1 71,z 5 10 74,z 6 11 75]) an2)
def an1:H:= .B (.D [a5 0 9 0]) (.block 2 (.loop an4))
def anX:H:= .B (.B (.D [ay 0 25 3 1,ao 1 26 25,bq 2 27 26,a5 3 28 0]) (.block 0 (.loop an3))) an1
def anW:H:= .B (.D [bL 0 15 4 1,ay 1 16 3 1,ao 2 17 16,bq 3 18 17,ay 5 20 0 1,ao 6 21 20,qc 4 19 18 18,a4 7 22 (.kN 1 24 [aX] (F 21) (F 21)),a4 8 23 (.fF [aG,aG,aG,aX,aX,aX] [(0,4,F 15),(4,1,F 19),(5,1,F 22)]),dJ 9 24 23,z 10 6 24]) anX
def anV:H:= .B (.B (.D [bL 0 12 4 1,b0 1 13 184 [F 12],g6 2 14 13]) (.aM (F 14) (.B (.D [dV 0 2,a5 1 3 0,dV 2 4,a5 3 5 1]) (.aF)) (.skip))) anW
def anT:H:=
  .B (
  .D [
 dJ 0 1 0,
 dV 1 2,
 a5 2 3 0,
 dV 3 4,
 a5 4 5 0]) anV
def aat:bM:=⟨93,[.bw 2,.bw 3,.bw 4,.bw 5],anT⟩
theorem anU:bW al 125=some aat:=by kernel_rfl
def apn:H:= .B (.D [z 0 17 7,g6 1 18 17,z 2 19 18,mI 3 20 19 4 2,jv 4 21 19 211 20,jh 5 22 19 21,c6 6 23 19 22]) (.aM (F 23) (.B (.D [a5 0 4 0,cr 1 5 false]) (.aF)) (.skip))
def aps:H:= .B (.block 1 (.B (.D [z 0 29 27,aY 1 30 4 25 27,bL 2 31 4 30,a4 3 10 (.c9 [aG,aG,aG,aG]),z 4 9 29,bz 5 4 10 31]) (.D [z 0 32 8,z 1 33 1,z 2 34 9,aY 3 35 1 33 34,ao 4 36 35,ay 5 37 3 10,ao 6 38 37,df 7 39 .mul (F 36) (F 38),hc 8 40 32 39,z 9 8 40]))) (.D [cI 0 41 27,z 1 27 41])
def apr:H:= .B (.aM (F 28) (.skip) (.a7 0)) aps
def apu:H:= .B (.D [cY 0 28 27 26]) apr
def apt:H:= .B (.D [z 0 42 8,z 1 4 42,cr 2 5 true]) (.aF)
def apq:H:= .B (.B (.D [ay 0 24 3 2,ao 1 25 24,bq 2 26 25,a5 3 27 0]) (.block 0 (.loop apu))) apt
def apo:H:= .B (.D [a5 0 8 0]) apq
def apm:H:= .B (.B (.D [bL 0 12 4 2,z 1 13 1,db 2 14 210 12 13,z 3 11 14,b3 4 15 0 11,b3 5 16 1 11,z 6 6 15,z 7 7 16]) apn) apo
def apk:H:=
  .B (
  .D [
 dJ 0 2 0,
 a5 1 4 0,
 cr 2 5 false]) apm
def abb:bM:=⟨43,[.bw 4,.bw 5],apk⟩
theorem apl:bW al 155=some abb:=by kernel_rfl
def apF:H:= .B (.D [z 0 47 12,df 1 48 .lss (F 47) (.const (.int .i64 (-1000000000))),z 2 49 48,du 3 50 49 12,mm 4 51 49 50 1000000000,c6 5 52 49 51]) (.aM (F 52) (.B (.D [cr 0 8 false]) (.aF)) (.skip))
def apE:H:= .B (.block 1 (.B (.D [aY 0 45 1 41 43,ao 1 46 45,z 2 12 46]) apF)) (.D [cI 0 53 43,z 1 43 53])
def apD:H:= .B (.aM (F 44) (.skip) (.a7 0)) apE
def apJ:H:= .B (.D [cY 0 44 43 42]) apD
def apz:H:= .B (.D [z 0 76 15,kt 1 77 76 0,z 2 78 77,dg 3 79 78 2,dg 4 80 78 13,ml 5 81 78 1 79 80,dQ 6 82 78 81,eB 7 83 78 2 14,dQ 8 84 78 83,yT 9 85 78 82 84,cR 10 86 78 85,z 11 87 86,du 12 88 87 15,mm 13 89 87 88 0,du 14 90 87 89,dg 15 91 90 2,dg 16 92 90 13,ml 17 93 90 1 91 92,dQ 18 94 90 93,yW 19 95 90 94,D3 20 96 87 90 95,c6 21 97 87 96]) (.aM (F 97) (.B (.D [cr 0 8 false]) (.aF)) (.skip))
def apy:H:= .B (.D [ay 0 62 3 14,ao 1 63 62,z 2 64 3,ay 3 65 0 14,ao 4 66 65,aY 5 67 1 64 66,ao 6 68 67,hc 7 69 63 68,z 8 70 3,ay 9 71 1 14,ao 10 72 71,aY 11 73 1 70 72,ao 12 74 73,df 13 75 .sub (F 69) (F 74),z 14 15 75]) apz
def apI:H:= .B (.block 3 (.B (.D [z 0 59 57,aY 1 60 4 55 57,bL 2 61 4 60,a4 3 14 (.c9 [aG,aG,aG,aG]),z 4 13 59,bz 5 4 14 61]) apy)) (.D [cI 0 98 57,z 1 57 98])
def apH:H:= .B (.aM (F 58) (.skip) (.a7 2)) apI
def apK:H:= .B (.D [cY 0 58 57 56]) apH
def apA:H:= .B (.D [cr 0 8 true]) (.aF)
def apG:H:= .B (.B (.D [ay 0 54 3 4,ao 1 55 54,bq 2 56 55,a5 3 57 0]) (.block 2 (.loop apK))) apA
def apC:H:= .B (.B (.D [z 0 41 3,bq 1 42 41,a5 2 43 0]) (.block 0 (.loop apJ))) apG
def apB:H:= .B (.B (.D [z 0 22 10,g6 1 23 22,z 2 24 23,mI 3 25 24 4 4,jv 4 26 24 211 25,jh 5 27 24 26,c6 6 28 24 27,z 7 29 28,du 8 30 29 9,du 9 31 29 1,qW 10 32 29 30 31,c6 11 33 29 32,z 12 34 33,du 13 35 34 3,iT 14 36 34 35,eg 15 37 34 0 4,dM 16 38 34 37,qW 17 39 34 36 38,c6 18 40 34 39]) (.aM (F 40) (.B (.D [cr 0 8 false]) (.aF)) (.skip))) apC
def apx:H:= .B (.D [bL 0 17 4 4,z 1 18 2,db 2 19 210 17 18,z 3 16 19,b3 4 20 0 16,b3 5 21 1 16,z 6 9 20,z 7 10 21]) apB
def apv:H:=
  .B (
  .D [
 dJ 0 4 0,
 cr 1 8 false]) apx
def abc:bM:=⟨99,[.bw 8],apv⟩
theorem apw:bW al 156=some abc:=by kernel_rfl
def aqt:H:= .B (.D [z 0 49 3,ay 1 50 0 5,ao 2 51 50,a4 3 52 (.iN (F 49) [F 51]),g6 4 53 52,z 5 54 53,du 6 55 54 3,eg 7 56 54 1 5,dM 8 57 54 56,cQ 9 58 54 false (.iN (F 55) [F 57]),jh 10 59 54 58,c6 11 60 54 59,z 12 61 60,eg 13 62 61 2 5,dM 14 63 61 62,A5 15 64 61 63,c6 16 65 61 64,z 17 66 65,eg 18 67 66 2 5,dM 19 68 66 67,mm 20 69 66 68 2147483647,c6 21 70 66 69]) (.aM (F 70) (.B (.D [cr 0 2 false]) (.aF)) (.skip))
def aqs:H:= .B (.block 1 (.B (.D [aY 0 47 4 43 45,bL 1 48 4 47,a4 2 5 (.c9 [aG,aG,aG,aG]),bz 3 4 5 48]) aqt)) (.D [cI 0 71 45,z 1 45 71])
def aqr:H:= .B (.aM (F 46) (.skip) (.a7 0)) aqs
def aqv:H:= .B (.D [cY 0 46 45 44]) aqr
def aqu:H:= .B (.D [cr 0 2 true]) (.aF)
def aqq:H:= .B (.B (.D [ay 0 42 3 1,ao 1 43 42,bq 2 44 43,a5 3 45 0]) (.block 0 (.loop aqv))) aqu
def aqp:H:= .B (.B (.D [ay 0 7 0 1,ao 1 8 7,kt 2 9 8 2,z 3 10 9,eg 4 11 10 0 1,dM 5 12 10 11,mm 6 13 10 12 700,c6 7 14 10 13,z 8 15 14,eg 9 16 15 3 1,dM 10 17 15 16,iT 11 18 15 17,mm 12 19 15 18 2500,c6 13 20 15 19,z 14 21 20,du 15 22 21 3,eg 16 23 21 1 1,dM 17 24 21 23,cQ 18 25 21 false (.iN (F 22) [F 24]),jh 19 26 21 25,c6 20 27 21 26,z 21 28 27,du 22 29 28 3,eg 23 30 28 2 1,dM 24 31 28 30,cQ 25 32 28 false (.iN (F 29) [F 31]),jh 26 33 28 32,c6 27 34 28 33,z 28 35 34,eg 29 36 35 1 1,dM 30 37 35 36,eg 31 38 35 2 1,dM 32 39 35 38,cQ 33 40 35 false (.e8 .eql .fW (F 37) (F 39)),c6 34 41 35 40]) (.aM (F 41) (.B (.D [cr 0 2 false]) (.aF)) (.skip))) aqq
def aqo:H:= .B (.D [a4 0 6 (.ub (.func 234) [] [F 1]),z 1 3 6]) aqp
def aqm:H:=
  .B (
  .D [
 dJ 0 1 0,
 cr 1 2 false]) aqo
def abJ:bM:=⟨72,[.bw 2],aqm⟩
theorem aqn:bW al 184=some abJ:=by kernel_rfl
def aqF:H:= .B (.D [z 0 61 10,jX 1 62 61 0,z 2 63 62,dg 3 64 63 5,dg 4 65 63 9,ml 5 66 63 1 64 65,dQ 6 67 63 66,rR 7 68 63 67,cR 8 69 63 68]) (.aM (F 69) (.B (.D [z 0 70 5,z 1 71 9,z 2 72 4,z 3 73 9,z 4 74 8,aY 5 75 1 70 71,rM 6 (.store 1 (F 75) (.const (.bool true))),aY 7 76 1 72 73,bz 8 1 76 74]) (.D [z 0 77 6,z 1 78 9,vl 2 79 78,iC 3 80 1 8 77 79,z 4 6 80])) (.skip))
def aqE:H:= .B (.D [z 0 56 0,z 1 57 8,db 2 58 235 56 57,z 3 55 58,b3 4 59 0 55,b3 5 60 1 55,z 6 9 59,z 7 10 60]) aqF
def aqD:H:= .B (.block 3 (.B (.D [aY 0 53 1 49 51,ao 1 54 53,z 2 8 54]) aqE)) (.D [cI 0 81 51,z 1 51 81])
def aqC:H:= .B (.aM (F 52) (.skip) (.a7 2)) aqD
def aqH:H:= .B (.D [cY 0 52 51 50]) aqC
def aqB:H:= .B (.block 1 (.B (.D [z 0 41 0,fq 1 42 41,ay 2 43 5 42,ao 3 44 43,z 4 45 6,yX 5 46 1 45,ao 6 47 46,aY 7 48 1 44 47,ao 8 49 48,bq 9 50 49,a5 10 51 0]) (.block 2 (.loop aqH)))) (.D [z 0 39 6,a4 1 40 (.nO 1 (F 39) (some (.const (.int .i64 1))) none),z 2 6 40])
def aqI:H:= .B (.B (.D [z 0 36 6,bq 1 37 36,jX 2 38 37 0]) (.aM (F 38) (.skip) (.a7 0))) aqB
def aqG:H:= .B (.D [z 0 82 4,z 1 83 5,z 2 2 82,z 3 3 83]) (.aF)
def aqA:H:= .B (.B (.D [z 0 30 0,fq 1 31 30,ay 2 32 0 31,ay 3 33 1 32,ao 4 34 33,vl 5 35 34,z 6 6 35]) (.block 0 (.loop aqI))) aqG
def aqz:H:= .B (.D [z 0 23 5,z 1 24 0,fq 2 25 24,ay 3 26 0 25,ay 4 27 1 26,ao 5 28 27,aY 6 29 1 23 28,rM 7 (.store 1 (F 29) (.const (.bool true)))]) aqA
def aqy:H:= .B (.D [z 0 11 0,fq 1 12 11,ay 2 13 0 12,ay 3 14 0 13,ao 4 15 14,z 6 17 0,fq 7 18 17,ay 8 19 0 18,ay 9 20 0 19,ao 10 21 20,qc 5 16 15 15,z 12 4 16,AZ 11 22 21 21,z 13 5 22]) aqz
def aqw:H:=
  .B (
  .D [
 dV 0 2,
 dV 1 3]) aqy
def abK:bM:=⟨84,[.bw 2,.bw 3],aqw⟩
theorem aqx:bW al 185=some abK:=by kernel_rfl
def aqO:H:= .B (.D [z 0 38 5,kt 1 39 38 0,z 2 40 39,du 3 41 40 8,du 4 42 40 5,cQ 5 43 40 false (.e8 .lss .fW (F 41) (F 42)),c6 6 44 40 43]) (.aM (F 44) (.D [z 0 45 8,z 1 5 45]) (.skip))
def aqN:H:= .B (.block 1 (.B (.D [z 0 30 0,z 1 31 1,z 2 32 6,aY 3 33 1 31 32,ao 4 34 33,db 5 35 235 30 34,z 6 29 35,b3 7 36 0 29,b3 8 37 1 29,z 9 7 36,z 10 8 37]) aqO)) (.D [z 0 23 0,z 1 24 1,z 2 25 6,aY 3 26 1 24 25,ao 4 27 26,db 5 28 236 23 27,z 6 6 28])
def aqT:H:= .B (.B (.D [z 0 16 6,z 1 17 0,fq 2 18 17,ay 3 19 0 18,ay 4 20 1 19,ao 5 21 20,nF 6 22 16 21]) (.aM (F 22) (.skip) (.a7 0))) aqN
def aqR:H:= .B (.D [z 0 68 10,lL 1 69 68 0]) (.aM (F 69) (.D [z 0 70 0,fq 1 71 70,ay 2 72 4 71,ao 3 73 72,z 4 74 10,aY 5 75 1 73 74,ao 6 76 75,z 7 77 5,hc 8 78 76 77,aY 9 79 1 73 74,bz 10 1 79 78]) (.D [z 0 80 0,fq 1 81 80,ay 2 82 4 81,ao 3 83 82,z 4 84 10,vo 5 85 84,aY 6 86 1 83 85,ao 7 87 86,z 8 88 5,df 9 89 .sub (F 87) (F 88),aY 10 90 1 83 85,bz 11 1 90 89]))
def aqQ:H:= .B (.block 3 (.B (.D [z 0 64 1,z 1 65 9,aY 2 66 1 64 65,ao 3 67 66,z 4 10 67]) aqR)) (.D [z 0 58 0,z 1 59 1,z 2 60 9,aY 3 61 1 59 60,ao 4 62 61,db 5 63 236 58 62,z 6 9 63])
def aqU:H:= .B (.B (.D [z 0 51 9,z 1 52 0,fq 2 53 52,ay 3 54 0 53,ay 4 55 1 54,ao 5 56 55,nF 6 57 51 56]) (.aM (F 57) (.skip) (.a7 2))) aqQ
def aqS:H:= .B (.D [z 0 91 5,z 1 4 91]) (.aF)
def aqP:H:= .B (.B (.D [z 0 46 0,fq 1 47 46,ay 2 48 0 47,ay 3 49 2 48,ao 4 50 49,z 5 9 50]) (.block 2 (.loop aqU))) aqS
def aqM:H:= .B (.B (.D [z 0 11 0,fq 1 12 11,ay 2 13 0 12,ay 3 14 2 13,ao 4 15 14,z 5 6 15]) (.block 0 (.loop aqT))) aqP
def aqL:H:= .B (.D [a5 0 5 (-1)]) aqM
def aqJ:H:=
  .B (
  .D [
 a5 0 4 0]) aqL
def abL:bM:=⟨92,[.bw 4],aqJ⟩
theorem aqK:bW al 186=some abL:=by kernel_rfl
def arw:H:= .B (.D [z 0 36 1,z 1 37 9,df 2 38 .gtr (F 36) (F 37)]) (.aM (F 38) (.B (.D [dV 0 4,a5 1 5 0,dV 2 6,a5 3 7 12]) (.aF)) (.skip))
def arC:H:= .B (.D [z 0 60 13,ay 1 61 0 15,ao 2 62 61,z 3 63 13,ay 4 64 0 15,ao 5 65 64,aY 6 66 1 63 65,ao 7 67 66,z 8 68 14,vl 9 69 68,iS 10 70 (.app 1 8 (F 67) (F 69)) [(F 61,F 67)],aY 11 71 1 60 62,bz 12 1 71 70]) (.D [z 0 72 13,ay 1 73 1 15,ao 2 74 73,z 3 75 13,ay 4 76 1 15,ao 5 77 76,aY 6 78 1 75 77,ao 7 79 78,z 8 80 14,vo 9 81 80,vl 10 82 81,iS 11 83 (.app 1 8 (F 79) (F 82)) [(F 73,F 79)],aY 12 84 1 72 74,bz 13 1 84 83])
def arB:H:= .B (.block 1 (.B (.D [z 0 57 55,aY 1 58 4 53 55,bL 2 59 4 58,a4 3 15 (.c9 [aG,aG,aG,aG]),z 4 14 57,bz 5 4 15 59]) arC)) (.D [cI 0 85 55,z 1 55 85])
def arA:H:= .B (.aM (F 56) (.skip) (.a7 0)) arB
def arD:H:= .B (.D [cY 0 56 55 54]) arA
def ars:H:= .B (.block 5 (.B (.D [z 0 98 96,aY 1 99 1 94 96,ao 2 100 99,z 3 18 98,z 4 19 100]) (.D [z 0 101 12,fq 1 102 101,ay 2 103 5 102,ao 3 104 103,z 4 105 18,aY 5 106 1 104 105,ao 6 107 106,z 7 108 19,z 8 109 16,ay 9 110 2 2,ao 10 111 110,aY 11 112 1 109 111,ao 12 113 112,a4 13 114 (.pq false (F 108) [F 113]),hc 14 115 107 114,aY 15 116 1 104 105,bz 16 1 116 115]))) (.D [cI 0 117 96,z 1 96 117])
def arq:H:= .B (.aM (F 97) (.skip) (.a7 4)) ars
def arE:H:= .B (.D [cY 0 97 96 95]) arq
def arp:H:= .B (.B (.D [z 0 94 16,bq 1 95 94,a5 2 96 0]) (.block 4 (.loop arE))) (.D [z 0 118 1,z 1 119 12,z 2 120 17,z 3 121 1,b0 4 122 243 [F 119,F 120,F 121],df 5 123 .sub (F 118) (F 122),z 6 1 123])
def arF:H:= .B (.B (.D [z 0 86 1,jX 1 87 86 0]) (.aM (F 87) (.skip) (.a7 2))) (.block 3 (.B (.D [z 0 89 12,z 1 90 13,db 2 91 242 89 90,z 3 88 91,b3 4 92 0 88,b3 5 93 1 88,z 6 16 92,z 7 17 93]) arp))
def aru:H:= .B (.D [z 0 133 12,fq 1 134 133,ay 2 135 4 134,ao 3 136 135,z 4 137 20,z 5 138 12,fq 6 139 138,ay 7 140 5 139,ao 8 141 140,z 9 4 136,z 10 5 137,z 11 6 141,a5 12 7 0]) (.aF)
def art:H:= .B (.D [bL 0 125 4 2,z 1 126 12,fq 2 127 126,ay 3 128 4 127,ao 4 129 128,db 5 130 155 125 129,z 6 124 130,b3 7 131 0 124,b3 8 132 1 124,z 9 20 131,z 10 21 132]) aru
def aro:H:= .B (.block 2 (.loop arF)) art
def arz:H:= .B (.B (.D [ay 0 52 3 2,ao 1 53 52,bq 2 54 53,a5 3 55 0]) (.block 0 (.loop arD))) aro
def ary:H:= .B (.D [ay 0 49 0 2,ao 1 50 49,a4 2 51 (.kN 1 24 [aX] (F 50) (F 50)),z 3 13 51]) arz
def arx:H:= .B (.D [bL 0 39 4 2,ay 1 40 3 2,ao 2 41 40,bq 3 42 41,ay 5 44 0 2,ao 6 45 44,qc 4 43 42 42,qc 7 46 45 45,a4 8 47 (.fF [aG,aG,aG,aX,aX,aX] [(0,4,F 39),(4,1,F 43),(5,1,F 46)]),dJ 9 48 47,z 10 12 48]) ary
def arv:H:= .B (.B (.D [bL 0 30 4 2,b0 1 31 125 [F 30],z 2 29 31,b3 3 32 0 29,b3 4 33 1 29,b3 5 34 2 29,b3 6 35 3 29,z 7 8 32,z 8 9 33,z 9 10 34,z 10 11 35]) arw) arx
def arn:H:= .B (.B (.D [bL 0 22 4 2,b0 1 23 211 [F 22],g6 2 24 23,z 3 25 24,du 4 26 25 1,A5 5 27 25 26,c6 6 28 25 27]) (.aM (F 28) (.B (.D [dV 0 4,a5 1 5 0,dV 2 6,a5 3 7 1]) (.aF)) (.skip))) arv
def ark:H:=
  .B (
  .D [
 dJ 0 2 0,
 dV 1 4,
 a5 2 5 0,
 dV 3 6,
 a5 4 7 0]) arn
def aci:bM:=⟨142,[.bw 4,.bw 5,.bw 6,.bw 7],ark⟩
theorem arl:bW al 201=some aci:=by kernel_rfl
def asR:H:= .B (.D [z 0 47 6,ay 1 48 0 8,ao 2 49 48,aY 3 50 1 47 49,ao 4 51 50,z 5 52 1,z 6 53 7,aY 7 54 1 52 53,ao 8 55 54,hc 9 56 51 55,aY 10 57 1 47 49,bz 11 1 57 56]) (.D [z 0 58 6,ay 1 59 1 8,ao 2 60 59,aY 3 61 1 58 60,ao 4 62 61,z 5 63 1,z 6 64 7,aY 7 65 1 63 64,ao 8 66 65,df 9 67 .sub (F 62) (F 66),aY 10 68 1 58 60,bz 11 1 68 67])
def asQ:H:= .B (.B (.D [z 0 33 1,z 1 34 7,aY 2 35 1 33 34,ao 3 36 35,kt 4 37 36 0,z 5 38 37,du 6 39 38 1,du 7 40 38 7,n7 8 41 38 1 39 40,dM 9 42 38 41,eg 10 43 38 2 8,dM 11 44 38 43,cQ 12 45 38 false (.e8 .gtr .fW (F 42) (F 44)),c6 13 46 38 45]) (.aM (F 46) (.B (.D [a5 0 4 0,cr 1 5 false]) (.aF)) (.skip))) asR
def asP:H:= .B (.block 1 (.B (.D [z 0 30 28,aY 1 31 4 26 28,bL 2 32 4 31,a4 3 8 (.c9 [aG,aG,aG,aG]),z 4 7 30,bz 5 4 8 32]) asQ)) (.D [cI 0 69 28,z 1 28 69])
def asO:H:= .B (.aM (F 29) (.skip) (.a7 0)) asP
def asU:H:= .B (.D [cY 0 29 28 27]) asO
def asK:H:= .B (.D [z 0 77 9,ay 1 78 1 2,ao 2 79 78,nF 3 80 77 79,z 4 81 80,dg 5 82 81 9,eB 6 83 81 2 2,dQ 7 84 81 83,cQ 8 85 81 true (.e8 .neq .fW (F 82) (F 84)),cR 9 86 81 85,z 10 87 86,dg 11 88 87 10,cQ 12 89 87 true (.e8 .neq .fW (F 88) (.const aG)),cR 13 90 87 89]) (.aM (F 90) (.B (.D [a5 0 4 0,cr 1 5 false]) (.aF)) (.skip))
def asJ:H:= .B (.block 3 (.B (.D [z 0 74 72,aY 1 75 1 70 72,ao 2 76 75,z 3 9 74,z 4 10 76]) asK)) (.D [cI 0 91 72,z 1 72 91])
def asT:H:= .B (.aM (F 73) (.skip) (.a7 2)) asJ
def asV:H:= .B (.D [cY 0 73 72 71]) asT
def asL:H:= .B (.D [z 0 92 6,ay 1 93 1 2,ao 2 94 93,aY 3 95 1 92 94,ao 4 96 95,z 5 4 96,cr 6 5 true]) (.aF)
def asS:H:= .B (.B (.D [z 0 70 6,bq 1 71 70,a5 2 72 0]) (.block 2 (.loop asV))) asL
def asN:H:= .B (.B (.D [ay 0 25 3 2,ao 1 26 25,bq 2 27 26,a5 3 28 0]) (.block 0 (.loop asU))) asS
def asM:H:= .B (.D [ay 0 22 0 2,ao 1 23 22,qc 2 24 23 23,z 3 6 24]) asN
def asI:H:= .B (.B (.D [bL 0 11 4 2,b0 1 12 184 [F 11],g6 2 13 12,z 3 14 13,du 4 15 14 1,iT 5 16 14 15,eg 6 17 14 3 2,dM 7 18 14 17,iT 8 19 14 18,qW 9 20 14 16 19,c6 10 21 14 20]) (.aM (F 21) (.B (.D [a5 0 4 0,cr 1 5 false]) (.aF)) (.skip))) asM
def asG:H:=
  .B (
  .D [
 dJ 0 2 0,
 a5 1 4 0,
 cr 2 5 false]) asI
def acr:bM:=⟨97,[.bw 4,.bw 5],asG⟩
theorem asH:bW al 210=some acr:=by kernel_rfl
def as1:H:= .B (.D [ay 0 12 3 4,ao 1 13 12,kt 2 14 13 0,z 3 15 14,eg 4 16 15 3 4,dM 5 17 15 16,mm 6 18 15 17 1000,c6 7 19 15 18,z 8 20 19,eg 9 21 20 2 4,dM 10 22 20 21,mm 11 23 20 22 1000000,c6 12 24 20 23]) (.aM (F 24) (.B (.D [cr 0 2 false]) (.aF)) (.skip))
def as0:H:= .B (.block 1 (.B (.D [aY 0 10 4 6 8,bL 1 11 4 10,a4 2 4 (.c9 [aG,aG,aG,aG]),bz 3 4 4 11]) as1)) (.D [cI 0 25 8,z 1 8 25])
def asZ:H:= .B (.aM (F 9) (.skip) (.a7 0)) as0
def as3:H:= .B (.D [cY 0 9 8 7]) asZ
def as2:H:= .B (.D [bL 0 26 4 1,b0 1 27 184 [F 26],z 2 2 27]) (.aF)
def asY:H:= .B (.B (.D [ay 0 5 3 1,ao 1 6 5,bq 2 7 6,a5 3 8 0]) (.block 0 (.loop as3))) as2
def asW:H:=
  .B (
  .D [
 dJ 0 1 0,
 cr 1 2 false]) asY
def acs:bM:=⟨28,[.bw 2],asW⟩
theorem asX:bW al 211=some acs:=by kernel_rfl
def atG:H:= .B (.D [z 0 4 0,lL 1 5 4 0,z 2 6 5,dg 3 7 6 0,eB 4 8 6 0 1,dQ 5 9 6 8,yT 6 10 6 7 9,cR 7 11 6 10,z 8 3 11]) (.aF)
def atE:H:=
  .B (
  .D [
 cr 0 3 false]) atG
def adh:bM:=⟨12,[.bw 3],atE⟩
theorem atF:bW al 234=some adh:=by kernel_rfl
def atK:H:= .B (.D [z 0 34 0,fq 1 35 34,ay 2 36 0 35,ay 3 37 3 36,ao 4 38 37,z 5 39 1,vo 6 40 39,aY 7 41 4 38 40,ay 8 42 0 41,ao 9 43 42,z 10 44 0,fq 11 45 44,ay 12 46 4 45,ao 13 47 46,z 14 48 1,vo 15 49 48,aY 16 50 1 47 49,ao 17 51 50,z 18 4 43,z 19 5 51]) (.aF)
def atJ:H:= .B (.B (.D [z 0 6 1,lL 1 7 6 0]) (.aM (F 7) (.B (.D [z 0 8 0,fq 1 9 8,ay 2 10 0 9,ay 3 11 3 10,ao 4 12 11,z 5 13 1,aY 6 14 4 12 13,ay 7 15 1 14,ao 8 16 15,z 9 17 0,fq 10 18 17,ay 11 19 0 18,ay 12 20 3 19,ao 13 21 20,z 14 22 1,aY 15 23 4 21 22,ay 16 24 2 23,ao 17 25 24,z 18 26 0,fq 19 27 26,ay 20 28 4 27,ao 21 29 28,z 22 30 1,aY 23 31 1 29 30,ao 24 32 31,df 25 33 .sub (F 25) (F 32),z 26 4 16,z 27 5 33]) (.aF)) (.skip))) atK
def atH:H:=
  .B (
  .D [
 a5 0 4 0,
 a5 1 5 0]) atJ
def adi:bM:=⟨52,[.bw 4,.bw 5],atH⟩
theorem atI:bW al 235=some adi:=by kernel_rfl
def atO:H:= .B (.D [z 0 16 0,fq 1 17 16,ay 2 18 0 17,ay 3 19 3 18,ao 4 20 19,z 5 21 1,vo 6 22 21,aY 7 23 4 20 22,ay 8 24 1 23,ao 9 25 24,z 10 4 25]) (.aF)
def atN:H:= .B (.B (.D [z 0 5 1,lL 1 6 5 0]) (.aM (F 6) (.B (.D [z 0 7 0,fq 1 8 7,ay 2 9 0 8,ay 3 10 3 9,ao 4 11 10,z 5 12 1,aY 6 13 4 11 12,ay 7 14 0 13,ao 8 15 14,z 9 4 15]) (.aF)) (.skip))) atO
def atL:H:=
  .B (
  .D [
 a5 0 4 0]) atN
def adj:bM:=⟨26,[.bw 4],atL⟩
theorem atM:bW al 236=some adj:=by kernel_rfl
def aue:H:= .B (.block 1 (.B (.D [z 0 34 32,z 1 8 34]) (.D [z 0 35 6,z 1 36 8,aY 2 37 1 35 36,A1 3 1 37 1099511627776]))) (.D [cI 0 38 32,z 1 32 38])
def aud:H:= .B (.aM (F 33) (.skip) (.a7 0)) aue
def auk:H:= .B (.D [cY 0 33 32 31]) aud
def aua:H:= .B (.D [z 0 110 15,jX 1 111 110 0,z 2 112 111,dg 3 113 112 17,dg 4 114 112 6,dg 5 115 112 14,ml 6 116 112 1 114 115,dQ 7 117 112 116,yT 8 118 112 113 117,cR 9 119 112 118]) (.aM (F 119) (.B (.D [z 0 120 6,z 1 121 14,z 2 122 7,z 3 123 14,z 4 124 17,z 5 125 12,aY 6 126 1 120 121,bz 7 1 126 124,aY 8 127 1 122 123,bz 9 1 127 125]) (.D [z 0 128 9,a4 1 129 (.vu 280 (F 128)),z 2 130 14,z 3 131 17,A4 4 132 130 131,a4 5 133 (.vu 282 (F 132)),db 6 134 264 129 133])) (.skip))
def at9:H:= .B (.D [ay 0 89 1 10,ao 1 90 89,z 2 91 16,hc 3 92 90 91,z 4 93 0,fq 5 94 93,ay 6 95 5 94,ao 7 96 95,ay 8 97 0 10,ao 9 98 97,aY 10 99 1 96 98,ao 11 100 99,hc 12 101 92 100,z 13 102 0,fq 14 103 102,ay 15 104 5 103,ao 16 105 104,z 17 106 14,aY 18 107 1 105 106,ao 19 108 107,df 20 109 .sub (F 101) (F 108),z 21 17 109]) aua
def at8:H:= .B (.D [z 0 82 0,z 1 83 12,db 2 84 263 82 83,z 3 81 84,b3 4 85 0 81,b3 5 86 1 81,b3 6 87 2 81,b3 7 88 3 81,z 8 13 85,z 9 14 86,z 10 15 87,z 11 16 88]) at9
def at7:H:= .B (.block 5 (.B (.D [aY 0 79 1 75 77,ao 1 80 79,z 2 12 80]) at8)) (.D [cI 0 135 77,z 1 77 135])
def at6:H:= .B (.aM (F 78) (.skip) (.a7 4)) at7
def aul:H:= .B (.D [cY 0 78 77 76]) at6
def auj:H:= .B (.D [z 0 71 1,ay 1 72 0 10,ao 2 73 72,aY 3 74 1 71 73,ao 4 75 74,bq 5 76 75,a5 6 77 0]) (.block 4 (.loop aul))
def aui:H:= .B (.B (.D [ay 0 63 1 10,ao 1 64 63,z 2 65 6,ay 3 66 0 10,ao 4 67 66,aY 5 68 1 65 67,ao 6 69 68,df 7 70 .gtr (F 64) (F 69)]) (.aM (F 70) (.a7 3) (.skip))) auj
def aum:H:= .B (.B (.D [z 0 54 9,fq 1 55 54,ao 2 56 55,b0 3 57 261 [F 56],jX 4 58 57 0]) (.aM (F 58) (.skip) (.a7 2))) (.block 3 (.B (.D [z 0 59 9,a4 1 60 (.vu 280 (F 59)),b0 2 61 262 [F 60],a4 3 62 (.zr 282 (F 61)),a4 4 10 (.c9 [aG,aG]),bz 5 2 10 62]) aui))
def aub:H:= .B (.D [z 0 136 6,z 1 137 7,z 2 4 136,z 3 5 137]) (.aF)
def auh:H:= .B (.block 2 (.loop aum)) aub
def aug:H:= .B (.D [z 0 46 0,fq 1 47 46,ay 2 48 0 47,ay 3 49 1 48,ao 4 50 49,a4 5 51 (.fF [aG,aG] [(0,1,F 50),(1,1,.const aG)]),a4 6 52 (.gM 2 1 [aG,aG] [(0,2,F 51)]),dJ 7 53 52,z 8 9 53]) auh
def auf:H:= .B (.D [z 0 39 6,z 1 40 0,fq 2 41 40,ay 3 42 0 41,ay 4 43 1 42,ao 5 44 43,aY 6 45 1 39 44,A1 7 1 45 0]) aug
def auc:H:= .B (.B (.D [z 0 30 6,bq 1 31 30,a5 2 32 0]) (.block 0 (.loop auk))) auf
def at5:H:= .B (.D [z 0 18 0,fq 1 19 18,ay 2 20 0 19,ay 3 21 0 20,ao 4 22 21,z 6 24 0,fq 7 25 24,ay 8 26 0 25,ay 9 27 0 26,ao 10 28 27,qc 5 23 22 22,z 12 6 23,qc 11 29 28 28,z 13 7 29]) auc
def at3:H:=
  .B (
  .D [
 dV 0 4,
 dV 1 5]) at5
def adw:bM:=⟨138,[.bw 4,.bw 5],at3⟩
theorem at4:bW al 242=some adw:=by kernel_rfl
def auq:H:= .B (.D [z 0 37 2,z 1 38 10,a4 2 39 (.pq false (F 37) [F 38]),z 3 2 39]) (.D [z 0 40 8,z 1 7 40])
def auv:H:= .B (.B (.D [z 0 19 7,z 1 20 0,fq 2 21 20,ay 3 22 0 21,ay 4 23 1 22,ao 5 24 23,nF 6 25 19 24]) (.aM (F 25) (.skip) (.a7 0))) (.block 1 (.B (.D [z 0 27 0,z 1 28 1,z 2 29 7,aY 3 30 1 28 29,ao 4 31 30,db 5 32 263 27 31,z 6 26 32,b3 7 33 0 26,b3 8 34 1 26,b3 9 35 2 26,b3 10 36 3 26,z 11 8 33,z 12 9 34,z 13 10 35,z 14 11 36]) auq))
def aut:H:= .B (.D [z 0 65 13,lL 1 66 65 0]) (.aM (F 66) (.D [z 0 67 0,fq 1 68 67,ay 2 69 4 68,ao 3 70 69,z 4 71 13,aY 5 72 1 70 71,ao 6 73 72,z 7 74 2,hc 8 75 73 74,aY 9 76 1 70 71,bz 10 1 76 75]) (.D [z 0 77 0,fq 1 78 77,ay 2 79 4 78,ao 3 80 79,z 4 81 13,vo 5 82 81,aY 6 83 1 80 82,ao 7 84 83,z 8 85 2,df 9 86 .sub (F 84) (F 85),aY 10 87 1 80 82,bz 11 1 87 86]))
def aus:H:= .B (.D [z 0 58 0,z 1 59 13,db 2 60 263 58 59,z 3 57 60,b3 4 61 0 57,b3 5 62 1 57,b3 6 63 2 57,b3 7 64 3 57,z 8 12 61]) aut
def auw:H:= .B (.B (.D [z 0 46 12,z 1 47 0,fq 2 48 47,ay 3 49 0 48,ay 4 50 1 49,ao 5 51 50,nF 6 52 46 51]) (.aM (F 52) (.skip) (.a7 2))) (.block 3 (.B (.D [z 0 53 1,z 1 54 12,aY 2 55 1 53 54,ao 3 56 55,z 4 13 56]) aus))
def auu:H:= .B (.D [z 0 88 2,z 1 6 88]) (.aF)
def aur:H:= .B (.B (.D [z 0 41 0,fq 1 42 41,ay 2 43 0 42,ay 3 44 2 43,ao 4 45 44,z 5 12 45]) (.block 2 (.loop auw))) auu
def aup:H:= .B (.B (.D [z 0 14 0,fq 1 15 14,ay 2 16 0 15,ay 3 17 2 16,ao 4 18 17,z 5 7 18]) (.block 0 (.loop auv))) aur
def aun:H:=
  .B (
  .D [
 a5 0 6 0]) aup
def adx:bM:=⟨89,[.bw 6],aun⟩
theorem auo:bW al 243=some adx:=by kernel_rfl
def awc:H:= .B (.D [z 0 3 0,bq 1 4 3,z 2 2 4]) (.aF)
def awa:H:=
  .B (
  .D [
 a5 0 2 0]) awc
def ad5:bM:=⟨5,[.bw 2],awa⟩
theorem awb:bW al 261=some ad5:=by kernel_rfl
def awi:H:= .B (.D [z 0 13 0,a4 1 14 (.iR [(280,299,none)] (F 13) []),z 2 2 14]) (.aF)
def awh:H:= .B (.D [z 0 10 0,z 1 11 3,b0 2 12 276 [F 10,.const aG,F 11]]) awi
def awg:H:= .B (.D [z 0 7 0,z 1 8 3,a4 2 9 (.iR [(280,301,some (false,1))] (F 7) [.const aG,F 8])]) awh
def awf:H:= .B (.D [z 0 4 0,a4 1 5 (.iR [(17,295,none),(280,261,some (false,1))] (F 4) []),h0 2 6 5 1,z 3 3 6]) awg
def awd:H:=
  .B (
  .D [
 a4 0 2 (.mq (.const (.nilIface)))]) awf
def ad6:bM:=⟨15,[.bw 2],awd⟩
theorem awe:bW al 262=some ad6:=by kernel_rfl
def awm:H:= .B (.D [ay 0 20 0 8,ao 1 21 20,ay 2 22 1 8,ao 3 23 22,ay 4 24 2 8,ao 5 25 24,z 6 26 0,fq 7 27 26,ay 8 28 4 27,ao 9 29 28,z 10 30 1,aY 11 31 1 29 30,ao 12 32 31,df 13 33 .sub (F 25) (F 32),ay 14 34 3 8,ao 15 35 34,z 16 4 21,z 17 5 23,z 18 6 33,z 19 7 35]) (.aF)
def awo:H:= .B (.D [ay 0 45 1 9,ao 1 46 45,ay 2 47 0 9,ao 3 48 47,z 4 49 0,fq 5 50 49,ay 6 51 4 50,ao 7 52 51,z 8 53 1,vo 9 54 53,aY 10 55 1 52 54,ao 11 56 55,ay 12 57 3 9,ao 13 58 57,a4 14 59 (.qs .neg (F 58)),z 15 4 46,z 16 5 48,z 17 6 56,z 18 7 59]) (.aF)
def awn:H:= .B (.D [z 0 36 0,fq 1 37 36,ay 2 38 0 37,ay 3 39 3 38,ao 4 40 39,z 5 41 1,vo 6 42 41,aY 7 43 4 40 42,bL 8 44 4 43,a4 9 9 (.c9 [aG,aG,aG,aG]),bz 10 4 9 44]) awo
def awl:H:= .B (.B (.D [z 0 10 1,lL 1 11 10 0]) (.aM (F 11) (.B (.D [z 0 12 0,fq 1 13 12,ay 2 14 0 13,ay 3 15 3 14,ao 4 16 15,z 5 17 1,aY 6 18 4 16 17,bL 7 19 4 18,a4 8 8 (.c9 [aG,aG,aG,aG]),bz 9 4 8 19]) awm) (.skip))) awn
def awj:H:=
  .B (
  .D [
 a5 0 4 0,
 a5 1 5 0,
 a5 2 6 0,
 a5 3 7 0]) awl
def ad7:bM:=⟨60,[.bw 4,.bw 5,.bw 6,.bw 7],awj⟩
theorem awk:bW al 263=some ad7:=by kernel_rfl
def awp:H:=
  .B (
  .D [
 z 0 4 0,
 z 1 5 1,
 a4 2 6 (.iR [(280,300,none)] (F 4) [F 5])]) (
  .D [
 z 0 7 0,
 z 1 8 0,
 a4 2 9 (.iR [(17,295,none),(280,261,some (false,1))] (F 8) []),
 h0 3 10 9 1,
 db 4 11 277 7 10])
def ad8:bM:=⟨12,[],awp⟩
theorem awq:bW al 264=some ad8:=by kernel_rfl
def axg:H:= .B (.D [z 0 25 10,z 1 26 2,cY 2 27 25 26,z 3 28 27,dg 4 29 28 0,dg 5 30 28 10,dg 6 31 28 8,cQ 7 32 28 true (.iR [(280,298,some (false,1))] (F 29) [F 30,F 31]),cR 8 33 28 32]) (.aM (F 33) (.D [z 0 34 10,z 1 9 34]) (.skip))
def axi:H:= .B (.D [z 0 40 0,z 1 41 7,z 2 42 9,a4 3 43 (.iR [(280,301,some (false,1))] (F 40) [F 41,F 42])]) (.D [z 0 44 9,z 1 7 44])
def axh:H:= .B (.B (.D [z 0 35 0,z 1 36 9,z 2 37 7,a4 3 38 (.iR [(280,298,some (false,1))] (F 35) [F 36,F 37]),g6 4 39 38]) (.aM (F 39) (.a7 0) (.skip))) axi
def axf:H:= .B (.B (.D [z 0 23 8,cI 1 24 23,z 2 10 24]) axg) axh
def axe:H:= .B (.D [z 0 22 8,z 1 9 22]) axf
def axd:H:= .B (.B (.D [z 0 15 8,z 1 16 2,df 2 17 .geq (F 15) (F 16),z 3 18 17,du 4 19 18 8,A5 5 20 18 19,c6 6 21 18 20]) (.aM (F 21) (.a7 0) (.skip))) axe
def axk:H:= .block 1 (.B (.D [z 0 12 7,df 1 13 .mul (.const (.int .i64 2)) (F 12),cI 2 14 13,z 3 8 14]) axd)
def axj:H:= .B (.D [z 0 45 7,z 1 46 1,df 2 47 .gtr (F 45) (F 46),z 3 6 47]) (.aF)
def axc:H:= .B (.block 0 (.loop axk)) axj
def axb:H:= .B (.D [z 0 11 1,z 1 7 11]) axc
def aw9:H:=
  .B (
  .D [
 cr 0 6 false]) axb
def aem:bM:=⟨48,[.bw 6],aw9⟩
theorem axa:bW al 276=some aem:=by kernel_rfl
def axo:H:= .B (.D [z 0 18 0,z 1 19 4,z 2 20 1,a4 3 21 (.iR [(280,301,some (false,1))] (F 18) [F 19,F 20])]) (.D [z 0 22 4,z 1 1 22])
def axn:H:= .B (.B (.D [z 0 8 4,z 1 9 1,df 2 10 .eql (F 8) (F 9),z 3 11 10,du 4 12 11 0,du 5 13 11 1,du 6 14 11 4,cQ 7 15 11 false (.iR [(280,298,some (false,1))] (F 12) [F 13,F 14]),jh 8 16 11 15,c6 9 17 11 16]) (.aM (F 17) (.a7 0) (.skip))) axo
def axp:H:= .block 1 (.B (.D [z 0 5 1,h0 1 6 5 1,df 2 7 .quo (F 6) (.const (.int .i64 2)),z 3 4 7]) axn)
def axl:H:=
  .block 0 (
  .loop axp)
def aen:bM:=⟨23,[],axl⟩
theorem axm:bW al 277=some aen:=by kernel_rfl
def axs:H:= .B (.D [z 0 7 0,z 1 8 1,aY 2 9 2 7 8,ay 3 10 1 9,ao 4 11 10,z 5 12 0,z 6 13 2,aY 7 14 2 12 13,ay 8 15 1 14,ao 9 16 15,cY 10 17 11 16,z 11 6 17]) (.aF)
def axq:H:=
  .B (
  .D [
 cr 0 6 false]) axs
def aet:bM:=⟨18,[.bw 6],axq⟩
theorem axr:bW al 298=some aet:=by kernel_rfl
def axy:H:= .B (.D [bL 0 23 2 4,a4 1 24 (.vu 282 (F 23)),z 2 2 24]) (.aF)
def axx:H:= .B (.D [z 0 16 0,z 1 17 0,fq 2 18 17,ao 3 19 18,z 4 20 3,qY 5 21 2 19 20,fq 6 22 16,bz 7 1 22 21]) axy
def axw:H:= .B (.D [z 0 10 0,fq 1 11 10,ao 2 12 11,z 3 13 3,aY 4 14 2 12 13,bL 5 15 2 14,a4 6 4 (.c9 [aG,aG]),bz 7 2 4 15]) axx
def axv:H:= .B (.D [z 0 5 0,fq 1 6 5,ao 2 7 6,bq 3 8 7,h0 4 9 8 1,z 5 3 9]) axw
def axt:H:=
  .B (
  .D [
 a4 0 2 (.mq (.const (.nilIface)))]) axv
def aeu:bM:=⟨25,[.bw 2],axt⟩
theorem axu:bW al 299=some aeu:=by kernel_rfl
def axz:H:=
  .D [
 z 0 4 0,
 z 1 5 0,
 fq 2 6 5,
 ao 3 7 6,
 z 4 8 1,
 a4 5 9 (.zr 282 (F 8)),
 a4 6 10 (.gM 2 1 [aG,aG] [(0,2,F 9)]),
 iC 7 11 2 16 7 10,
 fq 8 12 4,
 bz 9 1 12 11]
def aev:bM:=⟨13,[],axz⟩
theorem axA:bW al 300=some aev:=by kernel_rfl
def axB:H:=
  .D [
 z 0 6 0,
 z 1 7 1,
 z 2 8 0,
 z 3 9 2,
 z 4 10 0,
 z 5 11 2,
 aY 6 12 2 10 11,
 bL 7 13 2 12,
 z 8 14 0,
 z 9 15 1,
 aY 10 16 2 14 15,
 bL 11 17 2 16,
 aY 12 18 2 6 7,
 bz 13 2 18 13,
 aY 14 19 2 8 9,
 bz 15 2 19 17]
def aew:bM:=⟨20,[],axB⟩
theorem axC:bW al 301=some aew:=by kernel_rfl
open Go Go.DI Go.Big
section
set_option maxRecDepth 100000
def Ps:bg:=⟨1,[⟨⟨#[100,105,115,107]⟩,[⟨false,[1],[1]⟩],[[⟨false,[],[1]⟩]],[⟨false,[1],[101]⟩]⟩],[⟨⟨#[98,105,103]⟩,3,8,0⟩,⟨⟨#[111,108,100]⟩,2,6,0⟩],[⟨⟨#[]⟩,0,(-1),0,⟨false,[],[1]⟩⟩,⟨⟨#[110,97,98]⟩,1,0,17,⟨false,[],[1]⟩⟩,⟨⟨#[110,97,99]⟩,2,1,18,⟨false,[],[1]⟩⟩,⟨⟨#[110,97,100]⟩,3,2,8,⟨false,[],[1]⟩⟩,⟨⟨#[110,97,101]⟩,4,3,9,⟨false,[],[1]⟩⟩,⟨⟨#[110,97,102]⟩,3,2,8,⟨false,[],[1]⟩⟩,⟨⟨#[110,97,103]⟩,4,5,9,⟨false,[],[1]⟩⟩,⟨⟨#[110,97,104]⟩,3,2,8,⟨false,[],[1]⟩⟩,⟨⟨#[110,97,105]⟩,4,7,9,⟨false,[],[1]⟩⟩],[⟨⟨#[100,97,97]⟩,1,4⟩,⟨⟨#[100,97,98]⟩,1,6⟩,⟨⟨#[100,97,99]⟩,1,8⟩],[⟨⟨#[112,97,99]⟩,1,0,1,⟨0,0,0,2,0⟩,[0,1],[⟨false,[1],[2]⟩],⟨false,[1],[1000]⟩,⟨false,[30],[1]⟩⟩,⟨⟨#[112,97,98]⟩,1,0,1,⟨0,0,0,2,0⟩,[0,1],[⟨false,[1],[2]⟩],⟨false,[1],[1000]⟩,⟨false,[30],[1]⟩⟩],[⟨⟨#[118,97,100]⟩,0⟩,⟨⟨#[118,97,99]⟩,1⟩,⟨⟨#[118,97,98]⟩,0⟩]⟩
theorem ajS:En Ps=true:=by decide+kernel
theorem ajT:EN Ps=true:=by decide+kernel
def Pt:Value:= .agg #[.int .i64 1,aj [[.string ⟨#[100,105,115,107]⟩,aj [[.bool false,aj [[.int .u32 1]] 1,aj [[.int .u32 1]] 1]] 3,aj [[aj [[.bool false,aj [] 1,aj [[.int .u32 1]] 1]] 3]] 1,aj [[.bool false,aj [[.int .u32 1]] 1,aj [[.int .u32 101]] 1]] 3]] 4,aj [[.string ⟨#[98,105,103]⟩,.int .i64 3,.int .i64 8,.int .i64 0],[.string ⟨#[111,108,100]⟩,.int .i64 2,.int .i64 6,.int .i64 0]] 4,aj [[.string ⟨#[]⟩,.int .i64 0,.int .i64 (-1),.int .i64 0,.bool false,aj [] 1,aj [[.int .u32 1]] 1],[.string ⟨#[110,97,98]⟩,.int .i64 1,.int .i64 0,.int .i64 17,.bool false,aj [] 1,aj [[.int .u32 1]] 1],[.string ⟨#[110,97,99]⟩,.int .i64 2,.int .i64 1,.int .i64 18,.bool false,aj [] 1,aj [[.int .u32 1]] 1],[.string ⟨#[110,97,100]⟩,.int .i64 3,.int .i64 2,.int .i64 8,.bool false,aj [] 1,aj [[.int .u32 1]] 1],[.string ⟨#[110,97,101]⟩,.int .i64 4,.int .i64 3,.int .i64 9,.bool false,aj [] 1,aj [[.int .u32 1]] 1],[.string ⟨#[110,97,102]⟩,.int .i64 3,.int .i64 2,.int .i64 8,.bool false,aj [] 1,aj [[.int .u32 1]] 1],[.string ⟨#[110,97,103]⟩,.int .i64 4,.int .i64 5,.int .i64 9,.bool false,aj [] 1,aj [[.int .u32 1]] 1],[.string ⟨#[110,97,104]⟩,.int .i64 3,.int .i64 2,.int .i64 8,.bool false,aj [] 1,aj [[.int .u32 1]] 1],[.string ⟨#[110,97,105]⟩,.int .i64 4,.int .i64 7,.int .i64 9,.bool false,aj [] 1,aj [[.int .u32 1]] 1]] 7,aj [[.string ⟨#[100,97,97]⟩,.int .i64 1,.int .i64 4],[.string ⟨#[100,97,98]⟩,.int .i64 1,.int .i64 6],[.string ⟨#[100,97,99]⟩,.int .i64 1,.int .i64 8]] 3,aj [[.string ⟨#[112,97,99]⟩,.int .i64 1,.int .i64 0,.int .i64 1,.int .i64 0,.int .i64 0,.int .i64 0,.int .i64 2,.int .i64 0,aj [[.int .i64 0],[.int .i64 1]] 1,aj [[.bool false,aj [[.int .u32 1]] 1,aj [[.int .u32 2]] 1]] 3,.bool false,aj [[.int .u32 1]] 1,aj [[.int .u32 1000]] 1,.bool false,aj [[.int .u32 30]] 1,aj [[.int .u32 1]] 1],[.string ⟨#[112,97,98]⟩,.int .i64 1,.int .i64 0,.int .i64 1,.int .i64 0,.int .i64 0,.int .i64 0,.int .i64 2,.int .i64 0,aj [[.int .i64 0],[.int .i64 1]] 1,aj [[.bool false,aj [[.int .u32 1]] 1,aj [[.int .u32 2]] 1]] 3,.bool false,aj [[.int .u32 1]] 1,aj [[.int .u32 1000]] 1,.bool false,aj [[.int .u32 30]] 1,aj [[.int .u32 1]] 1]] 17,aj [[.string ⟨#[118,97,100]⟩,.int .i64 0],[.string ⟨#[118,97,99]⟩,.int .i64 1],[.string ⟨#[118,97,98]⟩,.int .i64 0]] 2]
theorem ajQ:Pt= .agg (aL Ps).toArray:=by rfl
theorem ajR:bH al 87 [Pt] (.bool true):=by rw[ajQ];exact af9 ajS ajT
def Pu:bg:=⟨1,[⟨⟨#[100,105,115,107]⟩,[⟨false,[1],[1]⟩],[[⟨false,[],[1]⟩]],[⟨false,[1],[101]⟩]⟩],[⟨⟨#[98,105,103]⟩,3,8,0⟩,⟨⟨#[111,108,100]⟩,2,6,0⟩],[⟨⟨#[]⟩,0,(-1),0,⟨false,[],[1]⟩⟩,⟨⟨#[110,97,98]⟩,1,0,17,⟨false,[],[1]⟩⟩,⟨⟨#[110,97,99]⟩,2,1,18,⟨false,[],[1]⟩⟩,⟨⟨#[110,97,100]⟩,3,2,8,⟨false,[],[1]⟩⟩,⟨⟨#[110,97,101]⟩,4,3,9,⟨false,[],[1]⟩⟩,⟨⟨#[110,97,102]⟩,3,2,8,⟨false,[],[1]⟩⟩,⟨⟨#[110,97,103]⟩,4,5,9,⟨false,[],[1]⟩⟩,⟨⟨#[110,97,104]⟩,3,2,8,⟨false,[],[1]⟩⟩,⟨⟨#[110,97,105]⟩,4,7,9,⟨false,[],[1]⟩⟩],[⟨⟨#[100,97,97]⟩,1,4⟩,⟨⟨#[100,97,98]⟩,1,6⟩,⟨⟨#[100,97,99]⟩,1,8⟩],[⟨⟨#[112]⟩,1,0,1,⟨0,0,0,0,0⟩,[0,1],[⟨false,[1],[1]⟩],⟨false,[],[1]⟩,⟨false,[1],[1]⟩⟩],[⟨⟨#[118]⟩,0⟩]⟩
theorem W7:En Pu=true:=by decide+kernel
theorem W8:EN Pu=true:=by decide+kernel
def ox:Value:= .agg #[.int .i64 1,aj [[.string ⟨#[100,105,115,107]⟩,aj [[.bool false,aj [[.int .u32 1]] 1,aj [[.int .u32 1]] 1]] 3,aj [[aj [[.bool false,aj [] 1,aj [[.int .u32 1]] 1]] 3]] 1,aj [[.bool false,aj [[.int .u32 1]] 1,aj [[.int .u32 101]] 1]] 3]] 4,aj [[.string ⟨#[98,105,103]⟩,.int .i64 3,.int .i64 8,.int .i64 0],[.string ⟨#[111,108,100]⟩,.int .i64 2,.int .i64 6,.int .i64 0]] 4,aj [[.string ⟨#[]⟩,.int .i64 0,.int .i64 (-1),.int .i64 0,.bool false,aj [] 1,aj [[.int .u32 1]] 1],[.string ⟨#[110,97,98]⟩,.int .i64 1,.int .i64 0,.int .i64 17,.bool false,aj [] 1,aj [[.int .u32 1]] 1],[.string ⟨#[110,97,99]⟩,.int .i64 2,.int .i64 1,.int .i64 18,.bool false,aj [] 1,aj [[.int .u32 1]] 1],[.string ⟨#[110,97,100]⟩,.int .i64 3,.int .i64 2,.int .i64 8,.bool false,aj [] 1,aj [[.int .u32 1]] 1],[.string ⟨#[110,97,101]⟩,.int .i64 4,.int .i64 3,.int .i64 9,.bool false,aj [] 1,aj [[.int .u32 1]] 1],[.string ⟨#[110,97,102]⟩,.int .i64 3,.int .i64 2,.int .i64 8,.bool false,aj [] 1,aj [[.int .u32 1]] 1],[.string ⟨#[110,97,103]⟩,.int .i64 4,.int .i64 5,.int .i64 9,.bool false,aj [] 1,aj [[.int .u32 1]] 1],[.string ⟨#[110,97,104]⟩,.int .i64 3,.int .i64 2,.int .i64 8,.bool false,aj [] 1,aj [[.int .u32 1]] 1],[.string ⟨#[110,97,105]⟩,.int .i64 4,.int .i64 7,.int .i64 9,.bool false,aj [] 1,aj [[.int .u32 1]] 1]] 7,aj [[.string ⟨#[100,97,97]⟩,.int .i64 1,.int .i64 4],[.string ⟨#[100,97,98]⟩,.int .i64 1,.int .i64 6],[.string ⟨#[100,97,99]⟩,.int .i64 1,.int .i64 8]] 3,aj [[.string ⟨#[112]⟩,.int .i64 1,.int .i64 0,.int .i64 1,.int .i64 0,.int .i64 0,.int .i64 0,.int .i64 0,.int .i64 0,aj [[.int .i64 0],[.int .i64 1]] 1,aj [[.bool false,aj [[.int .u32 1]] 1,aj [[.int .u32 1]] 1]] 3,.bool false,aj [] 1,aj [[.int .u32 1]] 1,.bool false,aj [[.int .u32 1]] 1,aj [[.int .u32 1]] 1]] 17,aj [[.string ⟨#[118]⟩,.int .i64 0]] 2]
theorem W6:ox= .agg (aL Pu).toArray:=by rfl
theorem ajV:bH al 62 [ox] (.int .i64 0):=by rw[W6];exact azV W7 W8
theorem ajU:bH al 87 [ox] (.bool true):=by rw[W6];exact af9 W7 W8
def ajW:List (Nat×bM):=[(18,LJ),(39,aeB),(41,Dv),(44,aeP),(45,aeQ),(48,MF),(49,wX),(52,Dx),(60,MK),(61,MN),(63,MV),(78,HV),(86,HW),(91,DY),(92,Nh),(93,sI),(94,H3),(96,afM),(98,afN),(99,afO),(101,Lf),(102,Lg),(108,Lj),(109,Lk),(115,GJ),(123,Ll),(124,aas),(125,aat),(127,aau),(128,aav),(129,aaw),(133,GO),(146,Lt),(147,Lx),(148,aa6),(149,aa7),(152,aa8),(153,aa9),(154,aba),(155,abb),(156,abc),(157,abd),(183,abI),(184,abJ),(185,abK),(186,abL),(187,LK),(200,L1),(201,aci),(202,acj),(203,ack),(204,acm),(206,acn),(207,aco),(208,acp),(209,acq),(210,acr),(211,acs),(234,adh),(235,adi),(236,adj),(242,adw),(243,adx),(244,ady),(261,ad5),(262,ad6),(263,ad7),(264,ad8),(276,aem),(277,aen),(298,aet),(299,aeu),(300,aev),(301,aew)]
theorem wg:JL al ajW:=⟨⟨⟨by kernel_rfl,abT⟩,by kernel_rfl⟩,⟨⟨⟨by kernel_rfl,axF⟩,by kernel_rfl⟩,⟨⟨⟨by kernel_rfl,S4⟩,by kernel_rfl⟩,⟨⟨⟨by kernel_rfl,axU⟩,by kernel_rfl⟩,⟨⟨⟨by kernel_rfl,ays⟩,by kernel_rfl⟩,⟨⟨⟨by kernel_rfl,aeV⟩,by kernel_rfl⟩,⟨⟨⟨by kernel_rfl,aeZ⟩,by kernel_rfl⟩,⟨⟨⟨by kernel_rfl,Tj⟩,by kernel_rfl⟩,⟨⟨⟨by kernel_rfl,ae5⟩,by kernel_rfl⟩,⟨⟨⟨by kernel_rfl,afi⟩,by kernel_rfl⟩,⟨⟨⟨by kernel_rfl,afw⟩,by kernel_rfl⟩,⟨⟨⟨by kernel_rfl,afB⟩,by kernel_rfl⟩,⟨⟨⟨by kernel_rfl,afC⟩,by kernel_rfl⟩,⟨⟨⟨by kernel_rfl,TJ⟩,by kernel_rfl⟩,⟨⟨⟨by kernel_rfl,afG⟩,by kernel_rfl⟩,⟨⟨⟨by kernel_rfl,afI⟩,by kernel_rfl⟩,⟨⟨⟨by kernel_rfl,afJ⟩,by kernel_rfl⟩,⟨⟨⟨by kernel_rfl,ayG⟩,by kernel_rfl⟩,⟨⟨⟨by kernel_rfl,ayO⟩,by kernel_rfl⟩,⟨⟨⟨by kernel_rfl,ayV⟩,by kernel_rfl⟩,⟨⟨⟨by kernel_rfl,ZP⟩,by kernel_rfl⟩,⟨⟨⟨by kernel_rfl,ZT⟩,by kernel_rfl⟩,⟨⟨⟨by kernel_rfl,Z0⟩,by kernel_rfl⟩,⟨⟨⟨by kernel_rfl,Z5⟩,by kernel_rfl⟩,⟨⟨⟨by kernel_rfl,aao⟩,by kernel_rfl⟩,⟨⟨⟨by kernel_rfl,aaq⟩,by kernel_rfl⟩,⟨⟨⟨by kernel_rfl,anl⟩,by kernel_rfl⟩,⟨⟨⟨by kernel_rfl,anU⟩,by kernel_rfl⟩,⟨⟨⟨by kernel_rfl,an6⟩,by kernel_rfl⟩,⟨⟨⟨by kernel_rfl,an9⟩,by kernel_rfl⟩,⟨⟨⟨by kernel_rfl,aod⟩,by kernel_rfl⟩,⟨⟨⟨by kernel_rfl,aaA⟩,by kernel_rfl⟩,⟨⟨⟨by kernel_rfl,aaZ⟩,by kernel_rfl⟩,⟨⟨⟨by kernel_rfl,aa3⟩,by kernel_rfl⟩,⟨⟨⟨by kernel_rfl,aop⟩,by kernel_rfl⟩,⟨⟨⟨by kernel_rfl,aoK⟩,by kernel_rfl⟩,⟨⟨⟨by kernel_rfl,aoS⟩,by kernel_rfl⟩,⟨⟨⟨by kernel_rfl,ao4⟩,by kernel_rfl⟩,⟨⟨⟨by kernel_rfl,ao7⟩,by kernel_rfl⟩,⟨⟨⟨by kernel_rfl,apl⟩,by kernel_rfl⟩,⟨⟨⟨by kernel_rfl,apw⟩,by kernel_rfl⟩,⟨⟨⟨by kernel_rfl,apM⟩,by kernel_rfl⟩,⟨⟨⟨by kernel_rfl,aql⟩,by kernel_rfl⟩,⟨⟨⟨by kernel_rfl,aqn⟩,by kernel_rfl⟩,⟨⟨⟨by kernel_rfl,aqx⟩,by kernel_rfl⟩,⟨⟨⟨by kernel_rfl,aqK⟩,by kernel_rfl⟩,⟨⟨⟨by kernel_rfl,abN⟩,by kernel_rfl⟩,⟨⟨⟨by kernel_rfl,acf⟩,by kernel_rfl⟩,⟨⟨⟨by kernel_rfl,arl⟩,by kernel_rfl⟩,⟨⟨⟨by kernel_rfl,arH⟩,by kernel_rfl⟩,⟨⟨⟨by kernel_rfl,arK⟩,by kernel_rfl⟩,⟨⟨⟨by kernel_rfl,arO⟩,by kernel_rfl⟩,⟨⟨⟨by kernel_rfl,ar8⟩,by kernel_rfl⟩,⟨⟨⟨by kernel_rfl,asg⟩,by kernel_rfl⟩,⟨⟨⟨by kernel_rfl,asy⟩,by kernel_rfl⟩,⟨⟨⟨by kernel_rfl,asE⟩,by kernel_rfl⟩,⟨⟨⟨by kernel_rfl,asH⟩,by kernel_rfl⟩,⟨⟨⟨by kernel_rfl,asX⟩,by kernel_rfl⟩,⟨⟨⟨by kernel_rfl,atF⟩,by kernel_rfl⟩,⟨⟨⟨by kernel_rfl,atI⟩,by kernel_rfl⟩,⟨⟨⟨by kernel_rfl,atM⟩,by kernel_rfl⟩,⟨⟨⟨by kernel_rfl,at4⟩,by kernel_rfl⟩,⟨⟨⟨by kernel_rfl,auo⟩,by kernel_rfl⟩,⟨⟨⟨by kernel_rfl,auz⟩,by kernel_rfl⟩,⟨⟨⟨by kernel_rfl,awb⟩,by kernel_rfl⟩,⟨⟨⟨by kernel_rfl,awe⟩,by kernel_rfl⟩,⟨⟨⟨by kernel_rfl,awk⟩,by kernel_rfl⟩,⟨⟨⟨by kernel_rfl,awq⟩,by kernel_rfl⟩,⟨⟨⟨by kernel_rfl,axa⟩,by kernel_rfl⟩,⟨⟨⟨by kernel_rfl,axm⟩,by kernel_rfl⟩,⟨⟨⟨by kernel_rfl,axr⟩,by kernel_rfl⟩,⟨⟨⟨by kernel_rfl,axu⟩,by kernel_rfl⟩,⟨⟨⟨by kernel_rfl,axA⟩,by kernel_rfl⟩,⟨⟨⟨by kernel_rfl,axC⟩,by kernel_rfl⟩,trivial⟩⟩⟩⟩⟩⟩⟩⟩⟩⟩⟩⟩⟩⟩⟩⟩⟩⟩⟩⟩⟩⟩⟩⟩⟩⟩⟩⟩⟩⟩⟩⟩⟩⟩⟩⟩⟩⟩⟩⟩⟩⟩⟩⟩⟩⟩⟩⟩⟩⟩⟩⟩⟩⟩⟩⟩⟩⟩⟩⟩⟩⟩⟩⟩⟩⟩⟩⟩⟩⟩⟩⟩⟩⟩
def JS:mR:=[(59,[.int .i64 1,.int .i64 1],.agg #[.bool false,aj [[.int .u32 1]] 1,aj [[.int .u32 1]] 1]),(59,[.int .i64 0,.int .i64 1],.agg #[.bool false,aj [] 1,aj [[.int .u32 1]] 1]),(59,[.int .i64 1,.int .i64 101],.agg #[.bool false,aj [[.int .u32 1]] 1,aj [[.int .u32 101]] 1]),(59,[.int .i64 1,.int .i64 1000],.agg #[.bool false,aj [[.int .u32 1]] 1,aj [[.int .u32 1000]] 1]),(59,[.int .i64 30,.int .i64 1],.agg #[.bool false,aj [[.int .u32 30]] 1,aj [[.int .u32 1]] 1]),(59,[.int .i64 1,.int .i64 2],.agg #[.bool false,aj [[.int .u32 1]] 1,aj [[.int .u32 2]] 1]),(87,[Pt],.bool true),(87,[ox],.bool true),(62,[ox],.int .i64 0)]
theorem PA:pO al JS:=oK (D5 (x:=⟨false,[1],[1]⟩) (by unfold lB;decide) (by decide+kernel)) (oK (D5 (x:=⟨false,[],[1]⟩) (by unfold lB;decide) (by decide+kernel)) (oK (D5 (x:=⟨false,[1],[101]⟩) (by unfold lB;decide) (by decide+kernel)) (oK (D5 (x:=⟨false,[1],[1000]⟩) (by unfold lB;decide) (by decide+kernel)) (oK (D5 (x:=⟨false,[30],[1]⟩) (by unfold lB;decide) (by decide+kernel)) (oK (D5 (x:=⟨false,[1],[2]⟩) (by unfold lB;decide) (by decide+kernel)) (oK (ajR) (oK (ajU) (oK (ajV) (agn)))))))))
def Xe:Value:= .agg #[.int .i64 14,.int .i64 0,.int .i64 1,aj [[.int .i64 0,.int .i64 2,.int .i64 1,.int .i64 0],[.int .i64 2,.int .i64 3,.int .i64 1,.int .i64 0],[.int .i64 3,.int .i64 4,.int .i64 1,.int .i64 0],[.int .i64 4,.int .i64 5,.int .i64 1,.int .i64 0],[.int .i64 5,.int .i64 6,.int .i64 1,.int .i64 0],[.int .i64 4,.int .i64 7,.int .i64 1,.int .i64 0],[.int .i64 7,.int .i64 8,.int .i64 1,.int .i64 0],[.int .i64 4,.int .i64 9,.int .i64 1,.int .i64 0],[.int .i64 9,.int .i64 10,.int .i64 1,.int .i64 0],[.int .i64 6,.int .i64 11,.int .i64 1,.int .i64 0],[.int .i64 8,.int .i64 12,.int .i64 1,.int .i64 1],[.int .i64 10,.int .i64 13,.int .i64 1,.int .i64 1],[.int .i64 11,.int .i64 1,.int .i64 0,.int .i64 0],[.int .i64 12,.int .i64 1,.int .i64 2,.int .i64 0],[.int .i64 13,.int .i64 1,.int .i64 2,.int .i64 0]] 4]
def JU:Value:= .tuple #[aj [[.int .i64 1],[.int .i64 1],[.int .i64 1],[.int .i64 0],[.int .i64 0],[.int .i64 0],[.int .i64 0],[.int .i64 1],[.int .i64 1],[.int .i64 0],[.int .i64 0],[.int .i64 1],[.int .i64 0],[.int .i64 0],[.int .i64 1]] 1,.int .i64 1,aj [[.int .i64 0],[.int .i64 1],[.int .i64 0],[.int .i64 0],[.int .i64 0],[.int .i64 0],[.int .i64 0],[.int .i64 0],[.int .i64 0],[.int .i64 0],[.int .i64 0],[.int .i64 0],[.int .i64 1],[.int .i64 1]] 1,.int .i64 0]
theorem ajI:bH al 201 [Xe,.int .i64 1] (JU):=uR (uw wg) (hz:=JS) PA wj (n:=100000) (d:=80) (by kernel_rfl)
def Xf:Value:= .agg #[.int .i64 14,.int .i64 0,.int .i64 1,aj [[.int .i64 0,.int .i64 2,.int .i64 1,.int .i64 0],[.int .i64 2,.int .i64 3,.int .i64 1,.int .i64 0],[.int .i64 3,.int .i64 4,.int .i64 1,.int .i64 0],[.int .i64 4,.int .i64 5,.int .i64 1,.int .i64 0],[.int .i64 5,.int .i64 6,.int .i64 1,.int .i64 0],[.int .i64 4,.int .i64 7,.int .i64 1,.int .i64 0],[.int .i64 7,.int .i64 8,.int .i64 1,.int .i64 0],[.int .i64 4,.int .i64 9,.int .i64 1,.int .i64 0],[.int .i64 9,.int .i64 10,.int .i64 1,.int .i64 0],[.int .i64 6,.int .i64 11,.int .i64 1,.int .i64 0],[.int .i64 8,.int .i64 12,.int .i64 1,.int .i64 1],[.int .i64 10,.int .i64 13,.int .i64 1,.int .i64 1],[.int .i64 11,.int .i64 1,.int .i64 0,.int .i64 0],[.int .i64 12,.int .i64 1,.int .i64 1,.int .i64 0],[.int .i64 13,.int .i64 1,.int .i64 1,.int .i64 0]] 4]
theorem ajJ:bH al 201 [Xf,.int .i64 1] (JU):=uR (uw wg) (hz:=JS) PA wj (n:=100000) (d:=80) (by kernel_rfl)
def JT:mR:=[(201,[Xe,.int .i64 1],JU),(201,[Xf,.int .i64 1],JU)]++JS
theorem Pv:pO al JT:=oK ajI (oK ajJ (PA))
def JV:Value:= .tuple #[.agg #[aj [[aj [[.int .i64 2]] 1]] 1,.int .i64 1,aj [[.int .i64 0],[.int .i64 1],[.int .i64 0],[.int .i64 0],[.int .i64 0],[.int .i64 0],[.int .i64 0],[.int .i64 0],[.int .i64 0],[.int .i64 0],[.int .i64 0],[.int .i64 0],[.int .i64 1],[.int .i64 1]] 1],.int .i64 0]
theorem ajK:bH al 148 [ox,aj [[aj [[.int .i64 0]] 1]] 1,aj [[.int .i64 0],[.int .i64 2],[.int .i64 2]] 1] (JV):=uR (uw wg) (hz:=JT) Pv wj (n:=100000) (d:=80) (by kernel_rfl)
theorem ajL:bH al 148 [ox,aj [[aj [[.int .i64 0]] 1]] 1,aj [[.int .i64 0],[.int .i64 1],[.int .i64 1]] 1] (JV):=uR (uw wg) (hz:=JT) Pv wj (n:=100000) (d:=80) (by kernel_rfl)
def Pw:mR:=[(148,[ox,aj [[aj [[.int .i64 0]] 1]] 1,aj [[.int .i64 0],[.int .i64 2],[.int .i64 2]] 1],JV),(148,[ox,aj [[aj [[.int .i64 0]] 1]] 1,aj [[.int .i64 0],[.int .i64 1],[.int .i64 1]] 1],JV)]++JT
theorem W9:pO al Pw:=oK ajK (oK ajL (Pv))
def Xg:Value:= .tuple #[.agg #[aj [[.int .i64 0,.int .i64 0,.int .i64 0,.int .i64 2]] 4,aj [[aj [[.int .i64 2]] 1]] 1,.int .i64 1,aj [[.int .i64 0],[.int .i64 1],[.int .i64 0],[.int .i64 0],[.int .i64 0],[.int .i64 0],[.int .i64 0],[.int .i64 0],[.int .i64 0],[.int .i64 0],[.int .i64 0],[.int .i64 0],[.int .i64 1],[.int .i64 1]] 1,.int .i64 0],.int .i64 0]
theorem ajM:bH al 44 [ox,aj [[aj [[.int .i64 0]] 1]] 1,aj [[.int .i64 0],[.int .i64 2],[.int .i64 2]] 1] (Xg):=uR (uw wg) (hz:=Pw) W9 wj (n:=100000) (d:=80) (by kernel_rfl)
def Px:mR:=[(44,[ox,aj [[aj [[.int .i64 0]] 1]] 1,aj [[.int .i64 0],[.int .i64 2],[.int .i64 2]] 1],Xg)]++Pw
theorem Xa:pO al Px:=oK ajM (W9)
def Xh:Value:= .agg #[aj [[aj [[.int .i64 2]] 1]] 1,.int .i64 1,aj [[.int .i64 0],[.int .i64 1],[.int .i64 0],[.int .i64 0],[.int .i64 0],[.int .i64 0],[.int .i64 0],[.int .i64 0],[.int .i64 0],[.int .i64 0],[.int .i64 0],[.int .i64 0],[.int .i64 1],[.int .i64 1]] 1]
theorem ajN:bH al 98 [ox,aj [[aj [[.int .i64 0]] 1]] 1,aj [[.int .i64 0],[.int .i64 2],[.int .i64 2]] 1,Xh] (.bool true):=uR (uw wg) (hz:=Px) Xa wj (n:=100000) (d:=80) (by kernel_rfl)
def Py:mR:=[(98,[ox,aj [[aj [[.int .i64 0]] 1]] 1,aj [[.int .i64 0],[.int .i64 2],[.int .i64 2]] 1,Xh],.bool true)]++Px
theorem Xb:pO al Py:=oK ajN (Xa)
def Xi:Value:=aj [[.int .i64 0,.int .i64 0,.int .i64 0,.int .i64 2]] 4
theorem ajO:bH al 41 [ox,aj [[aj [[.int .i64 0]] 1]] 1,aj [[.int .i64 0],[.int .i64 2],[.int .i64 2]] 1,Xi] (.tuple #[aj [[aj [[.int .i64 2]] 1]] 1,.int .i64 1]):=uR (uw wg) (hz:=Py) Xb wj (n:=100000) (d:=80) (by kernel_rfl)
def Pz:mR:=[(41,[ox,aj [[aj [[.int .i64 0]] 1]] 1,aj [[.int .i64 0],[.int .i64 2],[.int .i64 2]] 1,Xi],.tuple #[aj [[aj [[.int .i64 2]] 1]] 1,.int .i64 1])]++Py
theorem Xc:pO al Pz:=oK ajO (Xb)
def Xj:Value:= .agg #[aj [[.int .i64 0,.int .i64 0,.int .i64 0,.int .i64 2]] 4,aj [[aj [[.int .i64 2]] 1]] 1,.int .i64 1,aj [[.int .i64 0],[.int .i64 1],[.int .i64 0],[.int .i64 0],[.int .i64 0],[.int .i64 0],[.int .i64 0],[.int .i64 0],[.int .i64 0],[.int .i64 0],[.int .i64 0],[.int .i64 0],[.int .i64 1],[.int .i64 1]] 1,.int .i64 0]
theorem ajP:bH al 45 [ox,aj [[aj [[.int .i64 0]] 1]] 1,aj [[.int .i64 0],[.int .i64 2],[.int .i64 2]] 1,Xj] (.bool true):=uR (uw wg) (hz:=Pz) Xc wj (n:=100000) (d:=80) (by kernel_rfl)
def Xd:mR:=[(45,[ox,aj [[aj [[.int .i64 0]] 1]] 1,aj [[.int .i64 0],[.int .i64 2],[.int .i64 2]] 1,Xj],.bool true)]++Pz
theorem ajX:pO al Xd:=oK ajP (Xc)
theorem ajY:bH al 39 [] (.bool true):=uR (uw wg) (hz:=Xd) ajX wj (n:=100000) (d:=80) (by kernel_rfl)
end
@[simp] theorem aQ8{l dh:List h3}:l.map fC=dh.map fC↔l=dh:=xa λx y h=>aDO.1 h
theorem aDU{u:bg}(h:eF u){L:List (List Int)}(aB:L.length=u.cm.length)(aE:tc u L):nc u L:=by
  refine⟨aBk h aB aE,λr aw=> ?_,λr aw x G=> ?_⟩
  · obtain⟨w,a3,e⟩:=j4 aw;have a:=(aE w r (by rw[cD a3,e])).1;have b:=Kx h.ok (v:=w) (by omega);omega
  · obtain⟨w,a3,e⟩:=j4 aw;exact((aE w r (by rw[cD a3,e])).2 x G).2
theorem Uw{u:bg}{R:List Int}: ∀{l:List h3} {L:List (List Int)},nc u L->nc u (hC u R l L).1
  |[],L,h=>h
  | s::l,L,h=>by
    unfold hC;cases ab:hk u.aZ.length (hf u L) (g8 u R) L s
    · exact h
    · obtain⟨bl,f,d,r,aJ,aU,cu,e6,aT,tE,cJ⟩:=UA ab;simp only[if_true,aJ,aU,cu,ot];exact Uw (OA h tE)
noncomputable def aD7{P:Program}(a b:bC P)(h:b.f=a.f):bC P:=⟨a.f,λargs=>match a.fn args with
  |some r=>some r
  | none=>b.fn args,λargs r aw=>by
    cases aA:a.fn args with
    |some dL=>rw[aA]at aw;cases aw;exact a.ok args r aA
    |none=>rw[aA]at aw;have:=b.ok args r aw;rw[h]at this;exact this⟩
abbrev zM:Type:=List (List Int)×List Int×List h3
noncomputable def Vf(u:bg)(h:eF u):bC al:= .dN 41 zM (λx=>(nc u x.1/\kP u x.1=true)/\x.2.2.length<=1000000) (λx=>[.agg (aL u).toArray,dW x.1,cp x.2.1,lE x.2.2]) (λx=> .tuple #[dW (hC u x.2.1 x.2.2 x.1).1,Y (hC u x.2.1 x.2.2 x.1).2]) λx G=>aBx h G.1.1 G.1.2 G.2
noncomputable def Vl(u:bg)(h:eF u):bC al:= .dN 42 zM (λx=>(nc u x.1/\kP u x.1=true)/\x.2.2.length<=1000000) (λx=>[.agg (aL u).toArray,dW x.1,cp x.2.1,lE x.2.2]) (λx=> .tuple #[dW (hC u x.2.1 x.2.2 x.1).1,Y (hC u x.2.1 x.2.2 x.1).2]) λx G=>aCu h G.1.1 G.1.2 G.2
@[simp] theorem aPw{u:bg}{h:eF u}:(Vl u h).f=42:=rfl
theorem ag0{u:bg}{L:List (List Int)}{R:List Int}{l:List h3}(y:zM)(af:[.agg (aL u).toArray,dW y.1,cp y.2.1,lE y.2.2]=[Value.agg (aL u).toArray,dW L,cp R,lE l]):y=(L,R,l):=by obtain⟨uA,nj,se⟩:=y;simpa using af
@[simp] theorem aPx{u:bg}{h:eF u}{L:List (List Int)}{R:List Int}{l:List h3}(ab:(nc u L/\kP u L=true)/\l.length<=1000000):(Vl u h).fn [.agg #[Y u.ext,aj (u.cN.map gZ) 4,aj (u.bf.map gE) 4,aj (u.bP.map ez) 7,aj (u.aZ.map gr) 3,aj (u.cK.map e5) 17,aj (u.cm.map hx) 2],aj (L.map fA) 1,aj (R.map λx=>[Y x]) 1,aj (l.map fC) 4]=some (.tuple #[dW (hC u R l L).1,Y (hC u R l L).2]):=
  bC.eh (x:=((L,R,l):zM)) ab ag0
noncomputable def Ev:bC al:= .dN 41 zM (λ_=>True) (λx=>[qf,dW x.1,cp x.2.1,lE x.2.2]) (λ_=> .tuple #[.slice none 0 0,Y 0]) λ_ _=>aBv
theorem aC6{L:List (List Int)}{R:List Int}{l:List h3}:Ev.fn [qf,dW L,cp R,lE l]=some (.tuple #[.slice none 0 0,Y 0]):=bC.eh (x:=((L,R,l):zM)) trivial λy af=>by obtain⟨uA,nj,se⟩:=y;simpa using af
theorem aC7{u:bg}{args:List Value}:Ev.fn (.agg (aL u).toArray::args)=none:=by unfold Ev bC.dN;simp only;rw[dif_neg];rintro⟨x,_,G⟩;simp[qf,aL,aj]at G
noncomputable def Od(u:bg)(h:eF u):bC al:=aD7 Ev (Vf u h) rfl
@[simp] theorem aPg{u:bg}{h:eF u}:(Od u h).f=41:=rfl
@[simp] theorem aPh{u:bg}{h:eF u}{L:List (List Int)}{R:List Int}{l:List h3}(ab:(nc u L/\kP u L=true)/\l.length<=1000000):(Od u h).fn [.agg #[Y u.ext,aj (u.cN.map gZ) 4,aj (u.bf.map gE) 4,aj (u.bP.map ez) 7,aj (u.aZ.map gr) 3,aj (u.cK.map e5) 17,aj (u.cm.map hx) 2],aj (L.map fA) 1,aj (R.map λx=>[Y x]) 1,aj (l.map fC) 4]=some (.tuple #[dW (hC u R l L).1,Y (hC u R l L).2]):=by
  have E:=aC7 (u:=u) (args:=[dW L,cp R,lE l]);show(match Ev.fn (.agg (aL u).toArray::[dW L,cp R,lE l])with
    |some r=>some r
    |none=>(Vf u h).fn (.agg (aL u).toArray::[dW L,cp R,lE l]))=_
  rw[E];exact bC.eh (x:=((L,R,l):zM)) ab ag0
@[simp] theorem aPi{u:bg}{h:eF u}{L:List (List Int)}{R:List Int}{l:List h3}:(Od u h).fn [.agg #[.int .i64 0,.slice none 0 0,.slice none 0 0,.slice none 0 0,.slice none 0 0,.slice none 0 0,.slice none 0 0],aj (L.map fA) 1,aj (R.map λx=>[Y x]) 1,aj (l.map fC) 4]=some (.tuple #[.slice none 0 0,Y 0]):=by
  have E:=aC6 (L:=L) (R:=R) (l:=l);show(match Ev.fn [qf,dW L,cp R,lE l]with
    |some r=>some r
    |none=>(Vf u h).fn [qf,dW L,cp R,lE l])=_
  rw[E]
noncomputable def Vr:bC al:= .dN 43 (List (List Int)) hu (λL=>[dW L,dW L]) (λ_=> .bool true) λL ck=>aDK ck
@[simp] theorem aPZ:Vr.f=43:=rfl
@[simp] theorem aP0{L:List (List Int)}(ck:hu L):Vr.fn [aj (L.map fA) 1,aj (L.map fA) 1]=some (.bool true):=bC.eh (x:=L) ck λy af=>by simpa using af
noncomputable def U2:bC al:= .dN 39 Unit (λ_=>True) (λ_=>[]) (λ_=> .bool true) λ_ _=>ajY
@[simp] theorem aOx:U2.f=39:=rfl
@[simp] theorem aOy:U2.fn []=some (.bool true):=bC.eh (x:=()) trivial λ_ _=>rfl
theorem aB6{l:List Int}(aB:l.length<=140737488355328){n:Int}{raw:List h3}:bH al 10 [cp l,Y n,lE raw] (.bool true):=by
  obtain⟨u,L,R,ah6,bu,dd,ee,bO,cA,gm,aAv⟩:=aAx aB;have aT:=agi bu (by decide);have K:=aDU aT dd ee;have amL:=aBl (u:=u) (L:=L) dd ee;have k1:1<=u.aZ.length/\u.aZ.length<=9:=bu.pr;have yl:=bu.rV;have ax:=agz (x:=n) (n:=14) (by decide);obtain⟨gC,uV⟩: ∃gC:Nat,oL n 14=gC:=⟨(oL n 14).toNat,by omega⟩;obtain⟨bV,cU,ba,eP,aDT⟩:=aDR aB (i:=ah6) (by omega) aT k1.1 K (by omega) (R:=R) (n:=gC) (by omega);refine ei (dD (aC:=⟨[U2,Od u aT,Vl u aT,Vr,Vy],[yS 40 [V5 u L R,Y gC] _ _ _ aDT]⟩) ane (by kernel_rfl) (by simp[Le]) ?_);by_cases aA:raw.length<=30
  case neg=>have E:(30:Int)<raw.length:=(by omega);simp(disch:=first|omega|simp only[DI.ae];omega) [Le,RJ,RK,E,-O,-U,-N,-S,-List.map_map]
  have E: ¬(30:Int)<raw.length:=by omega
  simp(disch:=first|omega|simp only[DI.ae];omega) [Le,RJ,RK,Z7,E,-O,-U,-N,-S,-List.map_map];refine(aAv _).b8 λv bD ⟨ad,aP⟩=> ?_;subst ad;have aAd:=a6 aP;have age:12<bD.next:=aAd
  rw[show(g0.cf 8).next+4=12 from rfl]at aP⊢;have iZ:(aL u++[dW L,cp R]).length=9:=rfl;have alK:gL [Value.int IntKind.i64 0,Value.slice none 0 0,Value.slice none 0 0,Value.slice none 0 0,Value.slice none 0 0,Value.slice none 0 0,Value.slice none 0 0,Value.slice none 0 0,Value.slice none 0 0] 0 (aL u++[dW L,cp R])=aL u++[dW L,cp R]:=by simp[gL,aL]
  have aAr:5<bD.next:=by omega
  simp(disch:=first|omega|simp only[DI.ae];omega) [iZ,alK,-O,-U,-N,-S,-List.map_map];have aln:aL u++[dW L,cp R]=[Y u.ext,aj (u.cN.map gZ) 4,aj (u.bf.map gE) 4,aj (u.bP.map ez) 7,aj (u.aZ.map gr) 3,aj (u.cK.map e5) 17,aj (u.cm.map hx) 2,dW L,cp R]:=rfl;have e9:(bD.a0 5 (some ⟨aL u++[dW L,cp R],true⟩)).X 5=some ⟨[Y u.ext,aj (u.cN.map gZ) 4,aj (u.bf.map gE) 4,aj (u.bP.map ez) 7,aj (u.aZ.map gr) 3,aj (u.cK.map e5) 17,aj (u.cm.map hx) 2,dW L,cp R],true⟩:=by rw[eD aAr,aln]
  have CA:(bD.a0 5 (some ⟨aL u++[dW L,cp R],true⟩)).X 12=some ⟨[cp l,Y ah6],true⟩:=by rw[bR (by decide)];exact aP
  generalize bD.a0 5 _=iW at e9 CA⊢;have w3:=a6 e9;have aMc:=a6 CA;have bZ:=K.1;have kd: ∀x:List h3,x.length<=1000000->(nc u L/\kP u L=true)/\x.length<=1000000:= λx G=>⟨⟨K,amL⟩,G⟩;have gd:=kd bV (by omega);have hj:=kd raw (by omega);have a8:=(Uw (R:=R) (l:=bV) K).1;have bE:=(Uw (R:=R) (l:=raw) K).1;simp(disch:=first|omega|simp only[DI.ae];omega) [Z8,e9,uV,-O,-U,-N,-S,-List.map_map];refine OV (by simp(disch:=first|omega|simp only[DI.ae];omega) [CA,-O,-U,-N,-S,-List.map_map]) ?_;simp(disch:=first|omega|simp only[DI.ae];omega) [Z9,aaa,aab,aac,aad,aae,e9,-O,-U,-N,-S,-List.map_map]
abbrev DZ:fh:= .slice (.int .i64)
theorem azc(d:DZ.cO):Cf DZ d=cp (ow (e:= .int .i64) d):=rfl
theorem anb(d:(fh.int .i64).cO):Cf (.int .i64) d=Y d:=rfl
theorem aAf{e:fh}{l:List e.cO}(h:Bx (.slice e) l):l.length<=140737488355328:=by have:=e.aAg h.1;simp only[reachBytes]at this;exact kC this (by omega)
theorem azd{d:DZ.cO}(h:Bx DZ d):(ow (e:= .int .i64) d).length<=140737488355328:=aAf (e:= .int .i64) h
abbrev IY:fh:= .lQ (.int .i64) (.lQ (.int .i64) (.lQ (.int .i64) (.lQ (.int .i64) .unit)))
abbrev OB:fh:= .slice IY
def toShf(d:IY.cO):h3:=⟨d.1,d.2.1,d.2.2.1,d.2.2.2.1⟩
theorem aDV(d:OB.cO):Cf OB d=lE ((ow (e:=IY) d).map toShf):=by show aj ((ow (e:=IY) d).map (sl IY)) 4=_;unfold lE;rw[List.map_map];congr 1
theorem aB5(m:W)(fb:List Value)(h:s9 m [DZ,.int .i64,OB] fb):gp al 10 fb m λr _=>r= .bool true:=by
  refine az3 (λts bA=> ?_) m fb h;cases bA with
  | @cons _ d _ cz ok K=>
    cases K with
    | @cons _ ns _ zw aBh u5=>
      cases u5 with
      | @cons _ gN _ aEP aM8 iP=>cases iP;rw[azc,aDV,anb];exact aB6 (azd ok)
end Go.Proofs.YtmmkkggfmigppaaGreat
namespace Go.Proofs.YtmmkkggfmigppaaGreat.rebalancePlaysDone
open Go.ChangeShapes Go.WideShapes Go.ChangeAt Go.RowKit
section
theorem own:ownKnob Tryz.prog.godebug=none:=by kernel_rfl
theorem laidOut:laidOutB Tryz.prog=true:=by kernel_rfl
theorem mixed:Tryz.prog.follows .mixedOrders=true:=by kernel_rfl
set_option maxRecDepth 100000 in
theorem lifted(os:Os)(VS:os.Started)(j6:Type)(enc:TypeId×Value->j6):
    ReturnsInHanded {} Tryz.checked os 10 .any (Rows.rebalancePlaysSpec.pre6 enc Tryz.prog Tryz.f10 Rows.rebalancePlaysRow.domain false) (Rows.rebalancePlaysSpec.post enc Tryz.prog Tryz.f10 false true false false):=by
  refine returnsInHanded_of_change_sized (C:=Tryz.checked) own VS (by kernel_rfl) Tryz.func10
    (ChangeSpec.witness6 (enc:=enc) (C:=Tryz.checked) false ⟨#[],#[.slice none 0 0,.int .i64 0,.slice none 0 0],[]⟩ 8 (by kernel_rfl) (by kernel_rfl) (by kernel_rfl) (by kernel_rfl)) ?_
  intro fm base args ds n0 aj1 Zs ya aJ8 amO _;have yr: ∀(j:Nat) t v,Tryz.f10.params[j]?=some t->args[j]?=some v->Value.okWide Tryz.prog fm .any base t v:=Zs;have alI:=ya;obtain⟨p,q,YE,e6,rfl,qO,js⟩:=ya;have al2:n0=[]:=(trodVars_none e6).1;have nA: ∀n∈DataW.weightsEach Tryz.prog Tryz.f10.params.toList ds,n<=reachBytes:= λn az=>by have ju:(DataW.weightsEach Tryz.prog (Tryz.f10.params.toList++Rows.rebalancePlaysSpec.plain.varTypes Tryz.prog) (ds++n0)).all (· <=reachBytes)=true:=amO;have:=eQ.1 ju n (by rw[al2];simpa[Rows.rebalancePlaysSpec,ChangeSpec.plain,DataSpec.varTypes]using az);simpa using this
  have kZ:DataW.TrodAll enc Tryz.prog fm 0 (λ_=>true) true Tryz.f10.params.toList args.toList ds p:=YE;have KR:=Go.DI.az2 (f:=10) (n:=12) mixed (ts:=Tryz.f10.params.toList) (k9:=[DZ,.int .i64,OB]) (by kernel_rfl) (λj t v E I=>yr j t v (by simpa using E) I) kZ nA (λm fb h=>aB5 m fb h);rw[Tryz.params10]at kZ yr;obtain⟨xB,aSS,aI8,aI9,pv,b6,aJ1,rfl,rfl,dk,mK⟩:=trodAll_cons kZ;obtain⟨B0,aST,g5,zS,gd,a8,rfl,rfl,rfl,E,fs⟩:=trodAll_cons mK;obtain⟨vQ,aEP,gN,X5,hj,bE,rfl,rfl,rfl,I,g7⟩:=trodAll_cons fs;obtain⟨rfl,rfl,rfl⟩:=trodAll_nil g7;obtain rfl:args= #[xB,B0,vQ]:=by cases args;simp_all
  obtain⟨rfl,rfl⟩:=trodVars_none e6;have aAp: ∀x∈pv,x.block<fm.heap.size:=by obtain⟨m,ax⟩:=dk;exact DataW.trod_lt m _ _ _ ax
  have age: ∀x∈gd,x.block<fm.heap.size:=by obtain⟨m,ax⟩:=E;exact DataW.trod_lt m _ _ _ ax
  have aAq: ∀x∈hj,x.block<fm.heap.size:=by obtain⟨m,ax⟩:=I;exact DataW.trod_lt m _ _ _ ax
  clear YE Zs;refine KR.mono λe aF6 ⟨bn,JW⟩=> ?_;subst bn;exact⟨_,rfl,_,_,_,[],_,[],alI,trodAll_mk1 (shut_bool (by kernel_rfl) _),(trodAll_cons_mk (Below.trod laidOut (by kernel_rfl) (of_decide_eq_true (by kernel_rfl)) dk JW aAp) (trodAll_cons_mk (Below.trod laidOut (by kernel_rfl) (of_decide_eq_true (by kernel_rfl)) E JW age) (trodAll_cons_mk (Below.trod laidOut (by kernel_rfl) (of_decide_eq_true (by kernel_rfl)) I JW aAq) trodAll_mk0))),rfl,JW.frame _,λh=>by cases h⟩
set_option maxRecDepth 10000
theorem jD{a b:Bool}(h:a=true)(bS:b=true):(a&&b)=true:=by rw[h,bS];rfl
theorem azi:(Rows.rebalancePlaysRow.wf (OpenSpec.ofChange Rows.rebalancePlaysSpec))=true:=by kernel_rfl
theorem azj:(laidOutB Tryz.pinned.checked.prog)=true:=by kernel_rfl
theorem azu:(mapsRowed Tryz.pinned.checked.prog)=true:=by kernel_rfl
theorem azF:(Tryz.f10.params.all (Tryz.pinned.checked.prog.readableRec ·))=true:=by kernel_rfl
theorem azI:(namedTie Tryz.pinned.checked.prog Rows.rebalancePlaysRow.named Rows.rebalancePlaysSpec.vars)=true:=by kernel_rfl
theorem azJ:((Rows.rebalancePlaysRow.stops==[]))=true:=by kernel_rfl
theorem azK:((Tryz.pinned.checked.prog.stops==[]))=true:=by kernel_rfl
theorem azL:((Rows.rebalancePlaysRow.knobs==[]))=true:=by kernel_rfl
theorem azM:((Tryz.pinned.checked.prog.stopKnobs==[]))=true:=by kernel_rfl
theorem azN:((Rows.rebalancePlaysRow.inPlace==Tryz.pinned.checked.prog.inPlace 10))=true:=by kernel_rfl
theorem azk:((Rows.rebalancePlaysRow.unfollowed==Tryz.pinned.checked.prog.unfollowed 10))=true:=by kernel_rfl
theorem azl:((Rows.rebalancePlaysRow.recurses==Tryz.pinned.checked.prog.recurses 10))=true:=by kernel_rfl
theorem azm:((Rows.rebalancePlaysRow.named==Tryz.pinned.checked.prog.varsNamed 10))=true:=by kernel_rfl
theorem azn:((Rows.rebalancePlaysRow.maps==(Tryz.f10.params.toList++Rows.rebalancePlaysSpec.plain.varTypes Tryz.pinned.checked.prog).any (Tryz.pinned.checked.prog.mapsRec ·)))=true:=by kernel_rfl
theorem azo:((Rows.rebalancePlaysRow.ifaces==(Tryz.f10.params.toList++Rows.rebalancePlaysSpec.plain.varTypes Tryz.pinned.checked.prog).any (Tryz.pinned.checked.prog.ifacesRec ·)))=true:=by kernel_rfl
theorem azp:((Rows.rebalancePlaysRow.mapsOut==Tryz.pinned.checked.prog.mapsAmong Tryz.f10.resultTypes.toList))=true:=by kernel_rfl
theorem azq:((Rows.rebalancePlaysRow.loops==(Tryz.f10.params.toList++Rows.rebalancePlaysSpec.plain.varTypes Tryz.pinned.checked.prog).any (Tryz.pinned.checked.prog.loopsFrom ·)))=true:=by kernel_rfl
theorem azr:((Rows.rebalancePlaysRow.wideKeys==(Tryz.f10.params.toList++Rows.rebalancePlaysSpec.plain.varTypes Tryz.pinned.checked.prog++Tryz.f10.resultTypes.toList).any (Tryz.pinned.checked.prog.wideKeysFrom ·)))=true:=by kernel_rfl
theorem azs:(Rows.rebalancePlaysSpec.vars.all (Tryz.pinned.checked.prog.varReadable ·))=true:=by kernel_rfl
theorem azt:(Tryz.f10.resultTypes.all (λt=>Tryz.pinned.checked.prog.readableRec t&&decide (t<Tryz.pinned.checked.prog.types.size)))=true:=by kernel_rfl
theorem azv:((Rows.rebalancePlaysRow.ifacesOut==Tryz.f10.resultTypes.toList.any (Tryz.pinned.checked.prog.ifacesRec ·)))=true:=by kernel_rfl
theorem azw:((Rows.rebalancePlaysRow.loopsOut==Tryz.f10.resultTypes.toList.any (Tryz.pinned.checked.prog.loopsFrom ·)))=true:=by kernel_rfl
theorem azx:((Rows.rebalancePlaysRow.plainKeys==Tryz.pinned.checked.prog.plainKeys))=true:=by kernel_rfl
theorem azy:(Rows.rebalancePlaysRow.shortTexts.isNone)=true:=by kernel_rfl
theorem azz:(Tryz.pinned.checked.prog.stopsHeard)=true:=by kernel_rfl
theorem azA:(Tryz.pinned.checked.prog.mayEnter)=true:=by kernel_rfl
theorem azB:((Rows.rebalancePlaysRow.lifted==Tryz.pinned.checked.prog.liftsFinal))=true:=by kernel_rfl
theorem azC:((Tryz.pinned.checked.prog.make==some Rows.rebalancePlaysRow.make))=true:=by kernel_rfl
theorem azD:((Rows.rebalancePlaysRow.kinds==(if Rows.rebalancePlaysRow.domain.isEmpty then[]else Tryz.f10.params.toList.map λt=>match Tryz.pinned.checked.prog.underlying t with|some (.int k)=>some k|_=>none)))=true:=by kernel_rfl
theorem azE:((Rows.rebalancePlaysRow.pinned==Rows.rebalancePlaysRow.pinnedBy))=true:=by kernel_rfl
theorem azG:((Rows.rebalancePlaysRow.veiled==(Tryz.f10.params.toList++Rows.rebalancePlaysSpec.plain.varTypes Tryz.pinned.checked.prog++Tryz.f10.resultTypes.toList).any (Tryz.pinned.checked.prog.veiledRec ·)))=true:=by kernel_rfl
theorem azH:(Rows.rebalancePlaysRow.veiledFits Tryz.pinned.checked.prog Tryz.f10.params.toList (Tryz.f10.params.toList++Rows.rebalancePlaysSpec.plain.varTypes Tryz.pinned.checked.prog++Tryz.f10.resultTypes.toList))=true:=by kernel_rfl
theorem azO:joinedFacts Tryz.pinned.checked.prog 10 Tryz.f10 Rows.rebalancePlaysSpec Rows.rebalancePlaysRow=true:=(jD (jD (jD (jD (jD (jD (jD (jD (jD (jD (jD (jD (jD (jD (jD (jD (jD (jD (jD (jD (jD (jD (jD (jD (jD (jD (jD (jD (jD (jD (jD azi azj) azu) azF) azI) azJ) azK) azL) azM) azN) azk) azl) azm) azn) azo) azp) azq) azr) azs) azt) azv) azw) azx) azy) azz) azA) azB) azC) azD) azE) azG) azH)
theorem over:Rows.rebalancePlaysRow.holds Tryz.pinned (OpenSpec.ofChange Rows.rebalancePlaysSpec):=
  OpenClaim.holds_of_wide 10 Tryz.f10 rfl rfl rfl rfl rfl rfl rfl ⟨rfl,rfl,rfl,rfl,rfl⟩ rfl rfl rfl rfl rfl (by kernel_rfl) Tryz.func10 azO
    (of_decide_eq_true (by kernel_rfl)) (by unfold Func.isWrapper;first|(rw[if_pos (by decide+kernel)];kernel_rfl)|(rw[if_neg (by decide+kernel)];exact⟨rfl,rfl⟩))
    (λos VS j6 enc _=>lifted os VS j6 enc)
theorem proved:Rows.RebalancePlaysSaid:=over
#print axioms proved
end
end Go.Proofs.YtmmkkggfmigppaaGreat.rebalancePlaysDone
