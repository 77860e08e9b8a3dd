/-
  A part of the proof of the statement, in texts that tools of ours (wip/shrink.py, irpack.py, relax.py, minify.py, join.py, lay.py) have shortened.
-/
import Derived.Test.YtkpifdkccdndcaaGreatRows
import Derived.Test.YtkpifdkccdndcaaGreatZae
set_option linter.all false
set_option maxRecDepth 8000
set_option maxHeartbeats 16000000
namespace Go.Proofs.YtkpifdkccdndcaaGreat
open Go Go.DI
def Yq:U:= .E (.E (.I [A 0 23 8,xq 1 24 23]) (.bj (F 24) (.E (.I [bP 0 25 (.gT [.bool false,.slice none 0 0,.slice none 0 0] []),A 1 26 8,cV 2 3 2 25,A 3 3 26]) (.a7)) (.skip))) (.I [c3 0 27 3 7,cV 1 3 4 27])
def Yp:U:= .E (.I [c3 0 18 3 4,c3 1 19 3 6,gj 2 20 88 18 19,A 3 17 20,dD 4 21 0 17,dD 5 22 1 17,bP 6 7 (.eR [.bool false,.slice none 0 0,.slice none 0 0]),cV 7 3 7 21,A 8 8 22]) Yq
def Yo:U:= .E (.block 1 (.E (.I [cL 0 15 3 11 13,c3 1 16 3 15,bP 2 6 (.eR [.bool false,.slice none 0 0,.slice none 0 0]),cV 3 3 6 16]) Yp)) (.I [eB 0 28 13,A 1 13 28])
def Yn:U:= .E (.bj (F 14) (.skip) (.bI 0)) Yo
def Qf:U:= .E (.I [eX 0 14 13 12]) Yn
def Qe:U:= .E (.I [c3 0 29 3 4,cV 1 3 2 29,bQ 2 3 0]) (.a7)
def aiK:U:= .E (.E (.I [A 0 11 0,cu 1 12 11,bQ 2 13 0]) (.block 0 (.loop Qf))) Qe
def aiJ:U:= .E (.I [cj 0 9 34 [.const (.int .u64 1)],bP 1 10 (.gT [.bool false,.slice none 0 0,.slice none 0 0] [(2,1,F 9)]),bP 2 4 (.eR [.bool false,.slice none 0 0,.slice none 0 0]),cV 3 3 4 10]) aiK
def Ym:U:=
  .E (
  .I [
 bP 0 2 (.eR [.bool false,.slice none 0 0,.slice none 0 0]),
 bQ 1 3 0]) aiJ
def aw1:dn:=⟨30,[.h7 2 true 3,.bA 3],Ym⟩
theorem aw2:dj Tryz.prog 25=some aw1:=by kernel_rfl
theorem aqs{args:List Value}{m:B}{az:Value->B->Prop}(h:args.length<=30):bJ Tryz.prog 25 args m az=ch Tryz.prog Ym (eu args) m (ey [.h7 2 true 3,.bA 3] az):=fD aw2 h
def aiM:U:= .E (.I [A 0 9 0,oO 1 10 9 0,A 2 11 1,oO 3 12 11 0,bP 4 13 (.gz .neq .bool (F 10) (F 12)),A 5 14 0,cj 6 15 90 [F 14],A 7 16 1,cj 8 17 90 [F 16],cj 9 18 89 [F 13,F 15,F 17],dD 10 19 0 18,dD 11 20 1 18,cV 12 3 4 19,A 13 5 20]) (.a7)
def aiL:U:= .E (.E (.I [A 0 6 1,kL 1 7 6 0]) (.bj (F 7) (.E (.I [bP 0 8 (.gT [.bool false,.slice none 0 0,.slice none 0 0] []),cV 1 3 4 8,bQ 2 5 3]) (.a7)) (.skip))) aiM
def Yr:U:=
  .E (
  .I [
 bP 0 4 (.eR [.bool false,.slice none 0 0,.slice none 0 0]),
 bQ 1 5 0]) aiL
def aw3:dn:=⟨21,[.h7 4 true 3,.bA 5],Yr⟩
theorem aw4:dj Tryz.prog 26=some aw3:=by kernel_rfl
theorem aqt{args:List Value}{m:B}{az:Value->B->Prop}(h:args.length<=21):bJ Tryz.prog 26 args m az=ch Tryz.prog Yr (eu args) m (ey [.h7 4 true 3,.bA 5] az):=fD aw4 h
def aiP:U:= .E (.I [A 0 53 6,A 1 4 53,bQ 2 5 0]) (.a7)
def Yt:U:= .E (.block 0 (.E (.I [A 0 43 7,A 1 44 43,hQ 2 45 44 8,e7 3 46 44 45,A 4 42 46]) (.bj (F 42) (.E (.I [A 0 47 6,bP 1 48 (.nv .neg (F 47)),A 2 4 48,bQ 3 5 0]) (.a7)) (.E (.I [A 0 50 7,A 1 49 50]) (.bj (F 49) (.E (.I [bQ 0 4 (-1),bQ 1 5 0]) (.a7)) (.E (.I [A 0 52 8,A 1 51 52]) (.bj (F 51) (.E (.I [bQ 0 4 1,bQ 1 5 0]) (.a7)) (.skip)))))))) aiP
def GH:U:= .E (.I [aP 0 28 0 2,aS 1 29 28,A 2 30 29,ou 3 31 30 3 2,aP 7 35 0 3,aS 8 36 35,⟨4,some 32,some (30,true),.eI 94 [F 31],[(F 35,F 35)]⟩,vW 5 33 30 32,e7 6 34 30 33,A 9 37 36,ou 10 38 37 3 3,oP 11 39 37 94 38,vW 12 40 37 39,e7 13 41 37 40,A 14 7 34,A 15 8 41]) Yt
def aiO:U:= .E (.I [aP 0 17 1 2,aS 1 18 17,aP 2 19 2 3,aS 3 20 19,aP 5 22 1 3,aS 6 23 22,aP 7 24 2 2,aS 8 25 24,lp 4 21 (.eI 93 [F 18,F 20]) [(F 24,F 24),(F 22,F 22)],gj 9 26 93 23 25,gj 10 27 92 21 26,A 11 6 27]) GH
def aiN:U:= .E (.E (.I [c3 0 9 3 2,cj 1 10 91 [F 9],iF 2 11 10,A 3 12 11,kx 4 13 12 3 3,ky 5 14 12 91 13,jR 6 15 12 14,dL 7 16 12 15]) (.bj (F 16) (.E (.I [bQ 0 4 0,bQ 1 5 1]) (.a7)) (.skip))) aiO
def Ys:U:=
  .E (
  .I [
 hi 0 2 0,
 hi 1 3 1,
 bQ 2 4 0,
 bQ 3 5 0]) aiN
def aw5:dn:=⟨54,[.bA 4,.bA 5],Ys⟩
theorem aw6:dj Tryz.prog 27=some aw5:=by kernel_rfl
theorem aqu{args:List Value}{m:B}{az:Value->B->Prop}(h:args.length<=54):bJ Tryz.prog 27 args m az=ch Tryz.prog Ys (eu args) m (ey [.bA 4,.bA 5] az):=fD aw6 h
def aiT:U:= .E (.I [c3 0 3 3 1,lp 1 4 (.eI 33 [.const (.int .i64 0)]) [(F 1,F 1)],gj 2 5 97 3 4,A 3 2 5]) (.a7)
def Yy:U:=
  .E (
  .I [
 hi 0 1 0,
 bQ 1 2 0]) aiT
def axb:dn:=⟨6,[.bA 2],Yy⟩
theorem axc:dj Tryz.prog 30=some axb:=by kernel_rfl
theorem aqx{args:List Value}{m:B}{az:Value->B->Prop}(h:args.length<=6):bJ Tryz.prog 30 args m az=ch Tryz.prog Yy (eu args) m (ey [.bA 2] az):=fD axc h
def YB:U:= .E (.E (.I [A 0 24 7,xq 1 25 24]) (.bj (F 25) (.E (.I [bP 0 26 (.gT [.bool false,.slice none 0 0,.slice none 0 0] []),A 1 27 7,cV 2 3 2 26,A 3 3 27]) (.a7)) (.skip))) (.I [c3 0 28 3 6,cV 1 3 4 28])
def YA:U:= .E (.block 1 (.E (.I [c3 0 16 3 4,A 1 17 0,A 2 18 5,cL 3 19 3 17 18,c3 4 20 3 19,gj 5 21 98 16 20,A 6 15 21,dD 7 22 0 15,dD 8 23 1 15,bP 9 6 (.eR [.bool false,.slice none 0 0,.slice none 0 0]),cV 10 3 6 22,A 11 7 23]) YB)) (.I [A 0 13 5,eB 1 14 13,A 2 5 14])
def Qq:U:= .E (.E (.I [A 0 9 5,A 1 10 0,cu 2 11 10,eX 3 12 9 11]) (.bj (F 12) (.skip) (.bI 0))) YA
def Qp:U:= .E (.I [c3 0 29 3 4,cV 1 3 2 29,bQ 2 3 0]) (.a7)
def aiV:U:= .E (.E (.I [bQ 0 5 0]) (.block 0 (.loop Qq))) Qp
def aiU:U:= .E (.I [cj 0 8 33 [.const (.int .i64 0)],bP 1 4 (.eR [.bool false,.slice none 0 0,.slice none 0 0]),cV 2 3 4 8]) aiV
def Yz:U:=
  .E (
  .I [
 bP 0 2 (.eR [.bool false,.slice none 0 0,.slice none 0 0]),
 bQ 1 3 0]) aiU
def axd:dn:=⟨30,[.h7 2 true 3,.bA 3],Yz⟩
theorem axe:dj Tryz.prog 31=some axd:=by kernel_rfl
theorem aqy{args:List Value}{m:B}{az:Value->B->Prop}(h:args.length<=30):bJ Tryz.prog 31 args m az=ch Tryz.prog Yz (eu args) m (ey [.h7 2 true 3,.bA 3] az):=fD axe h
def aiW:U:= .E (.I [c3 0 5 3 2,c3 1 6 3 3,gj 2 7 97 5 6,kL 3 8 7 0,A 4 4 8]) (.a7)
def YC:U:=
  .E (
  .I [
 hi 0 2 0,
 hi 1 3 1,
 dE 2 4 false]) aiW
def axf:dn:=⟨9,[.bA 4],YC⟩
theorem axg:dj Tryz.prog 32=some axf:=by kernel_rfl
theorem aqz{args:List Value}{m:B}{az:Value->B->Prop}(h:args.length<=9):bJ Tryz.prog 32 args m az=ch Tryz.prog YC (eu args) m (ey [.bA 4] az):=fD axg h
def aiY:U:= .E (.I [c3 0 10 3 3,cV 1 3 2 10]) (.a7)
def aiX:U:= .E (.I [A 0 6 0,cj 1 7 99 [F 6,.const (.int .i64 1)],A 2 5 7,dD 3 8 0 5,dD 4 9 1 5,bP 5 3 (.eR [.bool false,.slice none 0 0,.slice none 0 0]),cV 6 3 3 8,A 7 4 9]) aiY
def YD:U:=
  .E (
  .I [
 bP 0 2 (.eR [.bool false,.slice none 0 0,.slice none 0 0])]) aiX
def axh:dn:=⟨11,[.h7 2 true 3],YD⟩
theorem axi:dj Tryz.prog 33=some axh:=by kernel_rfl
theorem aqA{args:List Value}{m:B}{az:Value->B->Prop}(h:args.length<=11):bJ Tryz.prog 33 args m az=ch Tryz.prog YD (eu args) m (ey [.h7 2 true 3] az):=fD axi h
def ajn:U:= .E (.I [aP 0 3 2 1,aS 1 4 3,cj 2 5 106 [F 4],cu 3 6 5,qH 4 7 6 0,A 5 8 7,iq 6 9 8 2 1,iy 7 10 8 9,oP 8 11 8 106 10,sb 9 12 8 11,nZ 10 13 8 12 128,e7 11 14 8 13,A 12 15 14,iq 13 16 15 1 1,iy 14 17 15 16,oP 15 18 15 106 17,sb 16 19 15 18,nZ 17 20 15 19 128,e7 18 21 15 20,A 19 2 21]) (.a7)
def YV:U:=
  .E (
  .I [
 hi 0 1 0,
 dE 1 2 false]) ajn
def axF:dn:=⟨22,[.bA 2],YV⟩
theorem axG:dj Tryz.prog 54=some axF:=by kernel_rfl
theorem aqE{args:List Value}{m:B}{az:Value->B->Prop}(h:args.length<=22):bJ Tryz.prog 54 args m az=ch Tryz.prog YV (eu args) m (ey [.bA 2] az):=fD axG h
def ajp:U:= .E (.I [aP 0 8 0 1,aS 1 9 8,aP 2 10 1 1,aS 3 11 10,aP 4 12 2 1,aS 5 13 12,cj 6 14 107 [F 9,F 11,F 13],cV 7 3 2 14,bQ 8 3 0]) (.a7)
def ajo:U:= .E (.E (.I [c3 0 4 3 1,cj 1 5 54 [F 4],iF 2 6 5]) (.bj (F 6) (.E (.I [bP 0 7 (.gT [.bool false,.slice none 0 0,.slice none 0 0] []),cV 1 3 2 7,bQ 2 3 1]) (.a7)) (.skip))) ajp
def YW:U:=
  .E (
  .I [
 hi 0 1 0,
 bP 1 2 (.eR [.bool false,.slice none 0 0,.slice none 0 0]),
 bQ 2 3 0]) ajo
def axH:dn:=⟨15,[.h7 2 true 3,.bA 3],YW⟩
theorem axI:dj Tryz.prog 55=some axH:=by kernel_rfl
theorem aqF{args:List Value}{m:B}{az:Value->B->Prop}(h:args.length<=15):bJ Tryz.prog 55 args m az=ch Tryz.prog YW (eu args) m (ey [.h7 2 true 3,.bA 3] az):=fD axI h
def aj8:U:= .E (.I [aP 0 8 0 1,aS 1 9 8,aP 2 10 1 1,aS 3 11 10,aP 4 12 2 1,aS 5 13 12,cj 6 14 89 [F 9,F 11,F 13],dD 7 15 0 14,dD 8 16 1 14,cV 9 3 2 15,A 10 3 16]) (.a7)
def aj7:U:= .E (.E (.I [c3 0 4 3 1,cj 1 5 91 [F 4],iF 2 6 5]) (.bj (F 6) (.E (.I [bP 0 7 (.gT [.bool false,.slice none 0 0,.slice none 0 0] []),cV 1 3 2 7,bQ 2 3 1]) (.a7)) (.skip))) aj8
def Zm:U:=
  .E (
  .I [
 hi 0 1 0,
 bP 1 2 (.eR [.bool false,.slice none 0 0,.slice none 0 0]),
 bQ 2 3 0]) aj7
def axX:dn:=⟨17,[.h7 2 true 3,.bA 3],Zm⟩
theorem axY:dj Tryz.prog 86=some axX:=by kernel_rfl
theorem aqG{args:List Value}{m:B}{az:Value->B->Prop}(h:args.length<=17):bJ Tryz.prog 86 args m az=ch Tryz.prog Zm (eu args) m (ey [.h7 2 true 3,.bA 3] az):=fD axY h
def Rq:U:= .E (.I [aP 0 50 0 2,aS 1 51 50,A 2 52 9,A 3 53 8,cj 4 54 89 [F 51,F 52,F 53],dD 5 55 0 54,dD 6 56 1 54,cV 7 3 4 55,A 8 5 56]) (.a7)
def Rs:U:= .E (.I [aP 0 67 0 2,aS 1 68 67,A 2 69 11,A 3 70 8,cj 4 71 89 [F 68,F 69,F 70],dD 5 72 0 71,dD 6 73 1 71,cV 7 3 4 72,A 8 5 73]) (.a7)
def Ru:U:= .E (.I [aP 0 80 0 3,aS 1 81 80,A 2 82 13,A 3 83 8,cj 4 84 89 [F 81,F 82,F 83],dD 5 85 0 84,dD 6 86 1 84,cV 7 3 4 85,A 8 5 86]) (.a7)
def Rt:U:= .E (.I [A 0 75 7,A 1 76 6,gj 2 77 128 75 76,A 3 74 77,dD 4 78 0 74,dD 5 79 1 74,A 6 13 78,A 7 14 79]) Ru
def Rr:U:= .E (.E (.I [A 0 57 6,A 1 58 7,gj 2 59 92 57 58,sc 3 60 59 0]) (.bj (F 60) (.E (.I [A 0 62 6,A 1 63 7,gj 2 64 128 62 63,A 3 61 64,dD 4 65 0 61,dD 5 66 1 61,A 6 11 65,A 7 12 66]) Rs) (.skip))) Rt
def Rp:U:= .E (.E (.I [aP 0 39 0 2,aS 1 40 39,aP 2 41 0 3,aS 3 42 41,bP 4 43 (.gz .eql .bool (F 40) (F 42))]) (.bj (F 43) (.E (.I [A 0 45 6,A 1 46 7,gj 2 47 127 45 46,A 3 44 47,dD 4 48 0 44,dD 5 49 1 44,A 6 9 48,A 7 10 49]) Rq) (.skip))) Rr
def Zu:U:= .E (.I [aP 0 24 1 2,aS 1 25 24,aP 2 26 2 3,aS 3 27 26,aP 5 29 1 3,aS 6 30 29,aP 7 31 2 2,aS 8 32 31,aP 10 34 2 2,aS 11 35 34,aP 12 36 2 3,aS 13 37 36,lp 4 28 (.eI 93 [F 25,F 27]) [(F 36,F 36),(F 34,F 34),(F 31,F 31),(F 29,F 29)],lp 9 33 (.eI 93 [F 30,F 32]) [(F 36,F 36),(F 34,F 34)],gj 14 38 93 35 37,A 15 6 28,A 16 7 33,A 17 8 38]) Rp
def aj9:U:= .E (.E (.I [c3 0 15 3 2,cj 1 16 91 [F 15],iF 2 17 16,A 3 18 17,kx 4 19 18 3 3,ky 5 20 18 91 19,jR 6 21 18 20,dL 7 22 18 21]) (.bj (F 22) (.E (.I [bP 0 23 (.gT [.bool false,.slice none 0 0,.slice none 0 0] []),cV 1 3 4 23,bQ 2 5 1]) (.a7)) (.skip))) Zu
def Zt:U:=
  .E (
  .I [
 hi 0 2 0,
 hi 1 3 1,
 bP 2 4 (.eR [.bool false,.slice none 0 0,.slice none 0 0]),
 bQ 3 5 0]) aj9
def ax1:dn:=⟨87,[.h7 4 true 3,.bA 5],Zt⟩
theorem ax2:dj Tryz.prog 88=some ax1:=by kernel_rfl
theorem aqI{args:List Value}{m:B}{az:Value->B->Prop}(h:args.length<=87):bJ Tryz.prog 88 args m az=ch Tryz.prog Zt (eu args) m (ey [.h7 4 true 3,.bA 5] az):=fD ax2 h
def akb:U:= .E (.I [A 0 16 8,cj 1 17 87 [F 16],qH 2 18 17 1]) (.bj (F 18) (.E (.I [A 0 20 1,A 1 21 8,gj 2 22 130 20 21,A 3 19 22,dD 4 23 0 19,dD 5 24 1 19,dD 6 25 2 19,A 7 1 23]) (.I [A 0 27 2,A 1 28 8,gj 2 29 130 27 28,A 3 26 29,dD 4 30 0 26,dD 5 31 1 26,dD 6 32 2 26,A 7 2 30])) (.skip))
def Lq:U:= .E (.I [A 0 42 0,A 1 43 42,hQ 2 44 43 1,oP 3 45 43 87 44,dz 4 46 43 true (.gz .gtr .hM (F 45) (.const (.int .i64 0))),e7 5 47 43 46,A 6 48 1,cj 7 49 131 [F 48],A 8 50 2,cj 9 51 131 [F 50],bP 10 52 (.gT [.bool false,.slice none 0 0,.slice none 0 0] [(0,1,F 47),(1,1,F 49),(2,1,F 51)]),cV 11 3 6 52,bQ 12 7 0]) (.a7)
def G2:U:= .E (.E (.I [A 0 33 1,cj 1 34 87 [F 33],qH 2 35 34 4096,A 3 36 35,fi 4 37 36 2,ky 5 38 36 87 37,oQ 6 39 36 38 4096,dL 7 40 36 39]) (.bj (F 40) (.E (.I [bP 0 41 (.gT [.bool false,.slice none 0 0,.slice none 0 0] []),cV 1 3 6 41,bQ 2 7 2]) (.a7)) (.skip))) Lq
def aka:U:= .E (.E (.I [A 0 11 1,A 1 12 2,gj 2 13 129 11 12,A 3 10 13,dD 4 14 0 10,dD 5 15 1 10,A 6 8 14,A 7 9 15]) akb) G2
def Zv:U:=
  .E (
  .I [
 bP 0 6 (.eR [.bool false,.slice none 0 0,.slice none 0 0]),
 bQ 1 7 0]) aka
def ax3:dn:=⟨53,[.h7 6 true 3,.bA 7],Zv⟩
theorem ax4:dj Tryz.prog 89=some ax3:=by kernel_rfl
theorem aqJ{args:List Value}{m:B}{az:Value->B->Prop}(h:args.length<=53):bJ Tryz.prog 89 args m az=ch Tryz.prog Zv (eu args) m (ey [.h7 6 true 3,.bA 7] az):=fD ax4 h
def akh:U:= .E (.I [A 0 9 0,iK 1 10 9,cj 2 11 34 [F 10],A 3 2 11]) (.a7)
def akg:U:= .E (.E (.I [A 0 3 0,oO 1 4 3 0]) (.bj (F 4) (.E (.I [A 0 5 0,iK 1 6 5,bP 2 7 (.nv .neg (F 6)),cj 3 8 34 [F 7],A 4 2 8]) (.a7)) (.skip))) akh
def Zw:U:=
  .E (
  .I [
 fQ 0 2]) akg
def ax7:dn:=⟨12,[.bA 2],Zw⟩
theorem ax8:dj Tryz.prog 90=some ax7:=by kernel_rfl
theorem aqL{args:List Value}{m:B}{az:Value->B->Prop}(h:args.length<=12):bJ Tryz.prog 90 args m az=ch Tryz.prog Zw (eu args) m (ey [.bA 2] az):=fD ax8 h
def Rw:U:= .E (.I [A 0 7 3,qH 1 8 7 0,A 2 9 8,hQ 3 10 9 3,nZ 4 11 9 10 4096,e7 5 12 9 11,A 6 13 12,iq 7 14 13 1 1,iy 8 15 13 14,oP 9 16 13 87 15,nZ 10 17 13 16 4096,e7 11 18 13 17,A 12 2 18]) (.a7)
def Rv:U:= .E (.I [aP 0 4 2 1,aS 1 5 4,cj 2 6 87 [F 5],A 3 3 6]) Rw
def Lr:U:=
  .E (
  .I [
 hi 0 1 0,
 dE 1 2 false]) Rv
def ax9:dn:=⟨19,[.bA 2],Lr⟩
theorem aya:dj Tryz.prog 91=some ax9:=by kernel_rfl
theorem aqM{args:List Value}{m:B}{az:Value->B->Prop}(h:args.length<=19):bJ Tryz.prog 91 args m az=ch Tryz.prog Lr (eu args) m (ey [.bA 2] az):=fD aya h
def akj:U:= .E (.I [A 0 13 5,A 1 4 13]) (.a7)
def aki:U:= .E (.I [A 0 8 0,A 1 9 1,gj 2 10 132 8 9,A 3 7 10,dD 4 11 0 7,dD 5 12 1 7,A 6 5 11,A 7 6 12]) akj
def Zx:U:=
  .E (
  .I [
 fQ 0 4]) aki
def ayd:dn:=⟨14,[.bA 4],Zx⟩
theorem aye:dj Tryz.prog 93=some ayd:=by kernel_rfl
theorem aqO{args:List Value}{m:B}{az:Value->B->Prop}(h:args.length<=14):bJ Tryz.prog 93 args m az=ch Tryz.prog Zx (eu args) m (ey [.bA 4] az):=fD aye h
def akk:U:= .E (.I [aP 0 3 1 1,aS 1 4 3,cj 2 5 87 [F 4],kL 3 6 5 0,A 4 2 6]) (.a7)
def Zy:U:=
  .E (
  .I [
 hi 0 1 0,
 dE 1 2 false]) akk
def ayf:dn:=⟨7,[.bA 2],Zy⟩
theorem ayg:dj Tryz.prog 94=some ayf:=by kernel_rfl
theorem aqP{args:List Value}{m:B}{az:Value->B->Prop}(h:args.length<=7):bJ Tryz.prog 94 args m az=ch Tryz.prog Zy (eu args) m (ey [.bA 2] az):=fD ayg h
def Lw:U:= .E (.I [A 0 50 5,A 1 51 6,gj 2 52 134 50 51,A 3 4 52]) (.a7)
def G5:U:= .E (.block 0 (.E (.I [A 0 34 7,A 1 35 34,hQ 2 36 35 8,vW 3 37 35 36,e7 4 38 35 37,A 5 33 38]) (.bj (F 33) (.E (.I [bQ 0 4 (-1)]) (.a7)) (.E (.I [A 0 40 8,A 1 41 40,hQ 2 42 41 7,vW 3 43 41 42,e7 4 44 41 43,A 5 39 44]) (.bj (F 39) (.E (.I [bQ 0 4 1]) (.a7)) (.E (.I [A 0 46 7,A 1 45 46]) (.bj (F 45) (.E (.I [A 0 47 6,A 1 48 5,gj 2 49 134 47 48,A 3 4 49]) (.a7)) (.skip)))))))) Lw
def G4:U:= .E (.I [aP 0 19 0 2,aS 1 20 19,A 2 21 20,hQ 3 22 21 5,sb 4 23 21 22,dz 5 24 21 true (.gz .gtr .hM (F 23) (.const (.int .i64 0))),e7 6 25 21 24,aP 7 26 0 3,aS 8 27 26,A 9 28 27,hQ 10 29 28 6,sb 11 30 28 29,dz 12 31 28 true (.gz .gtr .hM (F 30) (.const (.int .i64 0))),e7 13 32 28 31,A 14 7 25,A 15 8 32]) G5
def akn:U:= .E (.I [aP 0 9 1 2,aS 1 10 9,aP 2 11 2 3,aS 3 12 11,aP 5 14 1 3,aS 6 15 14,aP 7 16 2 2,aS 8 17 16,lp 4 13 (.eI 133 [F 10,F 12]) [(F 16,F 16),(F 14,F 14)],gj 9 18 133 15 17,A 10 5 13,A 11 6 18]) G4
def ZB:U:=
  .E (
  .I [
 hi 0 2 0,
 hi 1 3 1,
 bQ 2 4 0]) akn
def ayl:dn:=⟨53,[.bA 4],ZB⟩
theorem aym:dj Tryz.prog 97=some ayl:=by kernel_rfl
theorem aqS{args:List Value}{m:B}{az:Value->B->Prop}(h:args.length<=53):bJ Tryz.prog 97 args m az=ch Tryz.prog ZB (eu args) m (ey [.bA 4] az):=fD aym h
def RF:U:= .E (.I [aP 0 50 0 2,aS 1 51 50,A 2 52 9,A 3 53 8,cj 4 54 107 [F 51,F 52,F 53],cj 5 55 136 [F 54],dD 6 56 0 55,dD 7 57 1 55,cV 8 3 4 56,A 9 5 57]) (.a7)
def RH:U:= .E (.I [aP 0 68 0 2,aS 1 69 68,A 2 70 11,A 3 71 8,cj 4 72 107 [F 69,F 70,F 71],cj 5 73 136 [F 72],dD 6 74 0 73,dD 7 75 1 73,cV 8 3 4 74,A 9 5 75]) (.a7)
def RJ:U:= .E (.I [aP 0 82 0 3,aS 1 83 82,A 2 84 13,A 3 85 8,cj 4 86 107 [F 83,F 84,F 85],cj 5 87 136 [F 86],dD 6 88 0 87,dD 7 89 1 87,cV 8 3 4 88,A 9 5 89]) (.a7)
def RI:U:= .E (.I [A 0 77 7,A 1 78 6,gj 2 79 137 77 78,A 3 76 79,dD 4 80 0 76,dD 5 81 1 76,A 6 13 80,A 7 14 81]) RJ
def RG:U:= .E (.E (.I [A 0 58 6,A 1 59 7,gj 2 60 134 58 59,sc 3 61 60 0]) (.bj (F 61) (.E (.I [A 0 63 6,A 1 64 7,gj 2 65 137 63 64,A 3 62 65,dD 4 66 0 62,dD 5 67 1 62,A 6 11 66,A 7 12 67]) RH) (.skip))) RI
def RE:U:= .E (.E (.I [aP 0 39 0 2,aS 1 40 39,aP 2 41 0 3,aS 3 42 41,bP 4 43 (.gz .eql .bool (F 40) (F 42))]) (.bj (F 43) (.E (.I [A 0 45 6,A 1 46 7,gj 2 47 135 45 46,A 3 44 47,dD 4 48 0 44,dD 5 49 1 44,A 6 9 48,A 7 10 49]) RF) (.skip))) RG
def ZD:U:= .E (.I [aP 0 24 1 2,aS 1 25 24,aP 2 26 2 3,aS 3 27 26,aP 5 29 1 3,aS 6 30 29,aP 7 31 2 2,aS 8 32 31,aP 10 34 2 2,aS 11 35 34,aP 12 36 2 3,aS 13 37 36,lp 4 28 (.eI 133 [F 25,F 27]) [(F 36,F 36),(F 34,F 34),(F 31,F 31),(F 29,F 29)],lp 9 33 (.eI 133 [F 30,F 32]) [(F 36,F 36),(F 34,F 34)],gj 14 38 133 35 37,A 15 6 28,A 16 7 33,A 17 8 38]) RE
def ako:U:= .E (.E (.I [c3 0 15 3 2,cj 1 16 54 [F 15],iF 2 17 16,A 3 18 17,kx 4 19 18 3 3,ky 5 20 18 54 19,jR 6 21 18 20,dL 7 22 18 21]) (.bj (F 22) (.E (.I [bP 0 23 (.gT [.bool false,.slice none 0 0,.slice none 0 0] []),cV 1 3 4 23,bQ 2 5 1]) (.a7)) (.skip))) ZD
def ZC:U:=
  .E (
  .I [
 hi 0 2 0,
 hi 1 3 1,
 bP 2 4 (.eR [.bool false,.slice none 0 0,.slice none 0 0]),
 bQ 3 5 0]) ako
def ayn:dn:=⟨90,[.h7 4 true 3,.bA 5],ZC⟩
theorem ayo:dj Tryz.prog 98=some ayn:=by kernel_rfl
theorem aqT{args:List Value}{m:B}{az:Value->B->Prop}(h:args.length<=90):bJ Tryz.prog 98 args m az=ch Tryz.prog ZC (eu args) m (ey [.h7 4 true 3,.bA 5] az):=fD ayo h
def akq:U:= .E (.I [A 0 9 0,oO 1 10 9 0,A 2 11 1,oO 3 12 11 0,bP 4 13 (.gz .neq .bool (F 10) (F 12)),A 5 14 0,cj 6 15 139 [F 14],cj 7 16 138 [F 15],A 8 17 1,cj 9 18 139 [F 17],cj 10 19 138 [F 18],cj 11 20 107 [F 13,F 16,F 19],cV 12 3 4 20,bQ 13 5 0]) (.a7)
def akp:U:= .E (.E (.I [A 0 6 1,kL 1 7 6 0]) (.bj (F 7) (.E (.I [bP 0 8 (.gT [.bool false,.slice none 0 0,.slice none 0 0] []),cV 1 3 4 8,bQ 2 5 3]) (.a7)) (.skip))) akq
def ZE:U:=
  .E (
  .I [
 bP 0 4 (.eR [.bool false,.slice none 0 0,.slice none 0 0]),
 bQ 1 5 0]) akp
def ayp:dn:=⟨21,[.h7 4 true 3,.bA 5],ZE⟩
theorem ayq:dj Tryz.prog 99=some ayp:=by kernel_rfl
theorem aqU{args:List Value}{m:B}{az:Value->B->Prop}(h:args.length<=21):bJ Tryz.prog 99 args m az=ch Tryz.prog ZE (eu args) m (ey [.h7 4 true 3,.bA 5] az):=fD ayq h
def Gn:U:= .E (.I [A 0 24 7,cu 1 25 24,qH 2 26 25 1,A 3 27 26,fi 4 28 27 7,dz 5 29 27 false (.pg 1 (F 28) (.const (.int .i64 0))),e8 6 30 27 29,dz 7 31 27 false (.gz .gtr .hM (F 30) (.const (.int .u32 1))),dL 8 32 27 31]) (.bj (F 32) (.E (.I [A 0 34 1,A 1 35 7,gj 2 36 146 34 35,A 3 33 36,dD 4 37 0 33,dD 5 38 1 33,dD 6 39 2 33,A 7 1 37]) (.I [A 0 41 2,A 1 42 7,gj 2 43 146 41 42,A 3 40 43,dD 4 44 0 40,dD 5 45 1 40,dD 6 46 2 40,A 7 2 44])) (.skip))
def J7:U:= .E (.I [A 0 47 0,A 1 48 1,A 2 49 2,bP 3 50 (.gT [.bool false,.slice none 0 0,.slice none 0 0] [(0,1,F 47),(1,1,F 48),(2,1,F 49)]),cV 4 3 6 50]) (.a7)
def Wq:U:= .E (.E (.I [A 0 19 1,A 1 20 2,gj 2 21 145 19 20,A 3 18 21,dD 4 22 0 18,dD 5 23 1 18,A 6 7 22,A 7 8 23]) Gn) J7
def Wp:U:= .E (.E (.I [A 0 13 1,cu 1 14 13,kL 2 15 14 0]) (.bj (F 15) (.E (.I [bP 0 16 (.iT 1 1 [.int .u32 0] [(0,1,.const (.int .u32 1))]),bP 1 17 (.gT [.bool false,.slice none 0 0,.slice none 0 0] [(2,1,F 16)]),cV 2 3 6 17]) (.a7)) (.skip))) Wq
def af0:U:= .E (.I [A 0 9 1,cj 1 10 106 [F 9],A 2 11 2,cj 3 12 106 [F 11],A 4 1 10,A 5 2 12]) Wp
def Wo:U:=
  .E (
  .I [
 bP 0 6 (.eR [.bool false,.slice none 0 0,.slice none 0 0])]) af0
def avz:dn:=⟨51,[.h7 6 true 3],Wo⟩
theorem avA:dj Tryz.prog 107=some avz:=by kernel_rfl
theorem apM{args:List Value}{m:B}{az:Value->B->Prop}(h:args.length<=51):bJ Tryz.prog 107 args m az=ch Tryz.prog Wo (eu args) m (ey [.h7 6 true 3] az):=fD avA h
def af1:U:= .E (.I [c3 0 5 3 2,c3 1 6 3 3,gj 2 7 97 5 6,oO 3 8 7 0,A 4 4 8]) (.a7)
def Ww:U:=
  .E (
  .I [
 hi 0 2 0,
 hi 1 3 1,
 dE 2 4 false]) af1
def avE:dn:=⟨9,[.bA 4],Ww⟩
theorem avF:dj Tryz.prog 110=some avE:=by kernel_rfl
theorem apN{args:List Value}{m:B}{az:Value->B->Prop}(h:args.length<=9):bJ Tryz.prog 110 args m az=ch Tryz.prog Ww (eu args) m (ey [.bA 4] az):=fD avF h
def agJ:U:= .E (.I [A 0 13 5,A 1 4 13]) (.a7)
def agI:U:= .E (.I [A 0 8 0,A 1 9 1,gj 2 10 160 8 9,A 3 7 10,dD 4 11 0 7,dD 5 12 1 7,A 6 5 11,A 7 6 12]) agJ
def WW:U:=
  .E (
  .I [
 fQ 0 4]) agI
def avU:dn:=⟨14,[.bA 4],WW⟩
theorem avV:dj Tryz.prog 133=some avU:=by kernel_rfl
theorem apV{args:List Value}{m:B}{az:Value->B->Prop}(h:args.length<=14):bJ Tryz.prog 133 args m az=ch Tryz.prog WW (eu args) m (ey [.bA 4] az):=fD avV h
def agU:U:= .E (.I [c3 0 7 3 1,cV 1 3 2 7,bQ 2 3 0]) (.a7)
def agT:U:= .E (.E (.I [c3 0 4 3 1,cj 1 5 163 [F 4]]) (.bj (F 5) (.E (.I [bP 0 6 (.gT [.bool false,.slice none 0 0,.slice none 0 0] []),cV 1 3 2 6,bQ 2 3 2]) (.a7)) (.skip))) agU
def WZ:U:=
  .E (
  .I [
 hi 0 1 0,
 bP 1 2 (.eR [.bool false,.slice none 0 0,.slice none 0 0]),
 bQ 2 3 0]) agT
def av0:dn:=⟨8,[.h7 2 true 3,.bA 3],WZ⟩
theorem av1:dj Tryz.prog 136=some av0:=by kernel_rfl
theorem apY{args:List Value}{m:B}{az:Value->B->Prop}(h:args.length<=8):bJ Tryz.prog 136 args m az=ch Tryz.prog WZ (eu args) m (ey [.h7 2 true 3,.bA 3] az):=fD av1 h
def W3:U:= .E (.I [A 0 10 0,iK 1 11 10,A 2 2 11]) (.a7)
def W2:U:= .E (.E (.I [A 0 3 0,oO 1 4 3 0]) (.bj (F 4) (.E (.I [A 0 5 0,eB 1 6 5,bP 2 7 (.nv .neg (F 6)),iK 3 8 7,eA 4 9 .add (F 8) (.const (.int .u64 1)),A 5 2 9]) (.a7)) (.skip))) W3
def Pt:U:=
  .E (
  .I [
 pV 0 2 0]) W2
def av6:dn:=⟨12,[.bA 2],Pt⟩
theorem av7:dj Tryz.prog 139=some av6:=by kernel_rfl
theorem ap1{args:List Value}{m:B}{az:Value->B->Prop}(h:args.length<=12):bJ Tryz.prog 139 args m az=ch Tryz.prog Pt (eu args) m (ey [.bA 2] az):=fD av7 h
def XD:U:= .E (.I [aP 0 3 1 1,aS 1 4 3,cu 2 5 4,qH 3 6 5 128,A 4 7 6,eG 5 8 7 2 1,e8 6 9 7 8,lB 7 10 7 9,oQ 8 11 7 10 128,dL 9 12 7 11,A 10 2 12]) (.a7)
def PT:U:=
  .E (
  .I [
 hi 0 1 0,
 dE 1 2 false]) XD
def awz:dn:=⟨13,[.bA 2],PT⟩
theorem awA:dj Tryz.prog 163=some awz:=by kernel_rfl
theorem aqd{args:List Value}{m:B}{az:Value->B->Prop}(h:args.length<=13):bJ Tryz.prog 163 args m az=ch Tryz.prog PT (eu args) m (ey [.bA 2] az):=fD awA h
def ai0:U:= .E (.I [A 0 10 3,A 1 11 3,cj 2 12 100 [F 11],rh 3 13 10 12,A 4 2 13]) (.a7)
def aiZ:U:= .E (.I [A 0 4 0,l5 1 5 4,A 2 6 0,sS 3 7 6 32,l5 4 8 7,bP 5 9 (.iT 1 2 [.int .u32 0,.int .u32 0] [(0,1,F 5),(1,1,F 8)]),A 6 3 9]) ai0
def YE:U:=
  .E (
  .I [
 fQ 0 2]) aiZ
def axj:dn:=⟨14,[.bA 2],YE⟩
theorem axk:dj Tryz.prog 34=some axj:=by kernel_rfl
theorem aqB{args:List Value}{m:B}{az:Value->B->Prop}(h:args.length<=14):bJ Tryz.prog 34 args m az=ch Tryz.prog YE (eu args) m (ey [.bA 2] az):=fD axk h
def Zr:U:= .E (.block 1 (.I [A 0 22 4,eB 1 23 22,A 2 4 23])) (.I [A 0 20 5,sS 1 21 20 1,A 2 5 21])
def Ro:U:= .E (.E (.I [A 0 18 5,eA 1 19 .gtr (F 18) (.const (.int .u32 0))]) (.bj (F 19) (.skip) (.bI 0))) Zr
def Zs:U:= .E (.I [A 0 24 4,A 1 2 24]) (.a7)
def Zq:U:= .E (.E (.I [A 0 13 0,A 1 14 3,lM 2 15 14 1,cL 3 16 1 13 15,aS 4 17 16,A 5 5 17]) (.block 0 (.loop Ro))) Zs
def Zp:U:= .E (.I [A 0 10 3,lM 1 11 10 1,eA 2 12 .mul (F 11) (.const (.int .i64 32)),A 3 4 12]) Zq
def Zo:U:= .E (.E (.I [A 0 8 3,kL 1 9 8 0]) (.bj (F 9) (.E (.I [bQ 0 2 0]) (.a7)) (.skip))) Zp
def Zn:U:= .E (.I [A 0 6 0,cj 1 7 100 [F 6],A 2 3 7]) Zo
def Rn:U:=
  .E (
  .I [
 bQ 0 2 0]) Zn
def axZ:dn:=⟨25,[.bA 2],Rn⟩
theorem ax0:dj Tryz.prog 87=some axZ:=by kernel_rfl
theorem aqH{args:List Value}{m:B}{az:Value->B->Prop}(h:args.length<=25):bJ Tryz.prog 87 args m az=ch Tryz.prog Rn (eu args) m (ey [.bA 2] az):=fD ax0 h
def Lt:U:= .E (.block 2 (.block 3 (.E (.I [A 0 27 0,A 1 28 7,cL 2 29 1 27 28,aS 3 30 29,A 4 31 1,A 5 32 7,cL 6 33 1 31 32,aS 7 34 33,eX 8 35 30 34,A 9 26 35]) (.bj (F 26) (.E (.I [bQ 0 4 (-1)]) (.a7)) (.E (.I [A 0 37 0,A 1 38 7,cL 2 39 1 37 38,aS 3 40 39,A 4 41 1,A 5 42 7,cL 6 43 1 41 42,aS 7 44 43,eA 8 45 .gtr (F 40) (F 44),A 9 36 45]) (.bj (F 36) (.E (.I [bQ 0 4 1]) (.a7)) (.skip))))))) (.I [A 0 24 7,lM 1 25 24 1,A 2 7 25])
def G3:U:= .E (.E (.I [A 0 22 7,sc 1 23 22 0]) (.bj (F 23) (.skip) (.bI 1))) Lt
def RA:U:= .E (.I [bQ 0 4 0]) (.a7)
def Rz:U:= .E (.E (.I [A 0 20 5,lM 1 21 20 1,A 2 7 21]) (.block 1 (.loop G3))) RA
def Ry:U:= .E (.block 0 (.E (.I [A 0 13 5,A 1 14 6,eX 2 15 13 14,A 3 12 15]) (.bj (F 12) (.E (.I [bQ 0 4 (-1)]) (.a7)) (.E (.I [A 0 17 5,A 1 18 6,eA 2 19 .gtr (F 17) (F 18),A 3 16 19]) (.bj (F 16) (.E (.I [bQ 0 4 1]) (.a7)) (.skip)))))) Rz
def Rx:U:= .E (.I [A 0 8 0,cj 1 9 100 [F 8],A 2 10 1,cj 3 11 100 [F 10],A 4 5 9,A 5 6 11]) Ry
def Ls:U:=
  .E (
  .I [
 bQ 0 4 0]) Rx
def ayb:dn:=⟨46,[.bA 4],Ls⟩
theorem ayc:dj Tryz.prog 92=some ayb:=by kernel_rfl
theorem aqN{args:List Value}{m:B}{az:Value->B->Prop}(h:args.length<=46):bJ Tryz.prog 92 args m az=ch Tryz.prog Ls (eu args) m (ey [.bA 4] az):=fD ayc h
def JZ:U:= .E (.E (.I [A 0 6 3,qH 1 7 6 0,A 2 8 7,hQ 3 9 8 0,hQ 4 10 8 3,B9 5 11 8 10,dz 6 12 8 true (.pg 1 (F 9) (F 11)),iy 7 13 8 12,dz 8 14 8 true (.gz .eql .hM (F 13) (.const (.int .u32 0))),e7 9 15 8 14]) (.bj (F 15) (.skip) (.bI 0))) (.block 1 (.I [A 0 16 3,lM 1 17 16 1,A 2 3 17]))
def afX:U:= .E (.I [A 0 18 3,A 1 2 18]) (.a7)
def afW:U:= .E (.block 0 (.loop JZ)) afX
def afV:U:= .E (.I [A 0 4 0,cu 1 5 4,A 2 3 5]) afW
def Wj:U:=
  .E (
  .I [
 bQ 0 2 0]) afV
def avo:dn:=⟨19,[.bA 2],Wj⟩
theorem avp:dj Tryz.prog 100=some avo:=by kernel_rfl
theorem apJ{args:List Value}{m:B}{az:Value->B->Prop}(h:args.length<=19):bJ Tryz.prog 100 args m az=ch Tryz.prog Wj (eu args) m (ey [.bA 2] az):=fD avp h
def J6:U:= .E (.E (.I [A 0 6 3,qH 1 7 6 0,A 2 8 7,hQ 3 9 8 0,hQ 4 10 8 3,B9 5 11 8 10,dz 6 12 8 true (.pg 1 (F 9) (F 11)),iy 7 13 8 12,dz 8 14 8 true (.gz .eql .hM (F 13) (.const (.int .u32 0))),e7 9 15 8 14]) (.bj (F 15) (.skip) (.bI 0))) (.block 1 (.I [A 0 16 3,lM 1 17 16 1,A 2 3 17]))
def Wn:U:= .E (.I [A 0 18 0,A 1 19 3,rh 2 20 18 19,bP 3 21 (.app 1 4 (.const (.slice none 0 0)) (F 20)),A 4 2 21]) (.a7)
def Wm:U:= .E (.block 0 (.loop J6)) Wn
def Wl:U:= .E (.I [A 0 4 0,cu 1 5 4,A 2 3 5]) Wm
def OP:U:=
  .E (
  .I [
 fQ 0 2]) Wl
def avx:dn:=⟨22,[.bA 2],OP⟩
theorem avy:dj Tryz.prog 106=some avx:=by kernel_rfl
theorem acU{args:List Value}{m:B}{az:Value->B->Prop}(h:args.length<=22):bJ Tryz.prog 106 args m az=ch Tryz.prog OP (eu args) m (ey [.bA 2] az):=fD avy h
def Pa:U:= .E (.I [A 0 57 6,A 1 58 8,A 2 59 7,l5 3 60 59,cL 4 61 1 57 58,cV 5 1 61 60]) (.I [A 0 62 7,sS 1 63 62 32,A 2 7 63])
def O9:U:= .E (.E (.I [A 0 46 8,A 1 47 1,cu 2 48 47,eX 3 49 46 48]) (.bj (F 49) (.I [A 0 50 7,A 1 51 1,A 2 52 8,cL 3 53 1 51 52,aS 4 54 53,iK 5 55 54,ji 6 56 50 55,A 7 7 56]) (.skip))) Pa
def Pd:U:= .E (.I [A 0 39 7,A 1 40 0,A 2 41 8,cL 3 42 1 40 41,aS 4 43 42,iK 5 44 43,ji 6 45 39 44,A 7 7 45]) O9
def Pc:U:= .E (.block 1 (.E (.I [A 0 38 36,A 1 8 38]) Pd)) (.I [eB 0 64 36,A 1 36 64])
def Pb:U:= .E (.bj (F 37) (.skip) (.bI 0)) Pc
def Kk:U:= .E (.I [eX 0 37 36 35]) Pb
def Wz:U:= .E (.I [A 0 71 6,cj 1 72 158 [F 71],dD 2 73 0 72,dD 3 74 1 72,A 4 4 73,A 5 5 74]) (.a7)
def Wy:U:= .E (.I [A 0 65 6,A 1 66 0,cu 2 67 66,A 3 68 7,l5 4 69 68,cL 5 70 1 65 67,cV 6 1 70 69]) Wz
def WE:U:= .E (.E (.I [A 0 34 0,cu 1 35 34,bQ 2 36 0]) (.block 0 (.loop Kk))) Wy
def WD:U:= .E (.I [pV 0 7 0]) WE
def WC:U:= .E (.I [A 0 30 0,cu 1 31 30,eB 2 32 31,vZ 3 33 32 32,A 4 6 33]) WD
def WB:U:= .E (.E (.I [A 0 23 0,cu 1 24 23,A 2 25 1,cu 3 26 25,eX 4 27 24 26]) (.bj (F 27) (.I [A 0 28 1,A 1 29 0,A 2 0 28,A 3 1 29]) (.skip))) WC
def WA:U:= .E (.I [A 0 15 0,A 1 16 0,A 4 19 1,A 5 20 1,cj 2 17 100 [F 16],rh 3 18 15 17,cj 6 21 100 [F 20],rh 7 22 19 21,A 8 0 18,A 9 1 22]) WB
def Wx:U:= .E (.E (.I [A 0 9 0,cj 1 10 157 [F 9],A 2 11 10,fi 3 12 11 1,ky 4 13 11 157 12,dL 5 14 11 13]) (.bj (F 14) (.E (.I [fQ 0 4,bQ 1 5 2]) (.a7)) (.skip))) WA
def O8:U:=
  .E (
  .I [
 fQ 0 4,
 bQ 1 5 0]) Wx
def avI:dn:=⟨75,[.bA 4,.bA 5],O8⟩
theorem avJ:dj Tryz.prog 127=some avI:=by kernel_rfl
theorem apP{args:List Value}{m:B}{az:Value->B->Prop}(h:args.length<=75):bJ Tryz.prog 127 args m az=ch Tryz.prog O8 (eu args) m (ey [.bA 4,.bA 5] az):=fD avJ h
def Pe:U:= .E (.I [A 0 56 6,A 1 57 8,A 2 58 9,l5 3 59 58,cL 4 60 1 56 57,cV 5 1 60 59]) (.I [A 0 61 9,sS 1 62 61 63,A 2 7 62])
def Pj:U:= .E (.E (.I [A 0 45 8,A 1 46 1,cu 2 47 46,eX 3 48 45 47]) (.bj (F 48) (.I [A 0 49 9,A 1 50 1,A 2 51 8,cL 3 52 1 50 51,aS 4 53 52,iK 5 54 53,eA 6 55 .sub (F 49) (F 54),A 7 9 55]) (.skip))) Pe
def Ph:U:= .E (.I [A 0 38 0,A 1 39 8,cL 2 40 1 38 39,aS 3 41 40,iK 4 42 41,A 5 43 7,eA 6 44 .sub (F 42) (F 43),A 7 9 44]) Pj
def Pg:U:= .E (.block 2 (.E (.I [A 0 37 35,A 1 8 37]) Ph)) (.I [eB 0 63 35,A 1 35 63])
def Pf:U:= .E (.bj (F 36) (.skip) (.bI 1)) Pg
def Kl:U:= .E (.I [eX 0 36 35 34]) Pf
def aga:U:= .E (.I [A 0 64 6,cj 1 65 158 [F 64],dD 2 66 0 65,dD 3 67 1 65,A 4 4 66,A 5 5 67]) (.a7)
def age:U:= .E (.E (.I [A 0 33 0,cu 1 34 33,bQ 2 35 0]) (.block 1 (.loop Kl))) aga
def agd:U:= .E (.I [pV 0 7 0]) age
def agc:U:= .E (.I [A 0 30 0,cu 1 31 30,vZ 2 32 31 31,A 3 6 32]) agd
def agb:U:= .E (.I [A 0 22 0,A 1 23 0,A 4 26 1,A 5 27 1,cj 2 24 100 [F 23],rh 3 25 22 24,cj 6 28 100 [F 27],rh 7 29 26 28,A 8 0 25,A 9 1 29]) agc
def af9:U:= .E (.block 0 (.E (.I [A 0 11 0,cj 1 12 157 [F 11],A 2 13 12,fi 3 14 13 1,ky 4 15 13 157 14,dL 5 16 13 15,A 6 10 16]) (.bj (F 10) (.E (.I [fQ 0 4,bQ 1 5 2]) (.a7)) (.E (.I [A 0 18 0,A 1 19 1,gj 2 20 92 18 19,oO 3 21 20 0,A 4 17 21]) (.bj (F 17) (.E (.I [fQ 0 4,bQ 1 5 4]) (.a7)) (.skip)))))) agb
def WG:U:=
  .E (
  .I [
 fQ 0 4,
 bQ 1 5 0]) af9
def avK:dn:=⟨68,[.bA 4,.bA 5],WG⟩
theorem avL:dj Tryz.prog 128=some avK:=by kernel_rfl
theorem apQ{args:List Value}{m:B}{az:Value->B->Prop}(h:args.length<=68):bJ Tryz.prog 128 args m az=ch Tryz.prog WG (eu args) m (ey [.bA 4,.bA 5] az):=fD avL h
def Pk:U:= .E (.E (.I [A 0 18 1,cu 1 19 18,qH 2 20 19 0]) (.bj (F 20) (.skip) (.bI 0))) (.block 1 (.E (.I [A 0 22 0,A 1 23 1,gj 2 24 159 22 23,A 3 21 24,dD 4 25 0 21,dD 5 26 1 21,A 6 6 25,A 7 7 26]) (.I [A 0 27 1,A 1 28 7,A 2 0 27,A 3 1 28])))
def agj:U:= .E (.I [A 0 29 0,A 1 4 29,bQ 2 5 0]) (.a7)
def agi:U:= .E (.block 0 (.loop Pk)) agj
def agh:U:= .E (.I [A 0 14 0,cj 1 15 131 [F 14],A 2 16 1,cj 3 17 131 [F 16],A 4 0 15,A 5 1 17]) agi
def agf:U:= .E (.E (.I [A 0 8 0,cj 1 9 157 [F 8],A 2 10 9,fi 3 11 10 1,ky 4 12 10 157 11,dL 5 13 10 12]) (.bj (F 13) (.E (.I [fQ 0 4,bQ 1 5 2]) (.a7)) (.skip))) agh
def WH:U:=
  .E (
  .I [
 fQ 0 4,
 bQ 1 5 0]) agf
def avM:dn:=⟨30,[.bA 4,.bA 5],WH⟩
theorem avN:dj Tryz.prog 129=some avM:=by kernel_rfl
theorem apR{args:List Value}{m:B}{az:Value->B->Prop}(h:args.length<=30):bJ Tryz.prog 129 args m az=ch Tryz.prog WH (eu args) m (ey [.bA 4,.bA 5] az):=fD avN h
def agB:U:= .E (.I [A 0 32 7,A 1 33 8,A 2 4 32,A 3 5 33,bQ 4 6 0]) (.a7)
def agA:U:= .E (.I [A 0 21 0,A 1 22 0,A 4 25 1,A 5 26 1,cj 2 23 100 [F 22],rh 3 24 21 23,cj 6 27 100 [F 26],rh 7 28 25 27,gj 8 29 159 24 28,A 9 20 29,dD 10 30 0 20,dD 11 31 1 20,A 12 7 30,A 13 8 31]) agB
def agz:U:= .E (.block 0 (.E (.I [A 0 10 0,cj 1 11 157 [F 10],A 2 12 11,fi 3 13 12 1,ky 4 14 12 157 13,dL 5 15 12 14,A 6 9 15]) (.bj (F 9) (.E (.I [fQ 0 4,fQ 1 5,bQ 2 6 2]) (.a7)) (.E (.I [A 0 17 1,cj 1 18 100 [F 17],kL 2 19 18 0,A 3 16 19]) (.bj (F 16) (.E (.I [fQ 0 4,fQ 1 5,bQ 2 6 3]) (.a7)) (.skip)))))) agA
def WK:U:=
  .E (
  .I [
 fQ 0 4,
 fQ 1 5,
 bQ 2 6 0]) agz
def avO:dn:=⟨34,[.bA 4,.bA 5,.bA 6],WK⟩
theorem avP:dj Tryz.prog 130=some avO:=by kernel_rfl
theorem apS{args:List Value}{m:B}{az:Value->B->Prop}(h:args.length<=34):bJ Tryz.prog 130 args m az=ch Tryz.prog WK (eu args) m (ey [.bA 4,.bA 5,.bA 6] az):=fD avP h
def agC:U:= .E (.I [A 0 3 0,A 1 4 0,cj 2 5 100 [F 4],rh 3 6 3 5,bP 4 7 (.app 1 4 (.const (.slice none 0 0)) (F 6)),A 5 2 7]) (.a7)
def WL:U:=
  .E (
  .I [
 fQ 0 2]) agC
def avQ:dn:=⟨8,[.bA 2],WL⟩
theorem avR:dj Tryz.prog 131=some avQ:=by kernel_rfl
theorem apT{args:List Value}{m:B}{az:Value->B->Prop}(h:args.length<=8):bJ Tryz.prog 131 args m az=ch Tryz.prog WL (eu args) m (ey [.bA 2] az):=fD avR h
def WQ:U:= .E (.I [A 0 61 6,A 1 62 7,A 2 63 10,ji 3 64 62 63,A 4 65 9,l5 5 66 65,cL 6 67 1 61 64,cV 7 1 67 66]) (.I [A 0 68 9,sS 1 69 68 32,A 2 9 69])
def WO:U:= .E (.I [A 0 46 9,A 1 47 8,iK 2 48 47,A 3 49 11,iK 4 50 49,eA 5 51 .mul (F 48) (F 50),A 6 52 6,A 7 53 7,A 8 54 10,ji 9 55 53 54,cL 10 56 1 52 55,aS 11 57 56,iK 12 58 57,ji 13 59 51 58,ji 14 60 46 59,A 15 9 60]) WQ
def WN:U:= .E (.block 3 (.E (.I [A 0 43 41,cL 1 44 1 39 41,aS 2 45 44,A 3 10 43,A 4 11 45]) WO)) (.I [eB 0 70 41,A 1 41 70])
def WV:U:= .E (.bj (F 42) (.skip) (.bI 2)) WN
def Pr:U:= .E (.I [eX 0 42 41 40]) WV
def WU:U:= .E (.E (.I [A 0 39 1,cu 1 40 39,bQ 2 41 0]) (.block 2 (.loop Pr))) (.I [A 0 71 6,A 1 72 7,A 2 73 1,cu 3 74 73,ji 4 75 72 74,A 5 76 9,l5 6 77 76,cL 7 78 1 71 75,cV 8 1 78 77])
def WT:U:= .E (.I [pV 0 9 0]) WU
def WS:U:= .E (.block 1 (.E (.I [A 0 36 34,cL 1 37 1 32 34,aS 2 38 37,A 3 7 36,A 4 8 38]) WT)) (.I [eB 0 79 34,A 1 34 79])
def WR:U:= .E (.bj (F 35) (.skip) (.bI 0)) WS
def Ps:U:= .E (.I [eX 0 35 34 33]) WR
def agE:U:= .E (.I [A 0 80 6,cj 1 81 158 [F 80],dD 2 82 0 81,dD 3 83 1 81,A 4 4 82,A 5 5 83]) (.a7)
def agH:U:= .E (.E (.I [A 0 32 0,cu 1 33 32,bQ 2 34 0]) (.block 0 (.loop Ps))) agE
def agG:U:= .E (.I [A 0 26 0,cu 1 27 26,A 2 28 1,cu 3 29 28,ji 4 30 27 29,vZ 5 31 30 30,A 6 6 31]) agH
def agF:U:= .E (.I [A 0 18 0,A 1 19 0,A 4 22 1,A 5 23 1,cj 2 20 100 [F 19],rh 3 21 18 20,cj 6 24 100 [F 23],rh 7 25 22 24,A 8 0 21,A 9 1 25]) agG
def agD:U:= .E (.E (.I [A 0 12 0,cj 1 13 157 [F 12],A 2 14 13,fi 3 15 14 1,ky 4 16 14 157 15,dL 5 17 14 16]) (.bj (F 17) (.E (.I [fQ 0 4,bQ 1 5 2]) (.a7)) (.skip))) agF
def WM:U:=
  .E (
  .I [
 fQ 0 4,
 bQ 1 5 0]) agD
def avS:dn:=⟨84,[.bA 4,.bA 5],WM⟩
theorem avT:dj Tryz.prog 132=some avS:=by kernel_rfl
theorem apU{args:List Value}{m:B}{az:Value->B->Prop}(h:args.length<=84):bJ Tryz.prog 132 args m az=ch Tryz.prog WM (eu args) m (ey [.bA 4,.bA 5] az):=fD avT h
def agM:U:= .E (.I [bQ 0 4 1]) (.a7)
def KC:U:= .E (.I [A 0 36 0,A 1 37 5,cL 2 38 1 36 37,aS 3 39 38,A 4 40 1,A 5 41 5,cL 6 42 1 40 41,aS 7 43 42,eA 8 44 .gtr (F 39) (F 43)]) (.bj (F 44) (.E (.I [bQ 0 4 1]) (.a7)) (.skip))
def KB:U:= .E (.block 1 (.E (.E (.I [A 0 27 0,A 1 28 5,cL 2 29 1 27 28,aS 3 30 29,A 4 31 1,A 5 32 5,cL 6 33 1 31 32,aS 7 34 33,eX 8 35 30 34]) (.bj (F 35) (.E (.I [bQ 0 4 (-1)]) (.a7)) (.skip))) KC)) (.I [A 0 25 5,lM 1 26 25 1,A 2 5 26])
def Gz:U:= .E (.E (.I [A 0 23 5,sc 1 24 23 0]) (.bj (F 24) (.skip) (.bI 0))) KB
def agO:U:= .E (.I [bQ 0 4 0]) (.a7)
def agN:U:= .E (.E (.I [A 0 20 0,cu 1 21 20,lM 2 22 21 1,A 3 5 22]) (.block 0 (.loop Gz))) agO
def agL:U:= .E (.E (.I [A 0 10 0,cu 1 11 10,A 2 12 1,cu 3 13 12,eA 4 14 .neq (F 11) (F 13)]) (.bj (F 14) (.E (.E (.I [A 0 15 0,cu 1 16 15,A 2 17 1,cu 3 18 17,eX 4 19 16 18]) (.bj (F 19) (.E (.I [bQ 0 4 (-1)]) (.a7)) (.skip))) agM) (.skip))) agN
def agK:U:= .E (.I [A 0 6 0,cj 1 7 106 [F 6],A 2 8 1,cj 3 9 106 [F 8],A 4 0 7,A 5 1 9]) agL
def WX:U:=
  .E (
  .I [
 bQ 0 4 0]) agK
def avW:dn:=⟨45,[.bA 4],WX⟩
theorem avX:dj Tryz.prog 134=some avW:=by kernel_rfl
theorem apW{args:List Value}{m:B}{az:Value->B->Prop}(h:args.length<=45):bJ Tryz.prog 134 args m az=ch Tryz.prog WX (eu args) m (ey [.bA 4] az):=fD avX h
def agS:U:= .E (.I [A 0 20 6,A 1 4 20,bQ 2 5 0]) (.a7)
def agR:U:= .E (.E (.I [A 0 18 6,cj 1 19 161 [F 18]]) (.bj (F 19) (.E (.I [fQ 0 4,bQ 1 5 2]) (.a7)) (.skip))) agS
def agQ:U:= .E (.I [A 0 13 0,cj 1 14 106 [F 13],A 2 15 1,cj 3 16 106 [F 15],gj 4 17 162 14 16,A 5 6 17]) agR
def agP:U:= .E (.E (.I [A 0 7 0,cj 1 8 161 [F 7],A 2 9 8,fi 3 10 9 1,ky 4 11 9 161 10,dL 5 12 9 11]) (.bj (F 12) (.E (.I [fQ 0 4,bQ 1 5 2]) (.a7)) (.skip))) agQ
def WY:U:=
  .E (
  .I [
 fQ 0 4,
 bQ 1 5 0]) agP
def avY:dn:=⟨21,[.bA 4,.bA 5],WY⟩
theorem avZ:dj Tryz.prog 135=some avY:=by kernel_rfl
theorem apX{args:List Value}{m:B}{az:Value->B->Prop}(h:args.length<=21):bJ Tryz.prog 135 args m az=ch Tryz.prog WY (eu args) m (ey [.bA 4,.bA 5] az):=fD avZ h
def agX:U:= .E (.I [A 0 16 0,cj 1 17 106 [F 16],A 2 18 1,cj 3 19 106 [F 18],gj 4 20 164 17 19,A 5 4 20,bQ 6 5 0]) (.a7)
def agW:U:= .E (.E (.I [A 0 12 0,A 1 13 1,gj 2 14 134 12 13,oO 3 15 14 0]) (.bj (F 15) (.E (.I [fQ 0 4,bQ 1 5 4]) (.a7)) (.skip))) agX
def agV:U:= .E (.E (.I [A 0 6 0,cj 1 7 161 [F 6],A 2 8 7,fi 3 9 8 1,ky 4 10 8 161 9,dL 5 11 8 10]) (.bj (F 11) (.E (.I [fQ 0 4,bQ 1 5 2]) (.a7)) (.skip))) agW
def W0:U:=
  .E (
  .I [
 fQ 0 4,
 bQ 1 5 0]) agV
def av2:dn:=⟨21,[.bA 4,.bA 5],W0⟩
theorem av3:dj Tryz.prog 137=some av2:=by kernel_rfl
theorem apZ{args:List Value}{m:B}{az:Value->B->Prop}(h:args.length<=21):bJ Tryz.prog 137 args m az=ch Tryz.prog W0 (eu args) m (ey [.bA 4,.bA 5] az):=fD av3 h
def agY:U:= .E (.I [A 0 3 0,l5 1 4 3,A 2 5 0,sS 3 6 5 32,l5 4 7 6,bP 5 8 (.iT 1 2 [.int .u32 0,.int .u32 0] [(0,1,F 4),(1,1,F 7)]),cj 6 9 106 [F 8],A 7 2 9]) (.a7)
def W1:U:=
  .E (
  .I [
 fQ 0 2]) agY
def av4:dn:=⟨10,[.bA 2],W1⟩
theorem av5:dj Tryz.prog 138=some av4:=by kernel_rfl
theorem ap0{args:List Value}{m:B}{az:Value->B->Prop}(h:args.length<=10):bJ Tryz.prog 138 args m az=ch Tryz.prog W1 (eu args) m (ey [.bA 2] az):=fD av5 h
def Pw:U:= .E (.E (.I [A 0 20 7,cu 1 21 20,qH 2 22 21 0]) (.bj (F 22) (.skip) (.bI 0))) (.block 1 (.E (.I [A 0 24 6,A 1 25 7,gj 2 26 165 24 25,A 3 23 26,dD 4 27 0 23,dD 5 28 1 23,A 6 8 27,A 7 9 28]) (.I [A 0 29 7,A 1 30 9,A 2 6 29,A 3 7 30])))
def aho:U:= .E (.I [A 0 31 6,A 1 4 31,bQ 2 5 0]) (.a7)
def ahn:U:= .E (.block 0 (.loop Pw)) aho
def ahm:U:= .E (.I [A 0 16 0,cj 1 17 106 [F 16],A 2 18 1,cj 3 19 106 [F 18],A 4 6 17,A 5 7 19]) ahn
def ahl:U:= .E (.E (.I [A 0 10 0,cj 1 11 161 [F 10],A 2 12 11,fi 3 13 12 1,ky 4 14 12 161 13,dL 5 15 12 14]) (.bj (F 15) (.E (.I [fQ 0 4,bQ 1 5 2]) (.a7)) (.skip))) ahm
def Xf:U:=
  .E (
  .I [
 fQ 0 4,
 bQ 1 5 0]) ahl
def awf:dn:=⟨32,[.bA 4,.bA 5],Xf⟩
theorem awg:dj Tryz.prog 145=some awf:=by kernel_rfl
theorem ap3{args:List Value}{m:B}{az:Value->B->Prop}(h:args.length<=32):bJ Tryz.prog 145 args m az=ch Tryz.prog Xf (eu args) m (ey [.bA 4,.bA 5] az):=fD awg h
def ahs:U:= .E (.I [A 0 27 7,A 1 28 8,A 2 4 27,A 3 5 28,bQ 4 6 0]) (.a7)
def ahr:U:= .E (.I [A 0 20 0,cj 1 21 106 [F 20],A 2 22 1,cj 3 23 106 [F 22],gj 4 24 165 21 23,A 5 19 24,dD 6 25 0 19,dD 7 26 1 19,A 8 7 25,A 9 8 26]) ahs
def ahq:U:= .E (.E (.I [A 0 15 1,cj 1 16 106 [F 15],cu 2 17 16,kL 3 18 17 0]) (.bj (F 18) (.E (.I [fQ 0 4,fQ 1 5,bQ 2 6 3]) (.a7)) (.skip))) ahr
def ahp:U:= .E (.E (.I [A 0 9 0,cj 1 10 161 [F 9],A 2 11 10,fi 3 12 11 1,ky 4 13 11 161 12,dL 5 14 11 13]) (.bj (F 14) (.E (.I [fQ 0 4,fQ 1 5,bQ 2 6 2]) (.a7)) (.skip))) ahq
def Xg:U:=
  .E (
  .I [
 fQ 0 4,
 fQ 1 5,
 bQ 2 6 0]) ahp
def awh:dn:=⟨29,[.bA 4,.bA 5,.bA 6],Xg⟩
theorem awi:dj Tryz.prog 146=some awh:=by kernel_rfl
theorem ap4{args:List Value}{m:B}{az:Value->B->Prop}(h:args.length<=29):bJ Tryz.prog 146 args m az=ch Tryz.prog Xg (eu args) m (ey [.bA 4,.bA 5,.bA 6] az):=fD awi h
def ahQ:U:= .E (.I [A 0 3 0,cj 1 4 100 [F 3],qH 2 5 4 512,A 3 2 5]) (.a7)
def Xq:U:=
  .E (
  .I [
 dE 0 2 false]) ahQ
def awn:dn:=⟨6,[.bA 2],Xq⟩
theorem awo:dj Tryz.prog 157=some awn:=by kernel_rfl
theorem ap7{args:List Value}{m:B}{az:Value->B->Prop}(h:args.length<=6):bJ Tryz.prog 157 args m az=ch Tryz.prog Xq (eu args) m (ey [.bA 2] az):=fD awo h
def Xt:U:= .E (.I [A 0 9 0,A 1 10 4,A 2 11 4,bP 3 12 (.wq 1 (F 9) none (F 10) (F 11)),A 4 2 12,bQ 5 3 0]) (.a7)
def Xs:U:= .E (.E (.I [A 0 7 4,qH 1 8 7 512]) (.bj (F 8) (.E (.I [fQ 0 2,bQ 1 3 2]) (.a7)) (.skip))) Xt
def Xr:U:= .E (.I [A 0 5 0,cj 1 6 100 [F 5],A 2 4 6]) Xs
def PD:U:=
  .E (
  .I [
 fQ 0 2,
 bQ 1 3 0]) Xr
def awp:dn:=⟨13,[.bA 2,.bA 3],PD⟩
theorem awq:dj Tryz.prog 158=some awp:=by kernel_rfl
theorem ap8{args:List Value}{m:B}{az:Value->B->Prop}(h:args.length<=13):bJ Tryz.prog 158 args m az=ch Tryz.prog PD (eu args) m (ey [.bA 2,.bA 3] az):=fD awq h
def PK:U:= .E (.I [A 0 38 6,A 1 39 7,iK 2 40 39,cj 3 41 34 [F 40],A 4 4 38,A 5 5 41]) (.a7)
def KK:U:= .E (.E (.I [A 0 42 1,A 1 43 1,cu 2 44 43,lM 3 45 44 1,cL 4 46 1 42 45,aS 5 47 46,A 6 48 8,eA 7 49 .shl (F 47) (F 48),eA 8 50 .lss (F 49) (.const (.int .u32 2147483648))]) (.bj (F 50) (.skip) (.bI 0))) (.block 1 (.I [A 0 51 8,eA 1 52 .add (F 51) (.const (.int .u64 1)),A 2 8 52]))
def Ef:U:= .E (.I [A 0 135 18,eA 1 136 .geq (F 135) (.const (.int .u64 4294967296))]) (.bj (F 136) (.bI 4) (.skip))
def Ee:U:= .E (.I [A 0 132 18,A 1 133 13,ji 2 134 132 133,A 3 18 134]) Ef
def z7:U:= .E (.E (.I [A 0 111 17,eA 1 112 .geq (F 111) (.const (.int .u64 4294967296)),A 2 113 112,fi 3 114 113 17,fi 4 115 113 14,dz 5 116 113 false (.gz .mul .hM (F 114) (F 115)),fi 6 117 113 18,dz 7 118 113 false (.gz .shl .hM (F 117) (.const (.int .u64 32))),fi 8 119 113 9,fi 9 120 113 15,fi 10 121 113 11,dz 11 122 113 false (.gz .add .hM (F 120) (F 121)),dz 12 123 113 false (.gz .sub .hM (F 122) (.const (.int .i64 2))),vX 13 124 113 1 119 123,e8 14 125 113 124,dz 15 126 113 false (.xV .u64 (F 125)),dz 16 127 113 false (.gz .or .hM (F 118) (F 126)),dz 17 128 113 false (.gz .gtr .hM (F 116) (F 127)),dL 18 129 113 128]) (.bj (F 129) (.skip) (.bI 4))) (.block 5 (.E (.I [A 0 130 17,eA 1 131 .sub (F 130) (.const (.int .u64 1)),A 2 17 131]) Ee))
def Xx:U:= .E (.E (.I [A 0 137 9,A 1 138 15,A 2 139 15,A 3 140 11,ji 4 141 139 140,eB 5 142 141,bP 6 143 (.pv 1 (F 137) (some (F 138)) (some (F 142))),A 7 144 10,A 8 145 17,cj 9 146 170 [F 143,F 144,F 145]]) (.bj (F 146) (.E (.I [A 0 147 17,eA 1 148 .sub (F 147) (.const (.int .u64 1)),A 2 17 148]) (.I [A 0 149 9,A 1 150 15,A 2 151 15,A 3 152 11,ji 4 153 151 152,eB 5 154 153,bP 6 155 (.pv 1 (F 149) (some (F 150)) (some (F 154))),A 7 156 10,gj 8 157 171 155 156])) (.skip))) (.I [A 0 158 12,A 1 159 15,A 2 160 17,l5 3 161 160,cL 4 162 1 158 159,cV 5 1 162 161])
def Xw:U:= .E (.block 4 (.loop z7)) Xx
def Xv:U:= .E (.I [A 0 105 16,A 1 106 13,eA 2 107 .quo (F 105) (F 106),A 3 108 16,A 4 109 13,eA 5 110 .rem (F 108) (F 109),A 6 17 107,A 7 18 110]) Xw
def Xu:U:= .E (.block 3 (.E (.I [A 0 88 9,A 1 89 15,A 2 90 11,ji 3 91 89 90,cL 4 92 1 88 91,aS 5 93 92,iK 6 94 93,Et 7 95 94,A 8 96 9,A 9 97 15,A 10 98 11,ji 11 99 97 98,lM 12 100 99 1,cL 13 101 1 96 100,aS 14 102 101,iK 15 103 102,eA 16 104 .or (F 95) (F 103),A 17 16 104]) Xv)) (.I [A 0 86 15,lM 1 87 86 1,A 2 15 87])
def KL:U:= .E (.E (.I [A 0 84 15,sc 1 85 84 0]) (.bj (F 85) (.skip) (.bI 2))) Xu
def Xz:U:= .E (.block 7 (.E (.I [A 0 169 167,A 1 20 169]) (.I [A 0 170 19,A 1 171 20,A 2 172 9,A 3 173 20,eB 4 174 173,cL 5 175 1 172 174,aS 6 176 175,iK 7 177 176,Et 8 178 177,A 9 179 9,A 10 180 20,cL 11 181 1 179 180,aS 12 182 181,iK 13 183 182,eA 14 184 .or (F 178) (F 183),A 15 185 8,eA 16 186 .shr (F 184) (F 185),l5 17 187 186,cL 18 188 1 170 171,cV 19 1 188 187]))) (.I [eB 0 189 167,A 1 167 189])
def Xy:U:= .E (.bj (F 168) (.skip) (.bI 6)) Xz
def PS:U:= .E (.I [eX 0 168 167 166]) Xy
def PJ:U:= .E (.I [A 0 190 12,A 1 191 12,A 4 194 19,A 5 195 19,cj 2 192 100 [F 191],rh 3 193 190 192,cj 6 196 100 [F 195],rh 7 197 194 196,A 8 4 193,A 9 5 197]) (.a7)
def PH:U:= .E (.E (.I [A 0 165 19,cu 1 166 165,bQ 2 167 0]) (.block 6 (.loop PS))) PJ
def PG:U:= .E (.I [A 0 163 11,vZ 1 164 163 163,A 2 19 164]) PH
def PF:U:= .E (.E (.I [A 0 81 12,cu 1 82 81,lM 2 83 82 1,A 3 15 83]) (.block 2 (.loop KL))) PG
def PR:U:= .E (.I [A 0 69 10,A 1 70 11,lM 2 71 70 1,cL 3 72 1 69 71,aS 4 73 72,iK 5 74 73,A 6 75 10,A 7 76 11,lM 8 77 76 2,cL 9 78 1 75 77,aS 10 79 78,iK 11 80 79,A 12 13 74,A 13 14 80]) PF
def PQ:U:= .E (.I [A 0 64 9,cu 1 65 64,A 2 66 11,eA 3 67 .sub (F 65) (F 66),vZ 4 68 67 67,A 5 12 68]) PR
def PO:U:= .E (.I [A 0 62 10,cu 1 63 62,A 2 11 63]) PQ
def PN:U:= .E (.I [A 0 53 0,A 1 54 8,A 3 56 1,A 4 57 8,A 6 59 1,cu 7 60 59,gj 2 55 169 53 54,gj 5 58 169 56 57,rh 8 61 58 60,A 9 9 55,A 10 10 61]) PO
def PM:U:= .E (.block 0 (.loop KK)) PN
def PL:U:= .E (.I [pV 0 8 0]) PM
def PI:U:= .E (.E (.I [A 0 27 1,cu 1 28 27,kL 2 29 28 1]) (.bj (F 29) (.E (.I [A 0 31 0,A 1 32 1,Ca 2 33 1 32 0,aS 3 34 33,gj 4 35 168 31 34,A 5 30 35,dD 6 36 0 30,dD 7 37 1 30,A 8 6 36,A 9 7 37]) PK) (.skip))) PL
def PE:U:= .E (.E (.I [A 0 21 0,A 1 22 1,gj 2 23 92 21 22,oO 3 24 23 0]) (.bj (F 24) (.E (.I [A 0 25 0,cj 1 26 131 [F 25],fQ 2 4,A 3 5 26]) (.a7)) (.skip))) PI
def KJ:U:=
  .E (
  .I [
 fQ 0 4,
 fQ 1 5]) PE
def awr:dn:=⟨198,[.bA 4,.bA 5],KJ⟩
theorem aws:dj Tryz.prog 159=some awr:=by kernel_rfl
theorem ap9{args:List Value}{m:B}{az:Value->B->Prop}(h:args.length<=198):bJ Tryz.prog 159 args m az=ch Tryz.prog KJ (eu args) m (ey [.bA 4,.bA 5] az):=fD aws h
def ahU:U:= .E (.I [A 0 20 6,A 1 4 20,bQ 2 5 0]) (.a7)
def ahT:U:= .E (.E (.I [A 0 18 6,cj 1 19 161 [F 18]]) (.bj (F 19) (.E (.I [fQ 0 4,bQ 1 5 2]) (.a7)) (.skip))) ahU
def ahS:U:= .E (.I [A 0 13 0,cj 1 14 106 [F 13],A 2 15 1,cj 3 16 106 [F 15],gj 4 17 172 14 16,A 5 6 17]) ahT
def ahR:U:= .E (.E (.I [A 0 7 0,cj 1 8 161 [F 7],A 2 9 8,fi 3 10 9 1,ky 4 11 9 161 10,dL 5 12 9 11]) (.bj (F 12) (.E (.I [fQ 0 4,bQ 1 5 2]) (.a7)) (.skip))) ahS
def XA:U:=
  .E (
  .I [
 fQ 0 4,
 bQ 1 5 0]) ahR
def awt:dn:=⟨21,[.bA 4,.bA 5],XA⟩
theorem awu:dj Tryz.prog 160=some awt:=by kernel_rfl
theorem aqa{args:List Value}{m:B}{az:Value->B->Prop}(h:args.length<=21):bJ Tryz.prog 160 args m az=ch Tryz.prog XA (eu args) m (ey [.bA 4,.bA 5] az):=fD awu h
def ahV:U:= .E (.I [A 0 3 0,cj 1 4 106 [F 3],cu 2 5 4,qH 3 6 5 512,A 4 2 6]) (.a7)
def XB:U:=
  .E (
  .I [
 dE 0 2 false]) ahV
def awv:dn:=⟨7,[.bA 2],XB⟩
theorem aww:dj Tryz.prog 161=some awv:=by kernel_rfl
theorem aqb{args:List Value}{m:B}{az:Value->B->Prop}(h:args.length<=7):bJ Tryz.prog 161 args m az=ch Tryz.prog XB (eu args) m (ey [.bA 2] az):=fD aww h
def xn:U:= .E (.I [A 0 48 5,A 1 49 8,l5 2 50 49,Hd 3 51 50,kM 4 52 1 4 48 51,A 5 5 52]) (.I [A 0 53 8,sS 1 54 53 32,A 2 6 54])
def xm:U:= .E (.E (.I [A 0 37 7,A 1 38 1,cu 2 39 38,eX 3 40 37 39]) (.bj (F 40) (.I [A 0 41 8,A 1 42 1,A 2 43 7,cL 3 44 1 42 43,aS 4 45 44,iK 5 46 45,ji 6 47 41 46,A 7 8 47]) (.skip))) xn
def xl:U:= .E (.E (.I [A 0 26 7,A 1 27 0,cu 2 28 27,eX 3 29 26 28]) (.bj (F 29) (.I [A 0 30 8,A 1 31 0,A 2 32 7,cL 3 33 1 31 32,aS 4 34 33,iK 5 35 34,ji 6 36 30 35,A 7 8 36]) (.skip))) xm
def xk:U:= .E (.block 1 (.E (.I [A 0 25 6,A 1 8 25]) xl)) (.I [A 0 23 7,eB 1 24 23,A 2 7 24])
def uP:U:= .E (.E (.I [A 0 9 7,A 1 10 0,cu 2 11 10,eX 3 12 9 11,A 4 13 12,fi 5 14 13 7,fi 6 15 13 1,lB 7 16 13 15,dz 8 17 13 false (.gz .lss .hM (F 14) (F 16)),dL 9 18 13 17,A 10 19 18,fi 11 20 19 6,dz 12 21 19 false (.gz .gtr .hM (F 20) (.const (.int .u64 0))),dL 13 22 19 21]) (.bj (F 22) (.skip) (.bI 0))) xk
def ahZ:U:= .E (.I [A 0 55 5,cj 1 56 106 [F 55],A 2 4 56]) (.a7)
def ahY:U:= .E (.E (.I [bQ 0 7 0]) (.block 0 (.loop uP))) ahZ
def ahX:U:= .E (.I [pV 0 6 0]) ahY
def ahW:U:= .E (.I [fQ 0 5]) ahX
def XC:U:=
  .E (
  .I [
 fQ 0 4]) ahW
def awx:dn:=⟨57,[.bA 4],XC⟩
theorem awy:dj Tryz.prog 162=some awx:=by kernel_rfl
theorem aqc{args:List Value}{m:B}{az:Value->B->Prop}(h:args.length<=57):bJ Tryz.prog 162 args m az=ch Tryz.prog XC (eu args) m (ey [.bA 4] az):=fD awy h
def yv:U:= .E (.E (.I [A 0 33 9,A 1 34 8,eX 2 35 33 34]) (.bj (F 35) (.E (.I [A 0 36 9,eA 1 37 .add (F 36) (.const (.int .u64 4294967296)),A 2 9 37]) (.I [pV 0 6 1])) (.skip))) (.I [A 0 38 5,A 1 39 9,A 2 40 8,eA 3 41 .sub (F 39) (F 40),l5 4 42 41,Hd 5 43 42,kM 6 44 1 4 38 43,A 7 5 44])
def yu:U:= .E (.I [pV 0 6 0]) yv
def yt:U:= .E (.I [A 0 28 0,A 1 29 7,cL 2 30 1 28 29,aS 3 31 30,iK 4 32 31,A 5 9 32]) yu
def yr:U:= .E (.E (.I [A 0 17 7,A 1 18 1,cu 2 19 18,eX 3 20 17 19]) (.bj (F 20) (.I [A 0 21 8,A 1 22 1,A 2 23 7,cL 3 24 1 22 23,aS 4 25 24,iK 5 26 25,ji 6 27 21 26,A 7 8 27]) (.skip))) yt
def yq:U:= .E (.block 1 (.E (.I [A 0 16 6,A 1 8 16]) yr)) (.I [A 0 14 7,eB 1 15 14,A 2 7 15])
def vS:U:= .E (.E (.I [A 0 10 7,A 1 11 0,cu 2 12 11,eX 3 13 10 12]) (.bj (F 13) (.skip) (.bI 0))) yq
def ah3:U:= .E (.I [A 0 45 5,cj 1 46 106 [F 45],A 2 4 46]) (.a7)
def ah2:U:= .E (.E (.I [bQ 0 7 0]) (.block 0 (.loop vS))) ah3
def ah1:U:= .E (.I [pV 0 6 0]) ah2
def ah0:U:= .E (.I [fQ 0 5]) ah1
def XE:U:=
  .E (
  .I [
 fQ 0 4]) ah0
def awB:dn:=⟨47,[.bA 4],XE⟩
theorem awC:dj Tryz.prog 164=some awB:=by kernel_rfl
theorem aqe{args:List Value}{m:B}{az:Value->B->Prop}(h:args.length<=47):bJ Tryz.prog 164 args m az=ch Tryz.prog XE (eu args) m (ey [.bA 4] az):=fD awC h
def XH:U:= .E (.I [A 0 47 6,A 1 48 8,A 2 49 9,A 3 50 1,Ca 4 51 1 50 0,aS 5 52 51,iK 6 53 52,eA 7 54 .quo (F 49) (F 53),l5 8 55 54,cL 9 56 1 47 48,cV 10 1 56 55]) (.I [A 0 57 9,A 1 58 1,Ca 2 59 1 58 0,aS 3 60 59,iK 4 61 60,eA 5 62 .rem (F 57) (F 61),A 6 7 62])
def XG:U:= .E (.block 1 (.E (.I [A 0 39 7,Et 1 40 39,A 2 41 0,A 3 42 8,cL 4 43 1 41 42,aS 5 44 43,iK 6 45 44,eA 7 46 .or (F 40) (F 45),A 8 9 46]) XH)) (.I [A 0 37 8,lM 1 38 37 1,A 2 8 38])
def P2:U:= .E (.E (.I [A 0 35 8,sc 1 36 35 0]) (.bj (F 36) (.skip) (.bI 0))) XG
def aid:U:= .E (.I [A 0 63 6,cj 1 64 106 [F 63],A 2 65 7,cj 3 66 138 [F 65],A 4 4 64,A 5 5 66]) (.a7)
def aic:U:= .E (.E (.I [A 0 32 0,cu 1 33 32,lM 2 34 33 1,A 3 8 34]) (.block 0 (.loop P2))) aid
def aib:U:= .E (.I [pV 0 7 0]) aic
def GC:U:= .E (.E (.I [A 0 132 12,A 1 133 17,A 4 136 11,A 5 137 15,A 6 138 15,A 7 139 12,cu 8 140 139,ji 9 141 138 140,eB 10 142 141,bP 11 143 (.pv 1 (F 136) (some (F 137)) (some (F 142))),cj 2 134 138 [F 133],gj 3 135 172 132 134,bP 12 144 (.app 1 4 (.const (.slice none 0 0)) (F 143)),gj 13 145 134 135 144,qH 14 146 145 0]) (.bj (F 146) (.skip) (.bI 4))) (.block 5 (.I [A 0 147 17,eA 1 148 .sub (F 147) (.const (.int .u64 1)),A 2 17 148]))
def P1:U:= .E (.I [A 0 174 19,A 1 175 18,cu 2 176 175,eX 3 177 174 176]) (.bj (F 177) (.I [A 0 178 11,A 1 179 15,A 2 180 19,ji 3 181 179 180,A 4 182 18,A 5 183 19,cL 6 184 1 182 183,aS 7 185 184,cL 8 186 1 178 181,cV 9 1 186 185]) (.skip))
def P0:U:= .E (.block 7 (.E (.I [A 0 169 11,A 1 170 15,A 2 171 19,ji 3 172 170 171,cL 4 173 1 169 172,D1 5 (.store 1 (F 173) (.const (.int .u32 0)))]) P1)) (.I [A 0 167 19,eB 1 168 167,A 2 19 168])
def KM:U:= .E (.E (.I [A 0 163 19,A 1 164 12,cu 2 165 164,eA 3 166 .leq (F 163) (F 165)]) (.bj (F 166) (.skip) (.bI 6))) P0
def PZ:U:= .E (.E (.I [bQ 0 19 0]) (.block 6 (.loop KM))) (.I [A 0 187 14,A 1 188 15,A 2 189 17,l5 3 190 189,cL 4 191 1 187 188,cV 5 1 191 190])
def PY:U:= .E (.I [A 0 149 11,A 1 150 15,A 2 151 15,A 3 152 12,cu 4 153 152,ji 5 154 151 153,eB 6 155 154,bP 7 156 (.pv 1 (F 149) (some (F 150)) (some (F 155))),bP 8 157 (.app 1 4 (.const (.slice none 0 0)) (F 156)),A 9 158 12,A 10 159 17,cj 11 160 138 [F 159],gj 12 161 172 158 160,gj 13 162 164 157 161,A 14 18 162]) PZ
def PX:U:= .E (.block 4 (.loop GC)) PY
def PW:U:= .E (.E (.I [A 0 130 17,eA 1 131 .gtr (F 130) (.const (.int .u64 4294967295))]) (.bj (F 131) (.I [pV 0 17 4294967295]) (.skip))) PX
def PV:U:= .E (.I [A 0 127 16,A 1 128 13,eA 2 129 .quo (F 127) (F 128),A 3 17 129]) PW
def PU:U:= .E (.block 3 (.E (.I [A 0 108 11,A 1 109 15,A 2 110 12,cu 3 111 110,ji 4 112 109 111,cL 5 113 1 108 112,aS 6 114 113,iK 7 115 114,Et 8 116 115,A 9 117 11,A 10 118 15,A 11 119 12,cu 12 120 119,ji 13 121 118 120,lM 14 122 121 1,cL 15 123 1 117 122,aS 16 124 123,iK 17 125 124,eA 18 126 .or (F 116) (F 125),A 19 16 126]) PV)) (.I [A 0 106 15,lM 1 107 106 1,A 2 15 107])
def KN:U:= .E (.E (.I [A 0 104 15,sc 1 105 104 0]) (.bj (F 105) (.skip) (.bI 2))) PU
def aia:U:= .E (.I [A 0 192 14,cj 1 193 106 [F 192],A 2 194 11,cj 3 195 106 [F 194],A 4 196 10,gj 5 197 175 195 196,A 6 4 193,A 7 5 197]) (.a7)
def ah8:U:= .E (.E (.I [A 0 101 14,cu 1 102 101,lM 2 103 102 1,A 3 15 103]) (.block 2 (.loop KN))) aia
def ah7:U:= .E (.I [A 0 95 11,cu 1 96 95,A 2 97 12,cu 3 98 97,eA 4 99 .sub (F 96) (F 98),vZ 5 100 99 99,A 6 14 100]) ah8
def ah6:U:= .E (.I [A 0 88 12,A 1 89 12,cu 2 90 89,lM 3 91 90 1,cL 4 92 1 88 91,aS 5 93 92,iK 6 94 93,A 7 13 94]) ah7
def ah5:U:= .E (.I [A 0 81 11,A 1 82 0,A 2 83 10,gj 3 84 174 82 83,cu 4 85 84,eB 5 86 85,rh 6 87 81 86,A 7 11 87]) ah6
def aif:U:= .E (.I [A 0 73 0,A 1 74 10,gj 2 75 174 73 74,bP 3 76 (.iT 1 2 [.int .u32 0,.int .u32 0] [(0,1,.const (.int .u32 0)),(1,1,.const (.int .u32 0))]),kM 4 77 1 4 75 76,A 5 78 1,A 6 79 10,gj 7 80 174 78 79,A 8 11 77,A 9 12 80]) ah5
def aie:U:= .E (.I [A 0 67 1,cu 1 68 67,eA 2 69 .mul (.const (.int .i64 32)) (F 68),A 3 70 1,cj 4 71 173 [F 70],eA 5 72 .sub (F 69) (F 71),A 6 10 72]) aif
def ah9:U:= .E (.E (.I [A 0 26 1,cu 1 27 26,kL 2 28 27 1]) (.bj (F 28) (.E (.I [A 0 29 0,cu 1 30 29,vZ 2 31 30 30,A 3 6 31]) aib) (.skip))) aie
def ah4:U:= .E (.E (.I [A 0 20 0,A 1 21 1,gj 2 22 134 20 21,oO 3 23 22 0]) (.bj (F 23) (.E (.I [A 0 24 0,cj 1 25 106 [F 24],fQ 2 4,A 3 5 25]) (.a7)) (.skip))) ah9
def XF:U:=
  .E (
  .I [
 fQ 0 4,
 fQ 1 5]) ah4
def awD:dn:=⟨198,[.bA 4,.bA 5],XF⟩
theorem awE:dj Tryz.prog 165=some awD:=by kernel_rfl
theorem aqf{args:List Value}{m:B}{az:Value->B->Prop}(h:args.length<=198):bJ Tryz.prog 165 args m az=ch Tryz.prog XF (eu args) m (ey [.bA 4,.bA 5] az):=fD awE h
def XL:U:= .E (.I [A 0 27 6,A 1 28 8,A 2 29 7,A 3 30 1,iK 4 31 30,eA 5 32 .quo (F 29) (F 31),l5 6 33 32,cL 7 34 1 27 28,cV 8 1 34 33]) (.I [A 0 35 7,A 1 36 1,iK 2 37 36,eA 3 38 .rem (F 35) (F 37),A 4 7 38])
def XK:U:= .E (.block 1 (.E (.I [A 0 19 7,Et 1 20 19,A 2 21 0,A 3 22 8,cL 4 23 1 21 22,aS 5 24 23,iK 6 25 24,eA 7 26 .or (F 20) (F 25),A 8 7 26]) XL)) (.I [A 0 17 8,lM 1 18 17 1,A 2 8 18])
def P3:U:= .E (.E (.I [A 0 15 8,sc 1 16 15 0]) (.bj (F 16) (.skip) (.bI 0))) XK
def ail:U:= .E (.I [A 0 39 6,A 1 40 6,cj 2 41 100 [F 40],rh 3 42 39 41,A 4 43 7,l5 5 44 43,A 6 4 42,A 7 5 44]) (.a7)
def aik:U:= .E (.E (.I [A 0 12 0,cu 1 13 12,lM 2 14 13 1,A 3 8 14]) (.block 0 (.loop P3))) ail
def aij:U:= .E (.I [pV 0 7 0]) aik
def aii:U:= .E (.I [A 0 9 0,cu 1 10 9,vZ 2 11 10 10,A 3 6 11]) aij
def XJ:U:=
  .E (
  .I [
 fQ 0 4,
 bP 1 5 (.pk (.const (.int .u32 0)))]) aii
def awH:dn:=⟨45,[.bA 4,.bA 5],XJ⟩
theorem awI:dj Tryz.prog 168=some awH:=by kernel_rfl
theorem aqh{args:List Value}{m:B}{az:Value->B->Prop}(h:args.length<=45):bJ Tryz.prog 168 args m az=ch Tryz.prog XJ (eu args) m (ey [.bA 4,.bA 5] az):=fD awI h
def XQ:U:= .E (.I [A 0 26 5,A 1 27 7,A 2 28 6,l5 3 29 28,cL 4 30 1 26 27,cV 5 1 30 29]) (.I [A 0 31 6,sS 1 32 31 32,A 2 6 32])
def XP:U:= .E (.I [A 0 20 6,A 1 21 8,iK 2 22 21,A 3 23 1,eA 4 24 .shl (F 22) (F 23),eA 5 25 .or (F 20) (F 24),A 6 6 25]) XQ
def XO:U:= .E (.block 1 (.E (.I [A 0 17 15,cL 1 18 1 13 15,aS 2 19 18,A 3 7 17,A 4 8 19]) XP)) (.I [eB 0 33 15,A 1 15 33])
def XN:U:= .E (.bj (F 16) (.skip) (.bI 0)) XO
def P4:U:= .E (.I [eX 0 16 15 14]) XN
def aiq:U:= .E (.I [A 0 40 5,A 1 4 40]) (.a7)
def aip:U:= .E (.I [A 0 34 5,A 1 35 0,cu 2 36 35,A 3 37 6,l5 4 38 37,cL 5 39 1 34 36,cV 6 1 39 38]) aiq
def aio:U:= .E (.E (.I [A 0 13 0,cu 1 14 13,bQ 2 15 0]) (.block 0 (.loop P4))) aip
def ain:U:= .E (.I [pV 0 6 0]) aio
def aim:U:= .E (.I [A 0 9 0,cu 1 10 9,eB 2 11 10,vZ 3 12 11 11,A 4 5 12]) ain
def XM:U:=
  .E (
  .I [
 fQ 0 4]) aim
def awJ:dn:=⟨41,[.bA 4],XM⟩
theorem awK:dj Tryz.prog 169=some awJ:=by kernel_rfl
theorem aqi{args:List Value}{m:B}{az:Value->B->Prop}(h:args.length<=41):bJ Tryz.prog 169 args m az=ch Tryz.prog XM (eu args) m (ey [.bA 4] az):=fD awK h
def XX:U:= .E (.I [A 0 41 11,sS 1 42 41 63,A 2 8 42]) (.I [A 0 43 7,sS 1 44 43 32,A 2 7 44])
def XW:U:= .E (.I [A 0 36 0,A 1 37 9,A 2 38 11,l5 3 39 38,cL 4 40 1 36 37,cV 5 1 40 39]) XX
def XV:U:= .E (.I [A 0 26 0,A 1 27 9,cL 2 28 1 26 27,aS 3 29 28,iK 4 30 29,A 5 31 7,eA 6 32 .and (F 31) (.const (.int .u64 4294967295)),eA 7 33 .sub (F 30) (F 32),A 8 34 8,eA 9 35 .sub (F 33) (F 34),A 10 11 35]) XW
def XU:U:= .E (.I [A 0 20 7,A 1 21 2,A 2 22 10,iK 3 23 22,eA 4 24 .mul (F 21) (F 23),ji 5 25 20 24,A 6 7 25]) XV
def XT:U:= .E (.block 1 (.E (.I [A 0 17 15,cL 1 18 1 13 15,aS 2 19 18,A 3 9 17,A 4 10 19]) XU)) (.I [eB 0 45 15,A 1 15 45])
def XS:U:= .E (.bj (F 16) (.skip) (.bI 0)) XT
def P5:U:= .E (.I [eX 0 16 15 14]) XS
def ait:U:= .E (.I [A 0 62 12,sS 1 63 62 63,eA 2 64 .eql (F 63) (.const (.int .u64 1)),A 3 6 64]) (.a7)
def ais:U:= .E (.I [A 0 56 0,A 1 57 1,cu 2 58 57,A 3 59 12,l5 4 60 59,cL 5 61 1 56 58,cV 6 1 61 60]) ait
def aiv:U:= .E (.I [A 0 46 0,A 1 47 1,cu 2 48 47,cL 3 49 1 46 48,aS 4 50 49,iK 5 51 50,A 6 52 7,eA 7 53 .sub (F 51) (F 52),A 8 54 8,eA 9 55 .sub (F 53) (F 54),A 10 12 55]) ais
def aiu:U:= .E (.E (.I [A 0 13 1,cu 1 14 13,bQ 2 15 0]) (.block 0 (.loop P5))) aiv
def air:U:= .E (.I [pV 0 7 0,pV 1 8 0]) aiu
def XR:U:=
  .E (
  .I [
 dE 0 6 false]) air
def awL:dn:=⟨65,[.bA 6],XR⟩
theorem awM:dj Tryz.prog 170=some awL:=by kernel_rfl
theorem aqj{args:List Value}{m:B}{az:Value->B->Prop}(h:args.length<=65):bJ Tryz.prog 170 args m az=ch Tryz.prog XR (eu args) m (ey [.bA 6] az):=fD awM h
def X2:U:= .E (.I [A 0 24 0,A 1 25 5,A 2 26 4,l5 3 27 26,cL 4 28 1 24 25,cV 5 1 28 27]) (.I [A 0 29 4,sS 1 30 29 32,A 2 4 30])
def X1:U:= .E (.I [A 0 14 4,A 1 15 0,A 2 16 5,cL 3 17 1 15 16,aS 4 18 17,iK 5 19 18,A 6 20 6,iK 7 21 20,ji 8 22 19 21,ji 9 23 14 22,A 10 4 23]) X2
def X0:U:= .E (.block 1 (.E (.I [A 0 11 9,cL 1 12 1 7 9,aS 2 13 12,A 3 5 11,A 4 6 13]) X1)) (.I [eB 0 31 9,A 1 9 31])
def XZ:U:= .E (.bj (F 10) (.skip) (.bI 0)) X0
def P6:U:= .E (.I [eX 0 10 9 8]) XZ
def aiw:U:= .E (.E (.I [A 0 7 1,cu 1 8 7,bQ 2 9 0]) (.block 0 (.loop P6))) (.I [A 0 32 0,A 1 33 1,cu 2 34 33,cL 3 35 1 32 34,aS 4 36 35,A 5 37 4,l5 6 38 37,ji 7 39 36 38,cL 8 40 1 32 34,cV 9 1 40 39])
def XY:U:=
  .E (
  .I [
 pV 0 4 0]) aiw
def awN:dn:=⟨41,[],XY⟩
theorem awO:dj Tryz.prog 171=some awN:=by kernel_rfl
theorem aqk{args:List Value}{m:B}{az:Value->B->Prop}(h:args.length<=41):bJ Tryz.prog 171 args m az=ch Tryz.prog XY (eu args) m (ey [] az):=fD awO h
def X7:U:= .E (.I [A 0 49 5,A 1 50 6,A 2 51 8,ji 3 52 50 51,A 4 53 9,l5 5 54 53,cL 6 55 1 49 52,cV 7 1 55 54]) (.I [A 0 56 9,sS 1 57 56 32,A 2 7 57])
def X6:U:= .E (.block 3 (.E (.I [A 0 28 0,A 1 29 6,cL 2 30 1 28 29,aS 3 31 30,iK 4 32 31,A 5 33 1,A 6 34 8,cL 7 35 1 33 34,aS 8 36 35,iK 9 37 36,eA 10 38 .mul (F 32) (F 37),A 11 39 5,A 12 40 6,A 13 41 8,ji 14 42 40 41,cL 15 43 1 39 42,aS 16 44 43,iK 17 45 44,ji 18 46 38 45,A 19 47 7,ji 20 48 46 47,A 21 9 48]) X7)) (.I [A 0 26 8,eB 1 27 26,A 2 8 27])
def P7:U:= .E (.E (.I [A 0 22 8,A 1 23 1,cu 2 24 23,eX 3 25 22 24]) (.bj (F 25) (.skip) (.bI 2))) X6
def X5:U:= .E (.E (.I [bQ 0 8 0]) (.block 2 (.loop P7))) (.I [A 0 58 5,A 1 59 6,A 2 60 1,cu 3 61 60,ji 4 62 59 61,A 5 63 7,l5 6 64 63,cL 7 65 1 58 62,cV 8 1 65 64])
def X4:U:= .E (.block 1 (.E (.I [pV 0 7 0]) X5)) (.I [A 0 20 6,eB 1 21 20,A 2 6 21])
def P8:U:= .E (.E (.I [A 0 16 6,A 1 17 0,cu 2 18 17,eX 3 19 16 18]) (.bj (F 19) (.skip) (.bI 0))) X4
def aiz:U:= .E (.I [A 0 66 5,cj 1 67 106 [F 66],A 2 4 67]) (.a7)
def aiy:U:= .E (.E (.I [bQ 0 6 0]) (.block 0 (.loop P8))) aiz
def aix:U:= .E (.I [A 0 10 0,cu 1 11 10,A 2 12 1,cu 3 13 12,ji 4 14 11 13,vZ 5 15 14 14,A 6 5 15]) aiy
def X3:U:=
  .E (
  .I [
 fQ 0 4]) aix
def awP:dn:=⟨68,[.bA 4],X3⟩
theorem awQ:dj Tryz.prog 172=some awP:=by kernel_rfl
theorem aql{args:List Value}{m:B}{az:Value->B->Prop}(h:args.length<=68):bJ Tryz.prog 172 args m az=ch Tryz.prog X3 (eu args) m (ey [.bA 4] az):=fD awQ h
def X9:U:= .E (.block 1 (.I [A 0 24 3,eB 1 25 24,A 2 3 25])) (.I [A 0 22 4,eA 1 23 .quo (F 22) (.const (.int .u32 2)),A 2 4 23])
def P9:U:= .E (.E (.I [A 0 20 4,eA 1 21 .gtr (F 20) (.const (.int .u32 0))]) (.bj (F 21) (.skip) (.bI 0))) X9
def aiE:U:= .E (.I [A 0 26 3,A 1 2 26]) (.a7)
def aiD:U:= .E (.E (.I [A 0 14 0,A 1 15 0,cu 2 16 15,lM 3 17 16 1,cL 4 18 1 14 17,aS 5 19 18,A 6 4 19]) (.block 0 (.loop P9))) aiE
def aiC:U:= .E (.I [A 0 10 0,cu 1 11 10,lM 2 12 11 1,eA 3 13 .mul (.const (.int .i64 32)) (F 12),A 4 3 13]) aiD
def aiB:U:= .E (.E (.I [A 0 7 0,cu 1 8 7,kL 2 9 8 0]) (.bj (F 9) (.E (.I [bQ 0 2 0]) (.a7)) (.skip))) aiC
def aiA:U:= .E (.I [A 0 5 0,cj 1 6 106 [F 5],A 2 0 6]) aiB
def X8:U:=
  .E (
  .I [
 bQ 0 2 0]) aiA
def awR:dn:=⟨27,[.bA 2],X8⟩
theorem awS:dj Tryz.prog 173=some awR:=by kernel_rfl
theorem aqm{args:List Value}{m:B}{az:Value->B->Prop}(h:args.length<=27):bJ Tryz.prog 173 args m az=ch Tryz.prog X8 (eu args) m (ey [.bA 2] az):=fD awS h
def Yb:U:= .E (.I [A 0 32 5,A 1 33 8,l5 2 34 33,Hd 3 35 34,kM 4 36 1 4 32 35,A 5 5 36]) (.I [A 0 37 8,sS 1 38 37 32,A 2 6 38])
def Ya:U:= .E (.block 1 (.E (.I [A 0 21 0,A 1 22 7,cL 2 23 1 21 22,aS 3 24 23,iK 4 25 24,A 5 26 1,eA 6 27 .rem (F 26) (.const (.int .i64 32)),iK 7 28 27,eA 8 29 .shl (F 25) (F 28),A 9 30 6,eA 10 31 .or (F 29) (F 30),A 11 8 31]) Yb)) (.I [A 0 19 7,eB 1 20 19,A 2 7 20])
def Qa:U:= .E (.E (.I [A 0 15 7,A 1 16 0,cu 2 17 16,eX 3 18 15 17]) (.bj (F 18) (.skip) (.bI 0))) Ya
def KS:U:= .E (.I [A 0 39 5,A 1 40 6,l5 2 41 40,Hd 3 42 41,kM 4 43 1 4 39 42,cj 5 44 106 [F 43],A 6 4 44]) (.a7)
def KR:U:= .E (.E (.I [bQ 0 7 0]) (.block 0 (.loop Qa))) KS
def KQ:U:= .E (.I [pV 0 6 0]) KR
def KP:U:= .E (.I [A 0 12 1,eA 1 13 .quo (F 12) (.const (.int .i64 32)),vZ 2 14 13 13,A 3 5 14]) KQ
def KO:U:= .E (.E (.I [A 0 9 0,cu 1 10 9,kL 2 11 10 0]) (.bj (F 11) (.E (.I [fQ 0 4]) (.a7)) (.skip))) KP
def GD:U:=
  .E (
  .I [
 fQ 0 4]) KO
def awT:dn:=⟨45,[.bA 4],GD⟩
theorem awU:dj Tryz.prog 174=some awT:=by kernel_rfl
theorem acV{args:List Value}{m:B}{az:Value->B->Prop}(h:args.length<=45):bJ Tryz.prog 174 args m az=ch Tryz.prog GD (eu args) m (ey [.bA 4] az):=fD awU h
def GG:U:= .E (.E (.I [A 0 26 6,eB 1 27 26,A 2 28 0,cu 3 29 28,eX 4 30 27 29]) (.bj (F 30) (.I [A 0 31 7,A 1 32 0,A 2 33 6,eB 3 34 33,cL 4 35 1 32 34,aS 5 36 35,iK 6 37 36,Et 7 38 37,eA 8 39 .or (F 31) (F 38),A 9 7 39]) (.skip))) (.I [A 0 40 5,A 1 41 7,A 2 42 1,eA 3 43 .rem (F 42) (.const (.int .i64 32)),iK 4 44 43,eA 5 45 .shr (F 41) (F 44),l5 6 46 45,Hd 7 47 46,kM 8 48 1 4 40 47,A 9 5 48])
def GF:U:= .E (.block 1 (.E (.I [A 0 21 0,A 1 22 6,cL 2 23 1 21 22,aS 3 24 23,iK 4 25 24,A 5 7 25]) GG)) (.I [A 0 19 6,eB 1 20 19,A 2 6 20])
def Eg:U:= .E (.E (.I [A 0 15 6,A 1 16 0,cu 2 17 16,eX 3 18 15 17]) (.bj (F 18) (.skip) (.bI 0))) GF
def Yf:U:= .E (.I [A 0 49 5,cj 1 50 106 [F 49],A 2 4 50]) (.a7)
def Ye:U:= .E (.E (.I [A 0 13 1,eA 1 14 .quo (F 13) (.const (.int .i64 32)),A 2 6 14]) (.block 0 (.loop Eg))) Yf
def Yd:U:= .E (.I [fQ 0 5]) Ye
def Yc:U:= .E (.E (.I [A 0 8 1,eA 1 9 .quo (F 8) (.const (.int .i64 32)),A 2 10 0,cu 3 11 10,eA 4 12 .geq (F 9) (F 11)]) (.bj (F 12) (.E (.I [fQ 0 4]) (.a7)) (.skip))) Yd
def Qb:U:=
  .E (
  .I [
 fQ 0 4]) Yc
def awV:dn:=⟨51,[.bA 4],Qb⟩
theorem awW:dj Tryz.prog 175=some awV:=by kernel_rfl
theorem aqn{args:List Value}{m:B}{az:Value->B->Prop}(h:args.length<=51):bJ Tryz.prog 175 args m az=ch Tryz.prog Qb (eu args) m (ey [.bA 4] az):=fD awW h
end Go.Proofs.YtkpifdkccdndcaaGreat
namespace Go.Big
def val:List Int->Int
  |[]=>0
  |x::xs=>x+4294967296*val xs
def aZ:Nat->Int
  |0=>1
  |n+1=>4294967296*aZ n
def dx(l:List Int):Prop:= ∀x∈l,0<=x/\x<4294967296
def cJ:List Int->Nat
  |[]=>0
  |x::xs=>if cJ xs=0 then(if x=0 then 0 else 1)else cJ xs+1
def kS(l:List Int):Prop:=dx l/\cJ l=l.length
theorem k8: ∀n,0<aZ n
  |0=>by simp[aZ]
  |n+1=>by have:=k8 n;simp only[aZ];omega
theorem AH: ∀a b,aZ (a+b)=aZ a*aZ b
  |0,b=>by simp[aZ]
  | a+1,b=>by have:=AH a b;rw[show a+1+b=(a+b)+1 by omega];simp only[aZ,this,Int.mul_assoc]
theorem ub: ∀a b:List Int,val (a++b)=val a+aZ a.length*val b
  |[],b=>by simp[val,aZ]
  | x::a,b=>by have:=ub a b;simp only[List.cons_append,val,this,List.length_cons,aZ];grind
theorem dx.tail{x:Int}{l:List Int}(h:dx (x::l)):dx l:= λy ah=>h y (by simp[ah])
theorem dx.app{a b:List Int}(h:dx a)(ca:dx b):dx (a++b):= λx H=>by
  rcases List.mem_append.1 H with H|H
  · exact h x H
  · exact ca x H
theorem dx.take{l:List Int}(h:dx l)(n:Nat):dx (l.take n):= λx H=>h x (List.mem_of_mem_take H)
theorem dx.drop{l:List Int}(h:dx l)(n:Nat):dx (l.drop n):= λx H=>h x (List.mem_of_mem_drop H)
theorem dx.set{l:List Int}(h:dx l)(i:Nat){y:Int}(ah:0<=y/\y<4294967296):dx (l.set i y):= λx H=>by
  rcases List.mem_or_eq_of_mem_set H with H|rfl
  · exact h x H
  · exact ah
theorem dx.M{l:List Int}(h:dx l){i:Nat}{x:Int}(H:l[i]?=some x):0<=x/\x<4294967296:=h x (List.mem_of_getElem? H)
theorem dx.vm(n:Nat):dx (List.replicate n 0):= λx H=>by rw[List.mem_replicate]at H;omega
theorem Ta: ∀n,val (List.replicate n 0)=0
  |0=>rfl
  |n+1=>by simp[List.replicate_succ,val,Ta n]
theorem il: ∀{l:List Int},dx l->0<=val l/\val l<aZ l.length
  |[],_=>by simp[val,aZ]
  | x::l,h=>by have:=il h.tail;have H:=h x (by simp);simp only[val,List.length_cons,aZ];omega
theorem S9: ∀{l:List Int} {i:Nat} {x:Int} (y:Int),l[i]?=some x->val (l.set i y)=val l+aZ i*(y-x)
  |[],_,_,_,h=>by simp at h
  |O::l,0,x,y,h=>by simp at h;subst h;simp[val,aZ];omega
  | O::l,i+1,x,y,h=>by have:= @S9 l i x y (by simpa using h);simp only[List.set_cons_succ,val,this,aZ];grind
theorem anu{l:List Int}{i:Nat}{x:Int}(h:l[i]?=some x):val (l.take (i+1))=val (l.take i)+aZ i*x:=by have aa:=(List.getElem?_eq_some_iff.1 h).1;rw[List.take_add_one,h,ub];simp[val];rw[Nat.min_eq_left (by omega)]
theorem AY(l:List Int)(i:Nat)(h:i<=l.length):val l=val (l.take i)+aZ i*val (l.drop i):=by have:=ub (l.take i) (l.drop i);rw[List.take_append_drop]at this;rw[this,List.length_take,Nat.min_eq_left h]
theorem arz{l:List Int}{i:Nat}{x:Int}(h:l[i]?=some x):val (l.drop i)=x+4294967296*val (l.drop (i+1)):=by obtain⟨z,rfl⟩:=List.getElem?_eq_some_iff.1 h;rw[List.drop_eq_getElem_cons z];rfl
theorem kN: ∀l,cJ l<=l.length
  |[]=>by simp[cJ]
  |x::l=>by have:=kN l;simp only[cJ,List.length_cons];split<;>(try split)<;>omega
theorem LX: ∀{l:List Int} {i:Nat} {x:Int},cJ l<=i->l[i]?=some x->x=0
  |[],_,_,_,h=>by simp at h
  | O::l,0,x,bB,h=>by
    simp at h;subst h;simp only[cJ]at bB;split at bB
    · split at bB
      · assumption
      · omega
    · omega
  | O::l,i+1,x,bB,h=>by refine@LX l i x ?_ (by simpa using h);simp only[cJ]at bB;split at bB<;>omega
theorem Ht: ∀{l:List Int} {n:Nat} {x:Int},cJ l=n+1->l[n]?=some x->x≠0
  |[],_,_,h,_=>by simp[cJ]at h
  | O::l,0,x,h,H=>by
    simp at H;subst H;simp only[cJ]at h;split at h
    · split at h
      · omega
      · assumption
    · omega
  | O::l,n+1,x,h,H=>by
    simp only[cJ]at h;split at h
    · split at h<;>omega
    · exact@Ht l n x (by omega) (by simpa using H)
theorem azV{l:List Int}{n:Nat}(z: ∀(i:Nat) (x:Int),n<=i->l[i]?=some x->x=0)(D: ∀(x:Int),0<n->l[n-1]?=some x->x≠0)(Z:n<=l.length):cJ l=n:=by
  by_cases h:cJ l<n
  · have aG:n-1<l.length:=(by omega);exact absurd (LX (l:=l) (i:=n-1) (x:=l[n-1]) (by omega) (by simp[aG])) (D _ (by omega) (by simp[aG]))
  · by_cases ca:n<cJ l
    · have aG:=kN l;have yh:cJ l-1<l.length:=(by omega);exact absurd (z (cJ l-1) (l[cJ l-1]) (by omega) (by simp[yh])) (Ht (l:=l) (n:=cJ l-1) (by omega) (by simp[yh]))
    · omega
theorem acb{l:List Int}(h: ∀(i:Nat) (x:Int),l[i]?=some x->x=0):val l=0:=by
  induction l with
  |nil=>rfl
  | cons O l cb=>have bB:=h 0 O rfl;have:=cb (λi x H=>h (i+1) x (by simpa using H));simp[val,bB,this]
theorem HX(l:List Int):val (l.take (cJ l))=val l:=by
  have z:=AY l (cJ l) (kN l);have D:val (l.drop (cJ l))=0:=acb λi x H=>by rw[List.getElem?_drop]at H;exact LX (by omega) H
  rw[z,D];simp
theorem azW(l:List Int):cJ (l.take (cJ l))=cJ l:=by
  refine azV (λi x aa H=> ?_) (λx bB H=> ?_) (by have:=kN l;simp;omega)
  · have:=(List.getElem?_eq_some_iff.1 H).1;simp at this;omega
  · rw[List.getElem?_take,if_pos (by omega)]at H;exact Ht (n:=cJ l-1) (by omega) H
theorem ac0{l:List Int}(h:dx l):kS (l.take (cJ l)):=⟨h.take _,by rw[azW];have:=kN l;simp;omega⟩
theorem kS.nil:kS []:=⟨by simp[dx],rfl⟩
theorem kS.dU{l:List Int}(h:kS l){n:Nat}{x:Int}(ak:l.length=n+1)(H:l[n]?=some x):x≠0:=Ht (by rw[h.2,ak]) H
theorem kS.cZ{l:List Int}(h:kS l){n:Nat}(ak:l.length=n+1):aZ n<=val l:=by obtain⟨x,H⟩: ∃x,l[n]?=some x:=⟨l[n]'(by omega),by simp[ak]⟩;have z:=h.dU ak H;have D:=h.1.M H;have Z:=anu H;rw[List.take_of_length_le (by omega)]at Z;have aw:=il (h.1.take n);have aX:=k8 n;have:aZ n*1<=aZ n*x:=Int.mul_le_mul_of_nonneg_left (by omega) (by omega);omega
theorem amf{a b:Nat}(h:a<=b):aZ a<=aZ b:=by obtain⟨c,rfl⟩: ∃c,b=a+c:=⟨b-a,by omega⟩;rw[AH];have z:=k8 a;have D:=k8 c;have:aZ a*1<=aZ a*aZ c:=Int.mul_le_mul_of_nonneg_left (by omega) (by omega);omega
theorem kS.Hi{a b:List Int}(aE:dx a)(L:kS b)(h:a.length<b.length):val a<val b:=by obtain⟨n,ak⟩: ∃n,b.length=n+1:=⟨b.length-1,by omega⟩;have z:=L.cZ ak;have D:=(il aE).2;have Z:=amf (show a.length<=n by omega);omega
theorem kS.ext: ∀{a b:List Int},kS a->kS b->val a=val b->a=b:=by
  intro a b aE L h;have aG:a.length=b.length:=by
    by_cases z:a.length<b.length
    · have:=kS.Hi aE.1 L z;omega
    · by_cases D:b.length<a.length
      · have:=kS.Hi L.1 aE D;omega
      · omega
  have sU: ∀(a b:List Int),dx a->dx b->a.length=b.length->val a=val b->a=b:=by
    intro a;induction a with
    |nil=>intro b _ _ aG _;simp at aG;exact(List.eq_nil_of_length_eq_zero aG.symm).symm
    | cons x a cb=>
      intro b aE L aG h;cases b with
      |nil=>simp at aG
      | cons y b=>have H:=aE x (by simp);have ah:=L y (by simp);simp only[val]at h;have z:x=y:=(by omega);have D:val a=val b:=(by omega);rw[z,cb b aE.tail L.tail (by simpa using aG) D]
  exact sU a b aE.1 L.1 aG h
theorem kS.zero{l:List Int}(h:kS l):val l=0↔l=[]:=by refine⟨λX=>h.ext .nil X,λaG=>by subst aG;rfl⟩
theorem kS.al6{l:List Int}(h:kS l)(ak:l≠[]):0<val l:=by have z:=(il h.1).1;have D:=mt h.zero.1 ak;omega
section
variable {dU next P e9 iM hr jy nu cr cT g:Int}
theorem asJ(x8:0<P)(r4:0<=e9)(kr:cr=(dU*4294967296+next)*P+e9)(x9:cT=((iM*4294967296+hr)*4294967296+jy)*P+nu)(mF:nu<P)(rZ:0<=g)
    (h:(iM*4294967296+hr-g*dU)*4294967296+jy<g*next):cT<g*cr:=by
  have z:(iM*4294967296+hr)*4294967296+jy+1<=g*(dU*4294967296+next):=by grind
  have D:((iM*4294967296+hr)*4294967296+jy+1)*P<=g*(dU*4294967296+next)*P:=Int.mul_le_mul_of_nonneg_right z (by omega);have Z:0<=g*e9:=Int.mul_nonneg rZ r4;have aw:g*cr=g*(dU*4294967296+next)*P+g*e9:=by subst kr;grind
  have aX:((iM*4294967296+hr)*4294967296+jy+1)*P=((iM*4294967296+hr)*4294967296+jy)*P+P:=by grind
  omega
theorem aeA(x8:0<P)(r4:0<=e9)(OF:e9<P)(kr:cr=(dU*4294967296+next)*P+e9)(x9:cT=((iM*4294967296+hr)*4294967296+jy)*P+nu)(mF:0<=nu)(rZ:0<=g)(aj:g<4294967296)(bH:1<=dU)(ak:0<=next)
    (h:g*next<=(iM*4294967296+hr-g*dU)*4294967296+jy):(g-1)*cr<=cT:=by
  have z:g*(dU*4294967296+next)<=(iM*4294967296+hr)*4294967296+jy:=by grind
  have D:g*(dU*4294967296+next)*P<=((iM*4294967296+hr)*4294967296+jy)*P:=Int.mul_le_mul_of_nonneg_right z (by omega);have Z:g*e9<=4294967296*P:=Int.mul_le_mul (by omega) (by omega) (by omega) (by omega);have aw:g*cr=g*(dU*4294967296+next)*P+g*e9:=by subst kr;grind
  have cC:4294967296*P<=(dU*4294967296+next)*P:=Int.mul_le_mul_of_nonneg_right (by omega) (by omega);have gn:(g-1)*cr=g*cr-cr:=by grind
  omega
end
theorem Df{cT cr q r:Int}(h:cT=q*cr+r)(bB:0<=r)(z:r<cr):cT/cr=q/\cT%cr=r:=by
  have kr:0<cr:=by omega
  constructor
  · rw[h,Int.add_comm,Int.add_mul_ediv_right _ _ (by omega),Int.ediv_eq_zero_of_lt bB z];omega
  · rw[h,Int.add_comm,Int.add_mul_emod_self_right,Int.emod_eq_of_lt bB z]
def ay(l:List Int)(i:Nat):Int:=l.getD i 0
theorem lU{l:List Int}{i:Nat}{x:Int}(h:l[i]?=some x):ay l i=x:=by unfold ay;rw[List.getD_eq_getElem?_getD,h];rfl
theorem rW{l:List Int}{i:Nat}(h:l.length<=i):ay l i=0:=by unfold ay;rw[List.getD_eq_getElem?_getD,List.getElem?_eq_none h];rfl
theorem hX{l:List Int}(h:dx l)(i:Nat):0<=ay l i/\ay l i<4294967296:=by
  by_cases aa:i<l.length
  · rw[lU (List.getElem?_eq_getElem aa)];exact h _ (List.getElem_mem aa)
  · rw[rW (by omega)];omega
theorem o0(l:List Int)(i:Nat):val (l.take (i+1))=val (l.take i)+aZ i*ay l i:=by
  by_cases aa:i<l.length
  · rw[lU (List.getElem?_eq_getElem aa)];exact anu (List.getElem?_eq_getElem aa)
  · rw[rW (by omega),List.take_of_length_le (by omega),List.take_of_length_le (by omega)];simp
theorem y1{o:List Int}{i:Nat}(v:Int)(h:i<o.length):val ((o.set i v).take (i+1))=val (o.take i)+aZ i*v:=by rw[o0,lU (x:=v) (by simp[h])];rw[List.take_set_of_le (Nat.le_refl i)]
theorem rP(l:List Int)(i:Nat):val (l.drop i)=ay l i+4294967296*val (l.drop (i+1)):=by
  by_cases aa:i<l.length
  · rw[lU (List.getElem?_eq_getElem aa)];exact arz (List.getElem?_eq_getElem aa)
  · rw[rW (by omega),List.drop_of_length_le (by omega),List.drop_of_length_le (by omega)];simp[val]
theorem vg{t bu:Int}(ev:0<bu):t%bu+bu*(t/bu)=t:=by have:=Int.emod_add_mul_ediv t bu;omega
theorem TG{o a b:List Int}{i:Nat}{c t:Int}(h:val (o.take i)+c*aZ i=val (a.take i)+val (b.take i))(bH:t=c+ay a i+ay b i)(aa:i<o.length):
    val ((o.set i (t%4294967296)).take (i+1))+(t/4294967296)*aZ (i+1)=val (a.take (i+1))+val (b.take (i+1)):=by
  rw[y1 _ aa,o0 a,o0 b];have:=vg (t:=t) (bu:=4294967296) (by omega);simp only[aZ]
  grind
theorem apa{o a b:List Int}{i:Nat}{c t:Int}(h:val o+c*aZ i=val (a.take i)+val (b.take i))(bH:t=c+ay a i+ay b i)(aa:o.length=i):
    val (o++[t%4294967296])+(t/4294967296)*aZ (i+1)=val (a.take (i+1))+val (b.take (i+1)):=by
  rw[ub,aa,o0 a,o0 b];have:=vg (t:=t) (bu:=4294967296) (by omega);simp only[aZ,val]
  grind
theorem anm{o a b:List Int}{i:Nat}{c t:Int}(h:val (o.take i)-c*aZ i=val (a.take i)-val (b.take i))(bH:t=ay a i-c-ay b i)(aa:i<o.length):
    val ((o.set i (t%4294967296)).take (i+1))-(-(t/4294967296))*aZ (i+1)=val (a.take (i+1))-val (b.take (i+1)):=by
  rw[y1 _ aa,o0 a,o0 b];have:=vg (t:=t) (bu:=4294967296) (by omega);simp only[aZ]
  grind
theorem aC7{o a b:List Int}{i:Nat}{c t:Int}(h:val o-c*aZ i=val (a.take i)-val (b.take i))(bH:t=ay a i-c-ay b i)(aa:o.length=i):
    val (o++[t%4294967296])-(-(t/4294967296))*aZ (i+1)=val (a.take (i+1))-val (b.take (i+1)):=by
  rw[ub,aa,o0 a,o0 b];have:=vg (t:=t) (bu:=4294967296) (by omega);simp only[aZ,val]
  grind
theorem alq{o eN b:List Int}{i j:Nat}{x c t O:Int}(h:val o+c*aZ (i+j)=val eN+aZ i*(x*val (b.take j)))(bY:o[i+j]?=some O)(bH:t=c+x*ay b j+O):
    val (o.set (i+j) (t%4294967296))+(t/4294967296)*aZ (i+(j+1))=val eN+aZ i*(x*val (b.take (j+1))):=by
  rw[S9 _ bY,o0 b];have:=vg (t:=t) (bu:=4294967296) (by omega);rw[show i+(j+1)=(i+j)+1 by omega];simp only[aZ];rw[AH]at*
  grind
theorem am7{q a:List Int}{i:Nat}{d b0 t:Int}(aR:0<d)(h:val (a.drop (i+1))=val (q.drop (i+1))*d+b0)(bH:t=b0*4294967296+ay a i)(aa:i<q.length):
    val (a.drop i)=val ((q.set i (t/d)).drop i)*d+t%d:=by
  rw[rP a i,rP (q.set i (t/d)) i,lU (l:=q.set i (t/d)) (x:=t/d) (by simp[aa])];rw[List.drop_set_of_lt (by omega)];have:=vg (t:=t) (bu:=d) aR
  grind
theorem aDw{o a:List Int}{i:Nat}{G c t:Int}(h:val (o.take i)+c*aZ i=val (a.take i)*G)(bH:t=c+ay a i*G)(aa:i<o.length):
    val ((o.set i (t%4294967296)).take (i+1))+(t/4294967296)*aZ (i+1)=val (a.take (i+1))*G:=by
  rw[y1 _ aa,o0 a];have:=vg (t:=t) (bu:=4294967296) (by omega);simp only[aZ]
  grind
theorem aC9{aJ k9 v:List Int}{i:Nat}{f c b cB d cQ:Int}(h:val (k9.take i)=val (aJ.take i)-f*val (v.take i)+(c+b)*aZ i)(aB:cB=c+f*ay v i)(aR:d=ay aJ i-cB%4294967296-b)(L:d%4294967296=d+4294967296*cQ)(aa:i<k9.length):
    val ((k9.set i (d%4294967296)).take (i+1))=val (aJ.take (i+1))-f*val (v.take (i+1))+(cB/4294967296+cQ)*aZ (i+1):=by
  rw[y1 _ aa,o0 aJ,o0 v];have:=vg (t:=cB) (bu:=4294967296) (by omega);simp only[aZ]
  grind
theorem art{cT cr cX P g k:Int}(kr:0<cr)(x8:cr<=P)(x9:0<=cT)(z:(g-1)*cr<=cT)(D:cT<g*cr)(W:k=0\/k=1)(k6:cX=cT-g*cr+P+cr-k*P)(Z:0<=cX)(aw:cX<P):cX=cT-(g-1)*cr:=by
  have e:(g-1)*cr=g*cr-cr:=by grind
  rcases W with rfl|rfl
  · omega
  · omega
end Go.Big
