/-
  A part of the proof of the statement, in texts that tools of ours (wip/shrink.py, irpack.py, relax.py, minify.py, join.py, lay.py) have shortened.
-/
import Derived.Test.YtkpifdkccdndcaaGreatZag
set_option linter.all false
set_option maxRecDepth 8000
set_option maxHeartbeats 16000000
namespace Go.Proofs.YtkpifdkccdndcaaGreat
open Go Go.DI
def aci:J:= .D (.D (.G [A 0 23 8,eJ 1 24 .neq (I 23) (.const bd)]) (.a8 (I 24) (.D (.G [bV 0 25 (.hg [.bool false,aW,aW] []),A 1 26 8,c9 2 3 2 25,A 3 3 26]) (.aT)) (.skip))) (.G [ct 0 27 3 7,c9 1 3 4 27])
def ach:J:= .D (.G [ct 0 18 3 4,ct 1 19 3 6,gj 2 20 88 18 19,A 3 17 20,dN 4 21 0 17,dN 5 22 1 17,bV 6 7 (.eC [.bool false,aW,aW]),c9 7 3 7 21,A 8 8 22]) aci
def acg:J:= .D (.block 1 (.D (.G [b9 0 15 3 11 13,ct 1 16 3 15,bV 2 6 (.eC [.bool false,aW,aW]),c9 3 3 6 16]) ach)) (.G [dA 0 28 13,A 1 13 28])
def acf:J:= .D (.a8 (I 14) (.skip) (.bw 0)) acg
def Ta:J:= .D (.G [dR 0 14 13 12]) acf
def S9:J:= .D (.G [ct 0 29 3 4,c9 1 3 2 29,b0 2 3 0]) (.aT)
def anr:J:= .D (.D (.G [A 0 11 0,bZ 1 12 11,b0 2 13 0]) (.block 0 (.loop Ta))) S9
def anq:J:= .D (.G [cF 0 9 34 [.const (.int .u64 1)],bV 1 10 (.hg [.bool false,aW,aW] [(2,1,I 9)]),bV 2 4 (.eC [.bool false,aW,aW]),c9 3 3 4 10]) anr
def ace:J:=
  .D (
  .G [
 bV 0 2 (.eC [.bool false,aW,aW]),
 b0 1 3 0]) anq
def aDL:cR:=⟨30,[.h8 2 true 3,.bq 3],ace⟩
theorem aDM:cO Z 25=some aDL:=by kernel_rfl
theorem avE{args:List Value}{m:E}{aI:Value->E->Prop}(h:args.length<=30):bU Z 25 args m aI=cH Z ace (eX args) m (eU [.h8 2 true 3,.bq 3] aI):=fK aDM h
def ant:J:= .D (.G [A 0 9 0,tJ 1 10 9 0,A 2 11 1,tJ 3 12 11 0,bV 4 13 (.gL .neq .bool (I 10) (I 12)),A 5 14 0,cF 6 15 90 [I 14],A 7 16 1,cF 8 17 90 [I 16],cF 9 18 89 [I 13,I 15,I 17],dN 10 19 0 18,dN 11 20 1 18,c9 12 3 4 19,A 13 5 20]) (.aT)
def ans:J:= .D (.D (.G [A 0 6 1,lY 1 7 6 0]) (.a8 (I 7) (.D (.G [bV 0 8 (.hg [.bool false,aW,aW] []),c9 1 3 4 8,b0 2 5 3]) (.aT)) (.skip))) ant
def acj:J:=
  .D (
  .G [
 bV 0 4 (.eC [.bool false,aW,aW]),
 b0 1 5 0]) ans
def aDN:cR:=⟨21,[.h8 4 true 3,.bq 5],acj⟩
theorem aDO:cO Z 26=some aDN:=by kernel_rfl
theorem avF{args:List Value}{m:E}{aI:Value->E->Prop}(h:args.length<=21):bU Z 26 args m aI=cH Z acj (eX args) m (eU [.h8 4 true 3,.bq 5] aI):=fK aDO h
def anw:J:= .D (.G [A 0 53 6,A 1 4 53,b0 2 5 0]) (.aT)
def acm:J:= .D (.block 0 (.D (.G [A 0 43 7,A 1 44 43,gT 2 45 44 8,dd 3 46 44 45,A 4 42 46]) (.a8 (I 42) (.D (.G [A 0 47 6,bV 1 48 (.oU .neg (I 47)),A 2 4 48,b0 3 5 0]) (.aT)) (.D (.G [A 0 50 7,A 1 49 50]) (.a8 (I 49) (.D (.G [b0 0 4 (-1),b0 1 5 0]) (.aT)) (.D (.G [A 0 52 8,A 1 51 52]) (.a8 (I 51) (.D (.G [b0 0 4 1,b0 1 5 0]) (.aT)) (.skip)))))))) anw
def IV:J:= .D (.G [aY 0 28 0 2,aP 1 29 28,A 2 30 29,jM 3 31 30 3 2,aY 7 35 0 3,aP 8 36 35,⟨4,some 32,some (30,true),.gl 94 [I 31],[(I 35,I 35)]⟩,ef 5 33 30 true (.oU .not (I 32)),dd 6 34 30 33,A 9 37 36,jM 10 38 37 3 3,nr 11 39 37 94 38,ef 12 40 37 true (.oU .not (I 39)),dd 13 41 37 40,A 14 7 34,A 15 8 41]) acm
def anv:J:= .D (.G [aY 0 17 1 2,aP 1 18 17,aY 2 19 2 3,aP 3 20 19,aY 5 22 1 3,aP 6 23 22,aY 7 24 2 2,aP 8 25 24,pc 4 21 (.gl 93 [I 18,I 20]) [(I 24,I 24),(I 22,I 22)],gj 9 26 93 23 25,gj 10 27 92 21 26,A 11 6 27]) IV
def anu:J:= .D (.D (.G [ct 0 9 3 2,cF 1 10 91 [I 9],im 2 11 10,A 3 12 11,kH 4 13 12 3 3,kI 5 14 12 91 13,jN 6 15 12 14,dx 7 16 12 15]) (.a8 (I 16) (.D (.G [b0 0 4 0,b0 1 5 1]) (.aT)) (.skip))) anv
def ack:J:=
  .D (
  .G [
 ft 0 2 0,
 ft 1 3 1,
 b0 2 4 0,
 b0 3 5 0]) anu
def aDP:cR:=⟨54,[.bq 4,.bq 5],ack⟩
theorem aDQ:cO Z 27=some aDP:=by kernel_rfl
theorem avG{args:List Value}{m:E}{aI:Value->E->Prop}(h:args.length<=54):bU Z 27 args m aI=cH Z ack (eX args) m (eU [.bq 4,.bq 5] aI):=fK aDQ h
def anB:J:= .D (.G [ct 0 3 3 1,pc 1 4 (.gl 33 [.const bd]) [(I 1,I 1)],gj 2 5 97 3 4,A 3 2 5]) (.aT)
def acr:J:=
  .D (
  .G [
 ft 0 1 0,
 b0 1 2 0]) anB
def aDV:cR:=⟨6,[.bq 2],acr⟩
theorem aDW:cO Z 30=some aDV:=by kernel_rfl
theorem avJ{args:List Value}{m:E}{aI:Value->E->Prop}(h:args.length<=6):bU Z 30 args m aI=cH Z acr (eX args) m (eU [.bq 2] aI):=fK aDW h
def acv:J:= .D (.D (.G [A 0 24 7,eJ 1 25 .neq (I 24) (.const bd)]) (.a8 (I 25) (.D (.G [bV 0 26 (.hg [.bool false,aW,aW] []),A 1 27 7,c9 2 3 2 26,A 3 3 27]) (.aT)) (.skip))) (.G [ct 0 28 3 6,c9 1 3 4 28])
def acu:J:= .D (.block 1 (.D (.G [ct 0 16 3 4,A 1 17 0,A 2 18 5,b9 3 19 3 17 18,ct 4 20 3 19,gj 5 21 98 16 20,A 6 15 21,dN 7 22 0 15,dN 8 23 1 15,bV 9 6 (.eC [.bool false,aW,aW]),c9 10 3 6 22,A 11 7 23]) acv)) (.G [A 0 13 5,dA 1 14 13,A 2 5 14])
def Tl:J:= .D (.D (.G [A 0 9 5,A 1 10 0,bZ 2 11 10,dR 3 12 9 11]) (.a8 (I 12) (.skip) (.bw 0))) acu
def Tk:J:= .D (.G [ct 0 29 3 4,c9 1 3 2 29,b0 2 3 0]) (.aT)
def anD:J:= .D (.D (.G [b0 0 5 0]) (.block 0 (.loop Tl))) Tk
def anC:J:= .D (.G [cF 0 8 33 [.const bd],bV 1 4 (.eC [.bool false,aW,aW]),c9 2 3 4 8]) anD
def acs:J:=
  .D (
  .G [
 bV 0 2 (.eC [.bool false,aW,aW]),
 b0 1 3 0]) anC
def aDX:cR:=⟨30,[.h8 2 true 3,.bq 3],acs⟩
theorem aDY:cO Z 31=some aDX:=by kernel_rfl
theorem avK{args:List Value}{m:E}{aI:Value->E->Prop}(h:args.length<=30):bU Z 31 args m aI=cH Z acs (eX args) m (eU [.h8 2 true 3,.bq 3] aI):=fK aDY h
def anE:J:= .D (.G [ct 0 5 3 2,ct 1 6 3 3,gj 2 7 97 5 6,lY 3 8 7 0,A 4 4 8]) (.aT)
def acw:J:=
  .D (
  .G [
 ft 0 2 0,
 ft 1 3 1,
 ca 2 4 false]) anE
def aDZ:cR:=⟨9,[.bq 4],acw⟩
theorem aD0:cO Z 32=some aDZ:=by kernel_rfl
theorem avL{args:List Value}{m:E}{aI:Value->E->Prop}(h:args.length<=9):bU Z 32 args m aI=cH Z acw (eX args) m (eU [.bq 4] aI):=fK aD0 h
def anG:J:= .D (.G [ct 0 10 3 3,c9 1 3 2 10]) (.aT)
def anF:J:= .D (.G [A 0 6 0,cF 1 7 99 [I 6,.const (.int .i64 1)],A 2 5 7,dN 3 8 0 5,dN 4 9 1 5,bV 5 3 (.eC [.bool false,aW,aW]),c9 6 3 3 8,A 7 4 9]) anG
def acx:J:=
  .D (
  .G [
 bV 0 2 (.eC [.bool false,aW,aW])]) anF
def aD1:cR:=⟨11,[.h8 2 true 3],acx⟩
theorem aD2:cO Z 33=some aD1:=by kernel_rfl
theorem avM{args:List Value}{m:E}{aI:Value->E->Prop}(h:args.length<=11):bU Z 33 args m aI=cH Z acx (eX args) m (eU [.h8 2 true 3] aI):=fK aD2 h
def aok:J:= .D (.G [aY 0 3 2 1,aP 1 4 3,cF 2 5 106 [I 4],bZ 3 6 5,pV 4 7 6 0,A 5 8 7,dk 6 9 8 2 1,dF 7 10 8 9,nr 8 11 8 106 10,pf 9 12 8 11,oh 10 13 8 12 128,dd 11 14 8 13,A 12 15 14,dk 13 16 15 1 1,dF 14 17 15 16,nr 15 18 15 106 17,pf 16 19 15 18,oh 17 20 15 19 128,dd 18 21 15 20,A 19 2 21]) (.aT)
def acP:J:=
  .D (
  .G [
 ft 0 1 0,
 ca 1 2 false]) aok
def aEj:cR:=⟨22,[.bq 2],acP⟩
theorem aEk:cO Z 54=some aEj:=by kernel_rfl
theorem avQ{args:List Value}{m:E}{aI:Value->E->Prop}(h:args.length<=22):bU Z 54 args m aI=cH Z acP (eX args) m (eU [.bq 2] aI):=fK aEk h
def aom:J:= .D (.G [aY 0 8 0 1,aP 1 9 8,aY 2 10 1 1,aP 3 11 10,aY 4 12 2 1,aP 5 13 12,cF 6 14 107 [I 9,I 11,I 13],c9 7 3 2 14,b0 8 3 0]) (.aT)
def aol:J:= .D (.D (.G [ct 0 4 3 1,cF 1 5 54 [I 4],im 2 6 5]) (.a8 (I 6) (.D (.G [bV 0 7 (.hg [.bool false,aW,aW] []),c9 1 3 2 7,b0 2 3 1]) (.aT)) (.skip))) aom
def acQ:J:=
  .D (
  .G [
 ft 0 1 0,
 bV 1 2 (.eC [.bool false,aW,aW]),
 b0 2 3 0]) aol
def aEl:cR:=⟨15,[.h8 2 true 3,.bq 3],acQ⟩
theorem aEm:cO Z 55=some aEl:=by kernel_rfl
theorem avR{args:List Value}{m:E}{aI:Value->E->Prop}(h:args.length<=15):bU Z 55 args m aI=cH Z acQ (eX args) m (eU [.h8 2 true 3,.bq 3] aI):=fK aEm h
def aoX:J:= .D (.G [aY 0 8 0 1,aP 1 9 8,aY 2 10 1 1,aP 3 11 10,aY 4 12 2 1,aP 5 13 12,cF 6 14 89 [I 9,I 11,I 13],dN 7 15 0 14,dN 8 16 1 14,c9 9 3 2 15,A 10 3 16]) (.aT)
def aoW:J:= .D (.D (.G [ct 0 4 3 1,cF 1 5 91 [I 4],im 2 6 5]) (.a8 (I 6) (.D (.G [bV 0 7 (.hg [.bool false,aW,aW] []),c9 1 3 2 7,b0 2 3 1]) (.aT)) (.skip))) aoX
def adz:J:=
  .D (
  .G [
 ft 0 1 0,
 bV 1 2 (.eC [.bool false,aW,aW]),
 b0 2 3 0]) aoW
def aFM:cR:=⟨17,[.h8 2 true 3,.bq 3],adz⟩
theorem aFN:cO Z 86=some aFM:=by kernel_rfl
theorem avS{args:List Value}{m:E}{aI:Value->E->Prop}(h:args.length<=17):bU Z 86 args m aI=cH Z adz (eX args) m (eU [.h8 2 true 3,.bq 3] aI):=fK aFN h
def Uc:J:= .D (.G [aY 0 50 0 2,aP 1 51 50,A 2 52 9,A 3 53 8,cF 4 54 89 [I 51,I 52,I 53],dN 5 55 0 54,dN 6 56 1 54,c9 7 3 4 55,A 8 5 56]) (.aT)
def Ue:J:= .D (.G [aY 0 67 0 2,aP 1 68 67,A 2 69 11,A 3 70 8,cF 4 71 89 [I 68,I 69,I 70],dN 5 72 0 71,dN 6 73 1 71,c9 7 3 4 72,A 8 5 73]) (.aT)
def Ug:J:= .D (.G [aY 0 80 0 3,aP 1 81 80,A 2 82 13,A 3 83 8,cF 4 84 89 [I 81,I 82,I 83],dN 5 85 0 84,dN 6 86 1 84,c9 7 3 4 85,A 8 5 86]) (.aT)
def Uf:J:= .D (.G [A 0 75 7,A 1 76 6,gj 2 77 128 75 76,A 3 74 77,dN 4 78 0 74,dN 5 79 1 74,A 6 13 78,A 7 14 79]) Ug
def Ud:J:= .D (.D (.G [A 0 57 6,A 1 58 7,gj 2 59 92 57 58,zE 3 60 59 0]) (.a8 (I 60) (.D (.G [A 0 62 6,A 1 63 7,gj 2 64 128 62 63,A 3 61 64,dN 4 65 0 61,dN 5 66 1 61,A 6 11 65,A 7 12 66]) Ue) (.skip))) Uf
def Ub:J:= .D (.D (.G [aY 0 39 0 2,aP 1 40 39,aY 2 41 0 3,aP 3 42 41,bV 4 43 (.gL .eql .bool (I 40) (I 42))]) (.a8 (I 43) (.D (.G [A 0 45 6,A 1 46 7,gj 2 47 127 45 46,A 3 44 47,dN 4 48 0 44,dN 5 49 1 44,A 6 9 48,A 7 10 49]) Uc) (.skip))) Ud
def adH:J:= .D (.G [aY 0 24 1 2,aP 1 25 24,aY 2 26 2 3,aP 3 27 26,aY 5 29 1 3,aP 6 30 29,aY 7 31 2 2,aP 8 32 31,aY 10 34 2 2,aP 11 35 34,aY 12 36 2 3,aP 13 37 36,pc 4 28 (.gl 93 [I 25,I 27]) [(I 36,I 36),(I 34,I 34),(I 31,I 31),(I 29,I 29)],pc 9 33 (.gl 93 [I 30,I 32]) [(I 36,I 36),(I 34,I 34)],gj 14 38 93 35 37,A 15 6 28,A 16 7 33,A 17 8 38]) Ub
def aoY:J:= .D (.D (.G [ct 0 15 3 2,cF 1 16 91 [I 15],im 2 17 16,A 3 18 17,kH 4 19 18 3 3,kI 5 20 18 91 19,jN 6 21 18 20,dx 7 22 18 21]) (.a8 (I 22) (.D (.G [bV 0 23 (.hg [.bool false,aW,aW] []),c9 1 3 4 23,b0 2 5 1]) (.aT)) (.skip))) adH
def adG:J:=
  .D (
  .G [
 ft 0 2 0,
 ft 1 3 1,
 bV 2 4 (.eC [.bool false,aW,aW]),
 b0 3 5 0]) aoY
def aFQ:cR:=⟨87,[.h8 4 true 3,.bq 5],adG⟩
theorem aFR:cO Z 88=some aFQ:=by kernel_rfl
theorem avU{args:List Value}{m:E}{aI:Value->E->Prop}(h:args.length<=87):bU Z 88 args m aI=cH Z adG (eX args) m (eU [.h8 4 true 3,.bq 5] aI):=fK aFR h
def ao0:J:= .D (.G [A 0 16 8,cF 1 17 87 [I 16],pV 2 18 17 1]) (.a8 (I 18) (.D (.G [A 0 20 1,A 1 21 8,gj 2 22 130 20 21,A 3 19 22,dN 4 23 0 19,dN 5 24 1 19,dN 6 25 2 19,A 7 1 23]) (.G [A 0 27 2,A 1 28 8,gj 2 29 130 27 28,A 3 26 29,dN 4 30 0 26,dN 5 31 1 26,dN 6 32 2 26,A 7 2 30])) (.skip))
def NU:J:= .D (.G [A 0 42 0,A 1 43 42,gT 2 44 43 1,nr 3 45 43 87 44,N4 4 46 43 45,dd 5 47 43 46,A 6 48 1,cF 7 49 131 [I 48],A 8 50 2,cF 9 51 131 [I 50],bV 10 52 (.hg [.bool false,aW,aW] [(0,1,I 47),(1,1,I 49),(2,1,I 51)]),c9 11 3 6 52,b0 12 7 0]) (.aT)
def Jm:J:= .D (.D (.G [A 0 33 1,cF 1 34 87 [I 33],pV 2 35 34 4096,A 3 36 35,fX 4 37 36 2,kI 5 38 36 87 37,pW 6 39 36 38 4096,dx 7 40 36 39]) (.a8 (I 40) (.D (.G [bV 0 41 (.hg [.bool false,aW,aW] []),c9 1 3 6 41,b0 2 7 2]) (.aT)) (.skip))) NU
def aoZ:J:= .D (.D (.G [A 0 11 1,A 1 12 2,gj 2 13 129 11 12,A 3 10 13,dN 4 14 0 10,dN 5 15 1 10,A 6 8 14,A 7 9 15]) ao0) Jm
def adI:J:=
  .D (
  .G [
 bV 0 6 (.eC [.bool false,aW,aW]),
 b0 1 7 0]) aoZ
def aFS:cR:=⟨53,[.h8 6 true 3,.bq 7],adI⟩
theorem aFT:cO Z 89=some aFS:=by kernel_rfl
theorem avV{args:List Value}{m:E}{aI:Value->E->Prop}(h:args.length<=53):bU Z 89 args m aI=cH Z adI (eX args) m (eU [.h8 6 true 3,.bq 7] aI):=fK aFT h
def ao6:J:= .D (.G [A 0 9 0,iP 1 10 9,cF 2 11 34 [I 10],A 3 2 11]) (.aT)
def ao5:J:= .D (.D (.G [A 0 3 0,tJ 1 4 3 0]) (.a8 (I 4) (.D (.G [A 0 5 0,iP 1 6 5,bV 2 7 (.oU .neg (I 6)),cF 3 8 34 [I 7],A 4 2 8]) (.aT)) (.skip))) ao6
def adJ:J:=
  .D (
  .G [
 fO 0 2]) ao5
def aFW:cR:=⟨12,[.bq 2],adJ⟩
theorem aFX:cO Z 90=some aFW:=by kernel_rfl
theorem avX{args:List Value}{m:E}{aI:Value->E->Prop}(h:args.length<=12):bU Z 90 args m aI=cH Z adJ (eX args) m (eU [.bq 2] aI):=fK aFX h
def Ui:J:= .D (.G [A 0 7 3,pV 1 8 7 0,A 2 9 8,gT 3 10 9 3,oh 4 11 9 10 4096,dd 5 12 9 11,A 6 13 12,dk 7 14 13 1 1,dF 8 15 13 14,nr 9 16 13 87 15,oh 10 17 13 16 4096,dd 11 18 13 17,A 12 2 18]) (.aT)
def Uh:J:= .D (.G [aY 0 4 2 1,aP 1 5 4,cF 2 6 87 [I 5],A 3 3 6]) Ui
def NV:J:=
  .D (
  .G [
 ft 0 1 0,
 ca 1 2 false]) Uh
def aFY:cR:=⟨19,[.bq 2],NV⟩
theorem aFZ:cO Z 91=some aFY:=by kernel_rfl
theorem avY{args:List Value}{m:E}{aI:Value->E->Prop}(h:args.length<=19):bU Z 91 args m aI=cH Z NV (eX args) m (eU [.bq 2] aI):=fK aFZ h
def ao8:J:= .D (.G [A 0 13 5,A 1 4 13]) (.aT)
def ao7:J:= .D (.G [A 0 8 0,A 1 9 1,gj 2 10 132 8 9,A 3 7 10,dN 4 11 0 7,dN 5 12 1 7,A 6 5 11,A 7 6 12]) ao8
def adK:J:=
  .D (
  .G [
 fO 0 4]) ao7
def aF2:cR:=⟨14,[.bq 4],adK⟩
theorem aF3:cO Z 93=some aF2:=by kernel_rfl
theorem av0{args:List Value}{m:E}{aI:Value->E->Prop}(h:args.length<=14):bU Z 93 args m aI=cH Z adK (eX args) m (eU [.bq 4] aI):=fK aF3 h
def ao9:J:= .D (.G [aY 0 3 1 1,aP 1 4 3,cF 2 5 87 [I 4],lY 3 6 5 0,A 4 2 6]) (.aT)
def adL:J:=
  .D (
  .G [
 ft 0 1 0,
 ca 1 2 false]) ao9
def aF4:cR:=⟨7,[.bq 2],adL⟩
theorem aF5:cO Z 94=some aF4:=by kernel_rfl
theorem av1{args:List Value}{m:E}{aI:Value->E->Prop}(h:args.length<=7):bU Z 94 args m aI=cH Z adL (eX args) m (eU [.bq 2] aI):=fK aF5 h
def N0:J:= .D (.G [A 0 50 5,A 1 51 6,gj 2 52 134 50 51,A 3 4 52]) (.aT)
def Jp:J:= .D (.block 0 (.D (.G [A 0 34 7,A 1 35 34,gT 2 36 35 8,ef 3 37 35 true (.oU .not (I 36)),dd 4 38 35 37,A 5 33 38]) (.a8 (I 33) (.D (.G [b0 0 4 (-1)]) (.aT)) (.D (.G [A 0 40 8,A 1 41 40,gT 2 42 41 7,ef 3 43 41 true (.oU .not (I 42)),dd 4 44 41 43,A 5 39 44]) (.a8 (I 39) (.D (.G [b0 0 4 1]) (.aT)) (.D (.G [A 0 46 7,A 1 45 46]) (.a8 (I 45) (.D (.G [A 0 47 6,A 1 48 5,gj 2 49 134 47 48,A 3 4 49]) (.aT)) (.skip)))))))) N0
def Jo:J:= .D (.G [aY 0 19 0 2,aP 1 20 19,A 2 21 20,gT 3 22 21 5,pf 4 23 21 22,N4 5 24 21 23,dd 6 25 21 24,aY 7 26 0 3,aP 8 27 26,A 9 28 27,gT 10 29 28 6,pf 11 30 28 29,N4 12 31 28 30,dd 13 32 28 31,A 14 7 25,A 15 8 32]) Jp
def apc:J:= .D (.G [aY 0 9 1 2,aP 1 10 9,aY 2 11 2 3,aP 3 12 11,aY 5 14 1 3,aP 6 15 14,aY 7 16 2 2,aP 8 17 16,pc 4 13 (.gl 133 [I 10,I 12]) [(I 16,I 16),(I 14,I 14)],gj 9 18 133 15 17,A 10 5 13,A 11 6 18]) Jo
def adO:J:=
  .D (
  .G [
 ft 0 2 0,
 ft 1 3 1,
 b0 2 4 0]) apc
def aGa:cR:=⟨53,[.bq 4],adO⟩
theorem aGb:cO Z 97=some aGa:=by kernel_rfl
theorem av4{args:List Value}{m:E}{aI:Value->E->Prop}(h:args.length<=53):bU Z 97 args m aI=cH Z adO (eX args) m (eU [.bq 4] aI):=fK aGb h
def Ur:J:= .D (.G [aY 0 50 0 2,aP 1 51 50,A 2 52 9,A 3 53 8,cF 4 54 107 [I 51,I 52,I 53],cF 5 55 136 [I 54],dN 6 56 0 55,dN 7 57 1 55,c9 8 3 4 56,A 9 5 57]) (.aT)
def Ut:J:= .D (.G [aY 0 68 0 2,aP 1 69 68,A 2 70 11,A 3 71 8,cF 4 72 107 [I 69,I 70,I 71],cF 5 73 136 [I 72],dN 6 74 0 73,dN 7 75 1 73,c9 8 3 4 74,A 9 5 75]) (.aT)
def Uv:J:= .D (.G [aY 0 82 0 3,aP 1 83 82,A 2 84 13,A 3 85 8,cF 4 86 107 [I 83,I 84,I 85],cF 5 87 136 [I 86],dN 6 88 0 87,dN 7 89 1 87,c9 8 3 4 88,A 9 5 89]) (.aT)
def Uu:J:= .D (.G [A 0 77 7,A 1 78 6,gj 2 79 137 77 78,A 3 76 79,dN 4 80 0 76,dN 5 81 1 76,A 6 13 80,A 7 14 81]) Uv
def Us:J:= .D (.D (.G [A 0 58 6,A 1 59 7,gj 2 60 134 58 59,zE 3 61 60 0]) (.a8 (I 61) (.D (.G [A 0 63 6,A 1 64 7,gj 2 65 137 63 64,A 3 62 65,dN 4 66 0 62,dN 5 67 1 62,A 6 11 66,A 7 12 67]) Ut) (.skip))) Uu
def Uq:J:= .D (.D (.G [aY 0 39 0 2,aP 1 40 39,aY 2 41 0 3,aP 3 42 41,bV 4 43 (.gL .eql .bool (I 40) (I 42))]) (.a8 (I 43) (.D (.G [A 0 45 6,A 1 46 7,gj 2 47 135 45 46,A 3 44 47,dN 4 48 0 44,dN 5 49 1 44,A 6 9 48,A 7 10 49]) Ur) (.skip))) Us
def adQ:J:= .D (.G [aY 0 24 1 2,aP 1 25 24,aY 2 26 2 3,aP 3 27 26,aY 5 29 1 3,aP 6 30 29,aY 7 31 2 2,aP 8 32 31,aY 10 34 2 2,aP 11 35 34,aY 12 36 2 3,aP 13 37 36,pc 4 28 (.gl 133 [I 25,I 27]) [(I 36,I 36),(I 34,I 34),(I 31,I 31),(I 29,I 29)],pc 9 33 (.gl 133 [I 30,I 32]) [(I 36,I 36),(I 34,I 34)],gj 14 38 133 35 37,A 15 6 28,A 16 7 33,A 17 8 38]) Uq
def apd:J:= .D (.D (.G [ct 0 15 3 2,cF 1 16 54 [I 15],im 2 17 16,A 3 18 17,kH 4 19 18 3 3,kI 5 20 18 54 19,jN 6 21 18 20,dx 7 22 18 21]) (.a8 (I 22) (.D (.G [bV 0 23 (.hg [.bool false,aW,aW] []),c9 1 3 4 23,b0 2 5 1]) (.aT)) (.skip))) adQ
def adP:J:=
  .D (
  .G [
 ft 0 2 0,
 ft 1 3 1,
 bV 2 4 (.eC [.bool false,aW,aW]),
 b0 3 5 0]) apd
def aGc:cR:=⟨90,[.h8 4 true 3,.bq 5],adP⟩
theorem aGd:cO Z 98=some aGc:=by kernel_rfl
theorem av5{args:List Value}{m:E}{aI:Value->E->Prop}(h:args.length<=90):bU Z 98 args m aI=cH Z adP (eX args) m (eU [.h8 4 true 3,.bq 5] aI):=fK aGd h
def apf:J:= .D (.G [A 0 9 0,tJ 1 10 9 0,A 2 11 1,tJ 3 12 11 0,bV 4 13 (.gL .neq .bool (I 10) (I 12)),A 5 14 0,cF 6 15 139 [I 14],cF 7 16 138 [I 15],A 8 17 1,cF 9 18 139 [I 17],cF 10 19 138 [I 18],cF 11 20 107 [I 13,I 16,I 19],c9 12 3 4 20,b0 13 5 0]) (.aT)
def ape:J:= .D (.D (.G [A 0 6 1,lY 1 7 6 0]) (.a8 (I 7) (.D (.G [bV 0 8 (.hg [.bool false,aW,aW] []),c9 1 3 4 8,b0 2 5 3]) (.aT)) (.skip))) apf
def adR:J:=
  .D (
  .G [
 bV 0 4 (.eC [.bool false,aW,aW]),
 b0 1 5 0]) ape
def aGe:cR:=⟨21,[.h8 4 true 3,.bq 5],adR⟩
theorem aGf:cO Z 99=some aGe:=by kernel_rfl
theorem av6{args:List Value}{m:E}{aI:Value->E->Prop}(h:args.length<=21):bU Z 99 args m aI=cH Z adR (eX args) m (eU [.h8 4 true 3,.bq 5] aI):=fK aGf h
def Iz:J:= .D (.G [A 0 24 7,bZ 1 25 24,pV 2 26 25 1,A 3 27 26,fX 4 28 27 7,ef 5 29 27 false (.sC 1 (I 28) (.const bd)),dZ 6 30 27 29,ef 7 31 27 false (.gL .gtr .ir (I 30) (.const (.int .u32 1))),dx 8 32 27 31]) (.a8 (I 32) (.D (.G [A 0 34 1,A 1 35 7,gj 2 36 146 34 35,A 3 33 36,dN 4 37 0 33,dN 5 38 1 33,dN 6 39 2 33,A 7 1 37]) (.G [A 0 41 2,A 1 42 7,gj 2 43 146 41 42,A 3 40 43,dN 4 44 0 40,dN 5 45 1 40,dN 6 46 2 40,A 7 2 44])) (.skip))
def MD:J:= .D (.G [A 0 47 0,A 1 48 1,A 2 49 2,bV 3 50 (.hg [.bool false,aW,aW] [(0,1,I 47),(1,1,I 48),(2,1,I 49)]),c9 4 3 6 50]) (.aT)
def Zu:J:= .D (.D (.G [A 0 19 1,A 1 20 2,gj 2 21 145 19 20,A 3 18 21,dN 4 22 0 18,dN 5 23 1 18,A 6 7 22,A 7 8 23]) Iz) MD
def Zt:J:= .D (.D (.G [A 0 13 1,bZ 1 14 13,lY 2 15 14 0]) (.a8 (I 15) (.D (.G [bV 0 16 (.jx 1 1 [.int .u32 0] [(0,1,.const (.int .u32 1))]),bV 1 17 (.hg [.bool false,aW,aW] [(2,1,I 16)]),c9 2 3 6 17]) (.aT)) (.skip))) Zu
def akM:J:= .D (.G [A 0 9 1,cF 1 10 106 [I 9],A 2 11 2,cF 3 12 106 [I 11],A 4 1 10,A 5 2 12]) Zt
def Zs:J:=
  .D (
  .G [
 bV 0 6 (.eC [.bool false,aW,aW])]) akM
def aAG:cR:=⟨51,[.h8 6 true 3],Zs⟩
theorem aAH:cO Z 107=some aAG:=by kernel_rfl
theorem auX{args:List Value}{m:E}{aI:Value->E->Prop}(h:args.length<=51):bU Z 107 args m aI=cH Z Zs (eX args) m (eU [.h8 6 true 3] aI):=fK aAH h
def akN:J:= .D (.G [ct 0 5 3 2,ct 1 6 3 3,gj 2 7 97 5 6,tJ 3 8 7 0,A 4 4 8]) (.aT)
def ZA:J:=
  .D (
  .G [
 ft 0 2 0,
 ft 1 3 1,
 ca 2 4 false]) akN
def aAL:cR:=⟨9,[.bq 4],ZA⟩
theorem aAM:cO Z 110=some aAL:=by kernel_rfl
theorem auY{args:List Value}{m:E}{aI:Value->E->Prop}(h:args.length<=9):bU Z 110 args m aI=cH Z ZA (eX args) m (eU [.bq 4] aI):=fK aAM h
def alc:J:= .D (.G [A 0 13 5,A 1 4 13]) (.aT)
def alb:J:= .D (.G [A 0 8 0,A 1 9 1,gj 2 10 160 8 9,A 3 7 10,dN 4 11 0 7,dN 5 12 1 7,A 6 5 11,A 7 6 12]) alc
def aae:J:=
  .D (
  .G [
 fO 0 4]) alb
def aBV:cR:=⟨14,[.bq 4],aae⟩
theorem aBW:cO Z 133=some aBV:=by kernel_rfl
theorem au7{args:List Value}{m:E}{aI:Value->E->Prop}(h:args.length<=14):bU Z 133 args m aI=cH Z aae (eX args) m (eU [.bq 4] aI):=fK aBW h
def alo:J:= .D (.G [ct 0 7 3 1,c9 1 3 2 7,b0 2 3 0]) (.aT)
def aln:J:= .D (.D (.G [ct 0 4 3 1,cF 1 5 163 [I 4]]) (.a8 (I 5) (.D (.G [bV 0 6 (.hg [.bool false,aW,aW] []),c9 1 3 2 6,b0 2 3 2]) (.aT)) (.skip))) alo
def aah:J:=
  .D (
  .G [
 ft 0 1 0,
 bV 1 2 (.eC [.bool false,aW,aW]),
 b0 2 3 0]) aln
def aB1:cR:=⟨8,[.h8 2 true 3,.bq 3],aah⟩
theorem aB2:cO Z 136=some aB1:=by kernel_rfl
theorem ava{args:List Value}{m:E}{aI:Value->E->Prop}(h:args.length<=8):bU Z 136 args m aI=cH Z aah (eX args) m (eU [.h8 2 true 3,.bq 3] aI):=fK aB2 h
def aal:J:= .D (.G [A 0 10 0,iP 1 11 10,A 2 2 11]) (.aT)
def aak:J:= .D (.D (.G [A 0 3 0,tJ 1 4 3 0]) (.a8 (I 4) (.D (.G [A 0 5 0,dA 1 6 5,bV 2 7 (.oU .neg (I 6)),iP 3 8 7,eJ 4 9 .add (I 8) (.const (.int .u64 1)),A 5 2 9]) (.aT)) (.skip))) aal
def R4:J:=
  .D (
  .G [
 qu 0 2 0]) aak
def aB7:cR:=⟨12,[.bq 2],R4⟩
theorem aB8:cO Z 139=some aB7:=by kernel_rfl
theorem avd{args:List Value}{m:E}{aI:Value->E->Prop}(h:args.length<=12):bU Z 139 args m aI=cH Z R4 (eX args) m (eU [.bq 2] aI):=fK aB8 h
def aaU:J:= .D (.G [aY 0 3 1 1,aP 1 4 3,bZ 2 5 4,pV 3 6 5 128,A 4 7 6,dr 5 8 7 2 1,dZ 6 9 7 8,iq 7 10 7 9,pW 8 11 7 10 128,dx 9 12 7 11,A 10 2 12]) (.aT)
def SA:J:=
  .D (
  .G [
 ft 0 1 0,
 ca 1 2 false]) aaU
def aC7:cR:=⟨13,[.bq 2],SA⟩
theorem aC8:cO Z 163=some aC7:=by kernel_rfl
theorem avp{args:List Value}{m:E}{aI:Value->E->Prop}(h:args.length<=13):bU Z 163 args m aI=cH Z SA (eX args) m (eU [.bq 2] aI):=fK aC8 h
def anI:J:= .D (.G [A 0 10 3,A 1 11 3,cF 2 12 100 [I 11],rV 3 13 10 12,A 4 2 13]) (.aT)
def anH:J:= .D (.G [A 0 4 0,lZ 1 5 4,A 2 6 0,tL 3 7 6 32,lZ 4 8 7,bV 5 9 (.jx 1 2 [.int .u32 0,.int .u32 0] [(0,1,I 5),(1,1,I 8)]),A 6 3 9]) anI
def acy:J:=
  .D (
  .G [
 fO 0 2]) anH
def aD3:cR:=⟨14,[.bq 2],acy⟩
theorem aD4:cO Z 34=some aD3:=by kernel_rfl
theorem avN{args:List Value}{m:E}{aI:Value->E->Prop}(h:args.length<=14):bU Z 34 args m aI=cH Z acy (eX args) m (eU [.bq 2] aI):=fK aD4 h
def adE:J:= .D (.block 1 (.G [A 0 22 4,dA 1 23 22,A 2 4 23])) (.G [A 0 20 5,tL 1 21 20 1,A 2 5 21])
def Ua:J:= .D (.D (.G [A 0 18 5,eJ 1 19 .gtr (I 18) (.const (.int .u32 0))]) (.a8 (I 19) (.skip) (.bw 0))) adE
def adF:J:= .D (.G [A 0 24 4,A 1 2 24]) (.aT)
def adD:J:= .D (.D (.G [A 0 13 0,A 1 14 3,mC 2 15 14 1,b9 3 16 1 13 15,aP 4 17 16,A 5 5 17]) (.block 0 (.loop Ua))) adF
def adC:J:= .D (.G [A 0 10 3,mC 1 11 10 1,eJ 2 12 .mul (I 11) (.const (.int .i64 32)),A 3 4 12]) adD
def adB:J:= .D (.D (.G [A 0 8 3,lY 1 9 8 0]) (.a8 (I 9) (.D (.G [b0 0 2 0]) (.aT)) (.skip))) adC
def adA:J:= .D (.G [A 0 6 0,cF 1 7 100 [I 6],A 2 3 7]) adB
def T9:J:=
  .D (
  .G [
 b0 0 2 0]) adA
def aFO:cR:=⟨25,[.bq 2],T9⟩
theorem aFP:cO Z 87=some aFO:=by kernel_rfl
theorem avT{args:List Value}{m:E}{aI:Value->E->Prop}(h:args.length<=25):bU Z 87 args m aI=cH Z T9 (eX args) m (eU [.bq 2] aI):=fK aFP h
def NX:J:= .D (.block 2 (.block 3 (.D (.G [A 0 27 0,A 1 28 7,b9 2 29 1 27 28,aP 3 30 29,A 4 31 1,A 5 32 7,b9 6 33 1 31 32,aP 7 34 33,dR 8 35 30 34,A 9 26 35]) (.a8 (I 26) (.D (.G [b0 0 4 (-1)]) (.aT)) (.D (.G [A 0 37 0,A 1 38 7,b9 2 39 1 37 38,aP 3 40 39,A 4 41 1,A 5 42 7,b9 6 43 1 41 42,aP 7 44 43,eJ 8 45 .gtr (I 40) (I 44),A 9 36 45]) (.a8 (I 36) (.D (.G [b0 0 4 1]) (.aT)) (.skip))))))) (.G [A 0 24 7,mC 1 25 24 1,A 2 7 25])
def Jn:J:= .D (.D (.G [A 0 22 7,zE 1 23 22 0]) (.a8 (I 23) (.skip) (.bw 1))) NX
def Um:J:= .D (.G [b0 0 4 0]) (.aT)
def Ul:J:= .D (.D (.G [A 0 20 5,mC 1 21 20 1,A 2 7 21]) (.block 1 (.loop Jn))) Um
def Uk:J:= .D (.block 0 (.D (.G [A 0 13 5,A 1 14 6,dR 2 15 13 14,A 3 12 15]) (.a8 (I 12) (.D (.G [b0 0 4 (-1)]) (.aT)) (.D (.G [A 0 17 5,A 1 18 6,eJ 2 19 .gtr (I 17) (I 18),A 3 16 19]) (.a8 (I 16) (.D (.G [b0 0 4 1]) (.aT)) (.skip)))))) Ul
def Uj:J:= .D (.G [A 0 8 0,cF 1 9 100 [I 8],A 2 10 1,cF 3 11 100 [I 10],A 4 5 9,A 5 6 11]) Uk
def NW:J:=
  .D (
  .G [
 b0 0 4 0]) Uj
def aF0:cR:=⟨46,[.bq 4],NW⟩
theorem aF1:cO Z 92=some aF0:=by kernel_rfl
theorem avZ{args:List Value}{m:E}{aI:Value->E->Prop}(h:args.length<=46):bU Z 92 args m aI=cH Z NW (eX args) m (eU [.bq 4] aI):=fK aF1 h
def Mv:J:= .D (.D (.G [A 0 6 3,pV 1 7 6 0,A 2 8 7,gT 3 9 8 0,gT 4 10 8 3,vI 5 11 8 10,wV 6 12 8 1 9 11,dF 7 13 8 12,ef 8 14 8 true (.gL .eql .ir (I 13) (.const (.int .u32 0))),dd 9 15 8 14]) (.a8 (I 15) (.skip) (.bw 0))) (.block 1 (.G [A 0 16 3,mC 1 17 16 1,A 2 3 17]))
def akJ:J:= .D (.G [A 0 18 3,A 1 2 18]) (.aT)
def akI:J:= .D (.block 0 (.loop Mv)) akJ
def akH:J:= .D (.G [A 0 4 0,bZ 1 5 4,A 2 3 5]) akI
def Zn:J:=
  .D (
  .G [
 b0 0 2 0]) akH
def aAv:cR:=⟨19,[.bq 2],Zn⟩
theorem aAw:cO Z 100=some aAv:=by kernel_rfl
theorem auU{args:List Value}{m:E}{aI:Value->E->Prop}(h:args.length<=19):bU Z 100 args m aI=cH Z Zn (eX args) m (eU [.bq 2] aI):=fK aAw h
def MC:J:= .D (.D (.G [A 0 6 3,pV 1 7 6 0,A 2 8 7,gT 3 9 8 0,gT 4 10 8 3,vI 5 11 8 10,wV 6 12 8 1 9 11,dF 7 13 8 12,ef 8 14 8 true (.gL .eql .ir (I 13) (.const (.int .u32 0))),dd 9 15 8 14]) (.a8 (I 15) (.skip) (.bw 0))) (.block 1 (.G [A 0 16 3,mC 1 17 16 1,A 2 3 17]))
def Zr:J:= .D (.G [A 0 18 0,A 1 19 3,rV 2 20 18 19,bV 3 21 (.app 1 4 (.const (aW)) (I 20)),A 4 2 21]) (.aT)
def Zq:J:= .D (.block 0 (.loop MC)) Zr
def Zp:J:= .D (.G [A 0 4 0,bZ 1 5 4,A 2 3 5]) Zq
def Rv:J:=
  .D (
  .G [
 fO 0 2]) Zp
def aAE:cR:=⟨22,[.bq 2],Rv⟩
theorem aAF:cO Z 106=some aAE:=by kernel_rfl
theorem ahR{args:List Value}{m:E}{aI:Value->E->Prop}(h:args.length<=22):bU Z 106 args m aI=cH Z Rv (eX args) m (eU [.bq 2] aI):=fK aAF h
def RS:J:= .D (.G [A 0 57 6,A 1 58 8,A 2 59 7,lZ 3 60 59,b9 4 61 1 57 58,c9 5 1 61 60]) (.G [A 0 62 7,tL 1 63 62 32,A 2 7 63])
def RR:J:= .D (.D (.G [A 0 46 8,A 1 47 1,bZ 2 48 47,dR 3 49 46 48]) (.a8 (I 49) (.G [A 0 50 7,A 1 51 1,A 2 52 8,b9 3 53 1 51 52,aP 4 54 53,iP 5 55 54,jm 6 56 50 55,A 7 7 56]) (.skip))) RS
def RV:J:= .D (.G [A 0 39 7,A 1 40 0,A 2 41 8,b9 3 42 1 40 41,aP 4 43 42,iP 5 44 43,jm 6 45 39 44,A 7 7 45]) RR
def RU:J:= .D (.block 1 (.D (.G [A 0 38 36,A 1 8 38]) RV)) (.G [dA 0 64 36,A 1 36 64])
def RT:J:= .D (.a8 (I 37) (.skip) (.bw 0)) RU
def MQ:J:= .D (.G [dR 0 37 36 35]) RT
def ZV:J:= .D (.G [A 0 71 6,cF 1 72 158 [I 71],dN 2 73 0 72,dN 3 74 1 72,A 4 4 73,A 5 5 74]) (.aT)
def ZU:J:= .D (.G [A 0 65 6,A 1 66 0,bZ 2 67 66,A 3 68 7,lZ 4 69 68,b9 5 70 1 65 67,c9 6 1 70 69]) ZV
def Z0:J:= .D (.D (.G [A 0 34 0,bZ 1 35 34,b0 2 36 0]) (.block 0 (.loop MQ))) ZU
def ZZ:J:= .D (.G [qu 0 7 0]) Z0
def ZY:J:= .D (.G [A 0 30 0,bZ 1 31 30,dA 2 32 31,wY 3 33 32 32,A 4 6 33]) ZZ
def ZX:J:= .D (.D (.G [A 0 23 0,bZ 1 24 23,A 2 25 1,bZ 3 26 25,dR 4 27 24 26]) (.a8 (I 27) (.G [A 0 28 1,A 1 29 0,A 2 0 28,A 3 1 29]) (.skip))) ZY
def ZW:J:= .D (.G [A 0 15 0,A 1 16 0,A 4 19 1,A 5 20 1,cF 2 17 100 [I 16],rV 3 18 15 17,cF 6 21 100 [I 20],rV 7 22 19 21,A 8 0 18,A 9 1 22]) ZX
def ZT:J:= .D (.D (.G [A 0 9 0,cF 1 10 157 [I 9],A 2 11 10,fX 3 12 11 1,kI 4 13 11 157 12,dx 5 14 11 13]) (.a8 (I 14) (.D (.G [fO 0 4,b0 1 5 2]) (.aT)) (.skip))) ZW
def RQ:J:=
  .D (
  .G [
 fO 0 4,
 b0 1 5 0]) ZT
def aBJ:cR:=⟨75,[.bq 4,.bq 5],RQ⟩
theorem aBK:cO Z 127=some aBJ:=by kernel_rfl
theorem au1{args:List Value}{m:E}{aI:Value->E->Prop}(h:args.length<=75):bU Z 127 args m aI=cH Z RQ (eX args) m (eU [.bq 4,.bq 5] aI):=fK aBK h
def RW:J:= .D (.G [A 0 56 6,A 1 57 8,A 2 58 9,lZ 3 59 58,b9 4 60 1 56 57,c9 5 1 60 59]) (.G [A 0 61 9,tL 1 62 61 63,A 2 7 62])
def R0:J:= .D (.D (.G [A 0 45 8,A 1 46 1,bZ 2 47 46,dR 3 48 45 47]) (.a8 (I 48) (.G [A 0 49 9,A 1 50 1,A 2 51 8,b9 3 52 1 50 51,aP 4 53 52,iP 5 54 53,eJ 6 55 .sub (I 49) (I 54),A 7 9 55]) (.skip))) RW
def RZ:J:= .D (.G [A 0 38 0,A 1 39 8,b9 2 40 1 38 39,aP 3 41 40,iP 4 42 41,A 5 43 7,eJ 6 44 .sub (I 42) (I 43),A 7 9 44]) R0
def RY:J:= .D (.block 2 (.D (.G [A 0 37 35,A 1 8 37]) RZ)) (.G [dA 0 63 35,A 1 35 63])
def RX:J:= .D (.a8 (I 36) (.skip) (.bw 1)) RY
def MR:J:= .D (.G [dR 0 36 35 34]) RX
def akT:J:= .D (.G [A 0 64 6,cF 1 65 158 [I 64],dN 2 66 0 65,dN 3 67 1 65,A 4 4 66,A 5 5 67]) (.aT)
def akX:J:= .D (.D (.G [A 0 33 0,bZ 1 34 33,b0 2 35 0]) (.block 1 (.loop MR))) akT
def akW:J:= .D (.G [qu 0 7 0]) akX
def akV:J:= .D (.G [A 0 30 0,bZ 1 31 30,wY 2 32 31 31,A 3 6 32]) akW
def akU:J:= .D (.G [A 0 22 0,A 1 23 0,A 4 26 1,A 5 27 1,cF 2 24 100 [I 23],rV 3 25 22 24,cF 6 28 100 [I 27],rV 7 29 26 28,A 8 0 25,A 9 1 29]) akV
def akS:J:= .D (.block 0 (.D (.G [A 0 11 0,cF 1 12 157 [I 11],A 2 13 12,fX 3 14 13 1,kI 4 15 13 157 14,dx 5 16 13 15,A 6 10 16]) (.a8 (I 10) (.D (.G [fO 0 4,b0 1 5 2]) (.aT)) (.D (.G [A 0 18 0,A 1 19 1,gj 2 20 92 18 19,tJ 3 21 20 0,A 4 17 21]) (.a8 (I 17) (.D (.G [fO 0 4,b0 1 5 4]) (.aT)) (.skip)))))) akU
def Z1:J:=
  .D (
  .G [
 fO 0 4,
 b0 1 5 0]) akS
def aBL:cR:=⟨68,[.bq 4,.bq 5],Z1⟩
theorem aBM:cO Z 128=some aBL:=by kernel_rfl
theorem au2{args:List Value}{m:E}{aI:Value->E->Prop}(h:args.length<=68):bU Z 128 args m aI=cH Z Z1 (eX args) m (eU [.bq 4,.bq 5] aI):=fK aBM h
def R1:J:= .D (.D (.G [A 0 18 1,bZ 1 19 18,pV 2 20 19 0]) (.a8 (I 20) (.skip) (.bw 0))) (.block 1 (.D (.G [A 0 22 0,A 1 23 1,gj 2 24 159 22 23,A 3 21 24,dN 4 25 0 21,dN 5 26 1 21,A 6 6 25,A 7 7 26]) (.G [A 0 27 1,A 1 28 7,A 2 0 27,A 3 1 28])))
def ak1:J:= .D (.G [A 0 29 0,A 1 4 29,b0 2 5 0]) (.aT)
def ak0:J:= .D (.block 0 (.loop R1)) ak1
def akZ:J:= .D (.G [A 0 14 0,cF 1 15 131 [I 14],A 2 16 1,cF 3 17 131 [I 16],A 4 0 15,A 5 1 17]) ak0
def akY:J:= .D (.D (.G [A 0 8 0,cF 1 9 157 [I 8],A 2 10 9,fX 3 11 10 1,kI 4 12 10 157 11,dx 5 13 10 12]) (.a8 (I 13) (.D (.G [fO 0 4,b0 1 5 2]) (.aT)) (.skip))) akZ
def Z2:J:=
  .D (
  .G [
 fO 0 4,
 b0 1 5 0]) akY
def aBN:cR:=⟨30,[.bq 4,.bq 5],Z2⟩
theorem aBO:cO Z 129=some aBN:=by kernel_rfl
theorem au3{args:List Value}{m:E}{aI:Value->E->Prop}(h:args.length<=30):bU Z 129 args m aI=cH Z Z2 (eX args) m (eU [.bq 4,.bq 5] aI):=fK aBO h
def ak4:J:= .D (.G [A 0 32 7,A 1 33 8,A 2 4 32,A 3 5 33,b0 4 6 0]) (.aT)
def ak3:J:= .D (.G [A 0 21 0,A 1 22 0,A 4 25 1,A 5 26 1,cF 2 23 100 [I 22],rV 3 24 21 23,cF 6 27 100 [I 26],rV 7 28 25 27,gj 8 29 159 24 28,A 9 20 29,dN 10 30 0 20,dN 11 31 1 20,A 12 7 30,A 13 8 31]) ak4
def ak2:J:= .D (.block 0 (.D (.G [A 0 10 0,cF 1 11 157 [I 10],A 2 12 11,fX 3 13 12 1,kI 4 14 12 157 13,dx 5 15 12 14,A 6 9 15]) (.a8 (I 9) (.D (.G [fO 0 4,fO 1 5,b0 2 6 2]) (.aT)) (.D (.G [A 0 17 1,cF 1 18 100 [I 17],lY 2 19 18 0,A 3 16 19]) (.a8 (I 16) (.D (.G [fO 0 4,fO 1 5,b0 2 6 3]) (.aT)) (.skip)))))) ak3
def Z3:J:=
  .D (
  .G [
 fO 0 4,
 fO 1 5,
 b0 2 6 0]) ak2
def aBP:cR:=⟨34,[.bq 4,.bq 5,.bq 6],Z3⟩
theorem aBQ:cO Z 130=some aBP:=by kernel_rfl
theorem au4{args:List Value}{m:E}{aI:Value->E->Prop}(h:args.length<=34):bU Z 130 args m aI=cH Z Z3 (eX args) m (eU [.bq 4,.bq 5,.bq 6] aI):=fK aBQ h
def ak5:J:= .D (.G [A 0 3 0,A 1 4 0,cF 2 5 100 [I 4],rV 3 6 3 5,bV 4 7 (.app 1 4 (.const (aW)) (I 6)),A 5 2 7]) (.aT)
def Z4:J:=
  .D (
  .G [
 fO 0 2]) ak5
def aBR:cR:=⟨8,[.bq 2],Z4⟩
theorem aBS:cO Z 131=some aBR:=by kernel_rfl
theorem au5{args:List Value}{m:E}{aI:Value->E->Prop}(h:args.length<=8):bU Z 131 args m aI=cH Z Z4 (eX args) m (eU [.bq 2] aI):=fK aBS h
def Z8:J:= .D (.G [A 0 61 6,A 1 62 7,A 2 63 10,jm 3 64 62 63,A 4 65 9,lZ 5 66 65,b9 6 67 1 61 64,c9 7 1 67 66]) (.G [A 0 68 9,tL 1 69 68 32,A 2 9 69])
def Z7:J:= .D (.G [A 0 46 9,A 1 47 8,iP 2 48 47,A 3 49 11,iP 4 50 49,eJ 5 51 .mul (I 48) (I 50),A 6 52 6,A 7 53 7,A 8 54 10,jm 9 55 53 54,b9 10 56 1 52 55,aP 11 57 56,iP 12 58 57,jm 13 59 51 58,jm 14 60 46 59,A 15 9 60]) Z8
def Z6:J:= .D (.block 3 (.D (.G [A 0 43 41,b9 1 44 1 39 41,aP 2 45 44,A 3 10 43,A 4 11 45]) Z7)) (.G [dA 0 70 41,A 1 41 70])
def aad:J:= .D (.a8 (I 42) (.skip) (.bw 2)) Z6
def R2:J:= .D (.G [dR 0 42 41 40]) aad
def aac:J:= .D (.D (.G [A 0 39 1,bZ 1 40 39,b0 2 41 0]) (.block 2 (.loop R2))) (.G [A 0 71 6,A 1 72 7,A 2 73 1,bZ 3 74 73,jm 4 75 72 74,A 5 76 9,lZ 6 77 76,b9 7 78 1 71 75,c9 8 1 78 77])
def aab:J:= .D (.G [qu 0 9 0]) aac
def aaa:J:= .D (.block 1 (.D (.G [A 0 36 34,b9 1 37 1 32 34,aP 2 38 37,A 3 7 36,A 4 8 38]) aab)) (.G [dA 0 79 34,A 1 34 79])
def Z9:J:= .D (.a8 (I 35) (.skip) (.bw 0)) aaa
def R3:J:= .D (.G [dR 0 35 34 33]) Z9
def ak7:J:= .D (.G [A 0 80 6,cF 1 81 158 [I 80],dN 2 82 0 81,dN 3 83 1 81,A 4 4 82,A 5 5 83]) (.aT)
def ala:J:= .D (.D (.G [A 0 32 0,bZ 1 33 32,b0 2 34 0]) (.block 0 (.loop R3))) ak7
def ak9:J:= .D (.G [A 0 26 0,bZ 1 27 26,A 2 28 1,bZ 3 29 28,jm 4 30 27 29,wY 5 31 30 30,A 6 6 31]) ala
def ak8:J:= .D (.G [A 0 18 0,A 1 19 0,A 4 22 1,A 5 23 1,cF 2 20 100 [I 19],rV 3 21 18 20,cF 6 24 100 [I 23],rV 7 25 22 24,A 8 0 21,A 9 1 25]) ak9
def ak6:J:= .D (.D (.G [A 0 12 0,cF 1 13 157 [I 12],A 2 14 13,fX 3 15 14 1,kI 4 16 14 157 15,dx 5 17 14 16]) (.a8 (I 17) (.D (.G [fO 0 4,b0 1 5 2]) (.aT)) (.skip))) ak8
def Z5:J:=
  .D (
  .G [
 fO 0 4,
 b0 1 5 0]) ak6
def aBT:cR:=⟨84,[.bq 4,.bq 5],Z5⟩
theorem aBU:cO Z 132=some aBT:=by kernel_rfl
theorem au6{args:List Value}{m:E}{aI:Value->E->Prop}(h:args.length<=84):bU Z 132 args m aI=cH Z Z5 (eX args) m (eU [.bq 4,.bq 5] aI):=fK aBU h
def alf:J:= .D (.G [b0 0 4 1]) (.aT)
def MT:J:= .D (.G [A 0 36 0,A 1 37 5,b9 2 38 1 36 37,aP 3 39 38,A 4 40 1,A 5 41 5,b9 6 42 1 40 41,aP 7 43 42,eJ 8 44 .gtr (I 39) (I 43)]) (.a8 (I 44) (.D (.G [b0 0 4 1]) (.aT)) (.skip))
def MS:J:= .D (.block 1 (.D (.D (.G [A 0 27 0,A 1 28 5,b9 2 29 1 27 28,aP 3 30 29,A 4 31 1,A 5 32 5,b9 6 33 1 31 32,aP 7 34 33,dR 8 35 30 34]) (.a8 (I 35) (.D (.G [b0 0 4 (-1)]) (.aT)) (.skip))) MT)) (.G [A 0 25 5,mC 1 26 25 1,A 2 5 26])
def IF:J:= .D (.D (.G [A 0 23 5,zE 1 24 23 0]) (.a8 (I 24) (.skip) (.bw 0))) MS
def alh:J:= .D (.G [b0 0 4 0]) (.aT)
def alg:J:= .D (.D (.G [A 0 20 0,bZ 1 21 20,mC 2 22 21 1,A 3 5 22]) (.block 0 (.loop IF))) alh
def ale:J:= .D (.D (.G [A 0 10 0,bZ 1 11 10,A 2 12 1,bZ 3 13 12,kJ 4 14 11 13]) (.a8 (I 14) (.D (.D (.G [A 0 15 0,bZ 1 16 15,A 2 17 1,bZ 3 18 17,dR 4 19 16 18]) (.a8 (I 19) (.D (.G [b0 0 4 (-1)]) (.aT)) (.skip))) alf) (.skip))) alg
def ald:J:= .D (.G [A 0 6 0,cF 1 7 106 [I 6],A 2 8 1,cF 3 9 106 [I 8],A 4 0 7,A 5 1 9]) ale
def aaf:J:=
  .D (
  .G [
 b0 0 4 0]) ald
def aBX:cR:=⟨45,[.bq 4],aaf⟩
theorem aBY:cO Z 134=some aBX:=by kernel_rfl
theorem au8{args:List Value}{m:E}{aI:Value->E->Prop}(h:args.length<=45):bU Z 134 args m aI=cH Z aaf (eX args) m (eU [.bq 4] aI):=fK aBY h
def alm:J:= .D (.G [A 0 20 6,A 1 4 20,b0 2 5 0]) (.aT)
def alk:J:= .D (.D (.G [A 0 18 6,cF 1 19 161 [I 18]]) (.a8 (I 19) (.D (.G [fO 0 4,b0 1 5 2]) (.aT)) (.skip))) alm
def alj:J:= .D (.G [A 0 13 0,cF 1 14 106 [I 13],A 2 15 1,cF 3 16 106 [I 15],gj 4 17 162 14 16,A 5 6 17]) alk
def ali:J:= .D (.D (.G [A 0 7 0,cF 1 8 161 [I 7],A 2 9 8,fX 3 10 9 1,kI 4 11 9 161 10,dx 5 12 9 11]) (.a8 (I 12) (.D (.G [fO 0 4,b0 1 5 2]) (.aT)) (.skip))) alj
def aag:J:=
  .D (
  .G [
 fO 0 4,
 b0 1 5 0]) ali
def aBZ:cR:=⟨21,[.bq 4,.bq 5],aag⟩
theorem aB0:cO Z 135=some aBZ:=by kernel_rfl
theorem au9{args:List Value}{m:E}{aI:Value->E->Prop}(h:args.length<=21):bU Z 135 args m aI=cH Z aag (eX args) m (eU [.bq 4,.bq 5] aI):=fK aB0 h
def alr:J:= .D (.G [A 0 16 0,cF 1 17 106 [I 16],A 2 18 1,cF 3 19 106 [I 18],gj 4 20 164 17 19,A 5 4 20,b0 6 5 0]) (.aT)
def alq:J:= .D (.D (.G [A 0 12 0,A 1 13 1,gj 2 14 134 12 13,tJ 3 15 14 0]) (.a8 (I 15) (.D (.G [fO 0 4,b0 1 5 4]) (.aT)) (.skip))) alr
def alp:J:= .D (.D (.G [A 0 6 0,cF 1 7 161 [I 6],A 2 8 7,fX 3 9 8 1,kI 4 10 8 161 9,dx 5 11 8 10]) (.a8 (I 11) (.D (.G [fO 0 4,b0 1 5 2]) (.aT)) (.skip))) alq
def aai:J:=
  .D (
  .G [
 fO 0 4,
 b0 1 5 0]) alp
def aB3:cR:=⟨21,[.bq 4,.bq 5],aai⟩
theorem aB4:cO Z 137=some aB3:=by kernel_rfl
theorem avb{args:List Value}{m:E}{aI:Value->E->Prop}(h:args.length<=21):bU Z 137 args m aI=cH Z aai (eX args) m (eU [.bq 4,.bq 5] aI):=fK aB4 h
def als:J:= .D (.G [A 0 3 0,lZ 1 4 3,A 2 5 0,tL 3 6 5 32,lZ 4 7 6,bV 5 8 (.jx 1 2 [.int .u32 0,.int .u32 0] [(0,1,I 4),(1,1,I 7)]),cF 6 9 106 [I 8],A 7 2 9]) (.aT)
def aaj:J:=
  .D (
  .G [
 fO 0 2]) als
def aB5:cR:=⟨10,[.bq 2],aaj⟩
theorem aB6:cO Z 138=some aB5:=by kernel_rfl
theorem avc{args:List Value}{m:E}{aI:Value->E->Prop}(h:args.length<=10):bU Z 138 args m aI=cH Z aaj (eX args) m (eU [.bq 2] aI):=fK aB6 h
def Sa:J:= .D (.D (.G [A 0 20 7,bZ 1 21 20,pV 2 22 21 0]) (.a8 (I 22) (.skip) (.bw 0))) (.block 1 (.D (.G [A 0 24 6,A 1 25 7,gj 2 26 165 24 25,A 3 23 26,dN 4 27 0 23,dN 5 28 1 23,A 6 8 27,A 7 9 28]) (.G [A 0 29 7,A 1 30 9,A 2 6 29,A 3 7 30])))
def alI:J:= .D (.G [A 0 31 6,A 1 4 31,b0 2 5 0]) (.aT)
def alH:J:= .D (.block 0 (.loop Sa)) alI
def alG:J:= .D (.G [A 0 16 0,cF 1 17 106 [I 16],A 2 18 1,cF 3 19 106 [I 18],A 4 6 17,A 5 7 19]) alH
def alF:J:= .D (.D (.G [A 0 10 0,cF 1 11 161 [I 10],A 2 12 11,fX 3 13 12 1,kI 4 14 12 161 13,dx 5 15 12 14]) (.a8 (I 15) (.D (.G [fO 0 4,b0 1 5 2]) (.aT)) (.skip))) alG
def aav:J:=
  .D (
  .G [
 fO 0 4,
 b0 1 5 0]) alF
def aCg:cR:=⟨32,[.bq 4,.bq 5],aav⟩
theorem aCh:cO Z 145=some aCg:=by kernel_rfl
theorem avf{args:List Value}{m:E}{aI:Value->E->Prop}(h:args.length<=32):bU Z 145 args m aI=cH Z aav (eX args) m (eU [.bq 4,.bq 5] aI):=fK aCh h
def alM:J:= .D (.G [A 0 27 7,A 1 28 8,A 2 4 27,A 3 5 28,b0 4 6 0]) (.aT)
def alL:J:= .D (.G [A 0 20 0,cF 1 21 106 [I 20],A 2 22 1,cF 3 23 106 [I 22],gj 4 24 165 21 23,A 5 19 24,dN 6 25 0 19,dN 7 26 1 19,A 8 7 25,A 9 8 26]) alM
def alK:J:= .D (.D (.G [A 0 15 1,cF 1 16 106 [I 15],bZ 2 17 16,lY 3 18 17 0]) (.a8 (I 18) (.D (.G [fO 0 4,fO 1 5,b0 2 6 3]) (.aT)) (.skip))) alL
def alJ:J:= .D (.D (.G [A 0 9 0,cF 1 10 161 [I 9],A 2 11 10,fX 3 12 11 1,kI 4 13 11 161 12,dx 5 14 11 13]) (.a8 (I 14) (.D (.G [fO 0 4,fO 1 5,b0 2 6 2]) (.aT)) (.skip))) alK
def aaw:J:=
  .D (
  .G [
 fO 0 4,
 fO 1 5,
 b0 2 6 0]) alJ
def aCi:cR:=⟨29,[.bq 4,.bq 5,.bq 6],aaw⟩
theorem aCj:cO Z 146=some aCi:=by kernel_rfl
theorem avg{args:List Value}{m:E}{aI:Value->E->Prop}(h:args.length<=29):bU Z 146 args m aI=cH Z aaw (eX args) m (eU [.bq 4,.bq 5,.bq 6] aI):=fK aCj h
def al3:J:= .D (.G [A 0 3 0,cF 1 4 100 [I 3],pV 2 5 4 512,A 3 2 5]) (.aT)
def aaD:J:=
  .D (
  .G [
 ca 0 2 false]) al3
def aCU:cR:=⟨6,[.bq 2],aaD⟩
theorem aCV:cO Z 157=some aCU:=by kernel_rfl
theorem avj{args:List Value}{m:E}{aI:Value->E->Prop}(h:args.length<=6):bU Z 157 args m aI=cH Z aaD (eX args) m (eU [.bq 2] aI):=fK aCV h
def aaG:J:= .D (.G [A 0 9 0,A 1 10 4,A 2 11 4,bV 3 12 (.xg 1 (I 9) none (I 10) (I 11)),A 4 2 12,b0 5 3 0]) (.aT)
def aaF:J:= .D (.D (.G [A 0 7 4,pV 1 8 7 512]) (.a8 (I 8) (.D (.G [fO 0 2,b0 1 3 2]) (.aT)) (.skip))) aaG
def aaE:J:= .D (.G [A 0 5 0,cF 1 6 100 [I 5],A 2 4 6]) aaF
def Si:J:=
  .D (
  .G [
 fO 0 2,
 b0 1 3 0]) aaE
def aCW:cR:=⟨13,[.bq 2,.bq 3],Si⟩
theorem aCX:cO Z 158=some aCW:=by kernel_rfl
theorem avk{args:List Value}{m:E}{aI:Value->E->Prop}(h:args.length<=13):bU Z 158 args m aI=cH Z Si (eX args) m (eU [.bq 2,.bq 3] aI):=fK aCX h
def Sp:J:= .D (.G [A 0 38 6,A 1 39 7,iP 2 40 39,cF 3 41 34 [I 40],A 4 4 38,A 5 5 41]) (.aT)
def M5:J:= .D (.D (.G [A 0 42 1,A 1 43 1,bZ 2 44 43,mC 3 45 44 1,b9 4 46 1 42 45,aP 5 47 46,A 6 48 8,eJ 7 49 .shl (I 47) (I 48),eJ 8 50 .lss (I 49) (.const (.int .u32 2147483648))]) (.a8 (I 50) (.skip) (.bw 0))) (.block 1 (.G [A 0 51 8,eJ 1 52 .add (I 51) (.const (.int .u64 1)),A 2 8 52]))
def F5:J:= .D (.G [A 0 135 18,eJ 1 136 .geq (I 135) (.const (.int .u64 4294967296))]) (.a8 (I 136) (.bw 4) (.skip))
def F4:J:= .D (.G [A 0 132 18,A 1 133 13,jm 2 134 132 133,A 3 18 134]) F5
def Bf:J:= .D (.D (.G [A 0 111 17,eJ 1 112 .geq (I 111) (.const (.int .u64 4294967296)),A 2 113 112,fX 3 114 113 17,fX 4 115 113 14,ef 5 116 113 false (.gL .mul .ir (I 114) (I 115)),fX 6 117 113 18,ef 7 118 113 false (.gL .shl .ir (I 117) (.const (.int .u64 32))),fX 8 119 113 9,fX 9 120 113 15,fX 10 121 113 11,ef 11 122 113 false (.gL .add .ir (I 120) (I 121)),ef 12 123 113 false (.gL .sub .ir (I 122) (.const (.int .i64 2))),vH 13 124 113 1 119 123,dZ 14 125 113 124,ef 15 126 113 false (.yY .u64 (I 125)),ef 16 127 113 false (.gL .or .ir (I 118) (I 126)),ef 17 128 113 false (.gL .gtr .ir (I 116) (I 127)),dx 18 129 113 128]) (.a8 (I 129) (.skip) (.bw 4))) (.block 5 (.D (.G [A 0 130 17,eJ 1 131 .sub (I 130) (.const (.int .u64 1)),A 2 17 131]) F4))
def aaK:J:= .D (.D (.G [A 0 137 9,A 1 138 15,A 2 139 15,A 3 140 11,jm 4 141 139 140,dA 5 142 141,bV 6 143 (.qI 1 (I 137) (some (I 138)) (some (I 142))),A 7 144 10,A 8 145 17,cF 9 146 170 [I 143,I 144,I 145]]) (.a8 (I 146) (.D (.G [A 0 147 17,eJ 1 148 .sub (I 147) (.const (.int .u64 1)),A 2 17 148]) (.G [A 0 149 9,A 1 150 15,A 2 151 15,A 3 152 11,jm 4 153 151 152,dA 5 154 153,bV 6 155 (.qI 1 (I 149) (some (I 150)) (some (I 154))),A 7 156 10,gj 8 157 171 155 156])) (.skip))) (.G [A 0 158 12,A 1 159 15,A 2 160 17,lZ 3 161 160,b9 4 162 1 158 159,c9 5 1 162 161])
def aaJ:J:= .D (.block 4 (.loop Bf)) aaK
def aaI:J:= .D (.G [A 0 105 16,A 1 106 13,eJ 2 107 .quo (I 105) (I 106),A 3 108 16,A 4 109 13,eJ 5 110 .rem (I 108) (I 109),A 6 17 107,A 7 18 110]) aaJ
def aaH:J:= .D (.block 3 (.D (.G [A 0 88 9,A 1 89 15,A 2 90 11,jm 3 91 89 90,b9 4 92 1 88 91,aP 5 93 92,iP 6 94 93,Gq 7 95 94,A 8 96 9,A 9 97 15,A 10 98 11,jm 11 99 97 98,mC 12 100 99 1,b9 13 101 1 96 100,aP 14 102 101,iP 15 103 102,eJ 16 104 .or (I 95) (I 103),A 17 16 104]) aaI)) (.G [A 0 86 15,mC 1 87 86 1,A 2 15 87])
def M6:J:= .D (.D (.G [A 0 84 15,zE 1 85 84 0]) (.a8 (I 85) (.skip) (.bw 2))) aaH
def aaM:J:= .D (.block 7 (.D (.G [A 0 169 167,A 1 20 169]) (.G [A 0 170 19,A 1 171 20,A 2 172 9,A 3 173 20,dA 4 174 173,b9 5 175 1 172 174,aP 6 176 175,iP 7 177 176,Gq 8 178 177,A 9 179 9,A 10 180 20,b9 11 181 1 179 180,aP 12 182 181,iP 13 183 182,eJ 14 184 .or (I 178) (I 183),A 15 185 8,eJ 16 186 .shr (I 184) (I 185),lZ 17 187 186,b9 18 188 1 170 171,c9 19 1 188 187]))) (.G [dA 0 189 167,A 1 167 189])
def aaL:J:= .D (.a8 (I 168) (.skip) (.bw 6)) aaM
def Sw:J:= .D (.G [dR 0 168 167 166]) aaL
def So:J:= .D (.G [A 0 190 12,A 1 191 12,A 4 194 19,A 5 195 19,cF 2 192 100 [I 191],rV 3 193 190 192,cF 6 196 100 [I 195],rV 7 197 194 196,A 8 4 193,A 9 5 197]) (.aT)
def Sm:J:= .D (.D (.G [A 0 165 19,bZ 1 166 165,b0 2 167 0]) (.block 6 (.loop Sw))) So
def Sl:J:= .D (.G [A 0 163 11,wY 1 164 163 163,A 2 19 164]) Sm
def Sk:J:= .D (.D (.G [A 0 81 12,bZ 1 82 81,mC 2 83 82 1,A 3 15 83]) (.block 2 (.loop M6))) Sl
def Sv:J:= .D (.G [A 0 69 10,A 1 70 11,mC 2 71 70 1,b9 3 72 1 69 71,aP 4 73 72,iP 5 74 73,A 6 75 10,A 7 76 11,mC 8 77 76 2,b9 9 78 1 75 77,aP 10 79 78,iP 11 80 79,A 12 13 74,A 13 14 80]) Sk
def Su:J:= .D (.G [A 0 64 9,bZ 1 65 64,A 2 66 11,eJ 3 67 .sub (I 65) (I 66),wY 4 68 67 67,A 5 12 68]) Sv
def St:J:= .D (.G [A 0 62 10,bZ 1 63 62,A 2 11 63]) Su
def Ss:J:= .D (.G [A 0 53 0,A 1 54 8,A 3 56 1,A 4 57 8,A 6 59 1,bZ 7 60 59,gj 2 55 169 53 54,gj 5 58 169 56 57,rV 8 61 58 60,A 9 9 55,A 10 10 61]) St
def Sr:J:= .D (.block 0 (.loop M5)) Ss
def Sq:J:= .D (.G [qu 0 8 0]) Sr
def Sn:J:= .D (.D (.G [A 0 27 1,bZ 1 28 27,lY 2 29 28 1]) (.a8 (I 29) (.D (.G [A 0 31 0,A 1 32 1,By 2 33 1 32 0,aP 3 34 33,gj 4 35 168 31 34,A 5 30 35,dN 6 36 0 30,dN 7 37 1 30,A 8 6 36,A 9 7 37]) Sp) (.skip))) Sq
def Sj:J:= .D (.D (.G [A 0 21 0,A 1 22 1,gj 2 23 92 21 22,tJ 3 24 23 0]) (.a8 (I 24) (.D (.G [A 0 25 0,cF 1 26 131 [I 25],fO 2 4,A 3 5 26]) (.aT)) (.skip))) Sn
def M4:J:=
  .D (
  .G [
 fO 0 4,
 fO 1 5]) Sj
def aCY:cR:=⟨198,[.bq 4,.bq 5],M4⟩
theorem aCZ:cO Z 159=some aCY:=by kernel_rfl
theorem avl{args:List Value}{m:E}{aI:Value->E->Prop}(h:args.length<=198):bU Z 159 args m aI=cH Z M4 (eX args) m (eU [.bq 4,.bq 5] aI):=fK aCZ h
def amb:J:= .D (.G [A 0 20 6,A 1 4 20,b0 2 5 0]) (.aT)
def ama:J:= .D (.D (.G [A 0 18 6,cF 1 19 161 [I 18]]) (.a8 (I 19) (.D (.G [fO 0 4,b0 1 5 2]) (.aT)) (.skip))) amb
def al9:J:= .D (.G [A 0 13 0,cF 1 14 106 [I 13],A 2 15 1,cF 3 16 106 [I 15],gj 4 17 172 14 16,A 5 6 17]) ama
def al8:J:= .D (.D (.G [A 0 7 0,cF 1 8 161 [I 7],A 2 9 8,fX 3 10 9 1,kI 4 11 9 161 10,dx 5 12 9 11]) (.a8 (I 12) (.D (.G [fO 0 4,b0 1 5 2]) (.aT)) (.skip))) al9
def aaR:J:=
  .D (
  .G [
 fO 0 4,
 b0 1 5 0]) al8
def aC1:cR:=⟨21,[.bq 4,.bq 5],aaR⟩
theorem aC2:cO Z 160=some aC1:=by kernel_rfl
theorem avm{args:List Value}{m:E}{aI:Value->E->Prop}(h:args.length<=21):bU Z 160 args m aI=cH Z aaR (eX args) m (eU [.bq 4,.bq 5] aI):=fK aC2 h
def amc:J:= .D (.G [A 0 3 0,cF 1 4 106 [I 3],bZ 2 5 4,pV 3 6 5 512,A 4 2 6]) (.aT)
def aaS:J:=
  .D (
  .G [
 ca 0 2 false]) amc
def aC3:cR:=⟨7,[.bq 2],aaS⟩
theorem aC4:cO Z 161=some aC3:=by kernel_rfl
theorem avn{args:List Value}{m:E}{aI:Value->E->Prop}(h:args.length<=7):bU Z 161 args m aI=cH Z aaS (eX args) m (eU [.bq 2] aI):=fK aC4 h
def yf:J:= .D (.G [A 0 48 5,A 1 49 8,lZ 2 50 49,Jx 3 51 50,k3 4 52 1 4 48 51,A 5 5 52]) (.G [A 0 53 8,tL 1 54 53 32,A 2 6 54])
def ye:J:= .D (.D (.G [A 0 37 7,A 1 38 1,bZ 2 39 38,dR 3 40 37 39]) (.a8 (I 40) (.G [A 0 41 8,A 1 42 1,A 2 43 7,b9 3 44 1 42 43,aP 4 45 44,iP 5 46 45,jm 6 47 41 46,A 7 8 47]) (.skip))) yf
def yd:J:= .D (.D (.G [A 0 26 7,A 1 27 0,bZ 2 28 27,dR 3 29 26 28]) (.a8 (I 29) (.G [A 0 30 8,A 1 31 0,A 2 32 7,b9 3 33 1 31 32,aP 4 34 33,iP 5 35 34,jm 6 36 30 35,A 7 8 36]) (.skip))) ye
def yc:J:= .D (.block 1 (.D (.G [A 0 25 6,A 1 8 25]) yd)) (.G [A 0 23 7,dA 1 24 23,A 2 7 24])
def vE:J:= .D (.D (.G [A 0 9 7,A 1 10 0,bZ 2 11 10,dR 3 12 9 11,A 4 13 12,fX 5 14 13 7,fX 6 15 13 1,iq 7 16 13 15,ef 8 17 13 false (.gL .lss .ir (I 14) (I 16)),dx 9 18 13 17,A 10 19 18,fX 11 20 19 6,ef 12 21 19 false (.gL .gtr .ir (I 20) (.const (.int .u64 0))),dx 13 22 19 21]) (.a8 (I 22) (.skip) (.bw 0))) yc
def amg:J:= .D (.G [A 0 55 5,cF 1 56 106 [I 55],A 2 4 56]) (.aT)
def amf:J:= .D (.D (.G [b0 0 7 0]) (.block 0 (.loop vE))) amg
def ame:J:= .D (.G [qu 0 6 0]) amf
def amd:J:= .D (.G [fO 0 5]) ame
def aaT:J:=
  .D (
  .G [
 fO 0 4]) amd
def aC5:cR:=⟨57,[.bq 4],aaT⟩
theorem aC6:cO Z 162=some aC5:=by kernel_rfl
theorem avo{args:List Value}{m:E}{aI:Value->E->Prop}(h:args.length<=57):bU Z 162 args m aI=cH Z aaT (eX args) m (eU [.bq 4] aI):=fK aC6 h
def zx:J:= .D (.D (.G [A 0 33 9,A 1 34 8,dR 2 35 33 34]) (.a8 (I 35) (.D (.G [A 0 36 9,eJ 1 37 .add (I 36) (.const (.int .u64 4294967296)),A 2 9 37]) (.G [qu 0 6 1])) (.skip))) (.G [A 0 38 5,A 1 39 9,A 2 40 8,eJ 3 41 .sub (I 39) (I 40),lZ 4 42 41,Jx 5 43 42,k3 6 44 1 4 38 43,A 7 5 44])
def zw:J:= .D (.G [qu 0 6 0]) zx
def zv:J:= .D (.G [A 0 28 0,A 1 29 7,b9 2 30 1 28 29,aP 3 31 30,iP 4 32 31,A 5 9 32]) zw
def zu:J:= .D (.D (.G [A 0 17 7,A 1 18 1,bZ 2 19 18,dR 3 20 17 19]) (.a8 (I 20) (.G [A 0 21 8,A 1 22 1,A 2 23 7,b9 3 24 1 22 23,aP 4 25 24,iP 5 26 25,jm 6 27 21 26,A 7 8 27]) (.skip))) zv
def zt:J:= .D (.block 1 (.D (.G [A 0 16 6,A 1 8 16]) zu)) (.G [A 0 14 7,dA 1 15 14,A 2 7 15])
def wS:J:= .D (.D (.G [A 0 10 7,A 1 11 0,bZ 2 12 11,dR 3 13 10 12]) (.a8 (I 13) (.skip) (.bw 0))) zt
def amk:J:= .D (.G [A 0 45 5,cF 1 46 106 [I 45],A 2 4 46]) (.aT)
def amj:J:= .D (.D (.G [b0 0 7 0]) (.block 0 (.loop wS))) amk
def ami:J:= .D (.G [qu 0 6 0]) amj
def amh:J:= .D (.G [fO 0 5]) ami
def aaV:J:=
  .D (
  .G [
 fO 0 4]) amh
def aC9:cR:=⟨47,[.bq 4],aaV⟩
theorem aDa:cO Z 164=some aC9:=by kernel_rfl
theorem avq{args:List Value}{m:E}{aI:Value->E->Prop}(h:args.length<=47):bU Z 164 args m aI=cH Z aaV (eX args) m (eU [.bq 4] aI):=fK aDa h
def aaY:J:= .D (.G [A 0 47 6,A 1 48 8,A 2 49 9,A 3 50 1,By 4 51 1 50 0,aP 5 52 51,iP 6 53 52,eJ 7 54 .quo (I 49) (I 53),lZ 8 55 54,b9 9 56 1 47 48,c9 10 1 56 55]) (.G [A 0 57 9,A 1 58 1,By 2 59 1 58 0,aP 3 60 59,iP 4 61 60,eJ 5 62 .rem (I 57) (I 61),A 6 7 62])
def aaX:J:= .D (.block 1 (.D (.G [A 0 39 7,Gq 1 40 39,A 2 41 0,A 3 42 8,b9 4 43 1 41 42,aP 5 44 43,iP 6 45 44,eJ 7 46 .or (I 40) (I 45),A 8 9 46]) aaY)) (.G [A 0 37 8,mC 1 38 37 1,A 2 8 38])
def SJ:J:= .D (.D (.G [A 0 35 8,zE 1 36 35 0]) (.a8 (I 36) (.skip) (.bw 0))) aaX
def amu:J:= .D (.G [A 0 63 6,cF 1 64 106 [I 63],A 2 65 7,cF 3 66 138 [I 65],A 4 4 64,A 5 5 66]) (.aT)
def amt:J:= .D (.D (.G [A 0 32 0,bZ 1 33 32,mC 2 34 33 1,A 3 8 34]) (.block 0 (.loop SJ))) amu
def ams:J:= .D (.G [qu 0 7 0]) amt
def IP:J:= .D (.D (.G [A 0 132 12,A 1 133 17,A 4 136 11,A 5 137 15,A 6 138 15,A 7 139 12,bZ 8 140 139,jm 9 141 138 140,dA 10 142 141,bV 11 143 (.qI 1 (I 136) (some (I 137)) (some (I 142))),cF 2 134 138 [I 133],gj 3 135 172 132 134,bV 12 144 (.app 1 4 (.const (aW)) (I 143)),gj 13 145 134 135 144,pV 14 146 145 0]) (.a8 (I 146) (.skip) (.bw 4))) (.block 5 (.G [A 0 147 17,eJ 1 148 .sub (I 147) (.const (.int .u64 1)),A 2 17 148]))
def SI:J:= .D (.G [A 0 174 19,A 1 175 18,bZ 2 176 175,dR 3 177 174 176]) (.a8 (I 177) (.G [A 0 178 11,A 1 179 15,A 2 180 19,jm 3 181 179 180,A 4 182 18,A 5 183 19,b9 6 184 1 182 183,aP 7 185 184,b9 8 186 1 178 181,c9 9 1 186 185]) (.skip))
def SH:J:= .D (.block 7 (.D (.G [A 0 169 11,A 1 170 15,A 2 171 19,jm 3 172 170 171,b9 4 173 1 169 172,Mt 5 (.store 1 (I 173) (.const (.int .u32 0)))]) SI)) (.G [A 0 167 19,dA 1 168 167,A 2 19 168])
def M8:J:= .D (.D (.G [A 0 163 19,A 1 164 12,bZ 2 165 164,eJ 3 166 .leq (I 163) (I 165)]) (.a8 (I 166) (.skip) (.bw 6))) SH
def SG:J:= .D (.D (.G [b0 0 19 0]) (.block 6 (.loop M8))) (.G [A 0 187 14,A 1 188 15,A 2 189 17,lZ 3 190 189,b9 4 191 1 187 188,c9 5 1 191 190])
def SF:J:= .D (.G [A 0 149 11,A 1 150 15,A 2 151 15,A 3 152 12,bZ 4 153 152,jm 5 154 151 153,dA 6 155 154,bV 7 156 (.qI 1 (I 149) (some (I 150)) (some (I 155))),bV 8 157 (.app 1 4 (.const (aW)) (I 156)),A 9 158 12,A 10 159 17,cF 11 160 138 [I 159],gj 12 161 172 158 160,gj 13 162 164 157 161,A 14 18 162]) SG
def SE:J:= .D (.block 4 (.loop IP)) SF
def SD:J:= .D (.D (.G [A 0 130 17,eJ 1 131 .gtr (I 130) (.const (.int .u64 4294967295))]) (.a8 (I 131) (.G [qu 0 17 4294967295]) (.skip))) SE
def SC:J:= .D (.G [A 0 127 16,A 1 128 13,eJ 2 129 .quo (I 127) (I 128),A 3 17 129]) SD
def SB:J:= .D (.block 3 (.D (.G [A 0 108 11,A 1 109 15,A 2 110 12,bZ 3 111 110,jm 4 112 109 111,b9 5 113 1 108 112,aP 6 114 113,iP 7 115 114,Gq 8 116 115,A 9 117 11,A 10 118 15,A 11 119 12,bZ 12 120 119,jm 13 121 118 120,mC 14 122 121 1,b9 15 123 1 117 122,aP 16 124 123,iP 17 125 124,eJ 18 126 .or (I 116) (I 125),A 19 16 126]) SC)) (.G [A 0 106 15,mC 1 107 106 1,A 2 15 107])
def M9:J:= .D (.D (.G [A 0 104 15,zE 1 105 104 0]) (.a8 (I 105) (.skip) (.bw 2))) SB
def amr:J:= .D (.G [A 0 192 14,cF 1 193 106 [I 192],A 2 194 11,cF 3 195 106 [I 194],A 4 196 10,gj 5 197 175 195 196,A 6 4 193,A 7 5 197]) (.aT)
def amp:J:= .D (.D (.G [A 0 101 14,bZ 1 102 101,mC 2 103 102 1,A 3 15 103]) (.block 2 (.loop M9))) amr
def amo:J:= .D (.G [A 0 95 11,bZ 1 96 95,A 2 97 12,bZ 3 98 97,eJ 4 99 .sub (I 96) (I 98),wY 5 100 99 99,A 6 14 100]) amp
def amn:J:= .D (.G [A 0 88 12,A 1 89 12,bZ 2 90 89,mC 3 91 90 1,b9 4 92 1 88 91,aP 5 93 92,iP 6 94 93,A 7 13 94]) amo
def amm:J:= .D (.G [A 0 81 11,A 1 82 0,A 2 83 10,gj 3 84 174 82 83,bZ 4 85 84,dA 5 86 85,rV 6 87 81 86,A 7 11 87]) amn
def amw:J:= .D (.G [A 0 73 0,A 1 74 10,gj 2 75 174 73 74,bV 3 76 (.jx 1 2 [.int .u32 0,.int .u32 0] [(0,1,.const (.int .u32 0)),(1,1,.const (.int .u32 0))]),k3 4 77 1 4 75 76,A 5 78 1,A 6 79 10,gj 7 80 174 78 79,A 8 11 77,A 9 12 80]) amm
def amv:J:= .D (.G [A 0 67 1,bZ 1 68 67,eJ 2 69 .mul (.const (.int .i64 32)) (I 68),A 3 70 1,cF 4 71 173 [I 70],eJ 5 72 .sub (I 69) (I 71),A 6 10 72]) amw
def amq:J:= .D (.D (.G [A 0 26 1,bZ 1 27 26,lY 2 28 27 1]) (.a8 (I 28) (.D (.G [A 0 29 0,bZ 1 30 29,wY 2 31 30 30,A 3 6 31]) ams) (.skip))) amv
def aml:J:= .D (.D (.G [A 0 20 0,A 1 21 1,gj 2 22 134 20 21,tJ 3 23 22 0]) (.a8 (I 23) (.D (.G [A 0 24 0,cF 1 25 106 [I 24],fO 2 4,A 3 5 25]) (.aT)) (.skip))) amq
def aaW:J:=
  .D (
  .G [
 fO 0 4,
 fO 1 5]) aml
def aDb:cR:=⟨198,[.bq 4,.bq 5],aaW⟩
theorem aDc:cO Z 165=some aDb:=by kernel_rfl
theorem avr{args:List Value}{m:E}{aI:Value->E->Prop}(h:args.length<=198):bU Z 165 args m aI=cH Z aaW (eX args) m (eU [.bq 4,.bq 5] aI):=fK aDc h
def aa2:J:= .D (.G [A 0 27 6,A 1 28 8,A 2 29 7,A 3 30 1,iP 4 31 30,eJ 5 32 .quo (I 29) (I 31),lZ 6 33 32,b9 7 34 1 27 28,c9 8 1 34 33]) (.G [A 0 35 7,A 1 36 1,iP 2 37 36,eJ 3 38 .rem (I 35) (I 37),A 4 7 38])
def aa1:J:= .D (.block 1 (.D (.G [A 0 19 7,Gq 1 20 19,A 2 21 0,A 3 22 8,b9 4 23 1 21 22,aP 5 24 23,iP 6 25 24,eJ 7 26 .or (I 20) (I 25),A 8 7 26]) aa2)) (.G [A 0 17 8,mC 1 18 17 1,A 2 8 18])
def SK:J:= .D (.D (.G [A 0 15 8,zE 1 16 15 0]) (.a8 (I 16) (.skip) (.bw 0))) aa1
def amC:J:= .D (.G [A 0 39 6,A 1 40 6,cF 2 41 100 [I 40],rV 3 42 39 41,A 4 43 7,lZ 5 44 43,A 6 4 42,A 7 5 44]) (.aT)
def amB:J:= .D (.D (.G [A 0 12 0,bZ 1 13 12,mC 2 14 13 1,A 3 8 14]) (.block 0 (.loop SK))) amC
def amA:J:= .D (.G [qu 0 7 0]) amB
def amz:J:= .D (.G [A 0 9 0,bZ 1 10 9,wY 2 11 10 10,A 3 6 11]) amA
def aa0:J:=
  .D (
  .G [
 fO 0 4,
 bV 1 5 (.pk (.const (.int .u32 0)))]) amz
def aDo:cR:=⟨45,[.bq 4,.bq 5],aa0⟩
theorem aDp:cO Z 168=some aDo:=by kernel_rfl
theorem avt{args:List Value}{m:E}{aI:Value->E->Prop}(h:args.length<=45):bU Z 168 args m aI=cH Z aa0 (eX args) m (eU [.bq 4,.bq 5] aI):=fK aDp h
def aa7:J:= .D (.G [A 0 26 5,A 1 27 7,A 2 28 6,lZ 3 29 28,b9 4 30 1 26 27,c9 5 1 30 29]) (.G [A 0 31 6,tL 1 32 31 32,A 2 6 32])
def aa6:J:= .D (.G [A 0 20 6,A 1 21 8,iP 2 22 21,A 3 23 1,eJ 4 24 .shl (I 22) (I 23),eJ 5 25 .or (I 20) (I 24),A 6 6 25]) aa7
def aa5:J:= .D (.block 1 (.D (.G [A 0 17 15,b9 1 18 1 13 15,aP 2 19 18,A 3 7 17,A 4 8 19]) aa6)) (.G [dA 0 33 15,A 1 15 33])
def aa4:J:= .D (.a8 (I 16) (.skip) (.bw 0)) aa5
def SL:J:= .D (.G [dR 0 16 15 14]) aa4
def amH:J:= .D (.G [A 0 40 5,A 1 4 40]) (.aT)
def amG:J:= .D (.G [A 0 34 5,A 1 35 0,bZ 2 36 35,A 3 37 6,lZ 4 38 37,b9 5 39 1 34 36,c9 6 1 39 38]) amH
def amF:J:= .D (.D (.G [A 0 13 0,bZ 1 14 13,b0 2 15 0]) (.block 0 (.loop SL))) amG
def amE:J:= .D (.G [qu 0 6 0]) amF
def amD:J:= .D (.G [A 0 9 0,bZ 1 10 9,dA 2 11 10,wY 3 12 11 11,A 4 5 12]) amE
def aa3:J:=
  .D (
  .G [
 fO 0 4]) amD
def aDq:cR:=⟨41,[.bq 4],aa3⟩
theorem aDr:cO Z 169=some aDq:=by kernel_rfl
theorem avu{args:List Value}{m:E}{aI:Value->E->Prop}(h:args.length<=41):bU Z 169 args m aI=cH Z aa3 (eX args) m (eU [.bq 4] aI):=fK aDr h
def abu:J:= .D (.G [A 0 41 11,tL 1 42 41 63,A 2 8 42]) (.G [A 0 43 7,tL 1 44 43 32,A 2 7 44])
def abt:J:= .D (.G [A 0 36 0,A 1 37 9,A 2 38 11,lZ 3 39 38,b9 4 40 1 36 37,c9 5 1 40 39]) abu
def abr:J:= .D (.G [A 0 26 0,A 1 27 9,b9 2 28 1 26 27,aP 3 29 28,iP 4 30 29,A 5 31 7,eJ 6 32 .and (I 31) (.const (.int .u64 4294967295)),eJ 7 33 .sub (I 30) (I 32),A 8 34 8,eJ 9 35 .sub (I 33) (I 34),A 10 11 35]) abt
def abq:J:= .D (.G [A 0 20 7,A 1 21 2,A 2 22 10,iP 3 23 22,eJ 4 24 .mul (I 21) (I 23),jm 5 25 20 24,A 6 7 25]) abr
def abp:J:= .D (.block 1 (.D (.G [A 0 17 15,b9 1 18 1 13 15,aP 2 19 18,A 3 9 17,A 4 10 19]) abq)) (.G [dA 0 45 15,A 1 15 45])
def abo:J:= .D (.a8 (I 16) (.skip) (.bw 0)) abp
def SS:J:= .D (.G [dR 0 16 15 14]) abo
def amR:J:= .D (.G [A 0 62 12,tL 1 63 62 63,eJ 2 64 .eql (I 63) (.const (.int .u64 1)),A 3 6 64]) (.aT)
def amQ:J:= .D (.G [A 0 56 0,A 1 57 1,bZ 2 58 57,A 3 59 12,lZ 4 60 59,b9 5 61 1 56 58,c9 6 1 61 60]) amR
def amT:J:= .D (.G [A 0 46 0,A 1 47 1,bZ 2 48 47,b9 3 49 1 46 48,aP 4 50 49,iP 5 51 50,A 6 52 7,eJ 7 53 .sub (I 51) (I 52),A 8 54 8,eJ 9 55 .sub (I 53) (I 54),A 10 12 55]) amQ
def amS:J:= .D (.D (.G [A 0 13 1,bZ 1 14 13,b0 2 15 0]) (.block 0 (.loop SS))) amT
def amP:J:= .D (.G [qu 0 7 0,qu 1 8 0]) amS
def abn:J:=
  .D (
  .G [
 ca 0 6 false]) amP
def aDs:cR:=⟨65,[.bq 6],abn⟩
theorem aDt:cO Z 170=some aDs:=by kernel_rfl
theorem avv{args:List Value}{m:E}{aI:Value->E->Prop}(h:args.length<=65):bU Z 170 args m aI=cH Z abn (eX args) m (eU [.bq 6] aI):=fK aDt h
def abz:J:= .D (.G [A 0 24 0,A 1 25 5,A 2 26 4,lZ 3 27 26,b9 4 28 1 24 25,c9 5 1 28 27]) (.G [A 0 29 4,tL 1 30 29 32,A 2 4 30])
def aby:J:= .D (.G [A 0 14 4,A 1 15 0,A 2 16 5,b9 3 17 1 15 16,aP 4 18 17,iP 5 19 18,A 6 20 6,iP 7 21 20,jm 8 22 19 21,jm 9 23 14 22,A 10 4 23]) abz
def abx:J:= .D (.block 1 (.D (.G [A 0 11 9,b9 1 12 1 7 9,aP 2 13 12,A 3 5 11,A 4 6 13]) aby)) (.G [dA 0 31 9,A 1 9 31])
def abw:J:= .D (.a8 (I 10) (.skip) (.bw 0)) abx
def SU:J:= .D (.G [dR 0 10 9 8]) abw
def amU:J:= .D (.D (.G [A 0 7 1,bZ 1 8 7,b0 2 9 0]) (.block 0 (.loop SU))) (.G [A 0 32 0,A 1 33 1,bZ 2 34 33,b9 3 35 1 32 34,aP 4 36 35,A 5 37 4,lZ 6 38 37,jm 7 39 36 38,b9 8 40 1 32 34,c9 9 1 40 39])
def abv:J:=
  .D (
  .G [
 qu 0 4 0]) amU
def aDu:cR:=⟨41,[],abv⟩
theorem aDv:cO Z 171=some aDu:=by kernel_rfl
theorem avw{args:List Value}{m:E}{aI:Value->E->Prop}(h:args.length<=41):bU Z 171 args m aI=cH Z abv (eX args) m (eU [] aI):=fK aDv h
def abE:J:= .D (.G [A 0 49 5,A 1 50 6,A 2 51 8,jm 3 52 50 51,A 4 53 9,lZ 5 54 53,b9 6 55 1 49 52,c9 7 1 55 54]) (.G [A 0 56 9,tL 1 57 56 32,A 2 7 57])
def abD:J:= .D (.block 3 (.D (.G [A 0 28 0,A 1 29 6,b9 2 30 1 28 29,aP 3 31 30,iP 4 32 31,A 5 33 1,A 6 34 8,b9 7 35 1 33 34,aP 8 36 35,iP 9 37 36,eJ 10 38 .mul (I 32) (I 37),A 11 39 5,A 12 40 6,A 13 41 8,jm 14 42 40 41,b9 15 43 1 39 42,aP 16 44 43,iP 17 45 44,jm 18 46 38 45,A 19 47 7,jm 20 48 46 47,A 21 9 48]) abE)) (.G [A 0 26 8,dA 1 27 26,A 2 8 27])
def SV:J:= .D (.D (.G [A 0 22 8,A 1 23 1,bZ 2 24 23,dR 3 25 22 24]) (.a8 (I 25) (.skip) (.bw 2))) abD
def abC:J:= .D (.D (.G [b0 0 8 0]) (.block 2 (.loop SV))) (.G [A 0 58 5,A 1 59 6,A 2 60 1,bZ 3 61 60,jm 4 62 59 61,A 5 63 7,lZ 6 64 63,b9 7 65 1 58 62,c9 8 1 65 64])
def abB:J:= .D (.block 1 (.D (.G [qu 0 7 0]) abC)) (.G [A 0 20 6,dA 1 21 20,A 2 6 21])
def SW:J:= .D (.D (.G [A 0 16 6,A 1 17 0,bZ 2 18 17,dR 3 19 16 18]) (.a8 (I 19) (.skip) (.bw 0))) abB
def amX:J:= .D (.G [A 0 66 5,cF 1 67 106 [I 66],A 2 4 67]) (.aT)
def amW:J:= .D (.D (.G [b0 0 6 0]) (.block 0 (.loop SW))) amX
def amV:J:= .D (.G [A 0 10 0,bZ 1 11 10,A 2 12 1,bZ 3 13 12,jm 4 14 11 13,wY 5 15 14 14,A 6 5 15]) amW
def abA:J:=
  .D (
  .G [
 fO 0 4]) amV
def aDw:cR:=⟨68,[.bq 4],abA⟩
theorem aDx:cO Z 172=some aDw:=by kernel_rfl
theorem avx{args:List Value}{m:E}{aI:Value->E->Prop}(h:args.length<=68):bU Z 172 args m aI=cH Z abA (eX args) m (eU [.bq 4] aI):=fK aDx h
def abG:J:= .D (.block 1 (.G [A 0 24 3,dA 1 25 24,A 2 3 25])) (.G [A 0 22 4,eJ 1 23 .quo (I 22) (.const (.int .u32 2)),A 2 4 23])
def SX:J:= .D (.D (.G [A 0 20 4,eJ 1 21 .gtr (I 20) (.const (.int .u32 0))]) (.a8 (I 21) (.skip) (.bw 0))) abG
def am2:J:= .D (.G [A 0 26 3,A 1 2 26]) (.aT)
def am1:J:= .D (.D (.G [A 0 14 0,A 1 15 0,bZ 2 16 15,mC 3 17 16 1,b9 4 18 1 14 17,aP 5 19 18,A 6 4 19]) (.block 0 (.loop SX))) am2
def am0:J:= .D (.G [A 0 10 0,bZ 1 11 10,mC 2 12 11 1,eJ 3 13 .mul (.const (.int .i64 32)) (I 12),A 4 3 13]) am1
def amZ:J:= .D (.D (.G [A 0 7 0,bZ 1 8 7,lY 2 9 8 0]) (.a8 (I 9) (.D (.G [b0 0 2 0]) (.aT)) (.skip))) am0
def amY:J:= .D (.G [A 0 5 0,cF 1 6 106 [I 5],A 2 0 6]) amZ
def abF:J:=
  .D (
  .G [
 b0 0 2 0]) amY
def aDy:cR:=⟨27,[.bq 2],abF⟩
theorem aDz:cO Z 173=some aDy:=by kernel_rfl
theorem avy{args:List Value}{m:E}{aI:Value->E->Prop}(h:args.length<=27):bU Z 173 args m aI=cH Z abF (eX args) m (eU [.bq 2] aI):=fK aDz h
def abI:J:= .D (.G [A 0 32 5,A 1 33 8,lZ 2 34 33,Jx 3 35 34,k3 4 36 1 4 32 35,A 5 5 36]) (.G [A 0 37 8,tL 1 38 37 32,A 2 6 38])
def abH:J:= .D (.block 1 (.D (.G [A 0 21 0,A 1 22 7,b9 2 23 1 21 22,aP 3 24 23,iP 4 25 24,A 5 26 1,eJ 6 27 .rem (I 26) (.const (.int .i64 32)),iP 7 28 27,eJ 8 29 .shl (I 25) (I 28),A 9 30 6,eJ 10 31 .or (I 29) (I 30),A 11 8 31]) abI)) (.G [A 0 19 7,dA 1 20 19,A 2 7 20])
def SY:J:= .D (.D (.G [A 0 15 7,A 1 16 0,bZ 2 17 16,dR 3 18 15 17]) (.a8 (I 18) (.skip) (.bw 0))) abH
def Ng:J:= .D (.G [A 0 39 5,A 1 40 6,lZ 2 41 40,Jx 3 42 41,k3 4 43 1 4 39 42,cF 5 44 106 [I 43],A 6 4 44]) (.aT)
def Nf:J:= .D (.D (.G [b0 0 7 0]) (.block 0 (.loop SY))) Ng
def Nd:J:= .D (.G [qu 0 6 0]) Nf
def Nc:J:= .D (.G [A 0 12 1,eJ 1 13 .quo (I 12) (.const (.int .i64 32)),wY 2 14 13 13,A 3 5 14]) Nd
def Nb:J:= .D (.D (.G [A 0 9 0,bZ 1 10 9,lY 2 11 10 0]) (.a8 (I 11) (.D (.G [fO 0 4]) (.aT)) (.skip))) Nc
def IQ:J:=
  .D (
  .G [
 fO 0 4]) Nb
def aDA:cR:=⟨45,[.bq 4],IQ⟩
theorem aDB:cO Z 174=some aDA:=by kernel_rfl
theorem ahS{args:List Value}{m:E}{aI:Value->E->Prop}(h:args.length<=45):bU Z 174 args m aI=cH Z IQ (eX args) m (eU [.bq 4] aI):=fK aDB h
def IT:J:= .D (.D (.G [A 0 26 6,dA 1 27 26,A 2 28 0,bZ 3 29 28,dR 4 30 27 29]) (.a8 (I 30) (.G [A 0 31 7,A 1 32 0,A 2 33 6,dA 3 34 33,b9 4 35 1 32 34,aP 5 36 35,iP 6 37 36,Gq 7 38 37,eJ 8 39 .or (I 31) (I 38),A 9 7 39]) (.skip))) (.G [A 0 40 5,A 1 41 7,A 2 42 1,eJ 3 43 .rem (I 42) (.const (.int .i64 32)),iP 4 44 43,eJ 5 45 .shr (I 41) (I 44),lZ 6 46 45,Jx 7 47 46,k3 8 48 1 4 40 47,A 9 5 48])
def IS:J:= .D (.block 1 (.D (.G [A 0 21 0,A 1 22 6,b9 2 23 1 21 22,aP 3 24 23,iP 4 25 24,A 5 7 25]) IT)) (.G [A 0 19 6,dA 1 20 19,A 2 6 20])
def F6:J:= .D (.D (.G [A 0 15 6,A 1 16 0,bZ 2 17 16,dR 3 18 15 17]) (.a8 (I 18) (.skip) (.bw 0))) IS
def abM:J:= .D (.G [A 0 49 5,cF 1 50 106 [I 49],A 2 4 50]) (.aT)
def abL:J:= .D (.D (.G [A 0 13 1,eJ 1 14 .quo (I 13) (.const (.int .i64 32)),A 2 6 14]) (.block 0 (.loop F6))) abM
def abK:J:= .D (.G [fO 0 5]) abL
def abJ:J:= .D (.D (.G [A 0 8 1,eJ 1 9 .quo (I 8) (.const (.int .i64 32)),A 2 10 0,bZ 3 11 10,eJ 4 12 .geq (I 9) (I 11)]) (.a8 (I 12) (.D (.G [fO 0 4]) (.aT)) (.skip))) abK
def SZ:J:=
  .D (
  .G [
 fO 0 4]) abJ
def aDC:cR:=⟨51,[.bq 4],SZ⟩
theorem aDD:cO Z 175=some aDC:=by kernel_rfl
theorem avz{args:List Value}{m:E}{aI:Value->E->Prop}(h:args.length<=51):bU Z 175 args m aI=cH Z SZ (eX args) m (eU [.bq 4] aI):=fK aDD h
end Go.Proofs.YtkpifdkccdndcaaGreat
namespace Go.Big
def val:List Int->Int
  |[]=>0
  |x::xs=>x+4294967296*val xs
def a3:Nat->Int
  |0=>1
  |n+1=>4294967296*a3 n
def dT(l:List Int):Prop:= ∀x∈l,0<=x/\x<4294967296
def c2:List Int->Nat
  |[]=>0
  |x::xs=>if c2 xs=0 then(if x=0 then 0 else 1)else c2 xs+1
def kC(l:List Int):Prop:=dT l/\c2 l=l.length
theorem k6: ∀n,0<a3 n
  |0=>by simp[a3]
  |n+1=>by have:=k6 n;simp only[a3];omega
theorem BU: ∀a b,a3 (a+b)=a3 a*a3 b
  |0,b=>by simp[a3]
  | a+1,b=>by have:=BU a b;rw[show a+1+b=(a+b)+1 by omega];simp only[a3,this,Int.mul_assoc]
theorem u2: ∀a b:List Int,val (a++b)=val a+a3 a.length*val b
  |[],b=>by simp[val,a3]
  | x::a,b=>by have:=u2 a b;simp only[Cg,val,this,nB,a3];grind
theorem dT.tail{x:Int}{l:List Int}(h:dT (x::l)):dT l:= λy ab=>h y (by simp[ab])
theorem dT.app{a b:List Int}(h:dT a)(b6:dT b):dT (a++b):= λx F=>by
  rcases mM.1 F with F|F
  · exact h x F
  · exact b6 x F
theorem dT.take{l:List Int}(h:dT l)(n:Nat):dT (l.take n):= λx F=>h x (Ez F)
theorem dT.drop{l:List Int}(h:dT l)(n:Nat):dT (l.drop n):= λx F=>h x (Ey F)
theorem dT.set{l:List Int}(h:dT l)(i:Nat){y:Int}(ab:0<=y/\y<4294967296):dT (l.set i y):= λx F=>by
  rcases List.mem_or_eq_of_mem_set F with F|rfl
  · exact h x F
  · exact ab
theorem dT.U{l:List Int}(h:dT l){i:Nat}{x:Int}(F:l[i]?=some x):0<=x/\x<4294967296:=h x (fT F)
theorem dT.wg(n:Nat):dT (List.replicate n 0):= λx F=>by rw[List.mem_replicate]at F;omega
theorem V8: ∀n,val (List.replicate n 0)=0
  |0=>rfl
  |n+1=>by simp[Ko,val,V8 n]
theorem ih: ∀{l:List Int},dT l->0<=val l/\val l<a3 l.length
  |[],_=>by simp[val,a3]
  | x::l,h=>by have:=ih h.tail;have F:=h x (by simp);simp only[val,nB,a3];omega
theorem V7: ∀{l:List Int} {i:Nat} {x:Int} (y:Int),l[i]?=some x->val (l.set i y)=val l+a3 i*(y-x)
  |[],_,_,_,h=>by simp at h
  |O::l,0,x,y,h=>by simp at h;subst h;simp[val,a3];omega
  | O::l,i+1,x,y,h=>by have:= @V7 l i x y (by simpa using h);simp only[List.set_cons_succ,val,this,a3];grind
theorem asi{l:List Int}{i:Nat}{x:Int}(h:l[i]?=some x):val (l.take (i+1))=val (l.take i)+a3 i*x:=by have ag:=(dg.1 h).1;rw[List.take_add_one,h,u2];simp[val];rw[s8 (by omega)]
theorem Cd(l:List Int)(i:Nat)(h:i<=l.length):val l=val (l.take i)+a3 i*val (l.drop i):=by have:=u2 (l.take i) (l.drop i);rw[Ex]at this;rw[this,k9,s8 h]
theorem awH{l:List Int}{i:Nat}{x:Int}(h:l[i]?=some x):val (l.drop i)=x+4294967296*val (l.drop (i+1)):=by obtain⟨B,rfl⟩:=dg.1 h;rw[Wr B];rfl
theorem ky: ∀l,c2 l<=l.length
  |[]=>by simp[c2]
  |x::l=>by have:=ky l;simp only[c2,nB];split<;>(try split)<;>omega
theorem Ou: ∀{l:List Int} {i:Nat} {x:Int},c2 l<=i->l[i]?=some x->x=0
  |[],_,_,_,h=>by simp at h
  | O::l,0,x,bH,h=>by
    simp at h;subst h;simp only[c2]at bH;split at bH
    · split at bH
      · assumption
      · omega
    · omega
  | O::l,i+1,x,bH,h=>by refine@Ou l i x ?_ (by simpa using h);simp only[c2]at bH;split at bH<;>omega
theorem JJ: ∀{l:List Int} {n:Nat} {x:Int},c2 l=n+1->l[n]?=some x->x≠0
  |[],_,_,h,_=>by simp[c2]at h
  | O::l,0,x,h,F=>by
    simp at F;subst F;simp only[c2]at h;split at h
    · split at h
      · omega
      · assumption
    · omega
  | O::l,n+1,x,h,F=>by
    simp only[c2]at h;split at h
    · split at h<;>omega
    · exact@JJ l n x (by omega) (by simpa using F)
theorem aHP{l:List Int}{n:Nat}(B: ∀(i:Nat) (x:Int),n<=i->l[i]?=some x->x=0)(H: ∀(x:Int),0<n->l[n-1]?=some x->x≠0)(af:n<=l.length):c2 l=n:=by
  by_cases h:c2 l<n
  · have aE:n-1<l.length:=(by omega);exact absurd (Ou (l:=l) (i:=n-1) (x:=l[n-1]) (by omega) (by simp[aE])) (H _ (by omega) (by simp[aE]))
  · by_cases b6:n<c2 l
    · have aE:=ky l;have pa:c2 l-1<l.length:=(by omega);exact absurd (B (c2 l-1) (l[c2 l-1]) (by omega) (by simp[pa])) (JJ (l:=l) (n:=c2 l-1) (by omega) (by simp[pa]))
    · omega
theorem ag6{l:List Int}(h: ∀(i:Nat) (x:Int),l[i]?=some x->x=0):val l=0:=by
  induction l with
  |nil=>rfl
  | cons O l cB=>have bH:=h 0 O rfl;have:=cB (λi x F=>h (i+1) x (by simpa using F));simp[val,bH,this]
theorem Kg(l:List Int):val (l.take (c2 l))=val l:=by
  have B:=Cd l (c2 l) (ky l);have H:val (l.drop (c2 l))=0:=ag6 λi x F=>by rw[rv]at F;exact Ou (by omega) F
  rw[B,H];simp
theorem aHQ(l:List Int):c2 (l.take (c2 l))=c2 l:=by
  refine aHP (λi x ag F=> ?_) (λx bH F=> ?_) (by have:=ky l;simp;omega)
  · have:=(dg.1 F).1;simp at this;omega
  · rw[se,if_pos (by omega)]at F;exact JJ (n:=c2 l-1) (by omega) F
theorem ahX{l:List Int}(h:dT l):kC (l.take (c2 l)):=⟨h.take _,by rw[aHQ];have:=ky l;simp;omega⟩
theorem kC.nil:kC []:=⟨by simp[dT],rfl⟩
theorem kC.ep{l:List Int}(h:kC l){n:Nat}{x:Int}(av:l.length=n+1)(F:l[n]?=some x):x≠0:=JJ (by rw[h.2,av]) F
theorem kC.cK{l:List Int}(h:kC l){n:Nat}(av:l.length=n+1):a3 n<=val l:=by obtain⟨x,F⟩: ∃x,l[n]?=some x:=⟨l[n]'(by omega),by simp[av]⟩;have B:=h.ep av F;have H:=h.1.U F;have af:=asi F;rw[fw (by omega)]at af;have aL:=ih (h.1.take n);have cm:=k6 n;have:a3 n*1<=a3 n*x:=s5 (by omega) (by omega);omega
theorem aq2{a b:Nat}(h:a<=b):a3 a<=a3 b:=by obtain⟨c,rfl⟩: ∃c,b=a+c:=⟨b-a,by omega⟩;rw[BU];have B:=k6 a;have H:=k6 c;have:a3 a*1<=a3 a*a3 c:=s5 (by omega) (by omega);omega
theorem kC.Jz{a b:List Int}(aC:dT a)(K:kC b)(h:a.length<b.length):val a<val b:=by obtain⟨n,av⟩: ∃n,b.length=n+1:=⟨b.length-1,by omega⟩;have B:=K.cK av;have H:=(ih aC).2;have af:=aq2 (show a.length<=n by omega);omega
theorem kC.ext: ∀{a b:List Int},kC a->kC b->val a=val b->a=b:=by
  intro a b aC K h;have aE:a.length=b.length:=by
    by_cases B:a.length<b.length
    · have:=kC.Jz aC.1 K B;omega
    · by_cases H:b.length<a.length
      · have:=kC.Jz K.1 aC H;omega
      · omega
  have tO: ∀(a b:List Int),dT a->dT b->a.length=b.length->val a=val b->a=b:=by
    intro a;induction a with
    |nil=>intro b _ _ aE _;simp at aE;exact(Hj aE.symm).symm
    | cons x a cB=>
      intro b aC K aE h;cases b with
      |nil=>simp at aE
      | cons y b=>have F:=aC x (by simp);have ab:=K y (by simp);simp only[val]at h;have B:x=y:=(by omega);have H:val a=val b:=(by omega);rw[B,cB b aC.tail K.tail (by simpa using aE) H]
  exact tO a b aC.1 K.1 aE h
theorem kC.zero{l:List Int}(h:kC l):val l=0↔l=[]:=by refine⟨λS=>h.ext .nil S,λaE=>by subst aE;rfl⟩
theorem kC.aqS{l:List Int}(h:kC l)(av:l≠[]):0<val l:=by have B:=(ih h.1).1;have H:=mt h.zero.1 av;omega
section
variable {ep next P fq iQ hU kg u1 cT c3 g:Int}
theorem ax2(za:0<P)(sB:0<=fq)(jT:cT=(ep*4294967296+next)*P+fq)(zb:c3=((iQ*4294967296+hU)*4294967296+kg)*P+u1)(mA:u1<P)(sx:0<=g)
    (h:(iQ*4294967296+hU-g*ep)*4294967296+kg<g*next):c3<g*cT:=by
  have B:(iQ*4294967296+hU)*4294967296+kg+1<=g*(ep*4294967296+next):=by grind
  have H:((iQ*4294967296+hU)*4294967296+kg+1)*P<=g*(ep*4294967296+next)*P:=n1 B (by omega);have af:0<=g*fq:=mq sx sB;have aL:g*cT=g*(ep*4294967296+next)*P+g*fq:=by subst jT;grind
  have cm:((iQ*4294967296+hU)*4294967296+kg+1)*P=((iQ*4294967296+hU)*4294967296+kg)*P+P:=by grind
  omega
theorem ajc(za:0<P)(sB:0<=fq)(Rj:fq<P)(jT:cT=(ep*4294967296+next)*P+fq)(zb:c3=((iQ*4294967296+hU)*4294967296+kg)*P+u1)(mA:0<=u1)(sx:0<=g)(aq:g<4294967296)(bm:1<=ep)(av:0<=next)
    (h:g*next<=(iQ*4294967296+hU-g*ep)*4294967296+kg):(g-1)*cT<=c3:=by
  have B:g*(ep*4294967296+next)<=(iQ*4294967296+hU)*4294967296+kg:=by grind
  have H:g*(ep*4294967296+next)*P<=((iQ*4294967296+hU)*4294967296+kg)*P:=n1 B (by omega);have af:g*fq<=4294967296*P:=Int.mul_le_mul (by omega) (by omega) (by omega) (by omega);have aL:g*cT=g*(ep*4294967296+next)*P+g*fq:=by subst jT;grind
  have dK:4294967296*P<=(ep*4294967296+next)*P:=n1 (by omega) (by omega);have hh:(g-1)*cT=g*cT-cT:=by grind
  omega
end
theorem EY{c3 cT q r:Int}(h:c3=q*cT+r)(bH:0<=r)(B:r<cT):c3/cT=q/\c3%cT=r:=by
  constructor
  · rw[h,Int.add_comm,Int.add_mul_ediv_right _ _ (by omega),Int.ediv_eq_zero_of_lt bH B];omega
  · rw[h,Int.add_comm,Int.add_mul_emod_self_right,Int.emod_eq_of_lt bH B]
def az(l:List Int)(i:Nat):Int:=l.getD i 0
theorem lE{l:List Int}{i:Nat}{x:Int}(h:l[i]?=some x):az l i=x:=by unfold az;rw[mr,h];rfl
theorem su{l:List Int}{i:Nat}(h:l.length<=i):az l i=0:=by unfold az;rw[mr,Ai h];rfl
theorem h4{l:List Int}(h:dT l)(i:Nat):0<=az l i/\az l i<4294967296:=by
  by_cases ag:i<l.length
  · rw[lE (c0 ag)];exact h _ (qM ag)
  · rw[su (by omega)];omega
theorem pt(l:List Int)(i:Nat):val (l.take (i+1))=val (l.take i)+a3 i*az l i:=by
  by_cases ag:i<l.length
  · rw[lE (c0 ag)];exact asi (c0 ag)
  · rw[su (by omega),fw (by omega),fw (by omega)];simp
theorem z8{o:List Int}{i:Nat}(v:Int)(h:i<o.length):val ((o.set i v).take (i+1))=val (o.take i)+a3 i*v:=by rw[pt,lE (x:=v) (by simp[h])];rw[List.take_set_of_le (eB i)]
theorem sq(l:List Int)(i:Nat):val (l.drop i)=az l i+4294967296*val (l.drop (i+1)):=by
  by_cases ag:i<l.length
  · rw[lE (c0 ag)];exact awH (c0 ag)
  · rw[su (by omega),u5 (by omega),u5 (by omega)];simp[val]
theorem v8{t a9:Int}(dt:0<a9):t%a9+a9*(t/a9)=t:=by have:=Int.emod_add_mul_ediv t a9;omega
theorem WI{o a b:List Int}{i:Nat}{c t:Int}(h:val (o.take i)+c*a3 i=val (a.take i)+val (b.take i))(bm:t=c+az a i+az b i)(ag:i<o.length):
    val ((o.set i (t%4294967296)).take (i+1))+(t/4294967296)*a3 (i+1)=val (a.take (i+1))+val (b.take (i+1)):=by
  rw[z8 _ ag,pt a,pt b];have:=v8 (t:=t) (a9:=4294967296) (by omega);simp only[a3]
  grind
theorem aug{o a b:List Int}{i:Nat}{c t:Int}(h:val o+c*a3 i=val (a.take i)+val (b.take i))(bm:t=c+az a i+az b i)(ag:o.length=i):
    val (o++[t%4294967296])+(t/4294967296)*a3 (i+1)=val (a.take (i+1))+val (b.take (i+1)):=by
  rw[u2,ag,pt a,pt b];have:=v8 (t:=t) (a9:=4294967296) (by omega);simp only[a3,val]
  grind
theorem asd{o a b:List Int}{i:Nat}{c t:Int}(h:val (o.take i)-c*a3 i=val (a.take i)-val (b.take i))(bm:t=az a i-c-az b i)(ag:i<o.length):
    val ((o.set i (t%4294967296)).take (i+1))-(-(t/4294967296))*a3 (i+1)=val (a.take (i+1))-val (b.take (i+1)):=by
  rw[z8 _ ag,pt a,pt b];have:=v8 (t:=t) (a9:=4294967296) (by omega);simp only[a3]
  grind
theorem aLG{o a b:List Int}{i:Nat}{c t:Int}(h:val o-c*a3 i=val (a.take i)-val (b.take i))(bm:t=az a i-c-az b i)(ag:o.length=i):
    val (o++[t%4294967296])-(-(t/4294967296))*a3 (i+1)=val (a.take (i+1))-val (b.take (i+1)):=by
  rw[u2,ag,pt a,pt b];have:=v8 (t:=t) (a9:=4294967296) (by omega);simp only[a3,val]
  grind
theorem aqj{o cG b:List Int}{i j:Nat}{x c t O:Int}(h:val o+c*a3 (i+j)=val cG+a3 i*(x*val (b.take j)))(cl:o[i+j]?=some O)(bm:t=c+x*az b j+O):
    val (o.set (i+j) (t%4294967296))+(t/4294967296)*a3 (i+(j+1))=val cG+a3 i*(x*val (b.take (j+1))):=by
  rw[V7 _ cl,pt b];have:=v8 (t:=t) (a9:=4294967296) (by omega);rw[show i+(j+1)=(i+j)+1 by omega];simp only[a3];rw[BU]at*
  grind
theorem arR{q a:List Int}{i:Nat}{d b4 t:Int}(ay:0<d)(h:val (a.drop (i+1))=val (q.drop (i+1))*d+b4)(bm:t=b4*4294967296+az a i)(ag:i<q.length):
    val (a.drop i)=val ((q.set i (t/d)).drop i)*d+t%d:=by
  rw[sq a i,sq (q.set i (t/d)) i,lE (l:=q.set i (t/d)) (x:=t/d) (by simp[ag])];rw[List.drop_set_of_lt (by omega)];have:=v8 (t:=t) (a9:=d) ay
  grind
theorem aMd{o a:List Int}{i:Nat}{ax c t:Int}(h:val (o.take i)+c*a3 i=val (a.take i)*ax)(bm:t=c+az a i*ax)(ag:i<o.length):
    val ((o.set i (t%4294967296)).take (i+1))+(t/4294967296)*a3 (i+1)=val (a.take (i+1))*ax:=by
  rw[z8 _ ag,pt a];have:=v8 (t:=t) (a9:=4294967296) (by omega);simp only[a3]
  grind
theorem aLI{aG kB v:List Int}{i:Nat}{f c b bY d b7:Int}(h:val (kB.take i)=val (aG.take i)-f*val (v.take i)+(c+b)*a3 i)(aK:bY=c+f*az v i)(ay:d=az aG i-bY%4294967296-b)(K:d%4294967296=d+4294967296*b7)(ag:i<kB.length):
    val ((kB.set i (d%4294967296)).take (i+1))=val (aG.take (i+1))-f*val (v.take (i+1))+(bY/4294967296+b7)*a3 (i+1):=by
  rw[z8 _ ag,pt aG,pt v];have:=v8 (t:=bY) (a9:=4294967296) (by omega);simp only[a3]
  grind
theorem awA{c3 cT db P g k:Int}(jT:0<cT)(za:cT<=P)(zb:0<=c3)(B:(g-1)*cT<=c3)(H:c3<g*cT)(aa:k=0\/k=1)(kT:db=c3-g*cT+P+cT-k*P)(af:0<=db)(aL:db<P):db=c3-(g-1)*cT:=by
  have e:(g-1)*cT=g*cT-cT:=by grind
  rcases aa with rfl|rfl
  · omega
  · omega
theorem Fg{l:List Int}{i n:Nat}(h:i<n):az (l.take n) i=az l i:=by unfold az;simp only[mr,se,if_pos h]
theorem HQ{l:List Int}{i n:Nat}:az (l.drop n) i=az l (n+i):=by unfold az;simp only[mr,rv]
theorem asp{v:List Int}{n:Nat}(aE:v.length=n+2):val v=(az v (n+1)*4294967296+az v n)*a3 n+val (v.take n):=by
  have B:=Cd v n (by omega);have H:=sq v n;have af:=sq v (n+1);have aL:val (v.drop (n+1+1))=0:=by rw[u5 (by omega)];rfl
  rw[aL]at af
  grind
theorem aLU{aG:List Int}{n:Nat}(aE:aG.length=n+3):val aG=((az aG (n+2)*4294967296+az aG (n+1))*4294967296+az aG n)*a3 n+val (aG.take n):=by
  have B:=Cd aG n (by omega);have H:=sq aG n;have af:=sq aG (n+1);have aL:=sq aG (n+1+1);have cm:val (aG.drop (n+1+1+1))=0:=by rw[u5 (by omega)];rfl
  rw[cm]at aL
  grind
structure qa(cy cT:Int)(n:Nat)(aG q:List Int)(j:Nat):Prop where
  qE:dT aG
  aeA:dT q
  len:aG.length=q.length+n
  ag: ∀i x,j+n<=i->aG[i]?=some x->x=0
  low:val ((aG.drop j).take n)<cT
  eq:cy=val (q.drop j)*a3 j*cT+val aG
theorem aLO(l:List Int)(n:Nat):val (l.take (n+1))=az l 0+4294967296*val ((l.drop 1).take n):=by
  cases l with
  |nil=>simp[az,val]
  |cons x l=>simp[az,val]
theorem qa.agZ{cy cT:Int}{n:Nat}{aG q:List Int}{j:Nat}(h:qa cy cT n aG q (j+1)):0<=val ((aG.drop j).take (n+1))/\val ((aG.drop j).take (n+1))<cT*4294967296:=by have B:=aLO (aG.drop j) n;rw[HQ,s9]at B;simp only[Nat.add_zero]at B;have H:=h4 h.qE j;have af:=h.low;have aL:=(ih ((h.qE.drop (j+1)).take n)).1;have cm:=(ih ((h.qE.drop j).take (n+1))).1;omega
theorem qa.step{cy cT:Int}{n:Nat}{aG q:List Int}{j:Nat}(h:qa cy cT n aG q (j+1))(c6:j<q.length){w:List Int}(Y2:w.length=n+1)(aS:dT w){g:Int}(aq:0<=g/\g<4294967296)(az8:val w=val ((aG.drop j).take (n+1))-g*cT)(aR8:val w<cT)(HU:cT<=a3 n):
    qa cy cT n (aG.take j++w++aG.drop (j+n+1)) (q.set j g) j:=by
  have aE:=h.len;have mA:(aG.take j).length=j:=by simp;omega
  have tD:az w n=0:=by
    have B:=pt w n;rw[fw (by omega)]at B;have H:=(ih (aS.take n)).1;have af:=h4 aS n;have aL:=k6 n;by_cases bH:az w n=0
    · exact bH
    · have:a3 n*1<=a3 n*az w n:=s5 (by omega) (by omega);omega
  refine⟨(h.qE.take j).app aS|>.app (h.qE.drop _),h.aeA.set j aq,by simp;omega,λi x ag F=> ?_,?_,?_⟩
  · by_cases B:i<j+n+1
    · obtain rfl:i=j+n:=(by omega);rw[yE (by simp;omega),Cf (by omega),mA]at F;rw[show j+n-j=n by omega]at F;rw[lE F]at tD;exact tD
    · rw[Cf (by simp;omega)]at F;rw[rv]at F;refine h.ag _ x (by simp;omega) F
  · have e:((aG.take j++w++aG.drop (j+n+1)).drop j).take n=w.take n:=by
      rw[ug,List.drop_append,u5 (by omega),mA];simp only[xv,Nat.sub_self,yI];rw[List.take_append_of_le_length (by omega)]
    rw[e];have B:=pt w n;rw[fw (l:=w) (by omega),tD]at B;simp at B;omega
  · have ar:=Cd aG j (by omega);have x2:=u2 ((aG.drop j).take (n+1)) ((aG.drop j).drop (n+1));rw[Ex,s9]at x2;have fN:((aG.drop j).take (n+1)).length=n+1:=(by simp;omega);rw[fN]at x2;have A4:=u2 (aG.take j++w) (aG.drop (j+n+1));have rO:=u2 (aG.take j) w;rw[mA]at rO;have YW:(aG.take j++w).length=j+(n+1):=(by rw[mo,mA,Y2]);rw[YW]at A4;have bz:=sq (q.set j g) j;have awM:(q.set j g).drop (j+1)=q.drop (j+1):=List.drop_set_of_lt (by omega);rw[lE (l:=q.set j g) (x:=g) (by simp[c6]),awM]at bz;have a2:=h.eq;have Y:=BU j (n+1);have azH:a3 (j+1)=4294967296*a3 j:=rfl;rw[show j+n+1=j+(n+1) by omega]at A4;rw[show j+n+1=j+(n+1) by omega,A4,rO,az8,Y,bz,a2,ar,x2,azH];generalize val (aG.take j)=cx;generalize val ((aG.drop j).take (n+1))=c8;generalize val (aG.drop (j+(n+1)))=eM;generalize val (q.drop (j+1))=gY;generalize a3 j=ez;generalize a3 (n+1)=fj
    grind
theorem qa.done{cy cT:Int}{n:Nat}{aG q:List Int}(h:qa cy cT n aG q 0)(jT:0<cT):cy/cT=val q/\cy%cT=val (aG.take n)/\val aG=val (aG.take n):=by
  have B:=h.eq;have H:=h.low;rw[yI]at B H;have af:=Cd aG n (by have:=h.len;omega);have aL:val (aG.drop n)=0:=ag6 λi x F=>by rw[rv]at F;exact h.ag _ x (by omega) F
  rw[aL]at af;have cm:=(ih (h.qE.take n)).1;have dK:cy=val q*cT+val (aG.take n):=by simp only[a3]at B;rw[B];grind
  obtain⟨aj,ba⟩:=EY dK cm H;exact⟨aj,ba,by omega⟩
theorem aip{r aG:List Int}{i:Nat}{ax aU:Int}(gh:0<ax)(qh:ax*aU=4294967296)(h:ax*val (r.take i)=val (aG.take i)-az aG 0%ax+(az aG i%ax)*a3 i)(ag:i<r.length)(ar:dT aG):
    ax*val ((r.set i (((az aG (i+1)*4294967296+az aG i)/ax)%4294967296)).take (i+1))=val (aG.take (i+1))-az aG 0%ax+(az aG (i+1)%ax)*a3 (i+1):=by
  rw[z8 _ ag,pt aG];have jb:0<aU:=by
    by_cases h:0<aU
    · exact h
    · have:ax*aU<=0:=Int.mul_nonpos_of_nonneg_of_nonpos (by omega) (by omega);omega
  have cM:=h4 ar i;have dq:=h4 ar (i+1);have aX:=v8 (t:=az aG i) (a9:=ax) gh;have bg:=v8 (t:=az aG (i+1)) (a9:=ax) gh;have bo:=yH (az aG i) (show ax≠0 by omega);have cc:=xr (az aG i) gh;have gC:=yH (az aG (i+1)) (show ax≠0 by omega);have iA:=xr (az aG (i+1)) gh;have hN:0<=az aG i/ax:=Am (by omega) (by omega)
  -- lN aVl
  have bC:(az aG (i+1)*4294967296+az aG i)/ax=az aG (i+1)*aU+az aG i/ax:=by have:az aG (i+1)*4294967296+az aG i=(az aG (i+1)*aU+az aG i/ax)*ax+az aG i%ax:=(by rw[<-qh];grind);exact(EY this bo cc).1
  have ay:az aG i/ax<aU:=by
    by_cases mf:az aG i/ax<aU
    · exact mf
    · have:ax*aU<=ax*(az aG i/ax):=s5 (by omega) (by omega);omega
  have cq:(az aG (i+1)*aU+az aG i/ax)%4294967296=(az aG (i+1)%ax)*aU+az aG i/ax:=by have dU:az aG (i+1)*aU+az aG i/ax=(az aG (i+1)/ax)*4294967296+((az aG (i+1)%ax)*aU+az aG i/ax):=(by rw[<-qh];grind);have fP:0<=(az aG (i+1)%ax)*aU:=mq gC (by omega);have dX:(az aG (i+1)%ax)*aU+aU<=ax*aU:=(by have:=n1 (show az aG (i+1)%ax+1<=ax by omega) (show 0<=aU by omega);rw[Int.add_mul,Int.one_mul]at this;exact this);exact(EY dU (by omega) (by omega)).2
  rw[bC,cq];simp only[a3]
  grind
end Go.Big
