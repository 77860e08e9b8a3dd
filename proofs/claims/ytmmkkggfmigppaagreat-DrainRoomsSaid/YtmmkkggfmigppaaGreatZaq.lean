/-
  For every input the law returns true, and each argument reads behind the call as it read before. The last part of the proof; tools of ours have shortened it.
-/
import Derived.ProofKit
import Derived.ShutString
import Derived.Below
import Derived.Carry
import Derived.Test.YtmmkkggfmigppaaGreatZap
set_option linter.all false
set_option maxRecDepth 8000
set_option maxHeartbeats 16000000
namespace Go.Proofs.YtmmkkggfmigppaaGreat
open Go Go.DI
def ar1:J:= .B (.block 3 (.F [A 0 90 9,b2 1 91 7 3,A 2 92 10,A 3 93 11,aL 5 95 1 5,aA 6 96 95,A 7 97 10,bH 8 98 1 96 97,aA 9 99 98,A 10 100 11,h6 11 101 100 1,bH 12 102 1 99 101,aA 13 103 102,iv 4 94 (.dm 82 [E 91,E 92,E 93]) [(E 102,E 102),(E 98,E 98),(E 95,E 95)],bH 14 104 1 90 94,b4 15 1 104 103])) (.F [A 0 88 11,da 1 89 88,A 2 11 89])
def ar2:J:= .B (.B (.F [A 0 83 11,aL 1 84 3 3,aA 2 85 84,bO 3 86 85,dq 4 87 83 86]) (.aV (E 87) (.skip) (.bh 2))) ar1
def ar0:J:= .B (.F [ba 0 11 1]) (.block 2 (.loop ar2))
def arZ:J:= .B (.F [A 0 73 9,b2 1 74 7 3,A 2 75 10,aL 4 77 0 5,aA 5 78 77,A 6 79 10,bH 7 80 1 78 79,aA 8 81 80,iv 3 76 (.dm 82 [E 74,E 75,.const aP]) [(E 80,E 80),(E 77,E 77)],bH 9 82 1 73 76,b4 10 1 82 81]) ar0
def arY:J:= .B (.block 1 (.B (.B (.F [aL 0 62 1 5,aA 1 63 62,A 2 64 10,bH 3 65 1 63 64,aA 4 66 65,bO 5 67 66,aL 6 68 3 3,aA 7 69 68,bO 8 70 69,h6 9 71 70 1,c9 10 72 .neq (E 67) (E 71)]) (.aV (E 72) (.B (.F [cu 0 6 false]) (.aI)) (.skip))) arZ)) (.F [A 0 60 10,da 1 61 60,A 2 10 61])
def ar3:J:= .B (.B (.F [A 0 55 10,aL 1 56 6 3,aA 2 57 56,bO 3 58 57,dq 4 59 55 58]) (.aV (E 59) (.skip) (.bh 0))) arY
def arR:J:= .B (.block 5 (.F [A 0 112 9,b2 1 113 7 3,A 2 114 12,aL 4 116 2 5,aA 5 117 116,A 6 118 12,bH 7 119 1 117 118,aA 8 120 119,vY 3 115 83 113 114 119 119 116 116,bH 9 121 1 112 115,b4 10 1 121 120])) (.F [A 0 110 12,da 1 111 110,A 2 12 111])
def ar4:J:= .B (.B (.F [A 0 105 12,aL 1 106 4 3,aA 2 107 106,bO 3 108 107,dq 4 109 105 108]) (.aV (E 109) (.skip) (.bh 4))) arR
def arT:J:= .B (.F [A 0 128 14,A 1 129 128,e0 2 130 129 13,iE 3 131 129 7 3,me 4 132 129 85 131,cw 5 133 129 true (.fg .lss .gl (E 130) (E 132)),di 6 134 129 133,A 7 6 134]) (.aI)
def arS:J:= .B (.F [b2 0 123 4 7,A 1 124 9,dr 2 125 84 123 124,A 3 122 125,cE 4 126 0 122,cE 5 127 1 122,A 6 13 126,A 7 14 127]) arT
def arQ:J:= .B (.B (.F [ba 0 12 0]) (.block 4 (.loop ar4))) arS
def arX:J:= .B (.B (.F [ba 0 10 0]) (.block 0 (.loop ar3))) arQ
def arW:J:= .B (.F [A 0 53 9,x0 1 54 1 53,pt 2 (.store 1 (E 54) (.const (.bool true)))]) arX
def arV:J:= .B (.F [aL 0 50 0 7,aA 1 51 50,Ab 2 52 51 51,A 3 9 52]) arW
def arU:J:= .B (.B (.F [A 0 21 8,r0 1 22 21,A 2 23 22,ew 3 24 23 0 5,dZ 4 25 23 24,iM 5 26 23 25,ew 6 27 23 6 3,dZ 7 28 23 27,iM 8 29 23 28,vZ 9 30 23 26 29,cZ 10 31 23 30,A 11 32 31,ew 12 33 32 1 5,dZ 13 34 32 33,iM 14 35 32 34,ew 15 36 32 6 3,dZ 16 37 32 36,iM 17 38 32 37,vZ 18 39 32 35 38,cZ 19 40 32 39,A 20 41 40,ew 21 42 41 2 5,dZ 22 43 41 42,iM 23 44 41 43,ew 24 45 41 4 3,dZ 25 46 41 45,iM 26 47 41 46,vZ 27 48 41 44 47,cZ 28 49 41 48]) (.aV (E 49) (.B (.F [cu 0 6 false]) (.aI)) (.skip))) arV
def arP:J:= .B (.F [b2 0 16 7 3,A 1 17 1,dr 2 18 81 16 17,A 3 15 18,cE 4 19 0 15,cE 5 20 1 15,a2 6 7 (.dz [aP,aP,aP,aG]),b4 7 4 7 19,A 8 8 20]) arU
def arN:J:=
  .B (
  .F [
 dT 0 3 0,
 dT 1 5 2,
 cu 2 6 false]) arP
def ab4:bU:=⟨135,[.bL 6],arN⟩
theorem arO:b3 al 31=some ab4:=by kernel_rfl
def asH:J:= .B (.block 3 (.F [A 0 74 15,A 1 75 10,b2 2 76 2 12,A 3 77 14,A 4 78 16,b7 5 79 128 [E 76,E 77,E 78],bH 6 80 1 75 79,aA 7 81 80,a2 8 82 (.fR 1 1 [.bool false] [(0,1,E 81)]),iC 9 83 1 1 74 82,A 10 15 83])) (.F [A 0 72 16,da 1 73 72,A 2 16 73])
def asU:J:= .B (.B (.F [A 0 67 16,aL 1 68 3 2,aA 2 69 68,bO 3 70 69,dq 4 71 67 70]) (.aV (E 71) (.skip) (.bh 2))) asH
def asG:J:= .B (.B (.F [ba 0 16 1]) (.block 2 (.loop asU))) (.F [aL 0 84 1 13,aA 1 85 84,A 2 86 15,a2 3 87 (.fR 1 1 [aG] [(0,1,E 86)]),iC 4 88 1 24 85 87,aL 5 89 1 13,b4 6 1 89 88])
def asF:J:= .B (.F [aL 0 63 3 2,aA 1 64 63,bO 2 65 64,a2 3 66 (.jY 1 1 [.bool false] (.const aP) (E 65)),A 4 15 66]) asG
def asE:J:= .B (.F [aL 0 52 0 13,aA 1 53 52,A 2 54 10,b2 3 55 2 12,A 4 56 14,iv 5 57 (.dm 127 [E 55,E 56]) [(E 52,E 52)],bH 6 58 1 54 57,aA 7 59 58,a2 8 60 (.fR 1 1 [.bool false] [(0,1,E 59)]),iC 9 61 1 1 53 60,aL 10 62 0 13,b4 11 1 62 61]) asF
def asT:J:= .B (.block 1 (.B (.F [A 0 51 49,A 1 14 51]) asE)) (.F [da 0 90 49,A 1 49 90])
def asS:J:= .B (.aV (E 50) (.skip) (.bh 0)) asT
def asV:J:= .B (.F [dq 0 50 49 48]) asS
def asK:J:= .B (.block 5 (.B (.F [A 0 96 94,A 1 17 96]) (.F [aL 0 97 2 13,aA 1 98 97,A 2 99 10,b2 3 100 2 12,A 4 101 17,iv 5 102 (.dm 129 [E 100,E 101]) [(E 97,E 97)],bH 6 103 1 99 102,aA 7 104 103,a2 8 105 (.fR 1 1 [.bool false] [(0,1,E 104)]),iC 9 106 1 1 98 105,aL 10 107 2 13,b4 11 1 107 106]))) (.F [da 0 108 94,A 1 94 108])
def asJ:J:= .B (.aV (E 95) (.skip) (.bh 4)) asK
def asW:J:= .B (.F [dq 0 95 94 93]) asJ
def asL:J:= .B (.F [b2 0 109 3 13,b4 1 3 4 109,cu 2 5 true]) (.aI)
def asI:J:= .B (.B (.F [aL 0 91 4 2,aA 1 92 91,bO 2 93 92,ba 3 94 0]) (.block 4 (.loop asW))) asL
def asR:J:= .B (.B (.F [aL 0 46 6 2,aA 1 47 46,bO 2 48 47,ba 3 49 0]) (.block 0 (.loop asV))) asI
def asQ:J:= .B (.F [a2 0 13 (.dz [aG,aG,aG])]) asR
def asP:J:= .B (.F [aL 0 39 6 2,aA 1 40 39,bO 2 41 40,aL 3 42 3 2,aA 4 43 42,bO 5 44 43,a2 6 45 (.eY [aP,aP] [(0,1,E 41),(1,1,E 44)]),a2 7 12 (.dz [aP,aP]),b4 8 2 12 45]) asQ
def asO:J:= .B (.B (.F [A 0 34 9,b2 1 35 7 2,b7 2 36 126 [E 35],c9 3 37 .eql (E 34) (E 36)]) (.aV (E 37) (.B (.F [a2 0 38 (.eY [aG,aG,aG] []),b4 1 3 4 38,cu 2 5 false]) (.aI)) (.skip))) asP
def asN:J:= .B (.F [b2 0 28 4 6,b7 1 29 125 [E 28],A 2 27 29,cE 3 30 0 27,cE 4 31 1 27,cE 5 32 2 27,cE 6 33 3 27,A 7 8 30,A 8 9 31,A 9 10 32,A 10 11 33]) asO
def asM:J:= .B (.B (.F [A 0 24 7,r0 1 25 24]) (.aV (E 25) (.B (.F [a2 0 26 (.eY [aG,aG,aG] []),b4 1 3 4 26,cu 2 5 false]) (.aI)) (.skip))) asN
def asD:J:= .B (.F [b2 0 19 7 2,A 1 20 1,dr 2 21 124 19 20,A 3 18 21,cE 4 22 0 18,cE 5 23 1 18,a2 6 6 (.dz [aP,aP,aP,aG]),b4 7 4 6 22,A 8 7 23]) asM
def asB:J:=
  .B (
  .F [
 dT 0 2 0,
 a2 1 4 (.dz [aG,aG,aG]),
 cu 2 5 false]) asD
def ac4:bU:=⟨110,[.hZ 4 true 3,.bL 5],asB⟩
theorem asC:b3 al 79=some ac4:=by kernel_rfl
def atb:J:= .B (.B (.F [A 0 71 10,jC 1 72 71 0]) (.aV (E 72) (.F [aL 0 73 1 8,aA 1 74 73,aL 2 75 2 8,aA 3 76 75,gI 4 77 74 76,A 5 10 77]) (.skip))) (.F [aL 0 78 3 6,aA 1 79 78,b2 2 80 7 2,A 3 81 7,aL 4 82 3 2,aA 5 83 82,A 6 84 9,bH 7 85 7 83 84,aL 8 86 2 85,aA 9 87 86,b2 11 89 7 2,A 12 90 7,A 13 91 9,A 15 93 10,iv 10 88 (.dm 82 [E 80,E 81,E 87]) [(E 2,E 2),(E 78,E 78)],iv 14 92 (.dm 82 [E 89,E 90,E 91]) [(E 78,E 78)],a2 16 94 (.eY [aP,aP,aP,aP] [(0,1,E 88),(1,1,E 92),(2,1,E 93)]),C7 17 95 94,iC 18 96 4 32 79 95,aL 19 97 3 6,b4 20 1 97 96])
def ata:J:= .B (.block 3 (.B (.F [aL 0 62 3 2,aA 1 63 62,A 2 64 9,bH 3 65 7 63 64,aL 4 66 1 65,aA 5 67 66,aL 6 68 4 8,a2 7 69 (.oD 1 5 (E 68) (E 67)),aA 8 70 69,A 9 10 70]) atb)) (.F [A 0 60 9,da 1 61 60,A 2 9 61])
def atd:J:= .B (.B (.F [A 0 55 9,aL 1 56 3 2,aA 2 57 56,bO 3 58 57,dq 4 59 55 58]) (.aV (E 59) (.skip) (.bh 2))) ata
def as0:J:= .B (.block 5 (.B (.F [b2 0 105 17 8,b2 1 106 7 2,A 2 107 11,b7 3 108 130 [E 105,E 106,E 107]]) (.aV (E 108) (.F [aL 0 109 3 6,aA 1 110 109,b2 2 111 7 2,A 3 112 7,aL 4 113 4 2,aA 5 114 113,A 6 115 11,bH 7 116 3 114 115,aL 8 117 2 116,aA 9 118 117,b2 11 120 7 2,A 12 121 11,iv 10 119 (.dm 82 [E 111,E 112,E 118]) [(E 2,E 2),(E 109,E 109)],iv 13 122 (.dm 83 [E 120,E 121]) [(E 109,E 109)],a2 14 123 (.eY [aP,aP,aP,aP] [(0,1,E 119),(1,1,E 122),(2,1,.const (.int .i64 1))]),C7 15 124 123,iC 16 125 4 32 110 124,aL 17 126 3 6,b4 18 1 126 125]) (.skip)))) (.F [A 0 103 11,da 1 104 103,A 2 11 104])
def ate:J:= .B (.B (.F [A 0 98 11,aL 1 99 4 2,aA 2 100 99,bO 3 101 100,dq 4 102 98 101]) (.aV (E 102) (.skip) (.bh 4))) as0
def atc:J:= .B (.F [ba 0 11 0]) (.block 4 (.loop ate))
def as9:J:= .B (.B (.F [ba 0 9 1]) (.block 2 (.loop atd))) atc
def as8:J:= .B (.F [aL 0 41 3 6,aA 1 42 41,b2 2 43 7 2,A 3 44 7,aL 5 46 1 8,aA 6 47 46,aL 7 48 2 8,aA 8 49 48,gI 9 50 47 49,iv 4 45 (.dm 82 [E 43,E 44,.const aP]) [(E 48,E 48),(E 46,E 46),(E 41,E 41)],a2 10 51 (.eY [aP,aP,aP,aP] [(1,1,E 45),(2,1,E 50)]),C7 11 52 51,iC 12 53 4 32 42 52,aL 13 54 3 6,b4 14 1 54 53]) as9
def as7:J:= .B (.block 1 (.B (.F [aL 0 31 5 2,aA 1 32 31,aL 2 33 6 2,aA 3 34 33,A 4 35 7,bH 5 36 2 34 35,aL 6 37 1 36,aA 7 38 37,bH 8 39 17 32 38,b2 9 40 17 39,a2 10 8 (.dz [.string ⟨#[]⟩,aP,aP,aP,aP,aP,aP,aP,aP,aG,aG,.bool false,aG,aG,.bool false,aG,aG]),b4 11 17 8 40]) as8)) (.F [A 0 29 7,da 1 30 29,A 2 7 30])
def atf:J:= .B (.B (.F [A 0 24 7,aL 1 25 6 2,aA 2 26 25,bO 3 27 26,dq 4 28 24 27]) (.aV (E 28) (.skip) (.bh 0))) as7
def as3:J:= .B (.block 7 (.F [aL 0 137 3 6,aA 1 138 137,b2 2 139 7 2,A 3 140 13,A 5 142 12,A 6 143 13,bH 7 144 1 142 143,aA 8 145 144,vY 4 141 83 139 140 144 144 137 137,a2 9 146 (.eY [aP,aP,aP,aP] [(0,1,E 141),(1,1,.const (.int .i64 1)),(2,1,E 145)]),C7 10 147 146,iC 11 148 4 32 138 147,aL 12 149 3 6,b4 13 1 149 148])) (.F [A 0 135 13,da 1 136 135,A 2 13 136])
def atg:J:= .B (.B (.F [A 0 130 13,aL 1 131 4 2,aA 2 132 131,bO 3 133 132,dq 4 134 130 133]) (.aV (E 134) (.skip) (.bh 6))) as3
def as4:J:= .B (.F [b2 0 150 4 6,b4 1 4 4 150,ba 2 5 0]) (.aI)
def as2:J:= .B (.B (.F [ba 0 13 0]) (.block 6 (.loop atg))) as4
def as1:J:= .B (.F [b2 0 127 7 2,A 1 128 1,dr 2 129 52 127 128,A 3 12 129]) as2
def as6:J:= .B (.B (.F [ba 0 7 0]) (.block 0 (.loop atf))) as1
def as5:J:= .B (.F [b2 0 18 7 2,aL 1 19 4 2,aA 2 20 19,bO 3 21 20,dr 4 22 83 18 21,a2 5 23 (.eY [aP,aP,aP,aG] [(0,1,E 22),(2,1,.const (.int .i64 1))]),a2 6 6 (.dz [aP,aP,aP,aG]),b4 7 4 6 23]) as6
def asZ:J:= .B (.B (.F [b2 0 14 7 2,b7 1 15 87 [E 14],ht 2 16 15]) (.aV (E 16) (.B (.F [a2 0 17 (.eY [aP,aP,aP,aG] []),b4 1 4 4 17,ba 2 5 1]) (.aI)) (.skip))) as5
def asX:J:=
  .B (
  .F [
 dT 0 2 0,
 a2 1 4 (.dz [aP,aP,aP,aG]),
 ba 2 5 0]) asZ
def ac5:bU:=⟨151,[.hZ 4 true 4,.bL 5],asX⟩
theorem asY:b3 al 81=some ac5:=by kernel_rfl
def atk:J:= .B (.F [aL 0 11 6 3,aA 1 12 11,bO 2 13 12,kQ 3 14 2 13,A 4 15 1,aL 5 16 3 3,aA 6 17 16,bO 7 18 17,h6 8 19 18 1,c9 9 20 .mul (E 15) (E 19),gI 10 21 14 20,A 11 22 2,gI 12 23 21 22,h6 13 24 23 1,A 14 6 24]) (.aI)
def atj:J:= .B (.B (.F [A 0 7 2,jC 1 8 7 0]) (.aV (E 8) (.B (.F [A 0 9 1,kQ 1 10 2 9,A 2 6 10]) (.aI)) (.skip))) atk
def ath:J:=
  .B (
  .F [
 dT 0 3 0,
 ba 1 6 0]) atj
def ac6:bU:=⟨25,[.bL 6],ath⟩
theorem ati:b3 al 82=some ac6:=by kernel_rfl
def atn:J:= .B (.F [aL 0 5 6 2,aA 1 6 5,bO 2 7 6,aL 3 8 3 2,aA 4 9 8,bO 5 10 9,c9 6 11 .mul (E 7) (E 10),kQ 7 12 2 11,A 8 13 1,gI 9 14 12 13,A 10 4 14]) (.aI)
def atl:J:=
  .B (
  .F [
 dT 0 2 0,
 ba 1 4 0]) atn
def ac7:bU:=⟨15,[.bL 4],atl⟩
theorem atm:b3 al 83=some ac7:=by kernel_rfl
def atA:J:= .B (.block 1 (.F [A 0 12 3,b2 1 13 7 1,A 2 14 4,dr 3 15 132 13 14,gI 4 16 12 15,A 5 3 16])) (.F [A 0 10 4,da 1 11 10,A 2 4 11])
def atC:J:= .B (.B (.F [A 0 5 4,aL 1 6 6 1,aA 2 7 6,bO 3 8 7,dq 4 9 5 8]) (.aV (E 9) (.skip) (.bh 0))) atA
def atB:J:= .B (.F [A 0 17 3,A 1 2 17]) (.aI)
def atz:J:= .B (.B (.F [ba 0 4 0]) (.block 0 (.loop atC))) atB
def aty:J:= .B (.F [ba 0 3 0]) atz
def atw:J:=
  .B (
  .F [
 dT 0 1 0,
 ba 1 2 0]) aty
def ac9:bU:=⟨18,[.bL 2],atw⟩
theorem atx:b3 al 85=some ac9:=by kernel_rfl
def akN:J:= .B (.F [aL 0 68 0 15,aA 1 69 68,h6 2 70 69 2,aL 3 71 0 12,aA 4 72 71,c9 5 73 .sub (E 70) (E 72),aL 6 74 1 12,aA 7 75 74,h6 8 76 75 1,c9 9 77 .quo (E 73) (E 76),A 10 16 77]) (.F [A 0 78 13,A 1 79 16,A 2 80 13,A 3 81 16,bH 4 82 1 80 81,aA 5 83 82,aL 6 84 1 15,aA 7 85 84,b2 8 86 2 12,iv 9 87 (.dm 129 [E 86,.const aP]) [(E 84,E 84),(E 82,E 82)],c9 10 88 .sub (E 85) (E 87),q2 11 89 88,iC 12 90 1 8 83 89,bH 13 91 1 78 79,b4 14 1 91 90])
def akM:J:= .B (.B (.F [aL 0 56 1 15,aA 1 57 56,b2 2 58 2 12,iv 3 59 (.dm 129 [E 58,.const aP]) [(E 56,E 56)],dq 4 60 57 59,A 5 61 60,dG 6 62 61 8,dG 7 63 61 14,py 8 64 61 1 62 63,dZ 9 65 61 64,z8 10 66 61 65,cZ 11 67 61 66]) (.aV (E 67) (.bh 1) (.skip))) akN
def akW:J:= .B (.block 1 (.B (.F [A 0 53 51,bH 1 54 4 49 51,b2 2 55 4 54,a2 3 15 (.dz [aP,aP,aP,aP]),A 4 14 53,b4 5 4 15 55]) akM)) (.F [da 0 92 51,A 1 51 92])
def akV:J:= .B (.aV (E 52) (.skip) (.bh 0)) akW
def akX:J:= .B (.F [dq 0 52 51 50]) akV
def akO:J:= .B (.F [A 0 93 13,A 1 4 93,ba 2 5 0]) (.aI)
def akU:J:= .B (.B (.F [aL 0 48 3 6,aA 1 49 48,bO 2 50 49,ba 3 51 0]) (.block 0 (.loop akX))) akO
def akT:J:= .B (.F [aL 0 44 6 2,aA 1 45 44,bO 2 46 45,a2 3 47 (.jY 1 24 [aG] (E 46) (E 46)),A 4 13 47]) akU
def akS:J:= .B (.F [aL 0 37 6 2,aA 1 38 37,bO 2 39 38,aL 3 40 3 2,aA 4 41 40,bO 5 42 41,a2 6 43 (.eY [aP,aP] [(0,1,E 39),(1,1,E 42)]),a2 7 12 (.dz [aP,aP]),b4 8 2 12 43]) akT
def akR:J:= .B (.B (.F [A 0 33 9,b2 1 34 7 2,b7 2 35 126 [E 34],dq 3 36 33 35]) (.aV (E 36) (.B (.F [eN 0 4,ba 1 5 12]) (.aI)) (.skip))) akS
def akQ:J:= .B (.F [b2 0 27 4 6,b7 1 28 125 [E 27],A 2 26 28,cE 3 29 0 26,cE 4 30 1 26,cE 5 31 2 26,cE 6 32 3 26,A 7 8 29,A 8 9 30,A 9 10 31,A 10 11 32]) akR
def akP:J:= .B (.B (.F [A 0 23 7,r0 1 24 23]) (.aV (E 24) (.B (.F [A 0 25 7,eN 1 4,A 2 5 25]) (.aI)) (.skip))) akQ
def akL:J:= .B (.F [b2 0 18 7 2,A 1 19 1,dr 2 20 124 18 19,A 3 17 20,cE 4 21 0 17,cE 5 22 1 17,a2 6 6 (.dz [aP,aP,aP,aG]),b4 7 4 6 21,A 8 7 22]) akP
def akJ:J:=
  .B (
  .F [
 dT 0 2 0,
 eN 1 4,
 ba 2 5 0]) akL
def Yz:bU:=⟨94,[.bL 4,.bL 5],akJ⟩
theorem akK:b3 al 118=some Yz:=by kernel_rfl
def alp:J:= .B (.block 3 (.B (.F [bH 0 63 1 59 61,aA 1 64 63,A 2 14 64]) (.F [A 0 65 12,A 1 66 14,bH 2 67 1 65 66,pt 3 (.store 1 (E 67) (.const (.bool true)))]))) (.F [da 0 68 61,A 1 61 68])
def alo:J:= .B (.aV (E 62) (.skip) (.bh 2)) alp
def alO:J:= .B (.F [dq 0 62 61 60]) alo
def alx:J:= .B (.B (.F [A 0 94 17,jC 1 95 94 0]) (.aV (E 95) (.F [aL 0 96 1 11,aA 1 97 96,aL 2 98 2 11,aA 3 99 98,gI 4 100 97 99,A 5 17 100]) (.skip))) (.F [A 0 101 8,b2 1 102 2 6,A 2 103 9,aL 3 104 2 16,aA 4 105 104,b2 6 107 2 6,A 7 108 9,A 8 109 15,A 10 111 17,iv 5 106 (.dm 128 [E 102,E 103,E 105]) [(E 6,E 6)],b7 9 110 128 [E 107,E 108,E 109],a2 11 112 (.iy (E 101) [E 106,E 110,E 111])])
def alw:J:= .B (.F [aL 0 89 1 16,aA 1 90 89,aL 2 91 4 11,a2 3 92 (.oD 1 5 (E 91) (E 90)),aA 4 93 92,A 5 17 93]) alx
def alv:J:= .B (.B (.F [A 0 87 15,jC 1 88 87 0]) (.aV (E 88) (.bh 5) (.skip))) alw
def alu:J:= .B (.block 5 (.B (.F [A 0 84 82,bH 1 85 7 80 82,b2 2 86 7 85,a2 3 16 (.dz [.string ⟨#[]⟩,aP,aP,aP,.bool false,aG,aG]),A 4 15 84,b4 5 7 16 86]) alv)) (.F [da 0 113 82,A 1 82 113])
def als:J:= .B (.aV (E 83) (.skip) (.bh 4)) alu
def alP:J:= .B (.F [dq 0 83 82 81]) als
def alC:J:= .B (.F [A 0 122 12,aL 1 123 1 19,aA 2 124 123,bH 3 125 1 122 124,aA 4 126 125]) (.aV (E 126) (.F [A 0 127 8,b2 1 128 2 6,A 2 129 9,aL 3 130 2 19,aA 4 131 130,b2 6 133 2 6,A 7 134 18,iv 5 132 (.dm 128 [E 128,E 129,E 131]) [(E 6,E 6)],dr 8 135 129 133 134,a2 9 136 (.iy (E 127) [E 132,E 135,.const (.int .i64 1)])]) (.skip))
def alB:J:= .B (.block 7 (.B (.F [A 0 119 117,bH 1 120 3 115 117,b2 2 121 3 120,a2 3 19 (.dz [.string ⟨#[]⟩,aP,aP]),A 4 18 119,b4 5 3 19 121]) alC)) (.F [da 0 137 117,A 1 117 137])
def alA:J:= .B (.aV (E 118) (.skip) (.bh 6)) alB
def alQ:J:= .B (.F [dq 0 118 117 116]) alA
def alz:J:= .B (.F [aL 0 114 4 2,aA 1 115 114,bO 2 116 115,ba 3 117 0]) (.block 6 (.loop alQ))
def alr:J:= .B (.B (.F [aL 0 79 3 2,aA 1 80 79,bO 2 81 80,ba 3 82 0]) (.block 4 (.loop alP))) alz
def alq:J:= .B (.F [A 0 69 8,b2 1 70 2 6,A 2 71 9,aL 4 73 1 11,aA 5 74 73,aL 6 75 2 11,aA 7 76 75,gI 8 77 74 76,vY 3 72 127 70 71 75 75 73 73,a2 9 78 (.iy (E 69) [.const aP,E 72,E 77])]) alr
def aln:J:= .B (.B (.F [aL 0 58 9 11,aA 1 59 58,bO 2 60 59,ba 3 61 0]) (.block 2 (.loop alO))) alq
def alN:J:= .B (.F [aL 0 54 2 2,aA 1 55 54,bO 2 56 55,Ab 3 57 56 56,A 4 12 57]) aln
def alM:J:= .B (.F [aL 0 48 5 2,aA 1 49 48,aL 2 50 1 10,aA 3 51 50,bH 4 52 17 49 51,b2 5 53 17 52,a2 6 11 (.dz [.string ⟨#[]⟩,aP,aP,aP,aP,aP,aP,aP,aP,aG,aG,.bool false,aG,aG,.bool false,aG,aG]),b4 7 17 11 53]) alN
def alL:J:= .B (.block 1 (.B (.F [A 0 45 43,bH 1 46 2 41 43,b2 2 47 2 46,a2 3 10 (.dz [.string ⟨#[]⟩,aP]),A 4 9 45,b4 5 2 10 47]) alM)) (.F [da 0 138 43,A 1 43 138])
def alK:J:= .B (.aV (E 44) (.skip) (.bh 0)) alL
def alR:J:= .B (.F [dq 0 44 43 42]) alK
def alF:J:= .B (.block 9 (.B (.F [A 0 145 143,bH 1 146 1 141 143,aA 2 147 146,A 3 20 145,A 4 21 147]) (.F [A 0 148 8,b2 1 149 2 6,A 2 150 20,dr 3 151 129 149 150,A 4 152 21,a2 5 153 (.iy (E 148) [E 151,.const (.int .i64 1),E 152])]))) (.F [da 0 154 143,A 1 143 154])
def alE:J:= .B (.aV (E 144) (.skip) (.bh 8)) alF
def alS:J:= .B (.F [dq 0 144 143 142]) alE
def alG:J:= .B (.F [b2 0 155 4 7,b4 1 4 4 155,ba 2 5 0]) (.aI)
def alD:J:= .B (.B (.F [b2 0 139 7 2,A 1 140 1,dr 2 141 63 139 140,bO 3 142 141,ba 4 143 0]) (.block 8 (.loop alS))) alG
def alJ:J:= .B (.B (.F [aL 0 40 6 2,aA 1 41 40,bO 2 42 41,ba 3 43 0]) (.block 0 (.loop alR))) alD
def alI:J:= .B (.F [a2 0 39 (.td (.func 183) [] [E 7]),A 1 8 39]) alJ
def alH:J:= .B (.F [b2 0 33 2 6,aL 1 34 4 2,aA 2 35 34,bO 3 36 35,dr 4 37 129 33 36,a2 5 38 (.eY [aP,aP,aP,aG] [(0,1,E 37),(1,1,.const aP),(2,1,.const (.int .i64 1))]),a2 6 7 (.dz [aP,aP,aP,aG]),b4 7 4 7 38]) alI
def aly:J:= .B (.F [aL 0 26 6 2,aA 1 27 26,bO 2 28 27,aL 3 29 3 2,aA 4 30 29,bO 5 31 30,a2 6 32 (.eY [aP,aP] [(0,1,E 28),(1,1,E 31)]),a2 7 6 (.dz [aP,aP]),b4 8 2 6 32]) alH
def alm:J:= .B (.B (.F [b2 0 22 7 2,b7 1 23 62 [E 22],r0 2 24 23]) (.aV (E 24) (.B (.F [a2 0 25 (.eY [aP,aP,aP,aG] []),b4 1 4 4 25,ba 2 5 1]) (.aI)) (.skip))) aly
def alj:J:=
  .B (
  .F [
 dT 0 2 0,
 a2 1 4 (.dz [aP,aP,aP,aG]),
 ba 2 5 0]) alm
def YD:bU:=⟨156,[.hZ 4 true 4,.bL 5],alj⟩
theorem alk:b3 al 124=some YD:=by kernel_rfl
def ama:J:= .B (.block 1 (.B (.F [bH 0 11 2 7 9,b2 1 12 2 11,a2 2 5 (.dz [.string ⟨#[]⟩,aP]),b4 3 2 5 12]) (.F [A 0 13 3,aL 1 14 5 1,aA 2 15 14,aL 3 16 1 5,aA 4 17 16,bH 5 18 17 15 17,aL 6 19 1 18,aA 7 20 19,aL 8 21 5 1,aA 9 22 21,aL 10 23 1 5,aA 11 24 23,bH 12 25 17 22 24,aL 13 26 2 25,aA 14 27 26,gI 15 28 20 27,gI 16 29 13 28,A 17 3 29]))) (.F [da 0 30 9,A 1 9 30])
def al9:J:= .B (.aV (E 10) (.skip) (.bh 0)) ama
def amc:J:= .B (.F [dq 0 10 9 8]) al9
def amb:J:= .B (.F [A 0 31 3,A 1 2 31]) (.aI)
def al8:J:= .B (.B (.F [aL 0 6 6 1,aA 1 7 6,bO 2 8 7,ba 3 9 0]) (.block 0 (.loop amc))) amb
def al7:J:= .B (.F [ba 0 3 0]) al8
def al5:J:=
  .B (
  .F [
 dT 0 1 0,
 ba 1 2 0]) al7
def YF:bU:=⟨32,[.bL 2],al5⟩
theorem al6:b3 al 126=some YF:=by kernel_rfl
def amf:J:= .B (.F [A 0 5 1,kQ 1 6 2 5,A 2 4 6]) (.aI)
def amd:J:=
  .B (
  .F [
 dT 0 2 0,
 ba 1 4 0]) amf
def YG:bU:=⟨7,[.bL 4],amd⟩
theorem ame:b3 al 127=some YG:=by kernel_rfl
def amj:J:= .B (.F [aL 0 12 0 3,aA 1 13 12,kQ 2 14 2 13,A 3 15 1,aL 4 16 1 3,aA 5 17 16,h6 6 18 17 1,c9 7 19 .mul (E 15) (E 18),gI 8 20 14 19,A 9 21 2,gI 10 22 20 21,h6 11 23 22 1,A 12 6 23]) (.aI)
def ami:J:= .B (.B (.F [A 0 7 2,jC 1 8 7 0]) (.aV (E 8) (.B (.F [b2 0 9 2 3,A 1 10 1,dr 2 11 127 9 10,A 3 6 11]) (.aI)) (.skip))) amj
def amg:J:=
  .B (
  .F [
 dT 0 3 0,
 ba 1 6 0]) ami
def YH:bU:=⟨24,[.bL 6],amg⟩
theorem amh:b3 al 128=some YH:=by kernel_rfl
def amm:J:= .B (.F [aL 0 5 0 2,aA 1 6 5,aL 2 7 1 2,aA 3 8 7,c9 4 9 .mul (E 6) (E 8),kQ 5 10 2 9,A 6 11 1,gI 7 12 10 11,A 8 4 12]) (.aI)
def amk:J:=
  .B (
  .F [
 dT 0 2 0,
 ba 1 4 0]) amm
def YI:bU:=⟨13,[.bL 4],amk⟩
theorem aml:b3 al 129=some YI:=by kernel_rfl
def anu:J:=
  .F [
 aL 0 7 3 3,
 aA 1 8 7,
 A 2 9 0,
 A 3 10 1,
 A 4 11 2,
 a2 5 12 (.eY [aP,aP,aP,aP] [(0,1,E 9),(1,1,E 10),(2,1,E 11)]),
 C7 6 13 12,
 iC 7 14 4 32 8 13,
 aL 8 15 3 3,
 b4 9 1 15 14]
def ZG:bU:=⟨16,[],anu⟩
theorem anv:b3 al 183=some ZG:=by kernel_rfl
def att:J:= .B (.block 1 (.B (.F [A 0 40 1,aL 1 41 3 2,aA 2 42 41,A 3 43 7,bH 4 44 4 42 43,aL 5 45 0 44,aA 6 46 45,bH 7 47 1 40 46,aA 8 48 47,A 9 49 48,e0 10 50 49 1,ea 11 51 49 3 2,ep 12 52 49 51,e0 13 53 49 7,pz 14 54 49 4 52 53,ea 15 55 49 1 54,ep 16 56 49 55,pz 17 57 49 1 50 56,ep 18 58 49 57,rZ 19 59 49 58,di 20 60 49 59]) (.aV (E 60) (.F [A 0 61 6,aL 1 62 3 2,aA 2 63 62,A 3 64 7,bH 4 65 4 63 64,aL 5 66 2 65,aA 6 67 66,gI 7 68 61 67,A 8 6 68]) (.skip)))) (.F [A 0 38 7,da 1 39 38,A 2 7 39])
def atv:J:= .B (.B (.F [A 0 33 7,aL 1 34 3 2,aA 2 35 34,bO 3 36 35,dq 4 37 33 36]) (.aV (E 37) (.skip) (.bh 0))) att
def atu:J:= .B (.F [A 0 69 6,A 1 4 69,cu 2 5 true]) (.aI)
def ats:J:= .B (.B (.F [ba 0 7 0]) (.block 0 (.loop atv))) atu
def atr:J:= .B (.F [ba 0 6 0]) ats
def atq:J:= .B (.B (.F [b2 0 8 4 2,b7 1 9 131 [E 8],ht 2 10 9,A 3 11 10,dG 4 12 11 1,iM 5 13 11 12,ew 6 14 11 0 2,dZ 7 15 11 14,vZ 8 16 11 13 15,cZ 9 17 11 16,A 10 18 17,dG 11 19 18 1,ew 12 20 18 1 2,dZ 13 21 18 20,py 14 22 18 1 19 21,dZ 15 23 18 22,iF 16 24 18 23,cZ 17 25 18 24,A 18 26 25,dG 19 27 26 1,ew 20 28 26 2 2,dZ 21 29 26 28,py 22 30 26 1 27 29,dZ 23 31 26 30,cZ 24 32 26 31]) (.aV (E 32) (.B (.F [ba 0 4 0,cu 1 5 false]) (.aI)) (.skip))) atr
def ato:J:=
  .B (
  .F [
 dT 0 2 0,
 ba 1 4 0,
 cu 2 5 false]) atq
def ac8:bU:=⟨70,[.bL 4,.bL 5],ato⟩
theorem atp:b3 al 84=some ac8:=by kernel_rfl
def al0:J:= .B (.F [A 0 33 6,iD 1 34 33,aL 2 35 5 34,aA 3 36 35,aL 4 37 0 8,aA 5 38 37,A 6 39 6,iD 7 40 39,aL 8 41 5 40,aA 9 42 41,aL 10 43 0 8,aA 11 44 43,bH 12 45 1 42 44,aA 13 46 45,A 14 47 7,q2 15 48 47,iv 16 49 (.app 1 8 (E 46) (E 48)) [(E 37,E 46),(E 35,E 46)],bH 17 50 1 36 38,b4 18 1 50 49]) (.F [A 0 51 6,iD 1 52 51,aL 2 53 5 52,aA 3 54 53,aL 4 55 1 8,aA 5 56 55,A 6 57 6,iD 7 58 57,aL 8 59 5 58,aA 9 60 59,aL 10 61 1 8,aA 11 62 61,bH 12 63 1 60 62,aA 13 64 63,A 14 65 7,c9 15 66 .sub (.const (.int .i64 (-1))) (E 65),q2 16 67 66,iv 17 68 (.app 1 8 (E 64) (E 67)) [(E 55,E 64),(E 53,E 64)],bH 18 69 1 54 56,b4 19 1 69 68])
def alZ:J:= .B (.block 1 (.B (.F [A 0 30 28,bH 1 31 4 26 28,b2 2 32 4 31,a2 3 8 (.dz [aP,aP,aP,aP]),A 4 7 30,b4 5 4 8 32]) al0)) (.F [da 0 70 28,A 1 28 70])
def alY:J:= .B (.aV (E 29) (.skip) (.bh 0)) alZ
def al3:J:= .B (.F [dq 0 29 28 27]) alY
def al2:J:= .B (.B (.F [A 0 76 11,aL 1 77 2 1,aA 2 78 77,bH 3 79 1 76 78,aA 4 80 79,ht 5 81 80]) (.aV (E 81) (.B (.F [A 0 82 6,iD 1 83 82,aL 2 84 4 83,aA 3 85 84,A 4 86 9,A 5 87 11,A 6 2 85,A 7 3 86,A 8 4 87,ba 9 5 0]) (.aI)) (.skip))) (.F [A 0 88 9,A 1 89 6,A 2 90 10,dr 3 91 186 89 90,gI 4 92 88 91,A 5 9 92])
def al4:J:= .block 3 (.B (.F [A 0 72 6,b7 1 73 185 [E 72],A 2 71 73,cE 3 74 0 71,cE 4 75 1 71,A 5 10 74,A 6 11 75]) al2)
def al1:J:= .B (.F [ba 0 9 0]) (.block 2 (.loop al4))
def alX:J:= .B (.B (.F [aL 0 25 3 1,aA 1 26 25,bO 2 27 26,ba 3 28 0]) (.block 0 (.loop al3))) al1
def alW:J:= .B (.F [b2 0 15 4 1,aL 1 16 3 1,aA 2 17 16,bO 3 18 17,aL 5 20 0 1,aA 6 21 20,a2 4 19 (.jY 1 8 [aP] (E 18) (E 18)),a2 7 22 (.jY 1 24 [aG] (E 21) (E 21)),a2 8 23 (.eY [aP,aP,aP,aG,aG,aG] [(0,4,E 15),(4,1,E 19),(5,1,E 22)]),dT 9 24 23,A 10 6 24]) alX
def alV:J:= .B (.B (.F [b2 0 12 4 1,b7 1 13 184 [E 12],ht 2 14 13]) (.aV (E 14) (.B (.F [eN 0 2,ba 1 3 0,eN 2 4,ba 3 5 1]) (.aI)) (.skip))) alW
def alT:J:=
  .B (
  .F [
 dT 0 1 0,
 eN 1 2,
 ba 2 3 0,
 eN 3 4,
 ba 4 5 0]) alV
def YE:bU:=⟨93,[.bL 2,.bL 3,.bL 4,.bL 5],alT⟩
theorem alU:b3 al 125=some YE:=by kernel_rfl
def amy:J:= .B (.F [aL 0 62 0 4,aA 1 63 62,lz 2 64 63 0,A 3 65 64,ew 4 66 65 0 4,dZ 5 67 65 66,ew 6 68 65 0 1,dZ 7 69 65 68,z7 8 70 65 67 69,cZ 9 71 65 70,A 10 72 71,ew 11 73 72 1 4,dZ 12 74 72 73,z6 13 75 72 74,cZ 14 76 72 75,A 15 77 76,ew 16 78 77 1 4,dZ 17 79 77 78,ew 18 80 77 0 1,dZ 19 81 77 80,z7 20 82 77 79 81,cZ 21 83 77 82,A 22 84 83,ew 23 85 84 2 4,dZ 24 86 84 85,z6 25 87 84 86,cZ 26 88 84 87,A 27 89 88,ew 28 90 89 2 4,dZ 29 91 89 90,lB 30 92 89 91 2147483647,cZ 31 93 89 92]) (.aV (E 93) (.B (.F [cu 0 2 false]) (.aI)) (.skip))
def amx:J:= .B (.block 1 (.B (.F [aL 0 57 3 1,aA 1 58 57,A 2 59 3,bH 3 60 4 58 59,b2 4 61 4 60,a2 5 4 (.dz [aP,aP,aP,aP]),b4 6 4 4 61]) amy)) (.F [A 0 55 3,da 1 56 55,A 2 3 56])
def amA:J:= .B (.B (.F [A 0 50 3,aL 1 51 3 1,aA 2 52 51,bO 3 53 52,dq 4 54 50 53]) (.aV (E 54) (.skip) (.bh 0))) amx
def amz:J:= .B (.F [cu 0 2 true]) (.aI)
def amw:J:= .B (.B (.F [ba 0 3 0]) (.block 0 (.loop amA))) amz
def amv:J:= .B (.B (.F [aL 0 5 0 1,aA 1 6 5,lz 2 7 6 2,A 3 8 7,ew 4 9 8 0 1,dZ 5 10 8 9,lB 6 11 8 10 700,cZ 7 12 8 11,A 8 13 12,ew 9 14 13 3 1,dZ 10 15 13 14,iM 11 16 13 15,lB 12 17 13 16 2500,cZ 13 18 13 17,A 14 19 18,ew 15 20 19 1 1,dZ 16 21 19 20,z6 17 22 19 21,cZ 18 23 19 22,A 19 24 23,ew 20 25 24 1 1,dZ 21 26 24 25,ew 22 27 24 0 1,dZ 23 28 24 27,z7 24 29 24 26 28,cZ 25 30 24 29,A 26 31 30,ew 27 32 31 2 1,dZ 28 33 31 32,z6 29 34 31 33,cZ 30 35 31 34,A 31 36 35,ew 32 37 36 2 1,dZ 33 38 36 37,ew 34 39 36 0 1,dZ 35 40 36 39,z7 36 41 36 38 40,cZ 37 42 36 41,A 38 43 42,ew 39 44 43 1 1,dZ 40 45 43 44,ew 41 46 43 2 1,dZ 42 47 43 46,cw 43 48 43 false (.fg .eql .gl (E 45) (E 47)),cZ 44 49 43 48]) (.aV (E 49) (.B (.F [cu 0 2 false]) (.aI)) (.skip))) amw
def amt:J:=
  .B (
  .F [
 dT 0 1 0,
 cu 1 2 false]) amv
def YK:bU:=⟨94,[.bL 2],amt⟩
theorem amu:b3 al 131=some YK:=by kernel_rfl
def anE:J:= .B (.F [A 0 49 3,aL 1 50 0 5,aA 2 51 50,a2 3 52 (.iy (E 49) [E 51]),ht 4 53 52,A 5 54 53,dG 6 55 54 3,ew 7 56 54 1 5,dZ 8 57 54 56,cw 9 58 54 false (.iy (E 55) [E 57]),iF 10 59 54 58,cZ 11 60 54 59,A 12 61 60,ew 13 62 61 2 5,dZ 14 63 61 62,z6 15 64 61 63,cZ 16 65 61 64,A 17 66 65,ew 18 67 66 2 5,dZ 19 68 66 67,lB 20 69 66 68 2147483647,cZ 21 70 66 69]) (.aV (E 70) (.B (.F [cu 0 2 false]) (.aI)) (.skip))
def anD:J:= .B (.block 1 (.B (.F [bH 0 47 4 43 45,b2 1 48 4 47,a2 2 5 (.dz [aP,aP,aP,aP]),b4 3 4 5 48]) anE)) (.F [da 0 71 45,A 1 45 71])
def anC:J:= .B (.aV (E 46) (.skip) (.bh 0)) anD
def anG:J:= .B (.F [dq 0 46 45 44]) anC
def anF:J:= .B (.F [cu 0 2 true]) (.aI)
def anB:J:= .B (.B (.F [aL 0 42 3 1,aA 1 43 42,bO 2 44 43,ba 3 45 0]) (.block 0 (.loop anG))) anF
def anA:J:= .B (.B (.F [aL 0 7 0 1,aA 1 8 7,lz 2 9 8 2,A 3 10 9,ew 4 11 10 0 1,dZ 5 12 10 11,lB 6 13 10 12 700,cZ 7 14 10 13,A 8 15 14,ew 9 16 15 3 1,dZ 10 17 15 16,iM 11 18 15 17,lB 12 19 15 18 2500,cZ 13 20 15 19,A 14 21 20,dG 15 22 21 3,ew 16 23 21 1 1,dZ 17 24 21 23,cw 18 25 21 false (.iy (E 22) [E 24]),iF 19 26 21 25,cZ 20 27 21 26,A 21 28 27,dG 22 29 28 3,ew 23 30 28 2 1,dZ 24 31 28 30,cw 25 32 28 false (.iy (E 29) [E 31]),iF 26 33 28 32,cZ 27 34 28 33,A 28 35 34,ew 29 36 35 1 1,dZ 30 37 35 36,ew 31 38 35 2 1,dZ 32 39 35 38,cw 33 40 35 false (.fg .eql .gl (E 37) (E 39)),cZ 34 41 35 40]) (.aV (E 41) (.B (.F [cu 0 2 false]) (.aI)) (.skip))) anB
def anz:J:= .B (.F [a2 0 6 (.td (.func 234) [] [E 1]),A 1 3 6]) anA
def anw:J:=
  .B (
  .F [
 dT 0 1 0,
 cu 1 2 false]) anz
def ZH:bU:=⟨72,[.bL 2],anw⟩
theorem anx:b3 al 184=some ZH:=by kernel_rfl
def anQ:J:= .B (.F [A 0 61 10,kO 1 62 61 0,A 2 63 62,e0 3 64 63 5,e0 4 65 63 9,pz 5 66 63 1 64 65,ep 6 67 63 66,rZ 7 68 63 67,di 8 69 63 68]) (.aV (E 69) (.B (.F [A 0 70 5,A 1 71 9,A 2 72 4,A 3 73 9,A 4 74 8,bH 5 75 1 70 71,pt 6 (.store 1 (E 75) (.const (.bool true))),bH 7 76 1 72 73,b4 8 1 76 74]) (.F [A 0 77 6,A 1 78 9,q2 2 79 78,iC 3 80 1 8 77 79,A 4 6 80])) (.skip))
def anP:J:= .B (.F [A 0 56 0,A 1 57 8,dr 2 58 235 56 57,A 3 55 58,cE 4 59 0 55,cE 5 60 1 55,A 6 9 59,A 7 10 60]) anQ
def anO:J:= .B (.block 3 (.B (.F [bH 0 53 1 49 51,aA 1 54 53,A 2 8 54]) anP)) (.F [da 0 81 51,A 1 51 81])
def anN:J:= .B (.aV (E 52) (.skip) (.bh 2)) anO
def anS:J:= .B (.F [dq 0 52 51 50]) anN
def anM:J:= .B (.block 1 (.B (.F [A 0 41 0,iD 1 42 41,aL 2 43 5 42,aA 3 44 43,A 4 45 6,x0 5 46 1 45,aA 6 47 46,bH 7 48 1 44 47,aA 8 49 48,bO 9 50 49,ba 10 51 0]) (.block 2 (.loop anS)))) (.F [A 0 39 6,a2 1 40 (.mQ 1 (E 39) (some (.const (.int .i64 1))) none),A 2 6 40])
def anT:J:= .B (.B (.F [A 0 36 6,bO 1 37 36,kO 2 38 37 0]) (.aV (E 38) (.skip) (.bh 0))) anM
def anR:J:= .B (.F [A 0 82 4,A 1 83 5,A 2 2 82,A 3 3 83]) (.aI)
def anL:J:= .B (.B (.F [A 0 30 0,iD 1 31 30,aL 2 32 0 31,aL 3 33 1 32,aA 4 34 33,q2 5 35 34,A 6 6 35]) (.block 0 (.loop anT))) anR
def anK:J:= .B (.F [A 0 23 5,A 1 24 0,iD 2 25 24,aL 3 26 0 25,aL 4 27 1 26,aA 5 28 27,bH 6 29 1 23 28,pt 7 (.store 1 (E 29) (.const (.bool true)))]) anL
def anJ:J:= .B (.F [A 0 11 0,iD 1 12 11,aL 2 13 0 12,aL 3 14 0 13,aA 4 15 14,A 6 17 0,iD 7 18 17,aL 8 19 0 18,aL 9 20 0 19,aA 10 21 20,a2 5 16 (.jY 1 8 [aP] (E 15) (E 15)),A 12 4 16,Ab 11 22 21 21,A 13 5 22]) anK
def anH:J:=
  .B (
  .F [
 eN 0 2,
 eN 1 3]) anJ
def ZI:bU:=⟨84,[.bL 2,.bL 3],anH⟩
theorem anI:b3 al 185=some ZI:=by kernel_rfl
def anZ:J:= .B (.F [A 0 38 5,lz 1 39 38 0,A 2 40 39,dG 3 41 40 8,dG 4 42 40 5,cw 5 43 40 false (.fg .lss .gl (E 41) (E 42)),cZ 6 44 40 43]) (.aV (E 44) (.F [A 0 45 8,A 1 5 45]) (.skip))
def anY:J:= .B (.block 1 (.B (.F [A 0 30 0,A 1 31 1,A 2 32 6,bH 3 33 1 31 32,aA 4 34 33,dr 5 35 235 30 34,A 6 29 35,cE 7 36 0 29,cE 8 37 1 29,A 9 7 36,A 10 8 37]) anZ)) (.F [A 0 23 0,A 1 24 1,A 2 25 6,bH 3 26 1 24 25,aA 4 27 26,dr 5 28 236 23 27,A 6 6 28])
def an4:J:= .B (.B (.F [A 0 16 6,A 1 17 0,iD 2 18 17,aL 3 19 0 18,aL 4 20 1 19,aA 5 21 20,c9 6 22 .neq (E 16) (E 21)]) (.aV (E 22) (.skip) (.bh 0))) anY
def an2:J:= .B (.F [A 0 68 10,oG 1 69 68 0]) (.aV (E 69) (.F [A 0 70 0,iD 1 71 70,aL 2 72 4 71,aA 3 73 72,A 4 74 10,bH 5 75 1 73 74,aA 6 76 75,A 7 77 5,gI 8 78 76 77,bH 9 79 1 73 74,b4 10 1 79 78]) (.F [A 0 80 0,iD 1 81 80,aL 2 82 4 81,aA 3 83 82,A 4 84 10,c9 5 85 .sub (.const (.int .i64 (-1))) (E 84),bH 6 86 1 83 85,aA 7 87 86,A 8 88 5,c9 9 89 .sub (E 87) (E 88),bH 10 90 1 83 85,b4 11 1 90 89]))
def an1:J:= .B (.block 3 (.B (.F [A 0 64 1,A 1 65 9,bH 2 66 1 64 65,aA 3 67 66,A 4 10 67]) an2)) (.F [A 0 58 0,A 1 59 1,A 2 60 9,bH 3 61 1 59 60,aA 4 62 61,dr 5 63 236 58 62,A 6 9 63])
def an5:J:= .B (.B (.F [A 0 51 9,A 1 52 0,iD 2 53 52,aL 3 54 0 53,aL 4 55 1 54,aA 5 56 55,c9 6 57 .neq (E 51) (E 56)]) (.aV (E 57) (.skip) (.bh 2))) an1
def an3:J:= .B (.F [A 0 91 5,A 1 4 91]) (.aI)
def an0:J:= .B (.B (.F [A 0 46 0,iD 1 47 46,aL 2 48 0 47,aL 3 49 2 48,aA 4 50 49,A 5 9 50]) (.block 2 (.loop an5))) an3
def anX:J:= .B (.B (.F [A 0 11 0,iD 1 12 11,aL 2 13 0 12,aL 3 14 2 13,aA 4 15 14,A 5 6 15]) (.block 0 (.loop an4))) an0
def anW:J:= .B (.F [ba 0 5 (-1)]) anX
def anU:J:=
  .B (
  .F [
 ba 0 4 0]) anW
def ZJ:bU:=⟨92,[.bL 4],anU⟩
theorem anV:b3 al 186=some ZJ:=by kernel_rfl
def ao8:J:= .B (.F [A 0 4 0,oG 1 5 4 0,A 2 6 5,e0 3 7 6 0,ea 4 8 6 0 1,ep 5 9 6 8,cw 6 10 6 true (.fg .lss .gl (E 7) (E 9)),di 7 11 6 10,A 8 3 11]) (.aI)
def ao6:J:=
  .B (
  .F [
 cu 0 3 false]) ao8
def aaX:bU:=⟨12,[.bL 3],ao6⟩
theorem ao7:b3 al 234=some aaX:=by kernel_rfl
def apc:J:= .B (.F [A 0 34 0,iD 1 35 34,aL 2 36 0 35,aL 3 37 3 36,aA 4 38 37,A 5 39 1,c9 6 40 .sub (.const (.int .i64 (-1))) (E 39),bH 7 41 4 38 40,aL 8 42 0 41,aA 9 43 42,A 10 44 0,iD 11 45 44,aL 12 46 4 45,aA 13 47 46,A 14 48 1,c9 15 49 .sub (.const (.int .i64 (-1))) (E 48),bH 16 50 1 47 49,aA 17 51 50,A 18 4 43,A 19 5 51]) (.aI)
def apb:J:= .B (.B (.F [A 0 6 1,oG 1 7 6 0]) (.aV (E 7) (.B (.F [A 0 8 0,iD 1 9 8,aL 2 10 0 9,aL 3 11 3 10,aA 4 12 11,A 5 13 1,bH 6 14 4 12 13,aL 7 15 1 14,aA 8 16 15,A 9 17 0,iD 10 18 17,aL 11 19 0 18,aL 12 20 3 19,aA 13 21 20,A 14 22 1,bH 15 23 4 21 22,aL 16 24 2 23,aA 17 25 24,A 18 26 0,iD 19 27 26,aL 20 28 4 27,aA 21 29 28,A 22 30 1,bH 23 31 1 29 30,aA 24 32 31,c9 25 33 .sub (E 25) (E 32),A 26 4 16,A 27 5 33]) (.aI)) (.skip))) apc
def ao9:J:=
  .B (
  .F [
 ba 0 4 0,
 ba 1 5 0]) apb
def aaY:bU:=⟨52,[.bL 4,.bL 5],ao9⟩
theorem apa:b3 al 235=some aaY:=by kernel_rfl
def apg:J:= .B (.F [A 0 16 0,iD 1 17 16,aL 2 18 0 17,aL 3 19 3 18,aA 4 20 19,A 5 21 1,c9 6 22 .sub (.const (.int .i64 (-1))) (E 21),bH 7 23 4 20 22,aL 8 24 1 23,aA 9 25 24,A 10 4 25]) (.aI)
def apf:J:= .B (.B (.F [A 0 5 1,oG 1 6 5 0]) (.aV (E 6) (.B (.F [A 0 7 0,iD 1 8 7,aL 2 9 0 8,aL 3 10 3 9,aA 4 11 10,A 5 12 1,bH 6 13 4 11 12,aL 7 14 0 13,aA 8 15 14,A 9 4 15]) (.aI)) (.skip))) apg
def apd:J:=
  .B (
  .F [
 ba 0 4 0]) apf
def aaZ:bU:=⟨26,[.bL 4],apd⟩
theorem ape:b3 al 236=some aaZ:=by kernel_rfl
open Go Go.DI Go.Big
def DU(x:bS):Bool:=decide (x∈Ik)
theorem NN{x:bS}(h:DU x=true):x.cY:=by unfold DU at h;rw[eO]at h;exact h
def So(x:hX):Bool:=match x.e with
  |[⟨false,[1],[I]⟩]=>decide (2<=I)&&decide (I<200)&&decide (x.s=[⟨false,[1],[1]⟩])&&decide (x.cl=[[⟨false,[],[1]⟩]])
  |_=>false
theorem aut{x:hX}(h:So x=true):x.cY:=by
  obtain⟨eJ,s,cl,e⟩:=x;unfold So at h;split at h
  · rename_i I bb;simp only[aY,eO]at h;exact⟨I,h.1.1.1,h.1.1.2,h.1.2,h.2,bb⟩
  · cases h
def SX(x:ih):Bool:=x.jF.all DU&&decide (x.jF.length<=20)&&DU x.oV&&DU x.fo&&decide (x.bf.length<=20)
theorem av6{x:ih}(h:SX x=true):ih.fD x:=by simp only[SX,aY,eQ,eO]at h;obtain⟨⟨⟨⟨D,H⟩,aq⟩,aE⟩,bq⟩:=h;exact⟨⟨λr az=>NN (D r az),by omega⟩,NN aq,NN aE,by omega⟩
def HQ(u:bm):Bool:=u.cH.all So&&(u.a1.all λd=>DU d.nO)&&u.cI.all SX&&decide (u.cH.length<=100)&&decide (u.bf.length<=100)&&decide (u.a1.length<=100)&&decide (u.a5.length<=100)&&decide (u.cI.length<=100)&&decide (u.cM.length<=100)
theorem S8{u:bm}(h:HQ u=true):bm.fD u:=by simp only[HQ,aY,eQ,eO]at h;obtain⟨⟨⟨⟨⟨⟨⟨⟨D,H⟩,aq⟩,aE⟩,bq⟩,cP⟩,fB⟩,hA⟩,iz⟩:=h;exact⟨λx G=>aut (D x G),λx G=>NN (H x G),λx G=>av6 (aq x G),by omega,by omega,by omega,by omega,by omega,by omega⟩
def SI(T:ByteArray):Bool:=decide (0<T.size/\T.size<=16/\n3 (ry T 0)=true/\rb lO T T.size 0=T.size)
theorem avA{T:ByteArray}(h:SI T=true):ng T=true:=At (by unfold SI at h;unfold eJ;exact of_decide_eq_true h)
def A4(l:List ByteArray):Bool:=l.all SI&&decide l.Nodup
theorem It{l:List ByteArray}(h:A4 l=true):eh l=true:=by unfold A4 at h;unfold eh;simp only[aY,eQ]at h⊢;exact⟨λx G=>avA (h.1 x G),h.2⟩
def Iw(u:bm):Bool:=dE u.ext 1 4&&(decide (u.cH.length<=4)&&(decide (u.bf.length<=4)&&(decide (u.a1.length<=40)&&(decide (u.a5.length<=24)&&(decide (u.cI.length<=4)&&(decide (u.cM.length<=12)&&(nz u.a1&&(u.cH.all hX.mi&&(u.bf.all (ky u.cH.length)&&(u.a5.all (ko u.bf.length u.a1)&&(u.cI.all (ie · u.bf.length)&&(u.cM.all (nt u.cI.length)&&(A4 (u.cH.map (·.name))&&(A4 (u.bf.map (·.name))&&(A4 (u.a1.tail.map (·.name)++u.a5.map (·.name))&&(A4 (u.cI.map (·.name))&&A4 (u.cM.map (·.name))))))))))))))))))
theorem afM{u:bm}(h:Iw u=true):gg u=true:=by unfold Iw at h;unfold gg;simp only[aY]at h⊢;obtain⟨bw,bJ,cb,eI,fm,hy,jK,lo,tT,I3,agV,agW,agX,kY,nr,oe,NK,afG⟩:=h;exact⟨bw,bJ,cb,eI,fm,hy,jK,lo,tT,I3,agV,agW,agX,It kY,It nr,It oe,It NK,It afG⟩
theorem auo{u:bm}(h:HQ u=true)(ad:Iw u=true):bK al 62 [.agg (aU u).toArray] (.int .i64 0):=by have:=Ul (S8 h);rw[afM ad]at this;exact this
theorem aun{u:bm}(h:HQ u=true)(ad:Iw u=true):bK al 87 [.agg (aU u).toArray] (.bool true):=by have:=aeV (S8 h);rw[afM ad]at this;exact this
theorem Sm{n d:Int}{x:bS}(h:lY n d)(G:fp n d=x):bK al 59 [Z n,Z d] (dw x):=by rw[<-G];exact Wu h
section
set_option maxRecDepth 100000
def Oh:bm:=⟨1,[⟨⟨#[108]⟩,[⟨false,[1],[1]⟩],[[⟨false,[],[1]⟩]],[⟨false,[1],[2]⟩]⟩],[⟨⟨#[109]⟩,2,1,0⟩],[⟨⟨#[]⟩,0,(-1),0,⟨false,[],[1]⟩⟩,⟨⟨#[97]⟩,1,0,1,⟨false,[],[1]⟩⟩,⟨⟨#[98]⟩,2,1,1,⟨false,[],[1]⟩⟩,⟨⟨#[99]⟩,3,2,1,⟨false,[],[1]⟩⟩,⟨⟨#[100]⟩,4,3,1,⟨false,[],[1]⟩⟩,⟨⟨#[101]⟩,4,3,1,⟨false,[],[1]⟩⟩,⟨⟨#[102]⟩,4,3,1,⟨false,[],[1]⟩⟩],[⟨⟨#[120]⟩,0,4⟩,⟨⟨#[121]⟩,0,5⟩,⟨⟨#[122]⟩,0,6⟩],[⟨⟨#[112]⟩,1,1,1,⟨0,0,0,0,0⟩,[0],[⟨false,[1],[1]⟩],⟨false,[],[1]⟩,⟨false,[],[1]⟩⟩],[⟨⟨#[118]⟩,0⟩]⟩
theorem Vo:HQ Oh=true:=by decide+kernel
theorem Vp:Iw Oh=true:=by decide+kernel
def Em:Value:= .agg #[.int .i64 1,aw [[.string ⟨#[108]⟩,aw [[.bool false,aw [[.int .u32 1]] 1,aw [[.int .u32 1]] 1]] 3,aw [[aw [[.bool false,aw [] 1,aw [[.int .u32 1]] 1]] 3]] 1,aw [[.bool false,aw [[.int .u32 1]] 1,aw [[.int .u32 2]] 1]] 3]] 4,aw [[.string ⟨#[109]⟩,.int .i64 2,.int .i64 1,.int .i64 0]] 4,aw [[.string ⟨#[]⟩,.int .i64 0,.int .i64 (-1),.int .i64 0,.bool false,aw [] 1,aw [[.int .u32 1]] 1],[.string ⟨#[97]⟩,.int .i64 1,.int .i64 0,.int .i64 1,.bool false,aw [] 1,aw [[.int .u32 1]] 1],[.string ⟨#[98]⟩,.int .i64 2,.int .i64 1,.int .i64 1,.bool false,aw [] 1,aw [[.int .u32 1]] 1],[.string ⟨#[99]⟩,.int .i64 3,.int .i64 2,.int .i64 1,.bool false,aw [] 1,aw [[.int .u32 1]] 1],[.string ⟨#[100]⟩,.int .i64 4,.int .i64 3,.int .i64 1,.bool false,aw [] 1,aw [[.int .u32 1]] 1],[.string ⟨#[101]⟩,.int .i64 4,.int .i64 3,.int .i64 1,.bool false,aw [] 1,aw [[.int .u32 1]] 1],[.string ⟨#[102]⟩,.int .i64 4,.int .i64 3,.int .i64 1,.bool false,aw [] 1,aw [[.int .u32 1]] 1]] 7,aw [[.string ⟨#[120]⟩,.int .i64 0,.int .i64 4],[.string ⟨#[121]⟩,.int .i64 0,.int .i64 5],[.string ⟨#[122]⟩,.int .i64 0,.int .i64 6]] 3,aw [[.string ⟨#[112]⟩,.int .i64 1,.int .i64 1,.int .i64 1,.int .i64 0,.int .i64 0,.int .i64 0,.int .i64 0,.int .i64 0,aw [[.int .i64 0]] 1,aw [[.bool false,aw [[.int .u32 1]] 1,aw [[.int .u32 1]] 1]] 3,.bool false,aw [] 1,aw [[.int .u32 1]] 1,.bool false,aw [] 1,aw [[.int .u32 1]] 1]] 17,aw [[.string ⟨#[118]⟩,.int .i64 0]] 2]
theorem Vn:Em= .agg (aU Oh).toArray:=by rfl
theorem aha:bK al 62 [Em] (.int .i64 0):=by rw[Vn];exact auo Vo Vp
theorem ag9:bK al 87 [Em] (.bool true):=by rw[Vn];exact aun Vo Vp
def ahb:List (Nat×bU):=[(17,Zk),(20,Gv),(21,Cm),(23,Ct),(25,abp),(27,abP),(29,ab3),(31,ab4),(36,ab5),(52,CF),(63,LI),(64,G5),(65,G6),(68,LQ),(72,ac0),(74,ac1),(75,ac2),(78,ac3),(79,ac4),(81,ac5),(82,ac6),(83,ac7),(84,ac8),(85,ac9),(115,FQ),(116,Kn),(117,Ca),(118,Yz),(121,YA),(122,YB),(123,YC),(124,YD),(125,YE),(126,YF),(127,YG),(128,YH),(129,YI),(130,YJ),(131,YK),(132,YL),(180,KF),(182,ZF),(183,ZG),(184,ZH),(185,ZI),(186,ZJ),(234,aaX),(235,aaY),(236,aaZ)]
theorem I9:I0 al ahb:=⟨⟨⟨by kernel_rfl,anf⟩,by kernel_rfl⟩,⟨⟨⟨by kernel_rfl,Z6⟩,by kernel_rfl⟩,⟨⟨⟨by kernel_rfl,Q3⟩,by kernel_rfl⟩,⟨⟨⟨by kernel_rfl,Rm⟩,by kernel_rfl⟩,⟨⟨⟨by kernel_rfl,aqB⟩,by kernel_rfl⟩,⟨⟨⟨by kernel_rfl,arz⟩,by kernel_rfl⟩,⟨⟨⟨by kernel_rfl,arC⟩,by kernel_rfl⟩,⟨⟨⟨by kernel_rfl,arO⟩,by kernel_rfl⟩,⟨⟨⟨by kernel_rfl,ar6⟩,by kernel_rfl⟩,⟨⟨⟨by kernel_rfl,RJ⟩,by kernel_rfl⟩,⟨⟨⟨by kernel_rfl,acK⟩,by kernel_rfl⟩,⟨⟨⟨by kernel_rfl,acP⟩,by kernel_rfl⟩,⟨⟨⟨by kernel_rfl,acQ⟩,by kernel_rfl⟩,⟨⟨⟨by kernel_rfl,acV⟩,by kernel_rfl⟩,⟨⟨⟨by kernel_rfl,asp⟩,by kernel_rfl⟩,⟨⟨⟨by kernel_rfl,ast⟩,by kernel_rfl⟩,⟨⟨⟨by kernel_rfl,asw⟩,by kernel_rfl⟩,⟨⟨⟨by kernel_rfl,asz⟩,by kernel_rfl⟩,⟨⟨⟨by kernel_rfl,asC⟩,by kernel_rfl⟩,⟨⟨⟨by kernel_rfl,asY⟩,by kernel_rfl⟩,⟨⟨⟨by kernel_rfl,ati⟩,by kernel_rfl⟩,⟨⟨⟨by kernel_rfl,atm⟩,by kernel_rfl⟩,⟨⟨⟨by kernel_rfl,atp⟩,by kernel_rfl⟩,⟨⟨⟨by kernel_rfl,atx⟩,by kernel_rfl⟩,⟨⟨⟨by kernel_rfl,Yt⟩,by kernel_rfl⟩,⟨⟨⟨by kernel_rfl,Yv⟩,by kernel_rfl⟩,⟨⟨⟨by kernel_rfl,Qu⟩,by kernel_rfl⟩,⟨⟨⟨by kernel_rfl,akK⟩,by kernel_rfl⟩,⟨⟨⟨by kernel_rfl,akZ⟩,by kernel_rfl⟩,⟨⟨⟨by kernel_rfl,ak9⟩,by kernel_rfl⟩,⟨⟨⟨by kernel_rfl,alc⟩,by kernel_rfl⟩,⟨⟨⟨by kernel_rfl,alk⟩,by kernel_rfl⟩,⟨⟨⟨by kernel_rfl,alU⟩,by kernel_rfl⟩,⟨⟨⟨by kernel_rfl,al6⟩,by kernel_rfl⟩,⟨⟨⟨by kernel_rfl,ame⟩,by kernel_rfl⟩,⟨⟨⟨by kernel_rfl,amh⟩,by kernel_rfl⟩,⟨⟨⟨by kernel_rfl,aml⟩,by kernel_rfl⟩,⟨⟨⟨by kernel_rfl,amo⟩,by kernel_rfl⟩,⟨⟨⟨by kernel_rfl,amu⟩,by kernel_rfl⟩,⟨⟨⟨by kernel_rfl,amC⟩,by kernel_rfl⟩,⟨⟨⟨by kernel_rfl,ZB⟩,by kernel_rfl⟩,⟨⟨⟨by kernel_rfl,ann⟩,by kernel_rfl⟩,⟨⟨⟨by kernel_rfl,anv⟩,by kernel_rfl⟩,⟨⟨⟨by kernel_rfl,anx⟩,by kernel_rfl⟩,⟨⟨⟨by kernel_rfl,anI⟩,by kernel_rfl⟩,⟨⟨⟨by kernel_rfl,anV⟩,by kernel_rfl⟩,⟨⟨⟨by kernel_rfl,ao7⟩,by kernel_rfl⟩,⟨⟨⟨by kernel_rfl,apa⟩,by kernel_rfl⟩,⟨⟨⟨by kernel_rfl,ape⟩,by kernel_rfl⟩,trivial⟩⟩⟩⟩⟩⟩⟩⟩⟩⟩⟩⟩⟩⟩⟩⟩⟩⟩⟩⟩⟩⟩⟩⟩⟩⟩⟩⟩⟩⟩⟩⟩⟩⟩⟩⟩⟩⟩⟩⟩⟩⟩⟩⟩⟩⟩⟩⟩⟩
def En:o4:=[(59,[.int .i64 0,.int .i64 1],.agg #[.bool false,aw [] 1,aw [[.int .u32 1]] 1]),(59,[.int .i64 1,.int .i64 1],.agg #[.bool false,aw [[.int .u32 1]] 1,aw [[.int .u32 1]] 1]),(59,[.int .i64 1,.int .i64 2],.agg #[.bool false,aw [[.int .u32 1]] 1,aw [[.int .u32 2]] 1]),(62,[Em],.int .i64 0),(87,[Em],.bool true)]
theorem Ja:tP al En:=x8 (Sm (x:=⟨false,[],[1]⟩) (by unfold lY;decide) (by decide+kernel)) (x8 (Sm (x:=⟨false,[1],[1]⟩) (by unfold lY;decide) (by decide+kernel)) (x8 (Sm (x:=⟨false,[1],[2]⟩) (by unfold lY;decide) (by decide+kernel)) (x8 (aha) (x8 (ag9) (adH)))))
def Vr:Value:= .agg #[.int .i64 12,.int .i64 0,.int .i64 1,aw [[.int .i64 0,.int .i64 2,.int .i64 2,.int .i64 0],[.int .i64 2,.int .i64 3,.int .i64 2,.int .i64 0],[.int .i64 3,.int .i64 4,.int .i64 2,.int .i64 0],[.int .i64 4,.int .i64 5,.int .i64 2,.int .i64 0],[.int .i64 5,.int .i64 6,.int .i64 2,.int .i64 0],[.int .i64 5,.int .i64 7,.int .i64 2,.int .i64 0],[.int .i64 5,.int .i64 8,.int .i64 2,.int .i64 0],[.int .i64 6,.int .i64 9,.int .i64 1,.int .i64 0],[.int .i64 7,.int .i64 10,.int .i64 1,.int .i64 0],[.int .i64 8,.int .i64 11,.int .i64 1,.int .i64 0],[.int .i64 9,.int .i64 1,.int .i64 0,.int .i64 0],[.int .i64 10,.int .i64 1,.int .i64 2,.int .i64 0],[.int .i64 11,.int .i64 1,.int .i64 2,.int .i64 0]] 4]
def Vs:Value:= .tuple #[aw [[.int .i64 2],[.int .i64 2],[.int .i64 2],[.int .i64 2],[.int .i64 0],[.int .i64 1],[.int .i64 1],[.int .i64 0],[.int .i64 1],[.int .i64 1],[.int .i64 0],[.int .i64 1],[.int .i64 1]] 1,.int .i64 2,aw [[.bool true],[.bool false],[.bool false],[.bool false],[.bool false],[.bool false],[.bool false],[.bool false],[.bool false],[.bool false],[.bool false],[.bool false]] 1,.int .i64 0]
theorem ag6:bK al 125 [Vr] (Vs):=EL (DM I9) (hJ:=En) Ja Js (n:=100000) (d:=80) (by kernel_rfl)
def Vt:Value:= .agg #[.int .i64 12,.int .i64 0,.int .i64 1,aw [[.int .i64 0,.int .i64 2,.int .i64 2,.int .i64 0],[.int .i64 2,.int .i64 3,.int .i64 2,.int .i64 0],[.int .i64 3,.int .i64 4,.int .i64 2,.int .i64 0],[.int .i64 4,.int .i64 5,.int .i64 2,.int .i64 0],[.int .i64 5,.int .i64 6,.int .i64 2,.int .i64 0],[.int .i64 5,.int .i64 7,.int .i64 2,.int .i64 0],[.int .i64 5,.int .i64 8,.int .i64 2,.int .i64 0],[.int .i64 6,.int .i64 9,.int .i64 1,.int .i64 0],[.int .i64 7,.int .i64 10,.int .i64 1,.int .i64 0],[.int .i64 8,.int .i64 11,.int .i64 1,.int .i64 0],[.int .i64 9,.int .i64 1,.int .i64 0,.int .i64 0],[.int .i64 10,.int .i64 1,.int .i64 0,.int .i64 0],[.int .i64 11,.int .i64 1,.int .i64 2,.int .i64 0]] 4]
def Vu:Value:= .tuple #[aw [[.int .i64 1],[.int .i64 1],[.int .i64 1],[.int .i64 1],[.int .i64 0],[.int .i64 0],[.int .i64 1],[.int .i64 0],[.int .i64 0],[.int .i64 1],[.int .i64 0],[.int .i64 0],[.int .i64 1]] 1,.int .i64 1,aw [[.bool true],[.bool false],[.bool true],[.bool true],[.bool true],[.bool true],[.bool true],[.bool true],[.bool true],[.bool true],[.bool true],[.bool false]] 1,.int .i64 0]
theorem ag7:bK al 125 [Vt] (Vu):=EL (DM I9) (hJ:=En) Ja Js (n:=100000) (d:=80) (by kernel_rfl)
def Vv:Value:= .agg #[.int .i64 12,.int .i64 0,.int .i64 1,aw [[.int .i64 0,.int .i64 2,.int .i64 2,.int .i64 0],[.int .i64 2,.int .i64 3,.int .i64 2,.int .i64 0],[.int .i64 3,.int .i64 4,.int .i64 2,.int .i64 0],[.int .i64 4,.int .i64 5,.int .i64 2,.int .i64 0],[.int .i64 5,.int .i64 6,.int .i64 2,.int .i64 0],[.int .i64 5,.int .i64 7,.int .i64 2,.int .i64 0],[.int .i64 5,.int .i64 8,.int .i64 2,.int .i64 0],[.int .i64 6,.int .i64 9,.int .i64 1,.int .i64 0],[.int .i64 7,.int .i64 10,.int .i64 1,.int .i64 0],[.int .i64 8,.int .i64 11,.int .i64 1,.int .i64 0],[.int .i64 9,.int .i64 1,.int .i64 2,.int .i64 0],[.int .i64 10,.int .i64 1,.int .i64 0,.int .i64 0],[.int .i64 11,.int .i64 1,.int .i64 2,.int .i64 0]] 4]
def Vw:Value:= .tuple #[aw [[.int .i64 2],[.int .i64 2],[.int .i64 2],[.int .i64 2],[.int .i64 1],[.int .i64 0],[.int .i64 1],[.int .i64 1],[.int .i64 0],[.int .i64 1],[.int .i64 1],[.int .i64 0],[.int .i64 1]] 1,.int .i64 2,aw [[.bool true],[.bool false],[.bool false],[.bool false],[.bool false],[.bool false],[.bool false],[.bool false],[.bool false],[.bool false],[.bool false],[.bool false]] 1,.int .i64 0]
theorem ag8:bK al 125 [Vv] (Vw):=EL (DM I9) (hJ:=En) Ja Js (n:=100000) (d:=80) (by kernel_rfl)
def Vq:o4:=[(125,[Vr],Vs),(125,[Vt],Vu),(125,[Vv],Vw)]++En
theorem ahc:tP al Vq:=x8 ag6 (x8 ag7 (x8 ag8 (Ja)))
theorem ahd:bK al 17 [] (.bool true):=EL (DM I9) (hJ:=Vq) ahc Js (n:=100000) (d:=80) (by kernel_rfl)
end
def nI:Value:= .agg #[.int .i64 0,.slice none 0 0,.slice none 0 0,.slice none 0 0,.slice none 0 0,.slice none 0 0,.slice none 0 0]
theorem avz{u:fz}{K:eC}{args cj:List Value}(h:bj u K (nI::args) cj):bj u K (.agg (aU bm.nil).toArray::args) cj:=by
  refine⟨h.1,λi x y G ag=> ?_⟩;cases i with
  |succ i=>exact h.2 (i+1) x y G ag
  | zero=>
    simp at G;subst G;have cR:=h.2 0 nI y rfl ag;obtain⟨ys,rfl,aD⟩:=cR.q0;have a6:ys.toList=[.int .i64 0,.slice none 0 0,.slice none 0 0,.slice none 0 0,.slice none 0 0,.slice none 0 0,.slice none 0 0]:=by
      have iz: ∀{xs ys:List Value},bj u K xs ys->xs.all dQ=true->ys=xs:= λ{xs}=>by
        induction xs with
        |nil=>intro ys h _;exact pO.1 h.1.symm
        | cons x xs cc=>
          intro ys h a6;cases ys with
          |nil=>have:=h.1;simp at this
          | cons y ys=>simp only[mW,aY]at a6;have h5:=(h.2 0 x y rfl rfl).hC a6.1;rw[h5,cc (ys:=ys) ⟨by simpa using h.1,λi a b p q=>h.2 (i+1) a b (by simpa using p) (by simpa using q)⟩ a6.2]
      exact iz aD (by decide)
    have e:ys= #[.int .i64 0,.slice none 0 0,.slice none 0 0,.slice none 0 0,.slice none 0 0,.slice none 0 0,.slice none 0 0]:=Bf.1 a6;subst e;exact bj.agg (bj.cons (.cy rfl) (bj.cons (.hf rfl) (bj.cons (.hf rfl) (bj.cons (.hf rfl) (bj.cons (.hf rfl) (bj.cons (.hf rfl) (bj.cons (.hf rfl) bj.nil)))))))
theorem ayM{f:Nat}{args:List Value}{r:Value}(h:bK al f (.agg (aU bm.nil).toArray::args) r):bK al f (nI::args) r:= λu m cj dv ax=>h u m cj dv (avz ax)
theorem ay2:gg bm.nil=false:=by simp[gg,bm.nil,dE]
noncomputable def afh{P:Program}(a b:bE P)(h:b.f=a.f):bE P:=⟨a.f,λargs=>match a.fn args with
  |some r=>some r
  | none=>b.fn args,λargs r az=>by
    cases ax:a.fn args with
    |some dV=>rw[ax]at az;cases az;exact a.ok args r ax
    |none=>rw[ax]at az;have:=b.ok args r az;rw[h]at this;exact this⟩
noncomputable def M4:bE al:= .dR 17 Unit (λ_=>True) (λ_=>[]) (λ_=> .bool true) λ_ _=>ahd
@[simp] theorem aIJ:M4.f=17:=rfl
@[simp] theorem aIK:M4.fn []=some (.bool true):=bE.eH (x:=()) trivial λ_ _=>rfl
end Go.Proofs.YtmmkkggfmigppaaGreat
namespace Go.DI
open Go Go.RowKit
section
variable {P:Program} {aB:nw P} {t:W} {z:aM} {c:J} {Q:du->aM->W->Prop}
theorem aiC{K:eC}{u:fz}{m:W}{ae:aM}(M:dN K u t m)(bB:gF u K z ae){o d I:Nat}{a8:List (List Value)}(aC:t.X o=some ⟨a8.flatten,true⟩)(az: ∀r∈a8,r.length=I/\ ∀v∈r,gN v=true)(ay:z d= .slice (some ⟨o,0,none⟩) a8.length I):
    ∃cr,gV u cr/\(∀b cs,cr b=some cs->u b=some cs\/K o=some b)/\dN K cr (t.a0 o none) m/\gF cr K (mm z d (aw a8 I)) ae:=by
  have oz:=bn aC;have bD: ∀r∈a8,r.length=I:= λr h=>(az r h).1;obtain⟨cr,mA⟩: ∃cr:fz,cr= λb=>match u b with
    |some cs=>some cs
    |none=>if K o=some b then(m.X b).map (·.cells)else none:=⟨_,rfl⟩
  have e7:gV u cr:= λb cs hb=>by rw[mA];simp only[hb]
  have PH: ∀b cs w,K o=some b->m.X b=some ⟨cs,w⟩->cr b=some cs:= λb cs w bQ aF=>by
    rw[mA];simp only;cases lM:u b with
    |some ds=>obtain⟨⟨cN,mb⟩,_⟩:=M.bA b ds lM;rw[aF]at mb;cases mb;rfl
    |none=>simp only;rw[if_pos bQ,aF];rfl
  have bd:(t.a0 o none).X o=none:=ej oz;have nY: ∀q,q≠o->(t.a0 o none).X q=t.X q:= λq h=>bW h;have vy: ∀b ds,cr b=some ds->u b=some ds\/(K o=some b/\ ∃w,m.X b=some ⟨ds,w⟩):= λb ds hb=>by
    rw[mA]at hb;simp only at hb;cases lM:u b with
    |some x=>rw[lM]at hb;simp only at hb;exact .inl hb
    | none=>
      rw[lM]at hb;simp only at hb;split at hb
      · next h=>
        cases aF:m.X b with
        |none=>rw[aF]at hb;cases hb
        |some x=>rw[aF]at hb;cases hb;exact .inr ⟨h,x.own,rfl⟩
      · cases hb
  refine⟨cr,e7,λb cs hb=> ?_,⟨λq x G=> ?_,λq a9 bb=> ?_,M.h3,M.inj,M.c2,λb ds hb=> ?_⟩,λi=> ?_⟩
  · rcases vy b cs hb with h|⟨h,_⟩
    · exact .inl h
    · exact .inr h
  · by_cases H:q=o
    · subst H;rw[bd]at G;cases G
    · rw[nY q H]at G;rcases M.hK q x G with⟨b,ds,w,aQ,a7,cD,dI⟩|aQ
      · exact .inl ⟨b,ds,w,aQ,a7,cD,dI.b6 e7 (fy.refl _)⟩
      · exact .inr aQ
  · obtain⟨aK,aR⟩:=hR bb;by_cases H:q=o
    · subst H;rw[bd]at aK;cases aK
    · rw[nY q H]at aK;obtain⟨b,c1,ec,gY,hU⟩:=M.maps q a9 (jM aK aR);exact⟨b,c1,ec,gY,hU.b6 e7 (fy.refl _)⟩
  · rcases vy b ds hb with h|⟨h,w,aZ⟩
    · obtain⟨D,H⟩:=M.bA b ds h;refine⟨D,λq x bc G=> ?_⟩;by_cases e:q=o
      · subst e;rw[bd]at G;cases G
      · rw[nY q e]at G;exact H q x bc G
    · refine⟨⟨w,aZ⟩,λq x bc G=> ?_⟩;have e:=M.inj q o b bc h;subst e;rw[bd]at G;cases G
  · have ad:=bB i;by_cases e:i=d
    · subst e;rw[show mm z i (aw a8 I) i=aw a8 I from by simp[mm]];rw[ay]at ad;generalize ae i=bu at ad⊢;rcases ad.mc with⟨b,aK,_,rfl⟩|⟨_,_,cB,rfl⟩
      · obtain⟨cs,cN,ec,_,hU⟩:=M.pc aK aC;have fC:(a8.flatten).length=a8.length*I:=rG bD;refine .hT (off:=0) rfl (PH b cs cN aK ec) (by rw[<-hU.1];simp only;omega) (λi r ak=>bD r (hF ak)) λi Hl r bo y ak aS ag=> ?_;have qX:=JJ bD ak;have Fg:=(eB.1 aS).1;rw[bD r (hF ak)]at Fg;have bq:(a8.flatten)[i*I+Hl]?=some bo:=by
          rw[<-qX,tI,if_pos Fg,wP]at aS;exact aS
        have cP:=hU.2 (i*I+Hl) bo y bq (by rw[<-ag];congr 1;omega);exact EC e7 cP ((az r (hF ak)).2 bo (hF aS))
      · have:a8=[]:=yE cB;subst this;exact .hf rfl
    · rw[show mm z d (aw a8 I) i=z i from by simp[mm,e]];exact ad.b6 e7 (fy.refl _)
theorem azr{o d I:Nat}{a8:List (List Value)}(aC:t.X o=some ⟨a8.flatten,true⟩)(az: ∀r∈a8,r.length=I/\ ∀v∈r,gN v=true)(ay:z d= .slice (some ⟨o,0,none⟩) a8.length I)(h:fl P c (mm z d (aw a8 I)) (t.a0 o none) Q):fl P c z t Q:= λao K u ae m M bB=>by
  obtain⟨ig,ec,gY,hU,s6⟩:=aiC M bB aC az ay;refine(h ao K ig ae m hU s6).b6 λe bl bg aH=> ?_;obtain⟨cq,dt,dj,iH,D,H,aq,aE⟩:=aH;have fc: ∀q x,(t.a0 o none).X q=some x->t.X q=some x:= λq x G=>by
    by_cases aR:q=o
    · subst aR;rw[ej (bn aC)]at G;cases G
    · rw[bW aR]at G;exact G
  have cD:eD t.next m.next K u t m K ig (t.a0 o none) m:=by
    refine⟨fy.refl _,ec,λ_ _ h=> .inl h,λb cs hb=> ?_,by simp,dW _,λ_ _ _=>rfl,λb hb ⟨q,x,a3,br,bX⟩=>⟨q,x,a3,fc q x br,bX⟩,λb hb ⟨q,x,a3,br⟩=>⟨q,x,a3,fc q x br⟩⟩;rcases gY b cs hb with bq|bq
    · exact .inl bq
    · exact .inr (.inr ⟨o,_,bq,aC⟩)
  exact⟨cq,dt,dj,iH,D,H,aq,cD.trans (aE.uX cD.je (dW _))⟩
theorem azq(Z:Nat->aM->W->Prop)(n:Nat)(step: ∀i z t,i<n->Z i z t-> ∀cx:aM->W->Prop,(∀ae aJ,Z (i+1) ae aJ->cx ae aJ)->iR aB c z t (x4 cx Q))
    (Sn: ∀z t,Z n z t->fl P (.loop c) z t Q): ∀(i:Nat) (z:aM) (t:W),i<=n->Z i z t->fl P (.loop c) z t Q:=by
  have key: ∀(r i:Nat) (z:aM) (t:W),i+r=n->Z i z t->fl P (.loop c) z t Q:=by
    intro r;induction r with
    | zero=>intro i z t ak sK;have e:i=n:=(by omega);subst e;exact Sn z t sK
    | succ r cc=>intro i z t ak sK;exact eu (aB:=aB) λcx bk=>step i z t (by omega) sK cx λae aJ a=>bk _ _ (cc (i+1) ae aJ (by omega) a)
  exact λi z t ak sK=>key (n-i) i z t (by omega) sK
end
end Go.DI
namespace Go.Proofs.YtmmkkggfmigppaaGreat
open Go Go.DI Go.Big
noncomputable def Nj:bE al:= .dR 62 Unit (λ_=>True) (λ_=>[nI]) (λ_=>Z 1) λ_ _=>ayM (by have:=Ul (S8 (u:=bm.nil) (by decide));rw[ay2]at this;exact this)
@[simp] theorem aJ9:Nj.f=62:=rfl
@[simp] theorem aKa:Nj.fn [.agg #[.int .i64 0,.slice none 0 0,.slice none 0 0,.slice none 0 0,.slice none 0 0,.slice none 0 0,.slice none 0 0]]=some (Z 1):=bE.eH (x:=()) trivial λ_ _=>rfl
theorem awS{R df:List Int}:bK al 21 [nI,cn R,cn df] (.slice none 0 0):=by refine et (dM (aB:=⟨[Nj],[]⟩) Q3 (by kernel_rfl) (by simp[Cm]) ?_);simp(disch:=first|omega|simp only[DI.ab];omega) [Cm,Q2,Q4,Q6,Q7,Q5,nI,-O,-U,-N,-S,-List.map_map]
theorem ayx{cf cA:List Int}:bK al 23 [nI,.agg (se cf cA).toArray] (.bool false):=by refine et (dM (aB:=⟨[Nj],[]⟩) Rm (by kernel_rfl) (by simp[Ct]) ?_);simp(disch:=first|omega|simp only[DI.ab];omega) [Ct,Rl,Rn,Ro,Rp,xI,nI,-O,-U,-N,-S,-List.map_map]
noncomputable def Dy:bE al:= .dR 21 (List Int×List Int) (λ_=>True) (λx=>[nI,cn x.1,cn x.2]) (λ_=> .slice none 0 0) λ_ _=>awS
theorem axD{R df:List Int}:Dy.fn [nI,cn R,cn df]=some (.slice none 0 0):=bE.eH (x:=(R,df)) trivial λ⟨og,kD⟩ ag=>by simpa using ag
theorem axE{u:bm}{args:List Value}:Dy.fn (.agg (aU u).toArray::args)=none:=by unfold Dy bE.dR;simp only;rw[dif_neg];rintro⟨x,_,G⟩;simp[nI,aU,aw]at G
noncomputable def H4(u:bm)(h:fT u):bE al:= .dR 21 (List Int×List Int) (λx=>x.2.length<=1000000) (λx=>[.agg (aU u).toArray,cn x.1,cn x.2]) (λx=>cn (qn u x.1 x.2)) λx G=>awd h G
@[simp] theorem aJl{u:bm}{h:fT u}:(H4 u h).f=21:=rfl
@[simp] theorem axz{u:bm}{h:fT u}{R df:List Int}(au:df.length<=1000000):(H4 u h).fn [.agg #[Z u.ext,aw (u.cH.map gZ) 4,aw (u.bf.map gO) 4,aw (u.a1.map ef) 7,aw (u.a5.map gp) 3,aw (u.cI.map fi) 17,aw (u.cM.map hQ) 2],aw (R.map λx=>[Z x]) 1,aw (df.map λx=>[Z x]) 1]=some (cn (qn u R df)):=bE.eH (x:=(R,df)) au λ⟨og,kD⟩ ag=>by simpa using ag
noncomputable def Nb(u:bm)(h:fT u):bE al:= .dR 22 (List Int×List Int) (λx=>x.2.length<=1000000) (λx=>[.agg (aU u).toArray,cn x.1,cn x.2]) (λx=>cn (qn u x.1 x.2)) λx G=>awY h G
@[simp] theorem aJA{u:bm}{h:fT u}:(Nb u h).f=22:=rfl
@[simp] theorem aJB{u:bm}{h:fT u}{R df:List Int}(au:df.length<=1000000):(Nb u h).fn [.agg #[Z u.ext,aw (u.cH.map gZ) 4,aw (u.bf.map gO) 4,aw (u.a1.map ef) 7,aw (u.a5.map gp) 3,aw (u.cI.map fi) 17,aw (u.cM.map hQ) 2],aw (R.map λx=>[Z x]) 1,aw (df.map λx=>[Z x]) 1]=some (cn (qn u R df)):=bE.eH (x:=(R,df)) au λ⟨og,kD⟩ ag=>by simpa using ag
noncomputable def H8(u:bm)(h:fT u):bE al:=afh Dy (H4 u h) rfl
@[simp] theorem aJZ{u:bm}{h:fT u}:(H8 u h).f=21:=rfl
@[simp] theorem aJ0{u:bm}{h:fT u}{R df:List Int}(au:df.length<=1000000):(H8 u h).fn [.agg #[Z u.ext,aw (u.cH.map gZ) 4,aw (u.bf.map gO) 4,aw (u.a1.map ef) 7,aw (u.a5.map gp) 3,aw (u.cI.map fi) 17,aw (u.cM.map hQ) 2],aw (R.map λx=>[Z x]) 1,aw (df.map λx=>[Z x]) 1]=some (cn (qn u R df)):=by
  have D:=axE (u:=u) (args:=[cn R,cn df]);show(match Dy.fn (.agg (aU u).toArray::[cn R,cn df])with
    |some r=>some r
    |none=>(H4 u h).fn (.agg (aU u).toArray::[cn R,cn df]))=_
  rw[D];exact axz au
@[simp] theorem aJ1{u:bm}{h:fT u}{R df:List Int}:(H8 u h).fn [.agg #[.int .i64 0,.slice none 0 0,.slice none 0 0,.slice none 0 0,.slice none 0 0,.slice none 0 0,.slice none 0 0],aw (R.map λx=>[Z x]) 1,aw (df.map λx=>[Z x]) 1]=some (.slice none 0 0):=by
  show(match Dy.fn [nI,cn R,cn df]with
    |some r=>some r
    |none=>(H4 u h).fn [nI,cn R,cn df])=_
  rw[axD]
noncomputable def Dz:bE al:= .dR 23 (List Int×List Int) (λ_=>True) (λx=>[nI,.agg (se x.1 x.2).toArray]) (λ_=> .bool false) λ_ _=>ayx
theorem axK{cf cA:List Int}:Dz.fn [nI,.agg (se cf cA).toArray]=some (.bool false):=bE.eH (x:=(cf,cA)) trivial λ⟨og,kD⟩ ag=>by simpa using ag
theorem axL{u:bm}{args:List Value}:Dz.fn (.agg (aU u).toArray::args)=none:=by unfold Dz bE.dR;simp only;rw[dif_neg];rintro⟨x,_,G⟩;simp[nI,aU,aw]at G
noncomputable def H5(u:bm)(h:fT u):bE al:= .dR 23 (List Int×List Int) (λx=>(x.1++x.2).length<=1000000) (λx=>[.agg (aU u).toArray,.agg (se x.1 x.2).toArray]) (λx=> .bool (lU u (x.1++x.2))) λx G=>awf h G
@[simp] theorem aJm{u:bm}{h:fT u}:(H5 u h).f=23:=rfl
@[simp] theorem axA{u:bm}{h:fT u}{cf cA:List Int}(au:(cf++cA).length<=1000000):(H5 u h).fn [.agg #[Z u.ext,aw (u.cH.map gZ) 4,aw (u.bf.map gO) 4,aw (u.a1.map ef) 7,aw (u.a5.map gp) 3,aw (u.cI.map fi) 17,aw (u.cM.map hQ) 2],.agg #[aw (cf.map λx=>[Z x]) 1,aw (cA.map λx=>[Z x]) 1]]=some (.bool (lU u (cf++cA))):=bE.eH (x:=(cf,cA)) au λ⟨og,kD⟩ ag=>by simpa using ag
noncomputable def Nf(u:bm)(h:fT u):bE al:= .dR 24 (List Int×List Int) (λx=>(x.1++x.2).length<=1000000) (λx=>[.agg (aU u).toArray,.agg (se x.1 x.2).toArray]) (λx=> .bool (lU u (x.1++x.2))) λx G=>aw3 h G
@[simp] theorem aJL{u:bm}{h:fT u}:(Nf u h).f=24:=rfl
@[simp] theorem aJM{u:bm}{h:fT u}{cf cA:List Int}(au:(cf++cA).length<=1000000):(Nf u h).fn [.agg #[Z u.ext,aw (u.cH.map gZ) 4,aw (u.bf.map gO) 4,aw (u.a1.map ef) 7,aw (u.a5.map gp) 3,aw (u.cI.map fi) 17,aw (u.cM.map hQ) 2],.agg #[aw (cf.map λx=>[Z x]) 1,aw (cA.map λx=>[Z x]) 1]]=some (.bool (lU u (cf++cA))):=bE.eH (x:=(cf,cA)) au λ⟨og,kD⟩ ag=>by simpa using ag
noncomputable def H9(u:bm)(h:fT u):bE al:=afh Dz (H5 u h) rfl
@[simp] theorem aJ4{u:bm}{h:fT u}:(H9 u h).f=23:=rfl
@[simp] theorem aJ5{u:bm}{h:fT u}{cf cA:List Int}(au:(cf++cA).length<=1000000):(H9 u h).fn [.agg #[Z u.ext,aw (u.cH.map gZ) 4,aw (u.bf.map gO) 4,aw (u.a1.map ef) 7,aw (u.a5.map gp) 3,aw (u.cI.map fi) 17,aw (u.cM.map hQ) 2],.agg #[aw (cf.map λx=>[Z x]) 1,aw (cA.map λx=>[Z x]) 1]]=some (.bool (lU u (cf++cA))):=by
  have D:=axL (u:=u) (args:=[.agg (se cf cA).toArray]);show(match Dz.fn (.agg (aU u).toArray::[.agg (se cf cA).toArray])with
    |some r=>some r
    |none=>(H5 u h).fn (.agg (aU u).toArray::[.agg (se cf cA).toArray]))=_
  rw[D];exact axA au
@[simp] theorem aJ6{u:bm}{h:fT u}{cf cA:List Int}:(H9 u h).fn [.agg #[.int .i64 0,.slice none 0 0,.slice none 0 0,.slice none 0 0,.slice none 0 0,.slice none 0 0,.slice none 0 0],.agg #[aw (cf.map λx=>[Z x]) 1,aw (cA.map λx=>[Z x]) 1]]=some (.bool false):=by
  show(match Dz.fn [nI,.agg (se cf cA).toArray]with
    |some r=>some r
    |none=>(H5 u h).fn [nI,.agg (se cf cA).toArray])=_
  rw[axK]
abbrev Ou(u:bm)(L:List (List Int))(R:List Int):List Value:=[Z u.ext,aw (u.cH.map gZ) 4,aw (u.bf.map gO) 4,aw (u.a1.map ef) 7,aw (u.a5.map gp) 3,aw (u.cI.map fi) 17,aw (u.cM.map hQ) 2,pf L,cn R]
theorem ah1{l:List Int}(aD:l.length<=140737488355328){df cf cA:List Int}(au:df.length<=140737488355328)(ub:cf.length<=140737488355328)(vx:cA.length<=140737488355328):bK al 3 [cn l,cn df,cn cf,cn cA] (.bool true):=by
  obtain⟨u,L,R,aLW,bw,dk,ev,ch,c6,gG,au3⟩:=au5 aD;have a6:=adC bw (by decide);have hS:=a6.ok.js;have kt:=a6.ok.mh;refine et (dM (aB:=⟨[M4,H8 u a6,Nb u a6,H9 u a6,Nf u a6,Ng,Ia],[]⟩) asb (by kernel_rfl) (by simp[CD]) ?_);by_cases ax:df.length<=20/\cf.length<=20/\cA.length<=20
  case neg=>
    by_cases hP:(20:Int)<df.length
    · simp(disch:=first|omega|simp only[DI.ab];omega) [CD,GP,GQ,hP,-O,-U,-N,-S,-List.map_map]
    by_cases hd:(20:Int)<cf.length
    · simp(disch:=first|omega|simp only[DI.ab];omega) [CD,GP,GQ,hP,hd,-O,-U,-N,-S,-List.map_map]
    have iT:(20:Int)<cA.length:=(by omega);simp(disch:=first|omega|simp only[DI.ab];omega) [CD,GP,GQ,hP,hd,iT,-O,-U,-N,-S,-List.map_map]
  obtain⟨D,H,aq⟩:=ax;have hP: ¬(20:Int)<df.length:=by omega
  have hd: ¬(20:Int)<cf.length:=by omega
  have iT: ¬(20:Int)<cA.length:=by omega
  simp(disch:=first|omega|simp only[DI.ab];omega) [CD,GP,GQ,ab6,hP,hd,iT,-O,-U,-N,-S,-List.map_map];refine(au3 _).b6 λv bF ⟨ad,aF⟩=> ?_;subst ad;have auI:=bn aF;have ady:12<bF.next:=auI
  have auY:5<bF.next:=by omega
  have iz:(aU u++[pf L,cn R]).length=9:=rfl;have ai5:gy [Value.int IntKind.i64 0,Value.slice none 0 0,Value.slice none 0 0,Value.slice none 0 0,Value.slice none 0 0,Value.slice none 0 0,Value.slice none 0 0,Value.slice none 0 0,Value.slice none 0 0] 0 (aU u++[pf L,cn R])=aU u++[pf L,cn R]:=by simp[gy,aU]
  simp(disch:=first|omega|simp only[DI.ab];omega) [iz,ai5,-O,-U,-N,-S,-List.map_map];have gi:(bF.a0 5 (some ⟨aU u++[pf L,cn R],true⟩)).X 5=some ⟨Ou u L R,true⟩:=by rw[ej auY];rfl
  generalize bF.a0 5 _=iH at gi⊢;have Hp:=bn gi;have MH:(u.a1.length:Int)+u.a5.length+1<=1000000:=by omega
  have mU:IntKind.i64.wrap ((u.a1.length:Int)+u.a5.length)=(u.a1.length:Int)+u.a5.length:=fx (by omega) (by omega);have tE:IntKind.i64.wrap ((u.a1.length:Int)+u.a5.length+1)=(u.a1.length:Int)+u.a5.length+1:=fx (by omega) (by omega);simp(disch:=first|omega|simp only[DI.ab];omega) [ab7,ab8,-O,-U,-N,-S,-List.map_map];refine yB (d:=11) (I:=1) (by simp) ?_;refine azq (aB:=⟨[Ia],[]⟩) (λi z t=>(∃o,o≠5/\z 11=ee o i 1/\t.X o=some ⟨(((df.take i).map λx=>n6 x ((u.a1.length:Int)+u.a5.length+1))).map Z,true⟩)/\t.X 5=some ⟨Ou u L R,true⟩/\z 1=cn df/\z 2=cn cf/\z 3=cn cA/\z 9=cF 5/\z 12=Z i) df.length ?_ ?_ 0 _ _ (hx _) ?_
  · rintro i z t ak ⟨⟨o,aC,pJ,bd⟩,gi,bl,eU,dJ,gD,uO⟩ cx bk;obtain⟨n,G⟩:=jz ak;have e8:=(eB.1 G).2;have bY:(i:Int)<df.length:=(by omega);have bZ:=g3 (n:=i) (by omega);have Hp:=bn gi;have cp:=bn bd;have fO:(i+1)*8<=140737488355328/\i<=9223372036854775806:=(by omega);have aEI:i<=df.length:=(by omega);have Xp:min i df.length=i:=(by omega);simp(disch:=first|omega|simp only[DI.ab];omega) [RE,Ls,Lt,Lu,bl,gD,pJ,uO,gi,bd,bY,bZ,mU,tE,e8,fO,Xp,-List.map_take,-O,-U,-N,-S,-List.map_map];refine bk _ _ ⟨⟨t.next+17,by omega,by simp,?_⟩,?_,by simp[bl],by simp[eU],by simp[dJ],by simp[gD],by simp⟩
    · rw[ej (by simp),jh (by simp[Xp])];rw[u3,G];simp
    · have adZ: ¬5=o:= λe=>aC e.symm;simp(disch:=first|omega|simp only[DI.ab];omega) [gi,-O,-U,-N,-S,-List.map_map]
  · rintro z t ⟨⟨o,aC,pJ,bd⟩,gi,bl,eU,dJ,gD,uO⟩;rw[kj]at bd;obtain⟨IT,WY⟩: ∃x,df.map (λx=>n6 x ((u.a1.length:Int)+u.a5.length+1))=x:=⟨_,rfl⟩;have ai0:IT.length=df.length:=(by rw[<-WY];simp);rw[WY]at bd;rw[<-ai0]at pJ;refine azr (o:=o) (d:=11) (I:=1) (a8:=IT.map λx=>[Z x]) (by rw[qZ];exact bd) sZ (by rw[pJ];simp) ?_;have adZ: ¬5=o:= λe=>aC e.symm;have gi:(t.a0 o none).X 5=some ⟨Ou u L R,true⟩:=(by rw[bW adZ];exact gi);generalize t.a0 o none=t at gi⊢;refine eu (aB:=⟨[M4,H8 u a6,Nb u a6,H9 u a6,Nf u a6,Ng,Ia],[]⟩) λcx bk=> ?_;have Hp:=bn gi;have bg:IT.length<=1000000:=(by omega);have dH:df.length<=1000000:=(by omega);have mf:(cf++cA).length<=1000000:=(by rw[jI];omega);have wa: ∀x,(qn u R x).length<=1000000:= λx=>by rw[Tc];omega
    have Da:=wa IT;have x5:=wa df;simp(disch:=first|omega|simp only[DI.ab];omega) [RE,Ls,Lt,Lu,Lt,Ls,Lu,bl,eU,dJ,gD,uO,gi,-O,-U,-N,-S,-List.map_map]
  · exact⟨⟨iH.next,by omega,by simp,by simp(disch:=first|omega|simp only[DI.ab];omega) [-O,-U,-N,-S,-List.map_map]⟩,by simp(disch:=first|omega|simp only[DI.ab];omega) [gi,-O,-U,-N,-S,-List.map_map],by simp,by simp,by simp,by simp,by simp⟩
abbrev rY:fr:= .slice (.int .i64)
theorem Me(d:rY.cL):I7 rY d=cn (pb (e:= .int .i64) d):=rfl
theorem auL{e:fr}{l:List e.cL}(h:Aw (.slice e) l):l.length<=140737488355328:=by have:=e.auM h.1;simp only[reachBytes]at this;exact kZ this (by omega)
theorem Mf{d:rY.cL}(h:Aw rY d):(pb (e:= .int .i64) d).length<=140737488355328:=auL (e:= .int .i64) h
theorem ah0(m:W)(e2:List Value)(h:sq m [rY,rY,rY,rY] e2):gd al 3 e2 m λr _=>r= .bool true:=by
  refine auv (λts bt=> ?_) m e2 h;cases bt with
  | @cons _ d _ cj ok M=>
    cases M with
    | @cons _ ot _ yA aeb uj=>
      cases uj with
      | @cons _ hd _ azd avP hB=>
        cases hB with
        | @cons _ iT _ aze avQ zu=>cases zu;rw[Me,Me,Me,Me];exact ah1 (Mf ok) (Mf aeb) (Mf avP) (Mf avQ)
end Go.Proofs.YtmmkkggfmigppaaGreat
namespace Go.Proofs.YtmmkkggfmigppaaGreat.drainRoomsDone
open Go.ChangeShapes Go.WideShapes Go.ChangeAt Go.RowKit
section
theorem own:ownKnob Tryz.prog.godebug=none:=by kernel_rfl
theorem laidOut:laidOutB Tryz.prog=true:=by kernel_rfl
theorem mixed:Tryz.prog.follows .mixedOrders=true:=by kernel_rfl
set_option maxRecDepth 100000 in
theorem lifted(os:Os)(T4:os.Started)(j7:Type)(enc:TypeId×Value->j7):
    ReturnsInHanded {} Tryz.checked os 3 .any (Rows.drainRoomsSpec.pre6 enc Tryz.prog Tryz.f3 Rows.drainRoomsRow.domain false) (Rows.drainRoomsSpec.post enc Tryz.prog Tryz.f3 false true false false):=by
  refine returnsInHanded_of_change_sized (C:=Tryz.checked) own T4 (by kernel_rfl) Tryz.func3
    (ChangeSpec.witness6 (enc:=enc) (C:=Tryz.checked) false ⟨#[],#[.slice none 0 0,.slice none 0 0,.slice none 0 0,.slice none 0 0],[]⟩ 8 (by kernel_rfl) (by kernel_rfl) (by kernel_rfl) (by kernel_rfl)) ?_
  intro cA base args ds WT Vz XI vx aED aj7 _;have xx: ∀(j:Nat) t v,Tryz.f3.params[j]?=some t->args[j]?=some v->Value.okWide Tryz.prog cA .any base t v:=XI;have ai2:=vx;obtain⟨p,q,WU,BJ,rfl,Fe,hS⟩:=vx;have ajq:WT=[]:=(trodVars_none BJ).1;have m6: ∀n∈DataW.weightsEach Tryz.prog Tryz.f3.params.toList ds,n<=reachBytes:= λn au=>by have iX:(DataW.weightsEach Tryz.prog (Tryz.f3.params.toList++Rows.drainRoomsSpec.plain.varTypes Tryz.prog) (ds++WT)).all (· <=reachBytes)=true:=aj7;have:=eQ.1 iX n (by rw[ajq];simpa[Rows.drainRoomsSpec,ChangeSpec.plain,DataSpec.varTypes]using au);simpa using this
  have ub:DataW.TrodAll enc Tryz.prog cA 0 (λ_=>true) true Tryz.f3.params.toList args.toList ds p:=WU;have J2:=Go.DI.auu (f:=3) (n:=12) mixed (ts:=Tryz.f3.params.toList) (kC:=[rY,rY,rY,rY]) (by kernel_rfl) (λj t v D H=>xx j t v (by simpa using D) H) ub m6 (λm e2 h=>ah0 m e2 h);rw[Tryz.params3]at ub xx;obtain⟨ayV,aMY,aDF,aDG,oM,bY,aEw,rfl,rfl,cR,mj⟩:=trodAll_cons ub;obtain⟨A5,aMZ,hP,yS,fX,a3,rfl,rfl,rfl,D,fL⟩:=trodAll_cons mj;obtain⟨uW,azd,hd,Wd,g1,br,rfl,rfl,rfl,H,g8⟩:=trodAll_cons fL;obtain⟨tA,aze,iT,aDH,hL,bX,rfl,rfl,rfl,aq,jt⟩:=trodAll_cons g8;obtain⟨rfl,rfl,rfl⟩:=trodAll_nil jt;obtain rfl:args= #[ayV,A5,uW,tA]:=by cases args;simp_all
  obtain⟨rfl,rfl⟩:=trodVars_none BJ;have auV: ∀x∈oM,x.block<cA.heap.size:=by obtain⟨m,av⟩:=cR;exact DataW.trod_lt m _ _ _ av
  have ady: ∀x∈fX,x.block<cA.heap.size:=by obtain⟨m,av⟩:=D;exact DataW.trod_lt m _ _ _ av
  have auW: ∀x∈g1,x.block<cA.heap.size:=by obtain⟨m,av⟩:=H;exact DataW.trod_lt m _ _ _ av
  have auX: ∀x∈hL,x.block<cA.heap.size:=by obtain⟨m,av⟩:=aq;exact DataW.trod_lt m _ _ _ av
  clear WU XI;refine J2.mono λe aAz ⟨bb,Ep⟩=> ?_;subst bb;exact⟨_,rfl,_,_,_,[],_,[],ai2,trodAll_mk1 (shut_bool (by kernel_rfl) _),(trodAll_cons_mk (Below.trod laidOut (by kernel_rfl) (of_decide_eq_true (by kernel_rfl)) cR Ep auV) (trodAll_cons_mk (Below.trod laidOut (by kernel_rfl) (of_decide_eq_true (by kernel_rfl)) D Ep ady) (trodAll_cons_mk (Below.trod laidOut (by kernel_rfl) (of_decide_eq_true (by kernel_rfl)) H Ep auW) (trodAll_cons_mk (Below.trod laidOut (by kernel_rfl) (of_decide_eq_true (by kernel_rfl)) aq Ep auX) trodAll_mk0)))),rfl,Ep.frame _,λh=>by cases h⟩
set_option maxRecDepth 10000
theorem ji{a b:Bool}(h:a=true)(bN:b=true):(a&&b)=true:=by rw[h,bN];rfl
theorem atJ:(Rows.drainRoomsRow.wf (OpenSpec.ofChange Rows.drainRoomsSpec))=true:=by kernel_rfl
theorem atK:(laidOutB Tryz.pinned.checked.prog)=true:=by kernel_rfl
theorem atV:(mapsRowed Tryz.pinned.checked.prog)=true:=by kernel_rfl
theorem at6:(Tryz.f3.params.all (Tryz.pinned.checked.prog.readableRec ·))=true:=by kernel_rfl
theorem at9:(namedTie Tryz.pinned.checked.prog Rows.drainRoomsRow.named Rows.drainRoomsSpec.vars)=true:=by kernel_rfl
theorem aua:((Rows.drainRoomsRow.stops==[]))=true:=by kernel_rfl
theorem aub:((Tryz.pinned.checked.prog.stops==[]))=true:=by kernel_rfl
theorem auc:((Rows.drainRoomsRow.knobs==[]))=true:=by kernel_rfl
theorem aud:((Tryz.pinned.checked.prog.stopKnobs==[]))=true:=by kernel_rfl
theorem aue:((Rows.drainRoomsRow.inPlace==Tryz.pinned.checked.prog.inPlace 3))=true:=by kernel_rfl
theorem atL:((Rows.drainRoomsRow.unfollowed==Tryz.pinned.checked.prog.unfollowed 3))=true:=by kernel_rfl
theorem atM:((Rows.drainRoomsRow.recurses==Tryz.pinned.checked.prog.recurses 3))=true:=by kernel_rfl
theorem atN:((Rows.drainRoomsRow.named==Tryz.pinned.checked.prog.varsNamed 3))=true:=by kernel_rfl
theorem atO:((Rows.drainRoomsRow.maps==(Tryz.f3.params.toList++Rows.drainRoomsSpec.plain.varTypes Tryz.pinned.checked.prog).any (Tryz.pinned.checked.prog.mapsRec ·)))=true:=by kernel_rfl
theorem atP:((Rows.drainRoomsRow.ifaces==(Tryz.f3.params.toList++Rows.drainRoomsSpec.plain.varTypes Tryz.pinned.checked.prog).any (Tryz.pinned.checked.prog.ifacesRec ·)))=true:=by kernel_rfl
theorem atQ:((Rows.drainRoomsRow.mapsOut==Tryz.pinned.checked.prog.mapsAmong Tryz.f3.resultTypes.toList))=true:=by kernel_rfl
theorem atR:((Rows.drainRoomsRow.loops==(Tryz.f3.params.toList++Rows.drainRoomsSpec.plain.varTypes Tryz.pinned.checked.prog).any (Tryz.pinned.checked.prog.loopsFrom ·)))=true:=by kernel_rfl
theorem atS:((Rows.drainRoomsRow.wideKeys==(Tryz.f3.params.toList++Rows.drainRoomsSpec.plain.varTypes Tryz.pinned.checked.prog++Tryz.f3.resultTypes.toList).any (Tryz.pinned.checked.prog.wideKeysFrom ·)))=true:=by kernel_rfl
theorem atT:(Rows.drainRoomsSpec.vars.all (Tryz.pinned.checked.prog.varReadable ·))=true:=by kernel_rfl
theorem atU:(Tryz.f3.resultTypes.all (λt=>Tryz.pinned.checked.prog.readableRec t&&decide (t<Tryz.pinned.checked.prog.types.size)))=true:=by kernel_rfl
theorem atW:((Rows.drainRoomsRow.ifacesOut==Tryz.f3.resultTypes.toList.any (Tryz.pinned.checked.prog.ifacesRec ·)))=true:=by kernel_rfl
theorem atX:((Rows.drainRoomsRow.loopsOut==Tryz.f3.resultTypes.toList.any (Tryz.pinned.checked.prog.loopsFrom ·)))=true:=by kernel_rfl
theorem atY:((Rows.drainRoomsRow.plainKeys==Tryz.pinned.checked.prog.plainKeys))=true:=by kernel_rfl
theorem atZ:(Rows.drainRoomsRow.shortTexts.isNone)=true:=by kernel_rfl
theorem at0:(Tryz.pinned.checked.prog.stopsHeard)=true:=by kernel_rfl
theorem at1:(Tryz.pinned.checked.prog.mayEnter)=true:=by kernel_rfl
theorem at2:((Rows.drainRoomsRow.lifted==Tryz.pinned.checked.prog.liftsFinal))=true:=by kernel_rfl
theorem at3:((Tryz.pinned.checked.prog.make==some Rows.drainRoomsRow.make))=true:=by kernel_rfl
theorem at4:((Rows.drainRoomsRow.kinds==(if Rows.drainRoomsRow.domain.isEmpty then[]else Tryz.f3.params.toList.map λt=>match Tryz.pinned.checked.prog.underlying t with|some (.int k)=>some k|_=>none)))=true:=by kernel_rfl
theorem at5:((Rows.drainRoomsRow.pinned==Rows.drainRoomsRow.pinnedBy))=true:=by kernel_rfl
theorem at7:((Rows.drainRoomsRow.veiled==(Tryz.f3.params.toList++Rows.drainRoomsSpec.plain.varTypes Tryz.pinned.checked.prog++Tryz.f3.resultTypes.toList).any (Tryz.pinned.checked.prog.veiledRec ·)))=true:=by kernel_rfl
theorem at8:(Rows.drainRoomsRow.veiledFits Tryz.pinned.checked.prog Tryz.f3.params.toList (Tryz.f3.params.toList++Rows.drainRoomsSpec.plain.varTypes Tryz.pinned.checked.prog++Tryz.f3.resultTypes.toList))=true:=by kernel_rfl
theorem auf:joinedFacts Tryz.pinned.checked.prog 3 Tryz.f3 Rows.drainRoomsSpec Rows.drainRoomsRow=true:=(ji (ji (ji (ji (ji (ji (ji (ji (ji (ji (ji (ji (ji (ji (ji (ji (ji (ji (ji (ji (ji (ji (ji (ji (ji (ji (ji (ji (ji (ji (ji atJ atK) atV) at6) at9) aua) aub) auc) aud) aue) atL) atM) atN) atO) atP) atQ) atR) atS) atT) atU) atW) atX) atY) atZ) at0) at1) at2) at3) at4) at5) at7) at8)
theorem over:Rows.drainRoomsRow.holds Tryz.pinned (OpenSpec.ofChange Rows.drainRoomsSpec):=
  OpenClaim.holds_of_wide 3 Tryz.f3 rfl rfl rfl rfl rfl rfl rfl ⟨rfl,rfl,rfl,rfl,rfl⟩ rfl rfl rfl rfl rfl (by kernel_rfl) Tryz.func3 auf
    (of_decide_eq_true (by kernel_rfl)) (by unfold Func.isWrapper;first|(rw[if_pos (by decide+kernel)];kernel_rfl)|(rw[if_neg (by decide+kernel)];exact⟨rfl,rfl⟩))
    (λos T4 j7 enc _=>lifted os T4 j7 enc)
theorem proved:Rows.DrainRoomsSaid:=over
#print axioms proved
end
end Go.Proofs.YtmmkkggfmigppaaGreat.drainRoomsDone
