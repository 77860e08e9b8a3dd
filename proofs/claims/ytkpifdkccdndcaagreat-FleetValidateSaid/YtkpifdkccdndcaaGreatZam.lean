/-
  A part of the proof of the statement, in texts that tools of ours (wip/shrink.py, irpack.py, relax.py, minify.py, join.py, lay.py) have shortened.
-/
import Derived.Test.YtkpifdkccdndcaaGreatZag
set_option linter.all false
set_option maxRecDepth 8000
set_option maxHeartbeats 16000000
namespace Go.Proofs.YtkpifdkccdndcaaGreat
open Go Go.DI
def Uy:J:= .D (.G [A 0 52 5,bZ 1 53 52,A 2 54 3,kJ 3 55 53 54,A 4 56 55,fX 5 57 56 5,ef 6 58 56 false (.gl 22 [I 57,.func 23]),jN 7 59 56 58,dx 8 60 56 59,A 9 61 60,fX 10 62 61 5,fX 11 63 61 4,vH 12 64 61 3 62 63,kH 13 65 61 3 64,kI 14 66 61 24 65,dx 15 67 61 66]) (.a8 (I 67) (.D (.G [ca 0 2 false]) (.aT)) (.skip))
def Ux:J:= .D (.block 1 (.D (.G [A 0 49 47,b9 1 50 1 45 47,aP 2 51 50,A 3 4 49,A 4 5 51]) Uy)) (.G [dA 0 68 47,A 1 47 68])
def Uw:J:= .D (.a8 (I 48) (.skip) (.bw 0)) Ux
def N1:J:= .D (.G [dR 0 48 47 46]) Uw
def DE:J:= .D (.G [A 0 85 7,lY 1 86 85 0,A 2 87 86,gT 3 88 87 10,wX 4 89 87 88 0,dd 5 90 87 89,A 6 91 90,jM 7 92 91 4 1,nr 8 93 91 28 92,dd 9 94 91 93,A 10 2 94]) (.aT)
def Ju:J:= .D (.G [ct 0 80 3 6,ct 1 81 3 8,gj 2 82 27 80 81,A 3 79 82,dN 4 83 0 79,dN 5 84 1 79,A 6 10 83,A 7 11 84]) DE
def Jt:J:= .D (.G [cF 0 76 26 [.const (.int .i64 1),.const (.int .i64 1)],A 1 75 76,dN 2 77 0 75,dN 3 78 1 75,bV 4 8 (.eC [.bool false,aW,aW]),c9 5 3 8 77,A 6 9 78]) Ju
def DF:J:= .D (.G [aY 0 70 1 1,aP 1 71 70,cF 2 72 25 [I 71],A 3 69 72,dN 4 73 0 69,dN 5 74 1 69,bV 6 6 (.eC [.bool false,aW,aW]),c9 7 3 6 73,A 8 7 74]) Jt
def Js:J:= .D (.D (.G [aY 0 44 2 1,aP 1 45 44,bZ 2 46 45,b0 3 47 0]) (.block 0 (.loop N1))) DF
def Jr:J:= .D (.D (.G [A 0 15 3,Bw 1 16 21 15 1 4,im 2 17 16,A 3 18 17,dr 4 19 18 3 1,dZ 5 20 18 19,iq 6 21 18 20,fX 7 22 18 3,k2 8 23 18 21 22,dx 9 24 18 23,A 10 25 24,dr 11 26 25 2 1,dZ 12 27 25 26,iq 13 28 25 27,fX 14 29 25 3,k2 15 30 25 28 29,dx 16 31 25 30,A 17 32 31,dr 18 33 32 1 1,dZ 19 34 32 33,ef 20 35 32 false (.gl 22 [I 34,.func 23]),jN 21 36 32 35,dx 22 37 32 36,A 23 38 37,dr 24 39 38 3 1,dZ 25 40 38 39,ef 26 41 38 false (.gl 22 [I 40,.func 23]),jN 27 42 38 41,dx 28 43 38 42]) (.a8 (I 43) (.D (.G [ca 0 2 false]) (.aT)) (.skip))) Js
def Jq:J:= .D (.G [aY 0 12 1 1,aP 1 13 12,bZ 2 14 13,A 3 3 14]) Jr
def Gi:J:=
  .D (
  .G [
 ft 0 1 0,
 ca 1 2 false]) Jq
def aFV:cR:=⟨95,[.bq 2],Gi⟩
theorem aGg:cO Z 9=some aFV:=by kernel_rfl
theorem avW{args:List Value}{m:E}{aI:Value->E->Prop}(h:args.length<=95):bU Z 9 args m aI=cH Z Gi (eX args) m (eU [.bq 2] aI):=fK aGg h
def ZQ:J:= .D (.G [A 0 63 5,aY 1 64 4 1,aP 2 65 64,A 3 66 5,bV 4 67 (.uR (.func 44) [I 66] []),cF 5 68 43 [I 63,I 65,I 67]]) (.G [A 0 69 5,aY 1 70 5 1,aP 2 71 70,A 3 72 5,bV 4 73 (.uR (.func 46) [I 72] []),cF 5 74 45 [I 69,I 71,I 73]])
def ZP:J:= .D (.G [A 0 57 5,aY 1 58 3 1,aP 2 59 58,A 3 60 5,bV 4 61 (.uR (.func 42) [I 60] []),cF 5 62 41 [I 57,I 59,I 61]]) ZQ
def ZO:J:= .D (.G [A 0 51 5,aY 1 52 2 1,aP 2 53 52,A 3 54 5,bV 4 55 (.uR (.func 40) [I 54] []),cF 5 56 39 [I 51,I 53,I 55]]) ZP
def ZJ:J:= .D (.G [A 0 89 5,oQ 1 90 89,aY 2 91 0 90,ct 3 92 7 91,bV 4 93 (.hg [bd,bd] []),c9 5 7 2 92,b0 6 3 0,c9 7 2 4 93]) (.aT)
def ZR:J:= .D (.D (.G [A 0 75 5,oQ 1 76 75,aY 2 77 17 76,aP 3 78 77,eJ 4 79 .neq (I 78) (.const bd)]) (.a8 (I 79) (.D (.G [bV 0 80 (.hg [bd,aW,aW,aW,aW,aW,aW] []),A 1 81 5,oQ 2 82 81,aY 3 83 17 82,aP 4 84 83,A 5 85 5,oQ 6 86 85,aY 7 87 18 86,ct 8 88 2 87,⟨9,none,none,.store 7 (I 2) (I 80),[(I 87,I 2),(I 83,I 2)]⟩,A 10 3 84,c9 11 2 4 88]) (.aT)) (.skip))) ZJ
def ZN:J:= .D (.D (.G [A 0 32 5,aY 1 33 0 1,aP 2 34 33,Bw 3 35 21 34 1 4,bV 4 36 (.hg [bd,bd] []),cF 5 37 35 [I 32,I 35,.const (.int .i64 5),I 36],A 6 38 37,gT 7 39 38 5,jM 8 40 38 6 1,nr 9 41 38 36 40,ef 10 42 38 true (.hg [bd,bd] []),ef 11 43 38 true (.gl 35 [I 39,I 41,.const (.int .i64 2),I 42]),dd 12 44 38 43]) (.a8 (I 44) (.D (.G [A 0 45 5,aY 1 46 1 1,aP 2 47 46,A 3 48 5,bV 4 49 (.uR (.func 38) [I 48] []),cF 5 50 37 [I 45,I 47,I 49]]) ZO) (.skip))) ZR
def ZM:J:= .D (.G [A 0 23 5,cF 1 24 34 [.const (.int .u64 0)],cF 2 25 34 [.const (.int .u64 1)],bV 3 26 (.hg [.bool false,aW,aW] [(1,1,I 24),(2,1,I 25)]),bV 4 27 (.hg [.string ⟨#[]⟩,bd,bd,bd,.bool false,aW,aW] [(2,1,.const (.int .i64 (-1))),(4,3,I 26)]),bV 5 28 (.jx 7 1 [.string ⟨#[]⟩,bd,bd,bd,.bool false,aW,aW] [(0,7,I 27)]),oQ 6 29 23,aY 7 30 0 29,aY 8 31 3 30,c9 9 1 31 28]) ZN
def ZL:J:= .D (.G [A 0 17 5,aY 1 18 0 1,aP 2 19 18,oQ 3 20 17,aY 4 21 0 20,aY 5 22 0 21,c9 6 1 22 19]) ZM
def ZK:J:= .D (.G [A 0 13 5,bV 1 14 (.hg [bd,bd,bd,bd,bd] [(0,1,.const bd),(1,1,.const (.int .i64 (-1))),(2,1,.const (.int .i64 (-1))),(3,1,.const (.int .i64 (-1))),(4,1,.const (.int .i64 (-1)))]),oQ 2 15 13,aY 3 16 12 15,c9 4 5 16 14]) ZL
def ZI:J:= .D (.G [bV 0 6 (.pj),bV 1 7 (.pj),bV 2 8 (.pj),bV 3 9 (.pj),bV 4 10 (.pj),bV 5 11 (.hg [bd,aW,aW,aW,aW,aW,aW,.map none,.map none,.map none,.map none,.map none,bd,bd,bd,bd,bd,bd,bd,bd] [(7,1,I 6),(8,1,I 7),(9,1,I 8),(10,1,I 9),(11,1,I 10)]),ft 6 12 11,A 7 5 12]) ZK
def ZH:J:=
  .D (
  .G [
 ft 0 1 0,
 bV 1 2 (.eC [bd,aW,aW,aW,aW,aW,aW]),
 b0 2 3 0,
 bV 3 4 (.eC [bd,bd])]) ZI
def MK:cR:=⟨94,[.h8 2 true 7,.bq 3,.h8 4 true 2],ZH⟩
theorem akP:cO Z 11=some MK:=by kernel_rfl
def Sg:J:= .D (.G [A 0 73 3,aY 1 74 0 10,aP 2 75 74,zF 3 76 75,k3 4 77 1 16 73 76,A 5 3 77]) (.G [A 0 78 8,A 1 79 78,jM 2 80 79 4 10,nr 3 81 79 9 80,dd 4 82 79 81,A 5 8 82])
def Sf:J:= .D (.block 1 (.D (.G [b9 0 71 4 67 69,ct 1 72 4 71,bV 2 10 (.eC [.string ⟨#[]⟩,aW,aW,aW]),c9 3 4 10 72]) Sg)) (.G [dA 0 83 69,A 1 69 83])
def M3:J:= .D (.a8 (I 70) (.skip) (.bw 0)) Sf
def IL:J:= .D (.G [dR 0 70 69 68]) M3
def II:J:= .D (.G [A 0 91 4,aY 1 92 0 12,aP 2 93 92,zF 3 94 93,k3 4 95 1 16 91 94,A 5 4 95]) (.G [A 0 96 8,A 1 97 96,dk 2 98 97 1 12,dF 3 99 97 98,Gp 4 100 97 21 99 16,dd 5 101 97 100,A 6 102 101,dk 7 103 102 2 12,dF 8 104 102 103,Gp 9 105 102 21 104 64,dd 10 106 102 105,A 11 107 106,dk 12 108 107 3 12,dF 13 109 107 108,dk 14 110 107 1 1,dF 15 111 107 110,pf 16 112 107 111,vI 17 113 107 112,zG 18 114 107 21 109 113,dd 19 115 107 114,A 20 8 115])
def IH:J:= .D (.block 3 (.D (.G [b9 0 89 4 85 87,ct 1 90 4 89,bV 2 12 (.eC [.string ⟨#[]⟩,bd,bd,bd]),c9 3 4 12 90]) II)) (.G [dA 0 116 87,A 1 87 116])
def F3:J:= .D (.a8 (I 88) (.skip) (.bw 2)) IH
def Dh:J:= .D (.G [dR 0 88 87 86]) F3
def alQ:J:= .D (.block 5 (.D (.G [b9 0 123 7 119 121,ct 1 124 7 123,bV 2 14 (.eC [.string ⟨#[]⟩,bd,bd,bd,.bool false,aW,aW]),c9 3 7 14 124]) (.G [A 0 125 5,aY 1 126 0 14,aP 2 127 126,zF 3 128 127,k3 4 129 1 16 125 128,A 5 5 129]))) (.G [dA 0 130 121,A 1 121 130])
def aaA:J:= .D (.a8 (I 122) (.skip) (.bw 4)) alQ
def Sh:J:= .D (.G [dR 0 122 121 120]) aaA
def IK:J:= .D (.G [A 0 138 5,aY 1 139 0 16,aP 2 140 139,zF 3 141 140,k3 4 142 1 16 138 141,A 5 5 142]) (.G [A 0 143 8,A 1 144 143,dk 2 145 144 1 16,dF 3 146 144 145,dk 4 147 144 2 1,dF 5 148 144 147,pf 6 149 144 148,vI 7 150 144 149,zG 8 151 144 21 146 150,dd 9 152 144 151,A 10 153 152,dk 11 154 153 2 16,dF 12 155 153 154,dk 13 156 153 3 1,dF 14 157 153 156,pf 15 158 153 157,vI 16 159 153 158,zG 17 160 153 21 155 159,dd 18 161 153 160,A 19 162 161,dk 20 163 162 3 1,dF 21 164 162 163,dk 22 165 162 2 16,dF 23 166 162 165,wV 24 167 162 7 164 166,dk 25 168 162 1 167,dF 26 169 162 168,wX 27 170 162 169 4,dd 28 171 162 170,A 29 8 171])
def IJ:J:= .D (.block 7 (.D (.G [b9 0 136 3 132 134,ct 1 137 3 136,bV 2 16 (.eC [.string ⟨#[]⟩,bd,bd]),c9 3 3 16 137]) IK)) (.G [dA 0 172 134,A 1 134 172])
def F2:J:= .D (.a8 (I 135) (.skip) (.bw 6)) IJ
def Di:J:= .D (.G [dR 0 135 134 133]) F2
def Sc:J:= .D (.G [A 0 180 6,aY 1 181 0 18,aP 2 182 181,zF 3 183 182,k3 4 184 1 16 180 183,A 5 6 184]) (.G [A 0 185 8,A 1 186 185,jM 2 187 186 17 18,dk 3 188 186 2 1,dF 4 189 186 188,pf 5 190 186 189,tK 6 191 186 64 187 190,dd 7 192 186 191,A 8 8 192])
def Sb:J:= .D (.block 9 (.D (.G [b9 0 178 17 174 176,ct 1 179 17 178,bV 2 18 (.eC [.string ⟨#[]⟩,bd,bd,bd,bd,bd,bd,bd,bd,aW,aW,.bool false,aW,aW,.bool false,aW,aW]),c9 3 17 18 179]) Sc)) (.G [dA 0 193 176,A 1 176 193])
def M0:J:= .D (.a8 (I 177) (.skip) (.bw 8)) Sb
def IM:J:= .D (.G [dR 0 177 176 175]) M0
def Se:J:= .D (.G [A 0 201 7,aY 1 202 0 20,aP 2 203 202,zF 3 204 203,k3 4 205 1 16 201 204,A 5 7 205]) (.G [A 0 206 8,A 1 207 206,dk 2 208 207 1 20,dF 3 209 207 208,dk 4 210 207 5 1,dF 5 211 207 210,pf 6 212 207 211,vI 7 213 207 212,zG 8 214 207 21 209 213,dd 9 215 207 214,A 10 8 215])
def Sd:J:= .D (.block 11 (.D (.G [b9 0 199 2 195 197,ct 1 200 2 199,bV 2 20 (.eC [.string ⟨#[]⟩,bd]),c9 3 2 20 200]) Se)) (.G [dA 0 216 197,A 1 197 216])
def M1:J:= .D (.a8 (I 198) (.skip) (.bw 10)) Sd
def IN:J:= .D (.G [dR 0 198 197 196]) M1
def Dg:J:= .D (.G [b0 0 2 0]) (.aT)
def Df:J:= .D (.D (.G [A 0 217 8,im 1 218 217,A 2 219 218,fX 3 220 219 3,kI 4 221 219 65 220,jN 5 222 219 221,dx 6 223 219 222,A 7 224 223,fX 8 225 224 4,kI 9 226 224 65 225,jN 10 227 224 226,dx 11 228 224 227,A 12 229 228,fX 13 230 229 5,kI 14 231 229 65 230,jN 15 232 229 231,dx 16 233 229 232,A 17 234 233,fX 18 235 234 6,kI 19 236 234 65 235,jN 20 237 234 236,dx 21 238 234 237,A 22 239 238,fX 23 240 239 7,kI 24 241 239 65 240,jN 25 242 239 241,dx 26 243 239 242]) (.a8 (I 243) (.D (.G [b0 0 2 1]) (.aT)) (.skip))) Dg
def alU:J:= .D (.D (.G [aY 0 194 6 1,aP 1 195 194,bZ 2 196 195,b0 3 197 0]) (.block 10 (.loop IN))) Df
def alS:J:= .D (.D (.G [aY 0 173 5 1,aP 1 174 173,bZ 2 175 174,b0 3 176 0]) (.block 8 (.loop IM))) alU
def alR:J:= .D (.D (.G [aY 0 131 4 1,aP 1 132 131,bZ 2 133 132,b0 3 134 0]) (.block 6 (.loop Di))) alS
def alP:J:= .D (.D (.G [aY 0 117 3 1,aP 1 118 117,bV 2 119 (.qI 7 (I 118) (some (.const (.int .i64 1))) none),bZ 3 120 119,b0 4 121 0]) (.block 4 (.loop Sh))) alR
def alX:J:= .D (.D (.G [aY 0 84 2 1,aP 1 85 84,bZ 2 86 85,b0 3 87 0]) (.block 2 (.loop Dh))) alP
def alW:J:= .D (.D (.G [aY 0 66 1 1,aP 1 67 66,bZ 2 68 67,b0 3 69 0]) (.block 0 (.loop IL))) alX
def alV:J:= .D (.G [ca 0 8 true]) alW
def alT:J:= .D (.G [fO 0 3,fO 1 4,fO 2 5,fO 3 6,fO 4 7]) alV
def zs:J:= .D (.D (.G [aY 0 21 0 1,aP 1 22 21,Bw 2 23 21 22 1 4,im 3 24 23,A 4 25 24,dr 5 26 25 1 1,dZ 6 27 25 26,iq 7 28 25 27,pW 8 29 25 28 4,dx 9 30 25 29,A 10 31 30,dr 11 32 31 2 1,dZ 12 33 31 32,iq 13 34 31 33,pW 14 35 31 34 4,dx 15 36 31 35,A 16 37 36,dr 17 38 37 3 1,dZ 18 39 37 38,iq 19 40 37 39,pW 20 41 37 40 40,dx 21 42 37 41,A 22 43 42,dr 23 44 43 4 1,dZ 24 45 43 44,iq 25 46 43 45,pW 26 47 43 46 24,dx 27 48 43 47,A 28 49 48,dr 29 50 49 5 1,dZ 30 51 49 50,iq 31 52 49 51,pW 32 53 49 52 4,dx 33 54 49 53,A 34 55 54,dr 35 56 55 6 1,dZ 36 57 55 56,iq 37 58 55 57,pW 38 59 55 58 12,dx 39 60 55 59,A 40 61 60,kH 41 62 61 7 1,kI 42 63 61 63 62,jN 43 64 61 63,dx 44 65 61 64]) (.a8 (I 65) (.D (.G [b0 0 2 1]) (.aT)) (.skip))) alT
def zr:J:=
  .D (
  .G [
 ft 0 1 0,
 b0 1 2 0]) zs
def yb:cR:=⟨244,[.bq 2],zr⟩
theorem aCo:cO Z 14=some yb:=by kernel_rfl
def SM:J:= .D (.G [A 0 20 4,eJ 1 21 .neq (I 20) (.const bd)]) (.a8 (I 21) (.D (.G [bV 0 22 (.hg [bd,aW,aW,aW,aW,aW] []),A 1 23 4,c9 2 6 2 22,A 3 3 23]) (.aT)) (.skip))
def abk:J:= .D (.block 1 (.D (.G [b9 0 34 4 30 32,ct 1 35 4 34,bV 2 7 (.eC [.string ⟨#[]⟩,aW,aW,aW]),c9 3 4 7 35]) (.G [aY 0 36 1 5,aP 1 37 36,ct 2 38 4 7,wW 3 39 67 38 36 36,Gm 4 40 39,Gn 5 41 40,k3 6 42 6 104 37 41,aY 7 43 1 5,c9 8 1 43 42]))) (.G [dA 0 44 32,A 1 32 44])
def abj:J:= .D (.a8 (I 33) (.skip) (.bw 0)) abk
def SN:J:= .D (.G [dR 0 33 32 31]) abj
def abm:J:= .D (.block 3 (.D (.G [b9 0 50 4 46 48,ct 1 51 4 50,bV 2 9 (.eC [.string ⟨#[]⟩,bd,bd,bd]),c9 3 4 9 51]) (.G [aY 0 52 2 5,aP 1 53 52,aY 2 54 0 9,aP 3 55 54,aY 4 56 1 9,aP 5 57 56,aY 6 58 2 9,aP 7 59 58,aY 8 60 1 1,aP 9 61 60,aY 10 62 3 9,aP 11 63 62,b9 12 64 4 61 63,aY 13 65 0 64,aP 14 66 65,bV 15 67 (.hg [.string ⟨#[]⟩,bd,bd,.string ⟨#[]⟩,bd,bd] [(0,1,I 55),(1,1,I 57),(2,1,I 59),(3,1,I 66)]),UD 16 68 67,k3 17 69 6 64 53 68,aY 18 70 2 5,c9 19 1 70 69]))) (.G [dA 0 71 48,A 1 48 71])
def abl:J:= .D (.a8 (I 49) (.skip) (.bw 2)) abm
def SO:J:= .D (.G [dR 0 49 48 47]) abl
def abg:J:= .D (.block 7 (.D (.G [b9 0 110 1 106 108,aP 1 111 110,A 2 15 111]) (.G [aY 0 112 9 13,aP 1 113 112,aY 2 114 2 1,aP 3 115 114,A 4 116 15,b9 5 117 4 115 116,aY 6 118 0 117,aP 7 119 118,zF 8 120 119,k3 9 121 1 16 113 120,aY 10 122 9 13,c9 11 1 122 121]))) (.G [dA 0 123 108,A 1 108 123])
def abf:J:= .D (.a8 (I 109) (.skip) (.bw 6)) abg
def SP:J:= .D (.G [dR 0 109 108 107]) abf
def abe:J:= .D (.D (.G [aY 0 105 9 11,aP 1 106 105,bZ 2 107 106,b0 3 108 0]) (.block 6 (.loop SP))) (.G [aY 0 124 4 5,aP 1 125 124,ct 2 126 19 13,adS 3 127 126,k3 4 128 19 256 125 127,aY 5 129 4 5,c9 6 1 129 128])
def abd:J:= .D (.G [aY 0 85 0 11,aP 1 86 85,aY 2 87 1 11,aP 3 88 87,aY 4 89 2 11,aP 5 90 89,aY 6 91 3 11,aP 7 92 91,aY 8 93 4 11,ct 9 94 5 93,aY 10 95 10 11,aP 11 96 95,A 13 98 12,By 14 99 3 98 0,ct 15 100 3 99,A 16 101 12,By 17 102 3 101 1,ct 18 103 3 102,pc 12 97 (.gl 68 [I 96]) [(I 102,I 102),(I 99,I 99),(I 93,I 93),(I 91,I 91),(I 89,I 89),(I 87,I 87),(I 85,I 85)],bV 19 104 (.hg [.string ⟨#[]⟩,bd,bd,bd,bd,bd,bd,bd,bd,aW,aW,.bool false,aW,aW,.bool false,aW,aW,bd,bd] [(0,1,I 86),(1,1,I 88),(2,1,I 90),(3,1,I 92),(4,5,I 94),(10,1,I 97),(11,3,I 100),(14,3,I 103)]),bV 20 13 (.eC [.string ⟨#[]⟩,bd,bd,bd,bd,bd,bd,bd,bd,aW,aW,.bool false,aW,aW,.bool false,aW,aW,bd,bd]),c9 21 19 13 104]) abe
def abc:J:= .D (.G [aY 0 79 11 11,ct 1 80 3 79,aY 2 81 14 11,ct 3 82 3 81,bV 4 83 (.jx 3 2 [.bool false,aW,aW,.bool false,aW,aW] [(0,3,I 80),(3,3,I 82)]),cF 5 84 68 [I 83],A 6 12 84]) abd
def abb:J:= .D (.block 5 (.D (.G [b9 0 77 17 73 75,ct 1 78 17 77,bV 2 11 (.eC [.string ⟨#[]⟩,bd,bd,bd,bd,bd,bd,bd,bd,aW,aW,.bool false,aW,aW,.bool false,aW,aW]),c9 3 17 11 78]) abc)) (.G [dA 0 130 75,A 1 75 130])
def aba:J:= .D (.a8 (I 76) (.skip) (.bw 4)) abb
def SQ:J:= .D (.G [dR 0 76 75 74]) aba
def abi:J:= .D (.block 9 (.D (.G [b9 0 136 2 132 134,ct 1 137 2 136,bV 2 17 (.eC [.string ⟨#[]⟩,bd]),c9 3 2 17 137]) (.G [aY 0 138 5 5,aP 1 139 138,aY 2 140 0 17,aP 3 141 140,aY 4 142 5 1,aP 5 143 142,aY 6 144 1 17,aP 7 145 144,b9 8 146 17 143 145,aY 9 147 0 146,aP 10 148 147,bV 11 149 (.hg [.string ⟨#[]⟩,.string ⟨#[]⟩,bd,bd] [(0,1,I 141),(1,1,I 148)]),bV 12 150 (.jx 4 1 [.string ⟨#[]⟩,.string ⟨#[]⟩,bd,bd] [(0,4,I 149)]),k3 13 151 4 48 139 150,aY 14 152 5 5,c9 15 1 152 151]))) (.G [dA 0 153 134,A 1 134 153])
def abh:J:= .D (.a8 (I 135) (.skip) (.bw 8)) abi
def SR:J:= .D (.G [dR 0 135 134 133]) abh
def amL:J:= .D (.G [ct 0 154 6 5,c9 1 6 2 154,b0 2 3 0]) (.aT)
def amK:J:= .D (.D (.G [aY 0 131 6 1,aP 1 132 131,bZ 2 133 132,b0 3 134 0]) (.block 8 (.loop SR))) amL
def amJ:J:= .D (.D (.G [aY 0 72 5 1,aP 1 73 72,bZ 2 74 73,b0 3 75 0]) (.block 4 (.loop SQ))) amK
def amO:J:= .D (.D (.G [aY 0 45 2 1,aP 1 46 45,bZ 2 47 46,b0 3 48 0]) (.block 2 (.loop SO))) amJ
def amN:J:= .D (.D (.G [aY 0 29 1 1,aP 1 30 29,bZ 2 31 30,b0 3 32 0]) (.block 0 (.loop SN))) amO
def amM:J:= .D (.G [aY 0 24 0 1,aP 1 25 24,ct 2 26 7 1,pc 3 27 (.gl 66 [I 26,.const bd,.const (aW)]) [(I 24,I 24)],bV 4 28 (.hg [bd,aW,aW,aW,aW,aW] [(0,1,I 25),(3,1,I 27)]),bV 5 5 (.eC [bd,aW,aW,aW,aW,aW]),c9 6 6 5 28]) amN
def aa9:J:= .D (.D (.G [ct 0 18 7 1,cF 1 19 14 [I 18],A 2 4 19]) SM) amM
def aa8:J:=
  .D (
  .G [
 ft 0 1 0,
 bV 1 2 (.eC [bd,aW,aW,aW,aW,aW]),
 b0 2 3 0]) aa9
def M7:cR:=⟨155,[.h8 2 true 6,.bq 3],aa8⟩
theorem amI:cO Z 16=some M7:=by kernel_rfl
def Bh:J:= .D (.G [aY 0 5 0 2,aP 1 6 5,aY 2 7 0 3,aP 3 8 7,eJ 4 9 .eql (I 6) (I 8),A 5 10 9,dk 6 11 10 1 2,dF 7 12 10 11,dk 8 13 10 1 3,dF 9 14 10 13,vJ 10 15 10 72 12 14 73,dd 11 16 10 15,A 12 17 16,dk 13 18 17 2 2,dF 14 19 17 18,dk 15 20 17 2 3,dF 16 21 17 20,vJ 17 22 17 75 19 21 76,dd 18 23 17 22,A 19 24 23,dk 20 25 24 3 2,dF 21 26 24 25,dk 22 27 24 3 3,dF 23 28 24 27,vJ 24 29 24 77 26 28 78,dd 25 30 24 29,A 26 31 30,dk 27 32 31 4 2,dF 28 33 31 32,dk 29 34 31 4 3,dF 30 35 31 34,vJ 31 36 31 80 33 35 81,dd 32 37 31 36,A 33 38 37,dk 34 39 38 5 2,dF 35 40 38 39,dk 36 41 38 5 3,dF 37 42 38 41,vJ 38 43 38 82 40 42 83,dd 39 44 38 43,A 40 45 44,dk 41 46 45 6 2,dF 42 47 45 46,dk 43 48 45 6 3,dF 44 49 45 48,vJ 45 50 45 84 47 49 85,dd 46 51 45 50,A 47 4 51]) (.aT)
def Bg:J:=
  .D (
  .G [
 ft 0 2 0,
 ft 1 3 1,
 ca 2 4 false]) Bh
def zy:cR:=⟨52,[.bq 4],Bg⟩
theorem aDG:cO Z 20=some zy:=by kernel_rfl
def ab8:J:= .D (.G [A 0 7 0,A 1 8 1,eJ 2 9 .geq (I 7) (I 8),A 3 10 9,gT 4 11 10 0,gT 5 12 10 2,ef 6 13 10 true (.gL .leq .ir (I 11) (I 12)),dd 7 14 10 13,A 8 6 14]) (.aT)
def S7:J:=
  .D (
  .G [
 ca 0 6 false]) ab8
def ab7:cR:=⟨15,[.bq 6],S7⟩
theorem anm:cO Z 21=some ab7:=by kernel_rfl
theorem avA{args:List Value}{m:E}{aI:Value->E->Prop}(h:args.length<=15):bU Z 21 args m aI=cH Z S7 (eX args) m (eU [.bq 6] aI):=fK anm h
def Dp:J:= .D (.G [A 0 13 1,ct 1 14 3 6,bV 2 15 (.ln (I 13) [I 14]),im 3 16 15]) (.a8 (I 16) (.D (.G [ca 0 4 false]) (.aT)) (.skip))
def Dn:J:= .D (.block 1 (.D (.G [b9 0 11 3 7 9,ct 1 12 3 11,bV 2 6 (.eC [.bool false,aW,aW]),c9 3 3 6 12]) Dp)) (.G [dA 0 17 9,A 1 9 17])
def Dm:J:= .D (.a8 (I 10) (.skip) (.bw 0)) Dn
def Dq:J:= .D (.G [dR 0 10 9 8]) Dm
def Bi:J:= .D (.G [ca 0 4 true]) (.aT)
def aca:J:= .D (.D (.G [A 0 7 0,bZ 1 8 7,b0 2 9 0]) (.block 0 (.loop Dq))) Bi
def S8:J:=
  .D (
  .G [
 ca 0 4 false]) aca
def ab9:cR:=⟨18,[.bq 4],S8⟩
theorem ann:cO Z 22=some ab9:=by kernel_rfl
theorem avB{args:List Value}{m:E}{aI:Value->E->Prop}(h:args.length<=18):bU Z 22 args m aI=cH Z S8 (eX args) m (eU [.bq 4] aI):=fK ann h
def Ni:J:= .D (.G [A 0 10 4,lY 1 11 10 0,A 2 12 11,dk 3 13 12 0 3,dF 4 14 12 13,ef 5 15 12 true (.oU .not (I 14)),dd 6 16 12 15,A 7 17 16,dk 8 18 17 1 3,dF 9 19 17 18,nr 10 20 17 87 19,oh 11 21 17 20 32,dd 12 22 17 21,A 13 23 22,dk 14 24 23 2 3,dF 15 25 23 24,nr 16 26 23 87 25,oh 17 27 23 26 32,dd 18 28 23 27,A 19 2 28]) (.aT)
def ano:J:= .D (.G [ct 0 6 3 1,cF 1 7 86 [I 6],A 2 5 7,dN 3 8 0 5,dN 4 9 1 5,bV 5 3 (.eC [.bool false,aW,aW]),c9 6 3 3 8,A 7 4 9]) Ni
def acb:J:=
  .D (
  .G [
 ft 0 1 0,
 ca 1 2 false]) ano
def aDH:cR:=⟨29,[.bq 2],acb⟩
theorem aDI:cO Z 23=some aDH:=by kernel_rfl
theorem avC{args:List Value}{m:E}{aI:Value->E->Prop}(h:args.length<=29):bU Z 23 args m aI=cH Z acb (eX args) m (eU [.bq 2] aI):=fK aDI h
def anp:J:= .D (.G [aY 0 3 1 1,aP 1 4 3,cF 2 5 87 [I 4],pV 3 6 5 0,A 4 2 6]) (.aT)
def acd:J:=
  .D (
  .G [
 ft 0 1 0,
 ca 1 2 false]) anp
def aDJ:cR:=⟨7,[.bq 2],acd⟩
theorem aDK:cO Z 24=some aDJ:=by kernel_rfl
theorem avD{args:List Value}{m:E}{aI:Value->E->Prop}(h:args.length<=7):bU Z 24 args m aI=cH Z acd (eX args) m (eU [.bq 2] aI):=fK aDK h
def Tg:J:= .D (.block 5 (.D (.G [A 0 46 44,b9 1 47 3 42 44,ct 2 48 3 47,bV 3 7 (.eC [.bool false,aW,aW]),A 4 6 46,c9 5 3 7 48]) (.G [A 0 49 3,A 1 50 5,A 2 51 3,A 3 52 5,b9 4 53 1 51 52,aP 5 54 53,A 6 55 54,kH 7 56 55 3 7,kI 8 57 55 24 56,fX 9 58 55 57,gT 10 59 58 3,gT 11 60 58 6,wV 12 61 58 1 59 60,dF 13 62 58 61,ef 14 63 55 false (.tR (I 58) (I 62) (.const (.bool false))),dx 15 64 55 63,b9 16 65 1 49 50,c9 17 1 65 64]))) (.G [dA 0 66 44,A 1 44 66])
def Tf:J:= .D (.a8 (I 45) (.skip) (.bw 4)) Tg
def Nj:J:= .D (.G [dR 0 45 44 43]) Tf
def Te:J:= .D (.G [aY 0 38 2 1,aP 1 39 38,A 2 40 5,b9 3 41 1 39 40,aP 4 42 41,bZ 5 43 42,b0 6 44 0]) (.block 4 (.loop Nj))
def Td:J:= .D (.G [A 0 23 3,A 1 24 5,A 2 25 3,A 3 26 5,b9 4 27 1 25 26,aP 5 28 27,A 6 29 28,dr 7 30 29 3 1,dZ 8 31 29 30,fX 9 32 29 5,vH 10 33 29 3 31 32,kH 11 34 29 3 33,kI 12 35 29 24 34,dx 13 36 29 35,b9 14 37 1 23 24,c9 15 1 37 36]) Te
def Tc:J:= .D (.block 3 (.D (.G [A 0 22 20,A 1 5 22]) Td)) (.G [dA 0 67 20,A 1 20 67])
def Tb:J:= .D (.a8 (I 21) (.skip) (.bw 2)) Tc
def Nk:J:= .D (.G [dR 0 21 20 19]) Tb
def aco:J:= .D (.block 1 (.D (.G [A 0 18 3,bZ 1 19 18,b0 2 20 0]) (.block 2 (.loop Nk)))) (.G [A 0 16 4,dA 1 17 16,A 2 4 17])
def Th:J:= .D (.D (.G [A 0 12 4,A 1 13 3,bZ 2 14 13,eJ 3 15 .leq (I 12) (I 14)]) (.a8 (I 15) (.skip) (.bw 0))) aco
def anz:J:= .D (.G [A 0 68 3,cF 1 69 95 [I 68,.func 96],A 2 2 69]) (.aT)
def anA:J:= .D (.D (.G [b0 0 4 0]) (.block 0 (.loop Th))) anz
def anx:J:= .D (.G [aY 0 8 3 1,aP 1 9 8,bZ 2 10 9,bV 3 11 (.nN 1 1 [.bool false] (I 10) (I 10)),A 4 3 11]) anA
def acn:J:=
  .D (
  .G [
 ft 0 1 0,
 ca 1 2 false]) anx
def aDR:cR:=⟨70,[.bq 2],acn⟩
theorem aDS:cO Z 28=some aDR:=by kernel_rfl
theorem avH{args:List Value}{m:E}{aI:Value->E->Prop}(h:args.length<=70):bU Z 28 args m aI=cH Z acn (eX args) m (eU [.bq 2] aI):=fK aDS h
def To:J:= .D (.G [A 0 26 0,oQ 1 27 26,aY 2 28 17 27,aP 3 29 28,lY 4 30 29 0,A 5 8 30]) (.aT)
def Tn:J:= .D (.D (.G [A 0 9 0,oQ 1 10 9,aY 2 11 17 10,aP 3 12 11,lY 4 13 12 0,A 5 14 13,gT 6 15 14 1,ef 7 16 14 true (.oU .not (I 15)),dd 8 17 14 16]) (.a8 (I 17) (.G [A 0 18 0,A 1 19 0,A 2 20 2,ct 3 21 2 7,oQ 4 22 18,aY 5 23 17 22,⟨6,none,none,.store 1 (I 23) (I 20),[(I 7,I 23)]⟩,oQ 7 24 19,aY 8 25 18 24,c9 9 2 25 21]) (.skip))) To
def Tm:J:=
  .D (
  .G [
 ft 0 7 3,
 ca 1 8 false]) Tn
def IX:cR:=⟨31,[.bq 8],Tm⟩
theorem anJ:cO Z 35=some IX:=by kernel_rfl
def acB:J:= .D (.block 1 (.D (.G [b9 0 12 9 8 10,ct 1 13 9 12,bV 2 6 (.eC [bd,.string ⟨#[]⟩,bd,.bool false,aW,aW,.string ⟨#[]⟩,bd,bd]),c9 3 9 6 13]) (.block 2 (.D (.G [aY 0 15 0 6,aP 1 16 15,lY 2 17 16 5,A 3 14 17]) (.a8 (I 14) (.G [A 0 18 4,dA 1 19 18,A 2 4 19]) (.D (.G [aY 0 21 0 6,aP 1 22 21,Bw 2 23 21 22 1 4,A 3 20 23]) (.a8 (I 20) (.G [A 0 24 3,dA 1 25 24,A 2 3 25]) (.skip)))))))) (.G [dA 0 26 10,A 1 10 26])
def acA:J:= .D (.a8 (I 11) (.skip) (.bw 0)) acB
def anN:J:= .D (.G [dR 0 11 10 9]) acA
def acC:J:= .D (.G [aY 0 27 1 1,aP 1 28 27,bZ 2 29 28,eJ 3 30 .leq (I 29) (.const (.int .i64 4)),A 4 31 30,dk 5 32 31 2 1,dF 6 33 31 32,pf 7 34 31 33,oh 8 35 31 34 4,dd 9 36 31 35,A 10 37 36,gT 11 38 37 3,oh 12 39 37 38 40,dd 13 40 37 39,A 14 41 40,gT 15 42 41 4,oh 16 43 41 42 24,dd 17 44 41 43,A 18 45 44,dk 19 46 45 4 1,dF 20 47 45 46,pf 21 48 45 47,oh 22 49 45 48 4,dd 23 50 45 49,A 24 51 50,dk 25 52 51 5 1,dF 26 53 51 52,pf 27 54 51 53,oh 28 55 51 54 12,dd 29 56 51 55,A 30 2 56]) (.aT)
def anM:J:= .D (.D (.G [aY 0 7 3 1,aP 1 8 7,bZ 2 9 8,b0 3 10 0]) (.block 0 (.loop anN))) acC
def anL:J:= .D (.G [b0 0 3 1,b0 1 4 0]) anM
def anK:J:=
  .D (
  .G [
 ft 0 1 0,
 ca 1 2 false]) anL
def acz:cR:=⟨57,[.bq 2],anK⟩
theorem aD5:cO Z 36=some acz:=by kernel_rfl
def anR:J:= .D (.G [A 0 14 0,oQ 1 15 14,aY 2 16 17 15,aP 3 17 16,lY 4 18 17 0]) (.a8 (I 18) (.G [A 0 19 2,ct 1 20 6 7,bV 2 21 (.ln (I 19) [I 20])]) (.skip))
def anQ:J:= .D (.block 1 (.D (.G [b9 0 12 6 8 10,ct 1 13 6 12,bV 2 7 (.eC [.string ⟨#[]⟩,aW,aW,aW,bd,bd]),c9 3 6 7 13]) anR)) (.G [dA 0 22 10,A 1 10 22])
def anP:J:= .D (.a8 (I 11) (.skip) (.bw 0)) anQ
def anS:J:= .D (.G [dR 0 11 10 9]) anP
def anO:J:=
  .D (
  .G [
 A 0 8 1,
 bZ 1 9 8,
 b0 2 10 0]) (
  .block 0 (
  .loop anS))
def acD:cR:=⟨23,[],anO⟩
theorem aD6:cO Z 37=some acD:=by kernel_rfl
def Tr:J:= .D (.G [A 0 14 0,oQ 1 15 14,aY 2 16 17 15,aP 3 17 16,lY 4 18 17 0]) (.a8 (I 18) (.G [A 0 19 2,ct 1 20 6 7,bV 2 21 (.ln (I 19) [I 20])]) (.skip))
def Tq:J:= .D (.block 1 (.D (.G [b9 0 12 6 8 10,ct 1 13 6 12,bV 2 7 (.eC [.string ⟨#[]⟩,bd,bd,.string ⟨#[]⟩,bd,bd]),c9 3 6 7 13]) Tr)) (.G [dA 0 22 10,A 1 10 22])
def Tp:J:= .D (.a8 (I 11) (.skip) (.bw 0)) Tq
def Ts:J:= .D (.G [dR 0 11 10 9]) Tp
def acE:J:=
  .D (
  .G [
 A 0 8 1,
 bZ 1 9 8,
 b0 2 10 0]) (
  .block 0 (
  .loop Ts))
def Nm:cR:=⟨23,[],acE⟩
theorem anT:cO Z 39=some Nm:=by kernel_rfl
def anY:J:= .D (.G [A 0 38 0,aY 1 39 1 3,aP 2 40 39,aY 9 47 4 3,ct 10 48 2 47,pc 3 41 (.gl 21 [I 40,.const (.int .i64 1),.const (.int .i64 16)]) [(I 47,I 47)],A 4 42 41,dk 5 43 42 2 3,dF 6 44 42 43,⟨7,some 45,some (42,true),.gl 21 [I 44,.const (.int .i64 1),.const (.int .i64 64)],[(I 47,I 47)]⟩,dd 8 46 42 45,cF 11 49 35 [I 38,I 46,.const (.int .i64 5),I 48]]) (.G [A 0 50 0,A 1 51 0,oQ 2 52 51,aY 3 53 0 52,aY 4 54 2 53,aP 5 55 54,aY 6 56 0 3,aP 7 57 56,aY 8 58 1 3,aP 9 59 58,aY 10 60 2 3,aP 11 61 60,A 12 62 4,bV 13 63 (.hg [.string ⟨#[]⟩,bd,bd,bd] [(0,1,I 57),(1,1,I 59),(2,1,I 61),(3,1,I 62)]),bV 14 64 (.jx 4 1 [.string ⟨#[]⟩,bd,bd,bd] [(0,4,I 63)]),k3 15 65 4 40 55 64,oQ 16 66 50,aY 17 67 0 66,aY 18 68 2 67,c9 19 1 68 65])
def anX:J:= .D (.G [A 0 33 0,A 1 34 5,aY 2 35 4 3,ct 3 36 2 35,cF 4 37 35 [I 33,I 34,.const (.int .i64 7),I 36]]) anY
def anW:J:= .D (.G [A 0 24 0,oQ 1 25 24,aY 2 26 7 25,aP 3 27 26,aY 4 28 3 3,aP 5 29 28,bV 6 30 (.pY .str bd true (I 27) (I 29)),A 7 23 30,dN 8 31 0 23,dN 9 32 1 23,A 10 4 31,A 11 5 32]) anX
def anV:J:= .D (.D (.G [A 0 6 0,A 1 7 0,oQ 2 8 7,aY 3 9 8 8,aP 4 10 9,aY 5 11 0 3,aP 6 12 11,A 7 13 0,oQ 8 14 13,aY 9 15 0 14,aY 10 16 2 15,aP 11 17 16,bZ 12 18 17,aY 13 19 4 3,ct 14 20 2 19,cF 15 21 101 [I 6,I 10,I 12,I 18,I 20],im 16 22 21]) (.a8 (I 22) (.aT) (.skip))) anW
def anU:J:=
  .D (
  .G [
 ft 0 3 1]) anV
def acF:cR:=⟨69,[],anU⟩
theorem aD7:cO Z 40=some acF:=by kernel_rfl
def an2:J:= .D (.G [A 0 14 0,oQ 1 15 14,aY 2 16 17 15,aP 3 17 16,lY 4 18 17 0]) (.a8 (I 18) (.G [A 0 19 2,ct 1 20 9 7,bV 2 21 (.ln (I 19) [I 20])]) (.skip))
def an1:J:= .D (.block 1 (.D (.G [b9 0 12 9 8 10,ct 1 13 9 12,bV 2 7 (.eC [bd,.string ⟨#[]⟩,bd,.bool false,aW,aW,.string ⟨#[]⟩,bd,bd]),c9 3 9 7 13]) an2)) (.G [dA 0 22 10,A 1 10 22])
def an0:J:= .D (.a8 (I 11) (.skip) (.bw 0)) an1
def an3:J:= .D (.G [dR 0 11 10 9]) an0
def anZ:J:=
  .D (
  .G [
 A 0 8 1,
 bZ 1 9 8,
 b0 2 10 0]) (
  .block 0 (
  .loop an3))
def acG:cR:=⟨23,[],anZ⟩
theorem aD8:cO Z 41=some acG:=by kernel_rfl
def an7:J:= .D (.G [A 0 14 0,oQ 1 15 14,aY 2 16 17 15,aP 3 17 16,lY 4 18 17 0]) (.a8 (I 18) (.G [A 0 19 2,ct 1 20 19 7,bV 2 21 (.ln (I 19) [I 20])]) (.skip))
def an6:J:= .D (.block 1 (.D (.G [b9 0 12 19 8 10,ct 1 13 19 12,bV 2 7 (.eC [.string ⟨#[]⟩,bd,bd,bd,bd,bd,bd,bd,bd,aW,aW,.bool false,aW,aW,.bool false,aW,aW,bd,bd]),c9 3 19 7 13]) an7)) (.G [dA 0 22 10,A 1 10 22])
def an5:J:= .D (.a8 (I 11) (.skip) (.bw 0)) an6
def an8:J:= .D (.G [dR 0 11 10 9]) an5
def an4:J:=
  .D (
  .G [
 A 0 8 1,
 bZ 1 9 8,
 b0 2 10 0]) (
  .block 0 (
  .loop an8))
def acH:cR:=⟨23,[],an4⟩
theorem aD9:cO Z 43=some acH:=by kernel_rfl
def aoc:J:= .D (.G [A 0 14 0,oQ 1 15 14,aY 2 16 17 15,aP 3 17 16,lY 4 18 17 0]) (.a8 (I 18) (.G [A 0 19 2,ct 1 20 4 7,bV 2 21 (.ln (I 19) [I 20])]) (.skip))
def aob:J:= .D (.block 1 (.D (.G [b9 0 12 4 8 10,ct 1 13 4 12,bV 2 7 (.eC [.string ⟨#[]⟩,.string ⟨#[]⟩,bd,bd]),c9 3 4 7 13]) aoc)) (.G [dA 0 22 10,A 1 10 22])
def aoa:J:= .D (.a8 (I 11) (.skip) (.bw 0)) aob
def aod:J:= .D (.G [dR 0 11 10 9]) aoa
def an9:J:=
  .D (
  .G [
 A 0 8 1,
 bZ 1 9 8,
 b0 2 10 0]) (
  .block 0 (
  .loop aod))
def acI:cR:=⟨23,[],an9⟩
theorem aEa:cO Z 45=some acI:=by kernel_rfl
def Br:J:= .D (.G [aY 0 52 2 5,aP 1 53 52,A 2 54 4,cF 3 55 21 [I 53,.const bd,I 54],im 4 56 55,A 5 57 56,dr 6 58 57 3 1,dZ 7 59 57 58,dr 8 60 57 2 5,dZ 9 61 57 60,vH 10 62 57 7 59 61,dr 11 63 57 1 62,dZ 12 64 57 63,dr 13 65 57 1 5,dZ 14 66 57 65,ef 15 67 57 false (.gL .sub .ir (I 66) (.const (.int .i64 1))),k2 16 68 57 64 67,dx 17 69 57 68,A 18 70 69,dr 19 71 70 1 5,dZ 20 72 70 71,ef 21 73 70 false (.gl 21 [I 72,.const (.int .i64 1),.const (.int .i64 4)]),jN 22 74 70 73,dx 23 75 70 74,A 24 76 75,dr 25 77 76 3 5,dZ 26 78 76 77,ef 27 79 76 false (.gl 21 [I 78,.const (.int .i64 1),.const (.int .i64 64)]),jN 28 80 76 79,dx 29 81 76 80,A 30 82 81,dr 31 83 82 4 5,kH 32 84 82 3 83,kI 33 85 82 23 84,jN 34 86 82 85,dx 35 87 82 86]) (.a8 (I 87) (.D (.G [ca 0 2 false]) (.aT)) (.skip))
def Bq:J:= .D (.block 1 (.D (.G [A 0 49 47,b9 1 50 7 45 47,ct 2 51 7 50,bV 3 5 (.eC [.string ⟨#[]⟩,bd,bd,bd,.bool false,aW,aW]),A 4 4 49,c9 5 7 5 51]) Br)) (.G [dA 0 88 47,A 1 47 88])
def Bp:J:= .D (.a8 (I 48) (.skip) (.bw 0)) Bq
def Du:J:= .D (.G [dR 0 48 47 46]) Bp
def sE:J:= .D (.G [ca 0 2 true]) (.aT)
def Bo:J:= .D (.D (.G [aY 0 43 3 1,aP 1 44 43,bV 2 45 (.qI 7 (I 44) (some (.const (.int .i64 1))) none),bZ 3 46 45,b0 4 47 0]) (.block 0 (.loop Du))) sE
def Bn:J:= .D (.D (.G [aY 0 14 0 3,aP 1 15 14,eJ 2 16 .neq (I 15) (.const (.string ⟨#[]⟩)),A 3 17 16,dr 4 18 17 1 3,dZ 5 19 17 18,Jw 6 20 17 19,dx 7 21 17 20,A 8 22 21,dr 9 23 22 2 3,dZ 10 24 22 23,ef 11 25 22 false (.gL .neq .ir (I 24) (.const (.int .i64 (-1)))),dx 12 26 22 25,A 13 27 26,dr 14 28 27 3 3,dZ 15 29 27 28,Jw 16 30 27 29,dx 17 31 27 30,A 18 32 31,dr 19 33 32 4 3,kH 20 34 32 3 33,kI 21 35 32 23 34,jN 22 36 32 35,dx 23 37 32 36,A 24 38 37,dr 25 39 38 4 3,kH 26 40 38 3 39,kI 27 41 38 24 40,dx 28 42 38 41]) (.a8 (I 42) (.D (.G [ca 0 2 false]) (.aT)) (.skip))) Bo
def Bm:J:= .D (.G [aY 0 10 3 1,aP 1 11 10,By 2 12 7 11 0,ct 3 13 7 12,bV 4 3 (.eC [.string ⟨#[]⟩,bd,bd,bd,.bool false,aW,aW]),c9 5 7 3 13]) Bn
def Bl:J:= .D (.D (.G [aY 0 6 3 1,aP 1 7 6,bZ 2 8 7,lY 3 9 8 0]) (.a8 (I 9) (.D (.G [ca 0 2 false]) (.aT)) (.skip))) Bm
def Bk:J:=
  .D (
  .G [
 ft 0 1 0,
 ca 1 2 false]) Bl
def zz:cR:=⟨89,[.bq 2],Bk⟩
theorem aEv:cO Z 63=some zz:=by kernel_rfl
def I9:J:= .D (.D (.G [A 0 45 7,A 1 46 1,mC 2 47 46 1,cF 3 48 21 [I 45,.const bd,I 47],im 4 49 48,A 5 50 49,fX 6 51 50 5,fX 7 52 50 7,vH 8 53 50 1 51 52,dZ 9 54 50 53,dx 10 55 50 54]) (.a8 (I 55) (.D (.G [ca 0 4 false]) (.aT)) (.skip))) (.G [A 0 56 5,A 1 57 7,b9 2 58 1 56 57,Mt 3 (.store 1 (I 58) (.const (.bool true)))])
def I8:J:= .D (.block 1 (.D (.G [b9 0 43 1 39 41,aP 1 44 43,A 2 7 44]) I9)) (.G [dA 0 59 41,A 1 41 59])
def I7:J:= .D (.a8 (I 42) (.skip) (.bw 0)) I8
def NJ:J:= .D (.G [dR 0 42 41 40]) I7
def Bs:J:= .D (.G [ca 0 4 true]) (.aT)
def NI:J:= .D (.D (.G [aY 0 38 9 2,aP 1 39 38,bZ 2 40 39,b0 3 41 0]) (.block 0 (.loop NJ))) Bs
def NH:J:= .D (.G [A 0 36 1,bV 1 37 (.nN 1 1 [.bool false] (I 36) (I 36)),A 2 5 37]) NI
def NG:J:= .D (.D (.G [aY 0 8 1 2,aP 1 9 8,aY 2 10 2 2,aP 3 11 10,aY 4 12 3 2,aP 5 13 12,aY 6 14 4 2,ct 7 15 5 14,cF 8 16 102 [I 9,I 11,I 13,I 15],im 9 17 16,A 10 18 17,dr 11 19 18 9 2,dZ 12 20 18 19,iq 13 21 18 20,ef 14 22 18 false (.gL .eql .ir (I 21) (.const bd)),dx 15 23 18 22,A 16 24 23,dr 17 25 24 2 2,dZ 18 26 24 25,dr 19 27 24 10 2,dZ 20 28 24 27,dr 21 29 24 11 2,kH 22 30 24 3 29,dr 23 31 24 14 2,kH 24 32 24 3 31,ef 25 33 24 false (.gl 103 [I 26,I 28,I 30,I 32]),jN 26 34 24 33,dx 27 35 24 34]) (.a8 (I 35) (.D (.G [ca 0 4 false]) (.aT)) (.skip))) NH
def NF:J:=
  .D (
  .G [
 ft 0 2 0,
 ca 1 4 false]) NG
def I6:cR:=⟨60,[.bq 4],NF⟩
theorem aEw:cO Z 64=some I6:=by kernel_rfl
def Jc:J:= .D (.D (.G [A 0 13 5,cF 1 14 112 [I 13],im 2 15 14,A 3 16 15,fX 4 17 16 3,fX 5 18 16 5,ef 6 19 16 false (.pY .str (.bool false) false (I 17) (I 18)),dx 7 20 16 19]) (.a8 (I 20) (.D (.G [ca 0 2 false]) (.aT)) (.skip))) (.G [A 0 21 3,A 1 22 5,Mt 2 (.p0 .str (I 21) (I 22) (.const (.bool true)))])
def Jb:J:= .D (.block 1 (.D (.G [b9 0 11 1 7 9,aP 1 12 11,A 2 5 12]) Jc)) (.G [dA 0 23 9,A 1 9 23])
def Ja:J:= .D (.a8 (I 10) (.skip) (.bw 0)) Jb
def NK:J:= .D (.G [dR 0 10 9 8]) Ja
def Jd:J:= .D (.G [ca 0 2 true]) (.aT)
def aov:J:= .D (.D (.G [A 0 7 0,bZ 1 8 7,b0 2 9 0]) (.block 0 (.loop NK))) Jd
def aou:J:= .D (.G [bV 0 6 (.pj),A 1 3 6]) aov
def aot:J:=
  .D (
  .G [
 ca 0 2 false]) aou
def ac0:cR:=⟨24,[.bq 2],aot⟩
theorem aEx:cO Z 65=some ac0:=by kernel_rfl
def TM:J:= .D (.G [aY 0 44 2 9,aP 1 45 44,A 2 46 1,eJ 3 47 .eql (I 45) (I 46)]) (.a8 (I 47) (.G [ct 0 48 7 3,A 1 49 8,A 2 50 2,cF 3 51 66 [I 48,I 49,I 50],A 4 2 51]) (.skip))
def TL:J:= .D (.block 1 (.D (.G [A 0 41 39,b9 1 42 7 37 39,ct 2 43 7 42,bV 3 9 (.eC [.string ⟨#[]⟩,bd,bd,bd,.bool false,aW,aW]),A 4 8 41,c9 5 7 9 43]) TM)) (.G [dA 0 52 39,A 1 39 52])
def TK:J:= .D (.a8 (I 40) (.skip) (.bw 0)) TL
def Je:J:= .D (.G [dR 0 40 39 38]) TK
def TJ:J:= .D (.G [aY 0 60 2 11,aP 1 61 60,A 2 62 1,eJ 3 63 .eql (I 61) (I 62)]) (.a8 (I 63) (.D (.G [cF 0 64 34 [.const (.int .u64 0)],cF 1 65 34 [.const (.int .u64 1)],bV 2 66 (.hg [.bool false,aW,aW] [(1,1,I 64),(2,1,I 65)]),bV 3 12 (.eC [.bool false,aW,aW]),c9 4 3 12 66]) (.G [A 0 67 2,aY 1 68 0 11,aP 2 69 68,ct 3 70 3 12,aY 4 71 2 3,aP 5 72 71,aY 6 73 1 11,aP 7 74 73,b9 8 75 4 72 74,aY 9 76 0 75,aP 10 77 76,adT 11 78 69 70 77,N6 12 79 78,k3 13 80 9 120 67 79,A 14 2 80])) (.skip))
def TO:J:= .D (.block 3 (.D (.G [b9 0 58 3 54 56,ct 1 59 3 58,bV 2 11 (.eC [.string ⟨#[]⟩,bd,bd]),c9 3 3 11 59]) TJ)) (.G [dA 0 81 56,A 1 56 81])
def TN:J:= .D (.a8 (I 57) (.skip) (.bw 2)) TO
def NL:J:= .D (.G [dR 0 57 56 55]) TN
def ac3:J:= .D (.G [A 0 82 2,A 1 6 82]) (.aT)
def ac6:J:= .D (.D (.G [aY 0 53 4 3,aP 1 54 53,bZ 2 55 54,b0 3 56 0]) (.block 2 (.loop NL))) ac3
def ac5:J:= .D (.D (.G [aY 0 36 3 3,aP 1 37 36,bZ 2 38 37,b0 3 39 0]) (.block 0 (.loop Je))) ac6
def ac4:J:= .D (.D (.G [A 0 18 1,pV 1 19 18 0]) (.a8 (I 19) (.G [A 0 20 2,aY 1 21 1 7,aP 2 22 21,aY 3 23 0 7,aP 4 24 23,aY 5 25 3 7,aP 6 26 25,aY 7 27 4 7,ct 8 28 3 27,N5 9 29 28,pc 10 30 (.gl 68 [I 29]) [(I 25,I 25),(I 23,I 23),(I 21,I 21)],By 11 31 3 30 0,ct 12 32 3 31,adU 13 33 22 24 26 32,N6 14 34 33,k3 15 35 9 120 20 34,A 16 2 35]) (.skip))) ac5
def ac2:J:= .D (.G [aY 0 13 3 3,aP 1 14 13,A 2 15 1,b9 3 16 7 14 15,ct 4 17 7 16,bV 5 7 (.eC [.string ⟨#[]⟩,bd,bd,bd,.bool false,aW,aW]),c9 6 7 7 17]) ac4
def ac1:J:=
  .D (
  .G [
 ft 0 3 0,
 fO 1 6]) ac2
def TI:cR:=⟨83,[.bq 6],ac1⟩
theorem aEy:cO Z 66=some TI:=by kernel_rfl
def ac9:J:= .D (.block 1 (.D (.G [b9 0 20 1 16 18,aP 1 21 20,A 2 5 21]) (.G [aY 0 22 2 3,aP 1 23 22,A 2 24 5,wW 3 25 68 24 22 22,bV 4 26 (.jx 1 1 [aW] [(0,1,I 25)]),k3 5 27 1 24 23 26,aY 6 28 2 3,c9 7 1 28 27]))) (.G [dA 0 29 18,A 1 18 29])
def ac8:J:= .D (.a8 (I 19) (.skip) (.bw 0)) ac9
def TP:J:= .D (.G [dR 0 19 18 17]) ac8
def aoz:J:= .D (.G [ct 0 30 4 3,c9 1 4 2 30]) (.aT)
def aoy:J:= .D (.D (.G [aY 0 15 2 1,aP 1 16 15,bZ 2 17 16,b0 3 18 0]) (.block 0 (.loop TP))) aoz
def aox:J:= .D (.G [aY 0 6 0 1,aP 1 7 6,aY 2 8 1 1,aP 3 9 8,aY 5 11 3 1,aP 6 12 11,pc 4 10 (.gl 68 [I 9]) [(I 11,I 11),(I 6,I 6)],wW 7 13 68 12 6 6,bV 8 14 (.hg [.string ⟨#[]⟩,aW,aW,aW] [(0,1,I 7),(1,1,I 10),(3,1,I 13)]),bV 9 3 (.eC [.string ⟨#[]⟩,aW,aW,aW]),c9 10 4 3 14]) aoy
def aow:J:=
  .D (
  .G [
 ft 0 1 0,
 bV 1 2 (.eC [.string ⟨#[]⟩,aW,aW,aW])]) aox
def ac7:cR:=⟨31,[.h8 2 true 4],aow⟩
theorem aEz:cO Z 67=some ac7:=by kernel_rfl
def adf:J:= .D (.G [ct 0 15 3 5,cF 1 16 86 [I 15],A 2 14 16,dN 3 17 0 14,dN 4 18 1 14,bV 5 6 (.eC [.bool false,aW,aW]),c9 6 3 6 17,A 7 7 18]) (.G [A 0 19 3,ct 1 20 3 6,N5 2 21 20,k3 3 22 3 56 19 21,A 4 3 22])
def ade:J:= .D (.block 1 (.D (.G [b9 0 12 3 8 10,ct 1 13 3 12,bV 2 5 (.eC [.bool false,aW,aW]),c9 3 3 5 13]) adf)) (.G [dA 0 23 10,A 1 10 23])
def adb:J:= .D (.a8 (I 11) (.skip) (.bw 0)) ade
def TQ:J:= .D (.G [dR 0 11 10 9]) adb
def aoD:J:= .D (.G [A 0 24 3,A 1 2 24]) (.aT)
def aoC:J:= .D (.D (.G [A 0 8 0,bZ 1 9 8,b0 2 10 0]) (.block 0 (.loop TQ))) aoD
def aoB:J:= .D (.G [fO 0 3]) aoC
def aoA:J:=
  .D (
  .G [
 fO 0 2]) aoB
def ada:cR:=⟨25,[.bq 2],aoA⟩
theorem aEA:cO Z 68=some ada:=by kernel_rfl
def aEM:J:= .D (.G [A 0 18 2,A 1 19 0,A 2 20 7,b9 3 21 4 19 20,ct 4 22 4 21,A 5 23 1,A 6 24 7,b9 7 25 4 23 24,ct 8 26 4 25,sH 9 27,im 10 28 27]) (.a8 (I 28) (.D (.G [ca 0 6 false]) (.aT)) (.skip))
def aEL:J:= .D (.block 1 (.D (.G [A 0 17 15,A 1 7 17]) aEM)) (.G [dA 0 29 15,A 1 15 29])
def aEK:J:= .D (.a8 (I 16) (.skip) (.bw 0)) aEL
def aEO:J:= .D (.G [dR 0 16 15 14]) aEK
def aEN:J:= .D (.G [ca 0 6 true]) (.aT)
def aEJ:J:= .D (.D (.G [A 0 13 0,bZ 1 14 13,b0 2 15 0]) (.block 0 (.loop aEO))) aEN
def aEI:J:= .D (.D (.G [A 0 8 0,bZ 1 9 8,A 2 10 1,bZ 3 11 10,kJ 4 12 9 11]) (.a8 (I 12) (.D (.G [ca 0 6 false]) (.aT)) (.skip))) aEJ
def aEG:J:=
  .D (
  .G [
 ca 0 6 false]) aEI
def aEF:cR:=⟨30,[.bq 6],aEG⟩
theorem aEH:cO Z 72=some aEF:=by kernel_rfl
def aoJ:J:= .D (.G [ct 0 5 4 2,Gm 1 6 5,Gn 2 7 6,N7 3 8 7,ct 4 9 4 3,Gm 5 10 9,Gn 6 11 10,N7 7 12 11,gj 8 13 74 8 12,A 9 4 13]) (.aT)
def aoI:J:=
  .D (
  .G [
 ft 0 2 0,
 ft 1 3 1,
 ca 2 4 false]) aoJ
def adr:cR:=⟨14,[.bq 4],aoI⟩
theorem aEP:cO Z 73=some adr:=by kernel_rfl
def aEY:J:= .D (.G [A 0 18 2,A 1 19 0,A 2 20 7,b9 3 21 4 19 20,ct 4 22 4 21,A 5 23 1,A 6 24 7,b9 7 25 4 23 24,ct 8 26 4 25,sH 9 27,im 10 28 27]) (.a8 (I 28) (.D (.G [ca 0 6 false]) (.aT)) (.skip))
def aEX:J:= .D (.block 1 (.D (.G [A 0 17 15,A 1 7 17]) aEY)) (.G [dA 0 29 15,A 1 15 29])
def aEW:J:= .D (.a8 (I 16) (.skip) (.bw 0)) aEX
def aE0:J:= .D (.G [dR 0 16 15 14]) aEW
def aEZ:J:= .D (.G [ca 0 6 true]) (.aT)
def aEV:J:= .D (.D (.G [A 0 13 0,bZ 1 14 13,b0 2 15 0]) (.block 0 (.loop aE0))) aEZ
def aEU:J:= .D (.D (.G [A 0 8 0,bZ 1 9 8,A 2 10 1,bZ 3 11 10,kJ 4 12 9 11]) (.a8 (I 12) (.D (.G [ca 0 6 false]) (.aT)) (.skip))) aEV
def aES:J:=
  .D (
  .G [
 ca 0 6 false]) aEU
def aER:cR:=⟨30,[.bq 6],aES⟩
theorem aET:cO Z 75=some aER:=by kernel_rfl
def aoL:J:= .D (.G [ct 0 5 4 2,ct 1 6 4 3,bV 2 7 (.pL false [.str,.int,.int,.int] (I 5) (I 6)),A 3 4 7]) (.aT)
def aoK:J:=
  .D (
  .G [
 ft 0 2 0,
 ft 1 3 1,
 ca 2 4 false]) aoL
def adu:cR:=⟨8,[.bq 4],aoK⟩
theorem aE1:cO Z 76=some adu:=by kernel_rfl
def aE9:J:= .D (.G [A 0 18 2,A 1 19 0,A 2 20 7,b9 3 21 7 19 20,ct 4 22 7 21,A 5 23 1,A 6 24 7,b9 7 25 7 23 24,ct 8 26 7 25,sH 9 27,im 10 28 27]) (.a8 (I 28) (.D (.G [ca 0 6 false]) (.aT)) (.skip))
def aE8:J:= .D (.block 1 (.D (.G [A 0 17 15,A 1 7 17]) aE9)) (.G [dA 0 29 15,A 1 15 29])
def aE7:J:= .D (.a8 (I 16) (.skip) (.bw 0)) aE8
def aFb:J:= .D (.G [dR 0 16 15 14]) aE7
def aFa:J:= .D (.G [ca 0 6 true]) (.aT)
def aE6:J:= .D (.D (.G [A 0 13 0,bZ 1 14 13,b0 2 15 0]) (.block 0 (.loop aFb))) aFa
def aE5:J:= .D (.D (.G [A 0 8 0,bZ 1 9 8,A 2 10 1,bZ 3 11 10,kJ 4 12 9 11]) (.a8 (I 12) (.D (.G [ca 0 6 false]) (.aT)) (.skip))) aE6
def aE3:J:=
  .D (
  .G [
 ca 0 6 false]) aE5
def aE2:cR:=⟨30,[.bq 6],aE3⟩
theorem aE4:cO Z 77=some aE2:=by kernel_rfl
def Gh:J:= .D (.G [aY 0 5 0 2,aP 1 6 5,aY 2 7 0 3,aP 3 8 7,eJ 4 9 .eql (I 6) (I 8),A 5 10 9,dk 6 11 10 1 2,dF 7 12 10 11,dk 8 13 10 1 3,dF 9 14 10 13,Bx 10 15 10 12 14,dd 11 16 10 15,A 12 17 16,dk 13 18 17 2 2,dF 14 19 17 18,dk 15 20 17 2 3,dF 16 21 17 20,Bx 17 22 17 19 21,dd 18 23 17 22,A 19 24 23,dk 20 25 24 3 2,dF 21 26 24 25,dk 22 27 24 3 3,dF 23 28 24 27,Bx 24 29 24 26 28,dd 25 30 24 29,A 26 31 30,dk 27 32 31 4 2,jM 28 33 31 3 32,ef 29 34 31 true (.jx 3 1 [.bool false,aW,aW] [(0,3,I 33)]),dk 30 35 31 4 3,jM 31 36 31 3 35,ef 32 37 31 true (.jx 3 1 [.bool false,aW,aW] [(0,3,I 36)]),tK 33 38 31 79 34 37,dd 34 39 31 38,A 35 4 39]) (.aT)
def Gg:J:=
  .D (
  .G [
 ft 0 2 0,
 ft 1 3 1,
 ca 2 4 false]) Gh
def DD:cR:=⟨40,[.bq 4],Gg⟩
theorem aFc:cO Z 78=some DD:=by kernel_rfl
def aoN:J:= .D (.G [A 0 5 0,bV 1 6 (.hg [.string ⟨#[]⟩,aW,aW,aW] [(1,1,I 5)]),Gm 2 7 6,Gn 3 8 7,N7 4 9 8,A 5 10 1,bV 6 11 (.hg [.string ⟨#[]⟩,aW,aW,aW] [(1,1,I 10)]),Gm 7 12 11,Gn 8 13 12,N7 9 14 13,gj 10 15 74 9 14,A 11 4 15]) (.aT)
def aoM:J:=
  .D (
  .G [
 ca 0 4 false]) aoN
def adv:cR:=⟨16,[.bq 4],aoM⟩
theorem aFd:cO Z 79=some adv:=by kernel_rfl
def aFm:J:= .D (.G [A 0 18 2,A 1 19 0,A 2 20 7,b9 3 21 3 19 20,ct 4 22 3 21,A 5 23 1,A 6 24 7,b9 7 25 3 23 24,ct 8 26 3 25,sH 9 27,im 10 28 27]) (.a8 (I 28) (.D (.G [ca 0 6 false]) (.aT)) (.skip))
def aFl:J:= .D (.block 1 (.D (.G [A 0 17 15,A 1 7 17]) aFm)) (.G [dA 0 29 15,A 1 15 29])
def aFk:J:= .D (.a8 (I 16) (.skip) (.bw 0)) aFl
def aFo:J:= .D (.G [dR 0 16 15 14]) aFk
def aFn:J:= .D (.G [ca 0 6 true]) (.aT)
def aFj:J:= .D (.D (.G [A 0 13 0,bZ 1 14 13,b0 2 15 0]) (.block 0 (.loop aFo))) aFn
def aFi:J:= .D (.D (.G [A 0 8 0,bZ 1 9 8,A 2 10 1,bZ 3 11 10,kJ 4 12 9 11]) (.a8 (I 12) (.D (.G [ca 0 6 false]) (.aT)) (.skip))) aFj
def aFg:J:=
  .D (
  .G [
 ca 0 6 false]) aFi
def aFf:cR:=⟨30,[.bq 6],aFg⟩
theorem aFh:cO Z 80=some aFf:=by kernel_rfl
def aoT:J:= .D (.G [ct 0 5 3 2,ct 1 6 3 3,bV 2 7 (.pL false [.str,.int,.int] (I 5) (I 6)),A 3 4 7]) (.aT)
def aoS:J:=
  .D (
  .G [
 ft 0 2 0,
 ft 1 3 1,
 ca 2 4 false]) aoT
def adx:cR:=⟨8,[.bq 4],aoS⟩
theorem aFp:cO Z 81=some adx:=by kernel_rfl
def aFx:J:= .D (.G [A 0 18 2,A 1 19 0,A 2 20 7,b9 3 21 17 19 20,ct 4 22 17 21,A 5 23 1,A 6 24 7,b9 7 25 17 23 24,ct 8 26 17 25,sH 9 27,im 10 28 27]) (.a8 (I 28) (.D (.G [ca 0 6 false]) (.aT)) (.skip))
def aFw:J:= .D (.block 1 (.D (.G [A 0 17 15,A 1 7 17]) aFx)) (.G [dA 0 29 15,A 1 15 29])
def aFv:J:= .D (.a8 (I 16) (.skip) (.bw 0)) aFw
def aFz:J:= .D (.G [dR 0 16 15 14]) aFv
def aFy:J:= .D (.G [ca 0 6 true]) (.aT)
def aFu:J:= .D (.D (.G [A 0 13 0,bZ 1 14 13,b0 2 15 0]) (.block 0 (.loop aFz))) aFy
def aFt:J:= .D (.D (.G [A 0 8 0,bZ 1 9 8,A 2 10 1,bZ 3 11 10,kJ 4 12 9 11]) (.a8 (I 12) (.D (.G [ca 0 6 false]) (.aT)) (.skip))) aFu
def aFr:J:=
  .D (
  .G [
 ca 0 6 false]) aFt
def aFq:cR:=⟨30,[.bq 6],aFr⟩
theorem aFs:cO Z 82=some aFq:=by kernel_rfl
def yi:J:= .D (.G [aY 0 5 0 2,aP 1 6 5,aY 2 7 0 3,aP 3 8 7,eJ 4 9 .eql (I 6) (I 8),A 5 10 9,dk 6 11 10 1 2,dF 7 12 10 11,dk 8 13 10 1 3,dF 9 14 10 13,Bx 10 15 10 12 14,dd 11 16 10 15,A 12 17 16,dk 13 18 17 2 2,dF 14 19 17 18,dk 15 20 17 2 3,dF 16 21 17 20,Bx 17 22 17 19 21,dd 18 23 17 22,A 19 24 23,dk 20 25 24 3 2,dF 21 26 24 25,dk 22 27 24 3 3,dF 23 28 24 27,Bx 24 29 24 26 28,dd 25 30 24 29,A 26 31 30,dk 27 32 31 4 2,jM 28 33 31 5 32,dk 29 34 31 4 3,jM 30 35 31 5 34,ef 31 36 31 true (.pL false [.int,.int,.int,.int,.int] (I 33) (I 35)),dd 32 37 31 36,A 33 38 37,dk 34 39 38 9 2,dF 35 40 38 39,dk 36 41 38 9 3,dF 37 42 38 41,tK 38 43 38 126 40 42,dd 39 44 38 43,A 40 45 44,dk 41 46 45 10 2,dF 42 47 45 46,dk 43 48 45 10 3,dF 44 49 45 48,tK 45 50 45 79 47 49,dd 46 51 45 50,A 47 52 51,dk 48 53 52 11 2,jM 49 54 52 3 53,dk 50 55 52 14 2,jM 51 56 52 3 55,adV 52 57 54 56,dk 53 58 52 11 3,jM 54 59 52 3 58,dk 55 60 52 14 3,jM 56 61 52 3 60,adV 57 62 59 61,tK 58 63 52 79 57 62,dd 59 64 52 63,A 60 4 64]) (.aT)
def yh:J:=
  .D (
  .G [
 ft 0 2 0,
 ft 1 3 1,
 ca 2 4 false]) yi
def wT:cR:=⟨65,[.bq 4],yh⟩
theorem aFA:cO Z 83=some wT:=by kernel_rfl
def aFI:J:= .D (.G [A 0 18 2,A 1 19 0,A 2 20 7,b9 3 21 2 19 20,ct 4 22 2 21,A 5 23 1,A 6 24 7,b9 7 25 2 23 24,ct 8 26 2 25,sH 9 27,im 10 28 27]) (.a8 (I 28) (.D (.G [ca 0 6 false]) (.aT)) (.skip))
def aFH:J:= .D (.block 1 (.D (.G [A 0 17 15,A 1 7 17]) aFI)) (.G [dA 0 29 15,A 1 15 29])
def aFG:J:= .D (.a8 (I 16) (.skip) (.bw 0)) aFH
def aFK:J:= .D (.G [dR 0 16 15 14]) aFG
def aFJ:J:= .D (.G [ca 0 6 true]) (.aT)
def aFF:J:= .D (.D (.G [A 0 13 0,bZ 1 14 13,b0 2 15 0]) (.block 0 (.loop aFK))) aFJ
def aFE:J:= .D (.D (.G [A 0 8 0,bZ 1 9 8,A 2 10 1,bZ 3 11 10,kJ 4 12 9 11]) (.a8 (I 12) (.D (.G [ca 0 6 false]) (.aT)) (.skip))) aFF
def aFC:J:=
  .D (
  .G [
 ca 0 6 false]) aFE
def aFB:cR:=⟨30,[.bq 6],aFC⟩
theorem aFD:cO Z 84=some aFB:=by kernel_rfl
def aoV:J:= .D (.G [ct 0 5 2 2,ct 1 6 2 3,bV 2 7 (.pL false [.str,.int] (I 5) (I 6)),A 3 4 7]) (.aT)
def aoU:J:=
  .D (
  .G [
 ft 0 2 0,
 ft 1 3 1,
 ca 2 4 false]) aoV
def ady:cR:=⟨8,[.bq 4],aoU⟩
theorem aFL:cO Z 85=some ady:=by kernel_rfl
def Up:J:= .D (.G [A 0 13 1,A 1 14 6,bV 2 15 (.ln (I 13) [I 14]),im 3 16 15]) (.a8 (I 16) (.D (.G [ca 0 4 false]) (.aT)) (.skip))
def Uo:J:= .D (.block 1 (.D (.G [b9 0 11 1 7 9,aP 1 12 11,A 2 6 12]) Up)) (.G [dA 0 17 9,A 1 9 17])
def Un:J:= .D (.a8 (I 10) (.skip) (.bw 0)) Uo
def NZ:J:= .D (.G [dR 0 10 9 8]) Un
def NY:J:= .D (.G [ca 0 4 true]) (.aT)
def apa:J:= .D (.D (.G [A 0 7 0,bZ 1 8 7,b0 2 9 0]) (.block 0 (.loop NZ))) NY
def adM:J:=
  .D (
  .G [
 ca 0 4 false]) apa
def aF6:cR:=⟨18,[.bq 4],adM⟩
theorem aF7:cO Z 95=some aF6:=by kernel_rfl
theorem av2{args:List Value}{m:E}{aI:Value->E->Prop}(h:args.length<=18):bU Z 95 args m aI=cH Z adM (eX args) m (eU [.bq 4] aI):=fK aF7 h
def apb:J:= .D (.G [A 0 3 0,A 1 2 3]) (.aT)
def adN:J:=
  .D (
  .G [
 ca 0 2 false]) apb
def aF8:cR:=⟨4,[.bq 2],adN⟩
theorem aF9:cO Z 96=some aF8:=by kernel_rfl
theorem av3{args:List Value}{m:E}{aI:Value->E->Prop}(h:args.length<=4):bU Z 96 args m aI=cH Z adN (eX args) m (eU [.bq 2] aI):=fK aF9 h
def Mz:J:= .D (.G [ca 0 10 true]) (.aT)
def My:J:= .D (.G [A 0 33 1,A 1 34 2,A 2 35 3,Mt 3 (.p0 .str (I 33) (I 34) (I 35))]) Mz
def Mx:J:= .D (.D (.G [A 0 19 0,A 1 20 2,ct 3 22 2 9,wW 2 21 112 20 9 9,cF 4 23 35 [I 19,I 21,.const (.int .i64 1),I 22],im 5 24 23,A 6 25 24,fX 7 26 25 0,fX 8 27 25 12,jN 9 28 25 27,kH 10 29 25 2 9,ef 11 30 25 false (.gl 35 [I 26,I 28,.const (.int .i64 8),I 29]),jN 12 31 25 30,dx 13 32 25 31]) (.a8 (I 32) (.D (.G [ca 0 10 false]) (.aT)) (.skip))) My
def Mw:J:= .D (.G [A 0 14 1,A 1 15 2,bV 2 16 (.pY .str bd true (I 14) (I 15)),A 3 13 16,dN 4 17 0 13,dN 5 18 1 13,A 6 11 17,A 7 12 18]) Mx
def Iw:J:=
  .D (
  .G [
 ft 0 9 4,
 ca 1 10 false]) Mw
def akK:cR:=⟨36,[.bq 10],Iw⟩
theorem aAx:cO Z 101=some akK:=by kernel_rfl
def FP:J:= .D (.G [bV 0 37 (.sY 1 5 (I 7)),cF 1 38 140 [I 37,.func 141],A 2 8 38]) (.aT)
def FO:J:= .D (.D (.G [A 0 9 0,Bw 1 10 21 9 1 6,im 2 11 10,A 3 12 11,fX 4 13 12 1,ef 5 14 12 false (.gl 21 [I 13,.const bd,.const (.int .i64 4)]),jN 6 15 12 14,dx 7 16 12 15,A 8 17 16,fX 9 18 17 0,fX 10 19 17 1,ef 11 20 17 false (.gL .add .ir (I 18) (I 19)),pW 12 21 17 20 8,dx 13 22 17 21,A 14 23 22,fX 15 24 23 2,fX 16 25 23 0,fX 17 26 23 0,fX 18 27 23 1,ef 19 28 23 false (.gL .add .ir (I 26) (I 27)),ef 20 29 23 false (.gl 21 [I 24,I 25,I 28]),jN 21 30 23 29,dx 22 31 23 30,A 23 32 31,ef 24 33 32 false (.wN 1 5 (I 7) (.const bd)),dZ 25 34 32 33,Jw 26 35 32 34,dx 27 36 32 35]) (.a8 (I 36) (.D (.G [ca 0 8 false]) (.aT)) (.skip))) FP
def FN:J:=
  .D (
  .G [
 ft 0 7 3,
 ca 1 8 false]) FO
def Db:cR:=⟨39,[.bq 8],FN⟩
theorem aAy:cO Z 102=some Db:=by kernel_rfl
def MB:J:= .D (.G [A 0 9 1,bZ 1 10 9,A 2 11 0,bV 3 12 (.yo true (I 11) [.const (.int .i64 1)]),eJ 4 13 .eql (I 10) (I 12),A 5 14 13,gT 6 15 14 1,ef 7 16 14 true (.gl 22 [I 15,.func 142]),dd 8 17 14 16,A 9 18 17,jM 10 19 18 3 6,nr 11 20 18 23 19,dd 12 21 18 20,A 13 22 21,jM 14 23 22 3 6,nr 15 24 22 143 23,dd 16 25 22 24,A 17 26 25,jM 18 27 26 3 7,nr 19 28 26 23 27,dd 20 29 26 28,A 21 8 29]) (.aT)
def MA:J:=
  .D (
  .G [
 ft 0 6 2,
 ft 1 7 3,
 ca 2 8 false]) MB
def Ix:cR:=⟨30,[.bq 8],MA⟩
theorem aAz:cO Z 103=some Ix:=by kernel_rfl
def akR:J:= .D (.G [A 0 5 0,A 1 6 1,cF 2 7 155 [I 5,I 6,.func 156],A 3 4 7]) (.aT)
def akQ:J:=
  .D (
  .G [
 ca 0 4 false]) akR
def ZS:cR:=⟨8,[.bq 4],akQ⟩
theorem aBI:cO Z 126=some ZS:=by kernel_rfl
def MX:J:= .D (.G [A 0 13 1,A 1 14 6,bV 2 15 (.ln (I 13) [I 14]),im 3 16 15]) (.a8 (I 16) (.D (.G [ca 0 4 false]) (.aT)) (.skip))
def MW:J:= .D (.block 1 (.D (.G [b9 0 11 1 7 9,aP 1 12 11,A 2 6 12]) MX)) (.G [dA 0 17 9,A 1 9 17])
def MV:J:= .D (.a8 (I 10) (.skip) (.bw 0)) MW
def R9:J:= .D (.G [dR 0 10 9 8]) MV
def MY:J:= .D (.G [ca 0 4 true]) (.aT)
def alv:J:= .D (.D (.G [A 0 7 0,bZ 1 8 7,b0 2 9 0]) (.block 0 (.loop R9))) MY
def alu:J:=
  .D (
  .G [
 ca 0 4 false]) alv
def aaq:cR:=⟨18,[.bq 4],alu⟩
theorem aCa:cO Z 140=some aaq:=by kernel_rfl
def alx:J:= .D (.G [A 0 3 0,Bw 1 4 21 3 0 8,A 2 2 4]) (.aT)
def alw:J:=
  .D (
  .G [
 ca 0 2 false]) alx
def aar:cR:=⟨5,[.bq 2],alw⟩
theorem aCb:cO Z 141=some aar:=by kernel_rfl
def alz:J:= .D (.G [ct 0 3 3 1,cF 1 4 23 [I 3],A 2 5 4,jM 3 6 5 3 1,nr 4 7 5 24 6,dd 5 8 5 7,A 6 2 8]) (.aT)
def aly:J:=
  .D (
  .G [
 ft 0 1 0,
 ca 1 2 false]) alz
def aas:cR:=⟨9,[.bq 2],aly⟩
theorem aCc:cO Z 142=some aas:=by kernel_rfl
def alD:J:= .D (.G [A 0 17 6,lY 1 18 17 0,A 2 19 18,gT 3 20 19 5,oh 4 21 19 20 0,dd 5 22 19 21,A 6 2 22]) (.aT)
def alC:J:= .D (.G [ct 0 12 3 1,ct 1 13 3 3,gj 2 14 27 12 13,A 3 11 14,dN 4 15 0 11,dN 5 16 1 11,A 6 5 15,A 7 6 16]) alD
def alB:J:= .D (.G [cF 0 8 26 [.const (.int .i64 1),.const (.int .i64 1)],A 1 7 8,dN 2 9 0 7,dN 3 10 1 7,bV 4 3 (.eC [.bool false,aW,aW]),c9 5 3 3 9,A 6 4 10]) alC
def alA:J:=
  .D (
  .G [
 ft 0 1 0,
 ca 1 2 false]) alB
def aat:cR:=⟨23,[.bq 2],alA⟩
theorem aCd:cO Z 143=some aat:=by kernel_rfl
def aCQ:J:= .D (.G [A 0 18 2,A 1 19 0,A 2 20 7,b9 3 21 1 19 20,aP 4 22 21,A 5 23 1,A 6 24 7,b9 7 25 1 23 24,aP 8 26 25,sH 9 27,im 10 28 27]) (.a8 (I 28) (.D (.G [ca 0 6 false]) (.aT)) (.skip))
def aCP:J:= .D (.block 1 (.D (.G [A 0 17 15,A 1 7 17]) aCQ)) (.G [dA 0 29 15,A 1 15 29])
def aCO:J:= .D (.a8 (I 16) (.skip) (.bw 0)) aCP
def aCS:J:= .D (.G [dR 0 16 15 14]) aCO
def aCR:J:= .D (.G [ca 0 6 true]) (.aT)
def aCN:J:= .D (.D (.G [A 0 13 0,bZ 1 14 13,b0 2 15 0]) (.block 0 (.loop aCS))) aCR
def aCM:J:= .D (.D (.G [A 0 8 0,bZ 1 9 8,A 2 10 1,bZ 3 11 10,kJ 4 12 9 11]) (.a8 (I 12) (.D (.G [ca 0 6 false]) (.aT)) (.skip))) aCN
def aCK:J:=
  .D (
  .G [
 ca 0 6 false]) aCM
def aCJ:cR:=⟨30,[.bq 6],aCK⟩
theorem aCL:cO Z 155=some aCJ:=by kernel_rfl
def al2:J:= .D (.G [A 0 5 0,A 1 6 1,eJ 2 7 .eql (I 5) (I 6),A 3 4 7]) (.aT)
def al1:J:=
  .D (
  .G [
 ca 0 4 false]) al2
def aaC:cR:=⟨8,[.bq 4],al1⟩
theorem aCT:cO Z 156=some aaC:=by kernel_rfl
end Go.Proofs.YtkpifdkccdndcaaGreat
