/-
  A part of the proof of the statement, in texts that tools of ours (wip/shrink.py, irpack.py, relax.py, minify.py, join.py, lay.py) have shortened.
-/
import Derived.Test.YtkpifdkccdndcaaGreatZal
import Derived.Test.YtkpifdkccdndcaaGreatZam
set_option linter.all false
set_option maxRecDepth 8000
set_option maxHeartbeats 16000000
namespace Go.Proofs.YtkpifdkccdndcaaGreat
open Go Go.DI
def Zy:J:= .D (.block 1 (.D (.G [aY 0 47 2 1,aP 1 48 47,A 2 49 4,b9 3 50 1 48 49,aP 4 51 50,A 5 52 3,gj 6 53 29 51 52,im 7 54 53,A 8 55 54,dr 9 56 55 2 1,dZ 10 57 55 56,fX 11 58 55 4,vH 12 59 55 1 57 58,dZ 13 60 55 59,fX 14 61 55 4,vH 15 62 55 3 60 61,kH 16 63 55 3 62,kI 17 64 55 30 63,Jw 18 65 55 64,dx 19 66 55 65]) (.a8 (I 66) (.D (.G [ca 0 2 false]) (.aT)) (.skip)))) (.G [A 0 45 4,dA 1 46 45,A 2 4 46])
def RJ:J:= .D (.D (.G [A 0 42 4,A 1 43 3,dR 2 44 42 43]) (.a8 (I 44) (.skip) (.bw 0))) Zy
def MG:J:= .D (.G [A 0 73 6,eJ 1 74 .neq (I 73) (.const bd),A 2 75 74,kH 3 76 75 3 5,⟨4,some 77,some (75,false),.gl 33 [.const (.int .i64 1)],[(I 5,I 5)]⟩,sG 5 78 75 32 76 77,jN 6 79 75 78,dx 7 80 75 79]) (.a8 (I 80) (.D (.G [ca 0 2 false]) (.aT)) (.skip))
def RB:J:= .D (.block 7 (.G [A 0 114 7,A 1 115 9,A 2 116 7,A 3 117 9,b9 4 118 1 116 117,aP 5 119 118,A 6 120 119,dr 7 121 120 2 1,dZ 8 122 120 121,fX 9 123 120 9,vH 10 124 120 1 122 123,dZ 11 125 120 124,fX 12 126 120 10,vH 13 127 120 3 125 126,kH 14 128 120 3 127,kI 15 129 120 30 128,pW 16 130 120 129 0,fX 17 131 120 130,gT 18 132 131 7,gT 19 133 131 10,wV 20 134 131 1 132 133,dF 21 135 131 134,ef 22 136 120 false (.tR (I 131) (I 135) (.const (.bool false))),dx 23 137 120 136,b9 24 138 1 114 115,c9 25 1 138 137])) (.G [A 0 112 10,dA 1 113 112,A 2 10 113])
def MH:J:= .D (.D (.G [A 0 109 10,A 1 110 3,dR 2 111 109 110]) (.a8 (I 111) (.skip) (.bw 6))) RB
def RA:J:= .D (.G [b0 0 10 0]) (.block 6 (.loop MH))
def Rz:J:= .D (.block 5 (.D (.G [A 0 93 7,A 1 94 9,A 2 95 7,A 3 96 9,b9 4 97 1 95 96,aP 5 98 97,A 6 99 98,dr 7 100 99 3 1,dZ 8 101 99 100,fX 9 102 99 9,vH 10 103 99 3 101 102,kH 11 104 99 3 103,kI 12 105 99 30 104,pW 13 106 99 105 0,dx 14 107 99 106,b9 15 108 1 93 94,c9 16 1 108 107]) RA)) (.G [A 0 91 9,dA 1 92 91,A 2 9 92])
def MI:J:= .D (.D (.G [A 0 88 9,A 1 89 3,dR 2 90 88 89]) (.a8 (I 90) (.skip) (.bw 4))) Rz
def Zz:J:= .D (.block 3 (.D (.G [b0 0 9 0]) (.block 4 (.loop MI)))) (.G [A 0 86 8,dA 1 87 86,A 2 8 87])
def RK:J:= .D (.D (.G [A 0 83 8,A 1 84 3,dR 2 85 83 84]) (.a8 (I 85) (.skip) (.bw 2))) Zz
def RD:J:= .D (.block 9 (.D (.G [A 0 144 7,A 1 145 11,b9 2 146 1 144 145,aP 3 147 146,im 4 148 147]) (.a8 (I 148) (.D (.G [ca 0 2 false]) (.aT)) (.skip)))) (.G [A 0 142 11,dA 1 143 142,A 2 11 143])
def MJ:J:= .D (.D (.G [A 0 139 11,A 1 140 3,dR 2 141 139 140]) (.a8 (I 141) (.skip) (.bw 8))) RD
def Dc:J:= .D (.G [ca 0 2 true]) (.aT)
def RC:J:= .D (.D (.G [b0 0 11 0]) (.block 8 (.loop MJ))) Dc
def RI:J:= .D (.D (.G [b0 0 8 0]) (.block 2 (.loop RK))) RC
def RH:J:= .D (.G [A 0 81 3,bV 1 82 (.nN 1 1 [.bool false] (I 81) (I 81)),A 2 7 82]) RI
def RG:J:= .D (.D (.G [aY 0 68 1 1,aP 1 69 68,cF 2 70 31 [I 69],A 3 67 70,dN 4 71 0 67,dN 5 72 1 67,bV 6 5 (.eC [.bool false,aW,aW]),c9 7 3 5 71,A 8 6 72]) MG) RH
def RF:J:= .D (.D (.G [b0 0 4 0]) (.block 0 (.loop RJ))) RG
def RE:J:= .D (.D (.G [A 0 15 3,tJ 1 16 15 1,A 2 17 16,fX 3 18 17 3,pW 4 19 17 18 4,dx 5 20 17 19,A 6 21 20,dr 7 22 21 1 1,dZ 8 23 21 22,fX 9 24 21 3,sG 10 25 21 29 23 24,jN 11 26 21 25,dx 12 27 21 26,A 13 28 27,dr 14 29 28 3 1,dZ 15 30 28 29,fX 16 31 28 3,sG 17 32 28 29 30 31,jN 18 33 28 32,dx 19 34 28 33,A 20 35 34,dr 21 36 35 2 1,dZ 22 37 35 36,iq 23 38 35 37,fX 24 39 35 3,k2 25 40 35 38 39,dx 26 41 35 40]) (.a8 (I 41) (.D (.G [ca 0 2 false]) (.aT)) (.skip))) RF
def Ry:J:= .D (.G [aY 0 12 1 1,aP 1 13 12,bZ 2 14 13,A 3 3 14]) RE
def MF:J:=
  .D (
  .G [
 ft 0 1 0,
 ca 1 2 false]) Ry
def aAu:cR:=⟨149,[.bq 2],MF⟩
theorem aAK:cO Z 10=some aAu:=by kernel_rfl
theorem auT{args:List Value}{m:E}{aI:Value->E->Prop}(h:args.length<=149):bU Z 10 args m aI=cH Z MF (eX args) m (eU [.bq 2] aI):=fK aAK h
def aao:J:= .D (.block 1 (.D (.G [aY 0 81 1 2,aP 1 82 81,A 2 83 5,b9 3 84 4 82 83,ct 4 85 4 84,aY 5 86 1 3,aP 6 87 86,A 7 88 5,b9 8 89 4 87 88,ct 9 90 4 89,gj 10 91 59 85 90,im 11 92 91]) (.a8 (I 92) (.D (.G [ca 0 4 false]) (.aT)) (.skip)))) (.G [A 0 79 5,dA 1 80 79,A 2 5 80])
def R5:J:= .D (.D (.G [A 0 74 5,aY 1 75 1 2,aP 2 76 75,bZ 3 77 76,dR 4 78 74 77]) (.a8 (I 78) (.skip) (.bw 0))) aao
def aap:J:= .D (.block 3 (.D (.G [aY 0 100 2 2,aP 1 101 100,A 2 102 6,b9 3 103 4 101 102,ct 4 104 4 103,aY 5 105 2 3,aP 6 106 105,A 7 107 6,b9 8 108 4 106 107,ct 9 109 4 108,bV 10 110 (.pL true [.str,.int,.int,.int] (I 104) (I 109))]) (.a8 (I 110) (.D (.G [ca 0 4 false]) (.aT)) (.skip)))) (.G [A 0 98 6,dA 1 99 98,A 2 6 99])
def R6:J:= .D (.D (.G [A 0 93 6,aY 1 94 2 2,aP 2 95 94,bZ 3 96 95,dR 4 97 93 96]) (.a8 (I 97) (.skip) (.bw 2))) aap
def F0:J:= .D (.G [aY 0 128 0 8,aP 1 129 128,aY 2 130 0 9,aP 3 131 130,kJ 4 132 129 131,A 5 133 132,dr 6 134 133 1 8,dZ 7 135 133 134,dr 8 136 133 1 9,dZ 9 137 133 136,k2 10 138 133 135 137,dx 11 139 133 138,A 12 140 139,dr 13 141 140 2 8,dZ 14 142 140 141,dr 15 143 140 2 9,dZ 16 144 140 143,k2 17 145 140 142 144,dx 18 146 140 145,A 19 147 146,dr 20 148 147 3 8,dZ 21 149 147 148,dr 22 150 147 3 9,dZ 23 151 147 150,k2 24 152 147 149 151,dx 25 153 147 152,A 26 154 153,dr 27 155 154 4 8,kH 28 156 154 3 155,dr 29 157 154 4 9,kH 30 158 154 3 157,sG 31 159 154 60 156 158,jN 32 160 154 159,dx 33 161 154 160]) (.a8 (I 161) (.D (.G [ca 0 4 false]) (.aT)) (.skip))
def FZ:J:= .D (.block 5 (.D (.G [aY 0 118 3 2,aP 1 119 118,A 2 120 7,b9 3 121 7 119 120,ct 4 122 7 121,aY 5 123 3 3,aP 6 124 123,A 7 125 7,b9 8 126 7 124 125,ct 9 127 7 126,bV 10 8 (.eC [.string ⟨#[]⟩,bd,bd,bd,.bool false,aW,aW]),bV 11 9 (.eC [.string ⟨#[]⟩,bd,bd,bd,.bool false,aW,aW]),⟨12,none,none,.store 7 (I 8) (I 122),[(I 126,I 8),(I 123,I 8)]⟩,c9 13 7 9 127]) F0)) (.G [A 0 116 7,dA 1 117 116,A 2 7 117])
def De:J:= .D (.D (.G [A 0 111 7,aY 1 112 3 2,aP 2 113 112,bZ 3 114 113,dR 4 115 111 114]) (.a8 (I 115) (.skip) (.bw 4))) FZ
def aam:J:= .D (.block 7 (.D (.G [aY 0 169 4 2,aP 1 170 169,A 2 171 10,b9 3 172 3 170 171,ct 4 173 3 172,aY 5 174 4 3,aP 6 175 174,A 7 176 10,b9 8 177 3 175 176,ct 9 178 3 177,bV 10 179 (.pL true [.str,.int,.int] (I 173) (I 178))]) (.a8 (I 179) (.D (.G [ca 0 4 false]) (.aT)) (.skip)))) (.G [A 0 167 10,dA 1 168 167,A 2 10 168])
def R7:J:= .D (.D (.G [A 0 162 10,aY 1 163 4 2,aP 2 164 163,bZ 3 165 164,dR 4 166 162 165]) (.a8 (I 166) (.skip) (.bw 6))) aam
def ya:J:= .D (.G [aY 0 197 0 12,aP 1 198 197,aY 2 199 0 13,aP 3 200 199,kJ 4 201 198 200,A 5 202 201,dr 6 203 202 1 12,dZ 7 204 202 203,dr 8 205 202 1 13,dZ 9 206 202 205,k2 10 207 202 204 206,dx 11 208 202 207,A 12 209 208,dr 13 210 209 2 12,dZ 14 211 209 210,dr 15 212 209 2 13,dZ 16 213 209 212,k2 17 214 209 211 213,dx 18 215 209 214,A 19 216 215,dr 20 217 216 3 12,dZ 21 218 216 217,dr 22 219 216 3 13,dZ 23 220 216 219,k2 24 221 216 218 220,dx 25 222 216 221,A 26 223 222,dr 27 224 223 4 12,kH 28 225 223 5 224,dr 29 226 223 4 13,kH 30 227 223 5 226,ef 31 228 223 false (.pL true [.int,.int,.int,.int,.int] (I 225) (I 227)),dx 32 229 223 228,A 33 230 229,dr 34 231 230 9 12,dZ 35 232 230 231,dr 36 233 230 9 13,dZ 37 234 230 233,sG 38 235 230 61 232 234,jN 39 236 230 235,dx 40 237 230 236,A 41 238 237,dr 42 239 238 10 12,dZ 43 240 238 239,dr 44 241 238 10 13,dZ 45 242 238 241,sG 46 243 238 62 240 242,jN 47 244 238 243,dx 48 245 238 244,A 49 246 245,dr 50 247 246 11 12,kH 51 248 246 3 247,dr 52 249 246 11 13,kH 53 250 246 3 249,sG 54 251 246 60 248 250,jN 55 252 246 251,dx 56 253 246 252,A 57 254 253,dr 58 255 254 14 12,kH 59 256 254 3 255,dr 60 257 254 14 13,kH 61 258 254 3 257,sG 62 259 254 60 256 258,jN 63 260 254 259,dx 64 261 254 260]) (.a8 (I 261) (.D (.G [ca 0 4 false]) (.aT)) (.skip))
def x9:J:= .D (.block 9 (.D (.G [aY 0 187 5 2,aP 1 188 187,A 2 189 11,b9 3 190 17 188 189,ct 4 191 17 190,aY 5 192 5 3,aP 6 193 192,A 7 194 11,b9 8 195 17 193 194,ct 9 196 17 195,bV 10 12 (.eC [.string ⟨#[]⟩,bd,bd,bd,bd,bd,bd,bd,bd,aW,aW,.bool false,aW,aW,.bool false,aW,aW]),bV 11 13 (.eC [.string ⟨#[]⟩,bd,bd,bd,bd,bd,bd,bd,bd,aW,aW,.bool false,aW,aW,.bool false,aW,aW]),⟨12,none,none,.store 17 (I 12) (I 191),[(I 195,I 12),(I 192,I 12)]⟩,c9 13 17 13 196]) ya)) (.G [A 0 185 11,dA 1 186 185,A 2 11 186])
def wR:J:= .D (.D (.G [A 0 180 11,aY 1 181 5 2,aP 2 182 181,bZ 3 183 182,dR 4 184 180 183]) (.a8 (I 184) (.skip) (.bw 8))) x9
def aan:J:= .D (.block 11 (.D (.G [aY 0 269 6 2,aP 1 270 269,A 2 271 14,b9 3 272 2 270 271,ct 4 273 2 272,aY 5 274 6 3,aP 6 275 274,A 7 276 14,b9 8 277 2 275 276,ct 9 278 2 277,bV 10 279 (.pL true [.str,.int] (I 273) (I 278))]) (.a8 (I 279) (.D (.G [ca 0 4 false]) (.aT)) (.skip)))) (.G [A 0 267 14,dA 1 268 267,A 2 14 268])
def R8:J:= .D (.D (.G [A 0 262 14,aY 1 263 6 2,aP 2 264 263,bZ 3 265 264,dR 4 266 262 265]) (.a8 (I 266) (.skip) (.bw 10))) aan
def mB:J:= .D (.G [ca 0 4 true]) (.aT)
def np:J:= .D (.D (.G [b0 0 14 0]) (.block 10 (.loop R8))) mB
def tG:J:= .D (.D (.G [b0 0 11 0]) (.block 8 (.loop wR))) np
def vD:J:= .D (.D (.G [b0 0 10 0]) (.block 6 (.loop R7))) tG
def FY:J:= .D (.D (.G [b0 0 7 0]) (.block 4 (.loop De))) vD
def MU:J:= .D (.D (.G [b0 0 6 0]) (.block 2 (.loop R6))) FY
def Bd:J:= .D (.D (.G [b0 0 5 0]) (.block 0 (.loop R5))) MU
def Bc:J:= .D (.D (.G [aY 0 15 0 2,aP 1 16 15,aY 2 17 0 3,aP 3 18 17,kJ 4 19 16 18,A 5 20 19,dr 6 21 20 1 2,dZ 7 22 20 21,iq 8 23 20 22,dr 9 24 20 1 3,dZ 10 25 20 24,iq 11 26 20 25,k2 12 27 20 23 26,dx 13 28 20 27,A 14 29 28,dr 15 30 29 2 2,dZ 16 31 29 30,iq 17 32 29 31,dr 18 33 29 2 3,dZ 19 34 29 33,iq 20 35 29 34,k2 21 36 29 32 35,dx 22 37 29 36,A 23 38 37,dr 24 39 38 3 2,dZ 25 40 38 39,iq 26 41 38 40,dr 27 42 38 3 3,dZ 28 43 38 42,iq 29 44 38 43,k2 30 45 38 41 44,dx 31 46 38 45,A 32 47 46,dr 33 48 47 4 2,dZ 34 49 47 48,iq 35 50 47 49,dr 36 51 47 4 3,dZ 37 52 47 51,iq 38 53 47 52,k2 39 54 47 50 53,dx 40 55 47 54,A 41 56 55,dr 42 57 56 5 2,dZ 43 58 56 57,iq 44 59 56 58,dr 45 60 56 5 3,dZ 46 61 56 60,iq 47 62 56 61,k2 48 63 56 59 62,dx 49 64 56 63,A 50 65 64,dr 51 66 65 6 2,dZ 52 67 65 66,iq 53 68 65 67,dr 54 69 65 6 3,dZ 55 70 65 69,iq 56 71 65 70,k2 57 72 65 68 71,dx 58 73 65 72]) (.a8 (I 73) (.D (.G [ca 0 4 false]) (.aT)) (.skip))) Bd
def Bb:J:=
  .D (
  .G [
 ft 0 2 0,
 ft 1 3 1,
 ca 2 4 false]) Bc
def zq:cR:=⟨280,[.bq 4],Bb⟩
theorem aB9:cO Z 13=some zq:=by kernel_rfl
def abU:J:= .D (.block 1 (.G [aY 0 29 1 4,aP 1 30 29,aY 2 31 1 1,aP 3 32 31,A 4 33 5,b9 5 34 4 32 33,ct 6 35 4 34,wW 7 36 51 35 29 29,Gm 8 37 36,Gn 9 38 37,k3 10 39 6 104 30 38,aY 11 40 1 4,c9 12 1 40 39])) (.G [A 0 27 5,dA 1 28 27,A 2 5 28])
def S0:J:= .D (.D (.G [A 0 22 5,aY 1 23 1 1,aP 2 24 23,bZ 3 25 24,dR 4 26 22 25]) (.a8 (I 26) (.skip) (.bw 0))) abU
def abV:J:= .D (.block 3 (.D (.G [aY 0 48 2 1,aP 1 49 48,A 2 50 6,b9 3 51 4 49 50,ct 4 52 4 51,bV 5 7 (.eC [.string ⟨#[]⟩,bd,bd,bd]),c9 6 4 7 52]) (.G [aY 0 53 2 4,aP 1 54 53,aY 2 55 0 7,aP 3 56 55,aY 4 57 1 7,aP 5 58 57,aY 6 59 2 7,aP 7 60 59,aY 8 61 1 1,aP 9 62 61,aY 10 63 3 7,aP 11 64 63,b9 12 65 4 62 64,aY 13 66 0 65,aP 14 67 66,bV 15 68 (.hg [.string ⟨#[]⟩,bd,bd,.string ⟨#[]⟩,bd,bd] [(0,1,I 56),(1,1,I 58),(2,1,I 60),(3,1,I 67)]),UD 16 69 68,k3 17 70 6 64 54 69,aY 18 71 2 4,c9 19 1 71 70]))) (.G [A 0 46 6,dA 1 47 46,A 2 6 47])
def S1:J:= .D (.D (.G [A 0 41 6,aY 1 42 2 1,aP 2 43 42,bZ 3 44 43,dR 4 45 41 44]) (.a8 (I 45) (.skip) (.bw 2))) abV
def abS:J:= .D (.block 7 (.G [aY 0 119 9 10,aP 1 120 119,aY 2 121 2 1,aP 3 122 121,aY 4 123 9 9,aP 5 124 123,A 6 125 11,b9 7 126 1 124 125,aP 8 127 126,b9 9 128 4 122 127,aY 10 129 0 128,aP 11 130 129,zF 12 131 130,k3 13 132 1 16 120 131,aY 14 133 9 10,c9 15 1 133 132])) (.G [A 0 117 11,dA 1 118 117,A 2 11 118])
def S2:J:= .D (.D (.G [A 0 112 11,aY 1 113 9 9,aP 2 114 113,bZ 3 115 114,dR 4 116 112 115]) (.a8 (I 116) (.skip) (.bw 6))) abS
def abR:J:= .D (.D (.G [b0 0 11 0]) (.block 6 (.loop S2))) (.G [aY 0 134 4 4,aP 1 135 134,ct 2 136 19 10,adS 3 137 136,k3 4 138 19 256 135 137,aY 5 139 4 4,c9 6 1 139 138])
def abQ:J:= .D (.G [aY 0 106 14 9,ct 1 107 3 106,cF 2 108 55 [I 107],A 3 105 108,dN 4 109 0 105,dN 5 110 1 105,aY 6 111 14 10,c9 7 3 111 109]) abR
def abP:J:= .D (.G [aY 0 99 11 9,ct 1 100 3 99,cF 2 101 55 [I 100],A 3 98 101,dN 4 102 0 98,dN 5 103 1 98,aY 6 104 11 10,c9 7 3 104 102]) abQ
def abX:J:= .D (.G [aY 0 84 0 9,aP 1 85 84,aY 2 86 1 9,aP 3 87 86,aY 4 88 2 9,aP 5 89 88,aY 6 90 3 9,aP 7 91 90,aY 8 92 4 9,ct 9 93 5 92,aY 10 94 10 9,aP 11 95 94,pc 12 96 (.gl 56 [I 95]) [(I 92,I 92),(I 90,I 90),(I 88,I 88),(I 86,I 86),(I 84,I 84)],bV 13 97 (.hg [.string ⟨#[]⟩,bd,bd,bd,bd,bd,bd,bd,bd,aW,aW,.bool false,aW,aW,.bool false,aW,aW,bd,bd] [(0,1,I 85),(1,1,I 87),(2,1,I 89),(3,1,I 91),(4,5,I 93),(10,1,I 96)]),bV 14 10 (.eC [.string ⟨#[]⟩,bd,bd,bd,bd,bd,bd,bd,bd,aW,aW,.bool false,aW,aW,.bool false,aW,aW,bd,bd]),c9 15 19 10 97]) abP
def abW:J:= .D (.block 5 (.D (.G [aY 0 79 5 1,aP 1 80 79,A 2 81 8,b9 3 82 17 80 81,ct 4 83 17 82,bV 5 9 (.eC [.string ⟨#[]⟩,bd,bd,bd,bd,bd,bd,bd,bd,aW,aW,.bool false,aW,aW,.bool false,aW,aW]),c9 6 17 9 83]) abX)) (.G [A 0 77 8,dA 1 78 77,A 2 8 78])
def S3:J:= .D (.D (.G [A 0 72 8,aY 1 73 5 1,aP 2 74 73,bZ 3 75 74,dR 4 76 72 75]) (.a8 (I 76) (.skip) (.bw 4))) abW
def abT:J:= .D (.block 9 (.G [aY 0 147 5 4,aP 1 148 147,aY 2 149 6 1,aP 3 150 149,A 4 151 12,b9 5 152 2 150 151,aY 6 153 0 152,aP 7 154 153,aY 8 155 5 1,aP 9 156 155,aY 10 157 6 1,aP 11 158 157,A 12 159 12,b9 13 160 2 158 159,aY 14 161 1 160,aP 15 162 161,b9 16 163 17 156 162,aY 17 164 0 163,aP 18 165 164,bV 19 166 (.hg [.string ⟨#[]⟩,.string ⟨#[]⟩,bd,bd] [(0,1,I 154),(1,1,I 165)]),bV 20 167 (.jx 4 1 [.string ⟨#[]⟩,.string ⟨#[]⟩,bd,bd] [(0,4,I 166)]),k3 21 168 4 48 148 167,aY 22 169 5 4,c9 23 1 169 168])) (.G [A 0 145 12,dA 1 146 145,A 2 12 146])
def S4:J:= .D (.D (.G [A 0 140 12,aY 1 141 6 1,aP 2 142 141,bZ 3 143 142,dR 4 144 140 143]) (.a8 (I 144) (.skip) (.bw 8))) abT
def am5:J:= .D (.G [ct 0 170 6 4,c9 1 6 2 170,b0 2 3 0]) (.aT)
def am4:J:= .D (.D (.G [b0 0 12 0]) (.block 8 (.loop S4))) am5
def am9:J:= .D (.D (.G [b0 0 8 0]) (.block 4 (.loop S3))) am4
def am8:J:= .D (.D (.G [b0 0 6 0]) (.block 2 (.loop S1))) am9
def am7:J:= .D (.D (.G [b0 0 5 0]) (.block 0 (.loop S0))) am8
def am6:J:= .D (.G [aY 0 17 0 1,aP 1 18 17,ct 2 19 7 1,pc 3 20 (.gl 70 [I 19,.const bd]) [(I 17,I 17)],bV 4 21 (.hg [bd,aW,aW,aW,aW,aW] [(0,1,I 18),(3,1,I 20)]),bV 5 4 (.eC [bd,aW,aW,aW,aW,aW]),c9 6 6 4 21]) am7
def abO:J:= .D (.D (.G [ct 0 13 7 1,cF 1 14 69 [I 13],im 2 15 14]) (.a8 (I 15) (.D (.G [bV 0 16 (.hg [bd,aW,aW,aW,aW,aW] []),c9 1 6 2 16,b0 2 3 1]) (.aT)) (.skip))) am6
def abN:J:=
  .D (
  .G [
 ft 0 1 0,
 bV 1 2 (.eC [bd,aW,aW,aW,aW,aW]),
 b0 2 3 0]) abO
def Na:cR:=⟨171,[.h8 2 true 6,.bq 3],abN⟩
theorem am3:cO Z 17=some Na:=by kernel_rfl
def ab0:J:= .D (.G [b0 0 2 0]) (.aT)
def abZ:J:= .D (.D (.G [ct 0 3 7 1,cF 1 4 69 [I 3],im 2 5 4]) (.a8 (I 5) (.D (.G [b0 0 2 1]) (.aT)) (.skip))) ab0
def abY:J:=
  .D (
  .G [
 ft 0 1 0,
 b0 1 2 0]) abZ
def S5:cR:=⟨6,[.bq 2],abY⟩
theorem aDE:cO Z 18=some S5:=by kernel_rfl
def Tj:J:= .D (.block 1 (.D (.G [A 0 15 0,A 1 16 5,b9 2 17 3 15 16,ct 3 18 3 17,cF 4 19 53 [I 18],im 5 20 19]) (.a8 (I 20) (.D (.G [ca 0 4 false]) (.aT)) (.skip)))) (.G [A 0 13 5,dA 1 14 13,A 2 5 14])
def Nl:J:= .D (.D (.G [A 0 10 5,A 1 11 1,dR 2 12 10 11]) (.a8 (I 12) (.skip) (.bw 0))) Tj
def IW:J:= .D (.G [ca 0 4 true]) (.aT)
def acq:J:= .D (.D (.G [b0 0 5 0]) (.block 0 (.loop Nl))) IW
def acp:J:= .D (.D (.G [A 0 6 0,bZ 1 7 6,A 2 8 1,kJ 3 9 7 8]) (.a8 (I 9) (.D (.G [ca 0 4 false]) (.aT)) (.skip))) acq
def Ti:J:=
  .D (
  .G [
 ca 0 4 false]) acp
def aDT:cR:=⟨21,[.bq 4],Ti⟩
theorem aDU:cO Z 29=some aDT:=by kernel_rfl
theorem avI{args:List Value}{m:E}{aI:Value->E->Prop}(h:args.length<=21):bU Z 29 args m aI=cH Z Ti (eX args) m (eU [.bq 4] aI):=fK aDU h
def acK:J:= .D (.G [A 0 7 0,A 1 8 1,eJ 2 9 .geq (I 7) (I 8),A 3 10 9,gT 4 11 10 0,gT 5 12 10 2,ef 6 13 10 true (.gL .leq .ir (I 11) (I 12)),dd 7 14 10 13,A 8 6 14]) (.aT)
def acJ:J:=
  .D (
  .G [
 ca 0 6 false]) acK
def Tt:cR:=⟨15,[.bq 6],acJ⟩
theorem aEb:cO Z 47=some Tt:=by kernel_rfl
def F9:J:= .D (.G [A 0 13 0,eJ 1 14 .leq (I 13) (.const (.int .i64 4)),A 2 15 14,gT 3 16 15 1,oh 4 17 15 16 4,dd 5 18 15 17,A 6 19 18,gT 7 20 19 2,oh 8 21 19 20 40,dd 9 22 19 21,A 10 23 22,gT 11 24 23 3,oh 12 25 23 24 24,dd 13 26 23 25,A 14 27 26,gT 15 28 27 4,oh 16 29 27 28 4,dd 17 30 27 29,A 18 31 30,gT 19 32 31 5,oh 20 33 31 32 12,dd 21 34 31 33,A 22 12 34]) (.aT)
def F8:J:=
  .D (
  .G [
 ca 0 12 false]) F9
def Dr:cR:=⟨35,[.bq 12],F8⟩
theorem aEc:cO Z 48=some Dr:=by kernel_rfl
def Ns:J:= .D (.block 1 (.D (.G [A 0 12 0,A 1 13 5,b9 2 14 1 12 13,aP 3 15 14,A 4 16 1,eJ 5 17 .eql (I 15) (I 16)]) (.a8 (I 17) (.D (.G [A 0 18 5,A 1 4 18]) (.aT)) (.skip)))) (.G [A 0 10 5,dA 1 11 10,A 2 5 11])
def Tv:J:= .D (.D (.G [A 0 6 5,A 1 7 0,bZ 2 8 7,dR 3 9 6 8]) (.a8 (I 9) (.skip) (.bw 0))) Ns
def Nt:J:= .D (.G [b0 0 4 (-1)]) (.aT)
def aof:J:= .D (.D (.G [b0 0 5 0]) (.block 0 (.loop Tv))) Nt
def aoe:J:=
  .D (
  .G [
 b0 0 4 0]) aof
def acL:cR:=⟨19,[.bq 4],aoe⟩
theorem aEf:cO Z 50=some acL:=by kernel_rfl
def Tw:J:= .D (.block 1 (.G [aY 0 21 2 3,aP 1 22 21,aY 2 23 2 1,aP 3 24 23,A 4 25 4,b9 5 26 1 24 25,aP 6 27 26,wW 7 28 56 27 21 21,bV 8 29 (.jx 1 1 [aW] [(0,1,I 28)]),k3 9 30 1 24 22 29,aY 10 31 2 3,c9 11 1 31 30])) (.G [A 0 19 4,dA 1 20 19,A 2 4 20])
def acN:J:= .D (.D (.G [A 0 14 4,aY 1 15 2 1,aP 2 16 15,bZ 3 17 16,dR 4 18 14 17]) (.a8 (I 18) (.skip) (.bw 0))) Tw
def Tx:J:= .D (.G [ct 0 32 4 3,c9 1 4 2 32]) (.aT)
def aoi:J:= .D (.D (.G [b0 0 4 0]) (.block 0 (.loop acN))) Tx
def aoh:J:= .D (.G [aY 0 5 0 1,aP 1 6 5,aY 2 7 1 1,aP 3 8 7,aY 5 10 3 1,aP 6 11 10,pc 4 9 (.gl 56 [I 8]) [(I 10,I 10),(I 5,I 5)],wW 7 12 56 11 5 5,bV 8 13 (.hg [.string ⟨#[]⟩,aW,aW,aW] [(0,1,I 6),(1,1,I 9),(3,1,I 12)]),bV 9 3 (.eC [.string ⟨#[]⟩,aW,aW,aW]),c9 10 4 3 13]) aoi
def aog:J:=
  .D (
  .G [
 ft 0 1 0,
 bV 1 2 (.eC [.string ⟨#[]⟩,aW,aW,aW])]) aoh
def acM:cR:=⟨33,[.h8 2 true 4],aog⟩
theorem aEg:cO Z 51=some acM:=by kernel_rfl
def Nu:J:= .D (.G [A 0 10 4,lY 1 11 10 0,A 2 12 11,dk 3 13 12 0 3,dF 4 14 12 13,ef 5 15 12 true (.oU .not (I 14)),dd 6 16 12 15,A 7 17 16,dk 8 18 17 1 3,dF 9 19 17 18,pf 10 20 17 19,oh 11 21 17 20 1,dd 12 22 17 21,A 13 23 22,dk 14 24 23 2 3,dF 15 25 23 24,pf 16 26 23 25,oh 17 27 23 26 1,dd 18 28 23 27,A 19 2 28]) (.aT)
def aoj:J:= .D (.G [ct 0 6 3 1,cF 1 7 55 [I 6],A 2 5 7,dN 3 8 0 5,dN 4 9 1 5,bV 5 3 (.eC [.bool false,aW,aW]),c9 6 3 3 8,A 7 4 9]) Nu
def acO:J:=
  .D (
  .G [
 ft 0 1 0,
 ca 1 2 false]) aoj
def aEh:cR:=⟨29,[.bq 2],acO⟩
theorem aEi:cO Z 53=some aEh:=by kernel_rfl
theorem avP{args:List Value}{m:E}{aI:Value->E->Prop}(h:args.length<=29):bU Z 53 args m aI=cH Z acO (eX args) m (eU [.bq 2] aI):=fK aEi h
def Ty:J:= .D (.block 1 (.D (.G [A 0 14 0,A 1 15 4,b9 2 16 3 14 15,ct 3 17 3 16,cF 4 18 55 [I 17],A 5 13 18,dN 6 19 0 13,dN 7 20 1 13,bV 8 5 (.eC [.bool false,aW,aW]),c9 9 3 5 19,A 10 6 20]) (.G [A 0 21 3,ct 1 22 3 5,N5 2 23 22,k3 3 24 3 56 21 23,A 4 3 24]))) (.G [A 0 11 4,dA 1 12 11,A 2 4 12])
def acS:J:= .D (.D (.G [A 0 7 4,A 1 8 0,bZ 2 9 8,dR 3 10 7 9]) (.a8 (I 10) (.skip) (.bw 0))) Ty
def Tz:J:= .D (.G [A 0 25 3,A 1 2 25]) (.aT)
def aop:J:= .D (.D (.G [b0 0 4 0]) (.block 0 (.loop acS))) Tz
def aoo:J:= .D (.G [fO 0 3]) aop
def aon:J:=
  .D (
  .G [
 fO 0 2]) aoo
def acR:cR:=⟨26,[.bq 2],aon⟩
theorem aEn:cO Z 56=some acR:=by kernel_rfl
def Ny:J:= .D (.block 1 (.D (.G [A 0 32 9,bV 1 33 (.wN 1 5 (I 7) (I 32)),aP 2 34 33,Bw 3 35 47 34 0 8,im 4 36 35]) (.a8 (I 36) (.D (.G [ca 0 8 false]) (.aT)) (.skip)))) (.G [A 0 30 9,dA 1 31 30,A 2 9 31])
def TA:J:= .D (.D (.G [A 0 28 9,tJ 1 29 28 5]) (.a8 (I 29) (.skip) (.bw 0))) Ny
def Ds:J:= .D (.G [ca 0 8 true]) (.aT)
def Nx:J:= .D (.D (.G [b0 0 9 1]) (.block 0 (.loop TA))) Ds
def Nw:J:= .D (.D (.G [A 0 10 0,A 1 11 1,gj 2 12 108 10 11,im 3 13 12,A 4 14 13,fX 5 15 14 2,fX 6 16 14 0,fX 7 17 14 0,fX 8 18 14 1,ef 9 19 14 false (.gL .add .ir (I 17) (I 18)),ef 10 20 14 false (.gl 47 [I 15,I 16,I 19]),jN 11 21 14 20,dx 12 22 14 21,A 13 23 22,ef 14 24 23 false (.wN 1 5 (I 7) (.const bd)),dZ 15 25 23 24,Jw 16 26 23 25,dx 17 27 23 26]) (.a8 (I 27) (.D (.G [ca 0 8 false]) (.aT)) (.skip))) Nx
def Nv:J:=
  .D (
  .G [
 ft 0 7 3,
 ca 1 8 false]) Nw
def IZ:cR:=⟨37,[.bq 8],Nv⟩
theorem aEo:cO Z 57=some IZ:=by kernel_rfl
def NA:J:= .D (.G [A 0 9 1,A 1 10 0,gj 2 11 109 9 10,A 3 12 11,jM 4 13 12 3 6,nr 5 14 12 53 13,dd 6 15 12 14,A 7 16 15,jM 9 18 16 3 6,⟨8,some 17,some (16,true),.gl 33 [.const (.int .i64 1)],[(I 6,I 6)]⟩,tK 10 19 16 110 17 18,ef 11 20 16 true (.oU .not (I 19)),dd 12 21 16 20,A 13 22 21,jM 14 23 22 3 7,nr 15 24 22 53 23,dd 16 25 22 24,A 17 8 25]) (.aT)
def Nz:J:=
  .D (
  .G [
 ft 0 6 2,
 ft 1 7 3,
 ca 2 8 false]) NA
def I0:cR:=⟨26,[.bq 8],Nz⟩
theorem aEp:cO Z 58=some I0:=by kernel_rfl
def NC:J:= .D (.block 1 (.D (.G [A 0 17 0,A 1 18 5,b9 2 19 1 17 18,aP 3 20 19,A 4 21 1,A 5 22 5,b9 6 23 1 21 22,aP 7 24 23,kJ 8 25 20 24]) (.a8 (I 25) (.D (.G [ca 0 4 false]) (.aT)) (.skip)))) (.G [A 0 15 5,dA 1 16 15,A 2 5 16])
def TF:J:= .D (.D (.G [A 0 11 5,A 1 12 0,bZ 2 13 12,dR 3 14 11 13]) (.a8 (I 14) (.skip) (.bw 0))) NC
def I4:J:= .D (.G [ca 0 4 true]) (.aT)
def acW:J:= .D (.D (.G [b0 0 5 0]) (.block 0 (.loop TF))) I4
def acV:J:= .D (.D (.G [A 0 6 0,bZ 1 7 6,A 2 8 1,bZ 3 9 8,kJ 4 10 7 9]) (.a8 (I 10) (.D (.G [ca 0 4 false]) (.aT)) (.skip))) acW
def acU:J:=
  .D (
  .G [
 ca 0 4 false]) acV
def TE:cR:=⟨26,[.bq 4],acU⟩
theorem aEt:cO Z 61=some TE:=by kernel_rfl
def Ji:J:= .D (.block 1 (.D (.G [A 0 65 3,aY 1 66 1 1,aP 2 67 66,A 3 68 9,b9 4 69 4 67 68,aY 5 70 0 69,aP 6 71 70,gj 7 72 113 65 71,A 8 64 72,dN 9 73 0 64,dN 10 74 1 64,A 11 3 73,A 12 8 74]) (.G [A 0 75 8,A 1 76 75,dk 2 77 76 1 1,dF 3 78 76 77,gT 4 79 76 9,wV 5 80 76 4 78 79,jM 6 81 76 4 80,nr 7 82 76 10 81,dd 8 83 76 82,A 9 8 83]))) (.G [A 0 62 9,dA 1 63 62,A 2 9 63])
def Ge:J:= .D (.D (.G [A 0 54 9,aY 1 55 1 1,aP 2 56 55,bZ 3 57 56,dR 4 58 54 57,A 5 59 58,gT 6 60 59 8,dd 7 61 59 60]) (.a8 (I 61) (.skip) (.bw 0))) Ji
def DC:J:= .D (.G [A 0 100 4,aY 1 101 0 11,aP 2 102 101,gj 3 103 113 100 102,A 4 99 103,dN 5 104 0 99,dN 6 105 1 99,A 7 4 104,A 8 8 105]) (.G [A 0 106 8,A 1 107 106,dk 2 108 107 1 11,dF 3 109 107 108,Gp 4 110 107 47 109 16,dd 5 111 107 110,A 6 112 111,dk 7 113 112 2 11,dF 8 114 112 113,Gp 9 115 112 47 114 64,dd 10 116 112 115,A 11 117 116,dk 12 118 117 3 11,dF 13 119 117 118,dk 14 120 117 1 1,dF 15 121 117 120,pf 16 122 117 121,vI 17 123 117 122,zG 18 124 117 47 119 123,dd 19 125 117 124,A 20 8 125])
def DB:J:= .D (.block 3 (.D (.G [aY 0 94 2 1,aP 1 95 94,A 2 96 10,b9 3 97 4 95 96,ct 4 98 4 97,bV 5 11 (.eC [.string ⟨#[]⟩,bd,bd,bd]),c9 6 4 11 98]) DC)) (.G [A 0 92 10,dA 1 93 92,A 2 10 93])
def Bt:J:= .D (.D (.G [A 0 84 10,aY 1 85 2 1,aP 2 86 85,bZ 3 87 86,dR 4 88 84 87,A 5 89 88,gT 6 90 89 8,dd 7 91 89 90]) (.a8 (I 91) (.skip) (.bw 2))) DB
def zB:J:= .D (.G [A 0 178 5,aY 1 179 0 14,aP 2 180 179,gj 3 181 113 178 180,A 4 177 181,dN 5 182 0 177,dN 6 183 1 177,A 7 5 182,A 8 8 183]) (.G [A 0 184 8,A 1 185 184,dk 2 186 185 1 14,dF 3 187 185 186,Gp 4 188 185 47 187 4,dd 5 189 185 188,A 6 190 189,dk 7 191 190 2 14,dF 8 192 190 191,gT 9 193 190 13,vI 10 194 190 193,zG 11 195 190 47 192 194,dd 12 196 190 195,A 13 197 196,dk 14 198 197 3 1,dF 15 199 197 198,dk 16 200 197 2 14,dF 17 201 197 200,wV 18 202 197 7 199 201,dk 19 203 197 1 202,dF 20 204 197 203,dk 21 205 197 1 14,dF 22 206 197 205,vI 23 207 197 206,Bx 24 208 197 204 207,dd 25 209 197 208,A 26 210 209,dk 27 211 210 3 14,dF 28 212 210 211,Gp 29 213 210 47 212 64,dd 30 214 210 213,A 31 215 214,dk 32 216 215 4 14,jM 33 217 215 3 216,nr 34 218 215 53 217,dd 35 219 215 218,A 36 8 219])
def zA:J:= .D (.block 5 (.D (.G [aY 0 172 3 1,aP 1 173 172,A 2 174 13,b9 3 175 7 173 174,ct 4 176 7 175,bV 5 14 (.eC [.string ⟨#[]⟩,bd,bd,bd,.bool false,aW,aW]),c9 6 7 14 176]) zB)) (.G [A 0 170 13,dA 1 171 170,A 2 13 171])
def yg:J:= .D (.D (.G [A 0 162 13,aY 1 163 3 1,aP 2 164 163,bZ 3 165 164,dR 4 166 162 165,A 5 167 166,gT 6 168 167 8,dd 7 169 167 168]) (.a8 (I 169) (.skip) (.bw 4))) zA
def Dw:J:= .D (.G [A 0 236 5,aY 1 237 0 16,aP 2 238 237,gj 3 239 113 236 238,A 4 235 239,dN 5 240 0 235,dN 6 241 1 235,A 7 5 240,A 8 8 241]) (.G [A 0 242 8,A 1 243 242,dk 2 244 243 1 16,dF 3 245 243 244,dk 4 246 243 2 1,dF 5 247 243 246,pf 6 248 243 247,vI 7 249 243 248,zG 8 250 243 47 245 249,dd 9 251 243 250,A 10 252 251,dk 11 253 252 2 16,dF 12 254 252 253,dk 13 255 252 3 1,dF 14 256 252 255,pf 15 257 252 256,vI 16 258 252 257,zG 17 259 252 47 254 258,dd 18 260 252 259,A 19 261 260,dk 20 262 261 3 1,dF 21 263 261 262,dk 22 264 261 2 16,dF 23 265 261 264,wV 24 266 261 7 263 265,dk 25 267 261 1 266,dF 26 268 261 267,wX 27 269 261 268 4,dd 28 270 261 269,A 29 8 270])
def Dv:J:= .D (.block 7 (.D (.G [aY 0 230 4 1,aP 1 231 230,A 2 232 15,b9 3 233 3 231 232,ct 4 234 3 233,bV 5 16 (.eC [.string ⟨#[]⟩,bd,bd]),c9 6 3 16 234]) Dw)) (.G [A 0 228 15,dA 1 229 228,A 2 15 229])
def Bu:J:= .D (.D (.G [A 0 220 15,aY 1 221 4 1,aP 2 222 221,bZ 3 223 222,dR 4 224 220 223,A 5 225 224,gT 6 226 225 8,dd 7 227 225 226]) (.a8 (I 227) (.skip) (.bw 6))) Dv
def NO:J:= .D (.block 13 (.G [A 0 347 8,A 1 348 347,dk 2 349 348 9 18,dF 3 350 348 349,gT 4 351 348 20,wV 5 352 348 1 350 351,dF 6 353 348 352,dk 7 354 348 9 18,dF 8 355 348 354,gT 9 356 348 19,wV 10 357 348 1 355 356,dF 11 358 348 357,ef 12 359 348 true (.gL .neq .ir (I 353) (I 358)),dd 13 360 348 359,A 14 8 360])) (.G [A 0 345 20,dA 1 346 345,A 2 20 346])
def Jj:J:= .D (.D (.G [A 0 342 20,A 1 343 19,dR 2 344 342 343]) (.a8 (I 344) (.skip) (.bw 12))) NO
def TV:J:= .D (.G [b0 0 20 0]) (.block 12 (.loop Jj))
def TU:J:= .D (.block 11 (.D (.G [aY 0 332 9 18,aP 1 333 332,A 2 334 19,b9 3 335 1 333 334,aP 4 336 335,aY 5 337 2 1,aP 6 338 337,bZ 7 339 338,mC 8 340 339 1,cF 9 341 47 [I 336,.const bd,I 340],A 10 8 341]) TV)) (.G [A 0 330 19,dA 1 331 330,A 2 19 331])
def Jk:J:= .D (.D (.G [A 0 322 19,aY 1 323 9 18,aP 2 324 323,bZ 3 325 324,dR 4 326 322 325,A 5 327 326,gT 6 328 327 8,dd 7 329 327 328]) (.a8 (I 329) (.skip) (.bw 10))) TU
def DA:J:= .D (.G [b0 0 19 0]) (.block 10 (.loop Jk))
def Dz:J:= .D (.G [A 0 293 8,A 1 294 293,dk 2 295 294 1 18,dF 3 296 294 295,dk 4 297 294 2 18,dF 5 298 294 297,dk 6 299 294 3 18,dF 7 300 294 299,dk 8 301 294 4 18,jM 9 302 294 5 301,ef 10 303 294 true (.gl 57 [I 296,I 298,I 300,I 302]),dd 11 304 294 303,A 12 305 304,dk 13 306 305 2 18,dF 14 307 305 306,dk 15 308 305 10 18,dF 16 309 305 308,dk 17 310 305 11 18,jM 18 311 305 3 310,dk 19 312 305 14 18,jM 20 313 305 3 312,ef 21 314 305 true (.gl 58 [I 307,I 309,I 311,I 313]),dd 22 315 305 314,A 23 316 315,dk 24 317 316 9 18,dF 25 318 316 317,pf 26 319 316 318,N4 27 320 316 319,dd 28 321 316 320,A 29 8 321]) DA
def Dy:J:= .D (.G [A 0 287 6,aY 1 288 0 18,aP 2 289 288,gj 3 290 113 287 289,A 4 286 290,dN 5 291 0 286,dN 6 292 1 286,A 7 6 291,A 8 8 292]) Dz
def Dx:J:= .D (.block 9 (.D (.G [aY 0 281 5 1,aP 1 282 281,A 2 283 17,b9 3 284 17 282 283,ct 4 285 17 284,bV 5 18 (.eC [.string ⟨#[]⟩,bd,bd,bd,bd,bd,bd,bd,bd,aW,aW,.bool false,aW,aW,.bool false,aW,aW]),c9 6 17 18 285]) Dy)) (.G [A 0 279 17,dA 1 280 279,A 2 17 280])
def Bv:J:= .D (.D (.G [A 0 271 17,aY 1 272 5 1,aP 2 273 272,bZ 3 274 273,dR 4 275 271 274,A 5 276 275,gT 6 277 276 8,dd 7 278 276 277]) (.a8 (I 278) (.skip) (.bw 8))) Dx
def Jh:J:= .D (.block 15 (.D (.G [A 0 372 7,aY 1 373 6 1,aP 2 374 373,A 3 375 21,b9 4 376 2 374 375,aY 5 377 0 376,aP 6 378 377,gj 7 379 113 372 378,A 8 371 379,dN 9 380 0 371,dN 10 381 1 371,A 11 7 380,A 12 8 381]) (.G [A 0 382 8,A 1 383 382,dk 2 384 383 6 1,dF 3 385 383 384,gT 4 386 383 21,wV 5 387 383 2 385 386,dk 6 388 383 1 387,dF 7 389 383 388,dk 8 390 383 5 1,dF 9 391 383 390,pf 10 392 383 391,vI 11 393 383 392,zG 12 394 383 47 389 393,dd 13 395 383 394,A 14 8 395]))) (.G [A 0 369 21,dA 1 370 369,A 2 21 370])
def Gf:J:= .D (.D (.G [A 0 361 21,aY 1 362 6 1,aP 2 363 362,bZ 3 364 363,dR 4 365 361 364,A 5 366 365,gT 6 367 366 8,dd 7 368 366 367]) (.a8 (I 368) (.skip) (.bw 14))) Jh
def TX:J:= .D (.G [A 0 396 8,A 1 2 396]) (.aT)
def TW:J:= .D (.D (.G [b0 0 21 0]) (.block 14 (.loop Gf))) TX
def TS:J:= .D (.D (.G [b0 0 17 0]) (.block 8 (.loop Bv))) TW
def TR:J:= .D (.D (.G [b0 0 15 0]) (.block 6 (.loop Bu))) TS
def Jg:J:= .D (.D (.G [b0 0 13 1]) (.block 4 (.loop yg))) TR
def qt:J:= .D (.G [A 0 130 8,A 1 131 130,dk 2 132 131 0 12,dF 3 133 131 132,ef 4 134 131 true (.gL .eql .ir (I 133) (.const (.string ⟨#[]⟩))),dd 5 135 131 134,A 6 136 135,dk 7 137 136 1 12,dF 8 138 136 137,wX 9 139 136 138 0,dd 10 140 136 139,A 11 141 140,dk 12 142 141 2 12,dF 13 143 141 142,ef 14 144 141 true (.gL .eql .ir (I 143) (.const (.int .i64 (-1)))),dd 15 145 141 144,A 16 146 145,dk 17 147 146 3 12,dF 18 148 146 147,wX 19 149 146 148 0,dd 20 150 146 149,A 21 151 150,dk 22 152 151 4 12,jM 23 153 151 3 152,nr 24 154 151 54 153,dd 25 155 151 154,A 26 156 155,dk 27 157 156 4 12,jM 28 158 156 3 157,nr 29 159 156 30 158,wX 30 160 156 159 0,dd 31 161 156 160,A 32 8 161]) Jg
def pU:J:= .D (.G [aY 0 126 3 1,aP 1 127 126,By 2 128 7 127 0,ct 3 129 7 128,bV 4 12 (.eC [.string ⟨#[]⟩,bd,bd,bd,.bool false,aW,aW]),c9 5 7 12 129]) qt
def T0:J:= .D (.D (.G [b0 0 10 0]) (.block 2 (.loop Bt))) pU
def TZ:J:= .D (.D (.G [b0 0 9 0]) (.block 0 (.loop Ge))) T0
def TY:J:= .D (.G [ca 0 8 true]) TZ
def TT:J:= .D (.G [fO 0 3,fO 1 4,fO 2 5,fO 3 6,fO 4 7]) TY
def NN:J:= .D (.D (.G [aY 0 22 0 1,aP 1 23 22,Bw 2 24 47 23 1 4,im 3 25 24,A 4 26 25,dr 5 27 26 1 1,dZ 6 28 26 27,iq 7 29 26 28,dr 8 30 26 2 1,dZ 9 31 26 30,iq 10 32 26 31,dr 11 33 26 3 1,dZ 12 34 26 33,iq 13 35 26 34,dr 14 36 26 4 1,dZ 15 37 26 36,iq 16 38 26 37,dr 17 39 26 5 1,dZ 18 40 26 39,iq 19 41 26 40,dr 20 42 26 6 1,dZ 21 43 26 42,iq 22 44 26 43,ef 23 45 26 false (.gl 48 [I 29,I 32,I 35,I 38,I 41,I 44]),jN 24 46 26 45,dx 25 47 26 46,A 26 48 47,dr 27 49 48 3 1,dZ 28 50 48 49,iq 29 51 48 50,ef 30 52 48 false (.gL .eql .ir (I 51) (.const bd)),dx 31 53 48 52]) (.a8 (I 53) (.D (.G [ca 0 2 false]) (.aT)) (.skip))) TT
def NM:J:=
  .D (
  .G [
 ft 0 1 0,
 ca 1 2 false]) NN
def Jf:cR:=⟨397,[.bq 2],NM⟩
theorem aEB:cO Z 69=some Jf:=by kernel_rfl
def T3:J:= .D (.block 1 (.D (.G [aY 0 44 3 2,aP 1 45 44,A 2 46 9,b9 3 47 7 45 46,aY 4 48 2 47,aP 5 49 48,A 6 50 1,eJ 7 51 .eql (I 49) (I 50)]) (.a8 (I 51) (.G [A 0 52 6,ct 1 53 7 2,A 2 54 9,gj 3 55 70 53 54,k3 4 56 9 120 52 55,A 5 6 56]) (.skip)))) (.G [A 0 42 9,dA 1 43 42,A 2 9 43])
def NQ:J:= .D (.D (.G [A 0 37 9,aY 1 38 3 2,aP 2 39 38,bZ 3 40 39,dR 4 41 37 40]) (.a8 (I 41) (.skip) (.bw 0))) T3
def T4:J:= .D (.block 3 (.D (.G [aY 0 64 4 2,aP 1 65 64,A 2 66 10,b9 3 67 3 65 66,aY 4 68 2 67,aP 5 69 68,A 6 70 1,eJ 7 71 .eql (I 69) (I 70)]) (.a8 (I 71) (.G [A 0 72 6,aY 1 73 4 2,aP 2 74 73,A 3 75 10,b9 4 76 3 74 75,aY 5 77 0 76,aP 6 78 77,aY 8 80 2 2,aP 9 81 80,aY 10 82 4 2,aP 11 83 82,A 12 84 10,b9 13 85 3 83 84,aY 14 86 1 85,aP 15 87 86,b9 16 88 4 81 87,aY 17 89 0 88,aP 18 90 89,pc 7 79 (.gl 33 [.const bd]) [(I 89,I 89),(I 86,I 86),(I 82,I 82),(I 80,I 80),(I 77,I 77),(I 73,I 73)],adT 19 91 78 79 90,N6 20 92 91,k3 21 93 9 120 72 92,A 22 6 93]) (.skip)))) (.G [A 0 62 10,dA 1 63 62,A 2 10 63])
def NR:J:= .D (.D (.G [A 0 57 10,aY 1 58 4 2,aP 2 59 58,bZ 3 60 59,dR 4 61 57 60]) (.a8 (I 61) (.skip) (.bw 2))) T4
def adn:J:= .D (.G [A 0 94 6,A 1 4 94]) (.aT)
def adm:J:= .D (.D (.G [b0 0 10 0]) (.block 2 (.loop NR))) adn
def adl:J:= .D (.D (.G [A 0 35 1,dA 1 36 35,A 2 9 36]) (.block 0 (.loop NQ))) adm
def adk:J:= .D (.D (.G [A 0 16 1,pV 1 17 16 0]) (.a8 (I 17) (.D (.G [aY 0 19 4 5,ct 1 20 3 19,cF 2 21 55 [I 20],A 3 18 21,dN 4 22 0 18,dN 5 23 1 18,bV 6 7 (.eC [.bool false,aW,aW]),c9 7 3 7 22,A 8 8 23]) (.G [A 0 24 6,aY 1 25 1 5,aP 2 26 25,aY 3 27 0 5,aP 4 28 27,aY 5 29 3 5,aP 6 30 29,ct 7 31 3 7,adU 8 32 26 28 30 31,N6 9 33 32,k3 10 34 9 120 24 33,A 11 6 34])) (.skip))) adl
def adj:J:= .D (.G [fO 0 6]) adk
def adi:J:= .D (.G [aY 0 11 3 2,aP 1 12 11,A 2 13 1,b9 3 14 7 12 13,ct 4 15 7 14,bV 5 5 (.eC [.string ⟨#[]⟩,bd,bd,bd,.bool false,aW,aW]),c9 6 7 5 15]) adj
def adh:J:=
  .D (
  .G [
 ft 0 2 0,
 fO 1 4]) adi
def T2:cR:=⟨95,[.bq 4],adh⟩
theorem aED:cO Z 70=some T2:=by kernel_rfl
def IB:J:= .D (.G [A 0 5 0,zE 1 6 5 1,A 2 7 6,gT 3 8 7 0,oh 4 9 7 8 6,dd 5 10 7 9,A 6 11 10,gT 7 12 11 1,ef 8 13 11 true (.gL .geq .ir (I 12) (.const bd)),dd 9 14 11 13,A 10 15 14,gT 11 16 15 1,oh 12 17 15 16 4,dd 13 18 15 17,A 14 19 18,gT 15 20 19 0,gT 16 21 19 1,ef 17 22 19 true (.gL .add .ir (I 20) (I 21)),oh 18 23 19 22 8,dd 19 24 19 23,A 20 4 24]) (.aT)
def IA:J:=
  .D (
  .G [
 ca 0 4 false]) IB
def FR:cR:=⟨25,[.bq 4],IA⟩
theorem aAI:cO Z 108=some FR:=by kernel_rfl
def ME:J:= .D (.block 1 (.D (.G [A 0 17 0,A 1 18 5,b9 2 19 3 17 18,ct 3 20 3 19,cF 4 21 30 [I 20],lY 5 22 21 0]) (.a8 (I 22) (.D (.G [ca 0 4 false]) (.aT)) (.skip)))) (.G [A 0 15 5,dA 1 16 15,A 2 5 16])
def Rx:J:= .D (.D (.G [A 0 11 5,A 1 12 0,bZ 2 13 12,dR 3 14 11 13]) (.a8 (I 14) (.skip) (.bw 0))) ME
def IC:J:= .D (.G [ca 0 4 true]) (.aT)
def Zx:J:= .D (.D (.G [b0 0 5 0]) (.block 0 (.loop Rx))) IC
def Zw:J:= .D (.D (.G [A 0 6 0,A 1 7 1,bV 2 8 (.yo true (I 7) [.const (.int .i64 1)]),gj 3 9 29 6 8,im 4 10 9]) (.a8 (I 10) (.D (.G [ca 0 4 false]) (.aT)) (.skip))) Zx
def Zv:J:=
  .D (
  .G [
 ca 0 4 false]) Zw
def Rw:cR:=⟨23,[.bq 4],Zv⟩
theorem aAJ:cO Z 109=some Rw:=by kernel_rfl
def ZE:J:= .D (.w1 [A 0 6 0,A 1 7 1,zF 2 8 7] (bV 3 9 (.app 1 16 (I 6) (I 8))) [A 4 10 1,cF 5 11 49 [I 10],A 6 12 11,gT 7 13 12 0,gT 8 14 12 1,tK 9 15 12 50 13 14,ef 10 16 12 true (.gL .lss .ir (I 15) (.const bd)),dd 11 17 12 16,A 12 4 9,A 13 5 17]) (.aT)
def RO:J:=
  .D (
  .G [
 fO 0 4,
 ca 1 5 false]) ZE
def aAQ:cR:=⟨18,[.bq 4,.bq 5],RO⟩
theorem aAR:cO Z 113=some aAQ:=by kernel_rfl
theorem au0{args:List Value}{m:E}{aI:Value->E->Prop}(h:args.length<=18):bU Z 113 args m aI=cH Z RO (eX args) m (eU [.bq 4,.bq 5] aI):=fK aAR h
end Go.Proofs.YtkpifdkccdndcaaGreat
namespace Go.Big
def hu(l:List Bool)(i:Nat):Bool:=l.getD i false
theorem ai1{l:List Bool}{i:Nat}{b:Bool}(h:l[i]?=some b):hu l i=b:=by unfold hu;rw[mr,h];rfl
theorem HP{l:List Bool}{i:Nat}(h:i<l.length):l[i]?=some (hu l i):=by rw[ai1 (c0 h),c0 h]
theorem axO{l:List Bool}{i j:Nat}{b:Bool}(h:i<l.length):hu (l.set i b) j=if j=i then b else hu l j:=by
  unfold hu;simp only[mr,EA];by_cases c6:i=j
  · subst c6;simp[h]
  · rw[if_neg c6,if_neg (λe=>c6 e.symm)]
def oP(cS:List Bool)(i:Nat):List Nat->List Bool->List Bool
  |[],R=>R
  |k::gQ,R=>oP cS i gQ (R.set i (hu R i||(hu cS k&&hu R k)))
def sU(W:List Bool)(j1:List (List Bool))(n:Nat):List Nat->List Bool->List Bool
  |[],R=>R
  |i::q3,R=>sU W j1 n q3 (oP (j1.getD i []) i (List.range n) (R.set i (hu R i||hu W i)))
def lX(W:List Bool)(j1:List (List Bool))(n:Nat):Nat->List Bool
  |0=>List.replicate n false
  |k+1=>sU W j1 n (List.range n) (lX W j1 n k)
def vN(R ax:List Bool):Prop:=R.length=ax.length/\ ∀i,hu R i=true->hu ax i=true
theorem vN.refl(R:List Bool):vN R R:=⟨rfl,λ_ h=>h⟩
theorem vN.trans{R ax T:List Bool}(h:vN R ax)(b6:vN ax T):vN R T:=⟨h.1.trans b6.1,λi ag=>b6.2 i (h.2 i ag)⟩
theorem apN{R:List Bool}{i:Nat}{b:Bool}(h:hu R i=true->b=true):vN R (R.set i b):=by
  refine⟨by simp,λj c6=> ?_⟩;by_cases ag:i<R.length
  · rw[axO ag];split
    · rename_i e;subst e;exact h c6
    · exact c6
  · rw[List.set_eq_of_length_le (by omega)];exact c6
theorem Zm{cS:List Bool}{i:Nat}: ∀(gQ:List Nat) (R:List Bool),vN R (oP cS i gQ R)
  |[],R=>vN.refl R
  |k::gQ,R=>(apN (λh=>by rw[h];rfl)).trans (Zm gQ _)
theorem Vr{W:List Bool}{j1:List (List Bool)}{n:Nat}: ∀(q3:List Nat) (R:List Bool),vN R (sU W j1 n q3 R)
  |[],R=>vN.refl R
  |i::q3,R=>((apN (λh=>by rw[h];rfl)).trans (Zm _ _)).trans (Vr q3 _)
theorem akC{cS:List Bool}{i:Nat}(gQ:List Nat)(R:List Bool):(oP cS i gQ R).length=R.length:=(Zm gQ R).1.symm
theorem aJZ{W:List Bool}{j1:List (List Bool)}{n:Nat}(q3:List Nat)(R:List Bool):(sU W j1 n q3 R).length=R.length:=(Vr q3 R).1.symm
theorem Gl{W:List Bool}{j1:List (List Bool)}{n:Nat}: ∀k,(lX W j1 n k).length=n
  |0=>by simp[lX]
  |k+1=>by rw[lX,aJZ,Gl k]
def sm(R:List Bool):Nat:=R.countP (λb=>b)
theorem awk{R:List Bool}:sm R<=R.length:=List.countP_le_length
theorem ad4: ∀{R ax:List Bool},vN R ax->sm R<=sm ax/\(sm R=sm ax->R=ax)
  | [],ax,h=>by have:ax=[]:=pz.1 h.1.symm;subst this;exact⟨eB _,λ_=>rfl⟩
  |r::R,[],h=>absurd h.1 (by simp)
  | r::R,s::ax,h=>by
    have bH:r=true->s=true:=h.2 0;have B:vN R ax:=⟨by have:=h.1;simpa using this,λi ag=>h.2 (i+1) ag⟩;obtain⟨a,b⟩:=ad4 B;cases r with
    | false=>
      cases s with
      |false=>exact⟨by simpa[sm]using a,λe=>by rw[b (by simpa[sm]using e)]⟩
      |true=>exact⟨by simp[sm]at a⊢;omega,λe=>by simp[sm]at a e;omega⟩
    | true=>rw[bH rfl];exact⟨by simp[sm]at a⊢;omega,λe=>by rw[b (by simp[sm]at e⊢;omega)]⟩
theorem apm{W:List Bool}{j1:List (List Bool)}{n:Nat}: ∀k,lX W j1 n (k+1)=lX W j1 n k\/k+1<=sm (lX W j1 n (k+1))
  | 0=>by
    have h:=ad4 (Vr (W:=W) (j1:=j1) (n:=n) (List.range n) (lX W j1 n 0));by_cases e:sm (lX W j1 n 0)=sm (lX W j1 n 1)
    · exact .inl (h.2 e).symm
    · exact .inr (by have:=h.1;simp only[lX]at e this⊢;omega)
  | k+1=>by
    have h:=ad4 (Vr (W:=W) (j1:=j1) (n:=n) (List.range n) (lX W j1 n (k+1)));rcases apm (W:=W) (j1:=j1) (n:=n) k with B|B
    · left;show sU W j1 n (List.range n) (lX W j1 n (k+1))=sU W j1 n (List.range n) (lX W j1 n k);rw[B]
    · by_cases e:sm (lX W j1 n (k+1))=sm (lX W j1 n (k+2))
      · exact .inl (h.2 e).symm
      · exact .inr (by have:=h.1;simp only[lX]at e this B⊢;omega)
theorem aGl{W:List Bool}{j1:List (List Bool)}{n:Nat}:lX W j1 n (n+1)=lX W j1 n n:=by
  rcases apm (W:=W) (j1:=j1) (n:=n) n with h|h
  · exact h
  · have:=awk (R:=lX W j1 n (n+1));rw[Gl]at this;omega
def La(W:List Bool)(j1:List (List Bool))(n:Nat):Bool:=(lX W j1 n n).all λb=>b
def ik(l:List bp):List Bool:=l.map λx=>decide (0<x.n)
def bp.small(x:bp):Bool:=x.ok&&(!(g4 x).bQ&&(decide ((g4 x).n<4294967296)&&decide ((g4 x).d<4294967296)))
theorem J3{x:bp}(h:x.small=true):x.ok=true:=by simp[bp.small]at h;exact h.1
def tV(n i:Nat)(cS:List bp):Bool:=decide (cS.length=n)&&(cS.all bp.small&& !hu (ik cS) i)
def sV(n:Nat):Nat->List (List bp)->Bool
  |_,[]=>true
  |i,cS::l=>tV n i cS&&sV n (i+1) l
theorem Vs{n:Nat}: ∀{l:List (List bp)} {i j:Nat} {cS:List bp},sV n i l=true->l[j]?=some cS->tV n (i+j) cS=true
  |[],_,_,_,_,h=>by simp at h
  | r::l,i,0,cS,h,b6=>by simp at b6;subst b6;simp only[sV,bK]at h;exact h.1
  | r::l,i,j+1,cS,h,b6=>by simp only[sV,bK]at h;have:=Vs (j:=j) h.2 (by simpa using b6);rw[show i+(j+1)=i+1+j by omega];exact this
def nR(s:List bp)(bf:List (List bp))(e:List bp):Bool:=
  decide (1<=s.length)&&decide (s.length<=4)&&decide (e.length=s.length)&&decide (bf.length=s.length)&&s.all bp.small&&e.all bp.small&&
  sV s.length 0 bf&&
  decide ((k7 .nil s).1=0)&&decide (iI (k7 .nil s).2 .hS=0)&&La (ik e) (bf.map ik) s.length
end Go.Big
namespace Go.Proofs.YtkpifdkccdndcaaGreat
open Go Go.DI Go.Big
theorem Ms{m:E}{a b c:Int}(aI:Value->E->Prop):bU Z 21 [X a,X b,X c] m aI=aI (.bool (decide (b<=a)&&decide (a<=c))) m:=by refine(oB.r5 ?_).wp;rw[avA (by simp)];by_cases k:b<=a<;>simp[S7,ab8,k]
theorem LD{bk:E}(k j:Nat):(bk.bx k).U (bk.next+j)=none:=by rw[E.gm,n6 (by omega)]
section
variable {m:E} {l:List Nat} {v w:Value} {a b:Int} {x y:bp}
theorem PO(h:iL m v x):bU Z 24 [v] m λr N=>a7 m N/\r= .bool (decide (0<x.n)):=by
  rw[avD (by simp)];obtain⟨p,n,c,fb,cz,eH,rfl,aC,K⟩:=h.gz;have LR:= λk x=>Ct (aC.aD (((a7.refl m).bx k).an (i:=m.next) (x:=x) (by omega)));have e:decide (0<jn x.n)=decide (0<x.n):=by rw[decide_eq_decide];have:=Oq (n:=x.n);omega
  simp(disch:=first|omega|simp only[b3];omega) [acd,anp,LR];refine⟨((a7.refl m).bx _).an (by omega),?_⟩;simpa using e
theorem Zl(h:iL m v x):bU Z 23 [v] m λr N=>a7 m N/\r= .bool x.small:=by
  rw[avC (by simp)];have bH:=h.dm;obtain⟨p,n,c,fb,cz,eH,rfl,aC,K⟩:=h.gz;simp(disch:=first|omega|simp only[b3];omega) [acb,ano];obtain⟨bk,ey⟩: ∃bk,bk=((m.bx 2).an m.next (some ⟨[.bool x.bQ,.slice p n c,.slice fb cz eH],true⟩)).bx 8:=⟨_,rfl⟩;rw[<-ey];have fD:a7 m bk:=by rw[ey];exact(((a7.refl m).bx 2).an (by omega)).bx 8
  have av:bk.next=m.next+10:=by rw[ey];simp
  refine(arb (h.aD fD)).aD λr bo Y=> ?_;obtain⟨cA,q,rfl,bz⟩:=Y;have A4:=cA.next
  have cg:m.next+2+5<bo.next:=by omega
  obtain⟨ez,du,bY,fj,dV,cN,rfl⟩:=bz.gz;have jo:=fD.trans cA;have e2:bo.U (m.next+2+5)=none:=cA.none (by omega) (by rw[ey,E.gm,n6 (by simp)]);by_cases k:x.ok=true
  · rw[JS k bH]at bz⊢;obtain⟨hN,j5,lC⟩:=CJ k;have cM:=JB bH hN;have dq:=Gx (x:=x) hN;have S:=bz.Pn cM.1 (show(g4 x).n<a3 512 by omega) (Int.le_of_lt dq.1) (show(g4 x).d<a3 512 by omega);obtain⟨cI,b7,a2,lF,dt⟩:=S;simp only[Value.agg.injEq,Hi,ox,and_true,true_and]at a2;obtain⟨rfl,rfl⟩:=a2;have ahO:= λy aI=>Ct (lF.sub (cU.an (x:=y) e2)) aI;have auQ:= λy aI=>Ct (dt.sub (cU.an (x:=y) e2)) aI;have aX:=aeq (n:=(g4 x).n);have bg:=aeq (n:=(g4 x).d);have ah:= λy=>jo.an (i:=m.next+2+5) (x:=y) (by omega);cases x1:(g4 x).bQ with
    | true=>simp(disch:=first|omega|simp only[b3];omega) [Ni];exact⟨ah _,by simp[bp.small,k,x1]⟩
    | false=>
      by_cases bM:jn (g4 x).n<=32
      · simp(disch:=first|omega|simp only[b3];omega) [Ni,ahO,auQ,bM];refine⟨ah _,?_⟩;have bC:decide ((g4 x).n<4294967296)=true:=(by simp;omega);have cq:decide (jn (g4 x).d<=32)=decide ((g4 x).d<4294967296):=decide_eq_decide.2 bg;simp only[bp.small,k,x1,bC,cq,Bool.not_false,oY]
      · simp(disch:=first|omega|simp only[b3];omega) [Ni,ahO,bM];refine⟨ah _,?_⟩;have bC:decide ((g4 x).n<4294967296)=false:=(by simp;omega);simp only[bp.small,k,x1,bC,Bool.not_false,oY,Ao]
  · rw[Vn k]at bz⊢;simp(disch:=first|omega|simp only[b3];omega) [Ni];refine⟨jo.an (by omega),?_⟩;simp[bp.small,k]
theorem auk{z:Nat}{p:bp->Bool}{bN:List bp}(S:iG.ax m v bN)(fN:bN.length<1000000)(dD: ∀N e x,x∈bN->iL N e x->bU Z z [e] N λr GA=>a7 N GA/\r= .bool (p x)): ∀(dX:List bp) (i:Nat) (bk:E) (u:aM),bN.drop i=dX->i+dX.length=bN.length->a7 m bk->
    u 1= .func (.func z) #[] #[]->u 7=v->u 8=X bN.length->u 9=X i->
    cH Z (.loop Dq) u bk (tj 0 (tY Z Bi (eU [.bq 4] λr N=>a7 m N/\r= .bool (dX.all p)))):=by
  intro dX;induction dX with
  | nil=>intro i bk u ay ag ah aw c7 ch e4;refine fc λcp aZ=> ?_;have e:i=bN.length:=(by simpa using ag);subst e;simp[Dq,Dm,Dn,Dp,Bi,ch,e4];exact ah
  | cons x dX cB=>
    intro i bk u ay ag ah aw c7 ch e4;refine fc λcp aZ=> ?_;have F:bN[i]?=some x:=(by rw[<-xu,ay];rfl);have nm:bN.drop (i+1)=dX:=(by rw[<-yK,ay];rfl);simp only[nB]at ag;obtain⟨B,H,af,aL⟩:=S.len
    replace af:kr 3 v=true:=af
    have bn:(i:Int)<bN.length:=(by omega);have K:= λk=>S.aD ((cU.l1 ah).trans (cU.bx bk k));obtain⟨q,n,c,lK,cz,eH,bh,bt,k1⟩:=iG.fu (K 4) (cU.refl _) F;have bc:=e7 (n:=i) (by omega);have dG:a7 m ((bk.bx 4).an (bk.next+2) (some ⟨[.bool x.bQ,.slice q n c,.slice lK cz eH],true⟩)):=(ah.bx 4).an (by have:=ah.next;omega);have A1:=dD ((bk.bx 4).an (bk.next+2) (some ⟨[.bool x.bQ,.slice q n c,.slice lK cz eH],true⟩)) _ x (fT F) ((k1.sub (cU.an (LD 4 2))));cases k:p x with
    | true=>have b8:(x::dX).all p=dX.all p:=(by simp[k]);rw[b8]at aZ⊢;simp(disch:=first|omega|simp only[b3];omega) [Dq,Dm,Dn,Dp,Bi,aw,c7,ch,e4,bn,B,af,bh,bt];refine A1.aD λr bo Y=> ?_;obtain⟨cA,rfl⟩:=Y;simp[k,e4,bc];exact aZ _ _ (cB (i+1) _ _ nm (by omega) (dG.trans cA) (by simp[aw]) (by simp[c7]) (by simp[ch]) (by simp))
    | false=>have b8:(x::dX).all p=false:=(by simp[k]);rw[b8];simp(disch:=first|omega|simp only[b3];omega) [Dq,Dm,Dn,Dp,Bi,aw,c7,ch,e4,bn,B,af,bh,bt];refine A1.aD λr bo Y=> ?_;obtain⟨cA,rfl⟩:=Y;simp[k];exact dG.trans cA
theorem WK{z:Nat}{p:bp->Bool}{bN:List bp}(S:iG.ax m v bN)(fN:bN.length<1000000)(dD: ∀N e x,x∈bN->iL N e x->bU Z z [e] N λr GA=>a7 N GA/\r= .bool (p x)):
    bU Z 22 [v,.func (.func z) #[] #[]] m λr N=>a7 m N/\r= .bool (bN.all p):=by
  rw[avB (by simp)];obtain⟨B,H,af,aL⟩:=S.len;simp[S8,aca,B,H];exact auk S fN dD bN 0 m _ rfl (by simp) (a7.refl m) (by simp) (by simp) (by simp[]) (by simp)
theorem afl(h:iL m v x):bU Z 53 [v] m λr N=>a7 m N/\r= .bool x.small:=by
  rw[avP (by simp)];have bH:=h.dm;obtain⟨p,n,c,fb,cz,eH,rfl,aC,K⟩:=h.gz;simp(disch:=first|omega|simp only[b3];omega) [acO,aoj];obtain⟨bk,ey⟩: ∃bk,bk=((m.bx 2).an m.next (some ⟨[.bool x.bQ,.slice p n c,.slice fb cz eH],true⟩)).bx 8:=⟨_,rfl⟩;rw[<-ey];have fD:a7 m bk:=by rw[ey];exact(((a7.refl m).bx 2).an (by omega)).bx 8
  have av:bk.next=m.next+10:=by rw[ey];simp
  refine(art (h.aD fD)).aD λr bo Y=> ?_;obtain⟨cA,q,rfl,bz⟩:=Y;have A4:=cA.next
  have cg:m.next+2+5<bo.next:=by omega
  obtain⟨ez,du,bY,fj,dV,cN,rfl⟩:=bz.gz;have jo:=fD.trans cA;have e2:bo.U (m.next+2+5)=none:=cA.none (by omega) (by rw[ey,E.gm,n6 (by simp)]);by_cases k:x.ok=true
  · rw[JS k bH]at bz⊢;obtain⟨hN,j5,lC⟩:=CJ k;have cM:=JB bH hN;have dq:=Gx (x:=x) hN;obtain⟨cI,b7,a2,lF,dt⟩:=bz;simp only[Value.agg.injEq,Hi,ox,and_true,true_and]at a2;obtain⟨rfl,rfl⟩:=a2;have aX:=wu (n:=(g4 x).n) (k:=1) cM.1;have bg:=wu (n:=(g4 x).d) (k:=1) (Int.le_of_lt dq.1);have ez:a3 1=4294967296:=(by simp[a3]);rw[ez]at aX bg;obtain⟨ck,_⟩:=lF.len;obtain⟨cE,_⟩:=dt.len;simp only[ib]at ck cE;have ah:= λy=>jo.an (i:=m.next+2+5) (x:=y) (by omega);cases x1:(g4 x).bQ with
    | true=>simp(disch:=first|omega|simp only[b3];omega) [Nu];exact⟨ah _,by simp[bp.small,k,x1]⟩
    | false=>
      by_cases bM:(du:Int)<=1
      · simp(disch:=first|omega|simp only[b3];omega) [Nu,bM];refine⟨ah _,?_⟩;have bC:decide ((g4 x).n<4294967296)=true:=(by simp;omega);have cq:decide ((g4 x).d<4294967296)=decide ((dV:Int)<=1):=decide_eq_decide.2 (by rw[<-bg];show(bL (g4 x).d).length<=1↔(dV:Int)<=1;rw[cE];omega);simp only[bp.small,k,x1,bC,cq,Bool.not_false,oY]
      · simp(disch:=first|omega|simp only[b3];omega) [Nu,bM];refine⟨ah _,?_⟩;have bC:decide ((g4 x).n<4294967296)=false:=by
          simp only[Ew];rw[<-aX];intro mf;have iV:(du:Int)=(bL (g4 x).n).length:=ck;omega
        simp only[bp.small,k,x1,bC,Bool.not_false,oY,Ao]
  · rw[Vn k]at bz⊢;simp(disch:=first|omega|simp only[b3];omega) [Nu];refine⟨jo.an (by omega),?_⟩;simp[bp.small,k]
end
open Go Go.DI
def Tu:J:= .D (.block 1 (.D (.G [A 0 24 0,A 1 25 3,bV 2 26 (.x5 (I 24) (I 25)),cF 3 27 105 [I 26],im 4 28 27]) (.a8 (I 28) (.D (.G [ca 0 2 false]) (.aT)) (.skip)))) (.G [A 0 22 3,dA 1 23 22,A 2 3 23])
def Nq:J:= .D (.D (.G [A 0 18 3,A 1 19 0,bV 2 20 (.w3 (I 19)),dR 3 21 18 20]) (.a8 (I 21) (.skip) (.bw 0))) Tu
def Np:J:= .D (.G [ca 0 2 true]) (.aT)
def No:J:= .D (.D (.G [b0 0 3 0]) (.block 0 (.loop Nq))) Np
def Nn:J:= .D (.D (.G [A 0 4 0,bV 1 5 (.w3 (I 4)),tJ 2 6 5 1,A 3 7 6,fX 4 8 7 0,ef 5 9 7 false (.w3 (I 8)),pW 6 10 7 9 16,dx 7 11 7 10,A 8 12 11,fX 9 13 12 0,ef 10 14 12 false (.x5 (I 13) (.const bd)),kI 11 15 12 104 14,jN 12 16 12 15,dx 13 17 12 16]) (.a8 (I 17) (.D (.G [ca 0 2 false]) (.aT)) (.skip))) No
def IY:J:=
  .D (
  .G [
 ca 0 2 false]) Nn
def aEd:cR:=⟨29,[.bq 2],IY⟩
theorem aEe:cO Z 49=some aEd:=by kernel_rfl
theorem avO{args:List Value}{m:E}{aI:Value->E->Prop}(h:args.length<=29):bU Z 49 args m aI=cH Z IY (eX args) m (eU [.bq 2] aI):=fK aEe h
def akL:J:= .D (.G [A 0 3 0,eJ 1 4 .geq (I 3) (.const (.int .u8 97)),A 2 5 4,gT 3 6 5 0,Gr 4 7 5 6 122,dd 5 8 5 7,A 6 9 8,fX 7 10 9 0,ef 8 11 9 false (.gL .geq .ir (I 10) (.const (.int .u8 65))),fX 9 12 9 11,gT 10 13 12 0,Gr 11 14 12 13 90,ef 12 15 9 false (.tR (I 12) (I 14) (.const (.bool false))),dx 13 16 9 15,A 14 2 16]) (.aT)
def Zo:J:=
  .D (
  .G [
 ca 0 2 false]) akL
def aAA:cR:=⟨17,[.bq 2],Zo⟩
theorem aAB:cO Z 104=some aAA:=by kernel_rfl
theorem auV{args:List Value}{m:E}{aI:Value->E->Prop}(h:args.length<=17):bU Z 104 args m aI=cH Z Zo (eX args) m (eU [.bq 2] aI):=fK aAB h
def Iy:J:= .D (.G [A 0 3 0,cF 1 4 104 [I 3],A 2 5 4,fX 3 6 5 0,kI 4 7 5 144 6,dx 5 8 5 7,A 6 9 8,fX 7 10 9 0,ef 8 11 9 false (.gL .eql .ir (I 10) (.const (.int .u8 45))),dx 9 12 9 11,A 10 13 12,fX 11 14 13 0,ef 12 15 13 false (.gL .eql .ir (I 14) (.const (.int .u8 46))),dx 13 16 13 15,A 14 2 16]) (.aT)
def FQ:J:=
  .D (
  .G [
 ca 0 2 false]) Iy
def aAC:cR:=⟨17,[.bq 2],FQ⟩
theorem aAD:cO Z 105=some aAC:=by kernel_rfl
theorem auW{args:List Value}{m:E}{aI:Value->E->Prop}(h:args.length<=17):bU Z 105 args m aI=cH Z FQ (eX args) m (eU [.bq 2] aI):=fK aAD h
def RN:J:= .D (.block 1 (.D (.G [A 0 23 0,A 1 24 3,bV 2 25 (.x5 (I 23) (I 24)),cF 3 26 148 [I 25],im 4 27 26]) (.a8 (I 27) (.D (.G [ca 0 2 false]) (.aT)) (.skip)))) (.G [A 0 21 3,dA 1 22 21,A 2 3 22])
def MP:J:= .D (.D (.G [A 0 17 3,A 1 18 0,bV 2 19 (.w3 (I 18)),dR 3 20 17 19]) (.a8 (I 20) (.skip) (.bw 0))) RN
def MO:J:= .D (.G [ca 0 2 true]) (.aT)
def MN:J:= .D (.D (.G [b0 0 3 0]) (.block 0 (.loop MP))) MO
def MM:J:= .D (.D (.G [A 0 4 0,eJ 1 5 .eql (I 4) (.const (.string ⟨#[]⟩)),A 2 6 5,fX 3 7 6 0,ef 4 8 6 false (.w3 (I 7)),pW 5 9 6 8 16,dx 6 10 6 9,A 7 11 10,fX 8 12 11 0,ef 9 13 11 false (.x5 (I 12) (.const bd)),kI 10 14 11 147 13,jN 11 15 11 14,dx 12 16 11 15]) (.a8 (I 16) (.D (.G [ca 0 2 false]) (.aT)) (.skip))) MN
def IE:J:=
  .D (
  .G [
 ca 0 2 false]) MM
def aAO:cR:=⟨28,[.bq 2],IE⟩
theorem aAP:cO Z 112=some aAO:=by kernel_rfl
theorem auZ{args:List Value}{m:E}{aI:Value->E->Prop}(h:args.length<=28):bU Z 112 args m aI=cH Z IE (eX args) m (eU [.bq 2] aI):=fK aAP h
def alE:J:= .D (.G [A 0 3 0,eJ 1 4 .geq (I 3) (.const (.int .u8 48)),A 2 5 4,gT 3 6 5 0,Gr 4 7 5 6 57,dd 5 8 5 7,A 6 2 8]) (.aT)
def aau:J:=
  .D (
  .G [
 ca 0 2 false]) alE
def aCe:cR:=⟨9,[.bq 2],aau⟩
theorem aCf:cO Z 144=some aCe:=by kernel_rfl
theorem ave{args:List Value}{m:E}{aI:Value->E->Prop}(h:args.length<=9):bU Z 144 args m aI=cH Z aau (eX args) m (eU [.bq 2] aI):=fK aCf h
def alN:J:= .D (.G [A 0 3 0,eJ 1 4 .geq (I 3) (.const (.int .u8 97)),A 2 5 4,gT 3 6 5 0,Gr 4 7 5 6 122,dd 5 8 5 7,A 6 9 8,fX 7 10 9 0,ef 8 11 9 false (.gL .geq .ir (I 10) (.const (.int .u8 65))),fX 9 12 9 11,gT 10 13 12 0,Gr 11 14 12 13 90,ef 12 15 9 false (.tR (I 12) (I 14) (.const (.bool false))),dx 13 16 9 15,A 14 2 16]) (.aT)
def aax:J:=
  .D (
  .G [
 ca 0 2 false]) alN
def aCk:cR:=⟨17,[.bq 2],aax⟩
theorem aCl:cO Z 147=some aCk:=by kernel_rfl
theorem avh{args:List Value}{m:E}{aI:Value->E->Prop}(h:args.length<=17):bU Z 147 args m aI=cH Z aax (eX args) m (eU [.bq 2] aI):=fK aCl h
def IG:J:= .D (.G [A 0 3 0,cF 1 4 147 [I 3],A 2 5 4,fX 3 6 5 0,kI 4 7 5 166 6,dx 5 8 5 7,A 6 9 8,fX 7 10 9 0,ef 8 11 9 false (.gL .eql .ir (I 10) (.const (.int .u8 45))),dx 9 12 9 11,A 10 13 12,fX 11 14 13 0,ef 12 15 13 false (.gL .eql .ir (I 14) (.const (.int .u8 46))),dx 13 16 13 15,A 14 2 16]) (.aT)
def F1:J:=
  .D (
  .G [
 ca 0 2 false]) IG
def aCm:cR:=⟨17,[.bq 2],F1⟩
theorem aCn:cO Z 148=some aCm:=by kernel_rfl
theorem avi{args:List Value}{m:E}{aI:Value->E->Prop}(h:args.length<=17):bU Z 148 args m aI=cH Z F1 (eX args) m (eU [.bq 2] aI):=fK aCn h
def amx:J:= .D (.G [A 0 3 0,eJ 1 4 .geq (I 3) (.const (.int .u8 48)),A 2 5 4,gT 3 6 5 0,Gr 4 7 5 6 57,dd 5 8 5 7,A 6 2 8]) (.aT)
def aaZ:J:=
  .D (
  .G [
 ca 0 2 false]) amx
def aDd:cR:=⟨9,[.bq 2],aaZ⟩
theorem aDe:cO Z 166=some aDd:=by kernel_rfl
theorem avs{args:List Value}{m:E}{aI:Value->E->Prop}(h:args.length<=9):bU Z 166 args m aI=cH Z aaZ (eX args) m (eU [.bq 2] aI):=fK aDe h
def sF(n:Int):Bool:=(decide (97<=n)&&decide (n<=122))||(decide (65<=n)&&decide (n<=90))
def yj(n:Int):Bool:=decide (48<=n)&&decide (n<=57)
def pe(n:Int):Bool:=sF n||yj n||decide (n=45)||decide (n=46)
def xc(p:Int->Bool)(T:ByteArray):Nat->Nat->Nat
  |0,_=>0
  |n+1,i=>if p (xE T i)=true then xc p T n (i+1)+1 else 0
theorem aGN{T:ByteArray}:ib (.string T)=T.size:=rfl
def de(T:ByteArray):Prop:=0<T.size/\T.size<=16/\sF (xE T 0)=true/\xc pe T T.size 0=T.size
open Classical in
noncomputable def pl(T:ByteArray):Bool:=decide (de T)
theorem aet{T:ByteArray}(h:de T):pl T=true:=by simp[pl,h]
theorem DW{T:ByteArray}(h: ¬de T):pl T=false:=by simp[pl,h]
theorem aix{T:ByteArray}(h:T.size=0):T=⟨#[]⟩:=by apply ByteArray.ext;exact Array.eq_empty_of_size_eq_zero h
theorem Gu(n:Int)(m:E)(aI:Value->E->Prop):bU Z 147 [.int .u8 n] m aI=aI (.bool (sF n)) m:=by refine(oB.r5 ?_).wp;rw[avh (by simp)];by_cases B:97<=n<;>by_cases H:n<=122<;>by_cases af:65<=n<;>by_cases aL:n<=90<;>simp[aax,alN,sF,B,H,af,aL]
theorem Qn(n:Int)(m:E)(aI:Value->E->Prop):bU Z 166 [.int .u8 n] m aI=aI (.bool (yj n)) m:=by refine(oB.r5 ?_).wp;rw[avs (by simp)];by_cases B:48<=n<;>by_cases H:n<=57<;>simp[aaZ,amx,yj,B,H]
theorem akD(n:Int)(m:E)(aI:Value->E->Prop):bU Z 148 [.int .u8 n] m aI=aI (.bool (pe n)) m:=by
  refine(oB.r5 ?_).wp;rw[avi (by simp)];by_cases B:sF n=true
  · simp[F1,IG,Gu,pe,B]
  by_cases H:yj n=true
  · simp[F1,IG,Gu,Qn,pe,B,H]
  by_cases af:n=45
  · subst af;simp[F1,IG,Gu,Qn,pe,sF,yj]
  by_cases aL:n=46
  · subst aL;simp[F1,IG,Gu,Qn,pe,sF,yj]
  simp[F1,IG,Gu,Qn,pe,B,H,af,aL]
theorem aqn{T:ByteArray}(e6:T.size<=16){Q:dp->aM->E->Prop}: ∀(r i:Nat) (m:E) (u:aM),i+r=T.size->u 0= .string T->u 3=X i->
    (xc pe T r i=r-> ∀ae,Q (.bw 0) ae m)->(xc pe T r i≠r-> ∀ae,ae 2= .bool false->Q .aT ae m)->cH Z (.loop MP) u m Q
  | 0,i,m,u,ag,b1,bA,bC,cq=>by refine fc λcp aZ=> ?_;have: ¬(i:Int)<T.size:=(by omega);simp[MP,RN,b1,bA,this];exact bC rfl _
  | r+1,i,m,u,ag,b1,bA,bC,cq=>by
    refine fc λcp aZ=> ?_;have B:(i:Int)<T.size:=(by omega);have da:=e7 (n:=i) (by omega);by_cases K:pe (xE T i)=true
    · simp[MP,RN,akD,b1,bA,B,K,da];refine aZ _ _ (aqn e6 r (i+1) _ _ (by omega) (by simp[b1]) (by simp) (λh=>bC (by simp[xc,K,h])) (λh=>cq (by simp[xc,K];exact h)))
    · have hi:pe (xE T i)=false:=(by simpa using K);simp[MP,RN,akD,b1,bA,B,hi];exact cq (by simp[xc,hi]) _ (by simp)
theorem aHG(T:ByteArray)(m:E)(aI:Value->E->Prop):bU Z 112 [.string T] m aI=aI (.bool (pl T)) m:=by
  refine(oB.r5 ?_).wp;rw[auZ (by simp)];by_cases bH:T.size=0
  · have e:=aix bH;have av: ¬de T:= λh=>by have:=h.1;omega
    simp[IE,MM,MN,MO,e];rw[<-e,DW av]
  · have e: ¬T=⟨#[]⟩:= λh=>bH (by rw[h];rfl);have Y:0<T.size:=(by omega);by_cases B:16<T.size
    · have eh:(16:Int)<T.size:=(by omega);have av: ¬de T:= λh=>by have:=h.2.1;omega
      simp[IE,MM,MN,MO,e,eh,DW av]
    · have eh: ¬(16:Int)<T.size:=(by omega);by_cases H:sF (xE T 0)=true
      · simp[IE,MM,MN,MO,Gu,e,Y,eh,H];refine aqn (T:=T) (by omega) T.size 0 _ _ (by omega) (by simp) (by simp) (λh ae=> ?_) (λh ae g=> ?_)
        · simp[aet ⟨by omega,by omega,H,h⟩]
        · have av: ¬de T:= λb6=>h b6.2.2.2;simp[g,DW av]
      · have av: ¬de T:= λb6=>H b6.2.2.1;have gB:sF (xE T 0)=false:=(by simpa using H);simp[IE,MM,MN,MO,Gu,e,Y,eh,gB,DW av]
theorem GU(n:Int)(m:E)(aI:Value->E->Prop):bU Z 104 [.int .u8 n] m aI=aI (.bool (sF n)) m:=by refine(oB.r5 ?_).wp;rw[auV (by simp)];by_cases B:97<=n<;>by_cases H:n<=122<;>by_cases af:65<=n<;>by_cases aL:n<=90<;>simp[Zo,akL,sF,B,H,af,aL]
theorem Vm(n:Int)(m:E)(aI:Value->E->Prop):bU Z 144 [.int .u8 n] m aI=aI (.bool (yj n)) m:=by refine(oB.r5 ?_).wp;rw[ave (by simp)];by_cases B:48<=n<;>by_cases H:n<=57<;>simp[aau,alE,yj,B,H]
theorem arh(n:Int)(m:E)(aI:Value->E->Prop):bU Z 105 [.int .u8 n] m aI=aI (.bool (pe n)) m:=by
  refine(oB.r5 ?_).wp;rw[auW (by simp)];by_cases B:sF n=true
  · simp[FQ,Iy,GU,pe,B]
  by_cases H:yj n=true
  · simp[FQ,Iy,GU,Vm,pe,B,H]
  by_cases af:n=45
  · subst af;simp[FQ,Iy,GU,Vm,pe,sF,yj]
  by_cases aL:n=46
  · subst aL;simp[FQ,Iy,GU,Vm,pe,sF,yj]
  simp[FQ,Iy,GU,Vm,pe,B,H,af,aL]
theorem aro{T:ByteArray}(e6:T.size<=16){Q:dp->aM->E->Prop}: ∀(r i:Nat) (m:E) (u:aM),i+r=T.size->u 0= .string T->u 3=X i->
    (xc pe T r i=r-> ∀ae,Q (.bw 0) ae m)->(xc pe T r i≠r-> ∀ae,ae 2= .bool false->Q .aT ae m)->cH Z (.loop Nq) u m Q
  | 0,i,m,u,ag,b1,bA,bC,cq=>by refine fc λcp aZ=> ?_;have: ¬(i:Int)<T.size:=(by omega);simp[Nq,Tu,b1,bA,this];exact bC rfl _
  | r+1,i,m,u,ag,b1,bA,bC,cq=>by
    refine fc λcp aZ=> ?_;have B:(i:Int)<T.size:=(by omega);have da:=e7 (n:=i) (by omega);by_cases K:pe (xE T i)=true
    · simp[Nq,Tu,arh,b1,bA,B,K,da];refine aZ _ _ (aro e6 r (i+1) _ _ (by omega) (by simp[b1]) (by simp) (λh=>bC (by simp[xc,K,h])) (λh=>cq (by simp[xc,K];exact h)))
    · have hi:pe (xE T i)=false:=(by simpa using K);simp[Nq,Tu,arh,b1,bA,B,hi];exact cq (by simp[xc,hi]) _ (by simp)
theorem arp(T:ByteArray)(m:E)(aI:Value->E->Prop):bU Z 49 [.string T] m aI=aI (.bool (pl T)) m:=by
  refine(oB.r5 ?_).wp;rw[avO (by simp)];by_cases bH:T.size=0
  · have e:=aix bH;have ax8:(T.size:Int)<1:=(by omega);have av: ¬de T:= λh=>by have:=h.1;omega
    simp[IY,Nn,No,Np,ax8,DW av]
  · have e: ¬T=⟨#[]⟩:= λh=>bH (by rw[h];rfl);have XP: ¬(T.size:Int)<1:=(by omega);have Y:0<T.size:=(by omega);by_cases B:16<T.size
    · have eh:(16:Int)<T.size:=(by omega);have av: ¬de T:= λh=>by have:=h.2.1;omega
      simp[IY,Nn,No,Np,XP,eh,DW av]
    · have eh: ¬(16:Int)<T.size:=(by omega);by_cases H:sF (xE T 0)=true
      · simp[IY,Nn,No,Np,GU,XP,Y,eh,H];refine aro (T:=T) (by omega) T.size 0 _ _ (by omega) (by simp) (by simp) (λh ae=> ?_) (λh ae g=> ?_)
        · simp[aet ⟨by omega,by omega,H,h⟩]
        · have av: ¬de T:= λb6=>h b6.2.2.2;simp[g,DW av]
      · have av: ¬de T:= λb6=>H b6.2.2.1;have gB:sF (xE T 0)=false:=(by simpa using H);simp[IY,Nn,No,Np,GU,XP,Y,eh,gB,DW av]
end Go.Proofs.YtkpifdkccdndcaaGreat
namespace Go.Big
structure aV where
  bQ:Bool
  a:List Int
  b:List Int
  deriving DecidableEq
def aV.bG(x:aV):bp:=⟨x.bQ,val x.a,val x.b⟩
def aV.bD(x:aV):Prop:=dT x.a/\dT x.b/\x.a.length<35184372087809/\x.b.length<35184372087809
def qQ(x:bp):aV:=⟨x.bQ,bL x.n,bL x.d⟩
end Go.Big
namespace Go.Proofs.YtkpifdkccdndcaaGreat
open Go Go.DI Go.Big
abbrev dy(l:List Int):Value:=aQ (l.map λd=>[c3 d]) 1
theorem GD{α p7:Type}{f:α->p7}(h: ∀x y,f x=f y->x=y): ∀{l eZ:List α},l.map f=eZ.map f↔l=eZ
  |[],[]=>by simp
  |[],_::_=>by simp
  |_::_,[]=>by simp
  | x::l,y::eZ=>by simp only[n0,ox,GD h];exact⟨λ⟨a,b⟩=>⟨h _ _ a,b⟩,λ⟨a,b⟩=>⟨by rw[a],b⟩⟩
@[simp] theorem aTZ{l eZ:List Int}:(l.map λd=>[c3 d])=(eZ.map λd=>[c3 d])↔l=eZ:=GD λx y h=>by simpa using h
def ec(x:aV):List Value:=[.bool x.bQ,dy x.a,dy x.b]
theorem GP{x y:aV}:ec x=ec y↔x=y:=by obtain⟨a,b,c⟩:=x;obtain⟨cI,b7,eH⟩:=y;simp[ec]
@[simp] theorem aVm{x:aV}:(ec x).length=3:=rfl
abbrev eV(x:aV):Value:= .agg (ec x).toArray
abbrev dQ(l:List aV):Value:=aQ (l.map ec) 3
@[simp] theorem aVn{l eZ:List aV}:l.map ec=eZ.map ec↔l=eZ:=GD λx y h=>GP.1 h
section
variable {m:E} {v:Value} {l:List Int} {x:aV}
theorem Rb(aa:dT l)(h:vb m (dy l) v):bP m v l:=by
  refine⟨aa,?_⟩;obtain⟨bW,O,e,B⟩:=cQ.akF h rfl;simp only[dy,Zk]at e;obtain⟨rfl,rfl⟩:=e;rcases B with⟨B,rfl⟩|⟨b,off,cs,rfl,dD,aE,cl,aK⟩
  · exact .inl ⟨rfl,by simpa using B⟩
  · obtain⟨w,aS⟩:=QG m b cs dD;refine .inr ⟨b,off,cs,w,by simp,aS,?_,by simpa using aE⟩;apply List.ext_getElem?;intro i;rw[se];split
    · next ag=>have lG:off+l.length<=cs.length:=(by simpa using aE);have oJ:(cs.drop off)[i]?=some cs[off+i]:=(by rw[rv,c0]);rw[oJ,p6,c0 ag];have:=aK i 0 [c3 l[i]] (c3 l[i]) cs[off+i] (by simp[ag]) rfl (by rw[Nat.mul_one,Nat.add_zero,c0]);rw[this.qs];rfl
    · next ag=>rw[Ai (by simp;omega)]
theorem O9(h:bP m v l):vb m (dy l) v:=by
  obtain⟨aa,⟨rfl,rfl⟩|⟨b,o,cs,w,rfl,H,af,aL⟩⟩:=h
  · exact .jK rfl
  · have:=cQ.jX (z:=wz m) (W:=oi) (v:=dy l) (b:=b) (off:=o) (O:=1) (cs:=cs) (bW:=l.map λd=>[c3 d]) rfl (Lk H) (by simpa using aL) (λi r aH=> ?_) λi j r x y aH F ab=> ?_
    · simpa using this
    · rw[p6,xq]at aH;obtain⟨x,_,rfl⟩:=aH;rfl
    · rw[p6,xq]at aH;obtain⟨d,ay,rfl⟩:=aH;have ag:=(dg.1 ay).1;cases j with
      |succ j=>simp at F
      | zero=>simp at F;subst F;have cm:(l.map c3)[i]?=some (c3 d):=(by rw[p6,ay];rfl);rw[<-af,se,if_pos ag,rv]at cm;rw[Nat.mul_one,Nat.add_zero,cm]at ab;cases ab;exact .dc rfl
theorem uJ(aa:x.bD)(h:vb m (eV x) v):iL m v x.bG:=by
  obtain⟨ys,rfl,aE⟩:=h.wP;obtain⟨a,b,c,e,B,H,af⟩:=b5.VY (x:= .bool x.bQ) (y:=dy x.a) (O:=dy x.b) aE;have eD:ys= #[a,b,c]:=by rw[<-wh (xs:=ys),e]
  subst eD;rw[B.uN];exact⟨b,c,rfl,⟨x.a,Rb aa.1 H,aa.2.2.1,rfl⟩,⟨x.b,Rb aa.2.1 af,aa.2.2.2,rfl⟩⟩
theorem ah0{y:bp}(h:jj m v y):vb m (eV (qQ y)) v:=by obtain⟨a,b,rfl,B,H⟩:=h;exact b5.agg (b5.cons (.dc rfl) (b5.cons (O9 B) (b5.cons (O9 H) b5.nil)))
end
def afu:g0 aV:=⟨3,λm cs x=> ∃a b,cs=[.bool x.bQ,a,b]/\bP m a x.a/\bP m b x.b/\x.bD,λ_ _ _ ⟨_,_,h,_⟩=>by rw[h];rfl,λ_ _ _ _ M ⟨a,b,h,B,H,af⟩=>⟨a,b,h,B.jh M,H.jh M,af⟩⟩
theorem arH:Cm afu ec aV.bD where
  O _:=rfl
  r9 m cs x aa h:=by obtain⟨a,b,c,rfl,B,H,af⟩:=b5.VY (x:= .bool x.bQ) (y:=dy x.a) (O:=dy x.b) h;rw[B.uN];exact⟨b,c,rfl,Rb aa.1 H,Rb aa.2.1 af,aa⟩
  ek m cs x h:=by obtain⟨a,b,rfl,B,H,af⟩:=h;exact b5.cons (.dc rfl) (b5.cons (O9 B) (b5.cons (O9 H) b5.nil))
theorem arI{m:E}{v:Value}{l:List aV}(h:afu.ax m v l):iG.ax m v (l.map aV.bG):=h.r9 aV.bG rfl λcs x _ F=>by obtain⟨a,b,rfl,B,H,af⟩:=F;exact⟨a,b,rfl,⟨x.a,B,af.2.2.1,rfl⟩,⟨x.b,H,af.2.2.2,rfl⟩⟩
theorem YK{m:E}{v:Value}{l:List aV}(aa: ∀x∈l,x.bD)(h:vb m (dQ l) v):iG.ax m v (l.map aV.bG):=arI (arH.agW aa h)
theorem q6{f:Nat}{ts:List Value}{r:Value}(h: ∀m fl,EF m ts fl->bU Z f fl m λhy N=>a7 m N/\vb N r hy):c4 Z f ts r:=
  aLW λm fl aC=>(h m fl aC).aD λhy N a6=>⟨⟨a6.1.next,a6.1.U⟩,a6.2⟩
theorem ae9{m N:E}{p:Int×bp}{r:Value}(h:p8 m p r N):a7 m N/\vb N (.tuple #[eV (qQ p.2),X p.1]) r:=by obtain⟨B,c,rfl,H⟩:=h;exact⟨B,b5.tuple (b5.cons (ah0 H) (b5.cons (.dc rfl) b5.nil))⟩
theorem aJl{x:aV}(aa:x.bD):c4 Z 86 [eV x] (.tuple #[eV (qQ (rl x.bG).2),X (rl x.bG).1]):=q6 λm fl aC=>by obtain⟨v,rfl,h⟩:=aC.hS;exact(arb (uJ aa h)).aD λr N h=>ae9 h
theorem aMq{x:aV}(aa:x.bD):c4 Z 91 [eV x] (.bool x.bG.ok):=q6 λm fl aC=>by obtain⟨v,rfl,h⟩:=aC.hS;exact(Kh (uJ aa h)).aD λr N ⟨B,H⟩=>⟨B,by rw[H];exact .dc rfl⟩
theorem aiG{x y:aV}(F:x.bD)(ab:y.bD):c4 Z 27 [eV x,eV y] (if x.bG.ok&&y.bG.ok then .tuple #[X (iI x.bG y.bG),X 0]else .tuple #[X 0,X 1]):=q6 λm fl aC=>by obtain⟨v,w,rfl,h,b6⟩:=aC.Kc;refine(aiH (uJ F h) (uJ ab b6)).aD λr N ⟨B,H⟩=>⟨B,?_⟩;rw[H];split<;>exact cQ.o6 rfl
theorem aIa:c4 Z 26 [X 1,X 1] (.tuple #[eV (qQ .hS),X 0]):=q6 λm fl aC=>by obtain⟨v,w,rfl,h,b6⟩:=aC.Kc;rw[h.qs,b6.qs];exact aqC.aD λr N h=>ae9 h
theorem aHl{n:Int}(bH:0<=n)(av:n<18446744073709551616):c4 Z 34 [L n] (dy (bL n)):=q6 λm fl aC=>by obtain⟨v,rfl,h⟩:=aC.hS;rw[h.qs];exact(UQ bH av).aD λr N h=>⟨h.1,O9 h.2⟩
theorem aHF{T:ByteArray}:c4 Z 112 [.string T] (.bool (pl T)):=q6 λm fl aC=>by obtain⟨v,rfl,h⟩:=aC.hS;rw[h.zp,aHG];exact⟨a7.refl m,.dc rfl⟩
theorem aJ1{x:aV}(aa:x.bD):c4 Z 55 [eV x] (.tuple #[eV (qQ (rl x.bG).2),X (rl x.bG).1]):=q6 λm fl aC=>by obtain⟨v,rfl,h⟩:=aC.hS;exact(art (uJ aa h)).aD λr N h=>ae9 h
theorem aKH{x:aV}(aa:x.bD):c4 Z 54 [eV x] (.bool x.bG.ok):=q6 λm fl aC=>by obtain⟨v,rfl,h⟩:=aC.hS;exact(Vx (uJ aa h)).aD λr N ⟨B,H⟩=>⟨B,by rw[H];exact .dc rfl⟩
theorem aJ3{x:aV}(F:x.bD)(hn:x.bG.ok=true):c4 Z 30 [eV x] (X (iI x.bG .nil)):=q6 λm fl aC=>by obtain⟨v,rfl,h⟩:=aC.hS;exact(Vt (uJ F h) hn).aD λr N ⟨B,H⟩=>⟨B,by rw[H];exact .dc rfl⟩
theorem aJ2{x y:aV}(F:x.bD)(ab:y.bD)(hn:x.bG.ok=true)(h5:y.bG.ok=true):c4 Z 32 [eV x,eV y] (.bool (decide (iI x.bG y.bG=0))):=q6 λm fl aC=>by obtain⟨v,w,rfl,h,b6⟩:=aC.Kc;exact(aru (uJ F h) (uJ ab b6) hn h5).aD λr N ⟨B,H⟩=>⟨B,by rw[H];exact .dc rfl⟩
theorem aJN{x y:aV}(F:x.bD)(ab:y.bD)(hn:x.bG.ok=true)(h5:y.bG.ok=true):c4 Z 110 [eV x,eV y] (.bool (decide (iI x.bG y.bG<0))):=q6 λm fl aC=>by obtain⟨v,w,rfl,h,b6⟩:=aC.Kc;exact(aJO (uJ F h) (uJ ab b6) hn h5).aD λr N ⟨B,H⟩=>⟨B,by rw[H];exact .dc rfl⟩
theorem ari{n:Int}(bH: -9223372036854775808<=n)(B:n<=9223372036854775807):c4 Z 33 [X n] (eV (qQ (x7 n))):=q6 λm fl aC=>by obtain⟨v,rfl,h⟩:=aC.hS;rw[h.qs];exact(Vp bH B).aD λr N h=>⟨h.1,ah0 h.2⟩
def hE(x:aV):aV:=qQ (rl x.bG).2
noncomputable def VG:cf Z:= .ek 86 aV aV.bD (λx=>[eV x]) (λx=> .tuple #[eV (hE x),X (rl x.bG).1]) λ_ aa=>aJl aa
@[simp] theorem aYb:VG.f=86:=rfl
@[simp] theorem aYc{n:Bool}{a b:List Int}(h:(aV.mk n a b).bD):VG.fn [.agg #[.bool n,dy a,dy b]]=some (.tuple #[eV (hE ⟨n,a,b⟩),X (rl (aV.mk n a b).bG).1]):=
  cf.eP (x:=aV.mk n a b) h λy ab=>by simpa[GP]using ab
theorem ae0{l:List aV}: ∀r∈l.map ec,r.length=3/\ ∀v∈r,il v=true:= λr aH=>by obtain⟨x,_,rfl⟩:=iK.1 aH;exact⟨rfl,λv S=>by simp[ec]at S;rcases S with rfl|rfl|rfl<;>rfl⟩
theorem aq6{l:List aV}:(l.map ec).flatten.length=l.length*3:=by rw[CH (O:=3) λr aH=>(ae0 r aH).1,jZ]
theorem aHd{bN:List aV}(aa: ∀x∈bN,x.bD)(av:bN.length<1000000){Q:dp->aM->E->Prop}: ∀(dX:List aV) (i:Nat) (eF:List aV) (o:Nat) (u:aM) (t:E),bN.drop i=dX->i+dX.length=bN.length->eF.length=i->
    t.U o=some ⟨(eF.map ec).flatten,true⟩->u 3= .slice (some ⟨o,0,none⟩) i 3->u 8=dQ bN->u 9=X bN.length->u 10=X i->
    (∀ae bu o',bu.U o'=some ⟨((eF++dX.map hE).map ec).flatten,true⟩->ae 3= .slice (some ⟨o',0,none⟩) bN.length 3->Q (.bw 0) ae bu)->gD Z (.loop TQ) u t Q:=by
  intro dX;induction dX with
  | nil=>intro i eF o u t ay ag aC aq bA ch e4 jE a1;refine ru (a0:=⟨[VG],[]⟩) λcp aZ=> ?_;have e:i=bN.length:=(by simpa using ag);subst e;simp(disch:=first|omega|simp only[b3];omega) [TQ,adb,ade,adf,e4,jE];exact a1 _ _ o (by simpa using aq) (by simp[bA])
  | cons x dX cB=>intro i eF o u t ay ag aC aq bA ch e4 jE a1;refine ru (a0:=⟨[VG],[]⟩) λcp aZ=> ?_;have F:bN[i]?=some x:=(by rw[<-xu,ay];rfl);have nm:bN.drop (i+1)=dX:=(by rw[<-yK,ay];rfl);simp only[nB]at ag;have bn:(i:Int)<bN.length:=(by omega);have bc:=e7 (n:=i) (by omega);have q1:x.bD:=aa x (fT F);have jJ:i<bN.length:=(by omega);have lH:bN[i]=x:=(by rw[c0 jJ]at F;exact Ch F);have gr:(eF.map ec).flatten.length=i*3:=(by rw[aq6,aC]);have aHk:=aO aq;have gv:(i+1)*56<=140737488355328/\i<=9223372036854775806:=(by omega);simp(disch:=first|omega|simp only[b3];omega) [TQ,adb,ade,adf,bA,ch,e4,jE,bn,bc,lH,aq,gr,ec,gv,-ao,-aB,-ai,-au,-List.map_map];refine aZ _ _ (cB (i+1) (eF++[hE x]) _ _ _ nm (by omega) (by simp[aC]) (by rw[cW (by simp),fw (by omega)];simp[ec]) (by simp) (by simp[ch]) (by simp[e4]) (by simp) λae bu o' B H=>a1 ae bu o' (by simpa using B) H)
theorem aHe{bN:List aV}(aa: ∀x∈bN,x.bD)(av:bN.length<1000000):c4 Z 68 [dQ bN] (dQ (bN.map hE)):=by
  refine gR (ga (a0:=⟨[],[]⟩) aEA (by kernel_rfl) (by simp[ada]) ?_);simp[ada,aoA,aoB,aoC,aoD];refine ahd (d:=3) (O:=3) (by simp) ?_;refine aHd aa av bN 0 [] rY.next _ _ rfl (by simp) rfl (by simp) (by simp) (by simp) (by simp) (by simp) λae bu o' B H=> ?_
  simp[H];exact E3 (n:=8) (l:=bN.length) (bW:=(bN.map hE).map ec) B (by simp) ae0
abbrev oA(b:Bool):Value:= .bool b
theorem g0.ax.gz{α:Type}{r:g0 α}{m:E}{v:Value}{l:List α}(h:r.ax m v l): ∃p n c,v= .slice p n c:=by rcases h with⟨rfl,_⟩|⟨b,o,cs,w,rfl,_⟩<;>exact⟨_,_,_,rfl⟩
theorem g0.ax.Of{α:Type}{r:g0 (List α)}{q:g0 α}(aH:r=q.uQ){p m:E}{v:Value}{l:List (List α)}(h:r.ax p v l)(M:cU p m){i:Nat}{x:List α}(F:l[i]?=some x):
    ∃w,g8 m (mH v 1 (i:Int)) 1=true/\k4 m false 1 (mH v 1 (i:Int))=w/\q.ax p w x:=by
  subst aH;obtain⟨b,o,cs,w,B,H,af,aL⟩:=h.qb F;have cm:=M.U _ _ H;obtain⟨aG,ar,x2⟩:=aL
  replace B:mH v 1 (i:Int)= .pointer (some ⟨b,o,none⟩):=B
  replace af:o+1<=cs.length:=af
  replace ar:(cs.drop o).take 1=[aG]:=ar
  refine⟨aG,?_,?_,x2⟩
  · rw[B];simp[cm];omega
  · rw[B];simp[cm,ar]
theorem zS{R:List Bool}{i:Nat}{b:Bool}:(R.map oA).set i (oA b)=(R.set i b).map oA:=by rw[List.map_set]
theorem HO{cS:List bp}{k:Nat}{x:bp}(h:cS[k]?=some x):hu (ik cS) k=decide (0<x.n):=ai1 (by simp[ik,h])
theorem aw3{m:E}{ji:Value}{cS:List bp}{n i fE cJ:Nat}{C:fV}(dE:cJ≠fE)(aH:iG.ax m ji cS)(av:cS.length=n)(oK:n<1000000)(ag:i<n)(oM:m.next<=fE){ez iB aeK aeL:Value}{Q:dp->aM->E->Prop}: ∀(r k:Nat) (R:List Bool) (bk:E) (u:aM),k+r=n->R.length=n->a7 m bk->bk.U fE=some ⟨R.map oA,true⟩->bk.U cJ=some C->
    u 1=ez->u 3= .slice (some ⟨fE,0,none⟩) n 1->u 4=iB->u 5=X i->u 19=aeK->u 20=aeL->u 42=ji->u 43=X n->u 44=X k->
    (∀ae N,a7 m N->N.U fE=some ⟨(oP (ik cS) i (List.range' k r) R).map oA,true⟩->N.U cJ=some C->ae 1=ez->ae 3= .slice (some ⟨fE,0,none⟩) n 1->ae 4=iB->ae 5=X i->ae 19=aeK->ae 20=aeL->Q (.bw 4) ae N)->
    cH Z (.loop Nj) u bk Q:=by
  intro r;induction r with
  | zero=>intro k R bk u aa gN ah aq jV aw bA fv cv m3 rp JU GX JV a1;refine fc λcp aZ=> ?_;have e:k=n:=(by omega);subst e;simp(disch:=first|omega|simp only[b3];omega) [Nj,Tf,Tg,GX,JV];exact a1 _ _ ah (by simpa[oP]using aq) jV (by simp[aw]) (by simp[bA]) (by simp[fv]) (by simp[cv]) (by simp[m3]) (by simp[rp])
  | succ r cB=>
    intro k R bk u aa gN ah aq jV aw bA fv cv m3 rp JU GX JV a1;refine fc λcp aZ=> ?_;have F:cS[k]?=some (cS[k]'(by omega)):=c0 (by omega);obtain⟨x,uL⟩: ∃x,cS[k]?=some x:=⟨_,F⟩;obtain⟨B,H,af,aL⟩:=aH.len
    replace af:kr 3 ji=true:=af
    rw[av]at B;have cg:=aO aq;have H9:=aO jV;have bn:(k:Int)<n:=(by omega);have bC:(i:Int)<n:=(by omega);have K:= λj=>aH.aD ((cU.l1 ah).trans (cU.bx bk j));obtain⟨q,a,c,lK,cI,eH,bh,bt,k1⟩:=iG.fu (K 6) (cU.refl _) uL;have bc:=e7 (n:=k) (by omega);have ue:=HP (l:=R) (i:=i) (by omega);have ahj:=HP (l:=R) (i:=k) (by omega);obtain⟨Od,nj⟩:=dg.1 ue;obtain⟨aGV,Xp⟩:=dg.1 ahj;have gk:i+1<=n:=(by omega);have h6:k+1<=n:=(by omega);have wL:List.range' k (r+1)=k::List.range' (k+1) r:=rfl;have hR:=ah.next
    cases tr:hu R i with
    | true=>have b8:oP (ik cS) i (List.range' k (r+1)) R=oP (ik cS) i (List.range' (k+1) r) (R.set i true):=(by rw[wL,oP,tr];rfl);rw[b8]at a1;rw[tr]at ue nj;simp(disch:=first|omega|simp only[b3];omega) [Nj,Tf,Tg,bA,cv,JU,GX,JV,bn,bC,B,af,bh,bt,aq,gN,nj,gk,bc,lj];refine aZ _ _ (cB (k+1) (R.set i true) _ _ (by omega) (by simp[gN]) (((ah.bx _).an (by omega)).an oM) (by rw[cW (by simp;omega)];exact congrArg (λc=>some (fV.mk c true)) zS) (by rw[dC dE,dC (by omega),gm H9,jV]) (by simp[aw]) (by simp[bA]) (by simp[fv]) (by simp[cv]) (by simp[m3]) (by simp[rp]) (by simp[JU]) (by simp[GX]) (by simp) a1)
    | false=>
      have b8:oP (ik cS) i (List.range' k (r+1)) R=oP (ik cS) i (List.range' (k+1) r) (R.set i (decide (0<x.n)&&hu R k)):=(by rw[wL,oP,tr,HO uL];rfl);rw[b8]at a1;rw[tr]at ue nj;simp(disch:=first|omega|simp only[b3];omega) [Nj,Tf,Tg,bA,cv,JU,GX,JV,bn,bC,B,af,bh,bt,aq,gN,nj,gk,lj];obtain⟨bB,iz⟩: ∃bB,bB=(bk.bx 6).an (bk.next+3) (some ⟨[.bool x.bQ,.slice q a c,.slice lK cI eH],true⟩):=⟨_,rfl⟩;rw[<-iz];have kp:a7 bk bB:=(by rw[iz];exact((a7.refl bk).bx 6).an (by omega));refine(PO (k1.sub (by rw[iz];exact cU.an (LD 6 3)))).aD λeT bo fG=> ?_;obtain⟨cA,rfl⟩:=fG;have aj:=cA.some (kp.some aq);have ql:=aO aj;have jo:=(ah.trans kp).trans cA;cases FH:decide (0<x.n)with
      | true=>rw[FH]at a1;simp(disch:=first|omega|simp only[b3];omega) [bA,JV,bn,bC,aj,gN,Xp,gk,h6,bc,lj];refine aZ _ _ (cB (k+1) (R.set i (hu R k)) _ _ (by omega) (by simp[gN]) (jo.an oM) (by rw[cW ql];exact congrArg (λc=>some (fV.mk c true)) zS) (by rw[dC dE];exact cA.some (kp.some jV)) (by simp[aw]) (by simp[bA]) (by simp[fv]) (by simp[cv]) (by simp[m3]) (by simp[rp]) (by simp[JU]) (by simp[GX]) (by simp) (by simpa using a1))
      | false=>rw[FH]at a1;simp(disch:=first|omega|simp only[b3];omega) [JV,bC,aj,gN,gk,bc];refine aZ _ _ (cB (k+1) (R.set i false) _ _ (by omega) (by simp[gN]) (jo.an oM) (by rw[cW ql];exact congrArg (λc=>some (fV.mk c true)) zS) (by rw[dC dE];exact cA.some (kp.some jV)) (by simp[aw]) (by simp[bA]) (by simp[fv]) (by simp[cv]) (by simp[m3]) (by simp[rp]) (by simp[JU]) (by simp[GX]) (by simp) (by simpa using a1))
def EG(m:E)(v:Value)(s:List bp)(bf:List (List bp))(e:List bp):Prop:= ∃de dh ji kV,v= .agg #[.string de,dh,ji,kV]/\iG.ax m dh s/\iG.uQ.ax m ji bf/\iG.ax m kV e
theorem aw5{m:E}{de:ByteArray}{dh ji kV:Value}{bf:List (List bp)}{e:List bp}{n fE cJ:Nat}(aH:iG.uQ.ax m ji bf)(a2:iG.ax m kV e)(tC:bf.length=n)(wE:e.length=n)(sA: ∀(i:Nat) (cS:List bp),bf[i]?=some cS->cS.length=n)(oK:n<1000000)(oM:m.next<=fE)(mi:m.next<=cJ)(dE:cJ≠fE){iB:Value}{Q:dp->aM->E->Prop}: ∀(r i:Nat) (R:List Bool) (bk:E) (u:aM),i+r=n->R.length=n->a7 m bk->bk.U fE=some ⟨R.map oA,true⟩->bk.U cJ=some ⟨[.string de,dh,ji,kV],true⟩->
    u 1=cb cJ->u 3= .slice (some ⟨fE,0,none⟩) n 1->u 4=iB->u 19=X n->u 20=X i->
    (∀ae N,a7 m N->N.U fE=some ⟨(sU (ik e) (bf.map ik) n (List.range' i r) R).map oA,true⟩->N.U cJ=some ⟨[.string de,dh,ji,kV],true⟩->ae 1=cb cJ->ae 3= .slice (some ⟨fE,0,none⟩) n 1->ae 4=iB->Q (.bw 2) ae N)->
    cH Z (.loop Nk) u bk Q:=by
  intro r;induction r with
  | zero=>intro i R bk u aa gN ah aq jV aw bA fv m3 rp a1;refine fc λcp aZ=> ?_;have e:i=n:=(by omega);subst e;simp[Nk,Tb,Tc,Td,Te,m3,rp];exact a1 _ _ ah (by simpa[sU]using aq) jV (by simp[aw]) (by simp[bA]) (by simp[fv])
  | succ r cB=>
    intro i R bk u aa gN ah aq jV aw bA fv m3 rp a1;refine fc λcp aZ=> ?_;obtain⟨cS,uL⟩: ∃cS,bf[i]?=some cS:=⟨_,c0 (by omega)⟩;obtain⟨y,Ik⟩: ∃y,e[i]?=some y:=⟨_,c0 (by omega)⟩;have sz:=sA i cS uL;obtain⟨B,H,af,aL⟩:=aH.len
    replace af:kr 1 ji=true:=af
    rw[tC]at B;obtain⟨aj,ba,cD,fs⟩:=a2.len
    replace cD:kr 3 kV=true:=cD
    rw[wE]at aj;have cg:=aO aq;have bn:(i:Int)<n:=(by omega);obtain⟨q,a,c,lK,cI,eH,bh,bt,vC⟩:=iG.fu (a2.aD (cU.l1 ah)) (cU.refl _) Ik;have bc:=e7 (n:=i) (by omega);have ue:=HP (l:=R) (i:=i) (by omega);obtain⟨Od,nj⟩:=dg.1 ue;have gk:i+1<=n:=(by omega);have wL:List.range' i (r+1)=i::List.range' (i+1) r:=rfl;have Yl:hu (ik e) i=decide (0<y.n):=HO Ik;have Ym:(bf.map ik).getD i []=ik cS:=(by rw[mr,p6,uL];rfl);have b8:sU (ik e) (bf.map ik) n (List.range' i (r+1)) R=sU (ik e) (bf.map ik) n (List.range' (i+1) r) (oP (ik cS) i (List.range' 0 n) (R.set i (hu R i||decide (0<y.n)))):=by rw[wL,sU,Yl,Ym,Kr]
    rw[b8]at a1
    -- lN b4 ek lN ars,P0 lN first store
    have b4: ∀(b:Bool) (cc:E) (ev:aM),b=(hu R i||decide (0<y.n))->a7 m cc->cc.U fE=some ⟨(R.set i b).map oA,true⟩->cc.U cJ=some ⟨[.string de,dh,ji,kV],true⟩->ev 1=cb cJ->ev 3= .slice (some ⟨fE,0,none⟩) n 1->ev 4=iB->ev 5=X i->ev 19=X n->ev 20=X i->
        cH Z Te ev cc (tj 3 (tY Z (.G [⟨0,some 67,none,.gL .add .ir (.tmp 20) (.const (.int .i64 1)),[]⟩,⟨1,some 20,none,.pk (.tmp 67),[]⟩]) (ym cp Q))):=by
      intro b cc ev K dG qW QL eu ps Pg J9 agQ aLM;obtain⟨w,cM,dq,wM⟩:=g0.ax.Of rfl aH (cU.l1 dG) uL;obtain⟨ck,cE,eo,e8⟩:=wM.len;rw[sz]at ck;simp(disch:=omega) [Te,eu,J9,QL,B,af,bn,cM,dq,ck,cE];refine aw3 (n:=n) (i:=i) dE wM sz oK (by omega) oM (ez:=cb cJ) (iB:=iB) (aeK:=X n) (aeL:=X i) n 0 (R.set i b) cc _ (by omega) (by simp[gN]) dG qW QL (by simp[eu]) (by simp[ps]) (by simp[Pg]) (by simp[J9]) (by simp[agQ]) (by simp[aLM]) (by simp) (by simp) (by simp) λn2 gC e1 y7 Fe hU qK sc Ac aL1 aL2=> ?_;rw[K]at y7;simp(disch:=first|omega|simp only[b3];omega) [aL2,bc];exact aZ _ _ (cB (i+1) _ gC _ (by omega) (by rw[akC];simp[gN]) e1 y7 Fe (by simp[hU]) (by simp[qK]) (by simp[sc]) (by simp[aL1]) (by simp) a1)
    cases tr:hu R i with
    | true=>rw[tr]at ue nj b4;simp(disch:=first|omega|simp only[b3];omega) [Nk,Tb,Tc,Td,bA,m3,rp,bn,aq,gN,nj,gk,lj];exact b4 true _ _ (by simp) (ah.an oM) (by rw[cW cg];exact congrArg (λc=>some (fV.mk c true)) zS) (by rw[dC dE,jV]) (by simp[aw]) (by simp[bA]) (by simp[fv]) (by simp) (by simp[m3]) (by simp[rp])
    | false=>rw[tr]at ue nj b4;simp(disch:=omega) [Nk,Tb,Tc,Td,aw,bA,m3,rp,bn,aq,jV,gN,nj,gk,aj,cD,bh,bt,lj];refine(PO vC).aD λeT bo fG=> ?_;obtain⟨cA,rfl⟩:=fG;have LY:=cA.some aq;have ql:=aO LY;simp[LY,gN,gk,bn];exact b4 (decide (0<y.n)) _ _ (by simp) ((ah.trans cA).an oM) (by rw[cW ql];exact congrArg (λc=>some (fV.mk c true)) zS) (by rw[dC dE];exact cA.some jV) (by simp[aw]) (by simp[bA]) (by simp[fv]) (by simp) (by simp[m3]) (by simp[rp])
theorem aw4{m:E}{de:ByteArray}{dh ji kV:Value}{bf:List (List bp)}{e:List bp}{n fE cJ:Nat}(aH:iG.uQ.ax m ji bf)(a2:iG.ax m kV e)(tC:bf.length=n)(wE:e.length=n)(sA: ∀(i:Nat) (cS:List bp),bf[i]?=some cS->cS.length=n)(oK:n<1000000)(oM:m.next<=fE)(mi:m.next<=cJ)(dE:cJ≠fE){Q:dp->aM->E->Prop}: ∀(r k:Nat) (bk:E) (u:aM),k+r=n+1->a7 m bk->bk.U fE=some ⟨(lX (ik e) (bf.map ik) n k).map oA,true⟩->bk.U cJ=some ⟨[.string de,dh,ji,kV],true⟩->
    u 1=cb cJ->u 3= .slice (some ⟨fE,0,none⟩) n 1->u 4=X k->
    (∀ae N,a7 m N->N.U fE=some ⟨(lX (ik e) (bf.map ik) n (n+1)).map oA,true⟩->ae 3= .slice (some ⟨fE,0,none⟩) n 1->Q (.bw 0) ae N)->
    cH Z (.loop Th) u bk Q:=by
  intro r;induction r with
  | zero=>intro k bk u aa ah aq jV aw bA fv a1;refine fc λcp aZ=> ?_;have e:k=n+1:=(by omega);subst e;have c: ¬((n:Int)+1<=n):=(by omega);simp[Th,aco,bA,fv,c];exact a1 _ _ ah aq (by simp[bA])
  | succ r cB=>intro k bk u aa ah aq jV aw bA fv a1;refine fc λcp aZ=> ?_;have c:(k:Int)<=n:=(by omega);have bc:=e7 (n:=k) (by omega);simp[Th,aco,bA,fv,c];refine aw5 (n:=n) (iB:=X k) aH a2 tC wE sA oK oM mi dE n 0 _ bk _ (by omega) (Gl k) ah aq jV (by simp[aw]) (by simp[bA]) (by simp[fv]) (by simp) (by simp) λn2 gC e1 cD Fe hU qK sc=> ?_;simp[sc,bc];exact aZ _ _ (cB (k+1) gC _ (by omega) e1 (by rw[cD,lX,Kr]) Fe (by simp[hU]) (by simp[qK]) (by simp) a1)
theorem aku{m:E}{b:Bool}(aI:Value->E->Prop):bU Z 96 [.bool b] m aI=aI (.bool b) m:=by refine(oB.r5 ?_).wp;rw[av3 (by simp)];simp[adN,apb]
theorem aum{m:E}{R:List Bool}{n fE:Nat}(gN:R.length=n)(av:n<1000000)(aq:m.U fE=some ⟨R.map oA,true⟩): ∀(rB:List Bool) (i:Nat) (u:aM),R.drop i=rB->i+rB.length=n->
    u 1= .func (.func 96) #[] #[]->u 7= .slice (some ⟨fE,0,none⟩) n 1->u 8=X n->u 9=X i->
    cH Z (.loop NZ) u m (tj 0 (tY Z NY (eU [.bq 4] λr N=>N=m/\r= .bool (rB.all λb=>b)))):=by
  intro rB;induction rB with
  | nil=>intro i u ay ag aw c7 ch e4;refine fc λcp aZ=> ?_;have e:i=n:=(by simpa using ag);subst e;simp(disch:=omega) [NZ,Un,Uo,Up,NY,ch,e4]
  | cons b rB cB=>
    intro i u ay ag aw c7 ch e4;refine fc λcp aZ=> ?_;have F:R[i]?=some b:=(by rw[<-xu,ay];rfl);have nm:R.drop (i+1)=rB:=(by rw[<-yK,ay];rfl);simp only[nB]at ag;obtain⟨Od,nj⟩:=dg.1 F;have bn:(i:Int)<n:=(by omega);have gk:i+1<=n:=(by omega);have bc:=e7 (n:=i) (by omega);cases b with
    | true=>have b8:((true::rB).all λb=>b)=rB.all λb=>b:=rfl;rw[b8]at aZ⊢;simp(disch:=first|omega|simp only[b3];omega) [NZ,Un,Uo,Up,NY,aw,c7,ch,e4,bn,aq,gN,nj,gk,lj,aku,bc];exact aZ _ _ (cB (i+1) _ nm (by omega) (by simp[aw]) (by simp[c7]) (by simp[ch]) (by simp))
    | false=>simp(disch:=omega) [NZ,Un,Uo,Up,NY,aw,c7,ch,e4,bn,aq,gN,nj,gk,lj,aku]
theorem aun{m:E}{R:List Bool}{n fE:Nat}(gN:R.length=n)(av:n<1000000)(aq:m.U fE=some ⟨R.map oA,true⟩)(aI:Value->E->Prop):
    bU Z 95 [.slice (some ⟨fE,0,none⟩) n 1,.func (.func 96) #[] #[]] m aI=aI (.bool (R.all λb=>b)) m:=by
  have:bU Z 95 [.slice (some ⟨fE,0,none⟩) n 1,.func (.func 96) #[] #[]] m λr N=>N=m/\r= .bool (R.all λb=>b):=by rw[av2 (by simp)];simp[adM,apa];exact aum gN av aq R 0 _ rfl (by simp[gN]) (by simp) (by simp) (by simp) (by simp)
  refine(oB.r5 (this.aD λr N h=>⟨h.2,h.1⟩)).wp
theorem aw6{m:E}{v:Value}{s e:List bp}{bf:List (List bp)}{n:Nat}(h:EG m v s bf e)(tC:bf.length=n)(wE:e.length=n)(sA: ∀(i:Nat) (cS:List bp),bf[i]?=some cS->cS.length=n)(oK:n<1000000):
    bU Z 28 [v] m λr N=>a7 m N/\r= .bool (La (ik e) (bf.map ik) n):=by
  rw[avH (by simp)];obtain⟨de,dh,ji,kV,rfl,M,aH,a2⟩:=h;obtain⟨aj,ba,cD,fs⟩:=a2.len;rw[wE]at aj;obtain⟨ez,du,bY,rfl⟩:=g0.ax.gz M;obtain⟨fj,dV,cN,rfl⟩:=g0.ax.gz aH;obtain⟨gK,p1,dI,rfl⟩:=g0.ax.gz a2;simp only[ib]at aj;have lD:p1=n:=by omega
  subst lD;simp(disch:=first|omega|simp only[b3];omega) [acn,anx,anA];refine⟨by omega,aw4 (m:=m) (de:=de) (fE:=m.next+2+3) (cJ:=m.next) aH a2 tC wE sA oK (by omega) (by omega) (by omega) (p1+1) 0 _ _ (by omega) ((((a7.refl m).bx 2).an (by omega)).bx 5|>.an (by omega)) (by rw[cW (by simp)];simp[lX]) (by rw[dC (by omega),gm (by simp),cW (by simp)]) (by simp) (by simp) (by simp) λae N o g bA=> ?_⟩;simp(disch:=first|omega|simp only[b3];omega) [anz,bA,aun (Gl _) oK g];exact⟨o,by rw[aGl];rfl⟩
end Go.Proofs.YtkpifdkccdndcaaGreat
