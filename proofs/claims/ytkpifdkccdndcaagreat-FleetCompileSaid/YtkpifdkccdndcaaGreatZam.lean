/-
  A part of the proof of the statement, in texts that tools of ours (wip/shrink.py, irpack.py, relax.py, minify.py, join.py, lay.py) have shortened.
-/
import Derived.Test.YtkpifdkccdndcaaGreatRows
import Derived.Test.YtkpifdkccdndcaaGreatZad
set_option linter.all false
set_option maxRecDepth 8000
set_option maxHeartbeats 16000000
namespace Go.Proofs.YtkpifdkccdndcaaGreat
open Go Go.DI
def RM:U:= .E (.I [A 0 52 5,cu 1 53 52,A 2 54 3,eA 3 55 .neq (F 53) (F 54),A 4 56 55,fi 5 57 56 5,dz 6 58 56 false (.eI 22 [F 57,.func 23]),jR 7 59 56 58,dL 8 60 56 59,A 9 61 60,fi 10 62 61 5,fi 11 63 61 4,vX 12 64 61 3 62 63,kx 13 65 61 3 64,ky 14 66 61 24 65,dL 15 67 61 66]) (.bj (F 67) (.E (.I [dE 0 2 false]) (.a7)) (.skip))
def RL:U:= .E (.block 1 (.E (.I [A 0 49 47,cL 1 50 1 45 47,aS 2 51 50,A 3 4 49,A 4 5 51]) RM)) (.I [eB 0 68 47,A 1 47 68])
def RK:U:= .E (.bj (F 48) (.skip) (.bI 0)) RL
def Lx:U:= .E (.I [eX 0 48 47 46]) RK
def B5:U:= .E (.I [A 0 85 7,kL 1 86 85 0,A 2 87 86,hQ 3 88 87 10,Cb 4 89 87 88 0,e7 5 90 87 89,A 6 91 90,ou 7 92 91 4 1,oP 8 93 91 28 92,e7 9 94 91 93,A 10 2 94]) (.a7)
def Ha:U:= .E (.I [c3 0 80 3 6,c3 1 81 3 8,gj 2 82 27 80 81,A 3 79 82,dD 4 83 0 79,dD 5 84 1 79,A 6 10 83,A 7 11 84]) B5
def G9:U:= .E (.I [cj 0 76 26 [.const (.int .i64 1),.const (.int .i64 1)],A 1 75 76,dD 2 77 0 75,dD 3 78 1 75,bP 4 8 (.eR [.bool false,.slice none 0 0,.slice none 0 0]),cV 5 3 8 77,A 6 9 78]) Ha
def B6:U:= .E (.I [aP 0 70 1 1,aS 1 71 70,cj 2 72 25 [F 71],A 3 69 72,dD 4 73 0 69,dD 5 74 1 69,bP 6 6 (.eR [.bool false,.slice none 0 0,.slice none 0 0]),cV 7 3 6 73,A 8 7 74]) G9
def G8:U:= .E (.E (.I [aP 0 44 2 1,aS 1 45 44,cu 2 46 45,bQ 3 47 0]) (.block 0 (.loop Lx))) B6
def G7:U:= .E (.E (.I [A 0 15 3,xr 1 16 21 15 1 4,iF 2 17 16,A 3 18 17,eG 4 19 18 3 1,e8 5 20 18 19,lB 6 21 18 20,fi 7 22 18 3,qI 8 23 18 21 22,dL 9 24 18 23,A 10 25 24,eG 11 26 25 2 1,e8 12 27 25 26,lB 13 28 25 27,fi 14 29 25 3,qI 15 30 25 28 29,dL 16 31 25 30,A 17 32 31,eG 18 33 32 1 1,e8 19 34 32 33,dz 20 35 32 false (.eI 22 [F 34,.func 23]),jR 21 36 32 35,dL 22 37 32 36,A 23 38 37,eG 24 39 38 3 1,e8 25 40 38 39,dz 26 41 38 false (.eI 22 [F 40,.func 23]),jR 27 42 38 41,dL 28 43 38 42]) (.bj (F 43) (.E (.I [dE 0 2 false]) (.a7)) (.skip))) G8
def G6:U:= .E (.I [aP 0 12 1 1,aS 1 13 12,cu 2 14 13,A 3 3 14]) G7
def En:U:=
  .E (
  .I [
 hi 0 1 0,
 dE 1 2 false]) G6
def ax6:dn:=⟨95,[.bA 2],En⟩
theorem ayr:dj Tryz.prog 9=some ax6:=by kernel_rfl
theorem aqK{args:List Value}{m:B}{az:Value->B->Prop}(h:args.length<=95):bJ Tryz.prog 9 args m az=ch Tryz.prog En (eu args) m (ey [.bA 2] az):=fD ayr h
def af8:U:= .E (.I [A 0 63 5,aP 1 64 4 1,aS 2 65 64,A 3 66 5,bP 4 67 (.tP (.func 44) [F 66] []),cj 5 68 43 [F 63,F 65,F 67]]) (.I [A 0 69 5,aP 1 70 5 1,aS 2 71 70,A 3 72 5,bP 4 73 (.tP (.func 46) [F 72] []),cj 5 74 45 [F 69,F 71,F 73]])
def af7:U:= .E (.I [A 0 57 5,aP 1 58 3 1,aS 2 59 58,A 3 60 5,bP 4 61 (.tP (.func 42) [F 60] []),cj 5 62 41 [F 57,F 59,F 61]]) af8
def af6:U:= .E (.I [A 0 51 5,aP 1 52 2 1,aS 2 53 52,A 3 54 5,bP 4 55 (.tP (.func 40) [F 54] []),cj 5 56 39 [F 51,F 53,F 55]]) af7
def Ki:U:= .E (.I [A 0 89 5,iz 1 90 89,aP 2 91 0 90,c3 3 92 7 91,bP 4 93 (.gT [.int .i64 0,.int .i64 0] []),cV 5 7 2 92,bQ 6 3 0,cV 7 2 4 93]) (.a7)
def Gt:U:= .E (.E (.I [A 0 75 5,iz 1 76 75,aP 2 77 17 76,aS 3 78 77,xq 4 79 78]) (.bj (F 79) (.E (.I [bP 0 80 (.gT [.int .i64 0,.slice none 0 0,.slice none 0 0,.slice none 0 0,.slice none 0 0,.slice none 0 0,.slice none 0 0] []),A 1 81 5,iz 2 82 81,aP 3 83 17 82,aS 4 84 83,A 5 85 5,iz 6 86 85,aP 7 87 18 86,c3 8 88 2 87,⟨9,none,none,.store 7 (F 2) (F 80),[(F 87,F 2),(F 83,F 2)]⟩,A 10 3 84,cV 11 2 4 88]) (.a7)) (.skip))) Ki
def Kj:U:= .E (.E (.I [A 0 32 5,aP 1 33 0 1,aS 2 34 33,xr 3 35 21 34 1 4,bP 4 36 (.gT [.int .i64 0,.int .i64 0] []),uT 5 37 32 35 5 36,A 6 38 37,hQ 7 39 38 5,ou 8 40 38 6 1,oP 9 41 38 36 40,dz 10 42 38 true (.gT [.int .i64 0,.int .i64 0] []),dz 11 43 38 true (.eI 35 [F 39,F 41,.const (.int .i64 2),F 42]),e7 12 44 38 43]) (.bj (F 44) (.E (.I [A 0 45 5,aP 1 46 1 1,aS 2 47 46,A 3 48 5,bP 4 49 (.tP (.func 38) [F 48] []),cj 5 50 37 [F 45,F 47,F 49]]) af6) (.skip))) Gt
def af5:U:= .E (.I [A 0 23 5,cj 1 24 34 [.const (.int .u64 0)],cj 2 25 34 [.const (.int .u64 1)],bP 3 26 (.gT [.bool false,.slice none 0 0,.slice none 0 0] [(1,1,F 24),(2,1,F 25)]),ZH 4 27 26,LC 5 28 27,iz 6 29 23,aP 7 30 0 29,aP 8 31 3 30,cV 9 1 31 28]) Kj
def af4:U:= .E (.I [A 0 17 5,aP 1 18 0 1,aS 2 19 18,iz 3 20 17,aP 4 21 0 20,aP 5 22 0 21,cV 6 1 22 19]) af5
def af3:U:= .E (.I [A 0 13 5,bP 1 14 (.gT [.int .i64 0,.int .i64 0,.int .i64 0,.int .i64 0,.int .i64 0] [(0,1,.const (.int .i64 0)),(1,1,.const (.int .i64 (-1))),(2,1,.const (.int .i64 (-1))),(3,1,.const (.int .i64 (-1))),(4,1,.const (.int .i64 (-1)))]),iz 2 15 13,aP 3 16 12 15,cV 4 5 16 14]) af4
def af2:U:= .E (.I [bP 0 6 (.oS),bP 1 7 (.oS),bP 2 8 (.oS),bP 3 9 (.oS),bP 4 10 (.oS),bP 5 11 (.gT [.int .i64 0,.slice none 0 0,.slice none 0 0,.slice none 0 0,.slice none 0 0,.slice none 0 0,.slice none 0 0,.map none,.map none,.map none,.map none,.map none,.int .i64 0,.int .i64 0,.int .i64 0,.int .i64 0,.int .i64 0,.int .i64 0,.int .i64 0,.int .i64 0] [(7,1,F 6),(8,1,F 7),(9,1,F 8),(10,1,F 9),(11,1,F 10)]),hi 6 12 11,A 7 5 12]) af3
def O6:U:=
  .E (
  .I [
 hi 0 1 0,
 bP 1 2 (.eR [.int .i64 0,.slice none 0 0,.slice none 0 0,.slice none 0 0,.slice none 0 0,.slice none 0 0,.slice none 0 0]),
 bQ 2 3 0,
 bP 3 4 (.eR [.int .i64 0,.int .i64 0])]) af2
def z1:dn:=⟨94,[.h7 2 true 7,.bA 3,.h7 4 true 2],O6⟩
theorem O7:dj Tryz.prog 11=some z1:=by kernel_rfl
def ahO:U:= .E (.I [A 0 73 3,aP 1 74 0 10,aS 2 75 74,vY 3 76 75,kM 4 77 1 16 73 76,A 5 3 77]) (.I [A 0 78 8,A 1 79 78,ou 2 80 79 4 10,oP 3 81 79 9 80,e7 4 82 79 81,A 5 8 82])
def ahN:U:= .E (.block 1 (.E (.I [cL 0 71 4 67 69,c3 1 72 4 71,bP 2 10 (.eR [.string ⟨#[]⟩,.slice none 0 0,.slice none 0 0,.slice none 0 0]),cV 3 4 10 72]) ahO)) (.I [eB 0 83 69,A 1 69 83])
def Xo:U:= .E (.bj (F 70) (.skip) (.bI 0)) ahN
def Px:U:= .E (.I [eX 0 70 69 68]) Xo
def ahw:U:= .E (.I [A 0 91 4,aP 1 92 0 12,aS 2 93 92,vY 3 94 93,kM 4 95 1 16 91 94,A 5 4 95]) (.I [A 0 96 8,A 1 97 96,iq 2 98 97 1 12,iy 3 99 97 98,dz 4 100 97 true (.eI 21 [F 99,.const (.int .i64 1),.const (.int .i64 16)]),e7 5 101 97 100,A 6 102 101,iq 7 103 102 2 12,iy 8 104 102 103,dz 9 105 102 true (.eI 21 [F 104,.const (.int .i64 1),.const (.int .i64 64)]),e7 10 106 102 105,A 11 107 106,iq 12 108 107 3 12,iy 13 109 107 108,iq 14 110 107 1 1,iy 15 111 107 110,sb 16 112 107 111,B9 17 113 107 112,dz 18 114 107 true (.eI 21 [F 109,.const (.int .i64 0),F 113]),e7 19 115 107 114,A 20 8 115])
def ahv:U:= .E (.block 3 (.E (.I [cL 0 89 4 85 87,c3 1 90 4 89,bP 2 12 (.eR [.string ⟨#[]⟩,.int .i64 0,.int .i64 0,.int .i64 0]),cV 3 4 12 90]) ahw)) (.I [eB 0 116 87,A 1 87 116])
def Xp:U:= .E (.bj (F 88) (.skip) (.bI 2)) ahv
def Py:U:= .E (.I [eX 0 88 87 86]) Xp
def ahy:U:= .E (.block 5 (.E (.I [cL 0 123 7 119 121,c3 1 124 7 123,bP 2 14 (.eR [.string ⟨#[]⟩,.int .i64 0,.int .i64 0,.int .i64 0,.bool false,.slice none 0 0,.slice none 0 0]),cV 3 7 14 124]) (.I [A 0 125 5,aP 1 126 0 14,aS 2 127 126,vY 3 128 127,kM 4 129 1 16 125 128,A 5 5 129]))) (.I [eB 0 130 121,A 1 121 130])
def Xk:U:= .E (.bj (F 122) (.skip) (.bI 4)) ahy
def Pz:U:= .E (.I [eX 0 122 121 120]) Xk
def ahB:U:= .E (.I [A 0 138 5,aP 1 139 0 16,aS 2 140 139,vY 3 141 140,kM 4 142 1 16 138 141,A 5 5 142]) (.I [A 0 143 8,A 1 144 143,iq 2 145 144 1 16,iy 3 146 144 145,iq 4 147 144 2 1,iy 5 148 144 147,sb 6 149 144 148,B9 7 150 144 149,dz 8 151 144 true (.eI 21 [F 146,.const (.int .i64 0),F 150]),e7 9 152 144 151,A 10 153 152,iq 11 154 153 2 16,iy 12 155 153 154,iq 13 156 153 3 1,iy 14 157 153 156,sb 15 158 153 157,B9 16 159 153 158,dz 17 160 153 true (.eI 21 [F 155,.const (.int .i64 0),F 159]),e7 18 161 153 160,A 19 162 161,iq 20 163 162 3 1,iy 21 164 162 163,iq 22 165 162 2 16,iy 23 166 162 165,dz 24 167 162 true (.pg 7 (F 164) (F 166)),iq 25 168 162 1 167,iy 26 169 162 168,Cb 27 170 162 169 4,e7 28 171 162 170,A 29 8 171])
def ahA:U:= .E (.block 7 (.E (.I [cL 0 136 3 132 134,c3 1 137 3 136,bP 2 16 (.eR [.string ⟨#[]⟩,.int .i64 0,.int .i64 0]),cV 3 3 16 137]) ahB)) (.I [eB 0 172 134,A 1 134 172])
def Xl:U:= .E (.bj (F 135) (.skip) (.bI 6)) ahA
def PA:U:= .E (.I [eX 0 135 134 133]) Xl
def ahF:U:= .E (.I [A 0 180 6,aP 1 181 0 18,aS 2 182 181,vY 3 183 182,kM 4 184 1 16 180 183,A 5 6 184]) (.I [A 0 185 8,A 1 186 185,ou 2 187 186 17 18,iq 3 188 186 2 1,iy 4 189 186 188,sb 5 190 186 189,dz 6 191 186 true (.eI 64 [F 187,F 190]),e7 7 192 186 191,A 8 8 192])
def ahE:U:= .E (.block 9 (.E (.I [cL 0 178 17 174 176,c3 1 179 17 178,bP 2 18 (.eR [.string ⟨#[]⟩,.int .i64 0,.int .i64 0,.int .i64 0,.int .i64 0,.int .i64 0,.int .i64 0,.int .i64 0,.int .i64 0,.slice none 0 0,.slice none 0 0,.bool false,.slice none 0 0,.slice none 0 0,.bool false,.slice none 0 0,.slice none 0 0]),cV 3 17 18 179]) ahF)) (.I [eB 0 193 176,A 1 176 193])
def Xm:U:= .E (.bj (F 177) (.skip) (.bI 8)) ahE
def PB:U:= .E (.I [eX 0 177 176 175]) Xm
def ahI:U:= .E (.I [A 0 201 7,aP 1 202 0 20,aS 2 203 202,vY 3 204 203,kM 4 205 1 16 201 204,A 5 7 205]) (.I [A 0 206 8,A 1 207 206,iq 2 208 207 1 20,iy 3 209 207 208,iq 4 210 207 5 1,iy 5 211 207 210,sb 6 212 207 211,B9 7 213 207 212,dz 8 214 207 true (.eI 21 [F 209,.const (.int .i64 0),F 213]),e7 9 215 207 214,A 10 8 215])
def ahH:U:= .E (.block 11 (.E (.I [cL 0 199 2 195 197,c3 1 200 2 199,bP 2 20 (.eR [.string ⟨#[]⟩,.int .i64 0]),cV 3 2 20 200]) ahI)) (.I [eB 0 216 197,A 1 197 216])
def Xn:U:= .E (.bj (F 198) (.skip) (.bI 10)) ahH
def PC:U:= .E (.I [eX 0 198 197 196]) Xn
def ahK:U:= .E (.I [bQ 0 2 0]) (.a7)
def ahJ:U:= .E (.E (.I [A 0 217 8,iF 1 218 217,A 2 219 218,fi 3 220 219 3,ky 4 221 219 65 220,jR 5 222 219 221,dL 6 223 219 222,A 7 224 223,fi 8 225 224 4,ky 9 226 224 65 225,jR 10 227 224 226,dL 11 228 224 227,A 12 229 228,fi 13 230 229 5,ky 14 231 229 65 230,jR 15 232 229 231,dL 16 233 229 232,A 17 234 233,fi 18 235 234 6,ky 19 236 234 65 235,jR 20 237 234 236,dL 21 238 234 237,A 22 239 238,fi 23 240 239 7,ky 24 241 239 65 240,jR 25 242 239 241,dL 26 243 239 242]) (.bj (F 243) (.E (.I [bQ 0 2 1]) (.a7)) (.skip))) ahK
def ahG:U:= .E (.E (.I [aP 0 194 6 1,aS 1 195 194,cu 2 196 195,bQ 3 197 0]) (.block 10 (.loop PC))) ahJ
def ahC:U:= .E (.E (.I [aP 0 173 5 1,aS 1 174 173,cu 2 175 174,bQ 3 176 0]) (.block 8 (.loop PB))) ahG
def ahz:U:= .E (.E (.I [aP 0 131 4 1,aS 1 132 131,cu 2 133 132,bQ 3 134 0]) (.block 6 (.loop PA))) ahC
def ahx:U:= .E (.E (.I [aP 0 117 3 1,aS 1 118 117,bP 2 119 (.pv 7 (F 118) (some (.const (.int .i64 1))) none),cu 3 120 119,bQ 4 121 0]) (.block 4 (.loop Pz))) ahz
def ahP:U:= .E (.E (.I [aP 0 84 2 1,aS 1 85 84,cu 2 86 85,bQ 3 87 0]) (.block 2 (.loop Py))) ahx
def ahM:U:= .E (.E (.I [aP 0 66 1 1,aS 1 67 66,cu 2 68 67,bQ 3 69 0]) (.block 0 (.loop Px))) ahP
def ahL:U:= .E (.I [dE 0 8 true]) ahM
def ahD:U:= .E (.I [fQ 0 3,fQ 1 4,fQ 2 5,fQ 3 6,fQ 4 7]) ahL
def Xj:U:= .E (.E (.I [aP 0 21 0 1,aS 1 22 21,xr 2 23 21 22 1 4,iF 3 24 23,A 4 25 24,eG 5 26 25 1 1,e8 6 27 25 26,lB 7 28 25 27,oQ 8 29 25 28 4,dL 9 30 25 29,A 10 31 30,eG 11 32 31 2 1,e8 12 33 31 32,lB 13 34 31 33,oQ 14 35 31 34 4,dL 15 36 31 35,A 16 37 36,eG 17 38 37 3 1,e8 18 39 37 38,lB 19 40 37 39,oQ 20 41 37 40 40,dL 21 42 37 41,A 22 43 42,eG 23 44 43 4 1,e8 24 45 43 44,lB 25 46 43 45,oQ 26 47 43 46 24,dL 27 48 43 47,A 28 49 48,eG 29 50 49 5 1,e8 30 51 49 50,lB 31 52 49 51,oQ 32 53 49 52 4,dL 33 54 49 53,A 34 55 54,eG 35 56 55 6 1,e8 36 57 55 56,lB 37 58 55 57,oQ 38 59 55 58 12,dL 39 60 55 59,A 40 61 60,kx 41 62 61 7 1,ky 42 63 61 63 62,jR 43 64 61 63,dL 44 65 61 64]) (.bj (F 65) (.E (.I [bQ 0 2 1]) (.a7)) (.skip))) ahD
def Xi:U:=
  .E (
  .I [
 hi 0 1 0,
 bQ 1 2 0]) Xj
def KE:dn:=⟨244,[.bA 2],Xi⟩
theorem ahu:dj Tryz.prog 14=some KE:=by kernel_rfl
def Yh:U:= .E (.I [A 0 7 0,A 1 8 1,eA 2 9 .geq (F 7) (F 8),A 3 10 9,hQ 4 11 10 0,hQ 5 12 10 2,dz 6 13 10 true (.gz .leq .hM (F 11) (F 12)),e7 7 14 10 13,A 8 6 14]) (.a7)
def Qc:U:=
  .E (
  .I [
 dE 0 6 false]) Yh
def Yg:dn:=⟨15,[.bA 6],Qc⟩
theorem aiF:dj Tryz.prog 21=some Yg:=by kernel_rfl
theorem aqo{args:List Value}{m:B}{az:Value->B->Prop}(h:args.length<=15):bJ Tryz.prog 21 args m az=ch Tryz.prog Qc (eu args) m (ey [.bA 6] az):=fD aiF h
def BY:U:= .E (.I [A 0 13 1,c3 1 14 3 6,bP 2 15 (.lZ (F 13) [F 14]),iF 3 16 15]) (.bj (F 16) (.E (.I [dE 0 4 false]) (.a7)) (.skip))
def BX:U:= .E (.block 1 (.E (.I [cL 0 11 3 7 9,c3 1 12 3 11,bP 2 6 (.eR [.bool false,.slice none 0 0,.slice none 0 0]),cV 3 3 6 12]) BY)) (.I [eB 0 17 9,A 1 9 17])
def BW:U:= .E (.bj (F 10) (.skip) (.bI 0)) BX
def BZ:U:= .E (.I [eX 0 10 9 8]) BW
def z8:U:= .E (.I [dE 0 4 true]) (.a7)
def Yj:U:= .E (.E (.I [A 0 7 0,cu 1 8 7,bQ 2 9 0]) (.block 0 (.loop BZ))) z8
def Qd:U:=
  .E (
  .I [
 dE 0 4 false]) Yj
def Yi:dn:=⟨18,[.bA 4],Qd⟩
theorem aiG:dj Tryz.prog 22=some Yi:=by kernel_rfl
theorem aqp{args:List Value}{m:B}{az:Value->B->Prop}(h:args.length<=18):bJ Tryz.prog 22 args m az=ch Tryz.prog Qd (eu args) m (ey [.bA 4] az):=fD aiG h
def KT:U:= .E (.I [A 0 10 4,kL 1 11 10 0,A 2 12 11,iq 3 13 12 0 3,iy 4 14 12 13,vW 5 15 12 14,e7 6 16 12 15,A 7 17 16,iq 8 18 17 1 3,iy 9 19 17 18,oP 10 20 17 87 19,nZ 11 21 17 20 32,e7 12 22 17 21,A 13 23 22,iq 14 24 23 2 3,iy 15 25 23 24,oP 16 26 23 87 25,nZ 17 27 23 26 32,e7 18 28 23 27,A 19 2 28]) (.a7)
def aiH:U:= .E (.I [c3 0 6 3 1,cj 1 7 86 [F 6],A 2 5 7,dD 3 8 0 5,dD 4 9 1 5,bP 5 3 (.eR [.bool false,.slice none 0 0,.slice none 0 0]),cV 6 3 3 8,A 7 4 9]) KT
def Yk:U:=
  .E (
  .I [
 hi 0 1 0,
 dE 1 2 false]) aiH
def awX:dn:=⟨29,[.bA 2],Yk⟩
theorem awY:dj Tryz.prog 23=some awX:=by kernel_rfl
theorem aqq{args:List Value}{m:B}{az:Value->B->Prop}(h:args.length<=29):bJ Tryz.prog 23 args m az=ch Tryz.prog Yk (eu args) m (ey [.bA 2] az):=fD awY h
def aiI:U:= .E (.I [aP 0 3 1 1,aS 1 4 3,cj 2 5 87 [F 4],qH 3 6 5 0,A 4 2 6]) (.a7)
def Yl:U:=
  .E (
  .I [
 hi 0 1 0,
 dE 1 2 false]) aiI
def awZ:dn:=⟨7,[.bA 2],Yl⟩
theorem aw0:dj Tryz.prog 24=some awZ:=by kernel_rfl
theorem aqr{args:List Value}{m:B}{az:Value->B->Prop}(h:args.length<=7):bJ Tryz.prog 24 args m az=ch Tryz.prog Yl (eu args) m (ey [.bA 2] az):=fD aw0 h
def Ql:U:= .E (.block 5 (.E (.I [A 0 46 44,cL 1 47 3 42 44,c3 2 48 3 47,bP 3 7 (.eR [.bool false,.slice none 0 0,.slice none 0 0]),A 4 6 46,cV 5 3 7 48]) (.I [A 0 49 3,A 1 50 5,A 2 51 3,A 3 52 5,cL 4 53 1 51 52,aS 5 54 53,A 6 55 54,kx 7 56 55 3 7,ky 8 57 55 24 56,fi 9 58 55 57,hQ 10 59 58 3,hQ 11 60 58 6,dz 12 61 58 true (.pg 1 (F 59) (F 60)),iy 13 62 58 61,Hc 14 63 55 58 62,dL 15 64 55 63,cL 16 65 1 49 50,cV 17 1 65 64]))) (.I [eB 0 66 44,A 1 44 66])
def Qk:U:= .E (.bj (F 45) (.skip) (.bI 4)) Ql
def KU:U:= .E (.I [eX 0 45 44 43]) Qk
def Qj:U:= .E (.I [aP 0 38 2 1,aS 1 39 38,A 2 40 5,cL 3 41 1 39 40,aS 4 42 41,cu 5 43 42,bQ 6 44 0]) (.block 4 (.loop KU))
def Qi:U:= .E (.I [A 0 23 3,A 1 24 5,A 2 25 3,A 3 26 5,cL 4 27 1 25 26,aS 5 28 27,A 6 29 28,eG 7 30 29 3 1,e8 8 31 29 30,fi 9 32 29 5,vX 10 33 29 3 31 32,kx 11 34 29 3 33,ky 12 35 29 24 34,dL 13 36 29 35,cL 14 37 1 23 24,cV 15 1 37 36]) Qj
def Qh:U:= .E (.block 3 (.E (.I [A 0 22 20,A 1 5 22]) Qi)) (.I [eB 0 67 20,A 1 20 67])
def Qg:U:= .E (.bj (F 21) (.skip) (.bI 2)) Qh
def KV:U:= .E (.I [eX 0 21 20 19]) Qg
def Yv:U:= .E (.block 1 (.E (.I [A 0 18 3,cu 1 19 18,bQ 2 20 0]) (.block 2 (.loop KV)))) (.I [A 0 16 4,eB 1 17 16,A 2 4 17])
def Qm:U:= .E (.E (.I [A 0 12 4,A 1 13 3,cu 2 14 13,eA 3 15 .leq (F 12) (F 14)]) (.bj (F 15) (.skip) (.bI 0))) Yv
def aiR:U:= .E (.I [A 0 68 3,cj 1 69 95 [F 68,.func 96],A 2 2 69]) (.a7)
def aiS:U:= .E (.E (.I [bQ 0 4 0]) (.block 0 (.loop Qm))) aiR
def aiQ:U:= .E (.I [aP 0 8 3 1,aS 1 9 8,cu 2 10 9,bP 3 11 (.nk 1 1 [.bool false] (F 10) (F 10)),A 4 3 11]) aiS
def Yu:U:=
  .E (
  .I [
 hi 0 1 0,
 dE 1 2 false]) aiQ
def aw7:dn:=⟨70,[.bA 2],Yu⟩
theorem aw8:dj Tryz.prog 28=some aw7:=by kernel_rfl
theorem aqv{args:List Value}{m:B}{az:Value->B->Prop}(h:args.length<=70):bJ Tryz.prog 28 args m az=ch Tryz.prog Yu (eu args) m (ey [.bA 2] az):=fD aw8 h
def Qt:U:= .E (.I [A 0 26 0,iz 1 27 26,aP 2 28 17 27,aS 3 29 28,kL 4 30 29 0,A 5 8 30]) (.a7)
def Qs:U:= .E (.E (.I [A 0 9 0,iz 1 10 9,aP 2 11 17 10,aS 3 12 11,kL 4 13 12 0,A 5 14 13,hQ 6 15 14 1,vW 7 16 14 15,e7 8 17 14 16]) (.bj (F 17) (.I [A 0 18 0,A 1 19 0,A 2 20 2,c3 3 21 2 7,iz 4 22 18,aP 5 23 17 22,⟨6,none,none,.store 1 (F 23) (F 20),[(F 7,F 23)]⟩,iz 7 24 19,aP 8 25 18 24,cV 9 2 25 21]) (.skip))) Qt
def Qr:U:=
  .E (
  .I [
 hi 0 7 3,
 dE 1 8 false]) Qs
def GJ:dn:=⟨31,[.bA 8],Qr⟩
theorem ai1:dj Tryz.prog 35=some GJ:=by kernel_rfl
def qE:U:= .E (.block 1 (.E (.I [cL 0 12 9 8 10,c3 1 13 9 12,bP 2 6 (.eR [.int .i64 0,.string ⟨#[]⟩,.int .i64 0,.bool false,.slice none 0 0,.slice none 0 0,.string ⟨#[]⟩,.int .i64 0,.int .i64 0]),cV 3 9 6 13]) (.block 2 (.E (.I [aP 0 15 0 6,aS 1 16 15,kL 2 17 16 5,A 3 14 17]) (.bj (F 14) (.I [A 0 18 4,eB 1 19 18,A 2 4 19]) (.E (.I [aP 0 21 0 6,aS 1 22 21,xr 2 23 21 22 1 4,A 3 20 23]) (.bj (F 20) (.I [A 0 24 3,eB 1 25 24,A 2 3 25]) (.skip)))))))) (.I [eB 0 26 10,A 1 10 26])
def qD:U:= .E (.bj (F 11) (.skip) (.bI 0)) qE
def xo:U:= .E (.I [eX 0 11 10 9]) qD
def qF:U:= .E (.I [aP 0 27 1 1,aS 1 28 27,cu 2 29 28,eA 3 30 .leq (F 29) (.const (.int .i64 4)),A 4 31 30,iq 5 32 31 2 1,iy 6 33 31 32,sb 7 34 31 33,nZ 8 35 31 34 4,e7 9 36 31 35,A 10 37 36,hQ 11 38 37 3,nZ 12 39 37 38 40,e7 13 40 37 39,A 14 41 40,hQ 15 42 41 4,nZ 16 43 41 42 24,e7 17 44 41 43,A 18 45 44,iq 19 46 45 4 1,iy 20 47 45 46,sb 21 48 45 47,nZ 22 49 45 48 4,e7 23 50 45 49,A 24 51 50,iq 25 52 51 5 1,iy 26 53 51 52,sb 27 54 51 53,nZ 28 55 51 54 12,e7 29 56 51 55,A 30 2 56]) (.a7)
def ai4:U:= .E (.E (.I [aP 0 7 3 1,aS 1 8 7,cu 2 9 8,bQ 3 10 0]) (.block 0 (.loop xo))) qF
def ai3:U:= .E (.I [bQ 0 3 1,bQ 1 4 0]) ai4
def ai2:U:=
  .E (
  .I [
 hi 0 1 0,
 dE 1 2 false]) ai3
def YF:dn:=⟨57,[.bA 2],ai2⟩
theorem axl:dj Tryz.prog 36=some YF:=by kernel_rfl
def Qw:U:= .E (.I [A 0 14 0,iz 1 15 14,aP 2 16 17 15,aS 3 17 16,kL 4 18 17 0]) (.bj (F 18) (.I [A 0 19 2,c3 1 20 6 7,bP 2 21 (.lZ (F 19) [F 20])]) (.skip))
def Qv:U:= .E (.block 1 (.E (.I [cL 0 12 6 8 10,c3 1 13 6 12,bP 2 7 (.eR [.string ⟨#[]⟩,.slice none 0 0,.slice none 0 0,.slice none 0 0,.int .i64 0,.int .i64 0]),cV 3 6 7 13]) Qw)) (.I [eB 0 22 10,A 1 10 22])
def Qu:U:= .E (.bj (F 11) (.skip) (.bI 0)) Qv
def Qx:U:= .E (.I [eX 0 11 10 9]) Qu
def ai5:U:=
  .E (
  .I [
 A 0 8 1,
 cu 1 9 8,
 bQ 2 10 0]) (
  .block 0 (
  .loop Qx))
def YG:dn:=⟨23,[],ai5⟩
theorem axm:dj Tryz.prog 37=some YG:=by kernel_rfl
def KY:U:= .E (.I [A 0 4 0,A 1 5 0,iz 2 6 5,aP 3 7 7 6,aS 4 8 7,aP 5 9 0 3,aP 6 10 0 9,aS 7 11 10,A 8 12 0,iz 9 13 12,aP 10 14 0 13,aP 11 15 1 14,aS 12 16 15,cu 13 17 16,aP 14 18 4 3,c3 15 19 2 18,cj 16 20 101 [F 4,F 8,F 11,F 17,F 19],A 17 21 20,hQ 18 22 21 0,iq 19 23 21 0 3,ou 20 24 21 4 23,iq 22 26 21 4 3,ou 23 27 21 2 26,⟨21,some 25,some (21,true),.eI 9 [F 24],[(F 26,F 26)]⟩,dz 24 28 21 true (.eI 35 [F 22,F 25,.const (.int .i64 1),F 27]),e7 25 29 21 28]) (.bj (F 29) (.I [A 0 30 0,A 1 31 0,iz 2 32 31,aP 3 33 0 32,aP 4 34 1 33,aS 5 35 34,aP 6 36 0 3,c3 7 37 4 36,lp 8 38 (.eI 67 [F 37]) [(F 34,F 34)],bP 9 39 (.iT 4 1 [.string ⟨#[]⟩,.slice none 0 0,.slice none 0 0,.slice none 0 0] [(0,4,F 38)]),kM 10 40 4 88 35 39,iz 11 41 30,aP 12 42 0 41,aP 13 43 1 42,cV 14 1 43 40]) (.skip))
def KX:U:=
  .E (
  .I [
 hi 0 3 1]) KY
def GK:dn:=⟨44,[],KX⟩
theorem axn:dj Tryz.prog 38=some GK:=by kernel_rfl
def QA:U:= .E (.I [A 0 14 0,iz 1 15 14,aP 2 16 17 15,aS 3 17 16,kL 4 18 17 0]) (.bj (F 18) (.I [A 0 19 2,c3 1 20 6 7,bP 2 21 (.lZ (F 19) [F 20])]) (.skip))
def Qz:U:= .E (.block 1 (.E (.I [cL 0 12 6 8 10,c3 1 13 6 12,bP 2 7 (.eR [.string ⟨#[]⟩,.int .i64 0,.int .i64 0,.string ⟨#[]⟩,.int .i64 0,.int .i64 0]),cV 3 6 7 13]) QA)) (.I [eB 0 22 10,A 1 10 22])
def Qy:U:= .E (.bj (F 11) (.skip) (.bI 0)) Qz
def QB:U:= .E (.I [eX 0 11 10 9]) Qy
def ai6:U:=
  .E (
  .I [
 A 0 8 1,
 cu 1 9 8,
 bQ 2 10 0]) (
  .block 0 (
  .loop QB))
def YH:dn:=⟨23,[],ai6⟩
theorem axo:dj Tryz.prog 39=some YH:=by kernel_rfl
def Ad:U:= .E (.I [A 0 38 0,aP 1 39 1 3,aS 2 40 39,aP 9 47 4 3,c3 10 48 2 47,lp 3 41 (.eI 21 [F 40,.const (.int .i64 1),.const (.int .i64 16)]) [(F 47,F 47)],A 4 42 41,iq 5 43 42 2 3,iy 6 44 42 43,⟨7,some 45,some (42,true),.eI 21 [F 44,.const (.int .i64 1),.const (.int .i64 64)],[(F 47,F 47)]⟩,e7 8 46 42 45,uT 11 49 38 46 5 48]) (.I [A 0 50 0,A 1 51 0,iz 2 52 51,aP 3 53 0 52,aP 4 54 2 53,aS 5 55 54,aP 6 56 0 3,aS 7 57 56,aP 8 58 1 3,aS 9 59 58,aP 10 60 2 3,aS 11 61 60,A 12 62 4,bP 13 63 (.gT [.string ⟨#[]⟩,.int .i64 0,.int .i64 0,.int .i64 0] [(0,1,F 57),(1,1,F 59),(2,1,F 61),(3,1,F 62)]),bP 14 64 (.iT 4 1 [.string ⟨#[]⟩,.int .i64 0,.int .i64 0,.int .i64 0] [(0,4,F 63)]),kM 15 65 4 40 55 64,iz 16 66 50,aP 17 67 0 66,aP 18 68 2 67,cV 19 1 68 65])
def Ac:U:= .E (.I [A 0 33 0,A 1 34 5,aP 2 35 4 3,c3 3 36 2 35,uT 4 37 33 34 7 36]) Ad
def Ab:U:= .E (.I [A 0 24 0,iz 1 25 24,aP 2 26 7 25,aS 3 27 26,aP 4 28 3 3,aS 5 29 28,He 6 30 27 29,A 7 23 30,dD 8 31 0 23,dD 9 32 1 23,A 10 4 31,A 11 5 32]) Ac
def Aa:U:= .E (.E (.I [A 0 6 0,A 1 7 0,iz 2 8 7,aP 3 9 8 8,aS 4 10 9,aP 5 11 0 3,aS 6 12 11,A 7 13 0,iz 8 14 13,aP 9 15 0 14,aP 10 16 2 15,aS 11 17 16,cu 12 18 17,aP 13 19 4 3,c3 14 20 2 19,cj 15 21 101 [F 6,F 10,F 12,F 18,F 20],iF 16 22 21]) (.bj (F 22) (.a7) (.skip))) Ab
def z9:U:=
  .E (
  .I [
 hi 0 3 1]) Aa
def yw:dn:=⟨69,[],z9⟩
theorem axp:dj Tryz.prog 40=some yw:=by kernel_rfl
def QE:U:= .E (.I [A 0 14 0,iz 1 15 14,aP 2 16 17 15,aS 3 17 16,kL 4 18 17 0]) (.bj (F 18) (.I [A 0 19 2,c3 1 20 9 7,bP 2 21 (.lZ (F 19) [F 20])]) (.skip))
def QD:U:= .E (.block 1 (.E (.I [cL 0 12 9 8 10,c3 1 13 9 12,bP 2 7 (.eR [.int .i64 0,.string ⟨#[]⟩,.int .i64 0,.bool false,.slice none 0 0,.slice none 0 0,.string ⟨#[]⟩,.int .i64 0,.int .i64 0]),cV 3 9 7 13]) QE)) (.I [eB 0 22 10,A 1 10 22])
def QC:U:= .E (.bj (F 11) (.skip) (.bI 0)) QD
def QF:U:= .E (.I [eX 0 11 10 9]) QC
def ai7:U:=
  .E (
  .I [
 A 0 8 1,
 cu 1 9 8,
 bQ 2 10 0]) (
  .block 0 (
  .loop QF))
def YI:dn:=⟨23,[],ai7⟩
theorem axq:dj Tryz.prog 41=some YI:=by kernel_rfl
def jL:U:= .E (.I [A 0 75 0,A 1 76 0,iz 2 77 76,aP 3 78 0 77,aP 4 79 4 78,aS 5 80 79,aP 6 81 1 3,aS 7 82 81,A 8 83 4,A 9 84 0,iz 10 85 84,aP 11 86 12 85,bP 12 87 (.ph 1 5 (F 86) (.const (.int .i64 4))),aS 13 88 87,bP 14 89 (.gT [.string ⟨#[]⟩,.int .i64 0,.int .i64 0] [(0,1,F 82),(1,1,F 83),(2,1,F 88)]),bP 15 90 (.iT 3 1 [.string ⟨#[]⟩,.int .i64 0,.int .i64 0] [(0,3,F 89)]),kM 16 91 3 32 80 90,iz 17 92 75,aP 18 93 0 92,aP 19 94 4 93,cV 20 1 94 91]) (.a7)
def jK:U:= .E (.I [A 0 57 0,aP 1 58 2 3,aS 2 59 58,kL 3 60 59 0,A 4 61 60,iq 5 62 61 3 3,ou 6 63 61 3 62,aP 15 72 7 3,c3 16 73 2 72,⟨7,some 64,some (61,true),.eI 91 [F 63],[(F 72,F 72)]⟩,e7 8 65 61 64,A 9 66 65,iq 10 67 66 3 3,ou 11 68 66 3 67,⟨12,some 69,some (66,true),.eI 24 [F 68],[(F 72,F 72)]⟩,vW 13 70 66 69,e7 14 71 66 70,uT 17 74 57 71 1 73]) jL
def jJ:U:= .E (.I [A 0 52 0,A 1 53 5,aP 2 54 7 3,c3 3 55 2 54,uT 4 56 52 53 7 55]) jK
def KZ:U:= .E (.block 1 (.I [A 0 134 0,A 1 135 6,iz 2 136 134,aP 3 137 12 136,bP 4 138 (.ph 1 5 (F 137) (F 135)),D1 5 (.store 1 (F 138) (.const (.int .i64 (-1))))])) (.I [A 0 132 6,eB 1 133 132,A 2 6 133])
def Ae:U:= .E (.E (.I [A 0 130 6,oO 1 131 130 5]) (.bj (F 131) (.skip) (.bI 0))) KZ
def jP:U:= .E (.E (.I [aP 0 127 0 3,aS 1 128 127,eB 2 129 128,A 3 6 129]) (.block 0 (.loop Ae))) (.I [A 0 139 0,A 1 140 0,iz 2 141 140,aP 3 142 0 141,aP 4 143 3 142,aS 5 144 143,aP 6 145 1 3,aS 7 146 145,aP 8 147 0 3,aS 9 148 147,A 10 149 0,aP 11 150 0 3,aS 12 151 150,lM 13 152 151 1,iz 14 153 149,aP 15 154 12 153,bP 16 155 (.ph 1 5 (F 154) (F 152)),aS 17 156 155,aP 18 157 2 3,aS 19 158 157,aP 20 159 3 3,c3 21 160 3 159,LD 22 161 160,lp 23 162 (.eI 68 [F 161]) [(F 157,F 157),(F 155,F 155),(F 150,F 150),(F 147,F 147),(F 145,F 145),(F 143,F 143)],Ca 24 163 3 162 0,c3 25 164 3 163,ZF 26 165 146 148 156 158 164,LC 27 166 165,kM 28 167 7 96 144 166,iz 29 168 139,aP 30 169 0 168,aP 31 170 3 169,cV 32 1 170 167])
def jO:U:= .E (.I [A 0 115 0,aP 1 116 0 3,aS 2 117 116,A 3 118 0,iz 4 119 118,aP 5 120 0 119,aP 6 121 3 120,aS 7 122 121,cu 8 123 122,iz 9 124 115,aP 10 125 12 124,bP 11 126 (.ph 1 5 (F 125) (F 117)),cV 12 1 126 123]) jP
def jN:U:= .E (.E (.I [A 0 102 0,aP 1 103 3 3,c3 2 104 3 103,aP 9 111 7 3,c3 10 112 2 111,lp 3 105 (.eI 23 [F 104]) [(F 111,F 111)],A 4 106 105,iq 5 107 106 6 3,iy 6 108 106 107,dz 7 109 106 true (.gz .eql .hM (F 108) (.const (.string ⟨#[]⟩))),e7 8 110 106 109,uT 11 113 102 110 1 112,iF 12 114 113]) (.bj (F 114) (.a7) (.skip))) jO
def jM:U:= .E (.I [A 0 95 0,aP 1 96 2 3,aS 2 97 96,aP 4 99 7 3,c3 5 100 2 99,lp 3 98 (.eI 21 [F 97,.const (.int .i64 1),.const (.int .i64 64)]) [(F 99,F 99)],uT 6 101 95 98 5 100]) jN
def jI:U:= .E (.E (.I [aP 0 39 0 3,aS 1 40 39,kL 2 41 40 5]) (.bj (F 41) (.E (.I [A 0 43 0,iz 1 44 43,aP 2 45 8 44,aS 3 46 45,aP 4 47 6 3,aS 5 48 47,He 6 49 46 48,A 7 42 49,dD 8 50 0 42,dD 9 51 1 42,A 10 4 50,A 11 5 51]) jJ) (.skip))) jM
def jH:U:= .E (.E (.I [A 0 7 0,A 1 8 0,iz 2 9 8,aP 3 10 9 9,aS 4 11 10,aP 5 12 1 3,aS 6 13 12,aP 7 14 7 3,c3 8 15 2 14,cj 9 16 101 [F 7,F 11,F 13,.const (.int .i64 0),F 15],iF 10 17 16,A 11 18 17,fi 12 19 18 0,eG 13 20 18 0 3,e8 14 21 18 20,eG 27 34 18 7 3,kx 28 35 18 2 34,⟨15,some 22,some (18,false),.eI 21 [F 21,.const (.int .i64 1),.const (.int .i64 5)],[(F 34,F 34)]⟩,fi 16 23 18 22,hQ 17 24 23 0,iq 18 25 23 0 3,iy 19 26 23 25,B9 20 27 23 26,dz 21 28 23 true (.Az (F 24)),iq 22 29 23 12 28,dz 23 30 23 true (.ph 1 5 (F 29) (F 27)),iy 24 31 23 30,dz 25 32 23 true (.gz .geq .hM (F 31) (.const (.int .i64 0))),Hc 26 33 18 23 32,dz 29 36 18 false (.eI 35 [F 19,F 33,.const (.int .i64 1),F 35]),jR 30 37 18 36,dL 31 38 18 37]) (.bj (F 38) (.a7) (.skip))) jI
def jG:U:=
  .E (
  .I [
 hi 0 3 1]) jH
def jt:dn:=⟨171,[],jG⟩
theorem axr:dj Tryz.prog 42=some jt:=by kernel_rfl
def QI:U:= .E (.I [A 0 14 0,iz 1 15 14,aP 2 16 17 15,aS 3 17 16,kL 4 18 17 0]) (.bj (F 18) (.I [A 0 19 2,c3 1 20 19 7,bP 2 21 (.lZ (F 19) [F 20])]) (.skip))
def QH:U:= .E (.block 1 (.E (.I [cL 0 12 19 8 10,c3 1 13 19 12,bP 2 7 (.eR [.string ⟨#[]⟩,.int .i64 0,.int .i64 0,.int .i64 0,.int .i64 0,.int .i64 0,.int .i64 0,.int .i64 0,.int .i64 0,.slice none 0 0,.slice none 0 0,.bool false,.slice none 0 0,.slice none 0 0,.bool false,.slice none 0 0,.slice none 0 0,.int .i64 0,.int .i64 0]),cV 3 19 7 13]) QI)) (.I [eB 0 22 10,A 1 10 22])
def QG:U:= .E (.bj (F 11) (.skip) (.bI 0)) QH
def QJ:U:= .E (.I [eX 0 11 10 9]) QG
def ai8:U:=
  .E (
  .I [
 A 0 8 1,
 cu 1 9 8,
 bQ 2 10 0]) (
  .block 0 (
  .loop QJ))
def YJ:dn:=⟨23,[],ai8⟩
theorem axs:dj Tryz.prog 43=some YJ:=by kernel_rfl
def GS:U:= .E (.I [A 0 73 0,A 1 74 8,aP 2 75 17 3,c3 3 76 2 75,uT 4 77 73 74 7 76]) (.I [A 0 78 4,A 1 79 7,bP 2 80 (.iT 1 1 [.int .i64 0] [(0,1,F 79)]),kM 3 81 1 8 78 80,A 4 4 81])
def GR:U:= .E (.I [A 0 65 0,iz 1 66 65,aP 2 67 8 66,aS 3 68 67,A 4 69 6,He 5 70 68 69,A 6 64 70,dD 7 71 0 64,dD 8 72 1 64,A 9 7 71,A 10 8 72]) GS
def GQ:U:= .E (.block 1 (.E (.I [cL 0 62 1 58 60,aS 1 63 62,A 2 6 63]) GR)) (.I [eB 0 82 60,A 1 60 82])
def GP:U:= .E (.bj (F 61) (.skip) (.bI 0)) GQ
def Ei:U:= .E (.I [eX 0 61 60 59]) GP
def B2:U:= .E (.I [A 0 97 0,A 1 98 9,A 2 99 11,cL 3 100 1 98 99,aS 4 101 100,iF 5 102 101,aP 6 103 17 3,c3 7 104 2 103,uT 8 105 97 102 8 104]) (.I [A 0 106 9,A 1 107 11,cL 2 108 1 106 107,D1 3 (.store 1 (F 108) (.const (.bool true)))])
def B1:U:= .E (.block 3 (.E (.I [cL 0 95 1 91 93,aS 1 96 95,A 2 11 96]) B2)) (.I [eB 0 109 93,A 1 93 109])
def B0:U:= .E (.bj (F 94) (.skip) (.bI 2)) B1
def Ag:U:= .E (.I [eX 0 94 93 92]) B0
def Af:U:= .E (.I [A 0 110 0,aP 1 111 2 3,aS 2 112 111,aP 3 113 10 3,aS 4 114 113,aP 5 115 11 3,c3 6 116 3 115,aP 7 117 14 3,c3 8 118 3 117,aP 10 120 17 3,c3 11 121 2 120,lp 9 119 (.eI 103 [F 112,F 114,F 116,F 118]) [(F 120,F 120)],uT 12 122 110 119 5 121]) (.bj (F 122) (.E (.I [aP 0 123 11 3,c3 1 124 3 123,aP 2 125 14 3,c3 3 126 3 125,bP 4 127 (.iT 3 2 [.bool false,.slice none 0 0,.slice none 0 0,.bool false,.slice none 0 0,.slice none 0 0] [(0,3,F 124),(3,3,F 126)]),cj 5 128 68 [F 127],A 6 12 128]) (.I [A 0 129 0,A 1 130 0,iz 2 131 130,aP 3 132 0 131,aP 4 133 5 132,aS 5 134 133,aP 6 135 0 3,aS 7 136 135,aP 8 137 1 3,aS 9 138 137,aP 10 139 2 3,aS 11 140 139,aP 12 141 3 3,aS 13 142 141,aP 14 143 4 3,c3 15 144 5 143,A 16 145 4,aP 17 146 10 3,aS 18 147 146,A 20 149 12,Ca 21 150 3 149 0,c3 22 151 3 150,A 23 152 12,Ca 24 153 3 152 1,c3 25 154 3 153,lp 19 148 (.eI 68 [F 147]) [(F 153,F 153),(F 150,F 150),(F 143,F 143),(F 141,F 141),(F 139,F 139),(F 137,F 137),(F 135,F 135),(F 133,F 133)],bP 26 155 (.gT [.string ⟨#[]⟩,.int .i64 0,.int .i64 0,.int .i64 0,.int .i64 0,.int .i64 0,.int .i64 0,.int .i64 0,.int .i64 0,.slice none 0 0,.slice none 0 0,.bool false,.slice none 0 0,.slice none 0 0,.bool false,.slice none 0 0,.slice none 0 0] [(0,1,F 136),(1,1,F 138),(2,1,F 140),(3,1,F 142),(4,5,F 144),(9,1,F 145),(10,1,F 148),(11,3,F 151),(14,3,F 154)]),ZG 27 156 155,kM 28 157 17 240 134 156,iz 29 158 129,aP 30 159 0 158,aP 31 160 5 159,cV 32 1 160 157])) (.skip))
def GV:U:= .E (.E (.I [A 0 91 4,cu 1 92 91,bQ 2 93 0]) (.block 2 (.loop Ag))) Af
def GU:U:= .E (.I [A 0 83 0,iz 1 84 83,aP 2 85 0 84,aP 3 86 2 85,aS 4 87 86,cu 5 88 87,eB 6 89 88,bP 7 90 (.nk 1 1 [.bool false] (F 89) (F 89)),A 8 9 90]) GV
def GO:U:= .E (.E (.I [aP 0 57 9 3,aS 1 58 57,cu 2 59 58,bQ 3 60 0]) (.block 0 (.loop Ei))) GU
def GN:U:= .E (.I [fQ 0 4]) GO
def GM:U:= .E (.E (.I [A 0 13 0,A 1 14 0,iz 2 15 14,aP 3 16 10 15,aS 4 17 16,aP 5 18 0 3,aS 6 19 18,A 7 20 0,iz 8 21 20,aP 9 22 0 21,aP 10 23 5 22,aS 11 24 23,cu 12 25 24,aP 13 26 17 3,c3 14 27 2 26,cj 15 28 101 [F 13,F 17,F 19,F 25,F 27],iF 16 29 28,A 17 30 29,fi 18 31 30 0,eG 19 32 30 1 3,e8 20 33 30 32,eG 21 34 30 2 3,e8 22 35 30 34,eG 23 36 30 3 3,e8 24 37 30 36,eG 25 38 30 4 3,kx 26 39 30 5 38,eG 28 41 30 17 3,kx 29 42 30 2 41,⟨27,some 40,some (30,false),.eI 102 [F 33,F 35,F 37,F 39],[(F 41,F 41)]⟩,dz 30 43 30 false (.eI 35 [F 31,F 40,.const (.int .i64 5),F 42]),jR 31 44 30 43,dL 32 45 30 44,A 33 46 45,fi 34 47 46 0,eG 35 48 46 9 3,e8 36 49 46 48,lB 37 50 46 49,oQ 38 51 46 50 0,eG 39 52 46 17 3,kx 40 53 46 2 52,dz 41 54 46 false (.eI 35 [F 47,F 51,.const (.int .i64 1),F 53]),jR 42 55 46 54,dL 43 56 46 55]) (.bj (F 56) (.a7) (.skip))) GN
def GL:U:=
  .E (
  .I [
 hi 0 3 1]) GM
def Eh:dn:=⟨161,[],GL⟩
theorem axt:dj Tryz.prog 44=some Eh:=by kernel_rfl
def QM:U:= .E (.I [A 0 14 0,iz 1 15 14,aP 2 16 17 15,aS 3 17 16,kL 4 18 17 0]) (.bj (F 18) (.I [A 0 19 2,c3 1 20 4 7,bP 2 21 (.lZ (F 19) [F 20])]) (.skip))
def QL:U:= .E (.block 1 (.E (.I [cL 0 12 4 8 10,c3 1 13 4 12,bP 2 7 (.eR [.string ⟨#[]⟩,.string ⟨#[]⟩,.int .i64 0,.int .i64 0]),cV 3 4 7 13]) QM)) (.I [eB 0 22 10,A 1 10 22])
def QK:U:= .E (.bj (F 11) (.skip) (.bI 0)) QL
def QN:U:= .E (.I [eX 0 11 10 9]) QK
def ai9:U:=
  .E (
  .I [
 A 0 8 1,
 cu 1 9 8,
 bQ 2 10 0]) (
  .block 0 (
  .loop QN))
def YK:dn:=⟨23,[],ai9⟩
theorem axu:dj Tryz.prog 45=some YK:=by kernel_rfl
def K3:U:= .E (.I [A 0 33 0,A 1 34 5,aP 2 35 2 3,c3 3 36 2 35,uT 4 37 33 34 7 36]) (.I [A 0 38 0,A 1 39 0,iz 2 40 39,aP 3 41 0 40,aP 4 42 6 41,aS 5 43 42,aP 6 44 0 3,aS 7 45 44,A 8 46 4,bP 9 47 (.gT [.string ⟨#[]⟩,.int .i64 0] [(0,1,F 45),(1,1,F 46)]),bP 10 48 (.iT 2 1 [.string ⟨#[]⟩,.int .i64 0] [(0,2,F 47)]),kM 11 49 2 24 43 48,iz 12 50 38,aP 13 51 0 50,aP 14 52 6 51,cV 15 1 52 49])
def K2:U:= .E (.I [A 0 24 0,iz 1 25 24,aP 2 26 10 25,aS 3 27 26,aP 4 28 1 3,aS 5 29 28,He 6 30 27 29,A 7 23 30,dD 8 31 0 23,dD 9 32 1 23,A 10 4 31,A 11 5 32]) K3
def K1:U:= .E (.E (.I [A 0 6 0,A 1 7 0,iz 2 8 7,aP 3 9 11 8,aS 4 10 9,aP 5 11 0 3,aS 6 12 11,A 7 13 0,iz 8 14 13,aP 9 15 0 14,aP 10 16 6 15,aS 11 17 16,cu 12 18 17,aP 13 19 2 3,c3 14 20 2 19,cj 15 21 101 [F 6,F 10,F 12,F 18,F 20],iF 16 22 21]) (.bj (F 22) (.a7) (.skip))) K2
def K0:U:=
  .E (
  .I [
 hi 0 3 1]) K1
def GW:dn:=⟨53,[],K0⟩
theorem axv:dj Tryz.prog 46=some GW:=by kernel_rfl
def Q9:U:= .E (.I [aP 0 52 2 5,aS 1 53 52,A 2 54 4,cj 3 55 21 [F 53,.const (.int .i64 0),F 54],iF 4 56 55,A 5 57 56,eG 6 58 57 3 1,e8 7 59 57 58,eG 8 60 57 2 5,e8 9 61 57 60,vX 10 62 57 7 59 61,eG 11 63 57 1 62,e8 12 64 57 63,eG 13 65 57 1 5,e8 14 66 57 65,dz 15 67 57 false (.gz .sub .hM (F 66) (.const (.int .i64 1))),qI 16 68 57 64 67,dL 17 69 57 68,A 18 70 69,eG 19 71 70 1 5,e8 20 72 70 71,LB 21 73 70 21 72 1 4,jR 22 74 70 73,dL 23 75 70 74,A 24 76 75,eG 25 77 76 3 5,e8 26 78 76 77,LB 27 79 76 21 78 1 64,jR 28 80 76 79,dL 29 81 76 80,A 30 82 81,eG 31 83 82 4 5,kx 32 84 82 3 83,ky 33 85 82 23 84,jR 34 86 82 85,dL 35 87 82 86]) (.bj (F 87) (.E (.I [dE 0 2 false]) (.a7)) (.skip))
def Q8:U:= .E (.block 1 (.E (.I [A 0 49 47,cL 1 50 7 45 47,c3 2 51 7 50,bP 3 5 (.eR [.string ⟨#[]⟩,.int .i64 0,.int .i64 0,.int .i64 0,.bool false,.slice none 0 0,.slice none 0 0]),A 4 4 49,cV 5 7 5 51]) Q9)) (.I [eB 0 88 47,A 1 47 88])
def Q7:U:= .E (.bj (F 48) (.skip) (.bI 0)) Q8
def Y8:U:= .E (.I [eX 0 48 47 46]) Q7
def Ra:U:= .E (.I [dE 0 2 true]) (.a7)
def ajJ:U:= .E (.E (.I [aP 0 43 3 1,aS 1 44 43,bP 2 45 (.pv 7 (F 44) (some (.const (.int .i64 1))) none),cu 3 46 45,bQ 4 47 0]) (.block 0 (.loop Y8))) Ra
def ajI:U:= .E (.E (.I [aP 0 14 0 3,aS 1 15 14,eA 2 16 .neq (F 15) (.const (.string ⟨#[]⟩)),A 3 17 16,eG 4 18 17 1 3,e8 5 19 17 18,Es 6 20 17 19,dL 7 21 17 20,A 8 22 21,eG 9 23 22 2 3,e8 10 24 22 23,dz 11 25 22 false (.gz .neq .hM (F 24) (.const (.int .i64 (-1)))),dL 12 26 22 25,A 13 27 26,eG 14 28 27 3 3,e8 15 29 27 28,Es 16 30 27 29,dL 17 31 27 30,A 18 32 31,eG 19 33 32 4 3,kx 20 34 32 3 33,ky 21 35 32 23 34,jR 22 36 32 35,dL 23 37 32 36,A 24 38 37,eG 25 39 38 4 3,kx 26 40 38 3 39,ky 27 41 38 24 40,dL 28 42 38 41]) (.bj (F 42) (.E (.I [dE 0 2 false]) (.a7)) (.skip))) ajJ
def ajH:U:= .E (.I [aP 0 10 3 1,aS 1 11 10,Ca 2 12 7 11 0,c3 3 13 7 12,bP 4 3 (.eR [.string ⟨#[]⟩,.int .i64 0,.int .i64 0,.int .i64 0,.bool false,.slice none 0 0,.slice none 0 0]),cV 5 7 3 13]) ajI
def ajG:U:= .E (.E (.I [aP 0 6 3 1,aS 1 7 6,cu 2 8 7,kL 3 9 8 0]) (.bj (F 9) (.E (.I [dE 0 2 false]) (.a7)) (.skip))) ajH
def ajF:U:=
  .E (
  .I [
 hi 0 1 0,
 dE 1 2 false]) ajG
def Y7:dn:=⟨89,[.bA 2],ajF⟩
theorem axQ:dj Tryz.prog 63=some Y7:=by kernel_rfl
def Rd:U:= .E (.E (.I [A 0 45 7,A 1 46 1,lM 2 47 46 1,cj 3 48 21 [F 45,.const (.int .i64 0),F 47],iF 4 49 48,A 5 50 49,fi 6 51 50 5,fi 7 52 50 7,vX 8 53 50 1 51 52,e8 9 54 50 53,dL 10 55 50 54]) (.bj (F 55) (.E (.I [dE 0 4 false]) (.a7)) (.skip))) (.I [A 0 56 5,A 1 57 7,cL 2 58 1 56 57,D1 3 (.store 1 (F 58) (.const (.bool true)))])
def Rc:U:= .E (.block 1 (.E (.I [cL 0 43 1 39 41,aS 1 44 43,A 2 7 44]) Rd)) (.I [eB 0 59 41,A 1 41 59])
def Rb:U:= .E (.bj (F 42) (.skip) (.bI 0)) Rc
def Za:U:= .E (.I [eX 0 42 41 40]) Rb
def Re:U:= .E (.I [dE 0 4 true]) (.a7)
def ajN:U:= .E (.E (.I [aP 0 38 9 2,aS 1 39 38,cu 2 40 39,bQ 3 41 0]) (.block 0 (.loop Za))) Re
def ajM:U:= .E (.I [A 0 36 1,bP 1 37 (.nk 1 1 [.bool false] (F 36) (F 36)),A 2 5 37]) ajN
def ajL:U:= .E (.E (.I [aP 0 8 1 2,aS 1 9 8,aP 2 10 2 2,aS 3 11 10,aP 4 12 3 2,aS 5 13 12,aP 6 14 4 2,c3 7 15 5 14,cj 8 16 102 [F 9,F 11,F 13,F 15],iF 9 17 16,A 10 18 17,eG 11 19 18 9 2,e8 12 20 18 19,lB 13 21 18 20,dz 14 22 18 false (.gz .eql .hM (F 21) (.const (.int .i64 0))),dL 15 23 18 22,A 16 24 23,eG 17 25 24 2 2,e8 18 26 24 25,eG 19 27 24 10 2,e8 20 28 24 27,eG 21 29 24 11 2,kx 22 30 24 3 29,eG 23 31 24 14 2,kx 24 32 24 3 31,dz 25 33 24 false (.eI 103 [F 26,F 28,F 30,F 32]),jR 26 34 24 33,dL 27 35 24 34]) (.bj (F 35) (.E (.I [dE 0 4 false]) (.a7)) (.skip))) ajM
def ajK:U:=
  .E (
  .I [
 hi 0 2 0,
 dE 1 4 false]) ajL
def Y9:dn:=⟨60,[.bA 4],ajK⟩
theorem axR:dj Tryz.prog 64=some Y9:=by kernel_rfl
def Rh:U:= .E (.E (.I [A 0 13 5,cj 1 14 112 [F 13],iF 2 15 14,A 3 16 15,fi 4 17 16 3,fi 5 18 16 5,dz 6 19 16 false (.pY .str (.bool false) false (F 17) (F 18)),dL 7 20 16 19]) (.bj (F 20) (.E (.I [dE 0 2 false]) (.a7)) (.skip))) (.I [A 0 21 3,A 1 22 5,D1 2 (.pl .str (F 21) (F 22) (.const (.bool true)))])
def Rg:U:= .E (.block 1 (.E (.I [cL 0 11 1 7 9,aS 1 12 11,A 2 5 12]) Rh)) (.I [eB 0 23 9,A 1 9 23])
def Rf:U:= .E (.bj (F 10) (.skip) (.bI 0)) Rg
def Zc:U:= .E (.I [eX 0 10 9 8]) Rf
def Ri:U:= .E (.I [dE 0 2 true]) (.a7)
def ajQ:U:= .E (.E (.I [A 0 7 0,cu 1 8 7,bQ 2 9 0]) (.block 0 (.loop Zc))) Ri
def ajP:U:= .E (.I [bP 0 6 (.oS),A 1 3 6]) ajQ
def ajO:U:=
  .E (
  .I [
 dE 0 2 false]) ajP
def Zb:dn:=⟨24,[.bA 2],ajO⟩
theorem axS:dj Tryz.prog 65=some Zb:=by kernel_rfl
def Zf:U:= .E (.block 1 (.E (.I [cL 0 20 1 16 18,aS 1 21 20,A 2 5 21]) (.I [aP 0 22 2 3,aS 1 23 22,A 2 24 5,lp 3 25 (.eI 68 [F 24]) [(F 22,F 22)],bP 4 26 (.iT 1 1 [.slice none 0 0] [(0,1,F 25)]),kM 5 27 1 24 23 26,aP 6 28 2 3,cV 7 1 28 27]))) (.I [eB 0 29 18,A 1 18 29])
def Ze:U:= .E (.bj (F 19) (.skip) (.bI 0)) Zf
def Rj:U:= .E (.I [eX 0 19 18 17]) Ze
def ajU:U:= .E (.I [c3 0 30 4 3,cV 1 4 2 30]) (.a7)
def ajT:U:= .E (.E (.I [aP 0 15 2 1,aS 1 16 15,cu 2 17 16,bQ 3 18 0]) (.block 0 (.loop Rj))) ajU
def ajS:U:= .E (.I [aP 0 6 0 1,aS 1 7 6,aP 2 8 1 1,aS 3 9 8,aP 5 11 3 1,aS 6 12 11,lp 4 10 (.eI 68 [F 9]) [(F 11,F 11),(F 6,F 6)],lp 7 13 (.eI 68 [F 12]) [(F 6,F 6)],bP 8 14 (.gT [.string ⟨#[]⟩,.slice none 0 0,.slice none 0 0,.slice none 0 0] [(0,1,F 7),(1,1,F 10),(3,1,F 13)]),bP 9 3 (.eR [.string ⟨#[]⟩,.slice none 0 0,.slice none 0 0,.slice none 0 0]),cV 10 4 3 14]) ajT
def ajR:U:=
  .E (
  .I [
 hi 0 1 0,
 bP 1 2 (.eR [.string ⟨#[]⟩,.slice none 0 0,.slice none 0 0,.slice none 0 0])]) ajS
def Zd:dn:=⟨31,[.h7 2 true 4],ajR⟩
theorem axT:dj Tryz.prog 67=some Zd:=by kernel_rfl
def Zj:U:= .E (.I [c3 0 15 3 5,cj 1 16 86 [F 15],A 2 14 16,dD 3 17 0 14,dD 4 18 1 14,bP 5 6 (.eR [.bool false,.slice none 0 0,.slice none 0 0]),cV 6 3 6 17,A 7 7 18]) (.I [A 0 19 3,c3 1 20 3 6,LD 2 21 20,kM 3 22 3 56 19 21,A 4 3 22])
def Zi:U:= .E (.block 1 (.E (.I [cL 0 12 3 8 10,c3 1 13 3 12,bP 2 5 (.eR [.bool false,.slice none 0 0,.slice none 0 0]),cV 3 3 5 13]) Zj)) (.I [eB 0 23 10,A 1 10 23])
def Zh:U:= .E (.bj (F 11) (.skip) (.bI 0)) Zi
def Rk:U:= .E (.I [eX 0 11 10 9]) Zh
def ajY:U:= .E (.I [A 0 24 3,A 1 2 24]) (.a7)
def ajX:U:= .E (.E (.I [A 0 8 0,cu 1 9 8,bQ 2 10 0]) (.block 0 (.loop Rk))) ajY
def ajW:U:= .E (.I [fQ 0 3]) ajX
def ajV:U:=
  .E (
  .I [
 fQ 0 2]) ajW
def Zg:dn:=⟨25,[.bA 2],ajV⟩
theorem axU:dj Tryz.prog 68=some Zg:=by kernel_rfl
def RD:U:= .E (.I [A 0 13 1,A 1 14 6,bP 2 15 (.lZ (F 13) [F 14]),iF 3 16 15]) (.bj (F 16) (.E (.I [dE 0 4 false]) (.a7)) (.skip))
def RC:U:= .E (.block 1 (.E (.I [cL 0 11 1 7 9,aS 1 12 11,A 2 6 12]) RD)) (.I [eB 0 17 9,A 1 9 17])
def RB:U:= .E (.bj (F 10) (.skip) (.bI 0)) RC
def Lv:U:= .E (.I [eX 0 10 9 8]) RB
def Lu:U:= .E (.I [dE 0 4 true]) (.a7)
def akl:U:= .E (.E (.I [A 0 7 0,cu 1 8 7,bQ 2 9 0]) (.block 0 (.loop Lv))) Lu
def Zz:U:=
  .E (
  .I [
 dE 0 4 false]) akl
def ayh:dn:=⟨18,[.bA 4],Zz⟩
theorem ayi:dj Tryz.prog 95=some ayh:=by kernel_rfl
theorem aqQ{args:List Value}{m:B}{az:Value->B->Prop}(h:args.length<=18):bJ Tryz.prog 95 args m az=ch Tryz.prog Zz (eu args) m (ey [.bA 4] az):=fD ayi h
def akm:U:= .E (.I [A 0 3 0,A 1 2 3]) (.a7)
def ZA:U:=
  .E (
  .I [
 dE 0 2 false]) akm
def ayj:dn:=⟨4,[.bA 2],ZA⟩
theorem ayk:dj Tryz.prog 96=some ayj:=by kernel_rfl
theorem aqR{args:List Value}{m:B}{az:Value->B->Prop}(h:args.length<=4):bJ Tryz.prog 96 args m az=ch Tryz.prog ZA (eu args) m (ey [.bA 2] az):=fD ayk h
def J3:U:= .E (.I [dE 0 10 true]) (.a7)
def J2:U:= .E (.I [A 0 33 1,A 1 34 2,A 2 35 3,D1 3 (.pl .str (F 33) (F 34) (F 35))]) J3
def J1:U:= .E (.E (.I [A 0 19 0,A 1 20 2,c3 3 22 2 9,lp 2 21 (.eI 112 [F 20]) [(F 9,F 9)],uT 4 23 19 21 1 22,iF 5 24 23,A 6 25 24,fi 7 26 25 0,fi 8 27 25 12,jR 9 28 25 27,kx 10 29 25 2 9,dz 11 30 25 false (.eI 35 [F 26,F 28,.const (.int .i64 8),F 29]),jR 12 31 25 30,dL 13 32 25 31]) (.bj (F 32) (.E (.I [dE 0 10 false]) (.a7)) (.skip))) J2
def J0:U:= .E (.I [A 0 14 1,A 1 15 2,He 2 16 14 15,A 3 13 16,dD 4 17 0 13,dD 5 18 1 13,A 6 11 17,A 7 12 18]) J1
def Gk:U:=
  .E (
  .I [
 hi 0 9 4,
 dE 1 10 false]) J0
def afY:dn:=⟨36,[.bA 10],Gk⟩
theorem avq:dj Tryz.prog 101=some afY:=by kernel_rfl
def D4:U:= .E (.I [bP 0 37 (.sq 1 5 (F 7)),cj 1 38 140 [F 37,.func 141],A 2 8 38]) (.a7)
def D3:U:= .E (.E (.I [A 0 9 0,xr 1 10 21 9 1 6,iF 2 11 10,A 3 12 11,fi 4 13 12 1,LB 5 14 12 21 13 0 4,jR 6 15 12 14,dL 7 16 12 15,A 8 17 16,fi 9 18 17 0,fi 10 19 17 1,dz 11 20 17 false (.gz .add .hM (F 18) (F 19)),oQ 12 21 17 20 8,dL 13 22 17 21,A 14 23 22,fi 15 24 23 2,fi 16 25 23 0,fi 17 26 23 0,fi 18 27 23 1,dz 19 28 23 false (.gz .add .hM (F 26) (F 27)),dz 20 29 23 false (.eI 21 [F 24,F 25,F 28]),jR 21 30 23 29,dL 22 31 23 30,A 23 32 31,dz 24 33 32 false (.ph 1 5 (F 7) (.const (.int .i64 0))),e8 25 34 32 33,Es 26 35 32 34,dL 27 36 32 35]) (.bj (F 36) (.E (.I [dE 0 8 false]) (.a7)) (.skip))) D4
def D2:U:=
  .E (
  .I [
 hi 0 7 3,
 dE 1 8 false]) D3
def BS:dn:=⟨39,[.bA 8],D2⟩
theorem avr:dj Tryz.prog 102=some BS:=by kernel_rfl
def J5:U:= .E (.I [A 0 9 1,cu 1 10 9,A 2 11 0,bP 3 12 (.xy true (F 11) [.const (.int .i64 1)]),eA 4 13 .eql (F 10) (F 12),A 5 14 13,hQ 6 15 14 1,dz 7 16 14 true (.eI 22 [F 15,.func 142]),e7 8 17 14 16,A 9 18 17,ou 10 19 18 3 6,oP 11 20 18 23 19,e7 12 21 18 20,A 13 22 21,ou 14 23 22 3 6,oP 15 24 22 143 23,e7 16 25 22 24,A 17 26 25,ou 18 27 26 3 7,oP 19 28 26 23 27,e7 20 29 26 28,A 21 8 29]) (.a7)
def J4:U:=
  .E (
  .I [
 hi 0 6 2,
 hi 1 7 3,
 dE 2 8 false]) J5
def Gl:dn:=⟨30,[.bA 8],J4⟩
theorem avs:dj Tryz.prog 103=some Gl:=by kernel_rfl
def KH:U:= .E (.I [A 0 13 1,A 1 14 6,bP 2 15 (.lZ (F 13) [F 14]),iF 3 16 15]) (.bj (F 16) (.E (.I [dE 0 4 false]) (.a7)) (.skip))
def KG:U:= .E (.block 1 (.E (.I [cL 0 11 1 7 9,aS 1 12 11,A 2 6 12]) KH)) (.I [eB 0 17 9,A 1 9 17])
def KF:U:= .E (.bj (F 10) (.skip) (.bI 0)) KG
def Pv:U:= .E (.I [eX 0 10 9 8]) KF
def KI:U:= .E (.I [dE 0 4 true]) (.a7)
def ahb:U:= .E (.E (.I [A 0 7 0,cu 1 8 7,bQ 2 9 0]) (.block 0 (.loop Pv))) KI
def aha:U:=
  .E (
  .I [
 dE 0 4 false]) ahb
def Xa:dn:=⟨18,[.bA 4],aha⟩
theorem av9:dj Tryz.prog 140=some Xa:=by kernel_rfl
def ahd:U:= .E (.I [A 0 3 0,xr 1 4 21 3 0 8,A 2 2 4]) (.a7)
def ahc:U:=
  .E (
  .I [
 dE 0 2 false]) ahd
def Xb:dn:=⟨5,[.bA 2],ahc⟩
theorem awa:dj Tryz.prog 141=some Xb:=by kernel_rfl
def ahf:U:= .E (.I [c3 0 3 3 1,cj 1 4 23 [F 3],A 2 5 4,ou 3 6 5 3 1,oP 4 7 5 24 6,e7 5 8 5 7,A 6 2 8]) (.a7)
def ahe:U:=
  .E (
  .I [
 hi 0 1 0,
 dE 1 2 false]) ahf
def Xc:dn:=⟨9,[.bA 2],ahe⟩
theorem awb:dj Tryz.prog 142=some Xc:=by kernel_rfl
def ahj:U:= .E (.I [A 0 17 6,kL 1 18 17 0,A 2 19 18,hQ 3 20 19 5,nZ 4 21 19 20 0,e7 5 22 19 21,A 6 2 22]) (.a7)
def ahi:U:= .E (.I [c3 0 12 3 1,c3 1 13 3 3,gj 2 14 27 12 13,A 3 11 14,dD 4 15 0 11,dD 5 16 1 11,A 6 5 15,A 7 6 16]) ahj
def ahh:U:= .E (.I [cj 0 8 26 [.const (.int .i64 1),.const (.int .i64 1)],A 1 7 8,dD 2 9 0 7,dD 3 10 1 7,bP 4 3 (.eR [.bool false,.slice none 0 0,.slice none 0 0]),cV 5 3 3 9,A 6 4 10]) ahi
def ahg:U:=
  .E (
  .I [
 hi 0 1 0,
 dE 1 2 false]) ahh
def Xd:dn:=⟨23,[.bA 2],ahg⟩
theorem awc:dj Tryz.prog 143=some Xd:=by kernel_rfl
def Wu:U:= .E (.block 1 (.E (.I [aP 0 47 2 1,aS 1 48 47,A 2 49 4,cL 3 50 1 48 49,aS 4 51 50,A 5 52 3,gj 6 53 29 51 52,iF 7 54 53,A 8 55 54,eG 9 56 55 2 1,e8 10 57 55 56,fi 11 58 55 4,vX 12 59 55 1 57 58,e8 13 60 55 59,fi 14 61 55 4,vX 15 62 55 3 60 61,kx 16 63 55 3 62,ky 17 64 55 30 63,Es 18 65 55 64,dL 19 66 55 65]) (.bj (F 66) (.E (.I [dE 0 2 false]) (.a7)) (.skip)))) (.I [A 0 45 4,eB 1 46 45,A 2 4 46])
def O3:U:= .E (.E (.I [A 0 42 4,A 1 43 3,eX 2 44 42 43]) (.bj (F 44) (.skip) (.bI 0))) Wu
def Ka:U:= .E (.I [A 0 73 6,xq 1 74 73,A 2 75 74,kx 3 76 75 3 5,⟨4,some 77,some (75,false),.eI 33 [.const (.int .i64 1)],[(F 5,F 5)]⟩,uS 5 78 75 32 76 77,jR 6 79 75 78,dL 7 80 75 79]) (.bj (F 80) (.E (.I [dE 0 2 false]) (.a7)) (.skip))
def OV:U:= .E (.block 7 (.I [A 0 114 7,A 1 115 9,A 2 116 7,A 3 117 9,cL 4 118 1 116 117,aS 5 119 118,A 6 120 119,eG 7 121 120 2 1,e8 8 122 120 121,fi 9 123 120 9,vX 10 124 120 1 122 123,e8 11 125 120 124,fi 12 126 120 10,vX 13 127 120 3 125 126,kx 14 128 120 3 127,ky 15 129 120 30 128,oQ 16 130 120 129 0,fi 17 131 120 130,hQ 18 132 131 7,hQ 19 133 131 10,dz 20 134 131 true (.pg 1 (F 132) (F 133)),iy 21 135 131 134,Hc 22 136 120 131 135,dL 23 137 120 136,cL 24 138 1 114 115,cV 25 1 138 137])) (.I [A 0 112 10,eB 1 113 112,A 2 10 113])
def Kb:U:= .E (.E (.I [A 0 109 10,A 1 110 3,eX 2 111 109 110]) (.bj (F 111) (.skip) (.bI 6))) OV
def OU:U:= .E (.I [bQ 0 10 0]) (.block 6 (.loop Kb))
def OT:U:= .E (.block 5 (.E (.I [A 0 93 7,A 1 94 9,A 2 95 7,A 3 96 9,cL 4 97 1 95 96,aS 5 98 97,A 6 99 98,eG 7 100 99 3 1,e8 8 101 99 100,fi 9 102 99 9,vX 10 103 99 3 101 102,kx 11 104 99 3 103,ky 12 105 99 30 104,oQ 13 106 99 105 0,dL 14 107 99 106,cL 15 108 1 93 94,cV 16 1 108 107]) OU)) (.I [A 0 91 9,eB 1 92 91,A 2 9 92])
def Kc:U:= .E (.E (.I [A 0 88 9,A 1 89 3,eX 2 90 88 89]) (.bj (F 90) (.skip) (.bI 4))) OT
def Wv:U:= .E (.block 3 (.E (.I [bQ 0 9 0]) (.block 4 (.loop Kc)))) (.I [A 0 86 8,eB 1 87 86,A 2 8 87])
def O4:U:= .E (.E (.I [A 0 83 8,A 1 84 3,eX 2 85 83 84]) (.bj (F 85) (.skip) (.bI 2))) Wv
def OX:U:= .E (.block 9 (.E (.I [A 0 144 7,A 1 145 11,cL 2 146 1 144 145,aS 3 147 146,iF 4 148 147]) (.bj (F 148) (.E (.I [dE 0 2 false]) (.a7)) (.skip)))) (.I [A 0 142 11,eB 1 143 142,A 2 11 143])
def Kd:U:= .E (.E (.I [A 0 139 11,A 1 140 3,eX 2 141 139 140]) (.bj (F 141) (.skip) (.bI 8))) OX
def BT:U:= .E (.I [dE 0 2 true]) (.a7)
def OW:U:= .E (.E (.I [bQ 0 11 0]) (.block 8 (.loop Kd))) BT
def O2:U:= .E (.E (.I [bQ 0 8 0]) (.block 2 (.loop O4))) OW
def O1:U:= .E (.I [A 0 81 3,bP 1 82 (.nk 1 1 [.bool false] (F 81) (F 81)),A 2 7 82]) O2
def O0:U:= .E (.E (.I [aP 0 68 1 1,aS 1 69 68,cj 2 70 31 [F 69],A 3 67 70,dD 4 71 0 67,dD 5 72 1 67,bP 6 5 (.eR [.bool false,.slice none 0 0,.slice none 0 0]),cV 7 3 5 71,A 8 6 72]) Ka) O1
def OZ:U:= .E (.E (.I [bQ 0 4 0]) (.block 0 (.loop O3))) O0
def OY:U:= .E (.E (.I [A 0 15 3,oO 1 16 15 1,A 2 17 16,fi 3 18 17 3,oQ 4 19 17 18 4,dL 5 20 17 19,A 6 21 20,eG 7 22 21 1 1,e8 8 23 21 22,fi 9 24 21 3,uS 10 25 21 29 23 24,jR 11 26 21 25,dL 12 27 21 26,A 13 28 27,eG 14 29 28 3 1,e8 15 30 28 29,fi 16 31 28 3,uS 17 32 28 29 30 31,jR 18 33 28 32,dL 19 34 28 33,A 20 35 34,eG 21 36 35 2 1,e8 22 37 35 36,lB 23 38 35 37,fi 24 39 35 3,qI 25 40 35 38 39,dL 26 41 35 40]) (.bj (F 41) (.E (.I [dE 0 2 false]) (.a7)) (.skip))) OZ
def OS:U:= .E (.I [aP 0 12 1 1,aS 1 13 12,cu 2 14 13,A 3 3 14]) OY
def J9:U:=
  .E (
  .I [
 hi 0 1 0,
 dE 1 2 false]) OS
def avn:dn:=⟨149,[.bA 2],J9⟩
theorem avD:dj Tryz.prog 10=some avn:=by kernel_rfl
theorem apI{args:List Value}{m:B}{az:Value->B->Prop}(h:args.length<=149):bJ Tryz.prog 10 args m az=ch Tryz.prog J9 (eu args) m (ey [.bA 2] az):=fD avD h
def Po:U:= .E (.I [aP 0 59 3 1,aS 1 60 59,A 2 61 7,cL 3 62 9 60 61,aP 4 63 0 62,aS 5 64 63,kL 6 65 64 5]) (.bj (F 65) (.I [A 0 66 6,eB 1 67 66,A 2 6 67]) (.skip))
def Pn:U:= .E (.block 1 (.E (.E (.I [aP 0 50 3 1,aS 1 51 50,A 2 52 7,cL 3 53 9 51 52,aP 4 54 0 53,aS 5 55 54,xr 6 56 47 55 1 4]) (.bj (F 56) (.I [A 0 57 5,eB 1 58 57,A 2 5 58]) (.skip))) Po)) (.I [A 0 48 7,eB 1 49 48,A 2 7 49])
def KA:U:= .E (.E (.I [A 0 43 7,aP 1 44 3 1,aS 2 45 44,cu 3 46 45,eX 4 47 43 46]) (.bj (F 47) (.skip) (.bI 0))) Pn
def agk:U:= .E (.I [A 0 128 9,aP 1 129 0 15,aP 2 130 0 129,aS 3 131 130,vY 4 132 131,kM 5 133 1 16 128 132,A 6 9 133]) (.I [aP 0 134 1 8,aS 1 135 134,aP 2 136 0 15,c3 3 137 4 136,lp 4 138 (.eI 51 [F 137]) [(F 134,F 134)],bP 5 139 (.iT 4 1 [.string ⟨#[]⟩,.slice none 0 0,.slice none 0 0,.slice none 0 0] [(0,4,F 138)]),kM 6 140 4 88 135 139,aP 7 141 1 8,cV 8 1 141 140])
def Ko:U:= .E (.E (.I [A 0 122 16,xq 1 123 122]) (.bj (F 123) (.E (.I [bP 0 124 (.gT [.int .i64 0,.slice none 0 0,.slice none 0 0,.slice none 0 0,.slice none 0 0,.slice none 0 0,.slice none 0 0] []),A 1 125 16,aP 2 126 4 15,c3 3 127 2 126,⟨4,none,none,.store 7 (F 2) (F 124),[(F 126,F 2)]⟩,A 5 3 125,cV 6 2 4 127]) (.a7)) (.skip))) agk
def Kn:U:= .E (.block 4 (.E (.I [aP 0 105 0 15,aP 1 106 0 105,aS 2 107 106,cj 3 108 49 [F 107],iF 4 109 108,A 5 104 109]) (.bj (F 104) (.I [bQ 0 16 1]) (.E (.I [A 0 111 9,aP 1 112 0 15,aP 2 113 0 112,aS 3 114 113,gj 4 115 50 111 114,sc 5 116 115 0,A 6 110 116]) (.bj (F 110) (.I [bQ 0 16 8]) (.E (.I [aP 0 118 0 15,c3 1 119 4 118,cj 2 120 10 [F 119],iF 3 121 120,A 4 117 121]) (.bj (F 117) (.I [bQ 0 16 1]) (.skip)))))))) Ko
def Km:U:= .E (.block 3 (.E (.I [aP 0 99 1 1,aS 1 100 99,A 2 101 14,cL 3 102 6 100 101,c3 4 103 6 102,bP 5 15 (.eR [.string ⟨#[]⟩,.slice none 0 0,.slice none 0 0,.slice none 0 0,.int .i64 0,.int .i64 0]),cV 6 6 15 103,bQ 7 16 0]) Kn)) (.I [A 0 97 14,eB 1 98 97,A 2 14 98])
def Ea:U:= .E (.E (.I [A 0 92 14,aP 1 93 1 1,aS 2 94 93,cu 3 95 94,eX 4 96 92 95]) (.bj (F 96) (.skip) (.bI 2))) Km
def agl:U:= .E (.I [A 0 188 10,aP 1 189 0 18,aS 2 190 189,vY 3 191 190,kM 4 192 1 16 188 191,A 5 10 192]) (.I [aP 0 193 2 8,aS 1 194 193,aP 2 195 0 18,aS 3 196 195,aP 4 197 1 18,aS 5 198 197,aP 6 199 2 18,aS 7 200 199,A 8 201 9,aP 9 202 3 18,aS 10 203 202,lp 11 204 (.eI 50 [F 201,F 203]) [(F 199,F 199),(F 197,F 197),(F 195,F 195),(F 193,F 193)],bP 12 205 (.gT [.string ⟨#[]⟩,.int .i64 0,.int .i64 0,.int .i64 0] [(0,1,F 196),(1,1,F 198),(2,1,F 200),(3,1,F 204)]),bP 13 206 (.iT 4 1 [.string ⟨#[]⟩,.int .i64 0,.int .i64 0,.int .i64 0] [(0,4,F 205)]),kM 14 207 4 40 194 206,aP 15 208 2 8,cV 16 1 208 207])
def D9:U:= .E (.E (.I [A 0 182 19,xq 1 183 182]) (.bj (F 183) (.E (.I [bP 0 184 (.gT [.int .i64 0,.slice none 0 0,.slice none 0 0,.slice none 0 0,.slice none 0 0,.slice none 0 0,.slice none 0 0] []),A 1 185 19,aP 2 186 4 18,c3 3 187 2 186,⟨4,none,none,.store 7 (F 2) (F 184),[(F 186,F 2)]⟩,A 5 3 185,cV 6 2 4 187]) (.a7)) (.skip))) agl
def D8:U:= .E (.block 7 (.E (.I [aP 0 155 0 18,aS 1 156 155,cj 2 157 49 [F 156],iF 3 158 157,A 4 154 158]) (.bj (F 154) (.I [bQ 0 19 1]) (.E (.I [A 0 160 10,aP 1 161 0 18,aS 2 162 161,gj 3 163 50 160 162,sc 4 164 163 0,A 5 159 164]) (.bj (F 159) (.I [bQ 0 19 8]) (.E (.I [A 0 166 9,aP 1 167 3 18,aS 2 168 167,gj 3 169 50 166 168,oO 4 170 169 0,A 5 165 170]) (.bj (F 165) (.I [bQ 0 19 7]) (.E (.I [aP 0 172 1 18,aS 1 173 172,xr 2 174 47 173 1 16,iF 3 175 174,A 4 176 175,eG 5 177 176 2 18,e8 6 178 176 177,LB 7 179 176 47 178 1 64,jR 8 180 176 179,dL 9 181 176 180,A 10 171 181]) (.bj (F 171) (.I [bQ 0 19 5]) (.skip)))))))))) D9
def D7:U:= .E (.block 6 (.E (.I [aP 0 149 2 1,aS 1 150 149,A 2 151 17,cL 3 152 6 150 151,c3 4 153 6 152,bP 5 18 (.eR [.string ⟨#[]⟩,.int .i64 0,.int .i64 0,.string ⟨#[]⟩,.int .i64 0,.int .i64 0]),cV 6 6 18 153,bQ 7 19 0]) D8)) (.I [A 0 147 17,eB 1 148 147,A 2 17 148])
def z5:U:= .E (.E (.I [A 0 142 17,aP 1 143 2 1,aS 2 144 143,cu 3 145 144,eX 4 146 142 145]) (.bj (F 146) (.skip) (.bI 5))) D7
def Kr:U:= .E (.I [aP 0 329 0 22,aS 1 330 329,aP 2 331 3 8,aS 3 332 331,cu 4 333 332,bP 5 334 (.ph 1 5 (F 20) (F 330)),cV 6 1 334 333]) (.I [aP 0 335 3 8,aS 1 336 335,aP 2 337 1 22,aS 3 338 337,aP 4 339 0 22,aS 5 340 339,aP 6 341 0 22,aS 7 342 341,lM 8 343 342 1,bP 9 344 (.ph 1 5 (F 20) (F 343)),aS 10 345 344,aP 11 346 2 22,aS 12 347 346,c3 13 348 3 24,ZF 14 349 338 340 345 347 348,LC 15 350 349,kM 16 351 7 96 336 350,aP 17 352 3 8,cV 18 1 352 351])
def Kq:U:= .E (.I [aP 0 324 3 22,c3 1 325 3 324,cj 2 326 55 [F 325],A 3 323 326,dD 4 327 0 323,dD 5 328 1 323,bP 6 24 (.eR [.bool false,.slice none 0 0,.slice none 0 0]),cV 7 3 24 327,A 8 25 328]) Kr
def Gx:U:= .E (.E (.I [aP 0 306 0 22,aS 1 307 306,kL 2 308 307 5]) (.bj (F 308) (.E (.I [aP 0 309 4 8,aS 1 310 309,aP 2 311 1 22,aS 3 312 311,A 4 313 10,aP 5 314 6 22,aS 6 315 314,bP 8 317 (.ph 1 5 (F 20) (.const (.int .i64 4))),aS 9 318 317,lp 7 316 (.eI 50 [F 313,F 315]) [(F 317,F 317),(F 311,F 311),(F 309,F 309)],bP 10 319 (.gT [.string ⟨#[]⟩,.int .i64 0,.int .i64 0] [(0,1,F 312),(1,1,F 316),(2,1,F 318)]),bP 11 320 (.iT 3 1 [.string ⟨#[]⟩,.int .i64 0,.int .i64 0] [(0,3,F 319)]),kM 12 321 3 32 310 320,aP 13 322 4 8,cV 14 1 322 321]) (.bI 9)) (.skip))) Kq
def Gw:U:= .E (.I [A 0 301 11,aP 1 302 1 22,aS 2 303 302,vY 3 304 303,kM 4 305 1 16 301 304,A 5 11 305]) Gx
def r9:U:= .E (.E (.I [A 0 295 23,xq 1 296 295]) (.bj (F 296) (.E (.I [bP 0 297 (.gT [.int .i64 0,.slice none 0 0,.slice none 0 0,.slice none 0 0,.slice none 0 0,.slice none 0 0,.slice none 0 0] []),A 1 298 23,aP 2 299 7 22,c3 3 300 2 299,⟨4,none,none,.store 7 (F 2) (F 297),[(F 299,F 2)]⟩,A 5 3 298,cV 6 2 4 300]) (.a7)) (.skip))) Gw
def r8:U:= .E (.block 10 (.E (.I [aP 0 222 1 22,aS 1 223 222,cj 2 224 49 [F 223],iF 3 225 224,A 4 221 225]) (.bj (F 221) (.I [bQ 0 23 1]) (.E (.I [A 0 227 11,aP 1 228 1 22,aS 2 229 228,gj 3 230 50 227 229,sc 4 231 230 0,A 5 226 231]) (.bj (F 226) (.I [bQ 0 23 8]) (.E (.I [aP 0 233 3 1,aS 1 234 233,A 2 235 21,gj 3 236 52 234 235,iF 4 237 236,A 5 232 237]) (.bj (F 232) (.I [bQ 0 23 1]) (.E (.I [aP 0 239 0 22,aS 1 240 239,oO 2 241 240 5,A 3 242 241,iq 4 243 242 2 22,iy 5 244 242 243,dz 6 245 242 true (.eI 47 [F 244,.const (.int .i64 1),.const (.int .i64 64)]),vW 7 246 242 245,e7 8 247 242 246,A 9 238 247]) (.bj (F 238) (.I [bQ 0 23 5]) (.E (.I [aP 0 249 0 22,aS 1 250 249,oO 2 251 250 5,A 3 252 251,iq 4 253 252 3 22,ou 5 254 252 3 253,oP 6 255 252 53 254,vW 7 256 252 255,hQ 8 257 252 256,eG 9 258 257 6 22,e8 10 259 257 258,dz 11 260 257 false (.gz .neq .hM (F 259) (.const (.string ⟨#[]⟩))),dz 12 261 252 true (.s4 (F 257) (.const (.bool true)) (F 260)),e7 13 262 252 261,A 14 248 262]) (.bj (F 248) (.I [bQ 0 23 1]) (.E (.I [aP 0 264 0 22,aS 1 265 264,kL 2 266 265 5,A 3 267 266,hQ 4 268 267 10,iq 5 269 267 6 22,iy 6 270 267 269,dz 7 271 267 true (.eI 50 [F 268,F 270]),dz 8 272 267 true (.gz .lss .hM (F 271) (.const (.int .i64 0))),e7 9 273 267 272,A 10 263 273]) (.bj (F 263) (.I [bQ 0 23 7]) (.E (.I [aP 0 275 0 22,aS 1 276 275,kL 2 277 276 5,A 3 278 277,iq 4 279 278 2 22,iy 5 280 278 279,dz 6 281 278 true (.gz .neq .hM (F 280) (.const (.int .i64 0))),hQ 7 282 278 281,eG 8 283 282 3 22,kx 9 284 282 3 283,ky 10 285 282 54 284,jR 11 286 282 285,dz 12 287 278 true (.s4 (F 282) (.const (.bool true)) (F 286)),hQ 13 288 278 287,eG 14 289 288 3 22,kx 15 290 288 3 289,ky 16 291 288 30 290,Es 17 292 288 291,dz 18 293 278 true (.s4 (F 288) (.const (.bool true)) (F 292)),e7 19 294 278 293,A 20 274 294]) (.bj (F 274) (.I [bQ 0 23 1]) (.skip)))))))))))))))) r9
def r7:U:= .E (.block 9 (.E (.I [aP 0 216 3 1,aS 1 217 216,A 2 218 21,cL 3 219 9 217 218,c3 4 220 9 219,bP 5 22 (.eR [.int .i64 0,.string ⟨#[]⟩,.int .i64 0,.bool false,.slice none 0 0,.slice none 0 0,.string ⟨#[]⟩,.int .i64 0,.int .i64 0]),cV 6 9 22 220,bQ 7 23 0]) r8)) (.I [A 0 214 21,eB 1 215 214,A 2 21 215])
def qC:U:= .E (.E (.I [A 0 209 21,aP 1 210 3 1,aS 2 211 210,cu 3 212 211,eX 4 213 209 212]) (.bj (F 213) (.skip) (.bI 8))) r7
def agw:U:= .E (.I [A 0 412 31,A 1 413 412,eG 2 414 413 9 27,e8 3 415 413 414,fi 4 416 413 32,dz 5 417 413 false (.pv 1 (F 415) none (some (F 416))),eG 6 418 413 9 27,e8 7 419 413 418,fi 8 420 413 32,vX 9 421 413 1 419 420,e8 10 422 413 421,uS 11 423 413 50 417 422,dz 12 424 413 false (.gz .geq .hM (F 423) (.const (.int .i64 0))),dL 13 425 413 424,A 14 31 425]) (.I [aP 0 426 9 29,aS 1 427 426,A 2 428 33,bP 3 429 (.iT 1 1 [.int .i64 0] [(0,1,F 428)]),kM 4 430 1 8 427 429,aP 5 431 9 29,cV 6 1 431 430])
def agv:U:= .E (.I [A 0 407 30,A 1 408 407,fi 2 409 408 33,dz 3 410 408 false (.gz .lss .hM (F 409) (.const (.int .i64 0))),dL 4 411 408 410,A 5 30 411]) agw
def agu:U:= .E (.block 14 (.E (.I [A 0 400 10,aP 1 401 9 27,aS 2 402 401,A 3 403 32,cL 4 404 1 402 403,aS 5 405 404,gj 6 406 50 400 405,A 7 33 406]) agv)) (.I [A 0 398 32,eB 1 399 398,A 2 32 399])
def Pp:U:= .E (.E (.I [A 0 393 32,aP 1 394 9 27,aS 2 395 394,cu 3 396 395,eX 4 397 393 396]) (.bj (F 397) (.skip) (.bI 13))) agu
def agx:U:= .E (.I [A 0 480 12,aP 1 481 0 27,aS 2 482 481,vY 3 483 482,kM 4 484 1 16 480 483,A 5 12 484]) (.I [aP 0 485 5 8,aS 1 486 485,c3 2 487 17 29,ZG 3 488 487,kM 4 489 17 240 486 488,aP 5 490 5 8,cV 6 1 490 489])
def z4:U:= .E (.E (.I [A 0 474 28,xq 1 475 474]) (.bj (F 475) (.E (.I [bP 0 476 (.gT [.int .i64 0,.slice none 0 0,.slice none 0 0,.slice none 0 0,.slice none 0 0,.slice none 0 0,.slice none 0 0] []),A 1 477 28,aP 2 478 17 27,c3 3 479 2 478,⟨4,none,none,.store 7 (F 2) (F 476),[(F 478,F 2)]⟩,A 5 3 477,cV 6 2 4 479]) (.a7)) (.skip))) agx
def z3:U:= .E (.block 15 (.E (.I [aP 0 433 0 27,aS 1 434 433,cj 2 435 49 [F 434],iF 3 436 435,A 4 432 436]) (.bj (F 432) (.I [bQ 0 28 1]) (.E (.I [A 0 438 12,aP 1 439 0 27,aS 2 440 439,gj 3 441 50 438 440,sc 4 442 441 0,A 5 437 442]) (.bj (F 437) (.I [bQ 0 28 8]) (.E (.I [aP 0 444 1 27,aS 1 445 444,aP 2 446 2 27,aS 3 447 446,aP 4 448 3 27,aS 5 449 448,aP 6 450 4 27,c3 7 451 5 450,cj 8 452 57 [F 445,F 447,F 449,F 451],iF 9 453 452,A 10 443 453]) (.bj (F 443) (.I [bQ 0 28 5]) (.E (.I [aP 0 455 9 27,aS 1 456 455,cu 2 457 456,kL 3 458 457 0,A 4 454 458]) (.bj (F 454) (.I [bQ 0 28 1]) (.E (.I [A 0 460 30,A 1 459 460]) (.bj (F 459) (.I [bQ 0 28 7]) (.E (.I [A 0 462 31,A 1 461 462]) (.bj (F 461) (.I [bQ 0 28 8]) (.E (.I [aP 0 464 2 27,aS 1 465 464,aP 2 466 10 27,aS 3 467 466,aP 4 468 11 27,c3 5 469 3 468,aP 6 470 14 27,c3 7 471 3 470,cj 8 472 58 [F 465,F 467,F 469,F 471],iF 9 473 472,A 10 463 473]) (.bj (F 463) (.I [bQ 0 28 5]) (.skip)))))))))))))))) z4
def agt:U:= .E (.E (.I [bQ 0 32 0]) (.block 13 (.loop Pp))) z3
def ags:U:= .E (.I [dE 0 30 false,dE 1 31 false]) agt
def agr:U:= .E (.I [aP 0 387 14 27,c3 1 388 3 387,cj 2 389 55 [F 388],A 3 386 389,dD 4 390 0 386,dD 5 391 1 386,aP 6 392 14 29,cV 7 3 392 390]) ags
def agq:U:= .E (.I [aP 0 380 11 27,c3 1 381 3 380,cj 2 382 55 [F 381],A 3 379 382,dD 4 383 0 379,dD 5 384 1 379,aP 6 385 11 29,cV 7 3 385 383]) agr
def agp:U:= .E (.I [aP 0 365 0 27,aS 1 366 365,aP 2 367 1 27,aS 3 368 367,aP 4 369 2 27,aS 5 370 369,aP 6 371 3 27,aS 7 372 371,aP 8 373 4 27,c3 9 374 5 373,aP 10 375 10 27,aS 11 376 375,lp 12 377 (.eI 56 [F 376]) [(F 373,F 373),(F 371,F 371),(F 369,F 369),(F 367,F 367),(F 365,F 365)],bP 13 378 (.gT [.string ⟨#[]⟩,.int .i64 0,.int .i64 0,.int .i64 0,.int .i64 0,.int .i64 0,.int .i64 0,.int .i64 0,.int .i64 0,.slice none 0 0,.slice none 0 0,.bool false,.slice none 0 0,.slice none 0 0,.bool false,.slice none 0 0,.slice none 0 0] [(0,1,F 366),(1,1,F 368),(2,1,F 370),(3,1,F 372),(4,5,F 374),(10,1,F 377)]),bP 14 29 (.eR [.string ⟨#[]⟩,.int .i64 0,.int .i64 0,.int .i64 0,.int .i64 0,.int .i64 0,.int .i64 0,.int .i64 0,.int .i64 0,.slice none 0 0,.slice none 0 0,.bool false,.slice none 0 0,.slice none 0 0,.bool false,.slice none 0 0,.slice none 0 0]),cV 15 17 29 378]) agq
def agn:U:= .E (.block 12 (.E (.I [aP 0 360 4 1,aS 1 361 360,A 2 362 26,cL 3 363 19 361 362,c3 4 364 19 363,bP 5 27 (.eR [.string ⟨#[]⟩,.int .i64 0,.int .i64 0,.int .i64 0,.int .i64 0,.int .i64 0,.int .i64 0,.int .i64 0,.int .i64 0,.slice none 0 0,.slice none 0 0,.bool false,.slice none 0 0,.slice none 0 0,.bool false,.slice none 0 0,.slice none 0 0,.int .i64 0,.int .i64 0]),cV 6 19 27 364,bQ 7 28 0]) agp)) (.I [A 0 358 26,eB 1 359 358,A 2 26 359])
def Pq:U:= .E (.E (.I [A 0 353 26,aP 1 354 4 1,aS 2 355 354,cu 3 356 355,eX 4 357 353 356]) (.bj (F 357) (.skip) (.bI 11))) agn
def agy:U:= .E (.I [A 0 526 13,aP 1 527 0 35,aS 2 528 527,vY 3 529 528,kM 4 530 1 16 526 529,A 5 13 530]) (.I [aP 0 531 6 8,aS 1 532 531,aP 2 533 0 35,aS 3 534 533,A 4 535 12,aP 5 536 1 35,aS 6 537 536,lp 7 538 (.eI 50 [F 535,F 537]) [(F 533,F 533),(F 531,F 531)],bP 8 539 (.gT [.string ⟨#[]⟩,.int .i64 0] [(0,1,F 534),(1,1,F 538)]),bP 9 540 (.iT 2 1 [.string ⟨#[]⟩,.int .i64 0] [(0,2,F 539)]),kM 10 541 2 24 532 540,aP 11 542 6 8,cV 12 1 542 541])
def Kw:U:= .E (.E (.I [A 0 520 36,xq 1 521 520]) (.bj (F 521) (.E (.I [bP 0 522 (.gT [.int .i64 0,.slice none 0 0,.slice none 0 0,.slice none 0 0,.slice none 0 0,.slice none 0 0,.slice none 0 0] []),A 1 523 36,aP 2 524 2 35,c3 3 525 2 524,⟨4,none,none,.store 7 (F 2) (F 522),[(F 524,F 2)]⟩,A 5 3 523,cV 6 2 4 525]) (.a7)) (.skip))) agy
def Kv:U:= .E (.block 18 (.E (.I [aP 0 504 0 35,aS 1 505 504,cj 2 506 49 [F 505],iF 3 507 506,A 4 503 507]) (.bj (F 503) (.I [bQ 0 36 1]) (.E (.I [A 0 509 13,aP 1 510 0 35,aS 2 511 510,gj 3 512 50 509 511,sc 4 513 512 0,A 5 508 513]) (.bj (F 508) (.I [bQ 0 36 8]) (.E (.I [A 0 515 12,aP 1 516 1 35,aS 2 517 516,gj 3 518 50 515 517,oO 4 519 518 0,A 5 514 519]) (.bj (F 514) (.I [bQ 0 36 7]) (.skip)))))))) Kw
def Ku:U:= .E (.block 17 (.E (.I [aP 0 498 5 1,aS 1 499 498,A 2 500 34,cL 3 501 4 499 500,c3 4 502 4 501,bP 5 35 (.eR [.string ⟨#[]⟩,.string ⟨#[]⟩,.int .i64 0,.int .i64 0]),cV 6 4 35 502,bQ 7 36 0]) Kv)) (.I [A 0 496 34,eB 1 497 496,A 2 34 497])
def Eb:U:= .E (.E (.I [A 0 491 34,aP 1 492 5 1,aS 2 493 492,cu 3 494 493,eX 4 495 491 494]) (.bj (F 495) (.skip) (.bI 16))) Ku
def Gy:U:= .E (.I [c3 0 543 7 8,bP 1 544 (.gT [.int .i64 0,.int .i64 0] []),cV 2 7 2 543,bQ 3 3 0,cV 4 2 4 544]) (.a7)
def Kt:U:= .E (.E (.I [bQ 0 34 0]) (.block 16 (.loop Eb))) Gy
def Ks:U:= .E (.E (.I [bQ 0 26 0]) (.block 11 (.loop Pq))) Kt
def Gv:U:= .E (.E (.I [bQ 0 21 0]) (.block 8 (.loop qC))) Ks
def Gu:U:= .E (.I [bP 0 20 (.eR [.int .i64 0,.int .i64 0,.int .i64 0,.int .i64 0,.int .i64 0])]) Gv
def Kp:U:= .E (.E (.I [bQ 0 17 0]) (.block 5 (.loop z5))) Gu
def Kz:U:= .E (.E (.I [bQ 0 14 0]) (.block 2 (.loop Ea))) Kp
def Ky:U:= .E (.I [fQ 0 9,fQ 1 10,fQ 2 11,fQ 3 12,fQ 4 13]) Kz
def Kx:U:= .E (.I [aP 0 86 0 1,aS 1 87 86,lp 2 88 (.eI 33 [.const (.int .i64 0)]) [(F 86,F 86)],ZH 3 89 88,LC 4 90 89,bP 5 91 (.gT [.int .i64 0,.slice none 0 0,.slice none 0 0,.slice none 0 0,.slice none 0 0,.slice none 0 0,.slice none 0 0] [(0,1,F 87),(3,1,F 90)]),bP 6 8 (.eR [.int .i64 0,.slice none 0 0,.slice none 0 0,.slice none 0 0,.slice none 0 0,.slice none 0 0,.slice none 0 0]),cV 7 7 8 91]) Ky
def BU:U:= .E (.E (.I [aP 0 68 1 1,aS 1 69 68,cu 2 70 69,aP 3 71 2 1,aS 4 72 71,cu 5 73 72,A 6 74 5,A 7 75 6,aP 8 76 4 1,aS 9 77 76,cu 10 78 77,aP 11 79 5 1,aS 12 80 79,cu 13 81 80,cj 14 82 48 [F 70,F 73,F 74,F 75,F 78,F 81],iF 15 83 82]) (.bj (F 83) (.E (.I [bP 0 84 (.gT [.int .i64 0,.slice none 0 0,.slice none 0 0,.slice none 0 0,.slice none 0 0,.slice none 0 0,.slice none 0 0] []),bP 1 85 (.gT [.int .i64 0,.int .i64 0] []),cV 2 7 2 84,bQ 3 3 2,cV 4 2 4 85]) (.a7)) (.skip))) Kx
def ago:U:= .E (.E (.I [bQ 0 7 0]) (.block 0 (.loop KA))) BU
def agm:U:= .E (.I [bQ 0 5 1,bQ 1 6 0]) ago
def WI:U:= .E (.E (.I [aP 0 37 0 1,aS 1 38 37,xr 2 39 47 38 1 4,iF 3 40 39]) (.bj (F 40) (.E (.I [bP 0 41 (.gT [.int .i64 0,.slice none 0 0,.slice none 0 0,.slice none 0 0,.slice none 0 0,.slice none 0 0,.slice none 0 0] []),bP 1 42 (.gT [.int .i64 0,.int .i64 0] []),cV 2 7 2 41,bQ 3 3 5,cV 4 2 4 42]) (.a7)) (.skip))) agm
def Pl:U:=
  .E (
  .I [
 hi 0 1 0,
 bP 1 2 (.eR [.int .i64 0,.slice none 0 0,.slice none 0 0,.slice none 0 0,.slice none 0 0,.slice none 0 0,.slice none 0 0]),
 bQ 2 3 0,
 bP 3 4 (.eR [.int .i64 0,.int .i64 0])]) WI
def z2:dn:=⟨545,[.h7 2 true 7,.bA 3,.h7 4 true 2],Pl⟩
theorem Pm:dj Tryz.prog 12=some z2:=by kernel_rfl
def ag6:U:= .E (.block 1 (.E (.I [aP 0 81 1 2,aS 1 82 81,A 2 83 5,cL 3 84 4 82 83,c3 4 85 4 84,aP 5 86 1 3,aS 6 87 86,A 7 88 5,cL 8 89 4 87 88,c3 9 90 4 89,gj 10 91 59 85 90,iF 11 92 91]) (.bj (F 92) (.E (.I [dE 0 4 false]) (.a7)) (.skip)))) (.I [A 0 79 5,eB 1 80 79,A 2 5 80])
def W4:U:= .E (.E (.I [A 0 74 5,aP 1 75 1 2,aS 2 76 75,cu 3 77 76,eX 4 78 74 77]) (.bj (F 78) (.skip) (.bI 0))) ag6
def ag7:U:= .E (.block 3 (.E (.I [aP 0 100 2 2,aS 1 101 100,A 2 102 6,cL 3 103 4 101 102,c3 4 104 4 103,aP 5 105 2 3,aS 6 106 105,A 7 107 6,cL 8 108 4 106 107,c3 9 109 4 108,bP 10 110 (.rQ true [.str,.int,.int,.int] (F 104) (F 109))]) (.bj (F 110) (.E (.I [dE 0 4 false]) (.a7)) (.skip)))) (.I [A 0 98 6,eB 1 99 98,A 2 6 99])
def W5:U:= .E (.E (.I [A 0 93 6,aP 1 94 2 2,aS 2 95 94,cu 3 96 95,eX 4 97 93 96]) (.bj (F 97) (.skip) (.bI 2))) ag7
def ag9:U:= .E (.I [aP 0 128 0 8,aS 1 129 128,aP 2 130 0 9,aS 3 131 130,eA 4 132 .neq (F 129) (F 131),A 5 133 132,eG 6 134 133 1 8,e8 7 135 133 134,eG 8 136 133 1 9,e8 9 137 133 136,qI 10 138 133 135 137,dL 11 139 133 138,A 12 140 139,eG 13 141 140 2 8,e8 14 142 140 141,eG 15 143 140 2 9,e8 16 144 140 143,qI 17 145 140 142 144,dL 18 146 140 145,A 19 147 146,eG 20 148 147 3 8,e8 21 149 147 148,eG 22 150 147 3 9,e8 23 151 147 150,qI 24 152 147 149 151,dL 25 153 147 152,A 26 154 153,eG 27 155 154 4 8,kx 28 156 154 3 155,eG 29 157 154 4 9,kx 30 158 154 3 157,uS 31 159 154 60 156 158,jR 32 160 154 159,dL 33 161 154 160]) (.bj (F 161) (.E (.I [dE 0 4 false]) (.a7)) (.skip))
def ag8:U:= .E (.block 5 (.E (.I [aP 0 118 3 2,aS 1 119 118,A 2 120 7,cL 3 121 7 119 120,c3 4 122 7 121,aP 5 123 3 3,aS 6 124 123,A 7 125 7,cL 8 126 7 124 125,c3 9 127 7 126,bP 10 8 (.eR [.string ⟨#[]⟩,.int .i64 0,.int .i64 0,.int .i64 0,.bool false,.slice none 0 0,.slice none 0 0]),bP 11 9 (.eR [.string ⟨#[]⟩,.int .i64 0,.int .i64 0,.int .i64 0,.bool false,.slice none 0 0,.slice none 0 0]),⟨12,none,none,.store 7 (F 8) (F 122),[(F 126,F 8),(F 123,F 8)]⟩,cV 13 7 9 127]) ag9)) (.I [A 0 116 7,eB 1 117 116,A 2 7 117])
def W6:U:= .E (.E (.I [A 0 111 7,aP 1 112 3 2,aS 2 113 112,cu 3 114 113,eX 4 115 111 114]) (.bj (F 115) (.skip) (.bI 4))) ag8
def ag1:U:= .E (.block 7 (.E (.I [aP 0 169 4 2,aS 1 170 169,A 2 171 10,cL 3 172 3 170 171,c3 4 173 3 172,aP 5 174 4 3,aS 6 175 174,A 7 176 10,cL 8 177 3 175 176,c3 9 178 3 177,bP 10 179 (.rQ true [.str,.int,.int] (F 173) (F 178))]) (.bj (F 179) (.E (.I [dE 0 4 false]) (.a7)) (.skip)))) (.I [A 0 167 10,eB 1 168 167,A 2 10 168])
def W7:U:= .E (.E (.I [A 0 162 10,aP 1 163 4 2,aS 2 164 163,cu 3 165 164,eX 4 166 162 165]) (.bj (F 166) (.skip) (.bI 6))) ag1
def ag3:U:= .E (.I [aP 0 197 0 12,aS 1 198 197,aP 2 199 0 13,aS 3 200 199,eA 4 201 .neq (F 198) (F 200),A 5 202 201,eG 6 203 202 1 12,e8 7 204 202 203,eG 8 205 202 1 13,e8 9 206 202 205,qI 10 207 202 204 206,dL 11 208 202 207,A 12 209 208,eG 13 210 209 2 12,e8 14 211 209 210,eG 15 212 209 2 13,e8 16 213 209 212,qI 17 214 209 211 213,dL 18 215 209 214,A 19 216 215,eG 20 217 216 3 12,e8 21 218 216 217,eG 22 219 216 3 13,e8 23 220 216 219,qI 24 221 216 218 220,dL 25 222 216 221,A 26 223 222,eG 27 224 223 4 12,kx 28 225 223 5 224,eG 29 226 223 4 13,kx 30 227 223 5 226,dz 31 228 223 false (.rQ true [.int,.int,.int,.int,.int] (F 225) (F 227)),dL 32 229 223 228,A 33 230 229,eG 34 231 230 9 12,e8 35 232 230 231,eG 36 233 230 9 13,e8 37 234 230 233,uS 38 235 230 61 232 234,jR 39 236 230 235,dL 40 237 230 236,A 41 238 237,eG 42 239 238 10 12,e8 43 240 238 239,eG 44 241 238 10 13,e8 45 242 238 241,uS 46 243 238 62 240 242,jR 47 244 238 243,dL 48 245 238 244,A 49 246 245,eG 50 247 246 11 12,kx 51 248 246 3 247,eG 52 249 246 11 13,kx 53 250 246 3 249,uS 54 251 246 60 248 250,jR 55 252 246 251,dL 56 253 246 252,A 57 254 253,eG 58 255 254 14 12,kx 59 256 254 3 255,eG 60 257 254 14 13,kx 61 258 254 3 257,uS 62 259 254 60 256 258,jR 63 260 254 259,dL 64 261 254 260]) (.bj (F 261) (.E (.I [dE 0 4 false]) (.a7)) (.skip))
def ag2:U:= .E (.block 9 (.E (.I [aP 0 187 5 2,aS 1 188 187,A 2 189 11,cL 3 190 17 188 189,c3 4 191 17 190,aP 5 192 5 3,aS 6 193 192,A 7 194 11,cL 8 195 17 193 194,c3 9 196 17 195,bP 10 12 (.eR [.string ⟨#[]⟩,.int .i64 0,.int .i64 0,.int .i64 0,.int .i64 0,.int .i64 0,.int .i64 0,.int .i64 0,.int .i64 0,.slice none 0 0,.slice none 0 0,.bool false,.slice none 0 0,.slice none 0 0,.bool false,.slice none 0 0,.slice none 0 0]),bP 11 13 (.eR [.string ⟨#[]⟩,.int .i64 0,.int .i64 0,.int .i64 0,.int .i64 0,.int .i64 0,.int .i64 0,.int .i64 0,.int .i64 0,.slice none 0 0,.slice none 0 0,.bool false,.slice none 0 0,.slice none 0 0,.bool false,.slice none 0 0,.slice none 0 0]),⟨12,none,none,.store 17 (F 12) (F 191),[(F 195,F 12),(F 192,F 12)]⟩,cV 13 17 13 196]) ag3)) (.I [A 0 185 11,eB 1 186 185,A 2 11 186])
def W8:U:= .E (.E (.I [A 0 180 11,aP 1 181 5 2,aS 2 182 181,cu 3 183 182,eX 4 184 180 183]) (.bj (F 184) (.skip) (.bI 8))) ag2
def ag4:U:= .E (.block 11 (.E (.I [aP 0 269 6 2,aS 1 270 269,A 2 271 14,cL 3 272 2 270 271,c3 4 273 2 272,aP 5 274 6 3,aS 6 275 274,A 7 276 14,cL 8 277 2 275 276,c3 9 278 2 277,bP 10 279 (.rQ true [.str,.int] (F 273) (F 278))]) (.bj (F 279) (.E (.I [dE 0 4 false]) (.a7)) (.skip)))) (.I [A 0 267 14,eB 1 268 267,A 2 14 268])
def W9:U:= .E (.E (.I [A 0 262 14,aP 1 263 6 2,aS 2 264 263,cu 3 265 264,eX 4 266 262 265]) (.bj (F 266) (.skip) (.bI 10))) ag4
def z6:U:= .E (.I [dE 0 4 true]) (.a7)
def BV:U:= .E (.E (.I [bQ 0 14 0]) (.block 10 (.loop W9))) z6
def Ec:U:= .E (.E (.I [bQ 0 11 0]) (.block 8 (.loop W8))) BV
def GA:U:= .E (.E (.I [bQ 0 10 0]) (.block 6 (.loop W7))) Ec
def KD:U:= .E (.E (.I [bQ 0 7 0]) (.block 4 (.loop W6))) GA
def Pu:U:= .E (.E (.I [bQ 0 6 0]) (.block 2 (.loop W5))) KD
def ag5:U:= .E (.E (.I [bQ 0 5 0]) (.block 0 (.loop W4))) Pu
def ag0:U:= .E (.E (.I [aP 0 15 0 2,aS 1 16 15,aP 2 17 0 3,aS 3 18 17,eA 4 19 .neq (F 16) (F 18),A 5 20 19,eG 6 21 20 1 2,e8 7 22 20 21,lB 8 23 20 22,eG 9 24 20 1 3,e8 10 25 20 24,lB 11 26 20 25,qI 12 27 20 23 26,dL 13 28 20 27,A 14 29 28,eG 15 30 29 2 2,e8 16 31 29 30,lB 17 32 29 31,eG 18 33 29 2 3,e8 19 34 29 33,lB 20 35 29 34,qI 21 36 29 32 35,dL 22 37 29 36,A 23 38 37,eG 24 39 38 3 2,e8 25 40 38 39,lB 26 41 38 40,eG 27 42 38 3 3,e8 28 43 38 42,lB 29 44 38 43,qI 30 45 38 41 44,dL 31 46 38 45,A 32 47 46,eG 33 48 47 4 2,e8 34 49 47 48,lB 35 50 47 49,eG 36 51 47 4 3,e8 37 52 47 51,lB 38 53 47 52,qI 39 54 47 50 53,dL 40 55 47 54,A 41 56 55,eG 42 57 56 5 2,e8 43 58 56 57,lB 44 59 56 58,eG 45 60 56 5 3,e8 46 61 56 60,lB 47 62 56 61,qI 48 63 56 59 62,dL 49 64 56 63,A 50 65 64,eG 51 66 65 6 2,e8 52 67 65 66,lB 53 68 65 67,eG 54 69 65 6 3,e8 55 70 65 69,lB 56 71 65 70,qI 57 72 65 68 71,dL 58 73 65 72]) (.bj (F 73) (.E (.I [dE 0 4 false]) (.a7)) (.skip))) ag5
def agZ:U:=
  .E (
  .I [
 hi 0 2 0,
 hi 1 3 1,
 dE 2 4 false]) ag0
def WJ:dn:=⟨280,[.bA 4],agZ⟩
theorem av8:dj Tryz.prog 13=some WJ:=by kernel_rfl
def Qo:U:= .E (.block 1 (.E (.I [A 0 15 0,A 1 16 5,cL 2 17 3 15 16,c3 3 18 3 17,cj 4 19 53 [F 18],iF 5 20 19]) (.bj (F 20) (.E (.I [dE 0 4 false]) (.a7)) (.skip)))) (.I [A 0 13 5,eB 1 14 13,A 2 5 14])
def KW:U:= .E (.E (.I [A 0 10 5,A 1 11 1,eX 2 12 10 11]) (.bj (F 12) (.skip) (.bI 0))) Qo
def GI:U:= .E (.I [dE 0 4 true]) (.a7)
def Yx:U:= .E (.E (.I [bQ 0 5 0]) (.block 0 (.loop KW))) GI
def Yw:U:= .E (.E (.I [A 0 6 0,cu 1 7 6,A 2 8 1,eA 3 9 .neq (F 7) (F 8)]) (.bj (F 9) (.E (.I [dE 0 4 false]) (.a7)) (.skip))) Yx
def Qn:U:=
  .E (
  .I [
 dE 0 4 false]) Yw
def aw9:dn:=⟨21,[.bA 4],Qn⟩
theorem axa:dj Tryz.prog 29=some aw9:=by kernel_rfl
theorem aqw{args:List Value}{m:B}{az:Value->B->Prop}(h:args.length<=21):bJ Tryz.prog 29 args m az=ch Tryz.prog Qn (eu args) m (ey [.bA 4] az):=fD axa h
def YM:U:= .E (.I [A 0 7 0,A 1 8 1,eA 2 9 .geq (F 7) (F 8),A 3 10 9,hQ 4 11 10 0,hQ 5 12 10 2,dz 6 13 10 true (.gz .leq .hM (F 11) (F 12)),e7 7 14 10 13,A 8 6 14]) (.a7)
def YL:U:=
  .E (
  .I [
 dE 0 6 false]) YM
def QO:dn:=⟨15,[.bA 6],YL⟩
theorem axw:dj Tryz.prog 47=some QO:=by kernel_rfl
def Ek:U:= .E (.I [A 0 13 0,eA 1 14 .leq (F 13) (.const (.int .i64 4)),A 2 15 14,hQ 3 16 15 1,nZ 4 17 15 16 4,e7 5 18 15 17,A 6 19 18,hQ 7 20 19 2,nZ 8 21 19 20 40,e7 9 22 19 21,A 10 23 22,hQ 11 24 23 3,nZ 12 25 23 24 24,e7 13 26 23 25,A 14 27 26,hQ 15 28 27 4,nZ 16 29 27 28 4,e7 17 30 27 29,A 18 31 30,hQ 19 32 31 5,nZ 20 33 31 32 12,e7 21 34 31 33,A 22 12 34]) (.a7)
def Ej:U:=
  .E (
  .I [
 dE 0 12 false]) Ek
def B3:dn:=⟨35,[.bA 12],Ej⟩
theorem axx:dj Tryz.prog 48=some B3:=by kernel_rfl
def K8:U:= .E (.block 1 (.E (.I [A 0 12 0,A 1 13 5,cL 2 14 1 12 13,aS 3 15 14,A 4 16 1,eA 5 17 .eql (F 15) (F 16)]) (.bj (F 17) (.E (.I [A 0 18 5,A 1 4 18]) (.a7)) (.skip)))) (.I [A 0 10 5,eB 1 11 10,A 2 5 11])
def QU:U:= .E (.E (.I [A 0 6 5,A 1 7 0,cu 2 8 7,eX 3 9 6 8]) (.bj (F 9) (.skip) (.bI 0))) K8
def K9:U:= .E (.I [bQ 0 4 (-1)]) (.a7)
def aji:U:= .E (.E (.I [bQ 0 5 0]) (.block 0 (.loop QU))) K9
def ajh:U:=
  .E (
  .I [
 bQ 0 4 0]) aji
def YR:dn:=⟨19,[.bA 4],ajh⟩
theorem axA:dj Tryz.prog 50=some YR:=by kernel_rfl
def QV:U:= .E (.block 1 (.I [aP 0 21 2 3,aS 1 22 21,aP 2 23 2 1,aS 3 24 23,A 4 25 4,cL 5 26 1 24 25,aS 6 27 26,lp 7 28 (.eI 56 [F 27]) [(F 21,F 21)],bP 8 29 (.iT 1 1 [.slice none 0 0] [(0,1,F 28)]),kM 9 30 1 24 22 29,aP 10 31 2 3,cV 11 1 31 30])) (.I [A 0 19 4,eB 1 20 19,A 2 4 20])
def YT:U:= .E (.E (.I [A 0 14 4,aP 1 15 2 1,aS 2 16 15,cu 3 17 16,eX 4 18 14 17]) (.bj (F 18) (.skip) (.bI 0))) QV
def QW:U:= .E (.I [c3 0 32 4 3,cV 1 4 2 32]) (.a7)
def ajl:U:= .E (.E (.I [bQ 0 4 0]) (.block 0 (.loop YT))) QW
def ajk:U:= .E (.I [aP 0 5 0 1,aS 1 6 5,aP 2 7 1 1,aS 3 8 7,aP 5 10 3 1,aS 6 11 10,lp 4 9 (.eI 56 [F 8]) [(F 10,F 10),(F 5,F 5)],lp 7 12 (.eI 56 [F 11]) [(F 5,F 5)],bP 8 13 (.gT [.string ⟨#[]⟩,.slice none 0 0,.slice none 0 0,.slice none 0 0] [(0,1,F 6),(1,1,F 9),(3,1,F 12)]),bP 9 3 (.eR [.string ⟨#[]⟩,.slice none 0 0,.slice none 0 0,.slice none 0 0]),cV 10 4 3 13]) ajl
def ajj:U:=
  .E (
  .I [
 hi 0 1 0,
 bP 1 2 (.eR [.string ⟨#[]⟩,.slice none 0 0,.slice none 0 0,.slice none 0 0])]) ajk
def YS:dn:=⟨33,[.h7 2 true 4],ajj⟩
theorem axB:dj Tryz.prog 51=some YS:=by kernel_rfl
def Lh:U:= .E (.I [A 0 10 4,kL 1 11 10 0,A 2 12 11,iq 3 13 12 0 3,iy 4 14 12 13,vW 5 15 12 14,e7 6 16 12 15,A 7 17 16,iq 8 18 17 1 3,iy 9 19 17 18,sb 10 20 17 19,nZ 11 21 17 20 1,e7 12 22 17 21,A 13 23 22,iq 14 24 23 2 3,iy 15 25 23 24,sb 16 26 23 25,nZ 17 27 23 26 1,e7 18 28 23 27,A 19 2 28]) (.a7)
def ajm:U:= .E (.I [c3 0 6 3 1,cj 1 7 55 [F 6],A 2 5 7,dD 3 8 0 5,dD 4 9 1 5,bP 5 3 (.eR [.bool false,.slice none 0 0,.slice none 0 0]),cV 6 3 3 8,A 7 4 9]) Lh
def YU:U:=
  .E (
  .I [
 hi 0 1 0,
 dE 1 2 false]) ajm
def axD:dn:=⟨29,[.bA 2],YU⟩
theorem axE:dj Tryz.prog 53=some axD:=by kernel_rfl
theorem aqD{args:List Value}{m:B}{az:Value->B->Prop}(h:args.length<=29):bJ Tryz.prog 53 args m az=ch Tryz.prog YU (eu args) m (ey [.bA 2] az):=fD axE h
def QY:U:= .E (.block 1 (.E (.I [A 0 14 0,A 1 15 4,cL 2 16 3 14 15,c3 3 17 3 16,cj 4 18 55 [F 17],A 5 13 18,dD 6 19 0 13,dD 7 20 1 13,bP 8 5 (.eR [.bool false,.slice none 0 0,.slice none 0 0]),cV 9 3 5 19,A 10 6 20]) (.I [A 0 21 3,c3 1 22 3 5,LD 2 23 22,kM 3 24 3 56 21 23,A 4 3 24]))) (.I [A 0 11 4,eB 1 12 11,A 2 4 12])
def YY:U:= .E (.E (.I [A 0 7 4,A 1 8 0,cu 2 9 8,eX 3 10 7 9]) (.bj (F 10) (.skip) (.bI 0))) QY
def QZ:U:= .E (.I [A 0 25 3,A 1 2 25]) (.a7)
def ajs:U:= .E (.E (.I [bQ 0 4 0]) (.block 0 (.loop YY))) QZ
def ajr:U:= .E (.I [fQ 0 3]) ajs
def ajq:U:=
  .E (
  .I [
 fQ 0 2]) ajr
def YX:dn:=⟨26,[.bA 2],ajq⟩
theorem axJ:dj Tryz.prog 56=some YX:=by kernel_rfl
def Ll:U:= .E (.block 1 (.E (.I [A 0 32 9,bP 1 33 (.ph 1 5 (F 7) (F 32)),aS 2 34 33,xr 3 35 47 34 0 8,iF 4 36 35]) (.bj (F 36) (.E (.I [dE 0 8 false]) (.a7)) (.skip)))) (.I [A 0 30 9,eB 1 31 30,A 2 9 31])
def Q0:U:= .E (.E (.I [A 0 28 9,oO 1 29 28 5]) (.bj (F 29) (.skip) (.bI 0))) Ll
def B4:U:= .E (.I [dE 0 8 true]) (.a7)
def Lk:U:= .E (.E (.I [bQ 0 9 1]) (.block 0 (.loop Q0))) B4
def Lj:U:= .E (.E (.I [A 0 10 0,A 1 11 1,gj 2 12 108 10 11,iF 3 13 12,A 4 14 13,fi 5 15 14 2,fi 6 16 14 0,fi 7 17 14 0,fi 8 18 14 1,dz 9 19 14 false (.gz .add .hM (F 17) (F 18)),dz 10 20 14 false (.eI 47 [F 15,F 16,F 19]),jR 11 21 14 20,dL 12 22 14 21,A 13 23 22,dz 14 24 23 false (.ph 1 5 (F 7) (.const (.int .i64 0))),e8 15 25 23 24,Es 16 26 23 25,dL 17 27 23 26]) (.bj (F 27) (.E (.I [dE 0 8 false]) (.a7)) (.skip))) Lk
def Li:U:=
  .E (
  .I [
 hi 0 7 3,
 dE 1 8 false]) Lj
def G0:dn:=⟨37,[.bA 8],Li⟩
theorem axK:dj Tryz.prog 57=some G0:=by kernel_rfl
def Ln:U:= .E (.I [A 0 9 1,A 1 10 0,gj 2 11 109 9 10,A 3 12 11,ou 4 13 12 3 6,oP 5 14 12 53 13,e7 6 15 12 14,A 7 16 15,ou 9 18 16 3 6,⟨8,some 17,some (16,true),.eI 33 [.const (.int .i64 1)],[(F 6,F 6)]⟩,dz 10 19 16 true (.eI 110 [F 17,F 18]),vW 11 20 16 19,e7 12 21 16 20,A 13 22 21,ou 14 23 22 3 7,oP 15 24 22 53 23,e7 16 25 22 24,A 17 8 25]) (.a7)
def Lm:U:=
  .E (
  .I [
 hi 0 6 2,
 hi 1 7 3,
 dE 2 8 false]) Ln
def G1:dn:=⟨26,[.bA 8],Lm⟩
theorem axL:dj Tryz.prog 58=some G1:=by kernel_rfl
def Q3:U:= .E (.block 1 (.E (.I [A 0 17 0,A 1 18 5,cL 2 19 1 17 18,aS 3 20 19,A 4 21 1,A 5 22 5,cL 6 23 1 21 22,aS 7 24 23,eA 8 25 .neq (F 20) (F 24)]) (.bj (F 25) (.E (.I [dE 0 4 false]) (.a7)) (.skip)))) (.I [A 0 15 5,eB 1 16 15,A 2 5 16])
def Y4:U:= .E (.E (.I [A 0 11 5,A 1 12 0,cu 2 13 12,eX 3 14 11 13]) (.bj (F 14) (.skip) (.bI 0))) Q3
def Q4:U:= .E (.I [dE 0 4 true]) (.a7)
def ajB:U:= .E (.E (.I [bQ 0 5 0]) (.block 0 (.loop Y4))) Q4
def ajA:U:= .E (.E (.I [A 0 6 0,cu 1 7 6,A 2 8 1,cu 3 9 8,eA 4 10 .neq (F 7) (F 9)]) (.bj (F 10) (.E (.I [dE 0 4 false]) (.a7)) (.skip))) ajB
def ajz:U:=
  .E (
  .I [
 dE 0 4 false]) ajA
def Y3:dn:=⟨26,[.bA 4],ajz⟩
theorem axO:dj Tryz.prog 61=some Y3:=by kernel_rfl
def Gq:U:= .E (.I [A 0 5 0,sc 1 6 5 1,A 2 7 6,hQ 3 8 7 0,nZ 4 9 7 8 6,e7 5 10 7 9,A 6 11 10,hQ 7 12 11 1,dz 8 13 11 true (.gz .geq .hM (F 12) (.const (.int .i64 0))),e7 9 14 11 13,A 10 15 14,hQ 11 16 15 1,nZ 12 17 15 16 4,e7 13 18 15 17,A 14 19 18,hQ 15 20 19 0,hQ 16 21 19 1,dz 17 22 19 true (.gz .add .hM (F 20) (F 21)),nZ 18 23 19 22 8,e7 19 24 19 23,A 20 4 24]) (.a7)
def Gp:U:=
  .E (
  .I [
 dE 0 4 false]) Gq
def D6:dn:=⟨25,[.bA 4],Gp⟩
theorem avB:dj Tryz.prog 108=some D6:=by kernel_rfl
def J8:U:= .E (.block 1 (.E (.I [A 0 17 0,A 1 18 5,cL 2 19 3 17 18,c3 3 20 3 19,cj 4 21 30 [F 20],kL 5 22 21 0]) (.bj (F 22) (.E (.I [dE 0 4 false]) (.a7)) (.skip)))) (.I [A 0 15 5,eB 1 16 15,A 2 5 16])
def OR:U:= .E (.E (.I [A 0 11 5,A 1 12 0,cu 2 13 12,eX 3 14 11 13]) (.bj (F 14) (.skip) (.bI 0))) J8
def Gr:U:= .E (.I [dE 0 4 true]) (.a7)
def Wt:U:= .E (.E (.I [bQ 0 5 0]) (.block 0 (.loop OR))) Gr
def Ws:U:= .E (.E (.I [A 0 6 0,A 1 7 1,bP 2 8 (.xy true (F 7) [.const (.int .i64 1)]),gj 3 9 29 6 8,iF 4 10 9]) (.bj (F 10) (.E (.I [dE 0 4 false]) (.a7)) (.skip))) Wt
def Wr:U:=
  .E (
  .I [
 dE 0 4 false]) Ws
def OQ:dn:=⟨23,[.bA 4],Wr⟩
theorem avC:dj Tryz.prog 109=some OQ:=by kernel_rfl
end Go.Proofs.YtkpifdkccdndcaaGreat
