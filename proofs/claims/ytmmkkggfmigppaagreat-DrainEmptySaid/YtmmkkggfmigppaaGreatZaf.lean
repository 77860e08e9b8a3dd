/-
  A part of the proof of the statement, in texts that tools of ours (wip/shrink.py, irpack.py, relax.py, minify.py, join.py, lay.py) have shortened.
-/
import Derived.Test.YtmmkkggfmigppaaGreatZae
set_option linter.all false
set_option maxRecDepth 8000
set_option maxHeartbeats 16000000
namespace Go.Proofs.YtmmkkggfmigppaaGreat
open Go Go.DI
def Lq:I:= .B (.E [A 0 73 3,aH 1 74 0 10,av 2 75 74,xN 3 76 75,iN 4 77 1 16 73 76,A 5 3 77]) (.E [A 0 78 8,A 1 79 78,jc 2 80 79 4 10,l3 3 81 79 112 80,dd 4 82 79 81,A 5 8 82])
def Lp:I:= .B (.block 1 (.B (.E [bo 0 71 4 67 69,bZ 1 72 4 71,a1 2 10 (.dm [.string ⟨#[]⟩,aI,aI,aI]),b0 3 4 10 72]) Lq)) (.E [cO 0 83 69,A 1 69 83])
def GF:I:= .B (.aR (F 70) (.skip) (.ba 0)) Lp
def Cn:I:= .B (.E [c6 0 70 69 68]) GF
def Ck:I:= .B (.E [A 0 91 4,aH 1 92 0 12,av 2 93 92,xN 3 94 93,iN 4 95 1 16 91 94,A 5 4 95]) (.E [A 0 96 8,A 1 97 96,ec 2 98 97 1 12,eo 3 99 97 98,zW 4 100 97 110 99 16,dd 5 101 97 100,A 6 102 101,ec 7 103 102 2 12,eo 8 104 102 103,zW 9 105 102 110 104 64,dd 10 106 102 105,A 11 107 106,ec 12 108 107 3 12,eo 13 109 107 108,ec 14 110 107 1 1,eo 15 111 107 110,lq 16 112 107 111,qY 17 113 107 112,ug 18 114 107 110 109 113,dd 19 115 107 114,A 20 8 115])
def Cj:I:= .B (.block 3 (.B (.E [bo 0 89 4 85 87,bZ 1 90 4 89,a1 2 12 (.dm [.string ⟨#[]⟩,aK,aK,aK]),b0 3 4 12 90]) Ck)) (.E [cO 0 116 87,A 1 87 116])
def zL:I:= .B (.aR (F 88) (.skip) (.ba 2)) Cj
def xy:I:= .B (.E [c6 0 88 87 86]) zL
def acm:I:= .B (.block 5 (.B (.E [bo 0 123 7 119 121,bZ 1 124 7 123,a1 2 14 (.dm [.string ⟨#[]⟩,aK,aK,aK,.bool false,aI,aI]),b0 3 7 14 124]) (.E [A 0 125 5,aH 1 126 0 14,av 2 127 126,xN 3 128 127,iN 4 129 1 16 125 128,A 5 5 129]))) (.E [cO 0 130 121,A 1 121 130])
def Rx:I:= .B (.aR (F 122) (.skip) (.ba 4)) acm
def Lr:I:= .B (.E [c6 0 122 121 120]) Rx
def Cm:I:= .B (.E [A 0 138 5,aH 1 139 0 16,av 2 140 139,xN 3 141 140,iN 4 142 1 16 138 141,A 5 5 142]) (.E [A 0 143 8,A 1 144 143,ec 2 145 144 1 16,eo 3 146 144 145,ec 4 147 144 2 1,eo 5 148 144 147,lq 6 149 144 148,qY 7 150 144 149,ug 8 151 144 110 146 150,dd 9 152 144 151,A 10 153 152,ec 11 154 153 2 16,eo 12 155 153 154,ec 13 156 153 3 1,eo 14 157 153 156,lq 15 158 153 157,qY 16 159 153 158,ug 17 160 153 110 155 159,dd 18 161 153 160,A 19 162 161,ec 20 163 162 3 1,eo 21 164 162 163,ec 22 165 162 2 16,eo 23 166 162 165,nx 24 167 162 7 164 166,ec 25 168 162 1 167,eo 26 169 162 168,rV 27 170 162 169 4,dd 28 171 162 170,A 29 8 171])
def Cl:I:= .B (.block 7 (.B (.E [bo 0 136 3 132 134,bZ 1 137 3 136,a1 2 16 (.dm [.string ⟨#[]⟩,aK,aK]),b0 3 3 16 137]) Cm)) (.E [cO 0 172 134,A 1 134 172])
def zK:I:= .B (.aR (F 135) (.skip) (.ba 6)) Cl
def xz:I:= .B (.E [c6 0 135 134 133]) zK
def Lm:I:= .B (.E [A 0 180 6,aH 1 181 0 18,av 2 182 181,xN 3 183 182,iN 4 184 1 16 180 183,A 5 6 184]) (.E [A 0 185 8,A 1 186 185,jc 2 187 186 17 18,ec 3 188 186 2 1,eo 4 189 186 188,lq 5 190 186 189,cq 6 191 186 true (.dA 113 [F 187,F 190]),dd 7 192 186 191,A 8 8 192])
def Ll:I:= .B (.block 9 (.B (.E [bo 0 178 17 174 176,bZ 1 179 17 178,a1 2 18 (.dm [.string ⟨#[]⟩,aK,aK,aK,aK,aK,aK,aK,aK,aI,aI,.bool false,aI,aI,.bool false,aI,aI]),b0 3 17 18 179]) Lm)) (.E [cO 0 193 176,A 1 176 193])
def GC:I:= .B (.aR (F 177) (.skip) (.ba 8)) Ll
def Co:I:= .B (.E [c6 0 177 176 175]) GC
def Lo:I:= .B (.E [A 0 201 7,aH 1 202 0 20,av 2 203 202,xN 3 204 203,iN 4 205 1 16 201 204,A 5 7 205]) (.E [A 0 206 8,A 1 207 206,ec 2 208 207 1 20,eo 3 209 207 208,ec 4 210 207 5 1,eo 5 211 207 210,lq 6 212 207 211,qY 7 213 207 212,ug 8 214 207 110 209 213,dd 9 215 207 214,A 10 8 215])
def Ln:I:= .B (.block 11 (.B (.E [bo 0 199 2 195 197,bZ 1 200 2 199,a1 2 20 (.dm [.string ⟨#[]⟩,aK]),b0 3 2 20 200]) Lo)) (.E [cO 0 216 197,A 1 197 216])
def GD:I:= .B (.aR (F 198) (.skip) (.ba 10)) Ln
def Cp:I:= .B (.E [c6 0 198 197 196]) GD
def xx:I:= .B (.E [a6 0 2 0]) (.aG)
def xw:I:= .B (.B (.E [A 0 217 8,g2 1 218 217,A 2 219 218,di 3 220 219 3,jo 4 221 219 114 220,ih 5 222 219 221,cJ 6 223 219 222,A 7 224 223,di 8 225 224 4,jo 9 226 224 114 225,ih 10 227 224 226,cJ 11 228 224 227,A 12 229 228,di 13 230 229 5,jo 14 231 229 114 230,ih 15 232 229 231,cJ 16 233 229 232,A 17 234 233,di 18 235 234 6,jo 19 236 234 114 235,ih 20 237 234 236,cJ 21 238 234 237,A 22 239 238,di 23 240 239 7,jo 24 241 239 114 240,ih 25 242 239 241,cJ 26 243 239 242]) (.aR (F 243) (.B (.E [a6 0 2 1]) (.aG)) (.skip))) xx
def acq:I:= .B (.B (.E [aH 0 194 6 1,av 1 195 194,bC 2 196 195,a6 3 197 0]) (.block 10 (.loop Cp))) xw
def aco:I:= .B (.B (.E [aH 0 173 5 1,av 1 174 173,bC 2 175 174,a6 3 176 0]) (.block 8 (.loop Co))) acq
def acn:I:= .B (.B (.E [aH 0 131 4 1,av 1 132 131,bC 2 133 132,a6 3 134 0]) (.block 6 (.loop xz))) aco
def ack:I:= .B (.B (.E [aH 0 117 3 1,av 1 118 117,a1 2 119 (.nb 7 (F 118) (some (.const (.int .i64 1))) none),bC 3 120 119,a6 4 121 0]) (.block 4 (.loop Lr))) acn
def acu:I:= .B (.B (.E [aH 0 84 2 1,av 1 85 84,bC 2 86 85,a6 3 87 0]) (.block 2 (.loop xy))) ack
def acs:I:= .B (.B (.E [aH 0 66 1 1,av 1 67 66,bC 2 68 67,a6 3 69 0]) (.block 0 (.loop Cn))) acu
def acr:I:= .B (.E [ch 0 8 true]) acs
def acp:I:= .B (.E [eL 0 3,eL 1 4,eL 2 5,eL 3 6,eL 4 7]) acr
def ua:I:= .B (.B (.E [aH 0 21 0 1,av 1 22 21,zX 2 23 110 22 1 4,g2 3 24 23,A 4 25 24,eb 5 26 25 1 1,dJ 6 27 25 26,hM 7 28 25 27,l4 8 29 25 28 4,cJ 9 30 25 29,A 10 31 30,eb 11 32 31 2 1,dJ 12 33 31 32,hM 13 34 31 33,l4 14 35 31 34 4,cJ 15 36 31 35,A 16 37 36,eb 17 38 37 3 1,dJ 18 39 37 38,hM 19 40 37 39,l4 20 41 37 40 40,cJ 21 42 37 41,A 22 43 42,eb 23 44 43 4 1,dJ 24 45 43 44,hM 25 46 43 45,l4 26 47 43 46 24,cJ 27 48 43 47,A 28 49 48,eb 29 50 49 5 1,dJ 30 51 49 50,hM 31 52 49 51,l4 32 53 49 52 4,cJ 33 54 49 53,A 34 55 54,eb 35 56 55 6 1,dJ 36 57 55 56,hM 37 58 55 57,l4 38 59 55 58 12,cJ 39 60 55 59,A 40 61 60,k2 41 62 61 7 1,jo 42 63 61 111 62,ih 43 64 61 63,cJ 44 65 61 64]) (.aR (F 65) (.B (.E [a6 0 2 1]) (.aG)) (.skip))) acp
def tZ:I:=
  .B (
  .E [
 dI 0 1 0,
 a6 1 2 0]) ua
def sP:bS:=⟨244,[.bG 2],tZ⟩
theorem asb:b2 al 62=some sP:=by kernel_rfl
def XL:I:= .B (.E [A 0 7 0,A 1 8 1,c3 2 9 .geq (F 7) (F 8),A 3 10 9,ep 4 11 10 0,ep 5 12 10 2,cq 6 13 10 true (.eX .leq .fR (F 11) (F 12)),dd 7 14 10 13,A 8 6 14]) (.aG)
def XK:I:=
  .B (
  .E [
 ch 0 6 false]) XL
def PZ:bS:=⟨15,[.bG 6],XK⟩
theorem aj7:b2 al 110=some PZ:=by kernel_rfl
def vD:I:= .B (.E [aH 0 52 2 5,av 1 53 52,A 2 54 4,b6 3 55 110 [F 53,.const aK,F 54],g2 4 56 55,A 5 57 56,eb 6 58 57 3 1,dJ 7 59 57 58,eb 8 60 57 2 5,dJ 9 61 57 60,oC 10 62 57 7 59 61,eb 11 63 57 1 62,dJ 12 64 57 63,eb 13 65 57 1 5,dJ 14 66 57 65,cq 15 67 57 false (.eX .sub .fR (F 66) (.const (.int .i64 1))),sS 16 68 57 64 67,cJ 17 69 57 68,A 18 70 69,eb 19 71 70 1 5,dJ 20 72 70 71,cq 21 73 70 false (.dA 110 [F 72,.const (.int .i64 1),.const (.int .i64 4)]),ih 22 74 70 73,cJ 23 75 70 74,A 24 76 75,eb 25 77 76 3 5,dJ 26 78 76 77,cq 27 79 76 false (.dA 110 [F 78,.const (.int .i64 1),.const (.int .i64 64)]),ih 28 80 76 79,cJ 29 81 76 80,A 30 82 81,eb 31 83 82 4 5,k2 32 84 82 3 83,jo 33 85 82 170 84,ih 34 86 82 85,cJ 35 87 82 86]) (.aR (F 87) (.B (.E [ch 0 2 false]) (.aG)) (.skip))
def vC:I:= .B (.block 1 (.B (.E [A 0 49 47,bo 1 50 7 45 47,bZ 2 51 7 50,a1 3 5 (.dm [.string ⟨#[]⟩,aK,aK,aK,.bool false,aI,aI]),A 4 4 49,b0 5 7 5 51]) vD)) (.E [cO 0 88 47,A 1 47 88])
def vB:I:= .B (.aR (F 48) (.skip) (.ba 0)) vC
def xp:I:= .B (.E [c6 0 48 47 46]) vB
def oB:I:= .B (.E [ch 0 2 true]) (.aG)
def vA:I:= .B (.B (.E [aH 0 43 3 1,av 1 44 43,a1 2 45 (.nb 7 (F 44) (some (.const (.int .i64 1))) none),bC 3 46 45,a6 4 47 0]) (.block 0 (.loop xp))) oB
def vz:I:= .B (.B (.E [aH 0 14 0 3,av 1 15 14,c3 2 16 .neq (F 15) (.const (.string ⟨#[]⟩)),A 3 17 16,eb 4 18 17 1 3,dJ 5 19 17 18,CG 6 20 17 19,cJ 7 21 17 20,A 8 22 21,eb 9 23 22 2 3,dJ 10 24 22 23,cq 11 25 22 false (.eX .neq .fR (F 24) (.const (.int .i64 (-1)))),cJ 12 26 22 25,A 13 27 26,eb 14 28 27 3 3,dJ 15 29 27 28,CG 16 30 27 29,cJ 17 31 27 30,A 18 32 31,eb 19 33 32 4 3,k2 20 34 32 3 33,jo 21 35 32 170 34,ih 22 36 32 35,cJ 23 37 32 36,A 24 38 37,eb 25 39 38 4 3,k2 26 40 38 3 39,jo 27 41 38 171 40,cJ 28 42 38 41]) (.aR (F 42) (.B (.E [ch 0 2 false]) (.aG)) (.skip))) vA
def vy:I:= .B (.E [aH 0 10 3 1,av 1 11 10,xM 2 12 7 11,bZ 3 13 7 12,a1 4 3 (.dm [.string ⟨#[]⟩,aK,aK,aK,.bool false,aI,aI]),b0 5 7 3 13]) vz
def vx:I:= .B (.B (.E [aH 0 6 3 1,av 1 7 6,bC 2 8 7,jn 3 9 8 0]) (.aR (F 9) (.B (.E [ch 0 2 false]) (.aG)) (.skip))) vy
def vw:I:=
  .B (
  .E [
 dI 0 1 0,
 ch 1 2 false]) vx
def tY:bS:=⟨89,[.bG 2],vw⟩
theorem aj8:b2 al 111=some tY:=by kernel_rfl
def P4:I:= .B (.E [A 0 52 5,bC 1 53 52,A 2 54 3,c3 3 55 .neq (F 53) (F 54),A 4 56 55,di 5 57 56 5,cq 6 58 56 false (.dA 172 [F 57,.func 170]),ih 7 59 56 58,cJ 8 60 56 59,A 9 61 60,di 10 62 61 5,di 11 63 61 4,oC 12 64 61 3 62 63,k2 13 65 61 3 64,jo 14 66 61 171 65,cJ 15 67 61 66]) (.aR (F 67) (.B (.E [ch 0 2 false]) (.aG)) (.skip))
def P3:I:= .B (.block 1 (.B (.E [A 0 49 47,bo 1 50 1 45 47,av 2 51 50,A 3 4 49,A 4 5 51]) P4)) (.E [cO 0 68 47,A 1 47 68])
def P2:I:= .B (.aR (F 48) (.skip) (.ba 0)) P3
def P8:I:= .B (.E [c6 0 48 47 46]) P2
def P1:I:= .B (.E [A 0 85 7,jn 1 86 85 0,A 2 87 86,ep 3 88 87 10,rV 4 89 87 88 0,dd 5 90 87 89,A 6 91 90,jc 7 92 91 4 1,l3 8 93 91 176 92,dd 9 94 91 93,A 10 2 94]) (.aG)
def P7:I:= .B (.E [bZ 0 80 3 6,bZ 1 81 3 8,dg 2 82 175 80 81,A 3 79 82,cw 4 83 0 79,cw 5 84 1 79,A 6 10 83,A 7 11 84]) P1
def P6:I:= .B (.E [vJ 0 76 174 1 1,A 1 75 76,cw 2 77 0 75,cw 3 78 1 75,a1 4 8 (.dm [.bool false,aI,aI]),b0 5 3 8 77,A 6 9 78]) P7
def P5:I:= .B (.E [aH 0 70 1 1,av 1 71 70,b6 2 72 173 [F 71],A 3 69 72,cw 4 73 0 69,cw 5 74 1 69,a1 6 6 (.dm [.bool false,aI,aI]),b0 7 3 6 73,A 8 7 74]) P6
def XP:I:= .B (.B (.E [aH 0 44 2 1,av 1 45 44,bC 2 46 45,a6 3 47 0]) (.block 0 (.loop P8))) P5
def XO:I:= .B (.B (.E [A 0 15 3,zX 1 16 110 15 1 4,g2 2 17 16,A 3 18 17,eb 4 19 18 3 1,dJ 5 20 18 19,hM 6 21 18 20,di 7 22 18 3,sS 8 23 18 21 22,cJ 9 24 18 23,A 10 25 24,eb 11 26 25 2 1,dJ 12 27 25 26,hM 13 28 25 27,di 14 29 25 3,sS 15 30 25 28 29,cJ 16 31 25 30,A 17 32 31,eb 18 33 32 1 1,dJ 19 34 32 33,cq 20 35 32 false (.dA 172 [F 34,.func 170]),ih 21 36 32 35,cJ 22 37 32 36,A 23 38 37,eb 24 39 38 3 1,dJ 25 40 38 39,cq 26 41 38 false (.dA 172 [F 40,.func 170]),ih 27 42 38 41,cJ 28 43 38 42]) (.aR (F 43) (.B (.E [ch 0 2 false]) (.aG)) (.skip))) XP
def XN:I:= .B (.E [aH 0 12 1 1,av 1 13 12,bC 2 14 13,A 3 3 14]) XO
def XM:I:=
  .B (
  .E [
 dI 0 1 0,
 ch 1 2 false]) XN
def P0:bS:=⟨95,[.bG 2],XM⟩
theorem aj9:b2 al 112=some P0:=by kernel_rfl
def BJ:I:= .B (.B (.E [A 0 45 7,A 1 46 1,h3 2 47 46 1,b6 3 48 110 [F 45,.const aK,F 47],g2 4 49 48,A 5 50 49,di 6 51 50 5,di 7 52 50 7,oC 8 53 50 1 51 52,dJ 9 54 50 53,cJ 10 55 50 54]) (.aR (F 55) (.B (.E [ch 0 4 false]) (.aG)) (.skip))) (.E [A 0 56 5,A 1 57 7,bo 2 58 1 56 57,p4 3 (.store 1 (F 58) (.const (.bool true)))])
def BI:I:= .B (.block 1 (.B (.E [bo 0 43 1 39 41,av 1 44 43,A 2 7 44]) BJ)) (.E [cO 0 59 41,A 1 41 59])
def BH:I:= .B (.aR (F 42) (.skip) (.ba 0)) BI
def Fj:I:= .B (.E [c6 0 42 41 40]) BH
def vE:I:= .B (.E [ch 0 4 true]) (.aG)
def Fi:I:= .B (.B (.E [aH 0 38 9 2,av 1 39 38,bC 2 40 39,a6 3 41 0]) (.block 0 (.loop Fj))) vE
def Fh:I:= .B (.E [A 0 36 1,zY 1 37 36 36,A 2 5 37]) Fi
def Fg:I:= .B (.B (.E [aH 0 8 1 2,av 1 9 8,aH 2 10 2 2,av 3 11 10,aH 4 12 3 2,av 5 13 12,aH 6 14 4 2,bZ 7 15 5 14,b6 8 16 177 [F 9,F 11,F 13,F 15],g2 9 17 16,A 10 18 17,eb 11 19 18 9 2,dJ 12 20 18 19,hM 13 21 18 20,zV 14 22 18 21,cJ 15 23 18 22,A 16 24 23,eb 17 25 24 2 2,dJ 18 26 24 25,eb 19 27 24 10 2,dJ 20 28 24 27,eb 21 29 24 11 2,k2 22 30 24 3 29,eb 23 31 24 14 2,k2 24 32 24 3 31,cq 25 33 24 false (.dA 178 [F 26,F 28,F 30,F 32]),ih 26 34 24 33,cJ 27 35 24 34]) (.aR (F 35) (.B (.E [ch 0 4 false]) (.aG)) (.skip))) Fh
def Ff:I:=
  .B (
  .E [
 dI 0 2 0,
 ch 1 4 false]) Fg
def BG:bS:=⟨60,[.bG 4],Ff⟩
theorem aka:b2 al 113=some BG:=by kernel_rfl
def BM:I:= .B (.B (.E [A 0 13 5,b6 1 14 179 [F 13],g2 2 15 14,A 3 16 15,di 4 17 16 3,di 5 18 16 5,cq 6 19 16 false (.m1 .str (.bool false) false (F 17) (F 18)),cJ 7 20 16 19]) (.aR (F 20) (.B (.E [ch 0 2 false]) (.aG)) (.skip))) (.E [A 0 21 3,A 1 22 5,p4 2 (.lJ .str (F 21) (F 22) (.const (.bool true)))])
def BL:I:= .B (.block 1 (.B (.E [bo 0 11 1 7 9,av 1 12 11,A 2 5 12]) BM)) (.E [cO 0 23 9,A 1 9 23])
def BK:I:= .B (.aR (F 10) (.skip) (.ba 0)) BL
def Fk:I:= .B (.E [c6 0 10 9 8]) BK
def BN:I:= .B (.E [ch 0 2 true]) (.aG)
def XS:I:= .B (.B (.E [A 0 7 0,bC 1 8 7,a6 2 9 0]) (.block 0 (.loop Fk))) BN
def XR:I:= .B (.E [a1 0 6 (.m0),A 1 3 6]) XS
def XQ:I:=
  .B (
  .E [
 ch 0 2 false]) XR
def P9:bS:=⟨24,[.bG 2],XQ⟩
theorem akb:b2 al 114=some P9:=by kernel_rfl
def YX:I:= .B (.E [A 0 10 4,jn 1 11 10 0,A 2 12 11,ec 3 13 12 0 3,eo 4 14 12 13,rW 5 15 12 14,dd 6 16 12 15,A 7 17 16,ec 8 18 17 1 3,eo 9 19 17 18,l3 10 20 17 216 19,ny 11 21 17 20 32,dd 12 22 17 21,A 13 23 22,ec 14 24 23 2 3,eo 15 25 23 24,l3 16 26 23 216 25,ny 17 27 23 26 32,dd 18 28 23 27,A 19 2 28]) (.aG)
def YW:I:= .B (.E [bZ 0 6 3 1,b6 1 7 215 [F 6],A 2 5 7,cw 3 8 0 5,cw 4 9 1 5,a1 5 3 (.dm [.bool false,aI,aI]),b0 6 3 3 8,A 7 4 9]) YX
def YU:I:=
  .B (
  .E [
 dI 0 1 0,
 ch 1 2 false]) YW
def Ki:bS:=⟨29,[.bG 2],YU⟩
theorem YV:b2 al 170=some Ki:=by kernel_rfl
def Y0:I:= .B (.E [aH 0 3 1 1,av 1 4 3,b6 2 5 216 [F 4],ko 3 6 5 0,A 4 2 6]) (.aG)
def YY:I:=
  .B (
  .E [
 dI 0 1 0,
 ch 1 2 false]) Y0
def Kj:bS:=⟨7,[.bG 2],YY⟩
theorem YZ:b2 al 171=some Kj:=by kernel_rfl
def FG:I:= .B (.E [A 0 13 1,bZ 1 14 3 6,a1 2 15 (.iw (F 13) [F 14]),g2 3 16 15]) (.aR (F 16) (.B (.E [ch 0 4 false]) (.aG)) (.skip))
def FF:I:= .B (.block 1 (.B (.E [bo 0 11 3 7 9,bZ 1 12 3 11,a1 2 6 (.dm [.bool false,aI,aI]),b0 3 3 6 12]) FG)) (.E [cO 0 17 9,A 1 9 17])
def FE:I:= .B (.aR (F 10) (.skip) (.ba 0)) FF
def Kk:I:= .B (.E [c6 0 10 9 8]) FE
def FH:I:= .B (.E [ch 0 4 true]) (.aG)
def Y2:I:= .B (.B (.E [A 0 7 0,bC 1 8 7,a6 2 9 0]) (.block 0 (.loop Kk))) FH
def Y1:I:=
  .B (
  .E [
 ch 0 4 false]) Y2
def Qu:bS:=⟨18,[.bG 4],Y1⟩
theorem amb:b2 al 172=some Qu:=by kernel_rfl
def FN:I:= .B (.block 5 (.B (.E [A 0 46 44,bo 1 47 3 42 44,bZ 2 48 3 47,a1 3 7 (.dm [.bool false,aI,aI]),A 4 6 46,b0 5 3 7 48]) (.E [A 0 49 3,A 1 50 5,A 2 51 3,A 3 52 5,bo 4 53 1 51 52,av 5 54 53,A 6 55 54,k2 7 56 55 3 7,jo 8 57 55 171 56,di 9 58 55 57,ep 10 59 58 3,ep 11 60 58 6,nx 12 61 58 1 59 60,eo 13 62 58 61,cq 14 63 55 false (.oL (F 58) (F 62) (.const (.bool false))),cJ 15 64 55 63,bo 16 65 1 49 50,b0 17 1 65 64]))) (.E [cO 0 66 44,A 1 44 66])
def FM:I:= .B (.aR (F 45) (.skip) (.ba 4)) FN
def FO:I:= .B (.E [c6 0 45 44 43]) FM
def FL:I:= .B (.E [aH 0 38 2 1,av 1 39 38,A 2 40 5,bo 3 41 1 39 40,av 4 42 41,bC 5 43 42,a6 6 44 0]) (.block 4 (.loop FO))
def FK:I:= .B (.E [A 0 23 3,A 1 24 5,A 2 25 3,A 3 26 5,bo 4 27 1 25 26,av 5 28 27,A 6 29 28,eb 7 30 29 3 1,dJ 8 31 29 30,di 9 32 29 5,oC 10 33 29 3 31 32,k2 11 34 29 3 33,jo 12 35 29 171 34,cJ 13 36 29 35,bo 14 37 1 23 24,b0 15 1 37 36]) FL
def FJ:I:= .B (.block 3 (.B (.E [A 0 22 20,A 1 5 22]) FK)) (.E [cO 0 67 20,A 1 20 67])
def FI:I:= .B (.aR (F 21) (.skip) (.ba 2)) FJ
def FP:I:= .B (.E [c6 0 21 20 19]) FI
def Km:I:= .B (.block 1 (.B (.E [A 0 18 3,bC 1 19 18,a6 2 20 0]) (.block 2 (.loop FP)))) (.E [A 0 16 4,cO 1 17 16,A 2 4 17])
def Kn:I:= .B (.B (.E [A 0 12 4,A 1 13 3,bC 2 14 13,c3 3 15 .leq (F 12) (F 14)]) (.aR (F 15) (.skip) (.ba 0))) Km
def Kl:I:= .B (.E [A 0 68 3,b6 1 69 225 [F 68,.func 226],A 2 2 69]) (.aG)
def Y8:I:= .B (.B (.E [a6 0 4 0]) (.block 0 (.loop Kn))) Kl
def Y7:I:= .B (.E [aH 0 8 3 1,av 1 9 8,bC 2 10 9,zY 3 11 10 10,A 4 3 11]) Y8
def Y6:I:=
  .B (
  .E [
 dI 0 1 0,
 ch 1 2 false]) Y7
def Qv:bS:=⟨70,[.bG 2],Y6⟩
theorem amx:b2 al 176=some Qv:=by kernel_rfl
def zt:I:= .B (.E [a1 0 37 (.oR 1 5 (F 7)),b6 1 38 227 [F 37,.func 228],A 2 8 38]) (.aG)
def zs:I:= .B (.B (.E [A 0 9 0,zX 1 10 110 9 1 6,g2 2 11 10,A 3 12 11,di 4 13 12 1,cq 5 14 12 false (.dA 110 [F 13,.const aK,.const (.int .i64 4)]),ih 6 15 12 14,cJ 7 16 12 15,A 8 17 16,di 9 18 17 0,di 10 19 17 1,cq 11 20 17 false (.eX .add .fR (F 18) (F 19)),l4 12 21 17 20 8,cJ 13 22 17 21,A 14 23 22,di 15 24 23 2,di 16 25 23 0,di 17 26 23 0,di 18 27 23 1,cq 19 28 23 false (.eX .add .fR (F 26) (F 27)),cq 20 29 23 false (.dA 110 [F 24,F 25,F 28]),ih 21 30 23 29,cJ 22 31 23 30,A 23 32 31,cq 24 33 32 false (.oz 1 5 (F 7) (.const aK)),dJ 25 34 32 33,CG 26 35 32 34,cJ 27 36 32 35]) (.aR (F 36) (.B (.E [ch 0 8 false]) (.aG)) (.skip))) zt
def zr:I:=
  .B (
  .E [
 dI 0 7 3,
 ch 1 8 false]) zs
def xt:bS:=⟨39,[.bG 8],zr⟩
theorem amy:b2 al 177=some xt:=by kernel_rfl
def FR:I:= .B (.E [A 0 9 1,bC 1 10 9,A 2 11 0,a1 3 12 (.oF true (F 11) [.const (.int .i64 1)]),c3 4 13 .eql (F 10) (F 12),A 5 14 13,ep 6 15 14 1,cq 7 16 14 true (.dA 172 [F 15,.func 229]),dd 8 17 14 16,A 9 18 17,jc 10 19 18 3 6,l3 11 20 18 170 19,dd 12 21 18 20,A 13 22 21,jc 14 23 22 3 6,l3 15 24 22 230 23,dd 16 25 22 24,A 17 26 25,jc 18 27 26 3 7,l3 19 28 26 170 27,dd 20 29 26 28,A 21 8 29]) (.aG)
def FQ:I:=
  .B (
  .E [
 dI 0 6 2,
 dI 1 7 3,
 ch 2 8 false]) FR
def BW:bS:=⟨30,[.bG 8],FQ⟩
theorem amz:b2 al 178=some BW:=by kernel_rfl
def KP:I:= .B (.E [A 0 13 1,A 1 14 6,a1 2 15 (.iw (F 13) [F 14]),g2 3 16 15]) (.aR (F 16) (.B (.E [ch 0 4 false]) (.aG)) (.skip))
def KO:I:= .B (.block 1 (.B (.E [bo 0 11 1 7 9,av 1 12 11,A 2 6 12]) KP)) (.E [cO 0 17 9,A 1 9 17])
def KN:I:= .B (.aR (F 10) (.skip) (.ba 0)) KO
def QN:I:= .B (.E [c6 0 10 9 8]) KN
def KQ:I:= .B (.E [ch 0 4 true]) (.aG)
def aan:I:= .B (.B (.E [A 0 7 0,bC 1 8 7,a6 2 9 0]) (.block 0 (.loop QN))) KQ
def aam:I:=
  .B (
  .E [
 ch 0 4 false]) aan
def QM:bS:=⟨18,[.bG 4],aam⟩
theorem aoD:b2 al 225=some QM:=by kernel_rfl
def aap:I:= .B (.E [A 0 3 0,A 1 2 3]) (.aG)
def aao:I:=
  .B (
  .E [
 ch 0 2 false]) aap
def QO:bS:=⟨4,[.bG 2],aao⟩
theorem aoE:b2 al 226=some QO:=by kernel_rfl
def Gg:I:= .B (.E [A 0 13 1,A 1 14 6,a1 2 15 (.iw (F 13) [F 14]),g2 3 16 15]) (.aR (F 16) (.B (.E [ch 0 4 false]) (.aG)) (.skip))
def Gf:I:= .B (.block 1 (.B (.E [bo 0 11 1 7 9,av 1 12 11,A 2 6 12]) Gg)) (.E [cO 0 17 9,A 1 9 17])
def Ge:I:= .B (.aR (F 10) (.skip) (.ba 0)) Gf
def KR:I:= .B (.E [c6 0 10 9 8]) Ge
def Gh:I:= .B (.E [ch 0 4 true]) (.aG)
def aar:I:= .B (.B (.E [A 0 7 0,bC 1 8 7,a6 2 9 0]) (.block 0 (.loop KR))) Gh
def aaq:I:=
  .B (
  .E [
 ch 0 4 false]) aar
def QP:bS:=⟨18,[.bG 4],aaq⟩
theorem aoF:b2 al 227=some QP:=by kernel_rfl
def aat:I:= .B (.E [A 0 3 0,zX 1 4 110 3 0 8,A 2 2 4]) (.aG)
def aas:I:=
  .B (
  .E [
 ch 0 2 false]) aat
def QQ:bS:=⟨5,[.bG 2],aas⟩
theorem aoG:b2 al 228=some QQ:=by kernel_rfl
def aav:I:= .B (.E [bZ 0 3 3 1,b6 1 4 170 [F 3],A 2 5 4,jc 3 6 5 3 1,l3 4 7 5 171 6,dd 5 8 5 7,A 6 2 8]) (.aG)
def aau:I:=
  .B (
  .E [
 dI 0 1 0,
 ch 1 2 false]) aav
def QR:bS:=⟨9,[.bG 2],aau⟩
theorem aoH:b2 al 229=some QR:=by kernel_rfl
def aoM:I:= .B (.E [A 0 17 6,jn 1 18 17 0,A 2 19 18,ep 3 20 19 5,ny 4 21 19 20 0,dd 5 22 19 21,A 6 2 22]) (.aG)
def aoL:I:= .B (.E [bZ 0 12 3 1,bZ 1 13 3 3,dg 2 14 175 12 13,A 3 11 14,cw 4 15 0 11,cw 5 16 1 11,A 6 5 15,A 7 6 16]) aoM
def aoK:I:= .B (.E [vJ 0 8 174 1 1,A 1 7 8,cw 2 9 0 7,cw 3 10 1 7,a1 4 3 (.dm [.bool false,aI,aI]),b0 5 3 3 9,A 6 4 10]) aoL
def aoI:I:=
  .B (
  .E [
 dI 0 1 0,
 ch 1 2 false]) aoK
def aax:bS:=⟨23,[.bG 2],aoI⟩
theorem aoJ:b2 al 230=some aax:=by kernel_rfl
def RF:I:= .B (.E [a6 0 2 0]) (.aG)
def RE:I:= .B (.B (.E [bZ 0 3 7 1,b6 1 4 87 [F 3],g2 2 5 4]) (.aR (F 5) (.B (.E [a6 0 2 1]) (.aG)) (.skip))) RF
def RD:I:=
  .B (
  .E [
 dI 0 1 0,
 a6 1 2 0]) RE
def Ls:bS:=⟨6,[.bG 2],RD⟩
theorem aso:b2 al 66=some Ls:=by kernel_rfl
def Cz:I:= .B (.block 1 (.B (.E [A 0 65 3,aH 1 66 1 1,av 2 67 66,A 3 68 9,bo 4 69 4 67 68,aH 5 70 0 69,av 6 71 70,dg 7 72 136 65 71,A 8 64 72,cw 9 73 0 64,cw 10 74 1 64,A 11 3 73,A 12 8 74]) (.E [A 0 75 8,A 1 76 75,ec 2 77 76 1 1,eo 3 78 76 77,ep 4 79 76 9,nx 5 80 76 4 78 79,jc 6 81 76 4 80,l3 7 82 76 137 81,dd 8 83 76 82,A 9 8 83]))) (.E [A 0 62 9,cO 1 63 62,A 2 9 63])
def zN:I:= .B (.B (.E [A 0 54 9,aH 1 55 1 1,av 2 56 55,bC 3 57 56,c6 4 58 54 57,A 5 59 58,ep 6 60 59 8,dd 7 61 59 60]) (.aR (F 61) (.skip) (.ba 0))) Cz
def xH:I:= .B (.E [A 0 100 4,aH 1 101 0 11,av 2 102 101,dg 3 103 136 100 102,A 4 99 103,cw 5 104 0 99,cw 6 105 1 99,A 7 4 104,A 8 8 105]) (.E [A 0 106 8,A 1 107 106,ec 2 108 107 1 11,eo 3 109 107 108,zW 4 110 107 134 109 16,dd 5 111 107 110,A 6 112 111,ec 7 113 112 2 11,eo 8 114 112 113,zW 9 115 112 134 114 64,dd 10 116 112 115,A 11 117 116,ec 12 118 117 3 11,eo 13 119 117 118,ec 14 120 117 1 1,eo 15 121 117 120,lq 16 122 117 121,qY 17 123 117 122,ug 18 124 117 134 119 123,dd 19 125 117 124,A 20 8 125])
def xG:I:= .B (.block 3 (.B (.E [aH 0 94 2 1,av 1 95 94,A 2 96 10,bo 3 97 4 95 96,bZ 4 98 4 97,a1 5 11 (.dm [.string ⟨#[]⟩,aK,aK,aK]),b0 6 4 11 98]) xH)) (.E [A 0 92 10,cO 1 93 92,A 2 10 93])
def vF:I:= .B (.B (.E [A 0 84 10,aH 1 85 2 1,av 2 86 85,bC 3 87 86,c6 4 88 84 87,A 5 89 88,ep 6 90 89 8,dd 7 91 89 90]) (.aR (F 91) (.skip) (.ba 2))) xG
def uc:I:= .B (.E [A 0 178 5,aH 1 179 0 14,av 2 180 179,dg 3 181 136 178 180,A 4 177 181,cw 5 182 0 177,cw 6 183 1 177,A 7 5 182,A 8 8 183]) (.E [A 0 184 8,A 1 185 184,ec 2 186 185 1 14,eo 3 187 185 186,zW 4 188 185 134 187 4,dd 5 189 185 188,A 6 190 189,ec 7 191 190 2 14,eo 8 192 190 191,ep 9 193 190 13,qY 10 194 190 193,ug 11 195 190 134 192 194,dd 12 196 190 195,A 13 197 196,ec 14 198 197 3 1,eo 15 199 197 198,ec 16 200 197 2 14,eo 17 201 197 200,nx 18 202 197 7 199 201,ec 19 203 197 1 202,eo 20 204 197 203,ec 21 205 197 1 14,eo 22 206 197 205,qY 23 207 197 206,cq 24 208 197 true (.eX .eql .fR (F 204) (F 207)),dd 25 209 197 208,A 26 210 209,ec 27 211 210 3 14,eo 28 212 210 211,zW 29 213 210 134 212 64,dd 30 214 210 213,A 31 215 214,ec 32 216 215 4 14,jc 33 217 215 3 216,l3 34 218 215 140 217,dd 35 219 215 218,A 36 8 219])
def ub:I:= .B (.block 5 (.B (.E [aH 0 172 3 1,av 1 173 172,A 2 174 13,bo 3 175 7 173 174,bZ 4 176 7 175,a1 5 14 (.dm [.string ⟨#[]⟩,aK,aK,aK,.bool false,aI,aI]),b0 6 7 14 176]) uc)) (.E [A 0 170 13,cO 1 171 170,A 2 13 171])
def sQ:I:= .B (.B (.E [A 0 162 13,aH 1 163 3 1,av 2 164 163,bC 3 165 164,c6 4 166 162 165,A 5 167 166,ep 6 168 167 8,dd 7 169 167 168]) (.aR (F 169) (.skip) (.ba 4))) ub
def xB:I:= .B (.E [A 0 236 5,aH 1 237 0 16,av 2 238 237,dg 3 239 136 236 238,A 4 235 239,cw 5 240 0 235,cw 6 241 1 235,A 7 5 240,A 8 8 241]) (.E [A 0 242 8,A 1 243 242,ec 2 244 243 1 16,eo 3 245 243 244,ec 4 246 243 2 1,eo 5 247 243 246,lq 6 248 243 247,qY 7 249 243 248,ug 8 250 243 134 245 249,dd 9 251 243 250,A 10 252 251,ec 11 253 252 2 16,eo 12 254 252 253,ec 13 255 252 3 1,eo 14 256 252 255,lq 15 257 252 256,qY 16 258 252 257,ug 17 259 252 134 254 258,dd 18 260 252 259,A 19 261 260,ec 20 262 261 3 1,eo 21 263 261 262,ec 22 264 261 2 16,eo 23 265 261 264,nx 24 266 261 7 263 265,ec 25 267 261 1 266,eo 26 268 261 267,rV 27 269 261 268 4,dd 28 270 261 269,A 29 8 270])
def xA:I:= .B (.block 7 (.B (.E [aH 0 230 4 1,av 1 231 230,A 2 232 15,bo 3 233 3 231 232,bZ 4 234 3 233,a1 5 16 (.dm [.string ⟨#[]⟩,aK,aK]),b0 6 3 16 234]) xB)) (.E [A 0 228 15,cO 1 229 228,A 2 15 229])
def vG:I:= .B (.B (.E [A 0 220 15,aH 1 221 4 1,av 2 222 221,bC 3 223 222,c6 4 224 220 223,A 5 225 224,ep 6 226 225 8,dd 7 227 225 226]) (.aR (F 227) (.skip) (.ba 6))) xA
def GQ:I:= .B (.block 13 (.E [A 0 347 8,A 1 348 347,ec 2 349 348 9 18,eo 3 350 348 349,ep 4 351 348 20,nx 5 352 348 1 350 351,eo 6 353 348 352,ec 7 354 348 9 18,eo 8 355 348 354,ep 9 356 348 19,nx 10 357 348 1 355 356,eo 11 358 348 357,cq 12 359 348 true (.eX .neq .fR (F 353) (F 358)),dd 13 360 348 359,A 14 8 360])) (.E [A 0 345 20,cO 1 346 345,A 2 20 346])
def CA:I:= .B (.B (.E [A 0 342 20,A 1 343 19,c6 2 344 342 343]) (.aR (F 344) (.skip) (.ba 12))) GQ
def LD:I:= .B (.E [a6 0 20 0]) (.block 12 (.loop CA))
def LC:I:= .B (.block 11 (.B (.E [aH 0 332 9 18,av 1 333 332,A 2 334 19,bo 3 335 1 333 334,av 4 336 335,aH 5 337 2 1,av 6 338 337,bC 7 339 338,h3 8 340 339 1,b6 9 341 134 [F 336,.const aK,F 340],A 10 8 341]) LD)) (.E [A 0 330 19,cO 1 331 330,A 2 19 331])
def CB:I:= .B (.B (.E [A 0 322 19,aH 1 323 9 18,av 2 324 323,bC 3 325 324,c6 4 326 322 325,A 5 327 326,ep 6 328 327 8,dd 7 329 327 328]) (.aR (F 329) (.skip) (.ba 10))) LC
def xF:I:= .B (.E [a6 0 19 0]) (.block 10 (.loop CB))
def xE:I:= .B (.E [A 0 293 8,A 1 294 293,ec 2 295 294 1 18,eo 3 296 294 295,ec 4 297 294 2 18,eo 5 298 294 297,ec 6 299 294 3 18,eo 7 300 294 299,ec 8 301 294 4 18,jc 9 302 294 5 301,cq 10 303 294 true (.dA 141 [F 296,F 298,F 300,F 302]),dd 11 304 294 303,A 12 305 304,ec 13 306 305 2 18,eo 14 307 305 306,ec 15 308 305 10 18,eo 16 309 305 308,ec 17 310 305 11 18,jc 18 311 305 3 310,ec 19 312 305 14 18,jc 20 313 305 3 312,cq 21 314 305 true (.dA 142 [F 307,F 309,F 311,F 313]),dd 22 315 305 314,A 23 316 315,ec 24 317 316 9 18,eo 25 318 316 317,lq 26 319 316 318,GX 27 320 316 319,dd 28 321 316 320,A 29 8 321]) xF
def xD:I:= .B (.E [A 0 287 6,aH 1 288 0 18,av 2 289 288,dg 3 290 136 287 289,A 4 286 290,cw 5 291 0 286,cw 6 292 1 286,A 7 6 291,A 8 8 292]) xE
def xC:I:= .B (.block 9 (.B (.E [aH 0 281 5 1,av 1 282 281,A 2 283 17,bo 3 284 17 282 283,bZ 4 285 17 284,a1 5 18 (.dm [.string ⟨#[]⟩,aK,aK,aK,aK,aK,aK,aK,aK,aI,aI,.bool false,aI,aI,.bool false,aI,aI]),b0 6 17 18 285]) xD)) (.E [A 0 279 17,cO 1 280 279,A 2 17 280])
def vH:I:= .B (.B (.E [A 0 271 17,aH 1 272 5 1,av 2 273 272,bC 3 274 273,c6 4 275 271 274,A 5 276 275,ep 6 277 276 8,dd 7 278 276 277]) (.aR (F 278) (.skip) (.ba 8))) xC
def Cy:I:= .B (.block 15 (.B (.E [A 0 372 7,aH 1 373 6 1,av 2 374 373,A 3 375 21,bo 4 376 2 374 375,aH 5 377 0 376,av 6 378 377,dg 7 379 136 372 378,A 8 371 379,cw 9 380 0 371,cw 10 381 1 371,A 11 7 380,A 12 8 381]) (.E [A 0 382 8,A 1 383 382,ec 2 384 383 6 1,eo 3 385 383 384,ep 4 386 383 21,nx 5 387 383 2 385 386,ec 6 388 383 1 387,eo 7 389 383 388,ec 8 390 383 5 1,eo 9 391 383 390,lq 10 392 383 391,qY 11 393 383 392,ug 12 394 383 134 389 393,dd 13 395 383 394,A 14 8 395]))) (.E [A 0 369 21,cO 1 370 369,A 2 21 370])
def zO:I:= .B (.B (.E [A 0 361 21,aH 1 362 6 1,av 2 363 362,bC 3 364 363,c6 4 365 361 364,A 5 366 365,ep 6 367 366 8,dd 7 368 366 367]) (.aR (F 368) (.skip) (.ba 14))) Cy
def LG:I:= .B (.E [A 0 396 8,A 1 2 396]) (.aG)
def LF:I:= .B (.B (.E [a6 0 21 0]) (.block 14 (.loop zO))) LG
def LA:I:= .B (.B (.E [a6 0 17 0]) (.block 8 (.loop vH))) LF
def Lz:I:= .B (.B (.E [a6 0 15 0]) (.block 6 (.loop vG))) LA
def Cx:I:= .B (.B (.E [a6 0 13 1]) (.block 4 (.loop sQ))) Lz
def mY:I:= .B (.E [A 0 130 8,A 1 131 130,ec 2 132 131 0 12,eo 3 133 131 132,cq 4 134 131 true (.eX .eql .fR (F 133) (.const (.string ⟨#[]⟩))),dd 5 135 131 134,A 6 136 135,ec 7 137 136 1 12,eo 8 138 136 137,rV 9 139 136 138 0,dd 10 140 136 139,A 11 141 140,ec 12 142 141 2 12,eo 13 143 141 142,cq 14 144 141 true (.eX .eql .fR (F 143) (.const (.int .i64 (-1)))),dd 15 145 141 144,A 16 146 145,ec 17 147 146 3 12,eo 18 148 146 147,rV 19 149 146 148 0,dd 20 150 146 149,A 21 151 150,ec 22 152 151 4 12,jc 23 153 151 3 152,l3 24 154 151 138 153,dd 25 155 151 154,A 26 156 155,ec 27 157 156 4 12,jc 28 158 156 3 157,l3 29 159 156 139 158,rV 30 160 156 159 0,dd 31 161 156 160,A 32 8 161]) Cx
def mv:I:= .B (.E [aH 0 126 3 1,av 1 127 126,xM 2 128 7 127,bZ 3 129 7 128,a1 4 12 (.dm [.string ⟨#[]⟩,aK,aK,aK,.bool false,aI,aI]),b0 5 7 12 129]) mY
def LJ:I:= .B (.B (.E [a6 0 10 0]) (.block 2 (.loop vF))) mv
def LI:I:= .B (.B (.E [a6 0 9 0]) (.block 0 (.loop zN))) LJ
def LH:I:= .B (.E [ch 0 8 true]) LI
def LB:I:= .B (.E [eL 0 3,eL 1 4,eL 2 5,eL 3 6,eL 4 7]) LH
def GP:I:= .B (.B (.E [aH 0 22 0 1,av 1 23 22,zX 2 24 134 23 1 4,g2 3 25 24,A 4 26 25,eb 5 27 26 1 1,dJ 6 28 26 27,hM 7 29 26 28,eb 8 30 26 2 1,dJ 9 31 26 30,hM 10 32 26 31,eb 11 33 26 3 1,dJ 12 34 26 33,hM 13 35 26 34,eb 14 36 26 4 1,dJ 15 37 26 36,hM 16 38 26 37,eb 17 39 26 5 1,dJ 18 40 26 39,hM 19 41 26 40,eb 20 42 26 6 1,dJ 21 43 26 42,hM 22 44 26 43,cq 23 45 26 false (.dA 135 [F 29,F 32,F 35,F 38,F 41,F 44]),ih 24 46 26 45,cJ 25 47 26 46,A 26 48 47,eb 27 49 48 3 1,dJ 28 50 48 49,hM 29 51 48 50,zV 30 52 48 51,cJ 31 53 48 52]) (.aR (F 53) (.B (.E [ch 0 2 false]) (.aG)) (.skip))) LB
def GO:I:=
  .B (
  .E [
 dI 0 1 0,
 ch 1 2 false]) GP
def Cw:bS:=⟨397,[.bG 2],GO⟩
theorem atT:b2 al 87=some Cw:=by kernel_rfl
def Qf:I:= .B (.E [A 0 7 0,A 1 8 1,c3 2 9 .geq (F 7) (F 8),A 3 10 9,ep 4 11 10 0,ep 5 12 10 2,cq 6 13 10 true (.eX .leq .fR (F 11) (F 12)),dd 7 14 10 13,A 8 6 14]) (.aG)
def Qe:I:=
  .B (
  .E [
 ch 0 6 false]) Qf
def J9:bS:=⟨15,[.bG 6],Qe⟩
theorem al3:b2 al 134=some J9:=by kernel_rfl
def zq:I:= .B (.E [A 0 13 0,c3 1 14 .leq (F 13) (.const (.int .i64 4)),A 2 15 14,ep 3 16 15 1,ny 4 17 15 16 4,dd 5 18 15 17,A 6 19 18,ep 7 20 19 2,ny 8 21 19 20 40,dd 9 22 19 21,A 10 23 22,ep 11 24 23 3,ny 12 25 23 24 24,dd 13 26 23 25,A 14 27 26,ep 15 28 27 4,ny 16 29 27 28 4,dd 17 30 27 29,A 18 31 30,ep 19 32 31 5,ny 20 33 31 32 12,dd 21 34 31 33,A 22 12 34]) (.aG)
def zp:I:=
  .B (
  .E [
 ch 0 12 false]) zq
def xq:bS:=⟨35,[.bG 12],zp⟩
theorem al4:b2 al 135=some xq:=by kernel_rfl
def Qg:I:= .B (.qa [A 0 6 0,A 1 7 1,xN 2 8 7] (a1 3 9 (.app 1 16 (F 6) (F 8))) [A 4 10 1,b6 5 11 188 [F 10],A 6 12 11,ep 7 13 12 0,ep 8 14 12 1,cq 9 15 12 true (.dA 189 [F 13,F 14]),cq 10 16 12 true (.eX .lss .fR (F 15) (.const aK)),dd 11 17 12 16,A 12 4 9,A 13 5 17]) (.aG)
def Ka:I:=
  .B (
  .E [
 eL 0 4,
 ch 1 5 false]) Qg
def al5:bS:=⟨18,[.bG 4,.bG 5],Ka⟩
theorem al6:b2 al 136=some al5:=by kernel_rfl
theorem ag3{args:List Value}{m:W}{cg:Value->W->Prop}(h:args.length<=18):fZ al 136 args m cg=hD al Ka (ja args) m (q7 [.bG 4,.bG 5] cg):=r9 al6 h
def Qm:I:= .B (.block 1 (.B (.E [aH 0 47 2 1,av 1 48 47,A 2 49 4,bo 3 50 1 48 49,av 4 51 50,A 5 52 3,dg 6 53 190 51 52,g2 7 54 53,A 8 55 54,eb 9 56 55 2 1,dJ 10 57 55 56,di 11 58 55 4,oC 12 59 55 1 57 58,dJ 13 60 55 59,di 14 61 55 4,oC 15 62 55 3 60 61,k2 16 63 55 3 62,jo 17 64 55 139 63,CG 18 65 55 64,cJ 19 66 55 65]) (.aR (F 66) (.B (.E [ch 0 2 false]) (.aG)) (.skip)))) (.E [A 0 45 4,cO 1 46 45,A 2 4 46])
def Qo:I:= .B (.B (.E [A 0 42 4,A 1 43 3,c6 2 44 42 43]) (.aR (F 44) (.skip) (.ba 0))) Qm
def Yq:I:= .B (.E [A 0 73 6,sU 1 74 73,A 2 75 74,k2 3 76 75 3 5,⟨4,some 77,some (75,false),.dA 193 [.const (.int .i64 1)],[(F 5,F 5)]⟩,cq 5 78 75 false (.dA 192 [F 76,F 77]),ih 6 79 75 78,cJ 7 80 75 79]) (.aR (F 80) (.B (.E [ch 0 2 false]) (.aG)) (.skip))
def Qk:I:= .B (.block 7 (.E [A 0 114 7,A 1 115 9,A 2 116 7,A 3 117 9,bo 4 118 1 116 117,av 5 119 118,A 6 120 119,eb 7 121 120 2 1,dJ 8 122 120 121,di 9 123 120 9,oC 10 124 120 1 122 123,dJ 11 125 120 124,di 12 126 120 10,oC 13 127 120 3 125 126,k2 14 128 120 3 127,jo 15 129 120 139 128,l4 16 130 120 129 0,di 17 131 120 130,ep 18 132 131 7,ep 19 133 131 10,nx 20 134 131 1 132 133,eo 21 135 131 134,cq 22 136 120 false (.oL (F 131) (F 135) (.const (.bool false))),cJ 23 137 120 136,bo 24 138 1 114 115,b0 25 1 138 137])) (.E [A 0 112 10,cO 1 113 112,A 2 10 113])
def Qp:I:= .B (.B (.E [A 0 109 10,A 1 110 3,c6 2 111 109 110]) (.aR (F 111) (.skip) (.ba 6))) Qk
def Qj:I:= .B (.E [a6 0 10 0]) (.block 6 (.loop Qp))
def Qi:I:= .B (.block 5 (.B (.E [A 0 93 7,A 1 94 9,A 2 95 7,A 3 96 9,bo 4 97 1 95 96,av 5 98 97,A 6 99 98,eb 7 100 99 3 1,dJ 8 101 99 100,di 9 102 99 9,oC 10 103 99 3 101 102,k2 11 104 99 3 103,jo 12 105 99 139 104,l4 13 106 99 105 0,cJ 14 107 99 106,bo 15 108 1 93 94,b0 16 1 108 107]) Qj)) (.E [A 0 91 9,cO 1 92 91,A 2 9 92])
def Qq:I:= .B (.B (.E [A 0 88 9,A 1 89 3,c6 2 90 88 89]) (.aR (F 90) (.skip) (.ba 4))) Qi
def Qn:I:= .B (.block 3 (.B (.E [a6 0 9 0]) (.block 4 (.loop Qq)))) (.E [A 0 86 8,cO 1 87 86,A 2 8 87])
def Qr:I:= .B (.B (.E [A 0 83 8,A 1 84 3,c6 2 85 83 84]) (.aR (F 85) (.skip) (.ba 2))) Qn
def Ql:I:= .B (.block 9 (.B (.E [A 0 144 7,A 1 145 11,bo 2 146 1 144 145,av 3 147 146,g2 4 148 147]) (.aR (F 148) (.B (.E [ch 0 2 false]) (.aG)) (.skip)))) (.E [A 0 142 11,cO 1 143 142,A 2 11 143])
def Qs:I:= .B (.B (.E [A 0 139 11,A 1 140 3,c6 2 141 139 140]) (.aR (F 141) (.skip) (.ba 8))) Ql
def Ym:I:= .B (.E [ch 0 2 true]) (.aG)
def Yl:I:= .B (.B (.E [a6 0 11 0]) (.block 8 (.loop Qs))) Ym
def Ys:I:= .B (.B (.E [a6 0 8 0]) (.block 2 (.loop Qr))) Yl
def Yr:I:= .B (.E [A 0 81 3,zY 1 82 81 81,A 2 7 82]) Ys
def Yp:I:= .B (.B (.E [aH 0 68 1 1,av 1 69 68,b6 2 70 191 [F 69],A 3 67 70,cw 4 71 0 67,cw 5 72 1 67,a1 6 5 (.dm [.bool false,aI,aI]),b0 7 3 5 71,A 8 6 72]) Yq) Yr
def Yo:I:= .B (.B (.E [a6 0 4 0]) (.block 0 (.loop Qo))) Yp
def Yn:I:= .B (.B (.E [A 0 15 3,lp 1 16 15 1,A 2 17 16,di 3 18 17 3,l4 4 19 17 18 4,cJ 5 20 17 19,A 6 21 20,eb 7 22 21 1 1,dJ 8 23 21 22,di 9 24 21 3,cq 10 25 21 false (.dA 190 [F 23,F 24]),ih 11 26 21 25,cJ 12 27 21 26,A 13 28 27,eb 14 29 28 3 1,dJ 15 30 28 29,di 16 31 28 3,cq 17 32 28 false (.dA 190 [F 30,F 31]),ih 18 33 28 32,cJ 19 34 28 33,A 20 35 34,eb 21 36 35 2 1,dJ 22 37 35 36,hM 23 38 35 37,di 24 39 35 3,sS 25 40 35 38 39,cJ 26 41 35 40]) (.aR (F 41) (.B (.E [ch 0 2 false]) (.aG)) (.skip))) Yo
def Yk:I:= .B (.E [aH 0 12 1 1,av 1 13 12,bC 2 14 13,A 3 3 14]) Yn
def Yj:I:=
  .B (
  .E [
 dI 0 1 0,
 ch 1 2 false]) Yk
def Qh:bS:=⟨149,[.bG 2],Yj⟩
theorem al7:b2 al 137=some Qh:=by kernel_rfl
def YC:I:= .B (.E [A 0 10 4,jn 1 11 10 0,A 2 12 11,ec 3 13 12 0 3,eo 4 14 12 13,rW 5 15 12 14,dd 6 16 12 15,A 7 17 16,ec 8 18 17 1 3,eo 9 19 17 18,lq 10 20 17 19,ny 11 21 17 20 1,dd 12 22 17 21,A 13 23 22,ec 14 24 23 2 3,eo 15 25 23 24,lq 16 26 23 25,ny 17 27 23 26 1,dd 18 28 23 27,A 19 2 28]) (.aG)
def YB:I:= .B (.E [bZ 0 6 3 1,b6 1 7 196 [F 6],A 2 5 7,cw 3 8 0 5,cw 4 9 1 5,a1 5 3 (.dm [.bool false,aI,aI]),b0 6 3 3 8,A 7 4 9]) YC
def Yz:I:=
  .B (
  .E [
 dI 0 1 0,
 ch 1 2 false]) YB
def Kd:bS:=⟨29,[.bG 2],Yz⟩
theorem YA:b2 al 140=some Kd:=by kernel_rfl
def FA:I:= .B (.block 1 (.B (.E [A 0 32 9,a1 1 33 (.oz 1 5 (F 7) (F 32)),av 2 34 33,zX 3 35 134 34 0 8,g2 4 36 35]) (.aR (F 36) (.B (.E [ch 0 8 false]) (.aG)) (.skip)))) (.E [A 0 30 9,cO 1 31 30,A 2 9 31])
def Ke:I:= .B (.B (.E [A 0 28 9,lp 1 29 28 5]) (.aR (F 29) (.skip) (.ba 0))) FA
def xr:I:= .B (.E [ch 0 8 true]) (.aG)
def Fz:I:= .B (.B (.E [a6 0 9 1]) (.block 0 (.loop Ke))) xr
def Fy:I:= .B (.B (.E [A 0 10 0,A 1 11 1,dg 2 12 197 10 11,g2 3 13 12,A 4 14 13,di 5 15 14 2,di 6 16 14 0,di 7 17 14 0,di 8 18 14 1,cq 9 19 14 false (.eX .add .fR (F 17) (F 18)),cq 10 20 14 false (.dA 134 [F 15,F 16,F 19]),ih 11 21 14 20,cJ 12 22 14 21,A 13 23 22,cq 14 24 23 false (.oz 1 5 (F 7) (.const aK)),dJ 15 25 23 24,CG 16 26 23 25,cJ 17 27 23 26]) (.aR (F 27) (.B (.E [ch 0 8 false]) (.aG)) (.skip))) Fz
def Fx:I:=
  .B (
  .E [
 dI 0 7 3,
 ch 1 8 false]) Fy
def BS:bS:=⟨37,[.bG 8],Fx⟩
theorem al8:b2 al 141=some BS:=by kernel_rfl
def FC:I:= .B (.E [A 0 9 1,A 1 10 0,dg 2 11 198 9 10,A 3 12 11,jc 4 13 12 3 6,l3 5 14 12 140 13,dd 6 15 12 14,A 7 16 15,jc 9 18 16 3 6,⟨8,some 17,some (16,true),.dA 193 [.const (.int .i64 1)],[(F 6,F 6)]⟩,cq 10 19 16 true (.dA 199 [F 17,F 18]),rW 11 20 16 19,dd 12 21 16 20,A 13 22 21,jc 14 23 22 3 7,l3 15 24 22 140 23,dd 16 25 22 24,A 17 8 25]) (.aG)
def FB:I:=
  .B (
  .E [
 dI 0 6 2,
 dI 1 7 3,
 ch 2 8 false]) FC
def BT:bS:=⟨26,[.bG 8],FB⟩
theorem al9:b2 al 142=some BT:=by kernel_rfl
def F2:I:= .B (.block 1 (.B (.E [A 0 12 0,A 1 13 5,bo 2 14 1 12 13,av 3 15 14,A 4 16 1,c3 5 17 .eql (F 15) (F 16)]) (.aR (F 17) (.B (.E [A 0 18 5,A 1 4 18]) (.aG)) (.skip)))) (.E [A 0 10 5,cO 1 11 10,A 2 5 11])
def Kr:I:= .B (.B (.E [A 0 6 5,A 1 7 0,bC 2 8 7,c6 3 9 6 8]) (.aR (F 9) (.skip) (.ba 0))) F2
def F3:I:= .B (.E [a6 0 4 (-1)]) (.aG)
def Zn:I:= .B (.B (.E [a6 0 5 0]) (.block 0 (.loop Kr))) F3
def Zm:I:=
  .B (
  .E [
 a6 0 4 0]) Zn
def Qy:bS:=⟨19,[.bG 4],Zm⟩
theorem anx:b2 al 189=some Qy:=by kernel_rfl
def zu:I:= .B (.block 1 (.B (.E [A 0 15 0,A 1 16 5,bo 2 17 3 15 16,bZ 3 18 3 17,b6 4 19 140 [F 18],g2 5 20 19]) (.aR (F 20) (.B (.E [ch 0 4 false]) (.aG)) (.skip)))) (.E [A 0 13 5,cO 1 14 13,A 2 5 14])
def F5:I:= .B (.B (.E [A 0 10 5,A 1 11 1,c6 2 12 10 11]) (.aR (F 12) (.skip) (.ba 0))) zu
def xu:I:= .B (.E [ch 0 4 true]) (.aG)
def Ku:I:= .B (.B (.E [a6 0 5 0]) (.block 0 (.loop F5))) xu
def Kt:I:= .B (.B (.E [A 0 6 0,bC 1 7 6,A 2 8 1,c3 3 9 .neq (F 7) (F 8)]) (.aR (F 9) (.B (.E [ch 0 4 false]) (.aG)) (.skip))) Ku
def Ks:I:=
  .B (
  .E [
 ch 0 4 false]) Kt
def BZ:bS:=⟨21,[.bG 4],Ks⟩
theorem Zt:b2 al 190=some BZ:=by kernel_rfl
def B3:I:= .B (.E [A 0 5 0,nw 1 6 5 1,A 2 7 6,ep 3 8 7 0,ny 4 9 7 8 6,dd 5 10 7 9,A 6 11 10,ep 7 12 11 1,cq 8 13 11 true (.eX .geq .fR (F 12) (.const aK)),dd 9 14 11 13,A 10 15 14,ep 11 16 15 1,ny 12 17 15 16 4,dd 13 18 15 17,A 14 19 18,ep 15 20 19 0,ep 16 21 19 1,cq 17 22 19 true (.eX .add .fR (F 20) (F 21)),ny 18 23 19 22 8,dd 19 24 19 23,A 20 4 24]) (.aG)
def B2:I:=
  .B (
  .E [
 ch 0 4 false]) B3
def zv:bS:=⟨25,[.bG 4],B2⟩
theorem anP:b2 al 197=some zv:=by kernel_rfl
def F6:I:= .B (.block 1 (.B (.E [A 0 17 0,A 1 18 5,bo 2 19 3 17 18,bZ 3 20 3 19,b6 4 21 139 [F 20],jn 5 22 21 0]) (.aR (F 22) (.B (.E [ch 0 4 false]) (.aG)) (.skip)))) (.E [A 0 15 5,cO 1 16 15,A 2 5 16])
def Kz:I:= .B (.B (.E [A 0 11 5,A 1 12 0,bC 2 13 12,c6 3 14 11 13]) (.aR (F 14) (.skip) (.ba 0))) F6
def B4:I:= .B (.E [ch 0 4 true]) (.aG)
def QF:I:= .B (.B (.E [a6 0 5 0]) (.block 0 (.loop Kz))) B4
def QE:I:= .B (.B (.E [A 0 6 0,A 1 7 1,a1 2 8 (.oF true (F 7) [.const (.int .i64 1)]),dg 3 9 190 6 8,g2 4 10 9]) (.aR (F 10) (.B (.E [ch 0 4 false]) (.aG)) (.skip))) QF
def QD:I:=
  .B (
  .E [
 ch 0 4 false]) QE
def Ky:bS:=⟨23,[.bG 4],QD⟩
theorem anQ:b2 al 198=some Ky:=by kernel_rfl
def Gn:I:= .B (.block 3 (.B (.E [A 0 30 1,A 1 31 6,bo 2 32 1 30 31,av 3 33 32,A 4 34 7,bo 5 35 1 33 34,av 6 36 35,nw 7 37 36 0,A 8 38 37,ep 9 39 38 1,ep 10 40 38 6,nx 11 41 38 1 39 40,eo 12 42 38 41,ep 13 43 38 7,nx 14 44 38 1 42 43,eo 15 45 38 44,ep 16 46 38 5,lq 17 47 38 46,cq 18 48 38 true (.eX .lss .fR (F 45) (F 47)),dd 19 49 38 48]) (.aR (F 49) (.E [A 0 50 5,A 1 51 1,A 2 52 6,bo 3 53 1 51 52,av 4 54 53,A 5 55 7,bo 6 56 1 54 55,av 7 57 56,bo 8 58 1 50 57,av 9 59 58,cO 10 60 59,bo 11 61 1 50 57,b0 12 1 61 60]) (.skip)))) (.E [A 0 28 7,cO 1 29 28,A 2 7 29])
def Gp:I:= .B (.B (.E [A 0 21 7,A 1 22 1,A 2 23 6,bo 3 24 1 22 23,av 4 25 24,bC 5 26 25,c6 6 27 21 26]) (.aR (F 27) (.skip) (.ba 2))) Gn
def Rc:I:= .B (.block 1 (.B (.E [a6 0 7 0]) (.block 2 (.loop Gp)))) (.E [A 0 19 6,cO 1 20 19,A 2 6 20])
def Re:I:= .B (.B (.E [A 0 15 6,A 1 16 1,bC 2 17 16,c6 3 18 15 17]) (.aR (F 18) (.skip) (.ba 0))) Rc
def Rd:I:= .B (.E [A 0 62 5,A 1 4 62]) (.aG)
def abL:I:= .B (.B (.E [a6 0 6 0]) (.block 0 (.loop Re))) Rd
def abK:I:= .B (.E [aH 0 11 4 2,av 1 12 11,bC 2 13 12,a1 3 14 (.jq 1 8 [aK] (F 13) (F 13)),A 4 5 14]) abL
def abJ:I:= .B (.B (.E [bZ 0 8 7 2,b6 1 9 87 [F 8],g2 2 10 9]) (.aR (F 10) (.B (.E [eL 0 4]) (.aG)) (.skip))) abK
def abI:I:=
  .B (
  .E [
 dI 0 2 0,
 eL 1 4]) abJ
def Rb:bS:=⟨63,[.bG 4],abI⟩
theorem arZ:b2 al 34=some Rb:=by kernel_rfl
def Rj:I:= .B (.B (.E [A 0 29 1,bC 1 30 29,aH 2 31 4 2,av 3 32 31,bC 4 33 32,c3 5 34 .eql (F 30) (F 33)]) (.aR (F 34) (.E [A 0 35 1,A 1 36 6,bo 2 37 1 35 36,av 3 38 37,A 4 39 7,a1 5 40 (.oF false (F 38) [F 39]),a1 6 41 (.oF true (.const aK) [F 40]),A 7 7 41]) (.skip))) (.E [A 0 42 5,A 1 43 7,rU 2 44 43,iN 3 45 1 8 42 44,A 4 5 45])
def Ri:I:= .B (.block 1 (.B (.E [aH 0 18 2 2,av 1 19 18,aH 2 20 4 2,av 3 21 20,A 4 22 6,bo 5 23 3 21 22,aH 6 24 1 23,av 7 25 24,bo 8 26 4 19 25,aH 9 27 1 26,av 10 28 27,A 11 7 28]) Rj)) (.E [A 0 16 6,cO 1 17 16,A 2 6 17])
def Rk:I:= .B (.B (.E [A 0 11 6,aH 1 12 4 2,av 2 13 12,bC 3 14 13,c6 4 15 11 14]) (.aR (F 15) (.skip) (.ba 0))) Ri
def abY:I:= .B (.E [A 0 46 5,A 1 4 46]) (.aG)
def abX:I:= .B (.B (.E [a6 0 6 0]) (.block 0 (.loop Rk))) abY
def abW:I:= .B (.E [eL 0 5]) abX
def abV:I:= .B (.B (.E [bZ 0 8 7 2,b6 1 9 87 [F 8],g2 2 10 9]) (.aR (F 10) (.B (.E [eL 0 4]) (.aG)) (.skip))) abW
def abT:I:=
  .B (
  .E [
 dI 0 2 0,
 eL 1 4]) abV
def Lh:bS:=⟨47,[.bG 4],abT⟩
theorem abU:b2 al 52=some Lh:=by kernel_rfl
def asl:I:= .B (.E [A 0 33 1,bC 1 34 33,A 2 35 5,bC 3 36 35,c3 4 37 .eql (F 34) (F 36)]) (.aR (F 37) (.E [A 0 38 5,A 1 39 6,A 2 40 1,A 3 41 6,bo 4 42 1 40 41,av 5 43 42,a1 6 44 (.oF true (F 43) [.const aK]),A 7 45 5,A 8 46 6,bo 9 47 1 45 46,av 10 48 47,a1 11 49 (.oF false (F 44) [F 48]),bo 12 50 1 38 39,b0 13 1 50 49]) (.skip))
def asj:I:= .B (.E [A 0 19 5,A 1 20 6,aH 2 21 2 2,av 3 22 21,aH 4 23 4 2,av 5 24 23,A 6 25 6,bo 7 26 3 24 25,aH 8 27 1 26,av 9 28 27,bo 10 29 4 22 28,aH 11 30 1 29,av 12 31 30,bo 13 32 1 19 20,b0 14 1 32 31]) asl
def asi:I:= .B (.block 1 (.B (.E [A 0 18 16,A 1 6 18]) asj)) (.E [cO 0 51 16,A 1 16 51])
def ash:I:= .B (.aR (F 17) (.skip) (.ba 0)) asi
def asn:I:= .B (.E [c6 0 17 16 15]) ash
def asm:I:= .B (.E [A 0 52 5,A 1 4 52]) (.aG)
def asg:I:= .B (.B (.E [A 0 14 5,bC 1 15 14,a6 2 16 0]) (.block 0 (.loop asn))) asm
def asf:I:= .B (.E [aH 0 10 4 2,av 1 11 10,bC 2 12 11,a1 3 13 (.jq 1 8 [aK] (F 12) (F 12)),A 4 5 13]) asg
def ase:I:= .B (.B (.E [bZ 0 7 7 2,b6 1 8 115 [F 7],g2 2 9 8]) (.aR (F 9) (.B (.E [eL 0 4]) (.aG)) (.skip))) asf
def asc:I:=
  .B (
  .E [
 dI 0 2 0,
 eL 1 4]) ase
def acv:bS:=⟨53,[.bG 4],asc⟩
theorem asd:b2 al 63=some acv:=by kernel_rfl
def Cv:I:= .B (.E [A 0 31 7]) (.aR (F 31) (.B (.E [ch 0 4 false]) (.aG)) (.skip))
def Cu:I:= .B (.E [bZ 0 25 7 2,A 1 26 1,A 2 27 5,b6 3 28 133 [F 25,F 26,F 27],A 4 24 28,cw 5 29 0 24,cw 6 30 1 24,a1 7 6 (.dm [aK,aK,aK]),b0 8 3 6 29,A 9 7 30]) Cv
def Ct:I:= .B (.block 1 (.B (.E [A 0 23 21,A 1 5 23]) Cu)) (.E [cO 0 32 21,A 1 21 32])
def Cs:I:= .B (.aR (F 22) (.skip) (.ba 0)) Ct
def GN:I:= .B (.E [c6 0 22 21 20]) Cs
def zM:I:= .B (.E [ch 0 4 true]) (.aG)
def RI:I:= .B (.B (.E [A 0 19 1,bC 1 20 19,a6 2 21 0]) (.block 0 (.loop GN))) zM
def Ly:I:= .B (.B (.E [bZ 0 8 7 2,b6 1 9 115 [F 8],g2 2 10 9,A 3 11 10,di 4 12 11 1,hM 5 13 11 12,eb 6 14 11 6 2,dJ 7 15 11 14,hM 8 16 11 15,sS 9 17 11 13 16,cJ 10 18 11 17]) (.aR (F 18) (.B (.E [ch 0 4 false]) (.aG)) (.skip))) RI
def Lx:I:=
  .B (
  .E [
 dI 0 2 0,
 ch 1 4 false]) Ly
def Cr:bS:=⟨33,[.bG 4],Lx⟩
theorem acM:b2 al 86=some Cr:=by kernel_rfl
def CC:I:= .B (.block 1 (.B (.E [A 0 23 1,A 1 24 5,bo 2 25 1 23 24,av 3 26 25,bC 4 27 26,bZ 5 28 7 2,A 6 29 5,sT 7 30 132 28 29 25 25,c3 8 31 .neq (F 27) (F 30),A 9 32 31,k2 10 33 32 7 2,di 11 34 32 1,di 12 35 32 5,oC 13 36 32 1 34 35,dJ 14 37 32 36,cq 15 38 32 false (.dA 143 [F 33,F 37]),cq 16 39 32 false (.eX .geq .fR (F 38) (.const aK)),cJ 17 40 32 39]) (.aR (F 40) (.B (.E [ch 0 4 false]) (.aG)) (.skip)))) (.E [A 0 21 5,cO 1 22 21,A 2 5 22])
def GR:I:= .B (.B (.E [A 0 17 5,A 1 18 1,bC 2 19 18,c6 3 20 17 19]) (.aR (F 20) (.skip) (.ba 0))) CC
def CD:I:= .B (.E [ch 0 4 true]) (.aG)
def acN:I:= .B (.B (.E [a6 0 5 0]) (.block 0 (.loop GR))) CD
def RK:I:= .B (.B (.E [bZ 0 6 7 2,b6 1 7 87 [F 6],g2 2 8 7,A 3 9 8,di 4 10 9 1,hM 5 11 9 10,eb 6 12 9 6 2,dJ 7 13 9 12,hM 8 14 9 13,sS 9 15 9 11 14,cJ 10 16 9 15]) (.aR (F 16) (.B (.E [ch 0 4 false]) (.aG)) (.skip))) acN
def RJ:I:=
  .B (
  .E [
 dI 0 2 0,
 ch 1 4 false]) RK
def LK:bS:=⟨41,[.bG 4],RJ⟩
theorem atU:b2 al 88=some LK:=by kernel_rfl
def Qb:I:= .B (.E [bZ 0 3 7 1,b6 1 4 62 [F 3],jn 2 5 4 0,A 3 2 5]) (.aG)
def Qa:I:=
  .B (
  .E [
 dI 0 1 0,
 ch 1 2 false]) Qb
def Fl:bS:=⟨6,[.bG 2],Qa⟩
theorem XT:b2 al 115=some Fl:=by kernel_rfl
def Fp:I:= .B (.E [bZ 0 28 7 2,A 1 29 6,aH 2 30 3 2,av 3 31 30,A 4 32 1,bo 5 33 7 31 32,aH 6 34 1 33,av 7 35 34,A 9 37 1,b6 8 36 180 [F 28,F 29,F 35],c3 10 38 .eql (F 36) (F 37)]) (.aR (F 38) (.E [A 0 39 5,A 1 40 6,rU 2 41 40,iN 3 42 1 8 39 41,A 4 5 42]) (.skip))
def Fo:I:= .B (.block 1 (.B (.E [A 0 27 25,A 1 6 27]) Fp)) (.E [cO 0 43 25,A 1 25 43])
def Fm:I:= .B (.aR (F 26) (.skip) (.ba 0)) Fo
def J4:I:= .B (.E [c6 0 26 25 24]) Fm
def Fq:I:= .B (.E [A 0 44 5,A 1 4 44]) (.aG)
def XY:I:= .B (.B (.E [aH 0 22 4 2,av 1 23 22,bC 2 24 23,a6 3 25 0]) (.block 0 (.loop J4))) Fq
def XX:I:= .B (.B (.E [bZ 0 7 7 2,b6 1 8 115 [F 7],g2 2 9 8,A 3 10 9,di 4 11 10 1,xL 5 12 10 11,cJ 6 13 10 12,A 7 14 13,di 8 15 14 1,eb 9 16 14 3 2,dJ 10 17 14 16,hM 11 18 14 17,ue 12 19 14 15 18,cJ 13 20 14 19]) (.aR (F 20) (.B (.E [A 0 21 5,A 1 4 21]) (.aG)) (.skip))) XY
def XW:I:= .B (.E [eL 0 5]) XX
def XU:I:=
  .B (
  .E [
 dI 0 2 0,
 eL 1 4]) XW
def J3:bS:=⟨45,[.bG 4],XU⟩
theorem XV:b2 al 116=some J3:=by kernel_rfl
def alR:I:= .B (.block 1 (.B (.E [aH 0 15 9 3,av 1 16 15,A 2 17 7,bo 3 18 1 16 17,av 4 19 18,aH 5 20 4 4,av 6 21 20,A 7 22 2,bo 8 23 3 21 22,aH 9 24 1 23,av 10 25 24,c3 11 26 .eql (F 19) (F 25)]) (.aR (F 26) (.B (.E [ch 0 6 true]) (.aG)) (.skip)))) (.E [A 0 13 7,cO 1 14 13,A 2 7 14])
def alT:I:= .B (.B (.E [A 0 8 7,aH 1 9 9 3,av 2 10 9,bC 3 11 10,c6 4 12 8 11]) (.aR (F 12) (.skip) (.ba 0))) alR
def alS:I:= .B (.E [ch 0 6 false]) (.aG)
def alQ:I:= .B (.B (.E [a6 0 7 0]) (.block 0 (.loop alT))) alS
def alO:I:=
  .B (
  .E [
 dI 0 3 0,
 dI 1 4 1,
 ch 2 6 false]) alQ
def Yc:bS:=⟨27,[.bG 6],alO⟩
theorem alP:b2 al 130=some Yc:=by kernel_rfl
def Yh:I:= .B (.E [aH 0 16 1 5,av 1 17 16,aH 2 18 2 5,av 3 19 18,gy 4 20 17 19,A 5 4 20]) (.aG)
def Yg:I:= .B (.E [aH 0 6 5 2,av 1 7 6,aH 2 8 6 2,av 3 9 8,A 4 10 1,bo 5 11 2 9 10,aH 6 12 1 11,av 7 13 12,bo 8 14 17 7 13,bZ 9 15 17 14,a1 10 5 (.dm [.string ⟨#[]⟩,aK,aK,aK,aK,aK,aK,aK,aK,aI,aI,.bool false,aI,aI,.bool false,aI,aI]),b0 11 17 5 15]) Yh
def Ye:I:=
  .B (
  .E [
 dI 0 2 0,
 a6 1 4 0]) Yg
def J7:bS:=⟨21,[.bG 4],Ye⟩
theorem Yf:b2 al 132=some J7:=by kernel_rfl
def BQ:I:= .B (.E [A 0 36 9,c3 1 37 .lss (F 36) (.const (.int .i64 (-1))),A 2 38 37,di 3 39 38 9,eb 4 40 38 4 3,dJ 5 41 38 40,hM 6 42 38 41,ue 7 43 38 39 42,cJ 8 44 38 43]) (.aR (F 44) (.B (.E [A 0 45 2,A 1 46 8,a1 2 47 (.eT [aK,aK,aK] [(0,1,.const (.int .i64 1)),(1,1,F 45),(2,1,F 46)]),b0 3 3 6 47,ch 4 7 true]) (.aG)) (.skip))
def BP:I:= .B (.block 1 (.B (.E [A 0 33 31,bo 1 34 1 29 31,av 2 35 34,A 3 8 33,A 4 9 35]) BQ)) (.E [cO 0 48 31,A 1 31 48])
def BO:I:= .B (.aR (F 32) (.skip) (.ba 0)) BP
def Fw:I:= .B (.E [c6 0 32 31 30]) BO
def BR:I:= .B (.E [a1 0 49 (.eT [aK,aK,aK] []),b0 1 3 6 49,ch 2 7 false]) (.aG)
def Yi:I:= .B (.B (.E [A 0 26 1,A 1 27 2,bo 2 28 1 26 27,av 3 29 28,bC 4 30 29,a6 5 31 0]) (.block 0 (.loop Fw))) BR
def Qd:I:= .B (.B (.E [A 0 10 1,A 1 11 2,bo 2 12 1 10 11,av 3 13 12,bC 4 14 13,bZ 5 15 7 3,A 6 16 2,sT 7 17 187 15 16 12 12,c3 8 18 .neq (F 14) (F 17)]) (.aR (F 18) (.B (.E [A 0 19 2,A 1 20 1,A 2 21 2,bo 3 22 1 20 21,av 4 23 22,bC 5 24 23,a1 6 25 (.eT [aK,aK,aK] [(0,1,.const (.int .i64 1)),(1,1,F 19),(2,1,F 24)]),b0 7 3 6 25,ch 8 7 true]) (.aG)) (.skip))) Yi
def Qc:I:=
  .B (
  .E [
 dI 0 3 0,
 a1 1 6 (.dm [aK,aK,aK]),
 ch 2 7 false]) Qd
def J8:bS:=⟨50,[.hL 6 true 3,.bG 7],Qc⟩
theorem al2:b2 al 133=some J8:=by kernel_rfl
def BU:I:= .B (.block 1 (.B (.E [A 0 12 1,A 1 13 5,bo 2 14 1 12 13,av 3 15 14,c3 4 16 .lss (F 15) (.const (.int .i64 (-1))),A 5 17 16,di 6 18 17 1,di 7 19 17 5,oC 8 20 17 1 18 19,dJ 9 21 17 20,eb 10 22 17 4 2,dJ 11 23 17 22,hM 12 24 17 23,ue 13 25 17 21 24,cJ 14 26 17 25]) (.aR (F 26) (.B (.E [A 0 27 5,A 1 4 27]) (.aG)) (.skip)))) (.E [A 0 10 5,cO 1 11 10,A 2 5 11])
def FD:I:= .B (.B (.E [A 0 6 5,A 1 7 1,bC 2 8 7,c6 3 9 6 8]) (.aR (F 9) (.skip) (.ba 0))) BU
def BV:I:= .B (.E [a6 0 4 (-1)]) (.aG)
def YE:I:= .B (.B (.E [a6 0 5 0]) (.block 0 (.loop FD))) BV
def YD:I:=
  .B (
  .E [
 dI 0 2 0,
 a6 1 4 0]) YE
def Qt:bS:=⟨28,[.bG 4],YD⟩
theorem ama:b2 al 143=some Qt:=by kernel_rfl
def FX:I:= .B (.B (.E [aH 0 14 3 3,av 1 15 14,A 2 16 7,bo 3 17 7 15 16,aH 4 18 1 17,av 5 19 18,A 6 20 2,c3 7 21 .gtr (F 19) (F 20)]) (.aR (F 21) (.skip) (.ba 0))) (.block 1 (.E [aH 0 22 3 3,av 1 23 22,A 2 24 7,bo 3 25 7 23 24,aH 4 26 2 25,av 5 27 26,A 6 7 27]))
def Zd:I:= .B (.E [A 0 28 7,A 1 6 28]) (.aG)
def Zc:I:= .B (.block 0 (.loop FX)) Zd
def Zb:I:= .B (.E [aH 0 8 4 3,av 1 9 8,A 2 10 1,bo 3 11 3 9 10,aH 4 12 2 11,av 5 13 12,A 6 7 13]) Zc
def Y9:I:=
  .B (
  .E [
 dI 0 3 0,
 a6 1 6 0]) Zb
def Kp:bS:=⟨29,[.bG 6],Y9⟩
theorem Za:b2 al 180=some Kp:=by kernel_rfl
def Zl:I:= .B (.E [aH 0 16 1 5,av 1 17 16,aH 2 18 2 5,av 3 19 18,gy 4 20 17 19,A 5 4 20]) (.aG)
def Zk:I:= .B (.E [aH 0 6 5 2,av 1 7 6,aH 2 8 6 2,av 3 9 8,A 4 10 1,bo 5 11 2 9 10,aH 6 12 1 11,av 7 13 12,bo 8 14 17 7 13,bZ 9 15 17 14,a1 10 5 (.dm [.string ⟨#[]⟩,aK,aK,aK,aK,aK,aK,aK,aK,aI,aI,.bool false,aI,aI,.bool false,aI,aI]),b0 11 17 5 15]) Zl
def Zj:I:=
  .B (
  .E [
 dI 0 2 0,
 a6 1 4 0]) Zk
def Qx:bS:=⟨21,[.bG 4],Zj⟩
theorem anu:b2 al 187=some Qx:=by kernel_rfl
def F9:I:= .B (.E [A 0 26 9,nw 1 27 26 0,A 2 28 27,ep 3 29 28 9,ep 4 30 28 5,lq 5 31 28 30,cq 6 32 28 true (.eX .lss .fR (F 29) (F 31)),dd 7 33 28 32]) (.aR (F 33) (.E [A 0 34 5,A 1 35 9,bo 2 36 1 34 35,av 3 37 36,cO 4 38 37,bo 5 39 1 34 35,b0 6 1 39 38]) (.skip))
def F8:I:= .B (.block 3 (.B (.E [bo 0 24 1 20 22,av 1 25 24,A 2 9 25]) F9)) (.E [cO 0 40 22,A 1 22 40])
def F7:I:= .B (.aR (F 23) (.skip) (.ba 2)) F8
def Ga:I:= .B (.E [c6 0 23 22 21]) F7
def QJ:I:= .B (.E [A 0 20 7,bC 1 21 20,a6 2 22 0]) (.block 2 (.loop Ga))
def QI:I:= .B (.block 1 (.B (.E [bo 0 18 1 14 16,av 1 19 18,A 2 7 19]) QJ)) (.E [cO 0 41 16,A 1 16 41])
def QH:I:= .B (.aR (F 17) (.skip) (.ba 0)) QI
def QL:I:= .B (.E [c6 0 17 16 15]) QH
def QK:I:= .B (.E [A 0 42 5,A 1 4 42]) (.aG)
def ZL:I:= .B (.B (.E [A 0 14 1,bC 1 15 14,a6 2 16 0]) (.block 0 (.loop QL))) QK
def ZK:I:= .B (.E [aH 0 10 4 2,av 1 11 10,bC 2 12 11,a1 3 13 (.jq 1 8 [aK] (F 12) (F 12)),A 4 5 13]) ZL
def ZJ:I:=
  .B (
  .E [
 dI 0 2 0,
 eL 1 4]) ZK
def QG:bS:=⟨43,[.bG 4],ZJ⟩
theorem anV:b2 al 200=some QG:=by kernel_rfl
def arV:I:= .B (.block 3 (.E [A 0 90 9,bZ 1 91 7 3,A 2 92 10,A 3 93 11,aH 5 95 1 5,av 6 96 95,A 7 97 10,bo 8 98 1 96 97,av 9 99 98,A 10 100 11,h3 11 101 100 1,bo 12 102 1 99 101,av 13 103 102,j2 4 94 (.dA 82 [F 91,F 92,F 93]) [(F 102,F 102),(F 98,F 98),(F 95,F 95)],bo 14 104 1 90 94,b0 15 1 104 103])) (.E [A 0 88 11,cO 1 89 88,A 2 11 89])
def arW:I:= .B (.B (.E [A 0 83 11,aH 1 84 3 3,av 2 85 84,bC 3 86 85,c6 4 87 83 86]) (.aR (F 87) (.skip) (.ba 2))) arV
def arU:I:= .B (.E [a6 0 11 1]) (.block 2 (.loop arW))
def arT:I:= .B (.E [A 0 73 9,bZ 1 74 7 3,A 2 75 10,aH 4 77 0 5,av 5 78 77,A 6 79 10,bo 7 80 1 78 79,av 8 81 80,j2 3 76 (.dA 82 [F 74,F 75,.const aK]) [(F 80,F 80),(F 77,F 77)],bo 9 82 1 73 76,b0 10 1 82 81]) arU
def arS:I:= .B (.block 1 (.B (.B (.E [aH 0 62 1 5,av 1 63 62,A 2 64 10,bo 3 65 1 63 64,av 4 66 65,bC 5 67 66,aH 6 68 3 3,av 7 69 68,bC 8 70 69,h3 9 71 70 1,c3 10 72 .neq (F 67) (F 71)]) (.aR (F 72) (.B (.E [ch 0 6 false]) (.aG)) (.skip))) arT)) (.E [A 0 60 10,cO 1 61 60,A 2 10 61])
def arX:I:= .B (.B (.E [A 0 55 10,aH 1 56 6 3,av 2 57 56,bC 3 58 57,c6 4 59 55 58]) (.aR (F 59) (.skip) (.ba 0))) arS
def arL:I:= .B (.block 5 (.E [A 0 112 9,bZ 1 113 7 3,A 2 114 12,aH 4 116 2 5,av 5 117 116,A 6 118 12,bo 7 119 1 117 118,av 8 120 119,vK 3 115 83 113 114 119 119 116 116,bo 9 121 1 112 115,b0 10 1 121 120])) (.E [A 0 110 12,cO 1 111 110,A 2 12 111])
def arY:I:= .B (.B (.E [A 0 105 12,aH 1 106 4 3,av 2 107 106,bC 3 108 107,c6 4 109 105 108]) (.aR (F 109) (.skip) (.ba 4))) arL
def arN:I:= .B (.E [A 0 128 14,A 1 129 128,ep 2 130 129 13,jc 3 131 129 7 3,l3 4 132 129 85 131,cq 5 133 129 true (.eX .lss .fR (F 130) (F 132)),dd 6 134 129 133,A 7 6 134]) (.aG)
def arM:I:= .B (.E [bZ 0 123 4 7,A 1 124 9,dg 2 125 84 123 124,A 3 122 125,cw 4 126 0 122,cw 5 127 1 122,A 6 13 126,A 7 14 127]) arN
def arK:I:= .B (.B (.E [a6 0 12 0]) (.block 4 (.loop arY))) arM
def arR:I:= .B (.B (.E [a6 0 10 0]) (.block 0 (.loop arX))) arK
def arQ:I:= .B (.E [A 0 53 9,xM 1 54 1 53,p4 2 (.store 1 (F 54) (.const (.bool true)))]) arR
def arP:I:= .B (.E [aH 0 50 0 7,av 1 51 50,zY 2 52 51 51,A 3 9 52]) arQ
def arO:I:= .B (.B (.E [A 0 21 8,sU 1 22 21,A 2 23 22,eb 3 24 23 0 5,dJ 4 25 23 24,hM 5 26 23 25,eb 6 27 23 6 3,dJ 7 28 23 27,hM 8 29 23 28,sS 9 30 23 26 29,cJ 10 31 23 30,A 11 32 31,eb 12 33 32 1 5,dJ 13 34 32 33,hM 14 35 32 34,eb 15 36 32 6 3,dJ 16 37 32 36,hM 17 38 32 37,sS 18 39 32 35 38,cJ 19 40 32 39,A 20 41 40,eb 21 42 41 2 5,dJ 22 43 41 42,hM 23 44 41 43,eb 24 45 41 4 3,dJ 25 46 41 45,hM 26 47 41 46,sS 27 48 41 44 47,cJ 28 49 41 48]) (.aR (F 49) (.B (.E [ch 0 6 false]) (.aG)) (.skip))) arP
def arJ:I:= .B (.E [bZ 0 16 7 3,A 1 17 1,dg 2 18 81 16 17,A 3 15 18,cw 4 19 0 15,cw 5 20 1 15,a1 6 7 (.dm [aK,aK,aK,aI]),b0 7 4 7 19,A 8 8 20]) arO
def arH:I:=
  .B (
  .E [
 dI 0 3 0,
 dI 1 5 2,
 ch 2 6 false]) arJ
def abG:bS:=⟨135,[.bG 6],arH⟩
theorem arI:b2 al 31=some abG:=by kernel_rfl
def asX:I:= .B (.block 3 (.E [A 0 74 15,A 1 75 10,bZ 2 76 2 12,A 3 77 14,A 4 78 16,b6 5 79 128 [F 76,F 77,F 78],bo 6 80 1 75 79,av 7 81 80,a1 8 82 (.fI 1 1 [.bool false] [(0,1,F 81)]),iN 9 83 1 1 74 82,A 10 15 83])) (.E [A 0 72 16,cO 1 73 72,A 2 16 73])
def ata:I:= .B (.B (.E [A 0 67 16,aH 1 68 3 2,av 2 69 68,bC 3 70 69,c6 4 71 67 70]) (.aR (F 71) (.skip) (.ba 2))) asX
def asW:I:= .B (.B (.E [a6 0 16 1]) (.block 2 (.loop ata))) (.E [aH 0 84 1 13,av 1 85 84,A 2 86 15,a1 3 87 (.fI 1 1 [aI] [(0,1,F 86)]),iN 4 88 1 24 85 87,aH 5 89 1 13,b0 6 1 89 88])
def asV:I:= .B (.E [aH 0 63 3 2,av 1 64 63,bC 2 65 64,a1 3 66 (.jq 1 1 [.bool false] (.const aK) (F 65)),A 4 15 66]) asW
def asU:I:= .B (.E [aH 0 52 0 13,av 1 53 52,A 2 54 10,bZ 3 55 2 12,A 4 56 14,sT 5 57 127 55 56 52 52,bo 6 58 1 54 57,av 7 59 58,a1 8 60 (.fI 1 1 [.bool false] [(0,1,F 59)]),iN 9 61 1 1 53 60,aH 10 62 0 13,b0 11 1 62 61]) asV
def as9:I:= .B (.block 1 (.B (.E [A 0 51 49,A 1 14 51]) asU)) (.E [cO 0 90 49,A 1 49 90])
def as8:I:= .B (.aR (F 50) (.skip) (.ba 0)) as9
def atb:I:= .B (.E [c6 0 50 49 48]) as8
def as0:I:= .B (.block 5 (.B (.E [A 0 96 94,A 1 17 96]) (.E [aH 0 97 2 13,av 1 98 97,A 2 99 10,bZ 3 100 2 12,A 4 101 17,sT 5 102 129 100 101 97 97,bo 6 103 1 99 102,av 7 104 103,a1 8 105 (.fI 1 1 [.bool false] [(0,1,F 104)]),iN 9 106 1 1 98 105,aH 10 107 2 13,b0 11 1 107 106]))) (.E [cO 0 108 94,A 1 94 108])
def asZ:I:= .B (.aR (F 95) (.skip) (.ba 4)) as0
def atc:I:= .B (.E [c6 0 95 94 93]) asZ
def as1:I:= .B (.E [bZ 0 109 3 13,b0 1 3 4 109,ch 2 5 true]) (.aG)
def asY:I:= .B (.B (.E [aH 0 91 4 2,av 1 92 91,bC 2 93 92,a6 3 94 0]) (.block 4 (.loop atc))) as1
def as7:I:= .B (.B (.E [aH 0 46 6 2,av 1 47 46,bC 2 48 47,a6 3 49 0]) (.block 0 (.loop atb))) asY
def as6:I:= .B (.E [a1 0 13 (.dm [aI,aI,aI])]) as7
def as5:I:= .B (.E [aH 0 39 6 2,av 1 40 39,bC 2 41 40,aH 3 42 3 2,av 4 43 42,bC 5 44 43,a1 6 45 (.eT [aK,aK] [(0,1,F 41),(1,1,F 44)]),a1 7 12 (.dm [aK,aK]),b0 8 2 12 45]) as6
def as4:I:= .B (.B (.E [A 0 34 9,bZ 1 35 7 2,b6 2 36 126 [F 35],c3 3 37 .eql (F 34) (F 36)]) (.aR (F 37) (.B (.E [a1 0 38 (.eT [aI,aI,aI] []),b0 1 3 4 38,ch 2 5 false]) (.aG)) (.skip))) as5
def as3:I:= .B (.E [bZ 0 28 4 6,b6 1 29 125 [F 28],A 2 27 29,cw 3 30 0 27,cw 4 31 1 27,cw 5 32 2 27,cw 6 33 3 27,A 7 8 30,A 8 9 31,A 9 10 32,A 10 11 33]) as4
def as2:I:= .B (.B (.E [A 0 24 7,sU 1 25 24]) (.aR (F 25) (.B (.E [a1 0 26 (.eT [aI,aI,aI] []),b0 1 3 4 26,ch 2 5 false]) (.aG)) (.skip))) as3
def asT:I:= .B (.E [bZ 0 19 7 2,A 1 20 1,dg 2 21 124 19 20,A 3 18 21,cw 4 22 0 18,cw 5 23 1 18,a1 6 6 (.dm [aK,aK,aK,aI]),b0 7 4 6 22,A 8 7 23]) as2
def asR:I:=
  .B (
  .E [
 dI 0 2 0,
 a1 1 4 (.dm [aI,aI,aI]),
 ch 2 5 false]) asT
def acG:bS:=⟨110,[.hL 4 true 3,.bG 5],asR⟩
theorem asS:b2 al 79=some acG:=by kernel_rfl
def atr:I:= .B (.B (.E [A 0 71 10,jn 1 72 71 0]) (.aR (F 72) (.E [aH 0 73 1 8,av 1 74 73,aH 2 75 2 8,av 3 76 75,gy 4 77 74 76,A 5 10 77]) (.skip))) (.E [aH 0 78 3 6,av 1 79 78,bZ 2 80 7 2,A 3 81 7,aH 4 82 3 2,av 5 83 82,A 6 84 9,bo 7 85 7 83 84,aH 8 86 2 85,av 9 87 86,bZ 11 89 7 2,A 12 90 7,A 13 91 9,A 15 93 10,j2 10 88 (.dA 82 [F 80,F 81,F 87]) [(F 2,F 2),(F 78,F 78)],j2 14 92 (.dA 82 [F 89,F 90,F 91]) [(F 78,F 78)],a1 16 94 (.eT [aK,aK,aK,aK] [(0,1,F 88),(1,1,F 92),(2,1,F 93)]),CH 17 95 94,iN 18 96 4 32 79 95,aH 19 97 3 6,b0 20 1 97 96])
def atq:I:= .B (.block 3 (.B (.E [aH 0 62 3 2,av 1 63 62,A 2 64 9,bo 3 65 7 63 64,aH 4 66 1 65,av 5 67 66,aH 6 68 4 8,a1 7 69 (.oz 1 5 (F 68) (F 67)),av 8 70 69,A 9 10 70]) atr)) (.E [A 0 60 9,cO 1 61 60,A 2 9 61])
def att:I:= .B (.B (.E [A 0 55 9,aH 1 56 3 2,av 2 57 56,bC 3 58 57,c6 4 59 55 58]) (.aR (F 59) (.skip) (.ba 2))) atq
def atg:I:= .B (.block 5 (.B (.E [bZ 0 105 17 8,bZ 1 106 7 2,A 2 107 11,b6 3 108 130 [F 105,F 106,F 107]]) (.aR (F 108) (.E [aH 0 109 3 6,av 1 110 109,bZ 2 111 7 2,A 3 112 7,aH 4 113 4 2,av 5 114 113,A 6 115 11,bo 7 116 3 114 115,aH 8 117 2 116,av 9 118 117,bZ 11 120 7 2,A 12 121 11,j2 10 119 (.dA 82 [F 111,F 112,F 118]) [(F 2,F 2),(F 109,F 109)],sT 13 122 83 120 121 109 109,a1 14 123 (.eT [aK,aK,aK,aK] [(0,1,F 119),(1,1,F 122),(2,1,.const (.int .i64 1))]),CH 15 124 123,iN 16 125 4 32 110 124,aH 17 126 3 6,b0 18 1 126 125]) (.skip)))) (.E [A 0 103 11,cO 1 104 103,A 2 11 104])
def atu:I:= .B (.B (.E [A 0 98 11,aH 1 99 4 2,av 2 100 99,bC 3 101 100,c6 4 102 98 101]) (.aR (F 102) (.skip) (.ba 4))) atg
def ats:I:= .B (.E [a6 0 11 0]) (.block 4 (.loop atu))
def atp:I:= .B (.B (.E [a6 0 9 1]) (.block 2 (.loop att))) ats
def ato:I:= .B (.E [aH 0 41 3 6,av 1 42 41,bZ 2 43 7 2,A 3 44 7,aH 5 46 1 8,av 6 47 46,aH 7 48 2 8,av 8 49 48,gy 9 50 47 49,j2 4 45 (.dA 82 [F 43,F 44,.const aK]) [(F 48,F 48),(F 46,F 46),(F 41,F 41)],a1 10 51 (.eT [aK,aK,aK,aK] [(1,1,F 45),(2,1,F 50)]),CH 11 52 51,iN 12 53 4 32 42 52,aH 13 54 3 6,b0 14 1 54 53]) atp
def atn:I:= .B (.block 1 (.B (.E [aH 0 31 5 2,av 1 32 31,aH 2 33 6 2,av 3 34 33,A 4 35 7,bo 5 36 2 34 35,aH 6 37 1 36,av 7 38 37,bo 8 39 17 32 38,bZ 9 40 17 39,a1 10 8 (.dm [.string ⟨#[]⟩,aK,aK,aK,aK,aK,aK,aK,aK,aI,aI,.bool false,aI,aI,.bool false,aI,aI]),b0 11 17 8 40]) ato)) (.E [A 0 29 7,cO 1 30 29,A 2 7 30])
def atv:I:= .B (.B (.E [A 0 24 7,aH 1 25 6 2,av 2 26 25,bC 3 27 26,c6 4 28 24 27]) (.aR (F 28) (.skip) (.ba 0))) atn
def atj:I:= .B (.block 7 (.E [aH 0 137 3 6,av 1 138 137,bZ 2 139 7 2,A 3 140 13,A 5 142 12,A 6 143 13,bo 7 144 1 142 143,av 8 145 144,vK 4 141 83 139 140 144 144 137 137,a1 9 146 (.eT [aK,aK,aK,aK] [(0,1,F 141),(1,1,.const (.int .i64 1)),(2,1,F 145)]),CH 10 147 146,iN 11 148 4 32 138 147,aH 12 149 3 6,b0 13 1 149 148])) (.E [A 0 135 13,cO 1 136 135,A 2 13 136])
def atw:I:= .B (.B (.E [A 0 130 13,aH 1 131 4 2,av 2 132 131,bC 3 133 132,c6 4 134 130 133]) (.aR (F 134) (.skip) (.ba 6))) atj
def atk:I:= .B (.E [bZ 0 150 4 6,b0 1 4 4 150,a6 2 5 0]) (.aG)
def ati:I:= .B (.B (.E [a6 0 13 0]) (.block 6 (.loop atw))) atk
def ath:I:= .B (.E [bZ 0 127 7 2,A 1 128 1,dg 2 129 52 127 128,A 3 12 129]) ati
def atm:I:= .B (.B (.E [a6 0 7 0]) (.block 0 (.loop atv))) ath
def atl:I:= .B (.E [bZ 0 18 7 2,aH 1 19 4 2,av 2 20 19,bC 3 21 20,dg 4 22 83 18 21,a1 5 23 (.eT [aK,aK,aK,aI] [(0,1,F 22),(2,1,.const (.int .i64 1))]),a1 6 6 (.dm [aK,aK,aK,aI]),b0 7 4 6 23]) atm
def atf:I:= .B (.B (.E [bZ 0 14 7 2,b6 1 15 87 [F 14],g2 2 16 15]) (.aR (F 16) (.B (.E [a1 0 17 (.eT [aK,aK,aK,aI] []),b0 1 4 4 17,a6 2 5 1]) (.aG)) (.skip))) atl
def atd:I:=
  .B (
  .E [
 dI 0 2 0,
 a1 1 4 (.dm [aK,aK,aK,aI]),
 a6 2 5 0]) atf
def acH:bS:=⟨151,[.hL 4 true 4,.bG 5],atd⟩
theorem ate:b2 al 81=some acH:=by kernel_rfl
def atA:I:= .B (.E [aH 0 11 6 3,av 1 12 11,bC 2 13 12,kH 3 14 2 13,A 4 15 1,aH 5 16 3 3,av 6 17 16,bC 7 18 17,h3 8 19 18 1,c3 9 20 .mul (F 15) (F 19),gy 10 21 14 20,A 11 22 2,gy 12 23 21 22,h3 13 24 23 1,A 14 6 24]) (.aG)
def atz:I:= .B (.B (.E [A 0 7 2,jn 1 8 7 0]) (.aR (F 8) (.B (.E [A 0 9 1,kH 1 10 2 9,A 2 6 10]) (.aG)) (.skip))) atA
def atx:I:=
  .B (
  .E [
 dI 0 3 0,
 a6 1 6 0]) atz
def acI:bS:=⟨25,[.bG 6],atx⟩
theorem aty:b2 al 82=some acI:=by kernel_rfl
def atD:I:= .B (.E [aH 0 5 6 2,av 1 6 5,bC 2 7 6,aH 3 8 3 2,av 4 9 8,bC 5 10 9,c3 6 11 .mul (F 7) (F 10),kH 7 12 2 11,A 8 13 1,gy 9 14 12 13,A 10 4 14]) (.aG)
def atB:I:=
  .B (
  .E [
 dI 0 2 0,
 a6 1 4 0]) atD
def acJ:bS:=⟨15,[.bG 4],atB⟩
theorem atC:b2 al 83=some acJ:=by kernel_rfl
def atQ:I:= .B (.block 1 (.E [A 0 12 3,bZ 1 13 7 1,A 2 14 4,dg 3 15 132 13 14,gy 4 16 12 15,A 5 3 16])) (.E [A 0 10 4,cO 1 11 10,A 2 4 11])
def atS:I:= .B (.B (.E [A 0 5 4,aH 1 6 6 1,av 2 7 6,bC 3 8 7,c6 4 9 5 8]) (.aR (F 9) (.skip) (.ba 0))) atQ
def atR:I:= .B (.E [A 0 17 3,A 1 2 17]) (.aG)
def atP:I:= .B (.B (.E [a6 0 4 0]) (.block 0 (.loop atS))) atR
def atO:I:= .B (.E [a6 0 3 0]) atP
def atM:I:=
  .B (
  .E [
 dI 0 1 0,
 a6 1 2 0]) atO
def acL:bS:=⟨18,[.bG 2],atM⟩
theorem atN:b2 al 85=some acL:=by kernel_rfl
def akm:I:= .B (.E [aH 0 68 0 15,av 1 69 68,h3 2 70 69 2,aH 3 71 0 12,av 4 72 71,c3 5 73 .sub (F 70) (F 72),aH 6 74 1 12,av 7 75 74,h3 8 76 75 1,c3 9 77 .quo (F 73) (F 76),A 10 16 77]) (.E [A 0 78 13,A 1 79 16,A 2 80 13,A 3 81 16,bo 4 82 1 80 81,av 5 83 82,aH 6 84 1 15,av 7 85 84,bZ 8 86 2 12,j2 9 87 (.dA 129 [F 86,.const aK]) [(F 84,F 84),(F 82,F 82)],c3 10 88 .sub (F 85) (F 87),rU 11 89 88,iN 12 90 1 8 83 89,bo 13 91 1 78 79,b0 14 1 91 90])
def akl:I:= .B (.B (.E [aH 0 56 1 15,av 1 57 56,bZ 2 58 2 12,j2 3 59 (.dA 129 [F 58,.const aK]) [(F 56,F 56)],c6 4 60 57 59,A 5 61 60,di 6 62 61 8,di 7 63 61 14,oC 8 64 61 1 62 63,dJ 9 65 61 64,zV 10 66 61 65,cJ 11 67 61 66]) (.aR (F 67) (.ba 1) (.skip))) akm
def akv:I:= .B (.block 1 (.B (.E [A 0 53 51,bo 1 54 4 49 51,bZ 2 55 4 54,a1 3 15 (.dm [aK,aK,aK,aK]),A 4 14 53,b0 5 4 15 55]) akl)) (.E [cO 0 92 51,A 1 51 92])
def aku:I:= .B (.aR (F 52) (.skip) (.ba 0)) akv
def akw:I:= .B (.E [c6 0 52 51 50]) aku
def akn:I:= .B (.E [A 0 93 13,A 1 4 93,a6 2 5 0]) (.aG)
def akt:I:= .B (.B (.E [aH 0 48 3 6,av 1 49 48,bC 2 50 49,a6 3 51 0]) (.block 0 (.loop akw))) akn
def aks:I:= .B (.E [aH 0 44 6 2,av 1 45 44,bC 2 46 45,a1 3 47 (.jq 1 24 [aI] (F 46) (F 46)),A 4 13 47]) akt
def akr:I:= .B (.E [aH 0 37 6 2,av 1 38 37,bC 2 39 38,aH 3 40 3 2,av 4 41 40,bC 5 42 41,a1 6 43 (.eT [aK,aK] [(0,1,F 39),(1,1,F 42)]),a1 7 12 (.dm [aK,aK]),b0 8 2 12 43]) aks
def akq:I:= .B (.B (.E [A 0 33 9,bZ 1 34 7 2,b6 2 35 126 [F 34],c6 3 36 33 35]) (.aR (F 36) (.B (.E [eL 0 4,a6 1 5 12]) (.aG)) (.skip))) akr
def akp:I:= .B (.E [bZ 0 27 4 6,b6 1 28 125 [F 27],A 2 26 28,cw 3 29 0 26,cw 4 30 1 26,cw 5 31 2 26,cw 6 32 3 26,A 7 8 29,A 8 9 30,A 9 10 31,A 10 11 32]) akq
def ako:I:= .B (.B (.E [A 0 23 7,sU 1 24 23]) (.aR (F 24) (.B (.E [A 0 25 7,eL 1 4,A 2 5 25]) (.aG)) (.skip))) akp
def akk:I:= .B (.E [bZ 0 18 7 2,A 1 19 1,dg 2 20 124 18 19,A 3 17 20,cw 4 21 0 17,cw 5 22 1 17,a1 6 6 (.dm [aK,aK,aK,aI]),b0 7 4 6 21,A 8 7 22]) ako
def aki:I:=
  .B (
  .E [
 dI 0 2 0,
 eL 1 4,
 a6 2 5 0]) akk
def X0:bS:=⟨94,[.bG 4,.bG 5],aki⟩
theorem akj:b2 al 118=some X0:=by kernel_rfl
def akP:I:= .B (.block 3 (.B (.E [bo 0 63 1 59 61,av 1 64 63,A 2 14 64]) (.E [A 0 65 12,A 1 66 14,bo 2 67 1 65 66,p4 3 (.store 1 (F 67) (.const (.bool true)))]))) (.E [cO 0 68 61,A 1 61 68])
def akO:I:= .B (.aR (F 62) (.skip) (.ba 2)) akP
def ald:I:= .B (.E [c6 0 62 61 60]) akO
def akW:I:= .B (.B (.E [A 0 94 17,jn 1 95 94 0]) (.aR (F 95) (.E [aH 0 96 1 11,av 1 97 96,aH 2 98 2 11,av 3 99 98,gy 4 100 97 99,A 5 17 100]) (.skip))) (.E [A 0 101 8,bZ 1 102 2 6,A 2 103 9,aH 3 104 2 16,av 4 105 104,bZ 6 107 2 6,A 7 108 9,A 8 109 15,A 10 111 17,j2 5 106 (.dA 128 [F 102,F 103,F 105]) [(F 6,F 6)],b6 9 110 128 [F 107,F 108,F 109],a1 11 112 (.iw (F 101) [F 106,F 110,F 111])])
def akV:I:= .B (.E [aH 0 89 1 16,av 1 90 89,aH 2 91 4 11,a1 3 92 (.oz 1 5 (F 91) (F 90)),av 4 93 92,A 5 17 93]) akW
def akU:I:= .B (.B (.E [A 0 87 15,jn 1 88 87 0]) (.aR (F 88) (.ba 5) (.skip))) akV
def akT:I:= .B (.block 5 (.B (.E [A 0 84 82,bo 1 85 7 80 82,bZ 2 86 7 85,a1 3 16 (.dm [.string ⟨#[]⟩,aK,aK,aK,.bool false,aI,aI]),A 4 15 84,b0 5 7 16 86]) akU)) (.E [cO 0 113 82,A 1 82 113])
def akS:I:= .B (.aR (F 83) (.skip) (.ba 4)) akT
def ale:I:= .B (.E [c6 0 83 82 81]) akS
def ak1:I:= .B (.E [A 0 122 12,aH 1 123 1 19,av 2 124 123,bo 3 125 1 122 124,av 4 126 125]) (.aR (F 126) (.E [A 0 127 8,bZ 1 128 2 6,A 2 129 9,aH 3 130 2 19,av 4 131 130,bZ 6 133 2 6,A 7 134 18,j2 5 132 (.dA 128 [F 128,F 129,F 131]) [(F 6,F 6)],dg 8 135 129 133 134,a1 9 136 (.iw (F 127) [F 132,F 135,.const (.int .i64 1)])]) (.skip))
def ak0:I:= .B (.block 7 (.B (.E [A 0 119 117,bo 1 120 3 115 117,bZ 2 121 3 120,a1 3 19 (.dm [.string ⟨#[]⟩,aK,aK]),A 4 18 119,b0 5 3 19 121]) ak1)) (.E [cO 0 137 117,A 1 117 137])
def akZ:I:= .B (.aR (F 118) (.skip) (.ba 6)) ak0
def alf:I:= .B (.E [c6 0 118 117 116]) akZ
def akY:I:= .B (.E [aH 0 114 4 2,av 1 115 114,bC 2 116 115,a6 3 117 0]) (.block 6 (.loop alf))
def akR:I:= .B (.B (.E [aH 0 79 3 2,av 1 80 79,bC 2 81 80,a6 3 82 0]) (.block 4 (.loop ale))) akY
def akQ:I:= .B (.E [A 0 69 8,bZ 1 70 2 6,A 2 71 9,aH 4 73 1 11,av 5 74 73,aH 6 75 2 11,av 7 76 75,gy 8 77 74 76,vK 3 72 127 70 71 75 75 73 73,a1 9 78 (.iw (F 69) [.const aK,F 72,F 77])]) akR
def akN:I:= .B (.B (.E [aH 0 58 9 11,av 1 59 58,bC 2 60 59,a6 3 61 0]) (.block 2 (.loop ald))) akQ
def alc:I:= .B (.E [aH 0 54 2 2,av 1 55 54,bC 2 56 55,zY 3 57 56 56,A 4 12 57]) akN
def alb:I:= .B (.E [aH 0 48 5 2,av 1 49 48,aH 2 50 1 10,av 3 51 50,bo 4 52 17 49 51,bZ 5 53 17 52,a1 6 11 (.dm [.string ⟨#[]⟩,aK,aK,aK,aK,aK,aK,aK,aK,aI,aI,.bool false,aI,aI,.bool false,aI,aI]),b0 7 17 11 53]) alc
def ala:I:= .B (.block 1 (.B (.E [A 0 45 43,bo 1 46 2 41 43,bZ 2 47 2 46,a1 3 10 (.dm [.string ⟨#[]⟩,aK]),A 4 9 45,b0 5 2 10 47]) alb)) (.E [cO 0 138 43,A 1 43 138])
def ak9:I:= .B (.aR (F 44) (.skip) (.ba 0)) ala
def alg:I:= .B (.E [c6 0 44 43 42]) ak9
def ak4:I:= .B (.block 9 (.B (.E [A 0 145 143,bo 1 146 1 141 143,av 2 147 146,A 3 20 145,A 4 21 147]) (.E [A 0 148 8,bZ 1 149 2 6,A 2 150 20,dg 3 151 129 149 150,A 4 152 21,a1 5 153 (.iw (F 148) [F 151,.const (.int .i64 1),F 152])]))) (.E [cO 0 154 143,A 1 143 154])
def ak3:I:= .B (.aR (F 144) (.skip) (.ba 8)) ak4
def alh:I:= .B (.E [c6 0 144 143 142]) ak3
def ak5:I:= .B (.E [bZ 0 155 4 7,b0 1 4 4 155,a6 2 5 0]) (.aG)
def ak2:I:= .B (.B (.E [bZ 0 139 7 2,A 1 140 1,dg 2 141 63 139 140,bC 3 142 141,a6 4 143 0]) (.block 8 (.loop alh))) ak5
def ak8:I:= .B (.B (.E [aH 0 40 6 2,av 1 41 40,bC 2 42 41,a6 3 43 0]) (.block 0 (.loop alg))) ak2
def ak7:I:= .B (.E [a1 0 39 (.s3 (.func 183) [] [F 7]),A 1 8 39]) ak8
def ak6:I:= .B (.E [bZ 0 33 2 6,aH 1 34 4 2,av 2 35 34,bC 3 36 35,dg 4 37 129 33 36,a1 5 38 (.eT [aK,aK,aK,aI] [(0,1,F 37),(1,1,.const aK),(2,1,.const (.int .i64 1))]),a1 6 7 (.dm [aK,aK,aK,aI]),b0 7 4 7 38]) ak7
def akX:I:= .B (.E [aH 0 26 6 2,av 1 27 26,bC 2 28 27,aH 3 29 3 2,av 4 30 29,bC 5 31 30,a1 6 32 (.eT [aK,aK] [(0,1,F 28),(1,1,F 31)]),a1 7 6 (.dm [aK,aK]),b0 8 2 6 32]) ak6
def akM:I:= .B (.B (.E [bZ 0 22 7 2,b6 1 23 62 [F 22],sU 2 24 23]) (.aR (F 24) (.B (.E [a1 0 25 (.eT [aK,aK,aK,aI] []),b0 1 4 4 25,a6 2 5 1]) (.aG)) (.skip))) akX
def akK:I:=
  .B (
  .E [
 dI 0 2 0,
 a1 1 4 (.dm [aK,aK,aK,aI]),
 a6 2 5 0]) akM
def X6:bS:=⟨156,[.hL 4 true 4,.bG 5],akK⟩
theorem akL:b2 al 124=some X6:=by kernel_rfl
def alB:I:= .B (.block 1 (.B (.E [bo 0 11 2 7 9,bZ 1 12 2 11,a1 2 5 (.dm [.string ⟨#[]⟩,aK]),b0 3 2 5 12]) (.E [A 0 13 3,aH 1 14 5 1,av 2 15 14,aH 3 16 1 5,av 4 17 16,bo 5 18 17 15 17,aH 6 19 1 18,av 7 20 19,aH 8 21 5 1,av 9 22 21,aH 10 23 1 5,av 11 24 23,bo 12 25 17 22 24,aH 13 26 2 25,av 14 27 26,gy 15 28 20 27,gy 16 29 13 28,A 17 3 29]))) (.E [cO 0 30 9,A 1 9 30])
def alA:I:= .B (.aR (F 10) (.skip) (.ba 0)) alB
def alD:I:= .B (.E [c6 0 10 9 8]) alA
def alC:I:= .B (.E [A 0 31 3,A 1 2 31]) (.aG)
def alz:I:= .B (.B (.E [aH 0 6 6 1,av 1 7 6,bC 2 8 7,a6 3 9 0]) (.block 0 (.loop alD))) alC
def aly:I:= .B (.E [a6 0 3 0]) alz
def alw:I:=
  .B (
  .E [
 dI 0 1 0,
 a6 1 2 0]) aly
def X8:bS:=⟨32,[.bG 2],alw⟩
theorem alx:b2 al 126=some X8:=by kernel_rfl
def alG:I:= .B (.E [A 0 5 1,kH 1 6 2 5,A 2 4 6]) (.aG)
def alE:I:=
  .B (
  .E [
 dI 0 2 0,
 a6 1 4 0]) alG
def X9:bS:=⟨7,[.bG 4],alE⟩
theorem alF:b2 al 127=some X9:=by kernel_rfl
def alK:I:= .B (.E [aH 0 12 0 3,av 1 13 12,kH 2 14 2 13,A 3 15 1,aH 4 16 1 3,av 5 17 16,h3 6 18 17 1,c3 7 19 .mul (F 15) (F 18),gy 8 20 14 19,A 9 21 2,gy 10 22 20 21,h3 11 23 22 1,A 12 6 23]) (.aG)
def alJ:I:= .B (.B (.E [A 0 7 2,jn 1 8 7 0]) (.aR (F 8) (.B (.E [bZ 0 9 2 3,A 1 10 1,dg 2 11 127 9 10,A 3 6 11]) (.aG)) (.skip))) alK
def alH:I:=
  .B (
  .E [
 dI 0 3 0,
 a6 1 6 0]) alJ
def Ya:bS:=⟨24,[.bG 6],alH⟩
theorem alI:b2 al 128=some Ya:=by kernel_rfl
def alN:I:= .B (.E [aH 0 5 0 2,av 1 6 5,aH 2 7 1 2,av 3 8 7,c3 4 9 .mul (F 6) (F 8),kH 5 10 2 9,A 6 11 1,gy 7 12 10 11,A 8 4 12]) (.aG)
def alL:I:=
  .B (
  .E [
 dI 0 2 0,
 a6 1 4 0]) alN
def Yb:bS:=⟨13,[.bG 4],alL⟩
theorem alM:b2 al 129=some Yb:=by kernel_rfl
def amS:I:=
  .E [
 aH 0 7 3 3,
 av 1 8 7,
 A 2 9 0,
 A 3 10 1,
 A 4 11 2,
 a1 5 12 (.eT [aK,aK,aK,aK] [(0,1,F 9),(1,1,F 10),(2,1,F 11)]),
 CH 6 13 12,
 iN 7 14 4 32 8 13,
 aH 8 15 3 3,
 b0 9 1 15 14]
def Zf:bS:=⟨16,[],amS⟩
theorem amT:b2 al 183=some Zf:=by kernel_rfl
end Go.Proofs.YtmmkkggfmigppaaGreat
