/-
 The intermediate forms of this seat's functions, written by a program of ours (wip/Ir.lean); each is checked against the loaded program.
-/
import Derived.Test.YticjcminhkgabaaGreatDoorRows
import Derived.Test.YticjcminhkgabaaGreatDoorFwX
namespace Go.Proofs.YticjcminhkgabaaGreatDoor
open Go Go.DI

def ir69_k7 : ICode :=
 .seq (
 .region [
 imv 0 73 3,
 ifa 1 74 0 10,
 ild 2 75 74,
 iop 3 76 (.bslice 1 1 [.string ⟨#[]⟩] [(0, 1, τ 75)]),
 iop 4 77 (.app 1 16 (τ 73) (τ 76)),
 imv 5 3 77]) (
 .region [
 imv 0 78 8,
 imv 1 79 78,
 iog 2 80 79 true (.load true 4 (τ 10)),
 iog 3 81 79 true (.call 112 [τ 80]),
 iop 4 82 (.pick (τ 79) (τ 81) (.const (.bool false))),
 imv 5 8 82])
def ir69_k6 : ICode :=
 .seq (
 .block 1 (
 .seq (
 .region [
 iia 0 71 4 67 69,
 ila 1 72 4 71,
 iop 2 10 (.alloc [.string ⟨#[]⟩, .slice none 0 0, .slice none 0 0, .slice none 0 0]),
 ist 3 4 10 72]) ir69_k7)) (
 .region [
 ibn 0 83 .add (τ 69) (.const (.int .i64 1)),
 imv 1 69 83])
def ir69_k5 : ICode :=
 .seq (
 .cond (τ 70) (
 .skip) (
 .exit 0)) ir69_k6
def ir69_l0 : ICode :=
 .seq (
 .region [
 ibn 0 70 .lss (τ 69) (τ 68)]) ir69_k5
def ir69_k11 : ICode :=
 .seq (
 .region [
 imv 0 91 4,
 ifa 1 92 0 12,
 ild 2 93 92,
 iop 3 94 (.bslice 1 1 [.string ⟨#[]⟩] [(0, 1, τ 93)]),
 iop 4 95 (.app 1 16 (τ 91) (τ 94)),
 imv 5 4 95]) (
 .region [
 imv 0 96 8,
 imv 1 97 96,
 iog 2 98 97 true (.faddr 1 (τ 12)),
 iog 3 99 97 true (.load false 1 (τ 98)),
 iog 4 100 97 true (.call 110 [τ 99, .const (.int .i64 1), .const (.int .i64 16)]),
 iop 5 101 (.pick (τ 97) (τ 100) (.const (.bool false))),
 imv 6 102 101,
 iog 7 103 102 true (.faddr 2 (τ 12)),
 iog 8 104 102 true (.load false 1 (τ 103)),
 iog 9 105 102 true (.call 110 [τ 104, .const (.int .i64 1), .const (.int .i64 64)]),
 iop 10 106 (.pick (τ 102) (τ 105) (.const (.bool false))),
 imv 11 107 106,
 iog 12 108 107 true (.faddr 3 (τ 12)),
 iog 13 109 107 true (.load false 1 (τ 108)),
 iog 14 110 107 true (.faddr 1 (τ 1)),
 iog 15 111 107 true (.load false 1 (τ 110)),
 iog 16 112 107 true (.lenV (τ 111)),
 iog 17 113 107 true (.bin .sub .other (τ 112) (.const (.int .i64 1))),
 iog 18 114 107 true (.call 110 [τ 109, .const (.int .i64 0), τ 113]),
 iop 19 115 (.pick (τ 107) (τ 114) (.const (.bool false))),
 imv 20 8 115])
def ir69_k10 : ICode :=
 .seq (
 .block 3 (
 .seq (
 .region [
 iia 0 89 4 85 87,
 ila 1 90 4 89,
 iop 2 12 (.alloc [.string ⟨#[]⟩, .int .i64 0, .int .i64 0, .int .i64 0]),
 ist 3 4 12 90]) ir69_k11)) (
 .region [
 ibn 0 116 .add (τ 87) (.const (.int .i64 1)),
 imv 1 87 116])
def ir69_k9 : ICode :=
 .seq (
 .cond (τ 88) (
 .skip) (
 .exit 2)) ir69_k10
def ir69_l1 : ICode :=
 .seq (
 .region [
 ibn 0 88 .lss (τ 87) (τ 86)]) ir69_k9
def ir69_k14 : ICode :=
 .seq (
 .block 5 (
 .seq (
 .region [
 iia 0 123 7 119 121,
 ila 1 124 7 123,
 iop 2 14 (.alloc [.string ⟨#[]⟩, .int .i64 0, .int .i64 0, .int .i64 0, .bool false, .slice none 0 0, .slice none 0 0]),
 ist 3 7 14 124]) (
 .region [
 imv 0 125 5,
 ifa 1 126 0 14,
 ild 2 127 126,
 iop 3 128 (.bslice 1 1 [.string ⟨#[]⟩] [(0, 1, τ 127)]),
 iop 4 129 (.app 1 16 (τ 125) (τ 128)),
 imv 5 5 129]))) (
 .region [
 ibn 0 130 .add (τ 121) (.const (.int .i64 1)),
 imv 1 121 130])
def ir69_k13 : ICode :=
 .seq (
 .cond (τ 122) (
 .skip) (
 .exit 4)) ir69_k14
def ir69_l2 : ICode :=
 .seq (
 .region [
 ibn 0 122 .lss (τ 121) (τ 120)]) ir69_k13
def ir69_k18 : ICode :=
 .seq (
 .region [
 imv 0 138 5,
 ifa 1 139 0 16,
 ild 2 140 139,
 iop 3 141 (.bslice 1 1 [.string ⟨#[]⟩] [(0, 1, τ 140)]),
 iop 4 142 (.app 1 16 (τ 138) (τ 141)),
 imv 5 5 142]) (
 .region [
 imv 0 143 8,
 imv 1 144 143,
 iog 2 145 144 true (.faddr 1 (τ 16)),
 iog 3 146 144 true (.load false 1 (τ 145)),
 iog 4 147 144 true (.faddr 2 (τ 1)),
 iog 5 148 144 true (.load false 1 (τ 147)),
 iog 6 149 144 true (.lenV (τ 148)),
 iog 7 150 144 true (.bin .sub .other (τ 149) (.const (.int .i64 1))),
 iog 8 151 144 true (.call 110 [τ 146, .const (.int .i64 0), τ 150]),
 iop 9 152 (.pick (τ 144) (τ 151) (.const (.bool false))),
 imv 10 153 152,
 iog 11 154 153 true (.faddr 2 (τ 16)),
 iog 12 155 153 true (.load false 1 (τ 154)),
 iog 13 156 153 true (.faddr 3 (τ 1)),
 iog 14 157 153 true (.load false 1 (τ 156)),
 iog 15 158 153 true (.lenV (τ 157)),
 iog 16 159 153 true (.bin .sub .other (τ 158) (.const (.int .i64 1))),
 iog 17 160 153 true (.call 110 [τ 155, .const (.int .i64 0), τ 159]),
 iop 18 161 (.pick (τ 153) (τ 160) (.const (.bool false))),
 imv 19 162 161,
 iog 20 163 162 true (.faddr 3 (τ 1)),
 iog 21 164 162 true (.load false 1 (τ 163)),
 iog 22 165 162 true (.faddr 2 (τ 16)),
 iog 23 166 162 true (.load false 1 (τ 165)),
 iog 24 167 162 true (.iaddr 7 (τ 164) (τ 166)),
 iog 25 168 162 true (.faddr 1 (τ 167)),
 iog 26 169 162 true (.load false 1 (τ 168)),
 iog 27 170 162 true (.bin .eql .other (τ 169) (.const (.int .i64 4))),
 iop 28 171 (.pick (τ 162) (τ 170) (.const (.bool false))),
 imv 29 8 171])
def ir69_k17 : ICode :=
 .seq (
 .block 7 (
 .seq (
 .region [
 iia 0 136 3 132 134,
 ila 1 137 3 136,
 iop 2 16 (.alloc [.string ⟨#[]⟩, .int .i64 0, .int .i64 0]),
 ist 3 3 16 137]) ir69_k18)) (
 .region [
 ibn 0 172 .add (τ 134) (.const (.int .i64 1)),
 imv 1 134 172])
def ir69_k16 : ICode :=
 .seq (
 .cond (τ 135) (
 .skip) (
 .exit 6)) ir69_k17
def ir69_l3 : ICode :=
 .seq (
 .region [
 ibn 0 135 .lss (τ 134) (τ 133)]) ir69_k16
def ir69_k22 : ICode :=
 .seq (
 .region [
 imv 0 180 6,
 ifa 1 181 0 18,
 ild 2 182 181,
 iop 3 183 (.bslice 1 1 [.string ⟨#[]⟩] [(0, 1, τ 182)]),
 iop 4 184 (.app 1 16 (τ 180) (τ 183)),
 imv 5 6 184]) (
 .region [
 imv 0 185 8,
 imv 1 186 185,
 iog 2 187 186 true (.load true 17 (τ 18)),
 iog 3 188 186 true (.faddr 2 (τ 1)),
 iog 4 189 186 true (.load false 1 (τ 188)),
 iog 5 190 186 true (.lenV (τ 189)),
 iog 6 191 186 true (.call 113 [τ 187, τ 190]),
 iop 7 192 (.pick (τ 186) (τ 191) (.const (.bool false))),
 imv 8 8 192])
def ir69_k21 : ICode :=
 .seq (
 .block 9 (
 .seq (
 .region [
 iia 0 178 17 174 176,
 ila 1 179 17 178,
 iop 2 18 (.alloc [.string ⟨#[]⟩, .int .i64 0, .int .i64 0, .int .i64 0, .int .i64 0, .int .i64 0, .int .i64 0, .int .i64 0, .int .i64 0, .slice none 0 0, .slice none 0 0, .bool false, .slice none 0 0, .slice none 0 0, .bool false, .slice none 0 0, .slice none 0 0]),
 ist 3 17 18 179]) ir69_k22)) (
 .region [
 ibn 0 193 .add (τ 176) (.const (.int .i64 1)),
 imv 1 176 193])
def ir69_k20 : ICode :=
 .seq (
 .cond (τ 177) (
 .skip) (
 .exit 8)) ir69_k21
def ir69_l4 : ICode :=
 .seq (
 .region [
 ibn 0 177 .lss (τ 176) (τ 175)]) ir69_k20
def ir69_k26 : ICode :=
 .seq (
 .region [
 imv 0 201 7,
 ifa 1 202 0 20,
 ild 2 203 202,
 iop 3 204 (.bslice 1 1 [.string ⟨#[]⟩] [(0, 1, τ 203)]),
 iop 4 205 (.app 1 16 (τ 201) (τ 204)),
 imv 5 7 205]) (
 .region [
 imv 0 206 8,
 imv 1 207 206,
 iog 2 208 207 true (.faddr 1 (τ 20)),
 iog 3 209 207 true (.load false 1 (τ 208)),
 iog 4 210 207 true (.faddr 5 (τ 1)),
 iog 5 211 207 true (.load false 1 (τ 210)),
 iog 6 212 207 true (.lenV (τ 211)),
 iog 7 213 207 true (.bin .sub .other (τ 212) (.const (.int .i64 1))),
 iog 8 214 207 true (.call 110 [τ 209, .const (.int .i64 0), τ 213]),
 iop 9 215 (.pick (τ 207) (τ 214) (.const (.bool false))),
 imv 10 8 215])
def ir69_k25 : ICode :=
 .seq (
 .block 11 (
 .seq (
 .region [
 iia 0 199 2 195 197,
 ila 1 200 2 199,
 iop 2 20 (.alloc [.string ⟨#[]⟩, .int .i64 0]),
 ist 3 2 20 200]) ir69_k26)) (
 .region [
 ibn 0 216 .add (τ 197) (.const (.int .i64 1)),
 imv 1 197 216])
def ir69_k24 : ICode :=
 .seq (
 .cond (τ 198) (
 .skip) (
 .exit 10)) ir69_k25
def ir69_l5 : ICode :=
 .seq (
 .region [
 ibn 0 198 .lss (τ 197) (τ 196)]) ir69_k24
def ir69_k28 : ICode :=
 .seq (
 .region [
 imi 0 2 0]) (
 .ret)
def ir69_k27 : ICode :=
 .seq (
 .seq (
 .region [
 imv 0 217 8,
 iop 1 218 (.un .not (τ 217)),
 imv 2 219 218,
 iog 3 220 219 false (.mov (τ 3)),
 iog 4 221 219 false (.call 114 [τ 220]),
 iog 5 222 219 false (.un .not (τ 221)),
 iop 6 223 (.pick (τ 219) (.const (.bool true)) (τ 222)),
 imv 7 224 223,
 iog 8 225 224 false (.mov (τ 4)),
 iog 9 226 224 false (.call 114 [τ 225]),
 iog 10 227 224 false (.un .not (τ 226)),
 iop 11 228 (.pick (τ 224) (.const (.bool true)) (τ 227)),
 imv 12 229 228,
 iog 13 230 229 false (.mov (τ 5)),
 iog 14 231 229 false (.call 114 [τ 230]),
 iog 15 232 229 false (.un .not (τ 231)),
 iop 16 233 (.pick (τ 229) (.const (.bool true)) (τ 232)),
 imv 17 234 233,
 iog 18 235 234 false (.mov (τ 6)),
 iog 19 236 234 false (.call 114 [τ 235]),
 iog 20 237 234 false (.un .not (τ 236)),
 iop 21 238 (.pick (τ 234) (.const (.bool true)) (τ 237)),
 imv 22 239 238,
 iog 23 240 239 false (.mov (τ 7)),
 iog 24 241 239 false (.call 114 [τ 240]),
 iog 25 242 239 false (.un .not (τ 241)),
 iop 26 243 (.pick (τ 239) (.const (.bool true)) (τ 242))]) (
 .cond (τ 243) (
 .seq (
 .region [
 imi 0 2 1]) (
 .ret)) (
 .skip))) ir69_k28
def ir69_k23 : ICode :=
 .seq (
 .seq (
 .region [
 ifa 0 194 6 1,
 ild 1 195 194,
 iln 2 196 195,
 imi 3 197 0]) (
 .block 10 (
 .loop ir69_l5))) ir69_k27
def ir69_k19 : ICode :=
 .seq (
 .seq (
 .region [
 ifa 0 173 5 1,
 ild 1 174 173,
 iln 2 175 174,
 imi 3 176 0]) (
 .block 8 (
 .loop ir69_l4))) ir69_k23
def ir69_k15 : ICode :=
 .seq (
 .seq (
 .region [
 ifa 0 131 4 1,
 ild 1 132 131,
 iln 2 133 132,
 imi 3 134 0]) (
 .block 6 (
 .loop ir69_l3))) ir69_k19
def ir69_k12 : ICode :=
 .seq (
 .seq (
 .region [
 ifa 0 117 3 1,
 ild 1 118 117,
 iop 2 119 (.sliceS 7 (τ 118) (some (.const (.int .i64 1))) none),
 iln 3 120 119,
 imi 4 121 0]) (
 .block 4 (
 .loop ir69_l2))) ir69_k15
def ir69_k8 : ICode :=
 .seq (
 .seq (
 .region [
 ifa 0 84 2 1,
 ild 1 85 84,
 iln 2 86 85,
 imi 3 87 0]) (
 .block 2 (
 .loop ir69_l1))) ir69_k12
def ir69_k4 : ICode :=
 .seq (
 .seq (
 .region [
 ifa 0 66 1 1,
 ild 1 67 66,
 iln 2 68 67,
 imi 3 69 0]) (
 .block 0 (
 .loop ir69_l0))) ir69_k8
def ir69_k3 : ICode :=
 .seq (
 .region [
 imb 0 8 true]) ir69_k4
def ir69_k2 : ICode :=
 .seq (
 .region [
 iop 0 3 (.mov (.const (.slice none 0 0))),
 iop 1 4 (.mov (.const (.slice none 0 0))),
 iop 2 5 (.mov (.const (.slice none 0 0))),
 iop 3 6 (.mov (.const (.slice none 0 0))),
 iop 4 7 (.mov (.const (.slice none 0 0)))]) ir69_k3
def ir69_k1 : ICode :=
 .seq (
 .seq (
 .region [
 ifa 0 21 0 1,
 ild 1 22 21,
 icl 2 23 110 [τ 22, .const (.int .i64 1), .const (.int .i64 4)],
 iop 3 24 (.un .not (τ 23)),
 imv 4 25 24,
 iog 5 26 25 false (.faddr 1 (τ 1)),
 iog 6 27 25 false (.load false 1 (τ 26)),
 iog 7 28 25 false (.lenV (τ 27)),
 iog 8 29 25 false (.bin .gtr .other (τ 28) (.const (.int .i64 4))),
 iop 9 30 (.pick (τ 25) (.const (.bool true)) (τ 29)),
 imv 10 31 30,
 iog 11 32 31 false (.faddr 2 (τ 1)),
 iog 12 33 31 false (.load false 1 (τ 32)),
 iog 13 34 31 false (.lenV (τ 33)),
 iog 14 35 31 false (.bin .gtr .other (τ 34) (.const (.int .i64 4))),
 iop 15 36 (.pick (τ 31) (.const (.bool true)) (τ 35)),
 imv 16 37 36,
 iog 17 38 37 false (.faddr 3 (τ 1)),
 iog 18 39 37 false (.load false 1 (τ 38)),
 iog 19 40 37 false (.lenV (τ 39)),
 iog 20 41 37 false (.bin .gtr .other (τ 40) (.const (.int .i64 40))),
 iop 21 42 (.pick (τ 37) (.const (.bool true)) (τ 41)),
 imv 22 43 42,
 iog 23 44 43 false (.faddr 4 (τ 1)),
 iog 24 45 43 false (.load false 1 (τ 44)),
 iog 25 46 43 false (.lenV (τ 45)),
 iog 26 47 43 false (.bin .gtr .other (τ 46) (.const (.int .i64 24))),
 iop 27 48 (.pick (τ 43) (.const (.bool true)) (τ 47)),
 imv 28 49 48,
 iog 29 50 49 false (.faddr 5 (τ 1)),
 iog 30 51 49 false (.load false 1 (τ 50)),
 iog 31 52 49 false (.lenV (τ 51)),
 iog 32 53 49 false (.bin .gtr .other (τ 52) (.const (.int .i64 4))),
 iop 33 54 (.pick (τ 49) (.const (.bool true)) (τ 53)),
 imv 34 55 54,
 iog 35 56 55 false (.faddr 6 (τ 1)),
 iog 36 57 55 false (.load false 1 (τ 56)),
 iog 37 58 55 false (.lenV (τ 57)),
 iog 38 59 55 false (.bin .gtr .other (τ 58) (.const (.int .i64 12))),
 iop 39 60 (.pick (τ 55) (.const (.bool true)) (τ 59)),
 imv 40 61 60,
 iog 41 62 61 false (.load true 7 (τ 1)),
 iog 42 63 61 false (.call 111 [τ 62]),
 iog 43 64 61 false (.un .not (τ 63)),
 iop 44 65 (.pick (τ 61) (.const (.bool true)) (τ 64))]) (
 .cond (τ 65) (
 .seq (
 .region [
 imi 0 2 1]) (
 .ret)) (
 .skip))) ir69_k2
def ir69_b : ICode :=
 .seq (
 .region [
 iop 0 1 (.box (τ 0)),
 imi 1 2 0]) ir69_k1
def ir69 : IFunc := ⟨244, [.tmp 2], ir69_b⟩
theorem ir69_eq : cFunc Tryz.prog 69 = some ir69 := by kernel_rfl
theorem call69 {args : List Value} {m : Mem} {Φ : Value → Mem → Prop} (h : args.length ≤ 244) : WPCall Tryz.prog 69 args m Φ = WP Tryz.prog ir69_b (initσ args) m (retK [.tmp 2] Φ) := wpCall_def ir69_eq h
def ir110_k1 : ICode :=
 .seq (
 .region [
 imv 0 7 0,
 imv 1 8 1,
 ibn 2 9 .geq (τ 7) (τ 8),
 imv 3 10 9,
 iog 4 11 10 true (.mov (τ 0)),
 iog 5 12 10 true (.mov (τ 2)),
 iog 6 13 10 true (.bin .leq .other (τ 11) (τ 12)),
 iop 7 14 (.pick (τ 10) (τ 13) (.const (.bool false))),
 imv 8 6 14]) (
 .ret)
def ir110_b : ICode :=
 .seq (
 .region [
 imb 0 6 false]) ir110_k1
def ir110 : IFunc := ⟨15, [.tmp 6], ir110_b⟩
theorem ir110_eq : cFunc Tryz.prog 110 = some ir110 := by kernel_rfl
theorem call110 {args : List Value} {m : Mem} {Φ : Value → Mem → Prop} (h : args.length ≤ 15) : WPCall Tryz.prog 110 args m Φ = WP Tryz.prog ir110_b (initσ args) m (retK [.tmp 6] Φ) := wpCall_def ir110_eq h
def ir111_k7 : ICode :=
 .seq (
 .region [
 ifa 0 52 2 5,
 ild 1 53 52,
 imv 2 54 4,
 icl 3 55 110 [τ 53, .const (.int .i64 0), τ 54],
 iop 4 56 (.un .not (τ 55)),
 imv 5 57 56,
 iog 6 58 57 false (.faddr 3 (τ 1)),
 iog 7 59 57 false (.load false 1 (τ 58)),
 iog 8 60 57 false (.faddr 2 (τ 5)),
 iog 9 61 57 false (.load false 1 (τ 60)),
 iog 10 62 57 false (.iaddr 7 (τ 59) (τ 61)),
 iog 11 63 57 false (.faddr 1 (τ 62)),
 iog 12 64 57 false (.load false 1 (τ 63)),
 iog 13 65 57 false (.faddr 1 (τ 5)),
 iog 14 66 57 false (.load false 1 (τ 65)),
 iog 15 67 57 false (.bin .sub .other (τ 66) (.const (.int .i64 1))),
 iog 16 68 57 false (.bin .neq .other (τ 64) (τ 67)),
 iop 17 69 (.pick (τ 57) (.const (.bool true)) (τ 68)),
 imv 18 70 69,
 iog 19 71 70 false (.faddr 1 (τ 5)),
 iog 20 72 70 false (.load false 1 (τ 71)),
 iog 21 73 70 false (.call 110 [τ 72, .const (.int .i64 1), .const (.int .i64 4)]),
 iog 22 74 70 false (.un .not (τ 73)),
 iop 23 75 (.pick (τ 70) (.const (.bool true)) (τ 74)),
 imv 24 76 75,
 iog 25 77 76 false (.faddr 3 (τ 5)),
 iog 26 78 76 false (.load false 1 (τ 77)),
 iog 27 79 76 false (.call 110 [τ 78, .const (.int .i64 1), .const (.int .i64 64)]),
 iog 28 80 76 false (.un .not (τ 79)),
 iop 29 81 (.pick (τ 76) (.const (.bool true)) (τ 80)),
 imv 30 82 81,
 iog 31 83 82 false (.faddr 4 (τ 5)),
 iog 32 84 82 false (.load true 3 (τ 83)),
 iog 33 85 82 false (.call 140 [τ 84]),
 iog 34 86 82 false (.un .not (τ 85)),
 iop 35 87 (.pick (τ 82) (.const (.bool true)) (τ 86))]) (
 .cond (τ 87) (
 .seq (
 .region [
 imb 0 2 false]) (
 .ret)) (
 .skip))
def ir111_k6 : ICode :=
 .seq (
 .block 1 (
 .seq (
 .region [
 imv 0 49 47,
 iia 1 50 7 45 47,
 ila 2 51 7 50,
 iop 3 5 (.alloc [.string ⟨#[]⟩, .int .i64 0, .int .i64 0, .int .i64 0, .bool false, .slice none 0 0, .slice none 0 0]),
 imv 4 4 49,
 ist 5 7 5 51]) ir111_k7)) (
 .region [
 ibn 0 88 .add (τ 47) (.const (.int .i64 1)),
 imv 1 47 88])
def ir111_k5 : ICode :=
 .seq (
 .cond (τ 48) (
 .skip) (
 .exit 0)) ir111_k6
def ir111_l0 : ICode :=
 .seq (
 .region [
 ibn 0 48 .lss (τ 47) (τ 46)]) ir111_k5
def ir111_k8 : ICode :=
 .seq (
 .region [
 imb 0 2 true]) (
 .ret)
def ir111_k4 : ICode :=
 .seq (
 .seq (
 .region [
 ifa 0 43 3 1,
 ild 1 44 43,
 iop 2 45 (.sliceS 7 (τ 44) (some (.const (.int .i64 1))) none),
 iln 3 46 45,
 imi 4 47 0]) (
 .block 0 (
 .loop ir111_l0))) ir111_k8
def ir111_k3 : ICode :=
 .seq (
 .seq (
 .region [
 ifa 0 14 0 3,
 ild 1 15 14,
 ibn 2 16 .neq (τ 15) (.const (.string ⟨#[]⟩)),
 imv 3 17 16,
 iog 4 18 17 false (.faddr 1 (τ 3)),
 iog 5 19 17 false (.load false 1 (τ 18)),
 iog 6 20 17 false (.bin .neq .other (τ 19) (.const (.int .i64 0))),
 iop 7 21 (.pick (τ 17) (.const (.bool true)) (τ 20)),
 imv 8 22 21,
 iog 9 23 22 false (.faddr 2 (τ 3)),
 iog 10 24 22 false (.load false 1 (τ 23)),
 iog 11 25 22 false (.bin .neq .other (τ 24) (.const (.int .i64 (-1)))),
 iop 12 26 (.pick (τ 22) (.const (.bool true)) (τ 25)),
 imv 13 27 26,
 iog 14 28 27 false (.faddr 3 (τ 3)),
 iog 15 29 27 false (.load false 1 (τ 28)),
 iog 16 30 27 false (.bin .neq .other (τ 29) (.const (.int .i64 0))),
 iop 17 31 (.pick (τ 27) (.const (.bool true)) (τ 30)),
 imv 18 32 31,
 iog 19 33 32 false (.faddr 4 (τ 3)),
 iog 20 34 32 false (.load true 3 (τ 33)),
 iog 21 35 32 false (.call 140 [τ 34]),
 iog 22 36 32 false (.un .not (τ 35)),
 iop 23 37 (.pick (τ 32) (.const (.bool true)) (τ 36)),
 imv 24 38 37,
 iog 25 39 38 false (.faddr 4 (τ 3)),
 iog 26 40 38 false (.load true 3 (τ 39)),
 iog 27 41 38 false (.call 141 [τ 40]),
 iop 28 42 (.pick (τ 38) (.const (.bool true)) (τ 41))]) (
 .cond (τ 42) (
 .seq (
 .region [
 imb 0 2 false]) (
 .ret)) (
 .skip))) ir111_k4
def ir111_k2 : ICode :=
 .seq (
 .region [
 ifa 0 10 3 1,
 ild 1 11 10,
 iop 2 12 (.iaddr 7 (τ 11) (.const (.int .i64 0))),
 ila 3 13 7 12,
 iop 4 3 (.alloc [.string ⟨#[]⟩, .int .i64 0, .int .i64 0, .int .i64 0, .bool false, .slice none 0 0, .slice none 0 0]),
 ist 5 7 3 13]) ir111_k3
def ir111_k1 : ICode :=
 .seq (
 .seq (
 .region [
 ifa 0 6 3 1,
 ild 1 7 6,
 iln 2 8 7,
 ibn 3 9 .eql (τ 8) (.const (.int .i64 0))]) (
 .cond (τ 9) (
 .seq (
 .region [
 imb 0 2 false]) (
 .ret)) (
 .skip))) ir111_k2
def ir111_b : ICode :=
 .seq (
 .region [
 iop 0 1 (.box (τ 0)),
 imb 1 2 false]) ir111_k1
def ir111 : IFunc := ⟨89, [.tmp 2], ir111_b⟩
theorem ir111_eq : cFunc Tryz.prog 111 = some ir111 := by kernel_rfl
theorem call111 {args : List Value} {m : Mem} {Φ : Value → Mem → Prop} (h : args.length ≤ 89) : WPCall Tryz.prog 111 args m Φ = WP Tryz.prog ir111_b (initσ args) m (retK [.tmp 2] Φ) := wpCall_def ir111_eq h
def ir112_k6 : ICode :=
 .seq (
 .region [
 imv 0 52 5,
 iln 1 53 52,
 imv 2 54 3,
 ibn 3 55 .neq (τ 53) (τ 54),
 imv 4 56 55,
 iog 5 57 56 false (.mov (τ 5)),
 iog 6 58 56 false (.call 142 [τ 57, .func 140]),
 iog 7 59 56 false (.un .not (τ 58)),
 iop 8 60 (.pick (τ 56) (.const (.bool true)) (τ 59)),
 imv 9 61 60,
 iog 10 62 61 false (.mov (τ 5)),
 iog 11 63 61 false (.mov (τ 4)),
 iog 12 64 61 false (.iaddr 3 (τ 62) (τ 63)),
 iog 13 65 61 false (.load true 3 (τ 64)),
 iog 14 66 61 false (.call 141 [τ 65]),
 iop 15 67 (.pick (τ 61) (.const (.bool true)) (τ 66))]) (
 .cond (τ 67) (
 .seq (
 .region [
 imb 0 2 false]) (
 .ret)) (
 .skip))
def ir112_k5 : ICode :=
 .seq (
 .block 1 (
 .seq (
 .region [
 imv 0 49 47,
 iia 1 50 1 45 47,
 ild 2 51 50,
 imv 3 4 49,
 imv 4 5 51]) ir112_k6)) (
 .region [
 ibn 0 68 .add (τ 47) (.const (.int .i64 1)),
 imv 1 47 68])
def ir112_k4 : ICode :=
 .seq (
 .cond (τ 48) (
 .skip) (
 .exit 0)) ir112_k5
def ir112_l0 : ICode :=
 .seq (
 .region [
 ibn 0 48 .lss (τ 47) (τ 46)]) ir112_k4
def ir112_k10 : ICode :=
 .seq (
 .region [
 imv 0 85 7,
 ibn 1 86 .eql (τ 85) (.const (.int .i64 0)),
 imv 2 87 86,
 iog 3 88 87 true (.mov (τ 10)),
 iog 4 89 87 true (.bin .eql .other (τ 88) (.const (.int .i64 0))),
 iop 5 90 (.pick (τ 87) (τ 89) (.const (.bool false))),
 imv 6 91 90,
 iog 7 92 91 true (.load true 4 (τ 1)),
 iog 8 93 91 true (.call 146 [τ 92]),
 iop 9 94 (.pick (τ 91) (τ 93) (.const (.bool false))),
 imv 10 2 94]) (
 .ret)
def ir112_k9 : ICode :=
 .seq (
 .region [
 ila 0 80 3 6,
 ila 1 81 3 8,
 icl 2 82 145 [τ 80, τ 81],
 imv 3 79 82,
 iex 4 83 0 79,
 iex 5 84 1 79,
 imv 6 10 83,
 imv 7 11 84]) ir112_k10
def ir112_k8 : ICode :=
 .seq (
 .region [
 icl 0 76 144 [.const (.int .i64 1), .const (.int .i64 1)],
 imv 1 75 76,
 iex 2 77 0 75,
 iex 3 78 1 75,
 iop 4 8 (.alloc [.bool false, .slice none 0 0, .slice none 0 0]),
 ist 5 3 8 77,
 imv 6 9 78]) ir112_k9
def ir112_k7 : ICode :=
 .seq (
 .region [
 ifa 0 70 1 1,
 ild 1 71 70,
 icl 2 72 143 [τ 71],
 imv 3 69 72,
 iex 4 73 0 69,
 iex 5 74 1 69,
 iop 6 6 (.alloc [.bool false, .slice none 0 0, .slice none 0 0]),
 ist 7 3 6 73,
 imv 8 7 74]) ir112_k8
def ir112_k3 : ICode :=
 .seq (
 .seq (
 .region [
 ifa 0 44 2 1,
 ild 1 45 44,
 iln 2 46 45,
 imi 3 47 0]) (
 .block 0 (
 .loop ir112_l0))) ir112_k7
def ir112_k2 : ICode :=
 .seq (
 .seq (
 .region [
 imv 0 15 3,
 icl 1 16 110 [τ 15, .const (.int .i64 1), .const (.int .i64 4)],
 iop 2 17 (.un .not (τ 16)),
 imv 3 18 17,
 iog 4 19 18 false (.faddr 3 (τ 1)),
 iog 5 20 18 false (.load false 1 (τ 19)),
 iog 6 21 18 false (.lenV (τ 20)),
 iog 7 22 18 false (.mov (τ 3)),
 iog 8 23 18 false (.bin .neq .other (τ 21) (τ 22)),
 iop 9 24 (.pick (τ 18) (.const (.bool true)) (τ 23)),
 imv 10 25 24,
 iog 11 26 25 false (.faddr 2 (τ 1)),
 iog 12 27 25 false (.load false 1 (τ 26)),
 iog 13 28 25 false (.lenV (τ 27)),
 iog 14 29 25 false (.mov (τ 3)),
 iog 15 30 25 false (.bin .neq .other (τ 28) (τ 29)),
 iop 16 31 (.pick (τ 25) (.const (.bool true)) (τ 30)),
 imv 17 32 31,
 iog 18 33 32 false (.faddr 1 (τ 1)),
 iog 19 34 32 false (.load false 1 (τ 33)),
 iog 20 35 32 false (.call 142 [τ 34, .func 140]),
 iog 21 36 32 false (.un .not (τ 35)),
 iop 22 37 (.pick (τ 32) (.const (.bool true)) (τ 36)),
 imv 23 38 37,
 iog 24 39 38 false (.faddr 3 (τ 1)),
 iog 25 40 38 false (.load false 1 (τ 39)),
 iog 26 41 38 false (.call 142 [τ 40, .func 140]),
 iog 27 42 38 false (.un .not (τ 41)),
 iop 28 43 (.pick (τ 38) (.const (.bool true)) (τ 42))]) (
 .cond (τ 43) (
 .seq (
 .region [
 imb 0 2 false]) (
 .ret)) (
 .skip))) ir112_k3
def ir112_k1 : ICode :=
 .seq (
 .region [
 ifa 0 12 1 1,
 ild 1 13 12,
 iln 2 14 13,
 imv 3 3 14]) ir112_k2
def ir112_b : ICode :=
 .seq (
 .region [
 iop 0 1 (.box (τ 0)),
 imb 1 2 false]) ir112_k1
def ir112 : IFunc := ⟨95, [.tmp 2], ir112_b⟩
theorem ir112_eq : cFunc Tryz.prog 112 = some ir112 := by kernel_rfl
theorem call112 {args : List Value} {m : Mem} {Φ : Value → Mem → Prop} (h : args.length ≤ 95) : WPCall Tryz.prog 112 args m Φ = WP Tryz.prog ir112_b (initσ args) m (retK [.tmp 2] Φ) := wpCall_def ir112_eq h
def ir113_k6 : ICode :=
 .seq (
 .seq (
 .region [
 imv 0 45 7,
 imv 1 46 1,
 ibn 2 47 .sub (τ 46) (.const (.int .i64 1)),
 icl 3 48 110 [τ 45, .const (.int .i64 0), τ 47],
 iop 4 49 (.un .not (τ 48)),
 imv 5 50 49,
 iog 6 51 50 false (.mov (τ 5)),
 iog 7 52 50 false (.mov (τ 7)),
 iog 8 53 50 false (.iaddr 1 (τ 51) (τ 52)),
 iog 9 54 50 false (.load false 1 (τ 53)),
 iop 10 55 (.pick (τ 50) (.const (.bool true)) (τ 54))]) (
 .cond (τ 55) (
 .seq (
 .region [
 imb 0 4 false]) (
 .ret)) (
 .skip))) (
 .region [
 imv 0 56 5,
 imv 1 57 7,
 iia 2 58 1 56 57,
 ino 3 (.store 1 (τ 58) (.const (.bool true)))])
def ir113_k5 : ICode :=
 .seq (
 .block 1 (
 .seq (
 .region [
 iia 0 43 1 39 41,
 ild 1 44 43,
 imv 2 7 44]) ir113_k6)) (
 .region [
 ibn 0 59 .add (τ 41) (.const (.int .i64 1)),
 imv 1 41 59])
def ir113_k4 : ICode :=
 .seq (
 .cond (τ 42) (
 .skip) (
 .exit 0)) ir113_k5
def ir113_l0 : ICode :=
 .seq (
 .region [
 ibn 0 42 .lss (τ 41) (τ 40)]) ir113_k4
def ir113_k7 : ICode :=
 .seq (
 .region [
 imb 0 4 true]) (
 .ret)
def ir113_k3 : ICode :=
 .seq (
 .seq (
 .region [
 ifa 0 38 9 2,
 ild 1 39 38,
 iln 2 40 39,
 imi 3 41 0]) (
 .block 0 (
 .loop ir113_l0))) ir113_k7
def ir113_k2 : ICode :=
 .seq (
 .region [
 imv 0 36 1,
 iop 1 37 (.mkslice 1 1 [.bool false] (τ 36) (τ 36)),
 imv 2 5 37]) ir113_k3
def ir113_k1 : ICode :=
 .seq (
 .seq (
 .region [
 ifa 0 8 1 2,
 ild 1 9 8,
 ifa 2 10 2 2,
 ild 3 11 10,
 ifa 4 12 3 2,
 ild 5 13 12,
 ifa 6 14 4 2,
 ila 7 15 5 14,
 icl 8 16 147 [τ 9, τ 11, τ 13, τ 15],
 iop 9 17 (.un .not (τ 16)),
 imv 10 18 17,
 iog 11 19 18 false (.faddr 9 (τ 2)),
 iog 12 20 18 false (.load false 1 (τ 19)),
 iog 13 21 18 false (.lenV (τ 20)),
 iog 14 22 18 false (.bin .eql .other (τ 21) (.const (.int .i64 0))),
 iop 15 23 (.pick (τ 18) (.const (.bool true)) (τ 22)),
 imv 16 24 23,
 iog 17 25 24 false (.faddr 2 (τ 2)),
 iog 18 26 24 false (.load false 1 (τ 25)),
 iog 19 27 24 false (.faddr 10 (τ 2)),
 iog 20 28 24 false (.load false 1 (τ 27)),
 iog 21 29 24 false (.faddr 11 (τ 2)),
 iog 22 30 24 false (.load true 3 (τ 29)),
 iog 23 31 24 false (.faddr 14 (τ 2)),
 iog 24 32 24 false (.load true 3 (τ 31)),
 iog 25 33 24 false (.call 148 [τ 26, τ 28, τ 30, τ 32]),
 iog 26 34 24 false (.un .not (τ 33)),
 iop 27 35 (.pick (τ 24) (.const (.bool true)) (τ 34))]) (
 .cond (τ 35) (
 .seq (
 .region [
 imb 0 4 false]) (
 .ret)) (
 .skip))) ir113_k2
def ir113_b : ICode :=
 .seq (
 .region [
 iop 0 2 (.box (τ 0)),
 imb 1 4 false]) ir113_k1
def ir113 : IFunc := ⟨60, [.tmp 4], ir113_b⟩
theorem ir113_eq : cFunc Tryz.prog 113 = some ir113 := by kernel_rfl
theorem call113 {args : List Value} {m : Mem} {Φ : Value → Mem → Prop} (h : args.length ≤ 60) : WPCall Tryz.prog 113 args m Φ = WP Tryz.prog ir113_b (initσ args) m (retK [.tmp 4] Φ) := wpCall_def ir113_eq h
def ir114_k5 : ICode :=
 .seq (
 .seq (
 .region [
 imv 0 13 5,
 icl 1 14 149 [τ 13],
 iop 2 15 (.un .not (τ 14)),
 imv 3 16 15,
 iog 4 17 16 false (.mov (τ 3)),
 iog 5 18 16 false (.mov (τ 5)),
 iog 6 19 16 false (.mlook .str (.bool false) false (τ 17) (τ 18)),
 iop 7 20 (.pick (τ 16) (.const (.bool true)) (τ 19))]) (
 .cond (τ 20) (
 .seq (
 .region [
 imb 0 2 false]) (
 .ret)) (
 .skip))) (
 .region [
 imv 0 21 3,
 imv 1 22 5,
 ino 2 (.mput .str (τ 21) (τ 22) (.const (.bool true)))])
def ir114_k4 : ICode :=
 .seq (
 .block 1 (
 .seq (
 .region [
 iia 0 11 1 7 9,
 ild 1 12 11,
 imv 2 5 12]) ir114_k5)) (
 .region [
 ibn 0 23 .add (τ 9) (.const (.int .i64 1)),
 imv 1 9 23])
def ir114_k3 : ICode :=
 .seq (
 .cond (τ 10) (
 .skip) (
 .exit 0)) ir114_k4
def ir114_l0 : ICode :=
 .seq (
 .region [
 ibn 0 10 .lss (τ 9) (τ 8)]) ir114_k3
def ir114_k6 : ICode :=
 .seq (
 .region [
 imb 0 2 true]) (
 .ret)
def ir114_k2 : ICode :=
 .seq (
 .seq (
 .region [
 imv 0 7 0,
 iln 1 8 7,
 imi 2 9 0]) (
 .block 0 (
 .loop ir114_l0))) ir114_k6
def ir114_k1 : ICode :=
 .seq (
 .region [
 iop 0 6 (.mkmap),
 imv 1 3 6]) ir114_k2
def ir114_b : ICode :=
 .seq (
 .region [
 imb 0 2 false]) ir114_k1
def ir114 : IFunc := ⟨24, [.tmp 2], ir114_b⟩
theorem ir114_eq : cFunc Tryz.prog 114 = some ir114 := by kernel_rfl
theorem call114 {args : List Value} {m : Mem} {Φ : Value → Mem → Prop} (h : args.length ≤ 24) : WPCall Tryz.prog 114 args m Φ = WP Tryz.prog ir114_b (initσ args) m (retK [.tmp 2] Φ) := wpCall_def ir114_eq h
def ir140_k2 : ICode :=
 .seq (
 .region [
 imv 0 10 4,
 ibn 1 11 .eql (τ 10) (.const (.int .i64 0)),
 imv 2 12 11,
 iog 3 13 12 true (.faddr 0 (τ 3)),
 iog 4 14 12 true (.load false 1 (τ 13)),
 iog 5 15 12 true (.un .not (τ 14)),
 iop 6 16 (.pick (τ 12) (τ 15) (.const (.bool false))),
 imv 7 17 16,
 iog 8 18 17 true (.faddr 1 (τ 3)),
 iog 9 19 17 true (.load false 1 (τ 18)),
 iog 10 20 17 true (.call 161 [τ 19]),
 iog 11 21 17 true (.bin .leq .other (τ 20) (.const (.int .i64 32))),
 iop 12 22 (.pick (τ 17) (τ 21) (.const (.bool false))),
 imv 13 23 22,
 iog 14 24 23 true (.faddr 2 (τ 3)),
 iog 15 25 23 true (.load false 1 (τ 24)),
 iog 16 26 23 true (.call 161 [τ 25]),
 iog 17 27 23 true (.bin .leq .other (τ 26) (.const (.int .i64 32))),
 iop 18 28 (.pick (τ 23) (τ 27) (.const (.bool false))),
 imv 19 2 28]) (
 .ret)
def ir140_k1 : ICode :=
 .seq (
 .region [
 ila 0 6 3 1,
 icl 1 7 160 [τ 6],
 imv 2 5 7,
 iex 3 8 0 5,
 iex 4 9 1 5,
 iop 5 3 (.alloc [.bool false, .slice none 0 0, .slice none 0 0]),
 ist 6 3 3 8,
 imv 7 4 9]) ir140_k2
def ir140_b : ICode :=
 .seq (
 .region [
 iop 0 1 (.box (τ 0)),
 imb 1 2 false]) ir140_k1
def ir140 : IFunc := ⟨29, [.tmp 2], ir140_b⟩
theorem ir140_eq : cFunc Tryz.prog 140 = some ir140 := by kernel_rfl
theorem call140 {args : List Value} {m : Mem} {Φ : Value → Mem → Prop} (h : args.length ≤ 29) : WPCall Tryz.prog 140 args m Φ = WP Tryz.prog ir140_b (initσ args) m (retK [.tmp 2] Φ) := wpCall_def ir140_eq h
def ir141_k1 : ICode :=
 .seq (
 .region [
 ifa 0 3 1 1,
 ild 1 4 3,
 icl 2 5 161 [τ 4],
 ibn 3 6 .gtr (τ 5) (.const (.int .i64 0)),
 imv 4 2 6]) (
 .ret)
def ir141_b : ICode :=
 .seq (
 .region [
 iop 0 1 (.box (τ 0)),
 imb 1 2 false]) ir141_k1
def ir141 : IFunc := ⟨7, [.tmp 2], ir141_b⟩
theorem ir141_eq : cFunc Tryz.prog 141 = some ir141 := by kernel_rfl
theorem call141 {args : List Value} {m : Mem} {Φ : Value → Mem → Prop} (h : args.length ≤ 7) : WPCall Tryz.prog 141 args m Φ = WP Tryz.prog ir141_b (initσ args) m (retK [.tmp 2] Φ) := wpCall_def ir141_eq h
def ir142_k4 : ICode :=
 .seq (
 .region [
 imv 0 13 1,
 ila 1 14 3 6,
 iop 2 15 (.callv (τ 13) [τ 14]),
 iop 3 16 (.un .not (τ 15))]) (
 .cond (τ 16) (
 .seq (
 .region [
 imb 0 4 false]) (
 .ret)) (
 .skip))
def ir142_k3 : ICode :=
 .seq (
 .block 1 (
 .seq (
 .region [
 iia 0 11 3 7 9,
 ila 1 12 3 11,
 iop 2 6 (.alloc [.bool false, .slice none 0 0, .slice none 0 0]),
 ist 3 3 6 12]) ir142_k4)) (
 .region [
 ibn 0 17 .add (τ 9) (.const (.int .i64 1)),
 imv 1 9 17])
def ir142_k2 : ICode :=
 .seq (
 .cond (τ 10) (
 .skip) (
 .exit 0)) ir142_k3
def ir142_l0 : ICode :=
 .seq (
 .region [
 ibn 0 10 .lss (τ 9) (τ 8)]) ir142_k2
def ir142_k5 : ICode :=
 .seq (
 .region [
 imb 0 4 true]) (
 .ret)
def ir142_k1 : ICode :=
 .seq (
 .seq (
 .region [
 imv 0 7 0,
 iln 1 8 7,
 imi 2 9 0]) (
 .block 0 (
 .loop ir142_l0))) ir142_k5
def ir142_b : ICode :=
 .seq (
 .region [
 imb 0 4 false]) ir142_k1
def ir142 : IFunc := ⟨18, [.tmp 4], ir142_b⟩
theorem ir142_eq : cFunc Tryz.prog 142 = some ir142 := by kernel_rfl
theorem call142 {args : List Value} {m : Mem} {Φ : Value → Mem → Prop} (h : args.length ≤ 18) : WPCall Tryz.prog 142 args m Φ = WP Tryz.prog ir142_b (initσ args) m (retK [.tmp 4] Φ) := wpCall_def ir142_eq h
def ir146_k9 : ICode :=
 .seq (
 .block 5 (
 .seq (
 .region [
 imv 0 46 44,
 iia 1 47 3 42 44,
 ila 2 48 3 47,
 iop 3 7 (.alloc [.bool false, .slice none 0 0, .slice none 0 0]),
 imv 4 6 46,
 ist 5 3 7 48]) (
 .region [
 imv 0 49 3,
 imv 1 50 5,
 imv 2 51 3,
 imv 3 52 5,
 iia 4 53 1 51 52,
 ild 5 54 53,
 imv 6 55 54,
 iog 7 56 55 false (.load true 3 (τ 7)),
 iog 8 57 55 false (.call 141 [τ 56]),
 iog 9 58 55 false (.mov (τ 57)),
 iog 10 59 58 true (.mov (τ 3)),
 iog 11 60 58 true (.mov (τ 6)),
 iog 12 61 58 true (.iaddr 1 (τ 59) (τ 60)),
 iog 13 62 58 true (.load false 1 (τ 61)),
 iog 14 63 55 false (.pick (τ 58) (τ 62) (.const (.bool false))),
 iop 15 64 (.pick (τ 55) (.const (.bool true)) (τ 63)),
 iia 16 65 1 49 50,
 ist 17 1 65 64]))) (
 .region [
 ibn 0 66 .add (τ 44) (.const (.int .i64 1)),
 imv 1 44 66])
def ir146_k8 : ICode :=
 .seq (
 .cond (τ 45) (
 .skip) (
 .exit 4)) ir146_k9
def ir146_l0 : ICode :=
 .seq (
 .region [
 ibn 0 45 .lss (τ 44) (τ 43)]) ir146_k8
def ir146_k7 : ICode :=
 .seq (
 .region [
 ifa 0 38 2 1,
 ild 1 39 38,
 imv 2 40 5,
 iia 3 41 1 39 40,
 ild 4 42 41,
 iln 5 43 42,
 imi 6 44 0]) (
 .block 4 (
 .loop ir146_l0))
def ir146_k6 : ICode :=
 .seq (
 .region [
 imv 0 23 3,
 imv 1 24 5,
 imv 2 25 3,
 imv 3 26 5,
 iia 4 27 1 25 26,
 ild 5 28 27,
 imv 6 29 28,
 iog 7 30 29 false (.faddr 3 (τ 1)),
 iog 8 31 29 false (.load false 1 (τ 30)),
 iog 9 32 29 false (.mov (τ 5)),
 iog 10 33 29 false (.iaddr 3 (τ 31) (τ 32)),
 iog 11 34 29 false (.load true 3 (τ 33)),
 iog 12 35 29 false (.call 141 [τ 34]),
 iop 13 36 (.pick (τ 29) (.const (.bool true)) (τ 35)),
 iia 14 37 1 23 24,
 ist 15 1 37 36]) ir146_k7
def ir146_k5 : ICode :=
 .seq (
 .block 3 (
 .seq (
 .region [
 imv 0 22 20,
 imv 1 5 22]) ir146_k6)) (
 .region [
 ibn 0 67 .add (τ 20) (.const (.int .i64 1)),
 imv 1 20 67])
def ir146_k4 : ICode :=
 .seq (
 .cond (τ 21) (
 .skip) (
 .exit 2)) ir146_k5
def ir146_l1 : ICode :=
 .seq (
 .region [
 ibn 0 21 .lss (τ 20) (τ 19)]) ir146_k4
def ir146_k3 : ICode :=
 .seq (
 .block 1 (
 .seq (
 .region [
 imv 0 18 3,
 iln 1 19 18,
 imi 2 20 0]) (
 .block 2 (
 .loop ir146_l1)))) (
 .region [
 imv 0 16 4,
 ibn 1 17 .add (τ 16) (.const (.int .i64 1)),
 imv 2 4 17])
def ir146_l2 : ICode :=
 .seq (
 .seq (
 .region [
 imv 0 12 4,
 imv 1 13 3,
 iln 2 14 13,
 ibn 3 15 .leq (τ 12) (τ 14)]) (
 .cond (τ 15) (
 .skip) (
 .exit 0))) ir146_k3
def ir146_k10 : ICode :=
 .seq (
 .region [
 imv 0 68 3,
 icl 1 69 170 [τ 68, .func 171],
 imv 2 2 69]) (
 .ret)
def ir146_k2 : ICode :=
 .seq (
 .seq (
 .region [
 imi 0 4 0]) (
 .block 0 (
 .loop ir146_l2))) ir146_k10
def ir146_k1 : ICode :=
 .seq (
 .region [
 ifa 0 8 3 1,
 ild 1 9 8,
 iln 2 10 9,
 iop 3 11 (.mkslice 1 1 [.bool false] (τ 10) (τ 10)),
 imv 4 3 11]) ir146_k2
def ir146_b : ICode :=
 .seq (
 .region [
 iop 0 1 (.box (τ 0)),
 imb 1 2 false]) ir146_k1
def ir146 : IFunc := ⟨70, [.tmp 2], ir146_b⟩
theorem ir146_eq : cFunc Tryz.prog 146 = some ir146 := by kernel_rfl
theorem call146 {args : List Value} {m : Mem} {Φ : Value → Mem → Prop} (h : args.length ≤ 70) : WPCall Tryz.prog 146 args m Φ = WP Tryz.prog ir146_b (initσ args) m (retK [.tmp 2] Φ) := wpCall_def ir146_eq h
def ir147_k2 : ICode :=
 .seq (
 .region [
 iop 0 37 (.sliceA 1 5 (τ 7)),
 icl 1 38 172 [τ 37, .func 173],
 imv 2 8 38]) (
 .ret)
def ir147_k1 : ICode :=
 .seq (
 .seq (
 .region [
 imv 0 9 0,
 icl 1 10 110 [τ 9, .const (.int .i64 1), .const (.int .i64 6)],
 iop 2 11 (.un .not (τ 10)),
 imv 3 12 11,
 iog 4 13 12 false (.mov (τ 1)),
 iog 5 14 12 false (.call 110 [τ 13, .const (.int .i64 0), .const (.int .i64 4)]),
 iog 6 15 12 false (.un .not (τ 14)),
 iop 7 16 (.pick (τ 12) (.const (.bool true)) (τ 15)),
 imv 8 17 16,
 iog 9 18 17 false (.mov (τ 0)),
 iog 10 19 17 false (.mov (τ 1)),
 iog 11 20 17 false (.bin .add .other (τ 18) (τ 19)),
 iog 12 21 17 false (.bin .gtr .other (τ 20) (.const (.int .i64 8))),
 iop 13 22 (.pick (τ 17) (.const (.bool true)) (τ 21)),
 imv 14 23 22,
 iog 15 24 23 false (.mov (τ 2)),
 iog 16 25 23 false (.mov (τ 0)),
 iog 17 26 23 false (.mov (τ 0)),
 iog 18 27 23 false (.mov (τ 1)),
 iog 19 28 23 false (.bin .add .other (τ 26) (τ 27)),
 iog 20 29 23 false (.call 110 [τ 24, τ 25, τ 28]),
 iog 21 30 23 false (.un .not (τ 29)),
 iop 22 31 (.pick (τ 23) (.const (.bool true)) (τ 30)),
 imv 23 32 31,
 iog 24 33 32 false (.iaddrA 1 5 (τ 7) (.const (.int .i64 0))),
 iog 25 34 32 false (.load false 1 (τ 33)),
 iog 26 35 32 false (.bin .neq .other (τ 34) (.const (.int .i64 0))),
 iop 27 36 (.pick (τ 32) (.const (.bool true)) (τ 35))]) (
 .cond (τ 36) (
 .seq (
 .region [
 imb 0 8 false]) (
 .ret)) (
 .skip))) ir147_k2
def ir147_b : ICode :=
 .seq (
 .region [
 iop 0 7 (.box (τ 3)),
 imb 1 8 false]) ir147_k1
def ir147 : IFunc := ⟨39, [.tmp 8], ir147_b⟩
theorem ir147_eq : cFunc Tryz.prog 147 = some ir147 := by kernel_rfl
theorem call147 {args : List Value} {m : Mem} {Φ : Value → Mem → Prop} (h : args.length ≤ 39) : WPCall Tryz.prog 147 args m Φ = WP Tryz.prog ir147_b (initσ args) m (retK [.tmp 8] Φ) := wpCall_def ir147_eq h
def ir148_k1 : ICode :=
 .seq (
 .region [
 imv 0 9 1,
 iln 1 10 9,
 imv 2 11 0,
 iop 3 12 (.minmax true (τ 11) [.const (.int .i64 1)]),
 ibn 4 13 .eql (τ 10) (τ 12),
 imv 5 14 13,
 iog 6 15 14 true (.mov (τ 1)),
 iog 7 16 14 true (.call 142 [τ 15, .func 174]),
 iop 8 17 (.pick (τ 14) (τ 16) (.const (.bool false))),
 imv 9 18 17,
 iog 10 19 18 true (.load true 3 (τ 6)),
 iog 11 20 18 true (.call 140 [τ 19]),
 iop 12 21 (.pick (τ 18) (τ 20) (.const (.bool false))),
 imv 13 22 21,
 iog 14 23 22 true (.load true 3 (τ 6)),
 iog 15 24 22 true (.call 175 [τ 23]),
 iop 16 25 (.pick (τ 22) (τ 24) (.const (.bool false))),
 imv 17 26 25,
 iog 18 27 26 true (.load true 3 (τ 7)),
 iog 19 28 26 true (.call 140 [τ 27]),
 iop 20 29 (.pick (τ 26) (τ 28) (.const (.bool false))),
 imv 21 8 29]) (
 .ret)
def ir148_b : ICode :=
 .seq (
 .region [
 iop 0 6 (.box (τ 2)),
 iop 1 7 (.box (τ 3)),
 imb 2 8 false]) ir148_k1
def ir148 : IFunc := ⟨30, [.tmp 8], ir148_b⟩
theorem ir148_eq : cFunc Tryz.prog 148 = some ir148 := by kernel_rfl
theorem call148 {args : List Value} {m : Mem} {Φ : Value → Mem → Prop} (h : args.length ≤ 30) : WPCall Tryz.prog 148 args m Φ = WP Tryz.prog ir148_b (initσ args) m (retK [.tmp 8] Φ) := wpCall_def ir148_eq h
def ir170_k4 : ICode :=
 .seq (
 .region [
 imv 0 13 1,
 imv 1 14 6,
 iop 2 15 (.callv (τ 13) [τ 14]),
 iop 3 16 (.un .not (τ 15))]) (
 .cond (τ 16) (
 .seq (
 .region [
 imb 0 4 false]) (
 .ret)) (
 .skip))
def ir170_k3 : ICode :=
 .seq (
 .block 1 (
 .seq (
 .region [
 iia 0 11 1 7 9,
 ild 1 12 11,
 imv 2 6 12]) ir170_k4)) (
 .region [
 ibn 0 17 .add (τ 9) (.const (.int .i64 1)),
 imv 1 9 17])
def ir170_k2 : ICode :=
 .seq (
 .cond (τ 10) (
 .skip) (
 .exit 0)) ir170_k3
def ir170_l0 : ICode :=
 .seq (
 .region [
 ibn 0 10 .lss (τ 9) (τ 8)]) ir170_k2
def ir170_k5 : ICode :=
 .seq (
 .region [
 imb 0 4 true]) (
 .ret)
def ir170_k1 : ICode :=
 .seq (
 .seq (
 .region [
 imv 0 7 0,
 iln 1 8 7,
 imi 2 9 0]) (
 .block 0 (
 .loop ir170_l0))) ir170_k5
def ir170_b : ICode :=
 .seq (
 .region [
 imb 0 4 false]) ir170_k1
def ir170 : IFunc := ⟨18, [.tmp 4], ir170_b⟩
theorem ir170_eq : cFunc Tryz.prog 170 = some ir170 := by kernel_rfl
theorem call170 {args : List Value} {m : Mem} {Φ : Value → Mem → Prop} (h : args.length ≤ 18) : WPCall Tryz.prog 170 args m Φ = WP Tryz.prog ir170_b (initσ args) m (retK [.tmp 4] Φ) := wpCall_def ir170_eq h
def ir171_k1 : ICode :=
 .seq (
 .region [
 imv 0 3 0,
 imv 1 2 3]) (
 .ret)
def ir171_b : ICode :=
 .seq (
 .region [
 imb 0 2 false]) ir171_k1
def ir171 : IFunc := ⟨4, [.tmp 2], ir171_b⟩
theorem ir171_eq : cFunc Tryz.prog 171 = some ir171 := by kernel_rfl
theorem call171 {args : List Value} {m : Mem} {Φ : Value → Mem → Prop} (h : args.length ≤ 4) : WPCall Tryz.prog 171 args m Φ = WP Tryz.prog ir171_b (initσ args) m (retK [.tmp 2] Φ) := wpCall_def ir171_eq h
def ir172_k4 : ICode :=
 .seq (
 .region [
 imv 0 13 1,
 imv 1 14 6,
 iop 2 15 (.callv (τ 13) [τ 14]),
 iop 3 16 (.un .not (τ 15))]) (
 .cond (τ 16) (
 .seq (
 .region [
 imb 0 4 false]) (
 .ret)) (
 .skip))
def ir172_k3 : ICode :=
 .seq (
 .block 1 (
 .seq (
 .region [
 iia 0 11 1 7 9,
 ild 1 12 11,
 imv 2 6 12]) ir172_k4)) (
 .region [
 ibn 0 17 .add (τ 9) (.const (.int .i64 1)),
 imv 1 9 17])
def ir172_k2 : ICode :=
 .seq (
 .cond (τ 10) (
 .skip) (
 .exit 0)) ir172_k3
def ir172_l0 : ICode :=
 .seq (
 .region [
 ibn 0 10 .lss (τ 9) (τ 8)]) ir172_k2
def ir172_k5 : ICode :=
 .seq (
 .region [
 imb 0 4 true]) (
 .ret)
def ir172_k1 : ICode :=
 .seq (
 .seq (
 .region [
 imv 0 7 0,
 iln 1 8 7,
 imi 2 9 0]) (
 .block 0 (
 .loop ir172_l0))) ir172_k5
def ir172_b : ICode :=
 .seq (
 .region [
 imb 0 4 false]) ir172_k1
def ir172 : IFunc := ⟨18, [.tmp 4], ir172_b⟩
theorem ir172_eq : cFunc Tryz.prog 172 = some ir172 := by kernel_rfl
theorem call172 {args : List Value} {m : Mem} {Φ : Value → Mem → Prop} (h : args.length ≤ 18) : WPCall Tryz.prog 172 args m Φ = WP Tryz.prog ir172_b (initσ args) m (retK [.tmp 4] Φ) := wpCall_def ir172_eq h
def ir173_k1 : ICode :=
 .seq (
 .region [
 imv 0 3 0,
 icl 1 4 110 [τ 3, .const (.int .i64 0), .const (.int .i64 8)],
 imv 2 2 4]) (
 .ret)
def ir173_b : ICode :=
 .seq (
 .region [
 imb 0 2 false]) ir173_k1
def ir173 : IFunc := ⟨5, [.tmp 2], ir173_b⟩
theorem ir173_eq : cFunc Tryz.prog 173 = some ir173 := by kernel_rfl
theorem call173 {args : List Value} {m : Mem} {Φ : Value → Mem → Prop} (h : args.length ≤ 5) : WPCall Tryz.prog 173 args m Φ = WP Tryz.prog ir173_b (initσ args) m (retK [.tmp 2] Φ) := wpCall_def ir173_eq h
def ir174_k1 : ICode :=
 .seq (
 .region [
 ila 0 3 3 1,
 icl 1 4 140 [τ 3],
 imv 2 5 4,
 iog 3 6 5 true (.load true 3 (τ 1)),
 iog 4 7 5 true (.call 141 [τ 6]),
 iop 5 8 (.pick (τ 5) (τ 7) (.const (.bool false))),
 imv 6 2 8]) (
 .ret)
def ir174_b : ICode :=
 .seq (
 .region [
 iop 0 1 (.box (τ 0)),
 imb 1 2 false]) ir174_k1
def ir174 : IFunc := ⟨9, [.tmp 2], ir174_b⟩
theorem ir174_eq : cFunc Tryz.prog 174 = some ir174 := by kernel_rfl
theorem call174 {args : List Value} {m : Mem} {Φ : Value → Mem → Prop} (h : args.length ≤ 9) : WPCall Tryz.prog 174 args m Φ = WP Tryz.prog ir174_b (initσ args) m (retK [.tmp 2] Φ) := wpCall_def ir174_eq h
def ir175_k3 : ICode :=
 .seq (
 .region [
 imv 0 17 6,
 ibn 1 18 .eql (τ 17) (.const (.int .i64 0)),
 imv 2 19 18,
 iog 3 20 19 true (.mov (τ 5)),
 iog 4 21 19 true (.bin .leq .other (τ 20) (.const (.int .i64 0))),
 iop 5 22 (.pick (τ 19) (τ 21) (.const (.bool false))),
 imv 6 2 22]) (
 .ret)
def ir175_k2 : ICode :=
 .seq (
 .region [
 ila 0 12 3 1,
 ila 1 13 3 3,
 icl 2 14 145 [τ 12, τ 13],
 imv 3 11 14,
 iex 4 15 0 11,
 iex 5 16 1 11,
 imv 6 5 15,
 imv 7 6 16]) ir175_k3
def ir175_k1 : ICode :=
 .seq (
 .region [
 icl 0 8 144 [.const (.int .i64 1), .const (.int .i64 1)],
 imv 1 7 8,
 iex 2 9 0 7,
 iex 3 10 1 7,
 iop 4 3 (.alloc [.bool false, .slice none 0 0, .slice none 0 0]),
 ist 5 3 3 9,
 imv 6 4 10]) ir175_k2
def ir175_b : ICode :=
 .seq (
 .region [
 iop 0 1 (.box (τ 0)),
 imb 1 2 false]) ir175_k1
def ir175 : IFunc := ⟨23, [.tmp 2], ir175_b⟩
theorem ir175_eq : cFunc Tryz.prog 175 = some ir175 := by kernel_rfl
theorem call175 {args : List Value} {m : Mem} {Φ : Value → Mem → Prop} (h : args.length ≤ 23) : WPCall Tryz.prog 175 args m Φ = WP Tryz.prog ir175_b (initσ args) m (retK [.tmp 2] Φ) := wpCall_def ir175_eq h
end Go.Proofs.YticjcminhkgabaaGreatDoor
