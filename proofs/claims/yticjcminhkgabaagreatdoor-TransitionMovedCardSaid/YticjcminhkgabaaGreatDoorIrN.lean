/-
 The intermediate forms of this seat's functions, written by a program of ours (wip/Ir.lean); each is checked against the loaded program.
-/
import Derived.Test.YticjcminhkgabaaGreatDoorRows
import Derived.Test.YticjcminhkgabaaGreatDoorFwX
namespace Go.Proofs.YticjcminhkgabaaGreatDoor
open Go Go.DI

def ir107_k1 : ICode :=
 .seq (
 .region [
 imv 0 3 0,
 iop 1 4 (.convI .u32 (τ 3)),
 imv 2 5 0,
 ibn 3 6 .shr (τ 5) (.const (.int .u64 32)),
 iop 4 7 (.convI .u32 (τ 6)),
 iop 5 8 (.bslice 1 2 [.int .u32 0, .int .u32 0] [(0, 1, τ 4), (1, 1, τ 7)]),
 icl 6 9 124 [τ 8],
 imv 7 2 9]) (
 .ret)
def ir107_b : ICode :=
 .seq (
 .region [
 iop 0 2 (.mov (.const (.slice none 0 0)))]) ir107_k1
def ir107 : IFunc := ⟨10, [.tmp 2], ir107_b⟩
theorem ir107_eq : cFunc Tryz.prog 107 = some ir107 := by kernel_rfl
theorem call107 {args : List Value} {m : Mem} {Φ : Value → Mem → Prop} (h : args.length ≤ 10) : WPCall Tryz.prog 107 args m Φ = WP Tryz.prog ir107_b (initσ args) m (retK [.tmp 2] Φ) := wpCall_def ir107_eq h
def ir124_l0 : ICode :=
 .seq (
 .seq (
 .region [
 imv 0 6 3,
 ibn 1 7 .gtr (τ 6) (.const (.int .i64 0)),
 imv 2 8 7,
 iog 3 9 8 true (.mov (τ 0)),
 iog 4 10 8 true (.mov (τ 3)),
 iog 5 11 8 true (.bin .sub .other (τ 10) (.const (.int .i64 1))),
 iog 6 12 8 true (.iaddr 1 (τ 9) (τ 11)),
 iog 7 13 8 true (.load false 1 (τ 12)),
 iog 8 14 8 true (.bin .eql .other (τ 13) (.const (.int .u32 0))),
 iop 9 15 (.pick (τ 8) (τ 14) (.const (.bool false)))]) (
 .cond (τ 15) (
 .skip) (
 .exit 0))) (
 .block 1 (
 .region [
 imv 0 16 3,
 ibn 1 17 .sub (τ 16) (.const (.int .i64 1)),
 imv 2 3 17]))
def ir124_k3 : ICode :=
 .seq (
 .region [
 imv 0 18 0,
 imv 1 19 3,
 iop 2 20 (.sliceS 1 (τ 18) none (some (τ 19))),
 iop 3 21 (.app 1 4 (.const (.slice none 0 0)) (τ 20)),
 imv 4 2 21]) (
 .ret)
def ir124_k2 : ICode :=
 .seq (
 .block 0 (
 .loop ir124_l0)) ir124_k3
def ir124_k1 : ICode :=
 .seq (
 .region [
 imv 0 4 0,
 iln 1 5 4,
 imv 2 3 5]) ir124_k2
def ir124_b : ICode :=
 .seq (
 .region [
 iop 0 2 (.mov (.const (.slice none 0 0)))]) ir124_k1
def ir124 : IFunc := ⟨22, [.tmp 2], ir124_b⟩
theorem ir124_eq : cFunc Tryz.prog 124 = some ir124 := by kernel_rfl
theorem call124 {args : List Value} {m : Mem} {Φ : Value → Mem → Prop} (h : args.length ≤ 22) : WPCall Tryz.prog 124 args m Φ = WP Tryz.prog ir124_b (initσ args) m (retK [.tmp 2] Φ) := wpCall_def ir124_eq h
def ir138_l0 : ICode :=
 .seq (
 .seq (
 .region [
 imv 0 20 7,
 iln 1 21 20,
 ibn 2 22 .gtr (τ 21) (.const (.int .i64 0))]) (
 .cond (τ 22) (
 .skip) (
 .exit 0))) (
 .block 1 (
 .seq (
 .region [
 imv 0 24 6,
 imv 1 25 7,
 icl 2 26 159 [τ 24, τ 25],
 imv 3 23 26,
 iex 4 27 0 23,
 iex 5 28 1 23,
 imv 6 8 27,
 imv 7 9 28]) (
 .region [
 imv 0 29 7,
 imv 1 30 9,
 imv 2 6 29,
 imv 3 7 30])))
def ir138_k4 : ICode :=
 .seq (
 .region [
 imv 0 31 6,
 imv 1 4 31,
 imi 2 5 0]) (
 .ret)
def ir138_k3 : ICode :=
 .seq (
 .block 0 (
 .loop ir138_l0)) ir138_k4
def ir138_k2 : ICode :=
 .seq (
 .region [
 imv 0 16 0,
 icl 1 17 124 [τ 16],
 imv 2 18 1,
 icl 3 19 124 [τ 18],
 imv 4 6 17,
 imv 5 7 19]) ir138_k3
def ir138_k1 : ICode :=
 .seq (
 .seq (
 .region [
 imv 0 10 0,
 icl 1 11 158 [τ 10],
 imv 2 12 11,
 iog 3 13 12 false (.mov (τ 1)),
 iog 4 14 12 false (.call 158 [τ 13]),
 iop 5 15 (.pick (τ 12) (.const (.bool true)) (τ 14))]) (
 .cond (τ 15) (
 .seq (
 .region [
 iop 0 4 (.mov (.const (.slice none 0 0))),
 imi 1 5 2]) (
 .ret)) (
 .skip))) ir138_k2
def ir138_b : ICode :=
 .seq (
 .region [
 iop 0 4 (.mov (.const (.slice none 0 0))),
 imi 1 5 0]) ir138_k1
def ir138 : IFunc := ⟨32, [.tmp 4, .tmp 5], ir138_b⟩
theorem ir138_eq : cFunc Tryz.prog 138 = some ir138 := by kernel_rfl
theorem call138 {args : List Value} {m : Mem} {Φ : Value → Mem → Prop} (h : args.length ≤ 32) : WPCall Tryz.prog 138 args m Φ = WP Tryz.prog ir138_b (initσ args) m (retK [.tmp 4, .tmp 5] Φ) := wpCall_def ir138_eq h
def ir139_k4 : ICode :=
 .seq (
 .region [
 imv 0 27 7,
 imv 1 28 8,
 imv 2 4 27,
 imv 3 5 28,
 imi 4 6 0]) (
 .ret)
def ir139_k3 : ICode :=
 .seq (
 .region [
 imv 0 20 0,
 icl 1 21 124 [τ 20],
 imv 2 22 1,
 icl 3 23 124 [τ 22],
 icl 4 24 159 [τ 21, τ 23],
 imv 5 19 24,
 iex 6 25 0 19,
 iex 7 26 1 19,
 imv 8 7 25,
 imv 9 8 26]) ir139_k4
def ir139_k2 : ICode :=
 .seq (
 .seq (
 .region [
 imv 0 15 1,
 icl 1 16 124 [τ 15],
 iln 2 17 16,
 ibn 3 18 .eql (τ 17) (.const (.int .i64 0))]) (
 .cond (τ 18) (
 .seq (
 .region [
 iop 0 4 (.mov (.const (.slice none 0 0))),
 iop 1 5 (.mov (.const (.slice none 0 0))),
 imi 2 6 3]) (
 .ret)) (
 .skip))) ir139_k3
def ir139_k1 : ICode :=
 .seq (
 .seq (
 .region [
 imv 0 9 0,
 icl 1 10 158 [τ 9],
 imv 2 11 10,
 iog 3 12 11 false (.mov (τ 1)),
 iog 4 13 11 false (.call 158 [τ 12]),
 iop 5 14 (.pick (τ 11) (.const (.bool true)) (τ 13))]) (
 .cond (τ 14) (
 .seq (
 .region [
 iop 0 4 (.mov (.const (.slice none 0 0))),
 iop 1 5 (.mov (.const (.slice none 0 0))),
 imi 2 6 2]) (
 .ret)) (
 .skip))) ir139_k2
def ir139_b : ICode :=
 .seq (
 .region [
 iop 0 4 (.mov (.const (.slice none 0 0))),
 iop 1 5 (.mov (.const (.slice none 0 0))),
 imi 2 6 0]) ir139_k1
def ir139 : IFunc := ⟨29, [.tmp 4, .tmp 5, .tmp 6], ir139_b⟩
theorem ir139_eq : cFunc Tryz.prog 139 = some ir139 := by kernel_rfl
theorem call139 {args : List Value} {m : Mem} {Φ : Value → Mem → Prop} (h : args.length ≤ 29) : WPCall Tryz.prog 139 args m Φ = WP Tryz.prog ir139_b (initσ args) m (retK [.tmp 4, .tmp 5, .tmp 6] Φ) := wpCall_def ir139_eq h
def ir156_k3 : ICode :=
 .seq (
 .region [
 imi 0 4 1]) (
 .ret)
def ir156_k6 : ICode :=
 .seq (
 .region [
 imv 0 36 0,
 imv 1 37 5,
 iia 2 38 1 36 37,
 ild 3 39 38,
 imv 4 40 1,
 imv 5 41 5,
 iia 6 42 1 40 41,
 ild 7 43 42,
 ibn 8 44 .gtr (τ 39) (τ 43)]) (
 .cond (τ 44) (
 .seq (
 .region [
 imi 0 4 1]) (
 .ret)) (
 .skip))
def ir156_k5 : ICode :=
 .seq (
 .block 1 (
 .seq (
 .seq (
 .region [
 imv 0 27 0,
 imv 1 28 5,
 iia 2 29 1 27 28,
 ild 3 30 29,
 imv 4 31 1,
 imv 5 32 5,
 iia 6 33 1 31 32,
 ild 7 34 33,
 ibn 8 35 .lss (τ 30) (τ 34)]) (
 .cond (τ 35) (
 .seq (
 .region [
 imi 0 4 (-1)]) (
 .ret)) (
 .skip))) ir156_k6)) (
 .region [
 imv 0 25 5,
 ibn 1 26 .sub (τ 25) (.const (.int .i64 1)),
 imv 2 5 26])
def ir156_l0 : ICode :=
 .seq (
 .seq (
 .region [
 imv 0 23 5,
 ibn 1 24 .geq (τ 23) (.const (.int .i64 0))]) (
 .cond (τ 24) (
 .skip) (
 .exit 0))) ir156_k5
def ir156_k7 : ICode :=
 .seq (
 .region [
 imi 0 4 0]) (
 .ret)
def ir156_k4 : ICode :=
 .seq (
 .seq (
 .region [
 imv 0 20 0,
 iln 1 21 20,
 ibn 2 22 .sub (τ 21) (.const (.int .i64 1)),
 imv 3 5 22]) (
 .block 0 (
 .loop ir156_l0))) ir156_k7
def ir156_k2 : ICode :=
 .seq (
 .seq (
 .region [
 imv 0 10 0,
 iln 1 11 10,
 imv 2 12 1,
 iln 3 13 12,
 ibn 4 14 .neq (τ 11) (τ 13)]) (
 .cond (τ 14) (
 .seq (
 .seq (
 .region [
 imv 0 15 0,
 iln 1 16 15,
 imv 2 17 1,
 iln 3 18 17,
 ibn 4 19 .lss (τ 16) (τ 18)]) (
 .cond (τ 19) (
 .seq (
 .region [
 imi 0 4 (-1)]) (
 .ret)) (
 .skip))) ir156_k3) (
 .skip))) ir156_k4
def ir156_k1 : ICode :=
 .seq (
 .region [
 imv 0 6 0,
 icl 1 7 124 [τ 6],
 imv 2 8 1,
 icl 3 9 124 [τ 8],
 imv 4 0 7,
 imv 5 1 9]) ir156_k2
def ir156_b : ICode :=
 .seq (
 .region [
 imi 0 4 0]) ir156_k1
def ir156 : IFunc := ⟨45, [.tmp 4], ir156_b⟩
theorem ir156_eq : cFunc Tryz.prog 156 = some ir156 := by kernel_rfl
theorem call156 {args : List Value} {m : Mem} {Φ : Value → Mem → Prop} (h : args.length ≤ 45) : WPCall Tryz.prog 156 args m Φ = WP Tryz.prog ir156_b (initσ args) m (retK [.tmp 4] Φ) := wpCall_def ir156_eq h
def ir158_k1 : ICode :=
 .seq (
 .region [
 imv 0 3 0,
 icl 1 4 124 [τ 3],
 iln 2 5 4,
 ibn 3 6 .gtr (τ 5) (.const (.int .i64 512)),
 imv 4 2 6]) (
 .ret)
def ir158_b : ICode :=
 .seq (
 .region [
 imb 0 2 false]) ir158_k1
def ir158 : IFunc := ⟨7, [.tmp 2], ir158_b⟩
theorem ir158_eq : cFunc Tryz.prog 158 = some ir158 := by kernel_rfl
theorem call158 {args : List Value} {m : Mem} {Φ : Value → Mem → Prop} (h : args.length ≤ 7) : WPCall Tryz.prog 158 args m Φ = WP Tryz.prog ir158_b (initσ args) m (retK [.tmp 2] Φ) := wpCall_def ir158_eq h
def ir159_k6 : ICode :=
 .seq (
 .region [
 imv 0 47 6,
 imv 1 48 8,
 imv 2 49 9,
 imv 3 50 1,
 iop 4 51 (.iaddr 1 (τ 50) (.const (.int .i64 0))),
 ild 5 52 51,
 iop 6 53 (.convI .u64 (τ 52)),
 ibn 7 54 .quo (τ 49) (τ 53),
 iop 8 55 (.convI .u32 (τ 54)),
 iia 9 56 1 47 48,
 ist 10 1 56 55]) (
 .region [
 imv 0 57 9,
 imv 1 58 1,
 iop 2 59 (.iaddr 1 (τ 58) (.const (.int .i64 0))),
 ild 3 60 59,
 iop 4 61 (.convI .u64 (τ 60)),
 ibn 5 62 .rem (τ 57) (τ 61),
 imv 6 7 62])
def ir159_k5 : ICode :=
 .seq (
 .block 1 (
 .seq (
 .region [
 imv 0 39 7,
 ibn 1 40 .shl (τ 39) (.const (.int .u64 32)),
 imv 2 41 0,
 imv 3 42 8,
 iia 4 43 1 41 42,
 ild 5 44 43,
 iop 6 45 (.convI .u64 (τ 44)),
 ibn 7 46 .or (τ 40) (τ 45),
 imv 8 9 46]) ir159_k6)) (
 .region [
 imv 0 37 8,
 ibn 1 38 .sub (τ 37) (.const (.int .i64 1)),
 imv 2 8 38])
def ir159_l0 : ICode :=
 .seq (
 .seq (
 .region [
 imv 0 35 8,
 ibn 1 36 .geq (τ 35) (.const (.int .i64 0))]) (
 .cond (τ 36) (
 .skip) (
 .exit 0))) ir159_k5
def ir159_k7 : ICode :=
 .seq (
 .region [
 imv 0 63 6,
 icl 1 64 124 [τ 63],
 imv 2 65 7,
 icl 3 66 107 [τ 65],
 imv 4 4 64,
 imv 5 5 66]) (
 .ret)
def ir159_k4 : ICode :=
 .seq (
 .seq (
 .region [
 imv 0 32 0,
 iln 1 33 32,
 ibn 2 34 .sub (τ 33) (.const (.int .i64 1)),
 imv 3 8 34]) (
 .block 0 (
 .loop ir159_l0))) ir159_k7
def ir159_k3 : ICode :=
 .seq (
 .region [
 iop 0 7 (.mov (.const (.int .u64 0)))]) ir159_k4
def ir159_l1 : ICode :=
 .seq (
 .seq (
 .region [
 imv 0 132 12,
 imv 1 133 17,
 imv 4 136 11,
 imv 5 137 15,
 imv 6 138 15,
 imv 7 139 12,
 iln 8 140 139,
 ibn 9 141 .add (τ 138) (τ 140),
 ibn 10 142 .add (τ 141) (.const (.int .i64 1)),
 iop 11 143 (.sliceS 1 (τ 136) (some (τ 137)) (some (τ 142))),
 icl 2 134 107 [τ 133],
 icl 3 135 189 [τ 132, τ 134],
 iop 12 144 (.app 1 4 (.const (.slice none 0 0)) (τ 143)),
 icl 13 145 156 [τ 135, τ 144],
 ibn 14 146 .gtr (τ 145) (.const (.int .i64 0))]) (
 .cond (τ 146) (
 .skip) (
 .exit 4))) (
 .block 5 (
 .region [
 imv 0 147 17,
 ibn 1 148 .sub (τ 147) (.const (.int .u64 1)),
 imv 2 17 148]))
def ir159_k21 : ICode :=
 .seq (
 .region [
 imv 0 174 19,
 imv 1 175 18,
 iln 2 176 175,
 ibn 3 177 .lss (τ 174) (τ 176)]) (
 .cond (τ 177) (
 .region [
 imv 0 178 11,
 imv 1 179 15,
 imv 2 180 19,
 ibn 3 181 .add (τ 179) (τ 180),
 imv 4 182 18,
 imv 5 183 19,
 iia 6 184 1 182 183,
 ild 7 185 184,
 iia 8 186 1 178 181,
 ist 9 1 186 185]) (
 .skip))
def ir159_k20 : ICode :=
 .seq (
 .block 7 (
 .seq (
 .region [
 imv 0 169 11,
 imv 1 170 15,
 imv 2 171 19,
 ibn 3 172 .add (τ 170) (τ 171),
 iia 4 173 1 169 172,
 ino 5 (.store 1 (τ 173) (.const (.int .u32 0)))]) ir159_k21)) (
 .region [
 imv 0 167 19,
 ibn 1 168 .add (τ 167) (.const (.int .i64 1)),
 imv 2 19 168])
def ir159_l2 : ICode :=
 .seq (
 .seq (
 .region [
 imv 0 163 19,
 imv 1 164 12,
 iln 2 165 164,
 ibn 3 166 .leq (τ 163) (τ 165)]) (
 .cond (τ 166) (
 .skip) (
 .exit 6))) ir159_k20
def ir159_k19 : ICode :=
 .seq (
 .seq (
 .region [
 imi 0 19 0]) (
 .block 6 (
 .loop ir159_l2))) (
 .region [
 imv 0 187 14,
 imv 1 188 15,
 imv 2 189 17,
 iop 3 190 (.convI .u32 (τ 189)),
 iia 4 191 1 187 188,
 ist 5 1 191 190])
def ir159_k18 : ICode :=
 .seq (
 .region [
 imv 0 149 11,
 imv 1 150 15,
 imv 2 151 15,
 imv 3 152 12,
 iln 4 153 152,
 ibn 5 154 .add (τ 151) (τ 153),
 ibn 6 155 .add (τ 154) (.const (.int .i64 1)),
 iop 7 156 (.sliceS 1 (τ 149) (some (τ 150)) (some (τ 155))),
 iop 8 157 (.app 1 4 (.const (.slice none 0 0)) (τ 156)),
 imv 9 158 12,
 imv 10 159 17,
 icl 11 160 107 [τ 159],
 icl 12 161 189 [τ 158, τ 160],
 icl 13 162 190 [τ 157, τ 161],
 imv 14 18 162]) ir159_k19
def ir159_k17 : ICode :=
 .seq (
 .block 4 (
 .loop ir159_l1)) ir159_k18
def ir159_k16 : ICode :=
 .seq (
 .seq (
 .region [
 imv 0 130 17,
 ibn 1 131 .gtr (τ 130) (.const (.int .u64 4294967295))]) (
 .cond (τ 131) (
 .region [
 iop 0 17 (.mov (.const (.int .u64 4294967295)))]) (
 .skip))) ir159_k17
def ir159_k15 : ICode :=
 .seq (
 .region [
 imv 0 127 16,
 imv 1 128 13,
 ibn 2 129 .quo (τ 127) (τ 128),
 imv 3 17 129]) ir159_k16
def ir159_k14 : ICode :=
 .seq (
 .block 3 (
 .seq (
 .region [
 imv 0 108 11,
 imv 1 109 15,
 imv 2 110 12,
 iln 3 111 110,
 ibn 4 112 .add (τ 109) (τ 111),
 iia 5 113 1 108 112,
 ild 6 114 113,
 iop 7 115 (.convI .u64 (τ 114)),
 ibn 8 116 .shl (τ 115) (.const (.int .u64 32)),
 imv 9 117 11,
 imv 10 118 15,
 imv 11 119 12,
 iln 12 120 119,
 ibn 13 121 .add (τ 118) (τ 120),
 ibn 14 122 .sub (τ 121) (.const (.int .i64 1)),
 iia 15 123 1 117 122,
 ild 16 124 123,
 iop 17 125 (.convI .u64 (τ 124)),
 ibn 18 126 .or (τ 116) (τ 125),
 imv 19 16 126]) ir159_k15)) (
 .region [
 imv 0 106 15,
 ibn 1 107 .sub (τ 106) (.const (.int .i64 1)),
 imv 2 15 107])
def ir159_l3 : ICode :=
 .seq (
 .seq (
 .region [
 imv 0 104 15,
 ibn 1 105 .geq (τ 104) (.const (.int .i64 0))]) (
 .cond (τ 105) (
 .skip) (
 .exit 2))) ir159_k14
def ir159_k22 : ICode :=
 .seq (
 .region [
 imv 0 192 14,
 icl 1 193 124 [τ 192],
 imv 2 194 11,
 icl 3 195 124 [τ 194],
 imv 4 196 10,
 icl 5 197 191 [τ 195, τ 196],
 imv 6 4 193,
 imv 7 5 197]) (
 .ret)
def ir159_k13 : ICode :=
 .seq (
 .seq (
 .region [
 imv 0 101 14,
 iln 1 102 101,
 ibn 2 103 .sub (τ 102) (.const (.int .i64 1)),
 imv 3 15 103]) (
 .block 2 (
 .loop ir159_l3))) ir159_k22
def ir159_k12 : ICode :=
 .seq (
 .region [
 imv 0 95 11,
 iln 1 96 95,
 imv 2 97 12,
 iln 3 98 97,
 ibn 4 99 .sub (τ 96) (τ 98),
 iop 5 100 (.mkslice 1 4 [.int .u32 0] (τ 99) (τ 99)),
 imv 6 14 100]) ir159_k13
def ir159_k11 : ICode :=
 .seq (
 .region [
 imv 0 88 12,
 imv 1 89 12,
 iln 2 90 89,
 ibn 3 91 .sub (τ 90) (.const (.int .i64 1)),
 iia 4 92 1 88 91,
 ild 5 93 92,
 iop 6 94 (.convI .u64 (τ 93)),
 imv 7 13 94]) ir159_k12
def ir159_k10 : ICode :=
 .seq (
 .region [
 imv 0 81 11,
 imv 1 82 0,
 imv 2 83 10,
 icl 3 84 188 [τ 82, τ 83],
 iln 4 85 84,
 ibn 5 86 .add (τ 85) (.const (.int .i64 1)),
 iop 6 87 (.sliceS 1 (τ 81) none (some (τ 86))),
 imv 7 11 87]) ir159_k11
def ir159_k9 : ICode :=
 .seq (
 .region [
 imv 0 73 0,
 imv 1 74 10,
 icl 2 75 188 [τ 73, τ 74],
 iop 3 76 (.bslice 1 2 [.int .u32 0, .int .u32 0] [(0, 1, .const (.int .u32 0)), (1, 1, .const (.int .u32 0))]),
 iop 4 77 (.app 1 4 (τ 75) (τ 76)),
 imv 5 78 1,
 imv 6 79 10,
 icl 7 80 188 [τ 78, τ 79],
 imv 8 11 77,
 imv 9 12 80]) ir159_k10
def ir159_k8 : ICode :=
 .seq (
 .region [
 imv 0 67 1,
 iln 1 68 67,
 ibn 2 69 .mul (.const (.int .i64 32)) (τ 68),
 imv 3 70 1,
 icl 4 71 187 [τ 70],
 ibn 5 72 .sub (τ 69) (τ 71),
 imv 6 10 72]) ir159_k9
def ir159_k2 : ICode :=
 .seq (
 .seq (
 .region [
 imv 0 26 1,
 iln 1 27 26,
 ibn 2 28 .eql (τ 27) (.const (.int .i64 1))]) (
 .cond (τ 28) (
 .seq (
 .region [
 imv 0 29 0,
 iln 1 30 29,
 iop 2 31 (.mkslice 1 4 [.int .u32 0] (τ 30) (τ 30)),
 imv 3 6 31]) ir159_k3) (
 .skip))) ir159_k8
def ir159_k1 : ICode :=
 .seq (
 .seq (
 .region [
 imv 0 20 0,
 imv 1 21 1,
 icl 2 22 156 [τ 20, τ 21],
 ibn 3 23 .lss (τ 22) (.const (.int .i64 0))]) (
 .cond (τ 23) (
 .seq (
 .region [
 imv 0 24 0,
 icl 1 25 124 [τ 24],
 iop 2 4 (.mov (.const (.slice none 0 0))),
 imv 3 5 25]) (
 .ret)) (
 .skip))) ir159_k2
def ir159_b : ICode :=
 .seq (
 .region [
 iop 0 4 (.mov (.const (.slice none 0 0))),
 iop 1 5 (.mov (.const (.slice none 0 0)))]) ir159_k1
def ir159 : IFunc := ⟨198, [.tmp 4, .tmp 5], ir159_b⟩
theorem ir159_eq : cFunc Tryz.prog 159 = some ir159 := by kernel_rfl
theorem call159 {args : List Value} {m : Mem} {Φ : Value → Mem → Prop} (h : args.length ≤ 198) : WPCall Tryz.prog 159 args m Φ = WP Tryz.prog ir159_b (initσ args) m (retK [.tmp 4, .tmp 5] Φ) := wpCall_def ir159_eq h
def ir161_k5 : ICode :=
 .seq (
 .block 1 (
 .region [
 imv 0 22 4,
 ibn 1 23 .add (τ 22) (.const (.int .i64 1)),
 imv 2 4 23])) (
 .region [
 imv 0 20 5,
 ibn 1 21 .shr (τ 20) (.const (.int .u64 1)),
 imv 2 5 21])
def ir161_l0 : ICode :=
 .seq (
 .seq (
 .region [
 imv 0 18 5,
 ibn 1 19 .gtr (τ 18) (.const (.int .u32 0))]) (
 .cond (τ 19) (
 .skip) (
 .exit 0))) ir161_k5
def ir161_k6 : ICode :=
 .seq (
 .region [
 imv 0 24 4,
 imv 1 2 24]) (
 .ret)
def ir161_k4 : ICode :=
 .seq (
 .seq (
 .region [
 imv 0 13 0,
 imv 1 14 3,
 ibn 2 15 .sub (τ 14) (.const (.int .i64 1)),
 iia 3 16 1 13 15,
 ild 4 17 16,
 imv 5 5 17]) (
 .block 0 (
 .loop ir161_l0))) ir161_k6
def ir161_k3 : ICode :=
 .seq (
 .region [
 imv 0 10 3,
 ibn 1 11 .sub (τ 10) (.const (.int .i64 1)),
 ibn 2 12 .mul (τ 11) (.const (.int .i64 32)),
 imv 3 4 12]) ir161_k4
def ir161_k2 : ICode :=
 .seq (
 .seq (
 .region [
 imv 0 8 3,
 ibn 1 9 .eql (τ 8) (.const (.int .i64 0))]) (
 .cond (τ 9) (
 .seq (
 .region [
 imi 0 2 0]) (
 .ret)) (
 .skip))) ir161_k3
def ir161_k1 : ICode :=
 .seq (
 .region [
 imv 0 6 0,
 icl 1 7 192 [τ 6],
 imv 2 3 7]) ir161_k2
def ir161_b : ICode :=
 .seq (
 .region [
 imi 0 2 0]) ir161_k1
def ir161 : IFunc := ⟨25, [.tmp 2], ir161_b⟩
theorem ir161_eq : cFunc Tryz.prog 161 = some ir161 := by kernel_rfl
theorem call161 {args : List Value} {m : Mem} {Φ : Value → Mem → Prop} (h : args.length ≤ 25) : WPCall Tryz.prog 161 args m Φ = WP Tryz.prog ir161_b (initσ args) m (retK [.tmp 2] Φ) := wpCall_def ir161_eq h
def ir162_k2 : ICode :=
 .seq (
 .region [
 imv 0 10 3,
 imv 1 11 3,
 icl 2 12 192 [τ 11],
 iop 3 13 (.sliceS 1 (τ 10) none (some (τ 12))),
 imv 4 2 13]) (
 .ret)
def ir162_k1 : ICode :=
 .seq (
 .region [
 imv 0 4 0,
 iop 1 5 (.convI .u32 (τ 4)),
 imv 2 6 0,
 ibn 3 7 .shr (τ 6) (.const (.int .u64 32)),
 iop 4 8 (.convI .u32 (τ 7)),
 iop 5 9 (.bslice 1 2 [.int .u32 0, .int .u32 0] [(0, 1, τ 5), (1, 1, τ 8)]),
 imv 6 3 9]) ir162_k2
def ir162_b : ICode :=
 .seq (
 .region [
 iop 0 2 (.mov (.const (.slice none 0 0)))]) ir162_k1
def ir162 : IFunc := ⟨14, [.tmp 2], ir162_b⟩
theorem ir162_eq : cFunc Tryz.prog 162 = some ir162 := by kernel_rfl
theorem call162 {args : List Value} {m : Mem} {Φ : Value → Mem → Prop} (h : args.length ≤ 14) : WPCall Tryz.prog 162 args m Φ = WP Tryz.prog ir162_b (initσ args) m (retK [.tmp 2] Φ) := wpCall_def ir162_eq h
def ir167_k4 : ICode :=
 .seq (
 .block 2 (
 .block 3 (
 .seq (
 .region [
 imv 0 27 0,
 imv 1 28 7,
 iia 2 29 1 27 28,
 ild 3 30 29,
 imv 4 31 1,
 imv 5 32 7,
 iia 6 33 1 31 32,
 ild 7 34 33,
 ibn 8 35 .lss (τ 30) (τ 34),
 imv 9 26 35]) (
 .cond (τ 26) (
 .seq (
 .region [
 imi 0 4 (-1)]) (
 .ret)) (
 .seq (
 .region [
 imv 0 37 0,
 imv 1 38 7,
 iia 2 39 1 37 38,
 ild 3 40 39,
 imv 4 41 1,
 imv 5 42 7,
 iia 6 43 1 41 42,
 ild 7 44 43,
 ibn 8 45 .gtr (τ 40) (τ 44),
 imv 9 36 45]) (
 .cond (τ 36) (
 .seq (
 .region [
 imi 0 4 1]) (
 .ret)) (
 .skip))))))) (
 .region [
 imv 0 24 7,
 ibn 1 25 .sub (τ 24) (.const (.int .i64 1)),
 imv 2 7 25])
def ir167_l0 : ICode :=
 .seq (
 .seq (
 .region [
 imv 0 22 7,
 ibn 1 23 .geq (τ 22) (.const (.int .i64 0))]) (
 .cond (τ 23) (
 .skip) (
 .exit 1))) ir167_k4
def ir167_k5 : ICode :=
 .seq (
 .region [
 imi 0 4 0]) (
 .ret)
def ir167_k3 : ICode :=
 .seq (
 .seq (
 .region [
 imv 0 20 5,
 ibn 1 21 .sub (τ 20) (.const (.int .i64 1)),
 imv 2 7 21]) (
 .block 1 (
 .loop ir167_l0))) ir167_k5
def ir167_k2 : ICode :=
 .seq (
 .block 0 (
 .seq (
 .region [
 imv 0 13 5,
 imv 1 14 6,
 ibn 2 15 .lss (τ 13) (τ 14),
 imv 3 12 15]) (
 .cond (τ 12) (
 .seq (
 .region [
 imi 0 4 (-1)]) (
 .ret)) (
 .seq (
 .region [
 imv 0 17 5,
 imv 1 18 6,
 ibn 2 19 .gtr (τ 17) (τ 18),
 imv 3 16 19]) (
 .cond (τ 16) (
 .seq (
 .region [
 imi 0 4 1]) (
 .ret)) (
 .skip)))))) ir167_k3
def ir167_k1 : ICode :=
 .seq (
 .region [
 imv 0 8 0,
 icl 1 9 192 [τ 8],
 imv 2 10 1,
 icl 3 11 192 [τ 10],
 imv 4 5 9,
 imv 5 6 11]) ir167_k2
def ir167_b : ICode :=
 .seq (
 .region [
 imi 0 4 0]) ir167_k1
def ir167 : IFunc := ⟨46, [.tmp 4], ir167_b⟩
theorem ir167_eq : cFunc Tryz.prog 167 = some ir167 := by kernel_rfl
theorem call167 {args : List Value} {m : Mem} {Φ : Value → Mem → Prop} (h : args.length ≤ 46) : WPCall Tryz.prog 167 args m Φ = WP Tryz.prog ir167_b (initσ args) m (retK [.tmp 4] Φ) := wpCall_def ir167_eq h
def ir192_l0 : ICode :=
 .seq (
 .seq (
 .region [
 imv 0 6 3,
 ibn 1 7 .gtr (τ 6) (.const (.int .i64 0)),
 imv 2 8 7,
 iog 3 9 8 true (.mov (τ 0)),
 iog 4 10 8 true (.mov (τ 3)),
 iog 5 11 8 true (.bin .sub .other (τ 10) (.const (.int .i64 1))),
 iog 6 12 8 true (.iaddr 1 (τ 9) (τ 11)),
 iog 7 13 8 true (.load false 1 (τ 12)),
 iog 8 14 8 true (.bin .eql .other (τ 13) (.const (.int .u32 0))),
 iop 9 15 (.pick (τ 8) (τ 14) (.const (.bool false)))]) (
 .cond (τ 15) (
 .skip) (
 .exit 0))) (
 .block 1 (
 .region [
 imv 0 16 3,
 ibn 1 17 .sub (τ 16) (.const (.int .i64 1)),
 imv 2 3 17]))
def ir192_k3 : ICode :=
 .seq (
 .region [
 imv 0 18 3,
 imv 1 2 18]) (
 .ret)
def ir192_k2 : ICode :=
 .seq (
 .block 0 (
 .loop ir192_l0)) ir192_k3
def ir192_k1 : ICode :=
 .seq (
 .region [
 imv 0 4 0,
 iln 1 5 4,
 imv 2 3 5]) ir192_k2
def ir192_b : ICode :=
 .seq (
 .region [
 imi 0 2 0]) ir192_k1
def ir192 : IFunc := ⟨19, [.tmp 2], ir192_b⟩
theorem ir192_eq : cFunc Tryz.prog 192 = some ir192 := by kernel_rfl
theorem call192 {args : List Value} {m : Mem} {Φ : Value → Mem → Prop} (h : args.length ≤ 19) : WPCall Tryz.prog 192 args m Φ = WP Tryz.prog ir192_b (initσ args) m (retK [.tmp 2] Φ) := wpCall_def ir192_eq h
def ir193_k11 : ICode :=
 .seq (
 .region [
 imv 0 57 6,
 imv 1 58 8,
 imv 2 59 7,
 iop 3 60 (.convI .u32 (τ 59)),
 iia 4 61 1 57 58,
 ist 5 1 61 60]) (
 .region [
 imv 0 62 7,
 ibn 1 63 .shr (τ 62) (.const (.int .u64 32)),
 imv 2 7 63])
def ir193_k10 : ICode :=
 .seq (
 .seq (
 .region [
 imv 0 46 8,
 imv 1 47 1,
 iln 2 48 47,
 ibn 3 49 .lss (τ 46) (τ 48)]) (
 .cond (τ 49) (
 .region [
 imv 0 50 7,
 imv 1 51 1,
 imv 2 52 8,
 iia 3 53 1 51 52,
 ild 4 54 53,
 iop 5 55 (.convI .u64 (τ 54)),
 ibn 6 56 .add (τ 50) (τ 55),
 imv 7 7 56]) (
 .skip))) ir193_k11
def ir193_k9 : ICode :=
 .seq (
 .region [
 imv 0 39 7,
 imv 1 40 0,
 imv 2 41 8,
 iia 3 42 1 40 41,
 ild 4 43 42,
 iop 5 44 (.convI .u64 (τ 43)),
 ibn 6 45 .add (τ 39) (τ 44),
 imv 7 7 45]) ir193_k10
def ir193_k8 : ICode :=
 .seq (
 .block 1 (
 .seq (
 .region [
 imv 0 38 36,
 imv 1 8 38]) ir193_k9)) (
 .region [
 ibn 0 64 .add (τ 36) (.const (.int .i64 1)),
 imv 1 36 64])
def ir193_k7 : ICode :=
 .seq (
 .cond (τ 37) (
 .skip) (
 .exit 0)) ir193_k8
def ir193_l0 : ICode :=
 .seq (
 .region [
 ibn 0 37 .lss (τ 36) (τ 35)]) ir193_k7
def ir193_k13 : ICode :=
 .seq (
 .region [
 imv 0 71 6,
 icl 1 72 208 [τ 71],
 iex 2 73 0 72,
 iex 3 74 1 72,
 imv 4 4 73,
 imv 5 5 74]) (
 .ret)
def ir193_k12 : ICode :=
 .seq (
 .region [
 imv 0 65 6,
 imv 1 66 0,
 iln 2 67 66,
 imv 3 68 7,
 iop 4 69 (.convI .u32 (τ 68)),
 iia 5 70 1 65 67,
 ist 6 1 70 69]) ir193_k13
def ir193_k6 : ICode :=
 .seq (
 .seq (
 .region [
 imv 0 34 0,
 iln 1 35 34,
 imi 2 36 0]) (
 .block 0 (
 .loop ir193_l0))) ir193_k12
def ir193_k5 : ICode :=
 .seq (
 .region [
 iop 0 7 (.mov (.const (.int .u64 0)))]) ir193_k6
def ir193_k4 : ICode :=
 .seq (
 .region [
 imv 0 30 0,
 iln 1 31 30,
 ibn 2 32 .add (τ 31) (.const (.int .i64 1)),
 iop 3 33 (.mkslice 1 4 [.int .u32 0] (τ 32) (τ 32)),
 imv 4 6 33]) ir193_k5
def ir193_k3 : ICode :=
 .seq (
 .seq (
 .region [
 imv 0 23 0,
 iln 1 24 23,
 imv 2 25 1,
 iln 3 26 25,
 ibn 4 27 .lss (τ 24) (τ 26)]) (
 .cond (τ 27) (
 .region [
 imv 0 28 1,
 imv 1 29 0,
 imv 2 0 28,
 imv 3 1 29]) (
 .skip))) ir193_k4
def ir193_k2 : ICode :=
 .seq (
 .region [
 imv 0 15 0,
 imv 1 16 0,
 imv 4 19 1,
 imv 5 20 1,
 icl 2 17 192 [τ 16],
 iop 3 18 (.sliceS 1 (τ 15) none (some (τ 17))),
 icl 6 21 192 [τ 20],
 iop 7 22 (.sliceS 1 (τ 19) none (some (τ 21))),
 imv 8 0 18,
 imv 9 1 22]) ir193_k3
def ir193_k1 : ICode :=
 .seq (
 .seq (
 .region [
 imv 0 9 0,
 icl 1 10 207 [τ 9],
 imv 2 11 10,
 iog 3 12 11 false (.mov (τ 1)),
 iog 4 13 11 false (.call 207 [τ 12]),
 iop 5 14 (.pick (τ 11) (.const (.bool true)) (τ 13))]) (
 .cond (τ 14) (
 .seq (
 .region [
 iop 0 4 (.mov (.const (.slice none 0 0))),
 imi 1 5 2]) (
 .ret)) (
 .skip))) ir193_k2
def ir193_b : ICode :=
 .seq (
 .region [
 iop 0 4 (.mov (.const (.slice none 0 0))),
 imi 1 5 0]) ir193_k1
def ir193 : IFunc := ⟨75, [.tmp 4, .tmp 5], ir193_b⟩
theorem ir193_eq : cFunc Tryz.prog 193 = some ir193 := by kernel_rfl
theorem call193 {args : List Value} {m : Mem} {Φ : Value → Mem → Prop} (h : args.length ≤ 75) : WPCall Tryz.prog 193 args m Φ = WP Tryz.prog ir193_b (initσ args) m (retK [.tmp 4, .tmp 5] Φ) := wpCall_def ir193_eq h
def ir195_l0 : ICode :=
 .seq (
 .seq (
 .region [
 imv 0 18 1,
 iln 1 19 18,
 ibn 2 20 .gtr (τ 19) (.const (.int .i64 0))]) (
 .cond (τ 20) (
 .skip) (
 .exit 0))) (
 .block 1 (
 .seq (
 .region [
 imv 0 22 0,
 imv 1 23 1,
 icl 2 24 209 [τ 22, τ 23],
 imv 3 21 24,
 iex 4 25 0 21,
 iex 5 26 1 21,
 imv 6 6 25,
 imv 7 7 26]) (
 .region [
 imv 0 27 1,
 imv 1 28 7,
 imv 2 0 27,
 imv 3 1 28])))
def ir195_k4 : ICode :=
 .seq (
 .region [
 imv 0 29 0,
 imv 1 4 29,
 imi 2 5 0]) (
 .ret)
def ir195_k3 : ICode :=
 .seq (
 .block 0 (
 .loop ir195_l0)) ir195_k4
def ir195_k2 : ICode :=
 .seq (
 .region [
 imv 0 14 0,
 icl 1 15 197 [τ 14],
 imv 2 16 1,
 icl 3 17 197 [τ 16],
 imv 4 0 15,
 imv 5 1 17]) ir195_k3
def ir195_k1 : ICode :=
 .seq (
 .seq (
 .region [
 imv 0 8 0,
 icl 1 9 207 [τ 8],
 imv 2 10 9,
 iog 3 11 10 false (.mov (τ 1)),
 iog 4 12 10 false (.call 207 [τ 11]),
 iop 5 13 (.pick (τ 10) (.const (.bool true)) (τ 12))]) (
 .cond (τ 13) (
 .seq (
 .region [
 iop 0 4 (.mov (.const (.slice none 0 0))),
 imi 1 5 2]) (
 .ret)) (
 .skip))) ir195_k2
def ir195_b : ICode :=
 .seq (
 .region [
 iop 0 4 (.mov (.const (.slice none 0 0))),
 imi 1 5 0]) ir195_k1
def ir195 : IFunc := ⟨30, [.tmp 4, .tmp 5], ir195_b⟩
theorem ir195_eq : cFunc Tryz.prog 195 = some ir195 := by kernel_rfl
theorem call195 {args : List Value} {m : Mem} {Φ : Value → Mem → Prop} (h : args.length ≤ 30) : WPCall Tryz.prog 195 args m Φ = WP Tryz.prog ir195_b (initσ args) m (retK [.tmp 4, .tmp 5] Φ) := wpCall_def ir195_eq h
def ir197_k1 : ICode :=
 .seq (
 .region [
 imv 0 3 0,
 imv 1 4 0,
 icl 2 5 192 [τ 4],
 iop 3 6 (.sliceS 1 (τ 3) none (some (τ 5))),
 iop 4 7 (.app 1 4 (.const (.slice none 0 0)) (τ 6)),
 imv 5 2 7]) (
 .ret)
def ir197_b : ICode :=
 .seq (
 .region [
 iop 0 2 (.mov (.const (.slice none 0 0)))]) ir197_k1
def ir197 : IFunc := ⟨8, [.tmp 2], ir197_b⟩
theorem ir197_eq : cFunc Tryz.prog 197 = some ir197 := by kernel_rfl
theorem call197 {args : List Value} {m : Mem} {Φ : Value → Mem → Prop} (h : args.length ≤ 8) : WPCall Tryz.prog 197 args m Φ = WP Tryz.prog ir197_b (initσ args) m (retK [.tmp 2] Φ) := wpCall_def ir197_eq h
def ir198_k12 : ICode :=
 .seq (
 .region [
 imv 0 61 6,
 imv 1 62 7,
 imv 2 63 10,
 ibn 3 64 .add (τ 62) (τ 63),
 imv 4 65 9,
 iop 5 66 (.convI .u32 (τ 65)),
 iia 6 67 1 61 64,
 ist 7 1 67 66]) (
 .region [
 imv 0 68 9,
 ibn 1 69 .shr (τ 68) (.const (.int .u64 32)),
 imv 2 9 69])
def ir198_k11 : ICode :=
 .seq (
 .region [
 imv 0 46 9,
 imv 1 47 8,
 iop 2 48 (.convI .u64 (τ 47)),
 imv 3 49 11,
 iop 4 50 (.convI .u64 (τ 49)),
 ibn 5 51 .mul (τ 48) (τ 50),
 imv 6 52 6,
 imv 7 53 7,
 imv 8 54 10,
 ibn 9 55 .add (τ 53) (τ 54),
 iia 10 56 1 52 55,
 ild 11 57 56,
 iop 12 58 (.convI .u64 (τ 57)),
 ibn 13 59 .add (τ 51) (τ 58),
 ibn 14 60 .add (τ 46) (τ 59),
 imv 15 9 60]) ir198_k12
def ir198_k10 : ICode :=
 .seq (
 .block 3 (
 .seq (
 .region [
 imv 0 43 41,
 iia 1 44 1 39 41,
 ild 2 45 44,
 imv 3 10 43,
 imv 4 11 45]) ir198_k11)) (
 .region [
 ibn 0 70 .add (τ 41) (.const (.int .i64 1)),
 imv 1 41 70])
def ir198_k9 : ICode :=
 .seq (
 .cond (τ 42) (
 .skip) (
 .exit 2)) ir198_k10
def ir198_l0 : ICode :=
 .seq (
 .region [
 ibn 0 42 .lss (τ 41) (τ 40)]) ir198_k9
def ir198_k8 : ICode :=
 .seq (
 .seq (
 .region [
 imv 0 39 1,
 iln 1 40 39,
 imi 2 41 0]) (
 .block 2 (
 .loop ir198_l0))) (
 .region [
 imv 0 71 6,
 imv 1 72 7,
 imv 2 73 1,
 iln 3 74 73,
 ibn 4 75 .add (τ 72) (τ 74),
 imv 5 76 9,
 iop 6 77 (.convI .u32 (τ 76)),
 iia 7 78 1 71 75,
 ist 8 1 78 77])
def ir198_k7 : ICode :=
 .seq (
 .region [
 iop 0 9 (.mov (.const (.int .u64 0)))]) ir198_k8
def ir198_k6 : ICode :=
 .seq (
 .block 1 (
 .seq (
 .region [
 imv 0 36 34,
 iia 1 37 1 32 34,
 ild 2 38 37,
 imv 3 7 36,
 imv 4 8 38]) ir198_k7)) (
 .region [
 ibn 0 79 .add (τ 34) (.const (.int .i64 1)),
 imv 1 34 79])
def ir198_k5 : ICode :=
 .seq (
 .cond (τ 35) (
 .skip) (
 .exit 0)) ir198_k6
def ir198_l1 : ICode :=
 .seq (
 .region [
 ibn 0 35 .lss (τ 34) (τ 33)]) ir198_k5
def ir198_k13 : ICode :=
 .seq (
 .region [
 imv 0 80 6,
 icl 1 81 208 [τ 80],
 iex 2 82 0 81,
 iex 3 83 1 81,
 imv 4 4 82,
 imv 5 5 83]) (
 .ret)
def ir198_k4 : ICode :=
 .seq (
 .seq (
 .region [
 imv 0 32 0,
 iln 1 33 32,
 imi 2 34 0]) (
 .block 0 (
 .loop ir198_l1))) ir198_k13
def ir198_k3 : ICode :=
 .seq (
 .region [
 imv 0 26 0,
 iln 1 27 26,
 imv 2 28 1,
 iln 3 29 28,
 ibn 4 30 .add (τ 27) (τ 29),
 iop 5 31 (.mkslice 1 4 [.int .u32 0] (τ 30) (τ 30)),
 imv 6 6 31]) ir198_k4
def ir198_k2 : ICode :=
 .seq (
 .region [
 imv 0 18 0,
 imv 1 19 0,
 imv 4 22 1,
 imv 5 23 1,
 icl 2 20 192 [τ 19],
 iop 3 21 (.sliceS 1 (τ 18) none (some (τ 20))),
 icl 6 24 192 [τ 23],
 iop 7 25 (.sliceS 1 (τ 22) none (some (τ 24))),
 imv 8 0 21,
 imv 9 1 25]) ir198_k3
def ir198_k1 : ICode :=
 .seq (
 .seq (
 .region [
 imv 0 12 0,
 icl 1 13 207 [τ 12],
 imv 2 14 13,
 iog 3 15 14 false (.mov (τ 1)),
 iog 4 16 14 false (.call 207 [τ 15]),
 iop 5 17 (.pick (τ 14) (.const (.bool true)) (τ 16))]) (
 .cond (τ 17) (
 .seq (
 .region [
 iop 0 4 (.mov (.const (.slice none 0 0))),
 imi 1 5 2]) (
 .ret)) (
 .skip))) ir198_k2
def ir198_b : ICode :=
 .seq (
 .region [
 iop 0 4 (.mov (.const (.slice none 0 0))),
 imi 1 5 0]) ir198_k1
def ir198 : IFunc := ⟨84, [.tmp 4, .tmp 5], ir198_b⟩
theorem ir198_eq : cFunc Tryz.prog 198 = some ir198 := by kernel_rfl
theorem call198 {args : List Value} {m : Mem} {Φ : Value → Mem → Prop} (h : args.length ≤ 84) : WPCall Tryz.prog 198 args m Φ = WP Tryz.prog ir198_b (initσ args) m (retK [.tmp 4, .tmp 5] Φ) := wpCall_def ir198_eq h
def ir207_k1 : ICode :=
 .seq (
 .region [
 imv 0 3 0,
 icl 1 4 192 [τ 3],
 ibn 2 5 .gtr (τ 4) (.const (.int .i64 512)),
 imv 3 2 5]) (
 .ret)
def ir207_b : ICode :=
 .seq (
 .region [
 imb 0 2 false]) ir207_k1
def ir207 : IFunc := ⟨6, [.tmp 2], ir207_b⟩
theorem ir207_eq : cFunc Tryz.prog 207 = some ir207 := by kernel_rfl
theorem call207 {args : List Value} {m : Mem} {Φ : Value → Mem → Prop} (h : args.length ≤ 6) : WPCall Tryz.prog 207 args m Φ = WP Tryz.prog ir207_b (initσ args) m (retK [.tmp 2] Φ) := wpCall_def ir207_eq h
def ir208_k3 : ICode :=
 .seq (
 .region [
 imv 0 9 0,
 imv 1 10 4,
 imv 2 11 4,
 iop 3 12 (.sliceM 1 (τ 9) none (τ 10) (τ 11)),
 imv 4 2 12,
 imi 5 3 0]) (
 .ret)
def ir208_k2 : ICode :=
 .seq (
 .seq (
 .region [
 imv 0 7 4,
 ibn 1 8 .gtr (τ 7) (.const (.int .i64 512))]) (
 .cond (τ 8) (
 .seq (
 .region [
 iop 0 2 (.mov (.const (.slice none 0 0))),
 imi 1 3 2]) (
 .ret)) (
 .skip))) ir208_k3
def ir208_k1 : ICode :=
 .seq (
 .region [
 imv 0 5 0,
 icl 1 6 192 [τ 5],
 imv 2 4 6]) ir208_k2
def ir208_b : ICode :=
 .seq (
 .region [
 iop 0 2 (.mov (.const (.slice none 0 0))),
 imi 1 3 0]) ir208_k1
def ir208 : IFunc := ⟨13, [.tmp 2, .tmp 3], ir208_b⟩
theorem ir208_eq : cFunc Tryz.prog 208 = some ir208 := by kernel_rfl
theorem call208 {args : List Value} {m : Mem} {Φ : Value → Mem → Prop} (h : args.length ≤ 13) : WPCall Tryz.prog 208 args m Φ = WP Tryz.prog ir208_b (initσ args) m (retK [.tmp 2, .tmp 3] Φ) := wpCall_def ir208_eq h
def ir209_k3 : ICode :=
 .seq (
 .region [
 imv 0 38 6,
 imv 1 39 7,
 iop 2 40 (.convI .u64 (τ 39)),
 icl 3 41 162 [τ 40],
 imv 4 4 38,
 imv 5 5 41]) (
 .ret)
def ir209_l0 : ICode :=
 .seq (
 .seq (
 .region [
 imv 0 42 1,
 imv 1 43 1,
 iln 2 44 43,
 ibn 3 45 .sub (τ 44) (.const (.int .i64 1)),
 iia 4 46 1 42 45,
 ild 5 47 46,
 imv 6 48 8,
 ibn 7 49 .shl (τ 47) (τ 48),
 ibn 8 50 .lss (τ 49) (.const (.int .u32 2147483648))]) (
 .cond (τ 50) (
 .skip) (
 .exit 0))) (
 .block 1 (
 .region [
 imv 0 51 8,
 ibn 1 52 .add (τ 51) (.const (.int .u64 1)),
 imv 2 8 52]))
def ir209_k15 : ICode :=
 .seq (
 .region [
 imv 0 135 18,
 ibn 1 136 .geq (τ 135) (.const (.int .u64 4294967296))]) (
 .cond (τ 136) (
 .exit 4) (
 .skip))
def ir209_k14 : ICode :=
 .seq (
 .region [
 imv 0 132 18,
 imv 1 133 13,
 ibn 2 134 .add (τ 132) (τ 133),
 imv 3 18 134]) ir209_k15
def ir209_l1 : ICode :=
 .seq (
 .seq (
 .region [
 imv 0 111 17,
 ibn 1 112 .geq (τ 111) (.const (.int .u64 4294967296)),
 imv 2 113 112,
 iog 3 114 113 false (.mov (τ 17)),
 iog 4 115 113 false (.mov (τ 14)),
 iog 5 116 113 false (.bin .mul .other (τ 114) (τ 115)),
 iog 6 117 113 false (.mov (τ 18)),
 iog 7 118 113 false (.bin .shl .other (τ 117) (.const (.int .u64 32))),
 iog 8 119 113 false (.mov (τ 9)),
 iog 9 120 113 false (.mov (τ 15)),
 iog 10 121 113 false (.mov (τ 11)),
 iog 11 122 113 false (.bin .add .other (τ 120) (τ 121)),
 iog 12 123 113 false (.bin .sub .other (τ 122) (.const (.int .i64 2))),
 iog 13 124 113 false (.iaddr 1 (τ 119) (τ 123)),
 iog 14 125 113 false (.load false 1 (τ 124)),
 iog 15 126 113 false (.convI .u64 (τ 125)),
 iog 16 127 113 false (.bin .or .other (τ 118) (τ 126)),
 iog 17 128 113 false (.bin .gtr .other (τ 116) (τ 127)),
 iop 18 129 (.pick (τ 113) (.const (.bool true)) (τ 128))]) (
 .cond (τ 129) (
 .skip) (
 .exit 4))) (
 .block 5 (
 .seq (
 .region [
 imv 0 130 17,
 ibn 1 131 .sub (τ 130) (.const (.int .u64 1)),
 imv 2 17 131]) ir209_k14))
def ir209_k16 : ICode :=
 .seq (
 .seq (
 .region [
 imv 0 137 9,
 imv 1 138 15,
 imv 2 139 15,
 imv 3 140 11,
 ibn 4 141 .add (τ 139) (τ 140),
 ibn 5 142 .add (τ 141) (.const (.int .i64 1)),
 iop 6 143 (.sliceS 1 (τ 137) (some (τ 138)) (some (τ 142))),
 imv 7 144 10,
 imv 8 145 17,
 icl 9 146 214 [τ 143, τ 144, τ 145]]) (
 .cond (τ 146) (
 .seq (
 .region [
 imv 0 147 17,
 ibn 1 148 .sub (τ 147) (.const (.int .u64 1)),
 imv 2 17 148]) (
 .region [
 imv 0 149 9,
 imv 1 150 15,
 imv 2 151 15,
 imv 3 152 11,
 ibn 4 153 .add (τ 151) (τ 152),
 ibn 5 154 .add (τ 153) (.const (.int .i64 1)),
 iop 6 155 (.sliceS 1 (τ 149) (some (τ 150)) (some (τ 154))),
 imv 7 156 10,
 icl 8 157 215 [τ 155, τ 156]])) (
 .skip))) (
 .region [
 imv 0 158 12,
 imv 1 159 15,
 imv 2 160 17,
 iop 3 161 (.convI .u32 (τ 160)),
 iia 4 162 1 158 159,
 ist 5 1 162 161])
def ir209_k13 : ICode :=
 .seq (
 .block 4 (
 .loop ir209_l1)) ir209_k16
def ir209_k12 : ICode :=
 .seq (
 .region [
 imv 0 105 16,
 imv 1 106 13,
 ibn 2 107 .quo (τ 105) (τ 106),
 imv 3 108 16,
 imv 4 109 13,
 ibn 5 110 .rem (τ 108) (τ 109),
 imv 6 17 107,
 imv 7 18 110]) ir209_k13
def ir209_k11 : ICode :=
 .seq (
 .block 3 (
 .seq (
 .region [
 imv 0 88 9,
 imv 1 89 15,
 imv 2 90 11,
 ibn 3 91 .add (τ 89) (τ 90),
 iia 4 92 1 88 91,
 ild 5 93 92,
 iop 6 94 (.convI .u64 (τ 93)),
 ibn 7 95 .shl (τ 94) (.const (.int .u64 32)),
 imv 8 96 9,
 imv 9 97 15,
 imv 10 98 11,
 ibn 11 99 .add (τ 97) (τ 98),
 ibn 12 100 .sub (τ 99) (.const (.int .i64 1)),
 iia 13 101 1 96 100,
 ild 14 102 101,
 iop 15 103 (.convI .u64 (τ 102)),
 ibn 16 104 .or (τ 95) (τ 103),
 imv 17 16 104]) ir209_k12)) (
 .region [
 imv 0 86 15,
 ibn 1 87 .sub (τ 86) (.const (.int .i64 1)),
 imv 2 15 87])
def ir209_l2 : ICode :=
 .seq (
 .seq (
 .region [
 imv 0 84 15,
 ibn 1 85 .geq (τ 84) (.const (.int .i64 0))]) (
 .cond (τ 85) (
 .skip) (
 .exit 2))) ir209_k11
def ir209_k20 : ICode :=
 .seq (
 .block 7 (
 .seq (
 .region [
 imv 0 169 167,
 imv 1 20 169]) (
 .region [
 imv 0 170 19,
 imv 1 171 20,
 imv 2 172 9,
 imv 3 173 20,
 ibn 4 174 .add (τ 173) (.const (.int .i64 1)),
 iia 5 175 1 172 174,
 ild 6 176 175,
 iop 7 177 (.convI .u64 (τ 176)),
 ibn 8 178 .shl (τ 177) (.const (.int .u64 32)),
 imv 9 179 9,
 imv 10 180 20,
 iia 11 181 1 179 180,
 ild 12 182 181,
 iop 13 183 (.convI .u64 (τ 182)),
 ibn 14 184 .or (τ 178) (τ 183),
 imv 15 185 8,
 ibn 16 186 .shr (τ 184) (τ 185),
 iop 17 187 (.convI .u32 (τ 186)),
 iia 18 188 1 170 171,
 ist 19 1 188 187]))) (
 .region [
 ibn 0 189 .add (τ 167) (.const (.int .i64 1)),
 imv 1 167 189])
def ir209_k19 : ICode :=
 .seq (
 .cond (τ 168) (
 .skip) (
 .exit 6)) ir209_k20
def ir209_l3 : ICode :=
 .seq (
 .region [
 ibn 0 168 .lss (τ 167) (τ 166)]) ir209_k19
def ir209_k21 : ICode :=
 .seq (
 .region [
 imv 0 190 12,
 imv 1 191 12,
 imv 4 194 19,
 imv 5 195 19,
 icl 2 192 192 [τ 191],
 iop 3 193 (.sliceS 1 (τ 190) none (some (τ 192))),
 icl 6 196 192 [τ 195],
 iop 7 197 (.sliceS 1 (τ 194) none (some (τ 196))),
 imv 8 4 193,
 imv 9 5 197]) (
 .ret)
def ir209_k18 : ICode :=
 .seq (
 .seq (
 .region [
 imv 0 165 19,
 iln 1 166 165,
 imi 2 167 0]) (
 .block 6 (
 .loop ir209_l3))) ir209_k21
def ir209_k17 : ICode :=
 .seq (
 .region [
 imv 0 163 11,
 iop 1 164 (.mkslice 1 4 [.int .u32 0] (τ 163) (τ 163)),
 imv 2 19 164]) ir209_k18
def ir209_k10 : ICode :=
 .seq (
 .seq (
 .region [
 imv 0 81 12,
 iln 1 82 81,
 ibn 2 83 .sub (τ 82) (.const (.int .i64 1)),
 imv 3 15 83]) (
 .block 2 (
 .loop ir209_l2))) ir209_k17
def ir209_k9 : ICode :=
 .seq (
 .region [
 imv 0 69 10,
 imv 1 70 11,
 ibn 2 71 .sub (τ 70) (.const (.int .i64 1)),
 iia 3 72 1 69 71,
 ild 4 73 72,
 iop 5 74 (.convI .u64 (τ 73)),
 imv 6 75 10,
 imv 7 76 11,
 ibn 8 77 .sub (τ 76) (.const (.int .i64 2)),
 iia 9 78 1 75 77,
 ild 10 79 78,
 iop 11 80 (.convI .u64 (τ 79)),
 imv 12 13 74,
 imv 13 14 80]) ir209_k10
def ir209_k8 : ICode :=
 .seq (
 .region [
 imv 0 64 9,
 iln 1 65 64,
 imv 2 66 11,
 ibn 3 67 .sub (τ 65) (τ 66),
 iop 4 68 (.mkslice 1 4 [.int .u32 0] (τ 67) (τ 67)),
 imv 5 12 68]) ir209_k9
def ir209_k7 : ICode :=
 .seq (
 .region [
 imv 0 62 10,
 iln 1 63 62,
 imv 2 11 63]) ir209_k8
def ir209_k6 : ICode :=
 .seq (
 .region [
 imv 0 53 0,
 imv 1 54 8,
 imv 3 56 1,
 imv 4 57 8,
 imv 6 59 1,
 iln 7 60 59,
 icl 2 55 213 [τ 53, τ 54],
 icl 5 58 213 [τ 56, τ 57],
 iop 8 61 (.sliceS 1 (τ 58) none (some (τ 60))),
 imv 9 9 55,
 imv 10 10 61]) ir209_k7
def ir209_k5 : ICode :=
 .seq (
 .block 0 (
 .loop ir209_l0)) ir209_k6
def ir209_k4 : ICode :=
 .seq (
 .region [
 iop 0 8 (.mov (.const (.int .u64 0)))]) ir209_k5
def ir209_k2 : ICode :=
 .seq (
 .seq (
 .region [
 imv 0 27 1,
 iln 1 28 27,
 ibn 2 29 .eql (τ 28) (.const (.int .i64 1))]) (
 .cond (τ 29) (
 .seq (
 .region [
 imv 0 31 0,
 imv 1 32 1,
 iop 2 33 (.iaddr 1 (τ 32) (.const (.int .i64 0))),
 ild 3 34 33,
 icl 4 35 212 [τ 31, τ 34],
 imv 5 30 35,
 iex 6 36 0 30,
 iex 7 37 1 30,
 imv 8 6 36,
 imv 9 7 37]) ir209_k3) (
 .skip))) ir209_k4
def ir209_k1 : ICode :=
 .seq (
 .seq (
 .region [
 imv 0 21 0,
 imv 1 22 1,
 icl 2 23 167 [τ 21, τ 22],
 ibn 3 24 .lss (τ 23) (.const (.int .i64 0))]) (
 .cond (τ 24) (
 .seq (
 .region [
 imv 0 25 0,
 icl 1 26 197 [τ 25],
 iop 2 4 (.mov (.const (.slice none 0 0))),
 imv 3 5 26]) (
 .ret)) (
 .skip))) ir209_k2
def ir209_b : ICode :=
 .seq (
 .region [
 iop 0 4 (.mov (.const (.slice none 0 0))),
 iop 1 5 (.mov (.const (.slice none 0 0)))]) ir209_k1
def ir209 : IFunc := ⟨198, [.tmp 4, .tmp 5], ir209_b⟩
theorem ir209_eq : cFunc Tryz.prog 209 = some ir209 := by kernel_rfl
theorem call209 {args : List Value} {m : Mem} {Φ : Value → Mem → Prop} (h : args.length ≤ 198) : WPCall Tryz.prog 209 args m Φ = WP Tryz.prog ir209_b (initσ args) m (retK [.tmp 4, .tmp 5] Φ) := wpCall_def ir209_eq h
def ir212_k5 : ICode :=
 .seq (
 .region [
 imv 0 27 6,
 imv 1 28 8,
 imv 2 29 7,
 imv 3 30 1,
 iop 4 31 (.convI .u64 (τ 30)),
 ibn 5 32 .quo (τ 29) (τ 31),
 iop 6 33 (.convI .u32 (τ 32)),
 iia 7 34 1 27 28,
 ist 8 1 34 33]) (
 .region [
 imv 0 35 7,
 imv 1 36 1,
 iop 2 37 (.convI .u64 (τ 36)),
 ibn 3 38 .rem (τ 35) (τ 37),
 imv 4 7 38])
def ir212_k4 : ICode :=
 .seq (
 .block 1 (
 .seq (
 .region [
 imv 0 19 7,
 ibn 1 20 .shl (τ 19) (.const (.int .u64 32)),
 imv 2 21 0,
 imv 3 22 8,
 iia 4 23 1 21 22,
 ild 5 24 23,
 iop 6 25 (.convI .u64 (τ 24)),
 ibn 7 26 .or (τ 20) (τ 25),
 imv 8 7 26]) ir212_k5)) (
 .region [
 imv 0 17 8,
 ibn 1 18 .sub (τ 17) (.const (.int .i64 1)),
 imv 2 8 18])
def ir212_l0 : ICode :=
 .seq (
 .seq (
 .region [
 imv 0 15 8,
 ibn 1 16 .geq (τ 15) (.const (.int .i64 0))]) (
 .cond (τ 16) (
 .skip) (
 .exit 0))) ir212_k4
def ir212_k6 : ICode :=
 .seq (
 .region [
 imv 0 39 6,
 imv 1 40 6,
 icl 2 41 192 [τ 40],
 iop 3 42 (.sliceS 1 (τ 39) none (some (τ 41))),
 imv 4 43 7,
 iop 5 44 (.convI .u32 (τ 43)),
 imv 6 4 42,
 imv 7 5 44]) (
 .ret)
def ir212_k3 : ICode :=
 .seq (
 .seq (
 .region [
 imv 0 12 0,
 iln 1 13 12,
 ibn 2 14 .sub (τ 13) (.const (.int .i64 1)),
 imv 3 8 14]) (
 .block 0 (
 .loop ir212_l0))) ir212_k6
def ir212_k2 : ICode :=
 .seq (
 .region [
 iop 0 7 (.mov (.const (.int .u64 0)))]) ir212_k3
def ir212_k1 : ICode :=
 .seq (
 .region [
 imv 0 9 0,
 iln 1 10 9,
 iop 2 11 (.mkslice 1 4 [.int .u32 0] (τ 10) (τ 10)),
 imv 3 6 11]) ir212_k2
def ir212_b : ICode :=
 .seq (
 .region [
 iop 0 4 (.mov (.const (.slice none 0 0))),
 iop 1 5 (.mov (.const (.int .u32 0)))]) ir212_k1
def ir212 : IFunc := ⟨45, [.tmp 4, .tmp 5], ir212_b⟩
theorem ir212_eq : cFunc Tryz.prog 212 = some ir212 := by kernel_rfl
theorem call212 {args : List Value} {m : Mem} {Φ : Value → Mem → Prop} (h : args.length ≤ 45) : WPCall Tryz.prog 212 args m Φ = WP Tryz.prog ir212_b (initσ args) m (retK [.tmp 4, .tmp 5] Φ) := wpCall_def ir212_eq h
end Go.Proofs.YticjcminhkgabaaGreatDoor
