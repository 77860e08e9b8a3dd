/-
 The intermediate forms of this seat's functions, written by a program of ours (wip/Ir.lean); each is checked against the loaded program.
-/
import Derived.Test.YticjcminhkgabaaGreatDoorRows
import Derived.Test.YticjcminhkgabaaGreatDoorFwX
namespace Go.Proofs.YticjcminhkgabaaGreatDoor
open Go Go.DI

def ir41_k3 : ICode :=
 .seq (
 .region [
 imv 0 36 1,
 imv 1 37 9,
 ibn 2 38 .gtr (τ 36) (τ 37)]) (
 .cond (τ 38) (
 .seq (
 .region [
 iop 0 4 (.mov (.const (.slice none 0 0))),
 imi 1 5 0,
 iop 2 6 (.mov (.const (.slice none 0 0))),
 imi 3 7 12]) (
 .ret)) (
 .skip))
def ir41_k9 : ICode :=
 .seq (
 .region [
 imv 0 60 13,
 ifa 1 61 0 15,
 ild 2 62 61,
 imv 3 63 13,
 ifa 4 64 0 15,
 ild 5 65 64,
 iia 6 66 1 63 65,
 ild 7 67 66,
 imv 8 68 14,
 iop 9 69 (.bslice 1 1 [.int .i64 0] [(0, 1, τ 68)]),
 ioc 10 70 (.app 1 8 (τ 67) (τ 69)) [(τ 61, τ 67)],
 iia 11 71 1 60 62,
 ist 12 1 71 70]) (
 .region [
 imv 0 72 13,
 ifa 1 73 1 15,
 ild 2 74 73,
 imv 3 75 13,
 ifa 4 76 1 15,
 ild 5 77 76,
 iia 6 78 1 75 77,
 ild 7 79 78,
 imv 8 80 14,
 ibn 9 81 .sub (.const (.int .i64 (-1))) (τ 80),
 iop 10 82 (.bslice 1 1 [.int .i64 0] [(0, 1, τ 81)]),
 ioc 11 83 (.app 1 8 (τ 79) (τ 82)) [(τ 73, τ 79)],
 iia 12 84 1 72 74,
 ist 13 1 84 83])
def ir41_k8 : ICode :=
 .seq (
 .block 1 (
 .seq (
 .region [
 imv 0 57 55,
 iia 1 58 4 53 55,
 ila 2 59 4 58,
 iop 3 15 (.alloc [.int .i64 0, .int .i64 0, .int .i64 0, .int .i64 0]),
 imv 4 14 57,
 ist 5 4 15 59]) ir41_k9)) (
 .region [
 ibn 0 85 .add (τ 55) (.const (.int .i64 1)),
 imv 1 55 85])
def ir41_k7 : ICode :=
 .seq (
 .cond (τ 56) (
 .skip) (
 .exit 0)) ir41_k8
def ir41_l0 : ICode :=
 .seq (
 .region [
 ibn 0 56 .lss (τ 55) (τ 54)]) ir41_k7
def ir41_k13 : ICode :=
 .seq (
 .block 5 (
 .seq (
 .region [
 imv 0 98 96,
 iia 1 99 1 94 96,
 ild 2 100 99,
 imv 3 18 98,
 imv 4 19 100]) (
 .region [
 imv 0 101 12,
 iop 1 102 (.nilck (τ 101)),
 ifa 2 103 5 102,
 ild 3 104 103,
 imv 4 105 18,
 iia 5 106 1 104 105,
 ild 6 107 106,
 imv 7 108 19,
 imv 8 109 16,
 ifa 9 110 2 2,
 ild 10 111 110,
 iia 11 112 1 109 111,
 ild 12 113 112,
 iop 13 114 (.minmax false (τ 108) [τ 113]),
 ibn 14 115 .add (τ 107) (τ 114),
 iia 15 116 1 104 105,
 ist 16 1 116 115]))) (
 .region [
 ibn 0 117 .add (τ 96) (.const (.int .i64 1)),
 imv 1 96 117])
def ir41_k12 : ICode :=
 .seq (
 .cond (τ 97) (
 .skip) (
 .exit 4)) ir41_k13
def ir41_l1 : ICode :=
 .seq (
 .region [
 ibn 0 97 .lss (τ 96) (τ 95)]) ir41_k12
def ir41_k11 : ICode :=
 .seq (
 .seq (
 .region [
 imv 0 94 16,
 iln 1 95 94,
 imi 2 96 0]) (
 .block 4 (
 .loop ir41_l1))) (
 .region [
 imv 0 118 1,
 imv 1 119 12,
 imv 2 120 17,
 imv 3 121 1,
 icl 4 122 79 [τ 119, τ 120, τ 121],
 ibn 5 123 .sub (τ 118) (τ 122),
 imv 6 1 123])
def ir41_l2 : ICode :=
 .seq (
 .seq (
 .region [
 imv 0 86 1,
 ibn 1 87 .gtr (τ 86) (.const (.int .i64 0))]) (
 .cond (τ 87) (
 .skip) (
 .exit 2))) (
 .block 3 (
 .seq (
 .region [
 imv 0 89 12,
 imv 1 90 13,
 icl 2 91 78 [τ 89, τ 90],
 imv 3 88 91,
 iex 4 92 0 88,
 iex 5 93 1 88,
 imv 6 16 92,
 imv 7 17 93]) ir41_k11))
def ir41_k15 : ICode :=
 .seq (
 .region [
 imv 0 133 12,
 iop 1 134 (.nilck (τ 133)),
 ifa 2 135 4 134,
 ild 3 136 135,
 imv 4 137 20,
 imv 5 138 12,
 iop 6 139 (.nilck (τ 138)),
 ifa 7 140 5 139,
 ild 8 141 140,
 imv 9 4 136,
 imv 10 5 137,
 imv 11 6 141,
 imi 12 7 0]) (
 .ret)
def ir41_k14 : ICode :=
 .seq (
 .region [
 ila 0 125 4 2,
 imv 1 126 12,
 iop 2 127 (.nilck (τ 126)),
 ifa 3 128 4 127,
 ild 4 129 128,
 icl 5 130 60 [τ 125, τ 129],
 imv 6 124 130,
 iex 7 131 0 124,
 iex 8 132 1 124,
 imv 9 20 131,
 imv 10 21 132]) ir41_k15
def ir41_k10 : ICode :=
 .seq (
 .block 2 (
 .loop ir41_l2)) ir41_k14
def ir41_k6 : ICode :=
 .seq (
 .seq (
 .region [
 ifa 0 52 3 2,
 ild 1 53 52,
 iln 2 54 53,
 imi 3 55 0]) (
 .block 0 (
 .loop ir41_l0))) ir41_k10
def ir41_k5 : ICode :=
 .seq (
 .region [
 ifa 0 49 0 2,
 ild 1 50 49,
 iop 2 51 (.mkslice 1 24 [.slice none 0 0] (τ 50) (τ 50)),
 imv 3 13 51]) ir41_k6
def ir41_k4 : ICode :=
 .seq (
 .region [
 ila 0 39 4 2,
 ifa 1 40 3 2,
 ild 2 41 40,
 iln 3 42 41,
 ifa 5 44 0 2,
 ild 6 45 44,
 iop 4 43 (.mkslice 1 8 [.int .i64 0] (τ 42) (τ 42)),
 iop 7 46 (.mkslice 1 8 [.int .i64 0] (τ 45) (τ 45)),
 iop 8 47 (.build [.int .i64 0, .int .i64 0, .int .i64 0, .slice none 0 0, .slice none 0 0, .slice none 0 0] [(0, 4, τ 39), (4, 1, τ 43), (5, 1, τ 46)]),
 iop 9 48 (.box (τ 47)),
 imv 10 12 48]) ir41_k5
def ir41_k2 : ICode :=
 .seq (
 .seq (
 .region [
 ila 0 30 4 2,
 icl 1 31 46 [τ 30],
 imv 2 29 31,
 iex 3 32 0 29,
 iex 4 33 1 29,
 iex 5 34 2 29,
 iex 6 35 3 29,
 imv 7 8 32,
 imv 8 9 33,
 imv 9 10 34,
 imv 10 11 35]) ir41_k3) ir41_k4
def ir41_k1 : ICode :=
 .seq (
 .seq (
 .region [
 ila 0 22 4 2,
 icl 1 23 77 [τ 22],
 iop 2 24 (.un .not (τ 23)),
 imv 3 25 24,
 iog 4 26 25 false (.mov (τ 1)),
 iog 5 27 25 false (.bin .lss .other (τ 26) (.const (.int .i64 0))),
 iop 6 28 (.pick (τ 25) (.const (.bool true)) (τ 27))]) (
 .cond (τ 28) (
 .seq (
 .region [
 iop 0 4 (.mov (.const (.slice none 0 0))),
 imi 1 5 0,
 iop 2 6 (.mov (.const (.slice none 0 0))),
 imi 3 7 1]) (
 .ret)) (
 .skip))) ir41_k2
def ir41_b : ICode :=
 .seq (
 .region [
 iop 0 2 (.box (τ 0)),
 iop 1 4 (.mov (.const (.slice none 0 0))),
 imi 2 5 0,
 iop 3 6 (.mov (.const (.slice none 0 0))),
 imi 4 7 0]) ir41_k1
def ir41 : IFunc := ⟨142, [.tmp 4, .tmp 5, .tmp 6, .tmp 7], ir41_b⟩
theorem ir41_eq : cFunc Tryz.prog 41 = some ir41 := by kernel_rfl
theorem call41 {args : List Value} {m : Mem} {Φ : Value → Mem → Prop} (h : args.length ≤ 142) : WPCall Tryz.prog 41 args m Φ = WP Tryz.prog ir41_b (initσ args) m (retK [.tmp 4, .tmp 5, .tmp 6, .tmp 7] Φ) := wpCall_def ir41_eq h
def ir46_k6 : ICode :=
 .seq (
 .region [
 imv 0 33 6,
 iop 1 34 (.nilck (τ 33)),
 ifa 2 35 5 34,
 ild 3 36 35,
 ifa 4 37 0 8,
 ild 5 38 37,
 imv 6 39 6,
 iop 7 40 (.nilck (τ 39)),
 ifa 8 41 5 40,
 ild 9 42 41,
 ifa 10 43 0 8,
 ild 11 44 43,
 iia 12 45 1 42 44,
 ild 13 46 45,
 imv 14 47 7,
 iop 15 48 (.bslice 1 1 [.int .i64 0] [(0, 1, τ 47)]),
 ioc 16 49 (.app 1 8 (τ 46) (τ 48)) [(τ 37, τ 46), (τ 35, τ 46)],
 iia 17 50 1 36 38,
 ist 18 1 50 49]) (
 .region [
 imv 0 51 6,
 iop 1 52 (.nilck (τ 51)),
 ifa 2 53 5 52,
 ild 3 54 53,
 ifa 4 55 1 8,
 ild 5 56 55,
 imv 6 57 6,
 iop 7 58 (.nilck (τ 57)),
 ifa 8 59 5 58,
 ild 9 60 59,
 ifa 10 61 1 8,
 ild 11 62 61,
 iia 12 63 1 60 62,
 ild 13 64 63,
 imv 14 65 7,
 ibn 15 66 .sub (.const (.int .i64 (-1))) (τ 65),
 iop 16 67 (.bslice 1 1 [.int .i64 0] [(0, 1, τ 66)]),
 ioc 17 68 (.app 1 8 (τ 64) (τ 67)) [(τ 55, τ 64), (τ 53, τ 64)],
 iia 18 69 1 54 56,
 ist 19 1 69 68])
def ir46_k5 : ICode :=
 .seq (
 .block 1 (
 .seq (
 .region [
 imv 0 30 28,
 iia 1 31 4 26 28,
 ila 2 32 4 31,
 iop 3 8 (.alloc [.int .i64 0, .int .i64 0, .int .i64 0, .int .i64 0]),
 imv 4 7 30,
 ist 5 4 8 32]) ir46_k6)) (
 .region [
 ibn 0 70 .add (τ 28) (.const (.int .i64 1)),
 imv 1 28 70])
def ir46_k4 : ICode :=
 .seq (
 .cond (τ 29) (
 .skip) (
 .exit 0)) ir46_k5
def ir46_l0 : ICode :=
 .seq (
 .region [
 ibn 0 29 .lss (τ 28) (τ 27)]) ir46_k4
def ir46_k8 : ICode :=
 .seq (
 .seq (
 .region [
 imv 0 76 11,
 ifa 1 77 2 1,
 ild 2 78 77,
 iia 3 79 1 76 78,
 ild 4 80 79,
 iop 5 81 (.un .not (τ 80))]) (
 .cond (τ 81) (
 .seq (
 .region [
 imv 0 82 6,
 iop 1 83 (.nilck (τ 82)),
 ifa 2 84 4 83,
 ild 3 85 84,
 imv 4 86 9,
 imv 5 87 11,
 imv 6 2 85,
 imv 7 3 86,
 imv 8 4 87,
 imi 9 5 0]) (
 .ret)) (
 .skip))) (
 .region [
 imv 0 88 9,
 imv 1 89 6,
 imv 2 90 10,
 icl 3 91 93 [τ 89, τ 90],
 ibn 4 92 .add (τ 88) (τ 91),
 imv 5 9 92])
def ir46_l1 : ICode :=
 .block 3 (
 .seq (
 .region [
 imv 0 72 6,
 icl 1 73 92 [τ 72],
 imv 2 71 73,
 iex 3 74 0 71,
 iex 4 75 1 71,
 imv 5 10 74,
 imv 6 11 75]) ir46_k8)
def ir46_k7 : ICode :=
 .seq (
 .region [
 imi 0 9 0]) (
 .block 2 (
 .loop ir46_l1))
def ir46_k3 : ICode :=
 .seq (
 .seq (
 .region [
 ifa 0 25 3 1,
 ild 1 26 25,
 iln 2 27 26,
 imi 3 28 0]) (
 .block 0 (
 .loop ir46_l0))) ir46_k7
def ir46_k2 : ICode :=
 .seq (
 .region [
 ila 0 15 4 1,
 ifa 1 16 3 1,
 ild 2 17 16,
 iln 3 18 17,
 ifa 5 20 0 1,
 ild 6 21 20,
 iop 4 19 (.mkslice 1 8 [.int .i64 0] (τ 18) (τ 18)),
 iop 7 22 (.mkslice 1 24 [.slice none 0 0] (τ 21) (τ 21)),
 iop 8 23 (.build [.int .i64 0, .int .i64 0, .int .i64 0, .slice none 0 0, .slice none 0 0, .slice none 0 0] [(0, 4, τ 15), (4, 1, τ 19), (5, 1, τ 22)]),
 iop 9 24 (.box (τ 23)),
 imv 10 6 24]) ir46_k3
def ir46_k1 : ICode :=
 .seq (
 .seq (
 .region [
 ila 0 12 4 1,
 icl 1 13 91 [τ 12],
 iop 2 14 (.un .not (τ 13))]) (
 .cond (τ 14) (
 .seq (
 .region [
 iop 0 2 (.mov (.const (.slice none 0 0))),
 imi 1 3 0,
 iop 2 4 (.mov (.const (.slice none 0 0))),
 imi 3 5 1]) (
 .ret)) (
 .skip))) ir46_k2
def ir46_b : ICode :=
 .seq (
 .region [
 iop 0 1 (.box (τ 0)),
 iop 1 2 (.mov (.const (.slice none 0 0))),
 imi 2 3 0,
 iop 3 4 (.mov (.const (.slice none 0 0))),
 imi 4 5 0]) ir46_k1
def ir46 : IFunc := ⟨93, [.tmp 2, .tmp 3, .tmp 4, .tmp 5], ir46_b⟩
theorem ir46_eq : cFunc Tryz.prog 46 = some ir46 := by kernel_rfl
theorem call46 {args : List Value} {m : Mem} {Φ : Value → Mem → Prop} (h : args.length ≤ 93) : WPCall Tryz.prog 46 args m Φ = WP Tryz.prog ir46_b (initσ args) m (retK [.tmp 2, .tmp 3, .tmp 4, .tmp 5] Φ) := wpCall_def ir46_eq h
def ir60_k2 : ICode :=
 .seq (
 .region [
 imv 0 17 7,
 iop 1 18 (.un .not (τ 17)),
 imv 2 19 18,
 iog 3 20 19 false (.load true 4 (τ 2)),
 iog 4 21 19 false (.call 77 [τ 20]),
 iog 5 22 19 false (.un .not (τ 21)),
 iop 6 23 (.pick (τ 19) (.const (.bool true)) (τ 22))]) (
 .cond (τ 23) (
 .seq (
 .region [
 imi 0 4 0,
 imb 1 5 false]) (
 .ret)) (
 .skip))
def ir60_k6 : ICode :=
 .seq (
 .block 1 (
 .seq (
 .region [
 imv 0 29 27,
 iia 1 30 4 25 27,
 ila 2 31 4 30,
 iop 3 10 (.alloc [.int .i64 0, .int .i64 0, .int .i64 0, .int .i64 0]),
 imv 4 9 29,
 ist 5 4 10 31]) (
 .region [
 imv 0 32 8,
 imv 1 33 1,
 imv 2 34 9,
 iia 3 35 1 33 34,
 ild 4 36 35,
 ifa 5 37 3 10,
 ild 6 38 37,
 ibn 7 39 .mul (τ 36) (τ 38),
 ibn 8 40 .add (τ 32) (τ 39),
 imv 9 8 40]))) (
 .region [
 ibn 0 41 .add (τ 27) (.const (.int .i64 1)),
 imv 1 27 41])
def ir60_k5 : ICode :=
 .seq (
 .cond (τ 28) (
 .skip) (
 .exit 0)) ir60_k6
def ir60_l0 : ICode :=
 .seq (
 .region [
 ibn 0 28 .lss (τ 27) (τ 26)]) ir60_k5
def ir60_k7 : ICode :=
 .seq (
 .region [
 imv 0 42 8,
 imv 1 4 42,
 imb 2 5 true]) (
 .ret)
def ir60_k4 : ICode :=
 .seq (
 .seq (
 .region [
 ifa 0 24 3 2,
 ild 1 25 24,
 iln 2 26 25,
 imi 3 27 0]) (
 .block 0 (
 .loop ir60_l0))) ir60_k7
def ir60_k3 : ICode :=
 .seq (
 .region [
 imi 0 8 0]) ir60_k4
def ir60_k1 : ICode :=
 .seq (
 .seq (
 .region [
 ila 0 12 4 2,
 imv 1 13 1,
 icl 2 14 103 [τ 12, τ 13],
 imv 3 11 14,
 iex 4 15 0 11,
 iex 5 16 1 11,
 imv 6 6 15,
 imv 7 7 16]) ir60_k2) ir60_k3
def ir60_b : ICode :=
 .seq (
 .region [
 iop 0 2 (.box (τ 0)),
 imi 1 4 0,
 imb 2 5 false]) ir60_k1
def ir60 : IFunc := ⟨43, [.tmp 4, .tmp 5], ir60_b⟩
theorem ir60_eq : cFunc Tryz.prog 60 = some ir60 := by kernel_rfl
theorem call60 {args : List Value} {m : Mem} {Φ : Value → Mem → Prop} (h : args.length ≤ 43) : WPCall Tryz.prog 60 args m Φ = WP Tryz.prog ir60_b (initσ args) m (retK [.tmp 4, .tmp 5] Φ) := wpCall_def ir60_eq h
def ir77_k4 : ICode :=
 .seq (
 .region [
 ifa 0 12 3 4,
 ild 1 13 12,
 ibn 2 14 .lss (τ 13) (.const (.int .i64 0)),
 imv 3 15 14,
 iog 4 16 15 false (.faddr 3 (τ 4)),
 iog 5 17 15 false (.load false 1 (τ 16)),
 iog 6 18 15 false (.bin .gtr .other (τ 17) (.const (.int .i64 1000))),
 iop 7 19 (.pick (τ 15) (.const (.bool true)) (τ 18)),
 imv 8 20 19,
 iog 9 21 20 false (.faddr 2 (τ 4)),
 iog 10 22 20 false (.load false 1 (τ 21)),
 iog 11 23 20 false (.bin .gtr .other (τ 22) (.const (.int .i64 1000000))),
 iop 12 24 (.pick (τ 20) (.const (.bool true)) (τ 23))]) (
 .cond (τ 24) (
 .seq (
 .region [
 imb 0 2 false]) (
 .ret)) (
 .skip))
def ir77_k3 : ICode :=
 .seq (
 .block 1 (
 .seq (
 .region [
 iia 0 10 4 6 8,
 ila 1 11 4 10,
 iop 2 4 (.alloc [.int .i64 0, .int .i64 0, .int .i64 0, .int .i64 0]),
 ist 3 4 4 11]) ir77_k4)) (
 .region [
 ibn 0 25 .add (τ 8) (.const (.int .i64 1)),
 imv 1 8 25])
def ir77_k2 : ICode :=
 .seq (
 .cond (τ 9) (
 .skip) (
 .exit 0)) ir77_k3
def ir77_l0 : ICode :=
 .seq (
 .region [
 ibn 0 9 .lss (τ 8) (τ 7)]) ir77_k2
def ir77_k5 : ICode :=
 .seq (
 .region [
 ila 0 26 4 1,
 icl 1 27 91 [τ 26],
 imv 2 2 27]) (
 .ret)
def ir77_k1 : ICode :=
 .seq (
 .seq (
 .region [
 ifa 0 5 3 1,
 ild 1 6 5,
 iln 2 7 6,
 imi 3 8 0]) (
 .block 0 (
 .loop ir77_l0))) ir77_k5
def ir77_b : ICode :=
 .seq (
 .region [
 iop 0 1 (.box (τ 0)),
 imb 1 2 false]) ir77_k1
def ir77 : IFunc := ⟨28, [.tmp 2], ir77_b⟩
theorem ir77_eq : cFunc Tryz.prog 77 = some ir77 := by kernel_rfl
theorem call77 {args : List Value} {m : Mem} {Φ : Value → Mem → Prop} (h : args.length ≤ 28) : WPCall Tryz.prog 77 args m Φ = WP Tryz.prog ir77_b (initσ args) m (retK [.tmp 2] Φ) := wpCall_def ir77_eq h
def ir78_k4 : ICode :=
 .seq (
 .block 1 (
 .seq (
 .region [
 imv 0 34 32,
 imv 1 8 34]) (
 .region [
 imv 0 35 6,
 imv 1 36 8,
 iia 2 37 1 35 36,
 ino 3 (.store 1 (τ 37) (.const (.int .i64 1099511627776)))]))) (
 .region [
 ibn 0 38 .add (τ 32) (.const (.int .i64 1)),
 imv 1 32 38])
def ir78_k3 : ICode :=
 .seq (
 .cond (τ 33) (
 .skip) (
 .exit 0)) ir78_k4
def ir78_l0 : ICode :=
 .seq (
 .region [
 ibn 0 33 .lss (τ 32) (τ 31)]) ir78_k3
def ir78_k14 : ICode :=
 .seq (
 .region [
 imv 0 110 15,
 ibn 1 111 .gtr (τ 110) (.const (.int .i64 0)),
 imv 2 112 111,
 iog 3 113 112 true (.mov (τ 17)),
 iog 4 114 112 true (.mov (τ 6)),
 iog 5 115 112 true (.mov (τ 14)),
 iog 6 116 112 true (.iaddr 1 (τ 114) (τ 115)),
 iog 7 117 112 true (.load false 1 (τ 116)),
 iog 8 118 112 true (.bin .lss .other (τ 113) (τ 117)),
 iop 9 119 (.pick (τ 112) (τ 118) (.const (.bool false)))]) (
 .cond (τ 119) (
 .seq (
 .region [
 imv 0 120 6,
 imv 1 121 14,
 imv 2 122 7,
 imv 3 123 14,
 imv 4 124 17,
 imv 5 125 12,
 iia 6 126 1 120 121,
 ist 7 1 126 124,
 iia 8 127 1 122 123,
 ist 9 1 127 125]) (
 .region [
 imv 0 128 9,
 iop 1 129 (.mkif 171 (τ 128)),
 imv 2 130 14,
 imv 3 131 17,
 iop 4 132 (.build [.int .i64 0, .int .i64 0] [(0, 1, τ 130), (1, 1, τ 131)]),
 iop 5 133 (.mkif 173 (τ 132)),
 icl 6 134 118 [τ 129, τ 133]])) (
 .skip))
def ir78_k13 : ICode :=
 .seq (
 .region [
 ifa 0 89 1 10,
 ild 1 90 89,
 imv 2 91 16,
 ibn 3 92 .add (τ 90) (τ 91),
 imv 4 93 0,
 iop 5 94 (.nilck (τ 93)),
 ifa 6 95 5 94,
 ild 7 96 95,
 ifa 8 97 0 10,
 ild 9 98 97,
 iia 10 99 1 96 98,
 ild 11 100 99,
 ibn 12 101 .add (τ 92) (τ 100),
 imv 13 102 0,
 iop 14 103 (.nilck (τ 102)),
 ifa 15 104 5 103,
 ild 16 105 104,
 imv 17 106 14,
 iia 18 107 1 105 106,
 ild 19 108 107,
 ibn 20 109 .sub (τ 101) (τ 108),
 imv 21 17 109]) ir78_k14
def ir78_k12 : ICode :=
 .seq (
 .region [
 imv 0 82 0,
 imv 1 83 12,
 icl 2 84 117 [τ 82, τ 83],
 imv 3 81 84,
 iex 4 85 0 81,
 iex 5 86 1 81,
 iex 6 87 2 81,
 iex 7 88 3 81,
 imv 8 13 85,
 imv 9 14 86,
 imv 10 15 87,
 imv 11 16 88]) ir78_k13
def ir78_k11 : ICode :=
 .seq (
 .block 5 (
 .seq (
 .region [
 iia 0 79 1 75 77,
 ild 1 80 79,
 imv 2 12 80]) ir78_k12)) (
 .region [
 ibn 0 135 .add (τ 77) (.const (.int .i64 1)),
 imv 1 77 135])
def ir78_k10 : ICode :=
 .seq (
 .cond (τ 78) (
 .skip) (
 .exit 4)) ir78_k11
def ir78_l1 : ICode :=
 .seq (
 .region [
 ibn 0 78 .lss (τ 77) (τ 76)]) ir78_k10
def ir78_k9 : ICode :=
 .seq (
 .region [
 imv 0 71 1,
 ifa 1 72 0 10,
 ild 2 73 72,
 iia 3 74 1 71 73,
 ild 4 75 74,
 iln 5 76 75,
 imi 6 77 0]) (
 .block 4 (
 .loop ir78_l1))
def ir78_k8 : ICode :=
 .seq (
 .seq (
 .region [
 ifa 0 63 1 10,
 ild 1 64 63,
 imv 2 65 6,
 ifa 3 66 0 10,
 ild 4 67 66,
 iia 5 68 1 65 67,
 ild 6 69 68,
 ibn 7 70 .gtr (τ 64) (τ 69)]) (
 .cond (τ 70) (
 .exit 3) (
 .skip))) ir78_k9
def ir78_l2 : ICode :=
 .seq (
 .seq (
 .region [
 imv 0 54 9,
 iop 1 55 (.nilck (τ 54)),
 ild 2 56 55,
 icl 3 57 115 [τ 56],
 ibn 4 58 .gtr (τ 57) (.const (.int .i64 0))]) (
 .cond (τ 58) (
 .skip) (
 .exit 2))) (
 .block 3 (
 .seq (
 .region [
 imv 0 59 9,
 iop 1 60 (.mkif 171 (τ 59)),
 icl 2 61 116 [τ 60],
 iop 3 62 (.tass 173 (τ 61)),
 iop 4 10 (.alloc [.int .i64 0, .int .i64 0]),
 ist 5 2 10 62]) ir78_k8))
def ir78_k15 : ICode :=
 .seq (
 .region [
 imv 0 136 6,
 imv 1 137 7,
 imv 2 4 136,
 imv 3 5 137]) (
 .ret)
def ir78_k7 : ICode :=
 .seq (
 .block 2 (
 .loop ir78_l2)) ir78_k15
def ir78_k6 : ICode :=
 .seq (
 .region [
 imv 0 46 0,
 iop 1 47 (.nilck (τ 46)),
 ifa 2 48 0 47,
 ifa 3 49 1 48,
 ild 4 50 49,
 iop 5 51 (.build [.int .i64 0, .int .i64 0] [(0, 1, τ 50), (1, 1, .const (.int .i64 0))]),
 iop 6 52 (.bslice 2 1 [.int .i64 0, .int .i64 0] [(0, 2, τ 51)]),
 iop 7 53 (.box (τ 52)),
 imv 8 9 53]) ir78_k7
def ir78_k5 : ICode :=
 .seq (
 .region [
 imv 0 39 6,
 imv 1 40 0,
 iop 2 41 (.nilck (τ 40)),
 ifa 3 42 0 41,
 ifa 4 43 1 42,
 ild 5 44 43,
 iia 6 45 1 39 44,
 ino 7 (.store 1 (τ 45) (.const (.int .i64 0)))]) ir78_k6
def ir78_k2 : ICode :=
 .seq (
 .seq (
 .region [
 imv 0 30 6,
 iln 1 31 30,
 imi 2 32 0]) (
 .block 0 (
 .loop ir78_l0))) ir78_k5
def ir78_k1 : ICode :=
 .seq (
 .region [
 imv 0 18 0,
 iop 1 19 (.nilck (τ 18)),
 ifa 2 20 0 19,
 ifa 3 21 0 20,
 ild 4 22 21,
 imv 6 24 0,
 iop 7 25 (.nilck (τ 24)),
 ifa 8 26 0 25,
 ifa 9 27 0 26,
 ild 10 28 27,
 iop 5 23 (.mkslice 1 8 [.int .i64 0] (τ 22) (τ 22)),
 imv 12 6 23,
 iop 11 29 (.mkslice 1 8 [.int .i64 0] (τ 28) (τ 28)),
 imv 13 7 29]) ir78_k2
def ir78_b : ICode :=
 .seq (
 .region [
 iop 0 4 (.mov (.const (.slice none 0 0))),
 iop 1 5 (.mov (.const (.slice none 0 0)))]) ir78_k1
def ir78 : IFunc := ⟨138, [.tmp 4, .tmp 5], ir78_b⟩
theorem ir78_eq : cFunc Tryz.prog 78 = some ir78 := by kernel_rfl
theorem call78 {args : List Value} {m : Mem} {Φ : Value → Mem → Prop} (h : args.length ≤ 138) : WPCall Tryz.prog 78 args m Φ = WP Tryz.prog ir78_b (initσ args) m (retK [.tmp 4, .tmp 5] Φ) := wpCall_def ir78_eq h
def ir79_k2 : ICode :=
 .seq (
 .region [
 imv 0 37 2,
 imv 1 38 10,
 iop 2 39 (.minmax false (τ 37) [τ 38]),
 imv 3 2 39]) (
 .region [
 imv 0 40 8,
 imv 1 7 40])
def ir79_l0 : ICode :=
 .seq (
 .seq (
 .region [
 imv 0 19 7,
 imv 1 20 0,
 iop 2 21 (.nilck (τ 20)),
 ifa 3 22 0 21,
 ifa 4 23 1 22,
 ild 5 24 23,
 ibn 6 25 .neq (τ 19) (τ 24)]) (
 .cond (τ 25) (
 .skip) (
 .exit 0))) (
 .block 1 (
 .seq (
 .region [
 imv 0 27 0,
 imv 1 28 1,
 imv 2 29 7,
 iia 3 30 1 28 29,
 ild 4 31 30,
 icl 5 32 117 [τ 27, τ 31],
 imv 6 26 32,
 iex 7 33 0 26,
 iex 8 34 1 26,
 iex 9 35 2 26,
 iex 10 36 3 26,
 imv 11 8 33,
 imv 12 9 34,
 imv 13 10 35,
 imv 14 11 36]) ir79_k2))
def ir79_k5 : ICode :=
 .seq (
 .region [
 imv 0 65 13,
 ibn 1 66 .geq (τ 65) (.const (.int .i64 0))]) (
 .cond (τ 66) (
 .region [
 imv 0 67 0,
 iop 1 68 (.nilck (τ 67)),
 ifa 2 69 4 68,
 ild 3 70 69,
 imv 4 71 13,
 iia 5 72 1 70 71,
 ild 6 73 72,
 imv 7 74 2,
 ibn 8 75 .add (τ 73) (τ 74),
 iia 9 76 1 70 71,
 ist 10 1 76 75]) (
 .region [
 imv 0 77 0,
 iop 1 78 (.nilck (τ 77)),
 ifa 2 79 4 78,
 ild 3 80 79,
 imv 4 81 13,
 ibn 5 82 .sub (.const (.int .i64 (-1))) (τ 81),
 iia 6 83 1 80 82,
 ild 7 84 83,
 imv 8 85 2,
 ibn 9 86 .sub (τ 84) (τ 85),
 iia 10 87 1 80 82,
 ist 11 1 87 86]))
def ir79_k4 : ICode :=
 .seq (
 .region [
 imv 0 58 0,
 imv 1 59 13,
 icl 2 60 117 [τ 58, τ 59],
 imv 3 57 60,
 iex 4 61 0 57,
 iex 5 62 1 57,
 iex 6 63 2 57,
 iex 7 64 3 57,
 imv 8 12 61]) ir79_k5
def ir79_l1 : ICode :=
 .seq (
 .seq (
 .region [
 imv 0 46 12,
 imv 1 47 0,
 iop 2 48 (.nilck (τ 47)),
 ifa 3 49 0 48,
 ifa 4 50 1 49,
 ild 5 51 50,
 ibn 6 52 .neq (τ 46) (τ 51)]) (
 .cond (τ 52) (
 .skip) (
 .exit 2))) (
 .block 3 (
 .seq (
 .region [
 imv 0 53 1,
 imv 1 54 12,
 iia 2 55 1 53 54,
 ild 3 56 55,
 imv 4 13 56]) ir79_k4))
def ir79_k6 : ICode :=
 .seq (
 .region [
 imv 0 88 2,
 imv 1 6 88]) (
 .ret)
def ir79_k3 : ICode :=
 .seq (
 .seq (
 .region [
 imv 0 41 0,
 iop 1 42 (.nilck (τ 41)),
 ifa 2 43 0 42,
 ifa 3 44 2 43,
 ild 4 45 44,
 imv 5 12 45]) (
 .block 2 (
 .loop ir79_l1))) ir79_k6
def ir79_k1 : ICode :=
 .seq (
 .seq (
 .region [
 imv 0 14 0,
 iop 1 15 (.nilck (τ 14)),
 ifa 2 16 0 15,
 ifa 3 17 2 16,
 ild 4 18 17,
 imv 5 7 18]) (
 .block 0 (
 .loop ir79_l0))) ir79_k3
def ir79_b : ICode :=
 .seq (
 .region [
 imi 0 6 0]) ir79_k1
def ir79 : IFunc := ⟨89, [.tmp 6], ir79_b⟩
theorem ir79_eq : cFunc Tryz.prog 79 = some ir79 := by kernel_rfl
theorem call79 {args : List Value} {m : Mem} {Φ : Value → Mem → Prop} (h : args.length ≤ 89) : WPCall Tryz.prog 79 args m Φ = WP Tryz.prog ir79_b (initσ args) m (retK [.tmp 6] Φ) := wpCall_def ir79_eq h
def ir91_k6 : ICode :=
 .seq (
 .region [
 imv 0 49 3,
 ifa 1 50 0 5,
 ild 2 51 50,
 iop 3 52 (.callv (τ 49) [τ 51]),
 iop 4 53 (.un .not (τ 52)),
 imv 5 54 53,
 iog 6 55 54 false (.mov (τ 3)),
 iog 7 56 54 false (.faddr 1 (τ 5)),
 iog 8 57 54 false (.load false 1 (τ 56)),
 iog 9 58 54 false (.callv (τ 55) [τ 57]),
 iog 10 59 54 false (.un .not (τ 58)),
 iop 11 60 (.pick (τ 54) (.const (.bool true)) (τ 59)),
 imv 12 61 60,
 iog 13 62 61 false (.faddr 2 (τ 5)),
 iog 14 63 61 false (.load false 1 (τ 62)),
 iog 15 64 61 false (.bin .lss .other (τ 63) (.const (.int .i64 0))),
 iop 16 65 (.pick (τ 61) (.const (.bool true)) (τ 64)),
 imv 17 66 65,
 iog 18 67 66 false (.faddr 2 (τ 5)),
 iog 19 68 66 false (.load false 1 (τ 67)),
 iog 20 69 66 false (.bin .gtr .other (τ 68) (.const (.int .i64 2147483647))),
 iop 21 70 (.pick (τ 66) (.const (.bool true)) (τ 69))]) (
 .cond (τ 70) (
 .seq (
 .region [
 imb 0 2 false]) (
 .ret)) (
 .skip))
def ir91_k5 : ICode :=
 .seq (
 .block 1 (
 .seq (
 .region [
 iia 0 47 4 43 45,
 ila 1 48 4 47,
 iop 2 5 (.alloc [.int .i64 0, .int .i64 0, .int .i64 0, .int .i64 0]),
 ist 3 4 5 48]) ir91_k6)) (
 .region [
 ibn 0 71 .add (τ 45) (.const (.int .i64 1)),
 imv 1 45 71])
def ir91_k4 : ICode :=
 .seq (
 .cond (τ 46) (
 .skip) (
 .exit 0)) ir91_k5
def ir91_l0 : ICode :=
 .seq (
 .region [
 ibn 0 46 .lss (τ 45) (τ 44)]) ir91_k4
def ir91_k7 : ICode :=
 .seq (
 .region [
 imb 0 2 true]) (
 .ret)
def ir91_k3 : ICode :=
 .seq (
 .seq (
 .region [
 ifa 0 42 3 1,
 ild 1 43 42,
 iln 2 44 43,
 imi 3 45 0]) (
 .block 0 (
 .loop ir91_l0))) ir91_k7
def ir91_k2 : ICode :=
 .seq (
 .seq (
 .region [
 ifa 0 7 0 1,
 ild 1 8 7,
 ibn 2 9 .lss (τ 8) (.const (.int .i64 2)),
 imv 3 10 9,
 iog 4 11 10 false (.faddr 0 (τ 1)),
 iog 5 12 10 false (.load false 1 (τ 11)),
 iog 6 13 10 false (.bin .gtr .other (τ 12) (.const (.int .i64 700))),
 iop 7 14 (.pick (τ 10) (.const (.bool true)) (τ 13)),
 imv 8 15 14,
 iog 9 16 15 false (.faddr 3 (τ 1)),
 iog 10 17 15 false (.load false 1 (τ 16)),
 iog 11 18 15 false (.lenV (τ 17)),
 iog 12 19 15 false (.bin .gtr .other (τ 18) (.const (.int .i64 2500))),
 iop 13 20 (.pick (τ 15) (.const (.bool true)) (τ 19)),
 imv 14 21 20,
 iog 15 22 21 false (.mov (τ 3)),
 iog 16 23 21 false (.faddr 1 (τ 1)),
 iog 17 24 21 false (.load false 1 (τ 23)),
 iog 18 25 21 false (.callv (τ 22) [τ 24]),
 iog 19 26 21 false (.un .not (τ 25)),
 iop 20 27 (.pick (τ 21) (.const (.bool true)) (τ 26)),
 imv 21 28 27,
 iog 22 29 28 false (.mov (τ 3)),
 iog 23 30 28 false (.faddr 2 (τ 1)),
 iog 24 31 28 false (.load false 1 (τ 30)),
 iog 25 32 28 false (.callv (τ 29) [τ 31]),
 iog 26 33 28 false (.un .not (τ 32)),
 iop 27 34 (.pick (τ 28) (.const (.bool true)) (τ 33)),
 imv 28 35 34,
 iog 29 36 35 false (.faddr 1 (τ 1)),
 iog 30 37 35 false (.load false 1 (τ 36)),
 iog 31 38 35 false (.faddr 2 (τ 1)),
 iog 32 39 35 false (.load false 1 (τ 38)),
 iog 33 40 35 false (.bin .eql .other (τ 37) (τ 39)),
 iop 34 41 (.pick (τ 35) (.const (.bool true)) (τ 40))]) (
 .cond (τ 41) (
 .seq (
 .region [
 imb 0 2 false]) (
 .ret)) (
 .skip))) ir91_k3
def ir91_k1 : ICode :=
 .seq (
 .region [
 iop 0 6 (.mkfunc (.func 131) [] [τ 1]),
 imv 1 3 6]) ir91_k2
def ir91_b : ICode :=
 .seq (
 .region [
 iop 0 1 (.box (τ 0)),
 imb 1 2 false]) ir91_k1
def ir91 : IFunc := ⟨72, [.tmp 2], ir91_b⟩
theorem ir91_eq : cFunc Tryz.prog 91 = some ir91 := by kernel_rfl
theorem call91 {args : List Value} {m : Mem} {Φ : Value → Mem → Prop} (h : args.length ≤ 72) : WPCall Tryz.prog 91 args m Φ = WP Tryz.prog ir91_b (initσ args) m (retK [.tmp 2] Φ) := wpCall_def ir91_eq h
def ir92_k8 : ICode :=
 .seq (
 .region [
 imv 0 61 10,
 ibn 1 62 .gtr (τ 61) (.const (.int .i64 0)),
 imv 2 63 62,
 iog 3 64 63 true (.mov (τ 5)),
 iog 4 65 63 true (.mov (τ 9)),
 iog 5 66 63 true (.iaddr 1 (τ 64) (τ 65)),
 iog 6 67 63 true (.load false 1 (τ 66)),
 iog 7 68 63 true (.un .not (τ 67)),
 iop 8 69 (.pick (τ 63) (τ 68) (.const (.bool false)))]) (
 .cond (τ 69) (
 .seq (
 .region [
 imv 0 70 5,
 imv 1 71 9,
 imv 2 72 4,
 imv 3 73 9,
 imv 4 74 8,
 iia 5 75 1 70 71,
 ino 6 (.store 1 (τ 75) (.const (.bool true))),
 iia 7 76 1 72 73,
 ist 8 1 76 74]) (
 .region [
 imv 0 77 6,
 imv 1 78 9,
 iop 2 79 (.bslice 1 1 [.int .i64 0] [(0, 1, τ 78)]),
 iop 3 80 (.app 1 8 (τ 77) (τ 79)),
 imv 4 6 80])) (
 .skip))
def ir92_k7 : ICode :=
 .seq (
 .region [
 imv 0 56 0,
 imv 1 57 8,
 icl 2 58 132 [τ 56, τ 57],
 imv 3 55 58,
 iex 4 59 0 55,
 iex 5 60 1 55,
 imv 6 9 59,
 imv 7 10 60]) ir92_k8
def ir92_k6 : ICode :=
 .seq (
 .block 3 (
 .seq (
 .region [
 iia 0 53 1 49 51,
 ild 1 54 53,
 imv 2 8 54]) ir92_k7)) (
 .region [
 ibn 0 81 .add (τ 51) (.const (.int .i64 1)),
 imv 1 51 81])
def ir92_k5 : ICode :=
 .seq (
 .cond (τ 52) (
 .skip) (
 .exit 2)) ir92_k6
def ir92_l0 : ICode :=
 .seq (
 .region [
 ibn 0 52 .lss (τ 51) (τ 50)]) ir92_k5
def ir92_k4 : ICode :=
 .seq (
 .block 1 (
 .seq (
 .region [
 imv 0 41 0,
 iop 1 42 (.nilck (τ 41)),
 ifa 2 43 5 42,
 ild 3 44 43,
 imv 4 45 6,
 iop 5 46 (.iaddr 1 (τ 45) (.const (.int .i64 0))),
 ild 6 47 46,
 iia 7 48 1 44 47,
 ild 8 49 48,
 iln 9 50 49,
 imi 10 51 0]) (
 .block 2 (
 .loop ir92_l0)))) (
 .region [
 imv 0 39 6,
 iop 1 40 (.sliceS 1 (τ 39) (some (.const (.int .i64 1))) none),
 imv 2 6 40])
def ir92_l1 : ICode :=
 .seq (
 .seq (
 .region [
 imv 0 36 6,
 iln 1 37 36,
 ibn 2 38 .gtr (τ 37) (.const (.int .i64 0))]) (
 .cond (τ 38) (
 .skip) (
 .exit 0))) ir92_k4
def ir92_k9 : ICode :=
 .seq (
 .region [
 imv 0 82 4,
 imv 1 83 5,
 imv 2 2 82,
 imv 3 3 83]) (
 .ret)
def ir92_k3 : ICode :=
 .seq (
 .seq (
 .region [
 imv 0 30 0,
 iop 1 31 (.nilck (τ 30)),
 ifa 2 32 0 31,
 ifa 3 33 1 32,
 ild 4 34 33,
 iop 5 35 (.bslice 1 1 [.int .i64 0] [(0, 1, τ 34)]),
 imv 6 6 35]) (
 .block 0 (
 .loop ir92_l1))) ir92_k9
def ir92_k2 : ICode :=
 .seq (
 .region [
 imv 0 23 5,
 imv 1 24 0,
 iop 2 25 (.nilck (τ 24)),
 ifa 3 26 0 25,
 ifa 4 27 1 26,
 ild 5 28 27,
 iia 6 29 1 23 28,
 ino 7 (.store 1 (τ 29) (.const (.bool true)))]) ir92_k3
def ir92_k1 : ICode :=
 .seq (
 .region [
 imv 0 11 0,
 iop 1 12 (.nilck (τ 11)),
 ifa 2 13 0 12,
 ifa 3 14 0 13,
 ild 4 15 14,
 imv 6 17 0,
 iop 7 18 (.nilck (τ 17)),
 ifa 8 19 0 18,
 ifa 9 20 0 19,
 ild 10 21 20,
 iop 5 16 (.mkslice 1 8 [.int .i64 0] (τ 15) (τ 15)),
 imv 12 4 16,
 iop 11 22 (.mkslice 1 1 [.bool false] (τ 21) (τ 21)),
 imv 13 5 22]) ir92_k2
def ir92_b : ICode :=
 .seq (
 .region [
 iop 0 2 (.mov (.const (.slice none 0 0))),
 iop 1 3 (.mov (.const (.slice none 0 0)))]) ir92_k1
def ir92 : IFunc := ⟨84, [.tmp 2, .tmp 3], ir92_b⟩
theorem ir92_eq : cFunc Tryz.prog 92 = some ir92 := by kernel_rfl
theorem call92 {args : List Value} {m : Mem} {Φ : Value → Mem → Prop} (h : args.length ≤ 84) : WPCall Tryz.prog 92 args m Φ = WP Tryz.prog ir92_b (initσ args) m (retK [.tmp 2, .tmp 3] Φ) := wpCall_def ir92_eq h
def ir93_k4 : ICode :=
 .seq (
 .region [
 imv 0 38 5,
 ibn 1 39 .lss (τ 38) (.const (.int .i64 0)),
 imv 2 40 39,
 iog 3 41 40 false (.mov (τ 8)),
 iog 4 42 40 false (.mov (τ 5)),
 iog 5 43 40 false (.bin .lss .other (τ 41) (τ 42)),
 iop 6 44 (.pick (τ 40) (.const (.bool true)) (τ 43))]) (
 .cond (τ 44) (
 .region [
 imv 0 45 8,
 imv 1 5 45]) (
 .skip))
def ir93_k3 : ICode :=
 .seq (
 .block 1 (
 .seq (
 .region [
 imv 0 30 0,
 imv 1 31 1,
 imv 2 32 6,
 iia 3 33 1 31 32,
 ild 4 34 33,
 icl 5 35 132 [τ 30, τ 34],
 imv 6 29 35,
 iex 7 36 0 29,
 iex 8 37 1 29,
 imv 9 7 36,
 imv 10 8 37]) ir93_k4)) (
 .region [
 imv 0 23 0,
 imv 1 24 1,
 imv 2 25 6,
 iia 3 26 1 24 25,
 ild 4 27 26,
 icl 5 28 133 [τ 23, τ 27],
 imv 6 6 28])
def ir93_l0 : ICode :=
 .seq (
 .seq (
 .region [
 imv 0 16 6,
 imv 1 17 0,
 iop 2 18 (.nilck (τ 17)),
 ifa 3 19 0 18,
 ifa 4 20 1 19,
 ild 5 21 20,
 ibn 6 22 .neq (τ 16) (τ 21)]) (
 .cond (τ 22) (
 .skip) (
 .exit 0))) ir93_k3
def ir93_k7 : ICode :=
 .seq (
 .region [
 imv 0 68 10,
 ibn 1 69 .geq (τ 68) (.const (.int .i64 0))]) (
 .cond (τ 69) (
 .region [
 imv 0 70 0,
 iop 1 71 (.nilck (τ 70)),
 ifa 2 72 4 71,
 ild 3 73 72,
 imv 4 74 10,
 iia 5 75 1 73 74,
 ild 6 76 75,
 imv 7 77 5,
 ibn 8 78 .add (τ 76) (τ 77),
 iia 9 79 1 73 74,
 ist 10 1 79 78]) (
 .region [
 imv 0 80 0,
 iop 1 81 (.nilck (τ 80)),
 ifa 2 82 4 81,
 ild 3 83 82,
 imv 4 84 10,
 ibn 5 85 .sub (.const (.int .i64 (-1))) (τ 84),
 iia 6 86 1 83 85,
 ild 7 87 86,
 imv 8 88 5,
 ibn 9 89 .sub (τ 87) (τ 88),
 iia 10 90 1 83 85,
 ist 11 1 90 89]))
def ir93_k6 : ICode :=
 .seq (
 .block 3 (
 .seq (
 .region [
 imv 0 64 1,
 imv 1 65 9,
 iia 2 66 1 64 65,
 ild 3 67 66,
 imv 4 10 67]) ir93_k7)) (
 .region [
 imv 0 58 0,
 imv 1 59 1,
 imv 2 60 9,
 iia 3 61 1 59 60,
 ild 4 62 61,
 icl 5 63 133 [τ 58, τ 62],
 imv 6 9 63])
def ir93_l1 : ICode :=
 .seq (
 .seq (
 .region [
 imv 0 51 9,
 imv 1 52 0,
 iop 2 53 (.nilck (τ 52)),
 ifa 3 54 0 53,
 ifa 4 55 1 54,
 ild 5 56 55,
 ibn 6 57 .neq (τ 51) (τ 56)]) (
 .cond (τ 57) (
 .skip) (
 .exit 2))) ir93_k6
def ir93_k8 : ICode :=
 .seq (
 .region [
 imv 0 91 5,
 imv 1 4 91]) (
 .ret)
def ir93_k5 : ICode :=
 .seq (
 .seq (
 .region [
 imv 0 46 0,
 iop 1 47 (.nilck (τ 46)),
 ifa 2 48 0 47,
 ifa 3 49 2 48,
 ild 4 50 49,
 imv 5 9 50]) (
 .block 2 (
 .loop ir93_l1))) ir93_k8
def ir93_k2 : ICode :=
 .seq (
 .seq (
 .region [
 imv 0 11 0,
 iop 1 12 (.nilck (τ 11)),
 ifa 2 13 0 12,
 ifa 3 14 2 13,
 ild 4 15 14,
 imv 5 6 15]) (
 .block 0 (
 .loop ir93_l0))) ir93_k5
def ir93_k1 : ICode :=
 .seq (
 .region [
 imi 0 5 (-1)]) ir93_k2
def ir93_b : ICode :=
 .seq (
 .region [
 imi 0 4 0]) ir93_k1
def ir93 : IFunc := ⟨92, [.tmp 4], ir93_b⟩
theorem ir93_eq : cFunc Tryz.prog 93 = some ir93 := by kernel_rfl
theorem call93 {args : List Value} {m : Mem} {Φ : Value → Mem → Prop} (h : args.length ≤ 92) : WPCall Tryz.prog 93 args m Φ = WP Tryz.prog ir93_b (initσ args) m (retK [.tmp 4] Φ) := wpCall_def ir93_eq h
def ir103_k7 : ICode :=
 .seq (
 .region [
 imv 0 47 6,
 ifa 1 48 0 8,
 ild 2 49 48,
 iia 3 50 1 47 49,
 ild 4 51 50,
 imv 5 52 1,
 imv 6 53 7,
 iia 7 54 1 52 53,
 ild 8 55 54,
 ibn 9 56 .add (τ 51) (τ 55),
 iia 10 57 1 47 49,
 ist 11 1 57 56]) (
 .region [
 imv 0 58 6,
 ifa 1 59 1 8,
 ild 2 60 59,
 iia 3 61 1 58 60,
 ild 4 62 61,
 imv 5 63 1,
 imv 6 64 7,
 iia 7 65 1 63 64,
 ild 8 66 65,
 ibn 9 67 .sub (τ 62) (τ 66),
 iia 10 68 1 58 60,
 ist 11 1 68 67])
def ir103_k6 : ICode :=
 .seq (
 .seq (
 .region [
 imv 0 33 1,
 imv 1 34 7,
 iia 2 35 1 33 34,
 ild 3 36 35,
 ibn 4 37 .lss (τ 36) (.const (.int .i64 0)),
 imv 5 38 37,
 iog 6 39 38 false (.mov (τ 1)),
 iog 7 40 38 false (.mov (τ 7)),
 iog 8 41 38 false (.iaddr 1 (τ 39) (τ 40)),
 iog 9 42 38 false (.load false 1 (τ 41)),
 iog 10 43 38 false (.faddr 2 (τ 8)),
 iog 11 44 38 false (.load false 1 (τ 43)),
 iog 12 45 38 false (.bin .gtr .other (τ 42) (τ 44)),
 iop 13 46 (.pick (τ 38) (.const (.bool true)) (τ 45))]) (
 .cond (τ 46) (
 .seq (
 .region [
 imi 0 4 0,
 imb 1 5 false]) (
 .ret)) (
 .skip))) ir103_k7
def ir103_k5 : ICode :=
 .seq (
 .block 1 (
 .seq (
 .region [
 imv 0 30 28,
 iia 1 31 4 26 28,
 ila 2 32 4 31,
 iop 3 8 (.alloc [.int .i64 0, .int .i64 0, .int .i64 0, .int .i64 0]),
 imv 4 7 30,
 ist 5 4 8 32]) ir103_k6)) (
 .region [
 ibn 0 69 .add (τ 28) (.const (.int .i64 1)),
 imv 1 28 69])
def ir103_k4 : ICode :=
 .seq (
 .cond (τ 29) (
 .skip) (
 .exit 0)) ir103_k5
def ir103_l0 : ICode :=
 .seq (
 .region [
 ibn 0 29 .lss (τ 28) (τ 27)]) ir103_k4
def ir103_k11 : ICode :=
 .seq (
 .region [
 imv 0 77 9,
 ifa 1 78 1 2,
 ild 2 79 78,
 ibn 3 80 .neq (τ 77) (τ 79),
 imv 4 81 80,
 iog 5 82 81 true (.mov (τ 9)),
 iog 6 83 81 true (.faddr 2 (τ 2)),
 iog 7 84 81 true (.load false 1 (τ 83)),
 iog 8 85 81 true (.bin .neq .other (τ 82) (τ 84)),
 iop 9 86 (.pick (τ 81) (τ 85) (.const (.bool false))),
 imv 10 87 86,
 iog 11 88 87 true (.mov (τ 10)),
 iog 12 89 87 true (.bin .neq .other (τ 88) (.const (.int .i64 0))),
 iop 13 90 (.pick (τ 87) (τ 89) (.const (.bool false)))]) (
 .cond (τ 90) (
 .seq (
 .region [
 imi 0 4 0,
 imb 1 5 false]) (
 .ret)) (
 .skip))
def ir103_k10 : ICode :=
 .seq (
 .block 3 (
 .seq (
 .region [
 imv 0 74 72,
 iia 1 75 1 70 72,
 ild 2 76 75,
 imv 3 9 74,
 imv 4 10 76]) ir103_k11)) (
 .region [
 ibn 0 91 .add (τ 72) (.const (.int .i64 1)),
 imv 1 72 91])
def ir103_k9 : ICode :=
 .seq (
 .cond (τ 73) (
 .skip) (
 .exit 2)) ir103_k10
def ir103_l1 : ICode :=
 .seq (
 .region [
 ibn 0 73 .lss (τ 72) (τ 71)]) ir103_k9
def ir103_k12 : ICode :=
 .seq (
 .region [
 imv 0 92 6,
 ifa 1 93 1 2,
 ild 2 94 93,
 iia 3 95 1 92 94,
 ild 4 96 95,
 imv 5 4 96,
 imb 6 5 true]) (
 .ret)
def ir103_k8 : ICode :=
 .seq (
 .seq (
 .region [
 imv 0 70 6,
 iln 1 71 70,
 imi 2 72 0]) (
 .block 2 (
 .loop ir103_l1))) ir103_k12
def ir103_k3 : ICode :=
 .seq (
 .seq (
 .region [
 ifa 0 25 3 2,
 ild 1 26 25,
 iln 2 27 26,
 imi 3 28 0]) (
 .block 0 (
 .loop ir103_l0))) ir103_k8
def ir103_k2 : ICode :=
 .seq (
 .region [
 ifa 0 22 0 2,
 ild 1 23 22,
 iop 2 24 (.mkslice 1 8 [.int .i64 0] (τ 23) (τ 23)),
 imv 3 6 24]) ir103_k3
def ir103_k1 : ICode :=
 .seq (
 .seq (
 .region [
 ila 0 11 4 2,
 icl 1 12 91 [τ 11],
 iop 2 13 (.un .not (τ 12)),
 imv 3 14 13,
 iog 4 15 14 false (.mov (τ 1)),
 iog 5 16 14 false (.lenV (τ 15)),
 iog 6 17 14 false (.faddr 3 (τ 2)),
 iog 7 18 14 false (.load false 1 (τ 17)),
 iog 8 19 14 false (.lenV (τ 18)),
 iog 9 20 14 false (.bin .neq .other (τ 16) (τ 19)),
 iop 10 21 (.pick (τ 14) (.const (.bool true)) (τ 20))]) (
 .cond (τ 21) (
 .seq (
 .region [
 imi 0 4 0,
 imb 1 5 false]) (
 .ret)) (
 .skip))) ir103_k2
def ir103_b : ICode :=
 .seq (
 .region [
 iop 0 2 (.box (τ 0)),
 imi 1 4 0,
 imb 2 5 false]) ir103_k1
def ir103 : IFunc := ⟨97, [.tmp 4, .tmp 5], ir103_b⟩
theorem ir103_eq : cFunc Tryz.prog 103 = some ir103 := by kernel_rfl
theorem call103 {args : List Value} {m : Mem} {Φ : Value → Mem → Prop} (h : args.length ≤ 97) : WPCall Tryz.prog 103 args m Φ = WP Tryz.prog ir103_b (initσ args) m (retK [.tmp 4, .tmp 5] Φ) := wpCall_def ir103_eq h
def ir115_k1 : ICode :=
 .seq (
 .region [
 imv 0 3 0,
 iln 1 4 3,
 imv 2 2 4]) (
 .ret)
def ir115_b : ICode :=
 .seq (
 .region [
 imi 0 2 0]) ir115_k1
def ir115 : IFunc := ⟨5, [.tmp 2], ir115_b⟩
theorem ir115_eq : cFunc Tryz.prog 115 = some ir115 := by kernel_rfl
theorem call115 {args : List Value} {m : Mem} {Φ : Value → Mem → Prop} (h : args.length ≤ 5) : WPCall Tryz.prog 115 args m Φ = WP Tryz.prog ir115_b (initσ args) m (retK [.tmp 2] Φ) := wpCall_def ir115_eq h
def ir116_k4 : ICode :=
 .seq (
 .region [
 imv 0 13 0,
 iop 1 14 (.icall [(171, 233, none)] (τ 13) []),
 imv 2 2 14]) (
 .ret)
def ir116_k3 : ICode :=
 .seq (
 .region [
 imv 0 10 0,
 imv 1 11 3,
 icl 2 12 150 [τ 10, .const (.int .i64 0), τ 11]]) ir116_k4
def ir116_k2 : ICode :=
 .seq (
 .region [
 imv 0 7 0,
 imv 1 8 3,
 iop 2 9 (.icall [(171, 235, some (false, 1))] (τ 7) [.const (.int .i64 0), τ 8])]) ir116_k3
def ir116_k1 : ICode :=
 .seq (
 .region [
 imv 0 4 0,
 iop 1 5 (.icall [(17, 229, none), (171, 115, some (false, 1))] (τ 4) []),
 ibn 2 6 .sub (τ 5) (.const (.int .i64 1)),
 imv 3 3 6]) ir116_k2
def ir116_b : ICode :=
 .seq (
 .region [
 iop 0 2 (.mov (.const (.nilIface)))]) ir116_k1
def ir116 : IFunc := ⟨15, [.tmp 2], ir116_b⟩
theorem ir116_eq : cFunc Tryz.prog 116 = some ir116 := by kernel_rfl
theorem call116 {args : List Value} {m : Mem} {Φ : Value → Mem → Prop} (h : args.length ≤ 15) : WPCall Tryz.prog 116 args m Φ = WP Tryz.prog ir116_b (initσ args) m (retK [.tmp 2] Φ) := wpCall_def ir116_eq h
def ir117_k2 : ICode :=
 .seq (
 .region [
 ifa 0 20 0 8,
 ild 1 21 20,
 ifa 2 22 1 8,
 ild 3 23 22,
 ifa 4 24 2 8,
 ild 5 25 24,
 imv 6 26 0,
 iop 7 27 (.nilck (τ 26)),
 ifa 8 28 4 27,
 ild 9 29 28,
 imv 10 30 1,
 iia 11 31 1 29 30,
 ild 12 32 31,
 ibn 13 33 .sub (τ 25) (τ 32),
 ifa 14 34 3 8,
 ild 15 35 34,
 imv 16 4 21,
 imv 17 5 23,
 imv 18 6 33,
 imv 19 7 35]) (
 .ret)
def ir117_k4 : ICode :=
 .seq (
 .region [
 ifa 0 45 1 9,
 ild 1 46 45,
 ifa 2 47 0 9,
 ild 3 48 47,
 imv 4 49 0,
 iop 5 50 (.nilck (τ 49)),
 ifa 6 51 4 50,
 ild 7 52 51,
 imv 8 53 1,
 ibn 9 54 .sub (.const (.int .i64 (-1))) (τ 53),
 iia 10 55 1 52 54,
 ild 11 56 55,
 ifa 12 57 3 9,
 ild 13 58 57,
 iop 14 59 (.un .neg (τ 58)),
 imv 15 4 46,
 imv 16 5 48,
 imv 17 6 56,
 imv 18 7 59]) (
 .ret)
def ir117_k3 : ICode :=
 .seq (
 .region [
 imv 0 36 0,
 iop 1 37 (.nilck (τ 36)),
 ifa 2 38 0 37,
 ifa 3 39 3 38,
 ild 4 40 39,
 imv 5 41 1,
 ibn 6 42 .sub (.const (.int .i64 (-1))) (τ 41),
 iia 7 43 4 40 42,
 ila 8 44 4 43,
 iop 9 9 (.alloc [.int .i64 0, .int .i64 0, .int .i64 0, .int .i64 0]),
 ist 10 4 9 44]) ir117_k4
def ir117_k1 : ICode :=
 .seq (
 .seq (
 .region [
 imv 0 10 1,
 ibn 1 11 .geq (τ 10) (.const (.int .i64 0))]) (
 .cond (τ 11) (
 .seq (
 .region [
 imv 0 12 0,
 iop 1 13 (.nilck (τ 12)),
 ifa 2 14 0 13,
 ifa 3 15 3 14,
 ild 4 16 15,
 imv 5 17 1,
 iia 6 18 4 16 17,
 ila 7 19 4 18,
 iop 8 8 (.alloc [.int .i64 0, .int .i64 0, .int .i64 0, .int .i64 0]),
 ist 9 4 8 19]) ir117_k2) (
 .skip))) ir117_k3
def ir117_b : ICode :=
 .seq (
 .region [
 imi 0 4 0,
 imi 1 5 0,
 imi 2 6 0,
 imi 3 7 0]) ir117_k1
def ir117 : IFunc := ⟨60, [.tmp 4, .tmp 5, .tmp 6, .tmp 7], ir117_b⟩
theorem ir117_eq : cFunc Tryz.prog 117 = some ir117 := by kernel_rfl
theorem call117 {args : List Value} {m : Mem} {Φ : Value → Mem → Prop} (h : args.length ≤ 60) : WPCall Tryz.prog 117 args m Φ = WP Tryz.prog ir117_b (initσ args) m (retK [.tmp 4, .tmp 5, .tmp 6, .tmp 7] Φ) := wpCall_def ir117_eq h
def ir118_b : ICode :=
 .seq (
 .region [
 imv 0 4 0,
 imv 1 5 1,
 iop 2 6 (.icall [(171, 234, none)] (τ 4) [τ 5])]) (
 .region [
 imv 0 7 0,
 imv 1 8 0,
 iop 2 9 (.icall [(17, 229, none), (171, 115, some (false, 1))] (τ 8) []),
 ibn 3 10 .sub (τ 9) (.const (.int .i64 1)),
 icl 4 11 151 [τ 7, τ 10]])
def ir118 : IFunc := ⟨12, [], ir118_b⟩
theorem ir118_eq : cFunc Tryz.prog 118 = some ir118 := by kernel_rfl
theorem call118 {args : List Value} {m : Mem} {Φ : Value → Mem → Prop} (h : args.length ≤ 12) : WPCall Tryz.prog 118 args m Φ = WP Tryz.prog ir118_b (initσ args) m (retK [] Φ) := wpCall_def ir118_eq h
def ir131_k1 : ICode :=
 .seq (
 .region [
 imv 0 4 0,
 ibn 1 5 .geq (τ 4) (.const (.int .i64 0)),
 imv 2 6 5,
 iog 3 7 6 true (.mov (τ 0)),
 iog 4 8 6 true (.faddr 0 (τ 1)),
 iog 5 9 6 true (.load false 1 (τ 8)),
 iog 6 10 6 true (.bin .lss .other (τ 7) (τ 9)),
 iop 7 11 (.pick (τ 6) (τ 10) (.const (.bool false))),
 imv 8 3 11]) (
 .ret)
def ir131_b : ICode :=
 .seq (
 .region [
 imb 0 3 false]) ir131_k1
def ir131 : IFunc := ⟨12, [.tmp 3], ir131_b⟩
theorem ir131_eq : cFunc Tryz.prog 131 = some ir131 := by kernel_rfl
theorem call131 {args : List Value} {m : Mem} {Φ : Value → Mem → Prop} (h : args.length ≤ 12) : WPCall Tryz.prog 131 args m Φ = WP Tryz.prog ir131_b (initσ args) m (retK [.tmp 3] Φ) := wpCall_def ir131_eq h
def ir132_k2 : ICode :=
 .seq (
 .region [
 imv 0 34 0,
 iop 1 35 (.nilck (τ 34)),
 ifa 2 36 0 35,
 ifa 3 37 3 36,
 ild 4 38 37,
 imv 5 39 1,
 ibn 6 40 .sub (.const (.int .i64 (-1))) (τ 39),
 iia 7 41 4 38 40,
 ifa 8 42 0 41,
 ild 9 43 42,
 imv 10 44 0,
 iop 11 45 (.nilck (τ 44)),
 ifa 12 46 4 45,
 ild 13 47 46,
 imv 14 48 1,
 ibn 15 49 .sub (.const (.int .i64 (-1))) (τ 48),
 iia 16 50 1 47 49,
 ild 17 51 50,
 imv 18 4 43,
 imv 19 5 51]) (
 .ret)
def ir132_k1 : ICode :=
 .seq (
 .seq (
 .region [
 imv 0 6 1,
 ibn 1 7 .geq (τ 6) (.const (.int .i64 0))]) (
 .cond (τ 7) (
 .seq (
 .region [
 imv 0 8 0,
 iop 1 9 (.nilck (τ 8)),
 ifa 2 10 0 9,
 ifa 3 11 3 10,
 ild 4 12 11,
 imv 5 13 1,
 iia 6 14 4 12 13,
 ifa 7 15 1 14,
 ild 8 16 15,
 imv 9 17 0,
 iop 10 18 (.nilck (τ 17)),
 ifa 11 19 0 18,
 ifa 12 20 3 19,
 ild 13 21 20,
 imv 14 22 1,
 iia 15 23 4 21 22,
 ifa 16 24 2 23,
 ild 17 25 24,
 imv 18 26 0,
 iop 19 27 (.nilck (τ 26)),
 ifa 20 28 4 27,
 ild 21 29 28,
 imv 22 30 1,
 iia 23 31 1 29 30,
 ild 24 32 31,
 ibn 25 33 .sub (τ 25) (τ 32),
 imv 26 4 16,
 imv 27 5 33]) (
 .ret)) (
 .skip))) ir132_k2
def ir132_b : ICode :=
 .seq (
 .region [
 imi 0 4 0,
 imi 1 5 0]) ir132_k1
def ir132 : IFunc := ⟨52, [.tmp 4, .tmp 5], ir132_b⟩
theorem ir132_eq : cFunc Tryz.prog 132 = some ir132 := by kernel_rfl
theorem call132 {args : List Value} {m : Mem} {Φ : Value → Mem → Prop} (h : args.length ≤ 52) : WPCall Tryz.prog 132 args m Φ = WP Tryz.prog ir132_b (initσ args) m (retK [.tmp 4, .tmp 5] Φ) := wpCall_def ir132_eq h
def ir133_k2 : ICode :=
 .seq (
 .region [
 imv 0 16 0,
 iop 1 17 (.nilck (τ 16)),
 ifa 2 18 0 17,
 ifa 3 19 3 18,
 ild 4 20 19,
 imv 5 21 1,
 ibn 6 22 .sub (.const (.int .i64 (-1))) (τ 21),
 iia 7 23 4 20 22,
 ifa 8 24 1 23,
 ild 9 25 24,
 imv 10 4 25]) (
 .ret)
def ir133_k1 : ICode :=
 .seq (
 .seq (
 .region [
 imv 0 5 1,
 ibn 1 6 .geq (τ 5) (.const (.int .i64 0))]) (
 .cond (τ 6) (
 .seq (
 .region [
 imv 0 7 0,
 iop 1 8 (.nilck (τ 7)),
 ifa 2 9 0 8,
 ifa 3 10 3 9,
 ild 4 11 10,
 imv 5 12 1,
 iia 6 13 4 11 12,
 ifa 7 14 0 13,
 ild 8 15 14,
 imv 9 4 15]) (
 .ret)) (
 .skip))) ir133_k2
def ir133_b : ICode :=
 .seq (
 .region [
 imi 0 4 0]) ir133_k1
def ir133 : IFunc := ⟨26, [.tmp 4], ir133_b⟩
theorem ir133_eq : cFunc Tryz.prog 133 = some ir133 := by kernel_rfl
theorem call133 {args : List Value} {m : Mem} {Φ : Value → Mem → Prop} (h : args.length ≤ 26) : WPCall Tryz.prog 133 args m Φ = WP Tryz.prog ir133_b (initσ args) m (retK [.tmp 4] Φ) := wpCall_def ir133_eq h
def ir150_k6 : ICode :=
 .seq (
 .region [
 imv 0 25 10,
 imv 1 26 2,
 ibn 2 27 .lss (τ 25) (τ 26),
 imv 3 28 27,
 iog 4 29 28 true (.mov (τ 0)),
 iog 5 30 28 true (.mov (τ 10)),
 iog 6 31 28 true (.mov (τ 8)),
 iog 7 32 28 true (.icall [(171, 232, some (false, 1))] (τ 29) [τ 30, τ 31]),
 iop 8 33 (.pick (τ 28) (τ 32) (.const (.bool false)))]) (
 .cond (τ 33) (
 .region [
 imv 0 34 10,
 imv 1 9 34]) (
 .skip))
def ir150_k8 : ICode :=
 .seq (
 .region [
 imv 0 40 0,
 imv 1 41 7,
 imv 2 42 9,
 iop 3 43 (.icall [(171, 235, some (false, 1))] (τ 40) [τ 41, τ 42])]) (
 .region [
 imv 0 44 9,
 imv 1 7 44])
def ir150_k7 : ICode :=
 .seq (
 .seq (
 .region [
 imv 0 35 0,
 imv 1 36 9,
 imv 2 37 7,
 iop 3 38 (.icall [(171, 232, some (false, 1))] (τ 35) [τ 36, τ 37]),
 iop 4 39 (.un .not (τ 38))]) (
 .cond (τ 39) (
 .exit 0) (
 .skip))) ir150_k8
def ir150_k5 : ICode :=
 .seq (
 .seq (
 .region [
 imv 0 23 8,
 ibn 1 24 .add (τ 23) (.const (.int .i64 1)),
 imv 2 10 24]) ir150_k6) ir150_k7
def ir150_k4 : ICode :=
 .seq (
 .region [
 imv 0 22 8,
 imv 1 9 22]) ir150_k5
def ir150_k3 : ICode :=
 .seq (
 .seq (
 .region [
 imv 0 15 8,
 imv 1 16 2,
 ibn 2 17 .geq (τ 15) (τ 16),
 imv 3 18 17,
 iog 4 19 18 false (.mov (τ 8)),
 iog 5 20 18 false (.bin .lss .other (τ 19) (.const (.int .i64 0))),
 iop 6 21 (.pick (τ 18) (.const (.bool true)) (τ 20))]) (
 .cond (τ 21) (
 .exit 0) (
 .skip))) ir150_k4
def ir150_l0 : ICode :=
 .block 1 (
 .seq (
 .region [
 imv 0 12 7,
 ibn 1 13 .mul (.const (.int .i64 2)) (τ 12),
 ibn 2 14 .add (τ 13) (.const (.int .i64 1)),
 imv 3 8 14]) ir150_k3)
def ir150_k9 : ICode :=
 .seq (
 .region [
 imv 0 45 7,
 imv 1 46 1,
 ibn 2 47 .gtr (τ 45) (τ 46),
 imv 3 6 47]) (
 .ret)
def ir150_k2 : ICode :=
 .seq (
 .block 0 (
 .loop ir150_l0)) ir150_k9
def ir150_k1 : ICode :=
 .seq (
 .region [
 imv 0 11 1,
 imv 1 7 11]) ir150_k2
def ir150_b : ICode :=
 .seq (
 .region [
 imb 0 6 false]) ir150_k1
def ir150 : IFunc := ⟨48, [.tmp 6], ir150_b⟩
theorem ir150_eq : cFunc Tryz.prog 150 = some ir150 := by kernel_rfl
theorem call150 {args : List Value} {m : Mem} {Φ : Value → Mem → Prop} (h : args.length ≤ 48) : WPCall Tryz.prog 150 args m Φ = WP Tryz.prog ir150_b (initσ args) m (retK [.tmp 6] Φ) := wpCall_def ir150_eq h
def ir151_k2 : ICode :=
 .seq (
 .region [
 imv 0 18 0,
 imv 1 19 4,
 imv 2 20 1,
 iop 3 21 (.icall [(171, 235, some (false, 1))] (τ 18) [τ 19, τ 20])]) (
 .region [
 imv 0 22 4,
 imv 1 1 22])
def ir151_k1 : ICode :=
 .seq (
 .seq (
 .region [
 imv 0 8 4,
 imv 1 9 1,
 ibn 2 10 .eql (τ 8) (τ 9),
 imv 3 11 10,
 iog 4 12 11 false (.mov (τ 0)),
 iog 5 13 11 false (.mov (τ 1)),
 iog 6 14 11 false (.mov (τ 4)),
 iog 7 15 11 false (.icall [(171, 232, some (false, 1))] (τ 12) [τ 13, τ 14]),
 iog 8 16 11 false (.un .not (τ 15)),
 iop 9 17 (.pick (τ 11) (.const (.bool true)) (τ 16))]) (
 .cond (τ 17) (
 .exit 0) (
 .skip))) ir151_k2
def ir151_l0 : ICode :=
 .block 1 (
 .seq (
 .region [
 imv 0 5 1,
 ibn 1 6 .sub (τ 5) (.const (.int .i64 1)),
 ibn 2 7 .quo (τ 6) (.const (.int .i64 2)),
 imv 3 4 7]) ir151_k1)
def ir151_b : ICode :=
 .block 0 (
 .loop ir151_l0)
def ir151 : IFunc := ⟨23, [], ir151_b⟩
theorem ir151_eq : cFunc Tryz.prog 151 = some ir151 := by kernel_rfl
theorem call151 {args : List Value} {m : Mem} {Φ : Value → Mem → Prop} (h : args.length ≤ 23) : WPCall Tryz.prog 151 args m Φ = WP Tryz.prog ir151_b (initσ args) m (retK [] Φ) := wpCall_def ir151_eq h
def ir233_k4 : ICode :=
 .seq (
 .region [
 ila 0 23 2 4,
 iop 1 24 (.mkif 173 (τ 23)),
 imv 2 2 24]) (
 .ret)
def ir233_k3 : ICode :=
 .seq (
 .region [
 imv 0 16 0,
 imv 1 17 0,
 iop 2 18 (.nilck (τ 17)),
 ild 3 19 18,
 imv 4 20 3,
 iop 5 21 (.sliceS 2 (τ 19) none (some (τ 20))),
 iop 6 22 (.nilck (τ 16)),
 ist 7 1 22 21]) ir233_k4
def ir233_k2 : ICode :=
 .seq (
 .region [
 imv 0 10 0,
 iop 1 11 (.nilck (τ 10)),
 ild 2 12 11,
 imv 3 13 3,
 iia 4 14 2 12 13,
 ila 5 15 2 14,
 iop 6 4 (.alloc [.int .i64 0, .int .i64 0]),
 ist 7 2 4 15]) ir233_k3
def ir233_k1 : ICode :=
 .seq (
 .region [
 imv 0 5 0,
 iop 1 6 (.nilck (τ 5)),
 ild 2 7 6,
 iln 3 8 7,
 ibn 4 9 .sub (τ 8) (.const (.int .i64 1)),
 imv 5 3 9]) ir233_k2
def ir233_b : ICode :=
 .seq (
 .region [
 iop 0 2 (.mov (.const (.nilIface)))]) ir233_k1
def ir233 : IFunc := ⟨25, [.tmp 2], ir233_b⟩
theorem ir233_eq : cFunc Tryz.prog 233 = some ir233 := by kernel_rfl
theorem call233 {args : List Value} {m : Mem} {Φ : Value → Mem → Prop} (h : args.length ≤ 25) : WPCall Tryz.prog 233 args m Φ = WP Tryz.prog ir233_b (initσ args) m (retK [.tmp 2] Φ) := wpCall_def ir233_eq h
def ir234_b : ICode :=
 .region [
 imv 0 4 0,
 imv 1 5 0,
 iop 2 6 (.nilck (τ 5)),
 ild 3 7 6,
 imv 4 8 1,
 iop 5 9 (.tass 173 (τ 8)),
 iop 6 10 (.bslice 2 1 [.int .i64 0, .int .i64 0] [(0, 2, τ 9)]),
 iop 7 11 (.app 2 16 (τ 7) (τ 10)),
 iop 8 12 (.nilck (τ 4)),
 ist 9 1 12 11]
def ir234 : IFunc := ⟨13, [], ir234_b⟩
theorem ir234_eq : cFunc Tryz.prog 234 = some ir234 := by kernel_rfl
theorem call234 {args : List Value} {m : Mem} {Φ : Value → Mem → Prop} (h : args.length ≤ 13) : WPCall Tryz.prog 234 args m Φ = WP Tryz.prog ir234_b (initσ args) m (retK [] Φ) := wpCall_def ir234_eq h
def ir235_b : ICode :=
 .region [
 imv 0 6 0,
 imv 1 7 1,
 imv 2 8 0,
 imv 3 9 2,
 imv 4 10 0,
 imv 5 11 2,
 iia 6 12 2 10 11,
 ila 7 13 2 12,
 imv 8 14 0,
 imv 9 15 1,
 iia 10 16 2 14 15,
 ila 11 17 2 16,
 iia 12 18 2 6 7,
 ist 13 2 18 13,
 iia 14 19 2 8 9,
 ist 15 2 19 17]
def ir235 : IFunc := ⟨20, [], ir235_b⟩
theorem ir235_eq : cFunc Tryz.prog 235 = some ir235 := by kernel_rfl
theorem call235 {args : List Value} {m : Mem} {Φ : Value → Mem → Prop} (h : args.length ≤ 20) : WPCall Tryz.prog 235 args m Φ = WP Tryz.prog ir235_b (initσ args) m (retK [] Φ) := wpCall_def ir235_eq h
end Go.Proofs.YticjcminhkgabaaGreatDoor
