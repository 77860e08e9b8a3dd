/-
 The intermediate forms of this seat's functions, written by a program of ours (wip/Ir.lean); each is checked against the loaded program.
-/
import Derived.Test.YticjcminhkgabaaGreatDoorRows
import Derived.Test.YticjcminhkgabaaGreatDoorFwX
namespace Go.Proofs.YticjcminhkgabaaGreatDoor
open Go Go.DI

def ir64_k2 : ICode :=
 .seq (
 .region [
 ila 0 10 3 3,
 ist 1 3 2 10]) (
 .ret)
def ir64_k1 : ICode :=
 .seq (
 .region [
 imv 0 6 0,
 icl 1 7 67 [τ 6, .const (.int .i64 1)],
 imv 2 5 7,
 iex 3 8 0 5,
 iex 4 9 1 5,
 iop 5 3 (.alloc [.bool false, .slice none 0 0, .slice none 0 0]),
 ist 6 3 3 8,
 imv 7 4 9]) ir64_k2
def ir64_b : ICode :=
 .seq (
 .region [
 iop 0 2 (.alloc [.bool false, .slice none 0 0, .slice none 0 0])]) ir64_k1
def ir64 : IFunc := ⟨11, [.cell 2 true 3], ir64_b⟩
theorem ir64_eq : cFunc Tryz.prog 64 = some ir64 := by kernel_rfl
theorem call64 {args : List Value} {m : Mem} {Φ : Value → Mem → Prop} (h : args.length ≤ 11) : WPCall Tryz.prog 64 args m Φ = WP Tryz.prog ir64_b (initσ args) m (retK [.cell 2 true 3] Φ) := wpCall_def ir64_eq h
def ir67_k2 : ICode :=
 .seq (
 .region [
 imv 0 9 0,
 ibn 1 10 .lss (τ 9) (.const (.int .i64 0)),
 imv 2 11 1,
 ibn 3 12 .lss (τ 11) (.const (.int .i64 0)),
 iop 4 13 (.bin .neq .bool (τ 10) (τ 12)),
 imv 5 14 0,
 icl 6 15 108 [τ 14],
 icl 7 16 107 [τ 15],
 imv 8 17 1,
 icl 9 18 108 [τ 17],
 icl 10 19 107 [τ 18],
 icl 11 20 106 [τ 13, τ 16, τ 19],
 ist 12 3 4 20,
 imi 13 5 0]) (
 .ret)
def ir67_k1 : ICode :=
 .seq (
 .seq (
 .region [
 imv 0 6 1,
 ibn 1 7 .eql (τ 6) (.const (.int .i64 0))]) (
 .cond (τ 7) (
 .seq (
 .region [
 iop 0 8 (.build [.bool false, .slice none 0 0, .slice none 0 0] []),
 ist 1 3 4 8,
 imi 2 5 3]) (
 .ret)) (
 .skip))) ir67_k2
def ir67_b : ICode :=
 .seq (
 .region [
 iop 0 4 (.alloc [.bool false, .slice none 0 0, .slice none 0 0]),
 imi 1 5 0]) ir67_k1
def ir67 : IFunc := ⟨21, [.cell 4 true 3, .tmp 5], ir67_b⟩
theorem ir67_eq : cFunc Tryz.prog 67 = some ir67 := by kernel_rfl
theorem call67 {args : List Value} {m : Mem} {Φ : Value → Mem → Prop} (h : args.length ≤ 21) : WPCall Tryz.prog 67 args m Φ = WP Tryz.prog ir67_b (initσ args) m (retK [.cell 4 true 3, .tmp 5] Φ) := wpCall_def ir67_eq h
def ir106_k4 : ICode :=
 .seq (
 .region [
 imv 0 24 7,
 iln 1 25 24,
 ibn 2 26 .gtr (τ 25) (.const (.int .i64 1)),
 imv 3 27 26,
 iog 4 28 27 false (.mov (τ 7)),
 iog 5 29 27 false (.iaddr 1 (τ 28) (.const (.int .i64 0))),
 iog 6 30 27 false (.load false 1 (τ 29)),
 iog 7 31 27 false (.bin .gtr .other (τ 30) (.const (.int .u32 1))),
 iop 8 32 (.pick (τ 27) (.const (.bool true)) (τ 31))]) (
 .cond (τ 32) (
 .seq (
 .region [
 imv 0 34 1,
 imv 1 35 7,
 icl 2 36 139 [τ 34, τ 35],
 imv 3 33 36,
 iex 4 37 0 33,
 iex 5 38 1 33,
 iex 6 39 2 33,
 imv 7 1 37]) (
 .region [
 imv 0 41 2,
 imv 1 42 7,
 icl 2 43 139 [τ 41, τ 42],
 imv 3 40 43,
 iex 4 44 0 40,
 iex 5 45 1 40,
 iex 6 46 2 40,
 imv 7 2 44])) (
 .skip))
def ir106_k5 : ICode :=
 .seq (
 .region [
 imv 0 47 0,
 imv 1 48 1,
 imv 2 49 2,
 iop 3 50 (.build [.bool false, .slice none 0 0, .slice none 0 0] [(0, 1, τ 47), (1, 1, τ 48), (2, 1, τ 49)]),
 ist 4 3 6 50]) (
 .ret)
def ir106_k3 : ICode :=
 .seq (
 .seq (
 .region [
 imv 0 19 1,
 imv 1 20 2,
 icl 2 21 138 [τ 19, τ 20],
 imv 3 18 21,
 iex 4 22 0 18,
 iex 5 23 1 18,
 imv 6 7 22,
 imv 7 8 23]) ir106_k4) ir106_k5
def ir106_k2 : ICode :=
 .seq (
 .seq (
 .region [
 imv 0 13 1,
 iln 1 14 13,
 ibn 2 15 .eql (τ 14) (.const (.int .i64 0))]) (
 .cond (τ 15) (
 .seq (
 .region [
 iop 0 16 (.bslice 1 1 [.int .u32 0] [(0, 1, .const (.int .u32 1))]),
 iop 1 17 (.build [.bool false, .slice none 0 0, .slice none 0 0] [(2, 1, τ 16)]),
 ist 2 3 6 17]) (
 .ret)) (
 .skip))) ir106_k3
def ir106_k1 : ICode :=
 .seq (
 .region [
 imv 0 9 1,
 icl 1 10 124 [τ 9],
 imv 2 11 2,
 icl 3 12 124 [τ 11],
 imv 4 1 10,
 imv 5 2 12]) ir106_k2
def ir106_b : ICode :=
 .seq (
 .region [
 iop 0 6 (.alloc [.bool false, .slice none 0 0, .slice none 0 0])]) ir106_k1
def ir106 : IFunc := ⟨51, [.cell 6 true 3], ir106_b⟩
theorem ir106_eq : cFunc Tryz.prog 106 = some ir106 := by kernel_rfl
theorem call106 {args : List Value} {m : Mem} {Φ : Value → Mem → Prop} (h : args.length ≤ 51) : WPCall Tryz.prog 106 args m Φ = WP Tryz.prog ir106_b (initσ args) m (retK [.cell 6 true 3] Φ) := wpCall_def ir106_eq h
def ir108_k2 : ICode :=
 .seq (
 .region [
 imv 0 10 0,
 iop 1 11 (.convI .u64 (τ 10)),
 imv 2 2 11]) (
 .ret)
def ir108_k1 : ICode :=
 .seq (
 .seq (
 .region [
 imv 0 3 0,
 ibn 1 4 .lss (τ 3) (.const (.int .i64 0))]) (
 .cond (τ 4) (
 .seq (
 .region [
 imv 0 5 0,
 ibn 1 6 .add (τ 5) (.const (.int .i64 1)),
 iop 2 7 (.un .neg (τ 6)),
 iop 3 8 (.convI .u64 (τ 7)),
 ibn 4 9 .add (τ 8) (.const (.int .u64 1)),
 imv 5 2 9]) (
 .ret)) (
 .skip))) ir108_k2
def ir108_b : ICode :=
 .seq (
 .region [
 iop 0 2 (.mov (.const (.int .u64 0)))]) ir108_k1
def ir108 : IFunc := ⟨12, [.tmp 2], ir108_b⟩
theorem ir108_eq : cFunc Tryz.prog 108 = some ir108 := by kernel_rfl
theorem call108 {args : List Value} {m : Mem} {Φ : Value → Mem → Prop} (h : args.length ≤ 12) : WPCall Tryz.prog 108 args m Φ = WP Tryz.prog ir108_b (initσ args) m (retK [.tmp 2] Φ) := wpCall_def ir108_eq h
def ir143_k6 : ICode :=
 .seq (
 .seq (
 .region [
 imv 0 23 8,
 ibn 1 24 .neq (τ 23) (.const (.int .i64 0))]) (
 .cond (τ 24) (
 .seq (
 .region [
 iop 0 25 (.build [.bool false, .slice none 0 0, .slice none 0 0] []),
 imv 1 26 8,
 ist 2 3 2 25,
 imv 3 3 26]) (
 .ret)) (
 .skip))) (
 .region [
 ila 0 27 3 7,
 ist 1 3 4 27])
def ir143_k5 : ICode :=
 .seq (
 .region [
 ila 0 18 3 4,
 ila 1 19 3 6,
 icl 2 20 163 [τ 18, τ 19],
 imv 3 17 20,
 iex 4 21 0 17,
 iex 5 22 1 17,
 iop 6 7 (.alloc [.bool false, .slice none 0 0, .slice none 0 0]),
 ist 7 3 7 21,
 imv 8 8 22]) ir143_k6
def ir143_k4 : ICode :=
 .seq (
 .block 1 (
 .seq (
 .region [
 iia 0 15 3 11 13,
 ila 1 16 3 15,
 iop 2 6 (.alloc [.bool false, .slice none 0 0, .slice none 0 0]),
 ist 3 3 6 16]) ir143_k5)) (
 .region [
 ibn 0 28 .add (τ 13) (.const (.int .i64 1)),
 imv 1 13 28])
def ir143_k3 : ICode :=
 .seq (
 .cond (τ 14) (
 .skip) (
 .exit 0)) ir143_k4
def ir143_l0 : ICode :=
 .seq (
 .region [
 ibn 0 14 .lss (τ 13) (τ 12)]) ir143_k3
def ir143_k7 : ICode :=
 .seq (
 .region [
 ila 0 29 3 4,
 ist 1 3 2 29,
 imi 2 3 0]) (
 .ret)
def ir143_k2 : ICode :=
 .seq (
 .seq (
 .region [
 imv 0 11 0,
 iln 1 12 11,
 imi 2 13 0]) (
 .block 0 (
 .loop ir143_l0))) ir143_k7
def ir143_k1 : ICode :=
 .seq (
 .region [
 icl 0 9 162 [.const (.int .u64 1)],
 iop 1 10 (.build [.bool false, .slice none 0 0, .slice none 0 0] [(2, 1, τ 9)]),
 iop 2 4 (.alloc [.bool false, .slice none 0 0, .slice none 0 0]),
 ist 3 3 4 10]) ir143_k2
def ir143_b : ICode :=
 .seq (
 .region [
 iop 0 2 (.alloc [.bool false, .slice none 0 0, .slice none 0 0]),
 imi 1 3 0]) ir143_k1
def ir143 : IFunc := ⟨30, [.cell 2 true 3, .tmp 3], ir143_b⟩
theorem ir143_eq : cFunc Tryz.prog 143 = some ir143 := by kernel_rfl
theorem call143 {args : List Value} {m : Mem} {Φ : Value → Mem → Prop} (h : args.length ≤ 30) : WPCall Tryz.prog 143 args m Φ = WP Tryz.prog ir143_b (initσ args) m (retK [.cell 2 true 3, .tmp 3] Φ) := wpCall_def ir143_eq h
def ir144_k2 : ICode :=
 .seq (
 .region [
 imv 0 9 0,
 ibn 1 10 .lss (τ 9) (.const (.int .i64 0)),
 imv 2 11 1,
 ibn 3 12 .lss (τ 11) (.const (.int .i64 0)),
 iop 4 13 (.bin .neq .bool (τ 10) (τ 12)),
 imv 5 14 0,
 icl 6 15 165 [τ 14],
 imv 7 16 1,
 icl 8 17 165 [τ 16],
 icl 9 18 164 [τ 13, τ 15, τ 17],
 iex 10 19 0 18,
 iex 11 20 1 18,
 ist 12 3 4 19,
 imv 13 5 20]) (
 .ret)
def ir144_k1 : ICode :=
 .seq (
 .seq (
 .region [
 imv 0 6 1,
 ibn 1 7 .eql (τ 6) (.const (.int .i64 0))]) (
 .cond (τ 7) (
 .seq (
 .region [
 iop 0 8 (.build [.bool false, .slice none 0 0, .slice none 0 0] []),
 ist 1 3 4 8,
 imi 2 5 3]) (
 .ret)) (
 .skip))) ir144_k2
def ir144_b : ICode :=
 .seq (
 .region [
 iop 0 4 (.alloc [.bool false, .slice none 0 0, .slice none 0 0]),
 imi 1 5 0]) ir144_k1
def ir144 : IFunc := ⟨21, [.cell 4 true 3, .tmp 5], ir144_b⟩
theorem ir144_eq : cFunc Tryz.prog 144 = some ir144 := by kernel_rfl
theorem call144 {args : List Value} {m : Mem} {Φ : Value → Mem → Prop} (h : args.length ≤ 21) : WPCall Tryz.prog 144 args m Φ = WP Tryz.prog ir144_b (initσ args) m (retK [.cell 4 true 3, .tmp 5] Φ) := wpCall_def ir144_eq h
def ir145_k5 : ICode :=
 .seq (
 .region [
 imv 0 53 6,
 imv 1 4 53,
 imi 2 5 0]) (
 .ret)
def ir145_k4 : ICode :=
 .seq (
 .block 0 (
 .seq (
 .region [
 imv 0 43 7,
 imv 1 44 43,
 iog 2 45 44 true (.mov (τ 8)),
 iop 3 46 (.pick (τ 44) (τ 45) (.const (.bool false))),
 imv 4 42 46]) (
 .cond (τ 42) (
 .seq (
 .region [
 imv 0 47 6,
 iop 1 48 (.un .neg (τ 47)),
 imv 2 4 48,
 imi 3 5 0]) (
 .ret)) (
 .seq (
 .region [
 imv 0 50 7,
 imv 1 49 50]) (
 .cond (τ 49) (
 .seq (
 .region [
 imi 0 4 (-1),
 imi 1 5 0]) (
 .ret)) (
 .seq (
 .region [
 imv 0 52 8,
 imv 1 51 52]) (
 .cond (τ 51) (
 .seq (
 .region [
 imi 0 4 1,
 imi 1 5 0]) (
 .ret)) (
 .skip)))))))) ir145_k5
def ir145_k3 : ICode :=
 .seq (
 .region [
 ifa 0 28 0 2,
 ild 1 29 28,
 imv 2 30 29,
 iog 3 31 30 true (.load true 3 (τ 2)),
 ifa 7 35 0 3,
 ild 8 36 35,
 ⟨4, some 32, some (30, true), .call 169 [τ 31], [(τ 35, τ 35)]⟩,
 iog 5 33 30 true (.un .not (τ 32)),
 iop 6 34 (.pick (τ 30) (τ 33) (.const (.bool false))),
 imv 9 37 36,
 iog 10 38 37 true (.load true 3 (τ 3)),
 iog 11 39 37 true (.call 169 [τ 38]),
 iog 12 40 37 true (.un .not (τ 39)),
 iop 13 41 (.pick (τ 37) (τ 40) (.const (.bool false))),
 imv 14 7 34,
 imv 15 8 41]) ir145_k4
def ir145_k2 : ICode :=
 .seq (
 .region [
 ifa 0 17 1 2,
 ild 1 18 17,
 ifa 2 19 2 3,
 ild 3 20 19,
 ifa 5 22 1 3,
 ild 6 23 22,
 ifa 7 24 2 2,
 ild 8 25 24,
 ioc 4 21 (.call 168 [τ 18, τ 20]) [(τ 24, τ 24), (τ 22, τ 22)],
 icl 9 26 168 [τ 23, τ 25],
 icl 10 27 167 [τ 21, τ 26],
 imv 11 6 27]) ir145_k3
def ir145_k1 : ICode :=
 .seq (
 .seq (
 .region [
 ila 0 9 3 2,
 icl 1 10 166 [τ 9],
 iop 2 11 (.un .not (τ 10)),
 imv 3 12 11,
 iog 4 13 12 false (.load true 3 (τ 3)),
 iog 5 14 12 false (.call 166 [τ 13]),
 iog 6 15 12 false (.un .not (τ 14)),
 iop 7 16 (.pick (τ 12) (.const (.bool true)) (τ 15))]) (
 .cond (τ 16) (
 .seq (
 .region [
 imi 0 4 0,
 imi 1 5 1]) (
 .ret)) (
 .skip))) ir145_k2
def ir145_b : ICode :=
 .seq (
 .region [
 iop 0 2 (.box (τ 0)),
 iop 1 3 (.box (τ 1)),
 imi 2 4 0,
 imi 3 5 0]) ir145_k1
def ir145 : IFunc := ⟨54, [.tmp 4, .tmp 5], ir145_b⟩
theorem ir145_eq : cFunc Tryz.prog 145 = some ir145 := by kernel_rfl
theorem call145 {args : List Value} {m : Mem} {Φ : Value → Mem → Prop} (h : args.length ≤ 54) : WPCall Tryz.prog 145 args m Φ = WP Tryz.prog ir145_b (initσ args) m (retK [.tmp 4, .tmp 5] Φ) := wpCall_def ir145_eq h
def ir160_k2 : ICode :=
 .seq (
 .region [
 ifa 0 8 0 1,
 ild 1 9 8,
 ifa 2 10 1 1,
 ild 3 11 10,
 ifa 4 12 2 1,
 ild 5 13 12,
 icl 6 14 164 [τ 9, τ 11, τ 13],
 iex 7 15 0 14,
 iex 8 16 1 14,
 ist 9 3 2 15,
 imv 10 3 16]) (
 .ret)
def ir160_k1 : ICode :=
 .seq (
 .seq (
 .region [
 ila 0 4 3 1,
 icl 1 5 166 [τ 4],
 iop 2 6 (.un .not (τ 5))]) (
 .cond (τ 6) (
 .seq (
 .region [
 iop 0 7 (.build [.bool false, .slice none 0 0, .slice none 0 0] []),
 ist 1 3 2 7,
 imi 2 3 1]) (
 .ret)) (
 .skip))) ir160_k2
def ir160_b : ICode :=
 .seq (
 .region [
 iop 0 1 (.box (τ 0)),
 iop 1 2 (.alloc [.bool false, .slice none 0 0, .slice none 0 0]),
 imi 2 3 0]) ir160_k1
def ir160 : IFunc := ⟨17, [.cell 2 true 3, .tmp 3], ir160_b⟩
theorem ir160_eq : cFunc Tryz.prog 160 = some ir160 := by kernel_rfl
theorem call160 {args : List Value} {m : Mem} {Φ : Value → Mem → Prop} (h : args.length ≤ 17) : WPCall Tryz.prog 160 args m Φ = WP Tryz.prog ir160_b (initσ args) m (retK [.cell 2 true 3, .tmp 3] Φ) := wpCall_def ir160_eq h
def ir163_k4 : ICode :=
 .seq (
 .region [
 ifa 0 50 0 2,
 ild 1 51 50,
 imv 2 52 9,
 imv 3 53 8,
 icl 4 54 164 [τ 51, τ 52, τ 53],
 iex 5 55 0 54,
 iex 6 56 1 54,
 ist 7 3 4 55,
 imv 8 5 56]) (
 .ret)
def ir163_k6 : ICode :=
 .seq (
 .region [
 ifa 0 67 0 2,
 ild 1 68 67,
 imv 2 69 11,
 imv 3 70 8,
 icl 4 71 164 [τ 68, τ 69, τ 70],
 iex 5 72 0 71,
 iex 6 73 1 71,
 ist 7 3 4 72,
 imv 8 5 73]) (
 .ret)
def ir163_k8 : ICode :=
 .seq (
 .region [
 ifa 0 80 0 3,
 ild 1 81 80,
 imv 2 82 13,
 imv 3 83 8,
 icl 4 84 164 [τ 81, τ 82, τ 83],
 iex 5 85 0 84,
 iex 6 86 1 84,
 ist 7 3 4 85,
 imv 8 5 86]) (
 .ret)
def ir163_k7 : ICode :=
 .seq (
 .region [
 imv 0 75 7,
 imv 1 76 6,
 icl 2 77 194 [τ 75, τ 76],
 imv 3 74 77,
 iex 4 78 0 74,
 iex 5 79 1 74,
 imv 6 13 78,
 imv 7 14 79]) ir163_k8
def ir163_k5 : ICode :=
 .seq (
 .seq (
 .region [
 imv 0 57 6,
 imv 1 58 7,
 icl 2 59 167 [τ 57, τ 58],
 ibn 3 60 .geq (τ 59) (.const (.int .i64 0))]) (
 .cond (τ 60) (
 .seq (
 .region [
 imv 0 62 6,
 imv 1 63 7,
 icl 2 64 194 [τ 62, τ 63],
 imv 3 61 64,
 iex 4 65 0 61,
 iex 5 66 1 61,
 imv 6 11 65,
 imv 7 12 66]) ir163_k6) (
 .skip))) ir163_k7
def ir163_k3 : ICode :=
 .seq (
 .seq (
 .region [
 ifa 0 39 0 2,
 ild 1 40 39,
 ifa 2 41 0 3,
 ild 3 42 41,
 iop 4 43 (.bin .eql .bool (τ 40) (τ 42))]) (
 .cond (τ 43) (
 .seq (
 .region [
 imv 0 45 6,
 imv 1 46 7,
 icl 2 47 193 [τ 45, τ 46],
 imv 3 44 47,
 iex 4 48 0 44,
 iex 5 49 1 44,
 imv 6 9 48,
 imv 7 10 49]) ir163_k4) (
 .skip))) ir163_k5
def ir163_k2 : ICode :=
 .seq (
 .region [
 ifa 0 24 1 2,
 ild 1 25 24,
 ifa 2 26 2 3,
 ild 3 27 26,
 ifa 5 29 1 3,
 ild 6 30 29,
 ifa 7 31 2 2,
 ild 8 32 31,
 ifa 10 34 2 2,
 ild 11 35 34,
 ifa 12 36 2 3,
 ild 13 37 36,
 ioc 4 28 (.call 168 [τ 25, τ 27]) [(τ 36, τ 36), (τ 34, τ 34), (τ 31, τ 31), (τ 29, τ 29)],
 ioc 9 33 (.call 168 [τ 30, τ 32]) [(τ 36, τ 36), (τ 34, τ 34)],
 icl 14 38 168 [τ 35, τ 37],
 imv 15 6 28,
 imv 16 7 33,
 imv 17 8 38]) ir163_k3
def ir163_k1 : ICode :=
 .seq (
 .seq (
 .region [
 ila 0 15 3 2,
 icl 1 16 166 [τ 15],
 iop 2 17 (.un .not (τ 16)),
 imv 3 18 17,
 iog 4 19 18 false (.load true 3 (τ 3)),
 iog 5 20 18 false (.call 166 [τ 19]),
 iog 6 21 18 false (.un .not (τ 20)),
 iop 7 22 (.pick (τ 18) (.const (.bool true)) (τ 21))]) (
 .cond (τ 22) (
 .seq (
 .region [
 iop 0 23 (.build [.bool false, .slice none 0 0, .slice none 0 0] []),
 ist 1 3 4 23,
 imi 2 5 1]) (
 .ret)) (
 .skip))) ir163_k2
def ir163_b : ICode :=
 .seq (
 .region [
 iop 0 2 (.box (τ 0)),
 iop 1 3 (.box (τ 1)),
 iop 2 4 (.alloc [.bool false, .slice none 0 0, .slice none 0 0]),
 imi 3 5 0]) ir163_k1
def ir163 : IFunc := ⟨87, [.cell 4 true 3, .tmp 5], ir163_b⟩
theorem ir163_eq : cFunc Tryz.prog 163 = some ir163 := by kernel_rfl
theorem call163 {args : List Value} {m : Mem} {Φ : Value → Mem → Prop} (h : args.length ≤ 87) : WPCall Tryz.prog 163 args m Φ = WP Tryz.prog ir163_b (initσ args) m (retK [.cell 4 true 3, .tmp 5] Φ) := wpCall_def ir163_eq h
def ir164_k2 : ICode :=
 .seq (
 .region [
 imv 0 16 8,
 icl 1 17 161 [τ 16],
 ibn 2 18 .gtr (τ 17) (.const (.int .i64 1))]) (
 .cond (τ 18) (
 .seq (
 .region [
 imv 0 20 1,
 imv 1 21 8,
 icl 2 22 196 [τ 20, τ 21],
 imv 3 19 22,
 iex 4 23 0 19,
 iex 5 24 1 19,
 iex 6 25 2 19,
 imv 7 1 23]) (
 .region [
 imv 0 27 2,
 imv 1 28 8,
 icl 2 29 196 [τ 27, τ 28],
 imv 3 26 29,
 iex 4 30 0 26,
 iex 5 31 1 26,
 iex 6 32 2 26,
 imv 7 2 30])) (
 .skip))
def ir164_k4 : ICode :=
 .seq (
 .region [
 imv 0 42 0,
 imv 1 43 42,
 iog 2 44 43 true (.mov (τ 1)),
 iog 3 45 43 true (.call 161 [τ 44]),
 iog 4 46 43 true (.bin .gtr .other (τ 45) (.const (.int .i64 0))),
 iop 5 47 (.pick (τ 43) (τ 46) (.const (.bool false))),
 imv 6 48 1,
 icl 7 49 197 [τ 48],
 imv 8 50 2,
 icl 9 51 197 [τ 50],
 iop 10 52 (.build [.bool false, .slice none 0 0, .slice none 0 0] [(0, 1, τ 47), (1, 1, τ 49), (2, 1, τ 51)]),
 ist 11 3 6 52,
 imi 12 7 0]) (
 .ret)
def ir164_k3 : ICode :=
 .seq (
 .seq (
 .region [
 imv 0 33 1,
 icl 1 34 161 [τ 33],
 ibn 2 35 .gtr (τ 34) (.const (.int .i64 4096)),
 imv 3 36 35,
 iog 4 37 36 false (.mov (τ 2)),
 iog 5 38 36 false (.call 161 [τ 37]),
 iog 6 39 36 false (.bin .gtr .other (τ 38) (.const (.int .i64 4096))),
 iop 7 40 (.pick (τ 36) (.const (.bool true)) (τ 39))]) (
 .cond (τ 40) (
 .seq (
 .region [
 iop 0 41 (.build [.bool false, .slice none 0 0, .slice none 0 0] []),
 ist 1 3 6 41,
 imi 2 7 2]) (
 .ret)) (
 .skip))) ir164_k4
def ir164_k1 : ICode :=
 .seq (
 .seq (
 .region [
 imv 0 11 1,
 imv 1 12 2,
 icl 2 13 195 [τ 11, τ 12],
 imv 3 10 13,
 iex 4 14 0 10,
 iex 5 15 1 10,
 imv 6 8 14,
 imv 7 9 15]) ir164_k2) ir164_k3
def ir164_b : ICode :=
 .seq (
 .region [
 iop 0 6 (.alloc [.bool false, .slice none 0 0, .slice none 0 0]),
 imi 1 7 0]) ir164_k1
def ir164 : IFunc := ⟨53, [.cell 6 true 3, .tmp 7], ir164_b⟩
theorem ir164_eq : cFunc Tryz.prog 164 = some ir164 := by kernel_rfl
theorem call164 {args : List Value} {m : Mem} {Φ : Value → Mem → Prop} (h : args.length ≤ 53) : WPCall Tryz.prog 164 args m Φ = WP Tryz.prog ir164_b (initσ args) m (retK [.cell 6 true 3, .tmp 7] Φ) := wpCall_def ir164_eq h
def ir165_k2 : ICode :=
 .seq (
 .region [
 imv 0 9 0,
 iop 1 10 (.convI .u64 (τ 9)),
 icl 2 11 162 [τ 10],
 imv 3 2 11]) (
 .ret)
def ir165_k1 : ICode :=
 .seq (
 .seq (
 .region [
 imv 0 3 0,
 ibn 1 4 .lss (τ 3) (.const (.int .i64 0))]) (
 .cond (τ 4) (
 .seq (
 .region [
 imv 0 5 0,
 iop 1 6 (.convI .u64 (τ 5)),
 iop 2 7 (.un .neg (τ 6)),
 icl 3 8 162 [τ 7],
 imv 4 2 8]) (
 .ret)) (
 .skip))) ir165_k2
def ir165_b : ICode :=
 .seq (
 .region [
 iop 0 2 (.mov (.const (.slice none 0 0)))]) ir165_k1
def ir165 : IFunc := ⟨12, [.tmp 2], ir165_b⟩
theorem ir165_eq : cFunc Tryz.prog 165 = some ir165 := by kernel_rfl
theorem call165 {args : List Value} {m : Mem} {Φ : Value → Mem → Prop} (h : args.length ≤ 12) : WPCall Tryz.prog 165 args m Φ = WP Tryz.prog ir165_b (initσ args) m (retK [.tmp 2] Φ) := wpCall_def ir165_eq h
def ir166_k2 : ICode :=
 .seq (
 .region [
 imv 0 7 3,
 ibn 1 8 .gtr (τ 7) (.const (.int .i64 0)),
 imv 2 9 8,
 iog 3 10 9 true (.mov (τ 3)),
 iog 4 11 9 true (.bin .leq .other (τ 10) (.const (.int .i64 4096))),
 iop 5 12 (.pick (τ 9) (τ 11) (.const (.bool false))),
 imv 6 13 12,
 iog 7 14 13 true (.faddr 1 (τ 1)),
 iog 8 15 13 true (.load false 1 (τ 14)),
 iog 9 16 13 true (.call 161 [τ 15]),
 iog 10 17 13 true (.bin .leq .other (τ 16) (.const (.int .i64 4096))),
 iop 11 18 (.pick (τ 13) (τ 17) (.const (.bool false))),
 imv 12 2 18]) (
 .ret)
def ir166_k1 : ICode :=
 .seq (
 .region [
 ifa 0 4 2 1,
 ild 1 5 4,
 icl 2 6 161 [τ 5],
 imv 3 3 6]) ir166_k2
def ir166_b : ICode :=
 .seq (
 .region [
 iop 0 1 (.box (τ 0)),
 imb 1 2 false]) ir166_k1
def ir166 : IFunc := ⟨19, [.tmp 2], ir166_b⟩
theorem ir166_eq : cFunc Tryz.prog 166 = some ir166 := by kernel_rfl
theorem call166 {args : List Value} {m : Mem} {Φ : Value → Mem → Prop} (h : args.length ≤ 19) : WPCall Tryz.prog 166 args m Φ = WP Tryz.prog ir166_b (initσ args) m (retK [.tmp 2] Φ) := wpCall_def ir166_eq h
def ir168_k2 : ICode :=
 .seq (
 .region [
 imv 0 13 5,
 imv 1 4 13]) (
 .ret)
def ir168_k1 : ICode :=
 .seq (
 .region [
 imv 0 8 0,
 imv 1 9 1,
 icl 2 10 198 [τ 8, τ 9],
 imv 3 7 10,
 iex 4 11 0 7,
 iex 5 12 1 7,
 imv 6 5 11,
 imv 7 6 12]) ir168_k2
def ir168_b : ICode :=
 .seq (
 .region [
 iop 0 4 (.mov (.const (.slice none 0 0)))]) ir168_k1
def ir168 : IFunc := ⟨14, [.tmp 4], ir168_b⟩
theorem ir168_eq : cFunc Tryz.prog 168 = some ir168 := by kernel_rfl
theorem call168 {args : List Value} {m : Mem} {Φ : Value → Mem → Prop} (h : args.length ≤ 14) : WPCall Tryz.prog 168 args m Φ = WP Tryz.prog ir168_b (initσ args) m (retK [.tmp 4] Φ) := wpCall_def ir168_eq h
end Go.Proofs.YticjcminhkgabaaGreatDoor
