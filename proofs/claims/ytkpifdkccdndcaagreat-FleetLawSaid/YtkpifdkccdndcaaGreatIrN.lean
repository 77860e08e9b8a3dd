/-
 The intermediate forms of this seat's functions, written by a program of ours (wip/Ir.lean); each is checked against the loaded program.
-/
import Derived.Test.YtkpifdkccdndcaaGreatRows
import Derived.Test.YtkpifdkccdndcaaGreatFwWY
namespace Go.Proofs.YtkpifdkccdndcaaGreat
open Go Go.DI

def ir34_k2 : ICode :=
 .seq (
 .region [
 ⟨0, some 10, none, .mov (.tmp 3), []⟩,
 ⟨1, some 11, none, .mov (.tmp 3), []⟩,
 ⟨2, some 12, none, .call 100 [.tmp 11], []⟩,
 ⟨3, some 13, none, .sliceS 1 (.tmp 10) none (some (.tmp 12)), []⟩,
 ⟨4, some 2, none, .mov (.tmp 13), []⟩]) (
 .ret)
def ir34_k1 : ICode :=
 .seq (
 .region [
 ⟨0, some 4, none, .mov (.tmp 0), []⟩,
 ⟨1, some 5, none, .convI .u32 (.tmp 4), []⟩,
 ⟨2, some 6, none, .mov (.tmp 0), []⟩,
 ⟨3, some 7, none, .bin .shr .other (.tmp 6) (.const (.int .u64 32)), []⟩,
 ⟨4, some 8, none, .convI .u32 (.tmp 7), []⟩,
 ⟨5, some 9, none, .bslice 1 2 [.int .u32 0, .int .u32 0] [(0, 1, .tmp 5), (1, 1, .tmp 8)], []⟩,
 ⟨6, some 3, none, .mov (.tmp 9), []⟩]) ir34_k2
def ir34_b : ICode :=
 .seq (
 .region [
 ⟨0, some 2, none, .mov (.const (.slice none 0 0)), []⟩]) ir34_k1
def ir34 : IFunc := ⟨14, [.tmp 2], ir34_b⟩
theorem ir34_eq : cFunc Tryz.prog 34 = some ir34 := by kernel_rfl
theorem call34 {args : List Value} {m : Mem} {Φ : Value → Mem → Prop} (h : args.length ≤ 14) : WPCall Tryz.prog 34 args m Φ = WP Tryz.prog ir34_b (initσ args) m (retK [.tmp 2] Φ) := wpCall_def ir34_eq h
def ir87_k5 : ICode :=
 .seq (
 .block 1 (
 .region [
 ⟨0, some 22, none, .mov (.tmp 4), []⟩,
 ⟨1, some 23, none, .bin .add .other (.tmp 22) (.const (.int .i64 1)), []⟩,
 ⟨2, some 4, none, .mov (.tmp 23), []⟩])) (
 .region [
 ⟨0, some 20, none, .mov (.tmp 5), []⟩,
 ⟨1, some 21, none, .bin .shr .other (.tmp 20) (.const (.int .u64 1)), []⟩,
 ⟨2, some 5, none, .mov (.tmp 21), []⟩])
def ir87_l0 : ICode :=
 .seq (
 .seq (
 .region [
 ⟨0, some 18, none, .mov (.tmp 5), []⟩,
 ⟨1, some 19, none, .bin .gtr .other (.tmp 18) (.const (.int .u32 0)), []⟩]) (
 .cond (.tmp 19) (
 .skip) (
 .exit 0))) ir87_k5
def ir87_k6 : ICode :=
 .seq (
 .region [
 ⟨0, some 24, none, .mov (.tmp 4), []⟩,
 ⟨1, some 2, none, .mov (.tmp 24), []⟩]) (
 .ret)
def ir87_k4 : ICode :=
 .seq (
 .seq (
 .region [
 ⟨0, some 13, none, .mov (.tmp 0), []⟩,
 ⟨1, some 14, none, .mov (.tmp 3), []⟩,
 ⟨2, some 15, none, .bin .sub .other (.tmp 14) (.const (.int .i64 1)), []⟩,
 ⟨3, some 16, none, .iaddr 1 (.tmp 13) (.tmp 15), []⟩,
 ⟨4, some 17, none, .load false 1 (.tmp 16), []⟩,
 ⟨5, some 5, none, .mov (.tmp 17), []⟩]) (
 .block 0 (
 .loop ir87_l0))) ir87_k6
def ir87_k3 : ICode :=
 .seq (
 .region [
 ⟨0, some 10, none, .mov (.tmp 3), []⟩,
 ⟨1, some 11, none, .bin .sub .other (.tmp 10) (.const (.int .i64 1)), []⟩,
 ⟨2, some 12, none, .bin .mul .other (.tmp 11) (.const (.int .i64 32)), []⟩,
 ⟨3, some 4, none, .mov (.tmp 12), []⟩]) ir87_k4
def ir87_k2 : ICode :=
 .seq (
 .seq (
 .region [
 ⟨0, some 8, none, .mov (.tmp 3), []⟩,
 ⟨1, some 9, none, .bin .eql .other (.tmp 8) (.const (.int .i64 0)), []⟩]) (
 .cond (.tmp 9) (
 .seq (
 .region [
 ⟨0, some 2, none, .mov (.const (.int .i64 0)), []⟩]) (
 .ret)) (
 .skip))) ir87_k3
def ir87_k1 : ICode :=
 .seq (
 .region [
 ⟨0, some 6, none, .mov (.tmp 0), []⟩,
 ⟨1, some 7, none, .call 100 [.tmp 6], []⟩,
 ⟨2, some 3, none, .mov (.tmp 7), []⟩]) ir87_k2
def ir87_b : ICode :=
 .seq (
 .region [
 ⟨0, some 2, none, .mov (.const (.int .i64 0)), []⟩]) ir87_k1
def ir87 : IFunc := ⟨25, [.tmp 2], ir87_b⟩
theorem ir87_eq : cFunc Tryz.prog 87 = some ir87 := by kernel_rfl
theorem call87 {args : List Value} {m : Mem} {Φ : Value → Mem → Prop} (h : args.length ≤ 25) : WPCall Tryz.prog 87 args m Φ = WP Tryz.prog ir87_b (initσ args) m (retK [.tmp 2] Φ) := wpCall_def ir87_eq h
def ir92_k4 : ICode :=
 .seq (
 .block 2 (
 .block 3 (
 .seq (
 .region [
 ⟨0, some 27, none, .mov (.tmp 0), []⟩,
 ⟨1, some 28, none, .mov (.tmp 7), []⟩,
 ⟨2, some 29, none, .iaddr 1 (.tmp 27) (.tmp 28), []⟩,
 ⟨3, some 30, none, .load false 1 (.tmp 29), []⟩,
 ⟨4, some 31, none, .mov (.tmp 1), []⟩,
 ⟨5, some 32, none, .mov (.tmp 7), []⟩,
 ⟨6, some 33, none, .iaddr 1 (.tmp 31) (.tmp 32), []⟩,
 ⟨7, some 34, none, .load false 1 (.tmp 33), []⟩,
 ⟨8, some 35, none, .bin .lss .other (.tmp 30) (.tmp 34), []⟩,
 ⟨9, some 26, none, .mov (.tmp 35), []⟩]) (
 .cond (.tmp 26) (
 .seq (
 .region [
 ⟨0, some 4, none, .mov (.const (.int .i64 (-1))), []⟩]) (
 .ret)) (
 .seq (
 .region [
 ⟨0, some 37, none, .mov (.tmp 0), []⟩,
 ⟨1, some 38, none, .mov (.tmp 7), []⟩,
 ⟨2, some 39, none, .iaddr 1 (.tmp 37) (.tmp 38), []⟩,
 ⟨3, some 40, none, .load false 1 (.tmp 39), []⟩,
 ⟨4, some 41, none, .mov (.tmp 1), []⟩,
 ⟨5, some 42, none, .mov (.tmp 7), []⟩,
 ⟨6, some 43, none, .iaddr 1 (.tmp 41) (.tmp 42), []⟩,
 ⟨7, some 44, none, .load false 1 (.tmp 43), []⟩,
 ⟨8, some 45, none, .bin .gtr .other (.tmp 40) (.tmp 44), []⟩,
 ⟨9, some 36, none, .mov (.tmp 45), []⟩]) (
 .cond (.tmp 36) (
 .seq (
 .region [
 ⟨0, some 4, none, .mov (.const (.int .i64 1)), []⟩]) (
 .ret)) (
 .skip))))))) (
 .region [
 ⟨0, some 24, none, .mov (.tmp 7), []⟩,
 ⟨1, some 25, none, .bin .sub .other (.tmp 24) (.const (.int .i64 1)), []⟩,
 ⟨2, some 7, none, .mov (.tmp 25), []⟩])
def ir92_l0 : ICode :=
 .seq (
 .seq (
 .region [
 ⟨0, some 22, none, .mov (.tmp 7), []⟩,
 ⟨1, some 23, none, .bin .geq .other (.tmp 22) (.const (.int .i64 0)), []⟩]) (
 .cond (.tmp 23) (
 .skip) (
 .exit 1))) ir92_k4
def ir92_k5 : ICode :=
 .seq (
 .region [
 ⟨0, some 4, none, .mov (.const (.int .i64 0)), []⟩]) (
 .ret)
def ir92_k3 : ICode :=
 .seq (
 .seq (
 .region [
 ⟨0, some 20, none, .mov (.tmp 5), []⟩,
 ⟨1, some 21, none, .bin .sub .other (.tmp 20) (.const (.int .i64 1)), []⟩,
 ⟨2, some 7, none, .mov (.tmp 21), []⟩]) (
 .block 1 (
 .loop ir92_l0))) ir92_k5
def ir92_k2 : ICode :=
 .seq (
 .block 0 (
 .seq (
 .region [
 ⟨0, some 13, none, .mov (.tmp 5), []⟩,
 ⟨1, some 14, none, .mov (.tmp 6), []⟩,
 ⟨2, some 15, none, .bin .lss .other (.tmp 13) (.tmp 14), []⟩,
 ⟨3, some 12, none, .mov (.tmp 15), []⟩]) (
 .cond (.tmp 12) (
 .seq (
 .region [
 ⟨0, some 4, none, .mov (.const (.int .i64 (-1))), []⟩]) (
 .ret)) (
 .seq (
 .region [
 ⟨0, some 17, none, .mov (.tmp 5), []⟩,
 ⟨1, some 18, none, .mov (.tmp 6), []⟩,
 ⟨2, some 19, none, .bin .gtr .other (.tmp 17) (.tmp 18), []⟩,
 ⟨3, some 16, none, .mov (.tmp 19), []⟩]) (
 .cond (.tmp 16) (
 .seq (
 .region [
 ⟨0, some 4, none, .mov (.const (.int .i64 1)), []⟩]) (
 .ret)) (
 .skip)))))) ir92_k3
def ir92_k1 : ICode :=
 .seq (
 .region [
 ⟨0, some 8, none, .mov (.tmp 0), []⟩,
 ⟨1, some 9, none, .call 100 [.tmp 8], []⟩,
 ⟨2, some 10, none, .mov (.tmp 1), []⟩,
 ⟨3, some 11, none, .call 100 [.tmp 10], []⟩,
 ⟨4, some 5, none, .mov (.tmp 9), []⟩,
 ⟨5, some 6, none, .mov (.tmp 11), []⟩]) ir92_k2
def ir92_b : ICode :=
 .seq (
 .region [
 ⟨0, some 4, none, .mov (.const (.int .i64 0)), []⟩]) ir92_k1
def ir92 : IFunc := ⟨46, [.tmp 4], ir92_b⟩
theorem ir92_eq : cFunc Tryz.prog 92 = some ir92 := by kernel_rfl
theorem call92 {args : List Value} {m : Mem} {Φ : Value → Mem → Prop} (h : args.length ≤ 46) : WPCall Tryz.prog 92 args m Φ = WP Tryz.prog ir92_b (initσ args) m (retK [.tmp 4] Φ) := wpCall_def ir92_eq h
def ir100_l0 : ICode :=
 .seq (
 .seq (
 .region [
 ⟨0, some 6, none, .mov (.tmp 3), []⟩,
 ⟨1, some 7, none, .bin .gtr .other (.tmp 6) (.const (.int .i64 0)), []⟩,
 ⟨2, some 8, none, .mov (.tmp 7), []⟩,
 ⟨3, some 9, some (8, true), .mov (.tmp 0), []⟩,
 ⟨4, some 10, some (8, true), .mov (.tmp 3), []⟩,
 ⟨5, some 11, some (8, true), .bin .sub .other (.tmp 10) (.const (.int .i64 1)), []⟩,
 ⟨6, some 12, some (8, true), .iaddr 1 (.tmp 9) (.tmp 11), []⟩,
 ⟨7, some 13, some (8, true), .load false 1 (.tmp 12), []⟩,
 ⟨8, some 14, some (8, true), .bin .eql .other (.tmp 13) (.const (.int .u32 0)), []⟩,
 ⟨9, some 15, none, .pick (.tmp 8) (.tmp 14) (.const (.bool false)), []⟩]) (
 .cond (.tmp 15) (
 .skip) (
 .exit 0))) (
 .block 1 (
 .region [
 ⟨0, some 16, none, .mov (.tmp 3), []⟩,
 ⟨1, some 17, none, .bin .sub .other (.tmp 16) (.const (.int .i64 1)), []⟩,
 ⟨2, some 3, none, .mov (.tmp 17), []⟩]))
def ir100_k3 : ICode :=
 .seq (
 .region [
 ⟨0, some 18, none, .mov (.tmp 3), []⟩,
 ⟨1, some 2, none, .mov (.tmp 18), []⟩]) (
 .ret)
def ir100_k2 : ICode :=
 .seq (
 .block 0 (
 .loop ir100_l0)) ir100_k3
def ir100_k1 : ICode :=
 .seq (
 .region [
 ⟨0, some 4, none, .mov (.tmp 0), []⟩,
 ⟨1, some 5, none, .lenV (.tmp 4), []⟩,
 ⟨2, some 3, none, .mov (.tmp 5), []⟩]) ir100_k2
def ir100_b : ICode :=
 .seq (
 .region [
 ⟨0, some 2, none, .mov (.const (.int .i64 0)), []⟩]) ir100_k1
def ir100 : IFunc := ⟨19, [.tmp 2], ir100_b⟩
theorem ir100_eq : cFunc Tryz.prog 100 = some ir100 := by kernel_rfl
theorem call100 {args : List Value} {m : Mem} {Φ : Value → Mem → Prop} (h : args.length ≤ 19) : WPCall Tryz.prog 100 args m Φ = WP Tryz.prog ir100_b (initσ args) m (retK [.tmp 2] Φ) := wpCall_def ir100_eq h
def ir106_l0 : ICode :=
 .seq (
 .seq (
 .region [
 ⟨0, some 6, none, .mov (.tmp 3), []⟩,
 ⟨1, some 7, none, .bin .gtr .other (.tmp 6) (.const (.int .i64 0)), []⟩,
 ⟨2, some 8, none, .mov (.tmp 7), []⟩,
 ⟨3, some 9, some (8, true), .mov (.tmp 0), []⟩,
 ⟨4, some 10, some (8, true), .mov (.tmp 3), []⟩,
 ⟨5, some 11, some (8, true), .bin .sub .other (.tmp 10) (.const (.int .i64 1)), []⟩,
 ⟨6, some 12, some (8, true), .iaddr 1 (.tmp 9) (.tmp 11), []⟩,
 ⟨7, some 13, some (8, true), .load false 1 (.tmp 12), []⟩,
 ⟨8, some 14, some (8, true), .bin .eql .other (.tmp 13) (.const (.int .u32 0)), []⟩,
 ⟨9, some 15, none, .pick (.tmp 8) (.tmp 14) (.const (.bool false)), []⟩]) (
 .cond (.tmp 15) (
 .skip) (
 .exit 0))) (
 .block 1 (
 .region [
 ⟨0, some 16, none, .mov (.tmp 3), []⟩,
 ⟨1, some 17, none, .bin .sub .other (.tmp 16) (.const (.int .i64 1)), []⟩,
 ⟨2, some 3, none, .mov (.tmp 17), []⟩]))
def ir106_k3 : ICode :=
 .seq (
 .region [
 ⟨0, some 18, none, .mov (.tmp 0), []⟩,
 ⟨1, some 19, none, .mov (.tmp 3), []⟩,
 ⟨2, some 20, none, .sliceS 1 (.tmp 18) none (some (.tmp 19)), []⟩,
 ⟨3, some 21, none, .app 1 4 (.const (.slice none 0 0)) (.tmp 20), []⟩,
 ⟨4, some 2, none, .mov (.tmp 21), []⟩]) (
 .ret)
def ir106_k2 : ICode :=
 .seq (
 .block 0 (
 .loop ir106_l0)) ir106_k3
def ir106_k1 : ICode :=
 .seq (
 .region [
 ⟨0, some 4, none, .mov (.tmp 0), []⟩,
 ⟨1, some 5, none, .lenV (.tmp 4), []⟩,
 ⟨2, some 3, none, .mov (.tmp 5), []⟩]) ir106_k2
def ir106_b : ICode :=
 .seq (
 .region [
 ⟨0, some 2, none, .mov (.const (.slice none 0 0)), []⟩]) ir106_k1
def ir106 : IFunc := ⟨22, [.tmp 2], ir106_b⟩
theorem ir106_eq : cFunc Tryz.prog 106 = some ir106 := by kernel_rfl
theorem call106 {args : List Value} {m : Mem} {Φ : Value → Mem → Prop} (h : args.length ≤ 22) : WPCall Tryz.prog 106 args m Φ = WP Tryz.prog ir106_b (initσ args) m (retK [.tmp 2] Φ) := wpCall_def ir106_eq h
def ir127_k11 : ICode :=
 .seq (
 .region [
 ⟨0, some 57, none, .mov (.tmp 6), []⟩,
 ⟨1, some 58, none, .mov (.tmp 8), []⟩,
 ⟨2, some 59, none, .mov (.tmp 7), []⟩,
 ⟨3, some 60, none, .convI .u32 (.tmp 59), []⟩,
 ⟨4, some 61, none, .iaddr 1 (.tmp 57) (.tmp 58), []⟩,
 ⟨5, none, none, .store 1 (.tmp 61) (.tmp 60), []⟩]) (
 .region [
 ⟨0, some 62, none, .mov (.tmp 7), []⟩,
 ⟨1, some 63, none, .bin .shr .other (.tmp 62) (.const (.int .u64 32)), []⟩,
 ⟨2, some 7, none, .mov (.tmp 63), []⟩])
def ir127_k10 : ICode :=
 .seq (
 .seq (
 .region [
 ⟨0, some 46, none, .mov (.tmp 8), []⟩,
 ⟨1, some 47, none, .mov (.tmp 1), []⟩,
 ⟨2, some 48, none, .lenV (.tmp 47), []⟩,
 ⟨3, some 49, none, .bin .lss .other (.tmp 46) (.tmp 48), []⟩]) (
 .cond (.tmp 49) (
 .region [
 ⟨0, some 50, none, .mov (.tmp 7), []⟩,
 ⟨1, some 51, none, .mov (.tmp 1), []⟩,
 ⟨2, some 52, none, .mov (.tmp 8), []⟩,
 ⟨3, some 53, none, .iaddr 1 (.tmp 51) (.tmp 52), []⟩,
 ⟨4, some 54, none, .load false 1 (.tmp 53), []⟩,
 ⟨5, some 55, none, .convI .u64 (.tmp 54), []⟩,
 ⟨6, some 56, none, .bin .add .other (.tmp 50) (.tmp 55), []⟩,
 ⟨7, some 7, none, .mov (.tmp 56), []⟩]) (
 .skip))) ir127_k11
def ir127_k9 : ICode :=
 .seq (
 .region [
 ⟨0, some 39, none, .mov (.tmp 7), []⟩,
 ⟨1, some 40, none, .mov (.tmp 0), []⟩,
 ⟨2, some 41, none, .mov (.tmp 8), []⟩,
 ⟨3, some 42, none, .iaddr 1 (.tmp 40) (.tmp 41), []⟩,
 ⟨4, some 43, none, .load false 1 (.tmp 42), []⟩,
 ⟨5, some 44, none, .convI .u64 (.tmp 43), []⟩,
 ⟨6, some 45, none, .bin .add .other (.tmp 39) (.tmp 44), []⟩,
 ⟨7, some 7, none, .mov (.tmp 45), []⟩]) ir127_k10
def ir127_k8 : ICode :=
 .seq (
 .block 1 (
 .seq (
 .region [
 ⟨0, some 38, none, .mov (.tmp 36), []⟩,
 ⟨1, some 8, none, .mov (.tmp 38), []⟩]) ir127_k9)) (
 .region [
 ⟨0, some 64, none, .bin .add .other (.tmp 36) (.const (.int .i64 1)), []⟩,
 ⟨1, some 36, none, .mov (.tmp 64), []⟩])
def ir127_k7 : ICode :=
 .seq (
 .cond (.tmp 37) (
 .skip) (
 .exit 0)) ir127_k8
def ir127_l0 : ICode :=
 .seq (
 .region [
 ⟨0, some 37, none, .bin .lss .other (.tmp 36) (.tmp 35), []⟩]) ir127_k7
def ir127_k13 : ICode :=
 .seq (
 .region [
 ⟨0, some 71, none, .mov (.tmp 6), []⟩,
 ⟨1, some 72, none, .call 158 [.tmp 71], []⟩,
 ⟨2, some 73, none, .ext 0 (.tmp 72), []⟩,
 ⟨3, some 74, none, .ext 1 (.tmp 72), []⟩,
 ⟨4, some 4, none, .mov (.tmp 73), []⟩,
 ⟨5, some 5, none, .mov (.tmp 74), []⟩]) (
 .ret)
def ir127_k12 : ICode :=
 .seq (
 .region [
 ⟨0, some 65, none, .mov (.tmp 6), []⟩,
 ⟨1, some 66, none, .mov (.tmp 0), []⟩,
 ⟨2, some 67, none, .lenV (.tmp 66), []⟩,
 ⟨3, some 68, none, .mov (.tmp 7), []⟩,
 ⟨4, some 69, none, .convI .u32 (.tmp 68), []⟩,
 ⟨5, some 70, none, .iaddr 1 (.tmp 65) (.tmp 67), []⟩,
 ⟨6, none, none, .store 1 (.tmp 70) (.tmp 69), []⟩]) ir127_k13
def ir127_k6 : ICode :=
 .seq (
 .seq (
 .region [
 ⟨0, some 34, none, .mov (.tmp 0), []⟩,
 ⟨1, some 35, none, .lenV (.tmp 34), []⟩,
 ⟨2, some 36, none, .mov (.const (.int .i64 0)), []⟩]) (
 .block 0 (
 .loop ir127_l0))) ir127_k12
def ir127_k5 : ICode :=
 .seq (
 .region [
 ⟨0, some 7, none, .mov (.const (.int .u64 0)), []⟩]) ir127_k6
def ir127_k4 : ICode :=
 .seq (
 .region [
 ⟨0, some 30, none, .mov (.tmp 0), []⟩,
 ⟨1, some 31, none, .lenV (.tmp 30), []⟩,
 ⟨2, some 32, none, .bin .add .other (.tmp 31) (.const (.int .i64 1)), []⟩,
 ⟨3, some 33, none, .mkslice 1 4 [.int .u32 0] (.tmp 32) (.tmp 32), []⟩,
 ⟨4, some 6, none, .mov (.tmp 33), []⟩]) ir127_k5
def ir127_k3 : ICode :=
 .seq (
 .seq (
 .region [
 ⟨0, some 23, none, .mov (.tmp 0), []⟩,
 ⟨1, some 24, none, .lenV (.tmp 23), []⟩,
 ⟨2, some 25, none, .mov (.tmp 1), []⟩,
 ⟨3, some 26, none, .lenV (.tmp 25), []⟩,
 ⟨4, some 27, none, .bin .lss .other (.tmp 24) (.tmp 26), []⟩]) (
 .cond (.tmp 27) (
 .region [
 ⟨0, some 28, none, .mov (.tmp 1), []⟩,
 ⟨1, some 29, none, .mov (.tmp 0), []⟩,
 ⟨2, some 0, none, .mov (.tmp 28), []⟩,
 ⟨3, some 1, none, .mov (.tmp 29), []⟩]) (
 .skip))) ir127_k4
def ir127_k2 : ICode :=
 .seq (
 .region [
 ⟨0, some 15, none, .mov (.tmp 0), []⟩,
 ⟨1, some 16, none, .mov (.tmp 0), []⟩,
 ⟨4, some 19, none, .mov (.tmp 1), []⟩,
 ⟨5, some 20, none, .mov (.tmp 1), []⟩,
 ⟨2, some 17, none, .call 100 [.tmp 16], []⟩,
 ⟨3, some 18, none, .sliceS 1 (.tmp 15) none (some (.tmp 17)), []⟩,
 ⟨6, some 21, none, .call 100 [.tmp 20], []⟩,
 ⟨7, some 22, none, .sliceS 1 (.tmp 19) none (some (.tmp 21)), []⟩,
 ⟨8, some 0, none, .mov (.tmp 18), []⟩,
 ⟨9, some 1, none, .mov (.tmp 22), []⟩]) ir127_k3
def ir127_k1 : ICode :=
 .seq (
 .seq (
 .region [
 ⟨0, some 9, none, .mov (.tmp 0), []⟩,
 ⟨1, some 10, none, .call 157 [.tmp 9], []⟩,
 ⟨2, some 11, none, .mov (.tmp 10), []⟩,
 ⟨3, some 12, some (11, false), .mov (.tmp 1), []⟩,
 ⟨4, some 13, some (11, false), .call 157 [.tmp 12], []⟩,
 ⟨5, some 14, none, .pick (.tmp 11) (.const (.bool true)) (.tmp 13), []⟩]) (
 .cond (.tmp 14) (
 .seq (
 .region [
 ⟨0, some 4, none, .mov (.const (.slice none 0 0)), []⟩,
 ⟨1, some 5, none, .mov (.const (.int .i64 2)), []⟩]) (
 .ret)) (
 .skip))) ir127_k2
def ir127_b : ICode :=
 .seq (
 .region [
 ⟨0, some 4, none, .mov (.const (.slice none 0 0)), []⟩,
 ⟨1, some 5, none, .mov (.const (.int .i64 0)), []⟩]) ir127_k1
def ir127 : IFunc := ⟨75, [.tmp 4, .tmp 5], ir127_b⟩
theorem ir127_eq : cFunc Tryz.prog 127 = some ir127 := by kernel_rfl
theorem call127 {args : List Value} {m : Mem} {Φ : Value → Mem → Prop} (h : args.length ≤ 75) : WPCall Tryz.prog 127 args m Φ = WP Tryz.prog ir127_b (initσ args) m (retK [.tmp 4, .tmp 5] Φ) := wpCall_def ir127_eq h
def ir128_k10 : ICode :=
 .seq (
 .region [
 ⟨0, some 56, none, .mov (.tmp 6), []⟩,
 ⟨1, some 57, none, .mov (.tmp 8), []⟩,
 ⟨2, some 58, none, .mov (.tmp 9), []⟩,
 ⟨3, some 59, none, .convI .u32 (.tmp 58), []⟩,
 ⟨4, some 60, none, .iaddr 1 (.tmp 56) (.tmp 57), []⟩,
 ⟨5, none, none, .store 1 (.tmp 60) (.tmp 59), []⟩]) (
 .region [
 ⟨0, some 61, none, .mov (.tmp 9), []⟩,
 ⟨1, some 62, none, .bin .shr .other (.tmp 61) (.const (.int .u64 63)), []⟩,
 ⟨2, some 7, none, .mov (.tmp 62), []⟩])
def ir128_k9 : ICode :=
 .seq (
 .seq (
 .region [
 ⟨0, some 45, none, .mov (.tmp 8), []⟩,
 ⟨1, some 46, none, .mov (.tmp 1), []⟩,
 ⟨2, some 47, none, .lenV (.tmp 46), []⟩,
 ⟨3, some 48, none, .bin .lss .other (.tmp 45) (.tmp 47), []⟩]) (
 .cond (.tmp 48) (
 .region [
 ⟨0, some 49, none, .mov (.tmp 9), []⟩,
 ⟨1, some 50, none, .mov (.tmp 1), []⟩,
 ⟨2, some 51, none, .mov (.tmp 8), []⟩,
 ⟨3, some 52, none, .iaddr 1 (.tmp 50) (.tmp 51), []⟩,
 ⟨4, some 53, none, .load false 1 (.tmp 52), []⟩,
 ⟨5, some 54, none, .convI .u64 (.tmp 53), []⟩,
 ⟨6, some 55, none, .bin .sub .other (.tmp 49) (.tmp 54), []⟩,
 ⟨7, some 9, none, .mov (.tmp 55), []⟩]) (
 .skip))) ir128_k10
def ir128_k8 : ICode :=
 .seq (
 .region [
 ⟨0, some 38, none, .mov (.tmp 0), []⟩,
 ⟨1, some 39, none, .mov (.tmp 8), []⟩,
 ⟨2, some 40, none, .iaddr 1 (.tmp 38) (.tmp 39), []⟩,
 ⟨3, some 41, none, .load false 1 (.tmp 40), []⟩,
 ⟨4, some 42, none, .convI .u64 (.tmp 41), []⟩,
 ⟨5, some 43, none, .mov (.tmp 7), []⟩,
 ⟨6, some 44, none, .bin .sub .other (.tmp 42) (.tmp 43), []⟩,
 ⟨7, some 9, none, .mov (.tmp 44), []⟩]) ir128_k9
def ir128_k7 : ICode :=
 .seq (
 .block 2 (
 .seq (
 .region [
 ⟨0, some 37, none, .mov (.tmp 35), []⟩,
 ⟨1, some 8, none, .mov (.tmp 37), []⟩]) ir128_k8)) (
 .region [
 ⟨0, some 63, none, .bin .add .other (.tmp 35) (.const (.int .i64 1)), []⟩,
 ⟨1, some 35, none, .mov (.tmp 63), []⟩])
def ir128_k6 : ICode :=
 .seq (
 .cond (.tmp 36) (
 .skip) (
 .exit 1)) ir128_k7
def ir128_l0 : ICode :=
 .seq (
 .region [
 ⟨0, some 36, none, .bin .lss .other (.tmp 35) (.tmp 34), []⟩]) ir128_k6
def ir128_k11 : ICode :=
 .seq (
 .region [
 ⟨0, some 64, none, .mov (.tmp 6), []⟩,
 ⟨1, some 65, none, .call 158 [.tmp 64], []⟩,
 ⟨2, some 66, none, .ext 0 (.tmp 65), []⟩,
 ⟨3, some 67, none, .ext 1 (.tmp 65), []⟩,
 ⟨4, some 4, none, .mov (.tmp 66), []⟩,
 ⟨5, some 5, none, .mov (.tmp 67), []⟩]) (
 .ret)
def ir128_k5 : ICode :=
 .seq (
 .seq (
 .region [
 ⟨0, some 33, none, .mov (.tmp 0), []⟩,
 ⟨1, some 34, none, .lenV (.tmp 33), []⟩,
 ⟨2, some 35, none, .mov (.const (.int .i64 0)), []⟩]) (
 .block 1 (
 .loop ir128_l0))) ir128_k11
def ir128_k4 : ICode :=
 .seq (
 .region [
 ⟨0, some 7, none, .mov (.const (.int .u64 0)), []⟩]) ir128_k5
def ir128_k3 : ICode :=
 .seq (
 .region [
 ⟨0, some 30, none, .mov (.tmp 0), []⟩,
 ⟨1, some 31, none, .lenV (.tmp 30), []⟩,
 ⟨2, some 32, none, .mkslice 1 4 [.int .u32 0] (.tmp 31) (.tmp 31), []⟩,
 ⟨3, some 6, none, .mov (.tmp 32), []⟩]) ir128_k4
def ir128_k2 : ICode :=
 .seq (
 .region [
 ⟨0, some 22, none, .mov (.tmp 0), []⟩,
 ⟨1, some 23, none, .mov (.tmp 0), []⟩,
 ⟨4, some 26, none, .mov (.tmp 1), []⟩,
 ⟨5, some 27, none, .mov (.tmp 1), []⟩,
 ⟨2, some 24, none, .call 100 [.tmp 23], []⟩,
 ⟨3, some 25, none, .sliceS 1 (.tmp 22) none (some (.tmp 24)), []⟩,
 ⟨6, some 28, none, .call 100 [.tmp 27], []⟩,
 ⟨7, some 29, none, .sliceS 1 (.tmp 26) none (some (.tmp 28)), []⟩,
 ⟨8, some 0, none, .mov (.tmp 25), []⟩,
 ⟨9, some 1, none, .mov (.tmp 29), []⟩]) ir128_k3
def ir128_k1 : ICode :=
 .seq (
 .block 0 (
 .seq (
 .region [
 ⟨0, some 11, none, .mov (.tmp 0), []⟩,
 ⟨1, some 12, none, .call 157 [.tmp 11], []⟩,
 ⟨2, some 13, none, .mov (.tmp 12), []⟩,
 ⟨3, some 14, some (13, false), .mov (.tmp 1), []⟩,
 ⟨4, some 15, some (13, false), .call 157 [.tmp 14], []⟩,
 ⟨5, some 16, none, .pick (.tmp 13) (.const (.bool true)) (.tmp 15), []⟩,
 ⟨6, some 10, none, .mov (.tmp 16), []⟩]) (
 .cond (.tmp 10) (
 .seq (
 .region [
 ⟨0, some 4, none, .mov (.const (.slice none 0 0)), []⟩,
 ⟨1, some 5, none, .mov (.const (.int .i64 2)), []⟩]) (
 .ret)) (
 .seq (
 .region [
 ⟨0, some 18, none, .mov (.tmp 0), []⟩,
 ⟨1, some 19, none, .mov (.tmp 1), []⟩,
 ⟨2, some 20, none, .call 92 [.tmp 18, .tmp 19], []⟩,
 ⟨3, some 21, none, .bin .lss .other (.tmp 20) (.const (.int .i64 0)), []⟩,
 ⟨4, some 17, none, .mov (.tmp 21), []⟩]) (
 .cond (.tmp 17) (
 .seq (
 .region [
 ⟨0, some 4, none, .mov (.const (.slice none 0 0)), []⟩,
 ⟨1, some 5, none, .mov (.const (.int .i64 4)), []⟩]) (
 .ret)) (
 .skip)))))) ir128_k2
def ir128_b : ICode :=
 .seq (
 .region [
 ⟨0, some 4, none, .mov (.const (.slice none 0 0)), []⟩,
 ⟨1, some 5, none, .mov (.const (.int .i64 0)), []⟩]) ir128_k1
def ir128 : IFunc := ⟨68, [.tmp 4, .tmp 5], ir128_b⟩
theorem ir128_eq : cFunc Tryz.prog 128 = some ir128 := by kernel_rfl
theorem call128 {args : List Value} {m : Mem} {Φ : Value → Mem → Prop} (h : args.length ≤ 68) : WPCall Tryz.prog 128 args m Φ = WP Tryz.prog ir128_b (initσ args) m (retK [.tmp 4, .tmp 5] Φ) := wpCall_def ir128_eq h
def ir129_l0 : ICode :=
 .seq (
 .seq (
 .region [
 ⟨0, some 18, none, .mov (.tmp 1), []⟩,
 ⟨1, some 19, none, .lenV (.tmp 18), []⟩,
 ⟨2, some 20, none, .bin .gtr .other (.tmp 19) (.const (.int .i64 0)), []⟩]) (
 .cond (.tmp 20) (
 .skip) (
 .exit 0))) (
 .block 1 (
 .seq (
 .region [
 ⟨0, some 22, none, .mov (.tmp 0), []⟩,
 ⟨1, some 23, none, .mov (.tmp 1), []⟩,
 ⟨2, some 24, none, .call 159 [.tmp 22, .tmp 23], []⟩,
 ⟨3, some 21, none, .mov (.tmp 24), []⟩,
 ⟨4, some 25, none, .ext 0 (.tmp 21), []⟩,
 ⟨5, some 26, none, .ext 1 (.tmp 21), []⟩,
 ⟨6, some 6, none, .mov (.tmp 25), []⟩,
 ⟨7, some 7, none, .mov (.tmp 26), []⟩]) (
 .region [
 ⟨0, some 27, none, .mov (.tmp 1), []⟩,
 ⟨1, some 28, none, .mov (.tmp 7), []⟩,
 ⟨2, some 0, none, .mov (.tmp 27), []⟩,
 ⟨3, some 1, none, .mov (.tmp 28), []⟩])))
def ir129_k4 : ICode :=
 .seq (
 .region [
 ⟨0, some 29, none, .mov (.tmp 0), []⟩,
 ⟨1, some 4, none, .mov (.tmp 29), []⟩,
 ⟨2, some 5, none, .mov (.const (.int .i64 0)), []⟩]) (
 .ret)
def ir129_k3 : ICode :=
 .seq (
 .block 0 (
 .loop ir129_l0)) ir129_k4
def ir129_k2 : ICode :=
 .seq (
 .region [
 ⟨0, some 14, none, .mov (.tmp 0), []⟩,
 ⟨1, some 15, none, .call 131 [.tmp 14], []⟩,
 ⟨2, some 16, none, .mov (.tmp 1), []⟩,
 ⟨3, some 17, none, .call 131 [.tmp 16], []⟩,
 ⟨4, some 0, none, .mov (.tmp 15), []⟩,
 ⟨5, some 1, none, .mov (.tmp 17), []⟩]) ir129_k3
def ir129_k1 : ICode :=
 .seq (
 .seq (
 .region [
 ⟨0, some 8, none, .mov (.tmp 0), []⟩,
 ⟨1, some 9, none, .call 157 [.tmp 8], []⟩,
 ⟨2, some 10, none, .mov (.tmp 9), []⟩,
 ⟨3, some 11, some (10, false), .mov (.tmp 1), []⟩,
 ⟨4, some 12, some (10, false), .call 157 [.tmp 11], []⟩,
 ⟨5, some 13, none, .pick (.tmp 10) (.const (.bool true)) (.tmp 12), []⟩]) (
 .cond (.tmp 13) (
 .seq (
 .region [
 ⟨0, some 4, none, .mov (.const (.slice none 0 0)), []⟩,
 ⟨1, some 5, none, .mov (.const (.int .i64 2)), []⟩]) (
 .ret)) (
 .skip))) ir129_k2
def ir129_b : ICode :=
 .seq (
 .region [
 ⟨0, some 4, none, .mov (.const (.slice none 0 0)), []⟩,
 ⟨1, some 5, none, .mov (.const (.int .i64 0)), []⟩]) ir129_k1
def ir129 : IFunc := ⟨30, [.tmp 4, .tmp 5], ir129_b⟩
theorem ir129_eq : cFunc Tryz.prog 129 = some ir129 := by kernel_rfl
theorem call129 {args : List Value} {m : Mem} {Φ : Value → Mem → Prop} (h : args.length ≤ 30) : WPCall Tryz.prog 129 args m Φ = WP Tryz.prog ir129_b (initσ args) m (retK [.tmp 4, .tmp 5] Φ) := wpCall_def ir129_eq h
def ir130_k3 : ICode :=
 .seq (
 .region [
 ⟨0, some 32, none, .mov (.tmp 7), []⟩,
 ⟨1, some 33, none, .mov (.tmp 8), []⟩,
 ⟨2, some 4, none, .mov (.tmp 32), []⟩,
 ⟨3, some 5, none, .mov (.tmp 33), []⟩,
 ⟨4, some 6, none, .mov (.const (.int .i64 0)), []⟩]) (
 .ret)
def ir130_k2 : ICode :=
 .seq (
 .region [
 ⟨0, some 21, none, .mov (.tmp 0), []⟩,
 ⟨1, some 22, none, .mov (.tmp 0), []⟩,
 ⟨4, some 25, none, .mov (.tmp 1), []⟩,
 ⟨5, some 26, none, .mov (.tmp 1), []⟩,
 ⟨2, some 23, none, .call 100 [.tmp 22], []⟩,
 ⟨3, some 24, none, .sliceS 1 (.tmp 21) none (some (.tmp 23)), []⟩,
 ⟨6, some 27, none, .call 100 [.tmp 26], []⟩,
 ⟨7, some 28, none, .sliceS 1 (.tmp 25) none (some (.tmp 27)), []⟩,
 ⟨8, some 29, none, .call 159 [.tmp 24, .tmp 28], []⟩,
 ⟨9, some 20, none, .mov (.tmp 29), []⟩,
 ⟨10, some 30, none, .ext 0 (.tmp 20), []⟩,
 ⟨11, some 31, none, .ext 1 (.tmp 20), []⟩,
 ⟨12, some 7, none, .mov (.tmp 30), []⟩,
 ⟨13, some 8, none, .mov (.tmp 31), []⟩]) ir130_k3
def ir130_k1 : ICode :=
 .seq (
 .block 0 (
 .seq (
 .region [
 ⟨0, some 10, none, .mov (.tmp 0), []⟩,
 ⟨1, some 11, none, .call 157 [.tmp 10], []⟩,
 ⟨2, some 12, none, .mov (.tmp 11), []⟩,
 ⟨3, some 13, some (12, false), .mov (.tmp 1), []⟩,
 ⟨4, some 14, some (12, false), .call 157 [.tmp 13], []⟩,
 ⟨5, some 15, none, .pick (.tmp 12) (.const (.bool true)) (.tmp 14), []⟩,
 ⟨6, some 9, none, .mov (.tmp 15), []⟩]) (
 .cond (.tmp 9) (
 .seq (
 .region [
 ⟨0, some 4, none, .mov (.const (.slice none 0 0)), []⟩,
 ⟨1, some 5, none, .mov (.const (.slice none 0 0)), []⟩,
 ⟨2, some 6, none, .mov (.const (.int .i64 2)), []⟩]) (
 .ret)) (
 .seq (
 .region [
 ⟨0, some 17, none, .mov (.tmp 1), []⟩,
 ⟨1, some 18, none, .call 100 [.tmp 17], []⟩,
 ⟨2, some 19, none, .bin .eql .other (.tmp 18) (.const (.int .i64 0)), []⟩,
 ⟨3, some 16, none, .mov (.tmp 19), []⟩]) (
 .cond (.tmp 16) (
 .seq (
 .region [
 ⟨0, some 4, none, .mov (.const (.slice none 0 0)), []⟩,
 ⟨1, some 5, none, .mov (.const (.slice none 0 0)), []⟩,
 ⟨2, some 6, none, .mov (.const (.int .i64 3)), []⟩]) (
 .ret)) (
 .skip)))))) ir130_k2
def ir130_b : ICode :=
 .seq (
 .region [
 ⟨0, some 4, none, .mov (.const (.slice none 0 0)), []⟩,
 ⟨1, some 5, none, .mov (.const (.slice none 0 0)), []⟩,
 ⟨2, some 6, none, .mov (.const (.int .i64 0)), []⟩]) ir130_k1
def ir130 : IFunc := ⟨34, [.tmp 4, .tmp 5, .tmp 6], ir130_b⟩
theorem ir130_eq : cFunc Tryz.prog 130 = some ir130 := by kernel_rfl
theorem call130 {args : List Value} {m : Mem} {Φ : Value → Mem → Prop} (h : args.length ≤ 34) : WPCall Tryz.prog 130 args m Φ = WP Tryz.prog ir130_b (initσ args) m (retK [.tmp 4, .tmp 5, .tmp 6] Φ) := wpCall_def ir130_eq h
def ir131_k1 : ICode :=
 .seq (
 .region [
 ⟨0, some 3, none, .mov (.tmp 0), []⟩,
 ⟨1, some 4, none, .mov (.tmp 0), []⟩,
 ⟨2, some 5, none, .call 100 [.tmp 4], []⟩,
 ⟨3, some 6, none, .sliceS 1 (.tmp 3) none (some (.tmp 5)), []⟩,
 ⟨4, some 7, none, .app 1 4 (.const (.slice none 0 0)) (.tmp 6), []⟩,
 ⟨5, some 2, none, .mov (.tmp 7), []⟩]) (
 .ret)
def ir131_b : ICode :=
 .seq (
 .region [
 ⟨0, some 2, none, .mov (.const (.slice none 0 0)), []⟩]) ir131_k1
def ir131 : IFunc := ⟨8, [.tmp 2], ir131_b⟩
theorem ir131_eq : cFunc Tryz.prog 131 = some ir131 := by kernel_rfl
theorem call131 {args : List Value} {m : Mem} {Φ : Value → Mem → Prop} (h : args.length ≤ 8) : WPCall Tryz.prog 131 args m Φ = WP Tryz.prog ir131_b (initσ args) m (retK [.tmp 2] Φ) := wpCall_def ir131_eq h
def ir132_k12 : ICode :=
 .seq (
 .region [
 ⟨0, some 61, none, .mov (.tmp 6), []⟩,
 ⟨1, some 62, none, .mov (.tmp 7), []⟩,
 ⟨2, some 63, none, .mov (.tmp 10), []⟩,
 ⟨3, some 64, none, .bin .add .other (.tmp 62) (.tmp 63), []⟩,
 ⟨4, some 65, none, .mov (.tmp 9), []⟩,
 ⟨5, some 66, none, .convI .u32 (.tmp 65), []⟩,
 ⟨6, some 67, none, .iaddr 1 (.tmp 61) (.tmp 64), []⟩,
 ⟨7, none, none, .store 1 (.tmp 67) (.tmp 66), []⟩]) (
 .region [
 ⟨0, some 68, none, .mov (.tmp 9), []⟩,
 ⟨1, some 69, none, .bin .shr .other (.tmp 68) (.const (.int .u64 32)), []⟩,
 ⟨2, some 9, none, .mov (.tmp 69), []⟩])
def ir132_k11 : ICode :=
 .seq (
 .region [
 ⟨0, some 46, none, .mov (.tmp 9), []⟩,
 ⟨1, some 47, none, .mov (.tmp 8), []⟩,
 ⟨2, some 48, none, .convI .u64 (.tmp 47), []⟩,
 ⟨3, some 49, none, .mov (.tmp 11), []⟩,
 ⟨4, some 50, none, .convI .u64 (.tmp 49), []⟩,
 ⟨5, some 51, none, .bin .mul .other (.tmp 48) (.tmp 50), []⟩,
 ⟨6, some 52, none, .mov (.tmp 6), []⟩,
 ⟨7, some 53, none, .mov (.tmp 7), []⟩,
 ⟨8, some 54, none, .mov (.tmp 10), []⟩,
 ⟨9, some 55, none, .bin .add .other (.tmp 53) (.tmp 54), []⟩,
 ⟨10, some 56, none, .iaddr 1 (.tmp 52) (.tmp 55), []⟩,
 ⟨11, some 57, none, .load false 1 (.tmp 56), []⟩,
 ⟨12, some 58, none, .convI .u64 (.tmp 57), []⟩,
 ⟨13, some 59, none, .bin .add .other (.tmp 51) (.tmp 58), []⟩,
 ⟨14, some 60, none, .bin .add .other (.tmp 46) (.tmp 59), []⟩,
 ⟨15, some 9, none, .mov (.tmp 60), []⟩]) ir132_k12
def ir132_k10 : ICode :=
 .seq (
 .block 3 (
 .seq (
 .region [
 ⟨0, some 43, none, .mov (.tmp 41), []⟩,
 ⟨1, some 44, none, .iaddr 1 (.tmp 39) (.tmp 41), []⟩,
 ⟨2, some 45, none, .load false 1 (.tmp 44), []⟩,
 ⟨3, some 10, none, .mov (.tmp 43), []⟩,
 ⟨4, some 11, none, .mov (.tmp 45), []⟩]) ir132_k11)) (
 .region [
 ⟨0, some 70, none, .bin .add .other (.tmp 41) (.const (.int .i64 1)), []⟩,
 ⟨1, some 41, none, .mov (.tmp 70), []⟩])
def ir132_k9 : ICode :=
 .seq (
 .cond (.tmp 42) (
 .skip) (
 .exit 2)) ir132_k10
def ir132_l0 : ICode :=
 .seq (
 .region [
 ⟨0, some 42, none, .bin .lss .other (.tmp 41) (.tmp 40), []⟩]) ir132_k9
def ir132_k8 : ICode :=
 .seq (
 .seq (
 .region [
 ⟨0, some 39, none, .mov (.tmp 1), []⟩,
 ⟨1, some 40, none, .lenV (.tmp 39), []⟩,
 ⟨2, some 41, none, .mov (.const (.int .i64 0)), []⟩]) (
 .block 2 (
 .loop ir132_l0))) (
 .region [
 ⟨0, some 71, none, .mov (.tmp 6), []⟩,
 ⟨1, some 72, none, .mov (.tmp 7), []⟩,
 ⟨2, some 73, none, .mov (.tmp 1), []⟩,
 ⟨3, some 74, none, .lenV (.tmp 73), []⟩,
 ⟨4, some 75, none, .bin .add .other (.tmp 72) (.tmp 74), []⟩,
 ⟨5, some 76, none, .mov (.tmp 9), []⟩,
 ⟨6, some 77, none, .convI .u32 (.tmp 76), []⟩,
 ⟨7, some 78, none, .iaddr 1 (.tmp 71) (.tmp 75), []⟩,
 ⟨8, none, none, .store 1 (.tmp 78) (.tmp 77), []⟩])
def ir132_k7 : ICode :=
 .seq (
 .region [
 ⟨0, some 9, none, .mov (.const (.int .u64 0)), []⟩]) ir132_k8
def ir132_k6 : ICode :=
 .seq (
 .block 1 (
 .seq (
 .region [
 ⟨0, some 36, none, .mov (.tmp 34), []⟩,
 ⟨1, some 37, none, .iaddr 1 (.tmp 32) (.tmp 34), []⟩,
 ⟨2, some 38, none, .load false 1 (.tmp 37), []⟩,
 ⟨3, some 7, none, .mov (.tmp 36), []⟩,
 ⟨4, some 8, none, .mov (.tmp 38), []⟩]) ir132_k7)) (
 .region [
 ⟨0, some 79, none, .bin .add .other (.tmp 34) (.const (.int .i64 1)), []⟩,
 ⟨1, some 34, none, .mov (.tmp 79), []⟩])
def ir132_k5 : ICode :=
 .seq (
 .cond (.tmp 35) (
 .skip) (
 .exit 0)) ir132_k6
def ir132_l1 : ICode :=
 .seq (
 .region [
 ⟨0, some 35, none, .bin .lss .other (.tmp 34) (.tmp 33), []⟩]) ir132_k5
def ir132_k13 : ICode :=
 .seq (
 .region [
 ⟨0, some 80, none, .mov (.tmp 6), []⟩,
 ⟨1, some 81, none, .call 158 [.tmp 80], []⟩,
 ⟨2, some 82, none, .ext 0 (.tmp 81), []⟩,
 ⟨3, some 83, none, .ext 1 (.tmp 81), []⟩,
 ⟨4, some 4, none, .mov (.tmp 82), []⟩,
 ⟨5, some 5, none, .mov (.tmp 83), []⟩]) (
 .ret)
def ir132_k4 : ICode :=
 .seq (
 .seq (
 .region [
 ⟨0, some 32, none, .mov (.tmp 0), []⟩,
 ⟨1, some 33, none, .lenV (.tmp 32), []⟩,
 ⟨2, some 34, none, .mov (.const (.int .i64 0)), []⟩]) (
 .block 0 (
 .loop ir132_l1))) ir132_k13
def ir132_k3 : ICode :=
 .seq (
 .region [
 ⟨0, some 26, none, .mov (.tmp 0), []⟩,
 ⟨1, some 27, none, .lenV (.tmp 26), []⟩,
 ⟨2, some 28, none, .mov (.tmp 1), []⟩,
 ⟨3, some 29, none, .lenV (.tmp 28), []⟩,
 ⟨4, some 30, none, .bin .add .other (.tmp 27) (.tmp 29), []⟩,
 ⟨5, some 31, none, .mkslice 1 4 [.int .u32 0] (.tmp 30) (.tmp 30), []⟩,
 ⟨6, some 6, none, .mov (.tmp 31), []⟩]) ir132_k4
def ir132_k2 : ICode :=
 .seq (
 .region [
 ⟨0, some 18, none, .mov (.tmp 0), []⟩,
 ⟨1, some 19, none, .mov (.tmp 0), []⟩,
 ⟨4, some 22, none, .mov (.tmp 1), []⟩,
 ⟨5, some 23, none, .mov (.tmp 1), []⟩,
 ⟨2, some 20, none, .call 100 [.tmp 19], []⟩,
 ⟨3, some 21, none, .sliceS 1 (.tmp 18) none (some (.tmp 20)), []⟩,
 ⟨6, some 24, none, .call 100 [.tmp 23], []⟩,
 ⟨7, some 25, none, .sliceS 1 (.tmp 22) none (some (.tmp 24)), []⟩,
 ⟨8, some 0, none, .mov (.tmp 21), []⟩,
 ⟨9, some 1, none, .mov (.tmp 25), []⟩]) ir132_k3
def ir132_k1 : ICode :=
 .seq (
 .seq (
 .region [
 ⟨0, some 12, none, .mov (.tmp 0), []⟩,
 ⟨1, some 13, none, .call 157 [.tmp 12], []⟩,
 ⟨2, some 14, none, .mov (.tmp 13), []⟩,
 ⟨3, some 15, some (14, false), .mov (.tmp 1), []⟩,
 ⟨4, some 16, some (14, false), .call 157 [.tmp 15], []⟩,
 ⟨5, some 17, none, .pick (.tmp 14) (.const (.bool true)) (.tmp 16), []⟩]) (
 .cond (.tmp 17) (
 .seq (
 .region [
 ⟨0, some 4, none, .mov (.const (.slice none 0 0)), []⟩,
 ⟨1, some 5, none, .mov (.const (.int .i64 2)), []⟩]) (
 .ret)) (
 .skip))) ir132_k2
def ir132_b : ICode :=
 .seq (
 .region [
 ⟨0, some 4, none, .mov (.const (.slice none 0 0)), []⟩,
 ⟨1, some 5, none, .mov (.const (.int .i64 0)), []⟩]) ir132_k1
def ir132 : IFunc := ⟨84, [.tmp 4, .tmp 5], ir132_b⟩
theorem ir132_eq : cFunc Tryz.prog 132 = some ir132 := by kernel_rfl
theorem call132 {args : List Value} {m : Mem} {Φ : Value → Mem → Prop} (h : args.length ≤ 84) : WPCall Tryz.prog 132 args m Φ = WP Tryz.prog ir132_b (initσ args) m (retK [.tmp 4, .tmp 5] Φ) := wpCall_def ir132_eq h
def ir134_k3 : ICode :=
 .seq (
 .region [
 ⟨0, some 4, none, .mov (.const (.int .i64 1)), []⟩]) (
 .ret)
def ir134_k6 : ICode :=
 .seq (
 .region [
 ⟨0, some 36, none, .mov (.tmp 0), []⟩,
 ⟨1, some 37, none, .mov (.tmp 5), []⟩,
 ⟨2, some 38, none, .iaddr 1 (.tmp 36) (.tmp 37), []⟩,
 ⟨3, some 39, none, .load false 1 (.tmp 38), []⟩,
 ⟨4, some 40, none, .mov (.tmp 1), []⟩,
 ⟨5, some 41, none, .mov (.tmp 5), []⟩,
 ⟨6, some 42, none, .iaddr 1 (.tmp 40) (.tmp 41), []⟩,
 ⟨7, some 43, none, .load false 1 (.tmp 42), []⟩,
 ⟨8, some 44, none, .bin .gtr .other (.tmp 39) (.tmp 43), []⟩]) (
 .cond (.tmp 44) (
 .seq (
 .region [
 ⟨0, some 4, none, .mov (.const (.int .i64 1)), []⟩]) (
 .ret)) (
 .skip))
def ir134_k5 : ICode :=
 .seq (
 .block 1 (
 .seq (
 .seq (
 .region [
 ⟨0, some 27, none, .mov (.tmp 0), []⟩,
 ⟨1, some 28, none, .mov (.tmp 5), []⟩,
 ⟨2, some 29, none, .iaddr 1 (.tmp 27) (.tmp 28), []⟩,
 ⟨3, some 30, none, .load false 1 (.tmp 29), []⟩,
 ⟨4, some 31, none, .mov (.tmp 1), []⟩,
 ⟨5, some 32, none, .mov (.tmp 5), []⟩,
 ⟨6, some 33, none, .iaddr 1 (.tmp 31) (.tmp 32), []⟩,
 ⟨7, some 34, none, .load false 1 (.tmp 33), []⟩,
 ⟨8, some 35, none, .bin .lss .other (.tmp 30) (.tmp 34), []⟩]) (
 .cond (.tmp 35) (
 .seq (
 .region [
 ⟨0, some 4, none, .mov (.const (.int .i64 (-1))), []⟩]) (
 .ret)) (
 .skip))) ir134_k6)) (
 .region [
 ⟨0, some 25, none, .mov (.tmp 5), []⟩,
 ⟨1, some 26, none, .bin .sub .other (.tmp 25) (.const (.int .i64 1)), []⟩,
 ⟨2, some 5, none, .mov (.tmp 26), []⟩])
def ir134_l0 : ICode :=
 .seq (
 .seq (
 .region [
 ⟨0, some 23, none, .mov (.tmp 5), []⟩,
 ⟨1, some 24, none, .bin .geq .other (.tmp 23) (.const (.int .i64 0)), []⟩]) (
 .cond (.tmp 24) (
 .skip) (
 .exit 0))) ir134_k5
def ir134_k7 : ICode :=
 .seq (
 .region [
 ⟨0, some 4, none, .mov (.const (.int .i64 0)), []⟩]) (
 .ret)
def ir134_k4 : ICode :=
 .seq (
 .seq (
 .region [
 ⟨0, some 20, none, .mov (.tmp 0), []⟩,
 ⟨1, some 21, none, .lenV (.tmp 20), []⟩,
 ⟨2, some 22, none, .bin .sub .other (.tmp 21) (.const (.int .i64 1)), []⟩,
 ⟨3, some 5, none, .mov (.tmp 22), []⟩]) (
 .block 0 (
 .loop ir134_l0))) ir134_k7
def ir134_k2 : ICode :=
 .seq (
 .seq (
 .region [
 ⟨0, some 10, none, .mov (.tmp 0), []⟩,
 ⟨1, some 11, none, .lenV (.tmp 10), []⟩,
 ⟨2, some 12, none, .mov (.tmp 1), []⟩,
 ⟨3, some 13, none, .lenV (.tmp 12), []⟩,
 ⟨4, some 14, none, .bin .neq .other (.tmp 11) (.tmp 13), []⟩]) (
 .cond (.tmp 14) (
 .seq (
 .seq (
 .region [
 ⟨0, some 15, none, .mov (.tmp 0), []⟩,
 ⟨1, some 16, none, .lenV (.tmp 15), []⟩,
 ⟨2, some 17, none, .mov (.tmp 1), []⟩,
 ⟨3, some 18, none, .lenV (.tmp 17), []⟩,
 ⟨4, some 19, none, .bin .lss .other (.tmp 16) (.tmp 18), []⟩]) (
 .cond (.tmp 19) (
 .seq (
 .region [
 ⟨0, some 4, none, .mov (.const (.int .i64 (-1))), []⟩]) (
 .ret)) (
 .skip))) ir134_k3) (
 .skip))) ir134_k4
def ir134_k1 : ICode :=
 .seq (
 .region [
 ⟨0, some 6, none, .mov (.tmp 0), []⟩,
 ⟨1, some 7, none, .call 106 [.tmp 6], []⟩,
 ⟨2, some 8, none, .mov (.tmp 1), []⟩,
 ⟨3, some 9, none, .call 106 [.tmp 8], []⟩,
 ⟨4, some 0, none, .mov (.tmp 7), []⟩,
 ⟨5, some 1, none, .mov (.tmp 9), []⟩]) ir134_k2
def ir134_b : ICode :=
 .seq (
 .region [
 ⟨0, some 4, none, .mov (.const (.int .i64 0)), []⟩]) ir134_k1
def ir134 : IFunc := ⟨45, [.tmp 4], ir134_b⟩
theorem ir134_eq : cFunc Tryz.prog 134 = some ir134 := by kernel_rfl
theorem call134 {args : List Value} {m : Mem} {Φ : Value → Mem → Prop} (h : args.length ≤ 45) : WPCall Tryz.prog 134 args m Φ = WP Tryz.prog ir134_b (initσ args) m (retK [.tmp 4] Φ) := wpCall_def ir134_eq h
def ir135_k4 : ICode :=
 .seq (
 .region [
 ⟨0, some 20, none, .mov (.tmp 6), []⟩,
 ⟨1, some 4, none, .mov (.tmp 20), []⟩,
 ⟨2, some 5, none, .mov (.const (.int .i64 0)), []⟩]) (
 .ret)
def ir135_k3 : ICode :=
 .seq (
 .seq (
 .region [
 ⟨0, some 18, none, .mov (.tmp 6), []⟩,
 ⟨1, some 19, none, .call 161 [.tmp 18], []⟩]) (
 .cond (.tmp 19) (
 .seq (
 .region [
 ⟨0, some 4, none, .mov (.const (.slice none 0 0)), []⟩,
 ⟨1, some 5, none, .mov (.const (.int .i64 2)), []⟩]) (
 .ret)) (
 .skip))) ir135_k4
def ir135_k2 : ICode :=
 .seq (
 .region [
 ⟨0, some 13, none, .mov (.tmp 0), []⟩,
 ⟨1, some 14, none, .call 106 [.tmp 13], []⟩,
 ⟨2, some 15, none, .mov (.tmp 1), []⟩,
 ⟨3, some 16, none, .call 106 [.tmp 15], []⟩,
 ⟨4, some 17, none, .call 162 [.tmp 14, .tmp 16], []⟩,
 ⟨5, some 6, none, .mov (.tmp 17), []⟩]) ir135_k3
def ir135_k1 : ICode :=
 .seq (
 .seq (
 .region [
 ⟨0, some 7, none, .mov (.tmp 0), []⟩,
 ⟨1, some 8, none, .call 161 [.tmp 7], []⟩,
 ⟨2, some 9, none, .mov (.tmp 8), []⟩,
 ⟨3, some 10, some (9, false), .mov (.tmp 1), []⟩,
 ⟨4, some 11, some (9, false), .call 161 [.tmp 10], []⟩,
 ⟨5, some 12, none, .pick (.tmp 9) (.const (.bool true)) (.tmp 11), []⟩]) (
 .cond (.tmp 12) (
 .seq (
 .region [
 ⟨0, some 4, none, .mov (.const (.slice none 0 0)), []⟩,
 ⟨1, some 5, none, .mov (.const (.int .i64 2)), []⟩]) (
 .ret)) (
 .skip))) ir135_k2
def ir135_b : ICode :=
 .seq (
 .region [
 ⟨0, some 4, none, .mov (.const (.slice none 0 0)), []⟩,
 ⟨1, some 5, none, .mov (.const (.int .i64 0)), []⟩]) ir135_k1
def ir135 : IFunc := ⟨21, [.tmp 4, .tmp 5], ir135_b⟩
theorem ir135_eq : cFunc Tryz.prog 135 = some ir135 := by kernel_rfl
theorem call135 {args : List Value} {m : Mem} {Φ : Value → Mem → Prop} (h : args.length ≤ 21) : WPCall Tryz.prog 135 args m Φ = WP Tryz.prog ir135_b (initσ args) m (retK [.tmp 4, .tmp 5] Φ) := wpCall_def ir135_eq h
def ir137_k3 : ICode :=
 .seq (
 .region [
 ⟨0, some 16, none, .mov (.tmp 0), []⟩,
 ⟨1, some 17, none, .call 106 [.tmp 16], []⟩,
 ⟨2, some 18, none, .mov (.tmp 1), []⟩,
 ⟨3, some 19, none, .call 106 [.tmp 18], []⟩,
 ⟨4, some 20, none, .call 164 [.tmp 17, .tmp 19], []⟩,
 ⟨5, some 4, none, .mov (.tmp 20), []⟩,
 ⟨6, some 5, none, .mov (.const (.int .i64 0)), []⟩]) (
 .ret)
def ir137_k2 : ICode :=
 .seq (
 .seq (
 .region [
 ⟨0, some 12, none, .mov (.tmp 0), []⟩,
 ⟨1, some 13, none, .mov (.tmp 1), []⟩,
 ⟨2, some 14, none, .call 134 [.tmp 12, .tmp 13], []⟩,
 ⟨3, some 15, none, .bin .lss .other (.tmp 14) (.const (.int .i64 0)), []⟩]) (
 .cond (.tmp 15) (
 .seq (
 .region [
 ⟨0, some 4, none, .mov (.const (.slice none 0 0)), []⟩,
 ⟨1, some 5, none, .mov (.const (.int .i64 4)), []⟩]) (
 .ret)) (
 .skip))) ir137_k3
def ir137_k1 : ICode :=
 .seq (
 .seq (
 .region [
 ⟨0, some 6, none, .mov (.tmp 0), []⟩,
 ⟨1, some 7, none, .call 161 [.tmp 6], []⟩,
 ⟨2, some 8, none, .mov (.tmp 7), []⟩,
 ⟨3, some 9, some (8, false), .mov (.tmp 1), []⟩,
 ⟨4, some 10, some (8, false), .call 161 [.tmp 9], []⟩,
 ⟨5, some 11, none, .pick (.tmp 8) (.const (.bool true)) (.tmp 10), []⟩]) (
 .cond (.tmp 11) (
 .seq (
 .region [
 ⟨0, some 4, none, .mov (.const (.slice none 0 0)), []⟩,
 ⟨1, some 5, none, .mov (.const (.int .i64 2)), []⟩]) (
 .ret)) (
 .skip))) ir137_k2
def ir137_b : ICode :=
 .seq (
 .region [
 ⟨0, some 4, none, .mov (.const (.slice none 0 0)), []⟩,
 ⟨1, some 5, none, .mov (.const (.int .i64 0)), []⟩]) ir137_k1
def ir137 : IFunc := ⟨21, [.tmp 4, .tmp 5], ir137_b⟩
theorem ir137_eq : cFunc Tryz.prog 137 = some ir137 := by kernel_rfl
theorem call137 {args : List Value} {m : Mem} {Φ : Value → Mem → Prop} (h : args.length ≤ 21) : WPCall Tryz.prog 137 args m Φ = WP Tryz.prog ir137_b (initσ args) m (retK [.tmp 4, .tmp 5] Φ) := wpCall_def ir137_eq h
def ir138_k1 : ICode :=
 .seq (
 .region [
 ⟨0, some 3, none, .mov (.tmp 0), []⟩,
 ⟨1, some 4, none, .convI .u32 (.tmp 3), []⟩,
 ⟨2, some 5, none, .mov (.tmp 0), []⟩,
 ⟨3, some 6, none, .bin .shr .other (.tmp 5) (.const (.int .u64 32)), []⟩,
 ⟨4, some 7, none, .convI .u32 (.tmp 6), []⟩,
 ⟨5, some 8, none, .bslice 1 2 [.int .u32 0, .int .u32 0] [(0, 1, .tmp 4), (1, 1, .tmp 7)], []⟩,
 ⟨6, some 9, none, .call 106 [.tmp 8], []⟩,
 ⟨7, some 2, none, .mov (.tmp 9), []⟩]) (
 .ret)
def ir138_b : ICode :=
 .seq (
 .region [
 ⟨0, some 2, none, .mov (.const (.slice none 0 0)), []⟩]) ir138_k1
def ir138 : IFunc := ⟨10, [.tmp 2], ir138_b⟩
theorem ir138_eq : cFunc Tryz.prog 138 = some ir138 := by kernel_rfl
theorem call138 {args : List Value} {m : Mem} {Φ : Value → Mem → Prop} (h : args.length ≤ 10) : WPCall Tryz.prog 138 args m Φ = WP Tryz.prog ir138_b (initσ args) m (retK [.tmp 2] Φ) := wpCall_def ir138_eq h
def ir145_l0 : ICode :=
 .seq (
 .seq (
 .region [
 ⟨0, some 20, none, .mov (.tmp 7), []⟩,
 ⟨1, some 21, none, .lenV (.tmp 20), []⟩,
 ⟨2, some 22, none, .bin .gtr .other (.tmp 21) (.const (.int .i64 0)), []⟩]) (
 .cond (.tmp 22) (
 .skip) (
 .exit 0))) (
 .block 1 (
 .seq (
 .region [
 ⟨0, some 24, none, .mov (.tmp 6), []⟩,
 ⟨1, some 25, none, .mov (.tmp 7), []⟩,
 ⟨2, some 26, none, .call 165 [.tmp 24, .tmp 25], []⟩,
 ⟨3, some 23, none, .mov (.tmp 26), []⟩,
 ⟨4, some 27, none, .ext 0 (.tmp 23), []⟩,
 ⟨5, some 28, none, .ext 1 (.tmp 23), []⟩,
 ⟨6, some 8, none, .mov (.tmp 27), []⟩,
 ⟨7, some 9, none, .mov (.tmp 28), []⟩]) (
 .region [
 ⟨0, some 29, none, .mov (.tmp 7), []⟩,
 ⟨1, some 30, none, .mov (.tmp 9), []⟩,
 ⟨2, some 6, none, .mov (.tmp 29), []⟩,
 ⟨3, some 7, none, .mov (.tmp 30), []⟩])))
def ir145_k4 : ICode :=
 .seq (
 .region [
 ⟨0, some 31, none, .mov (.tmp 6), []⟩,
 ⟨1, some 4, none, .mov (.tmp 31), []⟩,
 ⟨2, some 5, none, .mov (.const (.int .i64 0)), []⟩]) (
 .ret)
def ir145_k3 : ICode :=
 .seq (
 .block 0 (
 .loop ir145_l0)) ir145_k4
def ir145_k2 : ICode :=
 .seq (
 .region [
 ⟨0, some 16, none, .mov (.tmp 0), []⟩,
 ⟨1, some 17, none, .call 106 [.tmp 16], []⟩,
 ⟨2, some 18, none, .mov (.tmp 1), []⟩,
 ⟨3, some 19, none, .call 106 [.tmp 18], []⟩,
 ⟨4, some 6, none, .mov (.tmp 17), []⟩,
 ⟨5, some 7, none, .mov (.tmp 19), []⟩]) ir145_k3
def ir145_k1 : ICode :=
 .seq (
 .seq (
 .region [
 ⟨0, some 10, none, .mov (.tmp 0), []⟩,
 ⟨1, some 11, none, .call 161 [.tmp 10], []⟩,
 ⟨2, some 12, none, .mov (.tmp 11), []⟩,
 ⟨3, some 13, some (12, false), .mov (.tmp 1), []⟩,
 ⟨4, some 14, some (12, false), .call 161 [.tmp 13], []⟩,
 ⟨5, some 15, none, .pick (.tmp 12) (.const (.bool true)) (.tmp 14), []⟩]) (
 .cond (.tmp 15) (
 .seq (
 .region [
 ⟨0, some 4, none, .mov (.const (.slice none 0 0)), []⟩,
 ⟨1, some 5, none, .mov (.const (.int .i64 2)), []⟩]) (
 .ret)) (
 .skip))) ir145_k2
def ir145_b : ICode :=
 .seq (
 .region [
 ⟨0, some 4, none, .mov (.const (.slice none 0 0)), []⟩,
 ⟨1, some 5, none, .mov (.const (.int .i64 0)), []⟩]) ir145_k1
def ir145 : IFunc := ⟨32, [.tmp 4, .tmp 5], ir145_b⟩
theorem ir145_eq : cFunc Tryz.prog 145 = some ir145 := by kernel_rfl
theorem call145 {args : List Value} {m : Mem} {Φ : Value → Mem → Prop} (h : args.length ≤ 32) : WPCall Tryz.prog 145 args m Φ = WP Tryz.prog ir145_b (initσ args) m (retK [.tmp 4, .tmp 5] Φ) := wpCall_def ir145_eq h
def ir146_k4 : ICode :=
 .seq (
 .region [
 ⟨0, some 27, none, .mov (.tmp 7), []⟩,
 ⟨1, some 28, none, .mov (.tmp 8), []⟩,
 ⟨2, some 4, none, .mov (.tmp 27), []⟩,
 ⟨3, some 5, none, .mov (.tmp 28), []⟩,
 ⟨4, some 6, none, .mov (.const (.int .i64 0)), []⟩]) (
 .ret)
def ir146_k3 : ICode :=
 .seq (
 .region [
 ⟨0, some 20, none, .mov (.tmp 0), []⟩,
 ⟨1, some 21, none, .call 106 [.tmp 20], []⟩,
 ⟨2, some 22, none, .mov (.tmp 1), []⟩,
 ⟨3, some 23, none, .call 106 [.tmp 22], []⟩,
 ⟨4, some 24, none, .call 165 [.tmp 21, .tmp 23], []⟩,
 ⟨5, some 19, none, .mov (.tmp 24), []⟩,
 ⟨6, some 25, none, .ext 0 (.tmp 19), []⟩,
 ⟨7, some 26, none, .ext 1 (.tmp 19), []⟩,
 ⟨8, some 7, none, .mov (.tmp 25), []⟩,
 ⟨9, some 8, none, .mov (.tmp 26), []⟩]) ir146_k4
def ir146_k2 : ICode :=
 .seq (
 .seq (
 .region [
 ⟨0, some 15, none, .mov (.tmp 1), []⟩,
 ⟨1, some 16, none, .call 106 [.tmp 15], []⟩,
 ⟨2, some 17, none, .lenV (.tmp 16), []⟩,
 ⟨3, some 18, none, .bin .eql .other (.tmp 17) (.const (.int .i64 0)), []⟩]) (
 .cond (.tmp 18) (
 .seq (
 .region [
 ⟨0, some 4, none, .mov (.const (.slice none 0 0)), []⟩,
 ⟨1, some 5, none, .mov (.const (.slice none 0 0)), []⟩,
 ⟨2, some 6, none, .mov (.const (.int .i64 3)), []⟩]) (
 .ret)) (
 .skip))) ir146_k3
def ir146_k1 : ICode :=
 .seq (
 .seq (
 .region [
 ⟨0, some 9, none, .mov (.tmp 0), []⟩,
 ⟨1, some 10, none, .call 161 [.tmp 9], []⟩,
 ⟨2, some 11, none, .mov (.tmp 10), []⟩,
 ⟨3, some 12, some (11, false), .mov (.tmp 1), []⟩,
 ⟨4, some 13, some (11, false), .call 161 [.tmp 12], []⟩,
 ⟨5, some 14, none, .pick (.tmp 11) (.const (.bool true)) (.tmp 13), []⟩]) (
 .cond (.tmp 14) (
 .seq (
 .region [
 ⟨0, some 4, none, .mov (.const (.slice none 0 0)), []⟩,
 ⟨1, some 5, none, .mov (.const (.slice none 0 0)), []⟩,
 ⟨2, some 6, none, .mov (.const (.int .i64 2)), []⟩]) (
 .ret)) (
 .skip))) ir146_k2
def ir146_b : ICode :=
 .seq (
 .region [
 ⟨0, some 4, none, .mov (.const (.slice none 0 0)), []⟩,
 ⟨1, some 5, none, .mov (.const (.slice none 0 0)), []⟩,
 ⟨2, some 6, none, .mov (.const (.int .i64 0)), []⟩]) ir146_k1
def ir146 : IFunc := ⟨29, [.tmp 4, .tmp 5, .tmp 6], ir146_b⟩
theorem ir146_eq : cFunc Tryz.prog 146 = some ir146 := by kernel_rfl
theorem call146 {args : List Value} {m : Mem} {Φ : Value → Mem → Prop} (h : args.length ≤ 29) : WPCall Tryz.prog 146 args m Φ = WP Tryz.prog ir146_b (initσ args) m (retK [.tmp 4, .tmp 5, .tmp 6] Φ) := wpCall_def ir146_eq h
def ir157_k1 : ICode :=
 .seq (
 .region [
 ⟨0, some 3, none, .mov (.tmp 0), []⟩,
 ⟨1, some 4, none, .call 100 [.tmp 3], []⟩,
 ⟨2, some 5, none, .bin .gtr .other (.tmp 4) (.const (.int .i64 512)), []⟩,
 ⟨3, some 2, none, .mov (.tmp 5), []⟩]) (
 .ret)
def ir157_b : ICode :=
 .seq (
 .region [
 ⟨0, some 2, none, .mov (.const (.bool false)), []⟩]) ir157_k1
def ir157 : IFunc := ⟨6, [.tmp 2], ir157_b⟩
theorem ir157_eq : cFunc Tryz.prog 157 = some ir157 := by kernel_rfl
theorem call157 {args : List Value} {m : Mem} {Φ : Value → Mem → Prop} (h : args.length ≤ 6) : WPCall Tryz.prog 157 args m Φ = WP Tryz.prog ir157_b (initσ args) m (retK [.tmp 2] Φ) := wpCall_def ir157_eq h
def ir158_k3 : ICode :=
 .seq (
 .region [
 ⟨0, some 9, none, .mov (.tmp 0), []⟩,
 ⟨1, some 10, none, .mov (.tmp 4), []⟩,
 ⟨2, some 11, none, .mov (.tmp 4), []⟩,
 ⟨3, some 12, none, .sliceM 1 (.tmp 9) none (.tmp 10) (.tmp 11), []⟩,
 ⟨4, some 2, none, .mov (.tmp 12), []⟩,
 ⟨5, some 3, none, .mov (.const (.int .i64 0)), []⟩]) (
 .ret)
def ir158_k2 : ICode :=
 .seq (
 .seq (
 .region [
 ⟨0, some 7, none, .mov (.tmp 4), []⟩,
 ⟨1, some 8, none, .bin .gtr .other (.tmp 7) (.const (.int .i64 512)), []⟩]) (
 .cond (.tmp 8) (
 .seq (
 .region [
 ⟨0, some 2, none, .mov (.const (.slice none 0 0)), []⟩,
 ⟨1, some 3, none, .mov (.const (.int .i64 2)), []⟩]) (
 .ret)) (
 .skip))) ir158_k3
def ir158_k1 : ICode :=
 .seq (
 .region [
 ⟨0, some 5, none, .mov (.tmp 0), []⟩,
 ⟨1, some 6, none, .call 100 [.tmp 5], []⟩,
 ⟨2, some 4, none, .mov (.tmp 6), []⟩]) ir158_k2
def ir158_b : ICode :=
 .seq (
 .region [
 ⟨0, some 2, none, .mov (.const (.slice none 0 0)), []⟩,
 ⟨1, some 3, none, .mov (.const (.int .i64 0)), []⟩]) ir158_k1
def ir158 : IFunc := ⟨13, [.tmp 2, .tmp 3], ir158_b⟩
theorem ir158_eq : cFunc Tryz.prog 158 = some ir158 := by kernel_rfl
theorem call158 {args : List Value} {m : Mem} {Φ : Value → Mem → Prop} (h : args.length ≤ 13) : WPCall Tryz.prog 158 args m Φ = WP Tryz.prog ir158_b (initσ args) m (retK [.tmp 2, .tmp 3] Φ) := wpCall_def ir158_eq h
def ir159_k3 : ICode :=
 .seq (
 .region [
 ⟨0, some 38, none, .mov (.tmp 6), []⟩,
 ⟨1, some 39, none, .mov (.tmp 7), []⟩,
 ⟨2, some 40, none, .convI .u64 (.tmp 39), []⟩,
 ⟨3, some 41, none, .call 34 [.tmp 40], []⟩,
 ⟨4, some 4, none, .mov (.tmp 38), []⟩,
 ⟨5, some 5, none, .mov (.tmp 41), []⟩]) (
 .ret)
def ir159_l0 : ICode :=
 .seq (
 .seq (
 .region [
 ⟨0, some 42, none, .mov (.tmp 1), []⟩,
 ⟨1, some 43, none, .mov (.tmp 1), []⟩,
 ⟨2, some 44, none, .lenV (.tmp 43), []⟩,
 ⟨3, some 45, none, .bin .sub .other (.tmp 44) (.const (.int .i64 1)), []⟩,
 ⟨4, some 46, none, .iaddr 1 (.tmp 42) (.tmp 45), []⟩,
 ⟨5, some 47, none, .load false 1 (.tmp 46), []⟩,
 ⟨6, some 48, none, .mov (.tmp 8), []⟩,
 ⟨7, some 49, none, .bin .shl .other (.tmp 47) (.tmp 48), []⟩,
 ⟨8, some 50, none, .bin .lss .other (.tmp 49) (.const (.int .u32 2147483648)), []⟩]) (
 .cond (.tmp 50) (
 .skip) (
 .exit 0))) (
 .block 1 (
 .region [
 ⟨0, some 51, none, .mov (.tmp 8), []⟩,
 ⟨1, some 52, none, .bin .add .other (.tmp 51) (.const (.int .u64 1)), []⟩,
 ⟨2, some 8, none, .mov (.tmp 52), []⟩]))
def ir159_k15 : ICode :=
 .seq (
 .region [
 ⟨0, some 135, none, .mov (.tmp 18), []⟩,
 ⟨1, some 136, none, .bin .geq .other (.tmp 135) (.const (.int .u64 4294967296)), []⟩]) (
 .cond (.tmp 136) (
 .exit 4) (
 .skip))
def ir159_k14 : ICode :=
 .seq (
 .region [
 ⟨0, some 132, none, .mov (.tmp 18), []⟩,
 ⟨1, some 133, none, .mov (.tmp 13), []⟩,
 ⟨2, some 134, none, .bin .add .other (.tmp 132) (.tmp 133), []⟩,
 ⟨3, some 18, none, .mov (.tmp 134), []⟩]) ir159_k15
def ir159_l1 : ICode :=
 .seq (
 .seq (
 .region [
 ⟨0, some 111, none, .mov (.tmp 17), []⟩,
 ⟨1, some 112, none, .bin .geq .other (.tmp 111) (.const (.int .u64 4294967296)), []⟩,
 ⟨2, some 113, none, .mov (.tmp 112), []⟩,
 ⟨3, some 114, some (113, false), .mov (.tmp 17), []⟩,
 ⟨4, some 115, some (113, false), .mov (.tmp 14), []⟩,
 ⟨5, some 116, some (113, false), .bin .mul .other (.tmp 114) (.tmp 115), []⟩,
 ⟨6, some 117, some (113, false), .mov (.tmp 18), []⟩,
 ⟨7, some 118, some (113, false), .bin .shl .other (.tmp 117) (.const (.int .u64 32)), []⟩,
 ⟨8, some 119, some (113, false), .mov (.tmp 9), []⟩,
 ⟨9, some 120, some (113, false), .mov (.tmp 15), []⟩,
 ⟨10, some 121, some (113, false), .mov (.tmp 11), []⟩,
 ⟨11, some 122, some (113, false), .bin .add .other (.tmp 120) (.tmp 121), []⟩,
 ⟨12, some 123, some (113, false), .bin .sub .other (.tmp 122) (.const (.int .i64 2)), []⟩,
 ⟨13, some 124, some (113, false), .iaddr 1 (.tmp 119) (.tmp 123), []⟩,
 ⟨14, some 125, some (113, false), .load false 1 (.tmp 124), []⟩,
 ⟨15, some 126, some (113, false), .convI .u64 (.tmp 125), []⟩,
 ⟨16, some 127, some (113, false), .bin .or .other (.tmp 118) (.tmp 126), []⟩,
 ⟨17, some 128, some (113, false), .bin .gtr .other (.tmp 116) (.tmp 127), []⟩,
 ⟨18, some 129, none, .pick (.tmp 113) (.const (.bool true)) (.tmp 128), []⟩]) (
 .cond (.tmp 129) (
 .skip) (
 .exit 4))) (
 .block 5 (
 .seq (
 .region [
 ⟨0, some 130, none, .mov (.tmp 17), []⟩,
 ⟨1, some 131, none, .bin .sub .other (.tmp 130) (.const (.int .u64 1)), []⟩,
 ⟨2, some 17, none, .mov (.tmp 131), []⟩]) ir159_k14))
def ir159_k16 : ICode :=
 .seq (
 .seq (
 .region [
 ⟨0, some 137, none, .mov (.tmp 9), []⟩,
 ⟨1, some 138, none, .mov (.tmp 15), []⟩,
 ⟨2, some 139, none, .mov (.tmp 15), []⟩,
 ⟨3, some 140, none, .mov (.tmp 11), []⟩,
 ⟨4, some 141, none, .bin .add .other (.tmp 139) (.tmp 140), []⟩,
 ⟨5, some 142, none, .bin .add .other (.tmp 141) (.const (.int .i64 1)), []⟩,
 ⟨6, some 143, none, .sliceS 1 (.tmp 137) (some (.tmp 138)) (some (.tmp 142)), []⟩,
 ⟨7, some 144, none, .mov (.tmp 10), []⟩,
 ⟨8, some 145, none, .mov (.tmp 17), []⟩,
 ⟨9, some 146, none, .call 170 [.tmp 143, .tmp 144, .tmp 145], []⟩]) (
 .cond (.tmp 146) (
 .seq (
 .region [
 ⟨0, some 147, none, .mov (.tmp 17), []⟩,
 ⟨1, some 148, none, .bin .sub .other (.tmp 147) (.const (.int .u64 1)), []⟩,
 ⟨2, some 17, none, .mov (.tmp 148), []⟩]) (
 .region [
 ⟨0, some 149, none, .mov (.tmp 9), []⟩,
 ⟨1, some 150, none, .mov (.tmp 15), []⟩,
 ⟨2, some 151, none, .mov (.tmp 15), []⟩,
 ⟨3, some 152, none, .mov (.tmp 11), []⟩,
 ⟨4, some 153, none, .bin .add .other (.tmp 151) (.tmp 152), []⟩,
 ⟨5, some 154, none, .bin .add .other (.tmp 153) (.const (.int .i64 1)), []⟩,
 ⟨6, some 155, none, .sliceS 1 (.tmp 149) (some (.tmp 150)) (some (.tmp 154)), []⟩,
 ⟨7, some 156, none, .mov (.tmp 10), []⟩,
 ⟨8, some 157, none, .call 171 [.tmp 155, .tmp 156], []⟩])) (
 .skip))) (
 .region [
 ⟨0, some 158, none, .mov (.tmp 12), []⟩,
 ⟨1, some 159, none, .mov (.tmp 15), []⟩,
 ⟨2, some 160, none, .mov (.tmp 17), []⟩,
 ⟨3, some 161, none, .convI .u32 (.tmp 160), []⟩,
 ⟨4, some 162, none, .iaddr 1 (.tmp 158) (.tmp 159), []⟩,
 ⟨5, none, none, .store 1 (.tmp 162) (.tmp 161), []⟩])
def ir159_k13 : ICode :=
 .seq (
 .block 4 (
 .loop ir159_l1)) ir159_k16
def ir159_k12 : ICode :=
 .seq (
 .region [
 ⟨0, some 105, none, .mov (.tmp 16), []⟩,
 ⟨1, some 106, none, .mov (.tmp 13), []⟩,
 ⟨2, some 107, none, .bin .quo .other (.tmp 105) (.tmp 106), []⟩,
 ⟨3, some 108, none, .mov (.tmp 16), []⟩,
 ⟨4, some 109, none, .mov (.tmp 13), []⟩,
 ⟨5, some 110, none, .bin .rem .other (.tmp 108) (.tmp 109), []⟩,
 ⟨6, some 17, none, .mov (.tmp 107), []⟩,
 ⟨7, some 18, none, .mov (.tmp 110), []⟩]) ir159_k13
def ir159_k11 : ICode :=
 .seq (
 .block 3 (
 .seq (
 .region [
 ⟨0, some 88, none, .mov (.tmp 9), []⟩,
 ⟨1, some 89, none, .mov (.tmp 15), []⟩,
 ⟨2, some 90, none, .mov (.tmp 11), []⟩,
 ⟨3, some 91, none, .bin .add .other (.tmp 89) (.tmp 90), []⟩,
 ⟨4, some 92, none, .iaddr 1 (.tmp 88) (.tmp 91), []⟩,
 ⟨5, some 93, none, .load false 1 (.tmp 92), []⟩,
 ⟨6, some 94, none, .convI .u64 (.tmp 93), []⟩,
 ⟨7, some 95, none, .bin .shl .other (.tmp 94) (.const (.int .u64 32)), []⟩,
 ⟨8, some 96, none, .mov (.tmp 9), []⟩,
 ⟨9, some 97, none, .mov (.tmp 15), []⟩,
 ⟨10, some 98, none, .mov (.tmp 11), []⟩,
 ⟨11, some 99, none, .bin .add .other (.tmp 97) (.tmp 98), []⟩,
 ⟨12, some 100, none, .bin .sub .other (.tmp 99) (.const (.int .i64 1)), []⟩,
 ⟨13, some 101, none, .iaddr 1 (.tmp 96) (.tmp 100), []⟩,
 ⟨14, some 102, none, .load false 1 (.tmp 101), []⟩,
 ⟨15, some 103, none, .convI .u64 (.tmp 102), []⟩,
 ⟨16, some 104, none, .bin .or .other (.tmp 95) (.tmp 103), []⟩,
 ⟨17, some 16, none, .mov (.tmp 104), []⟩]) ir159_k12)) (
 .region [
 ⟨0, some 86, none, .mov (.tmp 15), []⟩,
 ⟨1, some 87, none, .bin .sub .other (.tmp 86) (.const (.int .i64 1)), []⟩,
 ⟨2, some 15, none, .mov (.tmp 87), []⟩])
def ir159_l2 : ICode :=
 .seq (
 .seq (
 .region [
 ⟨0, some 84, none, .mov (.tmp 15), []⟩,
 ⟨1, some 85, none, .bin .geq .other (.tmp 84) (.const (.int .i64 0)), []⟩]) (
 .cond (.tmp 85) (
 .skip) (
 .exit 2))) ir159_k11
def ir159_k20 : ICode :=
 .seq (
 .block 7 (
 .seq (
 .region [
 ⟨0, some 169, none, .mov (.tmp 167), []⟩,
 ⟨1, some 20, none, .mov (.tmp 169), []⟩]) (
 .region [
 ⟨0, some 170, none, .mov (.tmp 19), []⟩,
 ⟨1, some 171, none, .mov (.tmp 20), []⟩,
 ⟨2, some 172, none, .mov (.tmp 9), []⟩,
 ⟨3, some 173, none, .mov (.tmp 20), []⟩,
 ⟨4, some 174, none, .bin .add .other (.tmp 173) (.const (.int .i64 1)), []⟩,
 ⟨5, some 175, none, .iaddr 1 (.tmp 172) (.tmp 174), []⟩,
 ⟨6, some 176, none, .load false 1 (.tmp 175), []⟩,
 ⟨7, some 177, none, .convI .u64 (.tmp 176), []⟩,
 ⟨8, some 178, none, .bin .shl .other (.tmp 177) (.const (.int .u64 32)), []⟩,
 ⟨9, some 179, none, .mov (.tmp 9), []⟩,
 ⟨10, some 180, none, .mov (.tmp 20), []⟩,
 ⟨11, some 181, none, .iaddr 1 (.tmp 179) (.tmp 180), []⟩,
 ⟨12, some 182, none, .load false 1 (.tmp 181), []⟩,
 ⟨13, some 183, none, .convI .u64 (.tmp 182), []⟩,
 ⟨14, some 184, none, .bin .or .other (.tmp 178) (.tmp 183), []⟩,
 ⟨15, some 185, none, .mov (.tmp 8), []⟩,
 ⟨16, some 186, none, .bin .shr .other (.tmp 184) (.tmp 185), []⟩,
 ⟨17, some 187, none, .convI .u32 (.tmp 186), []⟩,
 ⟨18, some 188, none, .iaddr 1 (.tmp 170) (.tmp 171), []⟩,
 ⟨19, none, none, .store 1 (.tmp 188) (.tmp 187), []⟩]))) (
 .region [
 ⟨0, some 189, none, .bin .add .other (.tmp 167) (.const (.int .i64 1)), []⟩,
 ⟨1, some 167, none, .mov (.tmp 189), []⟩])
def ir159_k19 : ICode :=
 .seq (
 .cond (.tmp 168) (
 .skip) (
 .exit 6)) ir159_k20
def ir159_l3 : ICode :=
 .seq (
 .region [
 ⟨0, some 168, none, .bin .lss .other (.tmp 167) (.tmp 166), []⟩]) ir159_k19
def ir159_k21 : ICode :=
 .seq (
 .region [
 ⟨0, some 190, none, .mov (.tmp 12), []⟩,
 ⟨1, some 191, none, .mov (.tmp 12), []⟩,
 ⟨4, some 194, none, .mov (.tmp 19), []⟩,
 ⟨5, some 195, none, .mov (.tmp 19), []⟩,
 ⟨2, some 192, none, .call 100 [.tmp 191], []⟩,
 ⟨3, some 193, none, .sliceS 1 (.tmp 190) none (some (.tmp 192)), []⟩,
 ⟨6, some 196, none, .call 100 [.tmp 195], []⟩,
 ⟨7, some 197, none, .sliceS 1 (.tmp 194) none (some (.tmp 196)), []⟩,
 ⟨8, some 4, none, .mov (.tmp 193), []⟩,
 ⟨9, some 5, none, .mov (.tmp 197), []⟩]) (
 .ret)
def ir159_k18 : ICode :=
 .seq (
 .seq (
 .region [
 ⟨0, some 165, none, .mov (.tmp 19), []⟩,
 ⟨1, some 166, none, .lenV (.tmp 165), []⟩,
 ⟨2, some 167, none, .mov (.const (.int .i64 0)), []⟩]) (
 .block 6 (
 .loop ir159_l3))) ir159_k21
def ir159_k17 : ICode :=
 .seq (
 .region [
 ⟨0, some 163, none, .mov (.tmp 11), []⟩,
 ⟨1, some 164, none, .mkslice 1 4 [.int .u32 0] (.tmp 163) (.tmp 163), []⟩,
 ⟨2, some 19, none, .mov (.tmp 164), []⟩]) ir159_k18
def ir159_k10 : ICode :=
 .seq (
 .seq (
 .region [
 ⟨0, some 81, none, .mov (.tmp 12), []⟩,
 ⟨1, some 82, none, .lenV (.tmp 81), []⟩,
 ⟨2, some 83, none, .bin .sub .other (.tmp 82) (.const (.int .i64 1)), []⟩,
 ⟨3, some 15, none, .mov (.tmp 83), []⟩]) (
 .block 2 (
 .loop ir159_l2))) ir159_k17
def ir159_k9 : ICode :=
 .seq (
 .region [
 ⟨0, some 69, none, .mov (.tmp 10), []⟩,
 ⟨1, some 70, none, .mov (.tmp 11), []⟩,
 ⟨2, some 71, none, .bin .sub .other (.tmp 70) (.const (.int .i64 1)), []⟩,
 ⟨3, some 72, none, .iaddr 1 (.tmp 69) (.tmp 71), []⟩,
 ⟨4, some 73, none, .load false 1 (.tmp 72), []⟩,
 ⟨5, some 74, none, .convI .u64 (.tmp 73), []⟩,
 ⟨6, some 75, none, .mov (.tmp 10), []⟩,
 ⟨7, some 76, none, .mov (.tmp 11), []⟩,
 ⟨8, some 77, none, .bin .sub .other (.tmp 76) (.const (.int .i64 2)), []⟩,
 ⟨9, some 78, none, .iaddr 1 (.tmp 75) (.tmp 77), []⟩,
 ⟨10, some 79, none, .load false 1 (.tmp 78), []⟩,
 ⟨11, some 80, none, .convI .u64 (.tmp 79), []⟩,
 ⟨12, some 13, none, .mov (.tmp 74), []⟩,
 ⟨13, some 14, none, .mov (.tmp 80), []⟩]) ir159_k10
def ir159_k8 : ICode :=
 .seq (
 .region [
 ⟨0, some 64, none, .mov (.tmp 9), []⟩,
 ⟨1, some 65, none, .lenV (.tmp 64), []⟩,
 ⟨2, some 66, none, .mov (.tmp 11), []⟩,
 ⟨3, some 67, none, .bin .sub .other (.tmp 65) (.tmp 66), []⟩,
 ⟨4, some 68, none, .mkslice 1 4 [.int .u32 0] (.tmp 67) (.tmp 67), []⟩,
 ⟨5, some 12, none, .mov (.tmp 68), []⟩]) ir159_k9
def ir159_k7 : ICode :=
 .seq (
 .region [
 ⟨0, some 62, none, .mov (.tmp 10), []⟩,
 ⟨1, some 63, none, .lenV (.tmp 62), []⟩,
 ⟨2, some 11, none, .mov (.tmp 63), []⟩]) ir159_k8
def ir159_k6 : ICode :=
 .seq (
 .region [
 ⟨0, some 53, none, .mov (.tmp 0), []⟩,
 ⟨1, some 54, none, .mov (.tmp 8), []⟩,
 ⟨3, some 56, none, .mov (.tmp 1), []⟩,
 ⟨4, some 57, none, .mov (.tmp 8), []⟩,
 ⟨6, some 59, none, .mov (.tmp 1), []⟩,
 ⟨7, some 60, none, .lenV (.tmp 59), []⟩,
 ⟨2, some 55, none, .call 169 [.tmp 53, .tmp 54], []⟩,
 ⟨5, some 58, none, .call 169 [.tmp 56, .tmp 57], []⟩,
 ⟨8, some 61, none, .sliceS 1 (.tmp 58) none (some (.tmp 60)), []⟩,
 ⟨9, some 9, none, .mov (.tmp 55), []⟩,
 ⟨10, some 10, none, .mov (.tmp 61), []⟩]) ir159_k7
def ir159_k5 : ICode :=
 .seq (
 .block 0 (
 .loop ir159_l0)) ir159_k6
def ir159_k4 : ICode :=
 .seq (
 .region [
 ⟨0, some 8, none, .mov (.const (.int .u64 0)), []⟩]) ir159_k5
def ir159_k2 : ICode :=
 .seq (
 .seq (
 .region [
 ⟨0, some 27, none, .mov (.tmp 1), []⟩,
 ⟨1, some 28, none, .lenV (.tmp 27), []⟩,
 ⟨2, some 29, none, .bin .eql .other (.tmp 28) (.const (.int .i64 1)), []⟩]) (
 .cond (.tmp 29) (
 .seq (
 .region [
 ⟨0, some 31, none, .mov (.tmp 0), []⟩,
 ⟨1, some 32, none, .mov (.tmp 1), []⟩,
 ⟨2, some 33, none, .iaddr 1 (.tmp 32) (.const (.int .i64 0)), []⟩,
 ⟨3, some 34, none, .load false 1 (.tmp 33), []⟩,
 ⟨4, some 35, none, .call 168 [.tmp 31, .tmp 34], []⟩,
 ⟨5, some 30, none, .mov (.tmp 35), []⟩,
 ⟨6, some 36, none, .ext 0 (.tmp 30), []⟩,
 ⟨7, some 37, none, .ext 1 (.tmp 30), []⟩,
 ⟨8, some 6, none, .mov (.tmp 36), []⟩,
 ⟨9, some 7, none, .mov (.tmp 37), []⟩]) ir159_k3) (
 .skip))) ir159_k4
def ir159_k1 : ICode :=
 .seq (
 .seq (
 .region [
 ⟨0, some 21, none, .mov (.tmp 0), []⟩,
 ⟨1, some 22, none, .mov (.tmp 1), []⟩,
 ⟨2, some 23, none, .call 92 [.tmp 21, .tmp 22], []⟩,
 ⟨3, some 24, none, .bin .lss .other (.tmp 23) (.const (.int .i64 0)), []⟩]) (
 .cond (.tmp 24) (
 .seq (
 .region [
 ⟨0, some 25, none, .mov (.tmp 0), []⟩,
 ⟨1, some 26, none, .call 131 [.tmp 25], []⟩,
 ⟨2, some 4, none, .mov (.const (.slice none 0 0)), []⟩,
 ⟨3, some 5, none, .mov (.tmp 26), []⟩]) (
 .ret)) (
 .skip))) ir159_k2
def ir159_b : ICode :=
 .seq (
 .region [
 ⟨0, some 4, none, .mov (.const (.slice none 0 0)), []⟩,
 ⟨1, some 5, none, .mov (.const (.slice none 0 0)), []⟩]) ir159_k1
def ir159 : IFunc := ⟨198, [.tmp 4, .tmp 5], ir159_b⟩
theorem ir159_eq : cFunc Tryz.prog 159 = some ir159 := by kernel_rfl
theorem call159 {args : List Value} {m : Mem} {Φ : Value → Mem → Prop} (h : args.length ≤ 198) : WPCall Tryz.prog 159 args m Φ = WP Tryz.prog ir159_b (initσ args) m (retK [.tmp 4, .tmp 5] Φ) := wpCall_def ir159_eq h
def ir160_k4 : ICode :=
 .seq (
 .region [
 ⟨0, some 20, none, .mov (.tmp 6), []⟩,
 ⟨1, some 4, none, .mov (.tmp 20), []⟩,
 ⟨2, some 5, none, .mov (.const (.int .i64 0)), []⟩]) (
 .ret)
def ir160_k3 : ICode :=
 .seq (
 .seq (
 .region [
 ⟨0, some 18, none, .mov (.tmp 6), []⟩,
 ⟨1, some 19, none, .call 161 [.tmp 18], []⟩]) (
 .cond (.tmp 19) (
 .seq (
 .region [
 ⟨0, some 4, none, .mov (.const (.slice none 0 0)), []⟩,
 ⟨1, some 5, none, .mov (.const (.int .i64 2)), []⟩]) (
 .ret)) (
 .skip))) ir160_k4
def ir160_k2 : ICode :=
 .seq (
 .region [
 ⟨0, some 13, none, .mov (.tmp 0), []⟩,
 ⟨1, some 14, none, .call 106 [.tmp 13], []⟩,
 ⟨2, some 15, none, .mov (.tmp 1), []⟩,
 ⟨3, some 16, none, .call 106 [.tmp 15], []⟩,
 ⟨4, some 17, none, .call 172 [.tmp 14, .tmp 16], []⟩,
 ⟨5, some 6, none, .mov (.tmp 17), []⟩]) ir160_k3
def ir160_k1 : ICode :=
 .seq (
 .seq (
 .region [
 ⟨0, some 7, none, .mov (.tmp 0), []⟩,
 ⟨1, some 8, none, .call 161 [.tmp 7], []⟩,
 ⟨2, some 9, none, .mov (.tmp 8), []⟩,
 ⟨3, some 10, some (9, false), .mov (.tmp 1), []⟩,
 ⟨4, some 11, some (9, false), .call 161 [.tmp 10], []⟩,
 ⟨5, some 12, none, .pick (.tmp 9) (.const (.bool true)) (.tmp 11), []⟩]) (
 .cond (.tmp 12) (
 .seq (
 .region [
 ⟨0, some 4, none, .mov (.const (.slice none 0 0)), []⟩,
 ⟨1, some 5, none, .mov (.const (.int .i64 2)), []⟩]) (
 .ret)) (
 .skip))) ir160_k2
def ir160_b : ICode :=
 .seq (
 .region [
 ⟨0, some 4, none, .mov (.const (.slice none 0 0)), []⟩,
 ⟨1, some 5, none, .mov (.const (.int .i64 0)), []⟩]) ir160_k1
def ir160 : IFunc := ⟨21, [.tmp 4, .tmp 5], ir160_b⟩
theorem ir160_eq : cFunc Tryz.prog 160 = some ir160 := by kernel_rfl
theorem call160 {args : List Value} {m : Mem} {Φ : Value → Mem → Prop} (h : args.length ≤ 21) : WPCall Tryz.prog 160 args m Φ = WP Tryz.prog ir160_b (initσ args) m (retK [.tmp 4, .tmp 5] Φ) := wpCall_def ir160_eq h
def ir161_k1 : ICode :=
 .seq (
 .region [
 ⟨0, some 3, none, .mov (.tmp 0), []⟩,
 ⟨1, some 4, none, .call 106 [.tmp 3], []⟩,
 ⟨2, some 5, none, .lenV (.tmp 4), []⟩,
 ⟨3, some 6, none, .bin .gtr .other (.tmp 5) (.const (.int .i64 512)), []⟩,
 ⟨4, some 2, none, .mov (.tmp 6), []⟩]) (
 .ret)
def ir161_b : ICode :=
 .seq (
 .region [
 ⟨0, some 2, none, .mov (.const (.bool false)), []⟩]) ir161_k1
def ir161 : IFunc := ⟨7, [.tmp 2], ir161_b⟩
theorem ir161_eq : cFunc Tryz.prog 161 = some ir161 := by kernel_rfl
theorem call161 {args : List Value} {m : Mem} {Φ : Value → Mem → Prop} (h : args.length ≤ 7) : WPCall Tryz.prog 161 args m Φ = WP Tryz.prog ir161_b (initσ args) m (retK [.tmp 2] Φ) := wpCall_def ir161_eq h
def ir162_k7 : ICode :=
 .seq (
 .region [
 ⟨0, some 48, none, .mov (.tmp 5), []⟩,
 ⟨1, some 49, none, .mov (.tmp 8), []⟩,
 ⟨2, some 50, none, .convI .u32 (.tmp 49), []⟩,
 ⟨3, some 51, none, .bslice 1 1 [.int .u32 0] [(0, 1, .tmp 50)], []⟩,
 ⟨4, some 52, none, .app 1 4 (.tmp 48) (.tmp 51), []⟩,
 ⟨5, some 5, none, .mov (.tmp 52), []⟩]) (
 .region [
 ⟨0, some 53, none, .mov (.tmp 8), []⟩,
 ⟨1, some 54, none, .bin .shr .other (.tmp 53) (.const (.int .u64 32)), []⟩,
 ⟨2, some 6, none, .mov (.tmp 54), []⟩])
def ir162_k6 : ICode :=
 .seq (
 .seq (
 .region [
 ⟨0, some 37, none, .mov (.tmp 7), []⟩,
 ⟨1, some 38, none, .mov (.tmp 1), []⟩,
 ⟨2, some 39, none, .lenV (.tmp 38), []⟩,
 ⟨3, some 40, none, .bin .lss .other (.tmp 37) (.tmp 39), []⟩]) (
 .cond (.tmp 40) (
 .region [
 ⟨0, some 41, none, .mov (.tmp 8), []⟩,
 ⟨1, some 42, none, .mov (.tmp 1), []⟩,
 ⟨2, some 43, none, .mov (.tmp 7), []⟩,
 ⟨3, some 44, none, .iaddr 1 (.tmp 42) (.tmp 43), []⟩,
 ⟨4, some 45, none, .load false 1 (.tmp 44), []⟩,
 ⟨5, some 46, none, .convI .u64 (.tmp 45), []⟩,
 ⟨6, some 47, none, .bin .add .other (.tmp 41) (.tmp 46), []⟩,
 ⟨7, some 8, none, .mov (.tmp 47), []⟩]) (
 .skip))) ir162_k7
def ir162_k5 : ICode :=
 .seq (
 .seq (
 .region [
 ⟨0, some 26, none, .mov (.tmp 7), []⟩,
 ⟨1, some 27, none, .mov (.tmp 0), []⟩,
 ⟨2, some 28, none, .lenV (.tmp 27), []⟩,
 ⟨3, some 29, none, .bin .lss .other (.tmp 26) (.tmp 28), []⟩]) (
 .cond (.tmp 29) (
 .region [
 ⟨0, some 30, none, .mov (.tmp 8), []⟩,
 ⟨1, some 31, none, .mov (.tmp 0), []⟩,
 ⟨2, some 32, none, .mov (.tmp 7), []⟩,
 ⟨3, some 33, none, .iaddr 1 (.tmp 31) (.tmp 32), []⟩,
 ⟨4, some 34, none, .load false 1 (.tmp 33), []⟩,
 ⟨5, some 35, none, .convI .u64 (.tmp 34), []⟩,
 ⟨6, some 36, none, .bin .add .other (.tmp 30) (.tmp 35), []⟩,
 ⟨7, some 8, none, .mov (.tmp 36), []⟩]) (
 .skip))) ir162_k6
def ir162_k4 : ICode :=
 .seq (
 .block 1 (
 .seq (
 .region [
 ⟨0, some 25, none, .mov (.tmp 6), []⟩,
 ⟨1, some 8, none, .mov (.tmp 25), []⟩]) ir162_k5)) (
 .region [
 ⟨0, some 23, none, .mov (.tmp 7), []⟩,
 ⟨1, some 24, none, .bin .add .other (.tmp 23) (.const (.int .i64 1)), []⟩,
 ⟨2, some 7, none, .mov (.tmp 24), []⟩])
def ir162_l0 : ICode :=
 .seq (
 .seq (
 .region [
 ⟨0, some 9, none, .mov (.tmp 7), []⟩,
 ⟨1, some 10, none, .mov (.tmp 0), []⟩,
 ⟨2, some 11, none, .lenV (.tmp 10), []⟩,
 ⟨3, some 12, none, .bin .lss .other (.tmp 9) (.tmp 11), []⟩,
 ⟨4, some 13, none, .mov (.tmp 12), []⟩,
 ⟨5, some 14, some (13, false), .mov (.tmp 7), []⟩,
 ⟨6, some 15, some (13, false), .mov (.tmp 1), []⟩,
 ⟨7, some 16, some (13, false), .lenV (.tmp 15), []⟩,
 ⟨8, some 17, some (13, false), .bin .lss .other (.tmp 14) (.tmp 16), []⟩,
 ⟨9, some 18, none, .pick (.tmp 13) (.const (.bool true)) (.tmp 17), []⟩,
 ⟨10, some 19, none, .mov (.tmp 18), []⟩,
 ⟨11, some 20, some (19, false), .mov (.tmp 6), []⟩,
 ⟨12, some 21, some (19, false), .bin .gtr .other (.tmp 20) (.const (.int .u64 0)), []⟩,
 ⟨13, some 22, none, .pick (.tmp 19) (.const (.bool true)) (.tmp 21), []⟩]) (
 .cond (.tmp 22) (
 .skip) (
 .exit 0))) ir162_k4
def ir162_k8 : ICode :=
 .seq (
 .region [
 ⟨0, some 55, none, .mov (.tmp 5), []⟩,
 ⟨1, some 56, none, .call 106 [.tmp 55], []⟩,
 ⟨2, some 4, none, .mov (.tmp 56), []⟩]) (
 .ret)
def ir162_k3 : ICode :=
 .seq (
 .seq (
 .region [
 ⟨0, some 7, none, .mov (.const (.int .i64 0)), []⟩]) (
 .block 0 (
 .loop ir162_l0))) ir162_k8
def ir162_k2 : ICode :=
 .seq (
 .region [
 ⟨0, some 6, none, .mov (.const (.int .u64 0)), []⟩]) ir162_k3
def ir162_k1 : ICode :=
 .seq (
 .region [
 ⟨0, some 5, none, .mov (.const (.slice none 0 0)), []⟩]) ir162_k2
def ir162_b : ICode :=
 .seq (
 .region [
 ⟨0, some 4, none, .mov (.const (.slice none 0 0)), []⟩]) ir162_k1
def ir162 : IFunc := ⟨57, [.tmp 4], ir162_b⟩
theorem ir162_eq : cFunc Tryz.prog 162 = some ir162 := by kernel_rfl
theorem call162 {args : List Value} {m : Mem} {Φ : Value → Mem → Prop} (h : args.length ≤ 57) : WPCall Tryz.prog 162 args m Φ = WP Tryz.prog ir162_b (initσ args) m (retK [.tmp 4] Φ) := wpCall_def ir162_eq h
def ir164_k8 : ICode :=
 .seq (
 .seq (
 .region [
 ⟨0, some 33, none, .mov (.tmp 9), []⟩,
 ⟨1, some 34, none, .mov (.tmp 8), []⟩,
 ⟨2, some 35, none, .bin .lss .other (.tmp 33) (.tmp 34), []⟩]) (
 .cond (.tmp 35) (
 .seq (
 .region [
 ⟨0, some 36, none, .mov (.tmp 9), []⟩,
 ⟨1, some 37, none, .bin .add .other (.tmp 36) (.const (.int .u64 4294967296)), []⟩,
 ⟨2, some 9, none, .mov (.tmp 37), []⟩]) (
 .region [
 ⟨0, some 6, none, .mov (.const (.int .u64 1)), []⟩])) (
 .skip))) (
 .region [
 ⟨0, some 38, none, .mov (.tmp 5), []⟩,
 ⟨1, some 39, none, .mov (.tmp 9), []⟩,
 ⟨2, some 40, none, .mov (.tmp 8), []⟩,
 ⟨3, some 41, none, .bin .sub .other (.tmp 39) (.tmp 40), []⟩,
 ⟨4, some 42, none, .convI .u32 (.tmp 41), []⟩,
 ⟨5, some 43, none, .bslice 1 1 [.int .u32 0] [(0, 1, .tmp 42)], []⟩,
 ⟨6, some 44, none, .app 1 4 (.tmp 38) (.tmp 43), []⟩,
 ⟨7, some 5, none, .mov (.tmp 44), []⟩])
def ir164_k7 : ICode :=
 .seq (
 .region [
 ⟨0, some 6, none, .mov (.const (.int .u64 0)), []⟩]) ir164_k8
def ir164_k6 : ICode :=
 .seq (
 .region [
 ⟨0, some 28, none, .mov (.tmp 0), []⟩,
 ⟨1, some 29, none, .mov (.tmp 7), []⟩,
 ⟨2, some 30, none, .iaddr 1 (.tmp 28) (.tmp 29), []⟩,
 ⟨3, some 31, none, .load false 1 (.tmp 30), []⟩,
 ⟨4, some 32, none, .convI .u64 (.tmp 31), []⟩,
 ⟨5, some 9, none, .mov (.tmp 32), []⟩]) ir164_k7
def ir164_k5 : ICode :=
 .seq (
 .seq (
 .region [
 ⟨0, some 17, none, .mov (.tmp 7), []⟩,
 ⟨1, some 18, none, .mov (.tmp 1), []⟩,
 ⟨2, some 19, none, .lenV (.tmp 18), []⟩,
 ⟨3, some 20, none, .bin .lss .other (.tmp 17) (.tmp 19), []⟩]) (
 .cond (.tmp 20) (
 .region [
 ⟨0, some 21, none, .mov (.tmp 8), []⟩,
 ⟨1, some 22, none, .mov (.tmp 1), []⟩,
 ⟨2, some 23, none, .mov (.tmp 7), []⟩,
 ⟨3, some 24, none, .iaddr 1 (.tmp 22) (.tmp 23), []⟩,
 ⟨4, some 25, none, .load false 1 (.tmp 24), []⟩,
 ⟨5, some 26, none, .convI .u64 (.tmp 25), []⟩,
 ⟨6, some 27, none, .bin .add .other (.tmp 21) (.tmp 26), []⟩,
 ⟨7, some 8, none, .mov (.tmp 27), []⟩]) (
 .skip))) ir164_k6
def ir164_k4 : ICode :=
 .seq (
 .block 1 (
 .seq (
 .region [
 ⟨0, some 16, none, .mov (.tmp 6), []⟩,
 ⟨1, some 8, none, .mov (.tmp 16), []⟩]) ir164_k5)) (
 .region [
 ⟨0, some 14, none, .mov (.tmp 7), []⟩,
 ⟨1, some 15, none, .bin .add .other (.tmp 14) (.const (.int .i64 1)), []⟩,
 ⟨2, some 7, none, .mov (.tmp 15), []⟩])
def ir164_l0 : ICode :=
 .seq (
 .seq (
 .region [
 ⟨0, some 10, none, .mov (.tmp 7), []⟩,
 ⟨1, some 11, none, .mov (.tmp 0), []⟩,
 ⟨2, some 12, none, .lenV (.tmp 11), []⟩,
 ⟨3, some 13, none, .bin .lss .other (.tmp 10) (.tmp 12), []⟩]) (
 .cond (.tmp 13) (
 .skip) (
 .exit 0))) ir164_k4
def ir164_k9 : ICode :=
 .seq (
 .region [
 ⟨0, some 45, none, .mov (.tmp 5), []⟩,
 ⟨1, some 46, none, .call 106 [.tmp 45], []⟩,
 ⟨2, some 4, none, .mov (.tmp 46), []⟩]) (
 .ret)
def ir164_k3 : ICode :=
 .seq (
 .seq (
 .region [
 ⟨0, some 7, none, .mov (.const (.int .i64 0)), []⟩]) (
 .block 0 (
 .loop ir164_l0))) ir164_k9
def ir164_k2 : ICode :=
 .seq (
 .region [
 ⟨0, some 6, none, .mov (.const (.int .u64 0)), []⟩]) ir164_k3
def ir164_k1 : ICode :=
 .seq (
 .region [
 ⟨0, some 5, none, .mov (.const (.slice none 0 0)), []⟩]) ir164_k2
def ir164_b : ICode :=
 .seq (
 .region [
 ⟨0, some 4, none, .mov (.const (.slice none 0 0)), []⟩]) ir164_k1
def ir164 : IFunc := ⟨47, [.tmp 4], ir164_b⟩
theorem ir164_eq : cFunc Tryz.prog 164 = some ir164 := by kernel_rfl
theorem call164 {args : List Value} {m : Mem} {Φ : Value → Mem → Prop} (h : args.length ≤ 47) : WPCall Tryz.prog 164 args m Φ = WP Tryz.prog ir164_b (initσ args) m (retK [.tmp 4] Φ) := wpCall_def ir164_eq h
def ir165_k6 : ICode :=
 .seq (
 .region [
 ⟨0, some 47, none, .mov (.tmp 6), []⟩,
 ⟨1, some 48, none, .mov (.tmp 8), []⟩,
 ⟨2, some 49, none, .mov (.tmp 9), []⟩,
 ⟨3, some 50, none, .mov (.tmp 1), []⟩,
 ⟨4, some 51, none, .iaddr 1 (.tmp 50) (.const (.int .i64 0)), []⟩,
 ⟨5, some 52, none, .load false 1 (.tmp 51), []⟩,
 ⟨6, some 53, none, .convI .u64 (.tmp 52), []⟩,
 ⟨7, some 54, none, .bin .quo .other (.tmp 49) (.tmp 53), []⟩,
 ⟨8, some 55, none, .convI .u32 (.tmp 54), []⟩,
 ⟨9, some 56, none, .iaddr 1 (.tmp 47) (.tmp 48), []⟩,
 ⟨10, none, none, .store 1 (.tmp 56) (.tmp 55), []⟩]) (
 .region [
 ⟨0, some 57, none, .mov (.tmp 9), []⟩,
 ⟨1, some 58, none, .mov (.tmp 1), []⟩,
 ⟨2, some 59, none, .iaddr 1 (.tmp 58) (.const (.int .i64 0)), []⟩,
 ⟨3, some 60, none, .load false 1 (.tmp 59), []⟩,
 ⟨4, some 61, none, .convI .u64 (.tmp 60), []⟩,
 ⟨5, some 62, none, .bin .rem .other (.tmp 57) (.tmp 61), []⟩,
 ⟨6, some 7, none, .mov (.tmp 62), []⟩])
def ir165_k5 : ICode :=
 .seq (
 .block 1 (
 .seq (
 .region [
 ⟨0, some 39, none, .mov (.tmp 7), []⟩,
 ⟨1, some 40, none, .bin .shl .other (.tmp 39) (.const (.int .u64 32)), []⟩,
 ⟨2, some 41, none, .mov (.tmp 0), []⟩,
 ⟨3, some 42, none, .mov (.tmp 8), []⟩,
 ⟨4, some 43, none, .iaddr 1 (.tmp 41) (.tmp 42), []⟩,
 ⟨5, some 44, none, .load false 1 (.tmp 43), []⟩,
 ⟨6, some 45, none, .convI .u64 (.tmp 44), []⟩,
 ⟨7, some 46, none, .bin .or .other (.tmp 40) (.tmp 45), []⟩,
 ⟨8, some 9, none, .mov (.tmp 46), []⟩]) ir165_k6)) (
 .region [
 ⟨0, some 37, none, .mov (.tmp 8), []⟩,
 ⟨1, some 38, none, .bin .sub .other (.tmp 37) (.const (.int .i64 1)), []⟩,
 ⟨2, some 8, none, .mov (.tmp 38), []⟩])
def ir165_l0 : ICode :=
 .seq (
 .seq (
 .region [
 ⟨0, some 35, none, .mov (.tmp 8), []⟩,
 ⟨1, some 36, none, .bin .geq .other (.tmp 35) (.const (.int .i64 0)), []⟩]) (
 .cond (.tmp 36) (
 .skip) (
 .exit 0))) ir165_k5
def ir165_k7 : ICode :=
 .seq (
 .region [
 ⟨0, some 63, none, .mov (.tmp 6), []⟩,
 ⟨1, some 64, none, .call 106 [.tmp 63], []⟩,
 ⟨2, some 65, none, .mov (.tmp 7), []⟩,
 ⟨3, some 66, none, .call 138 [.tmp 65], []⟩,
 ⟨4, some 4, none, .mov (.tmp 64), []⟩,
 ⟨5, some 5, none, .mov (.tmp 66), []⟩]) (
 .ret)
def ir165_k4 : ICode :=
 .seq (
 .seq (
 .region [
 ⟨0, some 32, none, .mov (.tmp 0), []⟩,
 ⟨1, some 33, none, .lenV (.tmp 32), []⟩,
 ⟨2, some 34, none, .bin .sub .other (.tmp 33) (.const (.int .i64 1)), []⟩,
 ⟨3, some 8, none, .mov (.tmp 34), []⟩]) (
 .block 0 (
 .loop ir165_l0))) ir165_k7
def ir165_k3 : ICode :=
 .seq (
 .region [
 ⟨0, some 7, none, .mov (.const (.int .u64 0)), []⟩]) ir165_k4
def ir165_l1 : ICode :=
 .seq (
 .seq (
 .region [
 ⟨0, some 132, none, .mov (.tmp 12), []⟩,
 ⟨1, some 133, none, .mov (.tmp 17), []⟩,
 ⟨4, some 136, none, .mov (.tmp 11), []⟩,
 ⟨5, some 137, none, .mov (.tmp 15), []⟩,
 ⟨6, some 138, none, .mov (.tmp 15), []⟩,
 ⟨7, some 139, none, .mov (.tmp 12), []⟩,
 ⟨8, some 140, none, .lenV (.tmp 139), []⟩,
 ⟨9, some 141, none, .bin .add .other (.tmp 138) (.tmp 140), []⟩,
 ⟨10, some 142, none, .bin .add .other (.tmp 141) (.const (.int .i64 1)), []⟩,
 ⟨11, some 143, none, .sliceS 1 (.tmp 136) (some (.tmp 137)) (some (.tmp 142)), []⟩,
 ⟨2, some 134, none, .call 138 [.tmp 133], []⟩,
 ⟨3, some 135, none, .call 172 [.tmp 132, .tmp 134], []⟩,
 ⟨12, some 144, none, .app 1 4 (.const (.slice none 0 0)) (.tmp 143), []⟩,
 ⟨13, some 145, none, .call 134 [.tmp 135, .tmp 144], []⟩,
 ⟨14, some 146, none, .bin .gtr .other (.tmp 145) (.const (.int .i64 0)), []⟩]) (
 .cond (.tmp 146) (
 .skip) (
 .exit 4))) (
 .block 5 (
 .region [
 ⟨0, some 147, none, .mov (.tmp 17), []⟩,
 ⟨1, some 148, none, .bin .sub .other (.tmp 147) (.const (.int .u64 1)), []⟩,
 ⟨2, some 17, none, .mov (.tmp 148), []⟩]))
def ir165_k21 : ICode :=
 .seq (
 .region [
 ⟨0, some 174, none, .mov (.tmp 19), []⟩,
 ⟨1, some 175, none, .mov (.tmp 18), []⟩,
 ⟨2, some 176, none, .lenV (.tmp 175), []⟩,
 ⟨3, some 177, none, .bin .lss .other (.tmp 174) (.tmp 176), []⟩]) (
 .cond (.tmp 177) (
 .region [
 ⟨0, some 178, none, .mov (.tmp 11), []⟩,
 ⟨1, some 179, none, .mov (.tmp 15), []⟩,
 ⟨2, some 180, none, .mov (.tmp 19), []⟩,
 ⟨3, some 181, none, .bin .add .other (.tmp 179) (.tmp 180), []⟩,
 ⟨4, some 182, none, .mov (.tmp 18), []⟩,
 ⟨5, some 183, none, .mov (.tmp 19), []⟩,
 ⟨6, some 184, none, .iaddr 1 (.tmp 182) (.tmp 183), []⟩,
 ⟨7, some 185, none, .load false 1 (.tmp 184), []⟩,
 ⟨8, some 186, none, .iaddr 1 (.tmp 178) (.tmp 181), []⟩,
 ⟨9, none, none, .store 1 (.tmp 186) (.tmp 185), []⟩]) (
 .skip))
def ir165_k20 : ICode :=
 .seq (
 .block 7 (
 .seq (
 .region [
 ⟨0, some 169, none, .mov (.tmp 11), []⟩,
 ⟨1, some 170, none, .mov (.tmp 15), []⟩,
 ⟨2, some 171, none, .mov (.tmp 19), []⟩,
 ⟨3, some 172, none, .bin .add .other (.tmp 170) (.tmp 171), []⟩,
 ⟨4, some 173, none, .iaddr 1 (.tmp 169) (.tmp 172), []⟩,
 ⟨5, none, none, .store 1 (.tmp 173) (.const (.int .u32 0)), []⟩]) ir165_k21)) (
 .region [
 ⟨0, some 167, none, .mov (.tmp 19), []⟩,
 ⟨1, some 168, none, .bin .add .other (.tmp 167) (.const (.int .i64 1)), []⟩,
 ⟨2, some 19, none, .mov (.tmp 168), []⟩])
def ir165_l2 : ICode :=
 .seq (
 .seq (
 .region [
 ⟨0, some 163, none, .mov (.tmp 19), []⟩,
 ⟨1, some 164, none, .mov (.tmp 12), []⟩,
 ⟨2, some 165, none, .lenV (.tmp 164), []⟩,
 ⟨3, some 166, none, .bin .leq .other (.tmp 163) (.tmp 165), []⟩]) (
 .cond (.tmp 166) (
 .skip) (
 .exit 6))) ir165_k20
def ir165_k19 : ICode :=
 .seq (
 .seq (
 .region [
 ⟨0, some 19, none, .mov (.const (.int .i64 0)), []⟩]) (
 .block 6 (
 .loop ir165_l2))) (
 .region [
 ⟨0, some 187, none, .mov (.tmp 14), []⟩,
 ⟨1, some 188, none, .mov (.tmp 15), []⟩,
 ⟨2, some 189, none, .mov (.tmp 17), []⟩,
 ⟨3, some 190, none, .convI .u32 (.tmp 189), []⟩,
 ⟨4, some 191, none, .iaddr 1 (.tmp 187) (.tmp 188), []⟩,
 ⟨5, none, none, .store 1 (.tmp 191) (.tmp 190), []⟩])
def ir165_k18 : ICode :=
 .seq (
 .region [
 ⟨0, some 149, none, .mov (.tmp 11), []⟩,
 ⟨1, some 150, none, .mov (.tmp 15), []⟩,
 ⟨2, some 151, none, .mov (.tmp 15), []⟩,
 ⟨3, some 152, none, .mov (.tmp 12), []⟩,
 ⟨4, some 153, none, .lenV (.tmp 152), []⟩,
 ⟨5, some 154, none, .bin .add .other (.tmp 151) (.tmp 153), []⟩,
 ⟨6, some 155, none, .bin .add .other (.tmp 154) (.const (.int .i64 1)), []⟩,
 ⟨7, some 156, none, .sliceS 1 (.tmp 149) (some (.tmp 150)) (some (.tmp 155)), []⟩,
 ⟨8, some 157, none, .app 1 4 (.const (.slice none 0 0)) (.tmp 156), []⟩,
 ⟨9, some 158, none, .mov (.tmp 12), []⟩,
 ⟨10, some 159, none, .mov (.tmp 17), []⟩,
 ⟨11, some 160, none, .call 138 [.tmp 159], []⟩,
 ⟨12, some 161, none, .call 172 [.tmp 158, .tmp 160], []⟩,
 ⟨13, some 162, none, .call 164 [.tmp 157, .tmp 161], []⟩,
 ⟨14, some 18, none, .mov (.tmp 162), []⟩]) ir165_k19
def ir165_k17 : ICode :=
 .seq (
 .block 4 (
 .loop ir165_l1)) ir165_k18
def ir165_k16 : ICode :=
 .seq (
 .seq (
 .region [
 ⟨0, some 130, none, .mov (.tmp 17), []⟩,
 ⟨1, some 131, none, .bin .gtr .other (.tmp 130) (.const (.int .u64 4294967295)), []⟩]) (
 .cond (.tmp 131) (
 .region [
 ⟨0, some 17, none, .mov (.const (.int .u64 4294967295)), []⟩]) (
 .skip))) ir165_k17
def ir165_k15 : ICode :=
 .seq (
 .region [
 ⟨0, some 127, none, .mov (.tmp 16), []⟩,
 ⟨1, some 128, none, .mov (.tmp 13), []⟩,
 ⟨2, some 129, none, .bin .quo .other (.tmp 127) (.tmp 128), []⟩,
 ⟨3, some 17, none, .mov (.tmp 129), []⟩]) ir165_k16
def ir165_k14 : ICode :=
 .seq (
 .block 3 (
 .seq (
 .region [
 ⟨0, some 108, none, .mov (.tmp 11), []⟩,
 ⟨1, some 109, none, .mov (.tmp 15), []⟩,
 ⟨2, some 110, none, .mov (.tmp 12), []⟩,
 ⟨3, some 111, none, .lenV (.tmp 110), []⟩,
 ⟨4, some 112, none, .bin .add .other (.tmp 109) (.tmp 111), []⟩,
 ⟨5, some 113, none, .iaddr 1 (.tmp 108) (.tmp 112), []⟩,
 ⟨6, some 114, none, .load false 1 (.tmp 113), []⟩,
 ⟨7, some 115, none, .convI .u64 (.tmp 114), []⟩,
 ⟨8, some 116, none, .bin .shl .other (.tmp 115) (.const (.int .u64 32)), []⟩,
 ⟨9, some 117, none, .mov (.tmp 11), []⟩,
 ⟨10, some 118, none, .mov (.tmp 15), []⟩,
 ⟨11, some 119, none, .mov (.tmp 12), []⟩,
 ⟨12, some 120, none, .lenV (.tmp 119), []⟩,
 ⟨13, some 121, none, .bin .add .other (.tmp 118) (.tmp 120), []⟩,
 ⟨14, some 122, none, .bin .sub .other (.tmp 121) (.const (.int .i64 1)), []⟩,
 ⟨15, some 123, none, .iaddr 1 (.tmp 117) (.tmp 122), []⟩,
 ⟨16, some 124, none, .load false 1 (.tmp 123), []⟩,
 ⟨17, some 125, none, .convI .u64 (.tmp 124), []⟩,
 ⟨18, some 126, none, .bin .or .other (.tmp 116) (.tmp 125), []⟩,
 ⟨19, some 16, none, .mov (.tmp 126), []⟩]) ir165_k15)) (
 .region [
 ⟨0, some 106, none, .mov (.tmp 15), []⟩,
 ⟨1, some 107, none, .bin .sub .other (.tmp 106) (.const (.int .i64 1)), []⟩,
 ⟨2, some 15, none, .mov (.tmp 107), []⟩])
def ir165_l3 : ICode :=
 .seq (
 .seq (
 .region [
 ⟨0, some 104, none, .mov (.tmp 15), []⟩,
 ⟨1, some 105, none, .bin .geq .other (.tmp 104) (.const (.int .i64 0)), []⟩]) (
 .cond (.tmp 105) (
 .skip) (
 .exit 2))) ir165_k14
def ir165_k22 : ICode :=
 .seq (
 .region [
 ⟨0, some 192, none, .mov (.tmp 14), []⟩,
 ⟨1, some 193, none, .call 106 [.tmp 192], []⟩,
 ⟨2, some 194, none, .mov (.tmp 11), []⟩,
 ⟨3, some 195, none, .call 106 [.tmp 194], []⟩,
 ⟨4, some 196, none, .mov (.tmp 10), []⟩,
 ⟨5, some 197, none, .call 175 [.tmp 195, .tmp 196], []⟩,
 ⟨6, some 4, none, .mov (.tmp 193), []⟩,
 ⟨7, some 5, none, .mov (.tmp 197), []⟩]) (
 .ret)
def ir165_k13 : ICode :=
 .seq (
 .seq (
 .region [
 ⟨0, some 101, none, .mov (.tmp 14), []⟩,
 ⟨1, some 102, none, .lenV (.tmp 101), []⟩,
 ⟨2, some 103, none, .bin .sub .other (.tmp 102) (.const (.int .i64 1)), []⟩,
 ⟨3, some 15, none, .mov (.tmp 103), []⟩]) (
 .block 2 (
 .loop ir165_l3))) ir165_k22
def ir165_k12 : ICode :=
 .seq (
 .region [
 ⟨0, some 95, none, .mov (.tmp 11), []⟩,
 ⟨1, some 96, none, .lenV (.tmp 95), []⟩,
 ⟨2, some 97, none, .mov (.tmp 12), []⟩,
 ⟨3, some 98, none, .lenV (.tmp 97), []⟩,
 ⟨4, some 99, none, .bin .sub .other (.tmp 96) (.tmp 98), []⟩,
 ⟨5, some 100, none, .mkslice 1 4 [.int .u32 0] (.tmp 99) (.tmp 99), []⟩,
 ⟨6, some 14, none, .mov (.tmp 100), []⟩]) ir165_k13
def ir165_k11 : ICode :=
 .seq (
 .region [
 ⟨0, some 88, none, .mov (.tmp 12), []⟩,
 ⟨1, some 89, none, .mov (.tmp 12), []⟩,
 ⟨2, some 90, none, .lenV (.tmp 89), []⟩,
 ⟨3, some 91, none, .bin .sub .other (.tmp 90) (.const (.int .i64 1)), []⟩,
 ⟨4, some 92, none, .iaddr 1 (.tmp 88) (.tmp 91), []⟩,
 ⟨5, some 93, none, .load false 1 (.tmp 92), []⟩,
 ⟨6, some 94, none, .convI .u64 (.tmp 93), []⟩,
 ⟨7, some 13, none, .mov (.tmp 94), []⟩]) ir165_k12
def ir165_k10 : ICode :=
 .seq (
 .region [
 ⟨0, some 81, none, .mov (.tmp 11), []⟩,
 ⟨1, some 82, none, .mov (.tmp 0), []⟩,
 ⟨2, some 83, none, .mov (.tmp 10), []⟩,
 ⟨3, some 84, none, .call 174 [.tmp 82, .tmp 83], []⟩,
 ⟨4, some 85, none, .lenV (.tmp 84), []⟩,
 ⟨5, some 86, none, .bin .add .other (.tmp 85) (.const (.int .i64 1)), []⟩,
 ⟨6, some 87, none, .sliceS 1 (.tmp 81) none (some (.tmp 86)), []⟩,
 ⟨7, some 11, none, .mov (.tmp 87), []⟩]) ir165_k11
def ir165_k9 : ICode :=
 .seq (
 .region [
 ⟨0, some 73, none, .mov (.tmp 0), []⟩,
 ⟨1, some 74, none, .mov (.tmp 10), []⟩,
 ⟨2, some 75, none, .call 174 [.tmp 73, .tmp 74], []⟩,
 ⟨3, some 76, none, .bslice 1 2 [.int .u32 0, .int .u32 0] [(0, 1, .const (.int .u32 0)), (1, 1, .const (.int .u32 0))], []⟩,
 ⟨4, some 77, none, .app 1 4 (.tmp 75) (.tmp 76), []⟩,
 ⟨5, some 78, none, .mov (.tmp 1), []⟩,
 ⟨6, some 79, none, .mov (.tmp 10), []⟩,
 ⟨7, some 80, none, .call 174 [.tmp 78, .tmp 79], []⟩,
 ⟨8, some 11, none, .mov (.tmp 77), []⟩,
 ⟨9, some 12, none, .mov (.tmp 80), []⟩]) ir165_k10
def ir165_k8 : ICode :=
 .seq (
 .region [
 ⟨0, some 67, none, .mov (.tmp 1), []⟩,
 ⟨1, some 68, none, .lenV (.tmp 67), []⟩,
 ⟨2, some 69, none, .bin .mul .other (.const (.int .i64 32)) (.tmp 68), []⟩,
 ⟨3, some 70, none, .mov (.tmp 1), []⟩,
 ⟨4, some 71, none, .call 173 [.tmp 70], []⟩,
 ⟨5, some 72, none, .bin .sub .other (.tmp 69) (.tmp 71), []⟩,
 ⟨6, some 10, none, .mov (.tmp 72), []⟩]) ir165_k9
def ir165_k2 : ICode :=
 .seq (
 .seq (
 .region [
 ⟨0, some 26, none, .mov (.tmp 1), []⟩,
 ⟨1, some 27, none, .lenV (.tmp 26), []⟩,
 ⟨2, some 28, none, .bin .eql .other (.tmp 27) (.const (.int .i64 1)), []⟩]) (
 .cond (.tmp 28) (
 .seq (
 .region [
 ⟨0, some 29, none, .mov (.tmp 0), []⟩,
 ⟨1, some 30, none, .lenV (.tmp 29), []⟩,
 ⟨2, some 31, none, .mkslice 1 4 [.int .u32 0] (.tmp 30) (.tmp 30), []⟩,
 ⟨3, some 6, none, .mov (.tmp 31), []⟩]) ir165_k3) (
 .skip))) ir165_k8
def ir165_k1 : ICode :=
 .seq (
 .seq (
 .region [
 ⟨0, some 20, none, .mov (.tmp 0), []⟩,
 ⟨1, some 21, none, .mov (.tmp 1), []⟩,
 ⟨2, some 22, none, .call 134 [.tmp 20, .tmp 21], []⟩,
 ⟨3, some 23, none, .bin .lss .other (.tmp 22) (.const (.int .i64 0)), []⟩]) (
 .cond (.tmp 23) (
 .seq (
 .region [
 ⟨0, some 24, none, .mov (.tmp 0), []⟩,
 ⟨1, some 25, none, .call 106 [.tmp 24], []⟩,
 ⟨2, some 4, none, .mov (.const (.slice none 0 0)), []⟩,
 ⟨3, some 5, none, .mov (.tmp 25), []⟩]) (
 .ret)) (
 .skip))) ir165_k2
def ir165_b : ICode :=
 .seq (
 .region [
 ⟨0, some 4, none, .mov (.const (.slice none 0 0)), []⟩,
 ⟨1, some 5, none, .mov (.const (.slice none 0 0)), []⟩]) ir165_k1
def ir165 : IFunc := ⟨198, [.tmp 4, .tmp 5], ir165_b⟩
theorem ir165_eq : cFunc Tryz.prog 165 = some ir165 := by kernel_rfl
theorem call165 {args : List Value} {m : Mem} {Φ : Value → Mem → Prop} (h : args.length ≤ 198) : WPCall Tryz.prog 165 args m Φ = WP Tryz.prog ir165_b (initσ args) m (retK [.tmp 4, .tmp 5] Φ) := wpCall_def ir165_eq h
def ir168_k5 : ICode :=
 .seq (
 .region [
 ⟨0, some 27, none, .mov (.tmp 6), []⟩,
 ⟨1, some 28, none, .mov (.tmp 8), []⟩,
 ⟨2, some 29, none, .mov (.tmp 7), []⟩,
 ⟨3, some 30, none, .mov (.tmp 1), []⟩,
 ⟨4, some 31, none, .convI .u64 (.tmp 30), []⟩,
 ⟨5, some 32, none, .bin .quo .other (.tmp 29) (.tmp 31), []⟩,
 ⟨6, some 33, none, .convI .u32 (.tmp 32), []⟩,
 ⟨7, some 34, none, .iaddr 1 (.tmp 27) (.tmp 28), []⟩,
 ⟨8, none, none, .store 1 (.tmp 34) (.tmp 33), []⟩]) (
 .region [
 ⟨0, some 35, none, .mov (.tmp 7), []⟩,
 ⟨1, some 36, none, .mov (.tmp 1), []⟩,
 ⟨2, some 37, none, .convI .u64 (.tmp 36), []⟩,
 ⟨3, some 38, none, .bin .rem .other (.tmp 35) (.tmp 37), []⟩,
 ⟨4, some 7, none, .mov (.tmp 38), []⟩])
def ir168_k4 : ICode :=
 .seq (
 .block 1 (
 .seq (
 .region [
 ⟨0, some 19, none, .mov (.tmp 7), []⟩,
 ⟨1, some 20, none, .bin .shl .other (.tmp 19) (.const (.int .u64 32)), []⟩,
 ⟨2, some 21, none, .mov (.tmp 0), []⟩,
 ⟨3, some 22, none, .mov (.tmp 8), []⟩,
 ⟨4, some 23, none, .iaddr 1 (.tmp 21) (.tmp 22), []⟩,
 ⟨5, some 24, none, .load false 1 (.tmp 23), []⟩,
 ⟨6, some 25, none, .convI .u64 (.tmp 24), []⟩,
 ⟨7, some 26, none, .bin .or .other (.tmp 20) (.tmp 25), []⟩,
 ⟨8, some 7, none, .mov (.tmp 26), []⟩]) ir168_k5)) (
 .region [
 ⟨0, some 17, none, .mov (.tmp 8), []⟩,
 ⟨1, some 18, none, .bin .sub .other (.tmp 17) (.const (.int .i64 1)), []⟩,
 ⟨2, some 8, none, .mov (.tmp 18), []⟩])
def ir168_l0 : ICode :=
 .seq (
 .seq (
 .region [
 ⟨0, some 15, none, .mov (.tmp 8), []⟩,
 ⟨1, some 16, none, .bin .geq .other (.tmp 15) (.const (.int .i64 0)), []⟩]) (
 .cond (.tmp 16) (
 .skip) (
 .exit 0))) ir168_k4
def ir168_k6 : ICode :=
 .seq (
 .region [
 ⟨0, some 39, none, .mov (.tmp 6), []⟩,
 ⟨1, some 40, none, .mov (.tmp 6), []⟩,
 ⟨2, some 41, none, .call 100 [.tmp 40], []⟩,
 ⟨3, some 42, none, .sliceS 1 (.tmp 39) none (some (.tmp 41)), []⟩,
 ⟨4, some 43, none, .mov (.tmp 7), []⟩,
 ⟨5, some 44, none, .convI .u32 (.tmp 43), []⟩,
 ⟨6, some 4, none, .mov (.tmp 42), []⟩,
 ⟨7, some 5, none, .mov (.tmp 44), []⟩]) (
 .ret)
def ir168_k3 : ICode :=
 .seq (
 .seq (
 .region [
 ⟨0, some 12, none, .mov (.tmp 0), []⟩,
 ⟨1, some 13, none, .lenV (.tmp 12), []⟩,
 ⟨2, some 14, none, .bin .sub .other (.tmp 13) (.const (.int .i64 1)), []⟩,
 ⟨3, some 8, none, .mov (.tmp 14), []⟩]) (
 .block 0 (
 .loop ir168_l0))) ir168_k6
def ir168_k2 : ICode :=
 .seq (
 .region [
 ⟨0, some 7, none, .mov (.const (.int .u64 0)), []⟩]) ir168_k3
def ir168_k1 : ICode :=
 .seq (
 .region [
 ⟨0, some 9, none, .mov (.tmp 0), []⟩,
 ⟨1, some 10, none, .lenV (.tmp 9), []⟩,
 ⟨2, some 11, none, .mkslice 1 4 [.int .u32 0] (.tmp 10) (.tmp 10), []⟩,
 ⟨3, some 6, none, .mov (.tmp 11), []⟩]) ir168_k2
def ir168_b : ICode :=
 .seq (
 .region [
 ⟨0, some 4, none, .mov (.const (.slice none 0 0)), []⟩,
 ⟨1, some 5, none, .mov (.const (.int .u32 0)), []⟩]) ir168_k1
def ir168 : IFunc := ⟨45, [.tmp 4, .tmp 5], ir168_b⟩
theorem ir168_eq : cFunc Tryz.prog 168 = some ir168 := by kernel_rfl
theorem call168 {args : List Value} {m : Mem} {Φ : Value → Mem → Prop} (h : args.length ≤ 45) : WPCall Tryz.prog 168 args m Φ = WP Tryz.prog ir168_b (initσ args) m (retK [.tmp 4, .tmp 5] Φ) := wpCall_def ir168_eq h
def ir169_k7 : ICode :=
 .seq (
 .region [
 ⟨0, some 26, none, .mov (.tmp 5), []⟩,
 ⟨1, some 27, none, .mov (.tmp 7), []⟩,
 ⟨2, some 28, none, .mov (.tmp 6), []⟩,
 ⟨3, some 29, none, .convI .u32 (.tmp 28), []⟩,
 ⟨4, some 30, none, .iaddr 1 (.tmp 26) (.tmp 27), []⟩,
 ⟨5, none, none, .store 1 (.tmp 30) (.tmp 29), []⟩]) (
 .region [
 ⟨0, some 31, none, .mov (.tmp 6), []⟩,
 ⟨1, some 32, none, .bin .shr .other (.tmp 31) (.const (.int .u64 32)), []⟩,
 ⟨2, some 6, none, .mov (.tmp 32), []⟩])
def ir169_k6 : ICode :=
 .seq (
 .region [
 ⟨0, some 20, none, .mov (.tmp 6), []⟩,
 ⟨1, some 21, none, .mov (.tmp 8), []⟩,
 ⟨2, some 22, none, .convI .u64 (.tmp 21), []⟩,
 ⟨3, some 23, none, .mov (.tmp 1), []⟩,
 ⟨4, some 24, none, .bin .shl .other (.tmp 22) (.tmp 23), []⟩,
 ⟨5, some 25, none, .bin .or .other (.tmp 20) (.tmp 24), []⟩,
 ⟨6, some 6, none, .mov (.tmp 25), []⟩]) ir169_k7
def ir169_k5 : ICode :=
 .seq (
 .block 1 (
 .seq (
 .region [
 ⟨0, some 17, none, .mov (.tmp 15), []⟩,
 ⟨1, some 18, none, .iaddr 1 (.tmp 13) (.tmp 15), []⟩,
 ⟨2, some 19, none, .load false 1 (.tmp 18), []⟩,
 ⟨3, some 7, none, .mov (.tmp 17), []⟩,
 ⟨4, some 8, none, .mov (.tmp 19), []⟩]) ir169_k6)) (
 .region [
 ⟨0, some 33, none, .bin .add .other (.tmp 15) (.const (.int .i64 1)), []⟩,
 ⟨1, some 15, none, .mov (.tmp 33), []⟩])
def ir169_k4 : ICode :=
 .seq (
 .cond (.tmp 16) (
 .skip) (
 .exit 0)) ir169_k5
def ir169_l0 : ICode :=
 .seq (
 .region [
 ⟨0, some 16, none, .bin .lss .other (.tmp 15) (.tmp 14), []⟩]) ir169_k4
def ir169_k9 : ICode :=
 .seq (
 .region [
 ⟨0, some 40, none, .mov (.tmp 5), []⟩,
 ⟨1, some 4, none, .mov (.tmp 40), []⟩]) (
 .ret)
def ir169_k8 : ICode :=
 .seq (
 .region [
 ⟨0, some 34, none, .mov (.tmp 5), []⟩,
 ⟨1, some 35, none, .mov (.tmp 0), []⟩,
 ⟨2, some 36, none, .lenV (.tmp 35), []⟩,
 ⟨3, some 37, none, .mov (.tmp 6), []⟩,
 ⟨4, some 38, none, .convI .u32 (.tmp 37), []⟩,
 ⟨5, some 39, none, .iaddr 1 (.tmp 34) (.tmp 36), []⟩,
 ⟨6, none, none, .store 1 (.tmp 39) (.tmp 38), []⟩]) ir169_k9
def ir169_k3 : ICode :=
 .seq (
 .seq (
 .region [
 ⟨0, some 13, none, .mov (.tmp 0), []⟩,
 ⟨1, some 14, none, .lenV (.tmp 13), []⟩,
 ⟨2, some 15, none, .mov (.const (.int .i64 0)), []⟩]) (
 .block 0 (
 .loop ir169_l0))) ir169_k8
def ir169_k2 : ICode :=
 .seq (
 .region [
 ⟨0, some 6, none, .mov (.const (.int .u64 0)), []⟩]) ir169_k3
def ir169_k1 : ICode :=
 .seq (
 .region [
 ⟨0, some 9, none, .mov (.tmp 0), []⟩,
 ⟨1, some 10, none, .lenV (.tmp 9), []⟩,
 ⟨2, some 11, none, .bin .add .other (.tmp 10) (.const (.int .i64 1)), []⟩,
 ⟨3, some 12, none, .mkslice 1 4 [.int .u32 0] (.tmp 11) (.tmp 11), []⟩,
 ⟨4, some 5, none, .mov (.tmp 12), []⟩]) ir169_k2
def ir169_b : ICode :=
 .seq (
 .region [
 ⟨0, some 4, none, .mov (.const (.slice none 0 0)), []⟩]) ir169_k1
def ir169 : IFunc := ⟨41, [.tmp 4], ir169_b⟩
theorem ir169_eq : cFunc Tryz.prog 169 = some ir169 := by kernel_rfl
theorem call169 {args : List Value} {m : Mem} {Φ : Value → Mem → Prop} (h : args.length ≤ 41) : WPCall Tryz.prog 169 args m Φ = WP Tryz.prog ir169_b (initσ args) m (retK [.tmp 4] Φ) := wpCall_def ir169_eq h
def ir170_k8 : ICode :=
 .seq (
 .region [
 ⟨0, some 41, none, .mov (.tmp 11), []⟩,
 ⟨1, some 42, none, .bin .shr .other (.tmp 41) (.const (.int .u64 63)), []⟩,
 ⟨2, some 8, none, .mov (.tmp 42), []⟩]) (
 .region [
 ⟨0, some 43, none, .mov (.tmp 7), []⟩,
 ⟨1, some 44, none, .bin .shr .other (.tmp 43) (.const (.int .u64 32)), []⟩,
 ⟨2, some 7, none, .mov (.tmp 44), []⟩])
def ir170_k7 : ICode :=
 .seq (
 .region [
 ⟨0, some 36, none, .mov (.tmp 0), []⟩,
 ⟨1, some 37, none, .mov (.tmp 9), []⟩,
 ⟨2, some 38, none, .mov (.tmp 11), []⟩,
 ⟨3, some 39, none, .convI .u32 (.tmp 38), []⟩,
 ⟨4, some 40, none, .iaddr 1 (.tmp 36) (.tmp 37), []⟩,
 ⟨5, none, none, .store 1 (.tmp 40) (.tmp 39), []⟩]) ir170_k8
def ir170_k6 : ICode :=
 .seq (
 .region [
 ⟨0, some 26, none, .mov (.tmp 0), []⟩,
 ⟨1, some 27, none, .mov (.tmp 9), []⟩,
 ⟨2, some 28, none, .iaddr 1 (.tmp 26) (.tmp 27), []⟩,
 ⟨3, some 29, none, .load false 1 (.tmp 28), []⟩,
 ⟨4, some 30, none, .convI .u64 (.tmp 29), []⟩,
 ⟨5, some 31, none, .mov (.tmp 7), []⟩,
 ⟨6, some 32, none, .bin .and .other (.tmp 31) (.const (.int .u64 4294967295)), []⟩,
 ⟨7, some 33, none, .bin .sub .other (.tmp 30) (.tmp 32), []⟩,
 ⟨8, some 34, none, .mov (.tmp 8), []⟩,
 ⟨9, some 35, none, .bin .sub .other (.tmp 33) (.tmp 34), []⟩,
 ⟨10, some 11, none, .mov (.tmp 35), []⟩]) ir170_k7
def ir170_k5 : ICode :=
 .seq (
 .region [
 ⟨0, some 20, none, .mov (.tmp 7), []⟩,
 ⟨1, some 21, none, .mov (.tmp 2), []⟩,
 ⟨2, some 22, none, .mov (.tmp 10), []⟩,
 ⟨3, some 23, none, .convI .u64 (.tmp 22), []⟩,
 ⟨4, some 24, none, .bin .mul .other (.tmp 21) (.tmp 23), []⟩,
 ⟨5, some 25, none, .bin .add .other (.tmp 20) (.tmp 24), []⟩,
 ⟨6, some 7, none, .mov (.tmp 25), []⟩]) ir170_k6
def ir170_k4 : ICode :=
 .seq (
 .block 1 (
 .seq (
 .region [
 ⟨0, some 17, none, .mov (.tmp 15), []⟩,
 ⟨1, some 18, none, .iaddr 1 (.tmp 13) (.tmp 15), []⟩,
 ⟨2, some 19, none, .load false 1 (.tmp 18), []⟩,
 ⟨3, some 9, none, .mov (.tmp 17), []⟩,
 ⟨4, some 10, none, .mov (.tmp 19), []⟩]) ir170_k5)) (
 .region [
 ⟨0, some 45, none, .bin .add .other (.tmp 15) (.const (.int .i64 1)), []⟩,
 ⟨1, some 15, none, .mov (.tmp 45), []⟩])
def ir170_k3 : ICode :=
 .seq (
 .cond (.tmp 16) (
 .skip) (
 .exit 0)) ir170_k4
def ir170_l0 : ICode :=
 .seq (
 .region [
 ⟨0, some 16, none, .bin .lss .other (.tmp 15) (.tmp 14), []⟩]) ir170_k3
def ir170_k11 : ICode :=
 .seq (
 .region [
 ⟨0, some 62, none, .mov (.tmp 12), []⟩,
 ⟨1, some 63, none, .bin .shr .other (.tmp 62) (.const (.int .u64 63)), []⟩,
 ⟨2, some 64, none, .bin .eql .other (.tmp 63) (.const (.int .u64 1)), []⟩,
 ⟨3, some 6, none, .mov (.tmp 64), []⟩]) (
 .ret)
def ir170_k10 : ICode :=
 .seq (
 .region [
 ⟨0, some 56, none, .mov (.tmp 0), []⟩,
 ⟨1, some 57, none, .mov (.tmp 1), []⟩,
 ⟨2, some 58, none, .lenV (.tmp 57), []⟩,
 ⟨3, some 59, none, .mov (.tmp 12), []⟩,
 ⟨4, some 60, none, .convI .u32 (.tmp 59), []⟩,
 ⟨5, some 61, none, .iaddr 1 (.tmp 56) (.tmp 58), []⟩,
 ⟨6, none, none, .store 1 (.tmp 61) (.tmp 60), []⟩]) ir170_k11
def ir170_k9 : ICode :=
 .seq (
 .region [
 ⟨0, some 46, none, .mov (.tmp 0), []⟩,
 ⟨1, some 47, none, .mov (.tmp 1), []⟩,
 ⟨2, some 48, none, .lenV (.tmp 47), []⟩,
 ⟨3, some 49, none, .iaddr 1 (.tmp 46) (.tmp 48), []⟩,
 ⟨4, some 50, none, .load false 1 (.tmp 49), []⟩,
 ⟨5, some 51, none, .convI .u64 (.tmp 50), []⟩,
 ⟨6, some 52, none, .mov (.tmp 7), []⟩,
 ⟨7, some 53, none, .bin .sub .other (.tmp 51) (.tmp 52), []⟩,
 ⟨8, some 54, none, .mov (.tmp 8), []⟩,
 ⟨9, some 55, none, .bin .sub .other (.tmp 53) (.tmp 54), []⟩,
 ⟨10, some 12, none, .mov (.tmp 55), []⟩]) ir170_k10
def ir170_k2 : ICode :=
 .seq (
 .seq (
 .region [
 ⟨0, some 13, none, .mov (.tmp 1), []⟩,
 ⟨1, some 14, none, .lenV (.tmp 13), []⟩,
 ⟨2, some 15, none, .mov (.const (.int .i64 0)), []⟩]) (
 .block 0 (
 .loop ir170_l0))) ir170_k9
def ir170_k1 : ICode :=
 .seq (
 .region [
 ⟨0, some 7, none, .mov (.const (.int .u64 0)), []⟩,
 ⟨1, some 8, none, .mov (.const (.int .u64 0)), []⟩]) ir170_k2
def ir170_b : ICode :=
 .seq (
 .region [
 ⟨0, some 6, none, .mov (.const (.bool false)), []⟩]) ir170_k1
def ir170 : IFunc := ⟨65, [.tmp 6], ir170_b⟩
theorem ir170_eq : cFunc Tryz.prog 170 = some ir170 := by kernel_rfl
theorem call170 {args : List Value} {m : Mem} {Φ : Value → Mem → Prop} (h : args.length ≤ 65) : WPCall Tryz.prog 170 args m Φ = WP Tryz.prog ir170_b (initσ args) m (retK [.tmp 6] Φ) := wpCall_def ir170_eq h
def ir171_k5 : ICode :=
 .seq (
 .region [
 ⟨0, some 24, none, .mov (.tmp 0), []⟩,
 ⟨1, some 25, none, .mov (.tmp 5), []⟩,
 ⟨2, some 26, none, .mov (.tmp 4), []⟩,
 ⟨3, some 27, none, .convI .u32 (.tmp 26), []⟩,
 ⟨4, some 28, none, .iaddr 1 (.tmp 24) (.tmp 25), []⟩,
 ⟨5, none, none, .store 1 (.tmp 28) (.tmp 27), []⟩]) (
 .region [
 ⟨0, some 29, none, .mov (.tmp 4), []⟩,
 ⟨1, some 30, none, .bin .shr .other (.tmp 29) (.const (.int .u64 32)), []⟩,
 ⟨2, some 4, none, .mov (.tmp 30), []⟩])
def ir171_k4 : ICode :=
 .seq (
 .region [
 ⟨0, some 14, none, .mov (.tmp 4), []⟩,
 ⟨1, some 15, none, .mov (.tmp 0), []⟩,
 ⟨2, some 16, none, .mov (.tmp 5), []⟩,
 ⟨3, some 17, none, .iaddr 1 (.tmp 15) (.tmp 16), []⟩,
 ⟨4, some 18, none, .load false 1 (.tmp 17), []⟩,
 ⟨5, some 19, none, .convI .u64 (.tmp 18), []⟩,
 ⟨6, some 20, none, .mov (.tmp 6), []⟩,
 ⟨7, some 21, none, .convI .u64 (.tmp 20), []⟩,
 ⟨8, some 22, none, .bin .add .other (.tmp 19) (.tmp 21), []⟩,
 ⟨9, some 23, none, .bin .add .other (.tmp 14) (.tmp 22), []⟩,
 ⟨10, some 4, none, .mov (.tmp 23), []⟩]) ir171_k5
def ir171_k3 : ICode :=
 .seq (
 .block 1 (
 .seq (
 .region [
 ⟨0, some 11, none, .mov (.tmp 9), []⟩,
 ⟨1, some 12, none, .iaddr 1 (.tmp 7) (.tmp 9), []⟩,
 ⟨2, some 13, none, .load false 1 (.tmp 12), []⟩,
 ⟨3, some 5, none, .mov (.tmp 11), []⟩,
 ⟨4, some 6, none, .mov (.tmp 13), []⟩]) ir171_k4)) (
 .region [
 ⟨0, some 31, none, .bin .add .other (.tmp 9) (.const (.int .i64 1)), []⟩,
 ⟨1, some 9, none, .mov (.tmp 31), []⟩])
def ir171_k2 : ICode :=
 .seq (
 .cond (.tmp 10) (
 .skip) (
 .exit 0)) ir171_k3
def ir171_l0 : ICode :=
 .seq (
 .region [
 ⟨0, some 10, none, .bin .lss .other (.tmp 9) (.tmp 8), []⟩]) ir171_k2
def ir171_k1 : ICode :=
 .seq (
 .seq (
 .region [
 ⟨0, some 7, none, .mov (.tmp 1), []⟩,
 ⟨1, some 8, none, .lenV (.tmp 7), []⟩,
 ⟨2, some 9, none, .mov (.const (.int .i64 0)), []⟩]) (
 .block 0 (
 .loop ir171_l0))) (
 .region [
 ⟨0, some 32, none, .mov (.tmp 0), []⟩,
 ⟨1, some 33, none, .mov (.tmp 1), []⟩,
 ⟨2, some 34, none, .lenV (.tmp 33), []⟩,
 ⟨3, some 35, none, .iaddr 1 (.tmp 32) (.tmp 34), []⟩,
 ⟨4, some 36, none, .load false 1 (.tmp 35), []⟩,
 ⟨5, some 37, none, .mov (.tmp 4), []⟩,
 ⟨6, some 38, none, .convI .u32 (.tmp 37), []⟩,
 ⟨7, some 39, none, .bin .add .other (.tmp 36) (.tmp 38), []⟩,
 ⟨8, some 40, none, .iaddr 1 (.tmp 32) (.tmp 34), []⟩,
 ⟨9, none, none, .store 1 (.tmp 40) (.tmp 39), []⟩])
def ir171_b : ICode :=
 .seq (
 .region [
 ⟨0, some 4, none, .mov (.const (.int .u64 0)), []⟩]) ir171_k1
def ir171 : IFunc := ⟨41, [], ir171_b⟩
theorem ir171_eq : cFunc Tryz.prog 171 = some ir171 := by kernel_rfl
theorem call171 {args : List Value} {m : Mem} {Φ : Value → Mem → Prop} (h : args.length ≤ 41) : WPCall Tryz.prog 171 args m Φ = WP Tryz.prog ir171_b (initσ args) m (retK [] Φ) := wpCall_def ir171_eq h
def ir172_k6 : ICode :=
 .seq (
 .region [
 ⟨0, some 49, none, .mov (.tmp 5), []⟩,
 ⟨1, some 50, none, .mov (.tmp 6), []⟩,
 ⟨2, some 51, none, .mov (.tmp 8), []⟩,
 ⟨3, some 52, none, .bin .add .other (.tmp 50) (.tmp 51), []⟩,
 ⟨4, some 53, none, .mov (.tmp 9), []⟩,
 ⟨5, some 54, none, .convI .u32 (.tmp 53), []⟩,
 ⟨6, some 55, none, .iaddr 1 (.tmp 49) (.tmp 52), []⟩,
 ⟨7, none, none, .store 1 (.tmp 55) (.tmp 54), []⟩]) (
 .region [
 ⟨0, some 56, none, .mov (.tmp 9), []⟩,
 ⟨1, some 57, none, .bin .shr .other (.tmp 56) (.const (.int .u64 32)), []⟩,
 ⟨2, some 7, none, .mov (.tmp 57), []⟩])
def ir172_k5 : ICode :=
 .seq (
 .block 3 (
 .seq (
 .region [
 ⟨0, some 28, none, .mov (.tmp 0), []⟩,
 ⟨1, some 29, none, .mov (.tmp 6), []⟩,
 ⟨2, some 30, none, .iaddr 1 (.tmp 28) (.tmp 29), []⟩,
 ⟨3, some 31, none, .load false 1 (.tmp 30), []⟩,
 ⟨4, some 32, none, .convI .u64 (.tmp 31), []⟩,
 ⟨5, some 33, none, .mov (.tmp 1), []⟩,
 ⟨6, some 34, none, .mov (.tmp 8), []⟩,
 ⟨7, some 35, none, .iaddr 1 (.tmp 33) (.tmp 34), []⟩,
 ⟨8, some 36, none, .load false 1 (.tmp 35), []⟩,
 ⟨9, some 37, none, .convI .u64 (.tmp 36), []⟩,
 ⟨10, some 38, none, .bin .mul .other (.tmp 32) (.tmp 37), []⟩,
 ⟨11, some 39, none, .mov (.tmp 5), []⟩,
 ⟨12, some 40, none, .mov (.tmp 6), []⟩,
 ⟨13, some 41, none, .mov (.tmp 8), []⟩,
 ⟨14, some 42, none, .bin .add .other (.tmp 40) (.tmp 41), []⟩,
 ⟨15, some 43, none, .iaddr 1 (.tmp 39) (.tmp 42), []⟩,
 ⟨16, some 44, none, .load false 1 (.tmp 43), []⟩,
 ⟨17, some 45, none, .convI .u64 (.tmp 44), []⟩,
 ⟨18, some 46, none, .bin .add .other (.tmp 38) (.tmp 45), []⟩,
 ⟨19, some 47, none, .mov (.tmp 7), []⟩,
 ⟨20, some 48, none, .bin .add .other (.tmp 46) (.tmp 47), []⟩,
 ⟨21, some 9, none, .mov (.tmp 48), []⟩]) ir172_k6)) (
 .region [
 ⟨0, some 26, none, .mov (.tmp 8), []⟩,
 ⟨1, some 27, none, .bin .add .other (.tmp 26) (.const (.int .i64 1)), []⟩,
 ⟨2, some 8, none, .mov (.tmp 27), []⟩])
def ir172_l0 : ICode :=
 .seq (
 .seq (
 .region [
 ⟨0, some 22, none, .mov (.tmp 8), []⟩,
 ⟨1, some 23, none, .mov (.tmp 1), []⟩,
 ⟨2, some 24, none, .lenV (.tmp 23), []⟩,
 ⟨3, some 25, none, .bin .lss .other (.tmp 22) (.tmp 24), []⟩]) (
 .cond (.tmp 25) (
 .skip) (
 .exit 2))) ir172_k5
def ir172_k4 : ICode :=
 .seq (
 .seq (
 .region [
 ⟨0, some 8, none, .mov (.const (.int .i64 0)), []⟩]) (
 .block 2 (
 .loop ir172_l0))) (
 .region [
 ⟨0, some 58, none, .mov (.tmp 5), []⟩,
 ⟨1, some 59, none, .mov (.tmp 6), []⟩,
 ⟨2, some 60, none, .mov (.tmp 1), []⟩,
 ⟨3, some 61, none, .lenV (.tmp 60), []⟩,
 ⟨4, some 62, none, .bin .add .other (.tmp 59) (.tmp 61), []⟩,
 ⟨5, some 63, none, .mov (.tmp 7), []⟩,
 ⟨6, some 64, none, .convI .u32 (.tmp 63), []⟩,
 ⟨7, some 65, none, .iaddr 1 (.tmp 58) (.tmp 62), []⟩,
 ⟨8, none, none, .store 1 (.tmp 65) (.tmp 64), []⟩])
def ir172_k3 : ICode :=
 .seq (
 .block 1 (
 .seq (
 .region [
 ⟨0, some 7, none, .mov (.const (.int .u64 0)), []⟩]) ir172_k4)) (
 .region [
 ⟨0, some 20, none, .mov (.tmp 6), []⟩,
 ⟨1, some 21, none, .bin .add .other (.tmp 20) (.const (.int .i64 1)), []⟩,
 ⟨2, some 6, none, .mov (.tmp 21), []⟩])
def ir172_l1 : ICode :=
 .seq (
 .seq (
 .region [
 ⟨0, some 16, none, .mov (.tmp 6), []⟩,
 ⟨1, some 17, none, .mov (.tmp 0), []⟩,
 ⟨2, some 18, none, .lenV (.tmp 17), []⟩,
 ⟨3, some 19, none, .bin .lss .other (.tmp 16) (.tmp 18), []⟩]) (
 .cond (.tmp 19) (
 .skip) (
 .exit 0))) ir172_k3
def ir172_k7 : ICode :=
 .seq (
 .region [
 ⟨0, some 66, none, .mov (.tmp 5), []⟩,
 ⟨1, some 67, none, .call 106 [.tmp 66], []⟩,
 ⟨2, some 4, none, .mov (.tmp 67), []⟩]) (
 .ret)
def ir172_k2 : ICode :=
 .seq (
 .seq (
 .region [
 ⟨0, some 6, none, .mov (.const (.int .i64 0)), []⟩]) (
 .block 0 (
 .loop ir172_l1))) ir172_k7
def ir172_k1 : ICode :=
 .seq (
 .region [
 ⟨0, some 10, none, .mov (.tmp 0), []⟩,
 ⟨1, some 11, none, .lenV (.tmp 10), []⟩,
 ⟨2, some 12, none, .mov (.tmp 1), []⟩,
 ⟨3, some 13, none, .lenV (.tmp 12), []⟩,
 ⟨4, some 14, none, .bin .add .other (.tmp 11) (.tmp 13), []⟩,
 ⟨5, some 15, none, .mkslice 1 4 [.int .u32 0] (.tmp 14) (.tmp 14), []⟩,
 ⟨6, some 5, none, .mov (.tmp 15), []⟩]) ir172_k2
def ir172_b : ICode :=
 .seq (
 .region [
 ⟨0, some 4, none, .mov (.const (.slice none 0 0)), []⟩]) ir172_k1
def ir172 : IFunc := ⟨68, [.tmp 4], ir172_b⟩
theorem ir172_eq : cFunc Tryz.prog 172 = some ir172 := by kernel_rfl
theorem call172 {args : List Value} {m : Mem} {Φ : Value → Mem → Prop} (h : args.length ≤ 68) : WPCall Tryz.prog 172 args m Φ = WP Tryz.prog ir172_b (initσ args) m (retK [.tmp 4] Φ) := wpCall_def ir172_eq h
def ir173_k5 : ICode :=
 .seq (
 .block 1 (
 .region [
 ⟨0, some 24, none, .mov (.tmp 3), []⟩,
 ⟨1, some 25, none, .bin .add .other (.tmp 24) (.const (.int .i64 1)), []⟩,
 ⟨2, some 3, none, .mov (.tmp 25), []⟩])) (
 .region [
 ⟨0, some 22, none, .mov (.tmp 4), []⟩,
 ⟨1, some 23, none, .bin .quo .other (.tmp 22) (.const (.int .u32 2)), []⟩,
 ⟨2, some 4, none, .mov (.tmp 23), []⟩])
def ir173_l0 : ICode :=
 .seq (
 .seq (
 .region [
 ⟨0, some 20, none, .mov (.tmp 4), []⟩,
 ⟨1, some 21, none, .bin .gtr .other (.tmp 20) (.const (.int .u32 0)), []⟩]) (
 .cond (.tmp 21) (
 .skip) (
 .exit 0))) ir173_k5
def ir173_k6 : ICode :=
 .seq (
 .region [
 ⟨0, some 26, none, .mov (.tmp 3), []⟩,
 ⟨1, some 2, none, .mov (.tmp 26), []⟩]) (
 .ret)
def ir173_k4 : ICode :=
 .seq (
 .seq (
 .region [
 ⟨0, some 14, none, .mov (.tmp 0), []⟩,
 ⟨1, some 15, none, .mov (.tmp 0), []⟩,
 ⟨2, some 16, none, .lenV (.tmp 15), []⟩,
 ⟨3, some 17, none, .bin .sub .other (.tmp 16) (.const (.int .i64 1)), []⟩,
 ⟨4, some 18, none, .iaddr 1 (.tmp 14) (.tmp 17), []⟩,
 ⟨5, some 19, none, .load false 1 (.tmp 18), []⟩,
 ⟨6, some 4, none, .mov (.tmp 19), []⟩]) (
 .block 0 (
 .loop ir173_l0))) ir173_k6
def ir173_k3 : ICode :=
 .seq (
 .region [
 ⟨0, some 10, none, .mov (.tmp 0), []⟩,
 ⟨1, some 11, none, .lenV (.tmp 10), []⟩,
 ⟨2, some 12, none, .bin .sub .other (.tmp 11) (.const (.int .i64 1)), []⟩,
 ⟨3, some 13, none, .bin .mul .other (.const (.int .i64 32)) (.tmp 12), []⟩,
 ⟨4, some 3, none, .mov (.tmp 13), []⟩]) ir173_k4
def ir173_k2 : ICode :=
 .seq (
 .seq (
 .region [
 ⟨0, some 7, none, .mov (.tmp 0), []⟩,
 ⟨1, some 8, none, .lenV (.tmp 7), []⟩,
 ⟨2, some 9, none, .bin .eql .other (.tmp 8) (.const (.int .i64 0)), []⟩]) (
 .cond (.tmp 9) (
 .seq (
 .region [
 ⟨0, some 2, none, .mov (.const (.int .i64 0)), []⟩]) (
 .ret)) (
 .skip))) ir173_k3
def ir173_k1 : ICode :=
 .seq (
 .region [
 ⟨0, some 5, none, .mov (.tmp 0), []⟩,
 ⟨1, some 6, none, .call 106 [.tmp 5], []⟩,
 ⟨2, some 0, none, .mov (.tmp 6), []⟩]) ir173_k2
def ir173_b : ICode :=
 .seq (
 .region [
 ⟨0, some 2, none, .mov (.const (.int .i64 0)), []⟩]) ir173_k1
def ir173 : IFunc := ⟨27, [.tmp 2], ir173_b⟩
theorem ir173_eq : cFunc Tryz.prog 173 = some ir173 := by kernel_rfl
theorem call173 {args : List Value} {m : Mem} {Φ : Value → Mem → Prop} (h : args.length ≤ 27) : WPCall Tryz.prog 173 args m Φ = WP Tryz.prog ir173_b (initσ args) m (retK [.tmp 2] Φ) := wpCall_def ir173_eq h
def ir174_k6 : ICode :=
 .seq (
 .region [
 ⟨0, some 32, none, .mov (.tmp 5), []⟩,
 ⟨1, some 33, none, .mov (.tmp 8), []⟩,
 ⟨2, some 34, none, .convI .u32 (.tmp 33), []⟩,
 ⟨3, some 35, none, .bslice 1 1 [.int .u32 0] [(0, 1, .tmp 34)], []⟩,
 ⟨4, some 36, none, .app 1 4 (.tmp 32) (.tmp 35), []⟩,
 ⟨5, some 5, none, .mov (.tmp 36), []⟩]) (
 .region [
 ⟨0, some 37, none, .mov (.tmp 8), []⟩,
 ⟨1, some 38, none, .bin .shr .other (.tmp 37) (.const (.int .u64 32)), []⟩,
 ⟨2, some 6, none, .mov (.tmp 38), []⟩])
def ir174_k5 : ICode :=
 .seq (
 .block 1 (
 .seq (
 .region [
 ⟨0, some 21, none, .mov (.tmp 0), []⟩,
 ⟨1, some 22, none, .mov (.tmp 7), []⟩,
 ⟨2, some 23, none, .iaddr 1 (.tmp 21) (.tmp 22), []⟩,
 ⟨3, some 24, none, .load false 1 (.tmp 23), []⟩,
 ⟨4, some 25, none, .convI .u64 (.tmp 24), []⟩,
 ⟨5, some 26, none, .mov (.tmp 1), []⟩,
 ⟨6, some 27, none, .bin .rem .other (.tmp 26) (.const (.int .i64 32)), []⟩,
 ⟨7, some 28, none, .convI .u64 (.tmp 27), []⟩,
 ⟨8, some 29, none, .bin .shl .other (.tmp 25) (.tmp 28), []⟩,
 ⟨9, some 30, none, .mov (.tmp 6), []⟩,
 ⟨10, some 31, none, .bin .or .other (.tmp 29) (.tmp 30), []⟩,
 ⟨11, some 8, none, .mov (.tmp 31), []⟩]) ir174_k6)) (
 .region [
 ⟨0, some 19, none, .mov (.tmp 7), []⟩,
 ⟨1, some 20, none, .bin .add .other (.tmp 19) (.const (.int .i64 1)), []⟩,
 ⟨2, some 7, none, .mov (.tmp 20), []⟩])
def ir174_l0 : ICode :=
 .seq (
 .seq (
 .region [
 ⟨0, some 15, none, .mov (.tmp 7), []⟩,
 ⟨1, some 16, none, .mov (.tmp 0), []⟩,
 ⟨2, some 17, none, .lenV (.tmp 16), []⟩,
 ⟨3, some 18, none, .bin .lss .other (.tmp 15) (.tmp 17), []⟩]) (
 .cond (.tmp 18) (
 .skip) (
 .exit 0))) ir174_k5
def ir174_k7 : ICode :=
 .seq (
 .region [
 ⟨0, some 39, none, .mov (.tmp 5), []⟩,
 ⟨1, some 40, none, .mov (.tmp 6), []⟩,
 ⟨2, some 41, none, .convI .u32 (.tmp 40), []⟩,
 ⟨3, some 42, none, .bslice 1 1 [.int .u32 0] [(0, 1, .tmp 41)], []⟩,
 ⟨4, some 43, none, .app 1 4 (.tmp 39) (.tmp 42), []⟩,
 ⟨5, some 44, none, .call 106 [.tmp 43], []⟩,
 ⟨6, some 4, none, .mov (.tmp 44), []⟩]) (
 .ret)
def ir174_k4 : ICode :=
 .seq (
 .seq (
 .region [
 ⟨0, some 7, none, .mov (.const (.int .i64 0)), []⟩]) (
 .block 0 (
 .loop ir174_l0))) ir174_k7
def ir174_k3 : ICode :=
 .seq (
 .region [
 ⟨0, some 6, none, .mov (.const (.int .u64 0)), []⟩]) ir174_k4
def ir174_k2 : ICode :=
 .seq (
 .region [
 ⟨0, some 12, none, .mov (.tmp 1), []⟩,
 ⟨1, some 13, none, .bin .quo .other (.tmp 12) (.const (.int .i64 32)), []⟩,
 ⟨2, some 14, none, .mkslice 1 4 [.int .u32 0] (.tmp 13) (.tmp 13), []⟩,
 ⟨3, some 5, none, .mov (.tmp 14), []⟩]) ir174_k3
def ir174_k1 : ICode :=
 .seq (
 .seq (
 .region [
 ⟨0, some 9, none, .mov (.tmp 0), []⟩,
 ⟨1, some 10, none, .lenV (.tmp 9), []⟩,
 ⟨2, some 11, none, .bin .eql .other (.tmp 10) (.const (.int .i64 0)), []⟩]) (
 .cond (.tmp 11) (
 .seq (
 .region [
 ⟨0, some 4, none, .mov (.const (.slice none 0 0)), []⟩]) (
 .ret)) (
 .skip))) ir174_k2
def ir174_b : ICode :=
 .seq (
 .region [
 ⟨0, some 4, none, .mov (.const (.slice none 0 0)), []⟩]) ir174_k1
def ir174 : IFunc := ⟨45, [.tmp 4], ir174_b⟩
theorem ir174_eq : cFunc Tryz.prog 174 = some ir174 := by kernel_rfl
theorem call174 {args : List Value} {m : Mem} {Φ : Value → Mem → Prop} (h : args.length ≤ 45) : WPCall Tryz.prog 174 args m Φ = WP Tryz.prog ir174_b (initσ args) m (retK [.tmp 4] Φ) := wpCall_def ir174_eq h
def ir175_k5 : ICode :=
 .seq (
 .seq (
 .region [
 ⟨0, some 26, none, .mov (.tmp 6), []⟩,
 ⟨1, some 27, none, .bin .add .other (.tmp 26) (.const (.int .i64 1)), []⟩,
 ⟨2, some 28, none, .mov (.tmp 0), []⟩,
 ⟨3, some 29, none, .lenV (.tmp 28), []⟩,
 ⟨4, some 30, none, .bin .lss .other (.tmp 27) (.tmp 29), []⟩]) (
 .cond (.tmp 30) (
 .region [
 ⟨0, some 31, none, .mov (.tmp 7), []⟩,
 ⟨1, some 32, none, .mov (.tmp 0), []⟩,
 ⟨2, some 33, none, .mov (.tmp 6), []⟩,
 ⟨3, some 34, none, .bin .add .other (.tmp 33) (.const (.int .i64 1)), []⟩,
 ⟨4, some 35, none, .iaddr 1 (.tmp 32) (.tmp 34), []⟩,
 ⟨5, some 36, none, .load false 1 (.tmp 35), []⟩,
 ⟨6, some 37, none, .convI .u64 (.tmp 36), []⟩,
 ⟨7, some 38, none, .bin .shl .other (.tmp 37) (.const (.int .u64 32)), []⟩,
 ⟨8, some 39, none, .bin .or .other (.tmp 31) (.tmp 38), []⟩,
 ⟨9, some 7, none, .mov (.tmp 39), []⟩]) (
 .skip))) (
 .region [
 ⟨0, some 40, none, .mov (.tmp 5), []⟩,
 ⟨1, some 41, none, .mov (.tmp 7), []⟩,
 ⟨2, some 42, none, .mov (.tmp 1), []⟩,
 ⟨3, some 43, none, .bin .rem .other (.tmp 42) (.const (.int .i64 32)), []⟩,
 ⟨4, some 44, none, .convI .u64 (.tmp 43), []⟩,
 ⟨5, some 45, none, .bin .shr .other (.tmp 41) (.tmp 44), []⟩,
 ⟨6, some 46, none, .convI .u32 (.tmp 45), []⟩,
 ⟨7, some 47, none, .bslice 1 1 [.int .u32 0] [(0, 1, .tmp 46)], []⟩,
 ⟨8, some 48, none, .app 1 4 (.tmp 40) (.tmp 47), []⟩,
 ⟨9, some 5, none, .mov (.tmp 48), []⟩])
def ir175_k4 : ICode :=
 .seq (
 .block 1 (
 .seq (
 .region [
 ⟨0, some 21, none, .mov (.tmp 0), []⟩,
 ⟨1, some 22, none, .mov (.tmp 6), []⟩,
 ⟨2, some 23, none, .iaddr 1 (.tmp 21) (.tmp 22), []⟩,
 ⟨3, some 24, none, .load false 1 (.tmp 23), []⟩,
 ⟨4, some 25, none, .convI .u64 (.tmp 24), []⟩,
 ⟨5, some 7, none, .mov (.tmp 25), []⟩]) ir175_k5)) (
 .region [
 ⟨0, some 19, none, .mov (.tmp 6), []⟩,
 ⟨1, some 20, none, .bin .add .other (.tmp 19) (.const (.int .i64 1)), []⟩,
 ⟨2, some 6, none, .mov (.tmp 20), []⟩])
def ir175_l0 : ICode :=
 .seq (
 .seq (
 .region [
 ⟨0, some 15, none, .mov (.tmp 6), []⟩,
 ⟨1, some 16, none, .mov (.tmp 0), []⟩,
 ⟨2, some 17, none, .lenV (.tmp 16), []⟩,
 ⟨3, some 18, none, .bin .lss .other (.tmp 15) (.tmp 17), []⟩]) (
 .cond (.tmp 18) (
 .skip) (
 .exit 0))) ir175_k4
def ir175_k6 : ICode :=
 .seq (
 .region [
 ⟨0, some 49, none, .mov (.tmp 5), []⟩,
 ⟨1, some 50, none, .call 106 [.tmp 49], []⟩,
 ⟨2, some 4, none, .mov (.tmp 50), []⟩]) (
 .ret)
def ir175_k3 : ICode :=
 .seq (
 .seq (
 .region [
 ⟨0, some 13, none, .mov (.tmp 1), []⟩,
 ⟨1, some 14, none, .bin .quo .other (.tmp 13) (.const (.int .i64 32)), []⟩,
 ⟨2, some 6, none, .mov (.tmp 14), []⟩]) (
 .block 0 (
 .loop ir175_l0))) ir175_k6
def ir175_k2 : ICode :=
 .seq (
 .region [
 ⟨0, some 5, none, .mov (.const (.slice none 0 0)), []⟩]) ir175_k3
def ir175_k1 : ICode :=
 .seq (
 .seq (
 .region [
 ⟨0, some 8, none, .mov (.tmp 1), []⟩,
 ⟨1, some 9, none, .bin .quo .other (.tmp 8) (.const (.int .i64 32)), []⟩,
 ⟨2, some 10, none, .mov (.tmp 0), []⟩,
 ⟨3, some 11, none, .lenV (.tmp 10), []⟩,
 ⟨4, some 12, none, .bin .geq .other (.tmp 9) (.tmp 11), []⟩]) (
 .cond (.tmp 12) (
 .seq (
 .region [
 ⟨0, some 4, none, .mov (.const (.slice none 0 0)), []⟩]) (
 .ret)) (
 .skip))) ir175_k2
def ir175_b : ICode :=
 .seq (
 .region [
 ⟨0, some 4, none, .mov (.const (.slice none 0 0)), []⟩]) ir175_k1
def ir175 : IFunc := ⟨51, [.tmp 4], ir175_b⟩
theorem ir175_eq : cFunc Tryz.prog 175 = some ir175 := by kernel_rfl
theorem call175 {args : List Value} {m : Mem} {Φ : Value → Mem → Prop} (h : args.length ≤ 51) : WPCall Tryz.prog 175 args m Φ = WP Tryz.prog ir175_b (initσ args) m (retK [.tmp 4] Φ) := wpCall_def ir175_eq h
end Go.Proofs.YtkpifdkccdndcaaGreat
