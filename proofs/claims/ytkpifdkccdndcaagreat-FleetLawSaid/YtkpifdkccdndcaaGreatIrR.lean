/-
 The intermediate forms of this seat's functions, written by a program of ours (wip/Ir.lean); each is checked against the loaded program.
-/
import Derived.Test.YtkpifdkccdndcaaGreatRows
import Derived.Test.YtkpifdkccdndcaaGreatFwWY
namespace Go.Proofs.YtkpifdkccdndcaaGreat
open Go Go.DI

def ir10_k4 : ICode :=
 .seq (
 .block 1 (
 .seq (
 .region [
 ⟨0, some 47, none, .faddr 2 (.tmp 1), []⟩,
 ⟨1, some 48, none, .load false 1 (.tmp 47), []⟩,
 ⟨2, some 49, none, .mov (.tmp 4), []⟩,
 ⟨3, some 50, none, .iaddr 1 (.tmp 48) (.tmp 49), []⟩,
 ⟨4, some 51, none, .load false 1 (.tmp 50), []⟩,
 ⟨5, some 52, none, .mov (.tmp 3), []⟩,
 ⟨6, some 53, none, .call 29 [.tmp 51, .tmp 52], []⟩,
 ⟨7, some 54, none, .un .not (.tmp 53), []⟩,
 ⟨8, some 55, none, .mov (.tmp 54), []⟩,
 ⟨9, some 56, some (55, false), .faddr 2 (.tmp 1), []⟩,
 ⟨10, some 57, some (55, false), .load false 1 (.tmp 56), []⟩,
 ⟨11, some 58, some (55, false), .mov (.tmp 4), []⟩,
 ⟨12, some 59, some (55, false), .iaddr 1 (.tmp 57) (.tmp 58), []⟩,
 ⟨13, some 60, some (55, false), .load false 1 (.tmp 59), []⟩,
 ⟨14, some 61, some (55, false), .mov (.tmp 4), []⟩,
 ⟨15, some 62, some (55, false), .iaddr 3 (.tmp 60) (.tmp 61), []⟩,
 ⟨16, some 63, some (55, false), .load true 3 (.tmp 62), []⟩,
 ⟨17, some 64, some (55, false), .call 30 [.tmp 63], []⟩,
 ⟨18, some 65, some (55, false), .bin .neq .other (.tmp 64) (.const (.int .i64 0)), []⟩,
 ⟨19, some 66, none, .pick (.tmp 55) (.const (.bool true)) (.tmp 65), []⟩]) (
 .cond (.tmp 66) (
 .seq (
 .region [
 ⟨0, some 2, none, .mov (.const (.bool false)), []⟩]) (
 .ret)) (
 .skip)))) (
 .region [
 ⟨0, some 45, none, .mov (.tmp 4), []⟩,
 ⟨1, some 46, none, .bin .add .other (.tmp 45) (.const (.int .i64 1)), []⟩,
 ⟨2, some 4, none, .mov (.tmp 46), []⟩])
def ir10_l0 : ICode :=
 .seq (
 .seq (
 .region [
 ⟨0, some 42, none, .mov (.tmp 4), []⟩,
 ⟨1, some 43, none, .mov (.tmp 3), []⟩,
 ⟨2, some 44, none, .bin .lss .other (.tmp 42) (.tmp 43), []⟩]) (
 .cond (.tmp 44) (
 .skip) (
 .exit 0))) ir10_k4
def ir10_k6 : ICode :=
 .seq (
 .region [
 ⟨0, some 73, none, .mov (.tmp 6), []⟩,
 ⟨1, some 74, none, .bin .neq .other (.tmp 73) (.const (.int .i64 0)), []⟩,
 ⟨2, some 75, none, .mov (.tmp 74), []⟩,
 ⟨3, some 76, some (75, false), .load true 3 (.tmp 5), []⟩,
 ⟨4, some 77, some (75, false), .call 33 [.const (.int .i64 1)], [(.tmp 5, .tmp 5)]⟩,
 ⟨5, some 78, some (75, false), .call 32 [.tmp 76, .tmp 77], []⟩,
 ⟨6, some 79, some (75, false), .un .not (.tmp 78), []⟩,
 ⟨7, some 80, none, .pick (.tmp 75) (.const (.bool true)) (.tmp 79), []⟩]) (
 .cond (.tmp 80) (
 .seq (
 .region [
 ⟨0, some 2, none, .mov (.const (.bool false)), []⟩]) (
 .ret)) (
 .skip))
def ir10_k12 : ICode :=
 .seq (
 .block 7 (
 .region [
 ⟨0, some 114, none, .mov (.tmp 7), []⟩,
 ⟨1, some 115, none, .mov (.tmp 9), []⟩,
 ⟨2, some 116, none, .mov (.tmp 7), []⟩,
 ⟨3, some 117, none, .mov (.tmp 9), []⟩,
 ⟨4, some 118, none, .iaddr 1 (.tmp 116) (.tmp 117), []⟩,
 ⟨5, some 119, none, .load false 1 (.tmp 118), []⟩,
 ⟨6, some 120, none, .mov (.tmp 119), []⟩,
 ⟨7, some 121, some (120, false), .faddr 2 (.tmp 1), []⟩,
 ⟨8, some 122, some (120, false), .load false 1 (.tmp 121), []⟩,
 ⟨9, some 123, some (120, false), .mov (.tmp 9), []⟩,
 ⟨10, some 124, some (120, false), .iaddr 1 (.tmp 122) (.tmp 123), []⟩,
 ⟨11, some 125, some (120, false), .load false 1 (.tmp 124), []⟩,
 ⟨12, some 126, some (120, false), .mov (.tmp 10), []⟩,
 ⟨13, some 127, some (120, false), .iaddr 3 (.tmp 125) (.tmp 126), []⟩,
 ⟨14, some 128, some (120, false), .load true 3 (.tmp 127), []⟩,
 ⟨15, some 129, some (120, false), .call 30 [.tmp 128], []⟩,
 ⟨16, some 130, some (120, false), .bin .gtr .other (.tmp 129) (.const (.int .i64 0)), []⟩,
 ⟨17, some 131, some (120, false), .mov (.tmp 130), []⟩,
 ⟨18, some 132, some (131, true), .mov (.tmp 7), []⟩,
 ⟨19, some 133, some (131, true), .mov (.tmp 10), []⟩,
 ⟨20, some 134, some (131, true), .iaddr 1 (.tmp 132) (.tmp 133), []⟩,
 ⟨21, some 135, some (131, true), .load false 1 (.tmp 134), []⟩,
 ⟨22, some 136, some (120, false), .pick (.tmp 131) (.tmp 135) (.const (.bool false)), []⟩,
 ⟨23, some 137, none, .pick (.tmp 120) (.const (.bool true)) (.tmp 136), []⟩,
 ⟨24, some 138, none, .iaddr 1 (.tmp 114) (.tmp 115), []⟩,
 ⟨25, none, none, .store 1 (.tmp 138) (.tmp 137), []⟩])) (
 .region [
 ⟨0, some 112, none, .mov (.tmp 10), []⟩,
 ⟨1, some 113, none, .bin .add .other (.tmp 112) (.const (.int .i64 1)), []⟩,
 ⟨2, some 10, none, .mov (.tmp 113), []⟩])
def ir10_l1 : ICode :=
 .seq (
 .seq (
 .region [
 ⟨0, some 109, none, .mov (.tmp 10), []⟩,
 ⟨1, some 110, none, .mov (.tmp 3), []⟩,
 ⟨2, some 111, none, .bin .lss .other (.tmp 109) (.tmp 110), []⟩]) (
 .cond (.tmp 111) (
 .skip) (
 .exit 6))) ir10_k12
def ir10_k11 : ICode :=
 .seq (
 .region [
 ⟨0, some 10, none, .mov (.const (.int .i64 0)), []⟩]) (
 .block 6 (
 .loop ir10_l1))
def ir10_k10 : ICode :=
 .seq (
 .block 5 (
 .seq (
 .region [
 ⟨0, some 93, none, .mov (.tmp 7), []⟩,
 ⟨1, some 94, none, .mov (.tmp 9), []⟩,
 ⟨2, some 95, none, .mov (.tmp 7), []⟩,
 ⟨3, some 96, none, .mov (.tmp 9), []⟩,
 ⟨4, some 97, none, .iaddr 1 (.tmp 95) (.tmp 96), []⟩,
 ⟨5, some 98, none, .load false 1 (.tmp 97), []⟩,
 ⟨6, some 99, none, .mov (.tmp 98), []⟩,
 ⟨7, some 100, some (99, false), .faddr 3 (.tmp 1), []⟩,
 ⟨8, some 101, some (99, false), .load false 1 (.tmp 100), []⟩,
 ⟨9, some 102, some (99, false), .mov (.tmp 9), []⟩,
 ⟨10, some 103, some (99, false), .iaddr 3 (.tmp 101) (.tmp 102), []⟩,
 ⟨11, some 104, some (99, false), .load true 3 (.tmp 103), []⟩,
 ⟨12, some 105, some (99, false), .call 30 [.tmp 104], []⟩,
 ⟨13, some 106, some (99, false), .bin .gtr .other (.tmp 105) (.const (.int .i64 0)), []⟩,
 ⟨14, some 107, none, .pick (.tmp 99) (.const (.bool true)) (.tmp 106), []⟩,
 ⟨15, some 108, none, .iaddr 1 (.tmp 93) (.tmp 94), []⟩,
 ⟨16, none, none, .store 1 (.tmp 108) (.tmp 107), []⟩]) ir10_k11)) (
 .region [
 ⟨0, some 91, none, .mov (.tmp 9), []⟩,
 ⟨1, some 92, none, .bin .add .other (.tmp 91) (.const (.int .i64 1)), []⟩,
 ⟨2, some 9, none, .mov (.tmp 92), []⟩])
def ir10_l2 : ICode :=
 .seq (
 .seq (
 .region [
 ⟨0, some 88, none, .mov (.tmp 9), []⟩,
 ⟨1, some 89, none, .mov (.tmp 3), []⟩,
 ⟨2, some 90, none, .bin .lss .other (.tmp 88) (.tmp 89), []⟩]) (
 .cond (.tmp 90) (
 .skip) (
 .exit 4))) ir10_k10
def ir10_k9 : ICode :=
 .seq (
 .block 3 (
 .seq (
 .region [
 ⟨0, some 9, none, .mov (.const (.int .i64 0)), []⟩]) (
 .block 4 (
 .loop ir10_l2)))) (
 .region [
 ⟨0, some 86, none, .mov (.tmp 8), []⟩,
 ⟨1, some 87, none, .bin .add .other (.tmp 86) (.const (.int .i64 1)), []⟩,
 ⟨2, some 8, none, .mov (.tmp 87), []⟩])
def ir10_l3 : ICode :=
 .seq (
 .seq (
 .region [
 ⟨0, some 83, none, .mov (.tmp 8), []⟩,
 ⟨1, some 84, none, .mov (.tmp 3), []⟩,
 ⟨2, some 85, none, .bin .lss .other (.tmp 83) (.tmp 84), []⟩]) (
 .cond (.tmp 85) (
 .skip) (
 .exit 2))) ir10_k9
def ir10_k14 : ICode :=
 .seq (
 .block 9 (
 .seq (
 .region [
 ⟨0, some 144, none, .mov (.tmp 7), []⟩,
 ⟨1, some 145, none, .mov (.tmp 11), []⟩,
 ⟨2, some 146, none, .iaddr 1 (.tmp 144) (.tmp 145), []⟩,
 ⟨3, some 147, none, .load false 1 (.tmp 146), []⟩,
 ⟨4, some 148, none, .un .not (.tmp 147), []⟩]) (
 .cond (.tmp 148) (
 .seq (
 .region [
 ⟨0, some 2, none, .mov (.const (.bool false)), []⟩]) (
 .ret)) (
 .skip)))) (
 .region [
 ⟨0, some 142, none, .mov (.tmp 11), []⟩,
 ⟨1, some 143, none, .bin .add .other (.tmp 142) (.const (.int .i64 1)), []⟩,
 ⟨2, some 11, none, .mov (.tmp 143), []⟩])
def ir10_l4 : ICode :=
 .seq (
 .seq (
 .region [
 ⟨0, some 139, none, .mov (.tmp 11), []⟩,
 ⟨1, some 140, none, .mov (.tmp 3), []⟩,
 ⟨2, some 141, none, .bin .lss .other (.tmp 139) (.tmp 140), []⟩]) (
 .cond (.tmp 141) (
 .skip) (
 .exit 8))) ir10_k14
def ir10_k15 : ICode :=
 .seq (
 .region [
 ⟨0, some 2, none, .mov (.const (.bool true)), []⟩]) (
 .ret)
def ir10_k13 : ICode :=
 .seq (
 .seq (
 .region [
 ⟨0, some 11, none, .mov (.const (.int .i64 0)), []⟩]) (
 .block 8 (
 .loop ir10_l4))) ir10_k15
def ir10_k8 : ICode :=
 .seq (
 .seq (
 .region [
 ⟨0, some 8, none, .mov (.const (.int .i64 0)), []⟩]) (
 .block 2 (
 .loop ir10_l3))) ir10_k13
def ir10_k7 : ICode :=
 .seq (
 .region [
 ⟨0, some 81, none, .mov (.tmp 3), []⟩,
 ⟨1, some 82, none, .mkslice 1 1 [.bool false] (.tmp 81) (.tmp 81), []⟩,
 ⟨2, some 7, none, .mov (.tmp 82), []⟩]) ir10_k8
def ir10_k5 : ICode :=
 .seq (
 .seq (
 .region [
 ⟨0, some 68, none, .faddr 1 (.tmp 1), []⟩,
 ⟨1, some 69, none, .load false 1 (.tmp 68), []⟩,
 ⟨2, some 70, none, .call 31 [.tmp 69], []⟩,
 ⟨3, some 67, none, .mov (.tmp 70), []⟩,
 ⟨4, some 71, none, .ext 0 (.tmp 67), []⟩,
 ⟨5, some 72, none, .ext 1 (.tmp 67), []⟩,
 ⟨6, some 5, none, .alloc [.bool false, .slice none 0 0, .slice none 0 0], []⟩,
 ⟨7, none, none, .store 3 (.tmp 5) (.tmp 71), []⟩,
 ⟨8, some 6, none, .mov (.tmp 72), []⟩]) ir10_k6) ir10_k7
def ir10_k3 : ICode :=
 .seq (
 .seq (
 .region [
 ⟨0, some 4, none, .mov (.const (.int .i64 0)), []⟩]) (
 .block 0 (
 .loop ir10_l0))) ir10_k5
def ir10_k2 : ICode :=
 .seq (
 .seq (
 .region [
 ⟨0, some 15, none, .mov (.tmp 3), []⟩,
 ⟨1, some 16, none, .bin .lss .other (.tmp 15) (.const (.int .i64 1)), []⟩,
 ⟨2, some 17, none, .mov (.tmp 16), []⟩,
 ⟨3, some 18, some (17, false), .mov (.tmp 3), []⟩,
 ⟨4, some 19, some (17, false), .bin .gtr .other (.tmp 18) (.const (.int .i64 4)), []⟩,
 ⟨5, some 20, none, .pick (.tmp 17) (.const (.bool true)) (.tmp 19), []⟩,
 ⟨6, some 21, none, .mov (.tmp 20), []⟩,
 ⟨7, some 22, some (21, false), .faddr 1 (.tmp 1), []⟩,
 ⟨8, some 23, some (21, false), .load false 1 (.tmp 22), []⟩,
 ⟨9, some 24, some (21, false), .mov (.tmp 3), []⟩,
 ⟨10, some 25, some (21, false), .call 29 [.tmp 23, .tmp 24], []⟩,
 ⟨11, some 26, some (21, false), .un .not (.tmp 25), []⟩,
 ⟨12, some 27, none, .pick (.tmp 21) (.const (.bool true)) (.tmp 26), []⟩,
 ⟨13, some 28, none, .mov (.tmp 27), []⟩,
 ⟨14, some 29, some (28, false), .faddr 3 (.tmp 1), []⟩,
 ⟨15, some 30, some (28, false), .load false 1 (.tmp 29), []⟩,
 ⟨16, some 31, some (28, false), .mov (.tmp 3), []⟩,
 ⟨17, some 32, some (28, false), .call 29 [.tmp 30, .tmp 31], []⟩,
 ⟨18, some 33, some (28, false), .un .not (.tmp 32), []⟩,
 ⟨19, some 34, none, .pick (.tmp 28) (.const (.bool true)) (.tmp 33), []⟩,
 ⟨20, some 35, none, .mov (.tmp 34), []⟩,
 ⟨21, some 36, some (35, false), .faddr 2 (.tmp 1), []⟩,
 ⟨22, some 37, some (35, false), .load false 1 (.tmp 36), []⟩,
 ⟨23, some 38, some (35, false), .lenV (.tmp 37), []⟩,
 ⟨24, some 39, some (35, false), .mov (.tmp 3), []⟩,
 ⟨25, some 40, some (35, false), .bin .neq .other (.tmp 38) (.tmp 39), []⟩,
 ⟨26, some 41, none, .pick (.tmp 35) (.const (.bool true)) (.tmp 40), []⟩]) (
 .cond (.tmp 41) (
 .seq (
 .region [
 ⟨0, some 2, none, .mov (.const (.bool false)), []⟩]) (
 .ret)) (
 .skip))) ir10_k3
def ir10_k1 : ICode :=
 .seq (
 .region [
 ⟨0, some 12, none, .faddr 1 (.tmp 1), []⟩,
 ⟨1, some 13, none, .load false 1 (.tmp 12), []⟩,
 ⟨2, some 14, none, .lenV (.tmp 13), []⟩,
 ⟨3, some 3, none, .mov (.tmp 14), []⟩]) ir10_k2
def ir10_b : ICode :=
 .seq (
 .region [
 ⟨0, some 1, none, .box (.tmp 0), []⟩,
 ⟨1, some 2, none, .mov (.const (.bool false)), []⟩]) ir10_k1
def ir10 : IFunc := ⟨149, [.tmp 2], ir10_b⟩
theorem ir10_eq : cFunc Tryz.prog 10 = some ir10 := by kernel_rfl
theorem call10 {args : List Value} {m : Mem} {Φ : Value → Mem → Prop} (h : args.length ≤ 149) : WPCall Tryz.prog 10 args m Φ = WP Tryz.prog ir10_b (initσ args) m (retK [.tmp 2] Φ) := wpCall_def ir10_eq h
def ir29_k3 : ICode :=
 .seq (
 .block 1 (
 .seq (
 .region [
 ⟨0, some 15, none, .mov (.tmp 0), []⟩,
 ⟨1, some 16, none, .mov (.tmp 5), []⟩,
 ⟨2, some 17, none, .iaddr 3 (.tmp 15) (.tmp 16), []⟩,
 ⟨3, some 18, none, .load true 3 (.tmp 17), []⟩,
 ⟨4, some 19, none, .call 53 [.tmp 18], []⟩,
 ⟨5, some 20, none, .un .not (.tmp 19), []⟩]) (
 .cond (.tmp 20) (
 .seq (
 .region [
 ⟨0, some 4, none, .mov (.const (.bool false)), []⟩]) (
 .ret)) (
 .skip)))) (
 .region [
 ⟨0, some 13, none, .mov (.tmp 5), []⟩,
 ⟨1, some 14, none, .bin .add .other (.tmp 13) (.const (.int .i64 1)), []⟩,
 ⟨2, some 5, none, .mov (.tmp 14), []⟩])
def ir29_l0 : ICode :=
 .seq (
 .seq (
 .region [
 ⟨0, some 10, none, .mov (.tmp 5), []⟩,
 ⟨1, some 11, none, .mov (.tmp 1), []⟩,
 ⟨2, some 12, none, .bin .lss .other (.tmp 10) (.tmp 11), []⟩]) (
 .cond (.tmp 12) (
 .skip) (
 .exit 0))) ir29_k3
def ir29_k4 : ICode :=
 .seq (
 .region [
 ⟨0, some 4, none, .mov (.const (.bool true)), []⟩]) (
 .ret)
def ir29_k2 : ICode :=
 .seq (
 .seq (
 .region [
 ⟨0, some 5, none, .mov (.const (.int .i64 0)), []⟩]) (
 .block 0 (
 .loop ir29_l0))) ir29_k4
def ir29_k1 : ICode :=
 .seq (
 .seq (
 .region [
 ⟨0, some 6, none, .mov (.tmp 0), []⟩,
 ⟨1, some 7, none, .lenV (.tmp 6), []⟩,
 ⟨2, some 8, none, .mov (.tmp 1), []⟩,
 ⟨3, some 9, none, .bin .neq .other (.tmp 7) (.tmp 8), []⟩]) (
 .cond (.tmp 9) (
 .seq (
 .region [
 ⟨0, some 4, none, .mov (.const (.bool false)), []⟩]) (
 .ret)) (
 .skip))) ir29_k2
def ir29_b : ICode :=
 .seq (
 .region [
 ⟨0, some 4, none, .mov (.const (.bool false)), []⟩]) ir29_k1
def ir29 : IFunc := ⟨21, [.tmp 4], ir29_b⟩
theorem ir29_eq : cFunc Tryz.prog 29 = some ir29 := by kernel_rfl
theorem call29 {args : List Value} {m : Mem} {Φ : Value → Mem → Prop} (h : args.length ≤ 21) : WPCall Tryz.prog 29 args m Φ = WP Tryz.prog ir29_b (initσ args) m (retK [.tmp 4] Φ) := wpCall_def ir29_eq h
def ir47_k1 : ICode :=
 .seq (
 .region [
 ⟨0, some 7, none, .mov (.tmp 0), []⟩,
 ⟨1, some 8, none, .mov (.tmp 1), []⟩,
 ⟨2, some 9, none, .bin .geq .other (.tmp 7) (.tmp 8), []⟩,
 ⟨3, some 10, none, .mov (.tmp 9), []⟩,
 ⟨4, some 11, some (10, true), .mov (.tmp 0), []⟩,
 ⟨5, some 12, some (10, true), .mov (.tmp 2), []⟩,
 ⟨6, some 13, some (10, true), .bin .leq .other (.tmp 11) (.tmp 12), []⟩,
 ⟨7, some 14, none, .pick (.tmp 10) (.tmp 13) (.const (.bool false)), []⟩,
 ⟨8, some 6, none, .mov (.tmp 14), []⟩]) (
 .ret)
def ir47_b : ICode :=
 .seq (
 .region [
 ⟨0, some 6, none, .mov (.const (.bool false)), []⟩]) ir47_k1
def ir47 : IFunc := ⟨15, [.tmp 6], ir47_b⟩
theorem ir47_eq : cFunc Tryz.prog 47 = some ir47 := by kernel_rfl
theorem call47 {args : List Value} {m : Mem} {Φ : Value → Mem → Prop} (h : args.length ≤ 15) : WPCall Tryz.prog 47 args m Φ = WP Tryz.prog ir47_b (initσ args) m (retK [.tmp 6] Φ) := wpCall_def ir47_eq h
def ir53_k2 : ICode :=
 .seq (
 .region [
 ⟨0, some 10, none, .mov (.tmp 4), []⟩,
 ⟨1, some 11, none, .bin .eql .other (.tmp 10) (.const (.int .i64 0)), []⟩,
 ⟨2, some 12, none, .mov (.tmp 11), []⟩,
 ⟨3, some 13, some (12, true), .faddr 0 (.tmp 3), []⟩,
 ⟨4, some 14, some (12, true), .load false 1 (.tmp 13), []⟩,
 ⟨5, some 15, some (12, true), .un .not (.tmp 14), []⟩,
 ⟨6, some 16, none, .pick (.tmp 12) (.tmp 15) (.const (.bool false)), []⟩,
 ⟨7, some 17, none, .mov (.tmp 16), []⟩,
 ⟨8, some 18, some (17, true), .faddr 1 (.tmp 3), []⟩,
 ⟨9, some 19, some (17, true), .load false 1 (.tmp 18), []⟩,
 ⟨10, some 20, some (17, true), .lenV (.tmp 19), []⟩,
 ⟨11, some 21, some (17, true), .bin .leq .other (.tmp 20) (.const (.int .i64 1)), []⟩,
 ⟨12, some 22, none, .pick (.tmp 17) (.tmp 21) (.const (.bool false)), []⟩,
 ⟨13, some 23, none, .mov (.tmp 22), []⟩,
 ⟨14, some 24, some (23, true), .faddr 2 (.tmp 3), []⟩,
 ⟨15, some 25, some (23, true), .load false 1 (.tmp 24), []⟩,
 ⟨16, some 26, some (23, true), .lenV (.tmp 25), []⟩,
 ⟨17, some 27, some (23, true), .bin .leq .other (.tmp 26) (.const (.int .i64 1)), []⟩,
 ⟨18, some 28, none, .pick (.tmp 23) (.tmp 27) (.const (.bool false)), []⟩,
 ⟨19, some 2, none, .mov (.tmp 28), []⟩]) (
 .ret)
def ir53_k1 : ICode :=
 .seq (
 .region [
 ⟨0, some 6, none, .load true 3 (.tmp 1), []⟩,
 ⟨1, some 7, none, .call 55 [.tmp 6], []⟩,
 ⟨2, some 5, none, .mov (.tmp 7), []⟩,
 ⟨3, some 8, none, .ext 0 (.tmp 5), []⟩,
 ⟨4, some 9, none, .ext 1 (.tmp 5), []⟩,
 ⟨5, some 3, none, .alloc [.bool false, .slice none 0 0, .slice none 0 0], []⟩,
 ⟨6, none, none, .store 3 (.tmp 3) (.tmp 8), []⟩,
 ⟨7, some 4, none, .mov (.tmp 9), []⟩]) ir53_k2
def ir53_b : ICode :=
 .seq (
 .region [
 ⟨0, some 1, none, .box (.tmp 0), []⟩,
 ⟨1, some 2, none, .mov (.const (.bool false)), []⟩]) ir53_k1
def ir53 : IFunc := ⟨29, [.tmp 2], ir53_b⟩
theorem ir53_eq : cFunc Tryz.prog 53 = some ir53 := by kernel_rfl
theorem call53 {args : List Value} {m : Mem} {Φ : Value → Mem → Prop} (h : args.length ≤ 29) : WPCall Tryz.prog 53 args m Φ = WP Tryz.prog ir53_b (initσ args) m (retK [.tmp 2] Φ) := wpCall_def ir53_eq h
end Go.Proofs.YtkpifdkccdndcaaGreat
