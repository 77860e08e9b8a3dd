/-
 The intermediate forms of this seat's functions, written by a program of ours (wip/Ir.lean); each is checked against the loaded program.
-/
import Derived.Test.YtkpifdkccdndcaaGreatRows
import Derived.Test.YtkpifdkccdndcaaGreatFwWY
namespace Go.Proofs.YtkpifdkccdndcaaGreat
open Go Go.DI

def ir9_k6 : ICode :=
 .seq (
 .region [
 ⟨0, some 52, none, .mov (.tmp 5), []⟩,
 ⟨1, some 53, none, .lenV (.tmp 52), []⟩,
 ⟨2, some 54, none, .mov (.tmp 3), []⟩,
 ⟨3, some 55, none, .bin .neq .other (.tmp 53) (.tmp 54), []⟩,
 ⟨4, some 56, none, .mov (.tmp 55), []⟩,
 ⟨5, some 57, some (56, false), .mov (.tmp 5), []⟩,
 ⟨6, some 58, some (56, false), .call 22 [.tmp 57, .func 23], []⟩,
 ⟨7, some 59, some (56, false), .un .not (.tmp 58), []⟩,
 ⟨8, some 60, none, .pick (.tmp 56) (.const (.bool true)) (.tmp 59), []⟩,
 ⟨9, some 61, none, .mov (.tmp 60), []⟩,
 ⟨10, some 62, some (61, false), .mov (.tmp 5), []⟩,
 ⟨11, some 63, some (61, false), .mov (.tmp 4), []⟩,
 ⟨12, some 64, some (61, false), .iaddr 3 (.tmp 62) (.tmp 63), []⟩,
 ⟨13, some 65, some (61, false), .load true 3 (.tmp 64), []⟩,
 ⟨14, some 66, some (61, false), .call 24 [.tmp 65], []⟩,
 ⟨15, some 67, none, .pick (.tmp 61) (.const (.bool true)) (.tmp 66), []⟩]) (
 .cond (.tmp 67) (
 .seq (
 .region [
 ⟨0, some 2, none, .mov (.const (.bool false)), []⟩]) (
 .ret)) (
 .skip))
def ir9_k5 : ICode :=
 .seq (
 .block 1 (
 .seq (
 .region [
 ⟨0, some 49, none, .mov (.tmp 47), []⟩,
 ⟨1, some 50, none, .iaddr 1 (.tmp 45) (.tmp 47), []⟩,
 ⟨2, some 51, none, .load false 1 (.tmp 50), []⟩,
 ⟨3, some 4, none, .mov (.tmp 49), []⟩,
 ⟨4, some 5, none, .mov (.tmp 51), []⟩]) ir9_k6)) (
 .region [
 ⟨0, some 68, none, .bin .add .other (.tmp 47) (.const (.int .i64 1)), []⟩,
 ⟨1, some 47, none, .mov (.tmp 68), []⟩])
def ir9_k4 : ICode :=
 .seq (
 .cond (.tmp 48) (
 .skip) (
 .exit 0)) ir9_k5
def ir9_l0 : ICode :=
 .seq (
 .region [
 ⟨0, some 48, none, .bin .lss .other (.tmp 47) (.tmp 46), []⟩]) ir9_k4
def ir9_k10 : ICode :=
 .seq (
 .region [
 ⟨0, some 85, none, .mov (.tmp 7), []⟩,
 ⟨1, some 86, none, .bin .eql .other (.tmp 85) (.const (.int .i64 0)), []⟩,
 ⟨2, some 87, none, .mov (.tmp 86), []⟩,
 ⟨3, some 88, some (87, true), .mov (.tmp 10), []⟩,
 ⟨4, some 89, some (87, true), .bin .eql .other (.tmp 88) (.const (.int .i64 0)), []⟩,
 ⟨5, some 90, none, .pick (.tmp 87) (.tmp 89) (.const (.bool false)), []⟩,
 ⟨6, some 91, none, .mov (.tmp 90), []⟩,
 ⟨7, some 92, some (91, true), .load true 4 (.tmp 1), []⟩,
 ⟨8, some 93, some (91, true), .call 28 [.tmp 92], []⟩,
 ⟨9, some 94, none, .pick (.tmp 91) (.tmp 93) (.const (.bool false)), []⟩,
 ⟨10, some 2, none, .mov (.tmp 94), []⟩]) (
 .ret)
def ir9_k9 : ICode :=
 .seq (
 .region [
 ⟨0, some 80, none, .load true 3 (.tmp 6), []⟩,
 ⟨1, some 81, none, .load true 3 (.tmp 8), []⟩,
 ⟨2, some 82, none, .call 27 [.tmp 80, .tmp 81], []⟩,
 ⟨3, some 79, none, .mov (.tmp 82), []⟩,
 ⟨4, some 83, none, .ext 0 (.tmp 79), []⟩,
 ⟨5, some 84, none, .ext 1 (.tmp 79), []⟩,
 ⟨6, some 10, none, .mov (.tmp 83), []⟩,
 ⟨7, some 11, none, .mov (.tmp 84), []⟩]) ir9_k10
def ir9_k8 : ICode :=
 .seq (
 .region [
 ⟨0, some 76, none, .call 26 [.const (.int .i64 1), .const (.int .i64 1)], []⟩,
 ⟨1, some 75, none, .mov (.tmp 76), []⟩,
 ⟨2, some 77, none, .ext 0 (.tmp 75), []⟩,
 ⟨3, some 78, none, .ext 1 (.tmp 75), []⟩,
 ⟨4, some 8, none, .alloc [.bool false, .slice none 0 0, .slice none 0 0], []⟩,
 ⟨5, none, none, .store 3 (.tmp 8) (.tmp 77), []⟩,
 ⟨6, some 9, none, .mov (.tmp 78), []⟩]) ir9_k9
def ir9_k7 : ICode :=
 .seq (
 .region [
 ⟨0, some 70, none, .faddr 1 (.tmp 1), []⟩,
 ⟨1, some 71, none, .load false 1 (.tmp 70), []⟩,
 ⟨2, some 72, none, .call 25 [.tmp 71], []⟩,
 ⟨3, some 69, none, .mov (.tmp 72), []⟩,
 ⟨4, some 73, none, .ext 0 (.tmp 69), []⟩,
 ⟨5, some 74, none, .ext 1 (.tmp 69), []⟩,
 ⟨6, some 6, none, .alloc [.bool false, .slice none 0 0, .slice none 0 0], []⟩,
 ⟨7, none, none, .store 3 (.tmp 6) (.tmp 73), []⟩,
 ⟨8, some 7, none, .mov (.tmp 74), []⟩]) ir9_k8
def ir9_k3 : ICode :=
 .seq (
 .seq (
 .region [
 ⟨0, some 44, none, .faddr 2 (.tmp 1), []⟩,
 ⟨1, some 45, none, .load false 1 (.tmp 44), []⟩,
 ⟨2, some 46, none, .lenV (.tmp 45), []⟩,
 ⟨3, some 47, none, .mov (.const (.int .i64 0)), []⟩]) (
 .block 0 (
 .loop ir9_l0))) ir9_k7
def ir9_k2 : ICode :=
 .seq (
 .seq (
 .region [
 ⟨0, some 15, none, .mov (.tmp 3), []⟩,
 ⟨1, some 16, none, .call 21 [.tmp 15, .const (.int .i64 1), .const (.int .i64 4)], []⟩,
 ⟨2, some 17, none, .un .not (.tmp 16), []⟩,
 ⟨3, some 18, none, .mov (.tmp 17), []⟩,
 ⟨4, some 19, some (18, false), .faddr 3 (.tmp 1), []⟩,
 ⟨5, some 20, some (18, false), .load false 1 (.tmp 19), []⟩,
 ⟨6, some 21, some (18, false), .lenV (.tmp 20), []⟩,
 ⟨7, some 22, some (18, false), .mov (.tmp 3), []⟩,
 ⟨8, some 23, some (18, false), .bin .neq .other (.tmp 21) (.tmp 22), []⟩,
 ⟨9, some 24, none, .pick (.tmp 18) (.const (.bool true)) (.tmp 23), []⟩,
 ⟨10, some 25, none, .mov (.tmp 24), []⟩,
 ⟨11, some 26, some (25, false), .faddr 2 (.tmp 1), []⟩,
 ⟨12, some 27, some (25, false), .load false 1 (.tmp 26), []⟩,
 ⟨13, some 28, some (25, false), .lenV (.tmp 27), []⟩,
 ⟨14, some 29, some (25, false), .mov (.tmp 3), []⟩,
 ⟨15, some 30, some (25, false), .bin .neq .other (.tmp 28) (.tmp 29), []⟩,
 ⟨16, some 31, none, .pick (.tmp 25) (.const (.bool true)) (.tmp 30), []⟩,
 ⟨17, some 32, none, .mov (.tmp 31), []⟩,
 ⟨18, some 33, some (32, false), .faddr 1 (.tmp 1), []⟩,
 ⟨19, some 34, some (32, false), .load false 1 (.tmp 33), []⟩,
 ⟨20, some 35, some (32, false), .call 22 [.tmp 34, .func 23], []⟩,
 ⟨21, some 36, some (32, false), .un .not (.tmp 35), []⟩,
 ⟨22, some 37, none, .pick (.tmp 32) (.const (.bool true)) (.tmp 36), []⟩,
 ⟨23, some 38, none, .mov (.tmp 37), []⟩,
 ⟨24, some 39, some (38, false), .faddr 3 (.tmp 1), []⟩,
 ⟨25, some 40, some (38, false), .load false 1 (.tmp 39), []⟩,
 ⟨26, some 41, some (38, false), .call 22 [.tmp 40, .func 23], []⟩,
 ⟨27, some 42, some (38, false), .un .not (.tmp 41), []⟩,
 ⟨28, some 43, none, .pick (.tmp 38) (.const (.bool true)) (.tmp 42), []⟩]) (
 .cond (.tmp 43) (
 .seq (
 .region [
 ⟨0, some 2, none, .mov (.const (.bool false)), []⟩]) (
 .ret)) (
 .skip))) ir9_k3
def ir9_k1 : ICode :=
 .seq (
 .region [
 ⟨0, some 12, none, .faddr 1 (.tmp 1), []⟩,
 ⟨1, some 13, none, .load false 1 (.tmp 12), []⟩,
 ⟨2, some 14, none, .lenV (.tmp 13), []⟩,
 ⟨3, some 3, none, .mov (.tmp 14), []⟩]) ir9_k2
def ir9_b : ICode :=
 .seq (
 .region [
 ⟨0, some 1, none, .box (.tmp 0), []⟩,
 ⟨1, some 2, none, .mov (.const (.bool false)), []⟩]) ir9_k1
def ir9 : IFunc := ⟨95, [.tmp 2], ir9_b⟩
theorem ir9_eq : cFunc Tryz.prog 9 = some ir9 := by kernel_rfl
theorem call9 {args : List Value} {m : Mem} {Φ : Value → Mem → Prop} (h : args.length ≤ 95) : WPCall Tryz.prog 9 args m Φ = WP Tryz.prog ir9_b (initσ args) m (retK [.tmp 2] Φ) := wpCall_def ir9_eq h
def ir11_k8 : ICode :=
 .seq (
 .region [
 ⟨0, some 63, none, .mov (.tmp 5), []⟩,
 ⟨1, some 64, none, .faddr 4 (.tmp 1), []⟩,
 ⟨2, some 65, none, .load false 1 (.tmp 64), []⟩,
 ⟨3, some 66, none, .mov (.tmp 5), []⟩,
 ⟨4, some 67, none, .mkfunc (.func 44) [.tmp 66] [], []⟩,
 ⟨5, some 68, none, .call 43 [.tmp 63, .tmp 65, .tmp 67], []⟩]) (
 .region [
 ⟨0, some 69, none, .mov (.tmp 5), []⟩,
 ⟨1, some 70, none, .faddr 5 (.tmp 1), []⟩,
 ⟨2, some 71, none, .load false 1 (.tmp 70), []⟩,
 ⟨3, some 72, none, .mov (.tmp 5), []⟩,
 ⟨4, some 73, none, .mkfunc (.func 46) [.tmp 72] [], []⟩,
 ⟨5, some 74, none, .call 45 [.tmp 69, .tmp 71, .tmp 73], []⟩])
def ir11_k7 : ICode :=
 .seq (
 .region [
 ⟨0, some 57, none, .mov (.tmp 5), []⟩,
 ⟨1, some 58, none, .faddr 3 (.tmp 1), []⟩,
 ⟨2, some 59, none, .load false 1 (.tmp 58), []⟩,
 ⟨3, some 60, none, .mov (.tmp 5), []⟩,
 ⟨4, some 61, none, .mkfunc (.func 42) [.tmp 60] [], []⟩,
 ⟨5, some 62, none, .call 41 [.tmp 57, .tmp 59, .tmp 61], []⟩]) ir11_k8
def ir11_k6 : ICode :=
 .seq (
 .region [
 ⟨0, some 51, none, .mov (.tmp 5), []⟩,
 ⟨1, some 52, none, .faddr 2 (.tmp 1), []⟩,
 ⟨2, some 53, none, .load false 1 (.tmp 52), []⟩,
 ⟨3, some 54, none, .mov (.tmp 5), []⟩,
 ⟨4, some 55, none, .mkfunc (.func 40) [.tmp 54] [], []⟩,
 ⟨5, some 56, none, .call 39 [.tmp 51, .tmp 53, .tmp 55], []⟩]) ir11_k7
def ir11_k10 : ICode :=
 .seq (
 .region [
 ⟨0, some 89, none, .mov (.tmp 5), []⟩,
 ⟨1, some 90, none, .nilck (.tmp 89), []⟩,
 ⟨2, some 91, none, .faddr 0 (.tmp 90), []⟩,
 ⟨3, some 92, none, .load true 7 (.tmp 91), []⟩,
 ⟨4, some 93, none, .build [.int .i64 0, .int .i64 0] [], []⟩,
 ⟨5, none, none, .store 7 (.tmp 2) (.tmp 92), []⟩,
 ⟨6, some 3, none, .mov (.const (.int .i64 0)), []⟩,
 ⟨7, none, none, .store 2 (.tmp 4) (.tmp 93), []⟩]) (
 .ret)
def ir11_k9 : ICode :=
 .seq (
 .seq (
 .region [
 ⟨0, some 75, none, .mov (.tmp 5), []⟩,
 ⟨1, some 76, none, .nilck (.tmp 75), []⟩,
 ⟨2, some 77, none, .faddr 17 (.tmp 76), []⟩,
 ⟨3, some 78, none, .load false 1 (.tmp 77), []⟩,
 ⟨4, some 79, none, .bin .neq .other (.tmp 78) (.const (.int .i64 0)), []⟩]) (
 .cond (.tmp 79) (
 .seq (
 .region [
 ⟨0, some 80, none, .build [.int .i64 0, .slice none 0 0, .slice none 0 0, .slice none 0 0, .slice none 0 0, .slice none 0 0, .slice none 0 0] [], []⟩,
 ⟨1, some 81, none, .mov (.tmp 5), []⟩,
 ⟨2, some 82, none, .nilck (.tmp 81), []⟩,
 ⟨3, some 83, none, .faddr 17 (.tmp 82), []⟩,
 ⟨4, some 84, none, .load false 1 (.tmp 83), []⟩,
 ⟨5, some 85, none, .mov (.tmp 5), []⟩,
 ⟨6, some 86, none, .nilck (.tmp 85), []⟩,
 ⟨7, some 87, none, .faddr 18 (.tmp 86), []⟩,
 ⟨8, some 88, none, .load true 2 (.tmp 87), []⟩,
 ⟨9, none, none, .store 7 (.tmp 2) (.tmp 80), [(.tmp 87, .tmp 2), (.tmp 83, .tmp 2)]⟩,
 ⟨10, some 3, none, .mov (.tmp 84), []⟩,
 ⟨11, none, none, .store 2 (.tmp 4) (.tmp 88), []⟩]) (
 .ret)) (
 .skip))) ir11_k10
def ir11_k5 : ICode :=
 .seq (
 .seq (
 .region [
 ⟨0, some 32, none, .mov (.tmp 5), []⟩,
 ⟨1, some 33, none, .faddr 0 (.tmp 1), []⟩,
 ⟨2, some 34, none, .load false 1 (.tmp 33), []⟩,
 ⟨3, some 35, none, .call 21 [.tmp 34, .const (.int .i64 1), .const (.int .i64 4)], []⟩,
 ⟨4, some 36, none, .build [.int .i64 0, .int .i64 0] [], []⟩,
 ⟨5, some 37, none, .call 35 [.tmp 32, .tmp 35, .const (.int .i64 5), .tmp 36], []⟩,
 ⟨6, some 38, none, .mov (.tmp 37), []⟩,
 ⟨7, some 39, some (38, true), .mov (.tmp 5), []⟩,
 ⟨8, some 40, some (38, true), .load true 6 (.tmp 1), []⟩,
 ⟨9, some 41, some (38, true), .call 36 [.tmp 40], []⟩,
 ⟨10, some 42, some (38, true), .build [.int .i64 0, .int .i64 0] [], []⟩,
 ⟨11, some 43, some (38, true), .call 35 [.tmp 39, .tmp 41, .const (.int .i64 2), .tmp 42], []⟩,
 ⟨12, some 44, none, .pick (.tmp 38) (.tmp 43) (.const (.bool false)), []⟩]) (
 .cond (.tmp 44) (
 .seq (
 .region [
 ⟨0, some 45, none, .mov (.tmp 5), []⟩,
 ⟨1, some 46, none, .faddr 1 (.tmp 1), []⟩,
 ⟨2, some 47, none, .load false 1 (.tmp 46), []⟩,
 ⟨3, some 48, none, .mov (.tmp 5), []⟩,
 ⟨4, some 49, none, .mkfunc (.func 38) [.tmp 48] [], []⟩,
 ⟨5, some 50, none, .call 37 [.tmp 45, .tmp 47, .tmp 49], []⟩]) ir11_k6) (
 .skip))) ir11_k9
def ir11_k4 : ICode :=
 .seq (
 .region [
 ⟨0, some 23, none, .mov (.tmp 5), []⟩,
 ⟨1, some 24, none, .call 34 [.const (.int .u64 0)], []⟩,
 ⟨2, some 25, none, .call 34 [.const (.int .u64 1)], []⟩,
 ⟨3, some 26, none, .build [.bool false, .slice none 0 0, .slice none 0 0] [(1, 1, .tmp 24), (2, 1, .tmp 25)], []⟩,
 ⟨4, some 27, none, .build [.string ⟨#[]⟩, .int .i64 0, .int .i64 0, .int .i64 0, .bool false, .slice none 0 0, .slice none 0 0] [(2, 1, .const (.int .i64 (-1))), (4, 3, .tmp 26)], []⟩,
 ⟨5, some 28, none, .bslice 7 1 [.string ⟨#[]⟩, .int .i64 0, .int .i64 0, .int .i64 0, .bool false, .slice none 0 0, .slice none 0 0] [(0, 7, .tmp 27)], []⟩,
 ⟨6, some 29, none, .nilck (.tmp 23), []⟩,
 ⟨7, some 30, none, .faddr 0 (.tmp 29), []⟩,
 ⟨8, some 31, none, .faddr 3 (.tmp 30), []⟩,
 ⟨9, none, none, .store 1 (.tmp 31) (.tmp 28), []⟩]) ir11_k5
def ir11_k3 : ICode :=
 .seq (
 .region [
 ⟨0, some 17, none, .mov (.tmp 5), []⟩,
 ⟨1, some 18, none, .faddr 0 (.tmp 1), []⟩,
 ⟨2, some 19, none, .load false 1 (.tmp 18), []⟩,
 ⟨3, some 20, none, .nilck (.tmp 17), []⟩,
 ⟨4, some 21, none, .faddr 0 (.tmp 20), []⟩,
 ⟨5, some 22, none, .faddr 0 (.tmp 21), []⟩,
 ⟨6, none, none, .store 1 (.tmp 22) (.tmp 19), []⟩]) ir11_k4
def ir11_k2 : ICode :=
 .seq (
 .region [
 ⟨0, some 13, none, .mov (.tmp 5), []⟩,
 ⟨1, some 14, none, .build [.int .i64 0, .int .i64 0, .int .i64 0, .int .i64 0, .int .i64 0] [(0, 1, .const (.int .i64 0)), (1, 1, .const (.int .i64 (-1))), (2, 1, .const (.int .i64 (-1))), (3, 1, .const (.int .i64 (-1))), (4, 1, .const (.int .i64 (-1)))], []⟩,
 ⟨2, some 15, none, .nilck (.tmp 13), []⟩,
 ⟨3, some 16, none, .faddr 12 (.tmp 15), []⟩,
 ⟨4, none, none, .store 5 (.tmp 16) (.tmp 14), []⟩]) ir11_k3
def ir11_k1 : ICode :=
 .seq (
 .region [
 ⟨0, some 6, none, .mkmap, []⟩,
 ⟨1, some 7, none, .mkmap, []⟩,
 ⟨2, some 8, none, .mkmap, []⟩,
 ⟨3, some 9, none, .mkmap, []⟩,
 ⟨4, some 10, none, .mkmap, []⟩,
 ⟨5, some 11, none, .build [.int .i64 0, .slice none 0 0, .slice none 0 0, .slice none 0 0, .slice none 0 0, .slice none 0 0, .slice none 0 0, .map none, .map none, .map none, .map none, .map none, .int .i64 0, .int .i64 0, .int .i64 0, .int .i64 0, .int .i64 0, .int .i64 0, .int .i64 0, .int .i64 0] [(7, 1, .tmp 6), (8, 1, .tmp 7), (9, 1, .tmp 8), (10, 1, .tmp 9), (11, 1, .tmp 10)], []⟩,
 ⟨6, some 12, none, .box (.tmp 11), []⟩,
 ⟨7, some 5, none, .mov (.tmp 12), []⟩]) ir11_k2
def ir11_b : ICode :=
 .seq (
 .region [
 ⟨0, some 1, none, .box (.tmp 0), []⟩,
 ⟨1, some 2, none, .alloc [.int .i64 0, .slice none 0 0, .slice none 0 0, .slice none 0 0, .slice none 0 0, .slice none 0 0, .slice none 0 0], []⟩,
 ⟨2, some 3, none, .mov (.const (.int .i64 0)), []⟩,
 ⟨3, some 4, none, .alloc [.int .i64 0, .int .i64 0], []⟩]) ir11_k1
def ir11 : IFunc := ⟨94, [.cell 2 true 7, .tmp 3, .cell 4 true 2], ir11_b⟩
theorem ir11_eq : cFunc Tryz.prog 11 = some ir11 := by kernel_rfl
theorem call11 {args : List Value} {m : Mem} {Φ : Value → Mem → Prop} (h : args.length ≤ 94) : WPCall Tryz.prog 11 args m Φ = WP Tryz.prog ir11_b (initσ args) m (retK [.cell 2 true 7, .tmp 3, .cell 4 true 2] Φ) := wpCall_def ir11_eq h
def ir14_k7 : ICode :=
 .seq (
 .region [
 ⟨0, some 73, none, .mov (.tmp 3), []⟩,
 ⟨1, some 74, none, .faddr 0 (.tmp 10), []⟩,
 ⟨2, some 75, none, .load false 1 (.tmp 74), []⟩,
 ⟨3, some 76, none, .bslice 1 1 [.string ⟨#[]⟩] [(0, 1, .tmp 75)], []⟩,
 ⟨4, some 77, none, .app 1 16 (.tmp 73) (.tmp 76), []⟩,
 ⟨5, some 3, none, .mov (.tmp 77), []⟩]) (
 .region [
 ⟨0, some 78, none, .mov (.tmp 8), []⟩,
 ⟨1, some 79, none, .mov (.tmp 78), []⟩,
 ⟨2, some 80, some (79, true), .load true 4 (.tmp 10), []⟩,
 ⟨3, some 81, some (79, true), .call 9 [.tmp 80], []⟩,
 ⟨4, some 82, none, .pick (.tmp 79) (.tmp 81) (.const (.bool false)), []⟩,
 ⟨5, some 8, none, .mov (.tmp 82), []⟩])
def ir14_k6 : ICode :=
 .seq (
 .block 1 (
 .seq (
 .region [
 ⟨0, some 71, none, .iaddr 4 (.tmp 67) (.tmp 69), []⟩,
 ⟨1, some 72, none, .load true 4 (.tmp 71), []⟩,
 ⟨2, some 10, none, .alloc [.string ⟨#[]⟩, .slice none 0 0, .slice none 0 0, .slice none 0 0], []⟩,
 ⟨3, none, none, .store 4 (.tmp 10) (.tmp 72), []⟩]) ir14_k7)) (
 .region [
 ⟨0, some 83, none, .bin .add .other (.tmp 69) (.const (.int .i64 1)), []⟩,
 ⟨1, some 69, none, .mov (.tmp 83), []⟩])
def ir14_k5 : ICode :=
 .seq (
 .cond (.tmp 70) (
 .skip) (
 .exit 0)) ir14_k6
def ir14_l0 : ICode :=
 .seq (
 .region [
 ⟨0, some 70, none, .bin .lss .other (.tmp 69) (.tmp 68), []⟩]) ir14_k5
def ir14_k11 : ICode :=
 .seq (
 .region [
 ⟨0, some 91, none, .mov (.tmp 4), []⟩,
 ⟨1, some 92, none, .faddr 0 (.tmp 12), []⟩,
 ⟨2, some 93, none, .load false 1 (.tmp 92), []⟩,
 ⟨3, some 94, none, .bslice 1 1 [.string ⟨#[]⟩] [(0, 1, .tmp 93)], []⟩,
 ⟨4, some 95, none, .app 1 16 (.tmp 91) (.tmp 94), []⟩,
 ⟨5, some 4, none, .mov (.tmp 95), []⟩]) (
 .region [
 ⟨0, some 96, none, .mov (.tmp 8), []⟩,
 ⟨1, some 97, none, .mov (.tmp 96), []⟩,
 ⟨2, some 98, some (97, true), .faddr 1 (.tmp 12), []⟩,
 ⟨3, some 99, some (97, true), .load false 1 (.tmp 98), []⟩,
 ⟨4, some 100, some (97, true), .call 21 [.tmp 99, .const (.int .i64 1), .const (.int .i64 16)], []⟩,
 ⟨5, some 101, none, .pick (.tmp 97) (.tmp 100) (.const (.bool false)), []⟩,
 ⟨6, some 102, none, .mov (.tmp 101), []⟩,
 ⟨7, some 103, some (102, true), .faddr 2 (.tmp 12), []⟩,
 ⟨8, some 104, some (102, true), .load false 1 (.tmp 103), []⟩,
 ⟨9, some 105, some (102, true), .call 21 [.tmp 104, .const (.int .i64 1), .const (.int .i64 64)], []⟩,
 ⟨10, some 106, none, .pick (.tmp 102) (.tmp 105) (.const (.bool false)), []⟩,
 ⟨11, some 107, none, .mov (.tmp 106), []⟩,
 ⟨12, some 108, some (107, true), .faddr 3 (.tmp 12), []⟩,
 ⟨13, some 109, some (107, true), .load false 1 (.tmp 108), []⟩,
 ⟨14, some 110, some (107, true), .faddr 1 (.tmp 1), []⟩,
 ⟨15, some 111, some (107, true), .load false 1 (.tmp 110), []⟩,
 ⟨16, some 112, some (107, true), .lenV (.tmp 111), []⟩,
 ⟨17, some 113, some (107, true), .bin .sub .other (.tmp 112) (.const (.int .i64 1)), []⟩,
 ⟨18, some 114, some (107, true), .call 21 [.tmp 109, .const (.int .i64 0), .tmp 113], []⟩,
 ⟨19, some 115, none, .pick (.tmp 107) (.tmp 114) (.const (.bool false)), []⟩,
 ⟨20, some 8, none, .mov (.tmp 115), []⟩])
def ir14_k10 : ICode :=
 .seq (
 .block 3 (
 .seq (
 .region [
 ⟨0, some 89, none, .iaddr 4 (.tmp 85) (.tmp 87), []⟩,
 ⟨1, some 90, none, .load true 4 (.tmp 89), []⟩,
 ⟨2, some 12, none, .alloc [.string ⟨#[]⟩, .int .i64 0, .int .i64 0, .int .i64 0], []⟩,
 ⟨3, none, none, .store 4 (.tmp 12) (.tmp 90), []⟩]) ir14_k11)) (
 .region [
 ⟨0, some 116, none, .bin .add .other (.tmp 87) (.const (.int .i64 1)), []⟩,
 ⟨1, some 87, none, .mov (.tmp 116), []⟩])
def ir14_k9 : ICode :=
 .seq (
 .cond (.tmp 88) (
 .skip) (
 .exit 2)) ir14_k10
def ir14_l1 : ICode :=
 .seq (
 .region [
 ⟨0, some 88, none, .bin .lss .other (.tmp 87) (.tmp 86), []⟩]) ir14_k9
def ir14_k14 : ICode :=
 .seq (
 .block 5 (
 .seq (
 .region [
 ⟨0, some 123, none, .iaddr 7 (.tmp 119) (.tmp 121), []⟩,
 ⟨1, some 124, none, .load true 7 (.tmp 123), []⟩,
 ⟨2, some 14, none, .alloc [.string ⟨#[]⟩, .int .i64 0, .int .i64 0, .int .i64 0, .bool false, .slice none 0 0, .slice none 0 0], []⟩,
 ⟨3, none, none, .store 7 (.tmp 14) (.tmp 124), []⟩]) (
 .region [
 ⟨0, some 125, none, .mov (.tmp 5), []⟩,
 ⟨1, some 126, none, .faddr 0 (.tmp 14), []⟩,
 ⟨2, some 127, none, .load false 1 (.tmp 126), []⟩,
 ⟨3, some 128, none, .bslice 1 1 [.string ⟨#[]⟩] [(0, 1, .tmp 127)], []⟩,
 ⟨4, some 129, none, .app 1 16 (.tmp 125) (.tmp 128), []⟩,
 ⟨5, some 5, none, .mov (.tmp 129), []⟩]))) (
 .region [
 ⟨0, some 130, none, .bin .add .other (.tmp 121) (.const (.int .i64 1)), []⟩,
 ⟨1, some 121, none, .mov (.tmp 130), []⟩])
def ir14_k13 : ICode :=
 .seq (
 .cond (.tmp 122) (
 .skip) (
 .exit 4)) ir14_k14
def ir14_l2 : ICode :=
 .seq (
 .region [
 ⟨0, some 122, none, .bin .lss .other (.tmp 121) (.tmp 120), []⟩]) ir14_k13
def ir14_k18 : ICode :=
 .seq (
 .region [
 ⟨0, some 138, none, .mov (.tmp 5), []⟩,
 ⟨1, some 139, none, .faddr 0 (.tmp 16), []⟩,
 ⟨2, some 140, none, .load false 1 (.tmp 139), []⟩,
 ⟨3, some 141, none, .bslice 1 1 [.string ⟨#[]⟩] [(0, 1, .tmp 140)], []⟩,
 ⟨4, some 142, none, .app 1 16 (.tmp 138) (.tmp 141), []⟩,
 ⟨5, some 5, none, .mov (.tmp 142), []⟩]) (
 .region [
 ⟨0, some 143, none, .mov (.tmp 8), []⟩,
 ⟨1, some 144, none, .mov (.tmp 143), []⟩,
 ⟨2, some 145, some (144, true), .faddr 1 (.tmp 16), []⟩,
 ⟨3, some 146, some (144, true), .load false 1 (.tmp 145), []⟩,
 ⟨4, some 147, some (144, true), .faddr 2 (.tmp 1), []⟩,
 ⟨5, some 148, some (144, true), .load false 1 (.tmp 147), []⟩,
 ⟨6, some 149, some (144, true), .lenV (.tmp 148), []⟩,
 ⟨7, some 150, some (144, true), .bin .sub .other (.tmp 149) (.const (.int .i64 1)), []⟩,
 ⟨8, some 151, some (144, true), .call 21 [.tmp 146, .const (.int .i64 0), .tmp 150], []⟩,
 ⟨9, some 152, none, .pick (.tmp 144) (.tmp 151) (.const (.bool false)), []⟩,
 ⟨10, some 153, none, .mov (.tmp 152), []⟩,
 ⟨11, some 154, some (153, true), .faddr 2 (.tmp 16), []⟩,
 ⟨12, some 155, some (153, true), .load false 1 (.tmp 154), []⟩,
 ⟨13, some 156, some (153, true), .faddr 3 (.tmp 1), []⟩,
 ⟨14, some 157, some (153, true), .load false 1 (.tmp 156), []⟩,
 ⟨15, some 158, some (153, true), .lenV (.tmp 157), []⟩,
 ⟨16, some 159, some (153, true), .bin .sub .other (.tmp 158) (.const (.int .i64 1)), []⟩,
 ⟨17, some 160, some (153, true), .call 21 [.tmp 155, .const (.int .i64 0), .tmp 159], []⟩,
 ⟨18, some 161, none, .pick (.tmp 153) (.tmp 160) (.const (.bool false)), []⟩,
 ⟨19, some 162, none, .mov (.tmp 161), []⟩,
 ⟨20, some 163, some (162, true), .faddr 3 (.tmp 1), []⟩,
 ⟨21, some 164, some (162, true), .load false 1 (.tmp 163), []⟩,
 ⟨22, some 165, some (162, true), .faddr 2 (.tmp 16), []⟩,
 ⟨23, some 166, some (162, true), .load false 1 (.tmp 165), []⟩,
 ⟨24, some 167, some (162, true), .iaddr 7 (.tmp 164) (.tmp 166), []⟩,
 ⟨25, some 168, some (162, true), .faddr 1 (.tmp 167), []⟩,
 ⟨26, some 169, some (162, true), .load false 1 (.tmp 168), []⟩,
 ⟨27, some 170, some (162, true), .bin .eql .other (.tmp 169) (.const (.int .i64 4)), []⟩,
 ⟨28, some 171, none, .pick (.tmp 162) (.tmp 170) (.const (.bool false)), []⟩,
 ⟨29, some 8, none, .mov (.tmp 171), []⟩])
def ir14_k17 : ICode :=
 .seq (
 .block 7 (
 .seq (
 .region [
 ⟨0, some 136, none, .iaddr 3 (.tmp 132) (.tmp 134), []⟩,
 ⟨1, some 137, none, .load true 3 (.tmp 136), []⟩,
 ⟨2, some 16, none, .alloc [.string ⟨#[]⟩, .int .i64 0, .int .i64 0], []⟩,
 ⟨3, none, none, .store 3 (.tmp 16) (.tmp 137), []⟩]) ir14_k18)) (
 .region [
 ⟨0, some 172, none, .bin .add .other (.tmp 134) (.const (.int .i64 1)), []⟩,
 ⟨1, some 134, none, .mov (.tmp 172), []⟩])
def ir14_k16 : ICode :=
 .seq (
 .cond (.tmp 135) (
 .skip) (
 .exit 6)) ir14_k17
def ir14_l3 : ICode :=
 .seq (
 .region [
 ⟨0, some 135, none, .bin .lss .other (.tmp 134) (.tmp 133), []⟩]) ir14_k16
def ir14_k22 : ICode :=
 .seq (
 .region [
 ⟨0, some 180, none, .mov (.tmp 6), []⟩,
 ⟨1, some 181, none, .faddr 0 (.tmp 18), []⟩,
 ⟨2, some 182, none, .load false 1 (.tmp 181), []⟩,
 ⟨3, some 183, none, .bslice 1 1 [.string ⟨#[]⟩] [(0, 1, .tmp 182)], []⟩,
 ⟨4, some 184, none, .app 1 16 (.tmp 180) (.tmp 183), []⟩,
 ⟨5, some 6, none, .mov (.tmp 184), []⟩]) (
 .region [
 ⟨0, some 185, none, .mov (.tmp 8), []⟩,
 ⟨1, some 186, none, .mov (.tmp 185), []⟩,
 ⟨2, some 187, some (186, true), .load true 17 (.tmp 18), []⟩,
 ⟨3, some 188, some (186, true), .faddr 2 (.tmp 1), []⟩,
 ⟨4, some 189, some (186, true), .load false 1 (.tmp 188), []⟩,
 ⟨5, some 190, some (186, true), .lenV (.tmp 189), []⟩,
 ⟨6, some 191, some (186, true), .call 64 [.tmp 187, .tmp 190], []⟩,
 ⟨7, some 192, none, .pick (.tmp 186) (.tmp 191) (.const (.bool false)), []⟩,
 ⟨8, some 8, none, .mov (.tmp 192), []⟩])
def ir14_k21 : ICode :=
 .seq (
 .block 9 (
 .seq (
 .region [
 ⟨0, some 178, none, .iaddr 17 (.tmp 174) (.tmp 176), []⟩,
 ⟨1, some 179, none, .load true 17 (.tmp 178), []⟩,
 ⟨2, some 18, none, .alloc [.string ⟨#[]⟩, .int .i64 0, .int .i64 0, .int .i64 0, .int .i64 0, .int .i64 0, .int .i64 0, .int .i64 0, .int .i64 0, .slice none 0 0, .slice none 0 0, .bool false, .slice none 0 0, .slice none 0 0, .bool false, .slice none 0 0, .slice none 0 0], []⟩,
 ⟨3, none, none, .store 17 (.tmp 18) (.tmp 179), []⟩]) ir14_k22)) (
 .region [
 ⟨0, some 193, none, .bin .add .other (.tmp 176) (.const (.int .i64 1)), []⟩,
 ⟨1, some 176, none, .mov (.tmp 193), []⟩])
def ir14_k20 : ICode :=
 .seq (
 .cond (.tmp 177) (
 .skip) (
 .exit 8)) ir14_k21
def ir14_l4 : ICode :=
 .seq (
 .region [
 ⟨0, some 177, none, .bin .lss .other (.tmp 176) (.tmp 175), []⟩]) ir14_k20
def ir14_k26 : ICode :=
 .seq (
 .region [
 ⟨0, some 201, none, .mov (.tmp 7), []⟩,
 ⟨1, some 202, none, .faddr 0 (.tmp 20), []⟩,
 ⟨2, some 203, none, .load false 1 (.tmp 202), []⟩,
 ⟨3, some 204, none, .bslice 1 1 [.string ⟨#[]⟩] [(0, 1, .tmp 203)], []⟩,
 ⟨4, some 205, none, .app 1 16 (.tmp 201) (.tmp 204), []⟩,
 ⟨5, some 7, none, .mov (.tmp 205), []⟩]) (
 .region [
 ⟨0, some 206, none, .mov (.tmp 8), []⟩,
 ⟨1, some 207, none, .mov (.tmp 206), []⟩,
 ⟨2, some 208, some (207, true), .faddr 1 (.tmp 20), []⟩,
 ⟨3, some 209, some (207, true), .load false 1 (.tmp 208), []⟩,
 ⟨4, some 210, some (207, true), .faddr 5 (.tmp 1), []⟩,
 ⟨5, some 211, some (207, true), .load false 1 (.tmp 210), []⟩,
 ⟨6, some 212, some (207, true), .lenV (.tmp 211), []⟩,
 ⟨7, some 213, some (207, true), .bin .sub .other (.tmp 212) (.const (.int .i64 1)), []⟩,
 ⟨8, some 214, some (207, true), .call 21 [.tmp 209, .const (.int .i64 0), .tmp 213], []⟩,
 ⟨9, some 215, none, .pick (.tmp 207) (.tmp 214) (.const (.bool false)), []⟩,
 ⟨10, some 8, none, .mov (.tmp 215), []⟩])
def ir14_k25 : ICode :=
 .seq (
 .block 11 (
 .seq (
 .region [
 ⟨0, some 199, none, .iaddr 2 (.tmp 195) (.tmp 197), []⟩,
 ⟨1, some 200, none, .load true 2 (.tmp 199), []⟩,
 ⟨2, some 20, none, .alloc [.string ⟨#[]⟩, .int .i64 0], []⟩,
 ⟨3, none, none, .store 2 (.tmp 20) (.tmp 200), []⟩]) ir14_k26)) (
 .region [
 ⟨0, some 216, none, .bin .add .other (.tmp 197) (.const (.int .i64 1)), []⟩,
 ⟨1, some 197, none, .mov (.tmp 216), []⟩])
def ir14_k24 : ICode :=
 .seq (
 .cond (.tmp 198) (
 .skip) (
 .exit 10)) ir14_k25
def ir14_l5 : ICode :=
 .seq (
 .region [
 ⟨0, some 198, none, .bin .lss .other (.tmp 197) (.tmp 196), []⟩]) ir14_k24
def ir14_k28 : ICode :=
 .seq (
 .region [
 ⟨0, some 2, none, .mov (.const (.int .i64 0)), []⟩]) (
 .ret)
def ir14_k27 : ICode :=
 .seq (
 .seq (
 .region [
 ⟨0, some 217, none, .mov (.tmp 8), []⟩,
 ⟨1, some 218, none, .un .not (.tmp 217), []⟩,
 ⟨2, some 219, none, .mov (.tmp 218), []⟩,
 ⟨3, some 220, some (219, false), .mov (.tmp 3), []⟩,
 ⟨4, some 221, some (219, false), .call 65 [.tmp 220], []⟩,
 ⟨5, some 222, some (219, false), .un .not (.tmp 221), []⟩,
 ⟨6, some 223, none, .pick (.tmp 219) (.const (.bool true)) (.tmp 222), []⟩,
 ⟨7, some 224, none, .mov (.tmp 223), []⟩,
 ⟨8, some 225, some (224, false), .mov (.tmp 4), []⟩,
 ⟨9, some 226, some (224, false), .call 65 [.tmp 225], []⟩,
 ⟨10, some 227, some (224, false), .un .not (.tmp 226), []⟩,
 ⟨11, some 228, none, .pick (.tmp 224) (.const (.bool true)) (.tmp 227), []⟩,
 ⟨12, some 229, none, .mov (.tmp 228), []⟩,
 ⟨13, some 230, some (229, false), .mov (.tmp 5), []⟩,
 ⟨14, some 231, some (229, false), .call 65 [.tmp 230], []⟩,
 ⟨15, some 232, some (229, false), .un .not (.tmp 231), []⟩,
 ⟨16, some 233, none, .pick (.tmp 229) (.const (.bool true)) (.tmp 232), []⟩,
 ⟨17, some 234, none, .mov (.tmp 233), []⟩,
 ⟨18, some 235, some (234, false), .mov (.tmp 6), []⟩,
 ⟨19, some 236, some (234, false), .call 65 [.tmp 235], []⟩,
 ⟨20, some 237, some (234, false), .un .not (.tmp 236), []⟩,
 ⟨21, some 238, none, .pick (.tmp 234) (.const (.bool true)) (.tmp 237), []⟩,
 ⟨22, some 239, none, .mov (.tmp 238), []⟩,
 ⟨23, some 240, some (239, false), .mov (.tmp 7), []⟩,
 ⟨24, some 241, some (239, false), .call 65 [.tmp 240], []⟩,
 ⟨25, some 242, some (239, false), .un .not (.tmp 241), []⟩,
 ⟨26, some 243, none, .pick (.tmp 239) (.const (.bool true)) (.tmp 242), []⟩]) (
 .cond (.tmp 243) (
 .seq (
 .region [
 ⟨0, some 2, none, .mov (.const (.int .i64 1)), []⟩]) (
 .ret)) (
 .skip))) ir14_k28
def ir14_k23 : ICode :=
 .seq (
 .seq (
 .region [
 ⟨0, some 194, none, .faddr 6 (.tmp 1), []⟩,
 ⟨1, some 195, none, .load false 1 (.tmp 194), []⟩,
 ⟨2, some 196, none, .lenV (.tmp 195), []⟩,
 ⟨3, some 197, none, .mov (.const (.int .i64 0)), []⟩]) (
 .block 10 (
 .loop ir14_l5))) ir14_k27
def ir14_k19 : ICode :=
 .seq (
 .seq (
 .region [
 ⟨0, some 173, none, .faddr 5 (.tmp 1), []⟩,
 ⟨1, some 174, none, .load false 1 (.tmp 173), []⟩,
 ⟨2, some 175, none, .lenV (.tmp 174), []⟩,
 ⟨3, some 176, none, .mov (.const (.int .i64 0)), []⟩]) (
 .block 8 (
 .loop ir14_l4))) ir14_k23
def ir14_k15 : ICode :=
 .seq (
 .seq (
 .region [
 ⟨0, some 131, none, .faddr 4 (.tmp 1), []⟩,
 ⟨1, some 132, none, .load false 1 (.tmp 131), []⟩,
 ⟨2, some 133, none, .lenV (.tmp 132), []⟩,
 ⟨3, some 134, none, .mov (.const (.int .i64 0)), []⟩]) (
 .block 6 (
 .loop ir14_l3))) ir14_k19
def ir14_k12 : ICode :=
 .seq (
 .seq (
 .region [
 ⟨0, some 117, none, .faddr 3 (.tmp 1), []⟩,
 ⟨1, some 118, none, .load false 1 (.tmp 117), []⟩,
 ⟨2, some 119, none, .sliceS 7 (.tmp 118) (some (.const (.int .i64 1))) none, []⟩,
 ⟨3, some 120, none, .lenV (.tmp 119), []⟩,
 ⟨4, some 121, none, .mov (.const (.int .i64 0)), []⟩]) (
 .block 4 (
 .loop ir14_l2))) ir14_k15
def ir14_k8 : ICode :=
 .seq (
 .seq (
 .region [
 ⟨0, some 84, none, .faddr 2 (.tmp 1), []⟩,
 ⟨1, some 85, none, .load false 1 (.tmp 84), []⟩,
 ⟨2, some 86, none, .lenV (.tmp 85), []⟩,
 ⟨3, some 87, none, .mov (.const (.int .i64 0)), []⟩]) (
 .block 2 (
 .loop ir14_l1))) ir14_k12
def ir14_k4 : ICode :=
 .seq (
 .seq (
 .region [
 ⟨0, some 66, none, .faddr 1 (.tmp 1), []⟩,
 ⟨1, some 67, none, .load false 1 (.tmp 66), []⟩,
 ⟨2, some 68, none, .lenV (.tmp 67), []⟩,
 ⟨3, some 69, none, .mov (.const (.int .i64 0)), []⟩]) (
 .block 0 (
 .loop ir14_l0))) ir14_k8
def ir14_k3 : ICode :=
 .seq (
 .region [
 ⟨0, some 8, none, .mov (.const (.bool true)), []⟩]) ir14_k4
def ir14_k2 : ICode :=
 .seq (
 .region [
 ⟨0, some 3, none, .mov (.const (.slice none 0 0)), []⟩,
 ⟨1, some 4, none, .mov (.const (.slice none 0 0)), []⟩,
 ⟨2, some 5, none, .mov (.const (.slice none 0 0)), []⟩,
 ⟨3, some 6, none, .mov (.const (.slice none 0 0)), []⟩,
 ⟨4, some 7, none, .mov (.const (.slice none 0 0)), []⟩]) ir14_k3
def ir14_k1 : ICode :=
 .seq (
 .seq (
 .region [
 ⟨0, some 21, none, .faddr 0 (.tmp 1), []⟩,
 ⟨1, some 22, none, .load false 1 (.tmp 21), []⟩,
 ⟨2, some 23, none, .call 21 [.tmp 22, .const (.int .i64 1), .const (.int .i64 4)], []⟩,
 ⟨3, some 24, none, .un .not (.tmp 23), []⟩,
 ⟨4, some 25, none, .mov (.tmp 24), []⟩,
 ⟨5, some 26, some (25, false), .faddr 1 (.tmp 1), []⟩,
 ⟨6, some 27, some (25, false), .load false 1 (.tmp 26), []⟩,
 ⟨7, some 28, some (25, false), .lenV (.tmp 27), []⟩,
 ⟨8, some 29, some (25, false), .bin .gtr .other (.tmp 28) (.const (.int .i64 4)), []⟩,
 ⟨9, some 30, none, .pick (.tmp 25) (.const (.bool true)) (.tmp 29), []⟩,
 ⟨10, some 31, none, .mov (.tmp 30), []⟩,
 ⟨11, some 32, some (31, false), .faddr 2 (.tmp 1), []⟩,
 ⟨12, some 33, some (31, false), .load false 1 (.tmp 32), []⟩,
 ⟨13, some 34, some (31, false), .lenV (.tmp 33), []⟩,
 ⟨14, some 35, some (31, false), .bin .gtr .other (.tmp 34) (.const (.int .i64 4)), []⟩,
 ⟨15, some 36, none, .pick (.tmp 31) (.const (.bool true)) (.tmp 35), []⟩,
 ⟨16, some 37, none, .mov (.tmp 36), []⟩,
 ⟨17, some 38, some (37, false), .faddr 3 (.tmp 1), []⟩,
 ⟨18, some 39, some (37, false), .load false 1 (.tmp 38), []⟩,
 ⟨19, some 40, some (37, false), .lenV (.tmp 39), []⟩,
 ⟨20, some 41, some (37, false), .bin .gtr .other (.tmp 40) (.const (.int .i64 40)), []⟩,
 ⟨21, some 42, none, .pick (.tmp 37) (.const (.bool true)) (.tmp 41), []⟩,
 ⟨22, some 43, none, .mov (.tmp 42), []⟩,
 ⟨23, some 44, some (43, false), .faddr 4 (.tmp 1), []⟩,
 ⟨24, some 45, some (43, false), .load false 1 (.tmp 44), []⟩,
 ⟨25, some 46, some (43, false), .lenV (.tmp 45), []⟩,
 ⟨26, some 47, some (43, false), .bin .gtr .other (.tmp 46) (.const (.int .i64 24)), []⟩,
 ⟨27, some 48, none, .pick (.tmp 43) (.const (.bool true)) (.tmp 47), []⟩,
 ⟨28, some 49, none, .mov (.tmp 48), []⟩,
 ⟨29, some 50, some (49, false), .faddr 5 (.tmp 1), []⟩,
 ⟨30, some 51, some (49, false), .load false 1 (.tmp 50), []⟩,
 ⟨31, some 52, some (49, false), .lenV (.tmp 51), []⟩,
 ⟨32, some 53, some (49, false), .bin .gtr .other (.tmp 52) (.const (.int .i64 4)), []⟩,
 ⟨33, some 54, none, .pick (.tmp 49) (.const (.bool true)) (.tmp 53), []⟩,
 ⟨34, some 55, none, .mov (.tmp 54), []⟩,
 ⟨35, some 56, some (55, false), .faddr 6 (.tmp 1), []⟩,
 ⟨36, some 57, some (55, false), .load false 1 (.tmp 56), []⟩,
 ⟨37, some 58, some (55, false), .lenV (.tmp 57), []⟩,
 ⟨38, some 59, some (55, false), .bin .gtr .other (.tmp 58) (.const (.int .i64 12)), []⟩,
 ⟨39, some 60, none, .pick (.tmp 55) (.const (.bool true)) (.tmp 59), []⟩,
 ⟨40, some 61, none, .mov (.tmp 60), []⟩,
 ⟨41, some 62, some (61, false), .load true 7 (.tmp 1), []⟩,
 ⟨42, some 63, some (61, false), .call 63 [.tmp 62], []⟩,
 ⟨43, some 64, some (61, false), .un .not (.tmp 63), []⟩,
 ⟨44, some 65, none, .pick (.tmp 61) (.const (.bool true)) (.tmp 64), []⟩]) (
 .cond (.tmp 65) (
 .seq (
 .region [
 ⟨0, some 2, none, .mov (.const (.int .i64 1)), []⟩]) (
 .ret)) (
 .skip))) ir14_k2
def ir14_b : ICode :=
 .seq (
 .region [
 ⟨0, some 1, none, .box (.tmp 0), []⟩,
 ⟨1, some 2, none, .mov (.const (.int .i64 0)), []⟩]) ir14_k1
def ir14 : IFunc := ⟨244, [.tmp 2], ir14_b⟩
theorem ir14_eq : cFunc Tryz.prog 14 = some ir14 := by kernel_rfl
theorem call14 {args : List Value} {m : Mem} {Φ : Value → Mem → Prop} (h : args.length ≤ 244) : WPCall Tryz.prog 14 args m Φ = WP Tryz.prog ir14_b (initσ args) m (retK [.tmp 2] Φ) := wpCall_def ir14_eq h
def ir21_k1 : ICode :=
 .seq (
 .region [
 ⟨0, some 7, none, .mov (.tmp 0), []⟩,
 ⟨1, some 8, none, .mov (.tmp 1), []⟩,
 ⟨2, some 9, none, .bin .geq .other (.tmp 7) (.tmp 8), []⟩,
 ⟨3, some 10, none, .mov (.tmp 9), []⟩,
 ⟨4, some 11, some (10, true), .mov (.tmp 0), []⟩,
 ⟨5, some 12, some (10, true), .mov (.tmp 2), []⟩,
 ⟨6, some 13, some (10, true), .bin .leq .other (.tmp 11) (.tmp 12), []⟩,
 ⟨7, some 14, none, .pick (.tmp 10) (.tmp 13) (.const (.bool false)), []⟩,
 ⟨8, some 6, none, .mov (.tmp 14), []⟩]) (
 .ret)
def ir21_b : ICode :=
 .seq (
 .region [
 ⟨0, some 6, none, .mov (.const (.bool false)), []⟩]) ir21_k1
def ir21 : IFunc := ⟨15, [.tmp 6], ir21_b⟩
theorem ir21_eq : cFunc Tryz.prog 21 = some ir21 := by kernel_rfl
theorem call21 {args : List Value} {m : Mem} {Φ : Value → Mem → Prop} (h : args.length ≤ 15) : WPCall Tryz.prog 21 args m Φ = WP Tryz.prog ir21_b (initσ args) m (retK [.tmp 6] Φ) := wpCall_def ir21_eq h
def ir22_k4 : ICode :=
 .seq (
 .region [
 ⟨0, some 13, none, .mov (.tmp 1), []⟩,
 ⟨1, some 14, none, .load true 3 (.tmp 6), []⟩,
 ⟨2, some 15, none, .callv (.tmp 13) [.tmp 14], []⟩,
 ⟨3, some 16, none, .un .not (.tmp 15), []⟩]) (
 .cond (.tmp 16) (
 .seq (
 .region [
 ⟨0, some 4, none, .mov (.const (.bool false)), []⟩]) (
 .ret)) (
 .skip))
def ir22_k3 : ICode :=
 .seq (
 .block 1 (
 .seq (
 .region [
 ⟨0, some 11, none, .iaddr 3 (.tmp 7) (.tmp 9), []⟩,
 ⟨1, some 12, none, .load true 3 (.tmp 11), []⟩,
 ⟨2, some 6, none, .alloc [.bool false, .slice none 0 0, .slice none 0 0], []⟩,
 ⟨3, none, none, .store 3 (.tmp 6) (.tmp 12), []⟩]) ir22_k4)) (
 .region [
 ⟨0, some 17, none, .bin .add .other (.tmp 9) (.const (.int .i64 1)), []⟩,
 ⟨1, some 9, none, .mov (.tmp 17), []⟩])
def ir22_k2 : ICode :=
 .seq (
 .cond (.tmp 10) (
 .skip) (
 .exit 0)) ir22_k3
def ir22_l0 : ICode :=
 .seq (
 .region [
 ⟨0, some 10, none, .bin .lss .other (.tmp 9) (.tmp 8), []⟩]) ir22_k2
def ir22_k5 : ICode :=
 .seq (
 .region [
 ⟨0, some 4, none, .mov (.const (.bool true)), []⟩]) (
 .ret)
def ir22_k1 : ICode :=
 .seq (
 .seq (
 .region [
 ⟨0, some 7, none, .mov (.tmp 0), []⟩,
 ⟨1, some 8, none, .lenV (.tmp 7), []⟩,
 ⟨2, some 9, none, .mov (.const (.int .i64 0)), []⟩]) (
 .block 0 (
 .loop ir22_l0))) ir22_k5
def ir22_b : ICode :=
 .seq (
 .region [
 ⟨0, some 4, none, .mov (.const (.bool false)), []⟩]) ir22_k1
def ir22 : IFunc := ⟨18, [.tmp 4], ir22_b⟩
theorem ir22_eq : cFunc Tryz.prog 22 = some ir22 := by kernel_rfl
theorem call22 {args : List Value} {m : Mem} {Φ : Value → Mem → Prop} (h : args.length ≤ 18) : WPCall Tryz.prog 22 args m Φ = WP Tryz.prog ir22_b (initσ args) m (retK [.tmp 4] Φ) := wpCall_def ir22_eq h
def ir23_k2 : ICode :=
 .seq (
 .region [
 ⟨0, some 10, none, .mov (.tmp 4), []⟩,
 ⟨1, some 11, none, .bin .eql .other (.tmp 10) (.const (.int .i64 0)), []⟩,
 ⟨2, some 12, none, .mov (.tmp 11), []⟩,
 ⟨3, some 13, some (12, true), .faddr 0 (.tmp 3), []⟩,
 ⟨4, some 14, some (12, true), .load false 1 (.tmp 13), []⟩,
 ⟨5, some 15, some (12, true), .un .not (.tmp 14), []⟩,
 ⟨6, some 16, none, .pick (.tmp 12) (.tmp 15) (.const (.bool false)), []⟩,
 ⟨7, some 17, none, .mov (.tmp 16), []⟩,
 ⟨8, some 18, some (17, true), .faddr 1 (.tmp 3), []⟩,
 ⟨9, some 19, some (17, true), .load false 1 (.tmp 18), []⟩,
 ⟨10, some 20, some (17, true), .call 87 [.tmp 19], []⟩,
 ⟨11, some 21, some (17, true), .bin .leq .other (.tmp 20) (.const (.int .i64 32)), []⟩,
 ⟨12, some 22, none, .pick (.tmp 17) (.tmp 21) (.const (.bool false)), []⟩,
 ⟨13, some 23, none, .mov (.tmp 22), []⟩,
 ⟨14, some 24, some (23, true), .faddr 2 (.tmp 3), []⟩,
 ⟨15, some 25, some (23, true), .load false 1 (.tmp 24), []⟩,
 ⟨16, some 26, some (23, true), .call 87 [.tmp 25], []⟩,
 ⟨17, some 27, some (23, true), .bin .leq .other (.tmp 26) (.const (.int .i64 32)), []⟩,
 ⟨18, some 28, none, .pick (.tmp 23) (.tmp 27) (.const (.bool false)), []⟩,
 ⟨19, some 2, none, .mov (.tmp 28), []⟩]) (
 .ret)
def ir23_k1 : ICode :=
 .seq (
 .region [
 ⟨0, some 6, none, .load true 3 (.tmp 1), []⟩,
 ⟨1, some 7, none, .call 86 [.tmp 6], []⟩,
 ⟨2, some 5, none, .mov (.tmp 7), []⟩,
 ⟨3, some 8, none, .ext 0 (.tmp 5), []⟩,
 ⟨4, some 9, none, .ext 1 (.tmp 5), []⟩,
 ⟨5, some 3, none, .alloc [.bool false, .slice none 0 0, .slice none 0 0], []⟩,
 ⟨6, none, none, .store 3 (.tmp 3) (.tmp 8), []⟩,
 ⟨7, some 4, none, .mov (.tmp 9), []⟩]) ir23_k2
def ir23_b : ICode :=
 .seq (
 .region [
 ⟨0, some 1, none, .box (.tmp 0), []⟩,
 ⟨1, some 2, none, .mov (.const (.bool false)), []⟩]) ir23_k1
def ir23 : IFunc := ⟨29, [.tmp 2], ir23_b⟩
theorem ir23_eq : cFunc Tryz.prog 23 = some ir23 := by kernel_rfl
theorem call23 {args : List Value} {m : Mem} {Φ : Value → Mem → Prop} (h : args.length ≤ 29) : WPCall Tryz.prog 23 args m Φ = WP Tryz.prog ir23_b (initσ args) m (retK [.tmp 2] Φ) := wpCall_def ir23_eq h
def ir24_k1 : ICode :=
 .seq (
 .region [
 ⟨0, some 3, none, .faddr 1 (.tmp 1), []⟩,
 ⟨1, some 4, none, .load false 1 (.tmp 3), []⟩,
 ⟨2, some 5, none, .call 87 [.tmp 4], []⟩,
 ⟨3, some 6, none, .bin .gtr .other (.tmp 5) (.const (.int .i64 0)), []⟩,
 ⟨4, some 2, none, .mov (.tmp 6), []⟩]) (
 .ret)
def ir24_b : ICode :=
 .seq (
 .region [
 ⟨0, some 1, none, .box (.tmp 0), []⟩,
 ⟨1, some 2, none, .mov (.const (.bool false)), []⟩]) ir24_k1
def ir24 : IFunc := ⟨7, [.tmp 2], ir24_b⟩
theorem ir24_eq : cFunc Tryz.prog 24 = some ir24 := by kernel_rfl
theorem call24 {args : List Value} {m : Mem} {Φ : Value → Mem → Prop} (h : args.length ≤ 7) : WPCall Tryz.prog 24 args m Φ = WP Tryz.prog ir24_b (initσ args) m (retK [.tmp 2] Φ) := wpCall_def ir24_eq h
def ir28_k9 : ICode :=
 .seq (
 .block 5 (
 .seq (
 .region [
 ⟨0, some 46, none, .mov (.tmp 44), []⟩,
 ⟨1, some 47, none, .iaddr 3 (.tmp 42) (.tmp 44), []⟩,
 ⟨2, some 48, none, .load true 3 (.tmp 47), []⟩,
 ⟨3, some 7, none, .alloc [.bool false, .slice none 0 0, .slice none 0 0], []⟩,
 ⟨4, some 6, none, .mov (.tmp 46), []⟩,
 ⟨5, none, none, .store 3 (.tmp 7) (.tmp 48), []⟩]) (
 .region [
 ⟨0, some 49, none, .mov (.tmp 3), []⟩,
 ⟨1, some 50, none, .mov (.tmp 5), []⟩,
 ⟨2, some 51, none, .mov (.tmp 3), []⟩,
 ⟨3, some 52, none, .mov (.tmp 5), []⟩,
 ⟨4, some 53, none, .iaddr 1 (.tmp 51) (.tmp 52), []⟩,
 ⟨5, some 54, none, .load false 1 (.tmp 53), []⟩,
 ⟨6, some 55, none, .mov (.tmp 54), []⟩,
 ⟨7, some 56, some (55, false), .load true 3 (.tmp 7), []⟩,
 ⟨8, some 57, some (55, false), .call 24 [.tmp 56], []⟩,
 ⟨9, some 58, some (55, false), .mov (.tmp 57), []⟩,
 ⟨10, some 59, some (58, true), .mov (.tmp 3), []⟩,
 ⟨11, some 60, some (58, true), .mov (.tmp 6), []⟩,
 ⟨12, some 61, some (58, true), .iaddr 1 (.tmp 59) (.tmp 60), []⟩,
 ⟨13, some 62, some (58, true), .load false 1 (.tmp 61), []⟩,
 ⟨14, some 63, some (55, false), .pick (.tmp 58) (.tmp 62) (.const (.bool false)), []⟩,
 ⟨15, some 64, none, .pick (.tmp 55) (.const (.bool true)) (.tmp 63), []⟩,
 ⟨16, some 65, none, .iaddr 1 (.tmp 49) (.tmp 50), []⟩,
 ⟨17, none, none, .store 1 (.tmp 65) (.tmp 64), []⟩]))) (
 .region [
 ⟨0, some 66, none, .bin .add .other (.tmp 44) (.const (.int .i64 1)), []⟩,
 ⟨1, some 44, none, .mov (.tmp 66), []⟩])
def ir28_k8 : ICode :=
 .seq (
 .cond (.tmp 45) (
 .skip) (
 .exit 4)) ir28_k9
def ir28_l0 : ICode :=
 .seq (
 .region [
 ⟨0, some 45, none, .bin .lss .other (.tmp 44) (.tmp 43), []⟩]) ir28_k8
def ir28_k7 : ICode :=
 .seq (
 .region [
 ⟨0, some 38, none, .faddr 2 (.tmp 1), []⟩,
 ⟨1, some 39, none, .load false 1 (.tmp 38), []⟩,
 ⟨2, some 40, none, .mov (.tmp 5), []⟩,
 ⟨3, some 41, none, .iaddr 1 (.tmp 39) (.tmp 40), []⟩,
 ⟨4, some 42, none, .load false 1 (.tmp 41), []⟩,
 ⟨5, some 43, none, .lenV (.tmp 42), []⟩,
 ⟨6, some 44, none, .mov (.const (.int .i64 0)), []⟩]) (
 .block 4 (
 .loop ir28_l0))
def ir28_k6 : ICode :=
 .seq (
 .region [
 ⟨0, some 23, none, .mov (.tmp 3), []⟩,
 ⟨1, some 24, none, .mov (.tmp 5), []⟩,
 ⟨2, some 25, none, .mov (.tmp 3), []⟩,
 ⟨3, some 26, none, .mov (.tmp 5), []⟩,
 ⟨4, some 27, none, .iaddr 1 (.tmp 25) (.tmp 26), []⟩,
 ⟨5, some 28, none, .load false 1 (.tmp 27), []⟩,
 ⟨6, some 29, none, .mov (.tmp 28), []⟩,
 ⟨7, some 30, some (29, false), .faddr 3 (.tmp 1), []⟩,
 ⟨8, some 31, some (29, false), .load false 1 (.tmp 30), []⟩,
 ⟨9, some 32, some (29, false), .mov (.tmp 5), []⟩,
 ⟨10, some 33, some (29, false), .iaddr 3 (.tmp 31) (.tmp 32), []⟩,
 ⟨11, some 34, some (29, false), .load true 3 (.tmp 33), []⟩,
 ⟨12, some 35, some (29, false), .call 24 [.tmp 34], []⟩,
 ⟨13, some 36, none, .pick (.tmp 29) (.const (.bool true)) (.tmp 35), []⟩,
 ⟨14, some 37, none, .iaddr 1 (.tmp 23) (.tmp 24), []⟩,
 ⟨15, none, none, .store 1 (.tmp 37) (.tmp 36), []⟩]) ir28_k7
def ir28_k5 : ICode :=
 .seq (
 .block 3 (
 .seq (
 .region [
 ⟨0, some 22, none, .mov (.tmp 20), []⟩,
 ⟨1, some 5, none, .mov (.tmp 22), []⟩]) ir28_k6)) (
 .region [
 ⟨0, some 67, none, .bin .add .other (.tmp 20) (.const (.int .i64 1)), []⟩,
 ⟨1, some 20, none, .mov (.tmp 67), []⟩])
def ir28_k4 : ICode :=
 .seq (
 .cond (.tmp 21) (
 .skip) (
 .exit 2)) ir28_k5
def ir28_l1 : ICode :=
 .seq (
 .region [
 ⟨0, some 21, none, .bin .lss .other (.tmp 20) (.tmp 19), []⟩]) ir28_k4
def ir28_k3 : ICode :=
 .seq (
 .block 1 (
 .seq (
 .region [
 ⟨0, some 18, none, .mov (.tmp 3), []⟩,
 ⟨1, some 19, none, .lenV (.tmp 18), []⟩,
 ⟨2, some 20, none, .mov (.const (.int .i64 0)), []⟩]) (
 .block 2 (
 .loop ir28_l1)))) (
 .region [
 ⟨0, some 16, none, .mov (.tmp 4), []⟩,
 ⟨1, some 17, none, .bin .add .other (.tmp 16) (.const (.int .i64 1)), []⟩,
 ⟨2, some 4, none, .mov (.tmp 17), []⟩])
def ir28_l2 : ICode :=
 .seq (
 .seq (
 .region [
 ⟨0, some 12, none, .mov (.tmp 4), []⟩,
 ⟨1, some 13, none, .mov (.tmp 3), []⟩,
 ⟨2, some 14, none, .lenV (.tmp 13), []⟩,
 ⟨3, some 15, none, .bin .leq .other (.tmp 12) (.tmp 14), []⟩]) (
 .cond (.tmp 15) (
 .skip) (
 .exit 0))) ir28_k3
def ir28_k10 : ICode :=
 .seq (
 .region [
 ⟨0, some 68, none, .mov (.tmp 3), []⟩,
 ⟨1, some 69, none, .call 95 [.tmp 68, .func 96], []⟩,
 ⟨2, some 2, none, .mov (.tmp 69), []⟩]) (
 .ret)
def ir28_k2 : ICode :=
 .seq (
 .seq (
 .region [
 ⟨0, some 4, none, .mov (.const (.int .i64 0)), []⟩]) (
 .block 0 (
 .loop ir28_l2))) ir28_k10
def ir28_k1 : ICode :=
 .seq (
 .region [
 ⟨0, some 8, none, .faddr 3 (.tmp 1), []⟩,
 ⟨1, some 9, none, .load false 1 (.tmp 8), []⟩,
 ⟨2, some 10, none, .lenV (.tmp 9), []⟩,
 ⟨3, some 11, none, .mkslice 1 1 [.bool false] (.tmp 10) (.tmp 10), []⟩,
 ⟨4, some 3, none, .mov (.tmp 11), []⟩]) ir28_k2
def ir28_b : ICode :=
 .seq (
 .region [
 ⟨0, some 1, none, .box (.tmp 0), []⟩,
 ⟨1, some 2, none, .mov (.const (.bool false)), []⟩]) ir28_k1
def ir28 : IFunc := ⟨70, [.tmp 2], ir28_b⟩
theorem ir28_eq : cFunc Tryz.prog 28 = some ir28 := by kernel_rfl
theorem call28 {args : List Value} {m : Mem} {Φ : Value → Mem → Prop} (h : args.length ≤ 70) : WPCall Tryz.prog 28 args m Φ = WP Tryz.prog ir28_b (initσ args) m (retK [.tmp 2] Φ) := wpCall_def ir28_eq h
def ir35_k2 : ICode :=
 .seq (
 .region [
 ⟨0, some 26, none, .mov (.tmp 0), []⟩,
 ⟨1, some 27, none, .nilck (.tmp 26), []⟩,
 ⟨2, some 28, none, .faddr 17 (.tmp 27), []⟩,
 ⟨3, some 29, none, .load false 1 (.tmp 28), []⟩,
 ⟨4, some 30, none, .bin .eql .other (.tmp 29) (.const (.int .i64 0)), []⟩,
 ⟨5, some 8, none, .mov (.tmp 30), []⟩]) (
 .ret)
def ir35_k1 : ICode :=
 .seq (
 .seq (
 .region [
 ⟨0, some 9, none, .mov (.tmp 0), []⟩,
 ⟨1, some 10, none, .nilck (.tmp 9), []⟩,
 ⟨2, some 11, none, .faddr 17 (.tmp 10), []⟩,
 ⟨3, some 12, none, .load false 1 (.tmp 11), []⟩,
 ⟨4, some 13, none, .bin .eql .other (.tmp 12) (.const (.int .i64 0)), []⟩,
 ⟨5, some 14, none, .mov (.tmp 13), []⟩,
 ⟨6, some 15, some (14, true), .mov (.tmp 1), []⟩,
 ⟨7, some 16, some (14, true), .un .not (.tmp 15), []⟩,
 ⟨8, some 17, none, .pick (.tmp 14) (.tmp 16) (.const (.bool false)), []⟩]) (
 .cond (.tmp 17) (
 .region [
 ⟨0, some 18, none, .mov (.tmp 0), []⟩,
 ⟨1, some 19, none, .mov (.tmp 0), []⟩,
 ⟨2, some 20, none, .mov (.tmp 2), []⟩,
 ⟨3, some 21, none, .load true 2 (.tmp 7), []⟩,
 ⟨4, some 22, none, .nilck (.tmp 18), []⟩,
 ⟨5, some 23, none, .faddr 17 (.tmp 22), []⟩,
 ⟨6, none, none, .store 1 (.tmp 23) (.tmp 20), [(.tmp 7, .tmp 23)]⟩,
 ⟨7, some 24, none, .nilck (.tmp 19), []⟩,
 ⟨8, some 25, none, .faddr 18 (.tmp 24), []⟩,
 ⟨9, none, none, .store 2 (.tmp 25) (.tmp 21), []⟩]) (
 .skip))) ir35_k2
def ir35_b : ICode :=
 .seq (
 .region [
 ⟨0, some 7, none, .box (.tmp 3), []⟩,
 ⟨1, some 8, none, .mov (.const (.bool false)), []⟩]) ir35_k1
def ir35 : IFunc := ⟨31, [.tmp 8], ir35_b⟩
theorem ir35_eq : cFunc Tryz.prog 35 = some ir35 := by kernel_rfl
theorem call35 {args : List Value} {m : Mem} {Φ : Value → Mem → Prop} (h : args.length ≤ 31) : WPCall Tryz.prog 35 args m Φ = WP Tryz.prog ir35_b (initσ args) m (retK [.tmp 8] Φ) := wpCall_def ir35_eq h
def ir36_k4 : ICode :=
 .seq (
 .block 1 (
 .seq (
 .region [
 ⟨0, some 12, none, .iaddr 9 (.tmp 8) (.tmp 10), []⟩,
 ⟨1, some 13, none, .load true 9 (.tmp 12), []⟩,
 ⟨2, some 6, none, .alloc [.int .i64 0, .string ⟨#[]⟩, .int .i64 0, .bool false, .slice none 0 0, .slice none 0 0, .string ⟨#[]⟩, .int .i64 0, .int .i64 0], []⟩,
 ⟨3, none, none, .store 9 (.tmp 6) (.tmp 13), []⟩]) (
 .block 2 (
 .seq (
 .region [
 ⟨0, some 15, none, .faddr 0 (.tmp 6), []⟩,
 ⟨1, some 16, none, .load false 1 (.tmp 15), []⟩,
 ⟨2, some 17, none, .bin .eql .other (.tmp 16) (.const (.int .i64 5)), []⟩,
 ⟨3, some 14, none, .mov (.tmp 17), []⟩]) (
 .cond (.tmp 14) (
 .region [
 ⟨0, some 18, none, .mov (.tmp 4), []⟩,
 ⟨1, some 19, none, .bin .add .other (.tmp 18) (.const (.int .i64 1)), []⟩,
 ⟨2, some 4, none, .mov (.tmp 19), []⟩]) (
 .seq (
 .region [
 ⟨0, some 21, none, .faddr 0 (.tmp 6), []⟩,
 ⟨1, some 22, none, .load false 1 (.tmp 21), []⟩,
 ⟨2, some 23, none, .call 21 [.tmp 22, .const (.int .i64 1), .const (.int .i64 4)], []⟩,
 ⟨3, some 20, none, .mov (.tmp 23), []⟩]) (
 .cond (.tmp 20) (
 .region [
 ⟨0, some 24, none, .mov (.tmp 3), []⟩,
 ⟨1, some 25, none, .bin .add .other (.tmp 24) (.const (.int .i64 1)), []⟩,
 ⟨2, some 3, none, .mov (.tmp 25), []⟩]) (
 .skip)))))))) (
 .region [
 ⟨0, some 26, none, .bin .add .other (.tmp 10) (.const (.int .i64 1)), []⟩,
 ⟨1, some 10, none, .mov (.tmp 26), []⟩])
def ir36_k3 : ICode :=
 .seq (
 .cond (.tmp 11) (
 .skip) (
 .exit 0)) ir36_k4
def ir36_l0 : ICode :=
 .seq (
 .region [
 ⟨0, some 11, none, .bin .lss .other (.tmp 10) (.tmp 9), []⟩]) ir36_k3
def ir36_k5 : ICode :=
 .seq (
 .region [
 ⟨0, some 27, none, .faddr 1 (.tmp 1), []⟩,
 ⟨1, some 28, none, .load false 1 (.tmp 27), []⟩,
 ⟨2, some 29, none, .lenV (.tmp 28), []⟩,
 ⟨3, some 30, none, .bin .leq .other (.tmp 29) (.const (.int .i64 4)), []⟩,
 ⟨4, some 31, none, .mov (.tmp 30), []⟩,
 ⟨5, some 32, some (31, true), .faddr 2 (.tmp 1), []⟩,
 ⟨6, some 33, some (31, true), .load false 1 (.tmp 32), []⟩,
 ⟨7, some 34, some (31, true), .lenV (.tmp 33), []⟩,
 ⟨8, some 35, some (31, true), .bin .leq .other (.tmp 34) (.const (.int .i64 4)), []⟩,
 ⟨9, some 36, none, .pick (.tmp 31) (.tmp 35) (.const (.bool false)), []⟩,
 ⟨10, some 37, none, .mov (.tmp 36), []⟩,
 ⟨11, some 38, some (37, true), .mov (.tmp 3), []⟩,
 ⟨12, some 39, some (37, true), .bin .leq .other (.tmp 38) (.const (.int .i64 40)), []⟩,
 ⟨13, some 40, none, .pick (.tmp 37) (.tmp 39) (.const (.bool false)), []⟩,
 ⟨14, some 41, none, .mov (.tmp 40), []⟩,
 ⟨15, some 42, some (41, true), .mov (.tmp 4), []⟩,
 ⟨16, some 43, some (41, true), .bin .leq .other (.tmp 42) (.const (.int .i64 24)), []⟩,
 ⟨17, some 44, none, .pick (.tmp 41) (.tmp 43) (.const (.bool false)), []⟩,
 ⟨18, some 45, none, .mov (.tmp 44), []⟩,
 ⟨19, some 46, some (45, true), .faddr 4 (.tmp 1), []⟩,
 ⟨20, some 47, some (45, true), .load false 1 (.tmp 46), []⟩,
 ⟨21, some 48, some (45, true), .lenV (.tmp 47), []⟩,
 ⟨22, some 49, some (45, true), .bin .leq .other (.tmp 48) (.const (.int .i64 4)), []⟩,
 ⟨23, some 50, none, .pick (.tmp 45) (.tmp 49) (.const (.bool false)), []⟩,
 ⟨24, some 51, none, .mov (.tmp 50), []⟩,
 ⟨25, some 52, some (51, true), .faddr 5 (.tmp 1), []⟩,
 ⟨26, some 53, some (51, true), .load false 1 (.tmp 52), []⟩,
 ⟨27, some 54, some (51, true), .lenV (.tmp 53), []⟩,
 ⟨28, some 55, some (51, true), .bin .leq .other (.tmp 54) (.const (.int .i64 12)), []⟩,
 ⟨29, some 56, none, .pick (.tmp 51) (.tmp 55) (.const (.bool false)), []⟩,
 ⟨30, some 2, none, .mov (.tmp 56), []⟩]) (
 .ret)
def ir36_k2 : ICode :=
 .seq (
 .seq (
 .region [
 ⟨0, some 7, none, .faddr 3 (.tmp 1), []⟩,
 ⟨1, some 8, none, .load false 1 (.tmp 7), []⟩,
 ⟨2, some 9, none, .lenV (.tmp 8), []⟩,
 ⟨3, some 10, none, .mov (.const (.int .i64 0)), []⟩]) (
 .block 0 (
 .loop ir36_l0))) ir36_k5
def ir36_k1 : ICode :=
 .seq (
 .region [
 ⟨0, some 3, none, .mov (.const (.int .i64 1)), []⟩,
 ⟨1, some 4, none, .mov (.const (.int .i64 0)), []⟩]) ir36_k2
def ir36_b : ICode :=
 .seq (
 .region [
 ⟨0, some 1, none, .box (.tmp 0), []⟩,
 ⟨1, some 2, none, .mov (.const (.bool false)), []⟩]) ir36_k1
def ir36 : IFunc := ⟨57, [.tmp 2], ir36_b⟩
theorem ir36_eq : cFunc Tryz.prog 36 = some ir36 := by kernel_rfl
theorem call36 {args : List Value} {m : Mem} {Φ : Value → Mem → Prop} (h : args.length ≤ 57) : WPCall Tryz.prog 36 args m Φ = WP Tryz.prog ir36_b (initσ args) m (retK [.tmp 2] Φ) := wpCall_def ir36_eq h
def ir37_k3 : ICode :=
 .seq (
 .region [
 ⟨0, some 14, none, .mov (.tmp 0), []⟩,
 ⟨1, some 15, none, .nilck (.tmp 14), []⟩,
 ⟨2, some 16, none, .faddr 17 (.tmp 15), []⟩,
 ⟨3, some 17, none, .load false 1 (.tmp 16), []⟩,
 ⟨4, some 18, none, .bin .eql .other (.tmp 17) (.const (.int .i64 0)), []⟩]) (
 .cond (.tmp 18) (
 .region [
 ⟨0, some 19, none, .mov (.tmp 2), []⟩,
 ⟨1, some 20, none, .load true 6 (.tmp 7), []⟩,
 ⟨2, some 21, none, .callv (.tmp 19) [.tmp 20], []⟩]) (
 .skip))
def ir37_k2 : ICode :=
 .seq (
 .block 1 (
 .seq (
 .region [
 ⟨0, some 12, none, .iaddr 6 (.tmp 8) (.tmp 10), []⟩,
 ⟨1, some 13, none, .load true 6 (.tmp 12), []⟩,
 ⟨2, some 7, none, .alloc [.string ⟨#[]⟩, .slice none 0 0, .slice none 0 0, .slice none 0 0, .int .i64 0, .int .i64 0], []⟩,
 ⟨3, none, none, .store 6 (.tmp 7) (.tmp 13), []⟩]) ir37_k3)) (
 .region [
 ⟨0, some 22, none, .bin .add .other (.tmp 10) (.const (.int .i64 1)), []⟩,
 ⟨1, some 10, none, .mov (.tmp 22), []⟩])
def ir37_k1 : ICode :=
 .seq (
 .cond (.tmp 11) (
 .skip) (
 .exit 0)) ir37_k2
def ir37_l0 : ICode :=
 .seq (
 .region [
 ⟨0, some 11, none, .bin .lss .other (.tmp 10) (.tmp 9), []⟩]) ir37_k1
def ir37_b : ICode :=
 .seq (
 .region [
 ⟨0, some 8, none, .mov (.tmp 1), []⟩,
 ⟨1, some 9, none, .lenV (.tmp 8), []⟩,
 ⟨2, some 10, none, .mov (.const (.int .i64 0)), []⟩]) (
 .block 0 (
 .loop ir37_l0))
def ir37 : IFunc := ⟨23, [], ir37_b⟩
theorem ir37_eq : cFunc Tryz.prog 37 = some ir37 := by kernel_rfl
theorem call37 {args : List Value} {m : Mem} {Φ : Value → Mem → Prop} (h : args.length ≤ 23) : WPCall Tryz.prog 37 args m Φ = WP Tryz.prog ir37_b (initσ args) m (retK [] Φ) := wpCall_def ir37_eq h
def ir39_k3 : ICode :=
 .seq (
 .region [
 ⟨0, some 14, none, .mov (.tmp 0), []⟩,
 ⟨1, some 15, none, .nilck (.tmp 14), []⟩,
 ⟨2, some 16, none, .faddr 17 (.tmp 15), []⟩,
 ⟨3, some 17, none, .load false 1 (.tmp 16), []⟩,
 ⟨4, some 18, none, .bin .eql .other (.tmp 17) (.const (.int .i64 0)), []⟩]) (
 .cond (.tmp 18) (
 .region [
 ⟨0, some 19, none, .mov (.tmp 2), []⟩,
 ⟨1, some 20, none, .load true 6 (.tmp 7), []⟩,
 ⟨2, some 21, none, .callv (.tmp 19) [.tmp 20], []⟩]) (
 .skip))
def ir39_k2 : ICode :=
 .seq (
 .block 1 (
 .seq (
 .region [
 ⟨0, some 12, none, .iaddr 6 (.tmp 8) (.tmp 10), []⟩,
 ⟨1, some 13, none, .load true 6 (.tmp 12), []⟩,
 ⟨2, some 7, none, .alloc [.string ⟨#[]⟩, .int .i64 0, .int .i64 0, .string ⟨#[]⟩, .int .i64 0, .int .i64 0], []⟩,
 ⟨3, none, none, .store 6 (.tmp 7) (.tmp 13), []⟩]) ir39_k3)) (
 .region [
 ⟨0, some 22, none, .bin .add .other (.tmp 10) (.const (.int .i64 1)), []⟩,
 ⟨1, some 10, none, .mov (.tmp 22), []⟩])
def ir39_k1 : ICode :=
 .seq (
 .cond (.tmp 11) (
 .skip) (
 .exit 0)) ir39_k2
def ir39_l0 : ICode :=
 .seq (
 .region [
 ⟨0, some 11, none, .bin .lss .other (.tmp 10) (.tmp 9), []⟩]) ir39_k1
def ir39_b : ICode :=
 .seq (
 .region [
 ⟨0, some 8, none, .mov (.tmp 1), []⟩,
 ⟨1, some 9, none, .lenV (.tmp 8), []⟩,
 ⟨2, some 10, none, .mov (.const (.int .i64 0)), []⟩]) (
 .block 0 (
 .loop ir39_l0))
def ir39 : IFunc := ⟨23, [], ir39_b⟩
theorem ir39_eq : cFunc Tryz.prog 39 = some ir39 := by kernel_rfl
theorem call39 {args : List Value} {m : Mem} {Φ : Value → Mem → Prop} (h : args.length ≤ 23) : WPCall Tryz.prog 39 args m Φ = WP Tryz.prog ir39_b (initσ args) m (retK [] Φ) := wpCall_def ir39_eq h
def ir40_k4 : ICode :=
 .seq (
 .region [
 ⟨0, some 38, none, .mov (.tmp 0), []⟩,
 ⟨1, some 39, none, .faddr 1 (.tmp 3), []⟩,
 ⟨2, some 40, none, .load false 1 (.tmp 39), []⟩,
 ⟨9, some 47, none, .faddr 4 (.tmp 3), []⟩,
 ⟨10, some 48, none, .load true 2 (.tmp 47), []⟩,
 ⟨3, some 41, none, .call 21 [.tmp 40, .const (.int .i64 1), .const (.int .i64 16)], [(.tmp 47, .tmp 47)]⟩,
 ⟨4, some 42, none, .mov (.tmp 41), []⟩,
 ⟨5, some 43, some (42, true), .faddr 2 (.tmp 3), []⟩,
 ⟨6, some 44, some (42, true), .load false 1 (.tmp 43), []⟩,
 ⟨7, some 45, some (42, true), .call 21 [.tmp 44, .const (.int .i64 1), .const (.int .i64 64)], [(.tmp 47, .tmp 47)]⟩,
 ⟨8, some 46, none, .pick (.tmp 42) (.tmp 45) (.const (.bool false)), []⟩,
 ⟨11, some 49, none, .call 35 [.tmp 38, .tmp 46, .const (.int .i64 5), .tmp 48], []⟩]) (
 .region [
 ⟨0, some 50, none, .mov (.tmp 0), []⟩,
 ⟨1, some 51, none, .mov (.tmp 0), []⟩,
 ⟨2, some 52, none, .nilck (.tmp 51), []⟩,
 ⟨3, some 53, none, .faddr 0 (.tmp 52), []⟩,
 ⟨4, some 54, none, .faddr 2 (.tmp 53), []⟩,
 ⟨5, some 55, none, .load false 1 (.tmp 54), []⟩,
 ⟨6, some 56, none, .faddr 0 (.tmp 3), []⟩,
 ⟨7, some 57, none, .load false 1 (.tmp 56), []⟩,
 ⟨8, some 58, none, .faddr 1 (.tmp 3), []⟩,
 ⟨9, some 59, none, .load false 1 (.tmp 58), []⟩,
 ⟨10, some 60, none, .faddr 2 (.tmp 3), []⟩,
 ⟨11, some 61, none, .load false 1 (.tmp 60), []⟩,
 ⟨12, some 62, none, .mov (.tmp 4), []⟩,
 ⟨13, some 63, none, .build [.string ⟨#[]⟩, .int .i64 0, .int .i64 0, .int .i64 0] [(0, 1, .tmp 57), (1, 1, .tmp 59), (2, 1, .tmp 61), (3, 1, .tmp 62)], []⟩,
 ⟨14, some 64, none, .bslice 4 1 [.string ⟨#[]⟩, .int .i64 0, .int .i64 0, .int .i64 0] [(0, 4, .tmp 63)], []⟩,
 ⟨15, some 65, none, .app 4 40 (.tmp 55) (.tmp 64), []⟩,
 ⟨16, some 66, none, .nilck (.tmp 50), []⟩,
 ⟨17, some 67, none, .faddr 0 (.tmp 66), []⟩,
 ⟨18, some 68, none, .faddr 2 (.tmp 67), []⟩,
 ⟨19, none, none, .store 1 (.tmp 68) (.tmp 65), []⟩])
def ir40_k3 : ICode :=
 .seq (
 .region [
 ⟨0, some 33, none, .mov (.tmp 0), []⟩,
 ⟨1, some 34, none, .mov (.tmp 5), []⟩,
 ⟨2, some 35, none, .faddr 4 (.tmp 3), []⟩,
 ⟨3, some 36, none, .load true 2 (.tmp 35), []⟩,
 ⟨4, some 37, none, .call 35 [.tmp 33, .tmp 34, .const (.int .i64 7), .tmp 36], []⟩]) ir40_k4
def ir40_k2 : ICode :=
 .seq (
 .region [
 ⟨0, some 24, none, .mov (.tmp 0), []⟩,
 ⟨1, some 25, none, .nilck (.tmp 24), []⟩,
 ⟨2, some 26, none, .faddr 7 (.tmp 25), []⟩,
 ⟨3, some 27, none, .load false 1 (.tmp 26), []⟩,
 ⟨4, some 28, none, .faddr 3 (.tmp 3), []⟩,
 ⟨5, some 29, none, .load false 1 (.tmp 28), []⟩,
 ⟨6, some 30, none, .mlook .str (.int .i64 0) true (.tmp 27) (.tmp 29), []⟩,
 ⟨7, some 23, none, .mov (.tmp 30), []⟩,
 ⟨8, some 31, none, .ext 0 (.tmp 23), []⟩,
 ⟨9, some 32, none, .ext 1 (.tmp 23), []⟩,
 ⟨10, some 4, none, .mov (.tmp 31), []⟩,
 ⟨11, some 5, none, .mov (.tmp 32), []⟩]) ir40_k3
def ir40_k1 : ICode :=
 .seq (
 .seq (
 .region [
 ⟨0, some 6, none, .mov (.tmp 0), []⟩,
 ⟨1, some 7, none, .mov (.tmp 0), []⟩,
 ⟨2, some 8, none, .nilck (.tmp 7), []⟩,
 ⟨3, some 9, none, .faddr 8 (.tmp 8), []⟩,
 ⟨4, some 10, none, .load false 1 (.tmp 9), []⟩,
 ⟨5, some 11, none, .faddr 0 (.tmp 3), []⟩,
 ⟨6, some 12, none, .load false 1 (.tmp 11), []⟩,
 ⟨7, some 13, none, .mov (.tmp 0), []⟩,
 ⟨8, some 14, none, .nilck (.tmp 13), []⟩,
 ⟨9, some 15, none, .faddr 0 (.tmp 14), []⟩,
 ⟨10, some 16, none, .faddr 2 (.tmp 15), []⟩,
 ⟨11, some 17, none, .load false 1 (.tmp 16), []⟩,
 ⟨12, some 18, none, .lenV (.tmp 17), []⟩,
 ⟨13, some 19, none, .faddr 4 (.tmp 3), []⟩,
 ⟨14, some 20, none, .load true 2 (.tmp 19), []⟩,
 ⟨15, some 21, none, .call 101 [.tmp 6, .tmp 10, .tmp 12, .tmp 18, .tmp 20], []⟩,
 ⟨16, some 22, none, .un .not (.tmp 21), []⟩]) (
 .cond (.tmp 22) (
 .ret) (
 .skip))) ir40_k2
def ir40_b : ICode :=
 .seq (
 .region [
 ⟨0, some 3, none, .box (.tmp 1), []⟩]) ir40_k1
def ir40 : IFunc := ⟨69, [], ir40_b⟩
theorem ir40_eq : cFunc Tryz.prog 40 = some ir40 := by kernel_rfl
theorem call40 {args : List Value} {m : Mem} {Φ : Value → Mem → Prop} (h : args.length ≤ 69) : WPCall Tryz.prog 40 args m Φ = WP Tryz.prog ir40_b (initσ args) m (retK [] Φ) := wpCall_def ir40_eq h
def ir41_k3 : ICode :=
 .seq (
 .region [
 ⟨0, some 14, none, .mov (.tmp 0), []⟩,
 ⟨1, some 15, none, .nilck (.tmp 14), []⟩,
 ⟨2, some 16, none, .faddr 17 (.tmp 15), []⟩,
 ⟨3, some 17, none, .load false 1 (.tmp 16), []⟩,
 ⟨4, some 18, none, .bin .eql .other (.tmp 17) (.const (.int .i64 0)), []⟩]) (
 .cond (.tmp 18) (
 .region [
 ⟨0, some 19, none, .mov (.tmp 2), []⟩,
 ⟨1, some 20, none, .load true 9 (.tmp 7), []⟩,
 ⟨2, some 21, none, .callv (.tmp 19) [.tmp 20], []⟩]) (
 .skip))
def ir41_k2 : ICode :=
 .seq (
 .block 1 (
 .seq (
 .region [
 ⟨0, some 12, none, .iaddr 9 (.tmp 8) (.tmp 10), []⟩,
 ⟨1, some 13, none, .load true 9 (.tmp 12), []⟩,
 ⟨2, some 7, none, .alloc [.int .i64 0, .string ⟨#[]⟩, .int .i64 0, .bool false, .slice none 0 0, .slice none 0 0, .string ⟨#[]⟩, .int .i64 0, .int .i64 0], []⟩,
 ⟨3, none, none, .store 9 (.tmp 7) (.tmp 13), []⟩]) ir41_k3)) (
 .region [
 ⟨0, some 22, none, .bin .add .other (.tmp 10) (.const (.int .i64 1)), []⟩,
 ⟨1, some 10, none, .mov (.tmp 22), []⟩])
def ir41_k1 : ICode :=
 .seq (
 .cond (.tmp 11) (
 .skip) (
 .exit 0)) ir41_k2
def ir41_l0 : ICode :=
 .seq (
 .region [
 ⟨0, some 11, none, .bin .lss .other (.tmp 10) (.tmp 9), []⟩]) ir41_k1
def ir41_b : ICode :=
 .seq (
 .region [
 ⟨0, some 8, none, .mov (.tmp 1), []⟩,
 ⟨1, some 9, none, .lenV (.tmp 8), []⟩,
 ⟨2, some 10, none, .mov (.const (.int .i64 0)), []⟩]) (
 .block 0 (
 .loop ir41_l0))
def ir41 : IFunc := ⟨23, [], ir41_b⟩
theorem ir41_eq : cFunc Tryz.prog 41 = some ir41 := by kernel_rfl
theorem call41 {args : List Value} {m : Mem} {Φ : Value → Mem → Prop} (h : args.length ≤ 23) : WPCall Tryz.prog 41 args m Φ = WP Tryz.prog ir41_b (initσ args) m (retK [] Φ) := wpCall_def ir41_eq h
def ir43_k3 : ICode :=
 .seq (
 .region [
 ⟨0, some 14, none, .mov (.tmp 0), []⟩,
 ⟨1, some 15, none, .nilck (.tmp 14), []⟩,
 ⟨2, some 16, none, .faddr 17 (.tmp 15), []⟩,
 ⟨3, some 17, none, .load false 1 (.tmp 16), []⟩,
 ⟨4, some 18, none, .bin .eql .other (.tmp 17) (.const (.int .i64 0)), []⟩]) (
 .cond (.tmp 18) (
 .region [
 ⟨0, some 19, none, .mov (.tmp 2), []⟩,
 ⟨1, some 20, none, .load true 19 (.tmp 7), []⟩,
 ⟨2, some 21, none, .callv (.tmp 19) [.tmp 20], []⟩]) (
 .skip))
def ir43_k2 : ICode :=
 .seq (
 .block 1 (
 .seq (
 .region [
 ⟨0, some 12, none, .iaddr 19 (.tmp 8) (.tmp 10), []⟩,
 ⟨1, some 13, none, .load true 19 (.tmp 12), []⟩,
 ⟨2, some 7, none, .alloc [.string ⟨#[]⟩, .int .i64 0, .int .i64 0, .int .i64 0, .int .i64 0, .int .i64 0, .int .i64 0, .int .i64 0, .int .i64 0, .slice none 0 0, .slice none 0 0, .bool false, .slice none 0 0, .slice none 0 0, .bool false, .slice none 0 0, .slice none 0 0, .int .i64 0, .int .i64 0], []⟩,
 ⟨3, none, none, .store 19 (.tmp 7) (.tmp 13), []⟩]) ir43_k3)) (
 .region [
 ⟨0, some 22, none, .bin .add .other (.tmp 10) (.const (.int .i64 1)), []⟩,
 ⟨1, some 10, none, .mov (.tmp 22), []⟩])
def ir43_k1 : ICode :=
 .seq (
 .cond (.tmp 11) (
 .skip) (
 .exit 0)) ir43_k2
def ir43_l0 : ICode :=
 .seq (
 .region [
 ⟨0, some 11, none, .bin .lss .other (.tmp 10) (.tmp 9), []⟩]) ir43_k1
def ir43_b : ICode :=
 .seq (
 .region [
 ⟨0, some 8, none, .mov (.tmp 1), []⟩,
 ⟨1, some 9, none, .lenV (.tmp 8), []⟩,
 ⟨2, some 10, none, .mov (.const (.int .i64 0)), []⟩]) (
 .block 0 (
 .loop ir43_l0))
def ir43 : IFunc := ⟨23, [], ir43_b⟩
theorem ir43_eq : cFunc Tryz.prog 43 = some ir43 := by kernel_rfl
theorem call43 {args : List Value} {m : Mem} {Φ : Value → Mem → Prop} (h : args.length ≤ 23) : WPCall Tryz.prog 43 args m Φ = WP Tryz.prog ir43_b (initσ args) m (retK [] Φ) := wpCall_def ir43_eq h
def ir45_k3 : ICode :=
 .seq (
 .region [
 ⟨0, some 14, none, .mov (.tmp 0), []⟩,
 ⟨1, some 15, none, .nilck (.tmp 14), []⟩,
 ⟨2, some 16, none, .faddr 17 (.tmp 15), []⟩,
 ⟨3, some 17, none, .load false 1 (.tmp 16), []⟩,
 ⟨4, some 18, none, .bin .eql .other (.tmp 17) (.const (.int .i64 0)), []⟩]) (
 .cond (.tmp 18) (
 .region [
 ⟨0, some 19, none, .mov (.tmp 2), []⟩,
 ⟨1, some 20, none, .load true 4 (.tmp 7), []⟩,
 ⟨2, some 21, none, .callv (.tmp 19) [.tmp 20], []⟩]) (
 .skip))
def ir45_k2 : ICode :=
 .seq (
 .block 1 (
 .seq (
 .region [
 ⟨0, some 12, none, .iaddr 4 (.tmp 8) (.tmp 10), []⟩,
 ⟨1, some 13, none, .load true 4 (.tmp 12), []⟩,
 ⟨2, some 7, none, .alloc [.string ⟨#[]⟩, .string ⟨#[]⟩, .int .i64 0, .int .i64 0], []⟩,
 ⟨3, none, none, .store 4 (.tmp 7) (.tmp 13), []⟩]) ir45_k3)) (
 .region [
 ⟨0, some 22, none, .bin .add .other (.tmp 10) (.const (.int .i64 1)), []⟩,
 ⟨1, some 10, none, .mov (.tmp 22), []⟩])
def ir45_k1 : ICode :=
 .seq (
 .cond (.tmp 11) (
 .skip) (
 .exit 0)) ir45_k2
def ir45_l0 : ICode :=
 .seq (
 .region [
 ⟨0, some 11, none, .bin .lss .other (.tmp 10) (.tmp 9), []⟩]) ir45_k1
def ir45_b : ICode :=
 .seq (
 .region [
 ⟨0, some 8, none, .mov (.tmp 1), []⟩,
 ⟨1, some 9, none, .lenV (.tmp 8), []⟩,
 ⟨2, some 10, none, .mov (.const (.int .i64 0)), []⟩]) (
 .block 0 (
 .loop ir45_l0))
def ir45 : IFunc := ⟨23, [], ir45_b⟩
theorem ir45_eq : cFunc Tryz.prog 45 = some ir45 := by kernel_rfl
theorem call45 {args : List Value} {m : Mem} {Φ : Value → Mem → Prop} (h : args.length ≤ 23) : WPCall Tryz.prog 45 args m Φ = WP Tryz.prog ir45_b (initσ args) m (retK [] Φ) := wpCall_def ir45_eq h
def ir63_k7 : ICode :=
 .seq (
 .region [
 ⟨0, some 52, none, .faddr 2 (.tmp 5), []⟩,
 ⟨1, some 53, none, .load false 1 (.tmp 52), []⟩,
 ⟨2, some 54, none, .mov (.tmp 4), []⟩,
 ⟨3, some 55, none, .call 21 [.tmp 53, .const (.int .i64 0), .tmp 54], []⟩,
 ⟨4, some 56, none, .un .not (.tmp 55), []⟩,
 ⟨5, some 57, none, .mov (.tmp 56), []⟩,
 ⟨6, some 58, some (57, false), .faddr 3 (.tmp 1), []⟩,
 ⟨7, some 59, some (57, false), .load false 1 (.tmp 58), []⟩,
 ⟨8, some 60, some (57, false), .faddr 2 (.tmp 5), []⟩,
 ⟨9, some 61, some (57, false), .load false 1 (.tmp 60), []⟩,
 ⟨10, some 62, some (57, false), .iaddr 7 (.tmp 59) (.tmp 61), []⟩,
 ⟨11, some 63, some (57, false), .faddr 1 (.tmp 62), []⟩,
 ⟨12, some 64, some (57, false), .load false 1 (.tmp 63), []⟩,
 ⟨13, some 65, some (57, false), .faddr 1 (.tmp 5), []⟩,
 ⟨14, some 66, some (57, false), .load false 1 (.tmp 65), []⟩,
 ⟨15, some 67, some (57, false), .bin .sub .other (.tmp 66) (.const (.int .i64 1)), []⟩,
 ⟨16, some 68, some (57, false), .bin .neq .other (.tmp 64) (.tmp 67), []⟩,
 ⟨17, some 69, none, .pick (.tmp 57) (.const (.bool true)) (.tmp 68), []⟩,
 ⟨18, some 70, none, .mov (.tmp 69), []⟩,
 ⟨19, some 71, some (70, false), .faddr 1 (.tmp 5), []⟩,
 ⟨20, some 72, some (70, false), .load false 1 (.tmp 71), []⟩,
 ⟨21, some 73, some (70, false), .call 21 [.tmp 72, .const (.int .i64 1), .const (.int .i64 4)], []⟩,
 ⟨22, some 74, some (70, false), .un .not (.tmp 73), []⟩,
 ⟨23, some 75, none, .pick (.tmp 70) (.const (.bool true)) (.tmp 74), []⟩,
 ⟨24, some 76, none, .mov (.tmp 75), []⟩,
 ⟨25, some 77, some (76, false), .faddr 3 (.tmp 5), []⟩,
 ⟨26, some 78, some (76, false), .load false 1 (.tmp 77), []⟩,
 ⟨27, some 79, some (76, false), .call 21 [.tmp 78, .const (.int .i64 1), .const (.int .i64 64)], []⟩,
 ⟨28, some 80, some (76, false), .un .not (.tmp 79), []⟩,
 ⟨29, some 81, none, .pick (.tmp 76) (.const (.bool true)) (.tmp 80), []⟩,
 ⟨30, some 82, none, .mov (.tmp 81), []⟩,
 ⟨31, some 83, some (82, false), .faddr 4 (.tmp 5), []⟩,
 ⟨32, some 84, some (82, false), .load true 3 (.tmp 83), []⟩,
 ⟨33, some 85, some (82, false), .call 23 [.tmp 84], []⟩,
 ⟨34, some 86, some (82, false), .un .not (.tmp 85), []⟩,
 ⟨35, some 87, none, .pick (.tmp 82) (.const (.bool true)) (.tmp 86), []⟩]) (
 .cond (.tmp 87) (
 .seq (
 .region [
 ⟨0, some 2, none, .mov (.const (.bool false)), []⟩]) (
 .ret)) (
 .skip))
def ir63_k6 : ICode :=
 .seq (
 .block 1 (
 .seq (
 .region [
 ⟨0, some 49, none, .mov (.tmp 47), []⟩,
 ⟨1, some 50, none, .iaddr 7 (.tmp 45) (.tmp 47), []⟩,
 ⟨2, some 51, none, .load true 7 (.tmp 50), []⟩,
 ⟨3, some 5, none, .alloc [.string ⟨#[]⟩, .int .i64 0, .int .i64 0, .int .i64 0, .bool false, .slice none 0 0, .slice none 0 0], []⟩,
 ⟨4, some 4, none, .mov (.tmp 49), []⟩,
 ⟨5, none, none, .store 7 (.tmp 5) (.tmp 51), []⟩]) ir63_k7)) (
 .region [
 ⟨0, some 88, none, .bin .add .other (.tmp 47) (.const (.int .i64 1)), []⟩,
 ⟨1, some 47, none, .mov (.tmp 88), []⟩])
def ir63_k5 : ICode :=
 .seq (
 .cond (.tmp 48) (
 .skip) (
 .exit 0)) ir63_k6
def ir63_l0 : ICode :=
 .seq (
 .region [
 ⟨0, some 48, none, .bin .lss .other (.tmp 47) (.tmp 46), []⟩]) ir63_k5
def ir63_k8 : ICode :=
 .seq (
 .region [
 ⟨0, some 2, none, .mov (.const (.bool true)), []⟩]) (
 .ret)
def ir63_k4 : ICode :=
 .seq (
 .seq (
 .region [
 ⟨0, some 43, none, .faddr 3 (.tmp 1), []⟩,
 ⟨1, some 44, none, .load false 1 (.tmp 43), []⟩,
 ⟨2, some 45, none, .sliceS 7 (.tmp 44) (some (.const (.int .i64 1))) none, []⟩,
 ⟨3, some 46, none, .lenV (.tmp 45), []⟩,
 ⟨4, some 47, none, .mov (.const (.int .i64 0)), []⟩]) (
 .block 0 (
 .loop ir63_l0))) ir63_k8
def ir63_k3 : ICode :=
 .seq (
 .seq (
 .region [
 ⟨0, some 14, none, .faddr 0 (.tmp 3), []⟩,
 ⟨1, some 15, none, .load false 1 (.tmp 14), []⟩,
 ⟨2, some 16, none, .bin .neq .other (.tmp 15) (.const (.string ⟨#[]⟩)), []⟩,
 ⟨3, some 17, none, .mov (.tmp 16), []⟩,
 ⟨4, some 18, some (17, false), .faddr 1 (.tmp 3), []⟩,
 ⟨5, some 19, some (17, false), .load false 1 (.tmp 18), []⟩,
 ⟨6, some 20, some (17, false), .bin .neq .other (.tmp 19) (.const (.int .i64 0)), []⟩,
 ⟨7, some 21, none, .pick (.tmp 17) (.const (.bool true)) (.tmp 20), []⟩,
 ⟨8, some 22, none, .mov (.tmp 21), []⟩,
 ⟨9, some 23, some (22, false), .faddr 2 (.tmp 3), []⟩,
 ⟨10, some 24, some (22, false), .load false 1 (.tmp 23), []⟩,
 ⟨11, some 25, some (22, false), .bin .neq .other (.tmp 24) (.const (.int .i64 (-1))), []⟩,
 ⟨12, some 26, none, .pick (.tmp 22) (.const (.bool true)) (.tmp 25), []⟩,
 ⟨13, some 27, none, .mov (.tmp 26), []⟩,
 ⟨14, some 28, some (27, false), .faddr 3 (.tmp 3), []⟩,
 ⟨15, some 29, some (27, false), .load false 1 (.tmp 28), []⟩,
 ⟨16, some 30, some (27, false), .bin .neq .other (.tmp 29) (.const (.int .i64 0)), []⟩,
 ⟨17, some 31, none, .pick (.tmp 27) (.const (.bool true)) (.tmp 30), []⟩,
 ⟨18, some 32, none, .mov (.tmp 31), []⟩,
 ⟨19, some 33, some (32, false), .faddr 4 (.tmp 3), []⟩,
 ⟨20, some 34, some (32, false), .load true 3 (.tmp 33), []⟩,
 ⟨21, some 35, some (32, false), .call 23 [.tmp 34], []⟩,
 ⟨22, some 36, some (32, false), .un .not (.tmp 35), []⟩,
 ⟨23, some 37, none, .pick (.tmp 32) (.const (.bool true)) (.tmp 36), []⟩,
 ⟨24, some 38, none, .mov (.tmp 37), []⟩,
 ⟨25, some 39, some (38, false), .faddr 4 (.tmp 3), []⟩,
 ⟨26, some 40, some (38, false), .load true 3 (.tmp 39), []⟩,
 ⟨27, some 41, some (38, false), .call 24 [.tmp 40], []⟩,
 ⟨28, some 42, none, .pick (.tmp 38) (.const (.bool true)) (.tmp 41), []⟩]) (
 .cond (.tmp 42) (
 .seq (
 .region [
 ⟨0, some 2, none, .mov (.const (.bool false)), []⟩]) (
 .ret)) (
 .skip))) ir63_k4
def ir63_k2 : ICode :=
 .seq (
 .region [
 ⟨0, some 10, none, .faddr 3 (.tmp 1), []⟩,
 ⟨1, some 11, none, .load false 1 (.tmp 10), []⟩,
 ⟨2, some 12, none, .iaddr 7 (.tmp 11) (.const (.int .i64 0)), []⟩,
 ⟨3, some 13, none, .load true 7 (.tmp 12), []⟩,
 ⟨4, some 3, none, .alloc [.string ⟨#[]⟩, .int .i64 0, .int .i64 0, .int .i64 0, .bool false, .slice none 0 0, .slice none 0 0], []⟩,
 ⟨5, none, none, .store 7 (.tmp 3) (.tmp 13), []⟩]) ir63_k3
def ir63_k1 : ICode :=
 .seq (
 .seq (
 .region [
 ⟨0, some 6, none, .faddr 3 (.tmp 1), []⟩,
 ⟨1, some 7, none, .load false 1 (.tmp 6), []⟩,
 ⟨2, some 8, none, .lenV (.tmp 7), []⟩,
 ⟨3, some 9, none, .bin .eql .other (.tmp 8) (.const (.int .i64 0)), []⟩]) (
 .cond (.tmp 9) (
 .seq (
 .region [
 ⟨0, some 2, none, .mov (.const (.bool false)), []⟩]) (
 .ret)) (
 .skip))) ir63_k2
def ir63_b : ICode :=
 .seq (
 .region [
 ⟨0, some 1, none, .box (.tmp 0), []⟩,
 ⟨1, some 2, none, .mov (.const (.bool false)), []⟩]) ir63_k1
def ir63 : IFunc := ⟨89, [.tmp 2], ir63_b⟩
theorem ir63_eq : cFunc Tryz.prog 63 = some ir63 := by kernel_rfl
theorem call63 {args : List Value} {m : Mem} {Φ : Value → Mem → Prop} (h : args.length ≤ 89) : WPCall Tryz.prog 63 args m Φ = WP Tryz.prog ir63_b (initσ args) m (retK [.tmp 2] Φ) := wpCall_def ir63_eq h
def ir65_k5 : ICode :=
 .seq (
 .seq (
 .region [
 ⟨0, some 13, none, .mov (.tmp 5), []⟩,
 ⟨1, some 14, none, .call 112 [.tmp 13], []⟩,
 ⟨2, some 15, none, .un .not (.tmp 14), []⟩,
 ⟨3, some 16, none, .mov (.tmp 15), []⟩,
 ⟨4, some 17, some (16, false), .mov (.tmp 3), []⟩,
 ⟨5, some 18, some (16, false), .mov (.tmp 5), []⟩,
 ⟨6, some 19, some (16, false), .mlook .str (.bool false) false (.tmp 17) (.tmp 18), []⟩,
 ⟨7, some 20, none, .pick (.tmp 16) (.const (.bool true)) (.tmp 19), []⟩]) (
 .cond (.tmp 20) (
 .seq (
 .region [
 ⟨0, some 2, none, .mov (.const (.bool false)), []⟩]) (
 .ret)) (
 .skip))) (
 .region [
 ⟨0, some 21, none, .mov (.tmp 3), []⟩,
 ⟨1, some 22, none, .mov (.tmp 5), []⟩,
 ⟨2, none, none, .mput .str (.tmp 21) (.tmp 22) (.const (.bool true)), []⟩])
def ir65_k4 : ICode :=
 .seq (
 .block 1 (
 .seq (
 .region [
 ⟨0, some 11, none, .iaddr 1 (.tmp 7) (.tmp 9), []⟩,
 ⟨1, some 12, none, .load false 1 (.tmp 11), []⟩,
 ⟨2, some 5, none, .mov (.tmp 12), []⟩]) ir65_k5)) (
 .region [
 ⟨0, some 23, none, .bin .add .other (.tmp 9) (.const (.int .i64 1)), []⟩,
 ⟨1, some 9, none, .mov (.tmp 23), []⟩])
def ir65_k3 : ICode :=
 .seq (
 .cond (.tmp 10) (
 .skip) (
 .exit 0)) ir65_k4
def ir65_l0 : ICode :=
 .seq (
 .region [
 ⟨0, some 10, none, .bin .lss .other (.tmp 9) (.tmp 8), []⟩]) ir65_k3
def ir65_k6 : ICode :=
 .seq (
 .region [
 ⟨0, some 2, none, .mov (.const (.bool true)), []⟩]) (
 .ret)
def ir65_k2 : ICode :=
 .seq (
 .seq (
 .region [
 ⟨0, some 7, none, .mov (.tmp 0), []⟩,
 ⟨1, some 8, none, .lenV (.tmp 7), []⟩,
 ⟨2, some 9, none, .mov (.const (.int .i64 0)), []⟩]) (
 .block 0 (
 .loop ir65_l0))) ir65_k6
def ir65_k1 : ICode :=
 .seq (
 .region [
 ⟨0, some 6, none, .mkmap, []⟩,
 ⟨1, some 3, none, .mov (.tmp 6), []⟩]) ir65_k2
def ir65_b : ICode :=
 .seq (
 .region [
 ⟨0, some 2, none, .mov (.const (.bool false)), []⟩]) ir65_k1
def ir65 : IFunc := ⟨24, [.tmp 2], ir65_b⟩
theorem ir65_eq : cFunc Tryz.prog 65 = some ir65 := by kernel_rfl
theorem call65 {args : List Value} {m : Mem} {Φ : Value → Mem → Prop} (h : args.length ≤ 24) : WPCall Tryz.prog 65 args m Φ = WP Tryz.prog ir65_b (initσ args) m (retK [.tmp 2] Φ) := wpCall_def ir65_eq h
def ir67_k4 : ICode :=
 .seq (
 .block 1 (
 .seq (
 .region [
 ⟨0, some 20, none, .iaddr 1 (.tmp 16) (.tmp 18), []⟩,
 ⟨1, some 21, none, .load false 1 (.tmp 20), []⟩,
 ⟨2, some 5, none, .mov (.tmp 21), []⟩]) (
 .region [
 ⟨0, some 22, none, .faddr 2 (.tmp 3), []⟩,
 ⟨1, some 23, none, .load false 1 (.tmp 22), []⟩,
 ⟨2, some 24, none, .mov (.tmp 5), []⟩,
 ⟨3, some 25, none, .call 68 [.tmp 24], [(.tmp 22, .tmp 22)]⟩,
 ⟨4, some 26, none, .bslice 1 1 [.slice none 0 0] [(0, 1, .tmp 25)], []⟩,
 ⟨5, some 27, none, .app 1 24 (.tmp 23) (.tmp 26), []⟩,
 ⟨6, some 28, none, .faddr 2 (.tmp 3), []⟩,
 ⟨7, none, none, .store 1 (.tmp 28) (.tmp 27), []⟩]))) (
 .region [
 ⟨0, some 29, none, .bin .add .other (.tmp 18) (.const (.int .i64 1)), []⟩,
 ⟨1, some 18, none, .mov (.tmp 29), []⟩])
def ir67_k3 : ICode :=
 .seq (
 .cond (.tmp 19) (
 .skip) (
 .exit 0)) ir67_k4
def ir67_l0 : ICode :=
 .seq (
 .region [
 ⟨0, some 19, none, .bin .lss .other (.tmp 18) (.tmp 17), []⟩]) ir67_k3
def ir67_k5 : ICode :=
 .seq (
 .region [
 ⟨0, some 30, none, .load true 4 (.tmp 3), []⟩,
 ⟨1, none, none, .store 4 (.tmp 2) (.tmp 30), []⟩]) (
 .ret)
def ir67_k2 : ICode :=
 .seq (
 .seq (
 .region [
 ⟨0, some 15, none, .faddr 2 (.tmp 1), []⟩,
 ⟨1, some 16, none, .load false 1 (.tmp 15), []⟩,
 ⟨2, some 17, none, .lenV (.tmp 16), []⟩,
 ⟨3, some 18, none, .mov (.const (.int .i64 0)), []⟩]) (
 .block 0 (
 .loop ir67_l0))) ir67_k5
def ir67_k1 : ICode :=
 .seq (
 .region [
 ⟨0, some 6, none, .faddr 0 (.tmp 1), []⟩,
 ⟨1, some 7, none, .load false 1 (.tmp 6), []⟩,
 ⟨2, some 8, none, .faddr 1 (.tmp 1), []⟩,
 ⟨3, some 9, none, .load false 1 (.tmp 8), []⟩,
 ⟨5, some 11, none, .faddr 3 (.tmp 1), []⟩,
 ⟨6, some 12, none, .load false 1 (.tmp 11), []⟩,
 ⟨4, some 10, none, .call 68 [.tmp 9], [(.tmp 11, .tmp 11), (.tmp 6, .tmp 6)]⟩,
 ⟨7, some 13, none, .call 68 [.tmp 12], [(.tmp 6, .tmp 6)]⟩,
 ⟨8, some 14, none, .build [.string ⟨#[]⟩, .slice none 0 0, .slice none 0 0, .slice none 0 0] [(0, 1, .tmp 7), (1, 1, .tmp 10), (3, 1, .tmp 13)], []⟩,
 ⟨9, some 3, none, .alloc [.string ⟨#[]⟩, .slice none 0 0, .slice none 0 0, .slice none 0 0], []⟩,
 ⟨10, none, none, .store 4 (.tmp 3) (.tmp 14), []⟩]) ir67_k2
def ir67_b : ICode :=
 .seq (
 .region [
 ⟨0, some 1, none, .box (.tmp 0), []⟩,
 ⟨1, some 2, none, .alloc [.string ⟨#[]⟩, .slice none 0 0, .slice none 0 0, .slice none 0 0], []⟩]) ir67_k1
def ir67 : IFunc := ⟨31, [.cell 2 true 4], ir67_b⟩
theorem ir67_eq : cFunc Tryz.prog 67 = some ir67 := by kernel_rfl
theorem call67 {args : List Value} {m : Mem} {Φ : Value → Mem → Prop} (h : args.length ≤ 31) : WPCall Tryz.prog 67 args m Φ = WP Tryz.prog ir67_b (initσ args) m (retK [.cell 2 true 4] Φ) := wpCall_def ir67_eq h
def ir68_k5 : ICode :=
 .seq (
 .region [
 ⟨0, some 15, none, .load true 3 (.tmp 5), []⟩,
 ⟨1, some 16, none, .call 86 [.tmp 15], []⟩,
 ⟨2, some 14, none, .mov (.tmp 16), []⟩,
 ⟨3, some 17, none, .ext 0 (.tmp 14), []⟩,
 ⟨4, some 18, none, .ext 1 (.tmp 14), []⟩,
 ⟨5, some 6, none, .alloc [.bool false, .slice none 0 0, .slice none 0 0], []⟩,
 ⟨6, none, none, .store 3 (.tmp 6) (.tmp 17), []⟩,
 ⟨7, some 7, none, .mov (.tmp 18), []⟩]) (
 .region [
 ⟨0, some 19, none, .mov (.tmp 3), []⟩,
 ⟨1, some 20, none, .load true 3 (.tmp 6), []⟩,
 ⟨2, some 21, none, .bslice 3 1 [.bool false, .slice none 0 0, .slice none 0 0] [(0, 3, .tmp 20)], []⟩,
 ⟨3, some 22, none, .app 3 56 (.tmp 19) (.tmp 21), []⟩,
 ⟨4, some 3, none, .mov (.tmp 22), []⟩])
def ir68_k4 : ICode :=
 .seq (
 .block 1 (
 .seq (
 .region [
 ⟨0, some 12, none, .iaddr 3 (.tmp 8) (.tmp 10), []⟩,
 ⟨1, some 13, none, .load true 3 (.tmp 12), []⟩,
 ⟨2, some 5, none, .alloc [.bool false, .slice none 0 0, .slice none 0 0], []⟩,
 ⟨3, none, none, .store 3 (.tmp 5) (.tmp 13), []⟩]) ir68_k5)) (
 .region [
 ⟨0, some 23, none, .bin .add .other (.tmp 10) (.const (.int .i64 1)), []⟩,
 ⟨1, some 10, none, .mov (.tmp 23), []⟩])
def ir68_k3 : ICode :=
 .seq (
 .cond (.tmp 11) (
 .skip) (
 .exit 0)) ir68_k4
def ir68_l0 : ICode :=
 .seq (
 .region [
 ⟨0, some 11, none, .bin .lss .other (.tmp 10) (.tmp 9), []⟩]) ir68_k3
def ir68_k6 : ICode :=
 .seq (
 .region [
 ⟨0, some 24, none, .mov (.tmp 3), []⟩,
 ⟨1, some 2, none, .mov (.tmp 24), []⟩]) (
 .ret)
def ir68_k2 : ICode :=
 .seq (
 .seq (
 .region [
 ⟨0, some 8, none, .mov (.tmp 0), []⟩,
 ⟨1, some 9, none, .lenV (.tmp 8), []⟩,
 ⟨2, some 10, none, .mov (.const (.int .i64 0)), []⟩]) (
 .block 0 (
 .loop ir68_l0))) ir68_k6
def ir68_k1 : ICode :=
 .seq (
 .region [
 ⟨0, some 3, none, .mov (.const (.slice none 0 0)), []⟩]) ir68_k2
def ir68_b : ICode :=
 .seq (
 .region [
 ⟨0, some 2, none, .mov (.const (.slice none 0 0)), []⟩]) ir68_k1
def ir68 : IFunc := ⟨25, [.tmp 2], ir68_b⟩
theorem ir68_eq : cFunc Tryz.prog 68 = some ir68 := by kernel_rfl
theorem call68 {args : List Value} {m : Mem} {Φ : Value → Mem → Prop} (h : args.length ≤ 25) : WPCall Tryz.prog 68 args m Φ = WP Tryz.prog ir68_b (initσ args) m (retK [.tmp 2] Φ) := wpCall_def ir68_eq h
def ir95_k4 : ICode :=
 .seq (
 .region [
 ⟨0, some 13, none, .mov (.tmp 1), []⟩,
 ⟨1, some 14, none, .mov (.tmp 6), []⟩,
 ⟨2, some 15, none, .callv (.tmp 13) [.tmp 14], []⟩,
 ⟨3, some 16, none, .un .not (.tmp 15), []⟩]) (
 .cond (.tmp 16) (
 .seq (
 .region [
 ⟨0, some 4, none, .mov (.const (.bool false)), []⟩]) (
 .ret)) (
 .skip))
def ir95_k3 : ICode :=
 .seq (
 .block 1 (
 .seq (
 .region [
 ⟨0, some 11, none, .iaddr 1 (.tmp 7) (.tmp 9), []⟩,
 ⟨1, some 12, none, .load false 1 (.tmp 11), []⟩,
 ⟨2, some 6, none, .mov (.tmp 12), []⟩]) ir95_k4)) (
 .region [
 ⟨0, some 17, none, .bin .add .other (.tmp 9) (.const (.int .i64 1)), []⟩,
 ⟨1, some 9, none, .mov (.tmp 17), []⟩])
def ir95_k2 : ICode :=
 .seq (
 .cond (.tmp 10) (
 .skip) (
 .exit 0)) ir95_k3
def ir95_l0 : ICode :=
 .seq (
 .region [
 ⟨0, some 10, none, .bin .lss .other (.tmp 9) (.tmp 8), []⟩]) ir95_k2
def ir95_k5 : ICode :=
 .seq (
 .region [
 ⟨0, some 4, none, .mov (.const (.bool true)), []⟩]) (
 .ret)
def ir95_k1 : ICode :=
 .seq (
 .seq (
 .region [
 ⟨0, some 7, none, .mov (.tmp 0), []⟩,
 ⟨1, some 8, none, .lenV (.tmp 7), []⟩,
 ⟨2, some 9, none, .mov (.const (.int .i64 0)), []⟩]) (
 .block 0 (
 .loop ir95_l0))) ir95_k5
def ir95_b : ICode :=
 .seq (
 .region [
 ⟨0, some 4, none, .mov (.const (.bool false)), []⟩]) ir95_k1
def ir95 : IFunc := ⟨18, [.tmp 4], ir95_b⟩
theorem ir95_eq : cFunc Tryz.prog 95 = some ir95 := by kernel_rfl
theorem call95 {args : List Value} {m : Mem} {Φ : Value → Mem → Prop} (h : args.length ≤ 18) : WPCall Tryz.prog 95 args m Φ = WP Tryz.prog ir95_b (initσ args) m (retK [.tmp 4] Φ) := wpCall_def ir95_eq h
def ir96_k1 : ICode :=
 .seq (
 .region [
 ⟨0, some 3, none, .mov (.tmp 0), []⟩,
 ⟨1, some 2, none, .mov (.tmp 3), []⟩]) (
 .ret)
def ir96_b : ICode :=
 .seq (
 .region [
 ⟨0, some 2, none, .mov (.const (.bool false)), []⟩]) ir96_k1
def ir96 : IFunc := ⟨4, [.tmp 2], ir96_b⟩
theorem ir96_eq : cFunc Tryz.prog 96 = some ir96 := by kernel_rfl
theorem call96 {args : List Value} {m : Mem} {Φ : Value → Mem → Prop} (h : args.length ≤ 4) : WPCall Tryz.prog 96 args m Φ = WP Tryz.prog ir96_b (initσ args) m (retK [.tmp 2] Φ) := wpCall_def ir96_eq h
def ir101_k4 : ICode :=
 .seq (
 .region [
 ⟨0, some 10, none, .mov (.const (.bool true)), []⟩]) (
 .ret)
def ir101_k3 : ICode :=
 .seq (
 .region [
 ⟨0, some 33, none, .mov (.tmp 1), []⟩,
 ⟨1, some 34, none, .mov (.tmp 2), []⟩,
 ⟨2, some 35, none, .mov (.tmp 3), []⟩,
 ⟨3, none, none, .mput .str (.tmp 33) (.tmp 34) (.tmp 35), []⟩]) ir101_k4
def ir101_k2 : ICode :=
 .seq (
 .seq (
 .region [
 ⟨0, some 19, none, .mov (.tmp 0), []⟩,
 ⟨1, some 20, none, .mov (.tmp 2), []⟩,
 ⟨3, some 22, none, .load true 2 (.tmp 9), []⟩,
 ⟨2, some 21, none, .call 112 [.tmp 20], [(.tmp 9, .tmp 9)]⟩,
 ⟨4, some 23, none, .call 35 [.tmp 19, .tmp 21, .const (.int .i64 1), .tmp 22], []⟩,
 ⟨5, some 24, none, .un .not (.tmp 23), []⟩,
 ⟨6, some 25, none, .mov (.tmp 24), []⟩,
 ⟨7, some 26, some (25, false), .mov (.tmp 0), []⟩,
 ⟨8, some 27, some (25, false), .mov (.tmp 12), []⟩,
 ⟨9, some 28, some (25, false), .un .not (.tmp 27), []⟩,
 ⟨10, some 29, some (25, false), .load true 2 (.tmp 9), []⟩,
 ⟨11, some 30, some (25, false), .call 35 [.tmp 26, .tmp 28, .const (.int .i64 8), .tmp 29], []⟩,
 ⟨12, some 31, some (25, false), .un .not (.tmp 30), []⟩,
 ⟨13, some 32, none, .pick (.tmp 25) (.const (.bool true)) (.tmp 31), []⟩]) (
 .cond (.tmp 32) (
 .seq (
 .region [
 ⟨0, some 10, none, .mov (.const (.bool false)), []⟩]) (
 .ret)) (
 .skip))) ir101_k3
def ir101_k1 : ICode :=
 .seq (
 .region [
 ⟨0, some 14, none, .mov (.tmp 1), []⟩,
 ⟨1, some 15, none, .mov (.tmp 2), []⟩,
 ⟨2, some 16, none, .mlook .str (.int .i64 0) true (.tmp 14) (.tmp 15), []⟩,
 ⟨3, some 13, none, .mov (.tmp 16), []⟩,
 ⟨4, some 17, none, .ext 0 (.tmp 13), []⟩,
 ⟨5, some 18, none, .ext 1 (.tmp 13), []⟩,
 ⟨6, some 11, none, .mov (.tmp 17), []⟩,
 ⟨7, some 12, none, .mov (.tmp 18), []⟩]) ir101_k2
def ir101_b : ICode :=
 .seq (
 .region [
 ⟨0, some 9, none, .box (.tmp 4), []⟩,
 ⟨1, some 10, none, .mov (.const (.bool false)), []⟩]) ir101_k1
def ir101 : IFunc := ⟨36, [.tmp 10], ir101_b⟩
theorem ir101_eq : cFunc Tryz.prog 101 = some ir101 := by kernel_rfl
theorem call101 {args : List Value} {m : Mem} {Φ : Value → Mem → Prop} (h : args.length ≤ 36) : WPCall Tryz.prog 101 args m Φ = WP Tryz.prog ir101_b (initσ args) m (retK [.tmp 10] Φ) := wpCall_def ir101_eq h
end Go.Proofs.YtkpifdkccdndcaaGreat
