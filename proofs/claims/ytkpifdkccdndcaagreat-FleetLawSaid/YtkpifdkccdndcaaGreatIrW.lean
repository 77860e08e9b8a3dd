/-
 The intermediate forms of this seat's functions, written by a program of ours (wip/Ir.lean); each is checked against the loaded program.
-/
import Derived.Test.YtkpifdkccdndcaaGreatRows
import Derived.Test.YtkpifdkccdndcaaGreatFwWY
namespace Go.Proofs.YtkpifdkccdndcaaGreat
open Go Go.DI

def ir3_k2 : ICode :=
 .seq (
 .region [
 ⟨0, some 16, none, .load true 4 (.tmp 1), []⟩,
 ⟨2, some 18, none, .load true 4 (.tmp 1), []⟩,
 ⟨1, some 17, none, .call 9 [.tmp 16], [(.tmp 1, .tmp 1)]⟩,
 ⟨3, some 19, none, .call 10 [.tmp 18], []⟩,
 ⟨4, some 20, none, .bin .eql .bool (.tmp 17) (.tmp 19), []⟩,
 ⟨5, some 21, none, .mov (.tmp 20), []⟩,
 ⟨6, some 22, some (21, true), .call 8 [], []⟩,
 ⟨7, some 23, none, .pick (.tmp 21) (.tmp 22) (.const (.bool false)), []⟩,
 ⟨8, some 2, none, .mov (.tmp 23), []⟩]) (
 .ret)
def ir3_k1 : ICode :=
 .seq (
 .seq (
 .region [
 ⟨0, some 3, none, .faddr 1 (.tmp 1), []⟩,
 ⟨1, some 4, none, .load false 1 (.tmp 3), []⟩,
 ⟨3, some 6, none, .faddr 3 (.tmp 1), []⟩,
 ⟨4, some 7, none, .load false 1 (.tmp 6), []⟩,
 ⟨7, some 10, none, .faddr 2 (.tmp 1), []⟩,
 ⟨8, some 11, none, .load false 1 (.tmp 10), []⟩,
 ⟨2, some 5, none, .call 6 [.tmp 4], [(.tmp 10, .tmp 10), (.tmp 6, .tmp 6)]⟩,
 ⟨5, some 8, none, .call 6 [.tmp 7], [(.tmp 10, .tmp 10)]⟩,
 ⟨6, some 9, none, .bin .add .other (.tmp 5) (.tmp 8), []⟩,
 ⟨9, some 12, none, .call 7 [.tmp 11], []⟩,
 ⟨10, some 13, none, .bin .add .other (.tmp 9) (.tmp 12), []⟩,
 ⟨11, some 14, none, .bin .gtr .other (.tmp 13) (.const (.int .i64 300)), []⟩]) (
 .cond (.tmp 14) (
 .seq (
 .region [
 ⟨0, some 15, none, .call 8 [], []⟩,
 ⟨1, some 2, none, .mov (.tmp 15), []⟩]) (
 .ret)) (
 .skip))) ir3_k2
def ir3_b : ICode :=
 .seq (
 .region [
 ⟨0, some 1, none, .box (.tmp 0), []⟩,
 ⟨1, some 2, none, .mov (.const (.bool false)), []⟩]) ir3_k1
def ir3 : IFunc := ⟨24, [.tmp 2], ir3_b⟩
theorem ir3_eq : cFunc Tryz.prog 3 = some ir3 := by kernel_rfl
theorem call3 {args : List Value} {m : Mem} {Φ : Value → Mem → Prop} (h : args.length ≤ 24) : WPCall Tryz.prog 3 args m Φ = WP Tryz.prog ir3_b (initσ args) m (retK [.tmp 2] Φ) := wpCall_def ir3_eq h
def ir6_k3 : ICode :=
 .seq (
 .block 1 (
 .region [
 ⟨0, some 17, none, .mov (.tmp 3), []⟩,
 ⟨1, some 18, none, .mov (.tmp 0), []⟩,
 ⟨2, some 19, none, .mov (.tmp 4), []⟩,
 ⟨3, some 20, none, .iaddr 3 (.tmp 18) (.tmp 19), []⟩,
 ⟨4, some 21, none, .faddr 1 (.tmp 20), []⟩,
 ⟨5, some 22, none, .load false 1 (.tmp 21), []⟩,
 ⟨6, some 23, none, .lenV (.tmp 22), []⟩,
 ⟨7, some 24, none, .bin .add .other (.tmp 17) (.tmp 23), []⟩,
 ⟨8, some 25, none, .mov (.tmp 0), []⟩,
 ⟨9, some 26, none, .mov (.tmp 4), []⟩,
 ⟨10, some 27, none, .iaddr 3 (.tmp 25) (.tmp 26), []⟩,
 ⟨11, some 28, none, .faddr 2 (.tmp 27), []⟩,
 ⟨12, some 29, none, .load false 1 (.tmp 28), []⟩,
 ⟨13, some 30, none, .lenV (.tmp 29), []⟩,
 ⟨14, some 31, none, .bin .add .other (.tmp 24) (.tmp 30), []⟩,
 ⟨15, some 3, none, .mov (.tmp 31), []⟩])) (
 .region [
 ⟨0, some 15, none, .mov (.tmp 4), []⟩,
 ⟨1, some 16, none, .bin .add .other (.tmp 15) (.const (.int .i64 1)), []⟩,
 ⟨2, some 4, none, .mov (.tmp 16), []⟩])
def ir6_l0 : ICode :=
 .seq (
 .seq (
 .region [
 ⟨0, some 7, none, .mov (.tmp 4), []⟩,
 ⟨1, some 8, none, .mov (.tmp 0), []⟩,
 ⟨2, some 9, none, .lenV (.tmp 8), []⟩,
 ⟨3, some 10, none, .bin .lss .other (.tmp 7) (.tmp 9), []⟩,
 ⟨4, some 11, none, .mov (.tmp 10), []⟩,
 ⟨5, some 12, some (11, true), .mov (.tmp 3), []⟩,
 ⟨6, some 13, some (11, true), .bin .lss .other (.tmp 12) (.const (.int .i64 400)), []⟩,
 ⟨7, some 14, none, .pick (.tmp 11) (.tmp 13) (.const (.bool false)), []⟩]) (
 .cond (.tmp 14) (
 .skip) (
 .exit 0))) ir6_k3
def ir6_k4 : ICode :=
 .seq (
 .region [
 ⟨0, some 32, none, .mov (.tmp 3), []⟩,
 ⟨1, some 2, none, .mov (.tmp 32), []⟩]) (
 .ret)
def ir6_k2 : ICode :=
 .seq (
 .seq (
 .region [
 ⟨0, some 4, none, .mov (.const (.int .i64 0)), []⟩]) (
 .block 0 (
 .loop ir6_l0))) ir6_k4
def ir6_k1 : ICode :=
 .seq (
 .region [
 ⟨0, some 5, none, .mov (.tmp 0), []⟩,
 ⟨1, some 6, none, .lenV (.tmp 5), []⟩,
 ⟨2, some 3, none, .mov (.tmp 6), []⟩]) ir6_k2
def ir6_b : ICode :=
 .seq (
 .region [
 ⟨0, some 2, none, .mov (.const (.int .i64 0)), []⟩]) ir6_k1
def ir6 : IFunc := ⟨33, [.tmp 2], ir6_b⟩
theorem ir6_eq : cFunc Tryz.prog 6 = some ir6 := by kernel_rfl
theorem call6 {args : List Value} {m : Mem} {Φ : Value → Mem → Prop} (h : args.length ≤ 33) : WPCall Tryz.prog 6 args m Φ = WP Tryz.prog ir6_b (initσ args) m (retK [.tmp 2] Φ) := wpCall_def ir6_eq h
def ir7_k3 : ICode :=
 .seq (
 .block 1 (
 .region [
 ⟨0, some 17, none, .mov (.tmp 3), []⟩,
 ⟨1, some 18, none, .mov (.tmp 0), []⟩,
 ⟨2, some 19, none, .mov (.tmp 4), []⟩,
 ⟨3, some 20, none, .iaddr 1 (.tmp 18) (.tmp 19), []⟩,
 ⟨4, some 21, none, .load false 1 (.tmp 20), []⟩,
 ⟨5, some 22, none, .call 6 [.tmp 21], []⟩,
 ⟨6, some 23, none, .bin .add .other (.tmp 17) (.tmp 22), []⟩,
 ⟨7, some 3, none, .mov (.tmp 23), []⟩])) (
 .region [
 ⟨0, some 15, none, .mov (.tmp 4), []⟩,
 ⟨1, some 16, none, .bin .add .other (.tmp 15) (.const (.int .i64 1)), []⟩,
 ⟨2, some 4, none, .mov (.tmp 16), []⟩])
def ir7_l0 : ICode :=
 .seq (
 .seq (
 .region [
 ⟨0, some 7, none, .mov (.tmp 4), []⟩,
 ⟨1, some 8, none, .mov (.tmp 0), []⟩,
 ⟨2, some 9, none, .lenV (.tmp 8), []⟩,
 ⟨3, some 10, none, .bin .lss .other (.tmp 7) (.tmp 9), []⟩,
 ⟨4, some 11, none, .mov (.tmp 10), []⟩,
 ⟨5, some 12, some (11, true), .mov (.tmp 3), []⟩,
 ⟨6, some 13, some (11, true), .bin .lss .other (.tmp 12) (.const (.int .i64 400)), []⟩,
 ⟨7, some 14, none, .pick (.tmp 11) (.tmp 13) (.const (.bool false)), []⟩]) (
 .cond (.tmp 14) (
 .skip) (
 .exit 0))) ir7_k3
def ir7_k4 : ICode :=
 .seq (
 .region [
 ⟨0, some 24, none, .mov (.tmp 3), []⟩,
 ⟨1, some 2, none, .mov (.tmp 24), []⟩]) (
 .ret)
def ir7_k2 : ICode :=
 .seq (
 .seq (
 .region [
 ⟨0, some 4, none, .mov (.const (.int .i64 0)), []⟩]) (
 .block 0 (
 .loop ir7_l0))) ir7_k4
def ir7_k1 : ICode :=
 .seq (
 .region [
 ⟨0, some 5, none, .mov (.tmp 0), []⟩,
 ⟨1, some 6, none, .lenV (.tmp 5), []⟩,
 ⟨2, some 3, none, .mov (.tmp 6), []⟩]) ir7_k2
def ir7_b : ICode :=
 .seq (
 .region [
 ⟨0, some 2, none, .mov (.const (.int .i64 0)), []⟩]) ir7_k1
def ir7 : IFunc := ⟨25, [.tmp 2], ir7_b⟩
theorem ir7_eq : cFunc Tryz.prog 7 = some ir7 := by kernel_rfl
theorem call7 {args : List Value} {m : Mem} {Φ : Value → Mem → Prop} (h : args.length ≤ 25) : WPCall Tryz.prog 7 args m Φ = WP Tryz.prog ir7_b (initσ args) m (retK [.tmp 2] Φ) := wpCall_def ir7_eq h
def ir8_k3 : ICode :=
 .seq (
 .region [
 ⟨0, some 22, none, .mov (.tmp 2), []⟩,
 ⟨1, some 23, none, .bin .eql .other (.tmp 22) (.const (.int .i64 0)), []⟩,
 ⟨2, some 24, none, .mov (.tmp 23), []⟩,
 ⟨3, some 25, some (24, true), .faddr 0 (.tmp 1), []⟩,
 ⟨4, some 26, some (24, true), .load false 1 (.tmp 25), []⟩,
 ⟨5, some 27, some (24, true), .bin .eql .other (.tmp 26) (.const (.int .i64 2)), []⟩,
 ⟨6, some 28, none, .pick (.tmp 24) (.tmp 27) (.const (.bool false)), []⟩,
 ⟨7, some 29, none, .mov (.tmp 28), []⟩,
 ⟨8, some 30, some (29, true), .faddr 3 (.tmp 1), []⟩,
 ⟨9, some 31, some (29, true), .load false 1 (.tmp 30), []⟩,
 ⟨10, some 32, some (29, true), .lenV (.tmp 31), []⟩,
 ⟨11, some 33, some (29, true), .bin .eql .other (.tmp 32) (.const (.int .i64 1)), []⟩,
 ⟨12, some 34, none, .pick (.tmp 29) (.tmp 33) (.const (.bool false)), []⟩,
 ⟨13, some 35, none, .mov (.tmp 34), []⟩,
 ⟨14, some 36, some (35, true), .faddr 3 (.tmp 1), []⟩,
 ⟨15, some 37, some (35, true), .load false 1 (.tmp 36), []⟩,
 ⟨16, some 38, some (35, true), .iaddr 7 (.tmp 37) (.const (.int .i64 0)), []⟩,
 ⟨17, some 39, some (35, true), .faddr 2 (.tmp 38), []⟩,
 ⟨18, some 40, some (35, true), .load false 1 (.tmp 39), []⟩,
 ⟨19, some 41, some (35, true), .bin .eql .other (.tmp 40) (.const (.int .i64 (-1))), []⟩,
 ⟨20, some 42, none, .pick (.tmp 35) (.tmp 41) (.const (.bool false)), []⟩,
 ⟨21, some 43, none, .mov (.tmp 42), []⟩,
 ⟨22, some 44, some (43, true), .mov (.tmp 5), []⟩,
 ⟨23, some 45, some (43, true), .bin .eql .other (.tmp 44) (.const (.int .i64 7)), []⟩,
 ⟨24, some 46, none, .pick (.tmp 43) (.tmp 45) (.const (.bool false)), []⟩,
 ⟨25, some 47, none, .mov (.tmp 46), []⟩,
 ⟨26, some 48, some (47, true), .load true 2 (.tmp 6), []⟩,
 ⟨27, some 49, some (47, true), .build [.int .i64 0, .int .i64 0] [(0, 1, .const (.int .i64 3)), (1, 1, .const (.int .i64 4))], []⟩,
 ⟨28, some 50, some (47, true), .eqAgg false [.int, .int] (.tmp 48) (.tmp 49), []⟩,
 ⟨29, some 51, none, .pick (.tmp 47) (.tmp 50) (.const (.bool false)), []⟩,
 ⟨30, some 52, none, .mov (.tmp 51), []⟩,
 ⟨31, some 53, some (52, true), .load true 7 (.tmp 1), []⟩,
 ⟨32, some 54, some (52, true), .call 14 [.tmp 53], []⟩,
 ⟨33, some 55, some (52, true), .bin .eql .other (.tmp 54) (.const (.int .i64 0)), []⟩,
 ⟨34, some 56, none, .pick (.tmp 52) (.tmp 55) (.const (.bool false)), []⟩,
 ⟨35, some 57, none, .mov (.tmp 56), []⟩,
 ⟨36, some 58, some (57, true), .build [.int .i64 0, .slice none 0 0, .slice none 0 0, .slice none 0 0, .slice none 0 0, .slice none 0 0, .slice none 0 0] [], []⟩,
 ⟨37, some 59, some (57, true), .call 14 [.tmp 58], []⟩,
 ⟨38, some 60, some (57, true), .bin .eql .other (.tmp 59) (.const (.int .i64 1)), []⟩,
 ⟨39, some 61, none, .pick (.tmp 57) (.tmp 60) (.const (.bool false)), []⟩,
 ⟨40, some 0, none, .mov (.tmp 61), []⟩]) (
 .ret)
def ir8_k2 : ICode :=
 .seq (
 .region [
 ⟨0, some 14, none, .build [.int .i64 0, .int .i64 0] [(0, 1, .const (.int .i64 3)), (1, 1, .const (.int .i64 4))], []⟩,
 ⟨1, some 15, none, .build [.string ⟨#[]⟩, .int .i64 0, .int .i64 0, .string ⟨#[]⟩, .int .i64 0, .int .i64 0] [(0, 1, .const (.string ⟨#[109]⟩)), (1, 1, .const (.int .i64 1)), (2, 1, .const (.int .i64 1)), (3, 1, .const (.string ⟨#[120]⟩)), (4, 2, .tmp 14)], []⟩,
 ⟨2, some 16, none, .bslice 6 1 [.string ⟨#[]⟩, .int .i64 0, .int .i64 0, .string ⟨#[]⟩, .int .i64 0, .int .i64 0] [(0, 6, .tmp 15)], []⟩,
 ⟨3, some 17, none, .build [.int .i64 0, .slice none 0 0, .slice none 0 0, .slice none 0 0, .slice none 0 0, .slice none 0 0] [(0, 1, .const (.int .i64 1)), (2, 1, .tmp 16)], []⟩,
 ⟨4, some 18, none, .call 11 [.tmp 17], []⟩,
 ⟨5, some 13, none, .mov (.tmp 18), []⟩,
 ⟨6, some 19, none, .ext 0 (.tmp 13), []⟩,
 ⟨7, some 20, none, .ext 1 (.tmp 13), []⟩,
 ⟨8, some 21, none, .ext 2 (.tmp 13), []⟩,
 ⟨9, some 4, none, .alloc [.int .i64 0, .slice none 0 0, .slice none 0 0, .slice none 0 0, .slice none 0 0, .slice none 0 0, .slice none 0 0], []⟩,
 ⟨10, some 6, none, .alloc [.int .i64 0, .int .i64 0], []⟩,
 ⟨11, none, none, .store 7 (.tmp 4) (.tmp 19), []⟩,
 ⟨12, some 5, none, .mov (.tmp 20), []⟩,
 ⟨13, none, none, .store 2 (.tmp 6) (.tmp 21), []⟩]) ir8_k3
def ir8_k1 : ICode :=
 .seq (
 .region [
 ⟨0, some 8, none, .build [.int .i64 0, .slice none 0 0, .slice none 0 0, .slice none 0 0, .slice none 0 0, .slice none 0 0] [(0, 1, .const (.int .i64 2))], []⟩,
 ⟨1, some 9, none, .call 11 [.tmp 8], []⟩,
 ⟨2, some 7, none, .mov (.tmp 9), []⟩,
 ⟨3, some 10, none, .ext 0 (.tmp 7), []⟩,
 ⟨4, some 11, none, .ext 1 (.tmp 7), []⟩,
 ⟨5, some 12, none, .ext 2 (.tmp 7), []⟩,
 ⟨6, some 1, none, .alloc [.int .i64 0, .slice none 0 0, .slice none 0 0, .slice none 0 0, .slice none 0 0, .slice none 0 0, .slice none 0 0], []⟩,
 ⟨7, some 3, none, .alloc [.int .i64 0, .int .i64 0], []⟩,
 ⟨8, none, none, .store 7 (.tmp 1) (.tmp 10), []⟩,
 ⟨9, some 2, none, .mov (.tmp 11), []⟩,
 ⟨10, none, none, .store 2 (.tmp 3) (.tmp 12), []⟩]) ir8_k2
def ir8_b : ICode :=
 .seq (
 .region [
 ⟨0, some 0, none, .mov (.const (.bool false)), []⟩]) ir8_k1
def ir8 : IFunc := ⟨62, [.tmp 0], ir8_b⟩
theorem ir8_eq : cFunc Tryz.prog 8 = some ir8 := by kernel_rfl
theorem call8 {args : List Value} {m : Mem} {Φ : Value → Mem → Prop} (h : args.length ≤ 62) : WPCall Tryz.prog 8 args m Φ = WP Tryz.prog ir8_b (initσ args) m (retK [.tmp 0] Φ) := wpCall_def ir8_eq h
end Go.Proofs.YtkpifdkccdndcaaGreat
