/-
 The intermediate forms of this seat's functions, written by a program of ours (wip/Ir.lean); each is checked against the loaded program.
-/
import Derived.Test.YtkpifdkccdndcaaGreatRows
import Derived.Test.YtkpifdkccdndcaaGreatFwWY
namespace Go.Proofs.YtkpifdkccdndcaaGreat
open Go Go.DI

def ir25_k6 : ICode :=
 .seq (
 .seq (
 .region [
 ⟨0, some 23, none, .mov (.tmp 8), []⟩,
 ⟨1, some 24, none, .bin .neq .other (.tmp 23) (.const (.int .i64 0)), []⟩]) (
 .cond (.tmp 24) (
 .seq (
 .region [
 ⟨0, some 25, none, .build [.bool false, .slice none 0 0, .slice none 0 0] [], []⟩,
 ⟨1, some 26, none, .mov (.tmp 8), []⟩,
 ⟨2, none, none, .store 3 (.tmp 2) (.tmp 25), []⟩,
 ⟨3, some 3, none, .mov (.tmp 26), []⟩]) (
 .ret)) (
 .skip))) (
 .region [
 ⟨0, some 27, none, .load true 3 (.tmp 7), []⟩,
 ⟨1, none, none, .store 3 (.tmp 4) (.tmp 27), []⟩])
def ir25_k5 : ICode :=
 .seq (
 .region [
 ⟨0, some 18, none, .load true 3 (.tmp 4), []⟩,
 ⟨1, some 19, none, .load true 3 (.tmp 6), []⟩,
 ⟨2, some 20, none, .call 88 [.tmp 18, .tmp 19], []⟩,
 ⟨3, some 17, none, .mov (.tmp 20), []⟩,
 ⟨4, some 21, none, .ext 0 (.tmp 17), []⟩,
 ⟨5, some 22, none, .ext 1 (.tmp 17), []⟩,
 ⟨6, some 7, none, .alloc [.bool false, .slice none 0 0, .slice none 0 0], []⟩,
 ⟨7, none, none, .store 3 (.tmp 7) (.tmp 21), []⟩,
 ⟨8, some 8, none, .mov (.tmp 22), []⟩]) ir25_k6
def ir25_k4 : ICode :=
 .seq (
 .block 1 (
 .seq (
 .region [
 ⟨0, some 15, none, .iaddr 3 (.tmp 11) (.tmp 13), []⟩,
 ⟨1, some 16, none, .load true 3 (.tmp 15), []⟩,
 ⟨2, some 6, none, .alloc [.bool false, .slice none 0 0, .slice none 0 0], []⟩,
 ⟨3, none, none, .store 3 (.tmp 6) (.tmp 16), []⟩]) ir25_k5)) (
 .region [
 ⟨0, some 28, none, .bin .add .other (.tmp 13) (.const (.int .i64 1)), []⟩,
 ⟨1, some 13, none, .mov (.tmp 28), []⟩])
def ir25_k3 : ICode :=
 .seq (
 .cond (.tmp 14) (
 .skip) (
 .exit 0)) ir25_k4
def ir25_l0 : ICode :=
 .seq (
 .region [
 ⟨0, some 14, none, .bin .lss .other (.tmp 13) (.tmp 12), []⟩]) ir25_k3
def ir25_k7 : ICode :=
 .seq (
 .region [
 ⟨0, some 29, none, .load true 3 (.tmp 4), []⟩,
 ⟨1, none, none, .store 3 (.tmp 2) (.tmp 29), []⟩,
 ⟨2, some 3, none, .mov (.const (.int .i64 0)), []⟩]) (
 .ret)
def ir25_k2 : ICode :=
 .seq (
 .seq (
 .region [
 ⟨0, some 11, none, .mov (.tmp 0), []⟩,
 ⟨1, some 12, none, .lenV (.tmp 11), []⟩,
 ⟨2, some 13, none, .mov (.const (.int .i64 0)), []⟩]) (
 .block 0 (
 .loop ir25_l0))) ir25_k7
def ir25_k1 : ICode :=
 .seq (
 .region [
 ⟨0, some 9, none, .call 34 [.const (.int .u64 1)], []⟩,
 ⟨1, some 10, none, .build [.bool false, .slice none 0 0, .slice none 0 0] [(2, 1, .tmp 9)], []⟩,
 ⟨2, some 4, none, .alloc [.bool false, .slice none 0 0, .slice none 0 0], []⟩,
 ⟨3, none, none, .store 3 (.tmp 4) (.tmp 10), []⟩]) ir25_k2
def ir25_b : ICode :=
 .seq (
 .region [
 ⟨0, some 2, none, .alloc [.bool false, .slice none 0 0, .slice none 0 0], []⟩,
 ⟨1, some 3, none, .mov (.const (.int .i64 0)), []⟩]) ir25_k1
def ir25 : IFunc := ⟨30, [.cell 2 true 3, .tmp 3], ir25_b⟩
theorem ir25_eq : cFunc Tryz.prog 25 = some ir25 := by kernel_rfl
theorem call25 {args : List Value} {m : Mem} {Φ : Value → Mem → Prop} (h : args.length ≤ 30) : WPCall Tryz.prog 25 args m Φ = WP Tryz.prog ir25_b (initσ args) m (retK [.cell 2 true 3, .tmp 3] Φ) := wpCall_def ir25_eq h
def ir26_k2 : ICode :=
 .seq (
 .region [
 ⟨0, some 9, none, .mov (.tmp 0), []⟩,
 ⟨1, some 10, none, .bin .lss .other (.tmp 9) (.const (.int .i64 0)), []⟩,
 ⟨2, some 11, none, .mov (.tmp 1), []⟩,
 ⟨3, some 12, none, .bin .lss .other (.tmp 11) (.const (.int .i64 0)), []⟩,
 ⟨4, some 13, none, .bin .neq .bool (.tmp 10) (.tmp 12), []⟩,
 ⟨5, some 14, none, .mov (.tmp 0), []⟩,
 ⟨6, some 15, none, .call 90 [.tmp 14], []⟩,
 ⟨7, some 16, none, .mov (.tmp 1), []⟩,
 ⟨8, some 17, none, .call 90 [.tmp 16], []⟩,
 ⟨9, some 18, none, .call 89 [.tmp 13, .tmp 15, .tmp 17], []⟩,
 ⟨10, some 19, none, .ext 0 (.tmp 18), []⟩,
 ⟨11, some 20, none, .ext 1 (.tmp 18), []⟩,
 ⟨12, none, none, .store 3 (.tmp 4) (.tmp 19), []⟩,
 ⟨13, some 5, none, .mov (.tmp 20), []⟩]) (
 .ret)
def ir26_k1 : ICode :=
 .seq (
 .seq (
 .region [
 ⟨0, some 6, none, .mov (.tmp 1), []⟩,
 ⟨1, some 7, none, .bin .eql .other (.tmp 6) (.const (.int .i64 0)), []⟩]) (
 .cond (.tmp 7) (
 .seq (
 .region [
 ⟨0, some 8, none, .build [.bool false, .slice none 0 0, .slice none 0 0] [], []⟩,
 ⟨1, none, none, .store 3 (.tmp 4) (.tmp 8), []⟩,
 ⟨2, some 5, none, .mov (.const (.int .i64 3)), []⟩]) (
 .ret)) (
 .skip))) ir26_k2
def ir26_b : ICode :=
 .seq (
 .region [
 ⟨0, some 4, none, .alloc [.bool false, .slice none 0 0, .slice none 0 0], []⟩,
 ⟨1, some 5, none, .mov (.const (.int .i64 0)), []⟩]) ir26_k1
def ir26 : IFunc := ⟨21, [.cell 4 true 3, .tmp 5], ir26_b⟩
theorem ir26_eq : cFunc Tryz.prog 26 = some ir26 := by kernel_rfl
theorem call26 {args : List Value} {m : Mem} {Φ : Value → Mem → Prop} (h : args.length ≤ 21) : WPCall Tryz.prog 26 args m Φ = WP Tryz.prog ir26_b (initσ args) m (retK [.cell 4 true 3, .tmp 5] Φ) := wpCall_def ir26_eq h
def ir27_k5 : ICode :=
 .seq (
 .region [
 ⟨0, some 53, none, .mov (.tmp 6), []⟩,
 ⟨1, some 4, none, .mov (.tmp 53), []⟩,
 ⟨2, some 5, none, .mov (.const (.int .i64 0)), []⟩]) (
 .ret)
def ir27_k4 : ICode :=
 .seq (
 .block 0 (
 .seq (
 .region [
 ⟨0, some 43, none, .mov (.tmp 7), []⟩,
 ⟨1, some 44, none, .mov (.tmp 43), []⟩,
 ⟨2, some 45, some (44, true), .mov (.tmp 8), []⟩,
 ⟨3, some 46, none, .pick (.tmp 44) (.tmp 45) (.const (.bool false)), []⟩,
 ⟨4, some 42, none, .mov (.tmp 46), []⟩]) (
 .cond (.tmp 42) (
 .seq (
 .region [
 ⟨0, some 47, none, .mov (.tmp 6), []⟩,
 ⟨1, some 48, none, .un .neg (.tmp 47), []⟩,
 ⟨2, some 4, none, .mov (.tmp 48), []⟩,
 ⟨3, some 5, none, .mov (.const (.int .i64 0)), []⟩]) (
 .ret)) (
 .seq (
 .region [
 ⟨0, some 50, none, .mov (.tmp 7), []⟩,
 ⟨1, some 49, none, .mov (.tmp 50), []⟩]) (
 .cond (.tmp 49) (
 .seq (
 .region [
 ⟨0, some 4, none, .mov (.const (.int .i64 (-1))), []⟩,
 ⟨1, some 5, none, .mov (.const (.int .i64 0)), []⟩]) (
 .ret)) (
 .seq (
 .region [
 ⟨0, some 52, none, .mov (.tmp 8), []⟩,
 ⟨1, some 51, none, .mov (.tmp 52), []⟩]) (
 .cond (.tmp 51) (
 .seq (
 .region [
 ⟨0, some 4, none, .mov (.const (.int .i64 1)), []⟩,
 ⟨1, some 5, none, .mov (.const (.int .i64 0)), []⟩]) (
 .ret)) (
 .skip)))))))) ir27_k5
def ir27_k3 : ICode :=
 .seq (
 .region [
 ⟨0, some 28, none, .faddr 0 (.tmp 2), []⟩,
 ⟨1, some 29, none, .load false 1 (.tmp 28), []⟩,
 ⟨2, some 30, none, .mov (.tmp 29), []⟩,
 ⟨3, some 31, some (30, true), .load true 3 (.tmp 2), []⟩,
 ⟨7, some 35, none, .faddr 0 (.tmp 3), []⟩,
 ⟨8, some 36, none, .load false 1 (.tmp 35), []⟩,
 ⟨4, some 32, some (30, true), .call 94 [.tmp 31], [(.tmp 35, .tmp 35)]⟩,
 ⟨5, some 33, some (30, true), .un .not (.tmp 32), []⟩,
 ⟨6, some 34, none, .pick (.tmp 30) (.tmp 33) (.const (.bool false)), []⟩,
 ⟨9, some 37, none, .mov (.tmp 36), []⟩,
 ⟨10, some 38, some (37, true), .load true 3 (.tmp 3), []⟩,
 ⟨11, some 39, some (37, true), .call 94 [.tmp 38], []⟩,
 ⟨12, some 40, some (37, true), .un .not (.tmp 39), []⟩,
 ⟨13, some 41, none, .pick (.tmp 37) (.tmp 40) (.const (.bool false)), []⟩,
 ⟨14, some 7, none, .mov (.tmp 34), []⟩,
 ⟨15, some 8, none, .mov (.tmp 41), []⟩]) ir27_k4
def ir27_k2 : ICode :=
 .seq (
 .region [
 ⟨0, some 17, none, .faddr 1 (.tmp 2), []⟩,
 ⟨1, some 18, none, .load false 1 (.tmp 17), []⟩,
 ⟨2, some 19, none, .faddr 2 (.tmp 3), []⟩,
 ⟨3, some 20, none, .load false 1 (.tmp 19), []⟩,
 ⟨5, some 22, none, .faddr 1 (.tmp 3), []⟩,
 ⟨6, some 23, none, .load false 1 (.tmp 22), []⟩,
 ⟨7, some 24, none, .faddr 2 (.tmp 2), []⟩,
 ⟨8, some 25, none, .load false 1 (.tmp 24), []⟩,
 ⟨4, some 21, none, .call 93 [.tmp 18, .tmp 20], [(.tmp 24, .tmp 24), (.tmp 22, .tmp 22)]⟩,
 ⟨9, some 26, none, .call 93 [.tmp 23, .tmp 25], []⟩,
 ⟨10, some 27, none, .call 92 [.tmp 21, .tmp 26], []⟩,
 ⟨11, some 6, none, .mov (.tmp 27), []⟩]) ir27_k3
def ir27_k1 : ICode :=
 .seq (
 .seq (
 .region [
 ⟨0, some 9, none, .load true 3 (.tmp 2), []⟩,
 ⟨1, some 10, none, .call 91 [.tmp 9], []⟩,
 ⟨2, some 11, none, .un .not (.tmp 10), []⟩,
 ⟨3, some 12, none, .mov (.tmp 11), []⟩,
 ⟨4, some 13, some (12, false), .load true 3 (.tmp 3), []⟩,
 ⟨5, some 14, some (12, false), .call 91 [.tmp 13], []⟩,
 ⟨6, some 15, some (12, false), .un .not (.tmp 14), []⟩,
 ⟨7, some 16, none, .pick (.tmp 12) (.const (.bool true)) (.tmp 15), []⟩]) (
 .cond (.tmp 16) (
 .seq (
 .region [
 ⟨0, some 4, none, .mov (.const (.int .i64 0)), []⟩,
 ⟨1, some 5, none, .mov (.const (.int .i64 1)), []⟩]) (
 .ret)) (
 .skip))) ir27_k2
def ir27_b : ICode :=
 .seq (
 .region [
 ⟨0, some 2, none, .box (.tmp 0), []⟩,
 ⟨1, some 3, none, .box (.tmp 1), []⟩,
 ⟨2, some 4, none, .mov (.const (.int .i64 0)), []⟩,
 ⟨3, some 5, none, .mov (.const (.int .i64 0)), []⟩]) ir27_k1
def ir27 : IFunc := ⟨54, [.tmp 4, .tmp 5], ir27_b⟩
theorem ir27_eq : cFunc Tryz.prog 27 = some ir27 := by kernel_rfl
theorem call27 {args : List Value} {m : Mem} {Φ : Value → Mem → Prop} (h : args.length ≤ 54) : WPCall Tryz.prog 27 args m Φ = WP Tryz.prog ir27_b (initσ args) m (retK [.tmp 4, .tmp 5] Φ) := wpCall_def ir27_eq h
def ir30_k1 : ICode :=
 .seq (
 .region [
 ⟨0, some 3, none, .load true 3 (.tmp 1), []⟩,
 ⟨1, some 4, none, .call 33 [.const (.int .i64 0)], [(.tmp 1, .tmp 1)]⟩,
 ⟨2, some 5, none, .call 97 [.tmp 3, .tmp 4], []⟩,
 ⟨3, some 2, none, .mov (.tmp 5), []⟩]) (
 .ret)
def ir30_b : ICode :=
 .seq (
 .region [
 ⟨0, some 1, none, .box (.tmp 0), []⟩,
 ⟨1, some 2, none, .mov (.const (.int .i64 0)), []⟩]) ir30_k1
def ir30 : IFunc := ⟨6, [.tmp 2], ir30_b⟩
theorem ir30_eq : cFunc Tryz.prog 30 = some ir30 := by kernel_rfl
theorem call30 {args : List Value} {m : Mem} {Φ : Value → Mem → Prop} (h : args.length ≤ 6) : WPCall Tryz.prog 30 args m Φ = WP Tryz.prog ir30_b (initσ args) m (retK [.tmp 2] Φ) := wpCall_def ir30_eq h
def ir31_k4 : ICode :=
 .seq (
 .seq (
 .region [
 ⟨0, some 24, none, .mov (.tmp 7), []⟩,
 ⟨1, some 25, none, .bin .neq .other (.tmp 24) (.const (.int .i64 0)), []⟩]) (
 .cond (.tmp 25) (
 .seq (
 .region [
 ⟨0, some 26, none, .build [.bool false, .slice none 0 0, .slice none 0 0] [], []⟩,
 ⟨1, some 27, none, .mov (.tmp 7), []⟩,
 ⟨2, none, none, .store 3 (.tmp 2) (.tmp 26), []⟩,
 ⟨3, some 3, none, .mov (.tmp 27), []⟩]) (
 .ret)) (
 .skip))) (
 .region [
 ⟨0, some 28, none, .load true 3 (.tmp 6), []⟩,
 ⟨1, none, none, .store 3 (.tmp 4) (.tmp 28), []⟩])
def ir31_k3 : ICode :=
 .seq (
 .block 1 (
 .seq (
 .region [
 ⟨0, some 16, none, .load true 3 (.tmp 4), []⟩,
 ⟨1, some 17, none, .mov (.tmp 0), []⟩,
 ⟨2, some 18, none, .mov (.tmp 5), []⟩,
 ⟨3, some 19, none, .iaddr 3 (.tmp 17) (.tmp 18), []⟩,
 ⟨4, some 20, none, .load true 3 (.tmp 19), []⟩,
 ⟨5, some 21, none, .call 98 [.tmp 16, .tmp 20], []⟩,
 ⟨6, some 15, none, .mov (.tmp 21), []⟩,
 ⟨7, some 22, none, .ext 0 (.tmp 15), []⟩,
 ⟨8, some 23, none, .ext 1 (.tmp 15), []⟩,
 ⟨9, some 6, none, .alloc [.bool false, .slice none 0 0, .slice none 0 0], []⟩,
 ⟨10, none, none, .store 3 (.tmp 6) (.tmp 22), []⟩,
 ⟨11, some 7, none, .mov (.tmp 23), []⟩]) ir31_k4)) (
 .region [
 ⟨0, some 13, none, .mov (.tmp 5), []⟩,
 ⟨1, some 14, none, .bin .add .other (.tmp 13) (.const (.int .i64 1)), []⟩,
 ⟨2, some 5, none, .mov (.tmp 14), []⟩])
def ir31_l0 : ICode :=
 .seq (
 .seq (
 .region [
 ⟨0, some 9, none, .mov (.tmp 5), []⟩,
 ⟨1, some 10, none, .mov (.tmp 0), []⟩,
 ⟨2, some 11, none, .lenV (.tmp 10), []⟩,
 ⟨3, some 12, none, .bin .lss .other (.tmp 9) (.tmp 11), []⟩]) (
 .cond (.tmp 12) (
 .skip) (
 .exit 0))) ir31_k3
def ir31_k5 : ICode :=
 .seq (
 .region [
 ⟨0, some 29, none, .load true 3 (.tmp 4), []⟩,
 ⟨1, none, none, .store 3 (.tmp 2) (.tmp 29), []⟩,
 ⟨2, some 3, none, .mov (.const (.int .i64 0)), []⟩]) (
 .ret)
def ir31_k2 : ICode :=
 .seq (
 .seq (
 .region [
 ⟨0, some 5, none, .mov (.const (.int .i64 0)), []⟩]) (
 .block 0 (
 .loop ir31_l0))) ir31_k5
def ir31_k1 : ICode :=
 .seq (
 .region [
 ⟨0, some 8, none, .call 33 [.const (.int .i64 0)], []⟩,
 ⟨1, some 4, none, .alloc [.bool false, .slice none 0 0, .slice none 0 0], []⟩,
 ⟨2, none, none, .store 3 (.tmp 4) (.tmp 8), []⟩]) ir31_k2
def ir31_b : ICode :=
 .seq (
 .region [
 ⟨0, some 2, none, .alloc [.bool false, .slice none 0 0, .slice none 0 0], []⟩,
 ⟨1, some 3, none, .mov (.const (.int .i64 0)), []⟩]) ir31_k1
def ir31 : IFunc := ⟨30, [.cell 2 true 3, .tmp 3], ir31_b⟩
theorem ir31_eq : cFunc Tryz.prog 31 = some ir31 := by kernel_rfl
theorem call31 {args : List Value} {m : Mem} {Φ : Value → Mem → Prop} (h : args.length ≤ 30) : WPCall Tryz.prog 31 args m Φ = WP Tryz.prog ir31_b (initσ args) m (retK [.cell 2 true 3, .tmp 3] Φ) := wpCall_def ir31_eq h
def ir32_k1 : ICode :=
 .seq (
 .region [
 ⟨0, some 5, none, .load true 3 (.tmp 2), []⟩,
 ⟨1, some 6, none, .load true 3 (.tmp 3), []⟩,
 ⟨2, some 7, none, .call 97 [.tmp 5, .tmp 6], []⟩,
 ⟨3, some 8, none, .bin .eql .other (.tmp 7) (.const (.int .i64 0)), []⟩,
 ⟨4, some 4, none, .mov (.tmp 8), []⟩]) (
 .ret)
def ir32_b : ICode :=
 .seq (
 .region [
 ⟨0, some 2, none, .box (.tmp 0), []⟩,
 ⟨1, some 3, none, .box (.tmp 1), []⟩,
 ⟨2, some 4, none, .mov (.const (.bool false)), []⟩]) ir32_k1
def ir32 : IFunc := ⟨9, [.tmp 4], ir32_b⟩
theorem ir32_eq : cFunc Tryz.prog 32 = some ir32 := by kernel_rfl
theorem call32 {args : List Value} {m : Mem} {Φ : Value → Mem → Prop} (h : args.length ≤ 9) : WPCall Tryz.prog 32 args m Φ = WP Tryz.prog ir32_b (initσ args) m (retK [.tmp 4] Φ) := wpCall_def ir32_eq h
def ir33_k2 : ICode :=
 .seq (
 .region [
 ⟨0, some 10, none, .load true 3 (.tmp 3), []⟩,
 ⟨1, none, none, .store 3 (.tmp 2) (.tmp 10), []⟩]) (
 .ret)
def ir33_k1 : ICode :=
 .seq (
 .region [
 ⟨0, some 6, none, .mov (.tmp 0), []⟩,
 ⟨1, some 7, none, .call 99 [.tmp 6, .const (.int .i64 1)], []⟩,
 ⟨2, some 5, none, .mov (.tmp 7), []⟩,
 ⟨3, some 8, none, .ext 0 (.tmp 5), []⟩,
 ⟨4, some 9, none, .ext 1 (.tmp 5), []⟩,
 ⟨5, some 3, none, .alloc [.bool false, .slice none 0 0, .slice none 0 0], []⟩,
 ⟨6, none, none, .store 3 (.tmp 3) (.tmp 8), []⟩,
 ⟨7, some 4, none, .mov (.tmp 9), []⟩]) ir33_k2
def ir33_b : ICode :=
 .seq (
 .region [
 ⟨0, some 2, none, .alloc [.bool false, .slice none 0 0, .slice none 0 0], []⟩]) ir33_k1
def ir33 : IFunc := ⟨11, [.cell 2 true 3], ir33_b⟩
theorem ir33_eq : cFunc Tryz.prog 33 = some ir33 := by kernel_rfl
theorem call33 {args : List Value} {m : Mem} {Φ : Value → Mem → Prop} (h : args.length ≤ 11) : WPCall Tryz.prog 33 args m Φ = WP Tryz.prog ir33_b (initσ args) m (retK [.cell 2 true 3] Φ) := wpCall_def ir33_eq h
def ir54_k1 : ICode :=
 .seq (
 .region [
 ⟨0, some 3, none, .faddr 2 (.tmp 1), []⟩,
 ⟨1, some 4, none, .load false 1 (.tmp 3), []⟩,
 ⟨2, some 5, none, .call 106 [.tmp 4], []⟩,
 ⟨3, some 6, none, .lenV (.tmp 5), []⟩,
 ⟨4, some 7, none, .bin .gtr .other (.tmp 6) (.const (.int .i64 0)), []⟩,
 ⟨5, some 8, none, .mov (.tmp 7), []⟩,
 ⟨6, some 9, some (8, true), .faddr 2 (.tmp 1), []⟩,
 ⟨7, some 10, some (8, true), .load false 1 (.tmp 9), []⟩,
 ⟨8, some 11, some (8, true), .call 106 [.tmp 10], []⟩,
 ⟨9, some 12, some (8, true), .lenV (.tmp 11), []⟩,
 ⟨10, some 13, some (8, true), .bin .leq .other (.tmp 12) (.const (.int .i64 128)), []⟩,
 ⟨11, some 14, none, .pick (.tmp 8) (.tmp 13) (.const (.bool false)), []⟩,
 ⟨12, some 15, none, .mov (.tmp 14), []⟩,
 ⟨13, some 16, some (15, true), .faddr 1 (.tmp 1), []⟩,
 ⟨14, some 17, some (15, true), .load false 1 (.tmp 16), []⟩,
 ⟨15, some 18, some (15, true), .call 106 [.tmp 17], []⟩,
 ⟨16, some 19, some (15, true), .lenV (.tmp 18), []⟩,
 ⟨17, some 20, some (15, true), .bin .leq .other (.tmp 19) (.const (.int .i64 128)), []⟩,
 ⟨18, some 21, none, .pick (.tmp 15) (.tmp 20) (.const (.bool false)), []⟩,
 ⟨19, some 2, none, .mov (.tmp 21), []⟩]) (
 .ret)
def ir54_b : ICode :=
 .seq (
 .region [
 ⟨0, some 1, none, .box (.tmp 0), []⟩,
 ⟨1, some 2, none, .mov (.const (.bool false)), []⟩]) ir54_k1
def ir54 : IFunc := ⟨22, [.tmp 2], ir54_b⟩
theorem ir54_eq : cFunc Tryz.prog 54 = some ir54 := by kernel_rfl
theorem call54 {args : List Value} {m : Mem} {Φ : Value → Mem → Prop} (h : args.length ≤ 22) : WPCall Tryz.prog 54 args m Φ = WP Tryz.prog ir54_b (initσ args) m (retK [.tmp 2] Φ) := wpCall_def ir54_eq h
def ir55_k2 : ICode :=
 .seq (
 .region [
 ⟨0, some 8, none, .faddr 0 (.tmp 1), []⟩,
 ⟨1, some 9, none, .load false 1 (.tmp 8), []⟩,
 ⟨2, some 10, none, .faddr 1 (.tmp 1), []⟩,
 ⟨3, some 11, none, .load false 1 (.tmp 10), []⟩,
 ⟨4, some 12, none, .faddr 2 (.tmp 1), []⟩,
 ⟨5, some 13, none, .load false 1 (.tmp 12), []⟩,
 ⟨6, some 14, none, .call 107 [.tmp 9, .tmp 11, .tmp 13], []⟩,
 ⟨7, none, none, .store 3 (.tmp 2) (.tmp 14), []⟩,
 ⟨8, some 3, none, .mov (.const (.int .i64 0)), []⟩]) (
 .ret)
def ir55_k1 : ICode :=
 .seq (
 .seq (
 .region [
 ⟨0, some 4, none, .load true 3 (.tmp 1), []⟩,
 ⟨1, some 5, none, .call 54 [.tmp 4], []⟩,
 ⟨2, some 6, none, .un .not (.tmp 5), []⟩]) (
 .cond (.tmp 6) (
 .seq (
 .region [
 ⟨0, some 7, none, .build [.bool false, .slice none 0 0, .slice none 0 0] [], []⟩,
 ⟨1, none, none, .store 3 (.tmp 2) (.tmp 7), []⟩,
 ⟨2, some 3, none, .mov (.const (.int .i64 1)), []⟩]) (
 .ret)) (
 .skip))) ir55_k2
def ir55_b : ICode :=
 .seq (
 .region [
 ⟨0, some 1, none, .box (.tmp 0), []⟩,
 ⟨1, some 2, none, .alloc [.bool false, .slice none 0 0, .slice none 0 0], []⟩,
 ⟨2, some 3, none, .mov (.const (.int .i64 0)), []⟩]) ir55_k1
def ir55 : IFunc := ⟨15, [.cell 2 true 3, .tmp 3], ir55_b⟩
theorem ir55_eq : cFunc Tryz.prog 55 = some ir55 := by kernel_rfl
theorem call55 {args : List Value} {m : Mem} {Φ : Value → Mem → Prop} (h : args.length ≤ 15) : WPCall Tryz.prog 55 args m Φ = WP Tryz.prog ir55_b (initσ args) m (retK [.cell 2 true 3, .tmp 3] Φ) := wpCall_def ir55_eq h
def ir86_k2 : ICode :=
 .seq (
 .region [
 ⟨0, some 8, none, .faddr 0 (.tmp 1), []⟩,
 ⟨1, some 9, none, .load false 1 (.tmp 8), []⟩,
 ⟨2, some 10, none, .faddr 1 (.tmp 1), []⟩,
 ⟨3, some 11, none, .load false 1 (.tmp 10), []⟩,
 ⟨4, some 12, none, .faddr 2 (.tmp 1), []⟩,
 ⟨5, some 13, none, .load false 1 (.tmp 12), []⟩,
 ⟨6, some 14, none, .call 89 [.tmp 9, .tmp 11, .tmp 13], []⟩,
 ⟨7, some 15, none, .ext 0 (.tmp 14), []⟩,
 ⟨8, some 16, none, .ext 1 (.tmp 14), []⟩,
 ⟨9, none, none, .store 3 (.tmp 2) (.tmp 15), []⟩,
 ⟨10, some 3, none, .mov (.tmp 16), []⟩]) (
 .ret)
def ir86_k1 : ICode :=
 .seq (
 .seq (
 .region [
 ⟨0, some 4, none, .load true 3 (.tmp 1), []⟩,
 ⟨1, some 5, none, .call 91 [.tmp 4], []⟩,
 ⟨2, some 6, none, .un .not (.tmp 5), []⟩]) (
 .cond (.tmp 6) (
 .seq (
 .region [
 ⟨0, some 7, none, .build [.bool false, .slice none 0 0, .slice none 0 0] [], []⟩,
 ⟨1, none, none, .store 3 (.tmp 2) (.tmp 7), []⟩,
 ⟨2, some 3, none, .mov (.const (.int .i64 1)), []⟩]) (
 .ret)) (
 .skip))) ir86_k2
def ir86_b : ICode :=
 .seq (
 .region [
 ⟨0, some 1, none, .box (.tmp 0), []⟩,
 ⟨1, some 2, none, .alloc [.bool false, .slice none 0 0, .slice none 0 0], []⟩,
 ⟨2, some 3, none, .mov (.const (.int .i64 0)), []⟩]) ir86_k1
def ir86 : IFunc := ⟨17, [.cell 2 true 3, .tmp 3], ir86_b⟩
theorem ir86_eq : cFunc Tryz.prog 86 = some ir86 := by kernel_rfl
theorem call86 {args : List Value} {m : Mem} {Φ : Value → Mem → Prop} (h : args.length ≤ 17) : WPCall Tryz.prog 86 args m Φ = WP Tryz.prog ir86_b (initσ args) m (retK [.cell 2 true 3, .tmp 3] Φ) := wpCall_def ir86_eq h
def ir88_k4 : ICode :=
 .seq (
 .region [
 ⟨0, some 50, none, .faddr 0 (.tmp 2), []⟩,
 ⟨1, some 51, none, .load false 1 (.tmp 50), []⟩,
 ⟨2, some 52, none, .mov (.tmp 9), []⟩,
 ⟨3, some 53, none, .mov (.tmp 8), []⟩,
 ⟨4, some 54, none, .call 89 [.tmp 51, .tmp 52, .tmp 53], []⟩,
 ⟨5, some 55, none, .ext 0 (.tmp 54), []⟩,
 ⟨6, some 56, none, .ext 1 (.tmp 54), []⟩,
 ⟨7, none, none, .store 3 (.tmp 4) (.tmp 55), []⟩,
 ⟨8, some 5, none, .mov (.tmp 56), []⟩]) (
 .ret)
def ir88_k6 : ICode :=
 .seq (
 .region [
 ⟨0, some 67, none, .faddr 0 (.tmp 2), []⟩,
 ⟨1, some 68, none, .load false 1 (.tmp 67), []⟩,
 ⟨2, some 69, none, .mov (.tmp 11), []⟩,
 ⟨3, some 70, none, .mov (.tmp 8), []⟩,
 ⟨4, some 71, none, .call 89 [.tmp 68, .tmp 69, .tmp 70], []⟩,
 ⟨5, some 72, none, .ext 0 (.tmp 71), []⟩,
 ⟨6, some 73, none, .ext 1 (.tmp 71), []⟩,
 ⟨7, none, none, .store 3 (.tmp 4) (.tmp 72), []⟩,
 ⟨8, some 5, none, .mov (.tmp 73), []⟩]) (
 .ret)
def ir88_k8 : ICode :=
 .seq (
 .region [
 ⟨0, some 80, none, .faddr 0 (.tmp 3), []⟩,
 ⟨1, some 81, none, .load false 1 (.tmp 80), []⟩,
 ⟨2, some 82, none, .mov (.tmp 13), []⟩,
 ⟨3, some 83, none, .mov (.tmp 8), []⟩,
 ⟨4, some 84, none, .call 89 [.tmp 81, .tmp 82, .tmp 83], []⟩,
 ⟨5, some 85, none, .ext 0 (.tmp 84), []⟩,
 ⟨6, some 86, none, .ext 1 (.tmp 84), []⟩,
 ⟨7, none, none, .store 3 (.tmp 4) (.tmp 85), []⟩,
 ⟨8, some 5, none, .mov (.tmp 86), []⟩]) (
 .ret)
def ir88_k7 : ICode :=
 .seq (
 .region [
 ⟨0, some 75, none, .mov (.tmp 7), []⟩,
 ⟨1, some 76, none, .mov (.tmp 6), []⟩,
 ⟨2, some 77, none, .call 128 [.tmp 75, .tmp 76], []⟩,
 ⟨3, some 74, none, .mov (.tmp 77), []⟩,
 ⟨4, some 78, none, .ext 0 (.tmp 74), []⟩,
 ⟨5, some 79, none, .ext 1 (.tmp 74), []⟩,
 ⟨6, some 13, none, .mov (.tmp 78), []⟩,
 ⟨7, some 14, none, .mov (.tmp 79), []⟩]) ir88_k8
def ir88_k5 : ICode :=
 .seq (
 .seq (
 .region [
 ⟨0, some 57, none, .mov (.tmp 6), []⟩,
 ⟨1, some 58, none, .mov (.tmp 7), []⟩,
 ⟨2, some 59, none, .call 92 [.tmp 57, .tmp 58], []⟩,
 ⟨3, some 60, none, .bin .geq .other (.tmp 59) (.const (.int .i64 0)), []⟩]) (
 .cond (.tmp 60) (
 .seq (
 .region [
 ⟨0, some 62, none, .mov (.tmp 6), []⟩,
 ⟨1, some 63, none, .mov (.tmp 7), []⟩,
 ⟨2, some 64, none, .call 128 [.tmp 62, .tmp 63], []⟩,
 ⟨3, some 61, none, .mov (.tmp 64), []⟩,
 ⟨4, some 65, none, .ext 0 (.tmp 61), []⟩,
 ⟨5, some 66, none, .ext 1 (.tmp 61), []⟩,
 ⟨6, some 11, none, .mov (.tmp 65), []⟩,
 ⟨7, some 12, none, .mov (.tmp 66), []⟩]) ir88_k6) (
 .skip))) ir88_k7
def ir88_k3 : ICode :=
 .seq (
 .seq (
 .region [
 ⟨0, some 39, none, .faddr 0 (.tmp 2), []⟩,
 ⟨1, some 40, none, .load false 1 (.tmp 39), []⟩,
 ⟨2, some 41, none, .faddr 0 (.tmp 3), []⟩,
 ⟨3, some 42, none, .load false 1 (.tmp 41), []⟩,
 ⟨4, some 43, none, .bin .eql .bool (.tmp 40) (.tmp 42), []⟩]) (
 .cond (.tmp 43) (
 .seq (
 .region [
 ⟨0, some 45, none, .mov (.tmp 6), []⟩,
 ⟨1, some 46, none, .mov (.tmp 7), []⟩,
 ⟨2, some 47, none, .call 127 [.tmp 45, .tmp 46], []⟩,
 ⟨3, some 44, none, .mov (.tmp 47), []⟩,
 ⟨4, some 48, none, .ext 0 (.tmp 44), []⟩,
 ⟨5, some 49, none, .ext 1 (.tmp 44), []⟩,
 ⟨6, some 9, none, .mov (.tmp 48), []⟩,
 ⟨7, some 10, none, .mov (.tmp 49), []⟩]) ir88_k4) (
 .skip))) ir88_k5
def ir88_k2 : ICode :=
 .seq (
 .region [
 ⟨0, some 24, none, .faddr 1 (.tmp 2), []⟩,
 ⟨1, some 25, none, .load false 1 (.tmp 24), []⟩,
 ⟨2, some 26, none, .faddr 2 (.tmp 3), []⟩,
 ⟨3, some 27, none, .load false 1 (.tmp 26), []⟩,
 ⟨5, some 29, none, .faddr 1 (.tmp 3), []⟩,
 ⟨6, some 30, none, .load false 1 (.tmp 29), []⟩,
 ⟨7, some 31, none, .faddr 2 (.tmp 2), []⟩,
 ⟨8, some 32, none, .load false 1 (.tmp 31), []⟩,
 ⟨10, some 34, none, .faddr 2 (.tmp 2), []⟩,
 ⟨11, some 35, none, .load false 1 (.tmp 34), []⟩,
 ⟨12, some 36, none, .faddr 2 (.tmp 3), []⟩,
 ⟨13, some 37, none, .load false 1 (.tmp 36), []⟩,
 ⟨4, some 28, none, .call 93 [.tmp 25, .tmp 27], [(.tmp 36, .tmp 36), (.tmp 34, .tmp 34), (.tmp 31, .tmp 31), (.tmp 29, .tmp 29)]⟩,
 ⟨9, some 33, none, .call 93 [.tmp 30, .tmp 32], [(.tmp 36, .tmp 36), (.tmp 34, .tmp 34)]⟩,
 ⟨14, some 38, none, .call 93 [.tmp 35, .tmp 37], []⟩,
 ⟨15, some 6, none, .mov (.tmp 28), []⟩,
 ⟨16, some 7, none, .mov (.tmp 33), []⟩,
 ⟨17, some 8, none, .mov (.tmp 38), []⟩]) ir88_k3
def ir88_k1 : ICode :=
 .seq (
 .seq (
 .region [
 ⟨0, some 15, none, .load true 3 (.tmp 2), []⟩,
 ⟨1, some 16, none, .call 91 [.tmp 15], []⟩,
 ⟨2, some 17, none, .un .not (.tmp 16), []⟩,
 ⟨3, some 18, none, .mov (.tmp 17), []⟩,
 ⟨4, some 19, some (18, false), .load true 3 (.tmp 3), []⟩,
 ⟨5, some 20, some (18, false), .call 91 [.tmp 19], []⟩,
 ⟨6, some 21, some (18, false), .un .not (.tmp 20), []⟩,
 ⟨7, some 22, none, .pick (.tmp 18) (.const (.bool true)) (.tmp 21), []⟩]) (
 .cond (.tmp 22) (
 .seq (
 .region [
 ⟨0, some 23, none, .build [.bool false, .slice none 0 0, .slice none 0 0] [], []⟩,
 ⟨1, none, none, .store 3 (.tmp 4) (.tmp 23), []⟩,
 ⟨2, some 5, none, .mov (.const (.int .i64 1)), []⟩]) (
 .ret)) (
 .skip))) ir88_k2
def ir88_b : ICode :=
 .seq (
 .region [
 ⟨0, some 2, none, .box (.tmp 0), []⟩,
 ⟨1, some 3, none, .box (.tmp 1), []⟩,
 ⟨2, some 4, none, .alloc [.bool false, .slice none 0 0, .slice none 0 0], []⟩,
 ⟨3, some 5, none, .mov (.const (.int .i64 0)), []⟩]) ir88_k1
def ir88 : IFunc := ⟨87, [.cell 4 true 3, .tmp 5], ir88_b⟩
theorem ir88_eq : cFunc Tryz.prog 88 = some ir88 := by kernel_rfl
theorem call88 {args : List Value} {m : Mem} {Φ : Value → Mem → Prop} (h : args.length ≤ 87) : WPCall Tryz.prog 88 args m Φ = WP Tryz.prog ir88_b (initσ args) m (retK [.cell 4 true 3, .tmp 5] Φ) := wpCall_def ir88_eq h
def ir89_k2 : ICode :=
 .seq (
 .region [
 ⟨0, some 16, none, .mov (.tmp 8), []⟩,
 ⟨1, some 17, none, .call 87 [.tmp 16], []⟩,
 ⟨2, some 18, none, .bin .gtr .other (.tmp 17) (.const (.int .i64 1)), []⟩]) (
 .cond (.tmp 18) (
 .seq (
 .region [
 ⟨0, some 20, none, .mov (.tmp 1), []⟩,
 ⟨1, some 21, none, .mov (.tmp 8), []⟩,
 ⟨2, some 22, none, .call 130 [.tmp 20, .tmp 21], []⟩,
 ⟨3, some 19, none, .mov (.tmp 22), []⟩,
 ⟨4, some 23, none, .ext 0 (.tmp 19), []⟩,
 ⟨5, some 24, none, .ext 1 (.tmp 19), []⟩,
 ⟨6, some 25, none, .ext 2 (.tmp 19), []⟩,
 ⟨7, some 1, none, .mov (.tmp 23), []⟩]) (
 .region [
 ⟨0, some 27, none, .mov (.tmp 2), []⟩,
 ⟨1, some 28, none, .mov (.tmp 8), []⟩,
 ⟨2, some 29, none, .call 130 [.tmp 27, .tmp 28], []⟩,
 ⟨3, some 26, none, .mov (.tmp 29), []⟩,
 ⟨4, some 30, none, .ext 0 (.tmp 26), []⟩,
 ⟨5, some 31, none, .ext 1 (.tmp 26), []⟩,
 ⟨6, some 32, none, .ext 2 (.tmp 26), []⟩,
 ⟨7, some 2, none, .mov (.tmp 30), []⟩])) (
 .skip))
def ir89_k4 : ICode :=
 .seq (
 .region [
 ⟨0, some 42, none, .mov (.tmp 0), []⟩,
 ⟨1, some 43, none, .mov (.tmp 42), []⟩,
 ⟨2, some 44, some (43, true), .mov (.tmp 1), []⟩,
 ⟨3, some 45, some (43, true), .call 87 [.tmp 44], []⟩,
 ⟨4, some 46, some (43, true), .bin .gtr .other (.tmp 45) (.const (.int .i64 0)), []⟩,
 ⟨5, some 47, none, .pick (.tmp 43) (.tmp 46) (.const (.bool false)), []⟩,
 ⟨6, some 48, none, .mov (.tmp 1), []⟩,
 ⟨7, some 49, none, .call 131 [.tmp 48], []⟩,
 ⟨8, some 50, none, .mov (.tmp 2), []⟩,
 ⟨9, some 51, none, .call 131 [.tmp 50], []⟩,
 ⟨10, some 52, none, .build [.bool false, .slice none 0 0, .slice none 0 0] [(0, 1, .tmp 47), (1, 1, .tmp 49), (2, 1, .tmp 51)], []⟩,
 ⟨11, none, none, .store 3 (.tmp 6) (.tmp 52), []⟩,
 ⟨12, some 7, none, .mov (.const (.int .i64 0)), []⟩]) (
 .ret)
def ir89_k3 : ICode :=
 .seq (
 .seq (
 .region [
 ⟨0, some 33, none, .mov (.tmp 1), []⟩,
 ⟨1, some 34, none, .call 87 [.tmp 33], []⟩,
 ⟨2, some 35, none, .bin .gtr .other (.tmp 34) (.const (.int .i64 4096)), []⟩,
 ⟨3, some 36, none, .mov (.tmp 35), []⟩,
 ⟨4, some 37, some (36, false), .mov (.tmp 2), []⟩,
 ⟨5, some 38, some (36, false), .call 87 [.tmp 37], []⟩,
 ⟨6, some 39, some (36, false), .bin .gtr .other (.tmp 38) (.const (.int .i64 4096)), []⟩,
 ⟨7, some 40, none, .pick (.tmp 36) (.const (.bool true)) (.tmp 39), []⟩]) (
 .cond (.tmp 40) (
 .seq (
 .region [
 ⟨0, some 41, none, .build [.bool false, .slice none 0 0, .slice none 0 0] [], []⟩,
 ⟨1, none, none, .store 3 (.tmp 6) (.tmp 41), []⟩,
 ⟨2, some 7, none, .mov (.const (.int .i64 2)), []⟩]) (
 .ret)) (
 .skip))) ir89_k4
def ir89_k1 : ICode :=
 .seq (
 .seq (
 .region [
 ⟨0, some 11, none, .mov (.tmp 1), []⟩,
 ⟨1, some 12, none, .mov (.tmp 2), []⟩,
 ⟨2, some 13, none, .call 129 [.tmp 11, .tmp 12], []⟩,
 ⟨3, some 10, none, .mov (.tmp 13), []⟩,
 ⟨4, some 14, none, .ext 0 (.tmp 10), []⟩,
 ⟨5, some 15, none, .ext 1 (.tmp 10), []⟩,
 ⟨6, some 8, none, .mov (.tmp 14), []⟩,
 ⟨7, some 9, none, .mov (.tmp 15), []⟩]) ir89_k2) ir89_k3
def ir89_b : ICode :=
 .seq (
 .region [
 ⟨0, some 6, none, .alloc [.bool false, .slice none 0 0, .slice none 0 0], []⟩,
 ⟨1, some 7, none, .mov (.const (.int .i64 0)), []⟩]) ir89_k1
def ir89 : IFunc := ⟨53, [.cell 6 true 3, .tmp 7], ir89_b⟩
theorem ir89_eq : cFunc Tryz.prog 89 = some ir89 := by kernel_rfl
theorem call89 {args : List Value} {m : Mem} {Φ : Value → Mem → Prop} (h : args.length ≤ 53) : WPCall Tryz.prog 89 args m Φ = WP Tryz.prog ir89_b (initσ args) m (retK [.cell 6 true 3, .tmp 7] Φ) := wpCall_def ir89_eq h
def ir90_k2 : ICode :=
 .seq (
 .region [
 ⟨0, some 9, none, .mov (.tmp 0), []⟩,
 ⟨1, some 10, none, .convI .u64 (.tmp 9), []⟩,
 ⟨2, some 11, none, .call 34 [.tmp 10], []⟩,
 ⟨3, some 2, none, .mov (.tmp 11), []⟩]) (
 .ret)
def ir90_k1 : ICode :=
 .seq (
 .seq (
 .region [
 ⟨0, some 3, none, .mov (.tmp 0), []⟩,
 ⟨1, some 4, none, .bin .lss .other (.tmp 3) (.const (.int .i64 0)), []⟩]) (
 .cond (.tmp 4) (
 .seq (
 .region [
 ⟨0, some 5, none, .mov (.tmp 0), []⟩,
 ⟨1, some 6, none, .convI .u64 (.tmp 5), []⟩,
 ⟨2, some 7, none, .un .neg (.tmp 6), []⟩,
 ⟨3, some 8, none, .call 34 [.tmp 7], []⟩,
 ⟨4, some 2, none, .mov (.tmp 8), []⟩]) (
 .ret)) (
 .skip))) ir90_k2
def ir90_b : ICode :=
 .seq (
 .region [
 ⟨0, some 2, none, .mov (.const (.slice none 0 0)), []⟩]) ir90_k1
def ir90 : IFunc := ⟨12, [.tmp 2], ir90_b⟩
theorem ir90_eq : cFunc Tryz.prog 90 = some ir90 := by kernel_rfl
theorem call90 {args : List Value} {m : Mem} {Φ : Value → Mem → Prop} (h : args.length ≤ 12) : WPCall Tryz.prog 90 args m Φ = WP Tryz.prog ir90_b (initσ args) m (retK [.tmp 2] Φ) := wpCall_def ir90_eq h
def ir91_k2 : ICode :=
 .seq (
 .region [
 ⟨0, some 7, none, .mov (.tmp 3), []⟩,
 ⟨1, some 8, none, .bin .gtr .other (.tmp 7) (.const (.int .i64 0)), []⟩,
 ⟨2, some 9, none, .mov (.tmp 8), []⟩,
 ⟨3, some 10, some (9, true), .mov (.tmp 3), []⟩,
 ⟨4, some 11, some (9, true), .bin .leq .other (.tmp 10) (.const (.int .i64 4096)), []⟩,
 ⟨5, some 12, none, .pick (.tmp 9) (.tmp 11) (.const (.bool false)), []⟩,
 ⟨6, some 13, none, .mov (.tmp 12), []⟩,
 ⟨7, some 14, some (13, true), .faddr 1 (.tmp 1), []⟩,
 ⟨8, some 15, some (13, true), .load false 1 (.tmp 14), []⟩,
 ⟨9, some 16, some (13, true), .call 87 [.tmp 15], []⟩,
 ⟨10, some 17, some (13, true), .bin .leq .other (.tmp 16) (.const (.int .i64 4096)), []⟩,
 ⟨11, some 18, none, .pick (.tmp 13) (.tmp 17) (.const (.bool false)), []⟩,
 ⟨12, some 2, none, .mov (.tmp 18), []⟩]) (
 .ret)
def ir91_k1 : ICode :=
 .seq (
 .region [
 ⟨0, some 4, none, .faddr 2 (.tmp 1), []⟩,
 ⟨1, some 5, none, .load false 1 (.tmp 4), []⟩,
 ⟨2, some 6, none, .call 87 [.tmp 5], []⟩,
 ⟨3, some 3, none, .mov (.tmp 6), []⟩]) ir91_k2
def ir91_b : ICode :=
 .seq (
 .region [
 ⟨0, some 1, none, .box (.tmp 0), []⟩,
 ⟨1, some 2, none, .mov (.const (.bool false)), []⟩]) ir91_k1
def ir91 : IFunc := ⟨19, [.tmp 2], ir91_b⟩
theorem ir91_eq : cFunc Tryz.prog 91 = some ir91 := by kernel_rfl
theorem call91 {args : List Value} {m : Mem} {Φ : Value → Mem → Prop} (h : args.length ≤ 19) : WPCall Tryz.prog 91 args m Φ = WP Tryz.prog ir91_b (initσ args) m (retK [.tmp 2] Φ) := wpCall_def ir91_eq h
def ir93_k2 : ICode :=
 .seq (
 .region [
 ⟨0, some 13, none, .mov (.tmp 5), []⟩,
 ⟨1, some 4, none, .mov (.tmp 13), []⟩]) (
 .ret)
def ir93_k1 : ICode :=
 .seq (
 .region [
 ⟨0, some 8, none, .mov (.tmp 0), []⟩,
 ⟨1, some 9, none, .mov (.tmp 1), []⟩,
 ⟨2, some 10, none, .call 132 [.tmp 8, .tmp 9], []⟩,
 ⟨3, some 7, none, .mov (.tmp 10), []⟩,
 ⟨4, some 11, none, .ext 0 (.tmp 7), []⟩,
 ⟨5, some 12, none, .ext 1 (.tmp 7), []⟩,
 ⟨6, some 5, none, .mov (.tmp 11), []⟩,
 ⟨7, some 6, none, .mov (.tmp 12), []⟩]) ir93_k2
def ir93_b : ICode :=
 .seq (
 .region [
 ⟨0, some 4, none, .mov (.const (.slice none 0 0)), []⟩]) ir93_k1
def ir93 : IFunc := ⟨14, [.tmp 4], ir93_b⟩
theorem ir93_eq : cFunc Tryz.prog 93 = some ir93 := by kernel_rfl
theorem call93 {args : List Value} {m : Mem} {Φ : Value → Mem → Prop} (h : args.length ≤ 14) : WPCall Tryz.prog 93 args m Φ = WP Tryz.prog ir93_b (initσ args) m (retK [.tmp 4] Φ) := wpCall_def ir93_eq h
def ir94_k1 : ICode :=
 .seq (
 .region [
 ⟨0, some 3, none, .faddr 1 (.tmp 1), []⟩,
 ⟨1, some 4, none, .load false 1 (.tmp 3), []⟩,
 ⟨2, some 5, none, .call 87 [.tmp 4], []⟩,
 ⟨3, some 6, none, .bin .eql .other (.tmp 5) (.const (.int .i64 0)), []⟩,
 ⟨4, some 2, none, .mov (.tmp 6), []⟩]) (
 .ret)
def ir94_b : ICode :=
 .seq (
 .region [
 ⟨0, some 1, none, .box (.tmp 0), []⟩,
 ⟨1, some 2, none, .mov (.const (.bool false)), []⟩]) ir94_k1
def ir94 : IFunc := ⟨7, [.tmp 2], ir94_b⟩
theorem ir94_eq : cFunc Tryz.prog 94 = some ir94 := by kernel_rfl
theorem call94 {args : List Value} {m : Mem} {Φ : Value → Mem → Prop} (h : args.length ≤ 7) : WPCall Tryz.prog 94 args m Φ = WP Tryz.prog ir94_b (initσ args) m (retK [.tmp 2] Φ) := wpCall_def ir94_eq h
def ir97_k4 : ICode :=
 .seq (
 .region [
 ⟨0, some 50, none, .mov (.tmp 5), []⟩,
 ⟨1, some 51, none, .mov (.tmp 6), []⟩,
 ⟨2, some 52, none, .call 134 [.tmp 50, .tmp 51], []⟩,
 ⟨3, some 4, none, .mov (.tmp 52), []⟩]) (
 .ret)
def ir97_k3 : ICode :=
 .seq (
 .block 0 (
 .seq (
 .region [
 ⟨0, some 34, none, .mov (.tmp 7), []⟩,
 ⟨1, some 35, none, .mov (.tmp 34), []⟩,
 ⟨2, some 36, some (35, true), .mov (.tmp 8), []⟩,
 ⟨3, some 37, some (35, true), .un .not (.tmp 36), []⟩,
 ⟨4, some 38, none, .pick (.tmp 35) (.tmp 37) (.const (.bool false)), []⟩,
 ⟨5, some 33, none, .mov (.tmp 38), []⟩]) (
 .cond (.tmp 33) (
 .seq (
 .region [
 ⟨0, some 4, none, .mov (.const (.int .i64 (-1))), []⟩]) (
 .ret)) (
 .seq (
 .region [
 ⟨0, some 40, none, .mov (.tmp 8), []⟩,
 ⟨1, some 41, none, .mov (.tmp 40), []⟩,
 ⟨2, some 42, some (41, true), .mov (.tmp 7), []⟩,
 ⟨3, some 43, some (41, true), .un .not (.tmp 42), []⟩,
 ⟨4, some 44, none, .pick (.tmp 41) (.tmp 43) (.const (.bool false)), []⟩,
 ⟨5, some 39, none, .mov (.tmp 44), []⟩]) (
 .cond (.tmp 39) (
 .seq (
 .region [
 ⟨0, some 4, none, .mov (.const (.int .i64 1)), []⟩]) (
 .ret)) (
 .seq (
 .region [
 ⟨0, some 46, none, .mov (.tmp 7), []⟩,
 ⟨1, some 45, none, .mov (.tmp 46), []⟩]) (
 .cond (.tmp 45) (
 .seq (
 .region [
 ⟨0, some 47, none, .mov (.tmp 6), []⟩,
 ⟨1, some 48, none, .mov (.tmp 5), []⟩,
 ⟨2, some 49, none, .call 134 [.tmp 47, .tmp 48], []⟩,
 ⟨3, some 4, none, .mov (.tmp 49), []⟩]) (
 .ret)) (
 .skip)))))))) ir97_k4
def ir97_k2 : ICode :=
 .seq (
 .region [
 ⟨0, some 19, none, .faddr 0 (.tmp 2), []⟩,
 ⟨1, some 20, none, .load false 1 (.tmp 19), []⟩,
 ⟨2, some 21, none, .mov (.tmp 20), []⟩,
 ⟨3, some 22, some (21, true), .mov (.tmp 5), []⟩,
 ⟨4, some 23, some (21, true), .lenV (.tmp 22), []⟩,
 ⟨5, some 24, some (21, true), .bin .gtr .other (.tmp 23) (.const (.int .i64 0)), []⟩,
 ⟨6, some 25, none, .pick (.tmp 21) (.tmp 24) (.const (.bool false)), []⟩,
 ⟨7, some 26, none, .faddr 0 (.tmp 3), []⟩,
 ⟨8, some 27, none, .load false 1 (.tmp 26), []⟩,
 ⟨9, some 28, none, .mov (.tmp 27), []⟩,
 ⟨10, some 29, some (28, true), .mov (.tmp 6), []⟩,
 ⟨11, some 30, some (28, true), .lenV (.tmp 29), []⟩,
 ⟨12, some 31, some (28, true), .bin .gtr .other (.tmp 30) (.const (.int .i64 0)), []⟩,
 ⟨13, some 32, none, .pick (.tmp 28) (.tmp 31) (.const (.bool false)), []⟩,
 ⟨14, some 7, none, .mov (.tmp 25), []⟩,
 ⟨15, some 8, none, .mov (.tmp 32), []⟩]) ir97_k3
def ir97_k1 : ICode :=
 .seq (
 .region [
 ⟨0, some 9, none, .faddr 1 (.tmp 2), []⟩,
 ⟨1, some 10, none, .load false 1 (.tmp 9), []⟩,
 ⟨2, some 11, none, .faddr 2 (.tmp 3), []⟩,
 ⟨3, some 12, none, .load false 1 (.tmp 11), []⟩,
 ⟨5, some 14, none, .faddr 1 (.tmp 3), []⟩,
 ⟨6, some 15, none, .load false 1 (.tmp 14), []⟩,
 ⟨7, some 16, none, .faddr 2 (.tmp 2), []⟩,
 ⟨8, some 17, none, .load false 1 (.tmp 16), []⟩,
 ⟨4, some 13, none, .call 133 [.tmp 10, .tmp 12], [(.tmp 16, .tmp 16), (.tmp 14, .tmp 14)]⟩,
 ⟨9, some 18, none, .call 133 [.tmp 15, .tmp 17], []⟩,
 ⟨10, some 5, none, .mov (.tmp 13), []⟩,
 ⟨11, some 6, none, .mov (.tmp 18), []⟩]) ir97_k2
def ir97_b : ICode :=
 .seq (
 .region [
 ⟨0, some 2, none, .box (.tmp 0), []⟩,
 ⟨1, some 3, none, .box (.tmp 1), []⟩,
 ⟨2, some 4, none, .mov (.const (.int .i64 0)), []⟩]) ir97_k1
def ir97 : IFunc := ⟨53, [.tmp 4], ir97_b⟩
theorem ir97_eq : cFunc Tryz.prog 97 = some ir97 := by kernel_rfl
theorem call97 {args : List Value} {m : Mem} {Φ : Value → Mem → Prop} (h : args.length ≤ 53) : WPCall Tryz.prog 97 args m Φ = WP Tryz.prog ir97_b (initσ args) m (retK [.tmp 4] Φ) := wpCall_def ir97_eq h
def ir98_k4 : ICode :=
 .seq (
 .region [
 ⟨0, some 50, none, .faddr 0 (.tmp 2), []⟩,
 ⟨1, some 51, none, .load false 1 (.tmp 50), []⟩,
 ⟨2, some 52, none, .mov (.tmp 9), []⟩,
 ⟨3, some 53, none, .mov (.tmp 8), []⟩,
 ⟨4, some 54, none, .call 107 [.tmp 51, .tmp 52, .tmp 53], []⟩,
 ⟨5, some 55, none, .call 136 [.tmp 54], []⟩,
 ⟨6, some 56, none, .ext 0 (.tmp 55), []⟩,
 ⟨7, some 57, none, .ext 1 (.tmp 55), []⟩,
 ⟨8, none, none, .store 3 (.tmp 4) (.tmp 56), []⟩,
 ⟨9, some 5, none, .mov (.tmp 57), []⟩]) (
 .ret)
def ir98_k6 : ICode :=
 .seq (
 .region [
 ⟨0, some 68, none, .faddr 0 (.tmp 2), []⟩,
 ⟨1, some 69, none, .load false 1 (.tmp 68), []⟩,
 ⟨2, some 70, none, .mov (.tmp 11), []⟩,
 ⟨3, some 71, none, .mov (.tmp 8), []⟩,
 ⟨4, some 72, none, .call 107 [.tmp 69, .tmp 70, .tmp 71], []⟩,
 ⟨5, some 73, none, .call 136 [.tmp 72], []⟩,
 ⟨6, some 74, none, .ext 0 (.tmp 73), []⟩,
 ⟨7, some 75, none, .ext 1 (.tmp 73), []⟩,
 ⟨8, none, none, .store 3 (.tmp 4) (.tmp 74), []⟩,
 ⟨9, some 5, none, .mov (.tmp 75), []⟩]) (
 .ret)
def ir98_k8 : ICode :=
 .seq (
 .region [
 ⟨0, some 82, none, .faddr 0 (.tmp 3), []⟩,
 ⟨1, some 83, none, .load false 1 (.tmp 82), []⟩,
 ⟨2, some 84, none, .mov (.tmp 13), []⟩,
 ⟨3, some 85, none, .mov (.tmp 8), []⟩,
 ⟨4, some 86, none, .call 107 [.tmp 83, .tmp 84, .tmp 85], []⟩,
 ⟨5, some 87, none, .call 136 [.tmp 86], []⟩,
 ⟨6, some 88, none, .ext 0 (.tmp 87), []⟩,
 ⟨7, some 89, none, .ext 1 (.tmp 87), []⟩,
 ⟨8, none, none, .store 3 (.tmp 4) (.tmp 88), []⟩,
 ⟨9, some 5, none, .mov (.tmp 89), []⟩]) (
 .ret)
def ir98_k7 : ICode :=
 .seq (
 .region [
 ⟨0, some 77, none, .mov (.tmp 7), []⟩,
 ⟨1, some 78, none, .mov (.tmp 6), []⟩,
 ⟨2, some 79, none, .call 137 [.tmp 77, .tmp 78], []⟩,
 ⟨3, some 76, none, .mov (.tmp 79), []⟩,
 ⟨4, some 80, none, .ext 0 (.tmp 76), []⟩,
 ⟨5, some 81, none, .ext 1 (.tmp 76), []⟩,
 ⟨6, some 13, none, .mov (.tmp 80), []⟩,
 ⟨7, some 14, none, .mov (.tmp 81), []⟩]) ir98_k8
def ir98_k5 : ICode :=
 .seq (
 .seq (
 .region [
 ⟨0, some 58, none, .mov (.tmp 6), []⟩,
 ⟨1, some 59, none, .mov (.tmp 7), []⟩,
 ⟨2, some 60, none, .call 134 [.tmp 58, .tmp 59], []⟩,
 ⟨3, some 61, none, .bin .geq .other (.tmp 60) (.const (.int .i64 0)), []⟩]) (
 .cond (.tmp 61) (
 .seq (
 .region [
 ⟨0, some 63, none, .mov (.tmp 6), []⟩,
 ⟨1, some 64, none, .mov (.tmp 7), []⟩,
 ⟨2, some 65, none, .call 137 [.tmp 63, .tmp 64], []⟩,
 ⟨3, some 62, none, .mov (.tmp 65), []⟩,
 ⟨4, some 66, none, .ext 0 (.tmp 62), []⟩,
 ⟨5, some 67, none, .ext 1 (.tmp 62), []⟩,
 ⟨6, some 11, none, .mov (.tmp 66), []⟩,
 ⟨7, some 12, none, .mov (.tmp 67), []⟩]) ir98_k6) (
 .skip))) ir98_k7
def ir98_k3 : ICode :=
 .seq (
 .seq (
 .region [
 ⟨0, some 39, none, .faddr 0 (.tmp 2), []⟩,
 ⟨1, some 40, none, .load false 1 (.tmp 39), []⟩,
 ⟨2, some 41, none, .faddr 0 (.tmp 3), []⟩,
 ⟨3, some 42, none, .load false 1 (.tmp 41), []⟩,
 ⟨4, some 43, none, .bin .eql .bool (.tmp 40) (.tmp 42), []⟩]) (
 .cond (.tmp 43) (
 .seq (
 .region [
 ⟨0, some 45, none, .mov (.tmp 6), []⟩,
 ⟨1, some 46, none, .mov (.tmp 7), []⟩,
 ⟨2, some 47, none, .call 135 [.tmp 45, .tmp 46], []⟩,
 ⟨3, some 44, none, .mov (.tmp 47), []⟩,
 ⟨4, some 48, none, .ext 0 (.tmp 44), []⟩,
 ⟨5, some 49, none, .ext 1 (.tmp 44), []⟩,
 ⟨6, some 9, none, .mov (.tmp 48), []⟩,
 ⟨7, some 10, none, .mov (.tmp 49), []⟩]) ir98_k4) (
 .skip))) ir98_k5
def ir98_k2 : ICode :=
 .seq (
 .region [
 ⟨0, some 24, none, .faddr 1 (.tmp 2), []⟩,
 ⟨1, some 25, none, .load false 1 (.tmp 24), []⟩,
 ⟨2, some 26, none, .faddr 2 (.tmp 3), []⟩,
 ⟨3, some 27, none, .load false 1 (.tmp 26), []⟩,
 ⟨5, some 29, none, .faddr 1 (.tmp 3), []⟩,
 ⟨6, some 30, none, .load false 1 (.tmp 29), []⟩,
 ⟨7, some 31, none, .faddr 2 (.tmp 2), []⟩,
 ⟨8, some 32, none, .load false 1 (.tmp 31), []⟩,
 ⟨10, some 34, none, .faddr 2 (.tmp 2), []⟩,
 ⟨11, some 35, none, .load false 1 (.tmp 34), []⟩,
 ⟨12, some 36, none, .faddr 2 (.tmp 3), []⟩,
 ⟨13, some 37, none, .load false 1 (.tmp 36), []⟩,
 ⟨4, some 28, none, .call 133 [.tmp 25, .tmp 27], [(.tmp 36, .tmp 36), (.tmp 34, .tmp 34), (.tmp 31, .tmp 31), (.tmp 29, .tmp 29)]⟩,
 ⟨9, some 33, none, .call 133 [.tmp 30, .tmp 32], [(.tmp 36, .tmp 36), (.tmp 34, .tmp 34)]⟩,
 ⟨14, some 38, none, .call 133 [.tmp 35, .tmp 37], []⟩,
 ⟨15, some 6, none, .mov (.tmp 28), []⟩,
 ⟨16, some 7, none, .mov (.tmp 33), []⟩,
 ⟨17, some 8, none, .mov (.tmp 38), []⟩]) ir98_k3
def ir98_k1 : ICode :=
 .seq (
 .seq (
 .region [
 ⟨0, some 15, none, .load true 3 (.tmp 2), []⟩,
 ⟨1, some 16, none, .call 54 [.tmp 15], []⟩,
 ⟨2, some 17, none, .un .not (.tmp 16), []⟩,
 ⟨3, some 18, none, .mov (.tmp 17), []⟩,
 ⟨4, some 19, some (18, false), .load true 3 (.tmp 3), []⟩,
 ⟨5, some 20, some (18, false), .call 54 [.tmp 19], []⟩,
 ⟨6, some 21, some (18, false), .un .not (.tmp 20), []⟩,
 ⟨7, some 22, none, .pick (.tmp 18) (.const (.bool true)) (.tmp 21), []⟩]) (
 .cond (.tmp 22) (
 .seq (
 .region [
 ⟨0, some 23, none, .build [.bool false, .slice none 0 0, .slice none 0 0] [], []⟩,
 ⟨1, none, none, .store 3 (.tmp 4) (.tmp 23), []⟩,
 ⟨2, some 5, none, .mov (.const (.int .i64 1)), []⟩]) (
 .ret)) (
 .skip))) ir98_k2
def ir98_b : ICode :=
 .seq (
 .region [
 ⟨0, some 2, none, .box (.tmp 0), []⟩,
 ⟨1, some 3, none, .box (.tmp 1), []⟩,
 ⟨2, some 4, none, .alloc [.bool false, .slice none 0 0, .slice none 0 0], []⟩,
 ⟨3, some 5, none, .mov (.const (.int .i64 0)), []⟩]) ir98_k1
def ir98 : IFunc := ⟨90, [.cell 4 true 3, .tmp 5], ir98_b⟩
theorem ir98_eq : cFunc Tryz.prog 98 = some ir98 := by kernel_rfl
theorem call98 {args : List Value} {m : Mem} {Φ : Value → Mem → Prop} (h : args.length ≤ 90) : WPCall Tryz.prog 98 args m Φ = WP Tryz.prog ir98_b (initσ args) m (retK [.cell 4 true 3, .tmp 5] Φ) := wpCall_def ir98_eq h
def ir99_k2 : ICode :=
 .seq (
 .region [
 ⟨0, some 9, none, .mov (.tmp 0), []⟩,
 ⟨1, some 10, none, .bin .lss .other (.tmp 9) (.const (.int .i64 0)), []⟩,
 ⟨2, some 11, none, .mov (.tmp 1), []⟩,
 ⟨3, some 12, none, .bin .lss .other (.tmp 11) (.const (.int .i64 0)), []⟩,
 ⟨4, some 13, none, .bin .neq .bool (.tmp 10) (.tmp 12), []⟩,
 ⟨5, some 14, none, .mov (.tmp 0), []⟩,
 ⟨6, some 15, none, .call 139 [.tmp 14], []⟩,
 ⟨7, some 16, none, .call 138 [.tmp 15], []⟩,
 ⟨8, some 17, none, .mov (.tmp 1), []⟩,
 ⟨9, some 18, none, .call 139 [.tmp 17], []⟩,
 ⟨10, some 19, none, .call 138 [.tmp 18], []⟩,
 ⟨11, some 20, none, .call 107 [.tmp 13, .tmp 16, .tmp 19], []⟩,
 ⟨12, none, none, .store 3 (.tmp 4) (.tmp 20), []⟩,
 ⟨13, some 5, none, .mov (.const (.int .i64 0)), []⟩]) (
 .ret)
def ir99_k1 : ICode :=
 .seq (
 .seq (
 .region [
 ⟨0, some 6, none, .mov (.tmp 1), []⟩,
 ⟨1, some 7, none, .bin .eql .other (.tmp 6) (.const (.int .i64 0)), []⟩]) (
 .cond (.tmp 7) (
 .seq (
 .region [
 ⟨0, some 8, none, .build [.bool false, .slice none 0 0, .slice none 0 0] [], []⟩,
 ⟨1, none, none, .store 3 (.tmp 4) (.tmp 8), []⟩,
 ⟨2, some 5, none, .mov (.const (.int .i64 3)), []⟩]) (
 .ret)) (
 .skip))) ir99_k2
def ir99_b : ICode :=
 .seq (
 .region [
 ⟨0, some 4, none, .alloc [.bool false, .slice none 0 0, .slice none 0 0], []⟩,
 ⟨1, some 5, none, .mov (.const (.int .i64 0)), []⟩]) ir99_k1
def ir99 : IFunc := ⟨21, [.cell 4 true 3, .tmp 5], ir99_b⟩
theorem ir99_eq : cFunc Tryz.prog 99 = some ir99 := by kernel_rfl
theorem call99 {args : List Value} {m : Mem} {Φ : Value → Mem → Prop} (h : args.length ≤ 21) : WPCall Tryz.prog 99 args m Φ = WP Tryz.prog ir99_b (initσ args) m (retK [.cell 4 true 3, .tmp 5] Φ) := wpCall_def ir99_eq h
def ir107_k4 : ICode :=
 .seq (
 .region [
 ⟨0, some 24, none, .mov (.tmp 7), []⟩,
 ⟨1, some 25, none, .lenV (.tmp 24), []⟩,
 ⟨2, some 26, none, .bin .gtr .other (.tmp 25) (.const (.int .i64 1)), []⟩,
 ⟨3, some 27, none, .mov (.tmp 26), []⟩,
 ⟨4, some 28, some (27, false), .mov (.tmp 7), []⟩,
 ⟨5, some 29, some (27, false), .iaddr 1 (.tmp 28) (.const (.int .i64 0)), []⟩,
 ⟨6, some 30, some (27, false), .load false 1 (.tmp 29), []⟩,
 ⟨7, some 31, some (27, false), .bin .gtr .other (.tmp 30) (.const (.int .u32 1)), []⟩,
 ⟨8, some 32, none, .pick (.tmp 27) (.const (.bool true)) (.tmp 31), []⟩]) (
 .cond (.tmp 32) (
 .seq (
 .region [
 ⟨0, some 34, none, .mov (.tmp 1), []⟩,
 ⟨1, some 35, none, .mov (.tmp 7), []⟩,
 ⟨2, some 36, none, .call 146 [.tmp 34, .tmp 35], []⟩,
 ⟨3, some 33, none, .mov (.tmp 36), []⟩,
 ⟨4, some 37, none, .ext 0 (.tmp 33), []⟩,
 ⟨5, some 38, none, .ext 1 (.tmp 33), []⟩,
 ⟨6, some 39, none, .ext 2 (.tmp 33), []⟩,
 ⟨7, some 1, none, .mov (.tmp 37), []⟩]) (
 .region [
 ⟨0, some 41, none, .mov (.tmp 2), []⟩,
 ⟨1, some 42, none, .mov (.tmp 7), []⟩,
 ⟨2, some 43, none, .call 146 [.tmp 41, .tmp 42], []⟩,
 ⟨3, some 40, none, .mov (.tmp 43), []⟩,
 ⟨4, some 44, none, .ext 0 (.tmp 40), []⟩,
 ⟨5, some 45, none, .ext 1 (.tmp 40), []⟩,
 ⟨6, some 46, none, .ext 2 (.tmp 40), []⟩,
 ⟨7, some 2, none, .mov (.tmp 44), []⟩])) (
 .skip))
def ir107_k5 : ICode :=
 .seq (
 .region [
 ⟨0, some 47, none, .mov (.tmp 0), []⟩,
 ⟨1, some 48, none, .mov (.tmp 1), []⟩,
 ⟨2, some 49, none, .mov (.tmp 2), []⟩,
 ⟨3, some 50, none, .build [.bool false, .slice none 0 0, .slice none 0 0] [(0, 1, .tmp 47), (1, 1, .tmp 48), (2, 1, .tmp 49)], []⟩,
 ⟨4, none, none, .store 3 (.tmp 6) (.tmp 50), []⟩]) (
 .ret)
def ir107_k3 : ICode :=
 .seq (
 .seq (
 .region [
 ⟨0, some 19, none, .mov (.tmp 1), []⟩,
 ⟨1, some 20, none, .mov (.tmp 2), []⟩,
 ⟨2, some 21, none, .call 145 [.tmp 19, .tmp 20], []⟩,
 ⟨3, some 18, none, .mov (.tmp 21), []⟩,
 ⟨4, some 22, none, .ext 0 (.tmp 18), []⟩,
 ⟨5, some 23, none, .ext 1 (.tmp 18), []⟩,
 ⟨6, some 7, none, .mov (.tmp 22), []⟩,
 ⟨7, some 8, none, .mov (.tmp 23), []⟩]) ir107_k4) ir107_k5
def ir107_k2 : ICode :=
 .seq (
 .seq (
 .region [
 ⟨0, some 13, none, .mov (.tmp 1), []⟩,
 ⟨1, some 14, none, .lenV (.tmp 13), []⟩,
 ⟨2, some 15, none, .bin .eql .other (.tmp 14) (.const (.int .i64 0)), []⟩]) (
 .cond (.tmp 15) (
 .seq (
 .region [
 ⟨0, some 16, none, .bslice 1 1 [.int .u32 0] [(0, 1, .const (.int .u32 1))], []⟩,
 ⟨1, some 17, none, .build [.bool false, .slice none 0 0, .slice none 0 0] [(2, 1, .tmp 16)], []⟩,
 ⟨2, none, none, .store 3 (.tmp 6) (.tmp 17), []⟩]) (
 .ret)) (
 .skip))) ir107_k3
def ir107_k1 : ICode :=
 .seq (
 .region [
 ⟨0, some 9, none, .mov (.tmp 1), []⟩,
 ⟨1, some 10, none, .call 106 [.tmp 9], []⟩,
 ⟨2, some 11, none, .mov (.tmp 2), []⟩,
 ⟨3, some 12, none, .call 106 [.tmp 11], []⟩,
 ⟨4, some 1, none, .mov (.tmp 10), []⟩,
 ⟨5, some 2, none, .mov (.tmp 12), []⟩]) ir107_k2
def ir107_b : ICode :=
 .seq (
 .region [
 ⟨0, some 6, none, .alloc [.bool false, .slice none 0 0, .slice none 0 0], []⟩]) ir107_k1
def ir107 : IFunc := ⟨51, [.cell 6 true 3], ir107_b⟩
theorem ir107_eq : cFunc Tryz.prog 107 = some ir107 := by kernel_rfl
theorem call107 {args : List Value} {m : Mem} {Φ : Value → Mem → Prop} (h : args.length ≤ 51) : WPCall Tryz.prog 107 args m Φ = WP Tryz.prog ir107_b (initσ args) m (retK [.cell 6 true 3] Φ) := wpCall_def ir107_eq h
def ir110_k1 : ICode :=
 .seq (
 .region [
 ⟨0, some 5, none, .load true 3 (.tmp 2), []⟩,
 ⟨1, some 6, none, .load true 3 (.tmp 3), []⟩,
 ⟨2, some 7, none, .call 97 [.tmp 5, .tmp 6], []⟩,
 ⟨3, some 8, none, .bin .lss .other (.tmp 7) (.const (.int .i64 0)), []⟩,
 ⟨4, some 4, none, .mov (.tmp 8), []⟩]) (
 .ret)
def ir110_b : ICode :=
 .seq (
 .region [
 ⟨0, some 2, none, .box (.tmp 0), []⟩,
 ⟨1, some 3, none, .box (.tmp 1), []⟩,
 ⟨2, some 4, none, .mov (.const (.bool false)), []⟩]) ir110_k1
def ir110 : IFunc := ⟨9, [.tmp 4], ir110_b⟩
theorem ir110_eq : cFunc Tryz.prog 110 = some ir110 := by kernel_rfl
theorem call110 {args : List Value} {m : Mem} {Φ : Value → Mem → Prop} (h : args.length ≤ 9) : WPCall Tryz.prog 110 args m Φ = WP Tryz.prog ir110_b (initσ args) m (retK [.tmp 4] Φ) := wpCall_def ir110_eq h
def ir133_k2 : ICode :=
 .seq (
 .region [
 ⟨0, some 13, none, .mov (.tmp 5), []⟩,
 ⟨1, some 4, none, .mov (.tmp 13), []⟩]) (
 .ret)
def ir133_k1 : ICode :=
 .seq (
 .region [
 ⟨0, some 8, none, .mov (.tmp 0), []⟩,
 ⟨1, some 9, none, .mov (.tmp 1), []⟩,
 ⟨2, some 10, none, .call 160 [.tmp 8, .tmp 9], []⟩,
 ⟨3, some 7, none, .mov (.tmp 10), []⟩,
 ⟨4, some 11, none, .ext 0 (.tmp 7), []⟩,
 ⟨5, some 12, none, .ext 1 (.tmp 7), []⟩,
 ⟨6, some 5, none, .mov (.tmp 11), []⟩,
 ⟨7, some 6, none, .mov (.tmp 12), []⟩]) ir133_k2
def ir133_b : ICode :=
 .seq (
 .region [
 ⟨0, some 4, none, .mov (.const (.slice none 0 0)), []⟩]) ir133_k1
def ir133 : IFunc := ⟨14, [.tmp 4], ir133_b⟩
theorem ir133_eq : cFunc Tryz.prog 133 = some ir133 := by kernel_rfl
theorem call133 {args : List Value} {m : Mem} {Φ : Value → Mem → Prop} (h : args.length ≤ 14) : WPCall Tryz.prog 133 args m Φ = WP Tryz.prog ir133_b (initσ args) m (retK [.tmp 4] Φ) := wpCall_def ir133_eq h
def ir136_k2 : ICode :=
 .seq (
 .region [
 ⟨0, some 7, none, .load true 3 (.tmp 1), []⟩,
 ⟨1, none, none, .store 3 (.tmp 2) (.tmp 7), []⟩,
 ⟨2, some 3, none, .mov (.const (.int .i64 0)), []⟩]) (
 .ret)
def ir136_k1 : ICode :=
 .seq (
 .seq (
 .region [
 ⟨0, some 4, none, .load true 3 (.tmp 1), []⟩,
 ⟨1, some 5, none, .call 163 [.tmp 4], []⟩]) (
 .cond (.tmp 5) (
 .seq (
 .region [
 ⟨0, some 6, none, .build [.bool false, .slice none 0 0, .slice none 0 0] [], []⟩,
 ⟨1, none, none, .store 3 (.tmp 2) (.tmp 6), []⟩,
 ⟨2, some 3, none, .mov (.const (.int .i64 2)), []⟩]) (
 .ret)) (
 .skip))) ir136_k2
def ir136_b : ICode :=
 .seq (
 .region [
 ⟨0, some 1, none, .box (.tmp 0), []⟩,
 ⟨1, some 2, none, .alloc [.bool false, .slice none 0 0, .slice none 0 0], []⟩,
 ⟨2, some 3, none, .mov (.const (.int .i64 0)), []⟩]) ir136_k1
def ir136 : IFunc := ⟨8, [.cell 2 true 3, .tmp 3], ir136_b⟩
theorem ir136_eq : cFunc Tryz.prog 136 = some ir136 := by kernel_rfl
theorem call136 {args : List Value} {m : Mem} {Φ : Value → Mem → Prop} (h : args.length ≤ 8) : WPCall Tryz.prog 136 args m Φ = WP Tryz.prog ir136_b (initσ args) m (retK [.cell 2 true 3, .tmp 3] Φ) := wpCall_def ir136_eq h
def ir139_k2 : ICode :=
 .seq (
 .region [
 ⟨0, some 10, none, .mov (.tmp 0), []⟩,
 ⟨1, some 11, none, .convI .u64 (.tmp 10), []⟩,
 ⟨2, some 2, none, .mov (.tmp 11), []⟩]) (
 .ret)
def ir139_k1 : ICode :=
 .seq (
 .seq (
 .region [
 ⟨0, some 3, none, .mov (.tmp 0), []⟩,
 ⟨1, some 4, none, .bin .lss .other (.tmp 3) (.const (.int .i64 0)), []⟩]) (
 .cond (.tmp 4) (
 .seq (
 .region [
 ⟨0, some 5, none, .mov (.tmp 0), []⟩,
 ⟨1, some 6, none, .bin .add .other (.tmp 5) (.const (.int .i64 1)), []⟩,
 ⟨2, some 7, none, .un .neg (.tmp 6), []⟩,
 ⟨3, some 8, none, .convI .u64 (.tmp 7), []⟩,
 ⟨4, some 9, none, .bin .add .other (.tmp 8) (.const (.int .u64 1)), []⟩,
 ⟨5, some 2, none, .mov (.tmp 9), []⟩]) (
 .ret)) (
 .skip))) ir139_k2
def ir139_b : ICode :=
 .seq (
 .region [
 ⟨0, some 2, none, .mov (.const (.int .u64 0)), []⟩]) ir139_k1
def ir139 : IFunc := ⟨12, [.tmp 2], ir139_b⟩
theorem ir139_eq : cFunc Tryz.prog 139 = some ir139 := by kernel_rfl
theorem call139 {args : List Value} {m : Mem} {Φ : Value → Mem → Prop} (h : args.length ≤ 12) : WPCall Tryz.prog 139 args m Φ = WP Tryz.prog ir139_b (initσ args) m (retK [.tmp 2] Φ) := wpCall_def ir139_eq h
def ir163_k1 : ICode :=
 .seq (
 .region [
 ⟨0, some 3, none, .faddr 1 (.tmp 1), []⟩,
 ⟨1, some 4, none, .load false 1 (.tmp 3), []⟩,
 ⟨2, some 5, none, .lenV (.tmp 4), []⟩,
 ⟨3, some 6, none, .bin .gtr .other (.tmp 5) (.const (.int .i64 128)), []⟩,
 ⟨4, some 7, none, .mov (.tmp 6), []⟩,
 ⟨5, some 8, some (7, false), .faddr 2 (.tmp 1), []⟩,
 ⟨6, some 9, some (7, false), .load false 1 (.tmp 8), []⟩,
 ⟨7, some 10, some (7, false), .lenV (.tmp 9), []⟩,
 ⟨8, some 11, some (7, false), .bin .gtr .other (.tmp 10) (.const (.int .i64 128)), []⟩,
 ⟨9, some 12, none, .pick (.tmp 7) (.const (.bool true)) (.tmp 11), []⟩,
 ⟨10, some 2, none, .mov (.tmp 12), []⟩]) (
 .ret)
def ir163_b : ICode :=
 .seq (
 .region [
 ⟨0, some 1, none, .box (.tmp 0), []⟩,
 ⟨1, some 2, none, .mov (.const (.bool false)), []⟩]) ir163_k1
def ir163 : IFunc := ⟨13, [.tmp 2], ir163_b⟩
theorem ir163_eq : cFunc Tryz.prog 163 = some ir163 := by kernel_rfl
theorem call163 {args : List Value} {m : Mem} {Φ : Value → Mem → Prop} (h : args.length ≤ 13) : WPCall Tryz.prog 163 args m Φ = WP Tryz.prog ir163_b (initσ args) m (retK [.tmp 2] Φ) := wpCall_def ir163_eq h
end Go.Proofs.YtkpifdkccdndcaaGreat
