/-
 The intermediate forms of this seat's functions, written by a program of ours (wip/Ir.lean); each is checked against the loaded program.
-/
import Derived.Test.YtkpifdkccdndcaaGreatRows
import Derived.Test.YtkpifdkccdndcaaGreatFwWY
namespace Go.Proofs.YtkpifdkccdndcaaGreat
open Go Go.DI

def ir49_k3 : ICode :=
 .seq (
 .block 1 (
 .seq (
 .region [
 ⟨0, some 24, none, .mov (.tmp 0), []⟩,
 ⟨1, some 25, none, .mov (.tmp 3), []⟩,
 ⟨2, some 26, none, .idxStr (.tmp 24) (.tmp 25), []⟩,
 ⟨3, some 27, none, .call 105 [.tmp 26], []⟩,
 ⟨4, some 28, none, .un .not (.tmp 27), []⟩]) (
 .cond (.tmp 28) (
 .seq (
 .region [
 ⟨0, some 2, none, .mov (.const (.bool false)), []⟩]) (
 .ret)) (
 .skip)))) (
 .region [
 ⟨0, some 22, none, .mov (.tmp 3), []⟩,
 ⟨1, some 23, none, .bin .add .other (.tmp 22) (.const (.int .i64 1)), []⟩,
 ⟨2, some 3, none, .mov (.tmp 23), []⟩])
def ir49_l0 : ICode :=
 .seq (
 .seq (
 .region [
 ⟨0, some 18, none, .mov (.tmp 3), []⟩,
 ⟨1, some 19, none, .mov (.tmp 0), []⟩,
 ⟨2, some 20, none, .lenS (.tmp 19), []⟩,
 ⟨3, some 21, none, .bin .lss .other (.tmp 18) (.tmp 20), []⟩]) (
 .cond (.tmp 21) (
 .skip) (
 .exit 0))) ir49_k3
def ir49_k4 : ICode :=
 .seq (
 .region [
 ⟨0, some 2, none, .mov (.const (.bool true)), []⟩]) (
 .ret)
def ir49_k2 : ICode :=
 .seq (
 .seq (
 .region [
 ⟨0, some 3, none, .mov (.const (.int .i64 0)), []⟩]) (
 .block 0 (
 .loop ir49_l0))) ir49_k4
def ir49_k1 : ICode :=
 .seq (
 .seq (
 .region [
 ⟨0, some 4, none, .mov (.tmp 0), []⟩,
 ⟨1, some 5, none, .lenS (.tmp 4), []⟩,
 ⟨2, some 6, none, .bin .lss .other (.tmp 5) (.const (.int .i64 1)), []⟩,
 ⟨3, some 7, none, .mov (.tmp 6), []⟩,
 ⟨4, some 8, some (7, false), .mov (.tmp 0), []⟩,
 ⟨5, some 9, some (7, false), .lenS (.tmp 8), []⟩,
 ⟨6, some 10, some (7, false), .bin .gtr .other (.tmp 9) (.const (.int .i64 16)), []⟩,
 ⟨7, some 11, none, .pick (.tmp 7) (.const (.bool true)) (.tmp 10), []⟩,
 ⟨8, some 12, none, .mov (.tmp 11), []⟩,
 ⟨9, some 13, some (12, false), .mov (.tmp 0), []⟩,
 ⟨10, some 14, some (12, false), .idxStr (.tmp 13) (.const (.int .i64 0)), []⟩,
 ⟨11, some 15, some (12, false), .call 104 [.tmp 14], []⟩,
 ⟨12, some 16, some (12, false), .un .not (.tmp 15), []⟩,
 ⟨13, some 17, none, .pick (.tmp 12) (.const (.bool true)) (.tmp 16), []⟩]) (
 .cond (.tmp 17) (
 .seq (
 .region [
 ⟨0, some 2, none, .mov (.const (.bool false)), []⟩]) (
 .ret)) (
 .skip))) ir49_k2
def ir49_b : ICode :=
 .seq (
 .region [
 ⟨0, some 2, none, .mov (.const (.bool false)), []⟩]) ir49_k1
def ir49 : IFunc := ⟨29, [.tmp 2], ir49_b⟩
theorem ir49_eq : cFunc Tryz.prog 49 = some ir49 := by kernel_rfl
theorem call49 {args : List Value} {m : Mem} {Φ : Value → Mem → Prop} (h : args.length ≤ 29) : WPCall Tryz.prog 49 args m Φ = WP Tryz.prog ir49_b (initσ args) m (retK [.tmp 2] Φ) := wpCall_def ir49_eq h
def ir104_k1 : ICode :=
 .seq (
 .region [
 ⟨0, some 3, none, .mov (.tmp 0), []⟩,
 ⟨1, some 4, none, .bin .geq .other (.tmp 3) (.const (.int .u8 97)), []⟩,
 ⟨2, some 5, none, .mov (.tmp 4), []⟩,
 ⟨3, some 6, some (5, true), .mov (.tmp 0), []⟩,
 ⟨4, some 7, some (5, true), .bin .leq .other (.tmp 6) (.const (.int .u8 122)), []⟩,
 ⟨5, some 8, none, .pick (.tmp 5) (.tmp 7) (.const (.bool false)), []⟩,
 ⟨6, some 9, none, .mov (.tmp 8), []⟩,
 ⟨7, some 10, some (9, false), .mov (.tmp 0), []⟩,
 ⟨8, some 11, some (9, false), .bin .geq .other (.tmp 10) (.const (.int .u8 65)), []⟩,
 ⟨9, some 12, some (9, false), .mov (.tmp 11), []⟩,
 ⟨10, some 13, some (12, true), .mov (.tmp 0), []⟩,
 ⟨11, some 14, some (12, true), .bin .leq .other (.tmp 13) (.const (.int .u8 90)), []⟩,
 ⟨12, some 15, some (9, false), .pick (.tmp 12) (.tmp 14) (.const (.bool false)), []⟩,
 ⟨13, some 16, none, .pick (.tmp 9) (.const (.bool true)) (.tmp 15), []⟩,
 ⟨14, some 2, none, .mov (.tmp 16), []⟩]) (
 .ret)
def ir104_b : ICode :=
 .seq (
 .region [
 ⟨0, some 2, none, .mov (.const (.bool false)), []⟩]) ir104_k1
def ir104 : IFunc := ⟨17, [.tmp 2], ir104_b⟩
theorem ir104_eq : cFunc Tryz.prog 104 = some ir104 := by kernel_rfl
theorem call104 {args : List Value} {m : Mem} {Φ : Value → Mem → Prop} (h : args.length ≤ 17) : WPCall Tryz.prog 104 args m Φ = WP Tryz.prog ir104_b (initσ args) m (retK [.tmp 2] Φ) := wpCall_def ir104_eq h
def ir105_k1 : ICode :=
 .seq (
 .region [
 ⟨0, some 3, none, .mov (.tmp 0), []⟩,
 ⟨1, some 4, none, .call 104 [.tmp 3], []⟩,
 ⟨2, some 5, none, .mov (.tmp 4), []⟩,
 ⟨3, some 6, some (5, false), .mov (.tmp 0), []⟩,
 ⟨4, some 7, some (5, false), .call 144 [.tmp 6], []⟩,
 ⟨5, some 8, none, .pick (.tmp 5) (.const (.bool true)) (.tmp 7), []⟩,
 ⟨6, some 9, none, .mov (.tmp 8), []⟩,
 ⟨7, some 10, some (9, false), .mov (.tmp 0), []⟩,
 ⟨8, some 11, some (9, false), .bin .eql .other (.tmp 10) (.const (.int .u8 45)), []⟩,
 ⟨9, some 12, none, .pick (.tmp 9) (.const (.bool true)) (.tmp 11), []⟩,
 ⟨10, some 13, none, .mov (.tmp 12), []⟩,
 ⟨11, some 14, some (13, false), .mov (.tmp 0), []⟩,
 ⟨12, some 15, some (13, false), .bin .eql .other (.tmp 14) (.const (.int .u8 46)), []⟩,
 ⟨13, some 16, none, .pick (.tmp 13) (.const (.bool true)) (.tmp 15), []⟩,
 ⟨14, some 2, none, .mov (.tmp 16), []⟩]) (
 .ret)
def ir105_b : ICode :=
 .seq (
 .region [
 ⟨0, some 2, none, .mov (.const (.bool false)), []⟩]) ir105_k1
def ir105 : IFunc := ⟨17, [.tmp 2], ir105_b⟩
theorem ir105_eq : cFunc Tryz.prog 105 = some ir105 := by kernel_rfl
theorem call105 {args : List Value} {m : Mem} {Φ : Value → Mem → Prop} (h : args.length ≤ 17) : WPCall Tryz.prog 105 args m Φ = WP Tryz.prog ir105_b (initσ args) m (retK [.tmp 2] Φ) := wpCall_def ir105_eq h
def ir112_k3 : ICode :=
 .seq (
 .block 1 (
 .seq (
 .region [
 ⟨0, some 23, none, .mov (.tmp 0), []⟩,
 ⟨1, some 24, none, .mov (.tmp 3), []⟩,
 ⟨2, some 25, none, .idxStr (.tmp 23) (.tmp 24), []⟩,
 ⟨3, some 26, none, .call 148 [.tmp 25], []⟩,
 ⟨4, some 27, none, .un .not (.tmp 26), []⟩]) (
 .cond (.tmp 27) (
 .seq (
 .region [
 ⟨0, some 2, none, .mov (.const (.bool false)), []⟩]) (
 .ret)) (
 .skip)))) (
 .region [
 ⟨0, some 21, none, .mov (.tmp 3), []⟩,
 ⟨1, some 22, none, .bin .add .other (.tmp 21) (.const (.int .i64 1)), []⟩,
 ⟨2, some 3, none, .mov (.tmp 22), []⟩])
def ir112_l0 : ICode :=
 .seq (
 .seq (
 .region [
 ⟨0, some 17, none, .mov (.tmp 3), []⟩,
 ⟨1, some 18, none, .mov (.tmp 0), []⟩,
 ⟨2, some 19, none, .lenS (.tmp 18), []⟩,
 ⟨3, some 20, none, .bin .lss .other (.tmp 17) (.tmp 19), []⟩]) (
 .cond (.tmp 20) (
 .skip) (
 .exit 0))) ir112_k3
def ir112_k4 : ICode :=
 .seq (
 .region [
 ⟨0, some 2, none, .mov (.const (.bool true)), []⟩]) (
 .ret)
def ir112_k2 : ICode :=
 .seq (
 .seq (
 .region [
 ⟨0, some 3, none, .mov (.const (.int .i64 0)), []⟩]) (
 .block 0 (
 .loop ir112_l0))) ir112_k4
def ir112_k1 : ICode :=
 .seq (
 .seq (
 .region [
 ⟨0, some 4, none, .mov (.tmp 0), []⟩,
 ⟨1, some 5, none, .bin .eql .other (.tmp 4) (.const (.string ⟨#[]⟩)), []⟩,
 ⟨2, some 6, none, .mov (.tmp 5), []⟩,
 ⟨3, some 7, some (6, false), .mov (.tmp 0), []⟩,
 ⟨4, some 8, some (6, false), .lenS (.tmp 7), []⟩,
 ⟨5, some 9, some (6, false), .bin .gtr .other (.tmp 8) (.const (.int .i64 16)), []⟩,
 ⟨6, some 10, none, .pick (.tmp 6) (.const (.bool true)) (.tmp 9), []⟩,
 ⟨7, some 11, none, .mov (.tmp 10), []⟩,
 ⟨8, some 12, some (11, false), .mov (.tmp 0), []⟩,
 ⟨9, some 13, some (11, false), .idxStr (.tmp 12) (.const (.int .i64 0)), []⟩,
 ⟨10, some 14, some (11, false), .call 147 [.tmp 13], []⟩,
 ⟨11, some 15, some (11, false), .un .not (.tmp 14), []⟩,
 ⟨12, some 16, none, .pick (.tmp 11) (.const (.bool true)) (.tmp 15), []⟩]) (
 .cond (.tmp 16) (
 .seq (
 .region [
 ⟨0, some 2, none, .mov (.const (.bool false)), []⟩]) (
 .ret)) (
 .skip))) ir112_k2
def ir112_b : ICode :=
 .seq (
 .region [
 ⟨0, some 2, none, .mov (.const (.bool false)), []⟩]) ir112_k1
def ir112 : IFunc := ⟨28, [.tmp 2], ir112_b⟩
theorem ir112_eq : cFunc Tryz.prog 112 = some ir112 := by kernel_rfl
theorem call112 {args : List Value} {m : Mem} {Φ : Value → Mem → Prop} (h : args.length ≤ 28) : WPCall Tryz.prog 112 args m Φ = WP Tryz.prog ir112_b (initσ args) m (retK [.tmp 2] Φ) := wpCall_def ir112_eq h
def ir144_k1 : ICode :=
 .seq (
 .region [
 ⟨0, some 3, none, .mov (.tmp 0), []⟩,
 ⟨1, some 4, none, .bin .geq .other (.tmp 3) (.const (.int .u8 48)), []⟩,
 ⟨2, some 5, none, .mov (.tmp 4), []⟩,
 ⟨3, some 6, some (5, true), .mov (.tmp 0), []⟩,
 ⟨4, some 7, some (5, true), .bin .leq .other (.tmp 6) (.const (.int .u8 57)), []⟩,
 ⟨5, some 8, none, .pick (.tmp 5) (.tmp 7) (.const (.bool false)), []⟩,
 ⟨6, some 2, none, .mov (.tmp 8), []⟩]) (
 .ret)
def ir144_b : ICode :=
 .seq (
 .region [
 ⟨0, some 2, none, .mov (.const (.bool false)), []⟩]) ir144_k1
def ir144 : IFunc := ⟨9, [.tmp 2], ir144_b⟩
theorem ir144_eq : cFunc Tryz.prog 144 = some ir144 := by kernel_rfl
theorem call144 {args : List Value} {m : Mem} {Φ : Value → Mem → Prop} (h : args.length ≤ 9) : WPCall Tryz.prog 144 args m Φ = WP Tryz.prog ir144_b (initσ args) m (retK [.tmp 2] Φ) := wpCall_def ir144_eq h
def ir147_k1 : ICode :=
 .seq (
 .region [
 ⟨0, some 3, none, .mov (.tmp 0), []⟩,
 ⟨1, some 4, none, .bin .geq .other (.tmp 3) (.const (.int .u8 97)), []⟩,
 ⟨2, some 5, none, .mov (.tmp 4), []⟩,
 ⟨3, some 6, some (5, true), .mov (.tmp 0), []⟩,
 ⟨4, some 7, some (5, true), .bin .leq .other (.tmp 6) (.const (.int .u8 122)), []⟩,
 ⟨5, some 8, none, .pick (.tmp 5) (.tmp 7) (.const (.bool false)), []⟩,
 ⟨6, some 9, none, .mov (.tmp 8), []⟩,
 ⟨7, some 10, some (9, false), .mov (.tmp 0), []⟩,
 ⟨8, some 11, some (9, false), .bin .geq .other (.tmp 10) (.const (.int .u8 65)), []⟩,
 ⟨9, some 12, some (9, false), .mov (.tmp 11), []⟩,
 ⟨10, some 13, some (12, true), .mov (.tmp 0), []⟩,
 ⟨11, some 14, some (12, true), .bin .leq .other (.tmp 13) (.const (.int .u8 90)), []⟩,
 ⟨12, some 15, some (9, false), .pick (.tmp 12) (.tmp 14) (.const (.bool false)), []⟩,
 ⟨13, some 16, none, .pick (.tmp 9) (.const (.bool true)) (.tmp 15), []⟩,
 ⟨14, some 2, none, .mov (.tmp 16), []⟩]) (
 .ret)
def ir147_b : ICode :=
 .seq (
 .region [
 ⟨0, some 2, none, .mov (.const (.bool false)), []⟩]) ir147_k1
def ir147 : IFunc := ⟨17, [.tmp 2], ir147_b⟩
theorem ir147_eq : cFunc Tryz.prog 147 = some ir147 := by kernel_rfl
theorem call147 {args : List Value} {m : Mem} {Φ : Value → Mem → Prop} (h : args.length ≤ 17) : WPCall Tryz.prog 147 args m Φ = WP Tryz.prog ir147_b (initσ args) m (retK [.tmp 2] Φ) := wpCall_def ir147_eq h
def ir148_k1 : ICode :=
 .seq (
 .region [
 ⟨0, some 3, none, .mov (.tmp 0), []⟩,
 ⟨1, some 4, none, .call 147 [.tmp 3], []⟩,
 ⟨2, some 5, none, .mov (.tmp 4), []⟩,
 ⟨3, some 6, some (5, false), .mov (.tmp 0), []⟩,
 ⟨4, some 7, some (5, false), .call 166 [.tmp 6], []⟩,
 ⟨5, some 8, none, .pick (.tmp 5) (.const (.bool true)) (.tmp 7), []⟩,
 ⟨6, some 9, none, .mov (.tmp 8), []⟩,
 ⟨7, some 10, some (9, false), .mov (.tmp 0), []⟩,
 ⟨8, some 11, some (9, false), .bin .eql .other (.tmp 10) (.const (.int .u8 45)), []⟩,
 ⟨9, some 12, none, .pick (.tmp 9) (.const (.bool true)) (.tmp 11), []⟩,
 ⟨10, some 13, none, .mov (.tmp 12), []⟩,
 ⟨11, some 14, some (13, false), .mov (.tmp 0), []⟩,
 ⟨12, some 15, some (13, false), .bin .eql .other (.tmp 14) (.const (.int .u8 46)), []⟩,
 ⟨13, some 16, none, .pick (.tmp 13) (.const (.bool true)) (.tmp 15), []⟩,
 ⟨14, some 2, none, .mov (.tmp 16), []⟩]) (
 .ret)
def ir148_b : ICode :=
 .seq (
 .region [
 ⟨0, some 2, none, .mov (.const (.bool false)), []⟩]) ir148_k1
def ir148 : IFunc := ⟨17, [.tmp 2], ir148_b⟩
theorem ir148_eq : cFunc Tryz.prog 148 = some ir148 := by kernel_rfl
theorem call148 {args : List Value} {m : Mem} {Φ : Value → Mem → Prop} (h : args.length ≤ 17) : WPCall Tryz.prog 148 args m Φ = WP Tryz.prog ir148_b (initσ args) m (retK [.tmp 2] Φ) := wpCall_def ir148_eq h
def ir166_k1 : ICode :=
 .seq (
 .region [
 ⟨0, some 3, none, .mov (.tmp 0), []⟩,
 ⟨1, some 4, none, .bin .geq .other (.tmp 3) (.const (.int .u8 48)), []⟩,
 ⟨2, some 5, none, .mov (.tmp 4), []⟩,
 ⟨3, some 6, some (5, true), .mov (.tmp 0), []⟩,
 ⟨4, some 7, some (5, true), .bin .leq .other (.tmp 6) (.const (.int .u8 57)), []⟩,
 ⟨5, some 8, none, .pick (.tmp 5) (.tmp 7) (.const (.bool false)), []⟩,
 ⟨6, some 2, none, .mov (.tmp 8), []⟩]) (
 .ret)
def ir166_b : ICode :=
 .seq (
 .region [
 ⟨0, some 2, none, .mov (.const (.bool false)), []⟩]) ir166_k1
def ir166 : IFunc := ⟨9, [.tmp 2], ir166_b⟩
theorem ir166_eq : cFunc Tryz.prog 166 = some ir166 := by kernel_rfl
theorem call166 {args : List Value} {m : Mem} {Φ : Value → Mem → Prop} (h : args.length ≤ 9) : WPCall Tryz.prog 166 args m Φ = WP Tryz.prog ir166_b (initσ args) m (retK [.tmp 2] Φ) := wpCall_def ir166_eq h
end Go.Proofs.YtkpifdkccdndcaaGreat
