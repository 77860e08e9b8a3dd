/-
  The intermediate forms of this seat's functions, written by a program of ours (wip/Ir.lean); each is checked against the loaded program.
-/
import Derived.Test.YtapnkfkpkcajjaaRows
import Derived.Test.YtapnkfkpkcajjaaFwX
namespace Go.Proofs.Ytapnkfkpkcajjaa
open Go Go.DI

/-- drydock/drydocklaw12.MaxflowSolves -/
def ir5_b : ICode :=
  .seq (
  .region [
    ⟨0, some 2, none, .mov (.const (.bool false)), []⟩]) (
  .seq (
  .region [
    ⟨0, some 10, none, .mov (.tmp 0), []⟩,
    ⟨1, some 11, none, .call 27 [.tmp 10], []⟩,
    ⟨2, some 12, none, .call 28 [.tmp 11], []⟩,
    ⟨3, some 3, none, .alloc [.int .i64 0, .int .i64 0, .int .i64 0, .slice none 0 0], []⟩,
    ⟨4, none, none, .store 4 (.tmp 3) (.tmp 12), []⟩]) (
  .seq (
  .region [
    ⟨0, some 14, none, .load true 4 (.tmp 3), []⟩,
    ⟨1, some 15, none, .call 26 [.tmp 14], []⟩,
    ⟨2, some 13, none, .mov (.tmp 15), []⟩,
    ⟨3, some 16, none, .ext 0 (.tmp 13), []⟩,
    ⟨4, some 17, none, .ext 1 (.tmp 13), []⟩,
    ⟨5, some 4, none, .mov (.tmp 16), []⟩,
    ⟨6, some 5, none, .mov (.tmp 17), []⟩]) (
  .seq (
  .region [
    ⟨0, some 19, none, .load true 4 (.tmp 3), []⟩,
    ⟨1, some 20, none, .call 29 [.tmp 19], []⟩,
    ⟨2, some 18, none, .mov (.tmp 20), []⟩,
    ⟨3, some 21, none, .ext 0 (.tmp 18), []⟩,
    ⟨4, some 22, none, .ext 1 (.tmp 18), []⟩,
    ⟨5, some 23, none, .ext 2 (.tmp 18), []⟩,
    ⟨6, some 24, none, .ext 3 (.tmp 18), []⟩,
    ⟨7, some 6, none, .mov (.tmp 21), []⟩,
    ⟨8, some 7, none, .mov (.tmp 22), []⟩,
    ⟨9, some 8, none, .mov (.tmp 23), []⟩,
    ⟨10, some 9, none, .mov (.tmp 24), []⟩]) (
  .seq (
  .region [
    ⟨0, some 25, none, .mov (.tmp 5), []⟩,
    ⟨1, some 26, none, .mov (.tmp 25), []⟩,
    ⟨2, some 27, some (26, true), .mov (.tmp 4), []⟩,
    ⟨3, some 28, some (26, true), .mov (.tmp 7), []⟩,
    ⟨4, some 29, some (26, true), .bin .eql .other (.tmp 27) (.tmp 28), []⟩,
    ⟨5, some 30, none, .pick (.tmp 26) (.tmp 29) (.const (.bool false)), []⟩,
    ⟨6, some 31, none, .mov (.tmp 30), []⟩,
    ⟨7, some 32, some (31, true), .call 16 [], []⟩,
    ⟨8, some 33, none, .pick (.tmp 31) (.tmp 32) (.const (.bool false)), []⟩,
    ⟨9, some 2, none, .mov (.tmp 33), []⟩]) (
  .ret)))))
def ir5 : IFunc := ⟨34, [.tmp 2], ir5_b⟩
theorem ir5_eq : cFunc Try.prog 5 = some ir5 := by kernel_rfl
theorem call5 {args : List Value} {m : Mem} {Φ : Value → Mem → Prop} (h : args.length ≤ 34) : WPCall Try.prog 5 args m Φ = WP Try.prog ir5_b (initσ args) m (retK [.tmp 2] Φ) := wpCall_def ir5_eq h
/-- drydock/drydocklaw12.MaxflowWeak -/
def ir6_l0 : ICode :=
  .seq (
  .seq (
  .region [
    ⟨0, some 42, none, .mov (.tmp 11), []⟩,
    ⟨1, some 43, none, .faddr 0 (.tmp 3), []⟩,
    ⟨2, some 44, none, .load false 1 (.tmp 43), []⟩,
    ⟨3, some 45, none, .bin .lss .other (.tmp 42) (.tmp 44), []⟩]) (
  .cond (.tmp 45) (
   .skip) (
   .exit 2))) (
  .seq (
  .block 3 (
  .region [
    ⟨0, some 48, none, .mov (.tmp 10), []⟩,
    ⟨1, some 49, none, .mov (.tmp 11), []⟩,
    ⟨2, some 50, none, .mov (.tmp 9), []⟩,
    ⟨3, some 51, none, .mov (.tmp 11), []⟩,
    ⟨4, some 52, none, .convI .u64 (.tmp 51), []⟩,
    ⟨5, some 53, none, .bin .shr .other (.tmp 50) (.tmp 52), []⟩,
    ⟨6, some 54, none, .bin .and .other (.tmp 53) (.const (.int .i64 1)), []⟩,
    ⟨7, some 55, none, .bin .eql .other (.tmp 54) (.const (.int .i64 1)), []⟩,
    ⟨8, some 56, none, .iaddr 1 (.tmp 48) (.tmp 49), []⟩,
    ⟨9, none, none, .store 1 (.tmp 56) (.tmp 55), []⟩])) (
  .region [
    ⟨0, some 46, none, .mov (.tmp 11), []⟩,
    ⟨1, some 47, none, .bin .add .other (.tmp 46) (.const (.int .i64 1)), []⟩,
    ⟨2, some 11, none, .mov (.tmp 47), []⟩]))
def ir6_l1 : ICode :=
  .seq (
  .seq (
  .region [
    ⟨0, some 31, none, .mov (.tmp 9), []⟩,
    ⟨1, some 32, none, .faddr 0 (.tmp 3), []⟩,
    ⟨2, some 33, none, .load false 1 (.tmp 32), []⟩,
    ⟨3, some 34, none, .convI .u64 (.tmp 33), []⟩,
    ⟨4, some 35, none, .bin .shl .other (.const (.int .i64 1)) (.tmp 34), []⟩,
    ⟨5, some 36, none, .bin .lss .other (.tmp 31) (.tmp 35), []⟩]) (
  .cond (.tmp 36) (
   .skip) (
   .exit 0))) (
  .seq (
  .block 1 (
  .seq (
  .region [
    ⟨0, some 39, none, .faddr 0 (.tmp 3), []⟩,
    ⟨1, some 40, none, .load false 1 (.tmp 39), []⟩,
    ⟨2, some 41, none, .mkslice 1 1 [.bool false] (.tmp 40) (.tmp 40), []⟩,
    ⟨3, some 10, none, .mov (.tmp 41), []⟩]) (
  .seq (
  .seq (
  .region [
    ⟨0, some 11, none, .mov (.const (.int .i64 0)), []⟩]) (
  .block 2 (
  .loop ir6_l0))) (
  .seq (
  .region [
    ⟨0, some 58, none, .load true 4 (.tmp 3), []⟩,
    ⟨1, some 59, none, .mov (.tmp 10), []⟩,
    ⟨2, some 60, none, .call 19 [.tmp 58, .tmp 59], []⟩,
    ⟨3, some 57, none, .mov (.tmp 60), []⟩,
    ⟨4, some 61, none, .ext 0 (.tmp 57), []⟩,
    ⟨5, some 62, none, .ext 1 (.tmp 57), []⟩,
    ⟨6, some 12, none, .mov (.tmp 61), []⟩,
    ⟨7, some 13, none, .mov (.tmp 62), []⟩]) (
  .seq (
  .seq (
  .region [
    ⟨0, some 63, none, .mov (.tmp 13), []⟩,
    ⟨1, some 64, none, .mov (.tmp 10), []⟩,
    ⟨2, some 65, none, .faddr 1 (.tmp 3), []⟩,
    ⟨3, some 66, none, .load false 1 (.tmp 65), []⟩,
    ⟨4, some 67, none, .iaddr 1 (.tmp 64) (.tmp 66), []⟩,
    ⟨5, some 68, none, .load false 1 (.tmp 67), []⟩,
    ⟨6, some 69, none, .mov (.tmp 68), []⟩,
    ⟨7, some 70, some (69, true), .mov (.tmp 10), []⟩,
    ⟨8, some 71, some (69, true), .faddr 2 (.tmp 3), []⟩,
    ⟨9, some 72, some (69, true), .load false 1 (.tmp 71), []⟩,
    ⟨10, some 73, some (69, true), .iaddr 1 (.tmp 70) (.tmp 72), []⟩,
    ⟨11, some 74, some (69, true), .load false 1 (.tmp 73), []⟩,
    ⟨12, some 75, some (69, true), .un .not (.tmp 74), []⟩,
    ⟨13, some 76, none, .pick (.tmp 69) (.tmp 75) (.const (.bool false)), []⟩,
    ⟨14, some 77, none, .bin .neq .bool (.tmp 63) (.tmp 76), []⟩,
    ⟨15, some 78, none, .mov (.tmp 77), []⟩,
    ⟨16, some 79, some (78, false), .mov (.tmp 13), []⟩,
    ⟨17, some 80, some (78, false), .mov (.tmp 79), []⟩,
    ⟨18, some 81, some (80, true), .mov (.tmp 12), []⟩,
    ⟨19, some 82, some (80, true), .mov (.tmp 5), []⟩,
    ⟨20, some 83, some (80, true), .bin .lss .other (.tmp 81) (.tmp 82), []⟩,
    ⟨21, some 84, some (78, false), .pick (.tmp 80) (.tmp 83) (.const (.bool false)), []⟩,
    ⟨22, some 85, none, .pick (.tmp 78) (.const (.bool true)) (.tmp 84), []⟩]) (
  .cond (.tmp 85) (
   .seq (
   .region [
     ⟨0, some 2, none, .mov (.const (.bool false)), []⟩]) (
   .ret)) (
   .skip))) (
  .region [
    ⟨0, some 86, none, .mov (.tmp 8), []⟩,
    ⟨1, some 87, none, .mov (.tmp 86), []⟩,
    ⟨2, some 88, some (87, false), .mov (.tmp 13), []⟩,
    ⟨3, some 89, some (87, false), .mov (.tmp 88), []⟩,
    ⟨4, some 90, some (89, true), .mov (.tmp 12), []⟩,
    ⟨5, some 91, some (89, true), .mov (.tmp 5), []⟩,
    ⟨6, some 92, some (89, true), .bin .eql .other (.tmp 90) (.tmp 91), []⟩,
    ⟨7, some 93, some (87, false), .pick (.tmp 89) (.tmp 92) (.const (.bool false)), []⟩,
    ⟨8, some 94, none, .pick (.tmp 87) (.const (.bool true)) (.tmp 93), []⟩,
    ⟨9, some 8, none, .mov (.tmp 94), []⟩])))))) (
  .region [
    ⟨0, some 37, none, .mov (.tmp 9), []⟩,
    ⟨1, some 38, none, .bin .add .other (.tmp 37) (.const (.int .i64 1)), []⟩,
    ⟨2, some 9, none, .mov (.tmp 38), []⟩]))
def ir6_b : ICode :=
  .seq (
  .region [
    ⟨0, some 2, none, .mov (.const (.bool false)), []⟩]) (
  .seq (
  .region [
    ⟨0, some 14, none, .mov (.tmp 0), []⟩,
    ⟨1, some 15, none, .call 27 [.tmp 14], []⟩,
    ⟨2, some 16, none, .call 28 [.tmp 15], []⟩,
    ⟨3, some 3, none, .alloc [.int .i64 0, .int .i64 0, .int .i64 0, .slice none 0 0], []⟩,
    ⟨4, none, none, .store 4 (.tmp 3) (.tmp 16), []⟩]) (
  .seq (
  .region [
    ⟨0, some 18, none, .load true 4 (.tmp 3), []⟩,
    ⟨1, some 19, none, .call 25 [.tmp 18], []⟩,
    ⟨2, some 17, none, .mov (.tmp 19), []⟩,
    ⟨3, some 20, none, .ext 0 (.tmp 17), []⟩,
    ⟨4, some 21, none, .ext 1 (.tmp 17), []⟩,
    ⟨5, some 22, none, .ext 2 (.tmp 17), []⟩,
    ⟨6, some 23, none, .ext 3 (.tmp 17), []⟩,
    ⟨7, some 4, none, .mov (.tmp 20), []⟩,
    ⟨8, some 5, none, .mov (.tmp 21), []⟩,
    ⟨9, some 6, none, .mov (.tmp 22), []⟩,
    ⟨10, some 7, none, .mov (.tmp 23), []⟩]) (
  .seq (
  .seq (
  .region [
    ⟨0, some 24, none, .mov (.tmp 7), []⟩,
    ⟨1, some 25, none, .bin .neq .other (.tmp 24) (.const (.int .i64 0)), []⟩,
    ⟨2, some 26, none, .mov (.tmp 25), []⟩,
    ⟨3, some 27, some (26, false), .faddr 0 (.tmp 3), []⟩,
    ⟨4, some 28, some (26, false), .load false 1 (.tmp 27), []⟩,
    ⟨5, some 29, some (26, false), .bin .gtr .other (.tmp 28) (.const (.int .i64 8)), []⟩,
    ⟨6, some 30, none, .pick (.tmp 26) (.const (.bool true)) (.tmp 29), []⟩]) (
  .cond (.tmp 30) (
   .seq (
   .region [
     ⟨0, some 2, none, .mov (.const (.bool false)), []⟩]) (
   .ret)) (
   .skip))) (
  .seq (
  .region [
    ⟨0, some 8, none, .mov (.const (.bool false)), []⟩]) (
  .seq (
  .seq (
  .region [
    ⟨0, some 9, none, .mov (.const (.int .i64 0)), []⟩]) (
  .block 0 (
  .loop ir6_l1))) (
  .seq (
  .region [
    ⟨0, some 95, none, .mov (.tmp 8), []⟩,
    ⟨1, some 96, none, .mov (.tmp 95), []⟩,
    ⟨2, some 97, some (96, true), .call 16 [], []⟩,
    ⟨3, some 98, none, .pick (.tmp 96) (.tmp 97) (.const (.bool false)), []⟩,
    ⟨4, some 2, none, .mov (.tmp 98), []⟩]) (
  .ret)))))))
def ir6 : IFunc := ⟨99, [.tmp 2], ir6_b⟩
theorem ir6_eq : cFunc Try.prog 6 = some ir6 := by kernel_rfl
theorem call6 {args : List Value} {m : Mem} {Φ : Value → Mem → Prop} (h : args.length ≤ 99) : WPCall Try.prog 6 args m Φ = WP Try.prog ir6_b (initσ args) m (retK [.tmp 2] Φ) := wpCall_def ir6_eq h
/-- drydock/drydocklaw12.MaxflowGrows -/
def ir7_b : ICode :=
  .seq (
  .region [
    ⟨0, some 4, none, .mov (.const (.bool false)), []⟩]) (
  .seq (
  .region [
    ⟨0, some 14, none, .mov (.tmp 0), []⟩,
    ⟨1, some 15, none, .call 27 [.tmp 14], []⟩,
    ⟨2, some 16, none, .call 28 [.tmp 15], []⟩,
    ⟨3, some 5, none, .alloc [.int .i64 0, .int .i64 0, .int .i64 0, .slice none 0 0], []⟩,
    ⟨4, none, none, .store 4 (.tmp 5) (.tmp 16), []⟩]) (
  .seq (
  .region [
    ⟨0, some 17, none, .mov (.tmp 1), []⟩,
    ⟨1, some 18, none, .convI .i64 (.tmp 17), []⟩,
    ⟨2, some 19, none, .faddr 3 (.tmp 5), []⟩,
    ⟨3, some 20, none, .load false 1 (.tmp 19), []⟩,
    ⟨4, some 21, none, .lenV (.tmp 20), []⟩,
    ⟨5, some 22, none, .bin .rem .other (.tmp 18) (.tmp 21), []⟩,
    ⟨6, some 6, none, .mov (.tmp 22), []⟩]) (
  .seq (
  .region [
    ⟨0, some 24, none, .load true 4 (.tmp 5), []⟩,
    ⟨1, some 25, none, .call 26 [.tmp 24], []⟩,
    ⟨2, some 23, none, .mov (.tmp 25), []⟩,
    ⟨3, some 26, none, .ext 0 (.tmp 23), []⟩,
    ⟨4, some 27, none, .ext 1 (.tmp 23), []⟩,
    ⟨5, some 7, none, .mov (.tmp 26), []⟩,
    ⟨6, some 8, none, .mov (.tmp 27), []⟩]) (
  .seq (
  .region [
    ⟨0, some 28, none, .load true 4 (.tmp 5), []⟩,
    ⟨1, some 9, none, .alloc [.int .i64 0, .int .i64 0, .int .i64 0, .slice none 0 0], []⟩,
    ⟨2, none, none, .store 4 (.tmp 9) (.tmp 28), []⟩]) (
  .seq (
  .region [
    ⟨0, some 29, none, .bslice 4 0 [] [], []⟩,
    ⟨1, some 30, none, .faddr 3 (.tmp 5), []⟩,
    ⟨2, some 31, none, .load false 1 (.tmp 30), []⟩,
    ⟨3, some 32, none, .app 4 32 (.tmp 29) (.tmp 31), []⟩,
    ⟨4, some 33, none, .faddr 3 (.tmp 9), []⟩,
    ⟨5, none, none, .store 1 (.tmp 33) (.tmp 32), []⟩]) (
  .seq (
  .region [
    ⟨0, some 34, none, .faddr 3 (.tmp 9), []⟩,
    ⟨1, some 35, none, .load false 1 (.tmp 34), []⟩,
    ⟨2, some 36, none, .mov (.tmp 6), []⟩,
    ⟨3, some 37, none, .iaddr 4 (.tmp 35) (.tmp 36), []⟩,
    ⟨4, some 38, none, .faddr 2 (.tmp 37), []⟩,
    ⟨5, some 39, none, .load false 1 (.tmp 38), []⟩,
    ⟨6, some 40, none, .bin .add .other (.tmp 39) (.const (.int .i64 1)), []⟩,
    ⟨7, some 41, none, .iaddr 4 (.tmp 35) (.tmp 36), []⟩,
    ⟨8, some 42, none, .faddr 2 (.tmp 41), []⟩,
    ⟨9, none, none, .store 1 (.tmp 42) (.tmp 40), []⟩]) (
  .seq (
  .region [
    ⟨0, some 44, none, .load true 4 (.tmp 9), []⟩,
    ⟨1, some 45, none, .call 26 [.tmp 44], []⟩,
    ⟨2, some 43, none, .mov (.tmp 45), []⟩,
    ⟨3, some 46, none, .ext 0 (.tmp 43), []⟩,
    ⟨4, some 47, none, .ext 1 (.tmp 43), []⟩,
    ⟨5, some 10, none, .mov (.tmp 46), []⟩,
    ⟨6, some 11, none, .mov (.tmp 47), []⟩]) (
  .seq (
  .region [
    ⟨1, some 49, none, .faddr 3 (.tmp 5), []⟩,
    ⟨2, some 50, none, .load false 1 (.tmp 49), []⟩,
    ⟨3, some 51, none, .mov (.tmp 6), []⟩,
    ⟨4, some 52, none, .sliceS 4 (.tmp 50) none (some (.tmp 51)), []⟩,
    ⟨6, some 54, none, .faddr 3 (.tmp 5), []⟩,
    ⟨7, some 55, none, .load false 1 (.tmp 54), []⟩,
    ⟨8, some 56, none, .mov (.tmp 6), []⟩,
    ⟨9, some 57, none, .bin .add .other (.tmp 56) (.const (.int .i64 1)), []⟩,
    ⟨10, some 58, none, .sliceS 4 (.tmp 55) (some (.tmp 57)) none, []⟩,
    ⟨0, some 48, none, .bslice 4 0 [] [], []⟩,
    ⟨5, some 53, none, .app 4 32 (.tmp 48) (.tmp 52), [(.tmp 54, .tmp 48)]⟩,
    ⟨11, some 59, none, .app 4 32 (.tmp 53) (.tmp 58), []⟩,
    ⟨12, some 60, none, .faddr 3 (.tmp 9), []⟩,
    ⟨13, none, none, .store 1 (.tmp 60) (.tmp 59), []⟩]) (
  .seq (
  .region [
    ⟨0, some 62, none, .load true 4 (.tmp 9), []⟩,
    ⟨1, some 63, none, .call 26 [.tmp 62], []⟩,
    ⟨2, some 61, none, .mov (.tmp 63), []⟩,
    ⟨3, some 64, none, .ext 0 (.tmp 61), []⟩,
    ⟨4, some 65, none, .ext 1 (.tmp 61), []⟩,
    ⟨5, some 12, none, .mov (.tmp 64), []⟩,
    ⟨6, some 13, none, .mov (.tmp 65), []⟩]) (
  .seq (
  .region [
    ⟨0, some 66, none, .mov (.tmp 8), []⟩,
    ⟨1, some 67, none, .mov (.tmp 66), []⟩,
    ⟨2, some 68, some (67, true), .mov (.tmp 11), []⟩,
    ⟨3, some 69, none, .pick (.tmp 67) (.tmp 68) (.const (.bool false)), []⟩,
    ⟨4, some 70, none, .mov (.tmp 69), []⟩,
    ⟨5, some 71, some (70, true), .mov (.tmp 13), []⟩,
    ⟨6, some 72, none, .pick (.tmp 70) (.tmp 71) (.const (.bool false)), []⟩,
    ⟨7, some 73, none, .mov (.tmp 72), []⟩,
    ⟨8, some 74, some (73, true), .mov (.tmp 10), []⟩,
    ⟨9, some 75, some (73, true), .mov (.tmp 7), []⟩,
    ⟨10, some 76, some (73, true), .bin .eql .other (.tmp 74) (.tmp 75), []⟩,
    ⟨11, some 77, some (73, true), .mov (.tmp 76), []⟩,
    ⟨12, some 78, some (77, false), .mov (.tmp 10), []⟩,
    ⟨13, some 79, some (77, false), .mov (.tmp 7), []⟩,
    ⟨14, some 80, some (77, false), .bin .add .other (.tmp 79) (.const (.int .i64 1)), []⟩,
    ⟨15, some 81, some (77, false), .bin .eql .other (.tmp 78) (.tmp 80), []⟩,
    ⟨16, some 82, some (73, true), .pick (.tmp 77) (.const (.bool true)) (.tmp 81), []⟩,
    ⟨17, some 83, none, .pick (.tmp 73) (.tmp 82) (.const (.bool false)), []⟩,
    ⟨18, some 84, none, .mov (.tmp 83), []⟩,
    ⟨19, some 85, some (84, true), .mov (.tmp 12), []⟩,
    ⟨20, some 86, some (84, true), .mov (.tmp 7), []⟩,
    ⟨21, some 87, some (84, true), .bin .leq .other (.tmp 85) (.tmp 86), []⟩,
    ⟨22, some 88, none, .pick (.tmp 84) (.tmp 87) (.const (.bool false)), []⟩,
    ⟨23, some 89, none, .mov (.tmp 88), []⟩,
    ⟨24, some 90, some (89, true), .mov (.tmp 7), []⟩,
    ⟨25, some 91, some (89, true), .mov (.tmp 12), []⟩,
    ⟨26, some 92, some (89, true), .faddr 3 (.tmp 5), []⟩,
    ⟨27, some 93, some (89, true), .load false 1 (.tmp 92), []⟩,
    ⟨28, some 94, some (89, true), .mov (.tmp 6), []⟩,
    ⟨29, some 95, some (89, true), .iaddr 4 (.tmp 93) (.tmp 94), []⟩,
    ⟨30, some 96, some (89, true), .faddr 2 (.tmp 95), []⟩,
    ⟨31, some 97, some (89, true), .load false 1 (.tmp 96), []⟩,
    ⟨32, some 98, some (89, true), .bin .add .other (.tmp 91) (.tmp 97), []⟩,
    ⟨33, some 99, some (89, true), .bin .leq .other (.tmp 90) (.tmp 98), []⟩,
    ⟨34, some 100, none, .pick (.tmp 89) (.tmp 99) (.const (.bool false)), []⟩,
    ⟨35, some 101, none, .mov (.tmp 100), []⟩,
    ⟨36, some 102, some (101, true), .call 16 [], []⟩,
    ⟨37, some 103, none, .pick (.tmp 101) (.tmp 102) (.const (.bool false)), []⟩,
    ⟨38, some 4, none, .mov (.tmp 103), []⟩]) (
  .ret)))))))))))
def ir7 : IFunc := ⟨104, [.tmp 4], ir7_b⟩
theorem ir7_eq : cFunc Try.prog 7 = some ir7 := by kernel_rfl
theorem call7 {args : List Value} {m : Mem} {Φ : Value → Mem → Prop} (h : args.length ≤ 104) : WPCall Try.prog 7 args m Φ = WP Try.prog ir7_b (initσ args) m (retK [.tmp 4] Φ) := wpCall_def ir7_eq h
/-- drydock/drydocklaw12.MaxflowTurned -/
def ir8_l0 : ICode :=
  .seq (
  .seq (
  .region [
    ⟨0, some 24, none, .mov (.tmp 5), []⟩,
    ⟨1, some 25, none, .bin .geq .other (.tmp 24) (.const (.int .i64 0)), []⟩]) (
  .cond (.tmp 25) (
   .skip) (
   .exit 0))) (
  .seq (
  .block 1 (
  .region [
    ⟨0, some 28, none, .faddr 3 (.tmp 4), []⟩,
    ⟨1, some 29, none, .load false 1 (.tmp 28), []⟩,
    ⟨2, some 30, none, .faddr 3 (.tmp 3), []⟩,
    ⟨3, some 31, none, .load false 1 (.tmp 30), []⟩,
    ⟨4, some 32, none, .mov (.tmp 5), []⟩,
    ⟨5, some 33, none, .iaddr 4 (.tmp 31) (.tmp 32), []⟩,
    ⟨6, some 34, none, .faddr 1 (.tmp 33), []⟩,
    ⟨7, some 35, none, .load false 1 (.tmp 34), []⟩,
    ⟨8, some 36, none, .faddr 3 (.tmp 3), []⟩,
    ⟨9, some 37, none, .load false 1 (.tmp 36), []⟩,
    ⟨10, some 38, none, .mov (.tmp 5), []⟩,
    ⟨11, some 39, none, .iaddr 4 (.tmp 37) (.tmp 38), []⟩,
    ⟨12, some 40, none, .faddr 0 (.tmp 39), []⟩,
    ⟨13, some 41, none, .load false 1 (.tmp 40), []⟩,
    ⟨14, some 42, none, .faddr 3 (.tmp 3), []⟩,
    ⟨15, some 43, none, .load false 1 (.tmp 42), []⟩,
    ⟨16, some 44, none, .mov (.tmp 5), []⟩,
    ⟨17, some 45, none, .iaddr 4 (.tmp 43) (.tmp 44), []⟩,
    ⟨18, some 46, none, .faddr 2 (.tmp 45), []⟩,
    ⟨19, some 47, none, .load false 1 (.tmp 46), []⟩,
    ⟨20, some 48, none, .build [.int .i64 0, .int .i64 0, .int .i64 0, .int .i64 0] [(0, 1, .tmp 35), (1, 1, .tmp 41), (2, 1, .tmp 47)], []⟩,
    ⟨21, some 49, none, .bslice 4 1 [.int .i64 0, .int .i64 0, .int .i64 0, .int .i64 0] [(0, 4, .tmp 48)], []⟩,
    ⟨22, some 50, none, .app 4 32 (.tmp 29) (.tmp 49), []⟩,
    ⟨23, some 51, none, .faddr 3 (.tmp 4), []⟩,
    ⟨24, none, none, .store 1 (.tmp 51) (.tmp 50), []⟩])) (
  .region [
    ⟨0, some 26, none, .mov (.tmp 5), []⟩,
    ⟨1, some 27, none, .bin .sub .other (.tmp 26) (.const (.int .i64 1)), []⟩,
    ⟨2, some 5, none, .mov (.tmp 27), []⟩]))
def ir8_b : ICode :=
  .seq (
  .region [
    ⟨0, some 2, none, .mov (.const (.bool false)), []⟩]) (
  .seq (
  .region [
    ⟨0, some 10, none, .mov (.tmp 0), []⟩,
    ⟨1, some 11, none, .call 27 [.tmp 10], []⟩,
    ⟨2, some 12, none, .call 28 [.tmp 11], []⟩,
    ⟨3, some 3, none, .alloc [.int .i64 0, .int .i64 0, .int .i64 0, .slice none 0 0], []⟩,
    ⟨4, none, none, .store 4 (.tmp 3) (.tmp 12), []⟩]) (
  .seq (
  .region [
    ⟨0, some 13, none, .faddr 0 (.tmp 3), []⟩,
    ⟨1, some 14, none, .load false 1 (.tmp 13), []⟩,
    ⟨2, some 15, none, .faddr 2 (.tmp 3), []⟩,
    ⟨3, some 16, none, .load false 1 (.tmp 15), []⟩,
    ⟨4, some 17, none, .faddr 1 (.tmp 3), []⟩,
    ⟨5, some 18, none, .load false 1 (.tmp 17), []⟩,
    ⟨6, some 19, none, .build [.int .i64 0, .int .i64 0, .int .i64 0, .slice none 0 0] [(0, 1, .tmp 14), (1, 1, .tmp 16), (2, 1, .tmp 18)], []⟩,
    ⟨7, some 4, none, .alloc [.int .i64 0, .int .i64 0, .int .i64 0, .slice none 0 0], []⟩,
    ⟨8, none, none, .store 4 (.tmp 4) (.tmp 19), []⟩]) (
  .seq (
  .seq (
  .region [
    ⟨0, some 20, none, .faddr 3 (.tmp 3), []⟩,
    ⟨1, some 21, none, .load false 1 (.tmp 20), []⟩,
    ⟨2, some 22, none, .lenV (.tmp 21), []⟩,
    ⟨3, some 23, none, .bin .sub .other (.tmp 22) (.const (.int .i64 1)), []⟩,
    ⟨4, some 5, none, .mov (.tmp 23), []⟩]) (
  .block 0 (
  .loop ir8_l0))) (
  .seq (
  .region [
    ⟨0, some 53, none, .load true 4 (.tmp 3), []⟩,
    ⟨1, some 54, none, .call 26 [.tmp 53], []⟩,
    ⟨2, some 52, none, .mov (.tmp 54), []⟩,
    ⟨3, some 55, none, .ext 0 (.tmp 52), []⟩,
    ⟨4, some 56, none, .ext 1 (.tmp 52), []⟩,
    ⟨5, some 6, none, .mov (.tmp 55), []⟩,
    ⟨6, some 7, none, .mov (.tmp 56), []⟩]) (
  .seq (
  .region [
    ⟨0, some 58, none, .load true 4 (.tmp 4), []⟩,
    ⟨1, some 59, none, .call 26 [.tmp 58], []⟩,
    ⟨2, some 57, none, .mov (.tmp 59), []⟩,
    ⟨3, some 60, none, .ext 0 (.tmp 57), []⟩,
    ⟨4, some 61, none, .ext 1 (.tmp 57), []⟩,
    ⟨5, some 8, none, .mov (.tmp 60), []⟩,
    ⟨6, some 9, none, .mov (.tmp 61), []⟩]) (
  .seq (
  .region [
    ⟨0, some 62, none, .mov (.tmp 7), []⟩,
    ⟨1, some 63, none, .mov (.tmp 62), []⟩,
    ⟨2, some 64, some (63, true), .mov (.tmp 9), []⟩,
    ⟨3, some 65, none, .pick (.tmp 63) (.tmp 64) (.const (.bool false)), []⟩,
    ⟨4, some 66, none, .mov (.tmp 65), []⟩,
    ⟨5, some 67, some (66, true), .mov (.tmp 6), []⟩,
    ⟨6, some 68, some (66, true), .mov (.tmp 8), []⟩,
    ⟨7, some 69, some (66, true), .bin .eql .other (.tmp 67) (.tmp 68), []⟩,
    ⟨8, some 70, none, .pick (.tmp 66) (.tmp 69) (.const (.bool false)), []⟩,
    ⟨9, some 71, none, .mov (.tmp 70), []⟩,
    ⟨10, some 72, some (71, true), .call 16 [], []⟩,
    ⟨11, some 73, none, .pick (.tmp 71) (.tmp 72) (.const (.bool false)), []⟩,
    ⟨12, some 2, none, .mov (.tmp 73), []⟩]) (
  .ret)))))))
def ir8 : IFunc := ⟨74, [.tmp 2], ir8_b⟩
theorem ir8_eq : cFunc Try.prog 8 = some ir8 := by kernel_rfl
theorem call8 {args : List Value} {m : Mem} {Φ : Value → Mem → Prop} (h : args.length ≤ 74) : WPCall Try.prog 8 args m Φ = WP Try.prog ir8_b (initσ args) m (retK [.tmp 2] Φ) := wpCall_def ir8_eq h
end Go.Proofs.Ytapnkfkpkcajjaa
