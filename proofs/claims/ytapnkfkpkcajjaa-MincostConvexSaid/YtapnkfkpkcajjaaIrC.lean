/-
  The intermediate forms of this seat's functions, written by a program of ours (wip/Ir.lean); each is checked against the loaded program.
-/
import Derived.Test.YtapnkfkpkcajjaaRows
import Derived.Test.YtapnkfkpkcajjaaFwX
namespace Go.Proofs.Ytapnkfkpkcajjaa
open Go Go.DI

/-- drydock/drydocklaw13.MincostRaw -/
def ir9_l0 : ICode :=
  .seq (
  .seq (
  .region [
    ⟨0, some 47, none, .mov (.tmp 9), []⟩,
    ⟨1, some 48, none, .faddr 3 (.tmp 2), []⟩,
    ⟨2, some 49, none, .load false 1 (.tmp 48), []⟩,
    ⟨3, some 50, none, .lenV (.tmp 49), []⟩,
    ⟨4, some 51, none, .bin .lss .other (.tmp 47) (.tmp 50), []⟩]) (
  .cond (.tmp 51) (
   .skip) (
   .exit 0))) (
  .seq (
  .block 1 (
  .seq (
  .region [
    ⟨0, some 54, none, .mov (.tmp 1), []⟩,
    ⟨1, some 55, none, .bin .gtr .other (.tmp 54) (.const (.int .i64 60)), []⟩,
    ⟨2, some 56, none, .mov (.tmp 55), []⟩,
    ⟨3, some 57, some (56, true), .faddr 3 (.tmp 2), []⟩,
    ⟨4, some 58, some (56, true), .load false 1 (.tmp 57), []⟩,
    ⟨5, some 59, some (56, true), .mov (.tmp 9), []⟩,
    ⟨6, some 60, some (56, true), .iaddr 4 (.tmp 58) (.tmp 59), []⟩,
    ⟨7, some 61, some (56, true), .faddr 2 (.tmp 60), []⟩,
    ⟨8, some 62, some (56, true), .load false 1 (.tmp 61), []⟩,
    ⟨9, some 63, some (56, true), .bin .gtr .other (.tmp 62) (.const (.int .i64 50)), []⟩,
    ⟨10, some 64, none, .pick (.tmp 56) (.tmp 63) (.const (.bool false)), []⟩]) (
  .cond (.tmp 64) (
   .seq (
   .region [
     ⟨0, some 65, none, .call 31 [], []⟩,
     ⟨1, some 4, none, .mov (.tmp 65), []⟩]) (
   .ret)) (
   .skip)))) (
  .region [
    ⟨0, some 52, none, .mov (.tmp 9), []⟩,
    ⟨1, some 53, none, .bin .add .other (.tmp 52) (.const (.int .i64 1)), []⟩,
    ⟨2, some 9, none, .mov (.tmp 53), []⟩]))
def ir9_b : ICode :=
  .seq (
  .region [
    ⟨0, some 2, none, .box (.tmp 0), []⟩,
    ⟨1, some 4, none, .mov (.const (.bool false)), []⟩]) (
  .seq (
  .seq (
  .region [
    ⟨0, some 16, none, .load true 4 (.tmp 2), []⟩,
    ⟨1, some 17, none, .call 30 [.tmp 16], []⟩,
    ⟨2, some 18, none, .mov (.tmp 17), []⟩,
    ⟨3, some 19, some (18, false), .mov (.tmp 1), []⟩,
    ⟨4, some 20, some (18, false), .bin .gtr .other (.tmp 19) (.const (.int .i64 60)), []⟩,
    ⟨5, some 21, some (18, false), .mov (.tmp 20), []⟩,
    ⟨6, some 22, some (21, true), .mov (.tmp 1), []⟩,
    ⟨7, some 23, some (21, true), .bin .leq .other (.tmp 22) (.const (.int .i64 100000000)), []⟩,
    ⟨8, some 24, some (18, false), .pick (.tmp 21) (.tmp 23) (.const (.bool false)), []⟩,
    ⟨9, some 25, none, .pick (.tmp 18) (.const (.bool true)) (.tmp 24), []⟩]) (
  .cond (.tmp 25) (
   .seq (
   .region [
     ⟨0, some 26, none, .call 31 [], []⟩,
     ⟨1, some 4, none, .mov (.tmp 26), []⟩]) (
   .ret)) (
   .skip))) (
  .seq (
  .seq (
  .region [
    ⟨0, some 27, none, .load true 4 (.tmp 2), []⟩,
    ⟨1, some 28, none, .call 32 [.tmp 27], []⟩,
    ⟨2, some 29, none, .un .not (.tmp 28), []⟩,
    ⟨3, some 30, none, .mov (.tmp 29), []⟩,
    ⟨4, some 31, some (30, false), .mov (.tmp 1), []⟩,
    ⟨5, some 32, some (30, false), .bin .lss .other (.tmp 31) (.const (.int .i64 0)), []⟩,
    ⟨6, some 33, none, .pick (.tmp 30) (.const (.bool true)) (.tmp 32), []⟩]) (
  .cond (.tmp 33) (
   .seq (
   .region [
     ⟨0, some 35, none, .load true 4 (.tmp 2), []⟩,
     ⟨1, some 36, none, .mov (.tmp 1), []⟩,
     ⟨2, some 37, none, .call 33 [.tmp 35, .tmp 36], []⟩,
     ⟨3, some 34, none, .mov (.tmp 37), []⟩,
     ⟨4, some 38, none, .ext 0 (.tmp 34), []⟩,
     ⟨5, some 39, none, .ext 1 (.tmp 34), []⟩,
     ⟨6, some 40, none, .ext 2 (.tmp 34), []⟩,
     ⟨7, some 41, none, .ext 3 (.tmp 34), []⟩,
     ⟨8, some 5, none, .mov (.tmp 38), []⟩,
     ⟨9, some 6, none, .mov (.tmp 39), []⟩,
     ⟨10, some 7, none, .mov (.tmp 40), []⟩,
     ⟨11, some 8, none, .mov (.tmp 41), []⟩]) (
   .seq (
   .region [
     ⟨0, some 42, none, .mov (.tmp 8), []⟩,
     ⟨1, some 43, none, .bin .eql .other (.tmp 42) (.const (.int .i64 1)), []⟩,
     ⟨2, some 44, none, .mov (.tmp 43), []⟩,
     ⟨3, some 45, some (44, true), .call 31 [], []⟩,
     ⟨4, some 46, none, .pick (.tmp 44) (.tmp 45) (.const (.bool false)), []⟩,
     ⟨5, some 4, none, .mov (.tmp 46), []⟩]) (
   .ret))) (
   .skip))) (
  .seq (
  .seq (
  .region [
    ⟨0, some 9, none, .mov (.const (.int .i64 0)), []⟩]) (
  .block 0 (
  .loop ir9_l0))) (
  .seq (
  .seq (
  .region [
    ⟨0, some 66, none, .mov (.tmp 1), []⟩,
    ⟨1, some 67, none, .load true 4 (.tmp 2), []⟩,
    ⟨2, some 68, none, .call 34 [.tmp 67], []⟩,
    ⟨3, some 69, none, .bin .gtr .other (.tmp 66) (.tmp 68), []⟩]) (
  .cond (.tmp 69) (
   .seq (
   .region [
     ⟨0, some 71, none, .load true 4 (.tmp 2), []⟩,
     ⟨1, some 72, none, .mov (.tmp 1), []⟩,
     ⟨2, some 73, none, .call 33 [.tmp 71, .tmp 72], []⟩,
     ⟨3, some 70, none, .mov (.tmp 73), []⟩,
     ⟨4, some 74, none, .ext 0 (.tmp 70), []⟩,
     ⟨5, some 75, none, .ext 1 (.tmp 70), []⟩,
     ⟨6, some 76, none, .ext 2 (.tmp 70), []⟩,
     ⟨7, some 77, none, .ext 3 (.tmp 70), []⟩,
     ⟨8, some 10, none, .mov (.tmp 74), []⟩,
     ⟨9, some 11, none, .mov (.tmp 75), []⟩,
     ⟨10, some 12, none, .mov (.tmp 76), []⟩,
     ⟨11, some 13, none, .mov (.tmp 77), []⟩]) (
   .seq (
   .region [
     ⟨0, some 78, none, .mov (.tmp 13), []⟩,
     ⟨1, some 79, none, .bin .eql .other (.tmp 78) (.const (.int .i64 12)), []⟩,
     ⟨2, some 80, none, .mov (.tmp 79), []⟩,
     ⟨3, some 81, some (80, true), .call 31 [], []⟩,
     ⟨4, some 82, none, .pick (.tmp 80) (.tmp 81) (.const (.bool false)), []⟩,
     ⟨5, some 4, none, .mov (.tmp 82), []⟩]) (
   .ret))) (
   .skip))) (
  .seq (
  .region [
    ⟨0, some 84, none, .load true 4 (.tmp 2), []⟩,
    ⟨1, some 85, none, .mov (.tmp 1), []⟩,
    ⟨2, some 86, none, .call 35 [.tmp 84, .tmp 85], []⟩,
    ⟨3, some 83, none, .mov (.tmp 86), []⟩,
    ⟨4, some 87, none, .ext 0 (.tmp 83), []⟩,
    ⟨5, some 88, none, .ext 1 (.tmp 83), []⟩,
    ⟨6, some 14, none, .mov (.tmp 87), []⟩,
    ⟨7, some 15, none, .mov (.tmp 88), []⟩]) (
  .seq (
  .region [
    ⟨0, some 89, none, .mov (.tmp 15), []⟩,
    ⟨1, some 90, none, .mov (.tmp 89), []⟩,
    ⟨2, some 91, some (90, true), .call 31 [], []⟩,
    ⟨3, some 92, none, .pick (.tmp 90) (.tmp 91) (.const (.bool false)), []⟩,
    ⟨4, some 4, none, .mov (.tmp 92), []⟩]) (
  .ret)))))))
def ir9 : IFunc := ⟨93, [.tmp 4], ir9_b⟩
theorem ir9_eq : cFunc Try.prog 9 = some ir9 := by kernel_rfl
theorem call9 {args : List Value} {m : Mem} {Φ : Value → Mem → Prop} (h : args.length ≤ 93) : WPCall Try.prog 9 args m Φ = WP Try.prog ir9_b (initσ args) m (retK [.tmp 4] Φ) := wpCall_def ir9_eq h
/-- drydock/drydocklaw13.MincostSolves -/
def ir10_l0 : ICode :=
  .seq (
  .seq (
  .region [
    ⟨0, some 21, none, .mov (.tmp 5), []⟩,
    ⟨1, some 22, none, .mov (.tmp 4), []⟩,
    ⟨2, some 23, none, .bin .leq .other (.tmp 21) (.tmp 22), []⟩]) (
  .cond (.tmp 23) (
   .skip) (
   .exit 0))) (
  .seq (
  .block 1 (
  .seq (
  .region [
    ⟨0, some 27, none, .load true 4 (.tmp 3), []⟩,
    ⟨1, some 28, none, .mov (.tmp 5), []⟩,
    ⟨2, some 29, none, .call 35 [.tmp 27, .tmp 28], []⟩,
    ⟨3, some 26, none, .mov (.tmp 29), []⟩,
    ⟨4, some 30, none, .ext 0 (.tmp 26), []⟩,
    ⟨5, some 31, none, .ext 1 (.tmp 26), []⟩,
    ⟨6, some 6, none, .mov (.tmp 30), []⟩,
    ⟨7, some 7, none, .mov (.tmp 31), []⟩]) (
  .seq (
  .region [
    ⟨0, some 33, none, .load true 4 (.tmp 3), []⟩,
    ⟨1, some 34, none, .mov (.tmp 5), []⟩,
    ⟨2, some 35, none, .call 36 [.tmp 33, .tmp 34], []⟩,
    ⟨3, some 32, none, .mov (.tmp 35), []⟩,
    ⟨4, some 36, none, .ext 0 (.tmp 32), []⟩,
    ⟨5, some 37, none, .ext 1 (.tmp 32), []⟩,
    ⟨6, some 38, none, .ext 2 (.tmp 32), []⟩,
    ⟨7, some 39, none, .ext 3 (.tmp 32), []⟩,
    ⟨8, some 8, none, .mov (.tmp 36), []⟩,
    ⟨9, some 9, none, .mov (.tmp 37), []⟩,
    ⟨10, some 10, none, .mov (.tmp 38), []⟩,
    ⟨11, some 11, none, .mov (.tmp 39), []⟩]) (
  .seq (
  .region [
    ⟨0, some 40, none, .mov (.tmp 7), []⟩,
    ⟨1, some 41, none, .un .not (.tmp 40), []⟩,
    ⟨2, some 42, none, .mov (.tmp 41), []⟩,
    ⟨3, some 43, some (42, false), .mov (.tmp 6), []⟩,
    ⟨4, some 44, some (42, false), .mov (.tmp 9), []⟩,
    ⟨5, some 45, some (42, false), .bin .neq .other (.tmp 43) (.tmp 44), []⟩,
    ⟨6, some 46, none, .pick (.tmp 42) (.const (.bool true)) (.tmp 45), []⟩]) (
  .cond (.tmp 46) (
   .seq (
   .region [
     ⟨0, some 2, none, .mov (.const (.bool false)), []⟩]) (
   .ret)) (
   .skip)))))) (
  .region [
    ⟨0, some 24, none, .mov (.tmp 5), []⟩,
    ⟨1, some 25, none, .bin .add .other (.tmp 24) (.const (.int .i64 1)), []⟩,
    ⟨2, some 5, none, .mov (.tmp 25), []⟩]))
def ir10_b : ICode :=
  .seq (
  .region [
    ⟨0, some 2, none, .mov (.const (.bool false)), []⟩]) (
  .seq (
  .region [
    ⟨0, some 16, none, .mov (.tmp 0), []⟩,
    ⟨1, some 17, none, .call 27 [.tmp 16], []⟩,
    ⟨2, some 18, none, .call 28 [.tmp 17], []⟩,
    ⟨3, some 3, none, .alloc [.int .i64 0, .int .i64 0, .int .i64 0, .slice none 0 0], []⟩,
    ⟨4, none, none, .store 4 (.tmp 3) (.tmp 18), []⟩]) (
  .seq (
  .region [
    ⟨0, some 19, none, .load true 4 (.tmp 3), []⟩,
    ⟨1, some 20, none, .call 34 [.tmp 19], []⟩,
    ⟨2, some 4, none, .mov (.tmp 20), []⟩]) (
  .seq (
  .seq (
  .region [
    ⟨0, some 5, none, .mov (.const (.int .i64 0)), []⟩]) (
  .block 0 (
  .loop ir10_l0))) (
  .seq (
  .region [
    ⟨0, some 48, none, .load true 4 (.tmp 3), []⟩,
    ⟨1, some 49, none, .mov (.tmp 4), []⟩,
    ⟨2, some 50, none, .bin .add .other (.tmp 49) (.const (.int .i64 1)), []⟩,
    ⟨3, some 51, none, .call 33 [.tmp 48, .tmp 50], []⟩,
    ⟨4, some 47, none, .mov (.tmp 51), []⟩,
    ⟨5, some 52, none, .ext 0 (.tmp 47), []⟩,
    ⟨6, some 53, none, .ext 1 (.tmp 47), []⟩,
    ⟨7, some 54, none, .ext 2 (.tmp 47), []⟩,
    ⟨8, some 55, none, .ext 3 (.tmp 47), []⟩,
    ⟨9, some 12, none, .mov (.tmp 52), []⟩,
    ⟨10, some 13, none, .mov (.tmp 53), []⟩,
    ⟨11, some 14, none, .mov (.tmp 54), []⟩,
    ⟨12, some 15, none, .mov (.tmp 55), []⟩]) (
  .seq (
  .region [
    ⟨0, some 56, none, .mov (.tmp 15), []⟩,
    ⟨1, some 57, none, .bin .eql .other (.tmp 56) (.const (.int .i64 12)), []⟩,
    ⟨2, some 58, none, .mov (.tmp 57), []⟩,
    ⟨3, some 59, some (58, true), .mov (.tmp 12), []⟩,
    ⟨4, some 60, some (58, true), .lenV (.tmp 59), []⟩,
    ⟨5, some 61, some (58, true), .bin .eql .other (.tmp 60) (.const (.int .i64 0)), []⟩,
    ⟨6, some 62, none, .pick (.tmp 58) (.tmp 61) (.const (.bool false)), []⟩,
    ⟨7, some 63, none, .mov (.tmp 62), []⟩,
    ⟨8, some 64, some (63, true), .mov (.tmp 13), []⟩,
    ⟨9, some 65, some (63, true), .bin .eql .other (.tmp 64) (.const (.int .i64 0)), []⟩,
    ⟨10, some 66, none, .pick (.tmp 63) (.tmp 65) (.const (.bool false)), []⟩,
    ⟨11, some 67, none, .mov (.tmp 66), []⟩,
    ⟨12, some 68, some (67, true), .mov (.tmp 14), []⟩,
    ⟨13, some 69, some (67, true), .lenV (.tmp 68), []⟩,
    ⟨14, some 70, some (67, true), .bin .eql .other (.tmp 69) (.const (.int .i64 0)), []⟩,
    ⟨15, some 71, none, .pick (.tmp 67) (.tmp 70) (.const (.bool false)), []⟩,
    ⟨16, some 72, none, .mov (.tmp 71), []⟩,
    ⟨17, some 73, some (72, true), .call 31 [], []⟩,
    ⟨18, some 74, none, .pick (.tmp 72) (.tmp 73) (.const (.bool false)), []⟩,
    ⟨19, some 2, none, .mov (.tmp 74), []⟩]) (
  .ret))))))
def ir10 : IFunc := ⟨75, [.tmp 2], ir10_b⟩
theorem ir10_eq : cFunc Try.prog 10 = some ir10 := by kernel_rfl
theorem call10 {args : List Value} {m : Mem} {Φ : Value → Mem → Prop} (h : args.length ≤ 75) : WPCall Try.prog 10 args m Φ = WP Try.prog ir10_b (initσ args) m (retK [.tmp 2] Φ) := wpCall_def ir10_eq h
/-- drydock/drydocklaw13.MincostConvex -/
def ir11_l0 : ICode :=
  .seq (
  .seq (
  .region [
    ⟨0, some 15, none, .mov (.tmp 7), []⟩,
    ⟨1, some 16, none, .mov (.tmp 4), []⟩,
    ⟨2, some 17, none, .bin .leq .other (.tmp 15) (.tmp 16), []⟩]) (
  .cond (.tmp 17) (
   .skip) (
   .exit 0))) (
  .seq (
  .block 1 (
  .seq (
  .region [
    ⟨0, some 21, none, .load true 4 (.tmp 3), []⟩,
    ⟨1, some 22, none, .mov (.tmp 7), []⟩,
    ⟨2, some 23, none, .call 35 [.tmp 21, .tmp 22], []⟩,
    ⟨3, some 20, none, .mov (.tmp 23), []⟩,
    ⟨4, some 24, none, .ext 0 (.tmp 20), []⟩,
    ⟨5, some 25, none, .ext 1 (.tmp 20), []⟩,
    ⟨6, some 8, none, .mov (.tmp 24), []⟩,
    ⟨7, some 9, none, .mov (.tmp 25), []⟩]) (
  .seq (
  .seq (
  .region [
    ⟨0, some 26, none, .mov (.tmp 9), []⟩,
    ⟨1, some 27, none, .un .not (.tmp 26), []⟩,
    ⟨2, some 28, none, .mov (.tmp 27), []⟩,
    ⟨3, some 29, some (28, false), .mov (.tmp 7), []⟩,
    ⟨4, some 30, some (28, false), .bin .gtr .other (.tmp 29) (.const (.int .i64 0)), []⟩,
    ⟨5, some 31, some (28, false), .mov (.tmp 30), []⟩,
    ⟨6, some 32, some (31, true), .mov (.tmp 8), []⟩,
    ⟨7, some 33, some (31, true), .mov (.tmp 5), []⟩,
    ⟨8, some 34, some (31, true), .bin .sub .other (.tmp 32) (.tmp 33), []⟩,
    ⟨9, some 35, some (31, true), .mov (.tmp 6), []⟩,
    ⟨10, some 36, some (31, true), .bin .lss .other (.tmp 34) (.tmp 35), []⟩,
    ⟨11, some 37, some (28, false), .pick (.tmp 31) (.tmp 36) (.const (.bool false)), []⟩,
    ⟨12, some 38, none, .pick (.tmp 28) (.const (.bool true)) (.tmp 37), []⟩]) (
  .cond (.tmp 38) (
   .seq (
   .region [
     ⟨0, some 2, none, .mov (.const (.bool false)), []⟩]) (
   .ret)) (
   .skip))) (
  .seq (
  .seq (
  .region [
    ⟨0, some 39, none, .mov (.tmp 7), []⟩,
    ⟨1, some 40, none, .bin .gtr .other (.tmp 39) (.const (.int .i64 0)), []⟩]) (
  .cond (.tmp 40) (
   .region [
     ⟨0, some 41, none, .mov (.tmp 8), []⟩,
     ⟨1, some 42, none, .mov (.tmp 5), []⟩,
     ⟨2, some 43, none, .bin .sub .other (.tmp 41) (.tmp 42), []⟩,
     ⟨3, some 6, none, .mov (.tmp 43), []⟩]) (
   .skip))) (
  .region [
    ⟨0, some 44, none, .mov (.tmp 8), []⟩,
    ⟨1, some 5, none, .mov (.tmp 44), []⟩]))))) (
  .region [
    ⟨0, some 18, none, .mov (.tmp 7), []⟩,
    ⟨1, some 19, none, .bin .add .other (.tmp 18) (.const (.int .i64 1)), []⟩,
    ⟨2, some 7, none, .mov (.tmp 19), []⟩]))
def ir11_b : ICode :=
  .seq (
  .region [
    ⟨0, some 2, none, .mov (.const (.bool false)), []⟩]) (
  .seq (
  .region [
    ⟨0, some 10, none, .mov (.tmp 0), []⟩,
    ⟨1, some 11, none, .call 27 [.tmp 10], []⟩,
    ⟨2, some 12, none, .call 28 [.tmp 11], []⟩,
    ⟨3, some 3, none, .alloc [.int .i64 0, .int .i64 0, .int .i64 0, .slice none 0 0], []⟩,
    ⟨4, none, none, .store 4 (.tmp 3) (.tmp 12), []⟩]) (
  .seq (
  .region [
    ⟨0, some 13, none, .load true 4 (.tmp 3), []⟩,
    ⟨1, some 14, none, .call 34 [.tmp 13], []⟩,
    ⟨2, some 4, none, .mov (.tmp 14), []⟩]) (
  .seq (
  .region [
    ⟨0, some 5, none, .mov (.const (.int .i64 0)), []⟩,
    ⟨1, some 6, none, .mov (.const (.int .i64 0)), []⟩]) (
  .seq (
  .seq (
  .region [
    ⟨0, some 7, none, .mov (.const (.int .i64 0)), []⟩]) (
  .block 0 (
  .loop ir11_l0))) (
  .seq (
  .region [
    ⟨0, some 45, none, .call 31 [], []⟩,
    ⟨1, some 2, none, .mov (.tmp 45), []⟩]) (
  .ret))))))
def ir11 : IFunc := ⟨46, [.tmp 2], ir11_b⟩
theorem ir11_eq : cFunc Try.prog 11 = some ir11 := by kernel_rfl
theorem call11 {args : List Value} {m : Mem} {Φ : Value → Mem → Prop} (h : args.length ≤ 46) : WPCall Try.prog 11 args m Φ = WP Try.prog ir11_b (initσ args) m (retK [.tmp 2] Φ) := wpCall_def ir11_eq h
/-- drydock/drydocklaw13.MincostScales -/
def ir12_l0 : ICode :=
  .seq (
  .seq (
  .region [
    ⟨0, some 43, none, .mov (.tmp 13), []⟩,
    ⟨1, some 44, none, .faddr 3 (.tmp 7), []⟩,
    ⟨2, some 45, none, .load false 1 (.tmp 44), []⟩,
    ⟨3, some 46, none, .lenV (.tmp 45), []⟩,
    ⟨4, some 47, none, .bin .lss .other (.tmp 43) (.tmp 46), []⟩]) (
  .cond (.tmp 47) (
   .skip) (
   .exit 0))) (
  .seq (
  .block 1 (
  .seq (
  .region [
    ⟨0, some 50, none, .faddr 3 (.tmp 10), []⟩,
    ⟨1, some 51, none, .load false 1 (.tmp 50), []⟩,
    ⟨2, some 52, none, .mov (.tmp 13), []⟩,
    ⟨3, some 53, none, .mov (.tmp 8), []⟩,
    ⟨4, some 54, none, .faddr 3 (.tmp 7), []⟩,
    ⟨5, some 55, none, .load false 1 (.tmp 54), []⟩,
    ⟨6, some 56, none, .mov (.tmp 13), []⟩,
    ⟨7, some 57, none, .iaddr 4 (.tmp 55) (.tmp 56), []⟩,
    ⟨8, some 58, none, .faddr 3 (.tmp 57), []⟩,
    ⟨9, some 59, none, .load false 1 (.tmp 58), []⟩,
    ⟨10, some 60, none, .bin .mul .other (.tmp 53) (.tmp 59), []⟩,
    ⟨11, some 61, none, .iaddr 4 (.tmp 51) (.tmp 52), []⟩,
    ⟨12, some 62, none, .faddr 3 (.tmp 61), []⟩,
    ⟨13, none, none, .store 1 (.tmp 62) (.tmp 60), []⟩]) (
  .seq (
  .seq (
  .region [
    ⟨0, some 63, none, .faddr 3 (.tmp 7), []⟩,
    ⟨1, some 64, none, .load false 1 (.tmp 63), []⟩,
    ⟨2, some 65, none, .mov (.tmp 13), []⟩,
    ⟨3, some 66, none, .iaddr 4 (.tmp 64) (.tmp 65), []⟩,
    ⟨4, some 67, none, .faddr 0 (.tmp 66), []⟩,
    ⟨5, some 68, none, .load false 1 (.tmp 67), []⟩,
    ⟨6, some 69, none, .faddr 1 (.tmp 7), []⟩,
    ⟨7, some 70, none, .load false 1 (.tmp 69), []⟩,
    ⟨8, some 71, none, .bin .eql .other (.tmp 68) (.tmp 70), []⟩]) (
  .cond (.tmp 71) (
   .region [
     ⟨0, some 72, none, .faddr 3 (.tmp 11), []⟩,
     ⟨1, some 73, none, .load false 1 (.tmp 72), []⟩,
     ⟨2, some 74, none, .mov (.tmp 13), []⟩,
     ⟨3, some 75, none, .faddr 3 (.tmp 7), []⟩,
     ⟨4, some 76, none, .load false 1 (.tmp 75), []⟩,
     ⟨5, some 77, none, .mov (.tmp 13), []⟩,
     ⟨6, some 78, none, .iaddr 4 (.tmp 76) (.tmp 77), []⟩,
     ⟨7, some 79, none, .faddr 3 (.tmp 78), []⟩,
     ⟨8, some 80, none, .load false 1 (.tmp 79), []⟩,
     ⟨9, some 81, none, .mov (.tmp 9), []⟩,
     ⟨10, some 82, none, .bin .add .other (.tmp 80) (.tmp 81), []⟩,
     ⟨11, some 83, none, .iaddr 4 (.tmp 73) (.tmp 74), []⟩,
     ⟨12, some 84, none, .faddr 3 (.tmp 83), []⟩,
     ⟨13, none, none, .store 1 (.tmp 84) (.tmp 82), []⟩]) (
   .skip))) (
  .region [
    ⟨0, some 85, none, .mov (.tmp 12), []⟩,
    ⟨1, some 86, none, .mov (.tmp 85), []⟩,
    ⟨2, some 87, some (86, false), .faddr 3 (.tmp 7), []⟩,
    ⟨3, some 88, some (86, false), .load false 1 (.tmp 87), []⟩,
    ⟨4, some 89, some (86, false), .mov (.tmp 13), []⟩,
    ⟨5, some 90, some (86, false), .iaddr 4 (.tmp 88) (.tmp 89), []⟩,
    ⟨6, some 91, some (86, false), .faddr 1 (.tmp 90), []⟩,
    ⟨7, some 92, some (86, false), .load false 1 (.tmp 91), []⟩,
    ⟨8, some 93, some (86, false), .faddr 1 (.tmp 7), []⟩,
    ⟨9, some 94, some (86, false), .load false 1 (.tmp 93), []⟩,
    ⟨10, some 95, some (86, false), .bin .eql .other (.tmp 92) (.tmp 94), []⟩,
    ⟨11, some 96, none, .pick (.tmp 86) (.const (.bool true)) (.tmp 95), []⟩,
    ⟨12, some 12, none, .mov (.tmp 96), []⟩])))) (
  .region [
    ⟨0, some 48, none, .mov (.tmp 13), []⟩,
    ⟨1, some 49, none, .bin .add .other (.tmp 48) (.const (.int .i64 1)), []⟩,
    ⟨2, some 13, none, .mov (.tmp 49), []⟩]))
def ir12_b : ICode :=
  .seq (
  .region [
    ⟨0, some 6, none, .mov (.const (.bool false)), []⟩]) (
  .seq (
  .region [
    ⟨0, some 21, none, .mov (.tmp 0), []⟩,
    ⟨1, some 22, none, .call 27 [.tmp 21], []⟩,
    ⟨2, some 23, none, .call 28 [.tmp 22], []⟩,
    ⟨3, some 7, none, .alloc [.int .i64 0, .int .i64 0, .int .i64 0, .slice none 0 0], []⟩,
    ⟨4, none, none, .store 4 (.tmp 7) (.tmp 23), []⟩]) (
  .seq (
  .region [
    ⟨0, some 24, none, .mov (.tmp 1), []⟩,
    ⟨1, some 25, none, .convI .i64 (.tmp 24), []⟩,
    ⟨2, some 26, none, .bin .rem .other (.tmp 25) (.const (.int .i64 9)), []⟩,
    ⟨3, some 27, none, .bin .add .other (.const (.int .i64 1)) (.tmp 26), []⟩,
    ⟨4, some 28, none, .mov (.tmp 2), []⟩,
    ⟨5, some 29, none, .convI .i64 (.tmp 28), []⟩,
    ⟨6, some 30, none, .bin .rem .other (.tmp 29) (.const (.int .i64 9)), []⟩,
    ⟨7, some 8, none, .mov (.tmp 27), []⟩,
    ⟨8, some 9, none, .mov (.tmp 30), []⟩]) (
  .seq (
  .region [
    ⟨0, some 31, none, .load true 4 (.tmp 7), []⟩,
    ⟨1, some 32, none, .load true 4 (.tmp 7), []⟩,
    ⟨2, some 10, none, .alloc [.int .i64 0, .int .i64 0, .int .i64 0, .slice none 0 0], []⟩,
    ⟨3, some 11, none, .alloc [.int .i64 0, .int .i64 0, .int .i64 0, .slice none 0 0], []⟩,
    ⟨4, none, none, .store 4 (.tmp 10) (.tmp 31), [(.tmp 7, .tmp 10)]⟩,
    ⟨5, none, none, .store 4 (.tmp 11) (.tmp 32), []⟩]) (
  .seq (
  .region [
    ⟨1, some 34, none, .faddr 3 (.tmp 7), []⟩,
    ⟨2, some 35, none, .load false 1 (.tmp 34), []⟩,
    ⟨5, some 38, none, .faddr 3 (.tmp 7), []⟩,
    ⟨6, some 39, none, .load false 1 (.tmp 38), []⟩,
    ⟨0, some 33, none, .bslice 4 0 [] [], []⟩,
    ⟨3, some 36, none, .app 4 32 (.tmp 33) (.tmp 35), [(.tmp 38, .tmp 33)]⟩,
    ⟨8, some 41, none, .faddr 3 (.tmp 10), []⟩,
    ⟨4, some 37, none, .bslice 4 0 [] [], []⟩,
    ⟨7, some 40, none, .app 4 32 (.tmp 37) (.tmp 39), []⟩,
    ⟨9, none, none, .store 1 (.tmp 41) (.tmp 36), []⟩,
    ⟨10, some 42, none, .faddr 3 (.tmp 11), []⟩,
    ⟨11, none, none, .store 1 (.tmp 42) (.tmp 40), []⟩]) (
  .seq (
  .region [
    ⟨0, some 12, none, .mov (.const (.bool false)), []⟩]) (
  .seq (
  .seq (
  .region [
    ⟨0, some 13, none, .mov (.const (.int .i64 0)), []⟩]) (
  .block 0 (
  .loop ir12_l0))) (
  .seq (
  .region [
    ⟨0, some 97, none, .load true 4 (.tmp 7), []⟩,
    ⟨1, some 98, none, .call 34 [.tmp 97], []⟩,
    ⟨2, some 14, none, .mov (.tmp 98), []⟩]) (
  .seq (
  .region [
    ⟨0, some 100, none, .load true 4 (.tmp 7), []⟩,
    ⟨1, some 101, none, .mov (.tmp 14), []⟩,
    ⟨2, some 102, none, .call 35 [.tmp 100, .tmp 101], []⟩,
    ⟨3, some 99, none, .mov (.tmp 102), []⟩,
    ⟨4, some 103, none, .ext 0 (.tmp 99), []⟩,
    ⟨5, some 104, none, .ext 1 (.tmp 99), []⟩,
    ⟨6, some 15, none, .mov (.tmp 103), []⟩,
    ⟨7, some 16, none, .mov (.tmp 104), []⟩]) (
  .seq (
  .region [
    ⟨0, some 106, none, .load true 4 (.tmp 10), []⟩,
    ⟨1, some 107, none, .mov (.tmp 14), []⟩,
    ⟨2, some 108, none, .call 35 [.tmp 106, .tmp 107], []⟩,
    ⟨3, some 105, none, .mov (.tmp 108), []⟩,
    ⟨4, some 109, none, .ext 0 (.tmp 105), []⟩,
    ⟨5, some 110, none, .ext 1 (.tmp 105), []⟩,
    ⟨6, some 17, none, .mov (.tmp 109), []⟩,
    ⟨7, some 18, none, .mov (.tmp 110), []⟩]) (
  .seq (
  .region [
    ⟨0, some 112, none, .load true 4 (.tmp 11), []⟩,
    ⟨1, some 113, none, .mov (.tmp 14), []⟩,
    ⟨2, some 114, none, .call 35 [.tmp 112, .tmp 113], []⟩,
    ⟨3, some 111, none, .mov (.tmp 114), []⟩,
    ⟨4, some 115, none, .ext 0 (.tmp 111), []⟩,
    ⟨5, some 116, none, .ext 1 (.tmp 111), []⟩,
    ⟨6, some 19, none, .mov (.tmp 115), []⟩,
    ⟨7, some 20, none, .mov (.tmp 116), []⟩]) (
  .seq (
  .region [
    ⟨0, some 117, none, .mov (.tmp 16), []⟩,
    ⟨1, some 118, none, .mov (.tmp 117), []⟩,
    ⟨2, some 119, some (118, true), .mov (.tmp 18), []⟩,
    ⟨3, some 120, none, .pick (.tmp 118) (.tmp 119) (.const (.bool false)), []⟩,
    ⟨4, some 121, none, .mov (.tmp 120), []⟩,
    ⟨5, some 122, some (121, true), .mov (.tmp 20), []⟩,
    ⟨6, some 123, none, .pick (.tmp 121) (.tmp 122) (.const (.bool false)), []⟩,
    ⟨7, some 124, none, .mov (.tmp 123), []⟩,
    ⟨8, some 125, some (124, true), .mov (.tmp 17), []⟩,
    ⟨9, some 126, some (124, true), .mov (.tmp 8), []⟩,
    ⟨10, some 127, some (124, true), .mov (.tmp 15), []⟩,
    ⟨11, some 128, some (124, true), .bin .mul .other (.tmp 126) (.tmp 127), []⟩,
    ⟨12, some 129, some (124, true), .bin .eql .other (.tmp 125) (.tmp 128), []⟩,
    ⟨13, some 130, none, .pick (.tmp 124) (.tmp 129) (.const (.bool false)), []⟩,
    ⟨14, some 131, none, .mov (.tmp 130), []⟩,
    ⟨15, some 132, some (131, true), .mov (.tmp 12), []⟩,
    ⟨16, some 133, some (131, true), .mov (.tmp 132), []⟩,
    ⟨17, some 134, some (133, false), .mov (.tmp 19), []⟩,
    ⟨18, some 135, some (133, false), .mov (.tmp 15), []⟩,
    ⟨19, some 136, some (133, false), .mov (.tmp 14), []⟩,
    ⟨20, some 137, some (133, false), .mov (.tmp 9), []⟩,
    ⟨21, some 138, some (133, false), .bin .mul .other (.tmp 136) (.tmp 137), []⟩,
    ⟨22, some 139, some (133, false), .bin .add .other (.tmp 135) (.tmp 138), []⟩,
    ⟨23, some 140, some (133, false), .bin .eql .other (.tmp 134) (.tmp 139), []⟩,
    ⟨24, some 141, some (131, true), .pick (.tmp 133) (.const (.bool true)) (.tmp 140), []⟩,
    ⟨25, some 142, none, .pick (.tmp 131) (.tmp 141) (.const (.bool false)), []⟩,
    ⟨26, some 143, none, .mov (.tmp 142), []⟩,
    ⟨27, some 144, some (143, true), .call 31 [], []⟩,
    ⟨28, some 145, none, .pick (.tmp 143) (.tmp 144) (.const (.bool false)), []⟩,
    ⟨29, some 6, none, .mov (.tmp 145), []⟩]) (
  .ret))))))))))))
def ir12 : IFunc := ⟨146, [.tmp 6], ir12_b⟩
theorem ir12_eq : cFunc Try.prog 12 = some ir12 := by kernel_rfl
theorem call12 {args : List Value} {m : Mem} {Φ : Value → Mem → Prop} (h : args.length ≤ 146) : WPCall Try.prog 12 args m Φ = WP Try.prog ir12_b (initσ args) m (retK [.tmp 6] Φ) := wpCall_def ir12_eq h
/-- drydock/drydocklaw13.MincostBetter -/
def ir13_l0 : ICode :=
  .seq (
  .seq (
  .region [
    ⟨0, some 26, none, .mov (.tmp 8), []⟩,
    ⟨1, some 27, none, .mov (.tmp 7), []⟩,
    ⟨2, some 28, none, .lenV (.tmp 27), []⟩,
    ⟨3, some 29, none, .bin .lss .other (.tmp 26) (.tmp 28), []⟩]) (
  .cond (.tmp 29) (
   .skip) (
   .exit 0))) (
  .seq (
  .block 1 (
  .region [
    ⟨0, some 32, none, .mov (.tmp 7), []⟩,
    ⟨1, some 33, none, .mov (.tmp 8), []⟩,
    ⟨2, some 34, none, .mov (.tmp 6), []⟩,
    ⟨3, some 35, none, .faddr 3 (.tmp 5), []⟩,
    ⟨4, some 36, none, .load false 1 (.tmp 35), []⟩,
    ⟨5, some 37, none, .mov (.tmp 8), []⟩,
    ⟨6, some 38, none, .iaddr 4 (.tmp 36) (.tmp 37), []⟩,
    ⟨7, some 39, none, .faddr 2 (.tmp 38), []⟩,
    ⟨8, some 40, none, .load false 1 (.tmp 39), []⟩,
    ⟨9, some 41, none, .bin .add .other (.tmp 40) (.const (.int .i64 1)), []⟩,
    ⟨10, some 42, none, .call 37 [.tmp 34, .tmp 41], []⟩,
    ⟨11, some 43, none, .iaddr 1 (.tmp 32) (.tmp 33), []⟩,
    ⟨12, none, none, .store 1 (.tmp 43) (.tmp 42), []⟩])) (
  .region [
    ⟨0, some 30, none, .mov (.tmp 8), []⟩,
    ⟨1, some 31, none, .bin .add .other (.tmp 30) (.const (.int .i64 1)), []⟩,
    ⟨2, some 8, none, .mov (.tmp 31), []⟩]))
def ir13_l1 : ICode :=
  .seq (
  .seq (
  .region [
    ⟨0, some 62, none, .mov (.tmp 12), []⟩,
    ⟨1, some 63, none, .mov (.tmp 7), []⟩,
    ⟨2, some 64, none, .lenV (.tmp 63), []⟩,
    ⟨3, some 65, none, .bin .lss .other (.tmp 62) (.tmp 64), []⟩]) (
  .cond (.tmp 65) (
   .skip) (
   .exit 2))) (
  .seq (
  .block 3 (
  .region [
    ⟨0, some 68, none, .faddr 3 (.tmp 11), []⟩,
    ⟨1, some 69, none, .load false 1 (.tmp 68), []⟩,
    ⟨2, some 70, none, .mov (.tmp 12), []⟩,
    ⟨3, some 71, none, .mov (.tmp 7), []⟩,
    ⟨4, some 72, none, .mov (.tmp 12), []⟩,
    ⟨5, some 73, none, .iaddr 1 (.tmp 71) (.tmp 72), []⟩,
    ⟨6, some 74, none, .load false 1 (.tmp 73), []⟩,
    ⟨7, some 75, none, .iaddr 4 (.tmp 69) (.tmp 70), []⟩,
    ⟨8, some 76, none, .faddr 2 (.tmp 75), []⟩,
    ⟨9, none, none, .store 1 (.tmp 76) (.tmp 74), []⟩])) (
  .region [
    ⟨0, some 66, none, .mov (.tmp 12), []⟩,
    ⟨1, some 67, none, .bin .add .other (.tmp 66) (.const (.int .i64 1)), []⟩,
    ⟨2, some 12, none, .mov (.tmp 67), []⟩]))
def ir13_b : ICode :=
  .seq (
  .region [
    ⟨0, some 4, none, .mov (.const (.bool false)), []⟩]) (
  .seq (
  .region [
    ⟨0, some 17, none, .mov (.tmp 0), []⟩,
    ⟨1, some 18, none, .call 27 [.tmp 17], []⟩,
    ⟨2, some 19, none, .call 28 [.tmp 18], []⟩,
    ⟨3, some 5, none, .alloc [.int .i64 0, .int .i64 0, .int .i64 0, .slice none 0 0], []⟩,
    ⟨4, none, none, .store 4 (.tmp 5) (.tmp 19), []⟩]) (
  .seq (
  .region [
    ⟨0, some 20, none, .mov (.tmp 1), []⟩,
    ⟨1, some 21, none, .call 27 [.tmp 20], []⟩,
    ⟨2, some 6, none, .mov (.tmp 21), []⟩]) (
  .seq (
  .region [
    ⟨0, some 22, none, .faddr 3 (.tmp 5), []⟩,
    ⟨1, some 23, none, .load false 1 (.tmp 22), []⟩,
    ⟨2, some 24, none, .lenV (.tmp 23), []⟩,
    ⟨3, some 25, none, .mkslice 1 8 [.int .i64 0] (.tmp 24) (.tmp 24), []⟩,
    ⟨4, some 7, none, .mov (.tmp 25), []⟩]) (
  .seq (
  .seq (
  .region [
    ⟨0, some 8, none, .mov (.const (.int .i64 0)), []⟩]) (
  .block 0 (
  .loop ir13_l0))) (
  .seq (
  .region [
    ⟨0, some 45, none, .load true 4 (.tmp 5), []⟩,
    ⟨1, some 46, none, .mov (.tmp 7), []⟩,
    ⟨2, some 47, none, .call 18 [.tmp 45, .tmp 46], []⟩,
    ⟨3, some 44, none, .mov (.tmp 47), []⟩,
    ⟨4, some 48, none, .ext 0 (.tmp 44), []⟩,
    ⟨5, some 49, none, .ext 1 (.tmp 44), []⟩,
    ⟨6, some 9, none, .mov (.tmp 48), []⟩,
    ⟨7, some 10, none, .mov (.tmp 49), []⟩]) (
  .seq (
  .seq (
  .region [
    ⟨0, some 50, none, .mov (.tmp 10), []⟩,
    ⟨1, some 51, none, .un .not (.tmp 50), []⟩,
    ⟨2, some 52, none, .mov (.tmp 51), []⟩,
    ⟨3, some 53, some (52, false), .mov (.tmp 9), []⟩,
    ⟨4, some 54, some (52, false), .bin .lss .other (.tmp 53) (.const (.int .i64 0)), []⟩,
    ⟨5, some 55, none, .pick (.tmp 52) (.const (.bool true)) (.tmp 54), []⟩]) (
  .cond (.tmp 55) (
   .seq (
   .region [
     ⟨0, some 56, none, .load true 4 (.tmp 5), []⟩,
     ⟨1, some 11, none, .alloc [.int .i64 0, .int .i64 0, .int .i64 0, .slice none 0 0], []⟩,
     ⟨2, none, none, .store 4 (.tmp 11) (.tmp 56), []⟩]) (
   .seq (
   .region [
     ⟨0, some 57, none, .bslice 4 0 [] [], []⟩,
     ⟨1, some 58, none, .faddr 3 (.tmp 5), []⟩,
     ⟨2, some 59, none, .load false 1 (.tmp 58), []⟩,
     ⟨3, some 60, none, .app 4 32 (.tmp 57) (.tmp 59), []⟩,
     ⟨4, some 61, none, .faddr 3 (.tmp 11), []⟩,
     ⟨5, none, none, .store 1 (.tmp 61) (.tmp 60), []⟩]) (
   .seq (
   .seq (
   .region [
     ⟨0, some 12, none, .mov (.const (.int .i64 0)), []⟩]) (
   .block 2 (
   .loop ir13_l1))) (
   .region [
     ⟨0, some 78, none, .load true 4 (.tmp 11), []⟩,
     ⟨1, some 79, none, .call 29 [.tmp 78], []⟩,
     ⟨2, some 77, none, .mov (.tmp 79), []⟩,
     ⟨3, some 80, none, .ext 0 (.tmp 77), []⟩,
     ⟨4, some 81, none, .ext 1 (.tmp 77), []⟩,
     ⟨5, some 82, none, .ext 2 (.tmp 77), []⟩,
     ⟨6, some 83, none, .ext 3 (.tmp 77), []⟩,
     ⟨7, some 7, none, .mov (.tmp 80), []⟩,
     ⟨8, some 9, none, .mov (.tmp 81), []⟩])))) (
   .skip))) (
  .seq (
  .region [
    ⟨0, some 85, none, .load true 4 (.tmp 5), []⟩,
    ⟨1, some 86, none, .mov (.tmp 7), []⟩,
    ⟨2, some 87, none, .call 38 [.tmp 85, .tmp 86], []⟩,
    ⟨3, some 84, none, .mov (.tmp 87), []⟩,
    ⟨4, some 88, none, .ext 0 (.tmp 84), []⟩,
    ⟨5, some 89, none, .ext 1 (.tmp 84), []⟩,
    ⟨6, some 13, none, .mov (.tmp 88), []⟩,
    ⟨7, some 14, none, .mov (.tmp 89), []⟩]) (
  .seq (
  .region [
    ⟨0, some 91, none, .load true 4 (.tmp 5), []⟩,
    ⟨1, some 92, none, .mov (.tmp 9), []⟩,
    ⟨2, some 93, none, .call 35 [.tmp 91, .tmp 92], []⟩,
    ⟨3, some 90, none, .mov (.tmp 93), []⟩,
    ⟨4, some 94, none, .ext 0 (.tmp 90), []⟩,
    ⟨5, some 95, none, .ext 1 (.tmp 90), []⟩,
    ⟨6, some 15, none, .mov (.tmp 94), []⟩,
    ⟨7, some 16, none, .mov (.tmp 95), []⟩]) (
  .seq (
  .region [
    ⟨0, some 96, none, .mov (.tmp 14), []⟩,
    ⟨1, some 97, none, .mov (.tmp 96), []⟩,
    ⟨2, some 98, some (97, true), .mov (.tmp 16), []⟩,
    ⟨3, some 99, none, .pick (.tmp 97) (.tmp 98) (.const (.bool false)), []⟩,
    ⟨4, some 100, none, .mov (.tmp 99), []⟩,
    ⟨5, some 101, some (100, true), .mov (.tmp 15), []⟩,
    ⟨6, some 102, some (100, true), .mov (.tmp 13), []⟩,
    ⟨7, some 103, some (100, true), .bin .leq .other (.tmp 101) (.tmp 102), []⟩,
    ⟨8, some 104, none, .pick (.tmp 100) (.tmp 103) (.const (.bool false)), []⟩,
    ⟨9, some 105, none, .mov (.tmp 104), []⟩,
    ⟨10, some 106, some (105, true), .call 31 [], []⟩,
    ⟨11, some 107, none, .pick (.tmp 105) (.tmp 106) (.const (.bool false)), []⟩,
    ⟨12, some 4, none, .mov (.tmp 107), []⟩]) (
  .ret))))))))))
def ir13 : IFunc := ⟨108, [.tmp 4], ir13_b⟩
theorem ir13_eq : cFunc Try.prog 13 = some ir13 := by kernel_rfl
theorem call13 {args : List Value} {m : Mem} {Φ : Value → Mem → Prop} (h : args.length ≤ 108) : WPCall Try.prog 13 args m Φ = WP Try.prog ir13_b (initσ args) m (retK [.tmp 4] Φ) := wpCall_def ir13_eq h
/-- drydock/drydocklaw13.MincostExact -/
def ir14_b : ICode :=
  .seq (
  .region [
    ⟨0, some 4, none, .box (.tmp 0), []⟩,
    ⟨1, some 8, none, .mov (.const (.bool false)), []⟩]) (
  .seq (
  .seq (
  .region [
    ⟨0, some 13, none, .load true 4 (.tmp 4), []⟩,
    ⟨1, some 14, none, .call 30 [.tmp 13], []⟩,
    ⟨2, some 15, none, .mov (.tmp 14), []⟩,
    ⟨3, some 16, some (15, false), .mov (.tmp 2), []⟩,
    ⟨4, some 17, some (15, false), .lenV (.tmp 16), []⟩,
    ⟨5, some 18, some (15, false), .bin .gtr .other (.tmp 17) (.const (.int .i64 100)), []⟩,
    ⟨6, some 19, none, .pick (.tmp 15) (.const (.bool true)) (.tmp 18), []⟩,
    ⟨7, some 20, none, .mov (.tmp 19), []⟩,
    ⟨8, some 21, some (20, false), .mov (.tmp 3), []⟩,
    ⟨9, some 22, some (20, false), .lenV (.tmp 21), []⟩,
    ⟨10, some 23, some (20, false), .bin .gtr .other (.tmp 22) (.const (.int .i64 100)), []⟩,
    ⟨11, some 24, none, .pick (.tmp 20) (.const (.bool true)) (.tmp 23), []⟩]) (
  .cond (.tmp 24) (
   .seq (
   .region [
     ⟨0, some 25, none, .call 31 [], []⟩,
     ⟨1, some 8, none, .mov (.tmp 25), []⟩]) (
   .ret)) (
   .skip))) (
  .seq (
  .region [
    ⟨0, some 27, none, .load true 4 (.tmp 4), []⟩,
    ⟨1, some 28, none, .mov (.tmp 2), []⟩,
    ⟨2, some 29, none, .call 38 [.tmp 27, .tmp 28], []⟩,
    ⟨3, some 26, none, .mov (.tmp 29), []⟩,
    ⟨4, some 30, none, .ext 0 (.tmp 26), []⟩,
    ⟨5, some 31, none, .ext 1 (.tmp 26), []⟩,
    ⟨6, some 9, none, .mov (.tmp 30), []⟩,
    ⟨7, some 10, none, .mov (.tmp 31), []⟩]) (
  .seq (
  .region [
    ⟨0, some 33, none, .load true 4 (.tmp 4), []⟩,
    ⟨1, some 34, none, .mov (.tmp 2), []⟩,
    ⟨2, some 35, none, .call 39 [.tmp 33, .tmp 34], []⟩,
    ⟨3, some 32, none, .mov (.tmp 35), []⟩,
    ⟨4, some 36, none, .ext 0 (.tmp 32), []⟩,
    ⟨5, some 37, none, .ext 1 (.tmp 32), []⟩,
    ⟨6, some 11, none, .mov (.tmp 36), []⟩,
    ⟨7, some 12, none, .mov (.tmp 37), []⟩]) (
  .seq (
  .region [
    ⟨0, some 38, none, .load true 4 (.tmp 4), []⟩,
    ⟨2, some 40, none, .load true 4 (.tmp 4), []⟩,
    ⟨1, some 39, none, .call 40 [.tmp 38], [(.tmp 4, .tmp 4)]⟩,
    ⟨3, some 41, none, .call 32 [.tmp 40], []⟩,
    ⟨4, some 42, none, .bin .eql .bool (.tmp 39) (.tmp 41), []⟩,
    ⟨5, some 43, none, .mov (.tmp 42), []⟩,
    ⟨6, some 44, some (43, true), .mov (.tmp 9), []⟩,
    ⟨7, some 45, some (43, true), .mov (.tmp 11), []⟩,
    ⟨8, some 46, some (43, true), .bin .eql .other (.tmp 44) (.tmp 45), []⟩,
    ⟨9, some 47, none, .pick (.tmp 43) (.tmp 46) (.const (.bool false)), []⟩,
    ⟨10, some 48, none, .mov (.tmp 47), []⟩,
    ⟨11, some 49, some (48, true), .mov (.tmp 10), []⟩,
    ⟨12, some 50, some (48, true), .mov (.tmp 12), []⟩,
    ⟨13, some 51, some (48, true), .bin .eql .bool (.tmp 49) (.tmp 50), []⟩,
    ⟨14, some 52, none, .pick (.tmp 48) (.tmp 51) (.const (.bool false)), []⟩,
    ⟨15, some 53, none, .mov (.tmp 52), []⟩,
    ⟨16, some 54, some (53, true), .load true 4 (.tmp 4), []⟩,
    ⟨17, some 55, some (53, true), .mov (.tmp 1), []⟩,
    ⟨18, some 56, some (53, true), .mov (.tmp 2), []⟩,
    ⟨19, some 57, some (53, true), .mov (.tmp 3), []⟩,
    ⟨21, some 59, some (53, true), .load true 4 (.tmp 4), []⟩,
    ⟨22, some 60, some (53, true), .mov (.tmp 1), []⟩,
    ⟨23, some 61, some (53, true), .mov (.tmp 2), []⟩,
    ⟨24, some 62, some (53, true), .mov (.tmp 3), []⟩,
    ⟨20, some 58, some (53, true), .call 41 [.tmp 54, .tmp 55, .tmp 56, .tmp 57], [(.tmp 4, .tmp 4)]⟩,
    ⟨25, some 63, some (53, true), .call 42 [.tmp 59, .tmp 60, .tmp 61, .tmp 62], []⟩,
    ⟨26, some 64, some (53, true), .bin .eql .bool (.tmp 58) (.tmp 63), []⟩,
    ⟨27, some 65, none, .pick (.tmp 53) (.tmp 64) (.const (.bool false)), []⟩,
    ⟨28, some 66, none, .mov (.tmp 65), []⟩,
    ⟨29, some 67, some (66, true), .call 31 [], []⟩,
    ⟨30, some 68, none, .pick (.tmp 66) (.tmp 67) (.const (.bool false)), []⟩,
    ⟨31, some 8, none, .mov (.tmp 68), []⟩]) (
  .ret)))))
def ir14 : IFunc := ⟨69, [.tmp 8], ir14_b⟩
theorem ir14_eq : cFunc Try.prog 14 = some ir14 := by kernel_rfl
theorem call14 {args : List Value} {m : Mem} {Φ : Value → Mem → Prop} (h : args.length ≤ 69) : WPCall Try.prog 14 args m Φ = WP Try.prog ir14_b (initσ args) m (retK [.tmp 8] Φ) := wpCall_def ir14_eq h
/-- drydock/drydocklaw13.heavy -/
def ir30_b : ICode :=
  .seq (
  .region [
    ⟨0, some 1, none, .box (.tmp 0), []⟩,
    ⟨1, some 2, none, .mov (.const (.bool false)), []⟩]) (
  .seq (
  .region [
    ⟨0, some 3, none, .faddr 3 (.tmp 1), []⟩,
    ⟨1, some 4, none, .load false 1 (.tmp 3), []⟩,
    ⟨2, some 5, none, .lenV (.tmp 4), []⟩,
    ⟨3, some 6, none, .bin .gtr .other (.tmp 5) (.const (.int .i64 40)), []⟩,
    ⟨4, some 7, none, .mov (.tmp 6), []⟩,
    ⟨5, some 8, some (7, false), .faddr 0 (.tmp 1), []⟩,
    ⟨6, some 9, some (7, false), .load false 1 (.tmp 8), []⟩,
    ⟨7, some 10, some (7, false), .bin .gtr .other (.tmp 9) (.const (.int .i64 40)), []⟩,
    ⟨8, some 11, some (7, false), .mov (.tmp 10), []⟩,
    ⟨9, some 12, some (11, true), .faddr 0 (.tmp 1), []⟩,
    ⟨10, some 13, some (11, true), .load false 1 (.tmp 12), []⟩,
    ⟨11, some 14, some (11, true), .bin .leq .other (.tmp 13) (.const (.int .i64 700)), []⟩,
    ⟨12, some 15, some (7, false), .pick (.tmp 11) (.tmp 14) (.const (.bool false)), []⟩,
    ⟨13, some 16, none, .pick (.tmp 7) (.const (.bool true)) (.tmp 15), []⟩,
    ⟨14, some 2, none, .mov (.tmp 16), []⟩]) (
  .ret))
def ir30 : IFunc := ⟨17, [.tmp 2], ir30_b⟩
theorem ir30_eq : cFunc Try.prog 30 = some ir30 := by kernel_rfl
theorem call30 {args : List Value} {m : Mem} {Φ : Value → Mem → Prop} (h : args.length ≤ 17) : WPCall Try.prog 30 args m Φ = WP Try.prog ir30_b (initσ args) m (retK [.tmp 2] Φ) := wpCall_def ir30_eq h
/-- drydock/drydocklaw13.awake -/
def ir31_b : ICode :=
  .seq (
  .region [
    ⟨0, some 0, none, .mov (.const (.bool false)), []⟩]) (
  .seq (
  .region [
    ⟨0, some 14, none, .build [.int .i64 0, .int .i64 0, .int .i64 0, .int .i64 0] [(1, 1, .const (.int .i64 1)), (2, 1, .const (.int .i64 1)), (3, 1, .const (.int .i64 3))], []⟩,
    ⟨1, some 15, none, .build [.int .i64 0, .int .i64 0, .int .i64 0, .int .i64 0] [(1, 1, .const (.int .i64 1)), (2, 1, .const (.int .i64 1)), (3, 1, .const (.int .i64 1))], []⟩,
    ⟨2, some 16, none, .bslice 4 2 [.int .i64 0, .int .i64 0, .int .i64 0, .int .i64 0, .int .i64 0, .int .i64 0, .int .i64 0, .int .i64 0] [(0, 4, .tmp 14), (4, 4, .tmp 15)], []⟩,
    ⟨3, some 17, none, .build [.int .i64 0, .int .i64 0, .int .i64 0, .slice none 0 0] [(0, 1, .const (.int .i64 2)), (2, 1, .const (.int .i64 1)), (3, 1, .tmp 16)], []⟩,
    ⟨4, some 1, none, .alloc [.int .i64 0, .int .i64 0, .int .i64 0, .slice none 0 0], []⟩,
    ⟨5, none, none, .store 4 (.tmp 1) (.tmp 17), []⟩]) (
  .seq (
  .region [
    ⟨0, some 19, none, .load true 4 (.tmp 1), []⟩,
    ⟨1, some 20, none, .call 33 [.tmp 19, .const (.int .i64 1)], []⟩,
    ⟨2, some 18, none, .mov (.tmp 20), []⟩,
    ⟨3, some 21, none, .ext 0 (.tmp 18), []⟩,
    ⟨4, some 22, none, .ext 1 (.tmp 18), []⟩,
    ⟨5, some 23, none, .ext 2 (.tmp 18), []⟩,
    ⟨6, some 24, none, .ext 3 (.tmp 18), []⟩,
    ⟨7, some 2, none, .mov (.tmp 21), []⟩,
    ⟨8, some 3, none, .mov (.tmp 22), []⟩,
    ⟨9, some 4, none, .mov (.tmp 23), []⟩,
    ⟨10, some 5, none, .mov (.tmp 24), []⟩]) (
  .seq (
  .region [
    ⟨0, some 26, none, .load true 4 (.tmp 1), []⟩,
    ⟨1, some 27, none, .call 33 [.tmp 26, .const (.int .i64 2)], []⟩,
    ⟨2, some 25, none, .mov (.tmp 27), []⟩,
    ⟨3, some 28, none, .ext 0 (.tmp 25), []⟩,
    ⟨4, some 29, none, .ext 1 (.tmp 25), []⟩,
    ⟨5, some 30, none, .ext 2 (.tmp 25), []⟩,
    ⟨6, some 31, none, .ext 3 (.tmp 25), []⟩,
    ⟨7, some 6, none, .mov (.tmp 28), []⟩,
    ⟨8, some 7, none, .mov (.tmp 29), []⟩,
    ⟨9, some 8, none, .mov (.tmp 30), []⟩,
    ⟨10, some 9, none, .mov (.tmp 31), []⟩]) (
  .seq (
  .region [
    ⟨0, some 33, none, .load true 4 (.tmp 1), []⟩,
    ⟨1, some 34, none, .call 33 [.tmp 33, .const (.int .i64 3)], []⟩,
    ⟨2, some 32, none, .mov (.tmp 34), []⟩,
    ⟨3, some 35, none, .ext 0 (.tmp 32), []⟩,
    ⟨4, some 36, none, .ext 1 (.tmp 32), []⟩,
    ⟨5, some 37, none, .ext 2 (.tmp 32), []⟩,
    ⟨6, some 38, none, .ext 3 (.tmp 32), []⟩,
    ⟨7, some 10, none, .mov (.tmp 35), []⟩,
    ⟨8, some 11, none, .mov (.tmp 36), []⟩,
    ⟨9, some 12, none, .mov (.tmp 37), []⟩,
    ⟨10, some 13, none, .mov (.tmp 38), []⟩]) (
  .seq (
  .region [
    ⟨0, some 39, none, .mov (.tmp 5), []⟩,
    ⟨1, some 40, none, .bin .eql .other (.tmp 39) (.const (.int .i64 0)), []⟩,
    ⟨2, some 41, none, .mov (.tmp 40), []⟩,
    ⟨3, some 42, some (41, true), .mov (.tmp 3), []⟩,
    ⟨4, some 43, some (41, true), .bin .eql .other (.tmp 42) (.const (.int .i64 1)), []⟩,
    ⟨5, some 44, none, .pick (.tmp 41) (.tmp 43) (.const (.bool false)), []⟩,
    ⟨6, some 45, none, .mov (.tmp 44), []⟩,
    ⟨7, some 46, some (45, true), .mov (.tmp 2), []⟩,
    ⟨8, some 47, some (45, true), .lenV (.tmp 46), []⟩,
    ⟨9, some 48, some (45, true), .bin .eql .other (.tmp 47) (.const (.int .i64 2)), []⟩,
    ⟨10, some 49, none, .pick (.tmp 45) (.tmp 48) (.const (.bool false)), []⟩,
    ⟨11, some 50, none, .mov (.tmp 49), []⟩,
    ⟨12, some 51, some (50, true), .mov (.tmp 2), []⟩,
    ⟨13, some 52, some (50, true), .iaddr 1 (.tmp 51) (.const (.int .i64 1)), []⟩,
    ⟨14, some 53, some (50, true), .load false 1 (.tmp 52), []⟩,
    ⟨15, some 54, some (50, true), .bin .eql .other (.tmp 53) (.const (.int .i64 1)), []⟩,
    ⟨16, some 55, none, .pick (.tmp 50) (.tmp 54) (.const (.bool false)), []⟩,
    ⟨17, some 56, none, .mov (.tmp 55), []⟩,
    ⟨18, some 57, some (56, true), .mov (.tmp 4), []⟩,
    ⟨19, some 58, some (56, true), .lenV (.tmp 57), []⟩,
    ⟨20, some 59, some (56, true), .bin .eql .other (.tmp 58) (.const (.int .i64 2)), []⟩,
    ⟨21, some 60, none, .pick (.tmp 56) (.tmp 59) (.const (.bool false)), []⟩,
    ⟨22, some 61, none, .mov (.tmp 60), []⟩,
    ⟨23, some 62, some (61, true), .mov (.tmp 9), []⟩,
    ⟨24, some 63, some (61, true), .bin .eql .other (.tmp 62) (.const (.int .i64 0)), []⟩,
    ⟨25, some 64, none, .pick (.tmp 61) (.tmp 63) (.const (.bool false)), []⟩,
    ⟨26, some 65, none, .mov (.tmp 64), []⟩,
    ⟨27, some 66, some (65, true), .mov (.tmp 7), []⟩,
    ⟨28, some 67, some (65, true), .bin .eql .other (.tmp 66) (.const (.int .i64 4)), []⟩,
    ⟨29, some 68, none, .pick (.tmp 65) (.tmp 67) (.const (.bool false)), []⟩,
    ⟨30, some 69, none, .mov (.tmp 68), []⟩,
    ⟨31, some 70, some (69, true), .mov (.tmp 13), []⟩,
    ⟨32, some 71, some (69, true), .bin .eql .other (.tmp 70) (.const (.int .i64 12)), []⟩,
    ⟨33, some 72, none, .pick (.tmp 69) (.tmp 71) (.const (.bool false)), []⟩,
    ⟨34, some 0, none, .mov (.tmp 72), []⟩]) (
  .ret))))))
def ir31 : IFunc := ⟨73, [.tmp 0], ir31_b⟩
theorem ir31_eq : cFunc Try.prog 31 = some ir31 := by kernel_rfl
theorem call31 {args : List Value} {m : Mem} {Φ : Value → Mem → Prop} (h : args.length ≤ 73) : WPCall Try.prog 31 args m Φ = WP Try.prog ir31_b (initσ args) m (retK [.tmp 0] Φ) := wpCall_def ir31_eq h
/-- drydock/drydockref13.Valid -/
def ir32_l0 : ICode :=
  .seq (
  .seq (
  .region [
    ⟨0, some 7, none, .mov (.tmp 3), []⟩,
    ⟨1, some 8, none, .faddr 3 (.tmp 1), []⟩,
    ⟨2, some 9, none, .load false 1 (.tmp 8), []⟩,
    ⟨3, some 10, none, .lenV (.tmp 9), []⟩,
    ⟨4, some 11, none, .bin .lss .other (.tmp 7) (.tmp 10), []⟩]) (
  .cond (.tmp 11) (
   .skip) (
   .exit 0))) (
  .seq (
  .block 1 (
  .seq (
  .region [
    ⟨0, some 14, none, .faddr 3 (.tmp 1), []⟩,
    ⟨1, some 15, none, .load false 1 (.tmp 14), []⟩,
    ⟨2, some 16, none, .mov (.tmp 3), []⟩,
    ⟨3, some 17, none, .iaddr 4 (.tmp 15) (.tmp 16), []⟩,
    ⟨4, some 18, none, .faddr 2 (.tmp 17), []⟩,
    ⟨5, some 19, none, .load false 1 (.tmp 18), []⟩,
    ⟨6, some 20, none, .bin .gtr .other (.tmp 19) (.const (.int .i64 1000000)), []⟩,
    ⟨7, some 21, none, .mov (.tmp 20), []⟩,
    ⟨8, some 22, some (21, false), .faddr 3 (.tmp 1), []⟩,
    ⟨9, some 23, some (21, false), .load false 1 (.tmp 22), []⟩,
    ⟨10, some 24, some (21, false), .mov (.tmp 3), []⟩,
    ⟨11, some 25, some (21, false), .iaddr 4 (.tmp 23) (.tmp 24), []⟩,
    ⟨12, some 26, some (21, false), .faddr 3 (.tmp 25), []⟩,
    ⟨13, some 27, some (21, false), .load false 1 (.tmp 26), []⟩,
    ⟨14, some 28, some (21, false), .bin .lss .other (.tmp 27) (.const (.int .i64 0)), []⟩,
    ⟨15, some 29, none, .pick (.tmp 21) (.const (.bool true)) (.tmp 28), []⟩,
    ⟨16, some 30, none, .mov (.tmp 29), []⟩,
    ⟨17, some 31, some (30, false), .faddr 3 (.tmp 1), []⟩,
    ⟨18, some 32, some (30, false), .load false 1 (.tmp 31), []⟩,
    ⟨19, some 33, some (30, false), .mov (.tmp 3), []⟩,
    ⟨20, some 34, some (30, false), .iaddr 4 (.tmp 32) (.tmp 33), []⟩,
    ⟨21, some 35, some (30, false), .faddr 3 (.tmp 34), []⟩,
    ⟨22, some 36, some (30, false), .load false 1 (.tmp 35), []⟩,
    ⟨23, some 37, some (30, false), .bin .gtr .other (.tmp 36) (.const (.int .i64 1000)), []⟩,
    ⟨24, some 38, none, .pick (.tmp 30) (.const (.bool true)) (.tmp 37), []⟩]) (
  .cond (.tmp 38) (
   .seq (
   .region [
     ⟨0, some 2, none, .mov (.const (.bool false)), []⟩]) (
   .ret)) (
   .skip)))) (
  .region [
    ⟨0, some 12, none, .mov (.tmp 3), []⟩,
    ⟨1, some 13, none, .bin .add .other (.tmp 12) (.const (.int .i64 1)), []⟩,
    ⟨2, some 3, none, .mov (.tmp 13), []⟩]))
def ir32_b : ICode :=
  .seq (
  .region [
    ⟨0, some 1, none, .box (.tmp 0), []⟩,
    ⟨1, some 2, none, .mov (.const (.bool false)), []⟩]) (
  .seq (
  .seq (
  .region [
    ⟨0, some 4, none, .load true 4 (.tmp 1), []⟩,
    ⟨1, some 5, none, .call 22 [.tmp 4], []⟩,
    ⟨2, some 6, none, .un .not (.tmp 5), []⟩]) (
  .cond (.tmp 6) (
   .seq (
   .region [
     ⟨0, some 2, none, .mov (.const (.bool false)), []⟩]) (
   .ret)) (
   .skip))) (
  .seq (
  .seq (
  .region [
    ⟨0, some 3, none, .mov (.const (.int .i64 0)), []⟩]) (
  .block 0 (
  .loop ir32_l0))) (
  .seq (
  .region [
    ⟨0, some 2, none, .mov (.const (.bool true)), []⟩]) (
  .ret))))
def ir32 : IFunc := ⟨39, [.tmp 2], ir32_b⟩
theorem ir32_eq : cFunc Try.prog 32 = some ir32 := by kernel_rfl
theorem call32 {args : List Value} {m : Mem} {Φ : Value → Mem → Prop} (h : args.length ≤ 39) : WPCall Try.prog 32 args m Φ = WP Try.prog ir32_b (initσ args) m (retK [.tmp 2] Φ) := wpCall_def ir32_eq h
/-- drydock/mincost.Solve -/
def ir33_l0 : ICode :=
  .seq (
  .region [
    ⟨0, some 56, none, .bin .lss .other (.tmp 55) (.tmp 54), []⟩]) (
  .seq (
  .cond (.tmp 56) (
   .skip) (
   .exit 0)) (
  .seq (
  .block 1 (
  .seq (
  .region [
    ⟨0, some 57, none, .mov (.tmp 55), []⟩,
    ⟨1, some 58, none, .iaddr 4 (.tmp 53) (.tmp 55), []⟩,
    ⟨2, some 59, none, .load true 4 (.tmp 58), []⟩,
    ⟨3, some 15, none, .alloc [.int .i64 0, .int .i64 0, .int .i64 0, .int .i64 0], []⟩,
    ⟨4, some 14, none, .mov (.tmp 57), []⟩,
    ⟨5, none, none, .store 4 (.tmp 15) (.tmp 59), []⟩]) (
  .seq (
  .region [
    ⟨0, some 60, none, .mov (.tmp 13), []⟩,
    ⟨1, some 61, none, .faddr 0 (.tmp 15), []⟩,
    ⟨2, some 62, none, .load false 1 (.tmp 61), []⟩,
    ⟨3, some 63, none, .mov (.tmp 13), []⟩,
    ⟨4, some 64, none, .faddr 0 (.tmp 15), []⟩,
    ⟨5, some 65, none, .load false 1 (.tmp 64), []⟩,
    ⟨6, some 66, none, .iaddr 1 (.tmp 63) (.tmp 65), []⟩,
    ⟨7, some 67, none, .load false 1 (.tmp 66), []⟩,
    ⟨8, some 68, none, .mov (.tmp 14), []⟩,
    ⟨9, some 69, none, .bslice 1 1 [.int .i64 0] [(0, 1, .tmp 68)], []⟩,
    ⟨10, some 70, none, .app 1 8 (.tmp 67) (.tmp 69), [(.tmp 61, .tmp 67)]⟩,
    ⟨11, some 71, none, .iaddr 1 (.tmp 60) (.tmp 62), []⟩,
    ⟨12, none, none, .store 1 (.tmp 71) (.tmp 70), []⟩]) (
  .region [
    ⟨0, some 72, none, .mov (.tmp 13), []⟩,
    ⟨1, some 73, none, .faddr 1 (.tmp 15), []⟩,
    ⟨2, some 74, none, .load false 1 (.tmp 73), []⟩,
    ⟨3, some 75, none, .mov (.tmp 13), []⟩,
    ⟨4, some 76, none, .faddr 1 (.tmp 15), []⟩,
    ⟨5, some 77, none, .load false 1 (.tmp 76), []⟩,
    ⟨6, some 78, none, .iaddr 1 (.tmp 75) (.tmp 77), []⟩,
    ⟨7, some 79, none, .load false 1 (.tmp 78), []⟩,
    ⟨8, some 80, none, .mov (.tmp 14), []⟩,
    ⟨9, some 81, none, .bin .sub .other (.const (.int .i64 (-1))) (.tmp 80), []⟩,
    ⟨10, some 82, none, .bslice 1 1 [.int .i64 0] [(0, 1, .tmp 81)], []⟩,
    ⟨11, some 83, none, .app 1 8 (.tmp 79) (.tmp 82), [(.tmp 73, .tmp 79)]⟩,
    ⟨12, some 84, none, .iaddr 1 (.tmp 72) (.tmp 74), []⟩,
    ⟨13, none, none, .store 1 (.tmp 84) (.tmp 83), []⟩])))) (
  .region [
    ⟨0, some 85, none, .bin .add .other (.tmp 55) (.const (.int .i64 1)), []⟩,
    ⟨1, some 55, none, .mov (.tmp 85), []⟩])))
def ir33_l1 : ICode :=
  .seq (
  .region [
    ⟨0, some 97, none, .bin .lss .other (.tmp 96) (.tmp 95), []⟩]) (
  .seq (
  .cond (.tmp 97) (
   .skip) (
   .exit 4)) (
  .seq (
  .block 5 (
  .seq (
  .region [
    ⟨0, some 98, none, .mov (.tmp 96), []⟩,
    ⟨1, some 99, none, .iaddr 1 (.tmp 94) (.tmp 96), []⟩,
    ⟨2, some 100, none, .load false 1 (.tmp 99), []⟩,
    ⟨3, some 18, none, .mov (.tmp 98), []⟩,
    ⟨4, some 19, none, .mov (.tmp 100), []⟩]) (
  .region [
    ⟨0, some 101, none, .mov (.tmp 12), []⟩,
    ⟨1, some 102, none, .nilck (.tmp 101), []⟩,
    ⟨2, some 103, none, .faddr 5 (.tmp 102), []⟩,
    ⟨3, some 104, none, .load false 1 (.tmp 103), []⟩,
    ⟨4, some 105, none, .mov (.tmp 18), []⟩,
    ⟨5, some 106, none, .iaddr 1 (.tmp 104) (.tmp 105), []⟩,
    ⟨6, some 107, none, .load false 1 (.tmp 106), []⟩,
    ⟨7, some 108, none, .mov (.tmp 19), []⟩,
    ⟨8, some 109, none, .mov (.tmp 16), []⟩,
    ⟨9, some 110, none, .faddr 2 (.tmp 2), []⟩,
    ⟨10, some 111, none, .load false 1 (.tmp 110), []⟩,
    ⟨11, some 112, none, .iaddr 1 (.tmp 109) (.tmp 111), []⟩,
    ⟨12, some 113, none, .load false 1 (.tmp 112), []⟩,
    ⟨13, some 114, none, .minmax false (.tmp 108) [.tmp 113], []⟩,
    ⟨14, some 115, none, .bin .add .other (.tmp 107) (.tmp 114), []⟩,
    ⟨15, some 116, none, .iaddr 1 (.tmp 104) (.tmp 105), []⟩,
    ⟨16, none, none, .store 1 (.tmp 116) (.tmp 115), []⟩]))) (
  .region [
    ⟨0, some 117, none, .bin .add .other (.tmp 96) (.const (.int .i64 1)), []⟩,
    ⟨1, some 96, none, .mov (.tmp 117), []⟩])))
def ir33_l2 : ICode :=
  .seq (
  .seq (
  .region [
    ⟨0, some 86, none, .mov (.tmp 1), []⟩,
    ⟨1, some 87, none, .bin .gtr .other (.tmp 86) (.const (.int .i64 0)), []⟩]) (
  .cond (.tmp 87) (
   .skip) (
   .exit 2))) (
  .block 3 (
  .seq (
  .region [
    ⟨0, some 89, none, .mov (.tmp 12), []⟩,
    ⟨1, some 90, none, .mov (.tmp 13), []⟩,
    ⟨2, some 91, none, .call 47 [.tmp 89, .tmp 90], []⟩,
    ⟨3, some 88, none, .mov (.tmp 91), []⟩,
    ⟨4, some 92, none, .ext 0 (.tmp 88), []⟩,
    ⟨5, some 93, none, .ext 1 (.tmp 88), []⟩,
    ⟨6, some 16, none, .mov (.tmp 92), []⟩,
    ⟨7, some 17, none, .mov (.tmp 93), []⟩]) (
  .seq (
  .seq (
  .region [
    ⟨0, some 94, none, .mov (.tmp 16), []⟩,
    ⟨1, some 95, none, .lenV (.tmp 94), []⟩,
    ⟨2, some 96, none, .mov (.const (.int .i64 0)), []⟩]) (
  .block 4 (
  .loop ir33_l1))) (
  .region [
    ⟨0, some 118, none, .mov (.tmp 1), []⟩,
    ⟨1, some 119, none, .mov (.tmp 12), []⟩,
    ⟨2, some 120, none, .mov (.tmp 17), []⟩,
    ⟨3, some 121, none, .mov (.tmp 1), []⟩,
    ⟨4, some 122, none, .call 48 [.tmp 119, .tmp 120, .tmp 121], []⟩,
    ⟨5, some 123, none, .bin .sub .other (.tmp 118) (.tmp 122), []⟩,
    ⟨6, some 1, none, .mov (.tmp 123), []⟩]))))
def ir33_b : ICode :=
  .seq (
  .region [
    ⟨0, some 2, none, .box (.tmp 0), []⟩,
    ⟨1, some 4, none, .mov (.const (.slice none 0 0)), []⟩,
    ⟨2, some 5, none, .mov (.const (.int .i64 0)), []⟩,
    ⟨3, some 6, none, .mov (.const (.slice none 0 0)), []⟩,
    ⟨4, some 7, none, .mov (.const (.int .i64 0)), []⟩]) (
  .seq (
  .seq (
  .region [
    ⟨0, some 22, none, .load true 4 (.tmp 2), []⟩,
    ⟨1, some 23, none, .call 40 [.tmp 22], []⟩,
    ⟨2, some 24, none, .un .not (.tmp 23), []⟩,
    ⟨3, some 25, none, .mov (.tmp 24), []⟩,
    ⟨4, some 26, some (25, false), .mov (.tmp 1), []⟩,
    ⟨5, some 27, some (25, false), .bin .lss .other (.tmp 26) (.const (.int .i64 0)), []⟩,
    ⟨6, some 28, none, .pick (.tmp 25) (.const (.bool true)) (.tmp 27), []⟩]) (
  .cond (.tmp 28) (
   .seq (
   .region [
     ⟨0, some 4, none, .mov (.const (.slice none 0 0)), []⟩,
     ⟨1, some 5, none, .mov (.const (.int .i64 0)), []⟩,
     ⟨2, some 6, none, .mov (.const (.slice none 0 0)), []⟩,
     ⟨3, some 7, none, .mov (.const (.int .i64 1)), []⟩]) (
   .ret)) (
   .skip))) (
  .seq (
  .seq (
  .region [
    ⟨0, some 30, none, .load true 4 (.tmp 2), []⟩,
    ⟨1, some 31, none, .call 25 [.tmp 30], []⟩,
    ⟨2, some 29, none, .mov (.tmp 31), []⟩,
    ⟨3, some 32, none, .ext 0 (.tmp 29), []⟩,
    ⟨4, some 33, none, .ext 1 (.tmp 29), []⟩,
    ⟨5, some 34, none, .ext 2 (.tmp 29), []⟩,
    ⟨6, some 35, none, .ext 3 (.tmp 29), []⟩,
    ⟨7, some 8, none, .mov (.tmp 32), []⟩,
    ⟨8, some 9, none, .mov (.tmp 33), []⟩,
    ⟨9, some 10, none, .mov (.tmp 34), []⟩,
    ⟨10, some 11, none, .mov (.tmp 35), []⟩]) (
  .seq (
  .region [
    ⟨0, some 36, none, .mov (.tmp 1), []⟩,
    ⟨1, some 37, none, .mov (.tmp 9), []⟩,
    ⟨2, some 38, none, .bin .gtr .other (.tmp 36) (.tmp 37), []⟩]) (
  .cond (.tmp 38) (
   .seq (
   .region [
     ⟨0, some 4, none, .mov (.const (.slice none 0 0)), []⟩,
     ⟨1, some 5, none, .mov (.const (.int .i64 0)), []⟩,
     ⟨2, some 6, none, .mov (.const (.slice none 0 0)), []⟩,
     ⟨3, some 7, none, .mov (.const (.int .i64 12)), []⟩]) (
   .ret)) (
   .skip)))) (
  .seq (
  .region [
    ⟨0, some 39, none, .load true 4 (.tmp 2), []⟩,
    ⟨1, some 40, none, .faddr 3 (.tmp 2), []⟩,
    ⟨2, some 41, none, .load false 1 (.tmp 40), []⟩,
    ⟨3, some 42, none, .lenV (.tmp 41), []⟩,
    ⟨5, some 44, none, .faddr 0 (.tmp 2), []⟩,
    ⟨6, some 45, none, .load false 1 (.tmp 44), []⟩,
    ⟨4, some 43, none, .mkslice 1 8 [.int .i64 0] (.tmp 42) (.tmp 42), []⟩,
    ⟨7, some 46, none, .mkslice 1 8 [.int .i64 0] (.tmp 45) (.tmp 45), []⟩,
    ⟨8, some 47, none, .build [.int .i64 0, .int .i64 0, .int .i64 0, .slice none 0 0, .slice none 0 0, .slice none 0 0] [(0, 4, .tmp 39), (4, 1, .tmp 43), (5, 1, .tmp 46)], []⟩,
    ⟨9, some 48, none, .box (.tmp 47), []⟩,
    ⟨10, some 12, none, .mov (.tmp 48), []⟩]) (
  .seq (
  .region [
    ⟨0, some 49, none, .faddr 0 (.tmp 2), []⟩,
    ⟨1, some 50, none, .load false 1 (.tmp 49), []⟩,
    ⟨2, some 51, none, .mkslice 1 24 [.slice none 0 0] (.tmp 50) (.tmp 50), []⟩,
    ⟨3, some 13, none, .mov (.tmp 51), []⟩]) (
  .seq (
  .seq (
  .region [
    ⟨0, some 52, none, .faddr 3 (.tmp 2), []⟩,
    ⟨1, some 53, none, .load false 1 (.tmp 52), []⟩,
    ⟨2, some 54, none, .lenV (.tmp 53), []⟩,
    ⟨3, some 55, none, .mov (.const (.int .i64 0)), []⟩]) (
  .block 0 (
  .loop ir33_l0))) (
  .seq (
  .block 2 (
  .loop ir33_l2)) (
  .seq (
  .region [
    ⟨0, some 125, none, .load true 4 (.tmp 2), []⟩,
    ⟨1, some 126, none, .mov (.tmp 12), []⟩,
    ⟨2, some 127, none, .nilck (.tmp 126), []⟩,
    ⟨3, some 128, none, .faddr 4 (.tmp 127), []⟩,
    ⟨4, some 129, none, .load false 1 (.tmp 128), []⟩,
    ⟨5, some 130, none, .call 38 [.tmp 125, .tmp 129], []⟩,
    ⟨6, some 124, none, .mov (.tmp 130), []⟩,
    ⟨7, some 131, none, .ext 0 (.tmp 124), []⟩,
    ⟨8, some 132, none, .ext 1 (.tmp 124), []⟩,
    ⟨9, some 20, none, .mov (.tmp 131), []⟩,
    ⟨10, some 21, none, .mov (.tmp 132), []⟩]) (
  .seq (
  .region [
    ⟨0, some 133, none, .mov (.tmp 12), []⟩,
    ⟨1, some 134, none, .nilck (.tmp 133), []⟩,
    ⟨2, some 135, none, .faddr 4 (.tmp 134), []⟩,
    ⟨3, some 136, none, .load false 1 (.tmp 135), []⟩,
    ⟨4, some 137, none, .mov (.tmp 20), []⟩,
    ⟨5, some 138, none, .mov (.tmp 12), []⟩,
    ⟨6, some 139, none, .nilck (.tmp 138), []⟩,
    ⟨7, some 140, none, .faddr 5 (.tmp 139), []⟩,
    ⟨8, some 141, none, .load false 1 (.tmp 140), []⟩,
    ⟨9, some 4, none, .mov (.tmp 136), []⟩,
    ⟨10, some 5, none, .mov (.tmp 137), []⟩,
    ⟨11, some 6, none, .mov (.tmp 141), []⟩,
    ⟨12, some 7, none, .mov (.const (.int .i64 0)), []⟩]) (
  .ret)))))))))
def ir33 : IFunc := ⟨142, [.tmp 4, .tmp 5, .tmp 6, .tmp 7], ir33_b⟩
theorem ir33_eq : cFunc Try.prog 33 = some ir33 := by kernel_rfl
theorem call33 {args : List Value} {m : Mem} {Φ : Value → Mem → Prop} (h : args.length ≤ 142) : WPCall Try.prog 33 args m Φ = WP Try.prog ir33_b (initσ args) m (retK [.tmp 4, .tmp 5, .tmp 6, .tmp 7] Φ) := wpCall_def ir33_eq h
/-- drydock/drydocklaw13.most -/
def ir34_b : ICode :=
  .seq (
  .region [
    ⟨0, some 1, none, .box (.tmp 0), []⟩,
    ⟨1, some 2, none, .mov (.const (.int .i64 0)), []⟩]) (
  .seq (
  .region [
    ⟨0, some 8, none, .load true 4 (.tmp 1), []⟩,
    ⟨1, some 9, none, .call 29 [.tmp 8], []⟩,
    ⟨2, some 7, none, .mov (.tmp 9), []⟩,
    ⟨3, some 10, none, .ext 0 (.tmp 7), []⟩,
    ⟨4, some 11, none, .ext 1 (.tmp 7), []⟩,
    ⟨5, some 12, none, .ext 2 (.tmp 7), []⟩,
    ⟨6, some 13, none, .ext 3 (.tmp 7), []⟩,
    ⟨7, some 3, none, .mov (.tmp 10), []⟩,
    ⟨8, some 4, none, .mov (.tmp 11), []⟩,
    ⟨9, some 5, none, .mov (.tmp 12), []⟩,
    ⟨10, some 6, none, .mov (.tmp 13), []⟩]) (
  .seq (
  .region [
    ⟨0, some 14, none, .mov (.tmp 4), []⟩,
    ⟨1, some 2, none, .mov (.tmp 14), []⟩]) (
  .ret)))
def ir34 : IFunc := ⟨15, [.tmp 2], ir34_b⟩
theorem ir34_eq : cFunc Try.prog 34 = some ir34 := by kernel_rfl
theorem call34 {args : List Value} {m : Mem} {Φ : Value → Mem → Prop} (h : args.length ≤ 15) : WPCall Try.prog 34 args m Φ = WP Try.prog ir34_b (initσ args) m (retK [.tmp 2] Φ) := wpCall_def ir34_eq h
/-- drydock/drydocklaw13.solved -/
def ir35_b : ICode :=
  .seq (
  .region [
    ⟨0, some 2, none, .box (.tmp 0), []⟩,
    ⟨1, some 4, none, .mov (.const (.int .i64 0)), []⟩,
    ⟨2, some 5, none, .mov (.const (.bool false)), []⟩]) (
  .seq (
  .region [
    ⟨0, some 13, none, .load true 4 (.tmp 2), []⟩,
    ⟨1, some 14, none, .mov (.tmp 1), []⟩,
    ⟨2, some 15, none, .call 33 [.tmp 13, .tmp 14], []⟩,
    ⟨3, some 12, none, .mov (.tmp 15), []⟩,
    ⟨4, some 16, none, .ext 0 (.tmp 12), []⟩,
    ⟨5, some 17, none, .ext 1 (.tmp 12), []⟩,
    ⟨6, some 18, none, .ext 2 (.tmp 12), []⟩,
    ⟨7, some 19, none, .ext 3 (.tmp 12), []⟩,
    ⟨8, some 6, none, .mov (.tmp 16), []⟩,
    ⟨9, some 7, none, .mov (.tmp 17), []⟩,
    ⟨10, some 8, none, .mov (.tmp 18), []⟩,
    ⟨11, some 9, none, .mov (.tmp 19), []⟩]) (
  .seq (
  .region [
    ⟨0, some 21, none, .load true 4 (.tmp 2), []⟩,
    ⟨1, some 22, none, .mov (.tmp 6), []⟩,
    ⟨2, some 23, none, .call 39 [.tmp 21, .tmp 22], []⟩,
    ⟨3, some 20, none, .mov (.tmp 23), []⟩,
    ⟨4, some 24, none, .ext 0 (.tmp 20), []⟩,
    ⟨5, some 25, none, .ext 1 (.tmp 20), []⟩,
    ⟨6, some 10, none, .mov (.tmp 24), []⟩,
    ⟨7, some 11, none, .mov (.tmp 25), []⟩]) (
  .seq (
  .region [
    ⟨0, some 26, none, .mov (.tmp 7), []⟩,
    ⟨1, some 27, none, .mov (.tmp 9), []⟩,
    ⟨2, some 28, none, .bin .eql .other (.tmp 27) (.const (.int .i64 0)), []⟩,
    ⟨3, some 29, none, .mov (.tmp 28), []⟩,
    ⟨4, some 30, some (29, true), .mov (.tmp 11), []⟩,
    ⟨5, some 31, none, .pick (.tmp 29) (.tmp 30) (.const (.bool false)), []⟩,
    ⟨6, some 32, none, .mov (.tmp 31), []⟩,
    ⟨7, some 33, some (32, true), .mov (.tmp 7), []⟩,
    ⟨8, some 34, some (32, true), .mov (.tmp 10), []⟩,
    ⟨9, some 35, some (32, true), .bin .eql .other (.tmp 33) (.tmp 34), []⟩,
    ⟨10, some 36, none, .pick (.tmp 32) (.tmp 35) (.const (.bool false)), []⟩,
    ⟨11, some 37, none, .mov (.tmp 36), []⟩,
    ⟨12, some 38, some (37, true), .load true 4 (.tmp 2), []⟩,
    ⟨13, some 39, some (37, true), .mov (.tmp 1), []⟩,
    ⟨14, some 40, some (37, true), .mov (.tmp 6), []⟩,
    ⟨15, some 41, some (37, true), .mov (.tmp 8), []⟩,
    ⟨16, some 42, some (37, true), .call 42 [.tmp 38, .tmp 39, .tmp 40, .tmp 41], []⟩,
    ⟨17, some 43, none, .pick (.tmp 37) (.tmp 42) (.const (.bool false)), []⟩,
    ⟨18, some 4, none, .mov (.tmp 26), []⟩,
    ⟨19, some 5, none, .mov (.tmp 43), []⟩]) (
  .ret))))
def ir35 : IFunc := ⟨44, [.tmp 4, .tmp 5], ir35_b⟩
theorem ir35_eq : cFunc Try.prog 35 = some ir35 := by kernel_rfl
theorem call35 {args : List Value} {m : Mem} {Φ : Value → Mem → Prop} (h : args.length ≤ 44) : WPCall Try.prog 35 args m Φ = WP Try.prog ir35_b (initσ args) m (retK [.tmp 4, .tmp 5] Φ) := wpCall_def ir35_eq h
/-- drydock/drydockref13.Solve -/
def ir36_l0 : ICode :=
  .seq (
  .seq (
  .region [
    ⟨0, some 48, none, .mov (.tmp 13), []⟩,
    ⟨1, some 49, none, .faddr 1 (.tmp 2), []⟩,
    ⟨2, some 50, none, .load false 1 (.tmp 49), []⟩,
    ⟨3, some 51, none, .bin .neq .other (.tmp 48) (.tmp 50), []⟩]) (
  .cond (.tmp 51) (
   .skip) (
   .exit 2))) (
  .block 3 (
  .seq (
  .region [
    ⟨0, some 52, none, .mov (.tmp 11), []⟩,
    ⟨1, some 53, none, .mov (.tmp 13), []⟩,
    ⟨2, some 54, none, .iaddr 1 (.tmp 52) (.tmp 53), []⟩,
    ⟨3, some 55, none, .load false 1 (.tmp 54), []⟩,
    ⟨4, some 14, none, .mov (.tmp 55), []⟩]) (
  .seq (
  .region [
    ⟨0, some 56, none, .mov (.tmp 14), []⟩,
    ⟨1, some 57, none, .faddr 3 (.tmp 2), []⟩,
    ⟨2, some 58, none, .load false 1 (.tmp 57), []⟩,
    ⟨3, some 59, none, .lenV (.tmp 58), []⟩,
    ⟨4, some 60, none, .bin .lss .other (.tmp 56) (.tmp 59), []⟩]) (
  .cond (.tmp 60) (
   .region [
     ⟨0, some 61, none, .mov (.tmp 12), []⟩,
     ⟨1, some 62, none, .faddr 3 (.tmp 2), []⟩,
     ⟨2, some 63, none, .load false 1 (.tmp 62), []⟩,
     ⟨3, some 64, none, .mov (.tmp 14), []⟩,
     ⟨4, some 65, none, .iaddr 4 (.tmp 63) (.tmp 64), []⟩,
     ⟨5, some 66, none, .faddr 2 (.tmp 65), []⟩,
     ⟨6, some 67, none, .load false 1 (.tmp 66), []⟩,
     ⟨7, some 68, none, .mov (.tmp 8), []⟩,
     ⟨8, some 69, none, .mov (.tmp 14), []⟩,
     ⟨9, some 70, none, .iaddr 1 (.tmp 68) (.tmp 69), []⟩,
     ⟨10, some 71, none, .load false 1 (.tmp 70), []⟩,
     ⟨11, some 72, none, .bin .sub .other (.tmp 67) (.tmp 71), []⟩,
     ⟨12, some 73, none, .minmax false (.tmp 61) [.tmp 72], []⟩,
     ⟨13, some 74, none, .faddr 3 (.tmp 2), []⟩,
     ⟨14, some 75, none, .load false 1 (.tmp 74), []⟩,
     ⟨15, some 76, none, .mov (.tmp 14), []⟩,
     ⟨16, some 77, none, .iaddr 4 (.tmp 75) (.tmp 76), []⟩,
     ⟨17, some 78, none, .faddr 0 (.tmp 77), []⟩,
     ⟨18, some 79, none, .load false 1 (.tmp 78), []⟩,
     ⟨19, some 12, none, .mov (.tmp 73), []⟩,
     ⟨20, some 13, none, .mov (.tmp 79), []⟩]) (
   .region [
     ⟨0, some 80, none, .mov (.tmp 12), []⟩,
     ⟨1, some 81, none, .mov (.tmp 8), []⟩,
     ⟨2, some 82, none, .mov (.tmp 14), []⟩,
     ⟨3, some 83, none, .faddr 3 (.tmp 2), []⟩,
     ⟨4, some 84, none, .load false 1 (.tmp 83), []⟩,
     ⟨5, some 85, none, .lenV (.tmp 84), []⟩,
     ⟨6, some 86, none, .bin .sub .other (.tmp 82) (.tmp 85), []⟩,
     ⟨7, some 87, none, .iaddr 1 (.tmp 81) (.tmp 86), []⟩,
     ⟨8, some 88, none, .load false 1 (.tmp 87), []⟩,
     ⟨9, some 89, none, .minmax false (.tmp 80) [.tmp 88], []⟩,
     ⟨10, some 90, none, .faddr 3 (.tmp 2), []⟩,
     ⟨11, some 91, none, .load false 1 (.tmp 90), []⟩,
     ⟨12, some 92, none, .mov (.tmp 14), []⟩,
     ⟨13, some 93, none, .faddr 3 (.tmp 2), []⟩,
     ⟨14, some 94, none, .load false 1 (.tmp 93), []⟩,
     ⟨15, some 95, none, .lenV (.tmp 94), []⟩,
     ⟨16, some 96, none, .bin .sub .other (.tmp 92) (.tmp 95), []⟩,
     ⟨17, some 97, none, .iaddr 4 (.tmp 91) (.tmp 96), []⟩,
     ⟨18, some 98, none, .faddr 1 (.tmp 97), []⟩,
     ⟨19, some 99, none, .load false 1 (.tmp 98), []⟩,
     ⟨20, some 12, none, .mov (.tmp 89), []⟩,
     ⟨21, some 13, none, .mov (.tmp 99), []⟩])))))
def ir36_l1 : ICode :=
  .seq (
  .seq (
  .region [
    ⟨0, some 102, none, .mov (.tmp 15), []⟩,
    ⟨1, some 103, none, .faddr 1 (.tmp 2), []⟩,
    ⟨2, some 104, none, .load false 1 (.tmp 103), []⟩,
    ⟨3, some 105, none, .bin .neq .other (.tmp 102) (.tmp 104), []⟩]) (
  .cond (.tmp 105) (
   .skip) (
   .exit 4))) (
  .block 5 (
  .seq (
  .region [
    ⟨0, some 106, none, .mov (.tmp 11), []⟩,
    ⟨1, some 107, none, .mov (.tmp 15), []⟩,
    ⟨2, some 108, none, .iaddr 1 (.tmp 106) (.tmp 107), []⟩,
    ⟨3, some 109, none, .load false 1 (.tmp 108), []⟩,
    ⟨4, some 16, none, .mov (.tmp 109), []⟩]) (
  .seq (
  .region [
    ⟨0, some 110, none, .mov (.tmp 16), []⟩,
    ⟨1, some 111, none, .faddr 3 (.tmp 2), []⟩,
    ⟨2, some 112, none, .load false 1 (.tmp 111), []⟩,
    ⟨3, some 113, none, .lenV (.tmp 112), []⟩,
    ⟨4, some 114, none, .bin .lss .other (.tmp 110) (.tmp 113), []⟩]) (
  .cond (.tmp 114) (
   .seq (
   .region [
     ⟨0, some 115, none, .mov (.tmp 8), []⟩,
     ⟨1, some 116, none, .mov (.tmp 16), []⟩,
     ⟨2, some 117, none, .mov (.tmp 8), []⟩,
     ⟨3, some 118, none, .mov (.tmp 16), []⟩,
     ⟨4, some 119, none, .iaddr 1 (.tmp 117) (.tmp 118), []⟩,
     ⟨5, some 120, none, .load false 1 (.tmp 119), []⟩,
     ⟨6, some 121, none, .mov (.tmp 12), []⟩,
     ⟨7, some 122, none, .bin .add .other (.tmp 120) (.tmp 121), []⟩,
     ⟨8, some 123, none, .iaddr 1 (.tmp 115) (.tmp 116), []⟩,
     ⟨9, none, none, .store 1 (.tmp 123) (.tmp 122), []⟩]) (
   .region [
     ⟨0, some 124, none, .faddr 3 (.tmp 2), []⟩,
     ⟨1, some 125, none, .load false 1 (.tmp 124), []⟩,
     ⟨2, some 126, none, .mov (.tmp 16), []⟩,
     ⟨3, some 127, none, .iaddr 4 (.tmp 125) (.tmp 126), []⟩,
     ⟨4, some 128, none, .faddr 0 (.tmp 127), []⟩,
     ⟨5, some 129, none, .load false 1 (.tmp 128), []⟩,
     ⟨6, some 15, none, .mov (.tmp 129), []⟩])) (
   .seq (
   .region [
     ⟨0, some 130, none, .mov (.tmp 8), []⟩,
     ⟨1, some 131, none, .mov (.tmp 16), []⟩,
     ⟨2, some 132, none, .faddr 3 (.tmp 2), []⟩,
     ⟨3, some 133, none, .load false 1 (.tmp 132), []⟩,
     ⟨4, some 134, none, .lenV (.tmp 133), []⟩,
     ⟨5, some 135, none, .bin .sub .other (.tmp 131) (.tmp 134), []⟩,
     ⟨6, some 136, none, .mov (.tmp 8), []⟩,
     ⟨7, some 137, none, .mov (.tmp 16), []⟩,
     ⟨8, some 138, none, .faddr 3 (.tmp 2), []⟩,
     ⟨9, some 139, none, .load false 1 (.tmp 138), []⟩,
     ⟨10, some 140, none, .lenV (.tmp 139), []⟩,
     ⟨11, some 141, none, .bin .sub .other (.tmp 137) (.tmp 140), []⟩,
     ⟨12, some 142, none, .iaddr 1 (.tmp 136) (.tmp 141), []⟩,
     ⟨13, some 143, none, .load false 1 (.tmp 142), []⟩,
     ⟨14, some 144, none, .mov (.tmp 12), []⟩,
     ⟨15, some 145, none, .bin .sub .other (.tmp 143) (.tmp 144), []⟩,
     ⟨16, some 146, none, .iaddr 1 (.tmp 130) (.tmp 135), []⟩,
     ⟨17, none, none, .store 1 (.tmp 146) (.tmp 145), []⟩]) (
   .region [
     ⟨0, some 147, none, .faddr 3 (.tmp 2), []⟩,
     ⟨1, some 148, none, .load false 1 (.tmp 147), []⟩,
     ⟨2, some 149, none, .mov (.tmp 16), []⟩,
     ⟨3, some 150, none, .faddr 3 (.tmp 2), []⟩,
     ⟨4, some 151, none, .load false 1 (.tmp 150), []⟩,
     ⟨5, some 152, none, .lenV (.tmp 151), []⟩,
     ⟨6, some 153, none, .bin .sub .other (.tmp 149) (.tmp 152), []⟩,
     ⟨7, some 154, none, .iaddr 4 (.tmp 148) (.tmp 153), []⟩,
     ⟨8, some 155, none, .faddr 1 (.tmp 154), []⟩,
     ⟨9, some 156, none, .load false 1 (.tmp 155), []⟩,
     ⟨10, some 15, none, .mov (.tmp 156), []⟩]))))))
def ir36_l2 : ICode :=
  .seq (
  .seq (
  .region [
    ⟨0, some 31, none, .mov (.tmp 9), []⟩,
    ⟨1, some 32, none, .bin .gtr .other (.tmp 31) (.const (.int .i64 0)), []⟩]) (
  .cond (.tmp 32) (
   .skip) (
   .exit 0))) (
  .block 1 (
  .seq (
  .region [
    ⟨0, some 34, none, .load true 4 (.tmp 2), []⟩,
    ⟨1, some 35, none, .mov (.tmp 8), []⟩,
    ⟨2, some 36, none, .call 49 [.tmp 34, .tmp 35], []⟩,
    ⟨3, some 33, none, .mov (.tmp 36), []⟩,
    ⟨4, some 37, none, .ext 0 (.tmp 33), []⟩,
    ⟨5, some 38, none, .ext 1 (.tmp 33), []⟩,
    ⟨6, some 10, none, .mov (.tmp 37), []⟩,
    ⟨7, some 11, none, .mov (.tmp 38), []⟩]) (
  .seq (
  .seq (
  .region [
    ⟨0, some 39, none, .mov (.tmp 10), []⟩,
    ⟨1, some 40, none, .faddr 2 (.tmp 2), []⟩,
    ⟨2, some 41, none, .load false 1 (.tmp 40), []⟩,
    ⟨3, some 42, none, .iaddr 1 (.tmp 39) (.tmp 41), []⟩,
    ⟨4, some 43, none, .load false 1 (.tmp 42), []⟩,
    ⟨5, some 44, none, .bin .eql .other (.tmp 43) (.const (.int .i64 1099511627776)), []⟩]) (
  .cond (.tmp 44) (
   .seq (
   .region [
     ⟨0, some 4, none, .mov (.const (.slice none 0 0)), []⟩,
     ⟨1, some 5, none, .mov (.const (.int .i64 0)), []⟩,
     ⟨2, some 6, none, .mov (.const (.slice none 0 0)), []⟩,
     ⟨3, some 7, none, .mov (.const (.int .i64 12)), []⟩]) (
   .ret)) (
   .skip))) (
  .seq (
  .region [
    ⟨0, some 45, none, .mov (.tmp 9), []⟩,
    ⟨1, some 12, none, .mov (.tmp 45), []⟩]) (
  .seq (
  .seq (
  .region [
    ⟨0, some 46, none, .faddr 2 (.tmp 2), []⟩,
    ⟨1, some 47, none, .load false 1 (.tmp 46), []⟩,
    ⟨2, some 13, none, .mov (.tmp 47), []⟩]) (
  .block 2 (
  .loop ir36_l0))) (
  .seq (
  .seq (
  .region [
    ⟨0, some 100, none, .faddr 2 (.tmp 2), []⟩,
    ⟨1, some 101, none, .load false 1 (.tmp 100), []⟩,
    ⟨2, some 15, none, .mov (.tmp 101), []⟩]) (
  .block 4 (
  .loop ir36_l1))) (
  .region [
    ⟨0, some 157, none, .mov (.tmp 9), []⟩,
    ⟨1, some 158, none, .mov (.tmp 12), []⟩,
    ⟨2, some 159, none, .bin .sub .other (.tmp 157) (.tmp 158), []⟩,
    ⟨3, some 9, none, .mov (.tmp 159), []⟩])))))))
def ir36_b : ICode :=
  .seq (
  .region [
    ⟨0, some 2, none, .box (.tmp 0), []⟩,
    ⟨1, some 4, none, .mov (.const (.slice none 0 0)), []⟩,
    ⟨2, some 5, none, .mov (.const (.int .i64 0)), []⟩,
    ⟨3, some 6, none, .mov (.const (.slice none 0 0)), []⟩,
    ⟨4, some 7, none, .mov (.const (.int .i64 0)), []⟩]) (
  .seq (
  .seq (
  .region [
    ⟨0, some 19, none, .load true 4 (.tmp 2), []⟩,
    ⟨1, some 20, none, .call 32 [.tmp 19], []⟩,
    ⟨2, some 21, none, .un .not (.tmp 20), []⟩,
    ⟨3, some 22, none, .mov (.tmp 21), []⟩,
    ⟨4, some 23, some (22, false), .mov (.tmp 1), []⟩,
    ⟨5, some 24, some (22, false), .bin .lss .other (.tmp 23) (.const (.int .i64 0)), []⟩,
    ⟨6, some 25, none, .pick (.tmp 22) (.const (.bool true)) (.tmp 24), []⟩]) (
  .cond (.tmp 25) (
   .seq (
   .region [
     ⟨0, some 4, none, .mov (.const (.slice none 0 0)), []⟩,
     ⟨1, some 5, none, .mov (.const (.int .i64 0)), []⟩,
     ⟨2, some 6, none, .mov (.const (.slice none 0 0)), []⟩,
     ⟨3, some 7, none, .mov (.const (.int .i64 1)), []⟩]) (
   .ret)) (
   .skip))) (
  .seq (
  .region [
    ⟨0, some 26, none, .faddr 3 (.tmp 2), []⟩,
    ⟨1, some 27, none, .load false 1 (.tmp 26), []⟩,
    ⟨2, some 28, none, .lenV (.tmp 27), []⟩,
    ⟨3, some 29, none, .mkslice 1 8 [.int .i64 0] (.tmp 28) (.tmp 28), []⟩,
    ⟨4, some 8, none, .mov (.tmp 29), []⟩]) (
  .seq (
  .seq (
  .region [
    ⟨0, some 30, none, .mov (.tmp 1), []⟩,
    ⟨1, some 9, none, .mov (.tmp 30), []⟩]) (
  .block 0 (
  .loop ir36_l2))) (
  .seq (
  .region [
    ⟨0, some 161, none, .load true 4 (.tmp 2), []⟩,
    ⟨1, some 162, none, .mov (.tmp 8), []⟩,
    ⟨2, some 163, none, .call 39 [.tmp 161, .tmp 162], []⟩,
    ⟨3, some 160, none, .mov (.tmp 163), []⟩,
    ⟨4, some 164, none, .ext 0 (.tmp 160), []⟩,
    ⟨5, some 165, none, .ext 1 (.tmp 160), []⟩,
    ⟨6, some 17, none, .mov (.tmp 164), []⟩,
    ⟨7, some 18, none, .mov (.tmp 165), []⟩]) (
  .seq (
  .region [
    ⟨0, some 166, none, .mov (.tmp 8), []⟩,
    ⟨1, some 167, none, .mov (.tmp 17), []⟩,
    ⟨2, some 168, none, .load true 4 (.tmp 2), []⟩,
    ⟨3, some 169, none, .mov (.tmp 8), []⟩,
    ⟨4, some 170, none, .call 50 [.tmp 168, .tmp 169], []⟩,
    ⟨5, some 4, none, .mov (.tmp 166), []⟩,
    ⟨6, some 5, none, .mov (.tmp 167), []⟩,
    ⟨7, some 6, none, .mov (.tmp 170), []⟩,
    ⟨8, some 7, none, .mov (.const (.int .i64 0)), []⟩]) (
  .ret))))))
def ir36 : IFunc := ⟨171, [.tmp 4, .tmp 5, .tmp 6, .tmp 7], ir36_b⟩
theorem ir36_eq : cFunc Try.prog 36 = some ir36 := by kernel_rfl
theorem call36 {args : List Value} {m : Mem} {Φ : Value → Mem → Prop} (h : args.length ≤ 171) : WPCall Try.prog 36 args m Φ = WP Try.prog ir36_b (initσ args) m (retK [.tmp 4, .tmp 5, .tmp 6, .tmp 7] Φ) := wpCall_def ir36_eq h
/-- drydock/mincost.Cost -/
def ir38_l0 : ICode :=
  .seq (
  .region [
    ⟨0, some 28, none, .bin .lss .other (.tmp 27) (.tmp 26), []⟩]) (
  .seq (
  .cond (.tmp 28) (
   .skip) (
   .exit 0)) (
  .seq (
  .block 1 (
  .seq (
  .region [
    ⟨0, some 29, none, .mov (.tmp 27), []⟩,
    ⟨1, some 30, none, .iaddr 4 (.tmp 25) (.tmp 27), []⟩,
    ⟨2, some 31, none, .load true 4 (.tmp 30), []⟩,
    ⟨3, some 10, none, .alloc [.int .i64 0, .int .i64 0, .int .i64 0, .int .i64 0], []⟩,
    ⟨4, some 9, none, .mov (.tmp 29), []⟩,
    ⟨5, none, none, .store 4 (.tmp 10) (.tmp 31), []⟩]) (
  .region [
    ⟨0, some 32, none, .mov (.tmp 8), []⟩,
    ⟨1, some 33, none, .mov (.tmp 1), []⟩,
    ⟨2, some 34, none, .mov (.tmp 9), []⟩,
    ⟨3, some 35, none, .iaddr 1 (.tmp 33) (.tmp 34), []⟩,
    ⟨4, some 36, none, .load false 1 (.tmp 35), []⟩,
    ⟨5, some 37, none, .faddr 3 (.tmp 10), []⟩,
    ⟨6, some 38, none, .load false 1 (.tmp 37), []⟩,
    ⟨7, some 39, none, .bin .mul .other (.tmp 36) (.tmp 38), []⟩,
    ⟨8, some 40, none, .bin .add .other (.tmp 32) (.tmp 39), []⟩,
    ⟨9, some 8, none, .mov (.tmp 40), []⟩]))) (
  .region [
    ⟨0, some 41, none, .bin .add .other (.tmp 27) (.const (.int .i64 1)), []⟩,
    ⟨1, some 27, none, .mov (.tmp 41), []⟩])))
def ir38_b : ICode :=
  .seq (
  .region [
    ⟨0, some 2, none, .box (.tmp 0), []⟩,
    ⟨1, some 4, none, .mov (.const (.int .i64 0)), []⟩,
    ⟨2, some 5, none, .mov (.const (.bool false)), []⟩]) (
  .seq (
  .seq (
  .region [
    ⟨0, some 12, none, .load true 4 (.tmp 2), []⟩,
    ⟨1, some 13, none, .mov (.tmp 1), []⟩,
    ⟨2, some 14, none, .call 17 [.tmp 12, .tmp 13], []⟩,
    ⟨3, some 11, none, .mov (.tmp 14), []⟩,
    ⟨4, some 15, none, .ext 0 (.tmp 11), []⟩,
    ⟨5, some 16, none, .ext 1 (.tmp 11), []⟩,
    ⟨6, some 6, none, .mov (.tmp 15), []⟩,
    ⟨7, some 7, none, .mov (.tmp 16), []⟩]) (
  .seq (
  .region [
    ⟨0, some 17, none, .mov (.tmp 7), []⟩,
    ⟨1, some 18, none, .un .not (.tmp 17), []⟩,
    ⟨2, some 19, none, .mov (.tmp 18), []⟩,
    ⟨3, some 20, some (19, false), .load true 4 (.tmp 2), []⟩,
    ⟨4, some 21, some (19, false), .call 40 [.tmp 20], []⟩,
    ⟨5, some 22, some (19, false), .un .not (.tmp 21), []⟩,
    ⟨6, some 23, none, .pick (.tmp 19) (.const (.bool true)) (.tmp 22), []⟩]) (
  .cond (.tmp 23) (
   .seq (
   .region [
     ⟨0, some 4, none, .mov (.const (.int .i64 0)), []⟩,
     ⟨1, some 5, none, .mov (.const (.bool false)), []⟩]) (
   .ret)) (
   .skip)))) (
  .seq (
  .region [
    ⟨0, some 8, none, .mov (.const (.int .i64 0)), []⟩]) (
  .seq (
  .seq (
  .region [
    ⟨0, some 24, none, .faddr 3 (.tmp 2), []⟩,
    ⟨1, some 25, none, .load false 1 (.tmp 24), []⟩,
    ⟨2, some 26, none, .lenV (.tmp 25), []⟩,
    ⟨3, some 27, none, .mov (.const (.int .i64 0)), []⟩]) (
  .block 0 (
  .loop ir38_l0))) (
  .seq (
  .region [
    ⟨0, some 42, none, .mov (.tmp 8), []⟩,
    ⟨1, some 4, none, .mov (.tmp 42), []⟩,
    ⟨2, some 5, none, .mov (.const (.bool true)), []⟩]) (
  .ret)))))
def ir38 : IFunc := ⟨43, [.tmp 4, .tmp 5], ir38_b⟩
theorem ir38_eq : cFunc Try.prog 38 = some ir38 := by kernel_rfl
theorem call38 {args : List Value} {m : Mem} {Φ : Value → Mem → Prop} (h : args.length ≤ 43) : WPCall Try.prog 38 args m Φ = WP Try.prog ir38_b (initσ args) m (retK [.tmp 4, .tmp 5] Φ) := wpCall_def ir38_eq h
/-- drydock/drydockref13.Cost -/
def ir39_l0 : ICode :=
  .seq (
  .seq (
  .region [
    ⟨0, some 21, none, .mov (.tmp 9), []⟩,
    ⟨1, some 22, none, .mov (.tmp 1), []⟩,
    ⟨2, some 23, none, .lenV (.tmp 22), []⟩,
    ⟨3, some 24, none, .bin .lss .other (.tmp 21) (.tmp 23), []⟩]) (
  .cond (.tmp 24) (
   .skip) (
   .exit 0))) (
  .seq (
  .block 1 (
  .region [
    ⟨0, some 27, none, .mov (.tmp 8), []⟩,
    ⟨1, some 28, none, .mov (.tmp 1), []⟩,
    ⟨2, some 29, none, .mov (.tmp 9), []⟩,
    ⟨3, some 30, none, .iaddr 1 (.tmp 28) (.tmp 29), []⟩,
    ⟨4, some 31, none, .load false 1 (.tmp 30), []⟩,
    ⟨5, some 32, none, .faddr 3 (.tmp 2), []⟩,
    ⟨6, some 33, none, .load false 1 (.tmp 32), []⟩,
    ⟨7, some 34, none, .mov (.tmp 9), []⟩,
    ⟨8, some 35, none, .iaddr 4 (.tmp 33) (.tmp 34), []⟩,
    ⟨9, some 36, none, .faddr 3 (.tmp 35), []⟩,
    ⟨10, some 37, none, .load false 1 (.tmp 36), []⟩,
    ⟨11, some 38, none, .bin .mul .other (.tmp 31) (.tmp 37), []⟩,
    ⟨12, some 39, none, .bin .add .other (.tmp 27) (.tmp 38), []⟩,
    ⟨13, some 8, none, .mov (.tmp 39), []⟩])) (
  .region [
    ⟨0, some 25, none, .mov (.tmp 9), []⟩,
    ⟨1, some 26, none, .bin .add .other (.tmp 25) (.const (.int .i64 1)), []⟩,
    ⟨2, some 9, none, .mov (.tmp 26), []⟩]))
def ir39_b : ICode :=
  .seq (
  .region [
    ⟨0, some 2, none, .box (.tmp 0), []⟩,
    ⟨1, some 4, none, .mov (.const (.int .i64 0)), []⟩,
    ⟨2, some 5, none, .mov (.const (.bool false)), []⟩]) (
  .seq (
  .seq (
  .region [
    ⟨0, some 10, none, .load true 4 (.tmp 2), []⟩,
    ⟨1, some 11, none, .call 32 [.tmp 10], []⟩,
    ⟨2, some 12, none, .un .not (.tmp 11), []⟩]) (
  .cond (.tmp 12) (
   .seq (
   .region [
     ⟨0, some 4, none, .mov (.const (.int .i64 0)), []⟩,
     ⟨1, some 5, none, .mov (.const (.bool false)), []⟩]) (
   .ret)) (
   .skip))) (
  .seq (
  .seq (
  .region [
    ⟨0, some 14, none, .load true 4 (.tmp 2), []⟩,
    ⟨1, some 15, none, .mov (.tmp 1), []⟩,
    ⟨2, some 16, none, .call 18 [.tmp 14, .tmp 15], []⟩,
    ⟨3, some 13, none, .mov (.tmp 16), []⟩,
    ⟨4, some 17, none, .ext 0 (.tmp 13), []⟩,
    ⟨5, some 18, none, .ext 1 (.tmp 13), []⟩,
    ⟨6, some 6, none, .mov (.tmp 17), []⟩,
    ⟨7, some 7, none, .mov (.tmp 18), []⟩]) (
  .seq (
  .region [
    ⟨0, some 19, none, .mov (.tmp 7), []⟩,
    ⟨1, some 20, none, .un .not (.tmp 19), []⟩]) (
  .cond (.tmp 20) (
   .seq (
   .region [
     ⟨0, some 4, none, .mov (.const (.int .i64 0)), []⟩,
     ⟨1, some 5, none, .mov (.const (.bool false)), []⟩]) (
   .ret)) (
   .skip)))) (
  .seq (
  .region [
    ⟨0, some 8, none, .mov (.const (.int .i64 0)), []⟩]) (
  .seq (
  .seq (
  .region [
    ⟨0, some 9, none, .mov (.const (.int .i64 0)), []⟩]) (
  .block 0 (
  .loop ir39_l0))) (
  .seq (
  .region [
    ⟨0, some 40, none, .mov (.tmp 8), []⟩,
    ⟨1, some 4, none, .mov (.tmp 40), []⟩,
    ⟨2, some 5, none, .mov (.const (.bool true)), []⟩]) (
  .ret))))))
def ir39 : IFunc := ⟨41, [.tmp 4, .tmp 5], ir39_b⟩
theorem ir39_eq : cFunc Try.prog 39 = some ir39 := by kernel_rfl
theorem call39 {args : List Value} {m : Mem} {Φ : Value → Mem → Prop} (h : args.length ≤ 41) : WPCall Try.prog 39 args m Φ = WP Try.prog ir39_b (initσ args) m (retK [.tmp 4, .tmp 5] Φ) := wpCall_def ir39_eq h
/-- drydock/mincost.Valid -/
def ir40_l0 : ICode :=
  .seq (
  .region [
    ⟨0, some 9, none, .bin .lss .other (.tmp 8) (.tmp 7), []⟩]) (
  .seq (
  .cond (.tmp 9) (
   .skip) (
   .exit 0)) (
  .seq (
  .block 1 (
  .seq (
  .region [
    ⟨0, some 10, none, .iaddr 4 (.tmp 6) (.tmp 8), []⟩,
    ⟨1, some 11, none, .load true 4 (.tmp 10), []⟩,
    ⟨2, some 4, none, .alloc [.int .i64 0, .int .i64 0, .int .i64 0, .int .i64 0], []⟩,
    ⟨3, none, none, .store 4 (.tmp 4) (.tmp 11), []⟩]) (
  .seq (
  .region [
    ⟨0, some 12, none, .faddr 3 (.tmp 4), []⟩,
    ⟨1, some 13, none, .load false 1 (.tmp 12), []⟩,
    ⟨2, some 14, none, .bin .lss .other (.tmp 13) (.const (.int .i64 0)), []⟩,
    ⟨3, some 15, none, .mov (.tmp 14), []⟩,
    ⟨4, some 16, some (15, false), .faddr 3 (.tmp 4), []⟩,
    ⟨5, some 17, some (15, false), .load false 1 (.tmp 16), []⟩,
    ⟨6, some 18, some (15, false), .bin .gtr .other (.tmp 17) (.const (.int .i64 1000)), []⟩,
    ⟨7, some 19, none, .pick (.tmp 15) (.const (.bool true)) (.tmp 18), []⟩,
    ⟨8, some 20, none, .mov (.tmp 19), []⟩,
    ⟨9, some 21, some (20, false), .faddr 2 (.tmp 4), []⟩,
    ⟨10, some 22, some (20, false), .load false 1 (.tmp 21), []⟩,
    ⟨11, some 23, some (20, false), .bin .gtr .other (.tmp 22) (.const (.int .i64 1000000)), []⟩,
    ⟨12, some 24, none, .pick (.tmp 20) (.const (.bool true)) (.tmp 23), []⟩]) (
  .cond (.tmp 24) (
   .seq (
   .region [
     ⟨0, some 2, none, .mov (.const (.bool false)), []⟩]) (
   .ret)) (
   .skip))))) (
  .region [
    ⟨0, some 25, none, .bin .add .other (.tmp 8) (.const (.int .i64 1)), []⟩,
    ⟨1, some 8, none, .mov (.tmp 25), []⟩])))
def ir40_b : ICode :=
  .seq (
  .region [
    ⟨0, some 1, none, .box (.tmp 0), []⟩,
    ⟨1, some 2, none, .mov (.const (.bool false)), []⟩]) (
  .seq (
  .seq (
  .region [
    ⟨0, some 5, none, .faddr 3 (.tmp 1), []⟩,
    ⟨1, some 6, none, .load false 1 (.tmp 5), []⟩,
    ⟨2, some 7, none, .lenV (.tmp 6), []⟩,
    ⟨3, some 8, none, .mov (.const (.int .i64 0)), []⟩]) (
  .block 0 (
  .loop ir40_l0))) (
  .seq (
  .region [
    ⟨0, some 26, none, .load true 4 (.tmp 1), []⟩,
    ⟨1, some 27, none, .call 21 [.tmp 26], []⟩,
    ⟨2, some 2, none, .mov (.tmp 27), []⟩]) (
  .ret)))
def ir40 : IFunc := ⟨28, [.tmp 2], ir40_b⟩
theorem ir40_eq : cFunc Try.prog 40 = some ir40 := by kernel_rfl
theorem call40 {args : List Value} {m : Mem} {Φ : Value → Mem → Prop} (h : args.length ≤ 28) : WPCall Try.prog 40 args m Φ = WP Try.prog ir40_b (initσ args) m (retK [.tmp 2] Φ) := wpCall_def ir40_eq h
/-- drydock/mincost.Check -/
def ir41_l0 : ICode :=
  .seq (
  .region [
    ⟨0, some 44, none, .bin .lss .other (.tmp 43) (.tmp 42), []⟩]) (
  .seq (
  .cond (.tmp 44) (
   .skip) (
   .exit 0)) (
  .seq (
  .block 1 (
  .seq (
  .region [
    ⟨0, some 45, none, .iaddr 1 (.tmp 41) (.tmp 43), []⟩,
    ⟨1, some 46, none, .load false 1 (.tmp 45), []⟩,
    ⟨2, some 12, none, .mov (.tmp 46), []⟩]) (
  .seq (
  .region [
    ⟨0, some 47, none, .mov (.tmp 12), []⟩,
    ⟨1, some 48, none, .bin .lss .other (.tmp 47) (.const (.int .i64 (-1000000000))), []⟩,
    ⟨2, some 49, none, .mov (.tmp 48), []⟩,
    ⟨3, some 50, some (49, false), .mov (.tmp 12), []⟩,
    ⟨4, some 51, some (49, false), .bin .gtr .other (.tmp 50) (.const (.int .i64 1000000000)), []⟩,
    ⟨5, some 52, none, .pick (.tmp 49) (.const (.bool true)) (.tmp 51), []⟩]) (
  .cond (.tmp 52) (
   .seq (
   .region [
     ⟨0, some 8, none, .mov (.const (.bool false)), []⟩]) (
   .ret)) (
   .skip))))) (
  .region [
    ⟨0, some 53, none, .bin .add .other (.tmp 43) (.const (.int .i64 1)), []⟩,
    ⟨1, some 43, none, .mov (.tmp 53), []⟩])))
def ir41_l1 : ICode :=
  .seq (
  .region [
    ⟨0, some 58, none, .bin .lss .other (.tmp 57) (.tmp 56), []⟩]) (
  .seq (
  .cond (.tmp 58) (
   .skip) (
   .exit 2)) (
  .seq (
  .block 3 (
  .seq (
  .region [
    ⟨0, some 59, none, .mov (.tmp 57), []⟩,
    ⟨1, some 60, none, .iaddr 4 (.tmp 55) (.tmp 57), []⟩,
    ⟨2, some 61, none, .load true 4 (.tmp 60), []⟩,
    ⟨3, some 14, none, .alloc [.int .i64 0, .int .i64 0, .int .i64 0, .int .i64 0], []⟩,
    ⟨4, some 13, none, .mov (.tmp 59), []⟩,
    ⟨5, none, none, .store 4 (.tmp 14) (.tmp 61), []⟩]) (
  .seq (
  .region [
    ⟨0, some 62, none, .faddr 3 (.tmp 14), []⟩,
    ⟨1, some 63, none, .load false 1 (.tmp 62), []⟩,
    ⟨2, some 64, none, .mov (.tmp 3), []⟩,
    ⟨3, some 65, none, .faddr 0 (.tmp 14), []⟩,
    ⟨4, some 66, none, .load false 1 (.tmp 65), []⟩,
    ⟨5, some 67, none, .iaddr 1 (.tmp 64) (.tmp 66), []⟩,
    ⟨6, some 68, none, .load false 1 (.tmp 67), []⟩,
    ⟨7, some 69, none, .bin .add .other (.tmp 63) (.tmp 68), []⟩,
    ⟨8, some 70, none, .mov (.tmp 3), []⟩,
    ⟨9, some 71, none, .faddr 1 (.tmp 14), []⟩,
    ⟨10, some 72, none, .load false 1 (.tmp 71), []⟩,
    ⟨11, some 73, none, .iaddr 1 (.tmp 70) (.tmp 72), []⟩,
    ⟨12, some 74, none, .load false 1 (.tmp 73), []⟩,
    ⟨13, some 75, none, .bin .sub .other (.tmp 69) (.tmp 74), []⟩,
    ⟨14, some 15, none, .mov (.tmp 75), []⟩]) (
  .seq (
  .region [
    ⟨0, some 76, none, .mov (.tmp 15), []⟩,
    ⟨1, some 77, none, .bin .lss .other (.tmp 76) (.const (.int .i64 0)), []⟩,
    ⟨2, some 78, none, .mov (.tmp 77), []⟩,
    ⟨3, some 79, some (78, true), .mov (.tmp 2), []⟩,
    ⟨4, some 80, some (78, true), .mov (.tmp 13), []⟩,
    ⟨5, some 81, some (78, true), .iaddr 1 (.tmp 79) (.tmp 80), []⟩,
    ⟨6, some 82, some (78, true), .load false 1 (.tmp 81), []⟩,
    ⟨7, some 83, some (78, true), .faddr 2 (.tmp 14), []⟩,
    ⟨8, some 84, some (78, true), .load false 1 (.tmp 83), []⟩,
    ⟨9, some 85, some (78, true), .bin .lss .other (.tmp 82) (.tmp 84), []⟩,
    ⟨10, some 86, none, .pick (.tmp 78) (.tmp 85) (.const (.bool false)), []⟩,
    ⟨11, some 87, none, .mov (.tmp 86), []⟩,
    ⟨12, some 88, some (87, false), .mov (.tmp 15), []⟩,
    ⟨13, some 89, some (87, false), .bin .gtr .other (.tmp 88) (.const (.int .i64 0)), []⟩,
    ⟨14, some 90, some (87, false), .mov (.tmp 89), []⟩,
    ⟨15, some 91, some (90, true), .mov (.tmp 2), []⟩,
    ⟨16, some 92, some (90, true), .mov (.tmp 13), []⟩,
    ⟨17, some 93, some (90, true), .iaddr 1 (.tmp 91) (.tmp 92), []⟩,
    ⟨18, some 94, some (90, true), .load false 1 (.tmp 93), []⟩,
    ⟨19, some 95, some (90, true), .bin .gtr .other (.tmp 94) (.const (.int .i64 0)), []⟩,
    ⟨20, some 96, some (87, false), .pick (.tmp 90) (.tmp 95) (.const (.bool false)), []⟩,
    ⟨21, some 97, none, .pick (.tmp 87) (.const (.bool true)) (.tmp 96), []⟩]) (
  .cond (.tmp 97) (
   .seq (
   .region [
     ⟨0, some 8, none, .mov (.const (.bool false)), []⟩]) (
   .ret)) (
   .skip)))))) (
  .region [
    ⟨0, some 98, none, .bin .add .other (.tmp 57) (.const (.int .i64 1)), []⟩,
    ⟨1, some 57, none, .mov (.tmp 98), []⟩])))
def ir41_b : ICode :=
  .seq (
  .region [
    ⟨0, some 4, none, .box (.tmp 0), []⟩,
    ⟨1, some 8, none, .mov (.const (.bool false)), []⟩]) (
  .seq (
  .region [
    ⟨0, some 17, none, .load true 4 (.tmp 4), []⟩,
    ⟨1, some 18, none, .mov (.tmp 2), []⟩,
    ⟨2, some 19, none, .call 17 [.tmp 17, .tmp 18], []⟩,
    ⟨3, some 16, none, .mov (.tmp 19), []⟩,
    ⟨4, some 20, none, .ext 0 (.tmp 16), []⟩,
    ⟨5, some 21, none, .ext 1 (.tmp 16), []⟩,
    ⟨6, some 9, none, .mov (.tmp 20), []⟩,
    ⟨7, some 10, none, .mov (.tmp 21), []⟩]) (
  .seq (
  .seq (
  .region [
    ⟨0, some 22, none, .mov (.tmp 10), []⟩,
    ⟨1, some 23, none, .un .not (.tmp 22), []⟩,
    ⟨2, some 24, none, .mov (.tmp 23), []⟩,
    ⟨3, some 25, some (24, false), .load true 4 (.tmp 4), []⟩,
    ⟨4, some 26, some (24, false), .call 40 [.tmp 25], []⟩,
    ⟨5, some 27, some (24, false), .un .not (.tmp 26), []⟩,
    ⟨6, some 28, none, .pick (.tmp 24) (.const (.bool true)) (.tmp 27), []⟩,
    ⟨7, some 29, none, .mov (.tmp 28), []⟩,
    ⟨8, some 30, some (29, false), .mov (.tmp 9), []⟩,
    ⟨9, some 31, some (29, false), .mov (.tmp 1), []⟩,
    ⟨10, some 32, some (29, false), .bin .neq .other (.tmp 30) (.tmp 31), []⟩,
    ⟨11, some 33, none, .pick (.tmp 29) (.const (.bool true)) (.tmp 32), []⟩,
    ⟨12, some 34, none, .mov (.tmp 33), []⟩,
    ⟨13, some 35, some (34, false), .mov (.tmp 3), []⟩,
    ⟨14, some 36, some (34, false), .lenV (.tmp 35), []⟩,
    ⟨15, some 37, some (34, false), .faddr 0 (.tmp 4), []⟩,
    ⟨16, some 38, some (34, false), .load false 1 (.tmp 37), []⟩,
    ⟨17, some 39, some (34, false), .bin .neq .other (.tmp 36) (.tmp 38), []⟩,
    ⟨18, some 40, none, .pick (.tmp 34) (.const (.bool true)) (.tmp 39), []⟩]) (
  .cond (.tmp 40) (
   .seq (
   .region [
     ⟨0, some 8, none, .mov (.const (.bool false)), []⟩]) (
   .ret)) (
   .skip))) (
  .seq (
  .seq (
  .region [
    ⟨0, some 41, none, .mov (.tmp 3), []⟩,
    ⟨1, some 42, none, .lenV (.tmp 41), []⟩,
    ⟨2, some 43, none, .mov (.const (.int .i64 0)), []⟩]) (
  .block 0 (
  .loop ir41_l0))) (
  .seq (
  .seq (
  .region [
    ⟨0, some 54, none, .faddr 3 (.tmp 4), []⟩,
    ⟨1, some 55, none, .load false 1 (.tmp 54), []⟩,
    ⟨2, some 56, none, .lenV (.tmp 55), []⟩,
    ⟨3, some 57, none, .mov (.const (.int .i64 0)), []⟩]) (
  .block 2 (
  .loop ir41_l1))) (
  .seq (
  .region [
    ⟨0, some 8, none, .mov (.const (.bool true)), []⟩]) (
  .ret))))))
def ir41 : IFunc := ⟨99, [.tmp 8], ir41_b⟩
theorem ir41_eq : cFunc Try.prog 41 = some ir41 := by kernel_rfl
theorem call41 {args : List Value} {m : Mem} {Φ : Value → Mem → Prop} (h : args.length ≤ 99) : WPCall Try.prog 41 args m Φ = WP Try.prog ir41_b (initσ args) m (retK [.tmp 8] Φ) := wpCall_def ir41_eq h
/-- drydock/drydockref13.Check -/
def ir42_l0 : ICode :=
  .seq (
  .seq (
  .region [
    ⟨0, some 38, none, .mov (.tmp 11), []⟩,
    ⟨1, some 39, none, .faddr 0 (.tmp 4), []⟩,
    ⟨2, some 40, none, .load false 1 (.tmp 39), []⟩,
    ⟨3, some 41, none, .bin .lss .other (.tmp 38) (.tmp 40), []⟩]) (
  .cond (.tmp 41) (
   .skip) (
   .exit 0))) (
  .seq (
  .block 1 (
  .seq (
  .region [
    ⟨0, some 44, none, .mov (.tmp 3), []⟩,
    ⟨1, some 45, none, .mov (.tmp 11), []⟩,
    ⟨2, some 46, none, .iaddr 1 (.tmp 44) (.tmp 45), []⟩,
    ⟨3, some 47, none, .load false 1 (.tmp 46), []⟩,
    ⟨4, some 48, none, .bin .lss .other (.tmp 47) (.const (.int .i64 (-1000000000))), []⟩,
    ⟨5, some 49, none, .mov (.tmp 48), []⟩,
    ⟨6, some 50, some (49, false), .mov (.tmp 3), []⟩,
    ⟨7, some 51, some (49, false), .mov (.tmp 11), []⟩,
    ⟨8, some 52, some (49, false), .iaddr 1 (.tmp 50) (.tmp 51), []⟩,
    ⟨9, some 53, some (49, false), .load false 1 (.tmp 52), []⟩,
    ⟨10, some 54, some (49, false), .bin .gtr .other (.tmp 53) (.const (.int .i64 1000000000)), []⟩,
    ⟨11, some 55, none, .pick (.tmp 49) (.const (.bool true)) (.tmp 54), []⟩]) (
  .cond (.tmp 55) (
   .seq (
   .region [
     ⟨0, some 8, none, .mov (.const (.bool false)), []⟩]) (
   .ret)) (
   .skip)))) (
  .region [
    ⟨0, some 42, none, .mov (.tmp 11), []⟩,
    ⟨1, some 43, none, .bin .add .other (.tmp 42) (.const (.int .i64 1)), []⟩,
    ⟨2, some 11, none, .mov (.tmp 43), []⟩]))
def ir42_l1 : ICode :=
  .seq (
  .seq (
  .region [
    ⟨0, some 56, none, .mov (.tmp 12), []⟩,
    ⟨1, some 57, none, .faddr 3 (.tmp 4), []⟩,
    ⟨2, some 58, none, .load false 1 (.tmp 57), []⟩,
    ⟨3, some 59, none, .lenV (.tmp 58), []⟩,
    ⟨4, some 60, none, .bin .lss .other (.tmp 56) (.tmp 59), []⟩]) (
  .cond (.tmp 60) (
   .skip) (
   .exit 2))) (
  .seq (
  .block 3 (
  .seq (
  .region [
    ⟨0, some 63, none, .faddr 3 (.tmp 4), []⟩,
    ⟨1, some 64, none, .load false 1 (.tmp 63), []⟩,
    ⟨2, some 65, none, .mov (.tmp 12), []⟩,
    ⟨3, some 66, none, .iaddr 4 (.tmp 64) (.tmp 65), []⟩,
    ⟨4, some 67, none, .load true 4 (.tmp 66), []⟩,
    ⟨5, some 13, none, .alloc [.int .i64 0, .int .i64 0, .int .i64 0, .int .i64 0], []⟩,
    ⟨6, none, none, .store 4 (.tmp 13) (.tmp 67), []⟩]) (
  .seq (
  .region [
    ⟨0, some 68, none, .faddr 3 (.tmp 13), []⟩,
    ⟨1, some 69, none, .load false 1 (.tmp 68), []⟩,
    ⟨2, some 70, none, .mov (.tmp 3), []⟩,
    ⟨3, some 71, none, .faddr 0 (.tmp 13), []⟩,
    ⟨4, some 72, none, .load false 1 (.tmp 71), []⟩,
    ⟨5, some 73, none, .iaddr 1 (.tmp 70) (.tmp 72), []⟩,
    ⟨6, some 74, none, .load false 1 (.tmp 73), []⟩,
    ⟨7, some 75, none, .bin .add .other (.tmp 69) (.tmp 74), []⟩,
    ⟨8, some 76, none, .mov (.tmp 3), []⟩,
    ⟨9, some 77, none, .faddr 1 (.tmp 13), []⟩,
    ⟨10, some 78, none, .load false 1 (.tmp 77), []⟩,
    ⟨11, some 79, none, .iaddr 1 (.tmp 76) (.tmp 78), []⟩,
    ⟨12, some 80, none, .load false 1 (.tmp 79), []⟩,
    ⟨13, some 81, none, .bin .sub .other (.tmp 75) (.tmp 80), []⟩,
    ⟨14, some 14, none, .mov (.tmp 81), []⟩]) (
  .seq (
  .region [
    ⟨0, some 82, none, .mov (.tmp 2), []⟩,
    ⟨1, some 83, none, .mov (.tmp 12), []⟩,
    ⟨2, some 84, none, .iaddr 1 (.tmp 82) (.tmp 83), []⟩,
    ⟨3, some 85, none, .load false 1 (.tmp 84), []⟩,
    ⟨4, some 86, none, .faddr 2 (.tmp 13), []⟩,
    ⟨5, some 87, none, .load false 1 (.tmp 86), []⟩,
    ⟨6, some 88, none, .bin .lss .other (.tmp 85) (.tmp 87), []⟩,
    ⟨7, some 89, none, .mov (.tmp 88), []⟩,
    ⟨8, some 90, some (89, true), .mov (.tmp 14), []⟩,
    ⟨9, some 91, some (89, true), .bin .lss .other (.tmp 90) (.const (.int .i64 0)), []⟩,
    ⟨10, some 92, none, .pick (.tmp 89) (.tmp 91) (.const (.bool false)), []⟩,
    ⟨11, some 93, none, .mov (.tmp 92), []⟩,
    ⟨12, some 94, some (93, false), .mov (.tmp 2), []⟩,
    ⟨13, some 95, some (93, false), .mov (.tmp 12), []⟩,
    ⟨14, some 96, some (93, false), .iaddr 1 (.tmp 94) (.tmp 95), []⟩,
    ⟨15, some 97, some (93, false), .load false 1 (.tmp 96), []⟩,
    ⟨16, some 98, some (93, false), .bin .gtr .other (.tmp 97) (.const (.int .i64 0)), []⟩,
    ⟨17, some 99, some (93, false), .mov (.tmp 98), []⟩,
    ⟨18, some 100, some (99, true), .mov (.tmp 14), []⟩,
    ⟨19, some 101, some (99, true), .bin .gtr .other (.tmp 100) (.const (.int .i64 0)), []⟩,
    ⟨20, some 102, some (93, false), .pick (.tmp 99) (.tmp 101) (.const (.bool false)), []⟩,
    ⟨21, some 103, none, .pick (.tmp 93) (.const (.bool true)) (.tmp 102), []⟩]) (
  .cond (.tmp 103) (
   .seq (
   .region [
     ⟨0, some 8, none, .mov (.const (.bool false)), []⟩]) (
   .ret)) (
   .skip)))))) (
  .region [
    ⟨0, some 61, none, .mov (.tmp 12), []⟩,
    ⟨1, some 62, none, .bin .add .other (.tmp 61) (.const (.int .i64 1)), []⟩,
    ⟨2, some 12, none, .mov (.tmp 62), []⟩]))
def ir42_b : ICode :=
  .seq (
  .region [
    ⟨0, some 4, none, .box (.tmp 0), []⟩,
    ⟨1, some 8, none, .mov (.const (.bool false)), []⟩]) (
  .seq (
  .seq (
  .region [
    ⟨0, some 15, none, .load true 4 (.tmp 4), []⟩,
    ⟨1, some 16, none, .call 32 [.tmp 15], []⟩,
    ⟨2, some 17, none, .un .not (.tmp 16), []⟩,
    ⟨3, some 18, none, .mov (.tmp 17), []⟩,
    ⟨4, some 19, some (18, false), .mov (.tmp 3), []⟩,
    ⟨5, some 20, some (18, false), .lenV (.tmp 19), []⟩,
    ⟨6, some 21, some (18, false), .faddr 0 (.tmp 4), []⟩,
    ⟨7, some 22, some (18, false), .load false 1 (.tmp 21), []⟩,
    ⟨8, some 23, some (18, false), .bin .neq .other (.tmp 20) (.tmp 22), []⟩,
    ⟨9, some 24, none, .pick (.tmp 18) (.const (.bool true)) (.tmp 23), []⟩]) (
  .cond (.tmp 24) (
   .seq (
   .region [
     ⟨0, some 8, none, .mov (.const (.bool false)), []⟩]) (
   .ret)) (
   .skip))) (
  .seq (
  .region [
    ⟨0, some 26, none, .load true 4 (.tmp 4), []⟩,
    ⟨1, some 27, none, .mov (.tmp 2), []⟩,
    ⟨2, some 28, none, .call 18 [.tmp 26, .tmp 27], []⟩,
    ⟨3, some 25, none, .mov (.tmp 28), []⟩,
    ⟨4, some 29, none, .ext 0 (.tmp 25), []⟩,
    ⟨5, some 30, none, .ext 1 (.tmp 25), []⟩,
    ⟨6, some 9, none, .mov (.tmp 29), []⟩,
    ⟨7, some 10, none, .mov (.tmp 30), []⟩]) (
  .seq (
  .seq (
  .region [
    ⟨0, some 31, none, .mov (.tmp 10), []⟩,
    ⟨1, some 32, none, .un .not (.tmp 31), []⟩,
    ⟨2, some 33, none, .mov (.tmp 32), []⟩,
    ⟨3, some 34, some (33, false), .mov (.tmp 9), []⟩,
    ⟨4, some 35, some (33, false), .mov (.tmp 1), []⟩,
    ⟨5, some 36, some (33, false), .bin .neq .other (.tmp 34) (.tmp 35), []⟩,
    ⟨6, some 37, none, .pick (.tmp 33) (.const (.bool true)) (.tmp 36), []⟩]) (
  .cond (.tmp 37) (
   .seq (
   .region [
     ⟨0, some 8, none, .mov (.const (.bool false)), []⟩]) (
   .ret)) (
   .skip))) (
  .seq (
  .seq (
  .region [
    ⟨0, some 11, none, .mov (.const (.int .i64 0)), []⟩]) (
  .block 0 (
  .loop ir42_l0))) (
  .seq (
  .seq (
  .region [
    ⟨0, some 12, none, .mov (.const (.int .i64 0)), []⟩]) (
  .block 2 (
  .loop ir42_l1))) (
  .seq (
  .region [
    ⟨0, some 8, none, .mov (.const (.bool true)), []⟩]) (
  .ret)))))))
def ir42 : IFunc := ⟨104, [.tmp 8], ir42_b⟩
theorem ir42_eq : cFunc Try.prog 42 = some ir42 := by kernel_rfl
theorem call42 {args : List Value} {m : Mem} {Φ : Value → Mem → Prop} (h : args.length ≤ 104) : WPCall Try.prog 42 args m Φ = WP Try.prog ir42_b (initσ args) m (retK [.tmp 8] Φ) := wpCall_def ir42_eq h
/-- (*drydock/mincost.search).distances -/
def ir47_l0 : ICode :=
  .seq (
  .region [
    ⟨0, some 33, none, .bin .lss .other (.tmp 32) (.tmp 31), []⟩]) (
  .seq (
  .cond (.tmp 33) (
   .skip) (
   .exit 0)) (
  .seq (
  .block 1 (
  .seq (
  .region [
    ⟨0, some 34, none, .mov (.tmp 32), []⟩,
    ⟨1, some 8, none, .mov (.tmp 34), []⟩]) (
  .region [
    ⟨0, some 35, none, .mov (.tmp 6), []⟩,
    ⟨1, some 36, none, .mov (.tmp 8), []⟩,
    ⟨2, some 37, none, .iaddr 1 (.tmp 35) (.tmp 36), []⟩,
    ⟨3, none, none, .store 1 (.tmp 37) (.const (.int .i64 1099511627776)), []⟩]))) (
  .region [
    ⟨0, some 38, none, .bin .add .other (.tmp 32) (.const (.int .i64 1)), []⟩,
    ⟨1, some 32, none, .mov (.tmp 38), []⟩])))
def ir47_l1 : ICode :=
  .seq (
  .region [
    ⟨0, some 78, none, .bin .lss .other (.tmp 77) (.tmp 76), []⟩]) (
  .seq (
  .cond (.tmp 78) (
   .skip) (
   .exit 4)) (
  .seq (
  .block 5 (
  .seq (
  .region [
    ⟨0, some 79, none, .iaddr 1 (.tmp 75) (.tmp 77), []⟩,
    ⟨1, some 80, none, .load false 1 (.tmp 79), []⟩,
    ⟨2, some 12, none, .mov (.tmp 80), []⟩]) (
  .seq (
  .region [
    ⟨0, some 82, none, .mov (.tmp 0), []⟩,
    ⟨1, some 83, none, .mov (.tmp 12), []⟩,
    ⟨2, some 84, none, .call 55 [.tmp 82, .tmp 83], []⟩,
    ⟨3, some 81, none, .mov (.tmp 84), []⟩,
    ⟨4, some 85, none, .ext 0 (.tmp 81), []⟩,
    ⟨5, some 86, none, .ext 1 (.tmp 81), []⟩,
    ⟨6, some 87, none, .ext 2 (.tmp 81), []⟩,
    ⟨7, some 88, none, .ext 3 (.tmp 81), []⟩,
    ⟨8, some 13, none, .mov (.tmp 85), []⟩,
    ⟨9, some 14, none, .mov (.tmp 86), []⟩,
    ⟨10, some 15, none, .mov (.tmp 87), []⟩,
    ⟨11, some 16, none, .mov (.tmp 88), []⟩]) (
  .seq (
  .region [
    ⟨0, some 89, none, .faddr 1 (.tmp 10), []⟩,
    ⟨1, some 90, none, .load false 1 (.tmp 89), []⟩,
    ⟨2, some 91, none, .mov (.tmp 16), []⟩,
    ⟨3, some 92, none, .bin .add .other (.tmp 90) (.tmp 91), []⟩,
    ⟨4, some 93, none, .mov (.tmp 0), []⟩,
    ⟨5, some 94, none, .nilck (.tmp 93), []⟩,
    ⟨6, some 95, none, .faddr 5 (.tmp 94), []⟩,
    ⟨7, some 96, none, .load false 1 (.tmp 95), []⟩,
    ⟨8, some 97, none, .faddr 0 (.tmp 10), []⟩,
    ⟨9, some 98, none, .load false 1 (.tmp 97), []⟩,
    ⟨10, some 99, none, .iaddr 1 (.tmp 96) (.tmp 98), []⟩,
    ⟨11, some 100, none, .load false 1 (.tmp 99), []⟩,
    ⟨12, some 101, none, .bin .add .other (.tmp 92) (.tmp 100), []⟩,
    ⟨13, some 102, none, .mov (.tmp 0), []⟩,
    ⟨14, some 103, none, .nilck (.tmp 102), []⟩,
    ⟨15, some 104, none, .faddr 5 (.tmp 103), []⟩,
    ⟨16, some 105, none, .load false 1 (.tmp 104), []⟩,
    ⟨17, some 106, none, .mov (.tmp 14), []⟩,
    ⟨18, some 107, none, .iaddr 1 (.tmp 105) (.tmp 106), []⟩,
    ⟨19, some 108, none, .load false 1 (.tmp 107), []⟩,
    ⟨20, some 109, none, .bin .sub .other (.tmp 101) (.tmp 108), []⟩,
    ⟨21, some 17, none, .mov (.tmp 109), []⟩]) (
  .seq (
  .region [
    ⟨0, some 110, none, .mov (.tmp 15), []⟩,
    ⟨1, some 111, none, .bin .gtr .other (.tmp 110) (.const (.int .i64 0)), []⟩,
    ⟨2, some 112, none, .mov (.tmp 111), []⟩,
    ⟨3, some 113, some (112, true), .mov (.tmp 17), []⟩,
    ⟨4, some 114, some (112, true), .mov (.tmp 6), []⟩,
    ⟨5, some 115, some (112, true), .mov (.tmp 14), []⟩,
    ⟨6, some 116, some (112, true), .iaddr 1 (.tmp 114) (.tmp 115), []⟩,
    ⟨7, some 117, some (112, true), .load false 1 (.tmp 116), []⟩,
    ⟨8, some 118, some (112, true), .bin .lss .other (.tmp 113) (.tmp 117), []⟩,
    ⟨9, some 119, none, .pick (.tmp 112) (.tmp 118) (.const (.bool false)), []⟩]) (
  .cond (.tmp 119) (
   .seq (
   .region [
     ⟨0, some 120, none, .mov (.tmp 6), []⟩,
     ⟨1, some 121, none, .mov (.tmp 14), []⟩,
     ⟨2, some 122, none, .mov (.tmp 7), []⟩,
     ⟨3, some 123, none, .mov (.tmp 14), []⟩,
     ⟨4, some 124, none, .mov (.tmp 17), []⟩,
     ⟨5, some 125, none, .mov (.tmp 12), []⟩,
     ⟨6, some 126, none, .iaddr 1 (.tmp 120) (.tmp 121), []⟩,
     ⟨7, none, none, .store 1 (.tmp 126) (.tmp 124), []⟩,
     ⟨8, some 127, none, .iaddr 1 (.tmp 122) (.tmp 123), []⟩,
     ⟨9, none, none, .store 1 (.tmp 127) (.tmp 125), []⟩]) (
   .region [
     ⟨0, some 128, none, .mov (.tmp 9), []⟩,
     ⟨1, some 129, none, .mkif 77 (.tmp 128), []⟩,
     ⟨2, some 130, none, .mov (.tmp 14), []⟩,
     ⟨3, some 131, none, .mov (.tmp 17), []⟩,
     ⟨4, some 132, none, .build [.int .i64 0, .int .i64 0] [(0, 1, .tmp 130), (1, 1, .tmp 131)], []⟩,
     ⟨5, some 133, none, .mkif 79 (.tmp 132), []⟩,
     ⟨6, some 134, none, .call 56 [.tmp 129, .tmp 133], []⟩])) (
   .skip))))))) (
  .region [
    ⟨0, some 135, none, .bin .add .other (.tmp 77) (.const (.int .i64 1)), []⟩,
    ⟨1, some 77, none, .mov (.tmp 135), []⟩])))
def ir47_l2 : ICode :=
  .seq (
  .seq (
  .region [
    ⟨0, some 54, none, .mov (.tmp 9), []⟩,
    ⟨1, some 55, none, .nilck (.tmp 54), []⟩,
    ⟨2, some 56, none, .load false 1 (.tmp 55), []⟩,
    ⟨3, some 57, none, .call 53 [.tmp 56], []⟩,
    ⟨4, some 58, none, .bin .gtr .other (.tmp 57) (.const (.int .i64 0)), []⟩]) (
  .cond (.tmp 58) (
   .skip) (
   .exit 2))) (
  .block 3 (
  .seq (
  .region [
    ⟨0, some 59, none, .mov (.tmp 9), []⟩,
    ⟨1, some 60, none, .mkif 77 (.tmp 59), []⟩,
    ⟨2, some 61, none, .call 54 [.tmp 60], []⟩,
    ⟨3, some 62, none, .tass 79 (.tmp 61), []⟩,
    ⟨4, some 10, none, .alloc [.int .i64 0, .int .i64 0], []⟩,
    ⟨5, none, none, .store 2 (.tmp 10) (.tmp 62), []⟩]) (
  .seq (
  .seq (
  .region [
    ⟨0, some 63, none, .faddr 1 (.tmp 10), []⟩,
    ⟨1, some 64, none, .load false 1 (.tmp 63), []⟩,
    ⟨2, some 65, none, .mov (.tmp 6), []⟩,
    ⟨3, some 66, none, .faddr 0 (.tmp 10), []⟩,
    ⟨4, some 67, none, .load false 1 (.tmp 66), []⟩,
    ⟨5, some 68, none, .iaddr 1 (.tmp 65) (.tmp 67), []⟩,
    ⟨6, some 69, none, .load false 1 (.tmp 68), []⟩,
    ⟨7, some 70, none, .bin .gtr .other (.tmp 64) (.tmp 69), []⟩]) (
  .cond (.tmp 70) (
   .exit 3) (
   .skip))) (
  .seq (
  .region [
    ⟨0, some 71, none, .mov (.tmp 1), []⟩,
    ⟨1, some 72, none, .faddr 0 (.tmp 10), []⟩,
    ⟨2, some 73, none, .load false 1 (.tmp 72), []⟩,
    ⟨3, some 74, none, .iaddr 1 (.tmp 71) (.tmp 73), []⟩,
    ⟨4, some 75, none, .load false 1 (.tmp 74), []⟩,
    ⟨5, some 76, none, .lenV (.tmp 75), []⟩,
    ⟨6, some 77, none, .mov (.const (.int .i64 0)), []⟩]) (
  .block 4 (
  .loop ir47_l1))))))
def ir47_b : ICode :=
  .seq (
  .region [
    ⟨0, some 4, none, .mov (.const (.slice none 0 0)), []⟩,
    ⟨1, some 5, none, .mov (.const (.slice none 0 0)), []⟩]) (
  .seq (
  .region [
    ⟨0, some 18, none, .mov (.tmp 0), []⟩,
    ⟨1, some 19, none, .nilck (.tmp 18), []⟩,
    ⟨2, some 20, none, .faddr 0 (.tmp 19), []⟩,
    ⟨3, some 21, none, .faddr 0 (.tmp 20), []⟩,
    ⟨4, some 22, none, .load false 1 (.tmp 21), []⟩,
    ⟨6, some 24, none, .mov (.tmp 0), []⟩,
    ⟨7, some 25, none, .nilck (.tmp 24), []⟩,
    ⟨8, some 26, none, .faddr 0 (.tmp 25), []⟩,
    ⟨9, some 27, none, .faddr 0 (.tmp 26), []⟩,
    ⟨10, some 28, none, .load false 1 (.tmp 27), []⟩,
    ⟨5, some 23, none, .mkslice 1 8 [.int .i64 0] (.tmp 22) (.tmp 22), []⟩,
    ⟨12, some 6, none, .mov (.tmp 23), []⟩,
    ⟨11, some 29, none, .mkslice 1 8 [.int .i64 0] (.tmp 28) (.tmp 28), []⟩,
    ⟨13, some 7, none, .mov (.tmp 29), []⟩]) (
  .seq (
  .seq (
  .region [
    ⟨0, some 30, none, .mov (.tmp 6), []⟩,
    ⟨1, some 31, none, .lenV (.tmp 30), []⟩,
    ⟨2, some 32, none, .mov (.const (.int .i64 0)), []⟩]) (
  .block 0 (
  .loop ir47_l0))) (
  .seq (
  .region [
    ⟨0, some 39, none, .mov (.tmp 6), []⟩,
    ⟨1, some 40, none, .mov (.tmp 0), []⟩,
    ⟨2, some 41, none, .nilck (.tmp 40), []⟩,
    ⟨3, some 42, none, .faddr 0 (.tmp 41), []⟩,
    ⟨4, some 43, none, .faddr 1 (.tmp 42), []⟩,
    ⟨5, some 44, none, .load false 1 (.tmp 43), []⟩,
    ⟨6, some 45, none, .iaddr 1 (.tmp 39) (.tmp 44), []⟩,
    ⟨7, none, none, .store 1 (.tmp 45) (.const (.int .i64 0)), []⟩]) (
  .seq (
  .region [
    ⟨0, some 46, none, .mov (.tmp 0), []⟩,
    ⟨1, some 47, none, .nilck (.tmp 46), []⟩,
    ⟨2, some 48, none, .faddr 0 (.tmp 47), []⟩,
    ⟨3, some 49, none, .faddr 1 (.tmp 48), []⟩,
    ⟨4, some 50, none, .load false 1 (.tmp 49), []⟩,
    ⟨5, some 51, none, .build [.int .i64 0, .int .i64 0] [(0, 1, .tmp 50), (1, 1, .const (.int .i64 0))], []⟩,
    ⟨6, some 52, none, .bslice 2 1 [.int .i64 0, .int .i64 0] [(0, 2, .tmp 51)], []⟩,
    ⟨7, some 53, none, .box (.tmp 52), []⟩,
    ⟨8, some 9, none, .mov (.tmp 53), []⟩]) (
  .seq (
  .block 2 (
  .loop ir47_l2)) (
  .seq (
  .region [
    ⟨0, some 136, none, .mov (.tmp 6), []⟩,
    ⟨1, some 137, none, .mov (.tmp 7), []⟩,
    ⟨2, some 4, none, .mov (.tmp 136), []⟩,
    ⟨3, some 5, none, .mov (.tmp 137), []⟩]) (
  .ret)))))))
def ir47 : IFunc := ⟨138, [.tmp 4, .tmp 5], ir47_b⟩
theorem ir47_eq : cFunc Try.prog 47 = some ir47 := by kernel_rfl
theorem call47 {args : List Value} {m : Mem} {Φ : Value → Mem → Prop} (h : args.length ≤ 138) : WPCall Try.prog 47 args m Φ = WP Try.prog ir47_b (initσ args) m (retK [.tmp 4, .tmp 5] Φ) := wpCall_def ir47_eq h
/-- (*drydock/mincost.search).augment -/
def ir48_l0 : ICode :=
  .seq (
  .seq (
  .region [
    ⟨0, some 19, none, .mov (.tmp 7), []⟩,
    ⟨1, some 20, none, .mov (.tmp 0), []⟩,
    ⟨2, some 21, none, .nilck (.tmp 20), []⟩,
    ⟨3, some 22, none, .faddr 0 (.tmp 21), []⟩,
    ⟨4, some 23, none, .faddr 1 (.tmp 22), []⟩,
    ⟨5, some 24, none, .load false 1 (.tmp 23), []⟩,
    ⟨6, some 25, none, .bin .neq .other (.tmp 19) (.tmp 24), []⟩]) (
  .cond (.tmp 25) (
   .skip) (
   .exit 0))) (
  .block 1 (
  .seq (
  .region [
    ⟨0, some 27, none, .mov (.tmp 0), []⟩,
    ⟨1, some 28, none, .mov (.tmp 1), []⟩,
    ⟨2, some 29, none, .mov (.tmp 7), []⟩,
    ⟨3, some 30, none, .iaddr 1 (.tmp 28) (.tmp 29), []⟩,
    ⟨4, some 31, none, .load false 1 (.tmp 30), []⟩,
    ⟨5, some 32, none, .call 55 [.tmp 27, .tmp 31], []⟩,
    ⟨6, some 26, none, .mov (.tmp 32), []⟩,
    ⟨7, some 33, none, .ext 0 (.tmp 26), []⟩,
    ⟨8, some 34, none, .ext 1 (.tmp 26), []⟩,
    ⟨9, some 35, none, .ext 2 (.tmp 26), []⟩,
    ⟨10, some 36, none, .ext 3 (.tmp 26), []⟩,
    ⟨11, some 8, none, .mov (.tmp 33), []⟩,
    ⟨12, some 9, none, .mov (.tmp 34), []⟩,
    ⟨13, some 10, none, .mov (.tmp 35), []⟩,
    ⟨14, some 11, none, .mov (.tmp 36), []⟩]) (
  .seq (
  .region [
    ⟨0, some 37, none, .mov (.tmp 2), []⟩,
    ⟨1, some 38, none, .mov (.tmp 10), []⟩,
    ⟨2, some 39, none, .minmax false (.tmp 37) [.tmp 38], []⟩,
    ⟨3, some 2, none, .mov (.tmp 39), []⟩]) (
  .region [
    ⟨0, some 40, none, .mov (.tmp 8), []⟩,
    ⟨1, some 7, none, .mov (.tmp 40), []⟩]))))
def ir48_l1 : ICode :=
  .seq (
  .seq (
  .region [
    ⟨0, some 46, none, .mov (.tmp 12), []⟩,
    ⟨1, some 47, none, .mov (.tmp 0), []⟩,
    ⟨2, some 48, none, .nilck (.tmp 47), []⟩,
    ⟨3, some 49, none, .faddr 0 (.tmp 48), []⟩,
    ⟨4, some 50, none, .faddr 1 (.tmp 49), []⟩,
    ⟨5, some 51, none, .load false 1 (.tmp 50), []⟩,
    ⟨6, some 52, none, .bin .neq .other (.tmp 46) (.tmp 51), []⟩]) (
  .cond (.tmp 52) (
   .skip) (
   .exit 2))) (
  .block 3 (
  .seq (
  .region [
    ⟨0, some 53, none, .mov (.tmp 1), []⟩,
    ⟨1, some 54, none, .mov (.tmp 12), []⟩,
    ⟨2, some 55, none, .iaddr 1 (.tmp 53) (.tmp 54), []⟩,
    ⟨3, some 56, none, .load false 1 (.tmp 55), []⟩,
    ⟨4, some 13, none, .mov (.tmp 56), []⟩]) (
  .seq (
  .region [
    ⟨0, some 58, none, .mov (.tmp 0), []⟩,
    ⟨1, some 59, none, .mov (.tmp 13), []⟩,
    ⟨2, some 60, none, .call 55 [.tmp 58, .tmp 59], []⟩,
    ⟨3, some 57, none, .mov (.tmp 60), []⟩,
    ⟨4, some 61, none, .ext 0 (.tmp 57), []⟩,
    ⟨5, some 62, none, .ext 1 (.tmp 57), []⟩,
    ⟨6, some 63, none, .ext 2 (.tmp 57), []⟩,
    ⟨7, some 64, none, .ext 3 (.tmp 57), []⟩,
    ⟨8, some 12, none, .mov (.tmp 61), []⟩]) (
  .seq (
  .region [
    ⟨0, some 65, none, .mov (.tmp 13), []⟩,
    ⟨1, some 66, none, .bin .geq .other (.tmp 65) (.const (.int .i64 0)), []⟩]) (
  .cond (.tmp 66) (
   .region [
     ⟨0, some 67, none, .mov (.tmp 0), []⟩,
     ⟨1, some 68, none, .nilck (.tmp 67), []⟩,
     ⟨2, some 69, none, .faddr 4 (.tmp 68), []⟩,
     ⟨3, some 70, none, .load false 1 (.tmp 69), []⟩,
     ⟨4, some 71, none, .mov (.tmp 13), []⟩,
     ⟨5, some 72, none, .iaddr 1 (.tmp 70) (.tmp 71), []⟩,
     ⟨6, some 73, none, .load false 1 (.tmp 72), []⟩,
     ⟨7, some 74, none, .mov (.tmp 2), []⟩,
     ⟨8, some 75, none, .bin .add .other (.tmp 73) (.tmp 74), []⟩,
     ⟨9, some 76, none, .iaddr 1 (.tmp 70) (.tmp 71), []⟩,
     ⟨10, none, none, .store 1 (.tmp 76) (.tmp 75), []⟩]) (
   .region [
     ⟨0, some 77, none, .mov (.tmp 0), []⟩,
     ⟨1, some 78, none, .nilck (.tmp 77), []⟩,
     ⟨2, some 79, none, .faddr 4 (.tmp 78), []⟩,
     ⟨3, some 80, none, .load false 1 (.tmp 79), []⟩,
     ⟨4, some 81, none, .mov (.tmp 13), []⟩,
     ⟨5, some 82, none, .bin .sub .other (.const (.int .i64 (-1))) (.tmp 81), []⟩,
     ⟨6, some 83, none, .iaddr 1 (.tmp 80) (.tmp 82), []⟩,
     ⟨7, some 84, none, .load false 1 (.tmp 83), []⟩,
     ⟨8, some 85, none, .mov (.tmp 2), []⟩,
     ⟨9, some 86, none, .bin .sub .other (.tmp 84) (.tmp 85), []⟩,
     ⟨10, some 87, none, .iaddr 1 (.tmp 80) (.tmp 82), []⟩,
     ⟨11, none, none, .store 1 (.tmp 87) (.tmp 86), []⟩]))))))
def ir48_b : ICode :=
  .seq (
  .region [
    ⟨0, some 6, none, .mov (.const (.int .i64 0)), []⟩]) (
  .seq (
  .seq (
  .region [
    ⟨0, some 14, none, .mov (.tmp 0), []⟩,
    ⟨1, some 15, none, .nilck (.tmp 14), []⟩,
    ⟨2, some 16, none, .faddr 0 (.tmp 15), []⟩,
    ⟨3, some 17, none, .faddr 2 (.tmp 16), []⟩,
    ⟨4, some 18, none, .load false 1 (.tmp 17), []⟩,
    ⟨5, some 7, none, .mov (.tmp 18), []⟩]) (
  .block 0 (
  .loop ir48_l0))) (
  .seq (
  .seq (
  .region [
    ⟨0, some 41, none, .mov (.tmp 0), []⟩,
    ⟨1, some 42, none, .nilck (.tmp 41), []⟩,
    ⟨2, some 43, none, .faddr 0 (.tmp 42), []⟩,
    ⟨3, some 44, none, .faddr 2 (.tmp 43), []⟩,
    ⟨4, some 45, none, .load false 1 (.tmp 44), []⟩,
    ⟨5, some 12, none, .mov (.tmp 45), []⟩]) (
  .block 2 (
  .loop ir48_l1))) (
  .seq (
  .region [
    ⟨0, some 88, none, .mov (.tmp 2), []⟩,
    ⟨1, some 6, none, .mov (.tmp 88), []⟩]) (
  .ret))))
def ir48 : IFunc := ⟨89, [.tmp 6], ir48_b⟩
theorem ir48_eq : cFunc Try.prog 48 = some ir48 := by kernel_rfl
theorem call48 {args : List Value} {m : Mem} {Φ : Value → Mem → Prop} (h : args.length ≤ 89) : WPCall Try.prog 48 args m Φ = WP Try.prog ir48_b (initσ args) m (retK [.tmp 6] Φ) := wpCall_def ir48_eq h
/-- drydock/drydockref13.distances -/
def ir49_l0 : ICode :=
  .seq (
  .seq (
  .region [
    ⟨0, some 18, none, .mov (.tmp 8), []⟩,
    ⟨1, some 19, none, .faddr 0 (.tmp 2), []⟩,
    ⟨2, some 20, none, .load false 1 (.tmp 19), []⟩,
    ⟨3, some 21, none, .bin .lss .other (.tmp 18) (.tmp 20), []⟩]) (
  .cond (.tmp 21) (
   .skip) (
   .exit 0))) (
  .seq (
  .block 1 (
  .region [
    ⟨0, some 24, none, .mov (.tmp 6), []⟩,
    ⟨1, some 25, none, .mov (.tmp 8), []⟩,
    ⟨2, some 26, none, .iaddr 1 (.tmp 24) (.tmp 25), []⟩,
    ⟨3, none, none, .store 1 (.tmp 26) (.const (.int .i64 1099511627776)), []⟩])) (
  .region [
    ⟨0, some 22, none, .mov (.tmp 8), []⟩,
    ⟨1, some 23, none, .bin .add .other (.tmp 22) (.const (.int .i64 1)), []⟩,
    ⟨2, some 8, none, .mov (.tmp 23), []⟩]))
def ir49_l1 : ICode :=
  .seq (
  .seq (
  .region [
    ⟨0, some 32, none, .mov (.tmp 10), []⟩,
    ⟨1, some 33, none, .faddr 3 (.tmp 2), []⟩,
    ⟨2, some 34, none, .load false 1 (.tmp 33), []⟩,
    ⟨3, some 35, none, .lenV (.tmp 34), []⟩,
    ⟨4, some 36, none, .bin .lss .other (.tmp 32) (.tmp 35), []⟩]) (
  .cond (.tmp 36) (
   .skip) (
   .exit 4))) (
  .seq (
  .block 5 (
  .seq (
  .region [
    ⟨0, some 39, none, .faddr 3 (.tmp 2), []⟩,
    ⟨1, some 40, none, .load false 1 (.tmp 39), []⟩,
    ⟨2, some 41, none, .mov (.tmp 10), []⟩,
    ⟨3, some 42, none, .iaddr 4 (.tmp 40) (.tmp 41), []⟩,
    ⟨4, some 43, none, .load true 4 (.tmp 42), []⟩,
    ⟨5, some 11, none, .alloc [.int .i64 0, .int .i64 0, .int .i64 0, .int .i64 0], []⟩,
    ⟨6, none, none, .store 4 (.tmp 11) (.tmp 43), []⟩]) (
  .seq (
  .seq (
  .region [
    ⟨0, some 44, none, .mov (.tmp 1), []⟩,
    ⟨1, some 45, none, .mov (.tmp 10), []⟩,
    ⟨2, some 46, none, .iaddr 1 (.tmp 44) (.tmp 45), []⟩,
    ⟨3, some 47, none, .load false 1 (.tmp 46), []⟩,
    ⟨4, some 48, none, .faddr 2 (.tmp 11), []⟩,
    ⟨5, some 49, none, .load false 1 (.tmp 48), []⟩,
    ⟨6, some 50, none, .bin .lss .other (.tmp 47) (.tmp 49), []⟩,
    ⟨7, some 51, none, .mov (.tmp 50), []⟩,
    ⟨8, some 52, some (51, true), .mov (.tmp 6), []⟩,
    ⟨9, some 53, some (51, true), .faddr 0 (.tmp 11), []⟩,
    ⟨10, some 54, some (51, true), .load false 1 (.tmp 53), []⟩,
    ⟨11, some 55, some (51, true), .iaddr 1 (.tmp 52) (.tmp 54), []⟩,
    ⟨12, some 56, some (51, true), .load false 1 (.tmp 55), []⟩,
    ⟨13, some 57, some (51, true), .bin .lss .other (.tmp 56) (.const (.int .i64 1099511627776)), []⟩,
    ⟨14, some 58, none, .pick (.tmp 51) (.tmp 57) (.const (.bool false)), []⟩,
    ⟨15, some 59, none, .mov (.tmp 58), []⟩,
    ⟨16, some 60, some (59, true), .mov (.tmp 6), []⟩,
    ⟨17, some 61, some (59, true), .faddr 0 (.tmp 11), []⟩,
    ⟨18, some 62, some (59, true), .load false 1 (.tmp 61), []⟩,
    ⟨19, some 63, some (59, true), .iaddr 1 (.tmp 60) (.tmp 62), []⟩,
    ⟨20, some 64, some (59, true), .load false 1 (.tmp 63), []⟩,
    ⟨21, some 65, some (59, true), .faddr 3 (.tmp 11), []⟩,
    ⟨22, some 66, some (59, true), .load false 1 (.tmp 65), []⟩,
    ⟨23, some 67, some (59, true), .bin .add .other (.tmp 64) (.tmp 66), []⟩,
    ⟨24, some 68, some (59, true), .mov (.tmp 6), []⟩,
    ⟨25, some 69, some (59, true), .faddr 1 (.tmp 11), []⟩,
    ⟨26, some 70, some (59, true), .load false 1 (.tmp 69), []⟩,
    ⟨27, some 71, some (59, true), .iaddr 1 (.tmp 68) (.tmp 70), []⟩,
    ⟨28, some 72, some (59, true), .load false 1 (.tmp 71), []⟩,
    ⟨29, some 73, some (59, true), .bin .lss .other (.tmp 67) (.tmp 72), []⟩,
    ⟨30, some 74, none, .pick (.tmp 59) (.tmp 73) (.const (.bool false)), []⟩]) (
  .cond (.tmp 74) (
   .region [
     ⟨0, some 75, none, .mov (.tmp 6), []⟩,
     ⟨1, some 76, none, .faddr 1 (.tmp 11), []⟩,
     ⟨2, some 77, none, .load false 1 (.tmp 76), []⟩,
     ⟨3, some 78, none, .mov (.tmp 7), []⟩,
     ⟨4, some 79, none, .faddr 1 (.tmp 11), []⟩,
     ⟨5, some 80, none, .load false 1 (.tmp 79), []⟩,
     ⟨6, some 81, none, .mov (.tmp 6), []⟩,
     ⟨7, some 82, none, .faddr 0 (.tmp 11), []⟩,
     ⟨8, some 83, none, .load false 1 (.tmp 82), []⟩,
     ⟨9, some 84, none, .iaddr 1 (.tmp 81) (.tmp 83), []⟩,
     ⟨10, some 85, none, .load false 1 (.tmp 84), []⟩,
     ⟨11, some 86, none, .faddr 3 (.tmp 11), []⟩,
     ⟨12, some 87, none, .load false 1 (.tmp 86), []⟩,
     ⟨13, some 88, none, .bin .add .other (.tmp 85) (.tmp 87), []⟩,
     ⟨14, some 89, none, .mov (.tmp 10), []⟩,
     ⟨15, some 90, none, .iaddr 1 (.tmp 75) (.tmp 77), []⟩,
     ⟨16, none, none, .store 1 (.tmp 90) (.tmp 88), [(.tmp 79, .tmp 90)]⟩,
     ⟨17, some 91, none, .iaddr 1 (.tmp 78) (.tmp 80), []⟩,
     ⟨18, none, none, .store 1 (.tmp 91) (.tmp 89), []⟩,
     ⟨19, some 9, none, .mov (.const (.bool true)), []⟩]) (
   .skip))) (
  .seq (
  .region [
    ⟨0, some 92, none, .mov (.tmp 1), []⟩,
    ⟨1, some 93, none, .mov (.tmp 10), []⟩,
    ⟨2, some 94, none, .iaddr 1 (.tmp 92) (.tmp 93), []⟩,
    ⟨3, some 95, none, .load false 1 (.tmp 94), []⟩,
    ⟨4, some 96, none, .bin .gtr .other (.tmp 95) (.const (.int .i64 0)), []⟩,
    ⟨5, some 97, none, .mov (.tmp 96), []⟩,
    ⟨6, some 98, some (97, true), .mov (.tmp 6), []⟩,
    ⟨7, some 99, some (97, true), .faddr 1 (.tmp 11), []⟩,
    ⟨8, some 100, some (97, true), .load false 1 (.tmp 99), []⟩,
    ⟨9, some 101, some (97, true), .iaddr 1 (.tmp 98) (.tmp 100), []⟩,
    ⟨10, some 102, some (97, true), .load false 1 (.tmp 101), []⟩,
    ⟨11, some 103, some (97, true), .bin .lss .other (.tmp 102) (.const (.int .i64 1099511627776)), []⟩,
    ⟨12, some 104, none, .pick (.tmp 97) (.tmp 103) (.const (.bool false)), []⟩,
    ⟨13, some 105, none, .mov (.tmp 104), []⟩,
    ⟨14, some 106, some (105, true), .mov (.tmp 6), []⟩,
    ⟨15, some 107, some (105, true), .faddr 1 (.tmp 11), []⟩,
    ⟨16, some 108, some (105, true), .load false 1 (.tmp 107), []⟩,
    ⟨17, some 109, some (105, true), .iaddr 1 (.tmp 106) (.tmp 108), []⟩,
    ⟨18, some 110, some (105, true), .load false 1 (.tmp 109), []⟩,
    ⟨19, some 111, some (105, true), .faddr 3 (.tmp 11), []⟩,
    ⟨20, some 112, some (105, true), .load false 1 (.tmp 111), []⟩,
    ⟨21, some 113, some (105, true), .bin .sub .other (.tmp 110) (.tmp 112), []⟩,
    ⟨22, some 114, some (105, true), .mov (.tmp 6), []⟩,
    ⟨23, some 115, some (105, true), .faddr 0 (.tmp 11), []⟩,
    ⟨24, some 116, some (105, true), .load false 1 (.tmp 115), []⟩,
    ⟨25, some 117, some (105, true), .iaddr 1 (.tmp 114) (.tmp 116), []⟩,
    ⟨26, some 118, some (105, true), .load false 1 (.tmp 117), []⟩,
    ⟨27, some 119, some (105, true), .bin .lss .other (.tmp 113) (.tmp 118), []⟩,
    ⟨28, some 120, none, .pick (.tmp 105) (.tmp 119) (.const (.bool false)), []⟩]) (
  .cond (.tmp 120) (
   .region [
     ⟨0, some 121, none, .mov (.tmp 6), []⟩,
     ⟨1, some 122, none, .faddr 0 (.tmp 11), []⟩,
     ⟨2, some 123, none, .load false 1 (.tmp 122), []⟩,
     ⟨3, some 124, none, .mov (.tmp 7), []⟩,
     ⟨4, some 125, none, .faddr 0 (.tmp 11), []⟩,
     ⟨5, some 126, none, .load false 1 (.tmp 125), []⟩,
     ⟨6, some 127, none, .mov (.tmp 6), []⟩,
     ⟨7, some 128, none, .faddr 1 (.tmp 11), []⟩,
     ⟨8, some 129, none, .load false 1 (.tmp 128), []⟩,
     ⟨9, some 130, none, .iaddr 1 (.tmp 127) (.tmp 129), []⟩,
     ⟨10, some 131, none, .load false 1 (.tmp 130), []⟩,
     ⟨11, some 132, none, .faddr 3 (.tmp 11), []⟩,
     ⟨12, some 133, none, .load false 1 (.tmp 132), []⟩,
     ⟨13, some 134, none, .bin .sub .other (.tmp 131) (.tmp 133), []⟩,
     ⟨14, some 135, none, .faddr 3 (.tmp 2), []⟩,
     ⟨15, some 136, none, .load false 1 (.tmp 135), []⟩,
     ⟨16, some 137, none, .lenV (.tmp 136), []⟩,
     ⟨17, some 138, none, .mov (.tmp 10), []⟩,
     ⟨18, some 139, none, .bin .add .other (.tmp 137) (.tmp 138), []⟩,
     ⟨19, some 140, none, .iaddr 1 (.tmp 121) (.tmp 123), []⟩,
     ⟨20, none, none, .store 1 (.tmp 140) (.tmp 134), [(.tmp 135, .tmp 140), (.tmp 125, .tmp 140)]⟩,
     ⟨21, some 141, none, .iaddr 1 (.tmp 124) (.tmp 126), []⟩,
     ⟨22, none, none, .store 1 (.tmp 141) (.tmp 139), []⟩,
     ⟨23, some 9, none, .mov (.const (.bool true)), []⟩]) (
   .skip)))))) (
  .region [
    ⟨0, some 37, none, .mov (.tmp 10), []⟩,
    ⟨1, some 38, none, .bin .add .other (.tmp 37) (.const (.int .i64 1)), []⟩,
    ⟨2, some 10, none, .mov (.tmp 38), []⟩]))
def ir49_l2 : ICode :=
  .seq (
  .seq (
  .region [
    ⟨0, some 31, none, .mov (.tmp 9), []⟩]) (
  .cond (.tmp 31) (
   .skip) (
   .exit 2))) (
  .block 3 (
  .seq (
  .region [
    ⟨0, some 9, none, .mov (.const (.bool false)), []⟩]) (
  .seq (
  .region [
    ⟨0, some 10, none, .mov (.const (.int .i64 0)), []⟩]) (
  .block 4 (
  .loop ir49_l1)))))
def ir49_b : ICode :=
  .seq (
  .region [
    ⟨0, some 2, none, .box (.tmp 0), []⟩,
    ⟨1, some 4, none, .mov (.const (.slice none 0 0)), []⟩,
    ⟨2, some 5, none, .mov (.const (.slice none 0 0)), []⟩]) (
  .seq (
  .region [
    ⟨0, some 12, none, .faddr 0 (.tmp 2), []⟩,
    ⟨1, some 13, none, .load false 1 (.tmp 12), []⟩,
    ⟨3, some 15, none, .faddr 0 (.tmp 2), []⟩,
    ⟨4, some 16, none, .load false 1 (.tmp 15), []⟩,
    ⟨2, some 14, none, .mkslice 1 8 [.int .i64 0] (.tmp 13) (.tmp 13), []⟩,
    ⟨6, some 6, none, .mov (.tmp 14), []⟩,
    ⟨5, some 17, none, .mkslice 1 8 [.int .i64 0] (.tmp 16) (.tmp 16), []⟩,
    ⟨7, some 7, none, .mov (.tmp 17), []⟩]) (
  .seq (
  .seq (
  .region [
    ⟨0, some 8, none, .mov (.const (.int .i64 0)), []⟩]) (
  .block 0 (
  .loop ir49_l0))) (
  .seq (
  .region [
    ⟨0, some 27, none, .mov (.tmp 6), []⟩,
    ⟨1, some 28, none, .faddr 1 (.tmp 2), []⟩,
    ⟨2, some 29, none, .load false 1 (.tmp 28), []⟩,
    ⟨3, some 30, none, .iaddr 1 (.tmp 27) (.tmp 29), []⟩,
    ⟨4, none, none, .store 1 (.tmp 30) (.const (.int .i64 0)), []⟩]) (
  .seq (
  .seq (
  .region [
    ⟨0, some 9, none, .mov (.const (.bool true)), []⟩]) (
  .block 2 (
  .loop ir49_l2))) (
  .seq (
  .region [
    ⟨0, some 142, none, .mov (.tmp 6), []⟩,
    ⟨1, some 143, none, .mov (.tmp 7), []⟩,
    ⟨2, some 4, none, .mov (.tmp 142), []⟩,
    ⟨3, some 5, none, .mov (.tmp 143), []⟩]) (
  .ret))))))
def ir49 : IFunc := ⟨144, [.tmp 4, .tmp 5], ir49_b⟩
theorem ir49_eq : cFunc Try.prog 49 = some ir49 := by kernel_rfl
theorem call49 {args : List Value} {m : Mem} {Φ : Value → Mem → Prop} (h : args.length ≤ 144) : WPCall Try.prog 49 args m Φ = WP Try.prog ir49_b (initσ args) m (retK [.tmp 4, .tmp 5] Φ) := wpCall_def ir49_eq h
/-- drydock/drydockref13.potentials -/
def ir50_l0 : ICode :=
  .seq (
  .seq (
  .region [
    ⟨0, some 13, none, .mov (.tmp 7), []⟩,
    ⟨1, some 14, none, .faddr 3 (.tmp 2), []⟩,
    ⟨2, some 15, none, .load false 1 (.tmp 14), []⟩,
    ⟨3, some 16, none, .lenV (.tmp 15), []⟩,
    ⟨4, some 17, none, .bin .lss .other (.tmp 13) (.tmp 16), []⟩]) (
  .cond (.tmp 17) (
   .skip) (
   .exit 2))) (
  .seq (
  .block 3 (
  .seq (
  .region [
    ⟨0, some 20, none, .faddr 3 (.tmp 2), []⟩,
    ⟨1, some 21, none, .load false 1 (.tmp 20), []⟩,
    ⟨2, some 22, none, .mov (.tmp 7), []⟩,
    ⟨3, some 23, none, .iaddr 4 (.tmp 21) (.tmp 22), []⟩,
    ⟨4, some 24, none, .load true 4 (.tmp 23), []⟩,
    ⟨5, some 8, none, .alloc [.int .i64 0, .int .i64 0, .int .i64 0, .int .i64 0], []⟩,
    ⟨6, none, none, .store 4 (.tmp 8) (.tmp 24), []⟩]) (
  .seq (
  .seq (
  .region [
    ⟨0, some 25, none, .mov (.tmp 1), []⟩,
    ⟨1, some 26, none, .mov (.tmp 7), []⟩,
    ⟨2, some 27, none, .iaddr 1 (.tmp 25) (.tmp 26), []⟩,
    ⟨3, some 28, none, .load false 1 (.tmp 27), []⟩,
    ⟨4, some 29, none, .faddr 2 (.tmp 8), []⟩,
    ⟨5, some 30, none, .load false 1 (.tmp 29), []⟩,
    ⟨6, some 31, none, .bin .lss .other (.tmp 28) (.tmp 30), []⟩,
    ⟨7, some 32, none, .mov (.tmp 31), []⟩,
    ⟨8, some 33, some (32, true), .mov (.tmp 5), []⟩,
    ⟨9, some 34, some (32, true), .faddr 0 (.tmp 8), []⟩,
    ⟨10, some 35, some (32, true), .load false 1 (.tmp 34), []⟩,
    ⟨11, some 36, some (32, true), .iaddr 1 (.tmp 33) (.tmp 35), []⟩,
    ⟨12, some 37, some (32, true), .load false 1 (.tmp 36), []⟩,
    ⟨13, some 38, some (32, true), .faddr 3 (.tmp 8), []⟩,
    ⟨14, some 39, some (32, true), .load false 1 (.tmp 38), []⟩,
    ⟨15, some 40, some (32, true), .bin .add .other (.tmp 37) (.tmp 39), []⟩,
    ⟨16, some 41, some (32, true), .mov (.tmp 5), []⟩,
    ⟨17, some 42, some (32, true), .faddr 1 (.tmp 8), []⟩,
    ⟨18, some 43, some (32, true), .load false 1 (.tmp 42), []⟩,
    ⟨19, some 44, some (32, true), .iaddr 1 (.tmp 41) (.tmp 43), []⟩,
    ⟨20, some 45, some (32, true), .load false 1 (.tmp 44), []⟩,
    ⟨21, some 46, some (32, true), .bin .lss .other (.tmp 40) (.tmp 45), []⟩,
    ⟨22, some 47, none, .pick (.tmp 32) (.tmp 46) (.const (.bool false)), []⟩]) (
  .cond (.tmp 47) (
   .region [
     ⟨0, some 48, none, .mov (.tmp 5), []⟩,
     ⟨1, some 49, none, .faddr 1 (.tmp 8), []⟩,
     ⟨2, some 50, none, .load false 1 (.tmp 49), []⟩,
     ⟨3, some 51, none, .mov (.tmp 5), []⟩,
     ⟨4, some 52, none, .faddr 0 (.tmp 8), []⟩,
     ⟨5, some 53, none, .load false 1 (.tmp 52), []⟩,
     ⟨6, some 54, none, .iaddr 1 (.tmp 51) (.tmp 53), []⟩,
     ⟨7, some 55, none, .load false 1 (.tmp 54), []⟩,
     ⟨8, some 56, none, .faddr 3 (.tmp 8), []⟩,
     ⟨9, some 57, none, .load false 1 (.tmp 56), []⟩,
     ⟨10, some 58, none, .bin .add .other (.tmp 55) (.tmp 57), []⟩,
     ⟨11, some 59, none, .iaddr 1 (.tmp 48) (.tmp 50), []⟩,
     ⟨12, none, none, .store 1 (.tmp 59) (.tmp 58), []⟩,
     ⟨13, some 6, none, .mov (.const (.bool true)), []⟩]) (
   .skip))) (
  .seq (
  .region [
    ⟨0, some 60, none, .mov (.tmp 1), []⟩,
    ⟨1, some 61, none, .mov (.tmp 7), []⟩,
    ⟨2, some 62, none, .iaddr 1 (.tmp 60) (.tmp 61), []⟩,
    ⟨3, some 63, none, .load false 1 (.tmp 62), []⟩,
    ⟨4, some 64, none, .bin .gtr .other (.tmp 63) (.const (.int .i64 0)), []⟩,
    ⟨5, some 65, none, .mov (.tmp 64), []⟩,
    ⟨6, some 66, some (65, true), .mov (.tmp 5), []⟩,
    ⟨7, some 67, some (65, true), .faddr 1 (.tmp 8), []⟩,
    ⟨8, some 68, some (65, true), .load false 1 (.tmp 67), []⟩,
    ⟨9, some 69, some (65, true), .iaddr 1 (.tmp 66) (.tmp 68), []⟩,
    ⟨10, some 70, some (65, true), .load false 1 (.tmp 69), []⟩,
    ⟨11, some 71, some (65, true), .faddr 3 (.tmp 8), []⟩,
    ⟨12, some 72, some (65, true), .load false 1 (.tmp 71), []⟩,
    ⟨13, some 73, some (65, true), .bin .sub .other (.tmp 70) (.tmp 72), []⟩,
    ⟨14, some 74, some (65, true), .mov (.tmp 5), []⟩,
    ⟨15, some 75, some (65, true), .faddr 0 (.tmp 8), []⟩,
    ⟨16, some 76, some (65, true), .load false 1 (.tmp 75), []⟩,
    ⟨17, some 77, some (65, true), .iaddr 1 (.tmp 74) (.tmp 76), []⟩,
    ⟨18, some 78, some (65, true), .load false 1 (.tmp 77), []⟩,
    ⟨19, some 79, some (65, true), .bin .lss .other (.tmp 73) (.tmp 78), []⟩,
    ⟨20, some 80, none, .pick (.tmp 65) (.tmp 79) (.const (.bool false)), []⟩]) (
  .cond (.tmp 80) (
   .region [
     ⟨0, some 81, none, .mov (.tmp 5), []⟩,
     ⟨1, some 82, none, .faddr 0 (.tmp 8), []⟩,
     ⟨2, some 83, none, .load false 1 (.tmp 82), []⟩,
     ⟨3, some 84, none, .mov (.tmp 5), []⟩,
     ⟨4, some 85, none, .faddr 1 (.tmp 8), []⟩,
     ⟨5, some 86, none, .load false 1 (.tmp 85), []⟩,
     ⟨6, some 87, none, .iaddr 1 (.tmp 84) (.tmp 86), []⟩,
     ⟨7, some 88, none, .load false 1 (.tmp 87), []⟩,
     ⟨8, some 89, none, .faddr 3 (.tmp 8), []⟩,
     ⟨9, some 90, none, .load false 1 (.tmp 89), []⟩,
     ⟨10, some 91, none, .bin .sub .other (.tmp 88) (.tmp 90), []⟩,
     ⟨11, some 92, none, .iaddr 1 (.tmp 81) (.tmp 83), []⟩,
     ⟨12, none, none, .store 1 (.tmp 92) (.tmp 91), []⟩,
     ⟨13, some 6, none, .mov (.const (.bool true)), []⟩]) (
   .skip)))))) (
  .region [
    ⟨0, some 18, none, .mov (.tmp 7), []⟩,
    ⟨1, some 19, none, .bin .add .other (.tmp 18) (.const (.int .i64 1)), []⟩,
    ⟨2, some 7, none, .mov (.tmp 19), []⟩]))
def ir50_l1 : ICode :=
  .seq (
  .seq (
  .region [
    ⟨0, some 12, none, .mov (.tmp 6), []⟩]) (
  .cond (.tmp 12) (
   .skip) (
   .exit 0))) (
  .block 1 (
  .seq (
  .region [
    ⟨0, some 6, none, .mov (.const (.bool false)), []⟩]) (
  .seq (
  .region [
    ⟨0, some 7, none, .mov (.const (.int .i64 0)), []⟩]) (
  .block 2 (
  .loop ir50_l0)))))
def ir50_b : ICode :=
  .seq (
  .region [
    ⟨0, some 2, none, .box (.tmp 0), []⟩,
    ⟨1, some 4, none, .mov (.const (.slice none 0 0)), []⟩]) (
  .seq (
  .region [
    ⟨0, some 9, none, .faddr 0 (.tmp 2), []⟩,
    ⟨1, some 10, none, .load false 1 (.tmp 9), []⟩,
    ⟨2, some 11, none, .mkslice 1 8 [.int .i64 0] (.tmp 10) (.tmp 10), []⟩,
    ⟨3, some 5, none, .mov (.tmp 11), []⟩]) (
  .seq (
  .seq (
  .region [
    ⟨0, some 6, none, .mov (.const (.bool true)), []⟩]) (
  .block 0 (
  .loop ir50_l1))) (
  .seq (
  .region [
    ⟨0, some 93, none, .mov (.tmp 5), []⟩,
    ⟨1, some 4, none, .mov (.tmp 93), []⟩]) (
  .ret))))
def ir50 : IFunc := ⟨94, [.tmp 4], ir50_b⟩
theorem ir50_eq : cFunc Try.prog 50 = some ir50 := by kernel_rfl
theorem call50 {args : List Value} {m : Mem} {Φ : Value → Mem → Prop} (h : args.length ≤ 94) : WPCall Try.prog 50 args m Φ = WP Try.prog ir50_b (initσ args) m (retK [.tmp 4] Φ) := wpCall_def ir50_eq h
/-- (drydock/mincost.queue).Len -/
def ir53_b : ICode :=
  .seq (
  .region [
    ⟨0, some 2, none, .mov (.const (.int .i64 0)), []⟩]) (
  .seq (
  .region [
    ⟨0, some 3, none, .mov (.tmp 0), []⟩,
    ⟨1, some 4, none, .lenV (.tmp 3), []⟩,
    ⟨2, some 2, none, .mov (.tmp 4), []⟩]) (
  .ret))
def ir53 : IFunc := ⟨5, [.tmp 2], ir53_b⟩
theorem ir53_eq : cFunc Try.prog 53 = some ir53 := by kernel_rfl
theorem call53 {args : List Value} {m : Mem} {Φ : Value → Mem → Prop} (h : args.length ≤ 5) : WPCall Try.prog 53 args m Φ = WP Try.prog ir53_b (initσ args) m (retK [.tmp 2] Φ) := wpCall_def ir53_eq h
/-- container/heap.Pop -/
def ir54_b : ICode :=
  .seq (
  .region [
    ⟨0, some 2, none, .mov (.const (.nilIface)), []⟩]) (
  .seq (
  .region [
    ⟨0, some 4, none, .mov (.tmp 0), []⟩,
    ⟨1, some 5, none, .icall [(17, 72, none), (77, 53, some (false, 1))] (.tmp 4) [], []⟩,
    ⟨2, some 6, none, .bin .sub .other (.tmp 5) (.const (.int .i64 1)), []⟩,
    ⟨3, some 3, none, .mov (.tmp 6), []⟩]) (
  .seq (
  .region [
    ⟨0, some 7, none, .mov (.tmp 0), []⟩,
    ⟨1, some 8, none, .mov (.tmp 3), []⟩,
    ⟨2, some 9, none, .icall [(77, 78, some (false, 1))] (.tmp 7) [.const (.int .i64 0), .tmp 8], []⟩]) (
  .seq (
  .region [
    ⟨0, some 10, none, .mov (.tmp 0), []⟩,
    ⟨1, some 11, none, .mov (.tmp 3), []⟩,
    ⟨2, some 12, none, .call 57 [.tmp 10, .const (.int .i64 0), .tmp 11], []⟩]) (
  .seq (
  .region [
    ⟨0, some 13, none, .mov (.tmp 0), []⟩,
    ⟨1, some 14, none, .icall [(77, 76, none)] (.tmp 13) [], []⟩,
    ⟨2, some 2, none, .mov (.tmp 14), []⟩]) (
  .ret)))))
def ir54 : IFunc := ⟨15, [.tmp 2], ir54_b⟩
theorem ir54_eq : cFunc Try.prog 54 = some ir54 := by kernel_rfl
theorem call54 {args : List Value} {m : Mem} {Φ : Value → Mem → Prop} (h : args.length ≤ 15) : WPCall Try.prog 54 args m Φ = WP Try.prog ir54_b (initσ args) m (retK [.tmp 2] Φ) := wpCall_def ir54_eq h
/-- (*drydock/mincost.search).step -/
def ir55_b : ICode :=
  .seq (
  .region [
    ⟨0, some 4, none, .mov (.const (.int .i64 0)), []⟩,
    ⟨1, some 5, none, .mov (.const (.int .i64 0)), []⟩,
    ⟨2, some 6, none, .mov (.const (.int .i64 0)), []⟩,
    ⟨3, some 7, none, .mov (.const (.int .i64 0)), []⟩]) (
  .seq (
  .seq (
  .region [
    ⟨0, some 10, none, .mov (.tmp 1), []⟩,
    ⟨1, some 11, none, .bin .geq .other (.tmp 10) (.const (.int .i64 0)), []⟩]) (
  .cond (.tmp 11) (
   .seq (
   .region [
     ⟨0, some 12, none, .mov (.tmp 0), []⟩,
     ⟨1, some 13, none, .nilck (.tmp 12), []⟩,
     ⟨2, some 14, none, .faddr 0 (.tmp 13), []⟩,
     ⟨3, some 15, none, .faddr 3 (.tmp 14), []⟩,
     ⟨4, some 16, none, .load false 1 (.tmp 15), []⟩,
     ⟨5, some 17, none, .mov (.tmp 1), []⟩,
     ⟨6, some 18, none, .iaddr 4 (.tmp 16) (.tmp 17), []⟩,
     ⟨7, some 19, none, .load true 4 (.tmp 18), []⟩,
     ⟨8, some 8, none, .alloc [.int .i64 0, .int .i64 0, .int .i64 0, .int .i64 0], []⟩,
     ⟨9, none, none, .store 4 (.tmp 8) (.tmp 19), []⟩]) (
   .seq (
   .region [
     ⟨0, some 20, none, .faddr 0 (.tmp 8), []⟩,
     ⟨1, some 21, none, .load false 1 (.tmp 20), []⟩,
     ⟨2, some 22, none, .faddr 1 (.tmp 8), []⟩,
     ⟨3, some 23, none, .load false 1 (.tmp 22), []⟩,
     ⟨4, some 24, none, .faddr 2 (.tmp 8), []⟩,
     ⟨5, some 25, none, .load false 1 (.tmp 24), []⟩,
     ⟨6, some 26, none, .mov (.tmp 0), []⟩,
     ⟨7, some 27, none, .nilck (.tmp 26), []⟩,
     ⟨8, some 28, none, .faddr 4 (.tmp 27), []⟩,
     ⟨9, some 29, none, .load false 1 (.tmp 28), []⟩,
     ⟨10, some 30, none, .mov (.tmp 1), []⟩,
     ⟨11, some 31, none, .iaddr 1 (.tmp 29) (.tmp 30), []⟩,
     ⟨12, some 32, none, .load false 1 (.tmp 31), []⟩,
     ⟨13, some 33, none, .bin .sub .other (.tmp 25) (.tmp 32), []⟩,
     ⟨14, some 34, none, .faddr 3 (.tmp 8), []⟩,
     ⟨15, some 35, none, .load false 1 (.tmp 34), []⟩,
     ⟨16, some 4, none, .mov (.tmp 21), []⟩,
     ⟨17, some 5, none, .mov (.tmp 23), []⟩,
     ⟨18, some 6, none, .mov (.tmp 33), []⟩,
     ⟨19, some 7, none, .mov (.tmp 35), []⟩]) (
   .ret))) (
   .skip))) (
  .seq (
  .region [
    ⟨0, some 36, none, .mov (.tmp 0), []⟩,
    ⟨1, some 37, none, .nilck (.tmp 36), []⟩,
    ⟨2, some 38, none, .faddr 0 (.tmp 37), []⟩,
    ⟨3, some 39, none, .faddr 3 (.tmp 38), []⟩,
    ⟨4, some 40, none, .load false 1 (.tmp 39), []⟩,
    ⟨5, some 41, none, .mov (.tmp 1), []⟩,
    ⟨6, some 42, none, .bin .sub .other (.const (.int .i64 (-1))) (.tmp 41), []⟩,
    ⟨7, some 43, none, .iaddr 4 (.tmp 40) (.tmp 42), []⟩,
    ⟨8, some 44, none, .load true 4 (.tmp 43), []⟩,
    ⟨9, some 9, none, .alloc [.int .i64 0, .int .i64 0, .int .i64 0, .int .i64 0], []⟩,
    ⟨10, none, none, .store 4 (.tmp 9) (.tmp 44), []⟩]) (
  .seq (
  .region [
    ⟨0, some 45, none, .faddr 1 (.tmp 9), []⟩,
    ⟨1, some 46, none, .load false 1 (.tmp 45), []⟩,
    ⟨2, some 47, none, .faddr 0 (.tmp 9), []⟩,
    ⟨3, some 48, none, .load false 1 (.tmp 47), []⟩,
    ⟨4, some 49, none, .mov (.tmp 0), []⟩,
    ⟨5, some 50, none, .nilck (.tmp 49), []⟩,
    ⟨6, some 51, none, .faddr 4 (.tmp 50), []⟩,
    ⟨7, some 52, none, .load false 1 (.tmp 51), []⟩,
    ⟨8, some 53, none, .mov (.tmp 1), []⟩,
    ⟨9, some 54, none, .bin .sub .other (.const (.int .i64 (-1))) (.tmp 53), []⟩,
    ⟨10, some 55, none, .iaddr 1 (.tmp 52) (.tmp 54), []⟩,
    ⟨11, some 56, none, .load false 1 (.tmp 55), []⟩,
    ⟨12, some 57, none, .faddr 3 (.tmp 9), []⟩,
    ⟨13, some 58, none, .load false 1 (.tmp 57), []⟩,
    ⟨14, some 59, none, .un .neg (.tmp 58), []⟩,
    ⟨15, some 4, none, .mov (.tmp 46), []⟩,
    ⟨16, some 5, none, .mov (.tmp 48), []⟩,
    ⟨17, some 6, none, .mov (.tmp 56), []⟩,
    ⟨18, some 7, none, .mov (.tmp 59), []⟩]) (
  .ret))))
def ir55 : IFunc := ⟨60, [.tmp 4, .tmp 5, .tmp 6, .tmp 7], ir55_b⟩
theorem ir55_eq : cFunc Try.prog 55 = some ir55 := by kernel_rfl
theorem call55 {args : List Value} {m : Mem} {Φ : Value → Mem → Prop} (h : args.length ≤ 60) : WPCall Try.prog 55 args m Φ = WP Try.prog ir55_b (initσ args) m (retK [.tmp 4, .tmp 5, .tmp 6, .tmp 7] Φ) := wpCall_def ir55_eq h
/-- container/heap.Push -/
def ir56_b : ICode :=
  .seq (
  .region [
    ⟨0, some 4, none, .mov (.tmp 0), []⟩,
    ⟨1, some 5, none, .mov (.tmp 1), []⟩,
    ⟨2, some 6, none, .icall [(77, 77, none)] (.tmp 4) [.tmp 5], []⟩]) (
  .region [
    ⟨0, some 7, none, .mov (.tmp 0), []⟩,
    ⟨1, some 8, none, .mov (.tmp 0), []⟩,
    ⟨2, some 9, none, .icall [(17, 72, none), (77, 53, some (false, 1))] (.tmp 8) [], []⟩,
    ⟨3, some 10, none, .bin .sub .other (.tmp 9) (.const (.int .i64 1)), []⟩,
    ⟨4, some 11, none, .call 58 [.tmp 7, .tmp 10], []⟩])
def ir56 : IFunc := ⟨12, [], ir56_b⟩
theorem ir56_eq : cFunc Try.prog 56 = some ir56 := by kernel_rfl
theorem call56 {args : List Value} {m : Mem} {Φ : Value → Mem → Prop} (h : args.length ≤ 12) : WPCall Try.prog 56 args m Φ = WP Try.prog ir56_b (initσ args) m (retK [] Φ) := wpCall_def ir56_eq h
/-- container/heap.down -/
def ir57_l0 : ICode :=
  .block 1 (
  .seq (
  .region [
    ⟨0, some 12, none, .mov (.tmp 7), []⟩,
    ⟨1, some 13, none, .bin .mul .other (.const (.int .i64 2)) (.tmp 12), []⟩,
    ⟨2, some 14, none, .bin .add .other (.tmp 13) (.const (.int .i64 1)), []⟩,
    ⟨3, some 8, none, .mov (.tmp 14), []⟩]) (
  .seq (
  .seq (
  .region [
    ⟨0, some 15, none, .mov (.tmp 8), []⟩,
    ⟨1, some 16, none, .mov (.tmp 2), []⟩,
    ⟨2, some 17, none, .bin .geq .other (.tmp 15) (.tmp 16), []⟩,
    ⟨3, some 18, none, .mov (.tmp 17), []⟩,
    ⟨4, some 19, some (18, false), .mov (.tmp 8), []⟩,
    ⟨5, some 20, some (18, false), .bin .lss .other (.tmp 19) (.const (.int .i64 0)), []⟩,
    ⟨6, some 21, none, .pick (.tmp 18) (.const (.bool true)) (.tmp 20), []⟩]) (
  .cond (.tmp 21) (
   .exit 0) (
   .skip))) (
  .seq (
  .region [
    ⟨0, some 22, none, .mov (.tmp 8), []⟩,
    ⟨1, some 9, none, .mov (.tmp 22), []⟩]) (
  .seq (
  .seq (
  .region [
    ⟨0, some 23, none, .mov (.tmp 8), []⟩,
    ⟨1, some 24, none, .bin .add .other (.tmp 23) (.const (.int .i64 1)), []⟩,
    ⟨2, some 10, none, .mov (.tmp 24), []⟩]) (
  .seq (
  .region [
    ⟨0, some 25, none, .mov (.tmp 10), []⟩,
    ⟨1, some 26, none, .mov (.tmp 2), []⟩,
    ⟨2, some 27, none, .bin .lss .other (.tmp 25) (.tmp 26), []⟩,
    ⟨3, some 28, none, .mov (.tmp 27), []⟩,
    ⟨4, some 29, some (28, true), .mov (.tmp 0), []⟩,
    ⟨5, some 30, some (28, true), .mov (.tmp 10), []⟩,
    ⟨6, some 31, some (28, true), .mov (.tmp 8), []⟩,
    ⟨7, some 32, some (28, true), .icall [(77, 75, some (false, 1))] (.tmp 29) [.tmp 30, .tmp 31], []⟩,
    ⟨8, some 33, none, .pick (.tmp 28) (.tmp 32) (.const (.bool false)), []⟩]) (
  .cond (.tmp 33) (
   .region [
     ⟨0, some 34, none, .mov (.tmp 10), []⟩,
     ⟨1, some 9, none, .mov (.tmp 34), []⟩]) (
   .skip)))) (
  .seq (
  .seq (
  .region [
    ⟨0, some 35, none, .mov (.tmp 0), []⟩,
    ⟨1, some 36, none, .mov (.tmp 9), []⟩,
    ⟨2, some 37, none, .mov (.tmp 7), []⟩,
    ⟨3, some 38, none, .icall [(77, 75, some (false, 1))] (.tmp 35) [.tmp 36, .tmp 37], []⟩,
    ⟨4, some 39, none, .un .not (.tmp 38), []⟩]) (
  .cond (.tmp 39) (
   .exit 0) (
   .skip))) (
  .seq (
  .region [
    ⟨0, some 40, none, .mov (.tmp 0), []⟩,
    ⟨1, some 41, none, .mov (.tmp 7), []⟩,
    ⟨2, some 42, none, .mov (.tmp 9), []⟩,
    ⟨3, some 43, none, .icall [(77, 78, some (false, 1))] (.tmp 40) [.tmp 41, .tmp 42], []⟩]) (
  .region [
    ⟨0, some 44, none, .mov (.tmp 9), []⟩,
    ⟨1, some 7, none, .mov (.tmp 44), []⟩])))))))
def ir57_b : ICode :=
  .seq (
  .region [
    ⟨0, some 6, none, .mov (.const (.bool false)), []⟩]) (
  .seq (
  .region [
    ⟨0, some 11, none, .mov (.tmp 1), []⟩,
    ⟨1, some 7, none, .mov (.tmp 11), []⟩]) (
  .seq (
  .block 0 (
  .loop ir57_l0)) (
  .seq (
  .region [
    ⟨0, some 45, none, .mov (.tmp 7), []⟩,
    ⟨1, some 46, none, .mov (.tmp 1), []⟩,
    ⟨2, some 47, none, .bin .gtr .other (.tmp 45) (.tmp 46), []⟩,
    ⟨3, some 6, none, .mov (.tmp 47), []⟩]) (
  .ret))))
def ir57 : IFunc := ⟨48, [.tmp 6], ir57_b⟩
theorem ir57_eq : cFunc Try.prog 57 = some ir57 := by kernel_rfl
theorem call57 {args : List Value} {m : Mem} {Φ : Value → Mem → Prop} (h : args.length ≤ 48) : WPCall Try.prog 57 args m Φ = WP Try.prog ir57_b (initσ args) m (retK [.tmp 6] Φ) := wpCall_def ir57_eq h
/-- container/heap.up -/
def ir58_l0 : ICode :=
  .block 1 (
  .seq (
  .region [
    ⟨0, some 5, none, .mov (.tmp 1), []⟩,
    ⟨1, some 6, none, .bin .sub .other (.tmp 5) (.const (.int .i64 1)), []⟩,
    ⟨2, some 7, none, .bin .quo .other (.tmp 6) (.const (.int .i64 2)), []⟩,
    ⟨3, some 4, none, .mov (.tmp 7), []⟩]) (
  .seq (
  .seq (
  .region [
    ⟨0, some 8, none, .mov (.tmp 4), []⟩,
    ⟨1, some 9, none, .mov (.tmp 1), []⟩,
    ⟨2, some 10, none, .bin .eql .other (.tmp 8) (.tmp 9), []⟩,
    ⟨3, some 11, none, .mov (.tmp 10), []⟩,
    ⟨4, some 12, some (11, false), .mov (.tmp 0), []⟩,
    ⟨5, some 13, some (11, false), .mov (.tmp 1), []⟩,
    ⟨6, some 14, some (11, false), .mov (.tmp 4), []⟩,
    ⟨7, some 15, some (11, false), .icall [(77, 75, some (false, 1))] (.tmp 12) [.tmp 13, .tmp 14], []⟩,
    ⟨8, some 16, some (11, false), .un .not (.tmp 15), []⟩,
    ⟨9, some 17, none, .pick (.tmp 11) (.const (.bool true)) (.tmp 16), []⟩]) (
  .cond (.tmp 17) (
   .exit 0) (
   .skip))) (
  .seq (
  .region [
    ⟨0, some 18, none, .mov (.tmp 0), []⟩,
    ⟨1, some 19, none, .mov (.tmp 4), []⟩,
    ⟨2, some 20, none, .mov (.tmp 1), []⟩,
    ⟨3, some 21, none, .icall [(77, 78, some (false, 1))] (.tmp 18) [.tmp 19, .tmp 20], []⟩]) (
  .region [
    ⟨0, some 22, none, .mov (.tmp 4), []⟩,
    ⟨1, some 1, none, .mov (.tmp 22), []⟩]))))
def ir58_b : ICode :=
  .block 0 (
  .loop ir58_l0)
def ir58 : IFunc := ⟨23, [], ir58_b⟩
theorem ir58_eq : cFunc Try.prog 58 = some ir58 := by kernel_rfl
theorem call58 {args : List Value} {m : Mem} {Φ : Value → Mem → Prop} (h : args.length ≤ 23) : WPCall Try.prog 58 args m Φ = WP Try.prog ir58_b (initσ args) m (retK [] Φ) := wpCall_def ir58_eq h
/-- (drydock/mincost.queue).Less -/
def ir75_b : ICode :=
  .seq (
  .region [
    ⟨0, some 6, none, .mov (.const (.bool false)), []⟩]) (
  .seq (
  .region [
    ⟨0, some 7, none, .mov (.tmp 0), []⟩,
    ⟨1, some 8, none, .mov (.tmp 1), []⟩,
    ⟨2, some 9, none, .iaddr 2 (.tmp 7) (.tmp 8), []⟩,
    ⟨3, some 10, none, .faddr 1 (.tmp 9), []⟩,
    ⟨4, some 11, none, .load false 1 (.tmp 10), []⟩,
    ⟨5, some 12, none, .mov (.tmp 0), []⟩,
    ⟨6, some 13, none, .mov (.tmp 2), []⟩,
    ⟨7, some 14, none, .iaddr 2 (.tmp 12) (.tmp 13), []⟩,
    ⟨8, some 15, none, .faddr 1 (.tmp 14), []⟩,
    ⟨9, some 16, none, .load false 1 (.tmp 15), []⟩,
    ⟨10, some 17, none, .bin .lss .other (.tmp 11) (.tmp 16), []⟩,
    ⟨11, some 6, none, .mov (.tmp 17), []⟩]) (
  .ret))
def ir75 : IFunc := ⟨18, [.tmp 6], ir75_b⟩
theorem ir75_eq : cFunc Try.prog 75 = some ir75 := by kernel_rfl
theorem call75 {args : List Value} {m : Mem} {Φ : Value → Mem → Prop} (h : args.length ≤ 18) : WPCall Try.prog 75 args m Φ = WP Try.prog ir75_b (initσ args) m (retK [.tmp 6] Φ) := wpCall_def ir75_eq h
/-- (*drydock/mincost.queue).Pop -/
def ir76_b : ICode :=
  .seq (
  .region [
    ⟨0, some 2, none, .mov (.const (.nilIface)), []⟩]) (
  .seq (
  .region [
    ⟨0, some 5, none, .mov (.tmp 0), []⟩,
    ⟨1, some 6, none, .nilck (.tmp 5), []⟩,
    ⟨2, some 7, none, .load false 1 (.tmp 6), []⟩,
    ⟨3, some 8, none, .lenV (.tmp 7), []⟩,
    ⟨4, some 9, none, .bin .sub .other (.tmp 8) (.const (.int .i64 1)), []⟩,
    ⟨5, some 3, none, .mov (.tmp 9), []⟩]) (
  .seq (
  .region [
    ⟨0, some 10, none, .mov (.tmp 0), []⟩,
    ⟨1, some 11, none, .nilck (.tmp 10), []⟩,
    ⟨2, some 12, none, .load false 1 (.tmp 11), []⟩,
    ⟨3, some 13, none, .mov (.tmp 3), []⟩,
    ⟨4, some 14, none, .iaddr 2 (.tmp 12) (.tmp 13), []⟩,
    ⟨5, some 15, none, .load true 2 (.tmp 14), []⟩,
    ⟨6, some 4, none, .alloc [.int .i64 0, .int .i64 0], []⟩,
    ⟨7, none, none, .store 2 (.tmp 4) (.tmp 15), []⟩]) (
  .seq (
  .region [
    ⟨0, some 16, none, .mov (.tmp 0), []⟩,
    ⟨1, some 17, none, .mov (.tmp 0), []⟩,
    ⟨2, some 18, none, .nilck (.tmp 17), []⟩,
    ⟨3, some 19, none, .load false 1 (.tmp 18), []⟩,
    ⟨4, some 20, none, .mov (.tmp 3), []⟩,
    ⟨5, some 21, none, .sliceS 2 (.tmp 19) none (some (.tmp 20)), []⟩,
    ⟨6, some 22, none, .nilck (.tmp 16), []⟩,
    ⟨7, none, none, .store 1 (.tmp 22) (.tmp 21), []⟩]) (
  .seq (
  .region [
    ⟨0, some 23, none, .load true 2 (.tmp 4), []⟩,
    ⟨1, some 24, none, .mkif 79 (.tmp 23), []⟩,
    ⟨2, some 2, none, .mov (.tmp 24), []⟩]) (
  .ret)))))
def ir76 : IFunc := ⟨25, [.tmp 2], ir76_b⟩
theorem ir76_eq : cFunc Try.prog 76 = some ir76 := by kernel_rfl
theorem call76 {args : List Value} {m : Mem} {Φ : Value → Mem → Prop} (h : args.length ≤ 25) : WPCall Try.prog 76 args m Φ = WP Try.prog ir76_b (initσ args) m (retK [.tmp 2] Φ) := wpCall_def ir76_eq h
/-- (*drydock/mincost.queue).Push -/
def ir77_b : ICode :=
  .region [
    ⟨0, some 4, none, .mov (.tmp 0), []⟩,
    ⟨1, some 5, none, .mov (.tmp 0), []⟩,
    ⟨2, some 6, none, .nilck (.tmp 5), []⟩,
    ⟨3, some 7, none, .load false 1 (.tmp 6), []⟩,
    ⟨4, some 8, none, .mov (.tmp 1), []⟩,
    ⟨5, some 9, none, .tass 79 (.tmp 8), []⟩,
    ⟨6, some 10, none, .bslice 2 1 [.int .i64 0, .int .i64 0] [(0, 2, .tmp 9)], []⟩,
    ⟨7, some 11, none, .app 2 16 (.tmp 7) (.tmp 10), []⟩,
    ⟨8, some 12, none, .nilck (.tmp 4), []⟩,
    ⟨9, none, none, .store 1 (.tmp 12) (.tmp 11), []⟩]
def ir77 : IFunc := ⟨13, [], ir77_b⟩
theorem ir77_eq : cFunc Try.prog 77 = some ir77 := by kernel_rfl
theorem call77 {args : List Value} {m : Mem} {Φ : Value → Mem → Prop} (h : args.length ≤ 13) : WPCall Try.prog 77 args m Φ = WP Try.prog ir77_b (initσ args) m (retK [] Φ) := wpCall_def ir77_eq h
/-- (drydock/mincost.queue).Swap -/
def ir78_b : ICode :=
  .region [
    ⟨0, some 6, none, .mov (.tmp 0), []⟩,
    ⟨1, some 7, none, .mov (.tmp 1), []⟩,
    ⟨2, some 8, none, .mov (.tmp 0), []⟩,
    ⟨3, some 9, none, .mov (.tmp 2), []⟩,
    ⟨4, some 10, none, .mov (.tmp 0), []⟩,
    ⟨5, some 11, none, .mov (.tmp 2), []⟩,
    ⟨6, some 12, none, .iaddr 2 (.tmp 10) (.tmp 11), []⟩,
    ⟨7, some 13, none, .load true 2 (.tmp 12), []⟩,
    ⟨8, some 14, none, .mov (.tmp 0), []⟩,
    ⟨9, some 15, none, .mov (.tmp 1), []⟩,
    ⟨10, some 16, none, .iaddr 2 (.tmp 14) (.tmp 15), []⟩,
    ⟨11, some 17, none, .load true 2 (.tmp 16), []⟩,
    ⟨12, some 18, none, .iaddr 2 (.tmp 6) (.tmp 7), []⟩,
    ⟨13, none, none, .store 2 (.tmp 18) (.tmp 13), []⟩,
    ⟨14, some 19, none, .iaddr 2 (.tmp 8) (.tmp 9), []⟩,
    ⟨15, none, none, .store 2 (.tmp 19) (.tmp 17), []⟩]
def ir78 : IFunc := ⟨20, [], ir78_b⟩
theorem ir78_eq : cFunc Try.prog 78 = some ir78 := by kernel_rfl
theorem call78 {args : List Value} {m : Mem} {Φ : Value → Mem → Prop} (h : args.length ≤ 20) : WPCall Try.prog 78 args m Φ = WP Try.prog ir78_b (initσ args) m (retK [] Φ) := wpCall_def ir78_eq h
end Go.Proofs.Ytapnkfkpkcajjaa
