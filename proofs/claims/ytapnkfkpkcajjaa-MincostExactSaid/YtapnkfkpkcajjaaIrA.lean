/-
  The intermediate forms of this seat's functions, written by a program of ours (wip/Ir.lean); each is checked against the loaded program.
-/
import Derived.Test.YtapnkfkpkcajjaaRows
import Derived.Test.YtapnkfkpkcajjaaFwX
namespace Go.Proofs.Ytapnkfkpkcajjaa
open Go Go.DI

/-- drydock/drydocklaw12.heavy -/
def ir15_b : ICode :=
  .seq (
  .region [
    ⟨0, some 1, none, .box (.tmp 0), []⟩,
    ⟨1, some 2, none, .mov (.const (.bool false)), []⟩]) (
  .seq (
  .region [
    ⟨0, some 3, none, .faddr 3 (.tmp 1), []⟩,
    ⟨1, some 4, none, .load false 1 (.tmp 3), []⟩,
    ⟨2, some 5, none, .lenV (.tmp 4), []⟩,
    ⟨3, some 6, none, .bin .gtr .other (.tmp 5) (.const (.int .i64 60)), []⟩,
    ⟨4, some 7, none, .mov (.tmp 6), []⟩,
    ⟨5, some 8, some (7, false), .faddr 0 (.tmp 1), []⟩,
    ⟨6, some 9, some (7, false), .load false 1 (.tmp 8), []⟩,
    ⟨7, some 10, some (7, false), .bin .gtr .other (.tmp 9) (.const (.int .i64 60)), []⟩,
    ⟨8, some 11, some (7, false), .mov (.tmp 10), []⟩,
    ⟨9, some 12, some (11, true), .faddr 0 (.tmp 1), []⟩,
    ⟨10, some 13, some (11, true), .load false 1 (.tmp 12), []⟩,
    ⟨11, some 14, some (11, true), .bin .leq .other (.tmp 13) (.const (.int .i64 700)), []⟩,
    ⟨12, some 15, some (7, false), .pick (.tmp 11) (.tmp 14) (.const (.bool false)), []⟩,
    ⟨13, some 16, none, .pick (.tmp 7) (.const (.bool true)) (.tmp 15), []⟩,
    ⟨14, some 2, none, .mov (.tmp 16), []⟩]) (
  .ret))
def ir15 : IFunc := ⟨17, [.tmp 2], ir15_b⟩
theorem ir15_eq : cFunc Try.prog 15 = some ir15 := by kernel_rfl
theorem call15 {args : List Value} {m : Mem} {Φ : Value → Mem → Prop} (h : args.length ≤ 17) : WPCall Try.prog 15 args m Φ = WP Try.prog ir15_b (initσ args) m (retK [.tmp 2] Φ) := wpCall_def ir15_eq h
/-- drydock/drydocklaw12.awake -/
def ir16_b : ICode :=
  .seq (
  .region [
    ⟨0, some 0, none, .mov (.const (.bool false)), []⟩]) (
  .seq (
  .region [
    ⟨0, some 10, none, .build [.int .i64 0, .int .i64 0, .int .i64 0, .int .i64 0] [(1, 1, .const (.int .i64 1)), (2, 1, .const (.int .i64 2))], []⟩,
    ⟨1, some 11, none, .build [.int .i64 0, .int .i64 0, .int .i64 0, .int .i64 0] [(0, 1, .const (.int .i64 1)), (1, 1, .const (.int .i64 2)), (2, 1, .const (.int .i64 3))], []⟩,
    ⟨2, some 12, none, .bslice 4 2 [.int .i64 0, .int .i64 0, .int .i64 0, .int .i64 0, .int .i64 0, .int .i64 0, .int .i64 0, .int .i64 0] [(0, 4, .tmp 10), (4, 4, .tmp 11)], []⟩,
    ⟨3, some 13, none, .build [.int .i64 0, .int .i64 0, .int .i64 0, .slice none 0 0] [(0, 1, .const (.int .i64 3)), (2, 1, .const (.int .i64 2)), (3, 1, .tmp 12)], []⟩,
    ⟨4, some 1, none, .alloc [.int .i64 0, .int .i64 0, .int .i64 0, .slice none 0 0], []⟩,
    ⟨5, none, none, .store 4 (.tmp 1) (.tmp 13), []⟩]) (
  .seq (
  .region [
    ⟨0, some 15, none, .load true 4 (.tmp 1), []⟩,
    ⟨1, some 16, none, .call 25 [.tmp 15], []⟩,
    ⟨2, some 14, none, .mov (.tmp 16), []⟩,
    ⟨3, some 17, none, .ext 0 (.tmp 14), []⟩,
    ⟨4, some 18, none, .ext 1 (.tmp 14), []⟩,
    ⟨5, some 19, none, .ext 2 (.tmp 14), []⟩,
    ⟨6, some 20, none, .ext 3 (.tmp 14), []⟩,
    ⟨7, some 2, none, .mov (.tmp 17), []⟩,
    ⟨8, some 3, none, .mov (.tmp 18), []⟩,
    ⟨9, some 4, none, .mov (.tmp 19), []⟩,
    ⟨10, some 5, none, .mov (.tmp 20), []⟩]) (
  .seq (
  .region [
    ⟨0, some 22, none, .build [.int .i64 0, .int .i64 0, .int .i64 0, .slice none 0 0] [], []⟩,
    ⟨1, some 23, none, .call 25 [.tmp 22], []⟩,
    ⟨2, some 21, none, .mov (.tmp 23), []⟩,
    ⟨3, some 24, none, .ext 0 (.tmp 21), []⟩,
    ⟨4, some 25, none, .ext 1 (.tmp 21), []⟩,
    ⟨5, some 26, none, .ext 2 (.tmp 21), []⟩,
    ⟨6, some 27, none, .ext 3 (.tmp 21), []⟩,
    ⟨7, some 6, none, .mov (.tmp 24), []⟩,
    ⟨8, some 7, none, .mov (.tmp 25), []⟩,
    ⟨9, some 8, none, .mov (.tmp 26), []⟩,
    ⟨10, some 9, none, .mov (.tmp 27), []⟩]) (
  .seq (
  .region [
    ⟨0, some 28, none, .mov (.tmp 5), []⟩,
    ⟨1, some 29, none, .bin .eql .other (.tmp 28) (.const (.int .i64 0)), []⟩,
    ⟨2, some 30, none, .mov (.tmp 29), []⟩,
    ⟨3, some 31, some (30, true), .mov (.tmp 3), []⟩,
    ⟨4, some 32, some (30, true), .bin .eql .other (.tmp 31) (.const (.int .i64 2)), []⟩,
    ⟨5, some 33, none, .pick (.tmp 30) (.tmp 32) (.const (.bool false)), []⟩,
    ⟨6, some 34, none, .mov (.tmp 33), []⟩,
    ⟨7, some 35, some (34, true), .mov (.tmp 2), []⟩,
    ⟨8, some 36, some (34, true), .lenV (.tmp 35), []⟩,
    ⟨9, some 37, some (34, true), .bin .eql .other (.tmp 36) (.const (.int .i64 2)), []⟩,
    ⟨10, some 38, none, .pick (.tmp 34) (.tmp 37) (.const (.bool false)), []⟩,
    ⟨11, some 39, none, .mov (.tmp 38), []⟩,
    ⟨12, some 40, some (39, true), .mov (.tmp 4), []⟩,
    ⟨13, some 41, some (39, true), .lenV (.tmp 40), []⟩,
    ⟨14, some 42, some (39, true), .bin .eql .other (.tmp 41) (.const (.int .i64 3)), []⟩,
    ⟨15, some 43, none, .pick (.tmp 39) (.tmp 42) (.const (.bool false)), []⟩,
    ⟨16, some 44, none, .mov (.tmp 43), []⟩,
    ⟨17, some 45, some (44, true), .load true 4 (.tmp 1), []⟩,
    ⟨18, some 46, some (44, true), .mov (.tmp 2), []⟩,
    ⟨19, some 47, some (44, true), .mov (.tmp 4), []⟩,
    ⟨20, some 48, some (44, true), .call 23 [.tmp 45, .tmp 46, .tmp 47], []⟩,
    ⟨21, some 49, none, .pick (.tmp 44) (.tmp 48) (.const (.bool false)), []⟩,
    ⟨22, some 50, none, .mov (.tmp 49), []⟩,
    ⟨23, some 51, some (50, true), .load true 4 (.tmp 1), []⟩,
    ⟨24, some 52, some (50, true), .bslice 1 2 [.int .i64 0, .int .i64 0] [(0, 1, .const (.int .i64 1)), (1, 1, .const (.int .i64 1))], []⟩,
    ⟨25, some 53, some (50, true), .mov (.tmp 4), []⟩,
    ⟨26, some 54, some (50, true), .call 23 [.tmp 51, .tmp 52, .tmp 53], []⟩,
    ⟨27, some 55, some (50, true), .un .not (.tmp 54), []⟩,
    ⟨28, some 56, none, .pick (.tmp 50) (.tmp 55) (.const (.bool false)), []⟩,
    ⟨29, some 57, none, .mov (.tmp 56), []⟩,
    ⟨30, some 58, some (57, true), .mov (.tmp 9), []⟩,
    ⟨31, some 59, some (57, true), .bin .eql .other (.tmp 58) (.const (.int .i64 1)), []⟩,
    ⟨32, some 60, none, .pick (.tmp 57) (.tmp 59) (.const (.bool false)), []⟩,
    ⟨33, some 0, none, .mov (.tmp 60), []⟩]) (
  .ret)))))
def ir16 : IFunc := ⟨61, [.tmp 0], ir16_b⟩
theorem ir16_eq : cFunc Try.prog 16 = some ir16 := by kernel_rfl
theorem call16 {args : List Value} {m : Mem} {Φ : Value → Mem → Prop} (h : args.length ≤ 61) : WPCall Try.prog 16 args m Φ = WP Try.prog ir16_b (initσ args) m (retK [.tmp 0] Φ) := wpCall_def ir16_eq h
/-- drydock/maxflow.Value -/
def ir17_l0 : ICode :=
  .seq (
  .region [
    ⟨0, some 29, none, .bin .lss .other (.tmp 28) (.tmp 27), []⟩]) (
  .seq (
  .cond (.tmp 29) (
   .skip) (
   .exit 0)) (
  .seq (
  .block 1 (
  .seq (
  .region [
    ⟨0, some 30, none, .mov (.tmp 28), []⟩,
    ⟨1, some 31, none, .iaddr 4 (.tmp 26) (.tmp 28), []⟩,
    ⟨2, some 32, none, .load true 4 (.tmp 31), []⟩,
    ⟨3, some 8, none, .alloc [.int .i64 0, .int .i64 0, .int .i64 0, .int .i64 0], []⟩,
    ⟨4, some 7, none, .mov (.tmp 30), []⟩,
    ⟨5, none, none, .store 4 (.tmp 8) (.tmp 32), []⟩]) (
  .seq (
  .seq (
  .region [
    ⟨0, some 33, none, .mov (.tmp 1), []⟩,
    ⟨1, some 34, none, .mov (.tmp 7), []⟩,
    ⟨2, some 35, none, .iaddr 1 (.tmp 33) (.tmp 34), []⟩,
    ⟨3, some 36, none, .load false 1 (.tmp 35), []⟩,
    ⟨4, some 37, none, .bin .lss .other (.tmp 36) (.const (.int .i64 0)), []⟩,
    ⟨5, some 38, none, .mov (.tmp 37), []⟩,
    ⟨6, some 39, some (38, false), .mov (.tmp 1), []⟩,
    ⟨7, some 40, some (38, false), .mov (.tmp 7), []⟩,
    ⟨8, some 41, some (38, false), .iaddr 1 (.tmp 39) (.tmp 40), []⟩,
    ⟨9, some 42, some (38, false), .load false 1 (.tmp 41), []⟩,
    ⟨10, some 43, some (38, false), .faddr 2 (.tmp 8), []⟩,
    ⟨11, some 44, some (38, false), .load false 1 (.tmp 43), []⟩,
    ⟨12, some 45, some (38, false), .bin .gtr .other (.tmp 42) (.tmp 44), []⟩,
    ⟨13, some 46, none, .pick (.tmp 38) (.const (.bool true)) (.tmp 45), []⟩]) (
  .cond (.tmp 46) (
   .seq (
   .region [
     ⟨0, some 4, none, .mov (.const (.int .i64 0)), []⟩,
     ⟨1, some 5, none, .mov (.const (.bool false)), []⟩]) (
   .ret)) (
   .skip))) (
  .seq (
  .region [
    ⟨0, some 47, none, .mov (.tmp 6), []⟩,
    ⟨1, some 48, none, .faddr 0 (.tmp 8), []⟩,
    ⟨2, some 49, none, .load false 1 (.tmp 48), []⟩,
    ⟨3, some 50, none, .iaddr 1 (.tmp 47) (.tmp 49), []⟩,
    ⟨4, some 51, none, .load false 1 (.tmp 50), []⟩,
    ⟨5, some 52, none, .mov (.tmp 1), []⟩,
    ⟨6, some 53, none, .mov (.tmp 7), []⟩,
    ⟨7, some 54, none, .iaddr 1 (.tmp 52) (.tmp 53), []⟩,
    ⟨8, some 55, none, .load false 1 (.tmp 54), []⟩,
    ⟨9, some 56, none, .bin .add .other (.tmp 51) (.tmp 55), []⟩,
    ⟨10, some 57, none, .iaddr 1 (.tmp 47) (.tmp 49), []⟩,
    ⟨11, none, none, .store 1 (.tmp 57) (.tmp 56), []⟩]) (
  .region [
    ⟨0, some 58, none, .mov (.tmp 6), []⟩,
    ⟨1, some 59, none, .faddr 1 (.tmp 8), []⟩,
    ⟨2, some 60, none, .load false 1 (.tmp 59), []⟩,
    ⟨3, some 61, none, .iaddr 1 (.tmp 58) (.tmp 60), []⟩,
    ⟨4, some 62, none, .load false 1 (.tmp 61), []⟩,
    ⟨5, some 63, none, .mov (.tmp 1), []⟩,
    ⟨6, some 64, none, .mov (.tmp 7), []⟩,
    ⟨7, some 65, none, .iaddr 1 (.tmp 63) (.tmp 64), []⟩,
    ⟨8, some 66, none, .load false 1 (.tmp 65), []⟩,
    ⟨9, some 67, none, .bin .sub .other (.tmp 62) (.tmp 66), []⟩,
    ⟨10, some 68, none, .iaddr 1 (.tmp 58) (.tmp 60), []⟩,
    ⟨11, none, none, .store 1 (.tmp 68) (.tmp 67), []⟩]))))) (
  .region [
    ⟨0, some 69, none, .bin .add .other (.tmp 28) (.const (.int .i64 1)), []⟩,
    ⟨1, some 28, none, .mov (.tmp 69), []⟩])))
def ir17_l1 : ICode :=
  .seq (
  .region [
    ⟨0, some 73, none, .bin .lss .other (.tmp 72) (.tmp 71), []⟩]) (
  .seq (
  .cond (.tmp 73) (
   .skip) (
   .exit 2)) (
  .seq (
  .block 3 (
  .seq (
  .region [
    ⟨0, some 74, none, .mov (.tmp 72), []⟩,
    ⟨1, some 75, none, .iaddr 1 (.tmp 70) (.tmp 72), []⟩,
    ⟨2, some 76, none, .load false 1 (.tmp 75), []⟩,
    ⟨3, some 9, none, .mov (.tmp 74), []⟩,
    ⟨4, some 10, none, .mov (.tmp 76), []⟩]) (
  .seq (
  .region [
    ⟨0, some 77, none, .mov (.tmp 9), []⟩,
    ⟨1, some 78, none, .faddr 1 (.tmp 2), []⟩,
    ⟨2, some 79, none, .load false 1 (.tmp 78), []⟩,
    ⟨3, some 80, none, .bin .neq .other (.tmp 77) (.tmp 79), []⟩,
    ⟨4, some 81, none, .mov (.tmp 80), []⟩,
    ⟨5, some 82, some (81, true), .mov (.tmp 9), []⟩,
    ⟨6, some 83, some (81, true), .faddr 2 (.tmp 2), []⟩,
    ⟨7, some 84, some (81, true), .load false 1 (.tmp 83), []⟩,
    ⟨8, some 85, some (81, true), .bin .neq .other (.tmp 82) (.tmp 84), []⟩,
    ⟨9, some 86, none, .pick (.tmp 81) (.tmp 85) (.const (.bool false)), []⟩,
    ⟨10, some 87, none, .mov (.tmp 86), []⟩,
    ⟨11, some 88, some (87, true), .mov (.tmp 10), []⟩,
    ⟨12, some 89, some (87, true), .bin .neq .other (.tmp 88) (.const (.int .i64 0)), []⟩,
    ⟨13, some 90, none, .pick (.tmp 87) (.tmp 89) (.const (.bool false)), []⟩]) (
  .cond (.tmp 90) (
   .seq (
   .region [
     ⟨0, some 4, none, .mov (.const (.int .i64 0)), []⟩,
     ⟨1, some 5, none, .mov (.const (.bool false)), []⟩]) (
   .ret)) (
   .skip))))) (
  .region [
    ⟨0, some 91, none, .bin .add .other (.tmp 72) (.const (.int .i64 1)), []⟩,
    ⟨1, some 72, none, .mov (.tmp 91), []⟩])))
def ir17_b : ICode :=
  .seq (
  .region [
    ⟨0, some 2, none, .box (.tmp 0), []⟩,
    ⟨1, some 4, none, .mov (.const (.int .i64 0)), []⟩,
    ⟨2, some 5, none, .mov (.const (.bool false)), []⟩]) (
  .seq (
  .seq (
  .region [
    ⟨0, some 11, none, .load true 4 (.tmp 2), []⟩,
    ⟨1, some 12, none, .call 21 [.tmp 11], []⟩,
    ⟨2, some 13, none, .un .not (.tmp 12), []⟩,
    ⟨3, some 14, none, .mov (.tmp 13), []⟩,
    ⟨4, some 15, some (14, false), .mov (.tmp 1), []⟩,
    ⟨5, some 16, some (14, false), .lenV (.tmp 15), []⟩,
    ⟨6, some 17, some (14, false), .faddr 3 (.tmp 2), []⟩,
    ⟨7, some 18, some (14, false), .load false 1 (.tmp 17), []⟩,
    ⟨8, some 19, some (14, false), .lenV (.tmp 18), []⟩,
    ⟨9, some 20, some (14, false), .bin .neq .other (.tmp 16) (.tmp 19), []⟩,
    ⟨10, some 21, none, .pick (.tmp 14) (.const (.bool true)) (.tmp 20), []⟩]) (
  .cond (.tmp 21) (
   .seq (
   .region [
     ⟨0, some 4, none, .mov (.const (.int .i64 0)), []⟩,
     ⟨1, some 5, none, .mov (.const (.bool false)), []⟩]) (
   .ret)) (
   .skip))) (
  .seq (
  .region [
    ⟨0, some 22, none, .faddr 0 (.tmp 2), []⟩,
    ⟨1, some 23, none, .load false 1 (.tmp 22), []⟩,
    ⟨2, some 24, none, .mkslice 1 8 [.int .i64 0] (.tmp 23) (.tmp 23), []⟩,
    ⟨3, some 6, none, .mov (.tmp 24), []⟩]) (
  .seq (
  .seq (
  .region [
    ⟨0, some 25, none, .faddr 3 (.tmp 2), []⟩,
    ⟨1, some 26, none, .load false 1 (.tmp 25), []⟩,
    ⟨2, some 27, none, .lenV (.tmp 26), []⟩,
    ⟨3, some 28, none, .mov (.const (.int .i64 0)), []⟩]) (
  .block 0 (
  .loop ir17_l0))) (
  .seq (
  .seq (
  .region [
    ⟨0, some 70, none, .mov (.tmp 6), []⟩,
    ⟨1, some 71, none, .lenV (.tmp 70), []⟩,
    ⟨2, some 72, none, .mov (.const (.int .i64 0)), []⟩]) (
  .block 2 (
  .loop ir17_l1))) (
  .seq (
  .region [
    ⟨0, some 92, none, .mov (.tmp 6), []⟩,
    ⟨1, some 93, none, .faddr 1 (.tmp 2), []⟩,
    ⟨2, some 94, none, .load false 1 (.tmp 93), []⟩,
    ⟨3, some 95, none, .iaddr 1 (.tmp 92) (.tmp 94), []⟩,
    ⟨4, some 96, none, .load false 1 (.tmp 95), []⟩,
    ⟨5, some 4, none, .mov (.tmp 96), []⟩,
    ⟨6, some 5, none, .mov (.const (.bool true)), []⟩]) (
  .ret))))))
def ir17 : IFunc := ⟨97, [.tmp 4, .tmp 5], ir17_b⟩
theorem ir17_eq : cFunc Try.prog 17 = some ir17 := by kernel_rfl
theorem call17 {args : List Value} {m : Mem} {Φ : Value → Mem → Prop} (h : args.length ≤ 97) : WPCall Try.prog 17 args m Φ = WP Try.prog ir17_b (initσ args) m (retK [.tmp 4, .tmp 5] Φ) := wpCall_def ir17_eq h
/-- drydock/drydockref12.Value -/
def ir18_l0 : ICode :=
  .seq (
  .seq (
  .region [
    ⟨0, some 24, none, .mov (.tmp 7), []⟩,
    ⟨1, some 25, none, .mov (.tmp 1), []⟩,
    ⟨2, some 26, none, .lenV (.tmp 25), []⟩,
    ⟨3, some 27, none, .bin .lss .other (.tmp 24) (.tmp 26), []⟩]) (
  .cond (.tmp 27) (
   .skip) (
   .exit 0))) (
  .seq (
  .block 1 (
  .seq (
  .region [
    ⟨0, some 30, none, .faddr 3 (.tmp 2), []⟩,
    ⟨1, some 31, none, .load false 1 (.tmp 30), []⟩,
    ⟨2, some 32, none, .mov (.tmp 7), []⟩,
    ⟨3, some 33, none, .iaddr 4 (.tmp 31) (.tmp 32), []⟩,
    ⟨4, some 34, none, .load true 4 (.tmp 33), []⟩,
    ⟨5, some 8, none, .alloc [.int .i64 0, .int .i64 0, .int .i64 0, .int .i64 0], []⟩,
    ⟨6, none, none, .store 4 (.tmp 8) (.tmp 34), []⟩]) (
  .seq (
  .seq (
  .region [
    ⟨0, some 35, none, .mov (.tmp 1), []⟩,
    ⟨1, some 36, none, .mov (.tmp 7), []⟩,
    ⟨2, some 37, none, .iaddr 1 (.tmp 35) (.tmp 36), []⟩,
    ⟨3, some 38, none, .load false 1 (.tmp 37), []⟩,
    ⟨4, some 39, none, .bin .lss .other (.tmp 38) (.const (.int .i64 0)), []⟩,
    ⟨5, some 40, none, .mov (.tmp 39), []⟩,
    ⟨6, some 41, some (40, false), .mov (.tmp 1), []⟩,
    ⟨7, some 42, some (40, false), .mov (.tmp 7), []⟩,
    ⟨8, some 43, some (40, false), .iaddr 1 (.tmp 41) (.tmp 42), []⟩,
    ⟨9, some 44, some (40, false), .load false 1 (.tmp 43), []⟩,
    ⟨10, some 45, some (40, false), .faddr 2 (.tmp 8), []⟩,
    ⟨11, some 46, some (40, false), .load false 1 (.tmp 45), []⟩,
    ⟨12, some 47, some (40, false), .bin .gtr .other (.tmp 44) (.tmp 46), []⟩,
    ⟨13, some 48, none, .pick (.tmp 40) (.const (.bool true)) (.tmp 47), []⟩]) (
  .cond (.tmp 48) (
   .seq (
   .region [
     ⟨0, some 4, none, .mov (.const (.int .i64 0)), []⟩,
     ⟨1, some 5, none, .mov (.const (.bool false)), []⟩]) (
   .ret)) (
   .skip))) (
  .seq (
  .region [
    ⟨0, some 49, none, .mov (.tmp 6), []⟩,
    ⟨1, some 50, none, .faddr 0 (.tmp 8), []⟩,
    ⟨2, some 51, none, .load false 1 (.tmp 50), []⟩,
    ⟨3, some 52, none, .mov (.tmp 6), []⟩,
    ⟨4, some 53, none, .faddr 0 (.tmp 8), []⟩,
    ⟨5, some 54, none, .load false 1 (.tmp 53), []⟩,
    ⟨6, some 55, none, .iaddr 1 (.tmp 52) (.tmp 54), []⟩,
    ⟨7, some 56, none, .load false 1 (.tmp 55), []⟩,
    ⟨8, some 57, none, .mov (.tmp 1), []⟩,
    ⟨9, some 58, none, .mov (.tmp 7), []⟩,
    ⟨10, some 59, none, .iaddr 1 (.tmp 57) (.tmp 58), []⟩,
    ⟨11, some 60, none, .load false 1 (.tmp 59), []⟩,
    ⟨12, some 61, none, .bin .add .other (.tmp 56) (.tmp 60), []⟩,
    ⟨13, some 62, none, .iaddr 1 (.tmp 49) (.tmp 51), []⟩,
    ⟨14, none, none, .store 1 (.tmp 62) (.tmp 61), []⟩]) (
  .region [
    ⟨0, some 63, none, .mov (.tmp 6), []⟩,
    ⟨1, some 64, none, .faddr 1 (.tmp 8), []⟩,
    ⟨2, some 65, none, .load false 1 (.tmp 64), []⟩,
    ⟨3, some 66, none, .mov (.tmp 6), []⟩,
    ⟨4, some 67, none, .faddr 1 (.tmp 8), []⟩,
    ⟨5, some 68, none, .load false 1 (.tmp 67), []⟩,
    ⟨6, some 69, none, .iaddr 1 (.tmp 66) (.tmp 68), []⟩,
    ⟨7, some 70, none, .load false 1 (.tmp 69), []⟩,
    ⟨8, some 71, none, .mov (.tmp 1), []⟩,
    ⟨9, some 72, none, .mov (.tmp 7), []⟩,
    ⟨10, some 73, none, .iaddr 1 (.tmp 71) (.tmp 72), []⟩,
    ⟨11, some 74, none, .load false 1 (.tmp 73), []⟩,
    ⟨12, some 75, none, .bin .sub .other (.tmp 70) (.tmp 74), []⟩,
    ⟨13, some 76, none, .iaddr 1 (.tmp 63) (.tmp 65), []⟩,
    ⟨14, none, none, .store 1 (.tmp 76) (.tmp 75), []⟩]))))) (
  .region [
    ⟨0, some 28, none, .mov (.tmp 7), []⟩,
    ⟨1, some 29, none, .bin .add .other (.tmp 28) (.const (.int .i64 1)), []⟩,
    ⟨2, some 7, none, .mov (.tmp 29), []⟩]))
def ir18_l1 : ICode :=
  .seq (
  .seq (
  .region [
    ⟨0, some 77, none, .mov (.tmp 9), []⟩,
    ⟨1, some 78, none, .faddr 0 (.tmp 2), []⟩,
    ⟨2, some 79, none, .load false 1 (.tmp 78), []⟩,
    ⟨3, some 80, none, .bin .lss .other (.tmp 77) (.tmp 79), []⟩]) (
  .cond (.tmp 80) (
   .skip) (
   .exit 2))) (
  .seq (
  .block 3 (
  .seq (
  .region [
    ⟨0, some 83, none, .mov (.tmp 9), []⟩,
    ⟨1, some 84, none, .faddr 1 (.tmp 2), []⟩,
    ⟨2, some 85, none, .load false 1 (.tmp 84), []⟩,
    ⟨3, some 86, none, .bin .neq .other (.tmp 83) (.tmp 85), []⟩,
    ⟨4, some 87, none, .mov (.tmp 86), []⟩,
    ⟨5, some 88, some (87, true), .mov (.tmp 9), []⟩,
    ⟨6, some 89, some (87, true), .faddr 2 (.tmp 2), []⟩,
    ⟨7, some 90, some (87, true), .load false 1 (.tmp 89), []⟩,
    ⟨8, some 91, some (87, true), .bin .neq .other (.tmp 88) (.tmp 90), []⟩,
    ⟨9, some 92, none, .pick (.tmp 87) (.tmp 91) (.const (.bool false)), []⟩,
    ⟨10, some 93, none, .mov (.tmp 92), []⟩,
    ⟨11, some 94, some (93, true), .mov (.tmp 6), []⟩,
    ⟨12, some 95, some (93, true), .mov (.tmp 9), []⟩,
    ⟨13, some 96, some (93, true), .iaddr 1 (.tmp 94) (.tmp 95), []⟩,
    ⟨14, some 97, some (93, true), .load false 1 (.tmp 96), []⟩,
    ⟨15, some 98, some (93, true), .bin .neq .other (.tmp 97) (.const (.int .i64 0)), []⟩,
    ⟨16, some 99, none, .pick (.tmp 93) (.tmp 98) (.const (.bool false)), []⟩]) (
  .cond (.tmp 99) (
   .seq (
   .region [
     ⟨0, some 4, none, .mov (.const (.int .i64 0)), []⟩,
     ⟨1, some 5, none, .mov (.const (.bool false)), []⟩]) (
   .ret)) (
   .skip)))) (
  .region [
    ⟨0, some 81, none, .mov (.tmp 9), []⟩,
    ⟨1, some 82, none, .bin .add .other (.tmp 81) (.const (.int .i64 1)), []⟩,
    ⟨2, some 9, none, .mov (.tmp 82), []⟩]))
def ir18_b : ICode :=
  .seq (
  .region [
    ⟨0, some 2, none, .box (.tmp 0), []⟩,
    ⟨1, some 4, none, .mov (.const (.int .i64 0)), []⟩,
    ⟨2, some 5, none, .mov (.const (.bool false)), []⟩]) (
  .seq (
  .seq (
  .region [
    ⟨0, some 10, none, .load true 4 (.tmp 2), []⟩,
    ⟨1, some 11, none, .call 22 [.tmp 10], []⟩,
    ⟨2, some 12, none, .un .not (.tmp 11), []⟩,
    ⟨3, some 13, none, .mov (.tmp 12), []⟩,
    ⟨4, some 14, some (13, false), .mov (.tmp 1), []⟩,
    ⟨5, some 15, some (13, false), .lenV (.tmp 14), []⟩,
    ⟨6, some 16, some (13, false), .faddr 3 (.tmp 2), []⟩,
    ⟨7, some 17, some (13, false), .load false 1 (.tmp 16), []⟩,
    ⟨8, some 18, some (13, false), .lenV (.tmp 17), []⟩,
    ⟨9, some 19, some (13, false), .bin .neq .other (.tmp 15) (.tmp 18), []⟩,
    ⟨10, some 20, none, .pick (.tmp 13) (.const (.bool true)) (.tmp 19), []⟩]) (
  .cond (.tmp 20) (
   .seq (
   .region [
     ⟨0, some 4, none, .mov (.const (.int .i64 0)), []⟩,
     ⟨1, some 5, none, .mov (.const (.bool false)), []⟩]) (
   .ret)) (
   .skip))) (
  .seq (
  .region [
    ⟨0, some 21, none, .faddr 0 (.tmp 2), []⟩,
    ⟨1, some 22, none, .load false 1 (.tmp 21), []⟩,
    ⟨2, some 23, none, .mkslice 1 8 [.int .i64 0] (.tmp 22) (.tmp 22), []⟩,
    ⟨3, some 6, none, .mov (.tmp 23), []⟩]) (
  .seq (
  .seq (
  .region [
    ⟨0, some 7, none, .mov (.const (.int .i64 0)), []⟩]) (
  .block 0 (
  .loop ir18_l0))) (
  .seq (
  .seq (
  .region [
    ⟨0, some 9, none, .mov (.const (.int .i64 0)), []⟩]) (
  .block 2 (
  .loop ir18_l1))) (
  .seq (
  .region [
    ⟨0, some 100, none, .mov (.tmp 6), []⟩,
    ⟨1, some 101, none, .faddr 1 (.tmp 2), []⟩,
    ⟨2, some 102, none, .load false 1 (.tmp 101), []⟩,
    ⟨3, some 103, none, .iaddr 1 (.tmp 100) (.tmp 102), []⟩,
    ⟨4, some 104, none, .load false 1 (.tmp 103), []⟩,
    ⟨5, some 4, none, .mov (.tmp 104), []⟩,
    ⟨6, some 5, none, .mov (.const (.bool true)), []⟩]) (
  .ret))))))
def ir18 : IFunc := ⟨105, [.tmp 4, .tmp 5], ir18_b⟩
theorem ir18_eq : cFunc Try.prog 18 = some ir18 := by kernel_rfl
theorem call18 {args : List Value} {m : Mem} {Φ : Value → Mem → Prop} (h : args.length ≤ 105) : WPCall Try.prog 18 args m Φ = WP Try.prog ir18_b (initσ args) m (retK [.tmp 4, .tmp 5] Φ) := wpCall_def ir18_eq h
/-- drydock/maxflow.Capacity -/
def ir19_l0 : ICode :=
  .seq (
  .region [
    ⟨0, some 38, none, .bin .lss .other (.tmp 37) (.tmp 36), []⟩]) (
  .seq (
  .cond (.tmp 38) (
   .skip) (
   .exit 0)) (
  .seq (
  .block 1 (
  .seq (
  .region [
    ⟨0, some 39, none, .iaddr 4 (.tmp 35) (.tmp 37), []⟩,
    ⟨1, some 40, none, .load true 4 (.tmp 39), []⟩,
    ⟨2, some 8, none, .alloc [.int .i64 0, .int .i64 0, .int .i64 0, .int .i64 0], []⟩,
    ⟨3, none, none, .store 4 (.tmp 8) (.tmp 40), []⟩]) (
  .seq (
  .region [
    ⟨0, some 41, none, .mov (.tmp 1), []⟩,
    ⟨1, some 42, none, .faddr 0 (.tmp 8), []⟩,
    ⟨2, some 43, none, .load false 1 (.tmp 42), []⟩,
    ⟨3, some 44, none, .iaddr 1 (.tmp 41) (.tmp 43), []⟩,
    ⟨4, some 45, none, .load false 1 (.tmp 44), []⟩,
    ⟨5, some 46, none, .mov (.tmp 45), []⟩,
    ⟨6, some 47, some (46, true), .mov (.tmp 1), []⟩,
    ⟨7, some 48, some (46, true), .faddr 1 (.tmp 8), []⟩,
    ⟨8, some 49, some (46, true), .load false 1 (.tmp 48), []⟩,
    ⟨9, some 50, some (46, true), .iaddr 1 (.tmp 47) (.tmp 49), []⟩,
    ⟨10, some 51, some (46, true), .load false 1 (.tmp 50), []⟩,
    ⟨11, some 52, some (46, true), .un .not (.tmp 51), []⟩,
    ⟨12, some 53, none, .pick (.tmp 46) (.tmp 52) (.const (.bool false)), []⟩]) (
  .cond (.tmp 53) (
   .region [
     ⟨0, some 54, none, .mov (.tmp 6), []⟩,
     ⟨1, some 55, none, .faddr 2 (.tmp 8), []⟩,
     ⟨2, some 56, none, .load false 1 (.tmp 55), []⟩,
     ⟨3, some 57, none, .bin .add .other (.tmp 54) (.tmp 56), []⟩,
     ⟨4, some 6, none, .mov (.tmp 57), []⟩]) (
   .skip))))) (
  .region [
    ⟨0, some 58, none, .bin .add .other (.tmp 37) (.const (.int .i64 1)), []⟩,
    ⟨1, some 37, none, .mov (.tmp 58), []⟩])))
def ir19_b : ICode :=
  .seq (
  .region [
    ⟨0, some 2, none, .box (.tmp 0), []⟩,
    ⟨1, some 4, none, .mov (.const (.int .i64 0)), []⟩,
    ⟨2, some 5, none, .mov (.const (.bool false)), []⟩]) (
  .seq (
  .seq (
  .region [
    ⟨0, some 9, none, .load true 4 (.tmp 2), []⟩,
    ⟨1, some 10, none, .call 21 [.tmp 9], []⟩,
    ⟨2, some 11, none, .un .not (.tmp 10), []⟩,
    ⟨3, some 12, none, .mov (.tmp 11), []⟩,
    ⟨4, some 13, some (12, false), .mov (.tmp 1), []⟩,
    ⟨5, some 14, some (12, false), .lenV (.tmp 13), []⟩,
    ⟨6, some 15, some (12, false), .faddr 0 (.tmp 2), []⟩,
    ⟨7, some 16, some (12, false), .load false 1 (.tmp 15), []⟩,
    ⟨8, some 17, some (12, false), .bin .neq .other (.tmp 14) (.tmp 16), []⟩,
    ⟨9, some 18, none, .pick (.tmp 12) (.const (.bool true)) (.tmp 17), []⟩,
    ⟨10, some 19, none, .mov (.tmp 18), []⟩,
    ⟨11, some 20, some (19, false), .mov (.tmp 1), []⟩,
    ⟨12, some 21, some (19, false), .faddr 1 (.tmp 2), []⟩,
    ⟨13, some 22, some (19, false), .load false 1 (.tmp 21), []⟩,
    ⟨14, some 23, some (19, false), .iaddr 1 (.tmp 20) (.tmp 22), []⟩,
    ⟨15, some 24, some (19, false), .load false 1 (.tmp 23), []⟩,
    ⟨16, some 25, some (19, false), .un .not (.tmp 24), []⟩,
    ⟨17, some 26, none, .pick (.tmp 19) (.const (.bool true)) (.tmp 25), []⟩,
    ⟨18, some 27, none, .mov (.tmp 26), []⟩,
    ⟨19, some 28, some (27, false), .mov (.tmp 1), []⟩,
    ⟨20, some 29, some (27, false), .faddr 2 (.tmp 2), []⟩,
    ⟨21, some 30, some (27, false), .load false 1 (.tmp 29), []⟩,
    ⟨22, some 31, some (27, false), .iaddr 1 (.tmp 28) (.tmp 30), []⟩,
    ⟨23, some 32, some (27, false), .load false 1 (.tmp 31), []⟩,
    ⟨24, some 33, none, .pick (.tmp 27) (.const (.bool true)) (.tmp 32), []⟩]) (
  .cond (.tmp 33) (
   .seq (
   .region [
     ⟨0, some 4, none, .mov (.const (.int .i64 0)), []⟩,
     ⟨1, some 5, none, .mov (.const (.bool false)), []⟩]) (
   .ret)) (
   .skip))) (
  .seq (
  .region [
    ⟨0, some 6, none, .mov (.const (.int .i64 0)), []⟩]) (
  .seq (
  .seq (
  .region [
    ⟨0, some 34, none, .faddr 3 (.tmp 2), []⟩,
    ⟨1, some 35, none, .load false 1 (.tmp 34), []⟩,
    ⟨2, some 36, none, .lenV (.tmp 35), []⟩,
    ⟨3, some 37, none, .mov (.const (.int .i64 0)), []⟩]) (
  .block 0 (
  .loop ir19_l0))) (
  .seq (
  .region [
    ⟨0, some 59, none, .mov (.tmp 6), []⟩,
    ⟨1, some 4, none, .mov (.tmp 59), []⟩,
    ⟨2, some 5, none, .mov (.const (.bool true)), []⟩]) (
  .ret)))))
def ir19 : IFunc := ⟨60, [.tmp 4, .tmp 5], ir19_b⟩
theorem ir19_eq : cFunc Try.prog 19 = some ir19 := by kernel_rfl
theorem call19 {args : List Value} {m : Mem} {Φ : Value → Mem → Prop} (h : args.length ≤ 60) : WPCall Try.prog 19 args m Φ = WP Try.prog ir19_b (initσ args) m (retK [.tmp 4, .tmp 5] Φ) := wpCall_def ir19_eq h
/-- drydock/drydockref12.Capacity -/
def ir20_l0 : ICode :=
  .seq (
  .seq (
  .region [
    ⟨0, some 33, none, .mov (.tmp 7), []⟩,
    ⟨1, some 34, none, .faddr 3 (.tmp 2), []⟩,
    ⟨2, some 35, none, .load false 1 (.tmp 34), []⟩,
    ⟨3, some 36, none, .lenV (.tmp 35), []⟩,
    ⟨4, some 37, none, .bin .lss .other (.tmp 33) (.tmp 36), []⟩]) (
  .cond (.tmp 37) (
   .skip) (
   .exit 0))) (
  .seq (
  .block 1 (
  .seq (
  .region [
    ⟨0, some 40, none, .mov (.tmp 1), []⟩,
    ⟨1, some 41, none, .faddr 3 (.tmp 2), []⟩,
    ⟨2, some 42, none, .load false 1 (.tmp 41), []⟩,
    ⟨3, some 43, none, .mov (.tmp 7), []⟩,
    ⟨4, some 44, none, .iaddr 4 (.tmp 42) (.tmp 43), []⟩,
    ⟨5, some 45, none, .faddr 0 (.tmp 44), []⟩,
    ⟨6, some 46, none, .load false 1 (.tmp 45), []⟩,
    ⟨7, some 47, none, .iaddr 1 (.tmp 40) (.tmp 46), []⟩,
    ⟨8, some 48, none, .load false 1 (.tmp 47), []⟩,
    ⟨9, some 49, none, .mov (.tmp 48), []⟩,
    ⟨10, some 50, some (49, true), .mov (.tmp 1), []⟩,
    ⟨11, some 51, some (49, true), .faddr 3 (.tmp 2), []⟩,
    ⟨12, some 52, some (49, true), .load false 1 (.tmp 51), []⟩,
    ⟨13, some 53, some (49, true), .mov (.tmp 7), []⟩,
    ⟨14, some 54, some (49, true), .iaddr 4 (.tmp 52) (.tmp 53), []⟩,
    ⟨15, some 55, some (49, true), .faddr 1 (.tmp 54), []⟩,
    ⟨16, some 56, some (49, true), .load false 1 (.tmp 55), []⟩,
    ⟨17, some 57, some (49, true), .iaddr 1 (.tmp 50) (.tmp 56), []⟩,
    ⟨18, some 58, some (49, true), .load false 1 (.tmp 57), []⟩,
    ⟨19, some 59, some (49, true), .un .not (.tmp 58), []⟩,
    ⟨20, some 60, none, .pick (.tmp 49) (.tmp 59) (.const (.bool false)), []⟩]) (
  .cond (.tmp 60) (
   .region [
     ⟨0, some 61, none, .mov (.tmp 6), []⟩,
     ⟨1, some 62, none, .faddr 3 (.tmp 2), []⟩,
     ⟨2, some 63, none, .load false 1 (.tmp 62), []⟩,
     ⟨3, some 64, none, .mov (.tmp 7), []⟩,
     ⟨4, some 65, none, .iaddr 4 (.tmp 63) (.tmp 64), []⟩,
     ⟨5, some 66, none, .faddr 2 (.tmp 65), []⟩,
     ⟨6, some 67, none, .load false 1 (.tmp 66), []⟩,
     ⟨7, some 68, none, .bin .add .other (.tmp 61) (.tmp 67), []⟩,
     ⟨8, some 6, none, .mov (.tmp 68), []⟩]) (
   .skip)))) (
  .region [
    ⟨0, some 38, none, .mov (.tmp 7), []⟩,
    ⟨1, some 39, none, .bin .add .other (.tmp 38) (.const (.int .i64 1)), []⟩,
    ⟨2, some 7, none, .mov (.tmp 39), []⟩]))
def ir20_b : ICode :=
  .seq (
  .region [
    ⟨0, some 2, none, .box (.tmp 0), []⟩,
    ⟨1, some 4, none, .mov (.const (.int .i64 0)), []⟩,
    ⟨2, some 5, none, .mov (.const (.bool false)), []⟩]) (
  .seq (
  .seq (
  .region [
    ⟨0, some 8, none, .load true 4 (.tmp 2), []⟩,
    ⟨1, some 9, none, .call 22 [.tmp 8], []⟩,
    ⟨2, some 10, none, .un .not (.tmp 9), []⟩,
    ⟨3, some 11, none, .mov (.tmp 10), []⟩,
    ⟨4, some 12, some (11, false), .mov (.tmp 1), []⟩,
    ⟨5, some 13, some (11, false), .lenV (.tmp 12), []⟩,
    ⟨6, some 14, some (11, false), .faddr 0 (.tmp 2), []⟩,
    ⟨7, some 15, some (11, false), .load false 1 (.tmp 14), []⟩,
    ⟨8, some 16, some (11, false), .bin .neq .other (.tmp 13) (.tmp 15), []⟩,
    ⟨9, some 17, none, .pick (.tmp 11) (.const (.bool true)) (.tmp 16), []⟩,
    ⟨10, some 18, none, .mov (.tmp 17), []⟩,
    ⟨11, some 19, some (18, false), .mov (.tmp 1), []⟩,
    ⟨12, some 20, some (18, false), .faddr 1 (.tmp 2), []⟩,
    ⟨13, some 21, some (18, false), .load false 1 (.tmp 20), []⟩,
    ⟨14, some 22, some (18, false), .iaddr 1 (.tmp 19) (.tmp 21), []⟩,
    ⟨15, some 23, some (18, false), .load false 1 (.tmp 22), []⟩,
    ⟨16, some 24, some (18, false), .un .not (.tmp 23), []⟩,
    ⟨17, some 25, none, .pick (.tmp 18) (.const (.bool true)) (.tmp 24), []⟩,
    ⟨18, some 26, none, .mov (.tmp 25), []⟩,
    ⟨19, some 27, some (26, false), .mov (.tmp 1), []⟩,
    ⟨20, some 28, some (26, false), .faddr 2 (.tmp 2), []⟩,
    ⟨21, some 29, some (26, false), .load false 1 (.tmp 28), []⟩,
    ⟨22, some 30, some (26, false), .iaddr 1 (.tmp 27) (.tmp 29), []⟩,
    ⟨23, some 31, some (26, false), .load false 1 (.tmp 30), []⟩,
    ⟨24, some 32, none, .pick (.tmp 26) (.const (.bool true)) (.tmp 31), []⟩]) (
  .cond (.tmp 32) (
   .seq (
   .region [
     ⟨0, some 4, none, .mov (.const (.int .i64 0)), []⟩,
     ⟨1, some 5, none, .mov (.const (.bool false)), []⟩]) (
   .ret)) (
   .skip))) (
  .seq (
  .region [
    ⟨0, some 6, none, .mov (.const (.int .i64 0)), []⟩]) (
  .seq (
  .seq (
  .region [
    ⟨0, some 7, none, .mov (.const (.int .i64 0)), []⟩]) (
  .block 0 (
  .loop ir20_l0))) (
  .seq (
  .region [
    ⟨0, some 69, none, .mov (.tmp 6), []⟩,
    ⟨1, some 4, none, .mov (.tmp 69), []⟩,
    ⟨2, some 5, none, .mov (.const (.bool true)), []⟩]) (
  .ret)))))
def ir20 : IFunc := ⟨70, [.tmp 4, .tmp 5], ir20_b⟩
theorem ir20_eq : cFunc Try.prog 20 = some ir20 := by kernel_rfl
theorem call20 {args : List Value} {m : Mem} {Φ : Value → Mem → Prop} (h : args.length ≤ 70) : WPCall Try.prog 20 args m Φ = WP Try.prog ir20_b (initσ args) m (retK [.tmp 4, .tmp 5] Φ) := wpCall_def ir20_eq h
/-- drydock/maxflow.Valid -/
def ir21_l0 : ICode :=
  .seq (
  .region [
    ⟨0, some 46, none, .bin .lss .other (.tmp 45) (.tmp 44), []⟩]) (
  .seq (
  .cond (.tmp 46) (
   .skip) (
   .exit 0)) (
  .seq (
  .block 1 (
  .seq (
  .region [
    ⟨0, some 47, none, .iaddr 4 (.tmp 43) (.tmp 45), []⟩,
    ⟨1, some 48, none, .load true 4 (.tmp 47), []⟩,
    ⟨2, some 5, none, .alloc [.int .i64 0, .int .i64 0, .int .i64 0, .int .i64 0], []⟩,
    ⟨3, none, none, .store 4 (.tmp 5) (.tmp 48), []⟩]) (
  .seq (
  .region [
    ⟨0, some 49, none, .mov (.tmp 3), []⟩,
    ⟨1, some 50, none, .faddr 0 (.tmp 5), []⟩,
    ⟨2, some 51, none, .load false 1 (.tmp 50), []⟩,
    ⟨3, some 52, none, .callv (.tmp 49) [.tmp 51], []⟩,
    ⟨4, some 53, none, .un .not (.tmp 52), []⟩,
    ⟨5, some 54, none, .mov (.tmp 53), []⟩,
    ⟨6, some 55, some (54, false), .mov (.tmp 3), []⟩,
    ⟨7, some 56, some (54, false), .faddr 1 (.tmp 5), []⟩,
    ⟨8, some 57, some (54, false), .load false 1 (.tmp 56), []⟩,
    ⟨9, some 58, some (54, false), .callv (.tmp 55) [.tmp 57], []⟩,
    ⟨10, some 59, some (54, false), .un .not (.tmp 58), []⟩,
    ⟨11, some 60, none, .pick (.tmp 54) (.const (.bool true)) (.tmp 59), []⟩,
    ⟨12, some 61, none, .mov (.tmp 60), []⟩,
    ⟨13, some 62, some (61, false), .faddr 2 (.tmp 5), []⟩,
    ⟨14, some 63, some (61, false), .load false 1 (.tmp 62), []⟩,
    ⟨15, some 64, some (61, false), .bin .lss .other (.tmp 63) (.const (.int .i64 0)), []⟩,
    ⟨16, some 65, none, .pick (.tmp 61) (.const (.bool true)) (.tmp 64), []⟩,
    ⟨17, some 66, none, .mov (.tmp 65), []⟩,
    ⟨18, some 67, some (66, false), .faddr 2 (.tmp 5), []⟩,
    ⟨19, some 68, some (66, false), .load false 1 (.tmp 67), []⟩,
    ⟨20, some 69, some (66, false), .bin .gtr .other (.tmp 68) (.const (.int .i64 2147483647)), []⟩,
    ⟨21, some 70, none, .pick (.tmp 66) (.const (.bool true)) (.tmp 69), []⟩]) (
  .cond (.tmp 70) (
   .seq (
   .region [
     ⟨0, some 2, none, .mov (.const (.bool false)), []⟩]) (
   .ret)) (
   .skip))))) (
  .region [
    ⟨0, some 71, none, .bin .add .other (.tmp 45) (.const (.int .i64 1)), []⟩,
    ⟨1, some 45, none, .mov (.tmp 71), []⟩])))
def ir21_b : ICode :=
  .seq (
  .region [
    ⟨0, some 1, none, .box (.tmp 0), []⟩,
    ⟨1, some 2, none, .mov (.const (.bool false)), []⟩]) (
  .seq (
  .region [
    ⟨0, some 6, none, .mkfunc (.func 43) [] [.tmp 1], []⟩,
    ⟨1, some 3, none, .mov (.tmp 6), []⟩]) (
  .seq (
  .seq (
  .region [
    ⟨0, some 7, none, .faddr 0 (.tmp 1), []⟩,
    ⟨1, some 8, none, .load false 1 (.tmp 7), []⟩,
    ⟨2, some 9, none, .bin .lss .other (.tmp 8) (.const (.int .i64 2)), []⟩,
    ⟨3, some 10, none, .mov (.tmp 9), []⟩,
    ⟨4, some 11, some (10, false), .faddr 0 (.tmp 1), []⟩,
    ⟨5, some 12, some (10, false), .load false 1 (.tmp 11), []⟩,
    ⟨6, some 13, some (10, false), .bin .gtr .other (.tmp 12) (.const (.int .i64 700)), []⟩,
    ⟨7, some 14, none, .pick (.tmp 10) (.const (.bool true)) (.tmp 13), []⟩,
    ⟨8, some 15, none, .mov (.tmp 14), []⟩,
    ⟨9, some 16, some (15, false), .faddr 3 (.tmp 1), []⟩,
    ⟨10, some 17, some (15, false), .load false 1 (.tmp 16), []⟩,
    ⟨11, some 18, some (15, false), .lenV (.tmp 17), []⟩,
    ⟨12, some 19, some (15, false), .bin .gtr .other (.tmp 18) (.const (.int .i64 2500)), []⟩,
    ⟨13, some 20, none, .pick (.tmp 15) (.const (.bool true)) (.tmp 19), []⟩,
    ⟨14, some 21, none, .mov (.tmp 20), []⟩,
    ⟨15, some 22, some (21, false), .mov (.tmp 3), []⟩,
    ⟨16, some 23, some (21, false), .faddr 1 (.tmp 1), []⟩,
    ⟨17, some 24, some (21, false), .load false 1 (.tmp 23), []⟩,
    ⟨18, some 25, some (21, false), .callv (.tmp 22) [.tmp 24], []⟩,
    ⟨19, some 26, some (21, false), .un .not (.tmp 25), []⟩,
    ⟨20, some 27, none, .pick (.tmp 21) (.const (.bool true)) (.tmp 26), []⟩,
    ⟨21, some 28, none, .mov (.tmp 27), []⟩,
    ⟨22, some 29, some (28, false), .mov (.tmp 3), []⟩,
    ⟨23, some 30, some (28, false), .faddr 2 (.tmp 1), []⟩,
    ⟨24, some 31, some (28, false), .load false 1 (.tmp 30), []⟩,
    ⟨25, some 32, some (28, false), .callv (.tmp 29) [.tmp 31], []⟩,
    ⟨26, some 33, some (28, false), .un .not (.tmp 32), []⟩,
    ⟨27, some 34, none, .pick (.tmp 28) (.const (.bool true)) (.tmp 33), []⟩,
    ⟨28, some 35, none, .mov (.tmp 34), []⟩,
    ⟨29, some 36, some (35, false), .faddr 1 (.tmp 1), []⟩,
    ⟨30, some 37, some (35, false), .load false 1 (.tmp 36), []⟩,
    ⟨31, some 38, some (35, false), .faddr 2 (.tmp 1), []⟩,
    ⟨32, some 39, some (35, false), .load false 1 (.tmp 38), []⟩,
    ⟨33, some 40, some (35, false), .bin .eql .other (.tmp 37) (.tmp 39), []⟩,
    ⟨34, some 41, none, .pick (.tmp 35) (.const (.bool true)) (.tmp 40), []⟩]) (
  .cond (.tmp 41) (
   .seq (
   .region [
     ⟨0, some 2, none, .mov (.const (.bool false)), []⟩]) (
   .ret)) (
   .skip))) (
  .seq (
  .seq (
  .region [
    ⟨0, some 42, none, .faddr 3 (.tmp 1), []⟩,
    ⟨1, some 43, none, .load false 1 (.tmp 42), []⟩,
    ⟨2, some 44, none, .lenV (.tmp 43), []⟩,
    ⟨3, some 45, none, .mov (.const (.int .i64 0)), []⟩]) (
  .block 0 (
  .loop ir21_l0))) (
  .seq (
  .region [
    ⟨0, some 2, none, .mov (.const (.bool true)), []⟩]) (
  .ret)))))
def ir21 : IFunc := ⟨72, [.tmp 2], ir21_b⟩
theorem ir21_eq : cFunc Try.prog 21 = some ir21 := by kernel_rfl
theorem call21 {args : List Value} {m : Mem} {Φ : Value → Mem → Prop} (h : args.length ≤ 72) : WPCall Try.prog 21 args m Φ = WP Try.prog ir21_b (initσ args) m (retK [.tmp 2] Φ) := wpCall_def ir21_eq h
/-- drydock/drydockref12.Valid -/
def ir22_l0 : ICode :=
  .seq (
  .seq (
  .region [
    ⟨0, some 50, none, .mov (.tmp 3), []⟩,
    ⟨1, some 51, none, .faddr 3 (.tmp 1), []⟩,
    ⟨2, some 52, none, .load false 1 (.tmp 51), []⟩,
    ⟨3, some 53, none, .lenV (.tmp 52), []⟩,
    ⟨4, some 54, none, .bin .lss .other (.tmp 50) (.tmp 53), []⟩]) (
  .cond (.tmp 54) (
   .skip) (
   .exit 0))) (
  .seq (
  .block 1 (
  .seq (
  .region [
    ⟨0, some 57, none, .faddr 3 (.tmp 1), []⟩,
    ⟨1, some 58, none, .load false 1 (.tmp 57), []⟩,
    ⟨2, some 59, none, .mov (.tmp 3), []⟩,
    ⟨3, some 60, none, .iaddr 4 (.tmp 58) (.tmp 59), []⟩,
    ⟨4, some 61, none, .load true 4 (.tmp 60), []⟩,
    ⟨5, some 4, none, .alloc [.int .i64 0, .int .i64 0, .int .i64 0, .int .i64 0], []⟩,
    ⟨6, none, none, .store 4 (.tmp 4) (.tmp 61), []⟩]) (
  .seq (
  .region [
    ⟨0, some 62, none, .faddr 0 (.tmp 4), []⟩,
    ⟨1, some 63, none, .load false 1 (.tmp 62), []⟩,
    ⟨2, some 64, none, .bin .lss .other (.tmp 63) (.const (.int .i64 0)), []⟩,
    ⟨3, some 65, none, .mov (.tmp 64), []⟩,
    ⟨4, some 66, some (65, false), .faddr 0 (.tmp 4), []⟩,
    ⟨5, some 67, some (65, false), .load false 1 (.tmp 66), []⟩,
    ⟨6, some 68, some (65, false), .faddr 0 (.tmp 1), []⟩,
    ⟨7, some 69, some (65, false), .load false 1 (.tmp 68), []⟩,
    ⟨8, some 70, some (65, false), .bin .geq .other (.tmp 67) (.tmp 69), []⟩,
    ⟨9, some 71, none, .pick (.tmp 65) (.const (.bool true)) (.tmp 70), []⟩,
    ⟨10, some 72, none, .mov (.tmp 71), []⟩,
    ⟨11, some 73, some (72, false), .faddr 1 (.tmp 4), []⟩,
    ⟨12, some 74, some (72, false), .load false 1 (.tmp 73), []⟩,
    ⟨13, some 75, some (72, false), .bin .lss .other (.tmp 74) (.const (.int .i64 0)), []⟩,
    ⟨14, some 76, none, .pick (.tmp 72) (.const (.bool true)) (.tmp 75), []⟩,
    ⟨15, some 77, none, .mov (.tmp 76), []⟩,
    ⟨16, some 78, some (77, false), .faddr 1 (.tmp 4), []⟩,
    ⟨17, some 79, some (77, false), .load false 1 (.tmp 78), []⟩,
    ⟨18, some 80, some (77, false), .faddr 0 (.tmp 1), []⟩,
    ⟨19, some 81, some (77, false), .load false 1 (.tmp 80), []⟩,
    ⟨20, some 82, some (77, false), .bin .geq .other (.tmp 79) (.tmp 81), []⟩,
    ⟨21, some 83, none, .pick (.tmp 77) (.const (.bool true)) (.tmp 82), []⟩,
    ⟨22, some 84, none, .mov (.tmp 83), []⟩,
    ⟨23, some 85, some (84, false), .faddr 2 (.tmp 4), []⟩,
    ⟨24, some 86, some (84, false), .load false 1 (.tmp 85), []⟩,
    ⟨25, some 87, some (84, false), .bin .lss .other (.tmp 86) (.const (.int .i64 0)), []⟩,
    ⟨26, some 88, none, .pick (.tmp 84) (.const (.bool true)) (.tmp 87), []⟩,
    ⟨27, some 89, none, .mov (.tmp 88), []⟩,
    ⟨28, some 90, some (89, false), .faddr 2 (.tmp 4), []⟩,
    ⟨29, some 91, some (89, false), .load false 1 (.tmp 90), []⟩,
    ⟨30, some 92, some (89, false), .bin .gtr .other (.tmp 91) (.const (.int .i64 2147483647)), []⟩,
    ⟨31, some 93, none, .pick (.tmp 89) (.const (.bool true)) (.tmp 92), []⟩]) (
  .cond (.tmp 93) (
   .seq (
   .region [
     ⟨0, some 2, none, .mov (.const (.bool false)), []⟩]) (
   .ret)) (
   .skip))))) (
  .region [
    ⟨0, some 55, none, .mov (.tmp 3), []⟩,
    ⟨1, some 56, none, .bin .add .other (.tmp 55) (.const (.int .i64 1)), []⟩,
    ⟨2, some 3, none, .mov (.tmp 56), []⟩]))
def ir22_b : ICode :=
  .seq (
  .region [
    ⟨0, some 1, none, .box (.tmp 0), []⟩,
    ⟨1, some 2, none, .mov (.const (.bool false)), []⟩]) (
  .seq (
  .seq (
  .region [
    ⟨0, some 5, none, .faddr 0 (.tmp 1), []⟩,
    ⟨1, some 6, none, .load false 1 (.tmp 5), []⟩,
    ⟨2, some 7, none, .bin .lss .other (.tmp 6) (.const (.int .i64 2)), []⟩,
    ⟨3, some 8, none, .mov (.tmp 7), []⟩,
    ⟨4, some 9, some (8, false), .faddr 0 (.tmp 1), []⟩,
    ⟨5, some 10, some (8, false), .load false 1 (.tmp 9), []⟩,
    ⟨6, some 11, some (8, false), .bin .gtr .other (.tmp 10) (.const (.int .i64 700)), []⟩,
    ⟨7, some 12, none, .pick (.tmp 8) (.const (.bool true)) (.tmp 11), []⟩,
    ⟨8, some 13, none, .mov (.tmp 12), []⟩,
    ⟨9, some 14, some (13, false), .faddr 3 (.tmp 1), []⟩,
    ⟨10, some 15, some (13, false), .load false 1 (.tmp 14), []⟩,
    ⟨11, some 16, some (13, false), .lenV (.tmp 15), []⟩,
    ⟨12, some 17, some (13, false), .bin .gtr .other (.tmp 16) (.const (.int .i64 2500)), []⟩,
    ⟨13, some 18, none, .pick (.tmp 13) (.const (.bool true)) (.tmp 17), []⟩,
    ⟨14, some 19, none, .mov (.tmp 18), []⟩,
    ⟨15, some 20, some (19, false), .faddr 1 (.tmp 1), []⟩,
    ⟨16, some 21, some (19, false), .load false 1 (.tmp 20), []⟩,
    ⟨17, some 22, some (19, false), .bin .lss .other (.tmp 21) (.const (.int .i64 0)), []⟩,
    ⟨18, some 23, none, .pick (.tmp 19) (.const (.bool true)) (.tmp 22), []⟩,
    ⟨19, some 24, none, .mov (.tmp 23), []⟩,
    ⟨20, some 25, some (24, false), .faddr 1 (.tmp 1), []⟩,
    ⟨21, some 26, some (24, false), .load false 1 (.tmp 25), []⟩,
    ⟨22, some 27, some (24, false), .faddr 0 (.tmp 1), []⟩,
    ⟨23, some 28, some (24, false), .load false 1 (.tmp 27), []⟩,
    ⟨24, some 29, some (24, false), .bin .geq .other (.tmp 26) (.tmp 28), []⟩,
    ⟨25, some 30, none, .pick (.tmp 24) (.const (.bool true)) (.tmp 29), []⟩,
    ⟨26, some 31, none, .mov (.tmp 30), []⟩,
    ⟨27, some 32, some (31, false), .faddr 2 (.tmp 1), []⟩,
    ⟨28, some 33, some (31, false), .load false 1 (.tmp 32), []⟩,
    ⟨29, some 34, some (31, false), .bin .lss .other (.tmp 33) (.const (.int .i64 0)), []⟩,
    ⟨30, some 35, none, .pick (.tmp 31) (.const (.bool true)) (.tmp 34), []⟩,
    ⟨31, some 36, none, .mov (.tmp 35), []⟩,
    ⟨32, some 37, some (36, false), .faddr 2 (.tmp 1), []⟩,
    ⟨33, some 38, some (36, false), .load false 1 (.tmp 37), []⟩,
    ⟨34, some 39, some (36, false), .faddr 0 (.tmp 1), []⟩,
    ⟨35, some 40, some (36, false), .load false 1 (.tmp 39), []⟩,
    ⟨36, some 41, some (36, false), .bin .geq .other (.tmp 38) (.tmp 40), []⟩,
    ⟨37, some 42, none, .pick (.tmp 36) (.const (.bool true)) (.tmp 41), []⟩,
    ⟨38, some 43, none, .mov (.tmp 42), []⟩,
    ⟨39, some 44, some (43, false), .faddr 1 (.tmp 1), []⟩,
    ⟨40, some 45, some (43, false), .load false 1 (.tmp 44), []⟩,
    ⟨41, some 46, some (43, false), .faddr 2 (.tmp 1), []⟩,
    ⟨42, some 47, some (43, false), .load false 1 (.tmp 46), []⟩,
    ⟨43, some 48, some (43, false), .bin .eql .other (.tmp 45) (.tmp 47), []⟩,
    ⟨44, some 49, none, .pick (.tmp 43) (.const (.bool true)) (.tmp 48), []⟩]) (
  .cond (.tmp 49) (
   .seq (
   .region [
     ⟨0, some 2, none, .mov (.const (.bool false)), []⟩]) (
   .ret)) (
   .skip))) (
  .seq (
  .seq (
  .region [
    ⟨0, some 3, none, .mov (.const (.int .i64 0)), []⟩]) (
  .block 0 (
  .loop ir22_l0))) (
  .seq (
  .region [
    ⟨0, some 2, none, .mov (.const (.bool true)), []⟩]) (
  .ret))))
def ir22 : IFunc := ⟨94, [.tmp 2], ir22_b⟩
theorem ir22_eq : cFunc Try.prog 22 = some ir22 := by kernel_rfl
theorem call22 {args : List Value} {m : Mem} {Φ : Value → Mem → Prop} (h : args.length ≤ 94) : WPCall Try.prog 22 args m Φ = WP Try.prog ir22_b (initσ args) m (retK [.tmp 2] Φ) := wpCall_def ir22_eq h
/-- drydock/maxflow.Check -/
def ir23_b : ICode :=
  .seq (
  .region [
    ⟨0, some 3, none, .box (.tmp 0), []⟩,
    ⟨1, some 6, none, .mov (.const (.bool false)), []⟩]) (
  .seq (
  .region [
    ⟨0, some 12, none, .load true 4 (.tmp 3), []⟩,
    ⟨1, some 13, none, .mov (.tmp 1), []⟩,
    ⟨2, some 14, none, .call 17 [.tmp 12, .tmp 13], []⟩,
    ⟨3, some 11, none, .mov (.tmp 14), []⟩,
    ⟨4, some 15, none, .ext 0 (.tmp 11), []⟩,
    ⟨5, some 16, none, .ext 1 (.tmp 11), []⟩,
    ⟨6, some 7, none, .mov (.tmp 15), []⟩,
    ⟨7, some 8, none, .mov (.tmp 16), []⟩]) (
  .seq (
  .region [
    ⟨0, some 18, none, .load true 4 (.tmp 3), []⟩,
    ⟨1, some 19, none, .mov (.tmp 2), []⟩,
    ⟨2, some 20, none, .call 19 [.tmp 18, .tmp 19], []⟩,
    ⟨3, some 17, none, .mov (.tmp 20), []⟩,
    ⟨4, some 21, none, .ext 0 (.tmp 17), []⟩,
    ⟨5, some 22, none, .ext 1 (.tmp 17), []⟩,
    ⟨6, some 9, none, .mov (.tmp 21), []⟩,
    ⟨7, some 10, none, .mov (.tmp 22), []⟩]) (
  .seq (
  .region [
    ⟨0, some 23, none, .mov (.tmp 8), []⟩,
    ⟨1, some 24, none, .mov (.tmp 23), []⟩,
    ⟨2, some 25, some (24, true), .mov (.tmp 10), []⟩,
    ⟨3, some 26, none, .pick (.tmp 24) (.tmp 25) (.const (.bool false)), []⟩,
    ⟨4, some 27, none, .mov (.tmp 26), []⟩,
    ⟨5, some 28, some (27, true), .mov (.tmp 7), []⟩,
    ⟨6, some 29, some (27, true), .mov (.tmp 9), []⟩,
    ⟨7, some 30, some (27, true), .bin .eql .other (.tmp 28) (.tmp 29), []⟩,
    ⟨8, some 31, none, .pick (.tmp 27) (.tmp 30) (.const (.bool false)), []⟩,
    ⟨9, some 6, none, .mov (.tmp 31), []⟩]) (
  .ret))))
def ir23 : IFunc := ⟨32, [.tmp 6], ir23_b⟩
theorem ir23_eq : cFunc Try.prog 23 = some ir23 := by kernel_rfl
theorem call23 {args : List Value} {m : Mem} {Φ : Value → Mem → Prop} (h : args.length ≤ 32) : WPCall Try.prog 23 args m Φ = WP Try.prog ir23_b (initσ args) m (retK [.tmp 6] Φ) := wpCall_def ir23_eq h
/-- drydock/drydockref12.Check -/
def ir24_b : ICode :=
  .seq (
  .region [
    ⟨0, some 3, none, .box (.tmp 0), []⟩,
    ⟨1, some 6, none, .mov (.const (.bool false)), []⟩]) (
  .seq (
  .region [
    ⟨0, some 12, none, .load true 4 (.tmp 3), []⟩,
    ⟨1, some 13, none, .mov (.tmp 1), []⟩,
    ⟨2, some 14, none, .call 18 [.tmp 12, .tmp 13], []⟩,
    ⟨3, some 11, none, .mov (.tmp 14), []⟩,
    ⟨4, some 15, none, .ext 0 (.tmp 11), []⟩,
    ⟨5, some 16, none, .ext 1 (.tmp 11), []⟩,
    ⟨6, some 7, none, .mov (.tmp 15), []⟩,
    ⟨7, some 8, none, .mov (.tmp 16), []⟩]) (
  .seq (
  .region [
    ⟨0, some 18, none, .load true 4 (.tmp 3), []⟩,
    ⟨1, some 19, none, .mov (.tmp 2), []⟩,
    ⟨2, some 20, none, .call 20 [.tmp 18, .tmp 19], []⟩,
    ⟨3, some 17, none, .mov (.tmp 20), []⟩,
    ⟨4, some 21, none, .ext 0 (.tmp 17), []⟩,
    ⟨5, some 22, none, .ext 1 (.tmp 17), []⟩,
    ⟨6, some 9, none, .mov (.tmp 21), []⟩,
    ⟨7, some 10, none, .mov (.tmp 22), []⟩]) (
  .seq (
  .region [
    ⟨0, some 23, none, .mov (.tmp 8), []⟩,
    ⟨1, some 24, none, .mov (.tmp 23), []⟩,
    ⟨2, some 25, some (24, true), .mov (.tmp 10), []⟩,
    ⟨3, some 26, none, .pick (.tmp 24) (.tmp 25) (.const (.bool false)), []⟩,
    ⟨4, some 27, none, .mov (.tmp 26), []⟩,
    ⟨5, some 28, some (27, true), .mov (.tmp 7), []⟩,
    ⟨6, some 29, some (27, true), .mov (.tmp 9), []⟩,
    ⟨7, some 30, some (27, true), .bin .eql .other (.tmp 28) (.tmp 29), []⟩,
    ⟨8, some 31, none, .pick (.tmp 27) (.tmp 30) (.const (.bool false)), []⟩,
    ⟨9, some 6, none, .mov (.tmp 31), []⟩]) (
  .ret))))
def ir24 : IFunc := ⟨32, [.tmp 6], ir24_b⟩
theorem ir24_eq : cFunc Try.prog 24 = some ir24 := by kernel_rfl
theorem call24 {args : List Value} {m : Mem} {Φ : Value → Mem → Prop} (h : args.length ≤ 32) : WPCall Try.prog 24 args m Φ = WP Try.prog ir24_b (initσ args) m (retK [.tmp 6] Φ) := wpCall_def ir24_eq h
/-- drydock/maxflow.Solve -/
def ir25_l0 : ICode :=
  .seq (
  .region [
    ⟨0, some 29, none, .bin .lss .other (.tmp 28) (.tmp 27), []⟩]) (
  .seq (
  .cond (.tmp 29) (
   .skip) (
   .exit 0)) (
  .seq (
  .block 1 (
  .seq (
  .region [
    ⟨0, some 30, none, .mov (.tmp 28), []⟩,
    ⟨1, some 31, none, .iaddr 4 (.tmp 26) (.tmp 28), []⟩,
    ⟨2, some 32, none, .load true 4 (.tmp 31), []⟩,
    ⟨3, some 8, none, .alloc [.int .i64 0, .int .i64 0, .int .i64 0, .int .i64 0], []⟩,
    ⟨4, some 7, none, .mov (.tmp 30), []⟩,
    ⟨5, none, none, .store 4 (.tmp 8) (.tmp 32), []⟩]) (
  .seq (
  .region [
    ⟨0, some 33, none, .mov (.tmp 6), []⟩,
    ⟨1, some 34, none, .nilck (.tmp 33), []⟩,
    ⟨2, some 35, none, .faddr 5 (.tmp 34), []⟩,
    ⟨3, some 36, none, .load false 1 (.tmp 35), []⟩,
    ⟨4, some 37, none, .faddr 0 (.tmp 8), []⟩,
    ⟨5, some 38, none, .load false 1 (.tmp 37), []⟩,
    ⟨6, some 39, none, .mov (.tmp 6), []⟩,
    ⟨7, some 40, none, .nilck (.tmp 39), []⟩,
    ⟨8, some 41, none, .faddr 5 (.tmp 40), []⟩,
    ⟨9, some 42, none, .load false 1 (.tmp 41), []⟩,
    ⟨10, some 43, none, .faddr 0 (.tmp 8), []⟩,
    ⟨11, some 44, none, .load false 1 (.tmp 43), []⟩,
    ⟨12, some 45, none, .iaddr 1 (.tmp 42) (.tmp 44), []⟩,
    ⟨13, some 46, none, .load false 1 (.tmp 45), []⟩,
    ⟨14, some 47, none, .mov (.tmp 7), []⟩,
    ⟨15, some 48, none, .bslice 1 1 [.int .i64 0] [(0, 1, .tmp 47)], []⟩,
    ⟨16, some 49, none, .app 1 8 (.tmp 46) (.tmp 48), [(.tmp 37, .tmp 46), (.tmp 35, .tmp 46)]⟩,
    ⟨17, some 50, none, .iaddr 1 (.tmp 36) (.tmp 38), []⟩,
    ⟨18, none, none, .store 1 (.tmp 50) (.tmp 49), []⟩]) (
  .region [
    ⟨0, some 51, none, .mov (.tmp 6), []⟩,
    ⟨1, some 52, none, .nilck (.tmp 51), []⟩,
    ⟨2, some 53, none, .faddr 5 (.tmp 52), []⟩,
    ⟨3, some 54, none, .load false 1 (.tmp 53), []⟩,
    ⟨4, some 55, none, .faddr 1 (.tmp 8), []⟩,
    ⟨5, some 56, none, .load false 1 (.tmp 55), []⟩,
    ⟨6, some 57, none, .mov (.tmp 6), []⟩,
    ⟨7, some 58, none, .nilck (.tmp 57), []⟩,
    ⟨8, some 59, none, .faddr 5 (.tmp 58), []⟩,
    ⟨9, some 60, none, .load false 1 (.tmp 59), []⟩,
    ⟨10, some 61, none, .faddr 1 (.tmp 8), []⟩,
    ⟨11, some 62, none, .load false 1 (.tmp 61), []⟩,
    ⟨12, some 63, none, .iaddr 1 (.tmp 60) (.tmp 62), []⟩,
    ⟨13, some 64, none, .load false 1 (.tmp 63), []⟩,
    ⟨14, some 65, none, .mov (.tmp 7), []⟩,
    ⟨15, some 66, none, .bin .sub .other (.const (.int .i64 (-1))) (.tmp 65), []⟩,
    ⟨16, some 67, none, .bslice 1 1 [.int .i64 0] [(0, 1, .tmp 66)], []⟩,
    ⟨17, some 68, none, .app 1 8 (.tmp 64) (.tmp 67), [(.tmp 55, .tmp 64), (.tmp 53, .tmp 64)]⟩,
    ⟨18, some 69, none, .iaddr 1 (.tmp 54) (.tmp 56), []⟩,
    ⟨19, none, none, .store 1 (.tmp 69) (.tmp 68), []⟩])))) (
  .region [
    ⟨0, some 70, none, .bin .add .other (.tmp 28) (.const (.int .i64 1)), []⟩,
    ⟨1, some 28, none, .mov (.tmp 70), []⟩])))
def ir25_l1 : ICode :=
  .block 3 (
  .seq (
  .region [
    ⟨0, some 72, none, .mov (.tmp 6), []⟩,
    ⟨1, some 73, none, .call 44 [.tmp 72], []⟩,
    ⟨2, some 71, none, .mov (.tmp 73), []⟩,
    ⟨3, some 74, none, .ext 0 (.tmp 71), []⟩,
    ⟨4, some 75, none, .ext 1 (.tmp 71), []⟩,
    ⟨5, some 10, none, .mov (.tmp 74), []⟩,
    ⟨6, some 11, none, .mov (.tmp 75), []⟩]) (
  .seq (
  .seq (
  .region [
    ⟨0, some 76, none, .mov (.tmp 11), []⟩,
    ⟨1, some 77, none, .faddr 2 (.tmp 1), []⟩,
    ⟨2, some 78, none, .load false 1 (.tmp 77), []⟩,
    ⟨3, some 79, none, .iaddr 1 (.tmp 76) (.tmp 78), []⟩,
    ⟨4, some 80, none, .load false 1 (.tmp 79), []⟩,
    ⟨5, some 81, none, .un .not (.tmp 80), []⟩]) (
  .cond (.tmp 81) (
   .seq (
   .region [
     ⟨0, some 82, none, .mov (.tmp 6), []⟩,
     ⟨1, some 83, none, .nilck (.tmp 82), []⟩,
     ⟨2, some 84, none, .faddr 4 (.tmp 83), []⟩,
     ⟨3, some 85, none, .load false 1 (.tmp 84), []⟩,
     ⟨4, some 86, none, .mov (.tmp 9), []⟩,
     ⟨5, some 87, none, .mov (.tmp 11), []⟩,
     ⟨6, some 2, none, .mov (.tmp 85), []⟩,
     ⟨7, some 3, none, .mov (.tmp 86), []⟩,
     ⟨8, some 4, none, .mov (.tmp 87), []⟩,
     ⟨9, some 5, none, .mov (.const (.int .i64 0)), []⟩]) (
   .ret)) (
   .skip))) (
  .region [
    ⟨0, some 88, none, .mov (.tmp 9), []⟩,
    ⟨1, some 89, none, .mov (.tmp 6), []⟩,
    ⟨2, some 90, none, .mov (.tmp 10), []⟩,
    ⟨3, some 91, none, .call 45 [.tmp 89, .tmp 90], []⟩,
    ⟨4, some 92, none, .bin .add .other (.tmp 88) (.tmp 91), []⟩,
    ⟨5, some 9, none, .mov (.tmp 92), []⟩])))
def ir25_b : ICode :=
  .seq (
  .region [
    ⟨0, some 1, none, .box (.tmp 0), []⟩,
    ⟨1, some 2, none, .mov (.const (.slice none 0 0)), []⟩,
    ⟨2, some 3, none, .mov (.const (.int .i64 0)), []⟩,
    ⟨3, some 4, none, .mov (.const (.slice none 0 0)), []⟩,
    ⟨4, some 5, none, .mov (.const (.int .i64 0)), []⟩]) (
  .seq (
  .seq (
  .region [
    ⟨0, some 12, none, .load true 4 (.tmp 1), []⟩,
    ⟨1, some 13, none, .call 21 [.tmp 12], []⟩,
    ⟨2, some 14, none, .un .not (.tmp 13), []⟩]) (
  .cond (.tmp 14) (
   .seq (
   .region [
     ⟨0, some 2, none, .mov (.const (.slice none 0 0)), []⟩,
     ⟨1, some 3, none, .mov (.const (.int .i64 0)), []⟩,
     ⟨2, some 4, none, .mov (.const (.slice none 0 0)), []⟩,
     ⟨3, some 5, none, .mov (.const (.int .i64 1)), []⟩]) (
   .ret)) (
   .skip))) (
  .seq (
  .region [
    ⟨0, some 15, none, .load true 4 (.tmp 1), []⟩,
    ⟨1, some 16, none, .faddr 3 (.tmp 1), []⟩,
    ⟨2, some 17, none, .load false 1 (.tmp 16), []⟩,
    ⟨3, some 18, none, .lenV (.tmp 17), []⟩,
    ⟨5, some 20, none, .faddr 0 (.tmp 1), []⟩,
    ⟨6, some 21, none, .load false 1 (.tmp 20), []⟩,
    ⟨4, some 19, none, .mkslice 1 8 [.int .i64 0] (.tmp 18) (.tmp 18), []⟩,
    ⟨7, some 22, none, .mkslice 1 24 [.slice none 0 0] (.tmp 21) (.tmp 21), []⟩,
    ⟨8, some 23, none, .build [.int .i64 0, .int .i64 0, .int .i64 0, .slice none 0 0, .slice none 0 0, .slice none 0 0] [(0, 4, .tmp 15), (4, 1, .tmp 19), (5, 1, .tmp 22)], []⟩,
    ⟨9, some 24, none, .box (.tmp 23), []⟩,
    ⟨10, some 6, none, .mov (.tmp 24), []⟩]) (
  .seq (
  .seq (
  .region [
    ⟨0, some 25, none, .faddr 3 (.tmp 1), []⟩,
    ⟨1, some 26, none, .load false 1 (.tmp 25), []⟩,
    ⟨2, some 27, none, .lenV (.tmp 26), []⟩,
    ⟨3, some 28, none, .mov (.const (.int .i64 0)), []⟩]) (
  .block 0 (
  .loop ir25_l0))) (
  .seq (
  .region [
    ⟨0, some 9, none, .mov (.const (.int .i64 0)), []⟩]) (
  .block 2 (
  .loop ir25_l1))))))
def ir25 : IFunc := ⟨93, [.tmp 2, .tmp 3, .tmp 4, .tmp 5], ir25_b⟩
theorem ir25_eq : cFunc Try.prog 25 = some ir25 := by kernel_rfl
theorem call25 {args : List Value} {m : Mem} {Φ : Value → Mem → Prop} (h : args.length ≤ 93) : WPCall Try.prog 25 args m Φ = WP Try.prog ir25_b (initσ args) m (retK [.tmp 2, .tmp 3, .tmp 4, .tmp 5] Φ) := wpCall_def ir25_eq h
/-- drydock/drydocklaw12.solved -/
def ir26_b : ICode :=
  .seq (
  .region [
    ⟨0, some 1, none, .box (.tmp 0), []⟩,
    ⟨1, some 2, none, .mov (.const (.int .i64 0)), []⟩,
    ⟨2, some 3, none, .mov (.const (.bool false)), []⟩]) (
  .seq (
  .region [
    ⟨0, some 11, none, .load true 4 (.tmp 1), []⟩,
    ⟨1, some 12, none, .call 25 [.tmp 11], []⟩,
    ⟨2, some 10, none, .mov (.tmp 12), []⟩,
    ⟨3, some 13, none, .ext 0 (.tmp 10), []⟩,
    ⟨4, some 14, none, .ext 1 (.tmp 10), []⟩,
    ⟨5, some 15, none, .ext 2 (.tmp 10), []⟩,
    ⟨6, some 16, none, .ext 3 (.tmp 10), []⟩,
    ⟨7, some 4, none, .mov (.tmp 13), []⟩,
    ⟨8, some 5, none, .mov (.tmp 14), []⟩,
    ⟨9, some 6, none, .mov (.tmp 15), []⟩,
    ⟨10, some 7, none, .mov (.tmp 16), []⟩]) (
  .seq (
  .region [
    ⟨0, some 18, none, .load true 4 (.tmp 1), []⟩,
    ⟨1, some 19, none, .mov (.tmp 4), []⟩,
    ⟨2, some 20, none, .call 18 [.tmp 18, .tmp 19], []⟩,
    ⟨3, some 17, none, .mov (.tmp 20), []⟩,
    ⟨4, some 21, none, .ext 0 (.tmp 17), []⟩,
    ⟨5, some 22, none, .ext 1 (.tmp 17), []⟩,
    ⟨6, some 8, none, .mov (.tmp 21), []⟩,
    ⟨7, some 9, none, .mov (.tmp 22), []⟩]) (
  .seq (
  .region [
    ⟨0, some 23, none, .mov (.tmp 5), []⟩,
    ⟨1, some 24, none, .mov (.tmp 7), []⟩,
    ⟨2, some 25, none, .bin .eql .other (.tmp 24) (.const (.int .i64 0)), []⟩,
    ⟨3, some 26, none, .mov (.tmp 25), []⟩,
    ⟨4, some 27, some (26, true), .mov (.tmp 9), []⟩,
    ⟨5, some 28, none, .pick (.tmp 26) (.tmp 27) (.const (.bool false)), []⟩,
    ⟨6, some 29, none, .mov (.tmp 28), []⟩,
    ⟨7, some 30, some (29, true), .mov (.tmp 5), []⟩,
    ⟨8, some 31, some (29, true), .mov (.tmp 8), []⟩,
    ⟨9, some 32, some (29, true), .bin .eql .other (.tmp 30) (.tmp 31), []⟩,
    ⟨10, some 33, none, .pick (.tmp 29) (.tmp 32) (.const (.bool false)), []⟩,
    ⟨11, some 34, none, .mov (.tmp 33), []⟩,
    ⟨12, some 35, some (34, true), .load true 4 (.tmp 1), []⟩,
    ⟨13, some 36, some (34, true), .mov (.tmp 4), []⟩,
    ⟨14, some 37, some (34, true), .mov (.tmp 6), []⟩,
    ⟨15, some 38, some (34, true), .call 24 [.tmp 35, .tmp 36, .tmp 37], []⟩,
    ⟨16, some 39, none, .pick (.tmp 34) (.tmp 38) (.const (.bool false)), []⟩,
    ⟨17, some 2, none, .mov (.tmp 23), []⟩,
    ⟨18, some 3, none, .mov (.tmp 39), []⟩]) (
  .ret))))
def ir26 : IFunc := ⟨40, [.tmp 2, .tmp 3], ir26_b⟩
theorem ir26_eq : cFunc Try.prog 26 = some ir26 := by kernel_rfl
theorem call26 {args : List Value} {m : Mem} {Φ : Value → Mem → Prop} (h : args.length ≤ 40) : WPCall Try.prog 26 args m Φ = WP Try.prog ir26_b (initσ args) m (retK [.tmp 2, .tmp 3] Φ) := wpCall_def ir26_eq h
/-- drydock/drydockref12.Solve -/
def ir29_l0 : ICode :=
  .seq (
  .seq (
  .region [
    ⟨0, some 46, none, .mov (.tmp 12), []⟩,
    ⟨1, some 47, none, .faddr 1 (.tmp 1), []⟩,
    ⟨2, some 48, none, .load false 1 (.tmp 47), []⟩,
    ⟨3, some 49, none, .bin .neq .other (.tmp 46) (.tmp 48), []⟩]) (
  .cond (.tmp 49) (
   .skip) (
   .exit 2))) (
  .block 3 (
  .seq (
  .region [
    ⟨0, some 50, none, .mov (.tmp 8), []⟩,
    ⟨1, some 51, none, .mov (.tmp 12), []⟩,
    ⟨2, some 52, none, .iaddr 1 (.tmp 50) (.tmp 51), []⟩,
    ⟨3, some 53, none, .load false 1 (.tmp 52), []⟩,
    ⟨4, some 13, none, .mov (.tmp 53), []⟩]) (
  .seq (
  .region [
    ⟨0, some 54, none, .mov (.tmp 13), []⟩,
    ⟨1, some 55, none, .faddr 3 (.tmp 1), []⟩,
    ⟨2, some 56, none, .load false 1 (.tmp 55), []⟩,
    ⟨3, some 57, none, .lenV (.tmp 56), []⟩,
    ⟨4, some 58, none, .bin .lss .other (.tmp 54) (.tmp 57), []⟩]) (
  .cond (.tmp 58) (
   .region [
     ⟨0, some 59, none, .mov (.tmp 11), []⟩,
     ⟨1, some 60, none, .faddr 3 (.tmp 1), []⟩,
     ⟨2, some 61, none, .load false 1 (.tmp 60), []⟩,
     ⟨3, some 62, none, .mov (.tmp 13), []⟩,
     ⟨4, some 63, none, .iaddr 4 (.tmp 61) (.tmp 62), []⟩,
     ⟨5, some 64, none, .faddr 2 (.tmp 63), []⟩,
     ⟨6, some 65, none, .load false 1 (.tmp 64), []⟩,
     ⟨7, some 66, none, .mov (.tmp 6), []⟩,
     ⟨8, some 67, none, .mov (.tmp 13), []⟩,
     ⟨9, some 68, none, .iaddr 1 (.tmp 66) (.tmp 67), []⟩,
     ⟨10, some 69, none, .load false 1 (.tmp 68), []⟩,
     ⟨11, some 70, none, .bin .sub .other (.tmp 65) (.tmp 69), []⟩,
     ⟨12, some 71, none, .minmax false (.tmp 59) [.tmp 70], []⟩,
     ⟨13, some 72, none, .faddr 3 (.tmp 1), []⟩,
     ⟨14, some 73, none, .load false 1 (.tmp 72), []⟩,
     ⟨15, some 74, none, .mov (.tmp 13), []⟩,
     ⟨16, some 75, none, .iaddr 4 (.tmp 73) (.tmp 74), []⟩,
     ⟨17, some 76, none, .faddr 0 (.tmp 75), []⟩,
     ⟨18, some 77, none, .load false 1 (.tmp 76), []⟩,
     ⟨19, some 11, none, .mov (.tmp 71), []⟩,
     ⟨20, some 12, none, .mov (.tmp 77), []⟩]) (
   .region [
     ⟨0, some 78, none, .mov (.tmp 11), []⟩,
     ⟨1, some 79, none, .mov (.tmp 6), []⟩,
     ⟨2, some 80, none, .mov (.tmp 13), []⟩,
     ⟨3, some 81, none, .faddr 3 (.tmp 1), []⟩,
     ⟨4, some 82, none, .load false 1 (.tmp 81), []⟩,
     ⟨5, some 83, none, .lenV (.tmp 82), []⟩,
     ⟨6, some 84, none, .bin .sub .other (.tmp 80) (.tmp 83), []⟩,
     ⟨7, some 85, none, .iaddr 1 (.tmp 79) (.tmp 84), []⟩,
     ⟨8, some 86, none, .load false 1 (.tmp 85), []⟩,
     ⟨9, some 87, none, .minmax false (.tmp 78) [.tmp 86], []⟩,
     ⟨10, some 88, none, .faddr 3 (.tmp 1), []⟩,
     ⟨11, some 89, none, .load false 1 (.tmp 88), []⟩,
     ⟨12, some 90, none, .mov (.tmp 13), []⟩,
     ⟨13, some 91, none, .faddr 3 (.tmp 1), []⟩,
     ⟨14, some 92, none, .load false 1 (.tmp 91), []⟩,
     ⟨15, some 93, none, .lenV (.tmp 92), []⟩,
     ⟨16, some 94, none, .bin .sub .other (.tmp 90) (.tmp 93), []⟩,
     ⟨17, some 95, none, .iaddr 4 (.tmp 89) (.tmp 94), []⟩,
     ⟨18, some 96, none, .faddr 1 (.tmp 95), []⟩,
     ⟨19, some 97, none, .load false 1 (.tmp 96), []⟩,
     ⟨20, some 11, none, .mov (.tmp 87), []⟩,
     ⟨21, some 12, none, .mov (.tmp 97), []⟩])))))
def ir29_l1 : ICode :=
  .seq (
  .seq (
  .region [
    ⟨0, some 100, none, .mov (.tmp 14), []⟩,
    ⟨1, some 101, none, .faddr 1 (.tmp 1), []⟩,
    ⟨2, some 102, none, .load false 1 (.tmp 101), []⟩,
    ⟨3, some 103, none, .bin .neq .other (.tmp 100) (.tmp 102), []⟩]) (
  .cond (.tmp 103) (
   .skip) (
   .exit 4))) (
  .block 5 (
  .seq (
  .region [
    ⟨0, some 104, none, .mov (.tmp 8), []⟩,
    ⟨1, some 105, none, .mov (.tmp 14), []⟩,
    ⟨2, some 106, none, .iaddr 1 (.tmp 104) (.tmp 105), []⟩,
    ⟨3, some 107, none, .load false 1 (.tmp 106), []⟩,
    ⟨4, some 15, none, .mov (.tmp 107), []⟩]) (
  .seq (
  .region [
    ⟨0, some 108, none, .mov (.tmp 15), []⟩,
    ⟨1, some 109, none, .faddr 3 (.tmp 1), []⟩,
    ⟨2, some 110, none, .load false 1 (.tmp 109), []⟩,
    ⟨3, some 111, none, .lenV (.tmp 110), []⟩,
    ⟨4, some 112, none, .bin .lss .other (.tmp 108) (.tmp 111), []⟩]) (
  .cond (.tmp 112) (
   .seq (
   .region [
     ⟨0, some 113, none, .mov (.tmp 6), []⟩,
     ⟨1, some 114, none, .mov (.tmp 15), []⟩,
     ⟨2, some 115, none, .mov (.tmp 6), []⟩,
     ⟨3, some 116, none, .mov (.tmp 15), []⟩,
     ⟨4, some 117, none, .iaddr 1 (.tmp 115) (.tmp 116), []⟩,
     ⟨5, some 118, none, .load false 1 (.tmp 117), []⟩,
     ⟨6, some 119, none, .mov (.tmp 11), []⟩,
     ⟨7, some 120, none, .bin .add .other (.tmp 118) (.tmp 119), []⟩,
     ⟨8, some 121, none, .iaddr 1 (.tmp 113) (.tmp 114), []⟩,
     ⟨9, none, none, .store 1 (.tmp 121) (.tmp 120), []⟩]) (
   .region [
     ⟨0, some 122, none, .faddr 3 (.tmp 1), []⟩,
     ⟨1, some 123, none, .load false 1 (.tmp 122), []⟩,
     ⟨2, some 124, none, .mov (.tmp 15), []⟩,
     ⟨3, some 125, none, .iaddr 4 (.tmp 123) (.tmp 124), []⟩,
     ⟨4, some 126, none, .faddr 0 (.tmp 125), []⟩,
     ⟨5, some 127, none, .load false 1 (.tmp 126), []⟩,
     ⟨6, some 14, none, .mov (.tmp 127), []⟩])) (
   .seq (
   .region [
     ⟨0, some 128, none, .mov (.tmp 6), []⟩,
     ⟨1, some 129, none, .mov (.tmp 15), []⟩,
     ⟨2, some 130, none, .faddr 3 (.tmp 1), []⟩,
     ⟨3, some 131, none, .load false 1 (.tmp 130), []⟩,
     ⟨4, some 132, none, .lenV (.tmp 131), []⟩,
     ⟨5, some 133, none, .bin .sub .other (.tmp 129) (.tmp 132), []⟩,
     ⟨6, some 134, none, .mov (.tmp 6), []⟩,
     ⟨7, some 135, none, .mov (.tmp 15), []⟩,
     ⟨8, some 136, none, .faddr 3 (.tmp 1), []⟩,
     ⟨9, some 137, none, .load false 1 (.tmp 136), []⟩,
     ⟨10, some 138, none, .lenV (.tmp 137), []⟩,
     ⟨11, some 139, none, .bin .sub .other (.tmp 135) (.tmp 138), []⟩,
     ⟨12, some 140, none, .iaddr 1 (.tmp 134) (.tmp 139), []⟩,
     ⟨13, some 141, none, .load false 1 (.tmp 140), []⟩,
     ⟨14, some 142, none, .mov (.tmp 11), []⟩,
     ⟨15, some 143, none, .bin .sub .other (.tmp 141) (.tmp 142), []⟩,
     ⟨16, some 144, none, .iaddr 1 (.tmp 128) (.tmp 133), []⟩,
     ⟨17, none, none, .store 1 (.tmp 144) (.tmp 143), []⟩]) (
   .region [
     ⟨0, some 145, none, .faddr 3 (.tmp 1), []⟩,
     ⟨1, some 146, none, .load false 1 (.tmp 145), []⟩,
     ⟨2, some 147, none, .mov (.tmp 15), []⟩,
     ⟨3, some 148, none, .faddr 3 (.tmp 1), []⟩,
     ⟨4, some 149, none, .load false 1 (.tmp 148), []⟩,
     ⟨5, some 150, none, .lenV (.tmp 149), []⟩,
     ⟨6, some 151, none, .bin .sub .other (.tmp 147) (.tmp 150), []⟩,
     ⟨7, some 152, none, .iaddr 4 (.tmp 146) (.tmp 151), []⟩,
     ⟨8, some 153, none, .faddr 1 (.tmp 152), []⟩,
     ⟨9, some 154, none, .load false 1 (.tmp 153), []⟩,
     ⟨10, some 14, none, .mov (.tmp 154), []⟩]))))))
def ir29_l2 : ICode :=
  .block 1 (
  .seq (
  .region [
    ⟨0, some 24, none, .load true 4 (.tmp 1), []⟩,
    ⟨1, some 25, none, .mov (.tmp 6), []⟩,
    ⟨2, some 26, none, .call 46 [.tmp 24, .tmp 25], []⟩,
    ⟨3, some 23, none, .mov (.tmp 26), []⟩,
    ⟨4, some 27, none, .ext 0 (.tmp 23), []⟩,
    ⟨5, some 28, none, .ext 1 (.tmp 23), []⟩,
    ⟨6, some 7, none, .mov (.tmp 27), []⟩,
    ⟨7, some 8, none, .mov (.tmp 28), []⟩]) (
  .seq (
  .seq (
  .region [
    ⟨0, some 29, none, .mov (.tmp 7), []⟩,
    ⟨1, some 30, none, .faddr 2 (.tmp 1), []⟩,
    ⟨2, some 31, none, .load false 1 (.tmp 30), []⟩,
    ⟨3, some 32, none, .iaddr 1 (.tmp 29) (.tmp 31), []⟩,
    ⟨4, some 33, none, .load false 1 (.tmp 32), []⟩,
    ⟨5, some 34, none, .un .not (.tmp 33), []⟩]) (
  .cond (.tmp 34) (
   .seq (
   .region [
     ⟨0, some 36, none, .load true 4 (.tmp 1), []⟩,
     ⟨1, some 37, none, .mov (.tmp 6), []⟩,
     ⟨2, some 38, none, .call 18 [.tmp 36, .tmp 37], []⟩,
     ⟨3, some 35, none, .mov (.tmp 38), []⟩,
     ⟨4, some 39, none, .ext 0 (.tmp 35), []⟩,
     ⟨5, some 40, none, .ext 1 (.tmp 35), []⟩,
     ⟨6, some 9, none, .mov (.tmp 39), []⟩,
     ⟨7, some 10, none, .mov (.tmp 40), []⟩]) (
   .seq (
   .region [
     ⟨0, some 41, none, .mov (.tmp 6), []⟩,
     ⟨1, some 42, none, .mov (.tmp 9), []⟩,
     ⟨2, some 43, none, .mov (.tmp 7), []⟩,
     ⟨3, some 2, none, .mov (.tmp 41), []⟩,
     ⟨4, some 3, none, .mov (.tmp 42), []⟩,
     ⟨5, some 4, none, .mov (.tmp 43), []⟩,
     ⟨6, some 5, none, .mov (.const (.int .i64 0)), []⟩]) (
   .ret))) (
   .skip))) (
  .seq (
  .region [
    ⟨0, some 11, none, .mov (.const (.int .i64 2147483647)), []⟩]) (
  .seq (
  .seq (
  .region [
    ⟨0, some 44, none, .faddr 2 (.tmp 1), []⟩,
    ⟨1, some 45, none, .load false 1 (.tmp 44), []⟩,
    ⟨2, some 12, none, .mov (.tmp 45), []⟩]) (
  .block 2 (
  .loop ir29_l0))) (
  .seq (
  .region [
    ⟨0, some 98, none, .faddr 2 (.tmp 1), []⟩,
    ⟨1, some 99, none, .load false 1 (.tmp 98), []⟩,
    ⟨2, some 14, none, .mov (.tmp 99), []⟩]) (
  .block 4 (
  .loop ir29_l1)))))))
def ir29_b : ICode :=
  .seq (
  .region [
    ⟨0, some 1, none, .box (.tmp 0), []⟩,
    ⟨1, some 2, none, .mov (.const (.slice none 0 0)), []⟩,
    ⟨2, some 3, none, .mov (.const (.int .i64 0)), []⟩,
    ⟨3, some 4, none, .mov (.const (.slice none 0 0)), []⟩,
    ⟨4, some 5, none, .mov (.const (.int .i64 0)), []⟩]) (
  .seq (
  .seq (
  .region [
    ⟨0, some 16, none, .load true 4 (.tmp 1), []⟩,
    ⟨1, some 17, none, .call 22 [.tmp 16], []⟩,
    ⟨2, some 18, none, .un .not (.tmp 17), []⟩]) (
  .cond (.tmp 18) (
   .seq (
   .region [
     ⟨0, some 2, none, .mov (.const (.slice none 0 0)), []⟩,
     ⟨1, some 3, none, .mov (.const (.int .i64 0)), []⟩,
     ⟨2, some 4, none, .mov (.const (.slice none 0 0)), []⟩,
     ⟨3, some 5, none, .mov (.const (.int .i64 1)), []⟩]) (
   .ret)) (
   .skip))) (
  .seq (
  .region [
    ⟨0, some 19, none, .faddr 3 (.tmp 1), []⟩,
    ⟨1, some 20, none, .load false 1 (.tmp 19), []⟩,
    ⟨2, some 21, none, .lenV (.tmp 20), []⟩,
    ⟨3, some 22, none, .mkslice 1 8 [.int .i64 0] (.tmp 21) (.tmp 21), []⟩,
    ⟨4, some 6, none, .mov (.tmp 22), []⟩]) (
  .block 0 (
  .loop ir29_l2))))
def ir29 : IFunc := ⟨155, [.tmp 2, .tmp 3, .tmp 4, .tmp 5], ir29_b⟩
theorem ir29_eq : cFunc Try.prog 29 = some ir29 := by kernel_rfl
theorem call29 {args : List Value} {m : Mem} {Φ : Value → Mem → Prop} (h : args.length ≤ 155) : WPCall Try.prog 29 args m Φ = WP Try.prog ir29_b (initσ args) m (retK [.tmp 2, .tmp 3, .tmp 4, .tmp 5] Φ) := wpCall_def ir29_eq h
/-- drydock/maxflow.Valid$1 -/
def ir43_b : ICode :=
  .seq (
  .region [
    ⟨0, some 3, none, .mov (.const (.bool false)), []⟩]) (
  .seq (
  .region [
    ⟨0, some 4, none, .mov (.tmp 0), []⟩,
    ⟨1, some 5, none, .bin .geq .other (.tmp 4) (.const (.int .i64 0)), []⟩,
    ⟨2, some 6, none, .mov (.tmp 5), []⟩,
    ⟨3, some 7, some (6, true), .mov (.tmp 0), []⟩,
    ⟨4, some 8, some (6, true), .faddr 0 (.tmp 1), []⟩,
    ⟨5, some 9, some (6, true), .load false 1 (.tmp 8), []⟩,
    ⟨6, some 10, some (6, true), .bin .lss .other (.tmp 7) (.tmp 9), []⟩,
    ⟨7, some 11, none, .pick (.tmp 6) (.tmp 10) (.const (.bool false)), []⟩,
    ⟨8, some 3, none, .mov (.tmp 11), []⟩]) (
  .ret))
def ir43 : IFunc := ⟨12, [.tmp 3], ir43_b⟩
theorem ir43_eq : cFunc Try.prog 43 = some ir43 := by kernel_rfl
theorem call43 {args : List Value} {m : Mem} {Φ : Value → Mem → Prop} (h : args.length ≤ 12) : WPCall Try.prog 43 args m Φ = WP Try.prog ir43_b (initσ args) m (retK [.tmp 3] Φ) := wpCall_def ir43_eq h
/-- (*drydock/maxflow.search).reach -/
def ir44_l0 : ICode :=
  .seq (
  .region [
    ⟨0, some 52, none, .bin .lss .other (.tmp 51) (.tmp 50), []⟩]) (
  .seq (
  .cond (.tmp 52) (
   .skip) (
   .exit 2)) (
  .seq (
  .block 3 (
  .seq (
  .region [
    ⟨0, some 53, none, .iaddr 1 (.tmp 49) (.tmp 51), []⟩,
    ⟨1, some 54, none, .load false 1 (.tmp 53), []⟩,
    ⟨2, some 8, none, .mov (.tmp 54), []⟩]) (
  .seq (
  .region [
    ⟨0, some 56, none, .mov (.tmp 0), []⟩,
    ⟨1, some 57, none, .mov (.tmp 8), []⟩,
    ⟨2, some 58, none, .call 51 [.tmp 56, .tmp 57], []⟩,
    ⟨3, some 55, none, .mov (.tmp 58), []⟩,
    ⟨4, some 59, none, .ext 0 (.tmp 55), []⟩,
    ⟨5, some 60, none, .ext 1 (.tmp 55), []⟩,
    ⟨6, some 9, none, .mov (.tmp 59), []⟩,
    ⟨7, some 10, none, .mov (.tmp 60), []⟩]) (
  .seq (
  .region [
    ⟨0, some 61, none, .mov (.tmp 10), []⟩,
    ⟨1, some 62, none, .bin .gtr .other (.tmp 61) (.const (.int .i64 0)), []⟩,
    ⟨2, some 63, none, .mov (.tmp 62), []⟩,
    ⟨3, some 64, some (63, true), .mov (.tmp 5), []⟩,
    ⟨4, some 65, some (63, true), .mov (.tmp 9), []⟩,
    ⟨5, some 66, some (63, true), .iaddr 1 (.tmp 64) (.tmp 65), []⟩,
    ⟨6, some 67, some (63, true), .load false 1 (.tmp 66), []⟩,
    ⟨7, some 68, some (63, true), .un .not (.tmp 67), []⟩,
    ⟨8, some 69, none, .pick (.tmp 63) (.tmp 68) (.const (.bool false)), []⟩]) (
  .cond (.tmp 69) (
   .seq (
   .region [
     ⟨0, some 70, none, .mov (.tmp 5), []⟩,
     ⟨1, some 71, none, .mov (.tmp 9), []⟩,
     ⟨2, some 72, none, .mov (.tmp 4), []⟩,
     ⟨3, some 73, none, .mov (.tmp 9), []⟩,
     ⟨4, some 74, none, .mov (.tmp 8), []⟩,
     ⟨5, some 75, none, .iaddr 1 (.tmp 70) (.tmp 71), []⟩,
     ⟨6, none, none, .store 1 (.tmp 75) (.const (.bool true)), []⟩,
     ⟨7, some 76, none, .iaddr 1 (.tmp 72) (.tmp 73), []⟩,
     ⟨8, none, none, .store 1 (.tmp 76) (.tmp 74), []⟩]) (
   .region [
     ⟨0, some 77, none, .mov (.tmp 6), []⟩,
     ⟨1, some 78, none, .mov (.tmp 9), []⟩,
     ⟨2, some 79, none, .bslice 1 1 [.int .i64 0] [(0, 1, .tmp 78)], []⟩,
     ⟨3, some 80, none, .app 1 8 (.tmp 77) (.tmp 79), []⟩,
     ⟨4, some 6, none, .mov (.tmp 80), []⟩])) (
   .skip)))))) (
  .region [
    ⟨0, some 81, none, .bin .add .other (.tmp 51) (.const (.int .i64 1)), []⟩,
    ⟨1, some 51, none, .mov (.tmp 81), []⟩])))
def ir44_l1 : ICode :=
  .seq (
  .seq (
  .region [
    ⟨0, some 36, none, .mov (.tmp 6), []⟩,
    ⟨1, some 37, none, .lenV (.tmp 36), []⟩,
    ⟨2, some 38, none, .bin .gtr .other (.tmp 37) (.const (.int .i64 0)), []⟩]) (
  .cond (.tmp 38) (
   .skip) (
   .exit 0))) (
  .seq (
  .block 1 (
  .seq (
  .region [
    ⟨0, some 41, none, .mov (.tmp 0), []⟩,
    ⟨1, some 42, none, .nilck (.tmp 41), []⟩,
    ⟨2, some 43, none, .faddr 5 (.tmp 42), []⟩,
    ⟨3, some 44, none, .load false 1 (.tmp 43), []⟩,
    ⟨4, some 45, none, .mov (.tmp 6), []⟩,
    ⟨5, some 46, none, .iaddr 1 (.tmp 45) (.const (.int .i64 0)), []⟩,
    ⟨6, some 47, none, .load false 1 (.tmp 46), []⟩,
    ⟨7, some 48, none, .iaddr 1 (.tmp 44) (.tmp 47), []⟩,
    ⟨8, some 49, none, .load false 1 (.tmp 48), []⟩,
    ⟨9, some 50, none, .lenV (.tmp 49), []⟩,
    ⟨10, some 51, none, .mov (.const (.int .i64 0)), []⟩]) (
  .block 2 (
  .loop ir44_l0)))) (
  .region [
    ⟨0, some 39, none, .mov (.tmp 6), []⟩,
    ⟨1, some 40, none, .sliceS 1 (.tmp 39) (some (.const (.int .i64 1))) none, []⟩,
    ⟨2, some 6, none, .mov (.tmp 40), []⟩]))
def ir44_b : ICode :=
  .seq (
  .region [
    ⟨0, some 2, none, .mov (.const (.slice none 0 0)), []⟩,
    ⟨1, some 3, none, .mov (.const (.slice none 0 0)), []⟩]) (
  .seq (
  .region [
    ⟨0, some 11, none, .mov (.tmp 0), []⟩,
    ⟨1, some 12, none, .nilck (.tmp 11), []⟩,
    ⟨2, some 13, none, .faddr 0 (.tmp 12), []⟩,
    ⟨3, some 14, none, .faddr 0 (.tmp 13), []⟩,
    ⟨4, some 15, none, .load false 1 (.tmp 14), []⟩,
    ⟨6, some 17, none, .mov (.tmp 0), []⟩,
    ⟨7, some 18, none, .nilck (.tmp 17), []⟩,
    ⟨8, some 19, none, .faddr 0 (.tmp 18), []⟩,
    ⟨9, some 20, none, .faddr 0 (.tmp 19), []⟩,
    ⟨10, some 21, none, .load false 1 (.tmp 20), []⟩,
    ⟨5, some 16, none, .mkslice 1 8 [.int .i64 0] (.tmp 15) (.tmp 15), []⟩,
    ⟨12, some 4, none, .mov (.tmp 16), []⟩,
    ⟨11, some 22, none, .mkslice 1 1 [.bool false] (.tmp 21) (.tmp 21), []⟩,
    ⟨13, some 5, none, .mov (.tmp 22), []⟩]) (
  .seq (
  .region [
    ⟨0, some 23, none, .mov (.tmp 5), []⟩,
    ⟨1, some 24, none, .mov (.tmp 0), []⟩,
    ⟨2, some 25, none, .nilck (.tmp 24), []⟩,
    ⟨3, some 26, none, .faddr 0 (.tmp 25), []⟩,
    ⟨4, some 27, none, .faddr 1 (.tmp 26), []⟩,
    ⟨5, some 28, none, .load false 1 (.tmp 27), []⟩,
    ⟨6, some 29, none, .iaddr 1 (.tmp 23) (.tmp 28), []⟩,
    ⟨7, none, none, .store 1 (.tmp 29) (.const (.bool true)), []⟩]) (
  .seq (
  .seq (
  .region [
    ⟨0, some 30, none, .mov (.tmp 0), []⟩,
    ⟨1, some 31, none, .nilck (.tmp 30), []⟩,
    ⟨2, some 32, none, .faddr 0 (.tmp 31), []⟩,
    ⟨3, some 33, none, .faddr 1 (.tmp 32), []⟩,
    ⟨4, some 34, none, .load false 1 (.tmp 33), []⟩,
    ⟨5, some 35, none, .bslice 1 1 [.int .i64 0] [(0, 1, .tmp 34)], []⟩,
    ⟨6, some 6, none, .mov (.tmp 35), []⟩]) (
  .block 0 (
  .loop ir44_l1))) (
  .seq (
  .region [
    ⟨0, some 82, none, .mov (.tmp 4), []⟩,
    ⟨1, some 83, none, .mov (.tmp 5), []⟩,
    ⟨2, some 2, none, .mov (.tmp 82), []⟩,
    ⟨3, some 3, none, .mov (.tmp 83), []⟩]) (
  .ret)))))
def ir44 : IFunc := ⟨84, [.tmp 2, .tmp 3], ir44_b⟩
theorem ir44_eq : cFunc Try.prog 44 = some ir44 := by kernel_rfl
theorem call44 {args : List Value} {m : Mem} {Φ : Value → Mem → Prop} (h : args.length ≤ 84) : WPCall Try.prog 44 args m Φ = WP Try.prog ir44_b (initσ args) m (retK [.tmp 2, .tmp 3] Φ) := wpCall_def ir44_eq h
/-- (*drydock/maxflow.search).augment -/
def ir45_l0 : ICode :=
  .seq (
  .seq (
  .region [
    ⟨0, some 16, none, .mov (.tmp 6), []⟩,
    ⟨1, some 17, none, .mov (.tmp 0), []⟩,
    ⟨2, some 18, none, .nilck (.tmp 17), []⟩,
    ⟨3, some 19, none, .faddr 0 (.tmp 18), []⟩,
    ⟨4, some 20, none, .faddr 1 (.tmp 19), []⟩,
    ⟨5, some 21, none, .load false 1 (.tmp 20), []⟩,
    ⟨6, some 22, none, .bin .neq .other (.tmp 16) (.tmp 21), []⟩]) (
  .cond (.tmp 22) (
   .skip) (
   .exit 0))) (
  .seq (
  .block 1 (
  .seq (
  .region [
    ⟨0, some 30, none, .mov (.tmp 0), []⟩,
    ⟨1, some 31, none, .mov (.tmp 1), []⟩,
    ⟨2, some 32, none, .mov (.tmp 6), []⟩,
    ⟨3, some 33, none, .iaddr 1 (.tmp 31) (.tmp 32), []⟩,
    ⟨4, some 34, none, .load false 1 (.tmp 33), []⟩,
    ⟨5, some 35, none, .call 51 [.tmp 30, .tmp 34], []⟩,
    ⟨6, some 29, none, .mov (.tmp 35), []⟩,
    ⟨7, some 36, none, .ext 0 (.tmp 29), []⟩,
    ⟨8, some 37, none, .ext 1 (.tmp 29), []⟩,
    ⟨9, some 7, none, .mov (.tmp 36), []⟩,
    ⟨10, some 8, none, .mov (.tmp 37), []⟩]) (
  .seq (
  .region [
    ⟨0, some 38, none, .mov (.tmp 5), []⟩,
    ⟨1, some 39, none, .bin .lss .other (.tmp 38) (.const (.int .i64 0)), []⟩,
    ⟨2, some 40, none, .mov (.tmp 39), []⟩,
    ⟨3, some 41, some (40, false), .mov (.tmp 8), []⟩,
    ⟨4, some 42, some (40, false), .mov (.tmp 5), []⟩,
    ⟨5, some 43, some (40, false), .bin .lss .other (.tmp 41) (.tmp 42), []⟩,
    ⟨6, some 44, none, .pick (.tmp 40) (.const (.bool true)) (.tmp 43), []⟩]) (
  .cond (.tmp 44) (
   .region [
     ⟨0, some 45, none, .mov (.tmp 8), []⟩,
     ⟨1, some 5, none, .mov (.tmp 45), []⟩]) (
   .skip))))) (
  .region [
    ⟨0, some 23, none, .mov (.tmp 0), []⟩,
    ⟨1, some 24, none, .mov (.tmp 1), []⟩,
    ⟨2, some 25, none, .mov (.tmp 6), []⟩,
    ⟨3, some 26, none, .iaddr 1 (.tmp 24) (.tmp 25), []⟩,
    ⟨4, some 27, none, .load false 1 (.tmp 26), []⟩,
    ⟨5, some 28, none, .call 52 [.tmp 23, .tmp 27], []⟩,
    ⟨6, some 6, none, .mov (.tmp 28), []⟩]))
def ir45_l1 : ICode :=
  .seq (
  .seq (
  .region [
    ⟨0, some 51, none, .mov (.tmp 9), []⟩,
    ⟨1, some 52, none, .mov (.tmp 0), []⟩,
    ⟨2, some 53, none, .nilck (.tmp 52), []⟩,
    ⟨3, some 54, none, .faddr 0 (.tmp 53), []⟩,
    ⟨4, some 55, none, .faddr 1 (.tmp 54), []⟩,
    ⟨5, some 56, none, .load false 1 (.tmp 55), []⟩,
    ⟨6, some 57, none, .bin .neq .other (.tmp 51) (.tmp 56), []⟩]) (
  .cond (.tmp 57) (
   .skip) (
   .exit 2))) (
  .seq (
  .block 3 (
  .seq (
  .region [
    ⟨0, some 64, none, .mov (.tmp 1), []⟩,
    ⟨1, some 65, none, .mov (.tmp 9), []⟩,
    ⟨2, some 66, none, .iaddr 1 (.tmp 64) (.tmp 65), []⟩,
    ⟨3, some 67, none, .load false 1 (.tmp 66), []⟩,
    ⟨4, some 10, none, .mov (.tmp 67), []⟩]) (
  .seq (
  .region [
    ⟨0, some 68, none, .mov (.tmp 10), []⟩,
    ⟨1, some 69, none, .bin .geq .other (.tmp 68) (.const (.int .i64 0)), []⟩]) (
  .cond (.tmp 69) (
   .region [
     ⟨0, some 70, none, .mov (.tmp 0), []⟩,
     ⟨1, some 71, none, .nilck (.tmp 70), []⟩,
     ⟨2, some 72, none, .faddr 4 (.tmp 71), []⟩,
     ⟨3, some 73, none, .load false 1 (.tmp 72), []⟩,
     ⟨4, some 74, none, .mov (.tmp 10), []⟩,
     ⟨5, some 75, none, .iaddr 1 (.tmp 73) (.tmp 74), []⟩,
     ⟨6, some 76, none, .load false 1 (.tmp 75), []⟩,
     ⟨7, some 77, none, .mov (.tmp 5), []⟩,
     ⟨8, some 78, none, .bin .add .other (.tmp 76) (.tmp 77), []⟩,
     ⟨9, some 79, none, .iaddr 1 (.tmp 73) (.tmp 74), []⟩,
     ⟨10, none, none, .store 1 (.tmp 79) (.tmp 78), []⟩]) (
   .region [
     ⟨0, some 80, none, .mov (.tmp 0), []⟩,
     ⟨1, some 81, none, .nilck (.tmp 80), []⟩,
     ⟨2, some 82, none, .faddr 4 (.tmp 81), []⟩,
     ⟨3, some 83, none, .load false 1 (.tmp 82), []⟩,
     ⟨4, some 84, none, .mov (.tmp 10), []⟩,
     ⟨5, some 85, none, .bin .sub .other (.const (.int .i64 (-1))) (.tmp 84), []⟩,
     ⟨6, some 86, none, .iaddr 1 (.tmp 83) (.tmp 85), []⟩,
     ⟨7, some 87, none, .load false 1 (.tmp 86), []⟩,
     ⟨8, some 88, none, .mov (.tmp 5), []⟩,
     ⟨9, some 89, none, .bin .sub .other (.tmp 87) (.tmp 88), []⟩,
     ⟨10, some 90, none, .iaddr 1 (.tmp 83) (.tmp 85), []⟩,
     ⟨11, none, none, .store 1 (.tmp 90) (.tmp 89), []⟩]))))) (
  .region [
    ⟨0, some 58, none, .mov (.tmp 0), []⟩,
    ⟨1, some 59, none, .mov (.tmp 1), []⟩,
    ⟨2, some 60, none, .mov (.tmp 9), []⟩,
    ⟨3, some 61, none, .iaddr 1 (.tmp 59) (.tmp 60), []⟩,
    ⟨4, some 62, none, .load false 1 (.tmp 61), []⟩,
    ⟨5, some 63, none, .call 52 [.tmp 58, .tmp 62], []⟩,
    ⟨6, some 9, none, .mov (.tmp 63), []⟩]))
def ir45_b : ICode :=
  .seq (
  .region [
    ⟨0, some 4, none, .mov (.const (.int .i64 0)), []⟩]) (
  .seq (
  .region [
    ⟨0, some 5, none, .mov (.const (.int .i64 (-1))), []⟩]) (
  .seq (
  .seq (
  .region [
    ⟨0, some 11, none, .mov (.tmp 0), []⟩,
    ⟨1, some 12, none, .nilck (.tmp 11), []⟩,
    ⟨2, some 13, none, .faddr 0 (.tmp 12), []⟩,
    ⟨3, some 14, none, .faddr 2 (.tmp 13), []⟩,
    ⟨4, some 15, none, .load false 1 (.tmp 14), []⟩,
    ⟨5, some 6, none, .mov (.tmp 15), []⟩]) (
  .block 0 (
  .loop ir45_l0))) (
  .seq (
  .seq (
  .region [
    ⟨0, some 46, none, .mov (.tmp 0), []⟩,
    ⟨1, some 47, none, .nilck (.tmp 46), []⟩,
    ⟨2, some 48, none, .faddr 0 (.tmp 47), []⟩,
    ⟨3, some 49, none, .faddr 2 (.tmp 48), []⟩,
    ⟨4, some 50, none, .load false 1 (.tmp 49), []⟩,
    ⟨5, some 9, none, .mov (.tmp 50), []⟩]) (
  .block 2 (
  .loop ir45_l1))) (
  .seq (
  .region [
    ⟨0, some 91, none, .mov (.tmp 5), []⟩,
    ⟨1, some 4, none, .mov (.tmp 91), []⟩]) (
  .ret)))))
def ir45 : IFunc := ⟨92, [.tmp 4], ir45_b⟩
theorem ir45_eq : cFunc Try.prog 45 = some ir45 := by kernel_rfl
theorem call45 {args : List Value} {m : Mem} {Φ : Value → Mem → Prop} (h : args.length ≤ 92) : WPCall Try.prog 45 args m Φ = WP Try.prog ir45_b (initσ args) m (retK [.tmp 4] Φ) := wpCall_def ir45_eq h
/-- drydock/drydockref12.reach -/
def ir46_l0 : ICode :=
  .seq (
  .seq (
  .region [
    ⟨0, some 33, none, .mov (.tmp 10), []⟩,
    ⟨1, some 34, none, .faddr 3 (.tmp 2), []⟩,
    ⟨2, some 35, none, .load false 1 (.tmp 34), []⟩,
    ⟨3, some 36, none, .lenV (.tmp 35), []⟩,
    ⟨4, some 37, none, .bin .lss .other (.tmp 33) (.tmp 36), []⟩]) (
  .cond (.tmp 37) (
   .skip) (
   .exit 2))) (
  .seq (
  .block 3 (
  .seq (
  .region [
    ⟨0, some 40, none, .faddr 3 (.tmp 2), []⟩,
    ⟨1, some 41, none, .load false 1 (.tmp 40), []⟩,
    ⟨2, some 42, none, .mov (.tmp 10), []⟩,
    ⟨3, some 43, none, .iaddr 4 (.tmp 41) (.tmp 42), []⟩,
    ⟨4, some 44, none, .load true 4 (.tmp 43), []⟩,
    ⟨5, some 11, none, .alloc [.int .i64 0, .int .i64 0, .int .i64 0, .int .i64 0], []⟩,
    ⟨6, none, none, .store 4 (.tmp 11) (.tmp 44), []⟩]) (
  .seq (
  .seq (
  .region [
    ⟨0, some 45, none, .faddr 0 (.tmp 11), []⟩,
    ⟨1, some 46, none, .load false 1 (.tmp 45), []⟩,
    ⟨2, some 47, none, .mov (.tmp 9), []⟩,
    ⟨3, some 48, none, .bin .eql .other (.tmp 46) (.tmp 47), []⟩,
    ⟨4, some 49, none, .mov (.tmp 48), []⟩,
    ⟨5, some 50, some (49, true), .mov (.tmp 6), []⟩,
    ⟨6, some 51, some (49, true), .faddr 1 (.tmp 11), []⟩,
    ⟨7, some 52, some (49, true), .load false 1 (.tmp 51), []⟩,
    ⟨8, some 53, some (49, true), .iaddr 1 (.tmp 50) (.tmp 52), []⟩,
    ⟨9, some 54, some (49, true), .load false 1 (.tmp 53), []⟩,
    ⟨10, some 55, some (49, true), .un .not (.tmp 54), []⟩,
    ⟨11, some 56, none, .pick (.tmp 49) (.tmp 55) (.const (.bool false)), []⟩,
    ⟨12, some 57, none, .mov (.tmp 56), []⟩,
    ⟨13, some 58, some (57, true), .mov (.tmp 1), []⟩,
    ⟨14, some 59, some (57, true), .mov (.tmp 10), []⟩,
    ⟨15, some 60, some (57, true), .iaddr 1 (.tmp 58) (.tmp 59), []⟩,
    ⟨16, some 61, some (57, true), .load false 1 (.tmp 60), []⟩,
    ⟨17, some 62, some (57, true), .faddr 2 (.tmp 11), []⟩,
    ⟨18, some 63, some (57, true), .load false 1 (.tmp 62), []⟩,
    ⟨19, some 64, some (57, true), .bin .lss .other (.tmp 61) (.tmp 63), []⟩,
    ⟨20, some 65, none, .pick (.tmp 57) (.tmp 64) (.const (.bool false)), []⟩]) (
  .cond (.tmp 65) (
   .seq (
   .region [
     ⟨0, some 66, none, .mov (.tmp 6), []⟩,
     ⟨1, some 67, none, .faddr 1 (.tmp 11), []⟩,
     ⟨2, some 68, none, .load false 1 (.tmp 67), []⟩,
     ⟨3, some 69, none, .mov (.tmp 7), []⟩,
     ⟨4, some 70, none, .faddr 1 (.tmp 11), []⟩,
     ⟨5, some 71, none, .load false 1 (.tmp 70), []⟩,
     ⟨6, some 72, none, .mov (.tmp 10), []⟩,
     ⟨7, some 73, none, .iaddr 1 (.tmp 66) (.tmp 68), []⟩,
     ⟨8, none, none, .store 1 (.tmp 73) (.const (.bool true)), [(.tmp 70, .tmp 73)]⟩,
     ⟨9, some 74, none, .iaddr 1 (.tmp 69) (.tmp 71), []⟩,
     ⟨10, none, none, .store 1 (.tmp 74) (.tmp 72), []⟩]) (
   .region [
     ⟨0, some 75, none, .mov (.tmp 8), []⟩,
     ⟨1, some 76, none, .faddr 1 (.tmp 11), []⟩,
     ⟨2, some 77, none, .load false 1 (.tmp 76), []⟩,
     ⟨3, some 78, none, .bslice 1 1 [.int .i64 0] [(0, 1, .tmp 77)], []⟩,
     ⟨4, some 79, none, .app 1 8 (.tmp 75) (.tmp 78), []⟩,
     ⟨5, some 8, none, .mov (.tmp 79), []⟩])) (
   .skip))) (
  .seq (
  .region [
    ⟨0, some 80, none, .faddr 1 (.tmp 11), []⟩,
    ⟨1, some 81, none, .load false 1 (.tmp 80), []⟩,
    ⟨2, some 82, none, .mov (.tmp 9), []⟩,
    ⟨3, some 83, none, .bin .eql .other (.tmp 81) (.tmp 82), []⟩,
    ⟨4, some 84, none, .mov (.tmp 83), []⟩,
    ⟨5, some 85, some (84, true), .mov (.tmp 6), []⟩,
    ⟨6, some 86, some (84, true), .faddr 0 (.tmp 11), []⟩,
    ⟨7, some 87, some (84, true), .load false 1 (.tmp 86), []⟩,
    ⟨8, some 88, some (84, true), .iaddr 1 (.tmp 85) (.tmp 87), []⟩,
    ⟨9, some 89, some (84, true), .load false 1 (.tmp 88), []⟩,
    ⟨10, some 90, some (84, true), .un .not (.tmp 89), []⟩,
    ⟨11, some 91, none, .pick (.tmp 84) (.tmp 90) (.const (.bool false)), []⟩,
    ⟨12, some 92, none, .mov (.tmp 91), []⟩,
    ⟨13, some 93, some (92, true), .mov (.tmp 1), []⟩,
    ⟨14, some 94, some (92, true), .mov (.tmp 10), []⟩,
    ⟨15, some 95, some (92, true), .iaddr 1 (.tmp 93) (.tmp 94), []⟩,
    ⟨16, some 96, some (92, true), .load false 1 (.tmp 95), []⟩,
    ⟨17, some 97, some (92, true), .bin .gtr .other (.tmp 96) (.const (.int .i64 0)), []⟩,
    ⟨18, some 98, none, .pick (.tmp 92) (.tmp 97) (.const (.bool false)), []⟩]) (
  .cond (.tmp 98) (
   .seq (
   .region [
     ⟨0, some 99, none, .mov (.tmp 6), []⟩,
     ⟨1, some 100, none, .faddr 0 (.tmp 11), []⟩,
     ⟨2, some 101, none, .load false 1 (.tmp 100), []⟩,
     ⟨3, some 102, none, .mov (.tmp 7), []⟩,
     ⟨4, some 103, none, .faddr 0 (.tmp 11), []⟩,
     ⟨5, some 104, none, .load false 1 (.tmp 103), []⟩,
     ⟨6, some 105, none, .faddr 3 (.tmp 2), []⟩,
     ⟨7, some 106, none, .load false 1 (.tmp 105), []⟩,
     ⟨8, some 107, none, .lenV (.tmp 106), []⟩,
     ⟨9, some 108, none, .mov (.tmp 10), []⟩,
     ⟨10, some 109, none, .bin .add .other (.tmp 107) (.tmp 108), []⟩,
     ⟨11, some 110, none, .iaddr 1 (.tmp 99) (.tmp 101), []⟩,
     ⟨12, none, none, .store 1 (.tmp 110) (.const (.bool true)), [(.tmp 105, .tmp 110), (.tmp 103, .tmp 110)]⟩,
     ⟨13, some 111, none, .iaddr 1 (.tmp 102) (.tmp 104), []⟩,
     ⟨14, none, none, .store 1 (.tmp 111) (.tmp 109), []⟩]) (
   .region [
     ⟨0, some 112, none, .mov (.tmp 8), []⟩,
     ⟨1, some 113, none, .faddr 0 (.tmp 11), []⟩,
     ⟨2, some 114, none, .load false 1 (.tmp 113), []⟩,
     ⟨3, some 115, none, .bslice 1 1 [.int .i64 0] [(0, 1, .tmp 114)], []⟩,
     ⟨4, some 116, none, .app 1 8 (.tmp 112) (.tmp 115), []⟩,
     ⟨5, some 8, none, .mov (.tmp 116), []⟩])) (
   .skip)))))) (
  .region [
    ⟨0, some 38, none, .mov (.tmp 10), []⟩,
    ⟨1, some 39, none, .bin .add .other (.tmp 38) (.const (.int .i64 1)), []⟩,
    ⟨2, some 10, none, .mov (.tmp 39), []⟩]))
def ir46_l1 : ICode :=
  .seq (
  .seq (
  .region [
    ⟨0, some 25, none, .mov (.tmp 8), []⟩,
    ⟨1, some 26, none, .lenV (.tmp 25), []⟩,
    ⟨2, some 27, none, .bin .gtr .other (.tmp 26) (.const (.int .i64 0)), []⟩]) (
  .cond (.tmp 27) (
   .skip) (
   .exit 0))) (
  .block 1 (
  .seq (
  .region [
    ⟨0, some 28, none, .mov (.tmp 8), []⟩,
    ⟨1, some 29, none, .iaddr 1 (.tmp 28) (.const (.int .i64 0)), []⟩,
    ⟨2, some 30, none, .load false 1 (.tmp 29), []⟩,
    ⟨3, some 9, none, .mov (.tmp 30), []⟩]) (
  .seq (
  .region [
    ⟨0, some 31, none, .mov (.tmp 8), []⟩,
    ⟨1, some 32, none, .sliceS 1 (.tmp 31) (some (.const (.int .i64 1))) none, []⟩,
    ⟨2, some 8, none, .mov (.tmp 32), []⟩]) (
  .seq (
  .region [
    ⟨0, some 10, none, .mov (.const (.int .i64 0)), []⟩]) (
  .block 2 (
  .loop ir46_l0))))))
def ir46_b : ICode :=
  .seq (
  .region [
    ⟨0, some 2, none, .box (.tmp 0), []⟩,
    ⟨1, some 4, none, .mov (.const (.slice none 0 0)), []⟩,
    ⟨2, some 5, none, .mov (.const (.slice none 0 0)), []⟩]) (
  .seq (
  .region [
    ⟨0, some 12, none, .faddr 0 (.tmp 2), []⟩,
    ⟨1, some 13, none, .load false 1 (.tmp 12), []⟩,
    ⟨3, some 15, none, .faddr 0 (.tmp 2), []⟩,
    ⟨4, some 16, none, .load false 1 (.tmp 15), []⟩,
    ⟨2, some 14, none, .mkslice 1 1 [.bool false] (.tmp 13) (.tmp 13), []⟩,
    ⟨6, some 6, none, .mov (.tmp 14), []⟩,
    ⟨5, some 17, none, .mkslice 1 8 [.int .i64 0] (.tmp 16) (.tmp 16), []⟩,
    ⟨7, some 7, none, .mov (.tmp 17), []⟩]) (
  .seq (
  .region [
    ⟨0, some 18, none, .mov (.tmp 6), []⟩,
    ⟨1, some 19, none, .faddr 1 (.tmp 2), []⟩,
    ⟨2, some 20, none, .load false 1 (.tmp 19), []⟩,
    ⟨3, some 21, none, .iaddr 1 (.tmp 18) (.tmp 20), []⟩,
    ⟨4, none, none, .store 1 (.tmp 21) (.const (.bool true)), []⟩]) (
  .seq (
  .region [
    ⟨0, some 22, none, .faddr 1 (.tmp 2), []⟩,
    ⟨1, some 23, none, .load false 1 (.tmp 22), []⟩,
    ⟨2, some 24, none, .bslice 1 1 [.int .i64 0] [(0, 1, .tmp 23)], []⟩,
    ⟨3, some 8, none, .mov (.tmp 24), []⟩]) (
  .seq (
  .block 0 (
  .loop ir46_l1)) (
  .seq (
  .region [
    ⟨0, some 117, none, .mov (.tmp 6), []⟩,
    ⟨1, some 118, none, .mov (.tmp 7), []⟩,
    ⟨2, some 4, none, .mov (.tmp 117), []⟩,
    ⟨3, some 5, none, .mov (.tmp 118), []⟩]) (
  .ret))))))
def ir46 : IFunc := ⟨119, [.tmp 4, .tmp 5], ir46_b⟩
theorem ir46_eq : cFunc Try.prog 46 = some ir46 := by kernel_rfl
theorem call46 {args : List Value} {m : Mem} {Φ : Value → Mem → Prop} (h : args.length ≤ 119) : WPCall Try.prog 46 args m Φ = WP Try.prog ir46_b (initσ args) m (retK [.tmp 4, .tmp 5] Φ) := wpCall_def ir46_eq h
/-- (*drydock/maxflow.search).ends -/
def ir51_b : ICode :=
  .seq (
  .region [
    ⟨0, some 4, none, .mov (.const (.int .i64 0)), []⟩,
    ⟨1, some 5, none, .mov (.const (.int .i64 0)), []⟩]) (
  .seq (
  .seq (
  .region [
    ⟨0, some 6, none, .mov (.tmp 1), []⟩,
    ⟨1, some 7, none, .bin .geq .other (.tmp 6) (.const (.int .i64 0)), []⟩]) (
  .cond (.tmp 7) (
   .seq (
   .region [
     ⟨0, some 8, none, .mov (.tmp 0), []⟩,
     ⟨1, some 9, none, .nilck (.tmp 8), []⟩,
     ⟨2, some 10, none, .faddr 0 (.tmp 9), []⟩,
     ⟨3, some 11, none, .faddr 3 (.tmp 10), []⟩,
     ⟨4, some 12, none, .load false 1 (.tmp 11), []⟩,
     ⟨5, some 13, none, .mov (.tmp 1), []⟩,
     ⟨6, some 14, none, .iaddr 4 (.tmp 12) (.tmp 13), []⟩,
     ⟨7, some 15, none, .faddr 1 (.tmp 14), []⟩,
     ⟨8, some 16, none, .load false 1 (.tmp 15), []⟩,
     ⟨9, some 17, none, .mov (.tmp 0), []⟩,
     ⟨10, some 18, none, .nilck (.tmp 17), []⟩,
     ⟨11, some 19, none, .faddr 0 (.tmp 18), []⟩,
     ⟨12, some 20, none, .faddr 3 (.tmp 19), []⟩,
     ⟨13, some 21, none, .load false 1 (.tmp 20), []⟩,
     ⟨14, some 22, none, .mov (.tmp 1), []⟩,
     ⟨15, some 23, none, .iaddr 4 (.tmp 21) (.tmp 22), []⟩,
     ⟨16, some 24, none, .faddr 2 (.tmp 23), []⟩,
     ⟨17, some 25, none, .load false 1 (.tmp 24), []⟩,
     ⟨18, some 26, none, .mov (.tmp 0), []⟩,
     ⟨19, some 27, none, .nilck (.tmp 26), []⟩,
     ⟨20, some 28, none, .faddr 4 (.tmp 27), []⟩,
     ⟨21, some 29, none, .load false 1 (.tmp 28), []⟩,
     ⟨22, some 30, none, .mov (.tmp 1), []⟩,
     ⟨23, some 31, none, .iaddr 1 (.tmp 29) (.tmp 30), []⟩,
     ⟨24, some 32, none, .load false 1 (.tmp 31), []⟩,
     ⟨25, some 33, none, .bin .sub .other (.tmp 25) (.tmp 32), []⟩,
     ⟨26, some 4, none, .mov (.tmp 16), []⟩,
     ⟨27, some 5, none, .mov (.tmp 33), []⟩]) (
   .ret)) (
   .skip))) (
  .seq (
  .region [
    ⟨0, some 34, none, .mov (.tmp 0), []⟩,
    ⟨1, some 35, none, .nilck (.tmp 34), []⟩,
    ⟨2, some 36, none, .faddr 0 (.tmp 35), []⟩,
    ⟨3, some 37, none, .faddr 3 (.tmp 36), []⟩,
    ⟨4, some 38, none, .load false 1 (.tmp 37), []⟩,
    ⟨5, some 39, none, .mov (.tmp 1), []⟩,
    ⟨6, some 40, none, .bin .sub .other (.const (.int .i64 (-1))) (.tmp 39), []⟩,
    ⟨7, some 41, none, .iaddr 4 (.tmp 38) (.tmp 40), []⟩,
    ⟨8, some 42, none, .faddr 0 (.tmp 41), []⟩,
    ⟨9, some 43, none, .load false 1 (.tmp 42), []⟩,
    ⟨10, some 44, none, .mov (.tmp 0), []⟩,
    ⟨11, some 45, none, .nilck (.tmp 44), []⟩,
    ⟨12, some 46, none, .faddr 4 (.tmp 45), []⟩,
    ⟨13, some 47, none, .load false 1 (.tmp 46), []⟩,
    ⟨14, some 48, none, .mov (.tmp 1), []⟩,
    ⟨15, some 49, none, .bin .sub .other (.const (.int .i64 (-1))) (.tmp 48), []⟩,
    ⟨16, some 50, none, .iaddr 1 (.tmp 47) (.tmp 49), []⟩,
    ⟨17, some 51, none, .load false 1 (.tmp 50), []⟩,
    ⟨18, some 4, none, .mov (.tmp 43), []⟩,
    ⟨19, some 5, none, .mov (.tmp 51), []⟩]) (
  .ret)))
def ir51 : IFunc := ⟨52, [.tmp 4, .tmp 5], ir51_b⟩
theorem ir51_eq : cFunc Try.prog 51 = some ir51 := by kernel_rfl
theorem call51 {args : List Value} {m : Mem} {Φ : Value → Mem → Prop} (h : args.length ≤ 52) : WPCall Try.prog 51 args m Φ = WP Try.prog ir51_b (initσ args) m (retK [.tmp 4, .tmp 5] Φ) := wpCall_def ir51_eq h
/-- (*drydock/maxflow.search).back -/
def ir52_b : ICode :=
  .seq (
  .region [
    ⟨0, some 4, none, .mov (.const (.int .i64 0)), []⟩]) (
  .seq (
  .seq (
  .region [
    ⟨0, some 5, none, .mov (.tmp 1), []⟩,
    ⟨1, some 6, none, .bin .geq .other (.tmp 5) (.const (.int .i64 0)), []⟩]) (
  .cond (.tmp 6) (
   .seq (
   .region [
     ⟨0, some 7, none, .mov (.tmp 0), []⟩,
     ⟨1, some 8, none, .nilck (.tmp 7), []⟩,
     ⟨2, some 9, none, .faddr 0 (.tmp 8), []⟩,
     ⟨3, some 10, none, .faddr 3 (.tmp 9), []⟩,
     ⟨4, some 11, none, .load false 1 (.tmp 10), []⟩,
     ⟨5, some 12, none, .mov (.tmp 1), []⟩,
     ⟨6, some 13, none, .iaddr 4 (.tmp 11) (.tmp 12), []⟩,
     ⟨7, some 14, none, .faddr 0 (.tmp 13), []⟩,
     ⟨8, some 15, none, .load false 1 (.tmp 14), []⟩,
     ⟨9, some 4, none, .mov (.tmp 15), []⟩]) (
   .ret)) (
   .skip))) (
  .seq (
  .region [
    ⟨0, some 16, none, .mov (.tmp 0), []⟩,
    ⟨1, some 17, none, .nilck (.tmp 16), []⟩,
    ⟨2, some 18, none, .faddr 0 (.tmp 17), []⟩,
    ⟨3, some 19, none, .faddr 3 (.tmp 18), []⟩,
    ⟨4, some 20, none, .load false 1 (.tmp 19), []⟩,
    ⟨5, some 21, none, .mov (.tmp 1), []⟩,
    ⟨6, some 22, none, .bin .sub .other (.const (.int .i64 (-1))) (.tmp 21), []⟩,
    ⟨7, some 23, none, .iaddr 4 (.tmp 20) (.tmp 22), []⟩,
    ⟨8, some 24, none, .faddr 1 (.tmp 23), []⟩,
    ⟨9, some 25, none, .load false 1 (.tmp 24), []⟩,
    ⟨10, some 4, none, .mov (.tmp 25), []⟩]) (
  .ret)))
def ir52 : IFunc := ⟨26, [.tmp 4], ir52_b⟩
theorem ir52_eq : cFunc Try.prog 52 = some ir52 := by kernel_rfl
theorem call52 {args : List Value} {m : Mem} {Φ : Value → Mem → Prop} (h : args.length ≤ 26) : WPCall Try.prog 52 args m Φ = WP Try.prog ir52_b (initσ args) m (retK [.tmp 4] Φ) := wpCall_def ir52_eq h
/-- drydock/drydocklaw12.MaxflowExact -/
def ir3_b : ICode :=
  .seq (
  .region [
    ⟨0, some 3, none, .box (.tmp 0), []⟩,
    ⟨1, some 6, none, .mov (.const (.bool false)), []⟩]) (
  .seq (
  .seq (
  .region [
    ⟨0, some 15, none, .load true 4 (.tmp 3), []⟩,
    ⟨1, some 16, none, .call 15 [.tmp 15], []⟩,
    ⟨2, some 17, none, .mov (.tmp 16), []⟩,
    ⟨3, some 18, some (17, false), .mov (.tmp 1), []⟩,
    ⟨4, some 19, some (17, false), .lenV (.tmp 18), []⟩,
    ⟨5, some 20, some (17, false), .bin .gtr .other (.tmp 19) (.const (.int .i64 100)), []⟩,
    ⟨6, some 21, none, .pick (.tmp 17) (.const (.bool true)) (.tmp 20), []⟩,
    ⟨7, some 22, none, .mov (.tmp 21), []⟩,
    ⟨8, some 23, some (22, false), .mov (.tmp 2), []⟩,
    ⟨9, some 24, some (22, false), .lenV (.tmp 23), []⟩,
    ⟨10, some 25, some (22, false), .bin .gtr .other (.tmp 24) (.const (.int .i64 100)), []⟩,
    ⟨11, some 26, none, .pick (.tmp 22) (.const (.bool true)) (.tmp 25), []⟩]) (
  .cond (.tmp 26) (
   .seq (
   .region [
     ⟨0, some 27, none, .call 16 [], []⟩,
     ⟨1, some 6, none, .mov (.tmp 27), []⟩]) (
   .ret)) (
   .skip))) (
  .seq (
  .region [
    ⟨0, some 29, none, .load true 4 (.tmp 3), []⟩,
    ⟨1, some 30, none, .mov (.tmp 1), []⟩,
    ⟨2, some 31, none, .call 17 [.tmp 29, .tmp 30], []⟩,
    ⟨3, some 28, none, .mov (.tmp 31), []⟩,
    ⟨4, some 32, none, .ext 0 (.tmp 28), []⟩,
    ⟨5, some 33, none, .ext 1 (.tmp 28), []⟩,
    ⟨6, some 7, none, .mov (.tmp 32), []⟩,
    ⟨7, some 8, none, .mov (.tmp 33), []⟩]) (
  .seq (
  .region [
    ⟨0, some 35, none, .load true 4 (.tmp 3), []⟩,
    ⟨1, some 36, none, .mov (.tmp 1), []⟩,
    ⟨2, some 37, none, .call 18 [.tmp 35, .tmp 36], []⟩,
    ⟨3, some 34, none, .mov (.tmp 37), []⟩,
    ⟨4, some 38, none, .ext 0 (.tmp 34), []⟩,
    ⟨5, some 39, none, .ext 1 (.tmp 34), []⟩,
    ⟨6, some 9, none, .mov (.tmp 38), []⟩,
    ⟨7, some 10, none, .mov (.tmp 39), []⟩]) (
  .seq (
  .region [
    ⟨0, some 41, none, .load true 4 (.tmp 3), []⟩,
    ⟨1, some 42, none, .mov (.tmp 2), []⟩,
    ⟨2, some 43, none, .call 19 [.tmp 41, .tmp 42], []⟩,
    ⟨3, some 40, none, .mov (.tmp 43), []⟩,
    ⟨4, some 44, none, .ext 0 (.tmp 40), []⟩,
    ⟨5, some 45, none, .ext 1 (.tmp 40), []⟩,
    ⟨6, some 11, none, .mov (.tmp 44), []⟩,
    ⟨7, some 12, none, .mov (.tmp 45), []⟩]) (
  .seq (
  .region [
    ⟨0, some 47, none, .load true 4 (.tmp 3), []⟩,
    ⟨1, some 48, none, .mov (.tmp 2), []⟩,
    ⟨2, some 49, none, .call 20 [.tmp 47, .tmp 48], []⟩,
    ⟨3, some 46, none, .mov (.tmp 49), []⟩,
    ⟨4, some 50, none, .ext 0 (.tmp 46), []⟩,
    ⟨5, some 51, none, .ext 1 (.tmp 46), []⟩,
    ⟨6, some 13, none, .mov (.tmp 50), []⟩,
    ⟨7, some 14, none, .mov (.tmp 51), []⟩]) (
  .seq (
  .region [
    ⟨0, some 52, none, .load true 4 (.tmp 3), []⟩,
    ⟨2, some 54, none, .load true 4 (.tmp 3), []⟩,
    ⟨1, some 53, none, .call 21 [.tmp 52], [(.tmp 3, .tmp 3)]⟩,
    ⟨3, some 55, none, .call 22 [.tmp 54], []⟩,
    ⟨4, some 56, none, .bin .eql .bool (.tmp 53) (.tmp 55), []⟩,
    ⟨5, some 57, none, .mov (.tmp 56), []⟩,
    ⟨6, some 58, some (57, true), .mov (.tmp 7), []⟩,
    ⟨7, some 59, some (57, true), .mov (.tmp 9), []⟩,
    ⟨8, some 60, some (57, true), .bin .eql .other (.tmp 58) (.tmp 59), []⟩,
    ⟨9, some 61, none, .pick (.tmp 57) (.tmp 60) (.const (.bool false)), []⟩,
    ⟨10, some 62, none, .mov (.tmp 61), []⟩,
    ⟨11, some 63, some (62, true), .mov (.tmp 8), []⟩,
    ⟨12, some 64, some (62, true), .mov (.tmp 10), []⟩,
    ⟨13, some 65, some (62, true), .bin .eql .bool (.tmp 63) (.tmp 64), []⟩,
    ⟨14, some 66, none, .pick (.tmp 62) (.tmp 65) (.const (.bool false)), []⟩,
    ⟨15, some 67, none, .mov (.tmp 66), []⟩,
    ⟨16, some 68, some (67, true), .mov (.tmp 11), []⟩,
    ⟨17, some 69, some (67, true), .mov (.tmp 13), []⟩,
    ⟨18, some 70, some (67, true), .bin .eql .other (.tmp 68) (.tmp 69), []⟩,
    ⟨19, some 71, none, .pick (.tmp 67) (.tmp 70) (.const (.bool false)), []⟩,
    ⟨20, some 72, none, .mov (.tmp 71), []⟩,
    ⟨21, some 73, some (72, true), .mov (.tmp 12), []⟩,
    ⟨22, some 74, some (72, true), .mov (.tmp 14), []⟩,
    ⟨23, some 75, some (72, true), .bin .eql .bool (.tmp 73) (.tmp 74), []⟩,
    ⟨24, some 76, none, .pick (.tmp 72) (.tmp 75) (.const (.bool false)), []⟩,
    ⟨25, some 77, none, .mov (.tmp 76), []⟩,
    ⟨26, some 78, some (77, true), .load true 4 (.tmp 3), []⟩,
    ⟨27, some 79, some (77, true), .mov (.tmp 1), []⟩,
    ⟨28, some 80, some (77, true), .mov (.tmp 2), []⟩,
    ⟨30, some 82, some (77, true), .load true 4 (.tmp 3), []⟩,
    ⟨31, some 83, some (77, true), .mov (.tmp 1), []⟩,
    ⟨32, some 84, some (77, true), .mov (.tmp 2), []⟩,
    ⟨29, some 81, some (77, true), .call 23 [.tmp 78, .tmp 79, .tmp 80], [(.tmp 3, .tmp 3)]⟩,
    ⟨33, some 85, some (77, true), .call 24 [.tmp 82, .tmp 83, .tmp 84], []⟩,
    ⟨34, some 86, some (77, true), .bin .eql .bool (.tmp 81) (.tmp 85), []⟩,
    ⟨35, some 87, none, .pick (.tmp 77) (.tmp 86) (.const (.bool false)), []⟩,
    ⟨36, some 88, none, .mov (.tmp 87), []⟩,
    ⟨37, some 89, some (88, true), .call 16 [], []⟩,
    ⟨38, some 90, none, .pick (.tmp 88) (.tmp 89) (.const (.bool false)), []⟩,
    ⟨39, some 6, none, .mov (.tmp 90), []⟩]) (
  .ret)))))))
def ir3 : IFunc := ⟨91, [.tmp 6], ir3_b⟩
theorem ir3_eq : cFunc Try.prog 3 = some ir3 := by kernel_rfl
theorem call3 {args : List Value} {m : Mem} {Φ : Value → Mem → Prop} (h : args.length ≤ 91) : WPCall Try.prog 3 args m Φ = WP Try.prog ir3_b (initσ args) m (retK [.tmp 6] Φ) := wpCall_def ir3_eq h
/-- drydock/drydocklaw12.MaxflowRaw -/
def ir4_b : ICode :=
  .seq (
  .region [
    ⟨0, some 1, none, .box (.tmp 0), []⟩,
    ⟨1, some 2, none, .mov (.const (.bool false)), []⟩]) (
  .seq (
  .seq (
  .region [
    ⟨0, some 9, none, .load true 4 (.tmp 1), []⟩,
    ⟨1, some 10, none, .call 15 [.tmp 9], []⟩]) (
  .cond (.tmp 10) (
   .seq (
   .region [
     ⟨0, some 11, none, .call 16 [], []⟩,
     ⟨1, some 2, none, .mov (.tmp 11), []⟩]) (
   .ret)) (
   .skip))) (
  .seq (
  .seq (
  .region [
    ⟨0, some 12, none, .load true 4 (.tmp 1), []⟩,
    ⟨1, some 13, none, .call 22 [.tmp 12], []⟩,
    ⟨2, some 14, none, .un .not (.tmp 13), []⟩]) (
  .cond (.tmp 14) (
   .seq (
   .region [
     ⟨0, some 16, none, .load true 4 (.tmp 1), []⟩,
     ⟨1, some 17, none, .call 25 [.tmp 16], []⟩,
     ⟨2, some 15, none, .mov (.tmp 17), []⟩,
     ⟨3, some 18, none, .ext 0 (.tmp 15), []⟩,
     ⟨4, some 19, none, .ext 1 (.tmp 15), []⟩,
     ⟨5, some 20, none, .ext 2 (.tmp 15), []⟩,
     ⟨6, some 21, none, .ext 3 (.tmp 15), []⟩,
     ⟨7, some 3, none, .mov (.tmp 18), []⟩,
     ⟨8, some 4, none, .mov (.tmp 19), []⟩,
     ⟨9, some 5, none, .mov (.tmp 20), []⟩,
     ⟨10, some 6, none, .mov (.tmp 21), []⟩]) (
   .seq (
   .region [
     ⟨0, some 22, none, .mov (.tmp 6), []⟩,
     ⟨1, some 23, none, .bin .eql .other (.tmp 22) (.const (.int .i64 1)), []⟩,
     ⟨2, some 24, none, .mov (.tmp 23), []⟩,
     ⟨3, some 25, some (24, true), .mov (.tmp 3), []⟩,
     ⟨4, some 26, some (24, true), .lenV (.tmp 25), []⟩,
     ⟨5, some 27, some (24, true), .bin .eql .other (.tmp 26) (.const (.int .i64 0)), []⟩,
     ⟨6, some 28, none, .pick (.tmp 24) (.tmp 27) (.const (.bool false)), []⟩,
     ⟨7, some 29, none, .mov (.tmp 28), []⟩,
     ⟨8, some 30, some (29, true), .mov (.tmp 4), []⟩,
     ⟨9, some 31, some (29, true), .bin .eql .other (.tmp 30) (.const (.int .i64 0)), []⟩,
     ⟨10, some 32, none, .pick (.tmp 29) (.tmp 31) (.const (.bool false)), []⟩,
     ⟨11, some 33, none, .mov (.tmp 32), []⟩,
     ⟨12, some 34, some (33, true), .mov (.tmp 5), []⟩,
     ⟨13, some 35, some (33, true), .lenV (.tmp 34), []⟩,
     ⟨14, some 36, some (33, true), .bin .eql .other (.tmp 35) (.const (.int .i64 0)), []⟩,
     ⟨15, some 37, none, .pick (.tmp 33) (.tmp 36) (.const (.bool false)), []⟩,
     ⟨16, some 38, none, .mov (.tmp 37), []⟩,
     ⟨17, some 39, some (38, true), .call 16 [], []⟩,
     ⟨18, some 40, none, .pick (.tmp 38) (.tmp 39) (.const (.bool false)), []⟩,
     ⟨19, some 2, none, .mov (.tmp 40), []⟩]) (
   .ret))) (
   .skip))) (
  .seq (
  .region [
    ⟨0, some 42, none, .load true 4 (.tmp 1), []⟩,
    ⟨1, some 43, none, .call 26 [.tmp 42], []⟩,
    ⟨2, some 41, none, .mov (.tmp 43), []⟩,
    ⟨3, some 44, none, .ext 0 (.tmp 41), []⟩,
    ⟨4, some 45, none, .ext 1 (.tmp 41), []⟩,
    ⟨5, some 7, none, .mov (.tmp 44), []⟩,
    ⟨6, some 8, none, .mov (.tmp 45), []⟩]) (
  .seq (
  .region [
    ⟨0, some 46, none, .mov (.tmp 8), []⟩,
    ⟨1, some 47, none, .mov (.tmp 46), []⟩,
    ⟨2, some 48, some (47, true), .call 16 [], []⟩,
    ⟨3, some 49, none, .pick (.tmp 47) (.tmp 48) (.const (.bool false)), []⟩,
    ⟨4, some 2, none, .mov (.tmp 49), []⟩]) (
  .ret)))))
def ir4 : IFunc := ⟨50, [.tmp 2], ir4_b⟩
theorem ir4_eq : cFunc Try.prog 4 = some ir4 := by kernel_rfl
theorem call4 {args : List Value} {m : Mem} {Φ : Value → Mem → Prop} (h : args.length ≤ 50) : WPCall Try.prog 4 args m Φ = WP Try.prog ir4_b (initσ args) m (retK [.tmp 2] Φ) := wpCall_def ir4_eq h
/-- drydock/drydockmake.New -/
def ir27_b : ICode :=
  .seq (
  .region [
    ⟨0, some 2, none, .mov (.const (.pointer none)), []⟩]) (
  .seq (
  .seq (
  .region [
    ⟨0, some 3, none, .mov (.tmp 0), []⟩,
    ⟨1, some 4, none, .lenV (.tmp 3), []⟩,
    ⟨2, some 5, none, .bin .gtr .other (.tmp 4) (.const (.int .i64 400)), []⟩]) (
  .cond (.tmp 5) (
   .region [
     ⟨0, some 6, none, .mov (.tmp 0), []⟩,
     ⟨1, some 7, none, .sliceS 1 (.tmp 6) none (some (.const (.int .i64 400))), []⟩,
     ⟨2, some 0, none, .mov (.tmp 7), []⟩]) (
   .skip))) (
  .seq (
  .region [
    ⟨0, some 8, none, .mov (.tmp 0), []⟩,
    ⟨1, some 9, none, .app 1 1 (.const (.slice none 0 0)) (.tmp 8), []⟩,
    ⟨2, some 10, none, .build [.slice none 0 0, .int .i64 0] [(0, 1, .tmp 9)], []⟩,
    ⟨3, some 11, none, .box (.tmp 10), []⟩,
    ⟨4, some 2, none, .mov (.tmp 11), []⟩]) (
  .ret)))
def ir27 : IFunc := ⟨12, [.tmp 2], ir27_b⟩
theorem ir27_eq : cFunc Try.prog 27 = some ir27 := by kernel_rfl
theorem call27 {args : List Value} {m : Mem} {Φ : Value → Mem → Prop} (h : args.length ≤ 12) : WPCall Try.prog 27 args m Φ = WP Try.prog ir27_b (initσ args) m (retK [.tmp 2] Φ) := wpCall_def ir27_eq h
/-- (*drydock/drydockmake.Tape).Network -/
def ir28_l0 : ICode :=
  .seq (
  .seq (
  .region [
    ⟨0, some 31, none, .mov (.tmp 5), []⟩,
    ⟨1, some 32, none, .mov (.tmp 4), []⟩,
    ⟨2, some 33, none, .bin .lss .other (.tmp 31) (.tmp 32), []⟩]) (
  .cond (.tmp 33) (
   .skip) (
   .exit 0))) (
  .seq (
  .block 1 (
  .region [
    ⟨0, some 36, none, .faddr 3 (.tmp 3), []⟩,
    ⟨1, some 37, none, .load false 1 (.tmp 36), []⟩,
    ⟨2, some 38, none, .mov (.tmp 0), []⟩,
    ⟨3, some 39, none, .faddr 0 (.tmp 3), []⟩,
    ⟨4, some 40, none, .load false 1 (.tmp 39), []⟩,
    ⟨6, some 42, none, .mov (.tmp 0), []⟩,
    ⟨7, some 43, none, .faddr 0 (.tmp 3), []⟩,
    ⟨8, some 44, none, .load false 1 (.tmp 43), []⟩,
    ⟨10, some 46, none, .mov (.tmp 0), []⟩,
    ⟨12, some 48, none, .mov (.tmp 0), []⟩,
    ⟨5, some 41, none, .call 37 [.tmp 38, .tmp 40], [(.tmp 43, .tmp 43), (.tmp 36, .tmp 36)]⟩,
    ⟨9, some 45, none, .call 37 [.tmp 42, .tmp 44], [(.tmp 36, .tmp 36)]⟩,
    ⟨11, some 47, none, .call 37 [.tmp 46, .const (.int .i64 6)], [(.tmp 36, .tmp 36)]⟩,
    ⟨13, some 49, none, .call 37 [.tmp 48, .const (.int .i64 5)], [(.tmp 36, .tmp 36)]⟩,
    ⟨14, some 50, none, .build [.int .i64 0, .int .i64 0, .int .i64 0, .int .i64 0] [(0, 1, .tmp 41), (1, 1, .tmp 45), (2, 1, .tmp 47), (3, 1, .tmp 49)], []⟩,
    ⟨15, some 51, none, .bslice 4 1 [.int .i64 0, .int .i64 0, .int .i64 0, .int .i64 0] [(0, 4, .tmp 50)], []⟩,
    ⟨16, some 52, none, .app 4 32 (.tmp 37) (.tmp 51), []⟩,
    ⟨17, some 53, none, .faddr 3 (.tmp 3), []⟩,
    ⟨18, none, none, .store 1 (.tmp 53) (.tmp 52), []⟩])) (
  .region [
    ⟨0, some 34, none, .mov (.tmp 5), []⟩,
    ⟨1, some 35, none, .bin .add .other (.tmp 34) (.const (.int .i64 1)), []⟩,
    ⟨2, some 5, none, .mov (.tmp 35), []⟩]))
def ir28_b : ICode :=
  .seq (
  .region [
    ⟨0, some 2, none, .alloc [.int .i64 0, .int .i64 0, .int .i64 0, .slice none 0 0], []⟩]) (
  .seq (
  .region [
    ⟨0, some 6, none, .mov (.tmp 0), []⟩,
    ⟨1, some 7, none, .call 37 [.tmp 6, .const (.int .i64 6)], []⟩,
    ⟨2, some 8, none, .bin .add .other (.const (.int .i64 2)) (.tmp 7), []⟩,
    ⟨3, some 9, none, .build [.int .i64 0, .int .i64 0, .int .i64 0, .slice none 0 0] [(0, 1, .tmp 8)], []⟩,
    ⟨4, some 3, none, .alloc [.int .i64 0, .int .i64 0, .int .i64 0, .slice none 0 0], []⟩,
    ⟨5, none, none, .store 4 (.tmp 3) (.tmp 9), []⟩]) (
  .seq (
  .region [
    ⟨0, some 10, none, .mov (.tmp 0), []⟩,
    ⟨1, some 11, none, .faddr 0 (.tmp 3), []⟩,
    ⟨2, some 12, none, .load false 1 (.tmp 11), []⟩,
    ⟨3, some 13, none, .call 37 [.tmp 10, .tmp 12], []⟩,
    ⟨4, some 14, none, .faddr 1 (.tmp 3), []⟩,
    ⟨5, none, none, .store 1 (.tmp 14) (.tmp 13), []⟩]) (
  .seq (
  .region [
    ⟨0, some 15, none, .faddr 1 (.tmp 3), []⟩,
    ⟨1, some 16, none, .load false 1 (.tmp 15), []⟩,
    ⟨2, some 17, none, .bin .add .other (.tmp 16) (.const (.int .i64 1)), []⟩,
    ⟨3, some 18, none, .mov (.tmp 0), []⟩,
    ⟨4, some 19, none, .faddr 0 (.tmp 3), []⟩,
    ⟨5, some 20, none, .load false 1 (.tmp 19), []⟩,
    ⟨6, some 21, none, .bin .sub .other (.tmp 20) (.const (.int .i64 1)), []⟩,
    ⟨9, some 24, none, .faddr 0 (.tmp 3), []⟩,
    ⟨10, some 25, none, .load false 1 (.tmp 24), []⟩,
    ⟨7, some 22, none, .call 37 [.tmp 18, .tmp 21], [(.tmp 24, .tmp 24), (.tmp 15, .tmp 15)]⟩,
    ⟨8, some 23, none, .bin .add .other (.tmp 17) (.tmp 22), []⟩,
    ⟨11, some 26, none, .bin .rem .other (.tmp 23) (.tmp 25), []⟩,
    ⟨12, some 27, none, .faddr 2 (.tmp 3), []⟩,
    ⟨13, none, none, .store 1 (.tmp 27) (.tmp 26), []⟩]) (
  .seq (
  .region [
    ⟨0, some 28, none, .mov (.tmp 0), []⟩,
    ⟨1, some 29, none, .call 37 [.tmp 28, .const (.int .i64 14)], []⟩,
    ⟨2, some 30, none, .bin .add .other (.const (.int .i64 2)) (.tmp 29), []⟩,
    ⟨3, some 4, none, .mov (.tmp 30), []⟩]) (
  .seq (
  .seq (
  .region [
    ⟨0, some 5, none, .mov (.const (.int .i64 0)), []⟩]) (
  .block 0 (
  .loop ir28_l0))) (
  .seq (
  .region [
    ⟨0, some 54, none, .load true 4 (.tmp 3), []⟩,
    ⟨1, none, none, .store 4 (.tmp 2) (.tmp 54), []⟩]) (
  .ret)))))))
def ir28 : IFunc := ⟨55, [.cell 2 true 4], ir28_b⟩
theorem ir28_eq : cFunc Try.prog 28 = some ir28 := by kernel_rfl
theorem call28 {args : List Value} {m : Mem} {Φ : Value → Mem → Prop} (h : args.length ≤ 55) : WPCall Try.prog 28 args m Φ = WP Try.prog ir28_b (initσ args) m (retK [.cell 2 true 4] Φ) := wpCall_def ir28_eq h
/-- (*drydock/drydockmake.Tape).Next -/
def ir37_b : ICode :=
  .seq (
  .region [
    ⟨0, some 4, none, .mov (.const (.int .i64 0)), []⟩]) (
  .seq (
  .seq (
  .region [
    ⟨0, some 5, none, .mov (.tmp 0), []⟩,
    ⟨1, some 6, none, .nilck (.tmp 5), []⟩,
    ⟨2, some 7, none, .faddr 1 (.tmp 6), []⟩,
    ⟨3, some 8, none, .load false 1 (.tmp 7), []⟩,
    ⟨4, some 9, none, .mov (.tmp 0), []⟩,
    ⟨5, some 10, none, .nilck (.tmp 9), []⟩,
    ⟨6, some 11, none, .faddr 0 (.tmp 10), []⟩,
    ⟨7, some 12, none, .load false 1 (.tmp 11), []⟩,
    ⟨8, some 13, none, .lenV (.tmp 12), []⟩,
    ⟨9, some 14, none, .bin .geq .other (.tmp 8) (.tmp 13), []⟩,
    ⟨10, some 15, none, .mov (.tmp 14), []⟩,
    ⟨11, some 16, some (15, false), .mov (.tmp 1), []⟩,
    ⟨12, some 17, some (15, false), .bin .lss .other (.tmp 16) (.const (.int .i64 2)), []⟩,
    ⟨13, some 18, none, .pick (.tmp 15) (.const (.bool true)) (.tmp 17), []⟩]) (
  .cond (.tmp 18) (
   .seq (
   .region [
     ⟨0, some 4, none, .mov (.const (.int .i64 0)), []⟩]) (
   .ret)) (
   .skip))) (
  .seq (
  .region [
    ⟨0, some 19, none, .mov (.tmp 0), []⟩,
    ⟨1, some 20, none, .nilck (.tmp 19), []⟩,
    ⟨2, some 21, none, .faddr 1 (.tmp 20), []⟩,
    ⟨3, some 22, none, .load false 1 (.tmp 21), []⟩,
    ⟨4, some 23, none, .bin .add .other (.tmp 22) (.const (.int .i64 1)), []⟩,
    ⟨5, some 24, none, .nilck (.tmp 19), []⟩,
    ⟨6, some 25, none, .faddr 1 (.tmp 24), []⟩,
    ⟨7, none, none, .store 1 (.tmp 25) (.tmp 23), []⟩]) (
  .seq (
  .region [
    ⟨0, some 26, none, .mov (.tmp 0), []⟩,
    ⟨1, some 27, none, .nilck (.tmp 26), []⟩,
    ⟨2, some 28, none, .faddr 0 (.tmp 27), []⟩,
    ⟨3, some 29, none, .load false 1 (.tmp 28), []⟩,
    ⟨4, some 30, none, .mov (.tmp 0), []⟩,
    ⟨5, some 31, none, .nilck (.tmp 30), []⟩,
    ⟨6, some 32, none, .faddr 1 (.tmp 31), []⟩,
    ⟨7, some 33, none, .load false 1 (.tmp 32), []⟩,
    ⟨8, some 34, none, .bin .sub .other (.tmp 33) (.const (.int .i64 1)), []⟩,
    ⟨9, some 35, none, .iaddr 1 (.tmp 29) (.tmp 34), []⟩,
    ⟨10, some 36, none, .load false 1 (.tmp 35), []⟩,
    ⟨11, some 37, none, .convI .i64 (.tmp 36), []⟩,
    ⟨12, some 38, none, .mov (.tmp 1), []⟩,
    ⟨13, some 39, none, .bin .rem .other (.tmp 37) (.tmp 38), []⟩,
    ⟨14, some 4, none, .mov (.tmp 39), []⟩]) (
  .ret))))
def ir37 : IFunc := ⟨40, [.tmp 4], ir37_b⟩
theorem ir37_eq : cFunc Try.prog 37 = some ir37 := by kernel_rfl
theorem call37 {args : List Value} {m : Mem} {Φ : Value → Mem → Prop} (h : args.length ≤ 40) : WPCall Try.prog 37 args m Φ = WP Try.prog ir37_b (initσ args) m (retK [.tmp 4] Φ) := wpCall_def ir37_eq h
end Go.Proofs.Ytapnkfkpkcajjaa
