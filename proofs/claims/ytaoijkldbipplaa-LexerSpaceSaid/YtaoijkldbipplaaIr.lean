/-
  The intermediate forms of this seat's functions, written by a program of ours (wip/Ir.lean); each is checked against the loaded program.
-/
import Derived.Test.YtaoijkldbipplaaRows
import Derived.Test.YtaoijkldbipplaaFwX
namespace Go.Proofs.Ytaoijkldbipplaa
open Go Go.DI

/-- drydock/drydocklaw08.LexerExact -/
def ir3_b : ICode :=
  .seq (
  .region [
    ⟨0, some 2, none, .mov (.const (.bool false)), []⟩]) (
  .seq (
  .seq (
  .region [
    ⟨0, some 9, none, .mov (.tmp 0), []⟩,
    ⟨1, some 10, none, .lenS (.tmp 9), []⟩,
    ⟨2, some 11, none, .bin .gtr .other (.tmp 10) (.const (.int .i64 9000)), []⟩]) (
  .cond (.tmp 11) (
   .seq (
   .region [
     ⟨0, some 12, none, .call 8 [], []⟩,
     ⟨1, some 2, none, .mov (.tmp 12), []⟩]) (
   .ret)) (
   .skip))) (
  .seq (
  .region [
    ⟨0, some 14, none, .mov (.tmp 0), []⟩,
    ⟨1, some 15, none, .call 9 [.tmp 14], []⟩,
    ⟨2, some 13, none, .mov (.tmp 15), []⟩,
    ⟨3, some 16, none, .ext 0 (.tmp 13), []⟩,
    ⟨4, some 17, none, .ext 1 (.tmp 13), []⟩,
    ⟨5, some 18, none, .ext 2 (.tmp 13), []⟩,
    ⟨6, some 5, none, .alloc [.int .i64 0, .int .i64 0], []⟩,
    ⟨7, some 3, none, .mov (.tmp 16), []⟩,
    ⟨8, some 4, none, .mov (.tmp 17), []⟩,
    ⟨9, none, none, .store 2 (.tmp 5) (.tmp 18), []⟩]) (
  .seq (
  .region [
    ⟨0, some 20, none, .mov (.tmp 0), []⟩,
    ⟨1, some 21, none, .call 10 [.tmp 20], []⟩,
    ⟨2, some 19, none, .mov (.tmp 21), []⟩,
    ⟨3, some 22, none, .ext 0 (.tmp 19), []⟩,
    ⟨4, some 23, none, .ext 1 (.tmp 19), []⟩,
    ⟨5, some 24, none, .ext 2 (.tmp 19), []⟩,
    ⟨6, some 8, none, .alloc [.int .i64 0, .int .i64 0], []⟩,
    ⟨7, some 6, none, .mov (.tmp 22), []⟩,
    ⟨8, some 7, none, .mov (.tmp 23), []⟩,
    ⟨9, none, none, .store 2 (.tmp 8) (.tmp 24), []⟩]) (
  .seq (
  .region [
    ⟨0, some 25, none, .mov (.tmp 4), []⟩,
    ⟨1, some 26, none, .mov (.tmp 7), []⟩,
    ⟨2, some 27, none, .bin .eql .other (.tmp 25) (.tmp 26), []⟩,
    ⟨3, some 28, none, .mov (.tmp 27), []⟩,
    ⟨4, some 29, some (28, true), .load true 2 (.tmp 5), []⟩,
    ⟨5, some 30, some (28, true), .load true 2 (.tmp 8), []⟩,
    ⟨6, some 31, some (28, true), .eqAgg false [.int, .int] (.tmp 29) (.tmp 30), []⟩,
    ⟨7, some 32, none, .pick (.tmp 28) (.tmp 31) (.const (.bool false)), []⟩,
    ⟨8, some 33, none, .mov (.tmp 32), []⟩,
    ⟨9, some 34, some (33, true), .mov (.tmp 3), []⟩,
    ⟨10, some 35, some (33, true), .mov (.tmp 6), []⟩,
    ⟨11, some 36, some (33, true), .call 11 [.tmp 34, .tmp 35], []⟩,
    ⟨12, some 37, none, .pick (.tmp 33) (.tmp 36) (.const (.bool false)), []⟩,
    ⟨13, some 38, none, .mov (.tmp 37), []⟩,
    ⟨14, some 39, some (38, true), .call 8 [], []⟩,
    ⟨15, some 40, none, .pick (.tmp 38) (.tmp 39) (.const (.bool false)), []⟩,
    ⟨16, some 2, none, .mov (.tmp 40), []⟩]) (
  .ret)))))
def ir3 : IFunc := ⟨41, [.tmp 2], ir3_b⟩
theorem ir3_eq : cFunc Try.prog 3 = some ir3 := by kernel_rfl
theorem call3 {args : List Value} {m : Mem} {Φ : Value → Mem → Prop} (h : args.length ≤ 41) : WPCall Try.prog 3 args m Φ = WP Try.prog ir3_b (initσ args) m (retK [.tmp 2] Φ) := wpCall_def ir3_eq h
/-- drydock/drydocklaw08.LexerPlaces -/
def ir4_l0 : ICode :=
  .seq (
  .seq (
  .region [
    ⟨0, some 36, none, .mov (.tmp 6), []⟩,
    ⟨1, some 37, none, .mov (.tmp 3), []⟩,
    ⟨2, some 38, none, .mov (.tmp 10), []⟩,
    ⟨3, some 39, none, .iaddr 4 (.tmp 37) (.tmp 38), []⟩,
    ⟨4, some 40, none, .faddr 2 (.tmp 39), []⟩,
    ⟨5, some 41, none, .faddr 0 (.tmp 40), []⟩,
    ⟨6, some 42, none, .load false 1 (.tmp 41), []⟩,
    ⟨7, some 43, none, .bin .lss .other (.tmp 36) (.tmp 42), []⟩,
    ⟨8, some 44, none, .mov (.tmp 43), []⟩,
    ⟨9, some 45, some (44, false), .mov (.tmp 6), []⟩,
    ⟨10, some 46, some (44, false), .mov (.tmp 3), []⟩,
    ⟨11, some 47, some (44, false), .mov (.tmp 10), []⟩,
    ⟨12, some 48, some (44, false), .iaddr 4 (.tmp 46) (.tmp 47), []⟩,
    ⟨13, some 49, some (44, false), .faddr 2 (.tmp 48), []⟩,
    ⟨14, some 50, some (44, false), .faddr 0 (.tmp 49), []⟩,
    ⟨15, some 51, some (44, false), .load false 1 (.tmp 50), []⟩,
    ⟨16, some 52, some (44, false), .bin .eql .other (.tmp 45) (.tmp 51), []⟩,
    ⟨17, some 53, some (44, false), .mov (.tmp 52), []⟩,
    ⟨18, some 54, some (53, true), .mov (.tmp 7), []⟩,
    ⟨19, some 55, some (53, true), .mov (.tmp 3), []⟩,
    ⟨20, some 56, some (53, true), .mov (.tmp 10), []⟩,
    ⟨21, some 57, some (53, true), .iaddr 4 (.tmp 55) (.tmp 56), []⟩,
    ⟨22, some 58, some (53, true), .faddr 2 (.tmp 57), []⟩,
    ⟨23, some 59, some (53, true), .faddr 1 (.tmp 58), []⟩,
    ⟨24, some 60, some (53, true), .load false 1 (.tmp 59), []⟩,
    ⟨25, some 61, some (53, true), .bin .lss .other (.tmp 54) (.tmp 60), []⟩,
    ⟨26, some 62, some (44, false), .pick (.tmp 53) (.tmp 61) (.const (.bool false)), []⟩,
    ⟨27, some 63, none, .pick (.tmp 44) (.const (.bool true)) (.tmp 62), []⟩]) (
  .cond (.tmp 63) (
   .skip) (
   .exit 2))) (
  .block 3 (
  .seq (
  .seq (
  .region [
    ⟨0, some 64, none, .mov (.tmp 8), []⟩,
    ⟨1, some 65, none, .mov (.tmp 0), []⟩,
    ⟨2, some 66, none, .lenS (.tmp 65), []⟩,
    ⟨3, some 67, none, .bin .geq .other (.tmp 64) (.tmp 66), []⟩]) (
  .cond (.tmp 67) (
   .seq (
   .region [
     ⟨0, some 2, none, .mov (.const (.bool false)), []⟩]) (
   .ret)) (
   .skip))) (
  .seq (
  .region [
    ⟨0, some 68, none, .mov (.tmp 0), []⟩,
    ⟨1, some 69, none, .mov (.tmp 8), []⟩,
    ⟨2, some 70, none, .idxStr (.tmp 68) (.tmp 69), []⟩,
    ⟨3, some 11, none, .mov (.tmp 70), []⟩]) (
  .seq (
  .region [
    ⟨0, some 71, none, .mov (.tmp 11), []⟩,
    ⟨1, some 72, none, .bin .eql .other (.tmp 71) (.const (.int .u8 35)), []⟩,
    ⟨2, some 73, none, .mov (.tmp 72), []⟩,
    ⟨3, some 74, some (73, false), .mov (.tmp 9), []⟩,
    ⟨4, some 75, some (73, false), .mov (.tmp 74), []⟩,
    ⟨5, some 76, some (75, true), .mov (.tmp 11), []⟩,
    ⟨6, some 77, some (75, true), .bin .neq .other (.tmp 76) (.const (.int .u8 10)), []⟩,
    ⟨7, some 78, some (73, false), .pick (.tmp 75) (.tmp 77) (.const (.bool false)), []⟩,
    ⟨8, some 79, none, .pick (.tmp 73) (.const (.bool true)) (.tmp 78), []⟩,
    ⟨9, some 9, none, .mov (.tmp 79), []⟩]) (
  .seq (
  .seq (
  .region [
    ⟨0, some 80, none, .mov (.tmp 9), []⟩,
    ⟨1, some 81, none, .un .not (.tmp 80), []⟩,
    ⟨2, some 82, none, .mov (.tmp 81), []⟩,
    ⟨3, some 83, some (82, true), .mov (.tmp 11), []⟩,
    ⟨4, some 84, some (82, true), .bin .neq .other (.tmp 83) (.const (.int .u8 32)), []⟩,
    ⟨5, some 85, none, .pick (.tmp 82) (.tmp 84) (.const (.bool false)), []⟩,
    ⟨6, some 86, none, .mov (.tmp 85), []⟩,
    ⟨7, some 87, some (86, true), .mov (.tmp 11), []⟩,
    ⟨8, some 88, some (86, true), .bin .neq .other (.tmp 87) (.const (.int .u8 9)), []⟩,
    ⟨9, some 89, none, .pick (.tmp 86) (.tmp 88) (.const (.bool false)), []⟩,
    ⟨10, some 90, none, .mov (.tmp 89), []⟩,
    ⟨11, some 91, some (90, true), .mov (.tmp 11), []⟩,
    ⟨12, some 92, some (90, true), .bin .neq .other (.tmp 91) (.const (.int .u8 10)), []⟩,
    ⟨13, some 93, none, .pick (.tmp 90) (.tmp 92) (.const (.bool false)), []⟩,
    ⟨14, some 94, none, .mov (.tmp 93), []⟩,
    ⟨15, some 95, some (94, true), .mov (.tmp 11), []⟩,
    ⟨16, some 96, some (94, true), .bin .neq .other (.tmp 95) (.const (.int .u8 13)), []⟩,
    ⟨17, some 97, none, .pick (.tmp 94) (.tmp 96) (.const (.bool false)), []⟩]) (
  .cond (.tmp 97) (
   .seq (
   .region [
     ⟨0, some 2, none, .mov (.const (.bool false)), []⟩]) (
   .ret)) (
   .skip))) (
  .seq (
  .region [
    ⟨0, some 98, none, .mov (.tmp 8), []⟩,
    ⟨1, some 99, none, .bin .add .other (.tmp 98) (.const (.int .i64 1)), []⟩,
    ⟨2, some 100, none, .mov (.tmp 7), []⟩,
    ⟨3, some 101, none, .bin .add .other (.tmp 100) (.const (.int .i64 1)), []⟩,
    ⟨4, some 8, none, .mov (.tmp 99), []⟩,
    ⟨5, some 7, none, .mov (.tmp 101), []⟩]) (
  .seq (
  .region [
    ⟨0, some 102, none, .mov (.tmp 11), []⟩,
    ⟨1, some 103, none, .bin .eql .other (.tmp 102) (.const (.int .u8 10)), []⟩]) (
  .cond (.tmp 103) (
   .region [
     ⟨0, some 104, none, .mov (.tmp 6), []⟩,
     ⟨1, some 105, none, .bin .add .other (.tmp 104) (.const (.int .i64 1)), []⟩,
     ⟨2, some 6, none, .mov (.tmp 105), []⟩,
     ⟨3, some 7, none, .mov (.const (.int .i64 1)), []⟩]) (
   .skip)))))))))
def ir4_l1 : ICode :=
  .seq (
  .seq (
  .region [
    ⟨0, some 30, none, .mov (.tmp 10), []⟩,
    ⟨1, some 31, none, .mov (.tmp 3), []⟩,
    ⟨2, some 32, none, .lenV (.tmp 31), []⟩,
    ⟨3, some 33, none, .bin .lss .other (.tmp 30) (.tmp 32), []⟩]) (
  .cond (.tmp 33) (
   .skip) (
   .exit 0))) (
  .seq (
  .block 1 (
  .seq (
  .block 2 (
  .loop ir4_l0)) (
  .seq (
  .seq (
  .region [
    ⟨0, some 106, none, .mov (.tmp 6), []⟩,
    ⟨1, some 107, none, .mov (.tmp 3), []⟩,
    ⟨2, some 108, none, .mov (.tmp 10), []⟩,
    ⟨3, some 109, none, .iaddr 4 (.tmp 107) (.tmp 108), []⟩,
    ⟨4, some 110, none, .faddr 2 (.tmp 109), []⟩,
    ⟨5, some 111, none, .faddr 0 (.tmp 110), []⟩,
    ⟨6, some 112, none, .load false 1 (.tmp 111), []⟩,
    ⟨7, some 113, none, .bin .neq .other (.tmp 106) (.tmp 112), []⟩,
    ⟨8, some 114, none, .mov (.tmp 113), []⟩,
    ⟨9, some 115, some (114, false), .mov (.tmp 7), []⟩,
    ⟨10, some 116, some (114, false), .mov (.tmp 3), []⟩,
    ⟨11, some 117, some (114, false), .mov (.tmp 10), []⟩,
    ⟨12, some 118, some (114, false), .iaddr 4 (.tmp 116) (.tmp 117), []⟩,
    ⟨13, some 119, some (114, false), .faddr 2 (.tmp 118), []⟩,
    ⟨14, some 120, some (114, false), .faddr 1 (.tmp 119), []⟩,
    ⟨15, some 121, some (114, false), .load false 1 (.tmp 120), []⟩,
    ⟨16, some 122, some (114, false), .bin .neq .other (.tmp 115) (.tmp 121), []⟩,
    ⟨17, some 123, none, .pick (.tmp 114) (.const (.bool true)) (.tmp 122), []⟩,
    ⟨18, some 124, none, .mov (.tmp 123), []⟩,
    ⟨19, some 125, some (124, false), .mov (.tmp 9), []⟩,
    ⟨20, some 126, some (124, false), .mov (.tmp 125), []⟩,
    ⟨21, some 127, some (126, true), .mov (.tmp 10), []⟩,
    ⟨22, some 128, some (126, true), .bin .add .other (.tmp 127) (.const (.int .i64 1)), []⟩,
    ⟨23, some 129, some (126, true), .mov (.tmp 3), []⟩,
    ⟨24, some 130, some (126, true), .lenV (.tmp 129), []⟩,
    ⟨25, some 131, some (126, true), .bin .lss .other (.tmp 128) (.tmp 130), []⟩,
    ⟨26, some 132, some (124, false), .pick (.tmp 126) (.tmp 131) (.const (.bool false)), []⟩,
    ⟨27, some 133, none, .pick (.tmp 124) (.const (.bool true)) (.tmp 132), []⟩,
    ⟨28, some 134, none, .mov (.tmp 133), []⟩,
    ⟨29, some 135, some (134, false), .mov (.tmp 8), []⟩,
    ⟨30, some 136, some (134, false), .mov (.tmp 3), []⟩,
    ⟨31, some 137, some (134, false), .mov (.tmp 10), []⟩,
    ⟨32, some 138, some (134, false), .iaddr 4 (.tmp 136) (.tmp 137), []⟩,
    ⟨33, some 139, some (134, false), .faddr 1 (.tmp 138), []⟩,
    ⟨34, some 140, some (134, false), .load false 1 (.tmp 139), []⟩,
    ⟨35, some 141, some (134, false), .lenS (.tmp 140), []⟩,
    ⟨36, some 142, some (134, false), .bin .add .other (.tmp 135) (.tmp 141), []⟩,
    ⟨37, some 143, some (134, false), .mov (.tmp 0), []⟩,
    ⟨38, some 144, some (134, false), .lenS (.tmp 143), []⟩,
    ⟨39, some 145, some (134, false), .bin .gtr .other (.tmp 142) (.tmp 144), []⟩,
    ⟨40, some 146, none, .pick (.tmp 134) (.const (.bool true)) (.tmp 145), []⟩,
    ⟨41, some 147, none, .mov (.tmp 146), []⟩,
    ⟨42, some 148, some (147, false), .mov (.tmp 0), []⟩,
    ⟨43, some 149, some (147, false), .mov (.tmp 8), []⟩,
    ⟨44, some 150, some (147, false), .mov (.tmp 8), []⟩,
    ⟨45, some 151, some (147, false), .mov (.tmp 3), []⟩,
    ⟨46, some 152, some (147, false), .mov (.tmp 10), []⟩,
    ⟨47, some 153, some (147, false), .iaddr 4 (.tmp 151) (.tmp 152), []⟩,
    ⟨48, some 154, some (147, false), .faddr 1 (.tmp 153), []⟩,
    ⟨49, some 155, some (147, false), .load false 1 (.tmp 154), []⟩,
    ⟨50, some 156, some (147, false), .lenS (.tmp 155), []⟩,
    ⟨51, some 157, some (147, false), .bin .add .other (.tmp 150) (.tmp 156), []⟩,
    ⟨52, some 158, some (147, false), .sliceStr (.tmp 148) (some (.tmp 149)) (some (.tmp 157)), []⟩,
    ⟨53, some 159, some (147, false), .mov (.tmp 3), []⟩,
    ⟨54, some 160, some (147, false), .mov (.tmp 10), []⟩,
    ⟨55, some 161, some (147, false), .iaddr 4 (.tmp 159) (.tmp 160), []⟩,
    ⟨56, some 162, some (147, false), .faddr 1 (.tmp 161), []⟩,
    ⟨57, some 163, some (147, false), .load false 1 (.tmp 162), []⟩,
    ⟨58, some 164, some (147, false), .bin .neq .other (.tmp 158) (.tmp 163), []⟩,
    ⟨59, some 165, none, .pick (.tmp 147) (.const (.bool true)) (.tmp 164), []⟩]) (
  .cond (.tmp 165) (
   .seq (
   .region [
     ⟨0, some 2, none, .mov (.const (.bool false)), []⟩]) (
   .ret)) (
   .skip))) (
  .seq (
  .region [
    ⟨0, some 166, none, .mov (.tmp 8), []⟩,
    ⟨1, some 167, none, .mov (.tmp 3), []⟩,
    ⟨2, some 168, none, .mov (.tmp 10), []⟩,
    ⟨3, some 169, none, .iaddr 4 (.tmp 167) (.tmp 168), []⟩,
    ⟨4, some 170, none, .faddr 1 (.tmp 169), []⟩,
    ⟨5, some 171, none, .load false 1 (.tmp 170), []⟩,
    ⟨6, some 172, none, .lenS (.tmp 171), []⟩,
    ⟨7, some 173, none, .bin .add .other (.tmp 166) (.tmp 172), []⟩,
    ⟨8, some 174, none, .mov (.tmp 7), []⟩,
    ⟨9, some 175, none, .mov (.tmp 3), []⟩,
    ⟨10, some 176, none, .mov (.tmp 10), []⟩,
    ⟨11, some 177, none, .iaddr 4 (.tmp 175) (.tmp 176), []⟩,
    ⟨12, some 178, none, .faddr 1 (.tmp 177), []⟩,
    ⟨13, some 179, none, .load false 1 (.tmp 178), []⟩,
    ⟨14, some 180, none, .lenS (.tmp 179), []⟩,
    ⟨15, some 181, none, .bin .add .other (.tmp 174) (.tmp 180), []⟩,
    ⟨16, some 8, none, .mov (.tmp 173), []⟩,
    ⟨17, some 7, none, .mov (.tmp 181), []⟩]) (
  .seq (
  .region [
    ⟨0, some 182, none, .mov (.tmp 3), []⟩,
    ⟨1, some 183, none, .mov (.tmp 10), []⟩,
    ⟨2, some 184, none, .iaddr 4 (.tmp 182) (.tmp 183), []⟩,
    ⟨3, some 185, none, .faddr 0 (.tmp 184), []⟩,
    ⟨4, some 186, none, .load false 1 (.tmp 185), []⟩,
    ⟨5, some 187, none, .bin .eql .other (.tmp 186) (.const (.int .i64 4)), []⟩,
    ⟨6, some 188, none, .mov (.tmp 10), []⟩,
    ⟨7, some 189, none, .bin .add .other (.tmp 188) (.const (.int .i64 1)), []⟩,
    ⟨8, some 190, none, .mov (.tmp 3), []⟩,
    ⟨9, some 191, none, .lenV (.tmp 190), []⟩,
    ⟨10, some 192, none, .bin .eql .other (.tmp 189) (.tmp 191), []⟩,
    ⟨11, some 193, none, .bin .neq .bool (.tmp 187) (.tmp 192), []⟩,
    ⟨12, some 194, none, .mov (.tmp 193), []⟩,
    ⟨13, some 195, some (194, false), .mov (.tmp 3), []⟩,
    ⟨14, some 196, some (194, false), .mov (.tmp 10), []⟩,
    ⟨15, some 197, some (194, false), .iaddr 4 (.tmp 195) (.tmp 196), []⟩,
    ⟨16, some 198, some (194, false), .faddr 1 (.tmp 197), []⟩,
    ⟨17, some 199, some (194, false), .load false 1 (.tmp 198), []⟩,
    ⟨18, some 200, some (194, false), .lenS (.tmp 199), []⟩,
    ⟨19, some 201, some (194, false), .bin .eql .other (.tmp 200) (.const (.int .i64 0)), []⟩,
    ⟨20, some 202, some (194, false), .mov (.tmp 3), []⟩,
    ⟨21, some 203, some (194, false), .mov (.tmp 10), []⟩,
    ⟨22, some 204, some (194, false), .iaddr 4 (.tmp 202) (.tmp 203), []⟩,
    ⟨23, some 205, some (194, false), .faddr 0 (.tmp 204), []⟩,
    ⟨24, some 206, some (194, false), .load false 1 (.tmp 205), []⟩,
    ⟨25, some 207, some (194, false), .bin .eql .other (.tmp 206) (.const (.int .i64 4)), []⟩,
    ⟨26, some 208, some (194, false), .bin .neq .bool (.tmp 201) (.tmp 207), []⟩,
    ⟨27, some 209, none, .pick (.tmp 194) (.const (.bool true)) (.tmp 208), []⟩]) (
  .cond (.tmp 209) (
   .seq (
   .region [
     ⟨0, some 2, none, .mov (.const (.bool false)), []⟩]) (
   .ret)) (
   .skip))))))) (
  .region [
    ⟨0, some 34, none, .mov (.tmp 10), []⟩,
    ⟨1, some 35, none, .bin .add .other (.tmp 34) (.const (.int .i64 1)), []⟩,
    ⟨2, some 10, none, .mov (.tmp 35), []⟩]))
def ir4_b : ICode :=
  .seq (
  .region [
    ⟨0, some 2, none, .mov (.const (.bool false)), []⟩]) (
  .seq (
  .seq (
  .region [
    ⟨0, some 12, none, .mov (.tmp 0), []⟩,
    ⟨1, some 13, none, .lenS (.tmp 12), []⟩,
    ⟨2, some 14, none, .bin .gtr .other (.tmp 13) (.const (.int .i64 2000)), []⟩]) (
  .cond (.tmp 14) (
   .seq (
   .region [
     ⟨0, some 15, none, .call 8 [], []⟩,
     ⟨1, some 2, none, .mov (.tmp 15), []⟩]) (
   .ret)) (
   .skip))) (
  .seq (
  .region [
    ⟨0, some 17, none, .mov (.tmp 0), []⟩,
    ⟨1, some 18, none, .call 9 [.tmp 17], []⟩,
    ⟨2, some 16, none, .mov (.tmp 18), []⟩,
    ⟨3, some 19, none, .ext 0 (.tmp 16), []⟩,
    ⟨4, some 20, none, .ext 1 (.tmp 16), []⟩,
    ⟨5, some 21, none, .ext 2 (.tmp 16), []⟩,
    ⟨6, some 5, none, .alloc [.int .i64 0, .int .i64 0], []⟩,
    ⟨7, some 3, none, .mov (.tmp 19), []⟩,
    ⟨8, some 4, none, .mov (.tmp 20), []⟩,
    ⟨9, none, none, .store 2 (.tmp 5) (.tmp 21), []⟩]) (
  .seq (
  .seq (
  .region [
    ⟨0, some 22, none, .mov (.tmp 4), []⟩,
    ⟨1, some 23, none, .bin .neq .other (.tmp 22) (.const (.int .i64 0)), []⟩]) (
  .cond (.tmp 23) (
   .seq (
   .region [
     ⟨0, some 24, none, .mov (.tmp 3), []⟩,
     ⟨1, some 25, none, .lenV (.tmp 24), []⟩,
     ⟨2, some 26, none, .bin .eql .other (.tmp 25) (.const (.int .i64 0)), []⟩,
     ⟨3, some 27, none, .mov (.tmp 26), []⟩,
     ⟨4, some 28, some (27, true), .call 8 [], []⟩,
     ⟨5, some 29, none, .pick (.tmp 27) (.tmp 28) (.const (.bool false)), []⟩,
     ⟨6, some 2, none, .mov (.tmp 29), []⟩]) (
   .ret)) (
   .skip))) (
  .seq (
  .region [
    ⟨0, some 6, none, .mov (.const (.int .i64 1)), []⟩,
    ⟨1, some 7, none, .mov (.const (.int .i64 1)), []⟩,
    ⟨2, some 8, none, .mov (.const (.int .i64 0)), []⟩,
    ⟨3, some 9, none, .mov (.const (.bool false)), []⟩]) (
  .seq (
  .seq (
  .region [
    ⟨0, some 10, none, .mov (.const (.int .i64 0)), []⟩]) (
  .block 0 (
  .loop ir4_l1))) (
  .seq (
  .region [
    ⟨0, some 210, none, .mov (.tmp 8), []⟩,
    ⟨1, some 211, none, .mov (.tmp 0), []⟩,
    ⟨2, some 212, none, .lenS (.tmp 211), []⟩,
    ⟨3, some 213, none, .bin .eql .other (.tmp 210) (.tmp 212), []⟩,
    ⟨4, some 214, none, .mov (.tmp 213), []⟩,
    ⟨5, some 215, some (214, true), .call 8 [], []⟩,
    ⟨6, some 216, none, .pick (.tmp 214) (.tmp 215) (.const (.bool false)), []⟩,
    ⟨7, some 2, none, .mov (.tmp 216), []⟩]) (
  .ret)))))))
def ir4 : IFunc := ⟨217, [.tmp 2], ir4_b⟩
theorem ir4_eq : cFunc Try.prog 4 = some ir4 := by kernel_rfl
theorem call4 {args : List Value} {m : Mem} {Φ : Value → Mem → Prop} (h : args.length ≤ 217) : WPCall Try.prog 4 args m Φ = WP Try.prog ir4_b (initσ args) m (retK [.tmp 2] Φ) := wpCall_def ir4_eq h
/-- drydock/drydocklaw08.LexerSpace -/
def ir5_l0 : ICode :=
  .seq (
  .seq (
  .region [
    ⟨0, some 28, none, .mov (.tmp 9), []⟩,
    ⟨1, some 29, none, .mov (.tmp 5), []⟩,
    ⟨2, some 30, none, .lenV (.tmp 29), []⟩,
    ⟨3, some 31, none, .bin .lss .other (.tmp 28) (.tmp 30), []⟩]) (
  .cond (.tmp 31) (
   .skip) (
   .exit 0))) (
  .seq (
  .block 1 (
  .seq (
  .region [
    ⟨0, some 10, none, .mov (.const (.string ⟨#[32]⟩)), []⟩]) (
  .seq (
  .seq (
  .region [
    ⟨0, some 34, none, .mov (.tmp 9), []⟩,
    ⟨1, some 35, none, .mov (.tmp 1), []⟩,
    ⟨2, some 36, none, .lenV (.tmp 35), []⟩,
    ⟨3, some 37, none, .bin .lss .other (.tmp 34) (.tmp 36), []⟩]) (
  .cond (.tmp 37) (
   .region [
     ⟨0, some 38, none, .bslice 1 5 [.string ⟨#[]⟩, .string ⟨#[]⟩, .string ⟨#[]⟩, .string ⟨#[]⟩, .string ⟨#[]⟩] [(0, 1, .const (.string ⟨#[32]⟩)), (1, 1, .const (.string ⟨#[10]⟩)), (2, 1, .const (.string ⟨#[9, 13, 32]⟩)), (3, 1, .const (.string ⟨#[35, 120, 59, 121, 123, 10]⟩)), (4, 1, .const (.string ⟨#[32, 35, 32, 49, 47, 50, 10, 10]⟩))], []⟩,
     ⟨1, some 39, none, .mov (.tmp 1), []⟩,
     ⟨2, some 40, none, .mov (.tmp 9), []⟩,
     ⟨3, some 41, none, .iaddr 1 (.tmp 39) (.tmp 40), []⟩,
     ⟨4, some 42, none, .load false 1 (.tmp 41), []⟩,
     ⟨5, some 43, none, .convI .i64 (.tmp 42), []⟩,
     ⟨6, some 44, none, .bin .rem .other (.tmp 43) (.const (.int .i64 5)), []⟩,
     ⟨7, some 45, none, .iaddr 1 (.tmp 38) (.tmp 44), []⟩,
     ⟨8, some 46, none, .load false 1 (.tmp 45), []⟩,
     ⟨9, some 10, none, .mov (.tmp 46), []⟩]) (
   .skip))) (
  .region [
    ⟨0, some 47, none, .mov (.tmp 8), []⟩,
    ⟨1, some 48, none, .mov (.tmp 10), []⟩,
    ⟨2, some 49, none, .bin .add .other (.tmp 47) (.tmp 48), []⟩,
    ⟨3, some 50, none, .mov (.tmp 5), []⟩,
    ⟨4, some 51, none, .mov (.tmp 9), []⟩,
    ⟨5, some 52, none, .iaddr 4 (.tmp 50) (.tmp 51), []⟩,
    ⟨6, some 53, none, .faddr 1 (.tmp 52), []⟩,
    ⟨7, some 54, none, .load false 1 (.tmp 53), []⟩,
    ⟨8, some 55, none, .bin .add .other (.tmp 49) (.tmp 54), []⟩,
    ⟨9, some 8, none, .mov (.tmp 55), []⟩])))) (
  .region [
    ⟨0, some 32, none, .mov (.tmp 9), []⟩,
    ⟨1, some 33, none, .bin .add .other (.tmp 32) (.const (.int .i64 1)), []⟩,
    ⟨2, some 9, none, .mov (.tmp 33), []⟩]))
def ir5_l1 : ICode :=
  .seq (
  .seq (
  .region [
    ⟨0, some 75, none, .mov (.tmp 14), []⟩,
    ⟨1, some 76, none, .mov (.tmp 5), []⟩,
    ⟨2, some 77, none, .lenV (.tmp 76), []⟩,
    ⟨3, some 78, none, .bin .lss .other (.tmp 75) (.tmp 77), []⟩]) (
  .cond (.tmp 78) (
   .skip) (
   .exit 2))) (
  .seq (
  .block 3 (
  .seq (
  .region [
    ⟨0, some 81, none, .mov (.tmp 5), []⟩,
    ⟨1, some 82, none, .mov (.tmp 14), []⟩,
    ⟨2, some 83, none, .iaddr 4 (.tmp 81) (.tmp 82), []⟩,
    ⟨3, some 84, none, .faddr 0 (.tmp 83), []⟩,
    ⟨4, some 85, none, .load false 1 (.tmp 84), []⟩,
    ⟨5, some 86, none, .mov (.tmp 11), []⟩,
    ⟨6, some 87, none, .mov (.tmp 14), []⟩,
    ⟨7, some 88, none, .iaddr 4 (.tmp 86) (.tmp 87), []⟩,
    ⟨8, some 89, none, .faddr 0 (.tmp 88), []⟩,
    ⟨9, some 90, none, .load false 1 (.tmp 89), []⟩,
    ⟨10, some 91, none, .bin .neq .other (.tmp 85) (.tmp 90), []⟩,
    ⟨11, some 92, none, .mov (.tmp 91), []⟩,
    ⟨12, some 93, some (92, false), .mov (.tmp 5), []⟩,
    ⟨13, some 94, some (92, false), .mov (.tmp 14), []⟩,
    ⟨14, some 95, some (92, false), .iaddr 4 (.tmp 93) (.tmp 94), []⟩,
    ⟨15, some 96, some (92, false), .faddr 1 (.tmp 95), []⟩,
    ⟨16, some 97, some (92, false), .load false 1 (.tmp 96), []⟩,
    ⟨17, some 98, some (92, false), .mov (.tmp 11), []⟩,
    ⟨18, some 99, some (92, false), .mov (.tmp 14), []⟩,
    ⟨19, some 100, some (92, false), .iaddr 4 (.tmp 98) (.tmp 99), []⟩,
    ⟨20, some 101, some (92, false), .faddr 1 (.tmp 100), []⟩,
    ⟨21, some 102, some (92, false), .load false 1 (.tmp 101), []⟩,
    ⟨22, some 103, some (92, false), .bin .neq .other (.tmp 97) (.tmp 102), []⟩,
    ⟨23, some 104, none, .pick (.tmp 92) (.const (.bool true)) (.tmp 103), []⟩]) (
  .cond (.tmp 104) (
   .seq (
   .region [
     ⟨0, some 4, none, .mov (.const (.bool false)), []⟩]) (
   .ret)) (
   .skip)))) (
  .region [
    ⟨0, some 79, none, .mov (.tmp 14), []⟩,
    ⟨1, some 80, none, .bin .add .other (.tmp 79) (.const (.int .i64 1)), []⟩,
    ⟨2, some 14, none, .mov (.tmp 80), []⟩]))
def ir5_b : ICode :=
  .seq (
  .region [
    ⟨0, some 4, none, .mov (.const (.bool false)), []⟩]) (
  .seq (
  .seq (
  .region [
    ⟨0, some 15, none, .mov (.tmp 0), []⟩,
    ⟨1, some 16, none, .lenS (.tmp 15), []⟩,
    ⟨2, some 17, none, .bin .gtr .other (.tmp 16) (.const (.int .i64 800)), []⟩]) (
  .cond (.tmp 17) (
   .seq (
   .region [
     ⟨0, some 18, none, .call 8 [], []⟩,
     ⟨1, some 4, none, .mov (.tmp 18), []⟩]) (
   .ret)) (
   .skip))) (
  .seq (
  .region [
    ⟨0, some 20, none, .mov (.tmp 0), []⟩,
    ⟨1, some 21, none, .call 9 [.tmp 20], []⟩,
    ⟨2, some 19, none, .mov (.tmp 21), []⟩,
    ⟨3, some 22, none, .ext 0 (.tmp 19), []⟩,
    ⟨4, some 23, none, .ext 1 (.tmp 19), []⟩,
    ⟨5, some 24, none, .ext 2 (.tmp 19), []⟩,
    ⟨6, some 7, none, .alloc [.int .i64 0, .int .i64 0], []⟩,
    ⟨7, some 5, none, .mov (.tmp 22), []⟩,
    ⟨8, some 6, none, .mov (.tmp 23), []⟩,
    ⟨9, none, none, .store 2 (.tmp 7) (.tmp 24), []⟩]) (
  .seq (
  .seq (
  .region [
    ⟨0, some 25, none, .mov (.tmp 6), []⟩,
    ⟨1, some 26, none, .bin .neq .other (.tmp 25) (.const (.int .i64 0)), []⟩]) (
  .cond (.tmp 26) (
   .seq (
   .region [
     ⟨0, some 27, none, .call 8 [], []⟩,
     ⟨1, some 4, none, .mov (.tmp 27), []⟩]) (
   .ret)) (
   .skip))) (
  .seq (
  .region [
    ⟨0, some 8, none, .mov (.const (.string ⟨#[]⟩)), []⟩]) (
  .seq (
  .seq (
  .region [
    ⟨0, some 9, none, .mov (.const (.int .i64 0)), []⟩]) (
  .block 0 (
  .loop ir5_l0))) (
  .seq (
  .seq (
  .region [
    ⟨0, some 56, none, .mov (.tmp 8), []⟩,
    ⟨1, some 57, none, .lenS (.tmp 56), []⟩,
    ⟨2, some 58, none, .bin .gtr .other (.tmp 57) (.const (.int .i64 8000)), []⟩]) (
  .cond (.tmp 58) (
   .seq (
   .region [
     ⟨0, some 59, none, .call 8 [], []⟩,
     ⟨1, some 4, none, .mov (.tmp 59), []⟩]) (
   .ret)) (
   .skip))) (
  .seq (
  .region [
    ⟨0, some 61, none, .mov (.tmp 8), []⟩,
    ⟨1, some 62, none, .call 9 [.tmp 61], []⟩,
    ⟨2, some 60, none, .mov (.tmp 62), []⟩,
    ⟨3, some 63, none, .ext 0 (.tmp 60), []⟩,
    ⟨4, some 64, none, .ext 1 (.tmp 60), []⟩,
    ⟨5, some 65, none, .ext 2 (.tmp 60), []⟩,
    ⟨6, some 13, none, .alloc [.int .i64 0, .int .i64 0], []⟩,
    ⟨7, some 11, none, .mov (.tmp 63), []⟩,
    ⟨8, some 12, none, .mov (.tmp 64), []⟩,
    ⟨9, none, none, .store 2 (.tmp 13) (.tmp 65), []⟩]) (
  .seq (
  .seq (
  .region [
    ⟨0, some 66, none, .mov (.tmp 12), []⟩,
    ⟨1, some 67, none, .bin .neq .other (.tmp 66) (.const (.int .i64 0)), []⟩,
    ⟨2, some 68, none, .mov (.tmp 67), []⟩,
    ⟨3, some 69, some (68, false), .mov (.tmp 11), []⟩,
    ⟨4, some 70, some (68, false), .lenV (.tmp 69), []⟩,
    ⟨5, some 71, some (68, false), .mov (.tmp 5), []⟩,
    ⟨6, some 72, some (68, false), .lenV (.tmp 71), []⟩,
    ⟨7, some 73, some (68, false), .bin .neq .other (.tmp 70) (.tmp 72), []⟩,
    ⟨8, some 74, none, .pick (.tmp 68) (.const (.bool true)) (.tmp 73), []⟩]) (
  .cond (.tmp 74) (
   .seq (
   .region [
     ⟨0, some 4, none, .mov (.const (.bool false)), []⟩]) (
   .ret)) (
   .skip))) (
  .seq (
  .seq (
  .region [
    ⟨0, some 14, none, .mov (.const (.int .i64 0)), []⟩]) (
  .block 2 (
  .loop ir5_l1))) (
  .seq (
  .region [
    ⟨0, some 105, none, .call 8 [], []⟩,
    ⟨1, some 4, none, .mov (.tmp 105), []⟩]) (
  .ret)))))))))))
def ir5 : IFunc := ⟨106, [.tmp 4], ir5_b⟩
theorem ir5_eq : cFunc Try.prog 5 = some ir5 := by kernel_rfl
theorem call5 {args : List Value} {m : Mem} {Φ : Value → Mem → Prop} (h : args.length ≤ 106) : WPCall Try.prog 5 args m Φ = WP Try.prog ir5_b (initσ args) m (retK [.tmp 4] Φ) := wpCall_def ir5_eq h
/-- drydock/drydocklaw08.LexerLimits -/
def ir6_b : ICode :=
  .seq (
  .region [
    ⟨0, some 8, none, .mov (.const (.bool false)), []⟩]) (
  .seq (
  .region [
    ⟨0, some 23, none, .mov (.tmp 2), []⟩,
    ⟨1, some 24, none, .convI .i64 (.tmp 23), []⟩,
    ⟨2, some 25, none, .call 12 [.const (.int .u8 32), .tmp 24], []⟩,
    ⟨3, some 26, none, .mov (.tmp 0), []⟩,
    ⟨4, some 27, none, .convI .i64 (.tmp 26), []⟩,
    ⟨5, some 28, none, .bin .rem .other (.tmp 27) (.const (.int .i64 5)), []⟩,
    ⟨6, some 29, none, .bin .add .other (.const (.int .i64 14)) (.tmp 28), []⟩,
    ⟨7, some 30, none, .call 12 [.const (.int .u8 97), .tmp 29], []⟩,
    ⟨8, some 31, none, .bin .add .other (.tmp 25) (.tmp 30), []⟩,
    ⟨9, some 32, none, .bin .add .other (.tmp 31) (.const (.string ⟨#[10]⟩)), []⟩,
    ⟨10, some 33, none, .mov (.tmp 1), []⟩,
    ⟨11, some 34, none, .convI .i64 (.tmp 33), []⟩,
    ⟨12, some 35, none, .bin .rem .other (.tmp 34) (.const (.int .i64 5)), []⟩,
    ⟨13, some 36, none, .bin .add .other (.const (.int .i64 38)) (.tmp 35), []⟩,
    ⟨14, some 37, none, .call 12 [.const (.int .u8 55), .tmp 36], []⟩,
    ⟨15, some 38, none, .bin .add .other (.tmp 32) (.tmp 37), []⟩,
    ⟨16, some 9, none, .mov (.tmp 38), []⟩]) (
  .seq (
  .seq (
  .region [
    ⟨0, some 39, none, .mov (.tmp 3), []⟩]) (
  .cond (.tmp 39) (
   .region [
     ⟨0, some 40, none, .mov (.tmp 9), []⟩,
     ⟨1, some 41, none, .bin .add .other (.tmp 40) (.const (.string ⟨#[33]⟩)), []⟩,
     ⟨2, some 9, none, .mov (.tmp 41), []⟩]) (
   .skip))) (
  .seq (
  .region [
    ⟨0, some 43, none, .mov (.tmp 9), []⟩,
    ⟨1, some 44, none, .call 9 [.tmp 43], []⟩,
    ⟨2, some 42, none, .mov (.tmp 44), []⟩,
    ⟨3, some 45, none, .ext 0 (.tmp 42), []⟩,
    ⟨4, some 46, none, .ext 1 (.tmp 42), []⟩,
    ⟨5, some 47, none, .ext 2 (.tmp 42), []⟩,
    ⟨6, some 12, none, .alloc [.int .i64 0, .int .i64 0], []⟩,
    ⟨7, some 10, none, .mov (.tmp 45), []⟩,
    ⟨8, some 11, none, .mov (.tmp 46), []⟩,
    ⟨9, none, none, .store 2 (.tmp 12) (.tmp 47), []⟩]) (
  .seq (
  .region [
    ⟨0, some 49, none, .mov (.tmp 9), []⟩,
    ⟨1, some 50, none, .call 10 [.tmp 49], []⟩,
    ⟨2, some 48, none, .mov (.tmp 50), []⟩,
    ⟨3, some 51, none, .ext 0 (.tmp 48), []⟩,
    ⟨4, some 52, none, .ext 1 (.tmp 48), []⟩,
    ⟨5, some 53, none, .ext 2 (.tmp 48), []⟩,
    ⟨6, some 15, none, .alloc [.int .i64 0, .int .i64 0], []⟩,
    ⟨7, some 13, none, .mov (.tmp 51), []⟩,
    ⟨8, some 14, none, .mov (.tmp 52), []⟩,
    ⟨9, none, none, .store 2 (.tmp 15) (.tmp 53), []⟩]) (
  .seq (
  .region [
    ⟨0, some 54, none, .mov (.tmp 1), []⟩,
    ⟨1, some 55, none, .convI .i64 (.tmp 54), []⟩,
    ⟨2, some 56, none, .call 12 [.const (.int .u8 10), .tmp 55], []⟩,
    ⟨3, some 57, none, .mov (.tmp 1), []⟩,
    ⟨4, some 58, none, .convI .i64 (.tmp 57), []⟩,
    ⟨5, some 59, none, .bin .sub .other (.const (.int .i64 7998)) (.tmp 58), []⟩,
    ⟨6, some 60, none, .mov (.tmp 0), []⟩,
    ⟨7, some 61, none, .convI .i64 (.tmp 60), []⟩,
    ⟨8, some 62, none, .bin .rem .other (.tmp 61) (.const (.int .i64 5)), []⟩,
    ⟨9, some 63, none, .bin .add .other (.tmp 59) (.tmp 62), []⟩,
    ⟨10, some 64, none, .call 12 [.const (.int .u8 59), .tmp 63], []⟩,
    ⟨11, some 65, none, .bin .add .other (.tmp 56) (.tmp 64), []⟩,
    ⟨12, some 16, none, .mov (.tmp 65), []⟩]) (
  .seq (
  .region [
    ⟨0, some 67, none, .mov (.tmp 16), []⟩,
    ⟨1, some 68, none, .call 9 [.tmp 67], []⟩,
    ⟨2, some 66, none, .mov (.tmp 68), []⟩,
    ⟨3, some 69, none, .ext 0 (.tmp 66), []⟩,
    ⟨4, some 70, none, .ext 1 (.tmp 66), []⟩,
    ⟨5, some 71, none, .ext 2 (.tmp 66), []⟩,
    ⟨6, some 19, none, .alloc [.int .i64 0, .int .i64 0], []⟩,
    ⟨7, some 17, none, .mov (.tmp 69), []⟩,
    ⟨8, some 18, none, .mov (.tmp 70), []⟩,
    ⟨9, none, none, .store 2 (.tmp 19) (.tmp 71), []⟩]) (
  .seq (
  .region [
    ⟨0, some 73, none, .mov (.tmp 16), []⟩,
    ⟨1, some 74, none, .call 10 [.tmp 73], []⟩,
    ⟨2, some 72, none, .mov (.tmp 74), []⟩,
    ⟨3, some 75, none, .ext 0 (.tmp 72), []⟩,
    ⟨4, some 76, none, .ext 1 (.tmp 72), []⟩,
    ⟨5, some 77, none, .ext 2 (.tmp 72), []⟩,
    ⟨6, some 22, none, .alloc [.int .i64 0, .int .i64 0], []⟩,
    ⟨7, some 20, none, .mov (.tmp 75), []⟩,
    ⟨8, some 21, none, .mov (.tmp 76), []⟩,
    ⟨9, none, none, .store 2 (.tmp 22) (.tmp 77), []⟩]) (
  .seq (
  .region [
    ⟨0, some 78, none, .mov (.tmp 11), []⟩,
    ⟨1, some 79, none, .mov (.tmp 14), []⟩,
    ⟨2, some 80, none, .bin .eql .other (.tmp 78) (.tmp 79), []⟩,
    ⟨3, some 81, none, .mov (.tmp 80), []⟩,
    ⟨4, some 82, some (81, true), .load true 2 (.tmp 12), []⟩,
    ⟨5, some 83, some (81, true), .load true 2 (.tmp 15), []⟩,
    ⟨6, some 84, some (81, true), .eqAgg false [.int, .int] (.tmp 82) (.tmp 83), []⟩,
    ⟨7, some 85, none, .pick (.tmp 81) (.tmp 84) (.const (.bool false)), []⟩,
    ⟨8, some 86, none, .mov (.tmp 85), []⟩,
    ⟨9, some 87, some (86, true), .mov (.tmp 10), []⟩,
    ⟨10, some 88, some (86, true), .mov (.tmp 13), []⟩,
    ⟨11, some 89, some (86, true), .call 11 [.tmp 87, .tmp 88], []⟩,
    ⟨12, some 90, none, .pick (.tmp 86) (.tmp 89) (.const (.bool false)), []⟩,
    ⟨13, some 91, none, .mov (.tmp 90), []⟩,
    ⟨14, some 92, some (91, true), .mov (.tmp 18), []⟩,
    ⟨15, some 93, some (91, true), .mov (.tmp 21), []⟩,
    ⟨16, some 94, some (91, true), .bin .eql .other (.tmp 92) (.tmp 93), []⟩,
    ⟨17, some 95, none, .pick (.tmp 91) (.tmp 94) (.const (.bool false)), []⟩,
    ⟨18, some 96, none, .mov (.tmp 95), []⟩,
    ⟨19, some 97, some (96, true), .load true 2 (.tmp 19), []⟩,
    ⟨20, some 98, some (96, true), .load true 2 (.tmp 22), []⟩,
    ⟨21, some 99, some (96, true), .eqAgg false [.int, .int] (.tmp 97) (.tmp 98), []⟩,
    ⟨22, some 100, none, .pick (.tmp 96) (.tmp 99) (.const (.bool false)), []⟩,
    ⟨23, some 101, none, .mov (.tmp 100), []⟩,
    ⟨24, some 102, some (101, true), .mov (.tmp 17), []⟩,
    ⟨25, some 103, some (101, true), .mov (.tmp 20), []⟩,
    ⟨26, some 104, some (101, true), .call 11 [.tmp 102, .tmp 103], []⟩,
    ⟨27, some 105, none, .pick (.tmp 101) (.tmp 104) (.const (.bool false)), []⟩,
    ⟨28, some 106, none, .mov (.tmp 105), []⟩,
    ⟨29, some 107, some (106, true), .call 8 [], []⟩,
    ⟨30, some 108, none, .pick (.tmp 106) (.tmp 107) (.const (.bool false)), []⟩,
    ⟨31, some 8, none, .mov (.tmp 108), []⟩]) (
  .ret)))))))))
def ir6 : IFunc := ⟨109, [.tmp 8], ir6_b⟩
theorem ir6_eq : cFunc Try.prog 6 = some ir6 := by kernel_rfl
theorem call6 {args : List Value} {m : Mem} {Φ : Value → Mem → Prop} (h : args.length ≤ 109) : WPCall Try.prog 6 args m Φ = WP Try.prog ir6_b (initσ args) m (retK [.tmp 8] Φ) := wpCall_def ir6_eq h
/-- drydock/drydocklaw08.LexerNames -/
def ir7_b : ICode :=
  .seq (
  .region [
    ⟨0, some 2, none, .mov (.const (.bool false)), []⟩]) (
  .seq (
  .seq (
  .region [
    ⟨0, some 7, none, .mov (.tmp 0), []⟩,
    ⟨1, some 8, none, .lenS (.tmp 7), []⟩,
    ⟨2, some 9, none, .bin .gtr .other (.tmp 8) (.const (.int .i64 200)), []⟩]) (
  .cond (.tmp 9) (
   .seq (
   .region [
     ⟨0, some 10, none, .call 8 [], []⟩,
     ⟨1, some 2, none, .mov (.tmp 10), []⟩]) (
   .ret)) (
   .skip))) (
  .seq (
  .region [
    ⟨0, some 12, none, .mov (.tmp 0), []⟩,
    ⟨1, some 13, none, .call 9 [.tmp 12], []⟩,
    ⟨2, some 11, none, .mov (.tmp 13), []⟩,
    ⟨3, some 14, none, .ext 0 (.tmp 11), []⟩,
    ⟨4, some 15, none, .ext 1 (.tmp 11), []⟩,
    ⟨5, some 16, none, .ext 2 (.tmp 11), []⟩,
    ⟨6, some 5, none, .alloc [.int .i64 0, .int .i64 0], []⟩,
    ⟨7, some 3, none, .mov (.tmp 14), []⟩,
    ⟨8, some 4, none, .mov (.tmp 15), []⟩,
    ⟨9, none, none, .store 2 (.tmp 5) (.tmp 16), []⟩]) (
  .seq (
  .region [
    ⟨0, some 17, none, .mov (.tmp 4), []⟩,
    ⟨1, some 18, none, .bin .eql .other (.tmp 17) (.const (.int .i64 0)), []⟩,
    ⟨2, some 19, none, .mov (.tmp 18), []⟩,
    ⟨3, some 20, some (19, true), .mov (.tmp 3), []⟩,
    ⟨4, some 21, some (19, true), .lenV (.tmp 20), []⟩,
    ⟨5, some 22, some (19, true), .bin .eql .other (.tmp 21) (.const (.int .i64 2)), []⟩,
    ⟨6, some 23, none, .pick (.tmp 19) (.tmp 22) (.const (.bool false)), []⟩,
    ⟨7, some 24, none, .mov (.tmp 23), []⟩,
    ⟨8, some 25, some (24, true), .mov (.tmp 3), []⟩,
    ⟨9, some 26, some (24, true), .iaddr 4 (.tmp 25) (.const (.int .i64 0)), []⟩,
    ⟨10, some 27, some (24, true), .faddr 0 (.tmp 26), []⟩,
    ⟨11, some 28, some (24, true), .load false 1 (.tmp 27), []⟩,
    ⟨12, some 29, some (24, true), .bin .eql .other (.tmp 28) (.const (.int .i64 1)), []⟩,
    ⟨13, some 30, none, .pick (.tmp 24) (.tmp 29) (.const (.bool false)), []⟩,
    ⟨14, some 31, none, .mov (.tmp 30), []⟩,
    ⟨15, some 32, some (31, true), .mov (.tmp 3), []⟩,
    ⟨16, some 33, some (31, true), .iaddr 4 (.tmp 32) (.const (.int .i64 0)), []⟩,
    ⟨17, some 34, some (31, true), .faddr 1 (.tmp 33), []⟩,
    ⟨18, some 35, some (31, true), .load false 1 (.tmp 34), []⟩,
    ⟨19, some 36, some (31, true), .mov (.tmp 0), []⟩,
    ⟨20, some 37, some (31, true), .bin .eql .other (.tmp 35) (.tmp 36), []⟩,
    ⟨21, some 38, none, .pick (.tmp 31) (.tmp 37) (.const (.bool false)), []⟩,
    ⟨22, some 6, none, .mov (.tmp 38), []⟩]) (
  .seq (
  .region [
    ⟨0, some 39, none, .mov (.tmp 0), []⟩,
    ⟨1, some 40, none, .call 13 [.tmp 39], []⟩,
    ⟨2, some 41, none, .mov (.tmp 0), []⟩,
    ⟨3, some 42, none, .call 14 [.tmp 41], []⟩,
    ⟨4, some 43, none, .bin .eql .bool (.tmp 40) (.tmp 42), []⟩,
    ⟨5, some 44, none, .mov (.tmp 43), []⟩,
    ⟨6, some 45, some (44, true), .mov (.tmp 0), []⟩,
    ⟨7, some 46, some (44, true), .call 13 [.tmp 45], []⟩,
    ⟨8, some 47, some (44, true), .mov (.tmp 6), []⟩,
    ⟨9, some 48, some (44, true), .bin .eql .bool (.tmp 46) (.tmp 47), []⟩,
    ⟨10, some 49, none, .pick (.tmp 44) (.tmp 48) (.const (.bool false)), []⟩,
    ⟨11, some 50, none, .mov (.tmp 49), []⟩,
    ⟨12, some 51, some (50, true), .call 8 [], []⟩,
    ⟨13, some 52, none, .pick (.tmp 50) (.tmp 51) (.const (.bool false)), []⟩,
    ⟨14, some 2, none, .mov (.tmp 52), []⟩]) (
  .ret)))))
def ir7 : IFunc := ⟨53, [.tmp 2], ir7_b⟩
theorem ir7_eq : cFunc Try.prog 7 = some ir7 := by kernel_rfl
theorem call7 {args : List Value} {m : Mem} {Φ : Value → Mem → Prop} (h : args.length ≤ 53) : WPCall Try.prog 7 args m Φ = WP Try.prog ir7_b (initσ args) m (retK [.tmp 2] Φ) := wpCall_def ir7_eq h
/-- drydock/drydocklaw08.awake -/
def ir8_b : ICode :=
  .seq (
  .region [
    ⟨0, some 0, none, .mov (.const (.bool false)), []⟩]) (
  .seq (
  .region [
    ⟨0, some 5, none, .call 9 [.const (.string ⟨#[97, 45, 49, 32, 49, 47, 50, 59, 32, 35, 32, 120]⟩)], []⟩,
    ⟨1, some 4, none, .mov (.tmp 5), []⟩,
    ⟨2, some 6, none, .ext 0 (.tmp 4), []⟩,
    ⟨3, some 7, none, .ext 1 (.tmp 4), []⟩,
    ⟨4, some 8, none, .ext 2 (.tmp 4), []⟩,
    ⟨5, some 3, none, .alloc [.int .i64 0, .int .i64 0], []⟩,
    ⟨6, some 1, none, .mov (.tmp 6), []⟩,
    ⟨7, some 2, none, .mov (.tmp 7), []⟩,
    ⟨8, none, none, .store 2 (.tmp 3) (.tmp 8), []⟩]) (
  .seq (
  .region [
    ⟨0, some 9, none, .mov (.tmp 2), []⟩,
    ⟨1, some 10, none, .bin .eql .other (.tmp 9) (.const (.int .i64 0)), []⟩,
    ⟨2, some 11, none, .mov (.tmp 10), []⟩,
    ⟨3, some 12, some (11, true), .load true 2 (.tmp 3), []⟩,
    ⟨4, some 13, some (11, true), .build [.int .i64 0, .int .i64 0] [], []⟩,
    ⟨5, some 14, some (11, true), .eqAgg false [.int, .int] (.tmp 12) (.tmp 13), []⟩,
    ⟨6, some 15, none, .pick (.tmp 11) (.tmp 14) (.const (.bool false)), []⟩,
    ⟨7, some 16, none, .mov (.tmp 15), []⟩,
    ⟨8, some 17, some (16, true), .mov (.tmp 1), []⟩,
    ⟨9, some 18, some (16, true), .lenV (.tmp 17), []⟩,
    ⟨10, some 19, some (16, true), .bin .eql .other (.tmp 18) (.const (.int .i64 6)), []⟩,
    ⟨11, some 20, none, .pick (.tmp 16) (.tmp 19) (.const (.bool false)), []⟩,
    ⟨12, some 21, none, .mov (.tmp 20), []⟩,
    ⟨13, some 22, some (21, true), .mov (.tmp 1), []⟩,
    ⟨14, some 23, some (21, true), .iaddr 4 (.tmp 22) (.const (.int .i64 0)), []⟩,
    ⟨15, some 24, some (21, true), .faddr 1 (.tmp 23), []⟩,
    ⟨16, some 25, some (21, true), .load false 1 (.tmp 24), []⟩,
    ⟨17, some 26, some (21, true), .bin .eql .other (.tmp 25) (.const (.string ⟨#[97, 45, 49]⟩)), []⟩,
    ⟨18, some 27, none, .pick (.tmp 21) (.tmp 26) (.const (.bool false)), []⟩,
    ⟨19, some 28, none, .mov (.tmp 27), []⟩,
    ⟨20, some 29, some (28, true), .mov (.tmp 1), []⟩,
    ⟨21, some 30, some (28, true), .iaddr 4 (.tmp 29) (.const (.int .i64 0)), []⟩,
    ⟨22, some 31, some (28, true), .faddr 0 (.tmp 30), []⟩,
    ⟨23, some 32, some (28, true), .load false 1 (.tmp 31), []⟩,
    ⟨24, some 33, some (28, true), .bin .eql .other (.tmp 32) (.const (.int .i64 1)), []⟩,
    ⟨25, some 34, none, .pick (.tmp 28) (.tmp 33) (.const (.bool false)), []⟩,
    ⟨26, some 35, none, .mov (.tmp 34), []⟩,
    ⟨27, some 36, some (35, true), .mov (.tmp 1), []⟩,
    ⟨28, some 37, some (35, true), .iaddr 4 (.tmp 36) (.const (.int .i64 3)), []⟩,
    ⟨29, some 38, some (35, true), .faddr 2 (.tmp 37), []⟩,
    ⟨30, some 39, some (35, true), .load true 2 (.tmp 38), []⟩,
    ⟨31, some 40, some (35, true), .build [.int .i64 0, .int .i64 0] [(0, 1, .const (.int .i64 1)), (1, 1, .const (.int .i64 7))], []⟩,
    ⟨32, some 41, some (35, true), .eqAgg false [.int, .int] (.tmp 39) (.tmp 40), []⟩,
    ⟨33, some 42, none, .pick (.tmp 35) (.tmp 41) (.const (.bool false)), []⟩,
    ⟨34, some 43, none, .mov (.tmp 42), []⟩,
    ⟨35, some 44, some (43, true), .mov (.tmp 1), []⟩,
    ⟨36, some 45, some (43, true), .iaddr 4 (.tmp 44) (.const (.int .i64 5)), []⟩,
    ⟨37, some 46, some (43, true), .faddr 0 (.tmp 45), []⟩,
    ⟨38, some 47, some (43, true), .load false 1 (.tmp 46), []⟩,
    ⟨39, some 48, some (43, true), .bin .eql .other (.tmp 47) (.const (.int .i64 4)), []⟩,
    ⟨40, some 49, none, .pick (.tmp 43) (.tmp 48) (.const (.bool false)), []⟩,
    ⟨41, some 50, none, .mov (.tmp 49), []⟩,
    ⟨42, some 51, some (50, true), .mov (.tmp 1), []⟩,
    ⟨43, some 52, some (50, true), .iaddr 4 (.tmp 51) (.const (.int .i64 5)), []⟩,
    ⟨44, some 53, some (50, true), .faddr 2 (.tmp 52), []⟩,
    ⟨45, some 54, some (50, true), .load true 2 (.tmp 53), []⟩,
    ⟨46, some 55, some (50, true), .build [.int .i64 0, .int .i64 0] [(0, 1, .const (.int .i64 1)), (1, 1, .const (.int .i64 13))], []⟩,
    ⟨47, some 56, some (50, true), .eqAgg false [.int, .int] (.tmp 54) (.tmp 55), []⟩,
    ⟨48, some 57, none, .pick (.tmp 50) (.tmp 56) (.const (.bool false)), []⟩,
    ⟨49, some 0, none, .mov (.tmp 57), []⟩]) (
  .ret)))
def ir8 : IFunc := ⟨58, [.tmp 0], ir8_b⟩
theorem ir8_eq : cFunc Try.prog 8 = some ir8 := by kernel_rfl
theorem call8 {args : List Value} {m : Mem} {Φ : Value → Mem → Prop} (h : args.length ≤ 58) : WPCall Try.prog 8 args m Φ = WP Try.prog ir8_b (initσ args) m (retK [.tmp 0] Φ) := wpCall_def ir8_eq h
/-- drydock/lexer.Scan -/
def ir9_l0 : ICode :=
  .seq (
  .seq (
  .region [
    ⟨0, some 16, none, .mov (.tmp 5), []⟩,
    ⟨1, some 17, none, .nilck (.tmp 16), []⟩,
    ⟨2, some 18, none, .faddr 1 (.tmp 17), []⟩,
    ⟨3, some 19, none, .load false 1 (.tmp 18), []⟩,
    ⟨4, some 20, none, .bin .lss .other (.tmp 19) (.const (.int .i64 8000)), []⟩]) (
  .cond (.tmp 20) (
   .skip) (
   .exit 0))) (
  .block 1 (
  .region [
    ⟨0, some 21, none, .mov (.tmp 5), []⟩,
    ⟨1, some 22, none, .call 15 [.tmp 21], []⟩]))
def ir9_l1 : ICode :=
  .block 3 (
  .seq (
  .region [
    ⟨0, some 27, none, .mov (.tmp 5), []⟩,
    ⟨1, some 28, none, .call 16 [.tmp 27], []⟩]) (
  .seq (
  .region [
    ⟨0, some 30, none, .mov (.tmp 5), []⟩,
    ⟨1, some 31, none, .call 17 [.tmp 30], []⟩,
    ⟨2, some 29, none, .mov (.tmp 31), []⟩,
    ⟨3, some 32, none, .ext 0 (.tmp 29), []⟩,
    ⟨4, some 33, none, .ext 1 (.tmp 29), []⟩,
    ⟨5, some 7, none, .alloc [.int .i64 0, .string ⟨#[]⟩, .int .i64 0, .int .i64 0], []⟩,
    ⟨6, none, none, .store 4 (.tmp 7) (.tmp 32), []⟩,
    ⟨7, some 8, none, .mov (.tmp 33), []⟩]) (
  .seq (
  .seq (
  .region [
    ⟨0, some 34, none, .mov (.tmp 8), []⟩,
    ⟨1, some 35, none, .bin .neq .other (.tmp 34) (.const (.int .i64 0)), []⟩]) (
  .cond (.tmp 35) (
   .seq (
   .region [
     ⟨0, some 36, none, .mov (.tmp 8), []⟩,
     ⟨1, some 37, none, .faddr 2 (.tmp 7), []⟩,
     ⟨2, some 38, none, .load true 2 (.tmp 37), []⟩,
     ⟨3, some 2, none, .mov (.const (.slice none 0 0)), []⟩,
     ⟨4, some 3, none, .mov (.tmp 36), []⟩,
     ⟨5, none, none, .store 2 (.tmp 4) (.tmp 38), []⟩]) (
   .ret)) (
   .skip))) (
  .seq (
  .region [
    ⟨0, some 39, none, .mov (.tmp 6), []⟩,
    ⟨1, some 40, none, .load true 4 (.tmp 7), []⟩,
    ⟨2, some 41, none, .bslice 4 1 [.int .i64 0, .string ⟨#[]⟩, .int .i64 0, .int .i64 0] [(0, 4, .tmp 40)], []⟩,
    ⟨3, some 42, none, .app 4 40 (.tmp 39) (.tmp 41), []⟩,
    ⟨4, some 6, none, .mov (.tmp 42), []⟩]) (
  .seq (
  .region [
    ⟨0, some 43, none, .faddr 0 (.tmp 7), []⟩,
    ⟨1, some 44, none, .load false 1 (.tmp 43), []⟩,
    ⟨2, some 45, none, .bin .eql .other (.tmp 44) (.const (.int .i64 4)), []⟩]) (
  .cond (.tmp 45) (
   .seq (
   .region [
     ⟨0, some 46, none, .mov (.tmp 6), []⟩,
     ⟨1, some 47, none, .build [.int .i64 0, .int .i64 0] [], []⟩,
     ⟨2, some 2, none, .mov (.tmp 46), []⟩,
     ⟨3, some 3, none, .mov (.const (.int .i64 0)), []⟩,
     ⟨4, none, none, .store 2 (.tmp 4) (.tmp 47), []⟩]) (
   .ret)) (
   .skip)))))))
def ir9_b : ICode :=
  .seq (
  .region [
    ⟨0, some 2, none, .mov (.const (.slice none 0 0)), []⟩,
    ⟨1, some 3, none, .mov (.const (.int .i64 0)), []⟩,
    ⟨2, some 4, none, .alloc [.int .i64 0, .int .i64 0], []⟩]) (
  .seq (
  .region [
    ⟨0, some 9, none, .mov (.tmp 0), []⟩,
    ⟨1, some 10, none, .build [.int .i64 0, .int .i64 0] [(0, 1, .const (.int .i64 1)), (1, 1, .const (.int .i64 1))], []⟩,
    ⟨2, some 11, none, .build [.string ⟨#[]⟩, .int .i64 0, .int .i64 0, .int .i64 0] [(0, 1, .tmp 9), (2, 2, .tmp 10)], []⟩,
    ⟨3, some 12, none, .box (.tmp 11), []⟩,
    ⟨4, some 5, none, .mov (.tmp 12), []⟩]) (
  .seq (
  .seq (
  .region [
    ⟨0, some 13, none, .mov (.tmp 0), []⟩,
    ⟨1, some 14, none, .lenS (.tmp 13), []⟩,
    ⟨2, some 15, none, .bin .gtr .other (.tmp 14) (.const (.int .i64 8000)), []⟩]) (
  .cond (.tmp 15) (
   .seq (
   .block 0 (
   .loop ir9_l0)) (
   .seq (
   .region [
     ⟨0, some 23, none, .mov (.tmp 5), []⟩,
     ⟨1, some 24, none, .nilck (.tmp 23), []⟩,
     ⟨2, some 25, none, .faddr 2 (.tmp 24), []⟩,
     ⟨3, some 26, none, .load true 2 (.tmp 25), []⟩,
     ⟨4, some 2, none, .mov (.const (.slice none 0 0)), []⟩,
     ⟨5, some 3, none, .mov (.const (.int .i64 2)), []⟩,
     ⟨6, none, none, .store 2 (.tmp 4) (.tmp 26), []⟩]) (
   .ret))) (
   .skip))) (
  .seq (
  .region [
    ⟨0, some 6, none, .mov (.const (.slice none 0 0)), []⟩]) (
  .block 2 (
  .loop ir9_l1)))))
def ir9 : IFunc := ⟨48, [.tmp 2, .tmp 3, .cell 4 true 2], ir9_b⟩
theorem ir9_eq : cFunc Try.prog 9 = some ir9 := by kernel_rfl
theorem call9 {args : List Value} {m : Mem} {Φ : Value → Mem → Prop} (h : args.length ≤ 48) : WPCall Try.prog 9 args m Φ = WP Try.prog ir9_b (initσ args) m (retK [.tmp 2, .tmp 3, .cell 4 true 2] Φ) := wpCall_def ir9_eq h
/-- drydock/drydockref08.Scan -/
def ir10_l0 : ICode :=
  .seq (
  .seq (
  .region [
    ⟨0, some 44, none, .mov (.tmp 8), []⟩,
    ⟨1, some 45, none, .mov (.tmp 11), []⟩,
    ⟨2, some 46, none, .bin .add .other (.tmp 44) (.tmp 45), []⟩,
    ⟨3, some 47, none, .mov (.tmp 0), []⟩,
    ⟨4, some 48, none, .lenS (.tmp 47), []⟩,
    ⟨5, some 49, none, .bin .lss .other (.tmp 46) (.tmp 48), []⟩,
    ⟨6, some 50, none, .mov (.tmp 49), []⟩,
    ⟨7, some 51, some (50, true), .mov (.tmp 0), []⟩,
    ⟨8, some 52, some (50, true), .mov (.tmp 8), []⟩,
    ⟨9, some 53, some (50, true), .mov (.tmp 11), []⟩,
    ⟨10, some 54, some (50, true), .bin .add .other (.tmp 52) (.tmp 53), []⟩,
    ⟨11, some 55, some (50, true), .idxStr (.tmp 51) (.tmp 54), []⟩,
    ⟨12, some 56, some (50, true), .bin .neq .other (.tmp 55) (.const (.int .u8 10)), []⟩,
    ⟨13, some 57, none, .pick (.tmp 50) (.tmp 56) (.const (.bool false)), []⟩]) (
  .cond (.tmp 57) (
   .skip) (
   .exit 3))) (
  .block 4 (
  .region [
    ⟨0, some 58, none, .mov (.tmp 11), []⟩,
    ⟨1, some 59, none, .bin .add .other (.tmp 58) (.const (.int .i64 1)), []⟩,
    ⟨2, some 11, none, .mov (.tmp 59), []⟩]))
def ir10_l1 : ICode :=
  .seq (
  .seq (
  .region [
    ⟨0, some 63, none, .mov (.tmp 8), []⟩,
    ⟨1, some 64, none, .mov (.tmp 11), []⟩,
    ⟨2, some 65, none, .bin .add .other (.tmp 63) (.tmp 64), []⟩,
    ⟨3, some 66, none, .mov (.tmp 0), []⟩,
    ⟨4, some 67, none, .lenS (.tmp 66), []⟩,
    ⟨5, some 68, none, .bin .lss .other (.tmp 65) (.tmp 67), []⟩,
    ⟨6, some 69, none, .mov (.tmp 68), []⟩,
    ⟨7, some 70, some (69, true), .mov (.tmp 0), []⟩,
    ⟨8, some 71, some (69, true), .mov (.tmp 8), []⟩,
    ⟨9, some 72, some (69, true), .mov (.tmp 11), []⟩,
    ⟨10, some 73, some (69, true), .bin .add .other (.tmp 71) (.tmp 72), []⟩,
    ⟨11, some 74, some (69, true), .idxStr (.tmp 70) (.tmp 73), []⟩,
    ⟨12, some 75, some (69, true), .call 21 [.tmp 74], []⟩,
    ⟨13, some 76, none, .pick (.tmp 69) (.tmp 75) (.const (.bool false)), []⟩]) (
  .cond (.tmp 76) (
   .skip) (
   .exit 5))) (
  .block 6 (
  .region [
    ⟨0, some 77, none, .mov (.tmp 11), []⟩,
    ⟨1, some 78, none, .bin .add .other (.tmp 77) (.const (.int .i64 1)), []⟩,
    ⟨2, some 11, none, .mov (.tmp 78), []⟩]))
def ir10_l2 : ICode :=
  .seq (
  .seq (
  .region [
    ⟨0, some 96, none, .mov (.tmp 8), []⟩,
    ⟨1, some 97, none, .mov (.tmp 11), []⟩,
    ⟨2, some 98, none, .bin .add .other (.tmp 96) (.tmp 97), []⟩,
    ⟨3, some 99, none, .mov (.tmp 0), []⟩,
    ⟨4, some 100, none, .lenS (.tmp 99), []⟩,
    ⟨5, some 101, none, .bin .lss .other (.tmp 98) (.tmp 100), []⟩,
    ⟨6, some 102, none, .mov (.tmp 101), []⟩,
    ⟨7, some 103, some (102, true), .mov (.tmp 0), []⟩,
    ⟨8, some 104, some (102, true), .mov (.tmp 8), []⟩,
    ⟨9, some 105, some (102, true), .mov (.tmp 11), []⟩,
    ⟨10, some 106, some (102, true), .bin .add .other (.tmp 104) (.tmp 105), []⟩,
    ⟨11, some 107, some (102, true), .idxStr (.tmp 103) (.tmp 106), []⟩,
    ⟨12, some 108, some (102, true), .call 22 [.tmp 107], []⟩,
    ⟨13, some 109, none, .pick (.tmp 102) (.tmp 108) (.const (.bool false)), []⟩]) (
  .cond (.tmp 109) (
   .skip) (
   .exit 7))) (
  .block 8 (
  .region [
    ⟨0, some 110, none, .mov (.tmp 11), []⟩,
    ⟨1, some 111, none, .bin .add .other (.tmp 110) (.const (.int .i64 1)), []⟩,
    ⟨2, some 11, none, .mov (.tmp 111), []⟩]))
def ir10_l3 : ICode :=
  .seq (
  .seq (
  .region [
    ⟨0, some 17, none, .mov (.tmp 8), []⟩,
    ⟨1, some 18, none, .mov (.tmp 0), []⟩,
    ⟨2, some 19, none, .lenS (.tmp 18), []⟩,
    ⟨3, some 20, none, .bin .lss .other (.tmp 17) (.tmp 19), []⟩]) (
  .cond (.tmp 20) (
   .skip) (
   .exit 0))) (
  .block 1 (
  .seq (
  .region [
    ⟨0, some 21, none, .mov (.tmp 0), []⟩,
    ⟨1, some 22, none, .mov (.tmp 8), []⟩,
    ⟨2, some 23, none, .idxStr (.tmp 21) (.tmp 22), []⟩,
    ⟨3, some 9, none, .mov (.tmp 23), []⟩]) (
  .seq (
  .region [
    ⟨0, some 24, none, .mov (.tmp 6), []⟩,
    ⟨1, some 25, none, .mov (.tmp 8), []⟩,
    ⟨2, some 26, none, .mov (.tmp 7), []⟩,
    ⟨3, some 27, none, .bin .sub .other (.tmp 25) (.tmp 26), []⟩,
    ⟨4, some 28, none, .bin .add .other (.tmp 27) (.const (.int .i64 1)), []⟩,
    ⟨5, some 29, none, .build [.int .i64 0, .int .i64 0] [(0, 1, .tmp 24), (1, 1, .tmp 28)], []⟩,
    ⟨6, some 10, none, .alloc [.int .i64 0, .int .i64 0], []⟩,
    ⟨7, none, none, .store 2 (.tmp 10) (.tmp 29), []⟩]) (
  .seq (
  .region [
    ⟨0, some 11, none, .mov (.const (.int .i64 1)), []⟩]) (
  .seq (
  .block 2 (
  .seq (
  .region [
    ⟨0, some 32, none, .mov (.tmp 9), []⟩,
    ⟨1, some 33, none, .bin .eql .other (.tmp 32) (.const (.int .u8 10)), []⟩,
    ⟨2, some 31, none, .mov (.tmp 33), []⟩]) (
  .cond (.tmp 31) (
   .region [
     ⟨0, some 34, none, .mov (.tmp 6), []⟩,
     ⟨1, some 35, none, .bin .add .other (.tmp 34) (.const (.int .i64 1)), []⟩,
     ⟨2, some 36, none, .mov (.tmp 8), []⟩,
     ⟨3, some 37, none, .bin .add .other (.tmp 36) (.const (.int .i64 1)), []⟩,
     ⟨4, some 6, none, .mov (.tmp 35), []⟩,
     ⟨5, some 7, none, .mov (.tmp 37), []⟩]) (
   .seq (
   .region [
     ⟨0, some 39, none, .mov (.tmp 9), []⟩,
     ⟨1, some 40, none, .call 19 [.tmp 39], []⟩,
     ⟨2, some 38, none, .mov (.tmp 40), []⟩]) (
   .cond (.tmp 38) (
    .skip) (
    .seq (
    .region [
      ⟨0, some 42, none, .mov (.tmp 9), []⟩,
      ⟨1, some 43, none, .bin .eql .other (.tmp 42) (.const (.int .u8 35)), []⟩,
      ⟨2, some 41, none, .mov (.tmp 43), []⟩]) (
    .cond (.tmp 41) (
     .block 3 (
     .loop ir10_l0)) (
     .seq (
     .region [
       ⟨0, some 61, none, .mov (.tmp 9), []⟩,
       ⟨1, some 62, none, .call 20 [.tmp 61], []⟩,
       ⟨2, some 60, none, .mov (.tmp 62), []⟩]) (
     .cond (.tmp 60) (
      .seq (
      .block 5 (
      .loop ir10_l1)) (
      .seq (
      .seq (
      .region [
        ⟨0, some 79, none, .mov (.tmp 11), []⟩,
        ⟨1, some 80, none, .bin .gtr .other (.tmp 79) (.const (.int .i64 16)), []⟩]) (
      .cond (.tmp 80) (
       .seq (
       .region [
         ⟨0, some 81, none, .load true 2 (.tmp 10), []⟩,
         ⟨1, some 2, none, .mov (.const (.slice none 0 0)), []⟩,
         ⟨2, some 3, none, .mov (.const (.int .i64 2)), []⟩,
         ⟨3, none, none, .store 2 (.tmp 4) (.tmp 81), []⟩]) (
       .ret)) (
       .skip))) (
      .region [
        ⟨0, some 82, none, .mov (.tmp 5), []⟩,
        ⟨1, some 83, none, .mov (.tmp 0), []⟩,
        ⟨2, some 84, none, .mov (.tmp 8), []⟩,
        ⟨3, some 85, none, .mov (.tmp 8), []⟩,
        ⟨4, some 86, none, .mov (.tmp 11), []⟩,
        ⟨5, some 87, none, .bin .add .other (.tmp 85) (.tmp 86), []⟩,
        ⟨6, some 88, none, .sliceStr (.tmp 83) (some (.tmp 84)) (some (.tmp 87)), []⟩,
        ⟨7, some 89, none, .load true 2 (.tmp 10), []⟩,
        ⟨8, some 90, none, .build [.int .i64 0, .string ⟨#[]⟩, .int .i64 0, .int .i64 0] [(0, 1, .const (.int .i64 1)), (1, 1, .tmp 88), (2, 2, .tmp 89)], []⟩,
        ⟨9, some 91, none, .bslice 4 1 [.int .i64 0, .string ⟨#[]⟩, .int .i64 0, .int .i64 0] [(0, 4, .tmp 90)], []⟩,
        ⟨10, some 92, none, .app 4 40 (.tmp 82) (.tmp 91), []⟩,
        ⟨11, some 5, none, .mov (.tmp 92), []⟩]))) (
      .seq (
      .region [
        ⟨0, some 94, none, .mov (.tmp 9), []⟩,
        ⟨1, some 95, none, .call 22 [.tmp 94], []⟩,
        ⟨2, some 93, none, .mov (.tmp 95), []⟩]) (
      .cond (.tmp 93) (
       .seq (
       .block 7 (
       .loop ir10_l2)) (
       .seq (
       .seq (
       .region [
         ⟨0, some 112, none, .mov (.tmp 11), []⟩,
         ⟨1, some 113, none, .bin .gtr .other (.tmp 112) (.const (.int .i64 40)), []⟩]) (
       .cond (.tmp 113) (
        .seq (
        .region [
          ⟨0, some 114, none, .load true 2 (.tmp 10), []⟩,
          ⟨1, some 2, none, .mov (.const (.slice none 0 0)), []⟩,
          ⟨2, some 3, none, .mov (.const (.int .i64 2)), []⟩,
          ⟨3, none, none, .store 2 (.tmp 4) (.tmp 114), []⟩]) (
        .ret)) (
        .skip))) (
       .region [
         ⟨0, some 115, none, .mov (.tmp 5), []⟩,
         ⟨1, some 116, none, .mov (.tmp 0), []⟩,
         ⟨2, some 117, none, .mov (.tmp 8), []⟩,
         ⟨3, some 118, none, .mov (.tmp 8), []⟩,
         ⟨4, some 119, none, .mov (.tmp 11), []⟩,
         ⟨5, some 120, none, .bin .add .other (.tmp 118) (.tmp 119), []⟩,
         ⟨6, some 121, none, .sliceStr (.tmp 116) (some (.tmp 117)) (some (.tmp 120)), []⟩,
         ⟨7, some 122, none, .load true 2 (.tmp 10), []⟩,
         ⟨8, some 123, none, .build [.int .i64 0, .string ⟨#[]⟩, .int .i64 0, .int .i64 0] [(0, 1, .const (.int .i64 2)), (1, 1, .tmp 121), (2, 2, .tmp 122)], []⟩,
         ⟨9, some 124, none, .bslice 4 1 [.int .i64 0, .string ⟨#[]⟩, .int .i64 0, .int .i64 0] [(0, 4, .tmp 123)], []⟩,
         ⟨10, some 125, none, .app 4 40 (.tmp 115) (.tmp 124), []⟩,
         ⟨11, some 5, none, .mov (.tmp 125), []⟩]))) (
       .seq (
       .region [
         ⟨0, some 127, none, .mov (.tmp 9), []⟩,
         ⟨1, some 128, none, .call 23 [.tmp 127], []⟩,
         ⟨2, some 126, none, .mov (.tmp 128), []⟩]) (
       .cond (.tmp 126) (
        .region [
          ⟨0, some 129, none, .mov (.tmp 5), []⟩,
          ⟨1, some 130, none, .mov (.tmp 0), []⟩,
          ⟨2, some 131, none, .mov (.tmp 8), []⟩,
          ⟨3, some 132, none, .mov (.tmp 8), []⟩,
          ⟨4, some 133, none, .bin .add .other (.tmp 132) (.const (.int .i64 1)), []⟩,
          ⟨5, some 134, none, .sliceStr (.tmp 130) (some (.tmp 131)) (some (.tmp 133)), []⟩,
          ⟨6, some 135, none, .load true 2 (.tmp 10), []⟩,
          ⟨7, some 136, none, .build [.int .i64 0, .string ⟨#[]⟩, .int .i64 0, .int .i64 0] [(0, 1, .const (.int .i64 3)), (1, 1, .tmp 134), (2, 2, .tmp 135)], []⟩,
          ⟨8, some 137, none, .bslice 4 1 [.int .i64 0, .string ⟨#[]⟩, .int .i64 0, .int .i64 0] [(0, 4, .tmp 136)], []⟩,
          ⟨9, some 138, none, .app 4 40 (.tmp 129) (.tmp 137), []⟩,
          ⟨10, some 5, none, .mov (.tmp 138), []⟩]) (
        .seq (
        .region [
          ⟨0, some 30, none, .load true 2 (.tmp 10), []⟩,
          ⟨1, some 2, none, .mov (.const (.slice none 0 0)), []⟩,
          ⟨2, some 3, none, .mov (.const (.int .i64 6)), []⟩,
          ⟨3, none, none, .store 2 (.tmp 4) (.tmp 30), []⟩]) (
        .ret))))))))))))))) (
  .region [
    ⟨0, some 139, none, .mov (.tmp 8), []⟩,
    ⟨1, some 140, none, .mov (.tmp 11), []⟩,
    ⟨2, some 141, none, .bin .add .other (.tmp 139) (.tmp 140), []⟩,
    ⟨3, some 8, none, .mov (.tmp 141), []⟩]))))))
def ir10_b : ICode :=
  .seq (
  .region [
    ⟨0, some 2, none, .mov (.const (.slice none 0 0)), []⟩,
    ⟨1, some 3, none, .mov (.const (.int .i64 0)), []⟩,
    ⟨2, some 4, none, .alloc [.int .i64 0, .int .i64 0], []⟩]) (
  .seq (
  .seq (
  .region [
    ⟨0, some 12, none, .mov (.tmp 0), []⟩,
    ⟨1, some 13, none, .lenS (.tmp 12), []⟩,
    ⟨2, some 14, none, .bin .gtr .other (.tmp 13) (.const (.int .i64 8000)), []⟩]) (
  .cond (.tmp 14) (
   .seq (
   .region [
     ⟨0, some 15, none, .mov (.tmp 0), []⟩,
     ⟨1, some 16, none, .call 18 [.tmp 15, .const (.int .i64 8000)], []⟩,
     ⟨2, some 2, none, .mov (.const (.slice none 0 0)), []⟩,
     ⟨3, some 3, none, .mov (.const (.int .i64 2)), []⟩,
     ⟨4, none, none, .store 2 (.tmp 4) (.tmp 16), []⟩]) (
   .ret)) (
   .skip))) (
  .seq (
  .region [
    ⟨0, some 5, none, .mov (.const (.slice none 0 0)), []⟩]) (
  .seq (
  .region [
    ⟨0, some 6, none, .mov (.const (.int .i64 1)), []⟩,
    ⟨1, some 7, none, .mov (.const (.int .i64 0)), []⟩]) (
  .seq (
  .seq (
  .region [
    ⟨0, some 8, none, .mov (.const (.int .i64 0)), []⟩]) (
  .block 0 (
  .loop ir10_l3))) (
  .seq (
  .region [
    ⟨0, some 142, none, .mov (.tmp 5), []⟩,
    ⟨1, some 143, none, .mov (.tmp 6), []⟩,
    ⟨2, some 144, none, .mov (.tmp 0), []⟩,
    ⟨3, some 145, none, .lenS (.tmp 144), []⟩,
    ⟨4, some 146, none, .mov (.tmp 7), []⟩,
    ⟨5, some 147, none, .bin .sub .other (.tmp 145) (.tmp 146), []⟩,
    ⟨6, some 148, none, .bin .add .other (.tmp 147) (.const (.int .i64 1)), []⟩,
    ⟨7, some 149, none, .build [.int .i64 0, .int .i64 0] [(0, 1, .tmp 143), (1, 1, .tmp 148)], []⟩,
    ⟨8, some 150, none, .build [.int .i64 0, .string ⟨#[]⟩, .int .i64 0, .int .i64 0] [(0, 1, .const (.int .i64 4)), (2, 2, .tmp 149)], []⟩,
    ⟨9, some 151, none, .bslice 4 1 [.int .i64 0, .string ⟨#[]⟩, .int .i64 0, .int .i64 0] [(0, 4, .tmp 150)], []⟩,
    ⟨10, some 152, none, .app 4 40 (.tmp 142) (.tmp 151), []⟩,
    ⟨11, some 153, none, .build [.int .i64 0, .int .i64 0] [], []⟩,
    ⟨12, some 2, none, .mov (.tmp 152), []⟩,
    ⟨13, some 3, none, .mov (.const (.int .i64 0)), []⟩,
    ⟨14, none, none, .store 2 (.tmp 4) (.tmp 153), []⟩]) (
  .ret))))))
def ir10 : IFunc := ⟨154, [.tmp 2, .tmp 3, .cell 4 true 2], ir10_b⟩
theorem ir10_eq : cFunc Try.prog 10 = some ir10 := by kernel_rfl
theorem call10 {args : List Value} {m : Mem} {Φ : Value → Mem → Prop} (h : args.length ≤ 154) : WPCall Try.prog 10 args m Φ = WP Try.prog ir10_b (initσ args) m (retK [.tmp 2, .tmp 3, .cell 4 true 2] Φ) := wpCall_def ir10_eq h
/-- drydock/drydocklaw08.same -/
def ir11_l0 : ICode :=
  .seq (
  .seq (
  .region [
    ⟨0, some 11, none, .mov (.tmp 5), []⟩,
    ⟨1, some 12, none, .mov (.tmp 0), []⟩,
    ⟨2, some 13, none, .lenV (.tmp 12), []⟩,
    ⟨3, some 14, none, .bin .lss .other (.tmp 11) (.tmp 13), []⟩]) (
  .cond (.tmp 14) (
   .skip) (
   .exit 0))) (
  .seq (
  .block 1 (
  .seq (
  .region [
    ⟨0, some 17, none, .mov (.tmp 0), []⟩,
    ⟨1, some 18, none, .mov (.tmp 5), []⟩,
    ⟨2, some 19, none, .iaddr 4 (.tmp 17) (.tmp 18), []⟩,
    ⟨3, some 20, none, .load true 4 (.tmp 19), []⟩,
    ⟨4, some 21, none, .mov (.tmp 1), []⟩,
    ⟨5, some 22, none, .mov (.tmp 5), []⟩,
    ⟨6, some 23, none, .iaddr 4 (.tmp 21) (.tmp 22), []⟩,
    ⟨7, some 24, none, .load true 4 (.tmp 23), []⟩,
    ⟨8, some 25, none, .eqAgg true [.int, .str, .int, .int] (.tmp 20) (.tmp 24), []⟩]) (
  .cond (.tmp 25) (
   .seq (
   .region [
     ⟨0, some 4, none, .mov (.const (.bool false)), []⟩]) (
   .ret)) (
   .skip)))) (
  .region [
    ⟨0, some 15, none, .mov (.tmp 5), []⟩,
    ⟨1, some 16, none, .bin .add .other (.tmp 15) (.const (.int .i64 1)), []⟩,
    ⟨2, some 5, none, .mov (.tmp 16), []⟩]))
def ir11_b : ICode :=
  .seq (
  .region [
    ⟨0, some 4, none, .mov (.const (.bool false)), []⟩]) (
  .seq (
  .seq (
  .region [
    ⟨0, some 6, none, .mov (.tmp 0), []⟩,
    ⟨1, some 7, none, .lenV (.tmp 6), []⟩,
    ⟨2, some 8, none, .mov (.tmp 1), []⟩,
    ⟨3, some 9, none, .lenV (.tmp 8), []⟩,
    ⟨4, some 10, none, .bin .neq .other (.tmp 7) (.tmp 9), []⟩]) (
  .cond (.tmp 10) (
   .seq (
   .region [
     ⟨0, some 4, none, .mov (.const (.bool false)), []⟩]) (
   .ret)) (
   .skip))) (
  .seq (
  .seq (
  .region [
    ⟨0, some 5, none, .mov (.const (.int .i64 0)), []⟩]) (
  .block 0 (
  .loop ir11_l0))) (
  .seq (
  .region [
    ⟨0, some 4, none, .mov (.const (.bool true)), []⟩]) (
  .ret))))
def ir11 : IFunc := ⟨26, [.tmp 4], ir11_b⟩
theorem ir11_eq : cFunc Try.prog 11 = some ir11 := by kernel_rfl
theorem call11 {args : List Value} {m : Mem} {Φ : Value → Mem → Prop} (h : args.length ≤ 26) : WPCall Try.prog 11 args m Φ = WP Try.prog ir11_b (initσ args) m (retK [.tmp 4] Φ) := wpCall_def ir11_eq h
/-- drydock/drydocklaw08.row -/
def ir12_l0 : ICode :=
  .seq (
  .seq (
  .region [
    ⟨0, some 9, none, .mov (.tmp 6), []⟩,
    ⟨1, some 10, none, .mov (.tmp 1), []⟩,
    ⟨2, some 11, none, .bin .lss .other (.tmp 9) (.tmp 10), []⟩]) (
  .cond (.tmp 11) (
   .skip) (
   .exit 0))) (
  .seq (
  .block 1 (
  .region [
    ⟨0, some 14, none, .mov (.tmp 5), []⟩,
    ⟨1, some 15, none, .mov (.tmp 6), []⟩,
    ⟨2, some 16, none, .mov (.tmp 0), []⟩,
    ⟨3, some 17, none, .iaddr 1 (.tmp 14) (.tmp 15), []⟩,
    ⟨4, none, none, .store 1 (.tmp 17) (.tmp 16), []⟩])) (
  .region [
    ⟨0, some 12, none, .mov (.tmp 6), []⟩,
    ⟨1, some 13, none, .bin .add .other (.tmp 12) (.const (.int .i64 1)), []⟩,
    ⟨2, some 6, none, .mov (.tmp 13), []⟩]))
def ir12_b : ICode :=
  .seq (
  .region [
    ⟨0, some 4, none, .mov (.const (.string ⟨#[]⟩)), []⟩]) (
  .seq (
  .region [
    ⟨0, some 7, none, .mov (.tmp 1), []⟩,
    ⟨1, some 8, none, .mkslice 1 1 [.int .u8 0] (.tmp 7) (.tmp 7), []⟩,
    ⟨2, some 5, none, .mov (.tmp 8), []⟩]) (
  .seq (
  .seq (
  .region [
    ⟨0, some 6, none, .mov (.const (.int .i64 0)), []⟩]) (
  .block 0 (
  .loop ir12_l0))) (
  .seq (
  .region [
    ⟨0, some 18, none, .mov (.tmp 5), []⟩,
    ⟨1, some 19, none, .convBS (.tmp 18), []⟩,
    ⟨2, some 4, none, .mov (.tmp 19), []⟩]) (
  .ret))))
def ir12 : IFunc := ⟨20, [.tmp 4], ir12_b⟩
theorem ir12_eq : cFunc Try.prog 12 = some ir12 := by kernel_rfl
theorem call12 {args : List Value} {m : Mem} {Φ : Value → Mem → Prop} (h : args.length ≤ 20) : WPCall Try.prog 12 args m Φ = WP Try.prog ir12_b (initσ args) m (retK [.tmp 4] Φ) := wpCall_def ir12_eq h
/-- drydock/lexer.IsName -/
def ir13_l0 : ICode :=
  .seq (
  .seq (
  .region [
    ⟨0, some 17, none, .mov (.tmp 3), []⟩,
    ⟨1, some 18, none, .mov (.tmp 0), []⟩,
    ⟨2, some 19, none, .lenS (.tmp 18), []⟩,
    ⟨3, some 20, none, .bin .lss .other (.tmp 17) (.tmp 19), []⟩]) (
  .cond (.tmp 20) (
   .skip) (
   .exit 0))) (
  .seq (
  .block 1 (
  .seq (
  .region [
    ⟨0, some 23, none, .mov (.tmp 0), []⟩,
    ⟨1, some 24, none, .mov (.tmp 3), []⟩,
    ⟨2, some 25, none, .idxStr (.tmp 23) (.tmp 24), []⟩,
    ⟨3, some 26, none, .call 25 [.tmp 25], []⟩,
    ⟨4, some 27, none, .un .not (.tmp 26), []⟩]) (
  .cond (.tmp 27) (
   .seq (
   .region [
     ⟨0, some 2, none, .mov (.const (.bool false)), []⟩]) (
   .ret)) (
   .skip)))) (
  .region [
    ⟨0, some 21, none, .mov (.tmp 3), []⟩,
    ⟨1, some 22, none, .bin .add .other (.tmp 21) (.const (.int .i64 1)), []⟩,
    ⟨2, some 3, none, .mov (.tmp 22), []⟩]))
def ir13_b : ICode :=
  .seq (
  .region [
    ⟨0, some 2, none, .mov (.const (.bool false)), []⟩]) (
  .seq (
  .seq (
  .region [
    ⟨0, some 4, none, .mov (.tmp 0), []⟩,
    ⟨1, some 5, none, .bin .eql .other (.tmp 4) (.const (.string ⟨#[]⟩)), []⟩,
    ⟨2, some 6, none, .mov (.tmp 5), []⟩,
    ⟨3, some 7, some (6, false), .mov (.tmp 0), []⟩,
    ⟨4, some 8, some (6, false), .lenS (.tmp 7), []⟩,
    ⟨5, some 9, some (6, false), .bin .gtr .other (.tmp 8) (.const (.int .i64 16)), []⟩,
    ⟨6, some 10, none, .pick (.tmp 6) (.const (.bool true)) (.tmp 9), []⟩,
    ⟨7, some 11, none, .mov (.tmp 10), []⟩,
    ⟨8, some 12, some (11, false), .mov (.tmp 0), []⟩,
    ⟨9, some 13, some (11, false), .idxStr (.tmp 12) (.const (.int .i64 0)), []⟩,
    ⟨10, some 14, some (11, false), .call 24 [.tmp 13], []⟩,
    ⟨11, some 15, some (11, false), .un .not (.tmp 14), []⟩,
    ⟨12, some 16, none, .pick (.tmp 11) (.const (.bool true)) (.tmp 15), []⟩]) (
  .cond (.tmp 16) (
   .seq (
   .region [
     ⟨0, some 2, none, .mov (.const (.bool false)), []⟩]) (
   .ret)) (
   .skip))) (
  .seq (
  .seq (
  .region [
    ⟨0, some 3, none, .mov (.const (.int .i64 0)), []⟩]) (
  .block 0 (
  .loop ir13_l0))) (
  .seq (
  .region [
    ⟨0, some 2, none, .mov (.const (.bool true)), []⟩]) (
  .ret))))
def ir13 : IFunc := ⟨28, [.tmp 2], ir13_b⟩
theorem ir13_eq : cFunc Try.prog 13 = some ir13 := by kernel_rfl
theorem call13 {args : List Value} {m : Mem} {Φ : Value → Mem → Prop} (h : args.length ≤ 28) : WPCall Try.prog 13 args m Φ = WP Try.prog ir13_b (initσ args) m (retK [.tmp 2] Φ) := wpCall_def ir13_eq h
/-- drydock/drydockref08.IsName -/
def ir14_l0 : ICode :=
  .seq (
  .seq (
  .region [
    ⟨0, some 18, none, .mov (.tmp 3), []⟩,
    ⟨1, some 19, none, .mov (.tmp 0), []⟩,
    ⟨2, some 20, none, .lenS (.tmp 19), []⟩,
    ⟨3, some 21, none, .bin .lss .other (.tmp 18) (.tmp 20), []⟩]) (
  .cond (.tmp 21) (
   .skip) (
   .exit 0))) (
  .seq (
  .block 1 (
  .seq (
  .region [
    ⟨0, some 24, none, .mov (.tmp 0), []⟩,
    ⟨1, some 25, none, .mov (.tmp 3), []⟩,
    ⟨2, some 26, none, .idxStr (.tmp 24) (.tmp 25), []⟩,
    ⟨3, some 27, none, .call 21 [.tmp 26], []⟩,
    ⟨4, some 28, none, .un .not (.tmp 27), []⟩]) (
  .cond (.tmp 28) (
   .seq (
   .region [
     ⟨0, some 2, none, .mov (.const (.bool false)), []⟩]) (
   .ret)) (
   .skip)))) (
  .region [
    ⟨0, some 22, none, .mov (.tmp 3), []⟩,
    ⟨1, some 23, none, .bin .add .other (.tmp 22) (.const (.int .i64 1)), []⟩,
    ⟨2, some 3, none, .mov (.tmp 23), []⟩]))
def ir14_b : ICode :=
  .seq (
  .region [
    ⟨0, some 2, none, .mov (.const (.bool false)), []⟩]) (
  .seq (
  .seq (
  .region [
    ⟨0, some 4, none, .mov (.tmp 0), []⟩,
    ⟨1, some 5, none, .lenS (.tmp 4), []⟩,
    ⟨2, some 6, none, .bin .lss .other (.tmp 5) (.const (.int .i64 1)), []⟩,
    ⟨3, some 7, none, .mov (.tmp 6), []⟩,
    ⟨4, some 8, some (7, false), .mov (.tmp 0), []⟩,
    ⟨5, some 9, some (7, false), .lenS (.tmp 8), []⟩,
    ⟨6, some 10, some (7, false), .bin .gtr .other (.tmp 9) (.const (.int .i64 16)), []⟩,
    ⟨7, some 11, none, .pick (.tmp 7) (.const (.bool true)) (.tmp 10), []⟩,
    ⟨8, some 12, none, .mov (.tmp 11), []⟩,
    ⟨9, some 13, some (12, false), .mov (.tmp 0), []⟩,
    ⟨10, some 14, some (12, false), .idxStr (.tmp 13) (.const (.int .i64 0)), []⟩,
    ⟨11, some 15, some (12, false), .call 20 [.tmp 14], []⟩,
    ⟨12, some 16, some (12, false), .un .not (.tmp 15), []⟩,
    ⟨13, some 17, none, .pick (.tmp 12) (.const (.bool true)) (.tmp 16), []⟩]) (
  .cond (.tmp 17) (
   .seq (
   .region [
     ⟨0, some 2, none, .mov (.const (.bool false)), []⟩]) (
   .ret)) (
   .skip))) (
  .seq (
  .seq (
  .region [
    ⟨0, some 3, none, .mov (.const (.int .i64 0)), []⟩]) (
  .block 0 (
  .loop ir14_l0))) (
  .seq (
  .region [
    ⟨0, some 2, none, .mov (.const (.bool true)), []⟩]) (
  .ret))))
def ir14 : IFunc := ⟨29, [.tmp 2], ir14_b⟩
theorem ir14_eq : cFunc Try.prog 14 = some ir14 := by kernel_rfl
theorem call14 {args : List Value} {m : Mem} {Φ : Value → Mem → Prop} (h : args.length ≤ 29) : WPCall Try.prog 14 args m Φ = WP Try.prog ir14_b (initσ args) m (retK [.tmp 2] Φ) := wpCall_def ir14_eq h
/-- (*drydock/lexer.scanner).next -/
def ir15_b : ICode :=
  .seq (
  .seq (
  .region [
    ⟨0, some 2, none, .mov (.tmp 0), []⟩,
    ⟨1, some 3, none, .nilck (.tmp 2), []⟩,
    ⟨2, some 4, none, .faddr 0 (.tmp 3), []⟩,
    ⟨3, some 5, none, .load false 1 (.tmp 4), []⟩,
    ⟨4, some 6, none, .mov (.tmp 0), []⟩,
    ⟨5, some 7, none, .nilck (.tmp 6), []⟩,
    ⟨6, some 8, none, .faddr 1 (.tmp 7), []⟩,
    ⟨7, some 9, none, .load false 1 (.tmp 8), []⟩,
    ⟨8, some 10, none, .idxStr (.tmp 5) (.tmp 9), []⟩,
    ⟨9, some 11, none, .bin .eql .other (.tmp 10) (.const (.int .u8 10)), []⟩]) (
  .cond (.tmp 11) (
   .seq (
   .region [
     ⟨0, some 12, none, .mov (.tmp 0), []⟩,
     ⟨1, some 13, none, .nilck (.tmp 12), []⟩,
     ⟨2, some 14, none, .faddr 2 (.tmp 13), []⟩,
     ⟨3, some 15, none, .faddr 0 (.tmp 14), []⟩,
     ⟨4, some 16, none, .load false 1 (.tmp 15), []⟩,
     ⟨5, some 17, none, .bin .add .other (.tmp 16) (.const (.int .i64 1)), []⟩,
     ⟨6, some 18, none, .nilck (.tmp 12), []⟩,
     ⟨7, some 19, none, .faddr 2 (.tmp 18), []⟩,
     ⟨8, some 20, none, .faddr 0 (.tmp 19), []⟩,
     ⟨9, none, none, .store 1 (.tmp 20) (.tmp 17), []⟩]) (
   .region [
     ⟨0, some 21, none, .mov (.tmp 0), []⟩,
     ⟨1, some 22, none, .nilck (.tmp 21), []⟩,
     ⟨2, some 23, none, .faddr 2 (.tmp 22), []⟩,
     ⟨3, some 24, none, .faddr 1 (.tmp 23), []⟩,
     ⟨4, none, none, .store 1 (.tmp 24) (.const (.int .i64 0)), []⟩])) (
   .skip))) (
  .seq (
  .region [
    ⟨0, some 25, none, .mov (.tmp 0), []⟩,
    ⟨1, some 26, none, .nilck (.tmp 25), []⟩,
    ⟨2, some 27, none, .faddr 2 (.tmp 26), []⟩,
    ⟨3, some 28, none, .faddr 1 (.tmp 27), []⟩,
    ⟨4, some 29, none, .load false 1 (.tmp 28), []⟩,
    ⟨5, some 30, none, .bin .add .other (.tmp 29) (.const (.int .i64 1)), []⟩,
    ⟨6, some 31, none, .nilck (.tmp 25), []⟩,
    ⟨7, some 32, none, .faddr 2 (.tmp 31), []⟩,
    ⟨8, some 33, none, .faddr 1 (.tmp 32), []⟩,
    ⟨9, none, none, .store 1 (.tmp 33) (.tmp 30), []⟩]) (
  .region [
    ⟨0, some 34, none, .mov (.tmp 0), []⟩,
    ⟨1, some 35, none, .nilck (.tmp 34), []⟩,
    ⟨2, some 36, none, .faddr 1 (.tmp 35), []⟩,
    ⟨3, some 37, none, .load false 1 (.tmp 36), []⟩,
    ⟨4, some 38, none, .bin .add .other (.tmp 37) (.const (.int .i64 1)), []⟩,
    ⟨5, some 39, none, .nilck (.tmp 34), []⟩,
    ⟨6, some 40, none, .faddr 1 (.tmp 39), []⟩,
    ⟨7, none, none, .store 1 (.tmp 40) (.tmp 38), []⟩]))
def ir15 : IFunc := ⟨41, [], ir15_b⟩
theorem ir15_eq : cFunc Try.prog 15 = some ir15 := by kernel_rfl
theorem call15 {args : List Value} {m : Mem} {Φ : Value → Mem → Prop} (h : args.length ≤ 41) : WPCall Try.prog 15 args m Φ = WP Try.prog ir15_b (initσ args) m (retK [] Φ) := wpCall_def ir15_eq h
/-- (*drydock/lexer.scanner).blank -/
def ir16_l0 : ICode :=
  .seq (
  .seq (
  .region [
    ⟨0, some 3, none, .mov (.tmp 0), []⟩,
    ⟨1, some 4, none, .nilck (.tmp 3), []⟩,
    ⟨2, some 5, none, .faddr 1 (.tmp 4), []⟩,
    ⟨3, some 6, none, .load false 1 (.tmp 5), []⟩,
    ⟨4, some 7, none, .mov (.tmp 0), []⟩,
    ⟨5, some 8, none, .nilck (.tmp 7), []⟩,
    ⟨6, some 9, none, .faddr 0 (.tmp 8), []⟩,
    ⟨7, some 10, none, .load false 1 (.tmp 9), []⟩,
    ⟨8, some 11, none, .lenS (.tmp 10), []⟩,
    ⟨9, some 12, none, .bin .lss .other (.tmp 6) (.tmp 11), []⟩]) (
  .cond (.tmp 12) (
   .skip) (
   .exit 0))) (
  .block 1 (
  .seq (
  .region [
    ⟨0, some 13, none, .mov (.tmp 0), []⟩,
    ⟨1, some 14, none, .nilck (.tmp 13), []⟩,
    ⟨2, some 15, none, .faddr 0 (.tmp 14), []⟩,
    ⟨3, some 16, none, .load false 1 (.tmp 15), []⟩,
    ⟨4, some 17, none, .mov (.tmp 0), []⟩,
    ⟨5, some 18, none, .nilck (.tmp 17), []⟩,
    ⟨6, some 19, none, .faddr 1 (.tmp 18), []⟩,
    ⟨7, some 20, none, .load false 1 (.tmp 19), []⟩,
    ⟨8, some 21, none, .idxStr (.tmp 16) (.tmp 20), []⟩,
    ⟨9, some 2, none, .mov (.tmp 21), []⟩]) (
  .block 2 (
  .seq (
  .region [
    ⟨0, some 23, none, .mov (.tmp 2), []⟩,
    ⟨1, some 24, none, .call 26 [.tmp 23], []⟩,
    ⟨2, some 22, none, .mov (.tmp 24), []⟩]) (
  .cond (.tmp 22) (
   .region [
     ⟨0, some 25, none, .mov (.tmp 0), []⟩,
     ⟨1, some 26, none, .call 15 [.tmp 25], []⟩]) (
   .seq (
   .region [
     ⟨0, some 28, none, .mov (.tmp 2), []⟩,
     ⟨1, some 29, none, .bin .eql .other (.tmp 28) (.const (.int .u8 35)), []⟩,
     ⟨2, some 27, none, .mov (.tmp 29), []⟩]) (
   .cond (.tmp 27) (
    .region [
      ⟨0, some 30, none, .mov (.tmp 0), []⟩,
      ⟨1, some 31, none, .call 27 [.tmp 30, .func 28], []⟩]) (
    .ret))))))))
def ir16_b : ICode :=
  .block 0 (
  .loop ir16_l0)
def ir16 : IFunc := ⟨32, [], ir16_b⟩
theorem ir16_eq : cFunc Try.prog 16 = some ir16 := by kernel_rfl
theorem call16 {args : List Value} {m : Mem} {Φ : Value → Mem → Prop} (h : args.length ≤ 32) : WPCall Try.prog 16 args m Φ = WP Try.prog ir16_b (initσ args) m (retK [] Φ) := wpCall_def ir16_eq h
/-- (*drydock/lexer.scanner).token -/
def ir17_b : ICode :=
  .seq (
  .region [
    ⟨0, some 2, none, .alloc [.int .i64 0, .string ⟨#[]⟩, .int .i64 0, .int .i64 0], []⟩,
    ⟨1, some 3, none, .mov (.const (.int .i64 0)), []⟩]) (
  .seq (
  .region [
    ⟨0, some 6, none, .mov (.tmp 0), []⟩,
    ⟨1, some 7, none, .nilck (.tmp 6), []⟩,
    ⟨2, some 8, none, .faddr 2 (.tmp 7), []⟩,
    ⟨3, some 9, none, .load true 2 (.tmp 8), []⟩,
    ⟨4, some 10, none, .build [.int .i64 0, .string ⟨#[]⟩, .int .i64 0, .int .i64 0] [(2, 2, .tmp 9)], []⟩,
    ⟨5, some 4, none, .alloc [.int .i64 0, .string ⟨#[]⟩, .int .i64 0, .int .i64 0], []⟩,
    ⟨6, none, none, .store 4 (.tmp 4) (.tmp 10), []⟩]) (
  .seq (
  .seq (
  .region [
    ⟨0, some 11, none, .mov (.tmp 0), []⟩,
    ⟨1, some 12, none, .nilck (.tmp 11), []⟩,
    ⟨2, some 13, none, .faddr 1 (.tmp 12), []⟩,
    ⟨3, some 14, none, .load false 1 (.tmp 13), []⟩,
    ⟨4, some 15, none, .mov (.tmp 0), []⟩,
    ⟨5, some 16, none, .nilck (.tmp 15), []⟩,
    ⟨6, some 17, none, .faddr 0 (.tmp 16), []⟩,
    ⟨7, some 18, none, .load false 1 (.tmp 17), []⟩,
    ⟨8, some 19, none, .lenS (.tmp 18), []⟩,
    ⟨9, some 20, none, .bin .eql .other (.tmp 14) (.tmp 19), []⟩]) (
  .cond (.tmp 20) (
   .seq (
   .region [
     ⟨0, some 21, none, .faddr 0 (.tmp 4), []⟩,
     ⟨1, none, none, .store 1 (.tmp 21) (.const (.int .i64 4)), []⟩]) (
   .seq (
   .region [
     ⟨0, some 22, none, .load true 4 (.tmp 4), []⟩,
     ⟨1, none, none, .store 4 (.tmp 2) (.tmp 22), []⟩,
     ⟨2, some 3, none, .mov (.const (.int .i64 0)), []⟩]) (
   .ret))) (
   .skip))) (
  .seq (
  .seq (
  .region [
    ⟨0, some 23, none, .mov (.tmp 0), []⟩,
    ⟨1, some 24, none, .nilck (.tmp 23), []⟩,
    ⟨2, some 25, none, .faddr 0 (.tmp 24), []⟩,
    ⟨3, some 26, none, .load false 1 (.tmp 25), []⟩,
    ⟨4, some 27, none, .mov (.tmp 0), []⟩,
    ⟨5, some 28, none, .nilck (.tmp 27), []⟩,
    ⟨6, some 29, none, .faddr 1 (.tmp 28), []⟩,
    ⟨7, some 30, none, .load false 1 (.tmp 29), []⟩,
    ⟨8, some 31, none, .idxStr (.tmp 26) (.tmp 30), []⟩,
    ⟨9, some 5, none, .mov (.tmp 31), []⟩]) (
  .block 0 (
  .seq (
  .region [
    ⟨0, some 34, none, .mov (.tmp 5), []⟩,
    ⟨1, some 35, none, .call 24 [.tmp 34], []⟩,
    ⟨2, some 33, none, .mov (.tmp 35), []⟩]) (
  .cond (.tmp 33) (
   .seq (
   .region [
     ⟨0, some 36, none, .mov (.tmp 0), []⟩,
     ⟨1, some 37, none, .call 27 [.tmp 36, .func 25], []⟩,
     ⟨2, some 38, none, .faddr 0 (.tmp 4), []⟩,
     ⟨3, none, none, .store 1 (.tmp 38) (.const (.int .i64 1)), []⟩,
     ⟨4, some 39, none, .faddr 1 (.tmp 4), []⟩,
     ⟨5, none, none, .store 1 (.tmp 39) (.tmp 37), []⟩]) (
   .seq (
   .region [
     ⟨0, some 40, none, .faddr 1 (.tmp 4), []⟩,
     ⟨1, some 41, none, .load false 1 (.tmp 40), []⟩,
     ⟨2, some 42, none, .lenS (.tmp 41), []⟩,
     ⟨3, some 43, none, .bin .gtr .other (.tmp 42) (.const (.int .i64 16)), []⟩]) (
   .cond (.tmp 43) (
    .seq (
    .region [
      ⟨0, some 44, none, .load true 4 (.tmp 4), []⟩,
      ⟨1, none, none, .store 4 (.tmp 2) (.tmp 44), []⟩,
      ⟨2, some 3, none, .mov (.const (.int .i64 2)), []⟩]) (
    .ret)) (
    .skip)))) (
   .seq (
   .region [
     ⟨0, some 46, none, .mov (.tmp 5), []⟩,
     ⟨1, some 47, none, .call 29 [.tmp 46], []⟩,
     ⟨2, some 45, none, .mov (.tmp 47), []⟩]) (
   .cond (.tmp 45) (
    .seq (
    .region [
      ⟨0, some 48, none, .mov (.tmp 0), []⟩,
      ⟨1, some 49, none, .call 27 [.tmp 48, .func 29], []⟩,
      ⟨2, some 50, none, .faddr 0 (.tmp 4), []⟩,
      ⟨3, none, none, .store 1 (.tmp 50) (.const (.int .i64 2)), []⟩,
      ⟨4, some 51, none, .faddr 1 (.tmp 4), []⟩,
      ⟨5, none, none, .store 1 (.tmp 51) (.tmp 49), []⟩]) (
    .seq (
    .region [
      ⟨0, some 52, none, .faddr 1 (.tmp 4), []⟩,
      ⟨1, some 53, none, .load false 1 (.tmp 52), []⟩,
      ⟨2, some 54, none, .lenS (.tmp 53), []⟩,
      ⟨3, some 55, none, .bin .gtr .other (.tmp 54) (.const (.int .i64 40)), []⟩]) (
    .cond (.tmp 55) (
     .seq (
     .region [
       ⟨0, some 56, none, .load true 4 (.tmp 4), []⟩,
       ⟨1, none, none, .store 4 (.tmp 2) (.tmp 56), []⟩,
       ⟨2, some 3, none, .mov (.const (.int .i64 2)), []⟩]) (
     .ret)) (
     .skip)))) (
    .seq (
    .region [
      ⟨0, some 58, none, .mov (.tmp 5), []⟩,
      ⟨1, some 59, none, .call 30 [.tmp 58], []⟩,
      ⟨2, some 57, none, .mov (.tmp 59), []⟩]) (
    .cond (.tmp 57) (
     .seq (
     .region [
       ⟨0, some 60, none, .mov (.tmp 5), []⟩,
       ⟨3, some 63, none, .faddr 0 (.tmp 4), []⟩,
       ⟨4, none, none, .store 1 (.tmp 63) (.const (.int .i64 3)), []⟩,
       ⟨1, some 61, none, .bslice 1 1 [.int .u8 0] [(0, 1, .tmp 60)], []⟩,
       ⟨2, some 62, none, .convBS (.tmp 61), [(.tmp 63, .tmp 61)]⟩,
       ⟨5, some 64, none, .faddr 1 (.tmp 4), []⟩,
       ⟨6, none, none, .store 1 (.tmp 64) (.tmp 62), []⟩]) (
     .region [
       ⟨0, some 65, none, .mov (.tmp 0), []⟩,
       ⟨1, some 66, none, .call 15 [.tmp 65], []⟩])) (
     .seq (
     .region [
       ⟨0, some 32, none, .load true 4 (.tmp 4), []⟩,
       ⟨1, none, none, .store 4 (.tmp 2) (.tmp 32), []⟩,
       ⟨2, some 3, none, .mov (.const (.int .i64 6)), []⟩]) (
     .ret)))))))))) (
  .seq (
  .region [
    ⟨0, some 67, none, .load true 4 (.tmp 4), []⟩,
    ⟨1, none, none, .store 4 (.tmp 2) (.tmp 67), []⟩,
    ⟨2, some 3, none, .mov (.const (.int .i64 0)), []⟩]) (
  .ret)))))
def ir17 : IFunc := ⟨68, [.cell 2 true 4, .tmp 3], ir17_b⟩
theorem ir17_eq : cFunc Try.prog 17 = some ir17 := by kernel_rfl
theorem call17 {args : List Value} {m : Mem} {Φ : Value → Mem → Prop} (h : args.length ≤ 68) : WPCall Try.prog 17 args m Φ = WP Try.prog ir17_b (initσ args) m (retK [.cell 2 true 4, .tmp 3] Φ) := wpCall_def ir17_eq h
/-- drydock/drydockref08.place -/
def ir18_l0 : ICode :=
  .seq (
  .seq (
  .region [
    ⟨0, some 8, none, .mov (.tmp 6), []⟩,
    ⟨1, some 9, none, .mov (.tmp 1), []⟩,
    ⟨2, some 10, none, .bin .lss .other (.tmp 8) (.tmp 9), []⟩]) (
  .cond (.tmp 10) (
   .skip) (
   .exit 0))) (
  .seq (
  .block 1 (
  .seq (
  .region [
    ⟨0, some 13, none, .faddr 1 (.tmp 5), []⟩,
    ⟨1, some 14, none, .load false 1 (.tmp 13), []⟩,
    ⟨2, some 15, none, .bin .add .other (.tmp 14) (.const (.int .i64 1)), []⟩,
    ⟨3, some 16, none, .faddr 1 (.tmp 5), []⟩,
    ⟨4, none, none, .store 1 (.tmp 16) (.tmp 15), []⟩]) (
  .seq (
  .region [
    ⟨0, some 17, none, .mov (.tmp 0), []⟩,
    ⟨1, some 18, none, .mov (.tmp 6), []⟩,
    ⟨2, some 19, none, .idxStr (.tmp 17) (.tmp 18), []⟩,
    ⟨3, some 20, none, .bin .eql .other (.tmp 19) (.const (.int .u8 10)), []⟩]) (
  .cond (.tmp 20) (
   .region [
     ⟨0, some 21, none, .faddr 0 (.tmp 5), []⟩,
     ⟨1, some 22, none, .load false 1 (.tmp 21), []⟩,
     ⟨2, some 23, none, .bin .add .other (.tmp 22) (.const (.int .i64 1)), []⟩,
     ⟨3, some 24, none, .build [.int .i64 0, .int .i64 0] [(0, 1, .tmp 23), (1, 1, .const (.int .i64 1))], []⟩,
     ⟨4, none, none, .store 2 (.tmp 5) (.tmp 24), []⟩]) (
   .skip))))) (
  .region [
    ⟨0, some 11, none, .mov (.tmp 6), []⟩,
    ⟨1, some 12, none, .bin .add .other (.tmp 11) (.const (.int .i64 1)), []⟩,
    ⟨2, some 6, none, .mov (.tmp 12), []⟩]))
def ir18_b : ICode :=
  .seq (
  .region [
    ⟨0, some 4, none, .alloc [.int .i64 0, .int .i64 0], []⟩]) (
  .seq (
  .region [
    ⟨0, some 7, none, .build [.int .i64 0, .int .i64 0] [(0, 1, .const (.int .i64 1)), (1, 1, .const (.int .i64 1))], []⟩,
    ⟨1, some 5, none, .alloc [.int .i64 0, .int .i64 0], []⟩,
    ⟨2, none, none, .store 2 (.tmp 5) (.tmp 7), []⟩]) (
  .seq (
  .seq (
  .region [
    ⟨0, some 6, none, .mov (.const (.int .i64 0)), []⟩]) (
  .block 0 (
  .loop ir18_l0))) (
  .seq (
  .region [
    ⟨0, some 25, none, .load true 2 (.tmp 5), []⟩,
    ⟨1, none, none, .store 2 (.tmp 4) (.tmp 25), []⟩]) (
  .ret))))
def ir18 : IFunc := ⟨26, [.cell 4 true 2], ir18_b⟩
theorem ir18_eq : cFunc Try.prog 18 = some ir18 := by kernel_rfl
theorem call18 {args : List Value} {m : Mem} {Φ : Value → Mem → Prop} (h : args.length ≤ 26) : WPCall Try.prog 18 args m Φ = WP Try.prog ir18_b (initσ args) m (retK [.cell 4 true 2] Φ) := wpCall_def ir18_eq h
/-- drydock/drydockref08.space -/
def ir19_b : ICode :=
  .seq (
  .region [
    ⟨0, some 2, none, .mov (.const (.bool false)), []⟩]) (
  .seq (
  .region [
    ⟨0, some 3, none, .mov (.tmp 0), []⟩,
    ⟨1, some 4, none, .bin .eql .other (.tmp 3) (.const (.int .u8 32)), []⟩,
    ⟨2, some 5, none, .mov (.tmp 4), []⟩,
    ⟨3, some 6, some (5, false), .mov (.tmp 0), []⟩,
    ⟨4, some 7, some (5, false), .bin .eql .other (.tmp 6) (.const (.int .u8 9)), []⟩,
    ⟨5, some 8, none, .pick (.tmp 5) (.const (.bool true)) (.tmp 7), []⟩,
    ⟨6, some 9, none, .mov (.tmp 8), []⟩,
    ⟨7, some 10, some (9, false), .mov (.tmp 0), []⟩,
    ⟨8, some 11, some (9, false), .bin .eql .other (.tmp 10) (.const (.int .u8 10)), []⟩,
    ⟨9, some 12, none, .pick (.tmp 9) (.const (.bool true)) (.tmp 11), []⟩,
    ⟨10, some 13, none, .mov (.tmp 12), []⟩,
    ⟨11, some 14, some (13, false), .mov (.tmp 0), []⟩,
    ⟨12, some 15, some (13, false), .bin .eql .other (.tmp 14) (.const (.int .u8 13)), []⟩,
    ⟨13, some 16, none, .pick (.tmp 13) (.const (.bool true)) (.tmp 15), []⟩,
    ⟨14, some 2, none, .mov (.tmp 16), []⟩]) (
  .ret))
def ir19 : IFunc := ⟨17, [.tmp 2], ir19_b⟩
theorem ir19_eq : cFunc Try.prog 19 = some ir19 := by kernel_rfl
theorem call19 {args : List Value} {m : Mem} {Φ : Value → Mem → Prop} (h : args.length ≤ 17) : WPCall Try.prog 19 args m Φ = WP Try.prog ir19_b (initσ args) m (retK [.tmp 2] Φ) := wpCall_def ir19_eq h
/-- drydock/drydockref08.letter -/
def ir20_b : ICode :=
  .seq (
  .region [
    ⟨0, some 2, none, .mov (.const (.bool false)), []⟩]) (
  .seq (
  .region [
    ⟨0, some 3, none, .mov (.tmp 0), []⟩,
    ⟨1, some 4, none, .bin .geq .other (.tmp 3) (.const (.int .u8 97)), []⟩,
    ⟨2, some 5, none, .mov (.tmp 4), []⟩,
    ⟨3, some 6, some (5, true), .mov (.tmp 0), []⟩,
    ⟨4, some 7, some (5, true), .bin .leq .other (.tmp 6) (.const (.int .u8 122)), []⟩,
    ⟨5, some 8, none, .pick (.tmp 5) (.tmp 7) (.const (.bool false)), []⟩,
    ⟨6, some 9, none, .mov (.tmp 8), []⟩,
    ⟨7, some 10, some (9, false), .mov (.tmp 0), []⟩,
    ⟨8, some 11, some (9, false), .bin .geq .other (.tmp 10) (.const (.int .u8 65)), []⟩,
    ⟨9, some 12, some (9, false), .mov (.tmp 11), []⟩,
    ⟨10, some 13, some (12, true), .mov (.tmp 0), []⟩,
    ⟨11, some 14, some (12, true), .bin .leq .other (.tmp 13) (.const (.int .u8 90)), []⟩,
    ⟨12, some 15, some (9, false), .pick (.tmp 12) (.tmp 14) (.const (.bool false)), []⟩,
    ⟨13, some 16, none, .pick (.tmp 9) (.const (.bool true)) (.tmp 15), []⟩,
    ⟨14, some 2, none, .mov (.tmp 16), []⟩]) (
  .ret))
def ir20 : IFunc := ⟨17, [.tmp 2], ir20_b⟩
theorem ir20_eq : cFunc Try.prog 20 = some ir20 := by kernel_rfl
theorem call20 {args : List Value} {m : Mem} {Φ : Value → Mem → Prop} (h : args.length ≤ 17) : WPCall Try.prog 20 args m Φ = WP Try.prog ir20_b (initσ args) m (retK [.tmp 2] Φ) := wpCall_def ir20_eq h
/-- drydock/drydockref08.inName -/
def ir21_b : ICode :=
  .seq (
  .region [
    ⟨0, some 2, none, .mov (.const (.bool false)), []⟩]) (
  .seq (
  .region [
    ⟨0, some 3, none, .mov (.tmp 0), []⟩,
    ⟨1, some 4, none, .call 20 [.tmp 3], []⟩,
    ⟨2, some 5, none, .mov (.tmp 4), []⟩,
    ⟨3, some 6, some (5, false), .mov (.tmp 0), []⟩,
    ⟨4, some 7, some (5, false), .call 22 [.tmp 6], []⟩,
    ⟨5, some 8, none, .pick (.tmp 5) (.const (.bool true)) (.tmp 7), []⟩,
    ⟨6, some 9, none, .mov (.tmp 8), []⟩,
    ⟨7, some 10, some (9, false), .mov (.tmp 0), []⟩,
    ⟨8, some 11, some (9, false), .bin .eql .other (.tmp 10) (.const (.int .u8 45)), []⟩,
    ⟨9, some 12, none, .pick (.tmp 9) (.const (.bool true)) (.tmp 11), []⟩,
    ⟨10, some 13, none, .mov (.tmp 12), []⟩,
    ⟨11, some 14, some (13, false), .mov (.tmp 0), []⟩,
    ⟨12, some 15, some (13, false), .bin .eql .other (.tmp 14) (.const (.int .u8 46)), []⟩,
    ⟨13, some 16, none, .pick (.tmp 13) (.const (.bool true)) (.tmp 15), []⟩,
    ⟨14, some 2, none, .mov (.tmp 16), []⟩]) (
  .ret))
def ir21 : IFunc := ⟨17, [.tmp 2], ir21_b⟩
theorem ir21_eq : cFunc Try.prog 21 = some ir21 := by kernel_rfl
theorem call21 {args : List Value} {m : Mem} {Φ : Value → Mem → Prop} (h : args.length ≤ 17) : WPCall Try.prog 21 args m Φ = WP Try.prog ir21_b (initσ args) m (retK [.tmp 2] Φ) := wpCall_def ir21_eq h
/-- drydock/drydockref08.digit -/
def ir22_b : ICode :=
  .seq (
  .region [
    ⟨0, some 2, none, .mov (.const (.bool false)), []⟩]) (
  .seq (
  .region [
    ⟨0, some 3, none, .mov (.tmp 0), []⟩,
    ⟨1, some 4, none, .bin .geq .other (.tmp 3) (.const (.int .u8 48)), []⟩,
    ⟨2, some 5, none, .mov (.tmp 4), []⟩,
    ⟨3, some 6, some (5, true), .mov (.tmp 0), []⟩,
    ⟨4, some 7, some (5, true), .bin .leq .other (.tmp 6) (.const (.int .u8 57)), []⟩,
    ⟨5, some 8, none, .pick (.tmp 5) (.tmp 7) (.const (.bool false)), []⟩,
    ⟨6, some 2, none, .mov (.tmp 8), []⟩]) (
  .ret))
def ir22 : IFunc := ⟨9, [.tmp 2], ir22_b⟩
theorem ir22_eq : cFunc Try.prog 22 = some ir22 := by kernel_rfl
theorem call22 {args : List Value} {m : Mem} {Φ : Value → Mem → Prop} (h : args.length ≤ 9) : WPCall Try.prog 22 args m Φ = WP Try.prog ir22_b (initσ args) m (retK [.tmp 2] Φ) := wpCall_def ir22_eq h
/-- drydock/drydockref08.sign -/
def ir23_b : ICode :=
  .seq (
  .region [
    ⟨0, some 2, none, .mov (.const (.bool false)), []⟩]) (
  .seq (
  .region [
    ⟨0, some 3, none, .mov (.tmp 0), []⟩,
    ⟨1, some 4, none, .bin .eql .other (.tmp 3) (.const (.int .u8 123)), []⟩,
    ⟨2, some 5, none, .mov (.tmp 4), []⟩,
    ⟨3, some 6, some (5, false), .mov (.tmp 0), []⟩,
    ⟨4, some 7, some (5, false), .bin .eql .other (.tmp 6) (.const (.int .u8 125)), []⟩,
    ⟨5, some 8, none, .pick (.tmp 5) (.const (.bool true)) (.tmp 7), []⟩,
    ⟨6, some 9, none, .mov (.tmp 8), []⟩,
    ⟨7, some 10, some (9, false), .mov (.tmp 0), []⟩,
    ⟨8, some 11, some (9, false), .bin .eql .other (.tmp 10) (.const (.int .u8 59)), []⟩,
    ⟨9, some 12, none, .pick (.tmp 9) (.const (.bool true)) (.tmp 11), []⟩,
    ⟨10, some 13, none, .mov (.tmp 12), []⟩,
    ⟨11, some 14, some (13, false), .mov (.tmp 0), []⟩,
    ⟨12, some 15, some (13, false), .bin .eql .other (.tmp 14) (.const (.int .u8 44)), []⟩,
    ⟨13, some 16, none, .pick (.tmp 13) (.const (.bool true)) (.tmp 15), []⟩,
    ⟨14, some 17, none, .mov (.tmp 16), []⟩,
    ⟨15, some 18, some (17, false), .mov (.tmp 0), []⟩,
    ⟨16, some 19, some (17, false), .bin .eql .other (.tmp 18) (.const (.int .u8 43)), []⟩,
    ⟨17, some 20, none, .pick (.tmp 17) (.const (.bool true)) (.tmp 19), []⟩,
    ⟨18, some 21, none, .mov (.tmp 20), []⟩,
    ⟨19, some 22, some (21, false), .mov (.tmp 0), []⟩,
    ⟨20, some 23, some (21, false), .bin .eql .other (.tmp 22) (.const (.int .u8 47)), []⟩,
    ⟨21, some 24, none, .pick (.tmp 21) (.const (.bool true)) (.tmp 23), []⟩,
    ⟨22, some 2, none, .mov (.tmp 24), []⟩]) (
  .ret))
def ir23 : IFunc := ⟨25, [.tmp 2], ir23_b⟩
theorem ir23_eq : cFunc Try.prog 23 = some ir23 := by kernel_rfl
theorem call23 {args : List Value} {m : Mem} {Φ : Value → Mem → Prop} (h : args.length ≤ 25) : WPCall Try.prog 23 args m Φ = WP Try.prog ir23_b (initσ args) m (retK [.tmp 2] Φ) := wpCall_def ir23_eq h
/-- drydock/lexer.letter -/
def ir24_b : ICode :=
  .seq (
  .region [
    ⟨0, some 2, none, .mov (.const (.bool false)), []⟩]) (
  .seq (
  .region [
    ⟨0, some 3, none, .mov (.tmp 0), []⟩,
    ⟨1, some 4, none, .bin .geq .other (.tmp 3) (.const (.int .u8 97)), []⟩,
    ⟨2, some 5, none, .mov (.tmp 4), []⟩,
    ⟨3, some 6, some (5, true), .mov (.tmp 0), []⟩,
    ⟨4, some 7, some (5, true), .bin .leq .other (.tmp 6) (.const (.int .u8 122)), []⟩,
    ⟨5, some 8, none, .pick (.tmp 5) (.tmp 7) (.const (.bool false)), []⟩,
    ⟨6, some 9, none, .mov (.tmp 8), []⟩,
    ⟨7, some 10, some (9, false), .mov (.tmp 0), []⟩,
    ⟨8, some 11, some (9, false), .bin .geq .other (.tmp 10) (.const (.int .u8 65)), []⟩,
    ⟨9, some 12, some (9, false), .mov (.tmp 11), []⟩,
    ⟨10, some 13, some (12, true), .mov (.tmp 0), []⟩,
    ⟨11, some 14, some (12, true), .bin .leq .other (.tmp 13) (.const (.int .u8 90)), []⟩,
    ⟨12, some 15, some (9, false), .pick (.tmp 12) (.tmp 14) (.const (.bool false)), []⟩,
    ⟨13, some 16, none, .pick (.tmp 9) (.const (.bool true)) (.tmp 15), []⟩,
    ⟨14, some 2, none, .mov (.tmp 16), []⟩]) (
  .ret))
def ir24 : IFunc := ⟨17, [.tmp 2], ir24_b⟩
theorem ir24_eq : cFunc Try.prog 24 = some ir24 := by kernel_rfl
theorem call24 {args : List Value} {m : Mem} {Φ : Value → Mem → Prop} (h : args.length ≤ 17) : WPCall Try.prog 24 args m Φ = WP Try.prog ir24_b (initσ args) m (retK [.tmp 2] Φ) := wpCall_def ir24_eq h
/-- drydock/lexer.inner -/
def ir25_b : ICode :=
  .seq (
  .region [
    ⟨0, some 2, none, .mov (.const (.bool false)), []⟩]) (
  .seq (
  .region [
    ⟨0, some 3, none, .mov (.tmp 0), []⟩,
    ⟨1, some 4, none, .call 24 [.tmp 3], []⟩,
    ⟨2, some 5, none, .mov (.tmp 4), []⟩,
    ⟨3, some 6, some (5, false), .mov (.tmp 0), []⟩,
    ⟨4, some 7, some (5, false), .call 29 [.tmp 6], []⟩,
    ⟨5, some 8, none, .pick (.tmp 5) (.const (.bool true)) (.tmp 7), []⟩,
    ⟨6, some 9, none, .mov (.tmp 8), []⟩,
    ⟨7, some 10, some (9, false), .mov (.tmp 0), []⟩,
    ⟨8, some 11, some (9, false), .bin .eql .other (.tmp 10) (.const (.int .u8 45)), []⟩,
    ⟨9, some 12, none, .pick (.tmp 9) (.const (.bool true)) (.tmp 11), []⟩,
    ⟨10, some 13, none, .mov (.tmp 12), []⟩,
    ⟨11, some 14, some (13, false), .mov (.tmp 0), []⟩,
    ⟨12, some 15, some (13, false), .bin .eql .other (.tmp 14) (.const (.int .u8 46)), []⟩,
    ⟨13, some 16, none, .pick (.tmp 13) (.const (.bool true)) (.tmp 15), []⟩,
    ⟨14, some 2, none, .mov (.tmp 16), []⟩]) (
  .ret))
def ir25 : IFunc := ⟨17, [.tmp 2], ir25_b⟩
theorem ir25_eq : cFunc Try.prog 25 = some ir25 := by kernel_rfl
theorem call25 {args : List Value} {m : Mem} {Φ : Value → Mem → Prop} (h : args.length ≤ 17) : WPCall Try.prog 25 args m Φ = WP Try.prog ir25_b (initσ args) m (retK [.tmp 2] Φ) := wpCall_def ir25_eq h
/-- drydock/lexer.space -/
def ir26_b : ICode :=
  .seq (
  .region [
    ⟨0, some 2, none, .mov (.const (.bool false)), []⟩]) (
  .seq (
  .region [
    ⟨0, some 3, none, .mov (.tmp 0), []⟩,
    ⟨1, some 4, none, .bin .eql .other (.tmp 3) (.const (.int .u8 32)), []⟩,
    ⟨2, some 5, none, .mov (.tmp 4), []⟩,
    ⟨3, some 6, some (5, false), .mov (.tmp 0), []⟩,
    ⟨4, some 7, some (5, false), .bin .eql .other (.tmp 6) (.const (.int .u8 9)), []⟩,
    ⟨5, some 8, none, .pick (.tmp 5) (.const (.bool true)) (.tmp 7), []⟩,
    ⟨6, some 9, none, .mov (.tmp 8), []⟩,
    ⟨7, some 10, some (9, false), .mov (.tmp 0), []⟩,
    ⟨8, some 11, some (9, false), .bin .eql .other (.tmp 10) (.const (.int .u8 10)), []⟩,
    ⟨9, some 12, none, .pick (.tmp 9) (.const (.bool true)) (.tmp 11), []⟩,
    ⟨10, some 13, none, .mov (.tmp 12), []⟩,
    ⟨11, some 14, some (13, false), .mov (.tmp 0), []⟩,
    ⟨12, some 15, some (13, false), .bin .eql .other (.tmp 14) (.const (.int .u8 13)), []⟩,
    ⟨13, some 16, none, .pick (.tmp 13) (.const (.bool true)) (.tmp 15), []⟩,
    ⟨14, some 2, none, .mov (.tmp 16), []⟩]) (
  .ret))
def ir26 : IFunc := ⟨17, [.tmp 2], ir26_b⟩
theorem ir26_eq : cFunc Try.prog 26 = some ir26 := by kernel_rfl
theorem call26 {args : List Value} {m : Mem} {Φ : Value → Mem → Prop} (h : args.length ≤ 17) : WPCall Try.prog 26 args m Φ = WP Try.prog ir26_b (initσ args) m (retK [.tmp 2] Φ) := wpCall_def ir26_eq h
/-- (*drydock/lexer.scanner).row -/
def ir27_l0 : ICode :=
  .seq (
  .seq (
  .region [
    ⟨0, some 10, none, .mov (.tmp 0), []⟩,
    ⟨1, some 11, none, .nilck (.tmp 10), []⟩,
    ⟨2, some 12, none, .faddr 1 (.tmp 11), []⟩,
    ⟨3, some 13, none, .load false 1 (.tmp 12), []⟩,
    ⟨4, some 14, none, .mov (.tmp 0), []⟩,
    ⟨5, some 15, none, .nilck (.tmp 14), []⟩,
    ⟨6, some 16, none, .faddr 0 (.tmp 15), []⟩,
    ⟨7, some 17, none, .load false 1 (.tmp 16), []⟩,
    ⟨8, some 18, none, .lenS (.tmp 17), []⟩,
    ⟨9, some 19, none, .bin .lss .other (.tmp 13) (.tmp 18), []⟩,
    ⟨10, some 20, none, .mov (.tmp 19), []⟩,
    ⟨11, some 21, some (20, true), .mov (.tmp 1), []⟩,
    ⟨12, some 22, some (20, true), .mov (.tmp 0), []⟩,
    ⟨13, some 23, some (20, true), .nilck (.tmp 22), []⟩,
    ⟨14, some 24, some (20, true), .faddr 0 (.tmp 23), []⟩,
    ⟨15, some 25, some (20, true), .load false 1 (.tmp 24), []⟩,
    ⟨16, some 26, some (20, true), .mov (.tmp 0), []⟩,
    ⟨17, some 27, some (20, true), .nilck (.tmp 26), []⟩,
    ⟨18, some 28, some (20, true), .faddr 1 (.tmp 27), []⟩,
    ⟨19, some 29, some (20, true), .load false 1 (.tmp 28), []⟩,
    ⟨20, some 30, some (20, true), .idxStr (.tmp 25) (.tmp 29), []⟩,
    ⟨21, some 31, some (20, true), .callv (.tmp 21) [.tmp 30], []⟩,
    ⟨22, some 32, none, .pick (.tmp 20) (.tmp 31) (.const (.bool false)), []⟩]) (
  .cond (.tmp 32) (
   .skip) (
   .exit 0))) (
  .block 1 (
  .region [
    ⟨0, some 33, none, .mov (.tmp 0), []⟩,
    ⟨1, some 34, none, .call 15 [.tmp 33], []⟩]))
def ir27_b : ICode :=
  .seq (
  .region [
    ⟨0, some 4, none, .mov (.const (.string ⟨#[]⟩)), []⟩]) (
  .seq (
  .region [
    ⟨0, some 6, none, .mov (.tmp 0), []⟩,
    ⟨1, some 7, none, .nilck (.tmp 6), []⟩,
    ⟨2, some 8, none, .faddr 1 (.tmp 7), []⟩,
    ⟨3, some 9, none, .load false 1 (.tmp 8), []⟩,
    ⟨4, some 5, none, .mov (.tmp 9), []⟩]) (
  .seq (
  .block 0 (
  .loop ir27_l0)) (
  .seq (
  .region [
    ⟨0, some 35, none, .mov (.tmp 0), []⟩,
    ⟨1, some 36, none, .nilck (.tmp 35), []⟩,
    ⟨2, some 37, none, .faddr 0 (.tmp 36), []⟩,
    ⟨3, some 38, none, .load false 1 (.tmp 37), []⟩,
    ⟨4, some 39, none, .mov (.tmp 5), []⟩,
    ⟨5, some 40, none, .mov (.tmp 0), []⟩,
    ⟨6, some 41, none, .nilck (.tmp 40), []⟩,
    ⟨7, some 42, none, .faddr 1 (.tmp 41), []⟩,
    ⟨8, some 43, none, .load false 1 (.tmp 42), []⟩,
    ⟨9, some 44, none, .sliceStr (.tmp 38) (some (.tmp 39)) (some (.tmp 43)), []⟩,
    ⟨10, some 4, none, .mov (.tmp 44), []⟩]) (
  .ret))))
def ir27 : IFunc := ⟨45, [.tmp 4], ir27_b⟩
theorem ir27_eq : cFunc Try.prog 27 = some ir27 := by kernel_rfl
theorem call27 {args : List Value} {m : Mem} {Φ : Value → Mem → Prop} (h : args.length ≤ 45) : WPCall Try.prog 27 args m Φ = WP Try.prog ir27_b (initσ args) m (retK [.tmp 4] Φ) := wpCall_def ir27_eq h
/-- (*drydock/lexer.scanner).blank$1 -/
def ir28_b : ICode :=
  .seq (
  .region [
    ⟨0, some 2, none, .mov (.const (.bool false)), []⟩]) (
  .seq (
  .region [
    ⟨0, some 3, none, .mov (.tmp 0), []⟩,
    ⟨1, some 4, none, .bin .neq .other (.tmp 3) (.const (.int .u8 10)), []⟩,
    ⟨2, some 2, none, .mov (.tmp 4), []⟩]) (
  .ret))
def ir28 : IFunc := ⟨5, [.tmp 2], ir28_b⟩
theorem ir28_eq : cFunc Try.prog 28 = some ir28 := by kernel_rfl
theorem call28 {args : List Value} {m : Mem} {Φ : Value → Mem → Prop} (h : args.length ≤ 5) : WPCall Try.prog 28 args m Φ = WP Try.prog ir28_b (initσ args) m (retK [.tmp 2] Φ) := wpCall_def ir28_eq h
/-- drydock/lexer.digit -/
def ir29_b : ICode :=
  .seq (
  .region [
    ⟨0, some 2, none, .mov (.const (.bool false)), []⟩]) (
  .seq (
  .region [
    ⟨0, some 3, none, .mov (.tmp 0), []⟩,
    ⟨1, some 4, none, .bin .geq .other (.tmp 3) (.const (.int .u8 48)), []⟩,
    ⟨2, some 5, none, .mov (.tmp 4), []⟩,
    ⟨3, some 6, some (5, true), .mov (.tmp 0), []⟩,
    ⟨4, some 7, some (5, true), .bin .leq .other (.tmp 6) (.const (.int .u8 57)), []⟩,
    ⟨5, some 8, none, .pick (.tmp 5) (.tmp 7) (.const (.bool false)), []⟩,
    ⟨6, some 2, none, .mov (.tmp 8), []⟩]) (
  .ret))
def ir29 : IFunc := ⟨9, [.tmp 2], ir29_b⟩
theorem ir29_eq : cFunc Try.prog 29 = some ir29 := by kernel_rfl
theorem call29 {args : List Value} {m : Mem} {Φ : Value → Mem → Prop} (h : args.length ≤ 9) : WPCall Try.prog 29 args m Φ = WP Try.prog ir29_b (initσ args) m (retK [.tmp 2] Φ) := wpCall_def ir29_eq h
/-- drydock/lexer.sign -/
def ir30_b : ICode :=
  .seq (
  .region [
    ⟨0, some 2, none, .mov (.const (.bool false)), []⟩]) (
  .seq (
  .seq (
  .region [
    ⟨0, some 3, none, .mov (.tmp 0), []⟩]) (
  .block 0 (
  .seq (
  .seq (
  .region [
    ⟨0, some 5, none, .bin .eql .other (.tmp 3) (.const (.int .u8 123)), []⟩,
    ⟨1, some 4, none, .mov (.tmp 5), []⟩]) (
  .cond (.tmp 4) (
   .skip) (
   .seq (
   .region [
     ⟨0, some 6, none, .bin .eql .other (.tmp 3) (.const (.int .u8 125)), []⟩,
     ⟨1, some 4, none, .mov (.tmp 6), []⟩]) (
   .cond (.tmp 4) (
    .skip) (
    .seq (
    .region [
      ⟨0, some 7, none, .bin .eql .other (.tmp 3) (.const (.int .u8 59)), []⟩,
      ⟨1, some 4, none, .mov (.tmp 7), []⟩]) (
    .cond (.tmp 4) (
     .skip) (
     .seq (
     .region [
       ⟨0, some 8, none, .bin .eql .other (.tmp 3) (.const (.int .u8 44)), []⟩,
       ⟨1, some 4, none, .mov (.tmp 8), []⟩]) (
     .cond (.tmp 4) (
      .skip) (
      .seq (
      .region [
        ⟨0, some 9, none, .bin .eql .other (.tmp 3) (.const (.int .u8 43)), []⟩,
        ⟨1, some 4, none, .mov (.tmp 9), []⟩]) (
      .cond (.tmp 4) (
       .skip) (
       .region [
         ⟨0, some 10, none, .bin .eql .other (.tmp 3) (.const (.int .u8 47)), []⟩,
         ⟨1, some 4, none, .mov (.tmp 10), []⟩]))))))))))) (
  .cond (.tmp 4) (
   .seq (
   .region [
     ⟨0, some 2, none, .mov (.const (.bool true)), []⟩]) (
   .ret)) (
   .skip))))) (
  .seq (
  .region [
    ⟨0, some 2, none, .mov (.const (.bool false)), []⟩]) (
  .ret)))
def ir30 : IFunc := ⟨11, [.tmp 2], ir30_b⟩
theorem ir30_eq : cFunc Try.prog 30 = some ir30 := by kernel_rfl
theorem call30 {args : List Value} {m : Mem} {Φ : Value → Mem → Prop} (h : args.length ≤ 11) : WPCall Try.prog 30 args m Φ = WP Try.prog ir30_b (initσ args) m (retK [.tmp 2] Φ) := wpCall_def ir30_eq h
end Go.Proofs.Ytaoijkldbipplaa
