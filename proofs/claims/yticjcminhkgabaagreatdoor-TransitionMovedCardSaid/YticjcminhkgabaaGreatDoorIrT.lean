/-
 The intermediate forms of this seat's functions, written by a program of ours (wip/Ir.lean); each is checked against the loaded program.
-/
import Derived.Test.YticjcminhkgabaaGreatDoorRows
import Derived.Test.YticjcminhkgabaaGreatDoorFwX
namespace Go.Proofs.YticjcminhkgabaaGreatDoor
open Go Go.DI

def ir3_k3 : ICode :=
 .seq (
 .block 1 (
 .seq (
 .region [
 imv 0 27 0,
 imv 1 28 5,
 iia 2 29 1 27 28,
 ild 3 30 29,
 iln 4 31 30,
 ibn 5 32 .gtr (τ 31) (.const (.int .i64 100)),
 imv 6 33 32,
 iog 7 34 33 false (.mov (τ 1)),
 iog 8 35 33 false (.mov (τ 5)),
 iog 9 36 33 false (.iaddr 1 (τ 34) (τ 35)),
 iog 10 37 33 false (.load false 1 (τ 36)),
 iog 11 38 33 false (.lenV (τ 37)),
 iog 12 39 33 false (.bin .gtr .other (τ 38) (.const (.int .i64 100))),
 iop 13 40 (.pick (τ 33) (.const (.bool true)) (τ 39))]) (
 .cond (τ 40) (
 .seq (
 .region [
 icl 0 41 10 [],
 imv 1 4 41]) (
 .ret)) (
 .skip)))) (
 .region [
 imv 0 25 5,
 ibn 1 26 .add (τ 25) (.const (.int .i64 1)),
 imv 2 5 26])
def ir3_l0 : ICode :=
 .seq (
 .seq (
 .region [
 imv 0 15 5,
 imv 1 16 0,
 iln 2 17 16,
 ibn 3 18 .lss (τ 15) (τ 17),
 imv 4 19 18,
 iog 5 20 19 true (.mov (τ 5)),
 iog 6 21 19 true (.mov (τ 1)),
 iog 7 22 19 true (.lenV (τ 21)),
 iog 8 23 19 true (.bin .lss .other (τ 20) (τ 22)),
 iop 9 24 (.pick (τ 19) (τ 23) (.const (.bool false)))]) (
 .cond (τ 24) (
 .skip) (
 .exit 0))) ir3_k3
def ir3_k4 : ICode :=
 .seq (
 .region [
 imv 0 42 0,
 imv 1 43 1,
 icl 2 44 11 [τ 42, τ 43],
 imv 3 45 0,
 imv 4 46 1,
 icl 5 47 12 [τ 45, τ 46],
 ibn 6 48 .eql (τ 44) (τ 47),
 imv 7 49 48,
 iog 8 50 49 true (.mov (τ 0)),
 iog 9 51 49 true (.mov (τ 0)),
 iog 10 52 49 true (.call 11 [τ 50, τ 51]),
 iog 11 53 49 true (.bin .eql .other (τ 52) (.const (.int .i64 0))),
 iop 12 54 (.pick (τ 49) (τ 53) (.const (.bool false))),
 imv 13 55 54,
 iog 14 56 55 true (.mov (τ 0)),
 iog 15 57 55 true (.mov (τ 1)),
 iog 16 58 55 true (.call 11 [τ 56, τ 57]),
 iog 17 59 55 true (.mov (τ 1)),
 iog 18 60 55 true (.mov (τ 0)),
 iog 19 61 55 true (.call 11 [τ 59, τ 60]),
 iog 20 62 55 true (.bin .eql .other (τ 58) (τ 61)),
 iop 21 63 (.pick (τ 55) (τ 62) (.const (.bool false))),
 imv 22 64 63,
 iog 23 65 64 true (.call 10 []),
 iop 24 66 (.pick (τ 64) (τ 65) (.const (.bool false))),
 imv 25 4 66]) (
 .ret)
def ir3_k2 : ICode :=
 .seq (
 .seq (
 .region [
 imi 0 5 0]) (
 .block 0 (
 .loop ir3_l0))) ir3_k4
def ir3_k1 : ICode :=
 .seq (
 .seq (
 .region [
 imv 0 6 0,
 iln 1 7 6,
 ibn 2 8 .gtr (τ 7) (.const (.int .i64 50)),
 imv 3 9 8,
 iog 4 10 9 false (.mov (τ 1)),
 iog 5 11 9 false (.lenV (τ 10)),
 iog 6 12 9 false (.bin .gtr .other (τ 11) (.const (.int .i64 50))),
 iop 7 13 (.pick (τ 9) (.const (.bool true)) (τ 12))]) (
 .cond (τ 13) (
 .seq (
 .region [
 icl 0 14 10 [],
 imv 1 4 14]) (
 .ret)) (
 .skip))) ir3_k2
def ir3_b : ICode :=
 .seq (
 .region [
 imb 0 4 false]) ir3_k1
def ir3 : IFunc := ⟨67, [.tmp 4], ir3_b⟩
theorem ir3_eq : cFunc Tryz.prog 3 = some ir3 := by kernel_rfl
theorem call3 {args : List Value} {m : Mem} {Φ : Value → Mem → Prop} (h : args.length ≤ 67) : WPCall Tryz.prog 3 args m Φ = WP Tryz.prog ir3_b (initσ args) m (retK [.tmp 4] Φ) := wpCall_def ir3_eq h
def ir10_k6 : ICode :=
 .seq (
 .region [
 imv 0 34 3,
 ibn 1 35 .eql (τ 34) (.const (.int .i64 0)),
 imv 2 36 35,
 iog 3 37 36 true (.faddr 1 (τ 2)),
 iog 4 38 36 true (.load false 1 (τ 37)),
 iog 5 39 36 true (.bin .eql .other (τ 38) (.const (.int .i64 1))),
 iop 6 40 (.pick (τ 36) (τ 39) (.const (.bool false))),
 imv 7 41 40,
 iog 8 42 41 true (.faddr 0 (τ 2)),
 iog 9 43 41 true (.load false 1 (τ 42)),
 iog 10 44 41 true (.lenV (τ 43)),
 iog 11 45 41 true (.bin .eql .other (τ 44) (.const (.int .i64 1))),
 iop 12 46 (.pick (τ 41) (τ 45) (.const (.bool false))),
 imv 13 47 46,
 iog 14 48 47 true (.mov (τ 5)),
 iog 15 49 47 true (.bin .eql .other (τ 48) (.const (.int .i64 0))),
 iop 16 50 (.pick (τ 47) (τ 49) (.const (.bool false))),
 imv 17 51 50,
 iog 18 52 51 true (.faddr 1 (τ 4)),
 iog 19 53 51 true (.load false 1 (τ 52)),
 iog 20 54 51 true (.bin .eql .other (τ 53) (.const (.int .i64 0))),
 iop 21 55 (.pick (τ 51) (τ 54) (.const (.bool false))),
 imv 22 56 55,
 iog 23 57 56 true (.mov (τ 7)),
 iog 24 58 56 true (.bin .eql .other (τ 57) (.const (.int .i64 12))),
 iop 25 59 (.pick (τ 56) (τ 58) (.const (.bool false))),
 imv 26 60 59,
 iog 27 61 60 true (.faddr 0 (τ 2)),
 iog 28 62 60 true (.load false 1 (τ 61)),
 iog 29 63 60 true (.faddr 0 (τ 4)),
 iog 30 64 60 true (.load false 1 (τ 63)),
 iog 31 65 60 true (.call 11 [τ 62, τ 64]),
 iog 32 66 60 true (.bin .eql .other (τ 65) (.const (.int .i64 0))),
 iop 33 67 (.pick (τ 60) (τ 66) (.const (.bool false))),
 imv 34 0 67]) (
 .ret)
def ir10_k5 : ICode :=
 .seq (
 .region [
 ila 0 27 7 1,
 iop 1 28 (.bslice 1 1 [.int .i64 0] [(0, 1, .const (.int .i64 0))]),
 iop 2 29 (.bslice 1 1 [.slice none 0 0] [(0, 1, τ 28)]),
 iop 3 30 (.bslice 1 1 [.int .i64 0] [(0, 1, .const (.int .i64 0))]),
 icl 4 31 18 [τ 27, τ 29, τ 30],
 imv 5 26 31,
 iex 6 32 0 26,
 iex 7 33 1 26,
 iop 8 6 (.alloc [.slice none 0 0, .int .i64 0, .slice none 0 0]),
 ist 9 3 6 32,
 imv 10 7 33]) ir10_k6
def ir10_k4 : ICode :=
 .seq (
 .region [
 ila 0 20 7 1,
 iop 1 21 (.bslice 1 1 [.int .i64 0] [(0, 1, .const (.int .i64 0))]),
 iop 2 22 (.bslice 1 1 [.slice none 0 0] [(0, 1, τ 21)]),
 icl 3 23 18 [τ 20, τ 22, .const (.slice none 0 0)],
 imv 4 19 23,
 iex 5 24 0 19,
 iex 6 25 1 19,
 iop 7 4 (.alloc [.slice none 0 0, .int .i64 0, .slice none 0 0]),
 ist 8 3 4 24,
 imv 9 5 25]) ir10_k5
def ir10_k3 : ICode :=
 .seq (
 .region [
 ila 0 13 7 1,
 iop 1 14 (.bslice 1 1 [.int .i64 0] [(0, 1, .const (.int .i64 (-1)))]),
 iop 2 15 (.bslice 1 1 [.slice none 0 0] [(0, 1, τ 14)]),
 icl 3 16 18 [τ 13, τ 15, .const (.slice none 0 0)],
 imv 4 12 16,
 iex 5 17 0 12,
 iex 6 18 1 12,
 iop 7 2 (.alloc [.slice none 0 0, .int .i64 0, .slice none 0 0]),
 ist 8 3 2 17,
 imv 9 3 18]) ir10_k4
def ir10_k2 : ICode :=
 .seq (
 .region [
 iop 0 9 (.build [.string ⟨#[]⟩, .int .i64 0] [(0, 1, .const (.string ⟨#[118, 48]⟩))]),
 iop 1 10 (.bslice 2 1 [.string ⟨#[]⟩, .int .i64 0] [(0, 2, τ 9)]),
 ifa 2 11 6 1,
 ist 3 1 11 10]) ir10_k3
def ir10_k1 : ICode :=
 .seq (
 .region [
 icl 0 8 27 [.const (.slice none 0 0), .const (.int .i64 1), .const (.int .i64 0)],
 iop 1 1 (.alloc [.int .i64 0, .slice none 0 0, .slice none 0 0, .slice none 0 0, .slice none 0 0, .slice none 0 0, .slice none 0 0]),
 ist 2 7 1 8]) ir10_k2
def ir10_b : ICode :=
 .seq (
 .region [
 imb 0 0 false]) ir10_k1
def ir10 : IFunc := ⟨68, [.tmp 0], ir10_b⟩
theorem ir10_eq : cFunc Tryz.prog 10 = some ir10 := by kernel_rfl
theorem call10 {args : List Value} {m : Mem} {Φ : Value → Mem → Prop} (h : args.length ≤ 68) : WPCall Tryz.prog 10 args m Φ = WP Tryz.prog ir10_b (initσ args) m (retK [.tmp 0] Φ) := wpCall_def ir10_eq h
def ir11_k10 : ICode :=
 .seq (
 .region [
 imv 0 37 0,
 imv 1 38 6,
 iia 2 39 1 37 38,
 ild 3 40 39,
 imv 4 41 7,
 iia 5 42 1 40 41,
 ild 6 43 42,
 imv 7 44 1,
 imv 8 45 6,
 iia 9 46 1 44 45,
 ild 10 47 46,
 imv 11 48 7,
 iia 12 49 1 47 48,
 ild 13 50 49,
 ibn 14 51 .neq (τ 43) (τ 50)]) (
 .cond (τ 51) (
 .region [
 imv 0 52 5,
 ibn 1 53 .add (τ 52) (.const (.int .i64 1)),
 imv 2 5 53]) (
 .skip))
def ir11_k9 : ICode :=
 .seq (
 .block 3 (
 .seq (
 .region [
 imv 0 36 34,
 imv 1 7 36]) ir11_k10)) (
 .region [
 ibn 0 54 .add (τ 34) (.const (.int .i64 1)),
 imv 1 34 54])
def ir11_k8 : ICode :=
 .seq (
 .cond (τ 35) (
 .skip) (
 .exit 2)) ir11_k9
def ir11_l0 : ICode :=
 .seq (
 .region [
 ibn 0 35 .lss (τ 34) (τ 33)]) ir11_k8
def ir11_k7 : ICode :=
 .seq (
 .region [
 imv 0 29 0,
 imv 1 30 6,
 iia 2 31 1 29 30,
 ild 3 32 31,
 iln 4 33 32,
 imi 5 34 0]) (
 .block 2 (
 .loop ir11_l0))
def ir11_k6 : ICode :=
 .seq (
 .seq (
 .region [
 imv 0 18 0,
 imv 1 19 6,
 iia 2 20 1 18 19,
 ild 3 21 20,
 iln 4 22 21,
 imv 5 23 1,
 imv 6 24 6,
 iia 7 25 1 23 24,
 ild 8 26 25,
 iln 9 27 26,
 ibn 10 28 .neq (τ 22) (τ 27)]) (
 .cond (τ 28) (
 .seq (
 .region [
 imi 0 4 (-1)]) (
 .ret)) (
 .skip))) ir11_k7
def ir11_k5 : ICode :=
 .seq (
 .block 1 (
 .seq (
 .region [
 imv 0 17 15,
 imv 1 6 17]) ir11_k6)) (
 .region [
 ibn 0 55 .add (τ 15) (.const (.int .i64 1)),
 imv 1 15 55])
def ir11_k4 : ICode :=
 .seq (
 .cond (τ 16) (
 .skip) (
 .exit 0)) ir11_k5
def ir11_l1 : ICode :=
 .seq (
 .region [
 ibn 0 16 .lss (τ 15) (τ 14)]) ir11_k4
def ir11_k11 : ICode :=
 .seq (
 .region [
 imv 0 56 5,
 imv 1 4 56]) (
 .ret)
def ir11_k3 : ICode :=
 .seq (
 .seq (
 .region [
 imv 0 13 0,
 iln 1 14 13,
 imi 2 15 0]) (
 .block 0 (
 .loop ir11_l1))) ir11_k11
def ir11_k2 : ICode :=
 .seq (
 .region [
 imi 0 5 0]) ir11_k3
def ir11_k1 : ICode :=
 .seq (
 .seq (
 .region [
 imv 0 8 0,
 iln 1 9 8,
 imv 2 10 1,
 iln 3 11 10,
 ibn 4 12 .neq (τ 9) (τ 11)]) (
 .cond (τ 12) (
 .seq (
 .region [
 imi 0 4 (-1)]) (
 .ret)) (
 .skip))) ir11_k2
def ir11_b : ICode :=
 .seq (
 .region [
 imi 0 4 0]) ir11_k1
def ir11 : IFunc := ⟨57, [.tmp 4], ir11_b⟩
theorem ir11_eq : cFunc Tryz.prog 11 = some ir11 := by kernel_rfl
theorem call11 {args : List Value} {m : Mem} {Φ : Value → Mem → Prop} (h : args.length ≤ 57) : WPCall Tryz.prog 11 args m Φ = WP Tryz.prog ir11_b (initσ args) m (retK [.tmp 4] Φ) := wpCall_def ir11_eq h
def ir12_k6 : ICode :=
 .seq (
 .block 3 (
 .seq (
 .region [
 imv 0 39 0,
 imv 1 40 6,
 iia 2 41 1 39 40,
 ild 3 42 41,
 imv 4 43 7,
 iia 5 44 1 42 43,
 ild 6 45 44,
 imv 7 46 1,
 imv 8 47 6,
 iia 9 48 1 46 47,
 ild 10 49 48,
 imv 11 50 7,
 iia 12 51 1 49 50,
 ild 13 52 51,
 ibn 14 53 .neq (τ 45) (τ 52)]) (
 .cond (τ 53) (
 .region [
 imv 0 54 5,
 ibn 1 55 .add (τ 54) (.const (.int .i64 1)),
 imv 2 5 55]) (
 .skip)))) (
 .region [
 imv 0 37 7,
 ibn 1 38 .add (τ 37) (.const (.int .i64 1)),
 imv 2 7 38])
def ir12_l0 : ICode :=
 .seq (
 .seq (
 .region [
 imv 0 30 7,
 imv 1 31 0,
 imv 2 32 6,
 iia 3 33 1 31 32,
 ild 4 34 33,
 iln 5 35 34,
 ibn 6 36 .lss (τ 30) (τ 35)]) (
 .cond (τ 36) (
 .skip) (
 .exit 2))) ir12_k6
def ir12_k5 : ICode :=
 .seq (
 .region [
 imi 0 7 0]) (
 .block 2 (
 .loop ir12_l0))
def ir12_k4 : ICode :=
 .seq (
 .block 1 (
 .seq (
 .seq (
 .region [
 imv 0 19 0,
 imv 1 20 6,
 iia 2 21 1 19 20,
 ild 3 22 21,
 iln 4 23 22,
 imv 5 24 1,
 imv 6 25 6,
 iia 7 26 1 24 25,
 ild 8 27 26,
 iln 9 28 27,
 ibn 10 29 .neq (τ 23) (τ 28)]) (
 .cond (τ 29) (
 .seq (
 .region [
 imi 0 4 (-1)]) (
 .ret)) (
 .skip))) ir12_k5)) (
 .region [
 imv 0 17 6,
 ibn 1 18 .add (τ 17) (.const (.int .i64 1)),
 imv 2 6 18])
def ir12_l1 : ICode :=
 .seq (
 .seq (
 .region [
 imv 0 13 6,
 imv 1 14 0,
 iln 2 15 14,
 ibn 3 16 .lss (τ 13) (τ 15)]) (
 .cond (τ 16) (
 .skip) (
 .exit 0))) ir12_k4
def ir12_k7 : ICode :=
 .seq (
 .region [
 imv 0 56 5,
 imv 1 4 56]) (
 .ret)
def ir12_k3 : ICode :=
 .seq (
 .seq (
 .region [
 imi 0 6 0]) (
 .block 0 (
 .loop ir12_l1))) ir12_k7
def ir12_k2 : ICode :=
 .seq (
 .region [
 imi 0 5 0]) ir12_k3
def ir12_k1 : ICode :=
 .seq (
 .seq (
 .region [
 imv 0 8 0,
 iln 1 9 8,
 imv 2 10 1,
 iln 3 11 10,
 ibn 4 12 .neq (τ 9) (τ 11)]) (
 .cond (τ 12) (
 .seq (
 .region [
 imi 0 4 (-1)]) (
 .ret)) (
 .skip))) ir12_k2
def ir12_b : ICode :=
 .seq (
 .region [
 imi 0 4 0]) ir12_k1
def ir12 : IFunc := ⟨57, [.tmp 4], ir12_b⟩
theorem ir12_eq : cFunc Tryz.prog 12 = some ir12 := by kernel_rfl
theorem call12 {args : List Value} {m : Mem} {Φ : Value → Mem → Prop} (h : args.length ≤ 57) : WPCall Tryz.prog 12 args m Φ = WP Tryz.prog ir12_b (initσ args) m (retK [.tmp 4] Φ) := wpCall_def ir12_eq h
def ir14_k8 : ICode :=
 .seq (
 .region [
 imv 0 44 13,
 ibn 1 45 .geq (τ 44) (.const (.int .i64 0)),
 imv 2 46 45,
 iog 3 47 46 true (.mov (τ 1)),
 iog 4 48 46 true (.load true 2 (τ 10)),
 iog 5 49 46 true (.faddr 0 (τ 12)),
 iog 6 50 46 true (.load false 1 (τ 49)),
 iog 7 51 46 true (.call 34 [τ 48, τ 50]),
 iog 8 52 46 true (.iaddr 1 (τ 47) (τ 51)),
 iog 9 53 46 true (.load false 1 (τ 52)),
 iog 10 54 46 true (.mov (τ 13)),
 iog 11 55 46 true (.call 33 [τ 53, τ 54]),
 iog 12 56 46 true (.un .not (τ 55)),
 iop 13 57 (.pick (τ 46) (τ 56) (.const (.bool false)))]) (
 .cond (τ 57) (
 .region [
 ifa 0 58 3 8,
 ild 1 59 58,
 imv 2 60 11,
 iia 3 61 4 59 60,
 ifa 4 62 3 61,
 ino 5 (.store 1 (τ 62) (.const (.int .i64 1)))]) (
 .skip))
def ir14_k7 : ICode :=
 .seq (
 .region [
 ila 0 40 2 10,
 ifa 1 41 1 12,
 ild 2 42 41,
 icl 3 43 32 [τ 40, τ 42],
 imv 4 13 43]) ir14_k8
def ir14_k6 : ICode :=
 .seq (
 .block 1 (
 .seq (
 .region [
 imv 0 37 35,
 iia 1 38 4 33 35,
 ila 2 39 4 38,
 iop 3 12 (.alloc [.int .i64 0, .int .i64 0, .int .i64 0, .int .i64 0]),
 imv 4 11 37,
 ist 5 4 12 39]) ir14_k7)) (
 .region [
 ibn 0 63 .add (τ 35) (.const (.int .i64 1)),
 imv 1 35 63])
def ir14_k5 : ICode :=
 .seq (
 .cond (τ 36) (
 .skip) (
 .exit 0)) ir14_k6
def ir14_l0 : ICode :=
 .seq (
 .region [
 ibn 0 36 .lss (τ 35) (τ 34)]) ir14_k5
def ir14_k9 : ICode :=
 .seq (
 .region [
 ila 0 64 4 8,
 imv 1 65 9,
 ist 2 4 6 64,
 imv 3 7 65]) (
 .ret)
def ir14_k4 : ICode :=
 .seq (
 .seq (
 .region [
 ifa 0 32 3 8,
 ild 1 33 32,
 iln 2 34 33,
 imi 3 35 0]) (
 .block 0 (
 .loop ir14_l0))) ir14_k9
def ir14_k3 : ICode :=
 .seq (
 .region [
 ifa 0 25 6 3,
 ild 1 26 25,
 iln 2 27 26,
 ifa 3 28 3 3,
 ild 4 29 28,
 iln 5 30 29,
 iop 6 31 (.build [.int .i64 0, .int .i64 0] [(0, 1, τ 27), (1, 1, τ 30)]),
 iop 7 10 (.alloc [.int .i64 0, .int .i64 0]),
 ist 8 2 10 31]) ir14_k4
def ir14_k2 : ICode :=
 .seq (
 .region [
 ila 0 20 7 3,
 imv 1 21 2,
 icl 2 22 31 [τ 20, τ 21],
 imv 3 19 22,
 iex 4 23 0 19,
 iex 5 24 1 19,
 iop 6 8 (.alloc [.int .i64 0, .int .i64 0, .int .i64 0, .slice none 0 0]),
 ist 7 4 8 23,
 imv 8 9 24]) ir14_k3
def ir14_k1 : ICode :=
 .seq (
 .seq (
 .region [
 ila 0 14 7 3,
 imv 1 15 1,
 icl 2 16 30 [τ 14, τ 15],
 iop 3 17 (.un .not (τ 16))]) (
 .cond (τ 17) (
 .seq (
 .region [
 iop 0 18 (.build [.int .i64 0, .int .i64 0, .int .i64 0, .slice none 0 0] []),
 ist 1 4 6 18,
 imi 2 7 1]) (
 .ret)) (
 .skip))) ir14_k2
def ir14_b : ICode :=
 .seq (
 .region [
 iop 0 3 (.box (τ 0)),
 iop 1 6 (.alloc [.int .i64 0, .int .i64 0, .int .i64 0, .slice none 0 0]),
 imi 2 7 0]) ir14_k1
def ir14 : IFunc := ⟨66, [.cell 6 true 4, .tmp 7], ir14_b⟩
theorem ir14_eq : cFunc Tryz.prog 14 = some ir14 := by kernel_rfl
theorem call14 {args : List Value} {m : Mem} {Φ : Value → Mem → Prop} (h : args.length ≤ 66) : WPCall Tryz.prog 14 args m Φ = WP Tryz.prog ir14_b (initσ args) m (retK [.cell 6 true 4, .tmp 7] Φ) := wpCall_def ir14_eq h
def ir18_k11 : ICode :=
 .seq (
 .region [
 imv 0 67 17,
 ibn 1 68 .geq (τ 67) (.const (.int .i64 0)),
 imv 2 69 68,
 iog 3 70 69 true (.mov (τ 10)),
 iog 4 71 69 true (.mov (τ 15)),
 iog 5 72 69 true (.iaddr 1 (τ 70) (τ 71)),
 iog 6 73 69 true (.load false 1 (τ 72)),
 iog 7 74 69 true (.bin .gtr .other (τ 73) (.const (.int .i64 0))),
 iop 8 75 (.pick (τ 69) (τ 74) (.const (.bool false)))]) (
 .cond (τ 75) (
 .region [
 imv 0 76 14,
 ila 1 77 2 13,
 ifa 2 78 0 16,
 ild 3 79 78,
 imv 5 81 14,
 ila 6 82 2 13,
 ifa 7 83 0 16,
 ild 8 84 83,
 imv 12 88 17,
 ioc 4 80 (.call 34 [τ 77, τ 79]) [(τ 83, τ 83), (τ 13, τ 13)],
 icl 9 85 34 [τ 82, τ 84],
 iia 10 86 1 81 85,
 ild 11 87 86,
 iop 13 89 (.bslice 1 1 [.int .i64 0] [(0, 1, τ 88)]),
 iop 14 90 (.app 1 8 (τ 87) (τ 89)),
 iia 15 91 1 76 80,
 ist 16 1 91 90]) (
 .skip))
def ir18_k10 : ICode :=
 .seq (
 .region [
 ila 0 63 2 13,
 ifa 1 64 1 16,
 ild 2 65 64,
 icl 3 66 32 [τ 63, τ 65],
 imv 4 17 66]) ir18_k11
def ir18_k9 : ICode :=
 .seq (
 .block 1 (
 .seq (
 .region [
 imv 0 60 58,
 iia 1 61 4 56 58,
 ila 2 62 4 61,
 iop 3 16 (.alloc [.int .i64 0, .int .i64 0, .int .i64 0, .int .i64 0]),
 imv 4 15 60,
 ist 5 4 16 62]) ir18_k10)) (
 .region [
 ibn 0 92 .add (τ 58) (.const (.int .i64 1)),
 imv 1 58 92])
def ir18_k8 : ICode :=
 .seq (
 .cond (τ 59) (
 .skip) (
 .exit 0)) ir18_k9
def ir18_l0 : ICode :=
 .seq (
 .region [
 ibn 0 59 .lss (τ 58) (τ 57)]) ir18_k8
def ir18_k15 : ICode :=
 .seq (
 .block 3 (
 .seq (
 .region [
 imv 0 99 97,
 iia 1 100 1 95 97,
 ild 2 101 100,
 imv 3 19 99,
 imv 4 20 101]) (
 .region [
 ifa 0 102 0 18,
 ild 1 103 102,
 imv 2 104 20,
 imv 3 105 14,
 imv 4 106 19,
 iia 5 107 1 105 106,
 ild 6 108 107,
 ioc 7 109 (.call 43 [τ 104, τ 108]) [(τ 102, τ 102)],
 iop 8 110 (.bslice 1 1 [.slice none 0 0] [(0, 1, τ 109)]),
 iop 9 111 (.app 1 24 (τ 103) (τ 110)),
 ifa 10 112 0 18,
 ist 11 1 112 111]))) (
 .region [
 ibn 0 113 .add (τ 97) (.const (.int .i64 1)),
 imv 1 97 113])
def ir18_k14 : ICode :=
 .seq (
 .cond (τ 98) (
 .skip) (
 .exit 2)) ir18_k15
def ir18_l1 : ICode :=
 .seq (
 .region [
 ibn 0 98 .lss (τ 97) (τ 96)]) ir18_k14
def ir18_k17 : ICode :=
 .seq (
 .region [
 ila 0 119 3 18,
 ist 1 3 6 119,
 imi 2 7 0]) (
 .ret)
def ir18_k16 : ICode :=
 .seq (
 .region [
 imv 0 114 1,
 ifa 1 115 0 18,
 ild 2 116 115,
 icl 3 117 11 [τ 114, τ 116],
 ifa 4 118 1 18,
 ist 5 1 118 117]) ir18_k17
def ir18_k13 : ICode :=
 .seq (
 .seq (
 .region [
 imv 0 95 1,
 iln 1 96 95,
 imi 2 97 0]) (
 .block 2 (
 .loop ir18_l1))) ir18_k16
def ir18_k12 : ICode :=
 .seq (
 .region [
 imv 0 93 12,
 iop 1 94 (.build [.slice none 0 0, .int .i64 0, .slice none 0 0] [(2, 1, τ 93)]),
 iop 2 18 (.alloc [.slice none 0 0, .int .i64 0, .slice none 0 0]),
 ist 3 3 18 94]) ir18_k13
def ir18_k7 : ICode :=
 .seq (
 .seq (
 .region [
 ifa 0 55 3 8,
 ild 1 56 55,
 iln 2 57 56,
 imi 3 58 0]) (
 .block 0 (
 .loop ir18_l0))) ir18_k12
def ir18_k6 : ICode :=
 .seq (
 .region [
 imv 0 52 1,
 iln 1 53 52,
 iop 2 54 (.mkslice 1 24 [.slice none 0 0] (τ 53) (τ 53)),
 imv 3 14 54]) ir18_k7
def ir18_k5 : ICode :=
 .seq (
 .region [
 ifa 0 45 6 3,
 ild 1 46 45,
 iln 2 47 46,
 ifa 3 48 3 3,
 ild 4 49 48,
 iln 5 50 49,
 iop 6 51 (.build [.int .i64 0, .int .i64 0] [(0, 1, τ 47), (1, 1, τ 50)]),
 iop 7 13 (.alloc [.int .i64 0, .int .i64 0]),
 ist 8 2 13 51]) ir18_k6
def ir18_k4 : ICode :=
 .seq (
 .seq (
 .region [
 imv 0 41 9,
 ibn 1 42 .neq (τ 41) (.const (.int .i64 0))]) (
 .cond (τ 42) (
 .seq (
 .region [
 iop 0 43 (.build [.slice none 0 0, .int .i64 0, .slice none 0 0] []),
 imv 1 44 9,
 ist 2 3 6 43,
 imv 3 7 44]) (
 .ret)) (
 .skip))) ir18_k5
def ir18_k3 : ICode :=
 .seq (
 .region [
 ila 0 33 4 8,
 imv 1 34 1,
 ioc 2 35 (.call 42 [τ 34]) [(τ 8, τ 8)],
 icl 3 36 41 [τ 33, τ 35],
 imv 4 32 36,
 iex 5 37 0 32,
 iex 6 38 1 32,
 iex 7 39 2 32,
 iex 8 40 3 32,
 imv 9 10 37,
 imv 10 11 38,
 imv 11 12 39,
 imv 12 9 40]) ir18_k4
def ir18_k2 : ICode :=
 .seq (
 .seq (
 .region [
 imv 0 28 9,
 ibn 1 29 .neq (τ 28) (.const (.int .i64 0))]) (
 .cond (τ 29) (
 .seq (
 .region [
 iop 0 30 (.build [.slice none 0 0, .int .i64 0, .slice none 0 0] []),
 imv 1 31 9,
 ist 2 3 6 30,
 imv 3 7 31]) (
 .ret)) (
 .skip))) ir18_k3
def ir18_k1 : ICode :=
 .seq (
 .region [
 ila 0 22 7 3,
 imv 1 23 1,
 imv 2 24 2,
 icl 3 25 14 [τ 22, τ 23, τ 24],
 imv 4 21 25,
 iex 5 26 0 21,
 iex 6 27 1 21,
 iop 7 8 (.alloc [.int .i64 0, .int .i64 0, .int .i64 0, .slice none 0 0]),
 ist 8 4 8 26,
 imv 9 9 27]) ir18_k2
def ir18_b : ICode :=
 .seq (
 .region [
 iop 0 3 (.box (τ 0)),
 iop 1 6 (.alloc [.slice none 0 0, .int .i64 0, .slice none 0 0]),
 imi 2 7 0]) ir18_k1
def ir18 : IFunc := ⟨120, [.cell 6 true 3, .tmp 7], ir18_b⟩
theorem ir18_eq : cFunc Tryz.prog 18 = some ir18 := by kernel_rfl
theorem call18 {args : List Value} {m : Mem} {Φ : Value → Mem → Prop} (h : args.length ≤ 120) : WPCall Tryz.prog 18 args m Φ = WP Tryz.prog ir18_b (initσ args) m (retK [.cell 6 true 3, .tmp 7] Φ) := wpCall_def ir18_eq h
def ir32_k1 : ICode :=
 .seq (
 .region [
 imv 0 5 1,
 ibn 1 6 .sub (τ 5) (.const (.int .i64 2)),
 ifa 2 7 0 2,
 ild 3 8 7,
 ifa 4 9 1 2,
 ild 5 10 9,
 ibn 6 11 .mul (τ 8) (τ 10),
 ibn 7 12 .sub (τ 6) (τ 11),
 iop 8 13 (.minmax true (τ 12) [.const (.int .i64 (-1))]),
 imv 9 4 13]) (
 .ret)
def ir32_b : ICode :=
 .seq (
 .region [
 iop 0 2 (.box (τ 0)),
 imi 1 4 0]) ir32_k1
def ir32 : IFunc := ⟨14, [.tmp 4], ir32_b⟩
theorem ir32_eq : cFunc Tryz.prog 32 = some ir32 := by kernel_rfl
theorem call32 {args : List Value} {m : Mem} {Φ : Value → Mem → Prop} (h : args.length ≤ 14) : WPCall Tryz.prog 32 args m Φ = WP Tryz.prog ir32_b (initσ args) m (retK [.tmp 4] Φ) := wpCall_def ir32_eq h
def ir33_k4 : ICode :=
 .seq (
 .region [
 imv 0 13 6,
 imv 1 14 1,
 ibn 2 15 .eql (τ 13) (τ 14)]) (
 .cond (τ 15) (
 .seq (
 .region [
 imb 0 4 true]) (
 .ret)) (
 .skip))
def ir33_k3 : ICode :=
 .seq (
 .block 1 (
 .seq (
 .region [
 iia 0 11 1 7 9,
 ild 1 12 11,
 imv 2 6 12]) ir33_k4)) (
 .region [
 ibn 0 16 .add (τ 9) (.const (.int .i64 1)),
 imv 1 9 16])
def ir33_k2 : ICode :=
 .seq (
 .cond (τ 10) (
 .skip) (
 .exit 0)) ir33_k3
def ir33_l0 : ICode :=
 .seq (
 .region [
 ibn 0 10 .lss (τ 9) (τ 8)]) ir33_k2
def ir33_k5 : ICode :=
 .seq (
 .region [
 imb 0 4 false]) (
 .ret)
def ir33_k1 : ICode :=
 .seq (
 .seq (
 .region [
 imv 0 7 0,
 iln 1 8 7,
 imi 2 9 0]) (
 .block 0 (
 .loop ir33_l0))) ir33_k5
def ir33_b : ICode :=
 .seq (
 .region [
 imb 0 4 false]) ir33_k1
def ir33 : IFunc := ⟨17, [.tmp 4], ir33_b⟩
theorem ir33_eq : cFunc Tryz.prog 33 = some ir33 := by kernel_rfl
theorem call33 {args : List Value} {m : Mem} {Φ : Value → Mem → Prop} (h : args.length ≤ 17) : WPCall Tryz.prog 33 args m Φ = WP Tryz.prog ir33_b (initσ args) m (retK [.tmp 4] Φ) := wpCall_def ir33_eq h
def ir34_k2 : ICode :=
 .seq (
 .region [
 imv 0 12 1,
 ibn 1 13 .sub (τ 12) (.const (.int .i64 2)),
 ifa 2 14 0 2,
 ild 3 15 14,
 ibn 4 16 .sub (τ 13) (τ 15),
 ifa 5 17 1 2,
 ild 6 18 17,
 ibn 7 19 .sub (τ 18) (.const (.int .i64 1)),
 ibn 8 20 .quo (τ 16) (τ 19),
 imv 9 4 20]) (
 .ret)
def ir34_k1 : ICode :=
 .seq (
 .seq (
 .region [
 imv 0 5 1,
 ifa 1 6 0 2,
 ild 2 7 6,
 ibn 3 8 .add (.const (.int .i64 2)) (τ 7),
 ibn 4 9 .lss (τ 5) (τ 8)]) (
 .cond (τ 9) (
 .seq (
 .region [
 imv 0 10 1,
 ibn 1 11 .sub (τ 10) (.const (.int .i64 2)),
 imv 2 4 11]) (
 .ret)) (
 .skip))) ir34_k2
def ir34_b : ICode :=
 .seq (
 .region [
 iop 0 2 (.box (τ 0)),
 imi 1 4 0]) ir34_k1
def ir34 : IFunc := ⟨21, [.tmp 4], ir34_b⟩
theorem ir34_eq : cFunc Tryz.prog 34 = some ir34 := by kernel_rfl
theorem call34 {args : List Value} {m : Mem} {Φ : Value → Mem → Prop} (h : args.length ≤ 21) : WPCall Tryz.prog 34 args m Φ = WP Tryz.prog ir34_b (initσ args) m (retK [.tmp 4] Φ) := wpCall_def ir34_eq h
def ir42_k4 : ICode :=
 .seq (
 .block 1 (
 .seq (
 .region [
 iia 0 10 1 6 8,
 ild 1 11 10,
 imv 2 5 11]) (
 .region [
 imv 0 12 3,
 imv 1 13 5,
 iln 2 14 13,
 ibn 3 15 .add (τ 12) (τ 14),
 imv 4 3 15]))) (
 .region [
 ibn 0 16 .add (τ 8) (.const (.int .i64 1)),
 imv 1 8 16])
def ir42_k3 : ICode :=
 .seq (
 .cond (τ 9) (
 .skip) (
 .exit 0)) ir42_k4
def ir42_l0 : ICode :=
 .seq (
 .region [
 ibn 0 9 .lss (τ 8) (τ 7)]) ir42_k3
def ir42_k5 : ICode :=
 .seq (
 .region [
 imv 0 17 3,
 imv 1 2 17]) (
 .ret)
def ir42_k2 : ICode :=
 .seq (
 .seq (
 .region [
 imv 0 6 0,
 iln 1 7 6,
 imi 2 8 0]) (
 .block 0 (
 .loop ir42_l0))) ir42_k5
def ir42_k1 : ICode :=
 .seq (
 .region [
 imi 0 3 0]) ir42_k2
def ir42_b : ICode :=
 .seq (
 .region [
 imi 0 2 0]) ir42_k1
def ir42 : IFunc := ⟨18, [.tmp 2], ir42_b⟩
theorem ir42_eq : cFunc Tryz.prog 42 = some ir42 := by kernel_rfl
theorem call42 {args : List Value} {m : Mem} {Φ : Value → Mem → Prop} (h : args.length ≤ 18) : WPCall Tryz.prog 42 args m Φ = WP Tryz.prog ir42_b (initσ args) m (retK [.tmp 2] Φ) := wpCall_def ir42_eq h
def ir43_k7 : ICode :=
 .seq (
 .region [
 imv 0 26 8,
 ibn 1 27 .geq (τ 26) (.const (.int .i64 0)),
 imv 2 28 27,
 iog 3 29 28 true (.mov (τ 1)),
 iog 4 30 28 true (.mov (τ 8)),
 iog 5 31 28 true (.call 33 [τ 29, τ 30]),
 iop 6 32 (.pick (τ 28) (τ 31) (.const (.bool false))),
 imv 7 33 32,
 iog 8 34 33 true (.mov (τ 6)),
 iog 9 35 33 true (.mov (τ 8)),
 iog 10 36 33 true (.mlook (.int .i64) (.bool false) false (τ 34) (τ 35)),
 iog 11 37 33 true (.un .not (τ 36)),
 iop 12 38 (.pick (τ 33) (τ 37) (.const (.bool false)))]) (
 .cond (τ 38) (
 .region [
 imv 0 39 5,
 imv 1 40 7,
 imv 2 41 6,
 imv 3 42 8,
 imv 4 43 8,
 iia 5 44 1 39 40,
 ist 6 1 44 43,
 ino 7 (.mput (.int .i64) (τ 41) (τ 42) (.const (.bool true)))]) (
 .skip))
def ir43_k6 : ICode :=
 .seq (
 .region [
 imv 0 23 5,
 imv 1 24 7,
 iia 2 25 1 23 24,
 ino 3 (.store 1 (τ 25) (.const (.int .i64 (-1))))]) ir43_k7
def ir43_k5 : ICode :=
 .seq (
 .block 1 (
 .seq (
 .region [
 imv 0 20 18,
 iia 1 21 1 16 18,
 ild 2 22 21,
 imv 3 7 20,
 imv 4 8 22]) ir43_k6)) (
 .region [
 ibn 0 45 .add (τ 18) (.const (.int .i64 1)),
 imv 1 18 45])
def ir43_k4 : ICode :=
 .seq (
 .cond (τ 19) (
 .skip) (
 .exit 0)) ir43_k5
def ir43_l0 : ICode :=
 .seq (
 .region [
 ibn 0 19 .lss (τ 18) (τ 17)]) ir43_k4
def ir43_k14 : ICode :=
 .seq (
 .region [
 imv 0 57 5,
 imv 1 58 9,
 iia 2 59 1 57 58,
 ild 3 60 59,
 ibn 4 61 .lss (τ 60) (.const (.int .i64 0)),
 imv 5 62 61,
 iog 6 63 62 true (.mov (τ 6)),
 iog 7 64 62 true (.mov (τ 11)),
 iog 8 65 62 true (.mlook (.int .i64) (.bool false) false (τ 63) (τ 64)),
 iog 9 66 62 true (.un .not (τ 65)),
 iop 10 67 (.pick (τ 62) (τ 66) (.const (.bool false)))]) (
 .cond (τ 67) (
 .region [
 imv 0 68 5,
 imv 1 69 9,
 imv 2 70 6,
 imv 3 71 11,
 imv 4 72 11,
 iia 5 73 1 68 69,
 ist 6 1 73 72,
 ino 7 (.mput (.int .i64) (τ 70) (τ 71) (.const (.bool true)))]) (
 .skip))
def ir43_k13 : ICode :=
 .seq (
 .block 5 (
 .seq (
 .region [
 iia 0 55 1 51 53,
 ild 1 56 55,
 imv 2 11 56]) ir43_k14)) (
 .region [
 ibn 0 74 .add (τ 53) (.const (.int .i64 1)),
 imv 1 53 74])
def ir43_k12 : ICode :=
 .seq (
 .cond (τ 54) (
 .skip) (
 .exit 4)) ir43_k13
def ir43_l1 : ICode :=
 .seq (
 .region [
 ibn 0 54 .lss (τ 53) (τ 52)]) ir43_k12
def ir43_k11 : ICode :=
 .seq (
 .region [
 imv 0 51 1,
 iln 1 52 51,
 imi 2 53 0]) (
 .block 4 (
 .loop ir43_l1))
def ir43_k10 : ICode :=
 .seq (
 .block 3 (
 .seq (
 .region [
 imv 0 50 48,
 imv 1 9 50]) ir43_k11)) (
 .region [
 ibn 0 75 .add (τ 48) (.const (.int .i64 1)),
 imv 1 48 75])
def ir43_k9 : ICode :=
 .seq (
 .cond (τ 49) (
 .skip) (
 .exit 2)) ir43_k10
def ir43_l2 : ICode :=
 .seq (
 .region [
 ibn 0 49 .lss (τ 48) (τ 47)]) ir43_k9
def ir43_k15 : ICode :=
 .seq (
 .region [
 imv 0 76 5,
 imv 1 4 76]) (
 .ret)
def ir43_k8 : ICode :=
 .seq (
 .seq (
 .region [
 imv 0 46 5,
 iln 1 47 46,
 imi 2 48 0]) (
 .block 2 (
 .loop ir43_l2))) ir43_k15
def ir43_k3 : ICode :=
 .seq (
 .seq (
 .region [
 imv 0 16 0,
 iln 1 17 16,
 imi 2 18 0]) (
 .block 0 (
 .loop ir43_l0))) ir43_k8
def ir43_k2 : ICode :=
 .seq (
 .region [
 iop 0 15 (.mkmap),
 imv 1 6 15]) ir43_k3
def ir43_k1 : ICode :=
 .seq (
 .region [
 imv 0 12 0,
 iln 1 13 12,
 iop 2 14 (.mkslice 1 8 [.int .i64 0] (τ 13) (τ 13)),
 imv 3 5 14]) ir43_k2
def ir43_b : ICode :=
 .seq (
 .region [
 iop 0 4 (.mov (.const (.slice none 0 0)))]) ir43_k1
def ir43 : IFunc := ⟨77, [.tmp 4], ir43_b⟩
theorem ir43_eq : cFunc Tryz.prog 43 = some ir43 := by kernel_rfl
theorem call43 {args : List Value} {m : Mem} {Φ : Value → Mem → Prop} (h : args.length ≤ 77) : WPCall Tryz.prog 43 args m Φ = WP Tryz.prog ir43_b (initσ args) m (retK [.tmp 4] Φ) := wpCall_def ir43_eq h
end Go.Proofs.YticjcminhkgabaaGreatDoor
