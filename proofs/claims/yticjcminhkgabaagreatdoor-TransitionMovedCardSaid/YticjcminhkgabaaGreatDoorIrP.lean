/-
 The intermediate forms of this seat's functions, written by a program of ours (wip/Ir.lean); each is checked against the loaded program.
-/
import Derived.Test.YticjcminhkgabaaGreatDoorRows
import Derived.Test.YticjcminhkgabaaGreatDoorFwX
namespace Go.Proofs.YticjcminhkgabaaGreatDoor
open Go Go.DI

def ir17_k7 : ICode :=
 .seq (
 .region [
 imv 0 33 1,
 iln 1 34 33,
 imv 2 35 5,
 iln 3 36 35,
 ibn 4 37 .eql (τ 34) (τ 36)]) (
 .cond (τ 37) (
 .region [
 imv 0 38 5,
 imv 1 39 6,
 imv 2 40 1,
 imv 3 41 6,
 iia 4 42 1 40 41,
 ild 5 43 42,
 iop 6 44 (.minmax true (τ 43) [.const (.int .i64 0)]),
 imv 7 45 5,
 imv 8 46 6,
 iia 9 47 1 45 46,
 ild 10 48 47,
 iop 11 49 (.minmax false (τ 44) [τ 48]),
 iia 12 50 1 38 39,
 ist 13 1 50 49]) (
 .skip))
def ir17_k6 : ICode :=
 .seq (
 .region [
 imv 0 19 5,
 imv 1 20 6,
 ifa 2 21 2 2,
 ild 3 22 21,
 ifa 4 23 4 2,
 ild 5 24 23,
 imv 6 25 6,
 iia 7 26 3 24 25,
 ifa 8 27 1 26,
 ild 9 28 27,
 iia 10 29 4 22 28,
 ifa 11 30 1 29,
 ild 12 31 30,
 iia 13 32 1 19 20,
 ist 14 1 32 31]) ir17_k7
def ir17_k5 : ICode :=
 .seq (
 .block 1 (
 .seq (
 .region [
 imv 0 18 16,
 imv 1 6 18]) ir17_k6)) (
 .region [
 ibn 0 51 .add (τ 16) (.const (.int .i64 1)),
 imv 1 16 51])
def ir17_k4 : ICode :=
 .seq (
 .cond (τ 17) (
 .skip) (
 .exit 0)) ir17_k5
def ir17_l0 : ICode :=
 .seq (
 .region [
 ibn 0 17 .lss (τ 16) (τ 15)]) ir17_k4
def ir17_k8 : ICode :=
 .seq (
 .region [
 imv 0 52 5,
 imv 1 4 52]) (
 .ret)
def ir17_k3 : ICode :=
 .seq (
 .seq (
 .region [
 imv 0 14 5,
 iln 1 15 14,
 imi 2 16 0]) (
 .block 0 (
 .loop ir17_l0))) ir17_k8
def ir17_k2 : ICode :=
 .seq (
 .region [
 ifa 0 10 4 2,
 ild 1 11 10,
 iln 2 12 11,
 iop 3 13 (.mkslice 1 8 [.int .i64 0] (τ 12) (τ 12)),
 imv 4 5 13]) ir17_k3
def ir17_k1 : ICode :=
 .seq (
 .seq (
 .region [
 ila 0 7 7 2,
 icl 1 8 40 [τ 7],
 iop 2 9 (.un .not (τ 8))]) (
 .cond (τ 9) (
 .seq (
 .region [
 iop 0 4 (.mov (.const (.slice none 0 0)))]) (
 .ret)) (
 .skip))) ir17_k2
def ir17_b : ICode :=
 .seq (
 .region [
 iop 0 2 (.box (τ 0)),
 iop 1 4 (.mov (.const (.slice none 0 0)))]) ir17_k1
def ir17 : IFunc := ⟨53, [.tmp 4], ir17_b⟩
theorem ir17_eq : cFunc Tryz.prog 17 = some ir17 := by kernel_rfl
theorem call17 {args : List Value} {m : Mem} {Φ : Value → Mem → Prop} (h : args.length ≤ 53) : WPCall Tryz.prog 17 args m Φ = WP Tryz.prog ir17_b (initσ args) m (retK [.tmp 4] Φ) := wpCall_def ir17_eq h
def ir30_k6 : ICode :=
 .seq (
 .region [
 imv 0 31 7]) (
 .cond (τ 31) (
 .seq (
 .region [
 imb 0 4 false]) (
 .ret)) (
 .skip))
def ir30_k5 : ICode :=
 .seq (
 .region [
 ila 0 25 7 2,
 imv 1 26 1,
 imv 2 27 5,
 icl 3 28 68 [τ 25, τ 26, τ 27],
 imv 4 24 28,
 iex 5 29 0 24,
 iex 6 30 1 24,
 iop 7 6 (.alloc [.int .i64 0, .int .i64 0, .int .i64 0]),
 ist 8 3 6 29,
 imv 9 7 30]) ir30_k6
def ir30_k4 : ICode :=
 .seq (
 .block 1 (
 .seq (
 .region [
 imv 0 23 21,
 imv 1 5 23]) ir30_k5)) (
 .region [
 ibn 0 32 .add (τ 21) (.const (.int .i64 1)),
 imv 1 21 32])
def ir30_k3 : ICode :=
 .seq (
 .cond (τ 22) (
 .skip) (
 .exit 0)) ir30_k4
def ir30_l0 : ICode :=
 .seq (
 .region [
 ibn 0 22 .lss (τ 21) (τ 20)]) ir30_k3
def ir30_k7 : ICode :=
 .seq (
 .region [
 imb 0 4 true]) (
 .ret)
def ir30_k2 : ICode :=
 .seq (
 .seq (
 .region [
 imv 0 19 1,
 iln 1 20 19,
 imi 2 21 0]) (
 .block 0 (
 .loop ir30_l0))) ir30_k7
def ir30_k1 : ICode :=
 .seq (
 .seq (
 .region [
 ila 0 8 7 2,
 icl 1 9 40 [τ 8],
 iop 2 10 (.un .not (τ 9)),
 imv 3 11 10,
 iog 4 12 11 false (.mov (τ 1)),
 iog 5 13 11 false (.lenV (τ 12)),
 iog 6 14 11 false (.faddr 6 (τ 2)),
 iog 7 15 11 false (.load false 1 (τ 14)),
 iog 8 16 11 false (.lenV (τ 15)),
 iog 9 17 11 false (.bin .neq .other (τ 13) (τ 16)),
 iop 10 18 (.pick (τ 11) (.const (.bool true)) (τ 17))]) (
 .cond (τ 18) (
 .seq (
 .region [
 imb 0 4 false]) (
 .ret)) (
 .skip))) ir30_k2
def ir30_b : ICode :=
 .seq (
 .region [
 iop 0 2 (.box (τ 0)),
 imb 1 4 false]) ir30_k1
def ir30 : IFunc := ⟨33, [.tmp 4], ir30_b⟩
theorem ir30_eq : cFunc Tryz.prog 30 = some ir30 := by kernel_rfl
theorem call30 {args : List Value} {m : Mem} {Φ : Value → Mem → Prop} (h : args.length ≤ 33) : WPCall Tryz.prog 30 args m Φ = WP Tryz.prog ir30_b (initσ args) m (retK [.tmp 4] Φ) := wpCall_def ir30_eq h
def ir40_k1 : ICode :=
 .seq (
 .region [
 ila 0 3 7 1,
 icl 1 4 69 [τ 3],
 ibn 2 5 .eql (τ 4) (.const (.int .i64 0)),
 imv 3 2 5]) (
 .ret)
def ir40_b : ICode :=
 .seq (
 .region [
 iop 0 1 (.box (τ 0)),
 imb 1 2 false]) ir40_k1
def ir40 : IFunc := ⟨6, [.tmp 2], ir40_b⟩
theorem ir40_eq : cFunc Tryz.prog 40 = some ir40 := by kernel_rfl
theorem call40 {args : List Value} {m : Mem} {Φ : Value → Mem → Prop} (h : args.length ≤ 6) : WPCall Tryz.prog 40 args m Φ = WP Tryz.prog ir40_b (initσ args) m (retK [.tmp 2] Φ) := wpCall_def ir40_eq h
def ir68_k5 : ICode :=
 .seq (
 .region [
 imv 0 36 9,
 ibn 1 37 .lss (τ 36) (.const (.int .i64 (-1))),
 imv 2 38 37,
 iog 3 39 38 false (.mov (τ 9)),
 iog 4 40 38 false (.faddr 4 (τ 3)),
 iog 5 41 38 false (.load false 1 (τ 40)),
 iog 6 42 38 false (.lenV (τ 41)),
 iog 7 43 38 false (.bin .geq .other (τ 39) (τ 42)),
 iop 8 44 (.pick (τ 38) (.const (.bool true)) (τ 43))]) (
 .cond (τ 44) (
 .seq (
 .region [
 imv 0 45 2,
 imv 1 46 8,
 iop 2 47 (.build [.int .i64 0, .int .i64 0, .int .i64 0] [(0, 1, .const (.int .i64 1)), (1, 1, τ 45), (2, 1, τ 46)]),
 ist 3 3 6 47,
 imb 4 7 true]) (
 .ret)) (
 .skip))
def ir68_k4 : ICode :=
 .seq (
 .block 1 (
 .seq (
 .region [
 imv 0 33 31,
 iia 1 34 1 29 31,
 ild 2 35 34,
 imv 3 8 33,
 imv 4 9 35]) ir68_k5)) (
 .region [
 ibn 0 48 .add (τ 31) (.const (.int .i64 1)),
 imv 1 31 48])
def ir68_k3 : ICode :=
 .seq (
 .cond (τ 32) (
 .skip) (
 .exit 0)) ir68_k4
def ir68_l0 : ICode :=
 .seq (
 .region [
 ibn 0 32 .lss (τ 31) (τ 30)]) ir68_k3
def ir68_k6 : ICode :=
 .seq (
 .region [
 iop 0 49 (.build [.int .i64 0, .int .i64 0, .int .i64 0] []),
 ist 1 3 6 49,
 imb 2 7 false]) (
 .ret)
def ir68_k2 : ICode :=
 .seq (
 .seq (
 .region [
 imv 0 26 1,
 imv 1 27 2,
 iia 2 28 1 26 27,
 ild 3 29 28,
 iln 4 30 29,
 imi 5 31 0]) (
 .block 0 (
 .loop ir68_l0))) ir68_k6
def ir68_k1 : ICode :=
 .seq (
 .seq (
 .region [
 imv 0 10 1,
 imv 1 11 2,
 iia 2 12 1 10 11,
 ild 3 13 12,
 iln 4 14 13,
 ila 5 15 7 3,
 imv 6 16 2,
 ioc 7 17 (.call 109 [τ 15, τ 16]) [(τ 12, τ 12)],
 ibn 8 18 .neq (τ 14) (τ 17)]) (
 .cond (τ 18) (
 .seq (
 .region [
 imv 0 19 2,
 imv 1 20 1,
 imv 2 21 2,
 iia 3 22 1 20 21,
 ild 4 23 22,
 iln 5 24 23,
 iop 6 25 (.build [.int .i64 0, .int .i64 0, .int .i64 0] [(0, 1, .const (.int .i64 1)), (1, 1, τ 19), (2, 1, τ 24)]),
 ist 7 3 6 25,
 imb 8 7 true]) (
 .ret)) (
 .skip))) ir68_k2
def ir68_b : ICode :=
 .seq (
 .region [
 iop 0 3 (.box (τ 0)),
 iop 1 6 (.alloc [.int .i64 0, .int .i64 0, .int .i64 0]),
 imb 2 7 false]) ir68_k1
def ir68 : IFunc := ⟨50, [.cell 6 true 3, .tmp 7], ir68_b⟩
theorem ir68_eq : cFunc Tryz.prog 68 = some ir68 := by kernel_rfl
theorem call68 {args : List Value} {m : Mem} {Φ : Value → Mem → Prop} (h : args.length ≤ 50) : WPCall Tryz.prog 68 args m Φ = WP Tryz.prog ir68_b (initσ args) m (retK [.cell 6 true 3, .tmp 7] Φ) := wpCall_def ir68_eq h
def ir109_k2 : ICode :=
 .seq (
 .region [
 ifa 0 16 1 5,
 ild 1 17 16,
 ifa 2 18 2 5,
 ild 3 19 18,
 ibn 4 20 .add (τ 17) (τ 19),
 imv 5 4 20]) (
 .ret)
def ir109_k1 : ICode :=
 .seq (
 .region [
 ifa 0 6 5 2,
 ild 1 7 6,
 ifa 2 8 6 2,
 ild 3 9 8,
 imv 4 10 1,
 iia 5 11 2 9 10,
 ifa 6 12 1 11,
 ild 7 13 12,
 iia 8 14 17 7 13,
 ila 9 15 17 14,
 iop 10 5 (.alloc [.string ⟨#[]⟩, .int .i64 0, .int .i64 0, .int .i64 0, .int .i64 0, .int .i64 0, .int .i64 0, .int .i64 0, .int .i64 0, .slice none 0 0, .slice none 0 0, .bool false, .slice none 0 0, .slice none 0 0, .bool false, .slice none 0 0, .slice none 0 0]),
 ist 11 17 5 15]) ir109_k2
def ir109_b : ICode :=
 .seq (
 .region [
 iop 0 2 (.box (τ 0)),
 imi 1 4 0]) ir109_k1
def ir109 : IFunc := ⟨21, [.tmp 4], ir109_b⟩
theorem ir109_eq : cFunc Tryz.prog 109 = some ir109 := by kernel_rfl
theorem call109 {args : List Value} {m : Mem} {Φ : Value → Mem → Prop} (h : args.length ≤ 21) : WPCall Tryz.prog 109 args m Φ = WP Tryz.prog ir109_b (initσ args) m (retK [.tmp 4] Φ) := wpCall_def ir109_eq h
end Go.Proofs.YticjcminhkgabaaGreatDoor
