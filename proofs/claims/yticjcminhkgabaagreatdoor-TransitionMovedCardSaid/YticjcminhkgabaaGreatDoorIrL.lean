/-
 The intermediate forms of this seat's functions, written by a program of ours (wip/Ir.lean); each is checked against the loaded program.
-/
import Derived.Test.YticjcminhkgabaaGreatDoorRows
import Derived.Test.YticjcminhkgabaaGreatDoorFwX
namespace Go.Proofs.YticjcminhkgabaaGreatDoor
open Go Go.DI

def ir149_k3 : ICode :=
 .seq (
 .block 1 (
 .seq (
 .region [
 imv 0 23 0,
 imv 1 24 3,
 iop 2 25 (.idxStr (τ 23) (τ 24)),
 icl 3 26 177 [τ 25],
 iop 4 27 (.un .not (τ 26))]) (
 .cond (τ 27) (
 .seq (
 .region [
 imb 0 2 false]) (
 .ret)) (
 .skip)))) (
 .region [
 imv 0 21 3,
 ibn 1 22 .add (τ 21) (.const (.int .i64 1)),
 imv 2 3 22])
def ir149_l0 : ICode :=
 .seq (
 .seq (
 .region [
 imv 0 17 3,
 imv 1 18 0,
 iop 2 19 (.lenS (τ 18)),
 ibn 3 20 .lss (τ 17) (τ 19)]) (
 .cond (τ 20) (
 .skip) (
 .exit 0))) ir149_k3
def ir149_k4 : ICode :=
 .seq (
 .region [
 imb 0 2 true]) (
 .ret)
def ir149_k2 : ICode :=
 .seq (
 .seq (
 .region [
 imi 0 3 0]) (
 .block 0 (
 .loop ir149_l0))) ir149_k4
def ir149_k1 : ICode :=
 .seq (
 .seq (
 .region [
 imv 0 4 0,
 ibn 1 5 .eql (τ 4) (.const (.string ⟨#[]⟩)),
 imv 2 6 5,
 iog 3 7 6 false (.mov (τ 0)),
 iog 4 8 6 false (.lenS (τ 7)),
 iog 5 9 6 false (.bin .gtr .other (τ 8) (.const (.int .i64 16))),
 iop 6 10 (.pick (τ 6) (.const (.bool true)) (τ 9)),
 imv 7 11 10,
 iog 8 12 11 false (.mov (τ 0)),
 iog 9 13 11 false (.idxStr (τ 12) (.const (.int .i64 0))),
 iog 10 14 11 false (.call 176 [τ 13]),
 iog 11 15 11 false (.un .not (τ 14)),
 iop 12 16 (.pick (τ 11) (.const (.bool true)) (τ 15))]) (
 .cond (τ 16) (
 .seq (
 .region [
 imb 0 2 false]) (
 .ret)) (
 .skip))) ir149_k2
def ir149_b : ICode :=
 .seq (
 .region [
 imb 0 2 false]) ir149_k1
def ir149 : IFunc := ⟨28, [.tmp 2], ir149_b⟩
theorem ir149_eq : cFunc Tryz.prog 149 = some ir149 := by kernel_rfl
theorem call149 {args : List Value} {m : Mem} {Φ : Value → Mem → Prop} (h : args.length ≤ 28) : WPCall Tryz.prog 149 args m Φ = WP Tryz.prog ir149_b (initσ args) m (retK [.tmp 2] Φ) := wpCall_def ir149_eq h
def ir176_k1 : ICode :=
 .seq (
 .region [
 imv 0 3 0,
 ibn 1 4 .geq (τ 3) (.const (.int .u8 97)),
 imv 2 5 4,
 iog 3 6 5 true (.mov (τ 0)),
 iog 4 7 5 true (.bin .leq .other (τ 6) (.const (.int .u8 122))),
 iop 5 8 (.pick (τ 5) (τ 7) (.const (.bool false))),
 imv 6 9 8,
 iog 7 10 9 false (.mov (τ 0)),
 iog 8 11 9 false (.bin .geq .other (τ 10) (.const (.int .u8 65))),
 iog 9 12 9 false (.mov (τ 11)),
 iog 10 13 12 true (.mov (τ 0)),
 iog 11 14 12 true (.bin .leq .other (τ 13) (.const (.int .u8 90))),
 iog 12 15 9 false (.pick (τ 12) (τ 14) (.const (.bool false))),
 iop 13 16 (.pick (τ 9) (.const (.bool true)) (τ 15)),
 imv 14 2 16]) (
 .ret)
def ir176_b : ICode :=
 .seq (
 .region [
 imb 0 2 false]) ir176_k1
def ir176 : IFunc := ⟨17, [.tmp 2], ir176_b⟩
theorem ir176_eq : cFunc Tryz.prog 176 = some ir176 := by kernel_rfl
theorem call176 {args : List Value} {m : Mem} {Φ : Value → Mem → Prop} (h : args.length ≤ 17) : WPCall Tryz.prog 176 args m Φ = WP Tryz.prog ir176_b (initσ args) m (retK [.tmp 2] Φ) := wpCall_def ir176_eq h
def ir177_k1 : ICode :=
 .seq (
 .region [
 imv 0 3 0,
 icl 1 4 176 [τ 3],
 imv 2 5 4,
 iog 3 6 5 false (.mov (τ 0)),
 iog 4 7 5 false (.call 199 [τ 6]),
 iop 5 8 (.pick (τ 5) (.const (.bool true)) (τ 7)),
 imv 6 9 8,
 iog 7 10 9 false (.mov (τ 0)),
 iog 8 11 9 false (.bin .eql .other (τ 10) (.const (.int .u8 45))),
 iop 9 12 (.pick (τ 9) (.const (.bool true)) (τ 11)),
 imv 10 13 12,
 iog 11 14 13 false (.mov (τ 0)),
 iog 12 15 13 false (.bin .eql .other (τ 14) (.const (.int .u8 46))),
 iop 13 16 (.pick (τ 13) (.const (.bool true)) (τ 15)),
 imv 14 2 16]) (
 .ret)
def ir177_b : ICode :=
 .seq (
 .region [
 imb 0 2 false]) ir177_k1
def ir177 : IFunc := ⟨17, [.tmp 2], ir177_b⟩
theorem ir177_eq : cFunc Tryz.prog 177 = some ir177 := by kernel_rfl
theorem call177 {args : List Value} {m : Mem} {Φ : Value → Mem → Prop} (h : args.length ≤ 17) : WPCall Tryz.prog 177 args m Φ = WP Tryz.prog ir177_b (initσ args) m (retK [.tmp 2] Φ) := wpCall_def ir177_eq h
def ir199_k1 : ICode :=
 .seq (
 .region [
 imv 0 3 0,
 ibn 1 4 .geq (τ 3) (.const (.int .u8 48)),
 imv 2 5 4,
 iog 3 6 5 true (.mov (τ 0)),
 iog 4 7 5 true (.bin .leq .other (τ 6) (.const (.int .u8 57))),
 iop 5 8 (.pick (τ 5) (τ 7) (.const (.bool false))),
 imv 6 2 8]) (
 .ret)
def ir199_b : ICode :=
 .seq (
 .region [
 imb 0 2 false]) ir199_k1
def ir199 : IFunc := ⟨9, [.tmp 2], ir199_b⟩
theorem ir199_eq : cFunc Tryz.prog 199 = some ir199 := by kernel_rfl
theorem call199 {args : List Value} {m : Mem} {Φ : Value → Mem → Prop} (h : args.length ≤ 9) : WPCall Tryz.prog 199 args m Φ = WP Tryz.prog ir199_b (initσ args) m (retK [.tmp 2] Φ) := wpCall_def ir199_eq h
end Go.Proofs.YticjcminhkgabaaGreatDoor
