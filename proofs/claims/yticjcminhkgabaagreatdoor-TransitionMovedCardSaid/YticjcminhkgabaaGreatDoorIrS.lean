/-
 The intermediate forms of this seat's functions, written by a program of ours (wip/Ir.lean); each is checked against the loaded program.
-/
import Derived.Test.YticjcminhkgabaaGreatDoorRows
import Derived.Test.YticjcminhkgabaaGreatDoorFwX
namespace Go.Proofs.YticjcminhkgabaaGreatDoor
open Go Go.DI

def ir105_k1 : ICode :=
 .seq (
 .region [
 imv 0 3 0,
 icl 1 4 137 [τ 3],
 imv 2 2 4]) (
 .ret)
def ir105_b : ICode :=
 .seq (
 .region [
 iop 0 2 (.mov (.const (.string ⟨#[]⟩)))]) ir105_k1
def ir105 : IFunc := ⟨5, [.tmp 2], ir105_b⟩
theorem ir105_eq : cFunc Tryz.prog 105 = some ir105 := by kernel_rfl
theorem call105 {args : List Value} {m : Mem} {Φ : Value → Mem → Prop} (h : args.length ≤ 5) : WPCall Tryz.prog 105 args m Φ = WP Tryz.prog ir105_b (initσ args) m (retK [.tmp 2] Φ) := wpCall_def ir105_eq h
def ir137_k1 : ICode :=
 .seq (
 .region [
 imv 0 3 0,
 icl 1 4 157 [τ 3, .const (.int .i64 10)],
 imv 2 2 4]) (
 .ret)
def ir137_b : ICode :=
 .seq (
 .region [
 iop 0 2 (.mov (.const (.string ⟨#[]⟩)))]) ir137_k1
def ir137 : IFunc := ⟨5, [.tmp 2], ir137_b⟩
theorem ir137_eq : cFunc Tryz.prog 137 = some ir137 := by kernel_rfl
theorem call137 {args : List Value} {m : Mem} {Φ : Value → Mem → Prop} (h : args.length ≤ 5) : WPCall Tryz.prog 137 args m Φ = WP Tryz.prog ir137_b (initσ args) m (retK [.tmp 2] Φ) := wpCall_def ir137_eq h
def ir157_k8 : ICode :=
 .seq (
 .region [
 imv 0 36 7,
 ibn 1 37 .add (.const (.int .i64 1)) (τ 36),
 iop 2 38 (.nilck (.const (.pointer none))),
 iop 3 39 (.convBS (τ 38)),
 imv 4 4 39]) (
 .ret)
def ir157_k9 : ICode :=
 .seq (
 .region [
 imv 0 40 7,
 ibn 1 41 .add (.const (.int .i64 1)) (τ 40),
 iop 2 42 (.nilck (.const (.pointer none))),
 iop 3 43 (.convBS (τ 42)),
 imv 4 4 43]) (
 .ret)
def ir157_k7 : ICode :=
 .seq (
 .seq (
 .region [
 imv 0 33 0,
 ibn 1 34 .lss (τ 33) (.const (.int .i64 0))]) (
 .cond (τ 34) (
 .seq (
 .region [
 iop 0 35 (.iaddrA 1 24 (τ 5) (.const (.int .i64 0))),
 ino 1 (.store 1 (τ 35) (.const (.int .u8 45)))]) ir157_k8) (
 .skip))) ir157_k9
def ir157_k6 : ICode :=
 .seq (
 .region [
 imv 0 28 7,
 ibn 1 29 .add (.const (.int .i64 1)) (τ 28),
 iop 2 30 (.nilck (.const (.pointer none))),
 imv 3 31 6,
 icl 4 32 185 [τ 30, τ 31]]) ir157_k7
def ir157_k5 : ICode :=
 .seq (
 .region [
 imv 0 26 6,
 icl 1 27 184 [τ 26],
 imv 2 7 27]) ir157_k6
def ir157_k4 : ICode :=
 .seq (
 .seq (
 .region [
 imv 0 22 0,
 ibn 1 23 .lss (τ 22) (.const (.int .i64 0))]) (
 .cond (τ 23) (
 .region [
 imv 0 24 6,
 iop 1 25 (.un .neg (τ 24)),
 imv 2 6 25]) (
 .skip))) ir157_k5
def ir157_k3 : ICode :=
 .seq (
 .region [
 imv 0 20 0,
 iop 1 21 (.convI .u64 (τ 20)),
 imv 2 6 21]) ir157_k4
def ir157_k2 : ICode :=
 .seq (
 .region [
 iop 0 5 (.alloc [.int .u8 0, .int .u8 0, .int .u8 0, .int .u8 0, .int .u8 0, .int .u8 0, .int .u8 0, .int .u8 0, .int .u8 0, .int .u8 0, .int .u8 0, .int .u8 0, .int .u8 0, .int .u8 0, .int .u8 0, .int .u8 0, .int .u8 0, .int .u8 0, .int .u8 0, .int .u8 0, .int .u8 0, .int .u8 0, .int .u8 0, .int .u8 0])]) ir157_k3
def ir157_k11 : ICode :=
 .seq (
 .region [
 imv 0 53 9,
 imv 1 4 53]) (
 .ret)
def ir157_k10 : ICode :=
 .seq (
 .region [
 imv 0 45 0,
 iop 1 46 (.convI .u64 (τ 45)),
 imv 2 47 1,
 imv 3 48 0,
 ibn 4 49 .lss (τ 48) (.const (.int .i64 0)),
 icl 5 50 186 [.const (.slice none 0 0), τ 46, τ 47, τ 49, .const (.bool false)],
 imv 6 44 50,
 iex 7 51 0 44,
 iex 8 52 1 44,
 imv 9 8 51,
 imv 10 9 52]) ir157_k11
def ir157_k1 : ICode :=
 .seq (
 .seq (
 .region [
 imv 0 10 1,
 ibn 1 11 .eql (τ 10) (.const (.int .i64 10))]) (
 .cond (τ 11) (
 .seq (
 .seq (
 .region [
 imv 0 12 0,
 ibn 1 13 .leq (.const (.int .i64 0)) (τ 12),
 imv 2 14 13,
 iog 3 15 14 true (.mov (τ 0)),
 iog 4 16 14 true (.bin .lss .other (τ 15) (.const (.int .i64 100))),
 iop 5 17 (.pick (τ 14) (τ 16) (.const (.bool false)))]) (
 .cond (τ 17) (
 .seq (
 .region [
 imv 0 18 0,
 icl 1 19 183 [τ 18],
 imv 2 4 19]) (
 .ret)) (
 .skip))) ir157_k2) (
 .skip))) ir157_k10
def ir157_b : ICode :=
 .seq (
 .region [
 iop 0 4 (.mov (.const (.string ⟨#[]⟩)))]) ir157_k1
def ir157 : IFunc := ⟨54, [.tmp 4], ir157_b⟩
theorem ir157_eq : cFunc Tryz.prog 157 = some ir157 := by kernel_rfl
theorem call157 {args : List Value} {m : Mem} {Φ : Value → Mem → Prop} (h : args.length ≤ 54) : WPCall Tryz.prog 157 args m Φ = WP Tryz.prog ir157_b (initσ args) m (retK [.tmp 4] Φ) := wpCall_def ir157_eq h
def ir183_k2 : ICode :=
 .seq (
 .region [
 imv 0 9 0,
 ibn 1 10 .mul (τ 9) (.const (.int .i64 2)),
 imv 2 11 0,
 ibn 3 12 .mul (τ 11) (.const (.int .i64 2)),
 ibn 4 13 .add (τ 12) (.const (.int .i64 2)),
 iop 5 14 (.sliceStr (.const (.string ⟨#[48, 48, 48, 49, 48, 50, 48, 51, 48, 52, 48, 53, 48, 54, 48, 55, 48, 56, 48, 57, 49, 48, 49, 49, 49, 50, 49, 51, 49, 52, 49, 53, 49, 54, 49, 55, 49, 56, 49, 57, 50, 48, 50, 49, 50, 50, 50, 51, 50, 52, 50, 53, 50, 54, 50, 55, 50, 56, 50, 57, 51, 48, 51, 49, 51, 50, 51, 51, 51, 52, 51, 53, 51, 54, 51, 55, 51, 56, 51, 57, 52, 48, 52, 49, 52, 50, 52, 51, 52, 52, 52, 53, 52, 54, 52, 55, 52, 56, 52, 57, 53, 48, 53, 49, 53, 50, 53, 51, 53, 52, 53, 53, 53, 54, 53, 55, 53, 56, 53, 57, 54, 48, 54, 49, 54, 50, 54, 51, 54, 52, 54, 53, 54, 54, 54, 55, 54, 56, 54, 57, 55, 48, 55, 49, 55, 50, 55, 51, 55, 52, 55, 53, 55, 54, 55, 55, 55, 56, 55, 57, 56, 48, 56, 49, 56, 50, 56, 51, 56, 52, 56, 53, 56, 54, 56, 55, 56, 56, 56, 57, 57, 48, 57, 49, 57, 50, 57, 51, 57, 52, 57, 53, 57, 54, 57, 55, 57, 56, 57, 57]⟩)) (some (τ 10)) (some (τ 13))),
 imv 6 2 14]) (
 .ret)
def ir183_k1 : ICode :=
 .seq (
 .seq (
 .region [
 imv 0 3 0,
 ibn 1 4 .lss (τ 3) (.const (.int .i64 10))]) (
 .cond (τ 4) (
 .seq (
 .region [
 imv 0 5 0,
 imv 1 6 0,
 ibn 2 7 .add (τ 6) (.const (.int .i64 1)),
 iop 3 8 (.sliceStr (.const (.string ⟨#[48, 49, 50, 51, 52, 53, 54, 55, 56, 57, 97, 98, 99, 100, 101, 102, 103, 104, 105, 106, 107, 108, 109, 110, 111, 112, 113, 114, 115, 116, 117, 118, 119, 120, 121, 122]⟩)) (some (τ 5)) (some (τ 7))),
 imv 4 2 8]) (
 .ret)) (
 .skip))) ir183_k2
def ir183_b : ICode :=
 .seq (
 .region [
 iop 0 2 (.mov (.const (.string ⟨#[]⟩)))]) ir183_k1
def ir183 : IFunc := ⟨15, [.tmp 2], ir183_b⟩
theorem ir183_eq : cFunc Tryz.prog 183 = some ir183 := by kernel_rfl
theorem call183 {args : List Value} {m : Mem} {Φ : Value → Mem → Prop} (h : args.length ≤ 15) : WPCall Tryz.prog 183 args m Φ = WP Tryz.prog ir183_b (initσ args) m (retK [.tmp 2] Φ) := wpCall_def ir183_eq h
end Go.Proofs.YticjcminhkgabaaGreatDoor
