/-
 The intermediate forms of this seat's functions, written by a program of ours (wip/Ir.lean); each is checked against the loaded program.
-/
import Derived.Test.YticjcminhkgabaaGreatDoorRows
import Derived.Test.YticjcminhkgabaaGreatDoorFwX
namespace Go.Proofs.YticjcminhkgabaaGreatDoor
open Go Go.DI

def ir31_k12 : ICode :=
 .seq (
 .block 3 (
 .seq (
 .region [
 iia 0 63 1 59 61,
 ild 1 64 63,
 imv 2 14 64]) (
 .region [
 imv 0 65 12,
 imv 1 66 14,
 iia 2 67 1 65 66,
 ino 3 (.store 1 (τ 67) (.const (.bool true)))]))) (
 .region [
 ibn 0 68 .add (τ 61) (.const (.int .i64 1)),
 imv 1 61 68])
def ir31_k11 : ICode :=
 .seq (
 .cond (τ 62) (
 .skip) (
 .exit 2)) ir31_k12
def ir31_l0 : ICode :=
 .seq (
 .region [
 ibn 0 62 .lss (τ 61) (τ 60)]) ir31_k11
def ir31_k19 : ICode :=
 .seq (
 .seq (
 .region [
 imv 0 94 17,
 ibn 1 95 .eql (τ 94) (.const (.int .i64 0))]) (
 .cond (τ 95) (
 .region [
 ifa 0 96 1 11,
 ild 1 97 96,
 ifa 2 98 2 11,
 ild 3 99 98,
 ibn 4 100 .add (τ 97) (τ 99),
 imv 5 17 100]) (
 .skip))) (
 .region [
 imv 0 101 8,
 ila 1 102 2 6,
 imv 2 103 9,
 ifa 3 104 2 16,
 ild 4 105 104,
 ila 6 107 2 6,
 imv 7 108 9,
 imv 8 109 15,
 imv 10 111 17,
 ioc 5 106 (.call 72 [τ 102, τ 103, τ 105]) [(τ 6, τ 6)],
 icl 9 110 72 [τ 107, τ 108, τ 109],
 iop 11 112 (.callv (τ 101) [τ 106, τ 110, τ 111])])
def ir31_k18 : ICode :=
 .seq (
 .region [
 ifa 0 89 1 16,
 ild 1 90 89,
 ifa 2 91 4 11,
 iop 3 92 (.iaddrA 1 5 (τ 91) (τ 90)),
 ild 4 93 92,
 imv 5 17 93]) ir31_k19
def ir31_k17 : ICode :=
 .seq (
 .seq (
 .region [
 imv 0 87 15,
 ibn 1 88 .eql (τ 87) (.const (.int .i64 0))]) (
 .cond (τ 88) (
 .exit 5) (
 .skip))) ir31_k18
def ir31_k16 : ICode :=
 .seq (
 .block 5 (
 .seq (
 .region [
 imv 0 84 82,
 iia 1 85 7 80 82,
 ila 2 86 7 85,
 iop 3 16 (.alloc [.string ⟨#[]⟩, .int .i64 0, .int .i64 0, .int .i64 0, .bool false, .slice none 0 0, .slice none 0 0]),
 imv 4 15 84,
 ist 5 7 16 86]) ir31_k17)) (
 .region [
 ibn 0 113 .add (τ 82) (.const (.int .i64 1)),
 imv 1 82 113])
def ir31_k15 : ICode :=
 .seq (
 .cond (τ 83) (
 .skip) (
 .exit 4)) ir31_k16
def ir31_l1 : ICode :=
 .seq (
 .region [
 ibn 0 83 .lss (τ 82) (τ 81)]) ir31_k15
def ir31_k23 : ICode :=
 .seq (
 .region [
 imv 0 122 12,
 ifa 1 123 1 19,
 ild 2 124 123,
 iia 3 125 1 122 124,
 ild 4 126 125]) (
 .cond (τ 126) (
 .region [
 imv 0 127 8,
 ila 1 128 2 6,
 imv 2 129 9,
 ifa 3 130 2 19,
 ild 4 131 130,
 ila 6 133 2 6,
 imv 7 134 18,
 ioc 5 132 (.call 72 [τ 128, τ 129, τ 131]) [(τ 6, τ 6)],
 icl 8 135 48 [τ 133, τ 134],
 iop 9 136 (.callv (τ 127) [τ 132, τ 135, .const (.int .i64 1)])]) (
 .skip))
def ir31_k22 : ICode :=
 .seq (
 .block 7 (
 .seq (
 .region [
 imv 0 119 117,
 iia 1 120 3 115 117,
 ila 2 121 3 120,
 iop 3 19 (.alloc [.string ⟨#[]⟩, .int .i64 0, .int .i64 0]),
 imv 4 18 119,
 ist 5 3 19 121]) ir31_k23)) (
 .region [
 ibn 0 137 .add (τ 117) (.const (.int .i64 1)),
 imv 1 117 137])
def ir31_k21 : ICode :=
 .seq (
 .cond (τ 118) (
 .skip) (
 .exit 6)) ir31_k22
def ir31_l2 : ICode :=
 .seq (
 .region [
 ibn 0 118 .lss (τ 117) (τ 116)]) ir31_k21
def ir31_k20 : ICode :=
 .seq (
 .region [
 ifa 0 114 4 2,
 ild 1 115 114,
 iln 2 116 115,
 imi 3 117 0]) (
 .block 6 (
 .loop ir31_l2))
def ir31_k14 : ICode :=
 .seq (
 .seq (
 .region [
 ifa 0 79 3 2,
 ild 1 80 79,
 iln 2 81 80,
 imi 3 82 0]) (
 .block 4 (
 .loop ir31_l1))) ir31_k20
def ir31_k13 : ICode :=
 .seq (
 .region [
 imv 0 69 8,
 ila 1 70 2 6,
 imv 2 71 9,
 ifa 4 73 1 11,
 ild 5 74 73,
 ifa 6 75 2 11,
 ild 7 76 75,
 ibn 8 77 .add (τ 74) (τ 76),
 ioc 3 72 (.call 71 [τ 70, τ 71]) [(τ 75, τ 75), (τ 73, τ 73)],
 iop 9 78 (.callv (τ 69) [.const (.int .i64 0), τ 72, τ 77])]) ir31_k14
def ir31_k10 : ICode :=
 .seq (
 .seq (
 .region [
 ifa 0 58 9 11,
 ild 1 59 58,
 iln 2 60 59,
 imi 3 61 0]) (
 .block 2 (
 .loop ir31_l0))) ir31_k13
def ir31_k9 : ICode :=
 .seq (
 .region [
 ifa 0 54 2 2,
 ild 1 55 54,
 iln 2 56 55,
 iop 3 57 (.mkslice 1 1 [.bool false] (τ 56) (τ 56)),
 imv 4 12 57]) ir31_k10
def ir31_k8 : ICode :=
 .seq (
 .region [
 ifa 0 48 5 2,
 ild 1 49 48,
 ifa 2 50 1 10,
 ild 3 51 50,
 iia 4 52 17 49 51,
 ila 5 53 17 52,
 iop 6 11 (.alloc [.string ⟨#[]⟩, .int .i64 0, .int .i64 0, .int .i64 0, .int .i64 0, .int .i64 0, .int .i64 0, .int .i64 0, .int .i64 0, .slice none 0 0, .slice none 0 0, .bool false, .slice none 0 0, .slice none 0 0, .bool false, .slice none 0 0, .slice none 0 0]),
 ist 7 17 11 53]) ir31_k9
def ir31_k7 : ICode :=
 .seq (
 .block 1 (
 .seq (
 .region [
 imv 0 45 43,
 iia 1 46 2 41 43,
 ila 2 47 2 46,
 iop 3 10 (.alloc [.string ⟨#[]⟩, .int .i64 0]),
 imv 4 9 45,
 ist 5 2 10 47]) ir31_k8)) (
 .region [
 ibn 0 138 .add (τ 43) (.const (.int .i64 1)),
 imv 1 43 138])
def ir31_k6 : ICode :=
 .seq (
 .cond (τ 44) (
 .skip) (
 .exit 0)) ir31_k7
def ir31_l3 : ICode :=
 .seq (
 .region [
 ibn 0 44 .lss (τ 43) (τ 42)]) ir31_k6
def ir31_k26 : ICode :=
 .seq (
 .block 9 (
 .seq (
 .region [
 imv 0 145 143,
 iia 1 146 1 141 143,
 ild 2 147 146,
 imv 3 20 145,
 imv 4 21 147]) (
 .region [
 imv 0 148 8,
 ila 1 149 2 6,
 imv 2 150 20,
 icl 3 151 48 [τ 149, τ 150],
 imv 4 152 21,
 iop 5 153 (.callv (τ 148) [τ 151, .const (.int .i64 1), τ 152])]))) (
 .region [
 ibn 0 154 .add (τ 143) (.const (.int .i64 1)),
 imv 1 143 154])
def ir31_k25 : ICode :=
 .seq (
 .cond (τ 144) (
 .skip) (
 .exit 8)) ir31_k26
def ir31_l4 : ICode :=
 .seq (
 .region [
 ibn 0 144 .lss (τ 143) (τ 142)]) ir31_k25
def ir31_k27 : ICode :=
 .seq (
 .region [
 ila 0 155 4 7,
 ist 1 4 4 155,
 imi 2 5 0]) (
 .ret)
def ir31_k24 : ICode :=
 .seq (
 .seq (
 .region [
 ila 0 139 7 2,
 imv 1 140 1,
 icl 2 141 17 [τ 139, τ 140],
 iln 3 142 141,
 imi 4 143 0]) (
 .block 8 (
 .loop ir31_l4))) ir31_k27
def ir31_k5 : ICode :=
 .seq (
 .seq (
 .region [
 ifa 0 40 6 2,
 ild 1 41 40,
 iln 2 42 41,
 imi 3 43 0]) (
 .block 0 (
 .loop ir31_l3))) ir31_k24
def ir31_k4 : ICode :=
 .seq (
 .region [
 iop 0 39 (.mkfunc (.func 70) [] [τ 7]),
 imv 1 8 39]) ir31_k5
def ir31_k3 : ICode :=
 .seq (
 .region [
 ila 0 33 2 6,
 ifa 1 34 4 2,
 ild 2 35 34,
 iln 3 36 35,
 icl 4 37 48 [τ 33, τ 36],
 iop 5 38 (.build [.int .i64 0, .int .i64 0, .int .i64 0, .slice none 0 0] [(0, 1, τ 37), (1, 1, .const (.int .i64 0)), (2, 1, .const (.int .i64 1))]),
 iop 6 7 (.alloc [.int .i64 0, .int .i64 0, .int .i64 0, .slice none 0 0]),
 ist 7 4 7 38]) ir31_k4
def ir31_k2 : ICode :=
 .seq (
 .region [
 ifa 0 26 6 2,
 ild 1 27 26,
 iln 2 28 27,
 ifa 3 29 3 2,
 ild 4 30 29,
 iln 5 31 30,
 iop 6 32 (.build [.int .i64 0, .int .i64 0] [(0, 1, τ 28), (1, 1, τ 31)]),
 iop 7 6 (.alloc [.int .i64 0, .int .i64 0]),
 ist 8 2 6 32]) ir31_k3
def ir31_k1 : ICode :=
 .seq (
 .seq (
 .region [
 ila 0 22 7 2,
 icl 1 23 69 [τ 22],
 ibn 2 24 .neq (τ 23) (.const (.int .i64 0))]) (
 .cond (τ 24) (
 .seq (
 .region [
 iop 0 25 (.build [.int .i64 0, .int .i64 0, .int .i64 0, .slice none 0 0] []),
 ist 1 4 4 25,
 imi 2 5 1]) (
 .ret)) (
 .skip))) ir31_k2
def ir31_b : ICode :=
 .seq (
 .region [
 iop 0 2 (.box (τ 0)),
 iop 1 4 (.alloc [.int .i64 0, .int .i64 0, .int .i64 0, .slice none 0 0]),
 imi 2 5 0]) ir31_k1
def ir31 : IFunc := ⟨156, [.cell 4 true 4, .tmp 5], ir31_b⟩
theorem ir31_eq : cFunc Tryz.prog 31 = some ir31 := by kernel_rfl
theorem call31 {args : List Value} {m : Mem} {Φ : Value → Mem → Prop} (h : args.length ≤ 156) : WPCall Tryz.prog 31 args m Φ = WP Tryz.prog ir31_b (initσ args) m (retK [.cell 4 true 4, .tmp 5] Φ) := wpCall_def ir31_eq h
def ir48_k1 : ICode :=
 .seq (
 .region [
 ifa 0 5 0 2,
 ild 1 6 5,
 ifa 2 7 1 2,
 ild 3 8 7,
 ibn 4 9 .mul (τ 6) (τ 8),
 ibn 5 10 .add (.const (.int .i64 2)) (τ 9),
 imv 6 11 1,
 ibn 7 12 .add (τ 10) (τ 11),
 imv 8 4 12]) (
 .ret)
def ir48_b : ICode :=
 .seq (
 .region [
 iop 0 2 (.box (τ 0)),
 imi 1 4 0]) ir48_k1
def ir48 : IFunc := ⟨13, [.tmp 4], ir48_b⟩
theorem ir48_eq : cFunc Tryz.prog 48 = some ir48 := by kernel_rfl
theorem call48 {args : List Value} {m : Mem} {Φ : Value → Mem → Prop} (h : args.length ≤ 13) : WPCall Tryz.prog 48 args m Φ = WP Tryz.prog ir48_b (initσ args) m (retK [.tmp 4] Φ) := wpCall_def ir48_eq h
def ir70_b : ICode :=
 .region [
 ifa 0 7 3 3,
 ild 1 8 7,
 imv 2 9 0,
 imv 3 10 1,
 imv 4 11 2,
 iop 5 12 (.build [.int .i64 0, .int .i64 0, .int .i64 0, .int .i64 0] [(0, 1, τ 9), (1, 1, τ 10), (2, 1, τ 11)]),
 iop 6 13 (.bslice 4 1 [.int .i64 0, .int .i64 0, .int .i64 0, .int .i64 0] [(0, 4, τ 12)]),
 iop 7 14 (.app 4 32 (τ 8) (τ 13)),
 ifa 8 15 3 3,
 ist 9 1 15 14]
def ir70 : IFunc := ⟨16, [], ir70_b⟩
theorem ir70_eq : cFunc Tryz.prog 70 = some ir70 := by kernel_rfl
theorem call70 {args : List Value} {m : Mem} {Φ : Value → Mem → Prop} (h : args.length ≤ 16) : WPCall Tryz.prog 70 args m Φ = WP Tryz.prog ir70_b (initσ args) m (retK [] Φ) := wpCall_def ir70_eq h
def ir71_k1 : ICode :=
 .seq (
 .region [
 imv 0 5 1,
 ibn 1 6 .add (.const (.int .i64 2)) (τ 5),
 imv 2 4 6]) (
 .ret)
def ir71_b : ICode :=
 .seq (
 .region [
 iop 0 2 (.box (τ 0)),
 imi 1 4 0]) ir71_k1
def ir71 : IFunc := ⟨7, [.tmp 4], ir71_b⟩
theorem ir71_eq : cFunc Tryz.prog 71 = some ir71 := by kernel_rfl
theorem call71 {args : List Value} {m : Mem} {Φ : Value → Mem → Prop} (h : args.length ≤ 7) : WPCall Tryz.prog 71 args m Φ = WP Tryz.prog ir71_b (initσ args) m (retK [.tmp 4] Φ) := wpCall_def ir71_eq h
def ir72_k2 : ICode :=
 .seq (
 .region [
 ifa 0 12 0 3,
 ild 1 13 12,
 ibn 2 14 .add (.const (.int .i64 2)) (τ 13),
 imv 3 15 1,
 ifa 4 16 1 3,
 ild 5 17 16,
 ibn 6 18 .sub (τ 17) (.const (.int .i64 1)),
 ibn 7 19 .mul (τ 15) (τ 18),
 ibn 8 20 .add (τ 14) (τ 19),
 imv 9 21 2,
 ibn 10 22 .add (τ 20) (τ 21),
 ibn 11 23 .sub (τ 22) (.const (.int .i64 1)),
 imv 12 6 23]) (
 .ret)
def ir72_k1 : ICode :=
 .seq (
 .seq (
 .region [
 imv 0 7 2,
 ibn 1 8 .eql (τ 7) (.const (.int .i64 0))]) (
 .cond (τ 8) (
 .seq (
 .region [
 ila 0 9 2 3,
 imv 1 10 1,
 icl 2 11 71 [τ 9, τ 10],
 imv 3 6 11]) (
 .ret)) (
 .skip))) ir72_k2
def ir72_b : ICode :=
 .seq (
 .region [
 iop 0 3 (.box (τ 0)),
 imi 1 6 0]) ir72_k1
def ir72 : IFunc := ⟨24, [.tmp 6], ir72_b⟩
theorem ir72_eq : cFunc Tryz.prog 72 = some ir72 := by kernel_rfl
theorem call72 {args : List Value} {m : Mem} {Φ : Value → Mem → Prop} (h : args.length ≤ 24) : WPCall Tryz.prog 72 args m Φ = WP Tryz.prog ir72_b (initσ args) m (retK [.tmp 6] Φ) := wpCall_def ir72_eq h
end Go.Proofs.YticjcminhkgabaaGreatDoor
