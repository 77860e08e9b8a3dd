/-
 The intermediate forms of this seat's functions, written by a program of ours (wip/Ir.lean); each is checked against the loaded program.
-/
import Derived.Test.YticjcminhkgabaaGreatDoorRows
import Derived.Test.YticjcminhkgabaaGreatDoorFwX
namespace Go.Proofs.YticjcminhkgabaaGreatDoor
open Go Go.DI

def ir22_k2 : ICode :=
 .seq (
 .region [
 imv 0 8 0,
 iop 1 9 (.app 1 1 (.const (.slice none 0 0)) (τ 8)),
 iop 2 10 (.build [.slice none 0 0, .int .i64 0] [(0, 1, τ 9)]),
 iop 3 11 (.box (τ 10)),
 imv 4 2 11]) (
 .ret)
def ir22_k1 : ICode :=
 .seq (
 .seq (
 .region [
 imv 0 3 0,
 iln 1 4 3,
 ibn 2 5 .gtr (τ 4) (.const (.int .i64 400))]) (
 .cond (τ 5) (
 .region [
 imv 0 6 0,
 iop 1 7 (.sliceS 1 (τ 6) none (some (.const (.int .i64 400)))),
 imv 2 0 7]) (
 .skip))) ir22_k2
def ir22_b : ICode :=
 .seq (
 .region [
 iop 0 2 (.mov (.const (.pointer none)))]) ir22_k1
def ir22 : IFunc := ⟨12, [.tmp 2], ir22_b⟩
theorem ir22_eq : cFunc Tryz.prog 22 = some ir22 := by kernel_rfl
theorem call22 {args : List Value} {m : Mem} {Φ : Value → Mem → Prop} (h : args.length ≤ 12) : WPCall Tryz.prog 22 args m Φ = WP Tryz.prog ir22_b (initσ args) m (retK [.tmp 2] Φ) := wpCall_def ir22_eq h
def ir27_k1 : ICode :=
 .seq (
 .region [
 imv 0 7 0,
 icl 1 8 22 [τ 7],
 imv 2 9 1,
 imv 3 10 2,
 icl 4 11 28 [τ 8, τ 9, τ 10],
 ist 5 7 6 11]) (
 .ret)
def ir27_b : ICode :=
 .seq (
 .region [
 iop 0 6 (.alloc [.int .i64 0, .slice none 0 0, .slice none 0 0, .slice none 0 0, .slice none 0 0, .slice none 0 0, .slice none 0 0])]) ir27_k1
def ir27 : IFunc := ⟨12, [.cell 6 true 7], ir27_b⟩
theorem ir27_eq : cFunc Tryz.prog 27 = some ir27 := by kernel_rfl
theorem call27 {args : List Value} {m : Mem} {Φ : Value → Mem → Prop} (h : args.length ≤ 12) : WPCall Tryz.prog 27 args m Φ = WP Tryz.prog ir27_b (initσ args) m (retK [.cell 6 true 7] Φ) := wpCall_def ir27_eq h
def ir28_k5 : ICode :=
 .seq (
 .region [
 imv 0 34 9,
 icl 1 35 63 [.const (.string ⟨#[108, 97, 119]⟩), τ 34],
 ifa 2 36 0 10,
 ist 3 1 36 35]) (
 .region [
 ifa 0 37 1 7,
 ild 1 38 37,
 ila 2 39 4 10,
 iop 3 40 (.bslice 4 1 [.string ⟨#[]⟩, .slice none 0 0, .slice none 0 0, .slice none 0 0] [(0, 4, τ 39)]),
 iop 4 41 (.app 4 88 (τ 38) (τ 40)),
 ifa 5 42 1 7,
 ist 6 1 42 41])
def ir28_k4 : ICode :=
 .seq (
 .block 1 (
 .seq (
 .region [
 imv 0 32 0,
 icl 1 33 62 [τ 32, .const (.int .i64 2)],
 iop 2 10 (.alloc [.string ⟨#[]⟩, .slice none 0 0, .slice none 0 0, .slice none 0 0]),
 ist 3 4 10 33]) ir28_k5)) (
 .region [
 imv 0 30 9,
 ibn 1 31 .add (τ 30) (.const (.int .i64 1)),
 imv 2 9 31])
def ir28_l0 : ICode :=
 .seq (
 .seq (
 .region [
 imv 0 27 9,
 imv 1 28 8,
 ibn 2 29 .lss (τ 27) (τ 28)]) (
 .cond (τ 29) (
 .skip) (
 .exit 0))) ir28_k4
def ir28_k8 : ICode :=
 .seq (
 .block 3 (
 .region [
 ifa 0 51 2 7,
 ild 1 52 51,
 imv 2 53 12,
 imv 4 55 0,
 imv 7 58 0,
 imv 10 61 0,
 ifa 11 62 1 7,
 ild 12 63 62,
 iln 13 64 63,
 ioc 3 54 (.call 63 [.const (.string ⟨#[109]⟩), τ 53]) [(τ 62, τ 62), (τ 51, τ 51)],
 ioc 5 56 (.call 49 [τ 55, .const (.int .i64 4)]) [(τ 62, τ 62), (τ 51, τ 51)],
 ibn 6 57 .add (.const (.int .i64 1)) (τ 56),
 ioc 8 59 (.call 49 [τ 58, .const (.int .i64 8)]) [(τ 62, τ 62), (τ 51, τ 51)],
 ibn 9 60 .add (.const (.int .i64 1)) (τ 59),
 ioc 14 65 (.call 49 [τ 61, τ 64]) [(τ 51, τ 51)],
 iop 15 66 (.build [.string ⟨#[]⟩, .int .i64 0, .int .i64 0, .int .i64 0] [(0, 1, τ 54), (1, 1, τ 57), (2, 1, τ 60), (3, 1, τ 65)]),
 iop 16 67 (.bslice 4 1 [.string ⟨#[]⟩, .int .i64 0, .int .i64 0, .int .i64 0] [(0, 4, τ 66)]),
 iop 17 68 (.app 4 40 (τ 52) (τ 67)),
 ifa 18 69 2 7,
 ist 19 1 69 68])) (
 .region [
 imv 0 49 12,
 ibn 1 50 .add (τ 49) (.const (.int .i64 1)),
 imv 2 12 50])
def ir28_l1 : ICode :=
 .seq (
 .seq (
 .region [
 imv 0 46 12,
 imv 1 47 11,
 ibn 2 48 .lss (τ 46) (τ 47)]) (
 .cond (τ 48) (
 .skip) (
 .exit 2))) ir28_k8
def ir28_k18 : ICode :=
 .seq (
 .block 7 (
 .seq (
 .region [
 imv 0 122 0,
 icl 1 123 49 [τ 122, .const (.int .i64 3)],
 ibn 2 124 .eql (τ 123) (.const (.int .i64 0))]) (
 .cond (τ 124) (
 .region [
 imv 0 125 16,
 imv 1 126 0,
 icl 2 127 49 [τ 126, .const (.int .i64 3)],
 ibn 3 128 .add (.const (.int .i64 1)) (τ 127),
 ifa 4 129 4 15,
 iop 5 130 (.iaddrA 1 5 (τ 129) (τ 125)),
 ist 6 1 130 128]) (
 .skip)))) (
 .region [
 imv 0 120 16,
 ibn 1 121 .add (τ 120) (.const (.int .i64 1)),
 imv 2 16 121])
def ir28_l2 : ICode :=
 .seq (
 .seq (
 .region [
 imv 0 118 16,
 ibn 1 119 .lss (τ 118) (.const (.int .i64 5))]) (
 .cond (τ 119) (
 .skip) (
 .exit 6))) ir28_k18
def ir28_k21 : ICode :=
 .seq (
 .seq (
 .region [
 imv 0 137 11,
 ibn 1 138 .gtr (τ 137) (.const (.int .i64 1)),
 imv 2 139 138,
 iog 3 140 139 true (.mov (τ 0)),
 iog 4 141 139 true (.call 49 [τ 140, .const (.int .i64 2)]),
 iog 5 142 139 true (.bin .eql .other (τ 141) (.const (.int .i64 0))),
 iop 6 143 (.pick (τ 139) (τ 142) (.const (.bool false)))]) (
 .cond (τ 143) (
 .region [
 ifa 0 144 9 15,
 ild 1 145 144,
 imv 2 146 17,
 ibn 3 147 .sub (.const (.int .i64 1)) (τ 146),
 iop 4 148 (.bslice 1 1 [.int .i64 0] [(0, 1, τ 147)]),
 iop 5 149 (.app 1 8 (τ 145) (τ 148)),
 ifa 6 150 9 15,
 ist 7 1 150 149]) (
 .skip))) (
 .region [
 ifa 0 151 5 7,
 ild 1 152 151,
 ila 2 153 17 15,
 iop 3 154 (.bslice 17 1 [.string ⟨#[]⟩, .int .i64 0, .int .i64 0, .int .i64 0, .int .i64 0, .int .i64 0, .int .i64 0, .int .i64 0, .int .i64 0, .slice none 0 0, .slice none 0 0, .bool false, .slice none 0 0, .slice none 0 0, .bool false, .slice none 0 0, .slice none 0 0] [(0, 17, τ 153)]),
 iop 4 155 (.app 17 240 (τ 152) (τ 154)),
 ifa 5 156 5 7,
 ist 6 1 156 155])
def ir28_k20 : ICode :=
 .seq (
 .region [
 imv 0 134 17,
 iop 1 135 (.bslice 1 1 [.int .i64 0] [(0, 1, τ 134)]),
 ifa 2 136 9 15,
 ist 3 1 136 135]) ir28_k21
def ir28_k19 : ICode :=
 .seq (
 .region [
 imv 0 131 0,
 imv 1 132 11,
 icl 2 133 49 [τ 131, τ 132],
 imv 3 17 133]) ir28_k20
def ir28_k17 : ICode :=
 .seq (
 .seq (
 .region [
 imi 0 16 1]) (
 .block 6 (
 .loop ir28_l2))) ir28_k19
def ir28_k16 : ICode :=
 .seq (
 .region [
 imv 0 112 0,
 icl 1 113 49 [τ 112, .const (.int .i64 9)],
 icl 2 114 67 [τ 113, .const (.int .i64 8)],
 imv 3 111 114,
 iex 4 115 0 111,
 iex 5 116 1 111,
 ifa 6 117 11 15,
 ist 7 3 117 115]) ir28_k17
def ir28_k15 : ICode :=
 .seq (
 .region [
 imv 0 106 0,
 ifa 1 107 2 15,
 ild 2 108 107,
 icl 3 109 66 [τ 106, τ 108],
 ifa 4 110 10 15,
 ist 5 1 110 109]) ir28_k16
def ir28_k14 : ICode :=
 .seq (
 .region [
 ifa 0 97 1 15,
 ild 1 98 97,
 imv 2 99 0,
 ifa 3 100 2 15,
 ild 4 101 100,
 ibn 5 102 .add (τ 101) (.const (.int .i64 1)),
 ioc 6 103 (.call 49 [τ 99, τ 102]) [(τ 97, τ 97)],
 ibn 7 104 .add (τ 98) (τ 103),
 ifa 8 105 3 15,
 ist 9 1 105 104]) ir28_k15
def ir28_k13 : ICode :=
 .seq (
 .block 5 (
 .seq (
 .region [
 imv 0 85 14,
 icl 1 86 63 [.const (.string ⟨#[112]⟩), τ 85],
 imv 2 87 0,
 icl 3 88 49 [τ 87, .const (.int .i64 2)],
 ibn 4 89 .add (.const (.int .i64 1)) (τ 88),
 imv 5 90 0,
 icl 6 91 49 [τ 90, .const (.int .i64 3)],
 imv 7 92 0,
 icl 8 93 49 [τ 92, .const (.int .i64 4)],
 ibn 9 94 .add (.const (.int .i64 1)) (τ 93),
 icl 10 95 64 [τ 94],
 iop 11 96 (.build [.string ⟨#[]⟩, .int .i64 0, .int .i64 0, .int .i64 0, .int .i64 0, .int .i64 0, .int .i64 0, .int .i64 0, .int .i64 0, .slice none 0 0, .slice none 0 0, .bool false, .slice none 0 0, .slice none 0 0, .bool false, .slice none 0 0, .slice none 0 0] [(0, 1, τ 86), (1, 1, τ 89), (2, 1, τ 91), (14, 3, τ 95)]),
 iop 12 15 (.alloc [.string ⟨#[]⟩, .int .i64 0, .int .i64 0, .int .i64 0, .int .i64 0, .int .i64 0, .int .i64 0, .int .i64 0, .int .i64 0, .slice none 0 0, .slice none 0 0, .bool false, .slice none 0 0, .slice none 0 0, .bool false, .slice none 0 0, .slice none 0 0]),
 ist 13 17 15 96]) ir28_k14)) (
 .region [
 imv 0 83 14,
 ibn 1 84 .add (τ 83) (.const (.int .i64 1)),
 imv 2 14 84])
def ir28_l3 : ICode :=
 .seq (
 .seq (
 .region [
 imv 0 80 14,
 imv 1 81 13,
 ibn 2 82 .lss (τ 80) (τ 81)]) (
 .cond (τ 82) (
 .skip) (
 .exit 4))) ir28_k13
def ir28_k24 : ICode :=
 .seq (
 .block 9 (
 .region [
 ifa 0 166 6 7,
 ild 1 167 166,
 imv 2 168 19,
 imv 4 170 0,
 ifa 5 171 5 7,
 ild 6 172 171,
 iln 7 173 172,
 ioc 3 169 (.call 63 [.const (.string ⟨#[118]⟩), τ 168]) [(τ 171, τ 171), (τ 166, τ 166)],
 ioc 8 174 (.call 49 [τ 170, τ 173]) [(τ 166, τ 166)],
 iop 9 175 (.build [.string ⟨#[]⟩, .int .i64 0] [(0, 1, τ 169), (1, 1, τ 174)]),
 iop 10 176 (.bslice 2 1 [.string ⟨#[]⟩, .int .i64 0] [(0, 2, τ 175)]),
 iop 11 177 (.app 2 24 (τ 167) (τ 176)),
 ifa 12 178 6 7,
 ist 13 1 178 177])) (
 .region [
 imv 0 164 19,
 ibn 1 165 .add (τ 164) (.const (.int .i64 1)),
 imv 2 19 165])
def ir28_l4 : ICode :=
 .seq (
 .seq (
 .region [
 imv 0 161 19,
 imv 1 162 18,
 ibn 2 163 .lss (τ 161) (τ 162)]) (
 .cond (τ 163) (
 .skip) (
 .exit 8))) ir28_k24
def ir28_k25 : ICode :=
 .seq (
 .region [
 ila 0 179 7 7,
 ist 1 7 6 179]) (
 .ret)
def ir28_k23 : ICode :=
 .seq (
 .seq (
 .region [
 imi 0 19 0]) (
 .block 8 (
 .loop ir28_l4))) ir28_k25
def ir28_k22 : ICode :=
 .seq (
 .region [
 imv 0 157 0,
 imv 1 158 2,
 ibn 2 159 .add (τ 158) (.const (.int .i64 1)),
 icl 3 160 49 [τ 157, τ 159],
 imv 4 18 160]) ir28_k23
def ir28_k12 : ICode :=
 .seq (
 .seq (
 .region [
 imi 0 14 0]) (
 .block 4 (
 .loop ir28_l3))) ir28_k22
def ir28_k11 : ICode :=
 .seq (
 .region [
 imv 0 77 0,
 icl 1 78 49 [τ 77, .const (.int .i64 2)],
 ibn 2 79 .add (.const (.int .i64 1)) (τ 78),
 imv 3 13 79]) ir28_k12
def ir28_k10 : ICode :=
 .seq (
 .region [
 imv 0 74 0,
 imv 1 75 1,
 icl 2 76 65 [τ 74, τ 7, .const (.int .i64 0), τ 75]]) ir28_k11
def ir28_k9 : ICode :=
 .seq (
 .region [
 icl 0 70 64 [.const (.int .i64 0)],
 iop 1 71 (.build [.string ⟨#[]⟩, .int .i64 0, .int .i64 0, .int .i64 0, .bool false, .slice none 0 0, .slice none 0 0] [(2, 1, .const (.int .i64 (-1))), (4, 3, τ 70)]),
 iop 2 72 (.bslice 7 1 [.string ⟨#[]⟩, .int .i64 0, .int .i64 0, .int .i64 0, .bool false, .slice none 0 0, .slice none 0 0] [(0, 7, τ 71)]),
 ifa 3 73 3 7,
 ist 4 1 73 72]) ir28_k10
def ir28_k7 : ICode :=
 .seq (
 .seq (
 .region [
 imi 0 12 0]) (
 .block 2 (
 .loop ir28_l1))) ir28_k9
def ir28_k6 : ICode :=
 .seq (
 .region [
 imv 0 43 0,
 icl 1 44 49 [τ 43, .const (.int .i64 2)],
 ibn 2 45 .add (.const (.int .i64 1)) (τ 44),
 imv 3 11 45]) ir28_k7
def ir28_k3 : ICode :=
 .seq (
 .seq (
 .region [
 imi 0 9 0]) (
 .block 0 (
 .loop ir28_l0))) ir28_k6
def ir28_k2 : ICode :=
 .seq (
 .region [
 imv 0 24 0,
 icl 1 25 49 [τ 24, .const (.int .i64 2)],
 ibn 2 26 .add (.const (.int .i64 1)) (τ 25),
 imv 3 8 26]) ir28_k3
def ir28_k1 : ICode :=
 .seq (
 .region [
 imv 0 20 0,
 icl 1 21 49 [τ 20, .const (.int .i64 2)],
 ibn 2 22 .add (.const (.int .i64 1)) (τ 21),
 iop 3 23 (.build [.int .i64 0, .slice none 0 0, .slice none 0 0, .slice none 0 0, .slice none 0 0, .slice none 0 0, .slice none 0 0] [(0, 1, τ 22)]),
 iop 4 7 (.alloc [.int .i64 0, .slice none 0 0, .slice none 0 0, .slice none 0 0, .slice none 0 0, .slice none 0 0, .slice none 0 0]),
 ist 5 7 7 23]) ir28_k2
def ir28_b : ICode :=
 .seq (
 .region [
 iop 0 6 (.alloc [.int .i64 0, .slice none 0 0, .slice none 0 0, .slice none 0 0, .slice none 0 0, .slice none 0 0, .slice none 0 0])]) ir28_k1
def ir28 : IFunc := ⟨180, [.cell 6 true 7], ir28_b⟩
theorem ir28_eq : cFunc Tryz.prog 28 = some ir28 := by kernel_rfl
theorem call28 {args : List Value} {m : Mem} {Φ : Value → Mem → Prop} (h : args.length ≤ 180) : WPCall Tryz.prog 28 args m Φ = WP Tryz.prog ir28_b (initσ args) m (retK [.cell 6 true 7] Φ) := wpCall_def ir28_eq h
def ir49_k3 : ICode :=
 .seq (
 .region [
 imv 0 26 0,
 iop 1 27 (.nilck (τ 26)),
 ifa 2 28 0 27,
 ild 3 29 28,
 imv 4 30 0,
 iop 5 31 (.nilck (τ 30)),
 ifa 6 32 1 31,
 ild 7 33 32,
 ibn 8 34 .sub (τ 33) (.const (.int .i64 1)),
 iia 9 35 1 29 34,
 ild 10 36 35,
 iop 11 37 (.convI .i64 (τ 36)),
 imv 12 38 1,
 ibn 13 39 .rem (τ 37) (τ 38),
 imv 14 4 39]) (
 .ret)
def ir49_k2 : ICode :=
 .seq (
 .region [
 imv 0 19 0,
 iop 1 20 (.nilck (τ 19)),
 ifa 2 21 1 20,
 ild 3 22 21,
 ibn 4 23 .add (τ 22) (.const (.int .i64 1)),
 iop 5 24 (.nilck (τ 19)),
 ifa 6 25 1 24,
 ist 7 1 25 23]) ir49_k3
def ir49_k1 : ICode :=
 .seq (
 .seq (
 .region [
 imv 0 5 0,
 iop 1 6 (.nilck (τ 5)),
 ifa 2 7 1 6,
 ild 3 8 7,
 imv 4 9 0,
 iop 5 10 (.nilck (τ 9)),
 ifa 6 11 0 10,
 ild 7 12 11,
 iln 8 13 12,
 ibn 9 14 .geq (τ 8) (τ 13),
 imv 10 15 14,
 iog 11 16 15 false (.mov (τ 1)),
 iog 12 17 15 false (.bin .lss .other (τ 16) (.const (.int .i64 2))),
 iop 13 18 (.pick (τ 15) (.const (.bool true)) (τ 17))]) (
 .cond (τ 18) (
 .seq (
 .region [
 imi 0 4 0]) (
 .ret)) (
 .skip))) ir49_k2
def ir49_b : ICode :=
 .seq (
 .region [
 imi 0 4 0]) ir49_k1
def ir49 : IFunc := ⟨40, [.tmp 4], ir49_b⟩
theorem ir49_eq : cFunc Tryz.prog 49 = some ir49 := by kernel_rfl
theorem call49 {args : List Value} {m : Mem} {Φ : Value → Mem → Prop} (h : args.length ≤ 40) : WPCall Tryz.prog 49 args m Φ = WP Tryz.prog ir49_b (initσ args) m (retK [.tmp 4] Φ) := wpCall_def ir49_eq h
def ir62_k16 : ICode :=
 .seq (
 .seq (
 .region [
 imv 0 72 14,
 imv 1 73 8,
 ibn 2 74 .add (τ 73) (.const (.int .i64 1)),
 ibn 3 75 .eql (τ 72) (τ 74),
 imv 4 76 75,
 iog 5 77 76 false (.mov (τ 14)),
 iog 6 78 76 false (.mov (τ 8)),
 iog 7 79 76 false (.bin .neq .other (τ 77) (τ 78)),
 iog 8 80 76 false (.mov (τ 79)),
 iog 9 81 80 true (.mov (τ 0)),
 iog 10 82 80 true (.call 49 [τ 81, .const (.int .i64 3)]),
 iog 11 83 80 true (.bin .eql .other (τ 82) (.const (.int .i64 0))),
 iog 12 84 76 false (.pick (τ 80) (τ 83) (.const (.bool false))),
 iop 13 85 (.pick (τ 76) (.const (.bool true)) (τ 84))]) (
 .cond (τ 85) (
 .region [
 imv 0 86 0,
 icl 1 87 104 [τ 86],
 ist 2 3 15 87]) (
 .skip))) (
 .region [
 imv 0 88 13,
 ila 1 89 3 15,
 iop 2 90 (.bslice 3 1 [.bool false, .slice none 0 0, .slice none 0 0] [(0, 3, τ 89)]),
 iop 3 91 (.app 3 56 (τ 88) (τ 90)),
 imv 4 13 91])
def ir62_k15 : ICode :=
 .seq (
 .block 3 (
 .seq (
 .region [
 icl 0 71 64 [.const (.int .i64 0)],
 iop 1 15 (.alloc [.bool false, .slice none 0 0, .slice none 0 0]),
 ist 2 3 15 71]) ir62_k16)) (
 .region [
 imv 0 69 14,
 ibn 1 70 .add (τ 69) (.const (.int .i64 1)),
 imv 2 14 70])
def ir62_l0 : ICode :=
 .seq (
 .seq (
 .region [
 imv 0 66 14,
 imv 1 67 5,
 ibn 2 68 .lss (τ 66) (τ 67)]) (
 .cond (τ 68) (
 .skip) (
 .exit 2))) ir62_k15
def ir62_k14 : ICode :=
 .seq (
 .seq (
 .region [
 imi 0 14 0]) (
 .block 2 (
 .loop ir62_l0))) (
 .region [
 ifa 0 92 2 6,
 ild 1 93 92,
 imv 2 94 13,
 iop 3 95 (.bslice 1 1 [.slice none 0 0] [(0, 1, τ 94)]),
 iop 4 96 (.app 1 24 (τ 93) (τ 95)),
 ifa 5 97 2 6,
 ist 6 1 97 96])
def ir62_k13 : ICode :=
 .seq (
 .region [
 iop 0 13 (.mov (.const (.slice none 0 0)))]) ir62_k14
def ir62_k12 : ICode :=
 .seq (
 .region [
 ifa 0 60 3 6,
 ild 1 61 60,
 ila 2 62 3 12,
 iop 3 63 (.bslice 3 1 [.bool false, .slice none 0 0, .slice none 0 0] [(0, 3, τ 62)]),
 iop 4 64 (.app 3 56 (τ 61) (τ 63)),
 ifa 5 65 3 6,
 ist 6 1 65 64]) ir62_k13
def ir62_k11 : ICode :=
 .seq (
 .seq (
 .region [
 imv 0 50 8,
 ibn 1 51 .add (τ 50) (.const (.int .i64 1)),
 imv 2 52 5,
 ibn 3 53 .lss (τ 51) (τ 52),
 imv 4 54 53,
 iog 5 55 54 true (.mov (τ 0)),
 iog 6 56 54 true (.call 49 [τ 55, .const (.int .i64 3)]),
 iog 7 57 54 true (.bin .eql .other (τ 56) (.const (.int .i64 0))),
 iop 8 58 (.pick (τ 54) (τ 57) (.const (.bool false)))]) (
 .cond (τ 58) (
 .region [
 icl 0 59 64 [.const (.int .i64 0)],
 ist 1 3 12 59]) (
 .skip))) ir62_k12
def ir62_k10 : ICode :=
 .seq (
 .region [
 imv 0 48 0,
 icl 1 49 104 [τ 48],
 iop 2 12 (.alloc [.bool false, .slice none 0 0, .slice none 0 0]),
 ist 3 3 12 49]) ir62_k11
def ir62_k9 : ICode :=
 .seq (
 .region [
 ifa 0 42 1 6,
 ild 1 43 42,
 ila 2 44 3 10,
 iop 3 45 (.bslice 3 1 [.bool false, .slice none 0 0, .slice none 0 0] [(0, 3, τ 44)]),
 iop 4 46 (.app 3 56 (τ 43) (τ 45)),
 ifa 5 47 1 6,
 ist 6 1 47 46]) ir62_k10
def ir62_k8 : ICode :=
 .seq (
 .region [
 imv 0 38 9,
 icl 1 39 67 [τ 38, .const (.int .i64 8)],
 imv 2 37 39,
 iex 3 40 0 37,
 iex 4 41 1 37,
 iop 5 10 (.alloc [.bool false, .slice none 0 0, .slice none 0 0]),
 ist 6 3 10 40,
 imv 7 11 41]) ir62_k9
def ir62_k7 : ICode :=
 .seq (
 .region [
 imv 0 34 7,
 imv 1 35 9,
 ibn 2 36 .sub (τ 34) (τ 35),
 imv 3 7 36]) ir62_k8
def ir62_k6 : ICode :=
 .seq (
 .seq (
 .region [
 imv 0 26 8,
 ibn 1 27 .add (τ 26) (.const (.int .i64 1)),
 imv 2 28 5,
 ibn 3 29 .lss (τ 27) (τ 28)]) (
 .cond (τ 29) (
 .region [
 imv 0 30 0,
 imv 1 31 7,
 ibn 2 32 .add (τ 31) (.const (.int .i64 1)),
 icl 3 33 49 [τ 30, τ 32],
 imv 4 9 33]) (
 .skip))) ir62_k7
def ir62_k5 : ICode :=
 .seq (
 .block 1 (
 .seq (
 .region [
 imv 0 25 7,
 imv 1 9 25]) ir62_k6)) (
 .region [
 imv 0 23 8,
 ibn 1 24 .add (τ 23) (.const (.int .i64 1)),
 imv 2 8 24])
def ir62_l1 : ICode :=
 .seq (
 .seq (
 .region [
 imv 0 20 8,
 imv 1 21 5,
 ibn 2 22 .lss (τ 20) (τ 21)]) (
 .cond (τ 22) (
 .skip) (
 .exit 0))) ir62_k5
def ir62_k17 : ICode :=
 .seq (
 .region [
 ila 0 98 4 6,
 ist 1 4 4 98]) (
 .ret)
def ir62_k4 : ICode :=
 .seq (
 .seq (
 .region [
 imi 0 8 0]) (
 .block 0 (
 .loop ir62_l1))) ir62_k17
def ir62_k3 : ICode :=
 .seq (
 .region [
 imi 0 7 8]) ir62_k4
def ir62_k2 : ICode :=
 .seq (
 .region [
 iop 0 6 (.alloc [.string ⟨#[]⟩, .slice none 0 0, .slice none 0 0, .slice none 0 0])]) ir62_k3
def ir62_k1 : ICode :=
 .seq (
 .region [
 imv 0 16 0,
 imv 1 17 1,
 icl 2 18 49 [τ 16, τ 17],
 ibn 3 19 .add (.const (.int .i64 1)) (τ 18),
 imv 4 5 19]) ir62_k2
def ir62_b : ICode :=
 .seq (
 .region [
 iop 0 4 (.alloc [.string ⟨#[]⟩, .slice none 0 0, .slice none 0 0, .slice none 0 0])]) ir62_k1
def ir62 : IFunc := ⟨99, [.cell 4 true 4], ir62_b⟩
theorem ir62_eq : cFunc Tryz.prog 62 = some ir62 := by kernel_rfl
theorem call62 {args : List Value} {m : Mem} {Φ : Value → Mem → Prop} (h : args.length ≤ 99) : WPCall Tryz.prog 62 args m Φ = WP Tryz.prog ir62_b (initσ args) m (retK [.cell 4 true 4] Φ) := wpCall_def ir62_eq h
def ir63_k1 : ICode :=
 .seq (
 .region [
 imv 0 5 0,
 imv 1 6 1,
 icl 2 7 105 [τ 6],
 ibn 3 8 .add (τ 5) (τ 7),
 imv 4 4 8]) (
 .ret)
def ir63_b : ICode :=
 .seq (
 .region [
 iop 0 4 (.mov (.const (.string ⟨#[]⟩)))]) ir63_k1
def ir63 : IFunc := ⟨9, [.tmp 4], ir63_b⟩
theorem ir63_eq : cFunc Tryz.prog 63 = some ir63 := by kernel_rfl
theorem call63 {args : List Value} {m : Mem} {Φ : Value → Mem → Prop} (h : args.length ≤ 9) : WPCall Tryz.prog 63 args m Φ = WP Tryz.prog ir63_b (initσ args) m (retK [.tmp 4] Φ) := wpCall_def ir63_eq h
def ir65_k8 : ICode :=
 .seq (
 .region [
 imv 0 107 1,
 imv 1 108 1,
 iop 2 109 (.nilck (τ 108)),
 ifa 3 110 3 109,
 ild 4 111 110,
 ila 5 112 7 11,
 iop 6 113 (.bslice 7 1 [.string ⟨#[]⟩, .int .i64 0, .int .i64 0, .int .i64 0, .bool false, .slice none 0 0, .slice none 0 0] [(0, 7, τ 112)]),
 iop 7 114 (.app 7 96 (τ 111) (τ 113)),
 iop 8 115 (.nilck (τ 107)),
 ifa 9 116 3 115,
 ist 10 1 116 114]) (
 .region [
 imv 0 117 0,
 imv 1 118 1,
 imv 2 119 1,
 iop 3 120 (.nilck (τ 119)),
 ifa 4 121 3 120,
 ild 5 122 121,
 iln 6 123 122,
 ibn 7 124 .sub (τ 123) (.const (.int .i64 1)),
 imv 8 125 3,
 icl 9 126 65 [τ 117, τ 118, τ 124, τ 125]])
def ir65_k7 : ICode :=
 .seq (
 .seq (
 .region [
 imv 0 96 0,
 icl 1 97 49 [τ 96, .const (.int .i64 3)],
 ibn 2 98 .eql (τ 97) (.const (.int .i64 0))]) (
 .cond (τ 98) (
 .region [
 imv 0 100 0,
 icl 1 101 49 [τ 100, .const (.int .i64 6)],
 ibn 2 102 .add (.const (.int .i64 2)) (τ 101),
 icl 3 103 67 [.const (.int .i64 1), τ 102],
 imv 4 99 103,
 iex 5 104 0 99,
 iex 6 105 1 99,
 ifa 7 106 4 11,
 ist 8 3 106 104]) (
 .skip))) ir65_k8
def ir65_k6 : ICode :=
 .seq (
 .region [
 imv 0 79 8,
 iop 1 80 (.idxStr (.const (.string ⟨#[45, 115, 114, 107, 109]⟩)) (τ 79)),
 imv 4 83 1,
 iop 5 84 (.nilck (τ 83)),
 ifa 6 85 3 84,
 ild 7 86 85,
 iln 8 87 86,
 imv 10 89 8,
 imv 11 90 2,
 imv 12 91 0,
 iop 2 81 (.bslice 1 1 [.int .u8 0] [(0, 1, τ 80)]),
 iop 3 82 (.convBS (τ 81)),
 icl 9 88 63 [τ 82, τ 87],
 icl 13 92 49 [τ 91, .const (.int .i64 16)],
 ibn 14 93 .add (.const (.int .i64 1)) (τ 92),
 icl 15 94 64 [.const (.int .i64 0)],
 iop 16 95 (.build [.string ⟨#[]⟩, .int .i64 0, .int .i64 0, .int .i64 0, .bool false, .slice none 0 0, .slice none 0 0] [(0, 1, τ 88), (1, 1, τ 89), (2, 1, τ 90), (3, 1, τ 93), (4, 3, τ 94)]),
 iop 17 11 (.alloc [.string ⟨#[]⟩, .int .i64 0, .int .i64 0, .int .i64 0, .bool false, .slice none 0 0, .slice none 0 0]),
 ist 18 7 11 95]) ir65_k7
def ir65_k5 : ICode :=
 .seq (
 .seq (
 .region [
 imv 0 64 1,
 iop 1 65 (.nilck (τ 64)),
 ifa 2 66 4 65,
 ild 3 67 66,
 iln 4 68 67,
 imv 5 69 3,
 ibn 6 70 .geq (τ 68) (τ 69),
 imv 7 71 70,
 iog 8 72 71 false (.mov (τ 1)),
 iog 9 73 71 false (.nilck (τ 72)),
 iog 10 74 71 false (.faddr 3 (τ 73)),
 iog 11 75 71 false (.load false 1 (τ 74)),
 iog 12 76 71 false (.lenV (τ 75)),
 iog 13 77 71 false (.bin .geq .other (τ 76) (.const (.int .i64 35))),
 iop 14 78 (.pick (τ 71) (.const (.bool true)) (τ 77))]) (
 .cond (τ 78) (
 .ret) (
 .skip))) ir65_k6
def ir65_k4 : ICode :=
 .seq (
 .block 1 (
 .seq (
 .seq (
 .region [
 imv 0 31 8,
 ibn 1 32 .eql (τ 31) (.const (.int .i64 5))]) (
 .cond (τ 32) (
 .seq (
 .seq (
 .region [
 imv 0 33 1,
 iop 1 34 (.nilck (τ 33)),
 ifa 2 35 4 34,
 ild 3 36 35,
 iln 4 37 36,
 imv 5 38 3,
 ibn 6 39 .lss (τ 37) (τ 38)]) (
 .cond (τ 39) (
 .region [
 imv 0 40 1,
 imv 1 41 1,
 iop 2 42 (.nilck (τ 41)),
 ifa 3 43 4 42,
 ild 4 44 43,
 imv 5 45 1,
 iop 6 46 (.nilck (τ 45)),
 ifa 7 47 4 46,
 ild 8 48 47,
 iln 9 49 48,
 imv 11 51 0,
 imv 12 52 1,
 iop 13 53 (.nilck (τ 52)),
 ifa 14 54 2 53,
 ild 15 55 54,
 iln 16 56 55,
 imv 18 58 2,
 ioc 10 50 (.call 63 [.const (.string ⟨#[100]⟩), τ 49]) [(τ 54, τ 54), (τ 43, τ 43)],
 ioc 17 57 (.call 49 [τ 51, τ 56]) [(τ 43, τ 43)],
 iop 19 59 (.build [.string ⟨#[]⟩, .int .i64 0, .int .i64 0] [(0, 1, τ 50), (1, 1, τ 57), (2, 1, τ 58)]),
 iop 20 60 (.bslice 3 1 [.string ⟨#[]⟩, .int .i64 0, .int .i64 0] [(0, 3, τ 59)]),
 iop 21 61 (.app 3 32 (τ 44) (τ 60)),
 iop 22 62 (.nilck (τ 40)),
 ifa 23 63 4 62,
 ist 24 1 63 61]) (
 .skip))) (
 .exit 1)) (
 .skip))) ir65_k5)) (
 .region [
 imv 0 29 10,
 ibn 1 30 .add (τ 29) (.const (.int .i64 1)),
 imv 2 10 30])
def ir65_l0 : ICode :=
 .seq (
 .seq (
 .region [
 imv 0 26 10,
 imv 1 27 9,
 ibn 2 28 .lss (τ 26) (τ 27)]) (
 .cond (τ 28) (
 .skip) (
 .exit 0))) ir65_k4
def ir65_k3 : ICode :=
 .seq (
 .region [
 imi 0 10 0]) (
 .block 0 (
 .loop ir65_l0))
def ir65_k2 : ICode :=
 .seq (
 .seq (
 .region [
 imv 0 24 8,
 ibn 1 25 .eql (τ 24) (.const (.int .i64 2))]) (
 .cond (τ 25) (
 .region [
 imi 0 9 1]) (
 .skip))) ir65_k3
def ir65_k1 : ICode :=
 .seq (
 .region [
 imv 0 21 0,
 icl 1 22 49 [τ 21, .const (.int .i64 2)],
 ibn 2 23 .add (.const (.int .i64 1)) (τ 22),
 imv 3 9 23]) ir65_k2
def ir65_b : ICode :=
 .seq (
 .region [
 imv 0 12 1,
 iop 1 13 (.nilck (τ 12)),
 ifa 2 14 3 13,
 ild 3 15 14,
 imv 4 16 2,
 iia 5 17 7 15 16,
 ifa 6 18 1 17,
 ild 7 19 18,
 ibn 8 20 .add (τ 19) (.const (.int .i64 1)),
 imv 9 8 20]) ir65_k1
def ir65 : IFunc := ⟨127, [], ir65_b⟩
theorem ir65_eq : cFunc Tryz.prog 65 = some ir65 := by kernel_rfl
theorem call65 {args : List Value} {m : Mem} {Φ : Value → Mem → Prop} (h : args.length ≤ 127) : WPCall Tryz.prog 65 args m Φ = WP Tryz.prog ir65_b (initσ args) m (retK [] Φ) := wpCall_def ir65_eq h
def ir66_k3 : ICode :=
 .seq (
 .block 1 (
 .region [
 imv 0 13 5,
 imv 1 14 0,
 icl 2 15 104 [τ 14],
 iop 3 16 (.bslice 3 1 [.bool false, .slice none 0 0, .slice none 0 0] [(0, 3, τ 15)]),
 iop 4 17 (.app 3 56 (τ 13) (τ 16)),
 imv 5 5 17])) (
 .region [
 imv 0 11 6,
 ibn 1 12 .add (τ 11) (.const (.int .i64 1)),
 imv 2 6 12])
def ir66_l0 : ICode :=
 .seq (
 .seq (
 .region [
 imv 0 7 6,
 imv 1 8 1,
 iop 2 9 (.minmax true (τ 8) [.const (.int .i64 1)]),
 ibn 3 10 .lss (τ 7) (τ 9)]) (
 .cond (τ 10) (
 .skip) (
 .exit 0))) ir66_k3
def ir66_k4 : ICode :=
 .seq (
 .region [
 imv 0 18 5,
 imv 1 4 18]) (
 .ret)
def ir66_k2 : ICode :=
 .seq (
 .seq (
 .region [
 imi 0 6 0]) (
 .block 0 (
 .loop ir66_l0))) ir66_k4
def ir66_k1 : ICode :=
 .seq (
 .region [
 iop 0 5 (.mov (.const (.slice none 0 0)))]) ir66_k2
def ir66_b : ICode :=
 .seq (
 .region [
 iop 0 4 (.mov (.const (.slice none 0 0)))]) ir66_k1
def ir66 : IFunc := ⟨19, [.tmp 4], ir66_b⟩
theorem ir66_eq : cFunc Tryz.prog 66 = some ir66 := by kernel_rfl
theorem call66 {args : List Value} {m : Mem} {Φ : Value → Mem → Prop} (h : args.length ≤ 19) : WPCall Tryz.prog 66 args m Φ = WP Tryz.prog ir66_b (initσ args) m (retK [.tmp 4] Φ) := wpCall_def ir66_eq h
def ir104_k2 : ICode :=
 .seq (
 .region [
 ila 0 15 3 3,
 ist 1 3 2 15]) (
 .ret)
def ir104_k1 : ICode :=
 .seq (
 .region [
 imv 0 6 0,
 icl 1 7 49 [τ 6, .const (.int .i64 6)],
 ibn 2 8 .add (.const (.int .i64 1)) (τ 7),
 imv 3 9 0,
 icl 4 10 49 [τ 9, .const (.int .i64 8)],
 ibn 5 11 .add (.const (.int .i64 1)) (τ 10),
 icl 6 12 67 [τ 8, τ 11],
 imv 7 5 12,
 iex 8 13 0 5,
 iex 9 14 1 5,
 iop 10 3 (.alloc [.bool false, .slice none 0 0, .slice none 0 0]),
 ist 11 3 3 13,
 imv 12 4 14]) ir104_k2
def ir104_b : ICode :=
 .seq (
 .region [
 iop 0 2 (.alloc [.bool false, .slice none 0 0, .slice none 0 0])]) ir104_k1
def ir104 : IFunc := ⟨16, [.cell 2 true 3], ir104_b⟩
theorem ir104_eq : cFunc Tryz.prog 104 = some ir104 := by kernel_rfl
theorem call104 {args : List Value} {m : Mem} {Φ : Value → Mem → Prop} (h : args.length ≤ 16) : WPCall Tryz.prog 104 args m Φ = WP Tryz.prog ir104_b (initσ args) m (retK [.cell 2 true 3] Φ) := wpCall_def ir104_eq h
end Go.Proofs.YticjcminhkgabaaGreatDoor
