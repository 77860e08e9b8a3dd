/-
  NARROWER THAN 'FOR EVERY INPUT', by the rows' own cells (each row's printed sentence says how): TransitionMoved: laid · TransitionNetwork: laid · TransitionDrains: laid · TransitionStays: laid · TransitionBound: laid · TransitionLeast: laid · TransitionCheck: laid.
  DERIVED. THE GIVEN ROWS OF THIS SEAT. 7 by the template 'for every input the law returns true; each argument reads behind the call as it read before'; 0 by the template 'total and deterministic' (their statements: YticjcminhkgabaaGreatDoorTotals.lean).
  GIVEN WITH THE SEED: the statements are not yours to turn. If you find one false, say at which input.
  Laid BY PROGRAM, IN A SANDBOX (cutbox-rows.mjs): the forced cells as the released guide's own fill.sh prints them over the translation 7488a8c9b0c1d415… (all of the seat's roots in one cut). By AI agents, Wed Nov 11 2026. No macro, syntax, notation, axiom, sorry.
-/
import Derived.Test.YticjcminhkgabaaGreatDoorChecked
import GoSem.Claim
import GoSem.ClaimJoined
import GoSem.ClaimMapViews
import Derived.JoinedTies
import Derived.KernelRfl
namespace Go.Proofs.YticjcminhkgabaaGreatDoor
/- THE CELL 'sum', in the pinned program and in every row, IS THE sha256 OF THE DUMP (.gsa) THAT YticjcminhkgabaaGreatDoorProg.lean LOADS. Nothing in Lean hashes anything: it is a label: what it is worth is what the hold of that sum in a sandbox is worth. -/
noncomputable def Tryz.pinned : Pinned := { name := "yticjcminhkgabaagreatdoor", sum := "7488a8c9b0c1d415be0c43e4a4e61e7b1019d04423e90277dcc0345733665a35", checked := Tryz.checked }
namespace Rows
def none {H : Type} : Left H := { results := [], args := [] }

/- WHAT THE LISTED PACKAGE-LEVEL VARIABLES READ AS WHEN THE CALL BEGINS. Each datum BY PROGRAM (the guide's laid-datum.mjs) off the statement by which the dump's own 'gosem.cut.vars' lays the variable. In a bare row this is a premise. The card (YticjcminhkgabaaGreatDoorCards.lean) ties it to the program's text. -/
def laid_math_bits_deBruijn32tab {H : Type} : DataW H := .agg [.lit (.int .u8 0), .lit (.int .u8 1), .lit (.int .u8 28), .lit (.int .u8 2), .lit (.int .u8 29), .lit (.int .u8 14), .lit (.int .u8 24), .lit (.int .u8 3), .lit (.int .u8 30), .lit (.int .u8 22), .lit (.int .u8 20), .lit (.int .u8 15), .lit (.int .u8 25), .lit (.int .u8 17), .lit (.int .u8 4), .lit (.int .u8 8), .lit (.int .u8 31), .lit (.int .u8 27), .lit (.int .u8 13), .lit (.int .u8 23), .lit (.int .u8 21), .lit (.int .u8 19), .lit (.int .u8 16), .lit (.int .u8 7), .lit (.int .u8 26), .lit (.int .u8 12), .lit (.int .u8 18), .lit (.int .u8 6), .lit (.int .u8 11), .lit (.int .u8 5), .lit (.int .u8 10), .lit (.int .u8 9)]
def laid_math_bits_deBruijn64tab {H : Type} : DataW H := .agg [.lit (.int .u8 0), .lit (.int .u8 1), .lit (.int .u8 56), .lit (.int .u8 2), .lit (.int .u8 57), .lit (.int .u8 49), .lit (.int .u8 28), .lit (.int .u8 3), .lit (.int .u8 61), .lit (.int .u8 58), .lit (.int .u8 42), .lit (.int .u8 50), .lit (.int .u8 38), .lit (.int .u8 29), .lit (.int .u8 17), .lit (.int .u8 4), .lit (.int .u8 62), .lit (.int .u8 47), .lit (.int .u8 59), .lit (.int .u8 36), .lit (.int .u8 45), .lit (.int .u8 43), .lit (.int .u8 51), .lit (.int .u8 22), .lit (.int .u8 53), .lit (.int .u8 39), .lit (.int .u8 33), .lit (.int .u8 30), .lit (.int .u8 24), .lit (.int .u8 18), .lit (.int .u8 12), .lit (.int .u8 5), .lit (.int .u8 63), .lit (.int .u8 55), .lit (.int .u8 48), .lit (.int .u8 27), .lit (.int .u8 60), .lit (.int .u8 41), .lit (.int .u8 37), .lit (.int .u8 16), .lit (.int .u8 46), .lit (.int .u8 35), .lit (.int .u8 44), .lit (.int .u8 21), .lit (.int .u8 52), .lit (.int .u8 32), .lit (.int .u8 23), .lit (.int .u8 11), .lit (.int .u8 54), .lit (.int .u8 26), .lit (.int .u8 40), .lit (.int .u8 15), .lit (.int .u8 34), .lit (.int .u8 20), .lit (.int .u8 31), .lit (.int .u8 10), .lit (.int .u8 25), .lit (.int .u8 14), .lit (.int .u8 19), .lit (.int .u8 9), .lit (.int .u8 13), .lit (.int .u8 8), .lit (.int .u8 7), .lit (.int .u8 6)]
def laid_internal_strconv_uint64pow10 {H : Type} : DataW H := .agg [.lit (.int .u64 1), .lit (.int .u64 10), .lit (.int .u64 100), .lit (.int .u64 1000), .lit (.int .u64 10000), .lit (.int .u64 100000), .lit (.int .u64 1000000), .lit (.int .u64 10000000), .lit (.int .u64 100000000), .lit (.int .u64 1000000000), .lit (.int .u64 10000000000), .lit (.int .u64 100000000000), .lit (.int .u64 1000000000000), .lit (.int .u64 10000000000000), .lit (.int .u64 100000000000000), .lit (.int .u64 1000000000000000), .lit (.int .u64 10000000000000000), .lit (.int .u64 100000000000000000), .lit (.int .u64 1000000000000000000), .lit (.int .u64 10000000000000000000)]

/-- 'drydocklaw15.TransitionMoved': WHATEVER THE INPUT: true; the input reads as it did. -/
def transitionMovedSpec : ChangeSpec := { name := "transitionMoved", fn := fun _ => fun
  | [d1, d2] => { results := [.lit (.bool true)], args := [d1, d2] }
  | _ => none }
def transitionMovedRow : OpenClaim := { program := "yticjcminhkgabaagreatdoor", sum := "7488a8c9b0c1d415be0c43e4a4e61e7b1019d04423e90277dcc0345733665a35", func := "drydock/drydocklaw15.TransitionMoved", spec := "transitionMoved", unfollowed := true, recurses := true, named := ["internal/strconv.uint64pow10", "math/bits.deBruijn32tab", "math/bits.deBruijn64tab"], apart := false, laid := [("math/bits.deBruijn32tab", laid_math_bits_deBruijn32tab), ("math/bits.deBruijn64tab", laid_math_bits_deBruijn64tab), ("internal/strconv.uint64pow10", laid_internal_strconv_uint64pow10)] }
def TransitionMovedSaid : Prop := transitionMovedRow.holds Tryz.pinned (OpenSpec.ofChange transitionMovedSpec)

/-- ITS FALSE NEIGHBOUR: 'it returns false'. Refute it at one input. -/
def transitionMovedWrong : ChangeSpec := { name := "transitionMoved", fn := fun _ => fun
  | [d1, d2] => { results := [.lit (.bool false)], args := [d1, d2] }
  | _ => none }
def TransitionMovedWrongFalsely : Prop := transitionMovedRow.holds Tryz.pinned (OpenSpec.ofChange transitionMovedWrong)

/-- 'drydocklaw15.TransitionNetwork': WHATEVER THE INPUT: true; the input reads as it did. -/
def transitionNetworkSpec : ChangeSpec := { name := "transitionNetwork", fn := fun _ => fun
  | [d1, d2] => { results := [.lit (.bool true)], args := [d1, d2] }
  | _ => none }
def transitionNetworkRow : OpenClaim := { program := "yticjcminhkgabaagreatdoor", sum := "7488a8c9b0c1d415be0c43e4a4e61e7b1019d04423e90277dcc0345733665a35", func := "drydock/drydocklaw15.TransitionNetwork", spec := "transitionNetwork", unfollowed := true, recurses := true, named := ["internal/strconv.uint64pow10", "math/bits.deBruijn32tab", "math/bits.deBruijn64tab"], apart := false, laid := [("math/bits.deBruijn32tab", laid_math_bits_deBruijn32tab), ("math/bits.deBruijn64tab", laid_math_bits_deBruijn64tab), ("internal/strconv.uint64pow10", laid_internal_strconv_uint64pow10)] }
def TransitionNetworkSaid : Prop := transitionNetworkRow.holds Tryz.pinned (OpenSpec.ofChange transitionNetworkSpec)

/-- ITS FALSE NEIGHBOUR: 'it returns false'. Refute it at one input. -/
def transitionNetworkWrong : ChangeSpec := { name := "transitionNetwork", fn := fun _ => fun
  | [d1, d2] => { results := [.lit (.bool false)], args := [d1, d2] }
  | _ => none }
def TransitionNetworkWrongFalsely : Prop := transitionNetworkRow.holds Tryz.pinned (OpenSpec.ofChange transitionNetworkWrong)

/-- 'drydocklaw15.TransitionDrains': WHATEVER THE INPUT: true; the input reads as it did. -/
def transitionDrainsSpec : ChangeSpec := { name := "transitionDrains", fn := fun _ => fun
  | [d1, d2, d3] => { results := [.lit (.bool true)], args := [d1, d2, d3] }
  | _ => none }
def transitionDrainsRow : OpenClaim := { program := "yticjcminhkgabaagreatdoor", sum := "7488a8c9b0c1d415be0c43e4a4e61e7b1019d04423e90277dcc0345733665a35", func := "drydock/drydocklaw15.TransitionDrains", spec := "transitionDrains", unfollowed := true, recurses := true, named := ["internal/strconv.uint64pow10", "math/bits.deBruijn32tab", "math/bits.deBruijn64tab"], apart := false, laid := [("math/bits.deBruijn32tab", laid_math_bits_deBruijn32tab), ("math/bits.deBruijn64tab", laid_math_bits_deBruijn64tab), ("internal/strconv.uint64pow10", laid_internal_strconv_uint64pow10)] }
def TransitionDrainsSaid : Prop := transitionDrainsRow.holds Tryz.pinned (OpenSpec.ofChange transitionDrainsSpec)

/-- ITS FALSE NEIGHBOUR: 'it returns false'. Refute it at one input. -/
def transitionDrainsWrong : ChangeSpec := { name := "transitionDrains", fn := fun _ => fun
  | [d1, d2, d3] => { results := [.lit (.bool false)], args := [d1, d2, d3] }
  | _ => none }
def TransitionDrainsWrongFalsely : Prop := transitionDrainsRow.holds Tryz.pinned (OpenSpec.ofChange transitionDrainsWrong)

/-- 'drydocklaw15.TransitionStays': WHATEVER THE INPUT: true; the input reads as it did. -/
def transitionStaysSpec : ChangeSpec := { name := "transitionStays", fn := fun _ => fun
  | [d] => { results := [.lit (.bool true)], args := [d] }
  | _ => none }
def transitionStaysRow : OpenClaim := { program := "yticjcminhkgabaagreatdoor", sum := "7488a8c9b0c1d415be0c43e4a4e61e7b1019d04423e90277dcc0345733665a35", func := "drydock/drydocklaw15.TransitionStays", spec := "transitionStays", unfollowed := true, recurses := true, named := ["internal/strconv.uint64pow10", "math/bits.deBruijn32tab", "math/bits.deBruijn64tab"], apart := false, laid := [("math/bits.deBruijn32tab", laid_math_bits_deBruijn32tab), ("math/bits.deBruijn64tab", laid_math_bits_deBruijn64tab), ("internal/strconv.uint64pow10", laid_internal_strconv_uint64pow10)] }
def TransitionStaysSaid : Prop := transitionStaysRow.holds Tryz.pinned (OpenSpec.ofChange transitionStaysSpec)

/-- ITS FALSE NEIGHBOUR: 'it returns false'. Refute it at one input. -/
def transitionStaysWrong : ChangeSpec := { name := "transitionStays", fn := fun _ => fun
  | [d] => { results := [.lit (.bool false)], args := [d] }
  | _ => none }
def TransitionStaysWrongFalsely : Prop := transitionStaysRow.holds Tryz.pinned (OpenSpec.ofChange transitionStaysWrong)

/-- 'drydocklaw15.TransitionBound': WHATEVER THE INPUT: true; the input reads as it did. -/
def transitionBoundSpec : ChangeSpec := { name := "transitionBound", fn := fun _ => fun
  | [d1, d2] => { results := [.lit (.bool true)], args := [d1, d2] }
  | _ => none }
def transitionBoundRow : OpenClaim := { program := "yticjcminhkgabaagreatdoor", sum := "7488a8c9b0c1d415be0c43e4a4e61e7b1019d04423e90277dcc0345733665a35", func := "drydock/drydocklaw15.TransitionBound", spec := "transitionBound", unfollowed := true, recurses := true, named := ["internal/strconv.uint64pow10", "math/bits.deBruijn32tab", "math/bits.deBruijn64tab"], apart := false, laid := [("math/bits.deBruijn32tab", laid_math_bits_deBruijn32tab), ("math/bits.deBruijn64tab", laid_math_bits_deBruijn64tab), ("internal/strconv.uint64pow10", laid_internal_strconv_uint64pow10)] }
def TransitionBoundSaid : Prop := transitionBoundRow.holds Tryz.pinned (OpenSpec.ofChange transitionBoundSpec)

/-- ITS FALSE NEIGHBOUR: 'it returns false'. Refute it at one input. -/
def transitionBoundWrong : ChangeSpec := { name := "transitionBound", fn := fun _ => fun
  | [d1, d2] => { results := [.lit (.bool false)], args := [d1, d2] }
  | _ => none }
def TransitionBoundWrongFalsely : Prop := transitionBoundRow.holds Tryz.pinned (OpenSpec.ofChange transitionBoundWrong)

/-- 'drydocklaw15.TransitionLeast': WHATEVER THE INPUT: true; the input reads as it did. -/
def transitionLeastSpec : ChangeSpec := { name := "transitionLeast", fn := fun _ => fun
  | [d] => { results := [.lit (.bool true)], args := [d] }
  | _ => none }
def transitionLeastRow : OpenClaim := { program := "yticjcminhkgabaagreatdoor", sum := "7488a8c9b0c1d415be0c43e4a4e61e7b1019d04423e90277dcc0345733665a35", func := "drydock/drydocklaw15.TransitionLeast", spec := "transitionLeast", unfollowed := true, recurses := true, named := ["internal/strconv.uint64pow10", "math/bits.deBruijn32tab", "math/bits.deBruijn64tab"], apart := false, laid := [("math/bits.deBruijn32tab", laid_math_bits_deBruijn32tab), ("math/bits.deBruijn64tab", laid_math_bits_deBruijn64tab), ("internal/strconv.uint64pow10", laid_internal_strconv_uint64pow10)] }
def TransitionLeastSaid : Prop := transitionLeastRow.holds Tryz.pinned (OpenSpec.ofChange transitionLeastSpec)

/-- ITS FALSE NEIGHBOUR: 'it returns false'. Refute it at one input. -/
def transitionLeastWrong : ChangeSpec := { name := "transitionLeast", fn := fun _ => fun
  | [d] => { results := [.lit (.bool false)], args := [d] }
  | _ => none }
def TransitionLeastWrongFalsely : Prop := transitionLeastRow.holds Tryz.pinned (OpenSpec.ofChange transitionLeastWrong)

/-- 'drydocklaw15.TransitionCheck': WHATEVER THE INPUT: true; the input reads as it did. -/
def transitionCheckSpec : ChangeSpec := { name := "transitionCheck", fn := fun _ => fun
  | [d1, d2, d3, d4, d5] => { results := [.lit (.bool true)], args := [d1, d2, d3, d4, d5] }
  | _ => none }
def transitionCheckRow : OpenClaim := { program := "yticjcminhkgabaagreatdoor", sum := "7488a8c9b0c1d415be0c43e4a4e61e7b1019d04423e90277dcc0345733665a35", func := "drydock/drydocklaw15.TransitionCheck", spec := "transitionCheck", unfollowed := true, recurses := true, named := ["internal/strconv.uint64pow10", "math/bits.deBruijn32tab", "math/bits.deBruijn64tab"], apart := false, laid := [("math/bits.deBruijn32tab", laid_math_bits_deBruijn32tab), ("math/bits.deBruijn64tab", laid_math_bits_deBruijn64tab), ("internal/strconv.uint64pow10", laid_internal_strconv_uint64pow10)] }
def TransitionCheckSaid : Prop := transitionCheckRow.holds Tryz.pinned (OpenSpec.ofChange transitionCheckSpec)

/-- ITS FALSE NEIGHBOUR: 'it returns false'. Refute it at one input. -/
def transitionCheckWrong : ChangeSpec := { name := "transitionCheck", fn := fun _ => fun
  | [d1, d2, d3, d4, d5] => { results := [.lit (.bool false)], args := [d1, d2, d3, d4, d5] }
  | _ => none }
def TransitionCheckWrongFalsely : Prop := transitionCheckRow.holds Tryz.pinned (OpenSpec.ofChange transitionCheckWrong)

/- THE SECOND FORM. 'bulk': how many values and letters a reading holds, each counted each time it is reached (what is shared counts as often as it is met; a slice's spare places count too). A statement '..UptoSaid' is the law's where the arguments, and the package variables that the reading takes, are together of bulk at most 1048576: NARROWER than '..Said'. Prove '..Said' where nothing that the law and all that it calls make is longer than what came in: it says more and counts as full. Else prove '..UptoSaid'. A law counts once. -/
mutual
def uptoBulk {H : Type} : DataW H → Nat
  | .lit (.string bytes) => bytes.length + 1
  | .lit _ => 1
  | .nil => 1
  | .ptr d => uptoBulk d + 1
  | .slice elems spare => uptoBulkAll elems + uptoBulkAll spare + 1
  | .agg parts => uptoBulkAll parts + 1
  | .iface _ d => uptoBulk d + 1
  | .map entries => uptoBulkEntries entries + 1
  | .held _ => 1
def uptoBulkAll {H : Type} : List (DataW H) → Nat
  | [] => 0
  | d :: r => uptoBulk d + uptoBulkAll r
def uptoBulkEntries {H : Type} : List (Lit × DataW H) → Nat
  | [] => 0
  | x :: r => uptoBulkEntry x + uptoBulkEntries r
def uptoBulkEntry {H : Type} : Lit × DataW H → Nat
  | (.string bytes, d) => bytes.length + uptoBulk d + 1
  | (_, d) => uptoBulk d + 1
 end
def uptoSmall : (H : Type) → List (DataW H) → Bool := fun _ ds => decide (uptoBulkAll ds ≤ 1048576)
def OpenSpec.upto (s : _root_.Go.ChangeSpec) : _root_.Go.OpenSpec := { _root_.Go.OpenSpec.ofChange s with cond := some uptoSmall }

/-- 'drydocklaw15.TransitionMoved', WHERE WHAT IT READS IS OF BULK AT MOST 1048576: true; the input reads as it did. -/
def transitionMovedUptoRow : OpenClaim := { program := "yticjcminhkgabaagreatdoor", sum := "7488a8c9b0c1d415be0c43e4a4e61e7b1019d04423e90277dcc0345733665a35", func := "drydock/drydocklaw15.TransitionMoved", spec := "transitionMoved", unfollowed := true, recurses := true, named := ["internal/strconv.uint64pow10", "math/bits.deBruijn32tab", "math/bits.deBruijn64tab"], apart := false, laid := [("math/bits.deBruijn32tab", laid_math_bits_deBruijn32tab), ("math/bits.deBruijn64tab", laid_math_bits_deBruijn64tab), ("internal/strconv.uint64pow10", laid_internal_strconv_uint64pow10)], narrowed := true }
def TransitionMovedUptoSaid : Prop := transitionMovedUptoRow.holds Tryz.pinned (OpenSpec.upto transitionMovedSpec)

/-- 'drydocklaw15.TransitionNetwork', WHERE WHAT IT READS IS OF BULK AT MOST 1048576: true; the input reads as it did. -/
def transitionNetworkUptoRow : OpenClaim := { program := "yticjcminhkgabaagreatdoor", sum := "7488a8c9b0c1d415be0c43e4a4e61e7b1019d04423e90277dcc0345733665a35", func := "drydock/drydocklaw15.TransitionNetwork", spec := "transitionNetwork", unfollowed := true, recurses := true, named := ["internal/strconv.uint64pow10", "math/bits.deBruijn32tab", "math/bits.deBruijn64tab"], apart := false, laid := [("math/bits.deBruijn32tab", laid_math_bits_deBruijn32tab), ("math/bits.deBruijn64tab", laid_math_bits_deBruijn64tab), ("internal/strconv.uint64pow10", laid_internal_strconv_uint64pow10)], narrowed := true }
def TransitionNetworkUptoSaid : Prop := transitionNetworkUptoRow.holds Tryz.pinned (OpenSpec.upto transitionNetworkSpec)

/-- 'drydocklaw15.TransitionDrains', WHERE WHAT IT READS IS OF BULK AT MOST 1048576: true; the input reads as it did. -/
def transitionDrainsUptoRow : OpenClaim := { program := "yticjcminhkgabaagreatdoor", sum := "7488a8c9b0c1d415be0c43e4a4e61e7b1019d04423e90277dcc0345733665a35", func := "drydock/drydocklaw15.TransitionDrains", spec := "transitionDrains", unfollowed := true, recurses := true, named := ["internal/strconv.uint64pow10", "math/bits.deBruijn32tab", "math/bits.deBruijn64tab"], apart := false, laid := [("math/bits.deBruijn32tab", laid_math_bits_deBruijn32tab), ("math/bits.deBruijn64tab", laid_math_bits_deBruijn64tab), ("internal/strconv.uint64pow10", laid_internal_strconv_uint64pow10)], narrowed := true }
def TransitionDrainsUptoSaid : Prop := transitionDrainsUptoRow.holds Tryz.pinned (OpenSpec.upto transitionDrainsSpec)

/-- 'drydocklaw15.TransitionStays', WHERE WHAT IT READS IS OF BULK AT MOST 1048576: true; the input reads as it did. -/
def transitionStaysUptoRow : OpenClaim := { program := "yticjcminhkgabaagreatdoor", sum := "7488a8c9b0c1d415be0c43e4a4e61e7b1019d04423e90277dcc0345733665a35", func := "drydock/drydocklaw15.TransitionStays", spec := "transitionStays", unfollowed := true, recurses := true, named := ["internal/strconv.uint64pow10", "math/bits.deBruijn32tab", "math/bits.deBruijn64tab"], apart := false, laid := [("math/bits.deBruijn32tab", laid_math_bits_deBruijn32tab), ("math/bits.deBruijn64tab", laid_math_bits_deBruijn64tab), ("internal/strconv.uint64pow10", laid_internal_strconv_uint64pow10)], narrowed := true }
def TransitionStaysUptoSaid : Prop := transitionStaysUptoRow.holds Tryz.pinned (OpenSpec.upto transitionStaysSpec)

/-- 'drydocklaw15.TransitionBound', WHERE WHAT IT READS IS OF BULK AT MOST 1048576: true; the input reads as it did. -/
def transitionBoundUptoRow : OpenClaim := { program := "yticjcminhkgabaagreatdoor", sum := "7488a8c9b0c1d415be0c43e4a4e61e7b1019d04423e90277dcc0345733665a35", func := "drydock/drydocklaw15.TransitionBound", spec := "transitionBound", unfollowed := true, recurses := true, named := ["internal/strconv.uint64pow10", "math/bits.deBruijn32tab", "math/bits.deBruijn64tab"], apart := false, laid := [("math/bits.deBruijn32tab", laid_math_bits_deBruijn32tab), ("math/bits.deBruijn64tab", laid_math_bits_deBruijn64tab), ("internal/strconv.uint64pow10", laid_internal_strconv_uint64pow10)], narrowed := true }
def TransitionBoundUptoSaid : Prop := transitionBoundUptoRow.holds Tryz.pinned (OpenSpec.upto transitionBoundSpec)

/-- 'drydocklaw15.TransitionLeast', WHERE WHAT IT READS IS OF BULK AT MOST 1048576: true; the input reads as it did. -/
def transitionLeastUptoRow : OpenClaim := { program := "yticjcminhkgabaagreatdoor", sum := "7488a8c9b0c1d415be0c43e4a4e61e7b1019d04423e90277dcc0345733665a35", func := "drydock/drydocklaw15.TransitionLeast", spec := "transitionLeast", unfollowed := true, recurses := true, named := ["internal/strconv.uint64pow10", "math/bits.deBruijn32tab", "math/bits.deBruijn64tab"], apart := false, laid := [("math/bits.deBruijn32tab", laid_math_bits_deBruijn32tab), ("math/bits.deBruijn64tab", laid_math_bits_deBruijn64tab), ("internal/strconv.uint64pow10", laid_internal_strconv_uint64pow10)], narrowed := true }
def TransitionLeastUptoSaid : Prop := transitionLeastUptoRow.holds Tryz.pinned (OpenSpec.upto transitionLeastSpec)

/-- 'drydocklaw15.TransitionCheck', WHERE WHAT IT READS IS OF BULK AT MOST 1048576: true; the input reads as it did. -/
def transitionCheckUptoRow : OpenClaim := { program := "yticjcminhkgabaagreatdoor", sum := "7488a8c9b0c1d415be0c43e4a4e61e7b1019d04423e90277dcc0345733665a35", func := "drydock/drydocklaw15.TransitionCheck", spec := "transitionCheck", unfollowed := true, recurses := true, named := ["internal/strconv.uint64pow10", "math/bits.deBruijn32tab", "math/bits.deBruijn64tab"], apart := false, laid := [("math/bits.deBruijn32tab", laid_math_bits_deBruijn32tab), ("math/bits.deBruijn64tab", laid_math_bits_deBruijn64tab), ("internal/strconv.uint64pow10", laid_internal_strconv_uint64pow10)], narrowed := true }
def TransitionCheckUptoSaid : Prop := transitionCheckUptoRow.holds Tryz.pinned (OpenSpec.upto transitionCheckSpec)

end Rows
end Go.Proofs.YticjcminhkgabaaGreatDoor
