/-
  No cell of these rows narrows 'for every input' (looked for: loops, veiled, ifaces, maps, wideKeys, modest, calm, conditions, laid).
  DERIVED. THE GIVEN ROWS OF THIS SEAT. 14 by the template 'for every input the law returns true; each argument reads behind the call as it read before'; 0 by the template 'total and deterministic' (their statements: YtmmkkggfmigppaaGreatTotals.lean).
  GIVEN WITH THE SEED: the statements are not yours to turn. If you find one false, say at which input.
  Laid BY PROGRAM, IN A SANDBOX (cutbox-rows.mjs): the forced cells as the released guide's own fill.sh prints them over the translation 625b5e12e1618317… (all of the seat's roots in one cut). By AI agents, Wed Nov 11 2026. No macro, syntax, notation, axiom, sorry.
-/
import Derived.Test.YtmmkkggfmigppaaGreatChecked
import GoSem.Claim
import GoSem.ClaimJoined
import GoSem.ClaimMapViews
import Derived.JoinedTies
import Derived.KernelRfl
namespace Go.Proofs.YtmmkkggfmigppaaGreat
/- THE CELL 'sum', in the pinned program and in every row, IS THE sha256 OF THE DUMP (.gsa) THAT YtmmkkggfmigppaaGreatProg.lean LOADS. Nothing in Lean hashes anything: it is a label: what it is worth is what the hold of that sum in a sandbox is worth. -/
noncomputable def Tryz.pinned : Pinned := { name := "ytmmkkggfmigppaagreat", sum := "625b5e12e16183176786989233e1963139abdca489541916b5987d93b30a9a4b", checked := Tryz.checked }
namespace Rows
def none {H : Type} : Left H := { results := [], args := [] }

/-- 'drydocklaw36.DrainRooms': WHATEVER THE INPUT: true; the input reads as it did. -/
def drainRoomsSpec : ChangeSpec := { name := "drainRooms", fn := fun _ => fun
  | [d1, d2, d3, d4] => { results := [.lit (.bool true)], args := [d1, d2, d3, d4] }
  | _ => none }
def drainRoomsRow : OpenClaim := { program := "ytmmkkggfmigppaagreat", sum := "625b5e12e16183176786989233e1963139abdca489541916b5987d93b30a9a4b", func := "drydock/drydocklaw36.DrainRooms", spec := "drainRooms", inPlace := ["slices.overlaps[int]"], unfollowed := true, recurses := true, plainKeys := false, apart := false }
def DrainRoomsSaid : Prop := drainRoomsRow.holds Tryz.pinned (OpenSpec.ofChange drainRoomsSpec)

/-- ITS FALSE NEIGHBOUR: 'it returns false'. Refute it at one input. -/
def drainRoomsWrong : ChangeSpec := { name := "drainRooms", fn := fun _ => fun
  | [d1, d2, d3, d4] => { results := [.lit (.bool false)], args := [d1, d2, d3, d4] }
  | _ => none }
def DrainRoomsWrongFalsely : Prop := drainRoomsRow.holds Tryz.pinned (OpenSpec.ofChange drainRoomsWrong)

/-- 'drydocklaw36.DrainReviews': WHATEVER THE INPUT: true; the input reads as it did. -/
def drainReviewsSpec : ChangeSpec := { name := "drainReviews", fn := fun _ => fun
  | [d1, d2, d3, d4] => { results := [.lit (.bool true)], args := [d1, d2, d3, d4] }
  | _ => none }
def drainReviewsRow : OpenClaim := { program := "ytmmkkggfmigppaagreat", sum := "625b5e12e16183176786989233e1963139abdca489541916b5987d93b30a9a4b", func := "drydock/drydocklaw36.DrainReviews", spec := "drainReviews", inPlace := ["slices.overlaps[int]"], unfollowed := true, recurses := true, plainKeys := false, apart := false }
def DrainReviewsSaid : Prop := drainReviewsRow.holds Tryz.pinned (OpenSpec.ofChange drainReviewsSpec)

/-- ITS FALSE NEIGHBOUR: 'it returns false'. Refute it at one input. -/
def drainReviewsWrong : ChangeSpec := { name := "drainReviews", fn := fun _ => fun
  | [d1, d2, d3, d4] => { results := [.lit (.bool false)], args := [d1, d2, d3, d4] }
  | _ => none }
def DrainReviewsWrongFalsely : Prop := drainReviewsRow.holds Tryz.pinned (OpenSpec.ofChange drainReviewsWrong)

/-- 'drydocklaw36.DrainPlays': WHATEVER THE INPUT: true; the input reads as it did. -/
def drainPlaysSpec : ChangeSpec := { name := "drainPlays", fn := fun _ => fun
  | [d1, d2, d3] => { results := [.lit (.bool true)], args := [d1, d2, d3] }
  | _ => none }
def drainPlaysRow : OpenClaim := { program := "ytmmkkggfmigppaagreat", sum := "625b5e12e16183176786989233e1963139abdca489541916b5987d93b30a9a4b", func := "drydock/drydocklaw36.DrainPlays", spec := "drainPlays", inPlace := ["slices.overlaps[int]"], unfollowed := true, recurses := true, plainKeys := false, apart := false }
def DrainPlaysSaid : Prop := drainPlaysRow.holds Tryz.pinned (OpenSpec.ofChange drainPlaysSpec)

/-- ITS FALSE NEIGHBOUR: 'it returns false'. Refute it at one input. -/
def drainPlaysWrong : ChangeSpec := { name := "drainPlays", fn := fun _ => fun
  | [d1, d2, d3] => { results := [.lit (.bool false)], args := [d1, d2, d3] }
  | _ => none }
def DrainPlaysWrongFalsely : Prop := drainPlaysRow.holds Tryz.pinned (OpenSpec.ofChange drainPlaysWrong)

/-- 'drydocklaw36.DrainWhy': WHATEVER THE INPUT: true; the input reads as it did. -/
def drainWhySpec : ChangeSpec := { name := "drainWhy", fn := fun _ => fun
  | [d1, d2, d3] => { results := [.lit (.bool true)], args := [d1, d2, d3] }
  | _ => none }
def drainWhyRow : OpenClaim := { program := "ytmmkkggfmigppaagreat", sum := "625b5e12e16183176786989233e1963139abdca489541916b5987d93b30a9a4b", func := "drydock/drydocklaw36.DrainWhy", spec := "drainWhy", inPlace := ["slices.overlaps[int]"], unfollowed := true, recurses := true, plainKeys := false, apart := false }
def DrainWhySaid : Prop := drainWhyRow.holds Tryz.pinned (OpenSpec.ofChange drainWhySpec)

/-- ITS FALSE NEIGHBOUR: 'it returns false'. Refute it at one input. -/
def drainWhyWrong : ChangeSpec := { name := "drainWhy", fn := fun _ => fun
  | [d1, d2, d3] => { results := [.lit (.bool false)], args := [d1, d2, d3] }
  | _ => none }
def DrainWhyWrongFalsely : Prop := drainWhyRow.holds Tryz.pinned (OpenSpec.ofChange drainWhyWrong)

/-- 'drydocklaw36.DrainYields': WHATEVER THE INPUT: true; the input reads as it did. -/
def drainYieldsSpec : ChangeSpec := { name := "drainYields", fn := fun _ => fun
  | [d1, d2] => { results := [.lit (.bool true)], args := [d1, d2] }
  | _ => none }
def drainYieldsRow : OpenClaim := { program := "ytmmkkggfmigppaagreat", sum := "625b5e12e16183176786989233e1963139abdca489541916b5987d93b30a9a4b", func := "drydock/drydocklaw36.DrainYields", spec := "drainYields", inPlace := ["slices.overlaps[int]"], unfollowed := true, recurses := true, plainKeys := false, apart := false }
def DrainYieldsSaid : Prop := drainYieldsRow.holds Tryz.pinned (OpenSpec.ofChange drainYieldsSpec)

/-- ITS FALSE NEIGHBOUR: 'it returns false'. Refute it at one input. -/
def drainYieldsWrong : ChangeSpec := { name := "drainYields", fn := fun _ => fun
  | [d1, d2] => { results := [.lit (.bool false)], args := [d1, d2] }
  | _ => none }
def DrainYieldsWrongFalsely : Prop := drainYieldsRow.holds Tryz.pinned (OpenSpec.ofChange drainYieldsWrong)

/-- 'drydocklaw36.DrainEmpty': WHATEVER THE INPUT: true; the input reads as it did. -/
def drainEmptySpec : ChangeSpec := { name := "drainEmpty", fn := fun _ => fun
  | [d1, d2, d3] => { results := [.lit (.bool true)], args := [d1, d2, d3] }
  | _ => none }
def drainEmptyRow : OpenClaim := { program := "ytmmkkggfmigppaagreat", sum := "625b5e12e16183176786989233e1963139abdca489541916b5987d93b30a9a4b", func := "drydock/drydocklaw36.DrainEmpty", spec := "drainEmpty", inPlace := ["slices.overlaps[int]"], unfollowed := true, recurses := true, plainKeys := false, apart := false }
def DrainEmptySaid : Prop := drainEmptyRow.holds Tryz.pinned (OpenSpec.ofChange drainEmptySpec)

/-- ITS FALSE NEIGHBOUR: 'it returns false'. Refute it at one input. -/
def drainEmptyWrong : ChangeSpec := { name := "drainEmpty", fn := fun _ => fun
  | [d1, d2, d3] => { results := [.lit (.bool false)], args := [d1, d2, d3] }
  | _ => none }
def DrainEmptyWrongFalsely : Prop := drainEmptyRow.holds Tryz.pinned (OpenSpec.ofChange drainEmptyWrong)

/-- 'drydocklaw36.DrainTogether': WHATEVER THE INPUT: true; the input reads as it did. -/
def drainTogetherSpec : ChangeSpec := { name := "drainTogether", fn := fun _ => fun
  | [d1, d2] => { results := [.lit (.bool true)], args := [d1, d2] }
  | _ => none }
def drainTogetherRow : OpenClaim := { program := "ytmmkkggfmigppaagreat", sum := "625b5e12e16183176786989233e1963139abdca489541916b5987d93b30a9a4b", func := "drydock/drydocklaw36.DrainTogether", spec := "drainTogether", inPlace := ["slices.overlaps[int]"], unfollowed := true, recurses := true, plainKeys := false, apart := false }
def DrainTogetherSaid : Prop := drainTogetherRow.holds Tryz.pinned (OpenSpec.ofChange drainTogetherSpec)

/-- ITS FALSE NEIGHBOUR: 'it returns false'. Refute it at one input. -/
def drainTogetherWrong : ChangeSpec := { name := "drainTogether", fn := fun _ => fun
  | [d1, d2] => { results := [.lit (.bool false)], args := [d1, d2] }
  | _ => none }
def DrainTogetherWrongFalsely : Prop := drainTogetherRow.holds Tryz.pinned (OpenSpec.ofChange drainTogetherWrong)

/-- 'drydocklaw35.RebalancePlays': WHATEVER THE INPUT: true; the input reads as it did. -/
def rebalancePlaysSpec : ChangeSpec := { name := "rebalancePlays", fn := fun _ => fun
  | [d1, d2, d3] => { results := [.lit (.bool true)], args := [d1, d2, d3] }
  | _ => none }
def rebalancePlaysRow : OpenClaim := { program := "ytmmkkggfmigppaagreat", sum := "625b5e12e16183176786989233e1963139abdca489541916b5987d93b30a9a4b", func := "drydock/drydocklaw35.RebalancePlays", spec := "rebalancePlays", unfollowed := true, recurses := true, plainKeys := false, apart := false }
def RebalancePlaysSaid : Prop := rebalancePlaysRow.holds Tryz.pinned (OpenSpec.ofChange rebalancePlaysSpec)

/-- ITS FALSE NEIGHBOUR: 'it returns false'. Refute it at one input. -/
def rebalancePlaysWrong : ChangeSpec := { name := "rebalancePlays", fn := fun _ => fun
  | [d1, d2, d3] => { results := [.lit (.bool false)], args := [d1, d2, d3] }
  | _ => none }
def RebalancePlaysWrongFalsely : Prop := rebalancePlaysRow.holds Tryz.pinned (OpenSpec.ofChange rebalancePlaysWrong)

/-- 'drydocklaw35.RebalanceChecks': WHATEVER THE INPUT: true; the input reads as it did. -/
def rebalanceChecksSpec : ChangeSpec := { name := "rebalanceChecks", fn := fun _ => fun
  | [d1, d2, d3, d4] => { results := [.lit (.bool true)], args := [d1, d2, d3, d4] }
  | _ => none }
def rebalanceChecksRow : OpenClaim := { program := "ytmmkkggfmigppaagreat", sum := "625b5e12e16183176786989233e1963139abdca489541916b5987d93b30a9a4b", func := "drydock/drydocklaw35.RebalanceChecks", spec := "rebalanceChecks", unfollowed := true, recurses := true, plainKeys := false, apart := false }
def RebalanceChecksSaid : Prop := rebalanceChecksRow.holds Tryz.pinned (OpenSpec.ofChange rebalanceChecksSpec)

/-- ITS FALSE NEIGHBOUR: 'it returns false'. Refute it at one input. -/
def rebalanceChecksWrong : ChangeSpec := { name := "rebalanceChecks", fn := fun _ => fun
  | [d1, d2, d3, d4] => { results := [.lit (.bool false)], args := [d1, d2, d3, d4] }
  | _ => none }
def RebalanceChecksWrongFalsely : Prop := rebalanceChecksRow.holds Tryz.pinned (OpenSpec.ofChange rebalanceChecksWrong)

/-- 'drydocklaw35.RebalanceLeast': WHATEVER THE INPUT: true; the input reads as it did. -/
def rebalanceLeastSpec : ChangeSpec := { name := "rebalanceLeast", fn := fun _ => fun
  | [d1, d2, d3] => { results := [.lit (.bool true)], args := [d1, d2, d3] }
  | _ => none }
def rebalanceLeastRow : OpenClaim := { program := "ytmmkkggfmigppaagreat", sum := "625b5e12e16183176786989233e1963139abdca489541916b5987d93b30a9a4b", func := "drydock/drydocklaw35.RebalanceLeast", spec := "rebalanceLeast", unfollowed := true, recurses := true, plainKeys := false, apart := false }
def RebalanceLeastSaid : Prop := rebalanceLeastRow.holds Tryz.pinned (OpenSpec.ofChange rebalanceLeastSpec)

/-- ITS FALSE NEIGHBOUR: 'it returns false'. Refute it at one input. -/
def rebalanceLeastWrong : ChangeSpec := { name := "rebalanceLeast", fn := fun _ => fun
  | [d1, d2, d3] => { results := [.lit (.bool false)], args := [d1, d2, d3] }
  | _ => none }
def RebalanceLeastWrongFalsely : Prop := rebalanceLeastRow.holds Tryz.pinned (OpenSpec.ofChange rebalanceLeastWrong)

/-- 'drydocklaw35.RebalanceSteps': WHATEVER THE INPUT: true; the input reads as it did. -/
def rebalanceStepsSpec : ChangeSpec := { name := "rebalanceSteps", fn := fun _ => fun
  | [d] => { results := [.lit (.bool true)], args := [d] }
  | _ => none }
def rebalanceStepsRow : OpenClaim := { program := "ytmmkkggfmigppaagreat", sum := "625b5e12e16183176786989233e1963139abdca489541916b5987d93b30a9a4b", func := "drydock/drydocklaw35.RebalanceSteps", spec := "rebalanceSteps", unfollowed := true, recurses := true, plainKeys := false, apart := false }
def RebalanceStepsSaid : Prop := rebalanceStepsRow.holds Tryz.pinned (OpenSpec.ofChange rebalanceStepsSpec)

/-- ITS FALSE NEIGHBOUR: 'it returns false'. Refute it at one input. -/
def rebalanceStepsWrong : ChangeSpec := { name := "rebalanceSteps", fn := fun _ => fun
  | [d] => { results := [.lit (.bool false)], args := [d] }
  | _ => none }
def RebalanceStepsWrongFalsely : Prop := rebalanceStepsRow.holds Tryz.pinned (OpenSpec.ofChange rebalanceStepsWrong)

/-- 'drydocklaw35.RebalanceRests': WHATEVER THE INPUT: true; the input reads as it did. -/
def rebalanceRestsSpec : ChangeSpec := { name := "rebalanceRests", fn := fun _ => fun
  | [d] => { results := [.lit (.bool true)], args := [d] }
  | _ => none }
def rebalanceRestsRow : OpenClaim := { program := "ytmmkkggfmigppaagreat", sum := "625b5e12e16183176786989233e1963139abdca489541916b5987d93b30a9a4b", func := "drydock/drydocklaw35.RebalanceRests", spec := "rebalanceRests", unfollowed := true, recurses := true, plainKeys := false, apart := false }
def RebalanceRestsSaid : Prop := rebalanceRestsRow.holds Tryz.pinned (OpenSpec.ofChange rebalanceRestsSpec)

/-- ITS FALSE NEIGHBOUR: 'it returns false'. Refute it at one input. -/
def rebalanceRestsWrong : ChangeSpec := { name := "rebalanceRests", fn := fun _ => fun
  | [d] => { results := [.lit (.bool false)], args := [d] }
  | _ => none }
def RebalanceRestsWrongFalsely : Prop := rebalanceRestsRow.holds Tryz.pinned (OpenSpec.ofChange rebalanceRestsWrong)

/-- 'drydocklaw35.RebalanceMakes': WHATEVER THE INPUT: true; the input reads as it did. -/
def rebalanceMakesSpec : ChangeSpec := { name := "rebalanceMakes", fn := fun _ => fun
  | [d] => { results := [.lit (.bool true)], args := [d] }
  | _ => none }
def rebalanceMakesRow : OpenClaim := { program := "ytmmkkggfmigppaagreat", sum := "625b5e12e16183176786989233e1963139abdca489541916b5987d93b30a9a4b", func := "drydock/drydocklaw35.RebalanceMakes", spec := "rebalanceMakes", unfollowed := true, recurses := true, plainKeys := false, apart := false }
def RebalanceMakesSaid : Prop := rebalanceMakesRow.holds Tryz.pinned (OpenSpec.ofChange rebalanceMakesSpec)

/-- ITS FALSE NEIGHBOUR: 'it returns false'. Refute it at one input. -/
def rebalanceMakesWrong : ChangeSpec := { name := "rebalanceMakes", fn := fun _ => fun
  | [d] => { results := [.lit (.bool false)], args := [d] }
  | _ => none }
def RebalanceMakesWrongFalsely : Prop := rebalanceMakesRow.holds Tryz.pinned (OpenSpec.ofChange rebalanceMakesWrong)

/-- 'drydocklaw35.RebalanceGreedy': WHATEVER THE INPUT: true; the input reads as it did. -/
def rebalanceGreedySpec : ChangeSpec := { name := "rebalanceGreedy", fn := fun _ => fun
  | [d1, d2] => { results := [.lit (.bool true)], args := [d1, d2] }
  | _ => none }
def rebalanceGreedyRow : OpenClaim := { program := "ytmmkkggfmigppaagreat", sum := "625b5e12e16183176786989233e1963139abdca489541916b5987d93b30a9a4b", func := "drydock/drydocklaw35.RebalanceGreedy", spec := "rebalanceGreedy", unfollowed := true, recurses := true, plainKeys := false, apart := false }
def RebalanceGreedySaid : Prop := rebalanceGreedyRow.holds Tryz.pinned (OpenSpec.ofChange rebalanceGreedySpec)

/-- ITS FALSE NEIGHBOUR: 'it returns false'. Refute it at one input. -/
def rebalanceGreedyWrong : ChangeSpec := { name := "rebalanceGreedy", fn := fun _ => fun
  | [d1, d2] => { results := [.lit (.bool false)], args := [d1, d2] }
  | _ => none }
def RebalanceGreedyWrongFalsely : Prop := rebalanceGreedyRow.holds Tryz.pinned (OpenSpec.ofChange rebalanceGreedyWrong)

/- THE SECOND FORM. 'bulk': how many values and letters a reading holds, each counted each time it is reached (what is shared counts as often as it is met; a slice's spare places count too). A statement '..UptoSaid' is the law's where the arguments, and the package variables that the reading takes, are together of bulk at most 1048576: NARROWER than '..Said'. Prove '..Said' where nothing that the law and all that it calls make is longer than what came in: it says more and counts as full. Else prove '..UptoSaid'. A law counts once. -/
mutual
def uptoBulk {H : Type} : DataW H → Nat
  | .lit (.string bytes) => bytes.length + 1
  | .lit _ => 1
  | .nil => 1
  | .ptr d => uptoBulk d + 1
  | .slice elems spare => uptoBulkAll elems + uptoBulkAll spare + 1
  | .agg parts => uptoBulkAll parts + 1
  | .iface _ d => uptoBulk d + 1
  | .map entries => uptoBulkEntries entries + 1
  | .held _ => 1
def uptoBulkAll {H : Type} : List (DataW H) → Nat
  | [] => 0
  | d :: r => uptoBulk d + uptoBulkAll r
def uptoBulkEntries {H : Type} : List (Lit × DataW H) → Nat
  | [] => 0
  | x :: r => uptoBulkEntry x + uptoBulkEntries r
def uptoBulkEntry {H : Type} : Lit × DataW H → Nat
  | (.string bytes, d) => bytes.length + uptoBulk d + 1
  | (_, d) => uptoBulk d + 1
 end
def uptoSmall : (H : Type) → List (DataW H) → Bool := fun _ ds => decide (uptoBulkAll ds ≤ 1048576)
def OpenSpec.upto (s : _root_.Go.ChangeSpec) : _root_.Go.OpenSpec := { _root_.Go.OpenSpec.ofChange s with cond := some uptoSmall }

/-- 'drydocklaw36.DrainRooms', WHERE WHAT IT READS IS OF BULK AT MOST 1048576: true; the input reads as it did. -/
def drainRoomsUptoRow : OpenClaim := { program := "ytmmkkggfmigppaagreat", sum := "625b5e12e16183176786989233e1963139abdca489541916b5987d93b30a9a4b", func := "drydock/drydocklaw36.DrainRooms", spec := "drainRooms", inPlace := ["slices.overlaps[int]"], unfollowed := true, recurses := true, plainKeys := false, apart := false, narrowed := true }
def DrainRoomsUptoSaid : Prop := drainRoomsUptoRow.holds Tryz.pinned (OpenSpec.upto drainRoomsSpec)

/-- 'drydocklaw36.DrainReviews', WHERE WHAT IT READS IS OF BULK AT MOST 1048576: true; the input reads as it did. -/
def drainReviewsUptoRow : OpenClaim := { program := "ytmmkkggfmigppaagreat", sum := "625b5e12e16183176786989233e1963139abdca489541916b5987d93b30a9a4b", func := "drydock/drydocklaw36.DrainReviews", spec := "drainReviews", inPlace := ["slices.overlaps[int]"], unfollowed := true, recurses := true, plainKeys := false, apart := false, narrowed := true }
def DrainReviewsUptoSaid : Prop := drainReviewsUptoRow.holds Tryz.pinned (OpenSpec.upto drainReviewsSpec)

/-- 'drydocklaw36.DrainPlays', WHERE WHAT IT READS IS OF BULK AT MOST 1048576: true; the input reads as it did. -/
def drainPlaysUptoRow : OpenClaim := { program := "ytmmkkggfmigppaagreat", sum := "625b5e12e16183176786989233e1963139abdca489541916b5987d93b30a9a4b", func := "drydock/drydocklaw36.DrainPlays", spec := "drainPlays", inPlace := ["slices.overlaps[int]"], unfollowed := true, recurses := true, plainKeys := false, apart := false, narrowed := true }
def DrainPlaysUptoSaid : Prop := drainPlaysUptoRow.holds Tryz.pinned (OpenSpec.upto drainPlaysSpec)

/-- 'drydocklaw36.DrainWhy', WHERE WHAT IT READS IS OF BULK AT MOST 1048576: true; the input reads as it did. -/
def drainWhyUptoRow : OpenClaim := { program := "ytmmkkggfmigppaagreat", sum := "625b5e12e16183176786989233e1963139abdca489541916b5987d93b30a9a4b", func := "drydock/drydocklaw36.DrainWhy", spec := "drainWhy", inPlace := ["slices.overlaps[int]"], unfollowed := true, recurses := true, plainKeys := false, apart := false, narrowed := true }
def DrainWhyUptoSaid : Prop := drainWhyUptoRow.holds Tryz.pinned (OpenSpec.upto drainWhySpec)

/-- 'drydocklaw36.DrainYields', WHERE WHAT IT READS IS OF BULK AT MOST 1048576: true; the input reads as it did. -/
def drainYieldsUptoRow : OpenClaim := { program := "ytmmkkggfmigppaagreat", sum := "625b5e12e16183176786989233e1963139abdca489541916b5987d93b30a9a4b", func := "drydock/drydocklaw36.DrainYields", spec := "drainYields", inPlace := ["slices.overlaps[int]"], unfollowed := true, recurses := true, plainKeys := false, apart := false, narrowed := true }
def DrainYieldsUptoSaid : Prop := drainYieldsUptoRow.holds Tryz.pinned (OpenSpec.upto drainYieldsSpec)

/-- 'drydocklaw36.DrainEmpty', WHERE WHAT IT READS IS OF BULK AT MOST 1048576: true; the input reads as it did. -/
def drainEmptyUptoRow : OpenClaim := { program := "ytmmkkggfmigppaagreat", sum := "625b5e12e16183176786989233e1963139abdca489541916b5987d93b30a9a4b", func := "drydock/drydocklaw36.DrainEmpty", spec := "drainEmpty", inPlace := ["slices.overlaps[int]"], unfollowed := true, recurses := true, plainKeys := false, apart := false, narrowed := true }
def DrainEmptyUptoSaid : Prop := drainEmptyUptoRow.holds Tryz.pinned (OpenSpec.upto drainEmptySpec)

/-- 'drydocklaw36.DrainTogether', WHERE WHAT IT READS IS OF BULK AT MOST 1048576: true; the input reads as it did. -/
def drainTogetherUptoRow : OpenClaim := { program := "ytmmkkggfmigppaagreat", sum := "625b5e12e16183176786989233e1963139abdca489541916b5987d93b30a9a4b", func := "drydock/drydocklaw36.DrainTogether", spec := "drainTogether", inPlace := ["slices.overlaps[int]"], unfollowed := true, recurses := true, plainKeys := false, apart := false, narrowed := true }
def DrainTogetherUptoSaid : Prop := drainTogetherUptoRow.holds Tryz.pinned (OpenSpec.upto drainTogetherSpec)

/-- 'drydocklaw35.RebalancePlays', WHERE WHAT IT READS IS OF BULK AT MOST 1048576: true; the input reads as it did. -/
def rebalancePlaysUptoRow : OpenClaim := { program := "ytmmkkggfmigppaagreat", sum := "625b5e12e16183176786989233e1963139abdca489541916b5987d93b30a9a4b", func := "drydock/drydocklaw35.RebalancePlays", spec := "rebalancePlays", unfollowed := true, recurses := true, plainKeys := false, apart := false, narrowed := true }
def RebalancePlaysUptoSaid : Prop := rebalancePlaysUptoRow.holds Tryz.pinned (OpenSpec.upto rebalancePlaysSpec)

/-- 'drydocklaw35.RebalanceChecks', WHERE WHAT IT READS IS OF BULK AT MOST 1048576: true; the input reads as it did. -/
def rebalanceChecksUptoRow : OpenClaim := { program := "ytmmkkggfmigppaagreat", sum := "625b5e12e16183176786989233e1963139abdca489541916b5987d93b30a9a4b", func := "drydock/drydocklaw35.RebalanceChecks", spec := "rebalanceChecks", unfollowed := true, recurses := true, plainKeys := false, apart := false, narrowed := true }
def RebalanceChecksUptoSaid : Prop := rebalanceChecksUptoRow.holds Tryz.pinned (OpenSpec.upto rebalanceChecksSpec)

/-- 'drydocklaw35.RebalanceLeast', WHERE WHAT IT READS IS OF BULK AT MOST 1048576: true; the input reads as it did. -/
def rebalanceLeastUptoRow : OpenClaim := { program := "ytmmkkggfmigppaagreat", sum := "625b5e12e16183176786989233e1963139abdca489541916b5987d93b30a9a4b", func := "drydock/drydocklaw35.RebalanceLeast", spec := "rebalanceLeast", unfollowed := true, recurses := true, plainKeys := false, apart := false, narrowed := true }
def RebalanceLeastUptoSaid : Prop := rebalanceLeastUptoRow.holds Tryz.pinned (OpenSpec.upto rebalanceLeastSpec)

/-- 'drydocklaw35.RebalanceSteps', WHERE WHAT IT READS IS OF BULK AT MOST 1048576: true; the input reads as it did. -/
def rebalanceStepsUptoRow : OpenClaim := { program := "ytmmkkggfmigppaagreat", sum := "625b5e12e16183176786989233e1963139abdca489541916b5987d93b30a9a4b", func := "drydock/drydocklaw35.RebalanceSteps", spec := "rebalanceSteps", unfollowed := true, recurses := true, plainKeys := false, apart := false, narrowed := true }
def RebalanceStepsUptoSaid : Prop := rebalanceStepsUptoRow.holds Tryz.pinned (OpenSpec.upto rebalanceStepsSpec)

/-- 'drydocklaw35.RebalanceRests', WHERE WHAT IT READS IS OF BULK AT MOST 1048576: true; the input reads as it did. -/
def rebalanceRestsUptoRow : OpenClaim := { program := "ytmmkkggfmigppaagreat", sum := "625b5e12e16183176786989233e1963139abdca489541916b5987d93b30a9a4b", func := "drydock/drydocklaw35.RebalanceRests", spec := "rebalanceRests", unfollowed := true, recurses := true, plainKeys := false, apart := false, narrowed := true }
def RebalanceRestsUptoSaid : Prop := rebalanceRestsUptoRow.holds Tryz.pinned (OpenSpec.upto rebalanceRestsSpec)

/-- 'drydocklaw35.RebalanceMakes', WHERE WHAT IT READS IS OF BULK AT MOST 1048576: true; the input reads as it did. -/
def rebalanceMakesUptoRow : OpenClaim := { program := "ytmmkkggfmigppaagreat", sum := "625b5e12e16183176786989233e1963139abdca489541916b5987d93b30a9a4b", func := "drydock/drydocklaw35.RebalanceMakes", spec := "rebalanceMakes", unfollowed := true, recurses := true, plainKeys := false, apart := false, narrowed := true }
def RebalanceMakesUptoSaid : Prop := rebalanceMakesUptoRow.holds Tryz.pinned (OpenSpec.upto rebalanceMakesSpec)

/-- 'drydocklaw35.RebalanceGreedy', WHERE WHAT IT READS IS OF BULK AT MOST 1048576: true; the input reads as it did. -/
def rebalanceGreedyUptoRow : OpenClaim := { program := "ytmmkkggfmigppaagreat", sum := "625b5e12e16183176786989233e1963139abdca489541916b5987d93b30a9a4b", func := "drydock/drydocklaw35.RebalanceGreedy", spec := "rebalanceGreedy", unfollowed := true, recurses := true, plainKeys := false, apart := false, narrowed := true }
def RebalanceGreedyUptoSaid : Prop := rebalanceGreedyUptoRow.holds Tryz.pinned (OpenSpec.upto rebalanceGreedySpec)

end Rows
end Go.Proofs.YtmmkkggfmigppaaGreat
