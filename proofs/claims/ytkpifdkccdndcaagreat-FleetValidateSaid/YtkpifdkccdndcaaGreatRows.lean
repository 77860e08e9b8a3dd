/-
  No cell of these rows narrows 'for every input' (looked for: loops, veiled, ifaces, maps, wideKeys, modest, calm, conditions, laid).
  DERIVED. THE GIVEN ROWS OF THIS SEAT. 3 by the template 'for every input the law returns true; each argument reads behind the call as it read before'; 0 by the template 'total and deterministic' (their statements: YtkpifdkccdndcaaGreatTotals.lean).
  GIVEN WITH THE SEED: the statements are not yours to turn. If you find one false, say at which input.
  Laid BY PROGRAM, IN A SANDBOX (cutbox-rows.mjs): the forced cells as the released guide's own fill.sh prints them over the translation 415495b69d883969… (all of the seat's roots in one cut). By AI agents, Wed Nov 11 2026. No macro, syntax, notation, axiom, sorry.
-/
import Derived.Test.YtkpifdkccdndcaaGreatChecked
import GoSem.Claim
import GoSem.ClaimJoined
import GoSem.ClaimMapViews
import Derived.JoinedTies
import Derived.KernelRfl
namespace Go.Proofs.YtkpifdkccdndcaaGreat
/- THE CELL 'sum', in the pinned program and in every row, IS THE sha256 OF THE DUMP (.gsa) THAT YtkpifdkccdndcaaGreatProg.lean LOADS. Nothing in Lean hashes anything: it is a label: what it is worth is what the hold of that sum in a sandbox is worth. -/
noncomputable def Tryz.pinned : Pinned := { name := "ytkpifdkccdndcaagreat", sum := "415495b69d883969eca144ec28ef8cc4b267fc2166e9779442df0381edff2a7e", checked := Tryz.checked }
namespace Rows
def none {H : Type} : Left H := { results := [], args := [] }

/-- 'drydocklaw10.FleetLaw': WHATEVER THE INPUT: true; the input reads as it did. -/
def fleetLawSpec : ChangeSpec := { name := "fleetLaw", fn := fun _ => fun
  | [d] => { results := [.lit (.bool true)], args := [d] }
  | _ => none }
def fleetLawRow : OpenClaim := { program := "ytkpifdkccdndcaagreat", sum := "415495b69d883969eca144ec28ef8cc4b267fc2166e9779442df0381edff2a7e", func := "drydock/drydocklaw10.FleetLaw", spec := "fleetLaw", unfollowed := true, recurses := true, apart := false }
def FleetLawSaid : Prop := fleetLawRow.holds Tryz.pinned (OpenSpec.ofChange fleetLawSpec)

/-- ITS FALSE NEIGHBOUR: 'it returns false'. Refute it at one input. -/
def fleetLawWrong : ChangeSpec := { name := "fleetLaw", fn := fun _ => fun
  | [d] => { results := [.lit (.bool false)], args := [d] }
  | _ => none }
def FleetLawWrongFalsely : Prop := fleetLawRow.holds Tryz.pinned (OpenSpec.ofChange fleetLawWrong)

/-- 'drydocklaw10.FleetCompile': WHATEVER THE INPUT: true; the input reads as it did. -/
def fleetCompileSpec : ChangeSpec := { name := "fleetCompile", fn := fun _ => fun
  | [d] => { results := [.lit (.bool true)], args := [d] }
  | _ => none }
def fleetCompileRow : OpenClaim := { program := "ytkpifdkccdndcaagreat", sum := "415495b69d883969eca144ec28ef8cc4b267fc2166e9779442df0381edff2a7e", func := "drydock/drydocklaw10.FleetCompile", spec := "fleetCompile", unfollowed := true, recurses := true, apart := false }
def FleetCompileSaid : Prop := fleetCompileRow.holds Tryz.pinned (OpenSpec.ofChange fleetCompileSpec)

/-- ITS FALSE NEIGHBOUR: 'it returns false'. Refute it at one input. -/
def fleetCompileWrong : ChangeSpec := { name := "fleetCompile", fn := fun _ => fun
  | [d] => { results := [.lit (.bool false)], args := [d] }
  | _ => none }
def FleetCompileWrongFalsely : Prop := fleetCompileRow.holds Tryz.pinned (OpenSpec.ofChange fleetCompileWrong)

/-- 'drydocklaw10.FleetValidate': WHATEVER THE INPUT: true; the input reads as it did. -/
def fleetValidateSpec : ChangeSpec := { name := "fleetValidate", fn := fun _ => fun
  | [d1, d2] => { results := [.lit (.bool true)], args := [d1, d2] }
  | _ => none }
def fleetValidateRow : OpenClaim := { program := "ytkpifdkccdndcaagreat", sum := "415495b69d883969eca144ec28ef8cc4b267fc2166e9779442df0381edff2a7e", func := "drydock/drydocklaw10.FleetValidate", spec := "fleetValidate", unfollowed := true, recurses := true, apart := false }
def FleetValidateSaid : Prop := fleetValidateRow.holds Tryz.pinned (OpenSpec.ofChange fleetValidateSpec)

/-- ITS FALSE NEIGHBOUR: 'it returns false'. Refute it at one input. -/
def fleetValidateWrong : ChangeSpec := { name := "fleetValidate", fn := fun _ => fun
  | [d1, d2] => { results := [.lit (.bool false)], args := [d1, d2] }
  | _ => none }
def FleetValidateWrongFalsely : Prop := fleetValidateRow.holds Tryz.pinned (OpenSpec.ofChange fleetValidateWrong)

/- THE SECOND FORM. 'bulk': how many values and letters a reading holds, each counted each time it is reached (what is shared counts as often as it is met; a slice's spare places count too). A statement '..UptoSaid' is the law's where the arguments, and the package variables that the reading takes, are together of bulk at most 1048576: NARROWER than '..Said'. Prove '..Said' where nothing that the law and all that it calls make is longer than what came in: it says more and counts as full. Else prove '..UptoSaid'. A law counts once. -/
mutual
def uptoBulk {H : Type} : DataW H → Nat
  | .lit (.string bytes) => bytes.length + 1
  | .lit _ => 1
  | .nil => 1
  | .ptr d => uptoBulk d + 1
  | .slice elems spare => uptoBulkAll elems + uptoBulkAll spare + 1
  | .agg parts => uptoBulkAll parts + 1
  | .iface _ d => uptoBulk d + 1
  | .map entries => uptoBulkEntries entries + 1
  | .held _ => 1
def uptoBulkAll {H : Type} : List (DataW H) → Nat
  | [] => 0
  | d :: r => uptoBulk d + uptoBulkAll r
def uptoBulkEntries {H : Type} : List (Lit × DataW H) → Nat
  | [] => 0
  | x :: r => uptoBulkEntry x + uptoBulkEntries r
def uptoBulkEntry {H : Type} : Lit × DataW H → Nat
  | (.string bytes, d) => bytes.length + uptoBulk d + 1
  | (_, d) => uptoBulk d + 1
 end
def uptoSmall : (H : Type) → List (DataW H) → Bool := fun _ ds => decide (uptoBulkAll ds ≤ 1048576)
def OpenSpec.upto (s : _root_.Go.ChangeSpec) : _root_.Go.OpenSpec := { _root_.Go.OpenSpec.ofChange s with cond := some uptoSmall }

/-- 'drydocklaw10.FleetLaw', WHERE WHAT IT READS IS OF BULK AT MOST 1048576: true; the input reads as it did. -/
def fleetLawUptoRow : OpenClaim := { program := "ytkpifdkccdndcaagreat", sum := "415495b69d883969eca144ec28ef8cc4b267fc2166e9779442df0381edff2a7e", func := "drydock/drydocklaw10.FleetLaw", spec := "fleetLaw", unfollowed := true, recurses := true, apart := false, narrowed := true }
def FleetLawUptoSaid : Prop := fleetLawUptoRow.holds Tryz.pinned (OpenSpec.upto fleetLawSpec)

/-- 'drydocklaw10.FleetCompile', WHERE WHAT IT READS IS OF BULK AT MOST 1048576: true; the input reads as it did. -/
def fleetCompileUptoRow : OpenClaim := { program := "ytkpifdkccdndcaagreat", sum := "415495b69d883969eca144ec28ef8cc4b267fc2166e9779442df0381edff2a7e", func := "drydock/drydocklaw10.FleetCompile", spec := "fleetCompile", unfollowed := true, recurses := true, apart := false, narrowed := true }
def FleetCompileUptoSaid : Prop := fleetCompileUptoRow.holds Tryz.pinned (OpenSpec.upto fleetCompileSpec)

/-- 'drydocklaw10.FleetValidate', WHERE WHAT IT READS IS OF BULK AT MOST 1048576: true; the input reads as it did. -/
def fleetValidateUptoRow : OpenClaim := { program := "ytkpifdkccdndcaagreat", sum := "415495b69d883969eca144ec28ef8cc4b267fc2166e9779442df0381edff2a7e", func := "drydock/drydocklaw10.FleetValidate", spec := "fleetValidate", unfollowed := true, recurses := true, apart := false, narrowed := true }
def FleetValidateUptoSaid : Prop := fleetValidateUptoRow.holds Tryz.pinned (OpenSpec.upto fleetValidateSpec)

end Rows
end Go.Proofs.YtkpifdkccdndcaaGreat
