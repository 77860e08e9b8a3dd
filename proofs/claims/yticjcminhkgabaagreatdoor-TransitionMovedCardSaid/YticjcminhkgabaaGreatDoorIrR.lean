/-
 The intermediate forms of this seat's functions, written by a program of ours (wip/Ir.lean); each is checked against the loaded program.
-/
import Derived.Test.YticjcminhkgabaaGreatDoorRows
import Derived.Test.YticjcminhkgabaaGreatDoorFwX
namespace Go.Proofs.YticjcminhkgabaaGreatDoor
open Go Go.DI

end Go.Proofs.YticjcminhkgabaaGreatDoor
