/-
 The orders that the program's form follows.
-/
import Derived.Test.YtfaodacmdlnabaaGreatDoorProg
import Derived.Test.YtfaodacmdlnabaaGreatDoorMV
namespace Go.Proofs.YtfaodacmdlnabaaGreatDoor.M
open Go.RowKit
theorem follows : Tryz.prog.follows .mixedOrders = true := by kernel_rfl
end Go.Proofs.YtfaodacmdlnabaaGreatDoor.M
