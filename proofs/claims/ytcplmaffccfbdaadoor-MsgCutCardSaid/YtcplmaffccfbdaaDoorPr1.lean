/-
  The document's own small functions of layer 8, walked.
-/
import Derived.Test.YtcplmaffccfbdaaDoorPoLaw
namespace Go.Proofs.YtcplmaffccfbdaaDoor.M
open Go.RowKit
set_option linter.unusedVariables false
set_option linter.unusedSimpArgs false
theorem size_zero {s : Str} (h : s.size = 0) : s = ByteArray.empty := by
  apply bl_inj
  have := bl_len s
  rw [h] at this
  rw [List.length_eq_zero_iff.1 this]; rfl
def risesP (l : List Str) : Bool := risesL l && decide (l.length ≤ 64)
end Go.Proofs.YtcplmaffccfbdaaDoor.M
