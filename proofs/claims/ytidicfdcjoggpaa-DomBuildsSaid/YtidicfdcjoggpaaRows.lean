/-
  NARROWER THAN 'FOR EVERY INPUT', by the rows' own cells (each row's printed sentence says how): DomSizes: loops.
  DERIVED. THE GIVEN ROWS OF THIS SEAT. 8 by the template 'for every input the law returns true; each argument reads behind the call as it read before'; 0 by the template 'total and deterministic' (their statements: YtidicfdcjoggpaaTotals.lean).
  GIVEN WITH THE SEED: the statements are not yours to turn. If you find one false, say at which input.
  Laid BY PROGRAM, IN A SANDBOX (cutbox-rows.mjs): the forced cells as the released guide's own fill.sh prints them over the translation 41767b8454c2d019… (all of the seat's roots in one cut). By AI agents, Wed Nov 11 2026. No macro, syntax, notation, axiom, sorry.
-/
import Derived.Test.YtidicfdcjoggpaaChecked
import GoSem.Claim
import GoSem.ClaimJoined
import GoSem.ClaimMapViews
import Derived.JoinedTies
import Derived.KernelRfl
namespace Go.Proofs.Ytidicfdcjoggpaa
/- THE CELL 'sum', in the pinned program and in every row, IS THE sha256 OF THE DUMP (.gsa) THAT YtidicfdcjoggpaaProg.lean LOADS. Nothing in Lean hashes anything: it is a label: what it is worth is what the hold of that sum in a sandbox is worth. -/
noncomputable def Try.pinned : Pinned := { name := "ytidicfdcjoggpaa", sum := "41767b8454c2d019971729d0509ea1492c46a4416e863ef4c93fcae821b61172", checked := Try.checked }
namespace Rows
def none {H : Type} : Left H := { results := [], args := [] }

/-- 'versolaw04.DomBuilds': WHATEVER THE INPUT: true; the input reads as it did. -/
def domBuildsSpec : ChangeSpec := { name := "domBuilds", fn := fun _ => fun
  | [d] => { results := [.lit (.bool true)], args := [d] }
  | _ => none }
def domBuildsRow : OpenClaim := { program := "ytidicfdcjoggpaa", sum := "41767b8454c2d019971729d0509ea1492c46a4416e863ef4c93fcae821b61172", func := "verso/versolaw04.DomBuilds", spec := "domBuilds", recurses := true, apart := false }
def DomBuildsSaid : Prop := domBuildsRow.holds Try.pinned (OpenSpec.ofChange domBuildsSpec)

/-- ITS FALSE NEIGHBOUR: 'it returns false'. Refute it at one input. -/
def domBuildsWrong : ChangeSpec := { name := "domBuilds", fn := fun _ => fun
  | [d] => { results := [.lit (.bool false)], args := [d] }
  | _ => none }
def DomBuildsWrongFalsely : Prop := domBuildsRow.holds Try.pinned (OpenSpec.ofChange domBuildsWrong)

/-- 'versolaw04.DomNames': WHATEVER THE INPUT: true; the input reads as it did. -/
def domNamesSpec : ChangeSpec := { name := "domNames", fn := fun _ => fun
  | [d] => { results := [.lit (.bool true)], args := [d] }
  | _ => none }
def domNamesRow : OpenClaim := { program := "ytidicfdcjoggpaa", sum := "41767b8454c2d019971729d0509ea1492c46a4416e863ef4c93fcae821b61172", func := "verso/versolaw04.DomNames", spec := "domNames", recurses := true, apart := false }
def DomNamesSaid : Prop := domNamesRow.holds Try.pinned (OpenSpec.ofChange domNamesSpec)

/-- ITS FALSE NEIGHBOUR: 'it returns false'. Refute it at one input. -/
def domNamesWrong : ChangeSpec := { name := "domNames", fn := fun _ => fun
  | [d] => { results := [.lit (.bool false)], args := [d] }
  | _ => none }
def DomNamesWrongFalsely : Prop := domNamesRow.holds Try.pinned (OpenSpec.ofChange domNamesWrong)

/-- 'versolaw04.DomText': WHATEVER THE INPUT: true; the input reads as it did. -/
def domTextSpec : ChangeSpec := { name := "domText", fn := fun _ => fun
  | [d] => { results := [.lit (.bool true)], args := [d] }
  | _ => none }
def domTextRow : OpenClaim := { program := "ytidicfdcjoggpaa", sum := "41767b8454c2d019971729d0509ea1492c46a4416e863ef4c93fcae821b61172", func := "verso/versolaw04.DomText", spec := "domText", recurses := true, apart := false }
def DomTextSaid : Prop := domTextRow.holds Try.pinned (OpenSpec.ofChange domTextSpec)

/-- ITS FALSE NEIGHBOUR: 'it returns false'. Refute it at one input. -/
def domTextWrong : ChangeSpec := { name := "domText", fn := fun _ => fun
  | [d] => { results := [.lit (.bool false)], args := [d] }
  | _ => none }
def DomTextWrongFalsely : Prop := domTextRow.holds Try.pinned (OpenSpec.ofChange domTextWrong)

/-- 'versolaw04.DomBeside': WHATEVER THE INPUT: true; the input reads as it did. -/
def domBesideSpec : ChangeSpec := { name := "domBeside", fn := fun _ => fun
  | [d1, d2] => { results := [.lit (.bool true)], args := [d1, d2] }
  | _ => none }
def domBesideRow : OpenClaim := { program := "ytidicfdcjoggpaa", sum := "41767b8454c2d019971729d0509ea1492c46a4416e863ef4c93fcae821b61172", func := "verso/versolaw04.DomBeside", spec := "domBeside", recurses := true, apart := false }
def DomBesideSaid : Prop := domBesideRow.holds Try.pinned (OpenSpec.ofChange domBesideSpec)

/-- ITS FALSE NEIGHBOUR: 'it returns false'. Refute it at one input. -/
def domBesideWrong : ChangeSpec := { name := "domBeside", fn := fun _ => fun
  | [d1, d2] => { results := [.lit (.bool false)], args := [d1, d2] }
  | _ => none }
def DomBesideWrongFalsely : Prop := domBesideRow.holds Try.pinned (OpenSpec.ofChange domBesideWrong)

/-- 'versolaw04.DomSizes': WHATEVER THE INPUT: true; the input reads as it did. -/
def domSizesSpec : ChangeSpec := { name := "domSizes", fn := fun _ => fun
  | [d] => { results := [.lit (.bool true)], args := [d] }
  | _ => none }
def domSizesRow : OpenClaim := { program := "ytidicfdcjoggpaa", sum := "41767b8454c2d019971729d0509ea1492c46a4416e863ef4c93fcae821b61172", func := "verso/versolaw04.DomSizes", spec := "domSizes", recurses := true, loops := true, apart := false }
def DomSizesSaid : Prop := domSizesRow.holds Try.pinned (OpenSpec.ofChange domSizesSpec)

/-- ITS FALSE NEIGHBOUR: 'it returns false'. Refute it at one input. -/
def domSizesWrong : ChangeSpec := { name := "domSizes", fn := fun _ => fun
  | [d] => { results := [.lit (.bool false)], args := [d] }
  | _ => none }
def DomSizesWrongFalsely : Prop := domSizesRow.holds Try.pinned (OpenSpec.ofChange domSizesWrong)

/-- 'versolaw04.DomFine': WHATEVER THE INPUT: true; the input reads as it did. -/
def domFineSpec : ChangeSpec := { name := "domFine", fn := fun _ => fun
  | [d] => { results := [.lit (.bool true)], args := [d] }
  | _ => none }
def domFineRow : OpenClaim := { program := "ytidicfdcjoggpaa", sum := "41767b8454c2d019971729d0509ea1492c46a4416e863ef4c93fcae821b61172", func := "verso/versolaw04.DomFine", spec := "domFine", recurses := true, apart := false }
def DomFineSaid : Prop := domFineRow.holds Try.pinned (OpenSpec.ofChange domFineSpec)

/-- ITS FALSE NEIGHBOUR: 'it returns false'. Refute it at one input. -/
def domFineWrong : ChangeSpec := { name := "domFine", fn := fun _ => fun
  | [d] => { results := [.lit (.bool false)], args := [d] }
  | _ => none }
def DomFineWrongFalsely : Prop := domFineRow.holds Try.pinned (OpenSpec.ofChange domFineWrong)

/-- 'versolaw04.DomDeep': WHATEVER THE INPUT: true; the input reads as it did. -/
def domDeepSpec : ChangeSpec := { name := "domDeep", fn := fun _ => fun
  | [d1, d2] => { results := [.lit (.bool true)], args := [d1, d2] }
  | _ => none }
def domDeepRow : OpenClaim := { program := "ytidicfdcjoggpaa", sum := "41767b8454c2d019971729d0509ea1492c46a4416e863ef4c93fcae821b61172", func := "verso/versolaw04.DomDeep", spec := "domDeep", recurses := true, apart := false }
def DomDeepSaid : Prop := domDeepRow.holds Try.pinned (OpenSpec.ofChange domDeepSpec)

/-- ITS FALSE NEIGHBOUR: 'it returns false'. Refute it at one input. -/
def domDeepWrong : ChangeSpec := { name := "domDeep", fn := fun _ => fun
  | [d1, d2] => { results := [.lit (.bool false)], args := [d1, d2] }
  | _ => none }
def DomDeepWrongFalsely : Prop := domDeepRow.holds Try.pinned (OpenSpec.ofChange domDeepWrong)

/-- 'versolaw04.DomNested': WHATEVER THE INPUT: true; the input reads as it did. -/
def domNestedSpec : ChangeSpec := { name := "domNested", fn := fun _ => fun
  | [d1, d2] => { results := [.lit (.bool true)], args := [d1, d2] }
  | _ => none }
def domNestedRow : OpenClaim := { program := "ytidicfdcjoggpaa", sum := "41767b8454c2d019971729d0509ea1492c46a4416e863ef4c93fcae821b61172", func := "verso/versolaw04.DomNested", spec := "domNested", recurses := true, apart := false }
def DomNestedSaid : Prop := domNestedRow.holds Try.pinned (OpenSpec.ofChange domNestedSpec)

/-- ITS FALSE NEIGHBOUR: 'it returns false'. Refute it at one input. -/
def domNestedWrong : ChangeSpec := { name := "domNested", fn := fun _ => fun
  | [d1, d2] => { results := [.lit (.bool false)], args := [d1, d2] }
  | _ => none }
def DomNestedWrongFalsely : Prop := domNestedRow.holds Try.pinned (OpenSpec.ofChange domNestedWrong)

/- THE SECOND FORM. 'bulk': how many values and letters a reading holds, each counted each time it is reached (what is shared counts as often as it is met; a slice's spare places count too). A statement '..UptoSaid' is the law's where the arguments, and the package variables that the reading takes, are together of bulk at most 1048576: NARROWER than '..Said'. Prove '..Said' where nothing that the law and all that it calls make is longer than what came in: it says more and counts as full. Else prove '..UptoSaid'. A law counts once. -/
mutual
def uptoBulk {H : Type} : DataW H → Nat
  | .lit (.string bytes) => bytes.length + 1
  | .lit _ => 1
  | .nil => 1
  | .ptr d => uptoBulk d + 1
  | .slice elems spare => uptoBulkAll elems + uptoBulkAll spare + 1
  | .agg parts => uptoBulkAll parts + 1
  | .iface _ d => uptoBulk d + 1
  | .map entries => uptoBulkEntries entries + 1
  | .held _ => 1
def uptoBulkAll {H : Type} : List (DataW H) → Nat
  | [] => 0
  | d :: r => uptoBulk d + uptoBulkAll r
def uptoBulkEntries {H : Type} : List (Lit × DataW H) → Nat
  | [] => 0
  | x :: r => uptoBulkEntry x + uptoBulkEntries r
def uptoBulkEntry {H : Type} : Lit × DataW H → Nat
  | (.string bytes, d) => bytes.length + uptoBulk d + 1
  | (_, d) => uptoBulk d + 1
 end
def uptoSmall : (H : Type) → List (DataW H) → Bool := fun _ ds => decide (uptoBulkAll ds ≤ 1048576)
def OpenSpec.upto (s : _root_.Go.ChangeSpec) : _root_.Go.OpenSpec := { _root_.Go.OpenSpec.ofChange s with cond := some uptoSmall }

/-- 'versolaw04.DomBuilds', WHERE WHAT IT READS IS OF BULK AT MOST 1048576: true; the input reads as it did. -/
def domBuildsUptoRow : OpenClaim := { program := "ytidicfdcjoggpaa", sum := "41767b8454c2d019971729d0509ea1492c46a4416e863ef4c93fcae821b61172", func := "verso/versolaw04.DomBuilds", spec := "domBuilds", recurses := true, apart := false, narrowed := true }
def DomBuildsUptoSaid : Prop := domBuildsUptoRow.holds Try.pinned (OpenSpec.upto domBuildsSpec)

/-- 'versolaw04.DomNames', WHERE WHAT IT READS IS OF BULK AT MOST 1048576: true; the input reads as it did. -/
def domNamesUptoRow : OpenClaim := { program := "ytidicfdcjoggpaa", sum := "41767b8454c2d019971729d0509ea1492c46a4416e863ef4c93fcae821b61172", func := "verso/versolaw04.DomNames", spec := "domNames", recurses := true, apart := false, narrowed := true }
def DomNamesUptoSaid : Prop := domNamesUptoRow.holds Try.pinned (OpenSpec.upto domNamesSpec)

/-- 'versolaw04.DomText', WHERE WHAT IT READS IS OF BULK AT MOST 1048576: true; the input reads as it did. -/
def domTextUptoRow : OpenClaim := { program := "ytidicfdcjoggpaa", sum := "41767b8454c2d019971729d0509ea1492c46a4416e863ef4c93fcae821b61172", func := "verso/versolaw04.DomText", spec := "domText", recurses := true, apart := false, narrowed := true }
def DomTextUptoSaid : Prop := domTextUptoRow.holds Try.pinned (OpenSpec.upto domTextSpec)

/-- 'versolaw04.DomBeside', WHERE WHAT IT READS IS OF BULK AT MOST 1048576: true; the input reads as it did. -/
def domBesideUptoRow : OpenClaim := { program := "ytidicfdcjoggpaa", sum := "41767b8454c2d019971729d0509ea1492c46a4416e863ef4c93fcae821b61172", func := "verso/versolaw04.DomBeside", spec := "domBeside", recurses := true, apart := false, narrowed := true }
def DomBesideUptoSaid : Prop := domBesideUptoRow.holds Try.pinned (OpenSpec.upto domBesideSpec)

/-- 'versolaw04.DomSizes', WHERE WHAT IT READS IS OF BULK AT MOST 1048576: true; the input reads as it did. -/
def domSizesUptoRow : OpenClaim := { program := "ytidicfdcjoggpaa", sum := "41767b8454c2d019971729d0509ea1492c46a4416e863ef4c93fcae821b61172", func := "verso/versolaw04.DomSizes", spec := "domSizes", recurses := true, loops := true, apart := false, narrowed := true }
def DomSizesUptoSaid : Prop := domSizesUptoRow.holds Try.pinned (OpenSpec.upto domSizesSpec)

/-- 'versolaw04.DomFine', WHERE WHAT IT READS IS OF BULK AT MOST 1048576: true; the input reads as it did. -/
def domFineUptoRow : OpenClaim := { program := "ytidicfdcjoggpaa", sum := "41767b8454c2d019971729d0509ea1492c46a4416e863ef4c93fcae821b61172", func := "verso/versolaw04.DomFine", spec := "domFine", recurses := true, apart := false, narrowed := true }
def DomFineUptoSaid : Prop := domFineUptoRow.holds Try.pinned (OpenSpec.upto domFineSpec)

/-- 'versolaw04.DomDeep', WHERE WHAT IT READS IS OF BULK AT MOST 1048576: true; the input reads as it did. -/
def domDeepUptoRow : OpenClaim := { program := "ytidicfdcjoggpaa", sum := "41767b8454c2d019971729d0509ea1492c46a4416e863ef4c93fcae821b61172", func := "verso/versolaw04.DomDeep", spec := "domDeep", recurses := true, apart := false, narrowed := true }
def DomDeepUptoSaid : Prop := domDeepUptoRow.holds Try.pinned (OpenSpec.upto domDeepSpec)

/-- 'versolaw04.DomNested', WHERE WHAT IT READS IS OF BULK AT MOST 1048576: true; the input reads as it did. -/
def domNestedUptoRow : OpenClaim := { program := "ytidicfdcjoggpaa", sum := "41767b8454c2d019971729d0509ea1492c46a4416e863ef4c93fcae821b61172", func := "verso/versolaw04.DomNested", spec := "domNested", recurses := true, apart := false, narrowed := true }
def DomNestedUptoSaid : Prop := domNestedUptoRow.holds Try.pinned (OpenSpec.upto domNestedSpec)

end Rows
end Go.Proofs.Ytidicfdcjoggpaa
