/-
  No cell of these rows narrows 'for every input' (looked for: loops, veiled, ifaces, maps, wideKeys, modest, calm, conditions, laid).
  DERIVED. THE GIVEN ROWS OF THIS SEAT. 6 by the template 'for every input the law returns true; each argument reads behind the call as it read before'; 0 by the template 'total and deterministic' (their statements: YthigakhmggbliaaTotals.lean).
  GIVEN WITH THE SEED: the statements are not yours to turn. If you find one false, say at which input.
  Laid BY PROGRAM, IN A SANDBOX (cutbox-rows.mjs): the forced cells as the released guide's own fill.sh prints them over the translation e8d65f507a95edb7… (all of the seat's roots in one cut). By AI agents, Wed Nov 11 2026. No macro, syntax, notation, axiom, sorry.
-/
import Derived.Test.YthigakhmggbliaaChecked
import GoSem.Claim
import GoSem.ClaimJoined
import GoSem.ClaimMapViews
import Derived.JoinedTies
import Derived.KernelRfl
namespace Go.Proofs.Ythigakhmggbliaa
/- THE CELL 'sum', in the pinned program and in every row, IS THE sha256 OF THE DUMP (.gsa) THAT YthigakhmggbliaaProg.lean LOADS. Nothing in Lean hashes anything: it is a label: what it is worth is what the hold of that sum in a sandbox is worth. -/
noncomputable def Try.pinned : Pinned := { name := "ythigakhmggbliaa", sum := "e8d65f507a95edb7ef33110ed7eccaa03ca6cf56d10709ee2e9b11f5844699bd", checked := Try.checked }
namespace Rows
def none {H : Type} : Left H := { results := [], args := [] }

/-- 'versolaw16.DigestLists': WHATEVER THE INPUT: true; the input reads as it did. -/
def digestListsSpec : ChangeSpec := { name := "digestLists", fn := fun _ => fun
  | [d1, d2] => { results := [.lit (.bool true)], args := [d1, d2] }
  | _ => none }
def digestListsRow : OpenClaim := { program := "ythigakhmggbliaa", sum := "e8d65f507a95edb7ef33110ed7eccaa03ca6cf56d10709ee2e9b11f5844699bd", func := "verso/versolaw16.DigestLists", spec := "digestLists", recurses := true, apart := false }
def DigestListsSaid : Prop := digestListsRow.holds Try.pinned (OpenSpec.ofChange digestListsSpec)

/-- ITS FALSE NEIGHBOUR: 'it returns false'. Refute it at one input. -/
def digestListsWrong : ChangeSpec := { name := "digestLists", fn := fun _ => fun
  | [d1, d2] => { results := [.lit (.bool false)], args := [d1, d2] }
  | _ => none }
def DigestListsWrongFalsely : Prop := digestListsRow.holds Try.pinned (OpenSpec.ofChange digestListsWrong)

/-- 'versolaw16.DigestShort': WHATEVER THE INPUT: true; the input reads as it did. -/
def digestShortSpec : ChangeSpec := { name := "digestShort", fn := fun _ => fun
  | [d1, d2, d3] => { results := [.lit (.bool true)], args := [d1, d2, d3] }
  | _ => none }
def digestShortRow : OpenClaim := { program := "ythigakhmggbliaa", sum := "e8d65f507a95edb7ef33110ed7eccaa03ca6cf56d10709ee2e9b11f5844699bd", func := "verso/versolaw16.DigestShort", spec := "digestShort", recurses := true, apart := false }
def DigestShortSaid : Prop := digestShortRow.holds Try.pinned (OpenSpec.ofChange digestShortSpec)

/-- ITS FALSE NEIGHBOUR: 'it returns false'. Refute it at one input. -/
def digestShortWrong : ChangeSpec := { name := "digestShort", fn := fun _ => fun
  | [d1, d2, d3] => { results := [.lit (.bool false)], args := [d1, d2, d3] }
  | _ => none }
def DigestShortWrongFalsely : Prop := digestShortRow.holds Try.pinned (OpenSpec.ofChange digestShortWrong)

/-- 'versolaw16.DigestMeets': WHATEVER THE INPUT: true; the input reads as it did. -/
def digestMeetsSpec : ChangeSpec := { name := "digestMeets", fn := fun _ => fun
  | [d1, d2] => { results := [.lit (.bool true)], args := [d1, d2] }
  | _ => none }
def digestMeetsRow : OpenClaim := { program := "ythigakhmggbliaa", sum := "e8d65f507a95edb7ef33110ed7eccaa03ca6cf56d10709ee2e9b11f5844699bd", func := "verso/versolaw16.DigestMeets", spec := "digestMeets", recurses := true, apart := false }
def DigestMeetsSaid : Prop := digestMeetsRow.holds Try.pinned (OpenSpec.ofChange digestMeetsSpec)

/-- ITS FALSE NEIGHBOUR: 'it returns false'. Refute it at one input. -/
def digestMeetsWrong : ChangeSpec := { name := "digestMeets", fn := fun _ => fun
  | [d1, d2] => { results := [.lit (.bool false)], args := [d1, d2] }
  | _ => none }
def DigestMeetsWrongFalsely : Prop := digestMeetsRow.holds Try.pinned (OpenSpec.ofChange digestMeetsWrong)

/-- 'versolaw16.DigestRises': WHATEVER THE INPUT: true; the input reads as it did. -/
def digestRisesSpec : ChangeSpec := { name := "digestRises", fn := fun _ => fun
  | [d1, d2] => { results := [.lit (.bool true)], args := [d1, d2] }
  | _ => none }
def digestRisesRow : OpenClaim := { program := "ythigakhmggbliaa", sum := "e8d65f507a95edb7ef33110ed7eccaa03ca6cf56d10709ee2e9b11f5844699bd", func := "verso/versolaw16.DigestRises", spec := "digestRises", recurses := true, apart := false }
def DigestRisesSaid : Prop := digestRisesRow.holds Try.pinned (OpenSpec.ofChange digestRisesSpec)

/-- ITS FALSE NEIGHBOUR: 'it returns false'. Refute it at one input. -/
def digestRisesWrong : ChangeSpec := { name := "digestRises", fn := fun _ => fun
  | [d1, d2] => { results := [.lit (.bool false)], args := [d1, d2] }
  | _ => none }
def DigestRisesWrongFalsely : Prop := digestRisesRow.holds Try.pinned (OpenSpec.ofChange digestRisesWrong)

/-- 'versolaw16.DigestRoom': WHATEVER THE INPUT: true; the input reads as it did. -/
def digestRoomSpec : ChangeSpec := { name := "digestRoom", fn := fun _ => fun
  | [d1, d2, d3] => { results := [.lit (.bool true)], args := [d1, d2, d3] }
  | _ => none }
def digestRoomRow : OpenClaim := { program := "ythigakhmggbliaa", sum := "e8d65f507a95edb7ef33110ed7eccaa03ca6cf56d10709ee2e9b11f5844699bd", func := "verso/versolaw16.DigestRoom", spec := "digestRoom", recurses := true, apart := false }
def DigestRoomSaid : Prop := digestRoomRow.holds Try.pinned (OpenSpec.ofChange digestRoomSpec)

/-- ITS FALSE NEIGHBOUR: 'it returns false'. Refute it at one input. -/
def digestRoomWrong : ChangeSpec := { name := "digestRoom", fn := fun _ => fun
  | [d1, d2, d3] => { results := [.lit (.bool false)], args := [d1, d2, d3] }
  | _ => none }
def DigestRoomWrongFalsely : Prop := digestRoomRow.holds Try.pinned (OpenSpec.ofChange digestRoomWrong)

/-- 'versolaw16.DigestNone': WHATEVER THE INPUT: true; the input reads as it did. -/
def digestNoneSpec : ChangeSpec := { name := "digestNone", fn := fun _ => fun
  | [d] => { results := [.lit (.bool true)], args := [d] }
  | _ => none }
def digestNoneRow : OpenClaim := { program := "ythigakhmggbliaa", sum := "e8d65f507a95edb7ef33110ed7eccaa03ca6cf56d10709ee2e9b11f5844699bd", func := "verso/versolaw16.DigestNone", spec := "digestNone", recurses := true, apart := false }
def DigestNoneSaid : Prop := digestNoneRow.holds Try.pinned (OpenSpec.ofChange digestNoneSpec)

/-- ITS FALSE NEIGHBOUR: 'it returns false'. Refute it at one input. -/
def digestNoneWrong : ChangeSpec := { name := "digestNone", fn := fun _ => fun
  | [d] => { results := [.lit (.bool false)], args := [d] }
  | _ => none }
def DigestNoneWrongFalsely : Prop := digestNoneRow.holds Try.pinned (OpenSpec.ofChange digestNoneWrong)

/- THE SECOND FORM. 'bulk': how many values and letters a reading holds, each counted each time it is reached (what is shared counts as often as it is met; a slice's spare places count too). A statement '..UptoSaid' is the law's where the arguments, and the package variables that the reading takes, are together of bulk at most 1048576: NARROWER than '..Said'. Prove '..Said' where nothing that the law and all that it calls make is longer than what came in: it says more and counts as full. Else prove '..UptoSaid'. A law counts once. -/
mutual
def uptoBulk {H : Type} : DataW H → Nat
  | .lit (.string bytes) => bytes.length + 1
  | .lit _ => 1
  | .nil => 1
  | .ptr d => uptoBulk d + 1
  | .slice elems spare => uptoBulkAll elems + uptoBulkAll spare + 1
  | .agg parts => uptoBulkAll parts + 1
  | .iface _ d => uptoBulk d + 1
  | .map entries => uptoBulkEntries entries + 1
  | .held _ => 1
def uptoBulkAll {H : Type} : List (DataW H) → Nat
  | [] => 0
  | d :: r => uptoBulk d + uptoBulkAll r
def uptoBulkEntries {H : Type} : List (Lit × DataW H) → Nat
  | [] => 0
  | x :: r => uptoBulkEntry x + uptoBulkEntries r
def uptoBulkEntry {H : Type} : Lit × DataW H → Nat
  | (.string bytes, d) => bytes.length + uptoBulk d + 1
  | (_, d) => uptoBulk d + 1
 end
def uptoSmall : (H : Type) → List (DataW H) → Bool := fun _ ds => decide (uptoBulkAll ds ≤ 1048576)
def OpenSpec.upto (s : _root_.Go.ChangeSpec) : _root_.Go.OpenSpec := { _root_.Go.OpenSpec.ofChange s with cond := some uptoSmall }

/-- 'versolaw16.DigestLists', WHERE WHAT IT READS IS OF BULK AT MOST 1048576: true; the input reads as it did. -/
def digestListsUptoRow : OpenClaim := { program := "ythigakhmggbliaa", sum := "e8d65f507a95edb7ef33110ed7eccaa03ca6cf56d10709ee2e9b11f5844699bd", func := "verso/versolaw16.DigestLists", spec := "digestLists", recurses := true, apart := false, narrowed := true }
def DigestListsUptoSaid : Prop := digestListsUptoRow.holds Try.pinned (OpenSpec.upto digestListsSpec)

/-- 'versolaw16.DigestShort', WHERE WHAT IT READS IS OF BULK AT MOST 1048576: true; the input reads as it did. -/
def digestShortUptoRow : OpenClaim := { program := "ythigakhmggbliaa", sum := "e8d65f507a95edb7ef33110ed7eccaa03ca6cf56d10709ee2e9b11f5844699bd", func := "verso/versolaw16.DigestShort", spec := "digestShort", recurses := true, apart := false, narrowed := true }
def DigestShortUptoSaid : Prop := digestShortUptoRow.holds Try.pinned (OpenSpec.upto digestShortSpec)

/-- 'versolaw16.DigestMeets', WHERE WHAT IT READS IS OF BULK AT MOST 1048576: true; the input reads as it did. -/
def digestMeetsUptoRow : OpenClaim := { program := "ythigakhmggbliaa", sum := "e8d65f507a95edb7ef33110ed7eccaa03ca6cf56d10709ee2e9b11f5844699bd", func := "verso/versolaw16.DigestMeets", spec := "digestMeets", recurses := true, apart := false, narrowed := true }
def DigestMeetsUptoSaid : Prop := digestMeetsUptoRow.holds Try.pinned (OpenSpec.upto digestMeetsSpec)

/-- 'versolaw16.DigestRises', WHERE WHAT IT READS IS OF BULK AT MOST 1048576: true; the input reads as it did. -/
def digestRisesUptoRow : OpenClaim := { program := "ythigakhmggbliaa", sum := "e8d65f507a95edb7ef33110ed7eccaa03ca6cf56d10709ee2e9b11f5844699bd", func := "verso/versolaw16.DigestRises", spec := "digestRises", recurses := true, apart := false, narrowed := true }
def DigestRisesUptoSaid : Prop := digestRisesUptoRow.holds Try.pinned (OpenSpec.upto digestRisesSpec)

/-- 'versolaw16.DigestRoom', WHERE WHAT IT READS IS OF BULK AT MOST 1048576: true; the input reads as it did. -/
def digestRoomUptoRow : OpenClaim := { program := "ythigakhmggbliaa", sum := "e8d65f507a95edb7ef33110ed7eccaa03ca6cf56d10709ee2e9b11f5844699bd", func := "verso/versolaw16.DigestRoom", spec := "digestRoom", recurses := true, apart := false, narrowed := true }
def DigestRoomUptoSaid : Prop := digestRoomUptoRow.holds Try.pinned (OpenSpec.upto digestRoomSpec)

/-- 'versolaw16.DigestNone', WHERE WHAT IT READS IS OF BULK AT MOST 1048576: true; the input reads as it did. -/
def digestNoneUptoRow : OpenClaim := { program := "ythigakhmggbliaa", sum := "e8d65f507a95edb7ef33110ed7eccaa03ca6cf56d10709ee2e9b11f5844699bd", func := "verso/versolaw16.DigestNone", spec := "digestNone", recurses := true, apart := false, narrowed := true }
def DigestNoneUptoSaid : Prop := digestNoneUptoRow.holds Try.pinned (OpenSpec.upto digestNoneSpec)

end Rows
end Go.Proofs.Ythigakhmggbliaa
