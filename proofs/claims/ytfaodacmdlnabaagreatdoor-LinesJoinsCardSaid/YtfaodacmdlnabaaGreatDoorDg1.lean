/-
 Layer 16: the document's answer: what a list has, when two are the same, how much a list weighs.
-/
import Derived.Test.YtfaodacmdlnabaaGreatDoorMT
import Derived.Test.YtfaodacmdlnabaaGreatDoorProg
import Derived.Test.YtfaodacmdlnabaaGreatDoorFol
import Derived.KernelRfl
namespace Go.Proofs.YtfaodacmdlnabaaGreatDoor.M
open Go.RowKit
set_option linter.unusedVariables false
set_option linter.unusedSimpArgs false
theorem mem_iff_getD {l : List Str} {x : Str} : x ∈ l ↔ ∃ i, i < l.length ∧ l.getD i ByteArray.empty = x := by
 rw [List.mem_iff_getElem]
 constructor
 ·rintro ⟨i, hi, rfl⟩; exact ⟨i, hi, by simp [hi]⟩
 ·rintro ⟨i, hi, rfl⟩; exact ⟨i, hi, by simp [hi]⟩
theorem eq_of_getD {a b : List Str} (hl : a.length = b.length) (h : ∀ j, j < a.length → a.getD j ByteArray.empty = b.getD j ByteArray.empty) : a = b := by
 apply List.ext_getElem hl
 intro i h1 h2
 have := h i h1
 simpa [h1, h2] using this
def sizeAt (l : List Int) (i : Nat) : Int := if i < l.length then max (l.getD i 0) 0 else 0
end Go.Proofs.YtfaodacmdlnabaaGreatDoor.M
