/-
  What versolaw04.fine asks of a tree, as a property of plain data.
-/
import Derived.Test.YtidicfdcjoggpaaDomSize
import Derived.Test.YtidicfdcjoggpaaDomStart
namespace Go.Proofs.Ytidicfdcjoggpaa
open Go.RowKit
set_option linter.unusedVariables false
set_option linter.unusedSimpArgs false
/-- Is the innermost one of li, ul, ol a li, behind one more element? -/
def inLi (li : Bool) (nm : Str) : Bool := (li && (decide (nm ≠ bUl) && decide (nm ≠ bOl))) || decide (nm = bLi)
def FineL : Bool → Bool → Bool → List Node → Prop
  | _, _, _, [] => True
  | p, li, prev, ⟨nm, ats, tx, ks⟩ :: r =>
    (nm = ByteArray.empty → tx ≠ ByteArray.empty ∧ ks = [] ∧ ats = [] ∧ prev = false) ∧
    (nm ≠ ByteArray.empty → tx = ByteArray.empty ∧ (p = true → isBlock nm = false) ∧ (li = true → nm ≠ bLi) ∧ (isVoid nm = true → ks = []) ∧ FineL (p || decide (nm = bP)) (inLi li nm) false ks) ∧
    FineL p li (decide (nm = ByteArray.empty)) r
termination_by _ _ _ l => SizeOf.sizeOf l
def NodeFine (p li prev : Bool) (n : Node) : Prop :=
  (n.name = ByteArray.empty → n.text ≠ ByteArray.empty ∧ n.kids = [] ∧ n.attrs = [] ∧ prev = false) ∧
  (n.name ≠ ByteArray.empty → n.text = ByteArray.empty ∧ (p = true → isBlock n.name = false) ∧ (li = true → n.name ≠ bLi) ∧ (isVoid n.name = true → n.kids = []) ∧ FineL (p || decide (n.name = bP)) (inLi li n.name) false n.kids)
theorem FineL_nil (p li prev : Bool) : FineL p li prev [] := by rw [FineL]; trivial
theorem FineL_cons (p li prev : Bool) (n : Node) (r : List Node) : FineL p li prev (n :: r) ↔ NodeFine p li prev n ∧ FineL p li (decide (n.name = ByteArray.empty)) r := by
  obtain ⟨nm, ats, tx, ks⟩ := n
  rw [FineL, NodeFine, and_assoc]
/-- Is what stands ahead of place k a text? -/
def prevAt (prev : Bool) (l : List Node) : Nat → Bool
  | 0 => prev
  | m + 1 => ((l[m]?).map fun n => decide (n.name = ByteArray.empty)).getD false
theorem FineL_at : ∀ {l : List Node} {p li prev : Bool}, FineL p li prev l → ∀ {k : Nat} (h : k < l.length), NodeFine p li (prevAt prev l k) l[k]
  | n :: r, p, li, prev, hf, 0, _ => ((FineL_cons ..).1 hf).1
  | n :: r, p, li, prev, hf, k + 1, h => by
    have h1 := FineL_at ((FineL_cons ..).1 hf).2 (k := k) (by simpa using h)
    cases k with
    | zero => simpa [prevAt] using h1
    | succ m => simpa [prevAt] using h1
end Go.Proofs.Ytidicfdcjoggpaa
