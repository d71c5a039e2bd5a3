/-
  The document's own Read of layer 8, walked.
-/
import Derived.Test.YtcplmaffccfbdaaDoorPrcut
import Derived.Test.YtcplmaffccfbdaaDoorPr5
namespace Go.Proofs.YtcplmaffccfbdaaDoor.M
open Go.RowKit
set_option linter.unusedVariables false
set_option linter.unusedSimpArgs false
def rreadP (s : Str) : Pol := foldG rnumP s pol0
def rreadR (s : Str) : AVal := if rightP (rreadP s) = true ∧ textP (rreadP s) = s then .tup [.agg (polCells (rreadP s)), .v (.int .i64 0)] else .tup [.agg (polCells pol0), .v (.int .i64 2)]
theorem Small.takenG {num : Str → Int} {p : Pol} {n m : Nat} (h : Small p n m) {ws : List Str} (hw : ∀ s ∈ ws, s.size ≤ m) : Small (takenG num p ws) (n + 1) m := by
  have k := h.up
  have w1 := getD_size hw 1
  unfold M.takenG
  dsimp only
  split
  · exact ⟨k.elems, k.attrs, k.schemes, k.classes, k.props, k.elemz, k.attrz, k.schemez, k.classez, k.propz⟩
  split
  · exact k
  split
  · exact ⟨k.elems, k.attrs, k.schemes, k.classes, k.props, k.elemz, k.attrz, k.schemez, k.classez, k.propz⟩
  split
  · exact ⟨len_snoc h.elems, k.attrs, k.schemes, k.classes, k.props, mem_snoc k.elemz w1, k.attrz, k.schemez, k.classez, k.propz⟩
  split
  · exact ⟨k.elems, len_snoc h.attrs, k.schemes, k.classes, k.props, k.elemz, mem_snoc k.attrz w1, k.schemez, k.classez, k.propz⟩
  split
  · exact ⟨k.elems, k.attrs, len_snoc h.schemes, k.classes, k.props, k.elemz, k.attrz, mem_snoc k.schemez w1, k.classez, k.propz⟩
  split
  · exact ⟨k.elems, k.attrs, k.schemes, len_snoc h.classes, k.props, k.elemz, k.attrz, k.schemez, mem_snoc k.classez w1, k.propz⟩
  split
  · exact ⟨k.elems, k.attrs, k.schemes, k.classes, len_snoc h.props, k.elemz, k.attrz, k.schemez, k.classez, mem_snoc k.propz w1⟩
  · exact k
theorem foldG_small {num : Str → Int} {m : Nat} : ∀ (ls : List Str) (p : Pol) (n : Nat), (∀ l ∈ ls, l.size ≤ m) → Small p n m → Small (ls.foldl (fun p l => takenG num p (splitS l spS)) p) (n + ls.length) m
  | [], p, n, _, h => h
  | l :: ls, p, n, hl, h => by
    have := foldG_small (num := num) ls (takenG num p (splitS l spS)) (n + 1) (fun x hx => hl x (by simp [hx])) (h.takenG fun x hx => Nat.le_trans (splitS_size hx) (hl l (by simp)))
    rw [List.length_cons, show n + (ls.length + 1) = n + 1 + ls.length by omega]
    exact this
end Go.Proofs.YtcplmaffccfbdaaDoor.M
