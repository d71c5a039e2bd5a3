/-
  What comes of elements that are begun and ended one behind the other, each with a text.
-/
import Derived.Test.YtidicfdcjoggpaaDomPure
import Derived.KernelRfl
namespace Go.Proofs.Ytidicfdcjoggpaa
open Go.RowKit
set_option linter.unusedVariables false
set_option linter.unusedSimpArgs false
def bB : Str := (⟨#[98]⟩ : ByteArray)
def tokStart (nm : Str) : Token := ⟨2, nm, [], false, ByteArray.empty⟩
def tokText (t : Str) : Token := ⟨1, ByteArray.empty, [], false, t⟩
def tokEnd (nm : Str) : Token := ⟨3, nm, [], false, ByteArray.empty⟩
def besideToks (block : Bool) : List Str → List Token
  | [] => []
  | t :: ts => match block with
    | true => tokStart bP :: tokText t :: besideToks block ts
    | false => tokStart bB :: tokText t :: tokEnd bB :: besideToks block ts
def mkEl (nm t : Str) : El := ⟨nm, [], [textNode t]⟩
def rootOf (ks : List Node) : El := ⟨ByteArray.empty, [], ks⟩
theorem start_b (ks : List Node) : startP bB [] [rootOf ks] = [⟨bB, [], []⟩, rootOf ks] := by kernel_rfl
theorem start_p (ks : List Node) : startP bP [] [rootOf ks] = [⟨bP, [], []⟩, rootOf ks] := by kernel_rfl
theorem start_pp (t : Str) (ks : List Node) : startP bP [] [mkEl bP t, rootOf ks] = [⟨bP, [], []⟩, rootOf (ks ++ [(mkEl bP t).node])] := by kernel_rfl
theorem end_b (t : Str) (ks : List Node) (many : Int) : endS bB [mkEl bB t, rootOf ks] many = ⟨[rootOf (ks ++ [(mkEl bB t).node])], many, false⟩ := by kernel_rfl
theorem text_new (nm t : Str) (ks : List Node) (many : Int) (ht : t ≠ ByteArray.empty) : textS t [⟨nm, [], []⟩, rootOf ks] many = ⟨[mkEl nm t, rootOf ks], many + 1, overP [mkEl nm t, rootOf ks] (many + 1)⟩ := by
  unfold textS
  rw [if_neg ht]
  rfl
theorem over_two (a b : El) {many : Int} (h : many ≤ 2000) : overP [a, b] many = false := by
  simp [overP]; omega
theorem step_start (nm : Str) (st : List El) (many : Int) : stepS (tokStart nm) st many = ⟨startP nm [] st, many + 1, overP (startP nm [] st) (many + 1)⟩ := by
  unfold stepS tokStart; rfl
theorem step_text (t : Str) (st : List El) (many : Int) : stepS (tokText t) st many = textS t st many := by
  unfold stepS tokText; rfl
theorem step_end (nm : Str) (st : List El) (many : Int) : stepS (tokEnd nm) st many = endS nm st many := by
  unfold stepS tokEnd; rfl
theorem beside_false : ∀ (ts : List Str) (ks : List Node) (many : Int), 0 ≤ many → many + 2 * ts.length ≤ 2000 → (∀ t ∈ ts, t ≠ ByteArray.empty) → buildL (besideToks false ts) [rootOf ks] many = some [rootOf (ks ++ ts.map fun t => (mkEl bB t).node)]
  | [], ks, many, _, _, _ => by simp [besideToks, buildL]
  | t :: ts, ks, many, h0, h1, h2 => by
    simp only [List.length_cons] at h1
    have ht := h2 t (by simp)
    have ih := beside_false ts (ks ++ [(mkEl bB t).node]) (many + 1 + 1) (by omega) (by omega) (fun x hx => h2 x (by simp [hx]))
    simp only [besideToks, buildL, step_start, start_b, over_two _ _ (show many + 1 ≤ 2000 by omega), step_text, text_new _ _ _ _ ht, over_two _ _ (show many + 1 + 1 ≤ 2000 by omega), step_end, end_b, Bool.false_eq_true, if_false, ih]
    simp
theorem beside_true : ∀ (ts : List Str) (t0 : Str) (ks : List Node) (many : Int), 0 ≤ many → many + 2 * ts.length ≤ 2000 → (∀ t ∈ ts, t ≠ ByteArray.empty) →
    ∃ t1 ks1, buildL (besideToks true ts) [mkEl bP t0, rootOf ks] many = some [mkEl bP t1, rootOf ks1] ∧ ks1 ++ [(mkEl bP t1).node] = ks ++ [(mkEl bP t0).node] ++ ts.map fun t => (mkEl bP t).node
  | [], t0, ks, many, _, _, _ => ⟨t0, ks, by simp [besideToks, buildL], by simp⟩
  | t :: ts, t0, ks, many, h0, h1, h2 => by
    simp only [List.length_cons] at h1
    have ht := h2 t (by simp)
    obtain ⟨t1, ks1, e1, e2⟩ := beside_true ts t (ks ++ [(mkEl bP t0).node]) (many + 1 + 1) (by omega) (by omega) (fun x hx => h2 x (by simp [hx]))
    refine ⟨t1, ks1, ?_, ?_⟩
    · simp only [besideToks, buildL, step_start, start_pp, over_two _ _ (show many + 1 ≤ 2000 by omega), step_text, text_new _ _ _ _ ht, over_two _ _ (show many + 1 + 1 ≤ 2000 by omega), Bool.false_eq_true, if_false, e1]
    · rw [e2]; simp
def nmOf (block : Bool) : Str := match block with
  | true => bP
  | false => bB
theorem beside_build (block : Bool) (ts : List Str) (hl : ts.length ≤ 100) (hn : ∀ t ∈ ts, t ≠ ByteArray.empty) : build (besideToks block ts) = some (ts.map fun t => (mkEl (nmOf block) t).node) := by
  unfold build
  have hroot : rootEl = rootOf [] := rfl
  rw [hroot]
  cases block
  · rw [beside_false ts [] 0 (by omega) (by omega) hn]
    simp [rootKids, shutN, rootOf, nmOf]
  · cases ts with
    | nil => simp [besideToks, buildL, rootKids, shutN, rootOf]
    | cons t ts =>
      simp only [List.length_cons] at hl
      have ht := hn t (by simp)
      obtain ⟨t1, ks1, e1, e2⟩ := beside_true ts t [] (0 + 1 + 1) (by omega) (by omega) (fun x hx => hn x (by simp [hx]))
      simp only [besideToks, buildL, step_start, start_p, over_two _ _ (show (0 : Int) + 1 ≤ 2000 by omega), step_text, text_new _ _ _ _ ht, over_two _ _ (show (0 : Int) + 1 + 1 ≤ 2000 by omega), Bool.false_eq_true, if_false, e1, Option.map_some]
      simp only [List.length_cons, List.length_nil, Nat.zero_add, Nat.add_sub_cancel, shutN, shutP, rootKids, El.add, rootOf] at e2 ⊢
      rw [e2]; simp [nmOf]
end Go.Proofs.Ytidicfdcjoggpaa
