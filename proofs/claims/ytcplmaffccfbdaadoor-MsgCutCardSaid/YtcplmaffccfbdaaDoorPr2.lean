/-
  The document's own attr, Right, decimal, lines and Text of layer 8, walked.
-/
import Derived.Test.YtcplmaffccfbdaaDoorPr1
namespace Go.Proofs.YtcplmaffccfbdaaDoor.M
open Go.RowKit
set_option linter.unusedVariables false
set_option linter.unusedSimpArgs false
theorem index_byte (c : UInt8) : ∀ l : List UInt8, Lib.index l [c] = Lib.indexByte l c
  | [] => rfl
  | b :: l => by
    simp only [Lib.index, Lib.indexByte, index_byte c l, List.isPrefixOf, Bool.and_true]
    by_cases e : b = c
    · subst e; simp
    · have h1 : (c == b) = false := by simpa using fun h => e h.symm
      have h2 : (b == c) = false := by simpa using e
      rw [h1, h2]
theorem bt_iff {s : Str} {k : Nat} (h : k < s.size) : (bl s)[k]? = some 46 ↔ bt s (k : Int) = 46 := by
  have hk : k < s.data.toList.length := by have := bl_len s; unfold bl at this; omega
  unfold bt bl
  rw [Int.toNat_natCast, List.getD_eq_getElem?_getD, List.getElem?_eq_getElem hk]
  simp only [Option.some.injEq, Option.getD_some]
  constructor
  · intro h; rw [h]; rfl
  · intro h
    apply UInt8.toNat_inj.1
    have : (46 : UInt8).toNat = 46 := rfl
    omega
theorem ix_first {s : Str} {j : Nat} (hj : j < s.size) (hb : bt s (j : Int) = 46) (hJ : ∀ k, k < j → bt s (k : Int) ≠ 46) : ixS s = (j : Int) := by
  have hge := Lib.indexByte_ge (bl s) 46
  have hx : ixS s = Lib.indexByte (bl s) 46 := rfl
  rcases Int.lt_or_le (ixS s) 0 with h | h
  · exact absurd ((bt_iff hj).2 hb) (Lib.indexByte_none (by omega : Lib.indexByte (bl s) 46 = -1) j)
  · obtain ⟨o, ho⟩ : ∃ o : Nat, ixS s = o := ⟨(ixS s).toNat, by omega⟩
    obtain ⟨h1, h2⟩ := Lib.indexByte_some (show Lib.indexByte (bl s) 46 = (o : Int) by rw [← hx]; exact ho)
    rcases Nat.lt_trichotomy o j with h3 | h3 | h3
    · exact absurd ((bt_iff (by omega)).1 h1) (hJ o h3)
    · rw [ho, h3]
    · exact absurd ((bt_iff hj).2 hb) (h2 j h3)
theorem ix_none {s : Str} (hJ : ∀ k, k < s.size → bt s (k : Int) ≠ 46) : ¬ 0 ≤ ixS s := fun h => by
  obtain ⟨o, ho⟩ : ∃ o : Nat, ixS s = o := ⟨(ixS s).toNat, by omega⟩
  have h3 := ixS_le s h
  have h1 := (Lib.indexByte_some (show Lib.indexByte (bl s) 46 = (o : Int) from ho)).1
  exact hJ o (by omega) ((bt_iff (by omega)).1 h1)
theorem bl_cut (s : Str) (a b : Nat) (hb : b ≤ s.size) : bl (cutS s (a : Int) (b : Int)) = ((bl s).take b).drop a := by
  unfold cutS bl
  rw [ByteArray.data_extract, Array.toList_extract]
  simp only [Int.toNat_natCast, List.extract_eq_take_drop]
  rw [List.drop_take]
theorem cut_first {s : Str} {j : Nat} (hj : j < s.size) (h : ixS s = (j : Int)) : cutT s dotS = (cutS s 0 (j : Int), cutS s ((j : Int) + 1) (s.size : Int), true) := by
  have hi : Lib.index (bl s) [46] = (j : Int) := by rw [index_byte]; exact h
  have e1 : cutS s 0 (j : Int) = ⟨((bl s).take j).toArray⟩ := bl_inj (by
    rw [show (0 : Int) = ((0 : Nat) : Int) from rfl, bl_cut s 0 j (by omega)]; simp [bl])
  have e2 : cutS s ((j : Int) + 1) (s.size : Int) = ⟨((bl s).drop (j + 1)).toArray⟩ := bl_inj (by
    rw [show (j : Int) + 1 = ((j + 1 : Nat) : Int) by omega, bl_cut s (j + 1) s.size (Nat.le_refl _), List.take_of_length_le (by rw [bl_len]; omega)]; simp [bl])
  rw [e1, e2]
  unfold cutT Lib.cut
  rw [show s.data.toList = bl s from rfl, show dotS.data.toList = [46] from rfl, hi, if_pos (by omega)]
  simp only [Int.toNat_natCast, List.length_cons, List.length_nil, Nat.zero_add]
theorem cut_none {s : Str} (h : ¬ 0 ≤ ixS s) : (cutT s dotS).2.2 = false := by
  unfold cutT Lib.cut
  rw [show s.data.toList = bl s from rfl, show dotS.data.toList = [46] from rfl, if_neg (by rw [index_byte]; exact h)]
theorem pre_on (a : Str) : hasPre a (⟨#[111, 110]⟩ : Str) = (decide ((1 : Int) < (a.size : Int)) && decide (cutS a 0 2 = (⟨#[111, 110]⟩ : Str))) := by
  unfold hasPre
  rw [show (⟨#[111, 110]⟩ : Str).size = 2 from rfl, show decide (2 ≤ a.size) = decide ((1 : Int) < (a.size : Int)) from decide_eq_decide.2 (by omega)]
  rfl
end Go.Proofs.YtcplmaffccfbdaaDoor.M
