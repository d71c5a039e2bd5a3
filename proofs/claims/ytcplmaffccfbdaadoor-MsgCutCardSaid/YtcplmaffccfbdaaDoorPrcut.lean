/-
  The document's own cut and number of layer 8, walked.
-/
import Derived.Test.YtcplmaffccfbdaaDoorPback
namespace Go.Proofs.YtcplmaffccfbdaaDoor.M
open Go.RowKit
set_option linter.unusedVariables false
set_option linter.unusedSimpArgs false
theorem bt_c {s : Str} {c : UInt8} {k : Nat} (hk : k < (bl s).length) : bt s (k : Int) = (c.toNat : Int) ↔ (bl s)[k] = c := by
  rw [bt_get hk]
  constructor
  · intro h; exact UInt8.toNat_inj.1 (by omega)
  · intro h; rw [h]
theorem cut_part {l : List UInt8} {c : UInt8} {f i : Nat} (hn : ∀ k (hk : k < l.length), f ≤ k → k < i → l[k] ≠ c) : c ∉ (l.take i).drop f := fun hm => by
  obtain ⟨j, hj, e⟩ := List.getElem_of_mem hm
  rw [List.length_drop, List.length_take] at hj
  rw [List.getElem_drop, List.getElem_take] at e
  exact hn (f + j) (by omega) (by omega) (by omega) e
theorem cut_step {l : List UInt8} {c : UInt8} {f i : Nat} (h : f ≤ i) (hi : i < l.length) (hc : l[i] = c) (hn : ∀ k (hk : k < l.length), f ≤ k → k < i → l[k] ≠ c) : cutL c (l.drop f) = (l.take i).drop f :: cutL c (l.drop (i + 1)) := by
  have e : l.drop f = (l.take i).drop f ++ c :: l.drop (i + 1) := by
    rw [← hc, ← List.drop_eq_getElem_cons hi, ← List.drop_append_of_le_length (by rw [List.length_take]; omega), List.take_append_drop]
  rw [e, cutL_app c _ _ (cut_part hn)]
theorem cut_last {l : List UInt8} {c : UInt8} {f : Nat} (hn : ∀ k (hk : k < l.length), f ≤ k → k < l.length → l[k] ≠ c) : cutL c (l.drop f) = [(l.take l.length).drop f] := by
  have h := cut_part (i := l.length) hn
  rw [List.take_length] at h ⊢
  exact cutL_no c _ h
instance (c : UInt8) : Decidable (isDig c) := inferInstanceAs (Decidable (48 ≤ c.toNat ∧ c.toNat ≤ 57))
def rnumP (s : Str) : Int := if (∀ x ∈ bl s, isDig x) ∧ s.size ≤ 7 then (dval 0 (bl s) : Int) else 0
theorem rnum_itoa (n : Int) (h0 : 0 ≤ n) (h1 : n ≤ 1000000) : rnumP (itoaS n) = n := by
  have h2 := itoa_len n h0 h1
  obtain ⟨k, rfl⟩ : ∃ k : Nat, n = k := ⟨n.toNat, by omega⟩
  unfold rnumP
  rw [bl_itoa, if_pos ⟨decDigits_dig k, h2⟩, dval_dec]
theorem dval_snoc (a : Nat) (l : List UInt8) (c : UInt8) : dval a (l ++ [c]) = dval a l * 10 + (c.toNat - 48) := by
  unfold dval; rw [List.foldl_append]; rfl
end Go.Proofs.YtcplmaffccfbdaaDoor.M
