/-
 Lines: two scripts, one behind the other; what is read is small: in plain Lean.
-/
import Derived.Test.YtfaodacmdlnabaaGreatDoorLi
namespace Go.Proofs.YtfaodacmdlnabaaGreatDoor.M
open Go.RowKit
set_option linter.unusedVariables false
set_option linter.unusedSimpArgs false
theorem parseL_out {α : Type} (st : List UInt8 → Option α) : ∀ (n : Nat) (l : List UInt8) (out : List α), parseL st n l out = match parseL st n l [] with
  | .ok r => .ok (out ++ r)
  | .error k => .error (out.length + k)
 | 0, l, out => rfl
 | n + 1, l, out => by
  rw [parseL, parseL]
  by_cases h0 : l = []
  ·rw [if_pos h0, if_pos h0]; simp
  ·rw [if_neg h0, if_neg h0]
   split
   ·cases st (Lib.cut l [10]).1 with
    | none => rfl
    | some x =>
     dsimp only
     rw [parseL_out st n _ (out ++ [x]), parseL_out st n _ ([] ++ [x])]
     cases parseL st n (Lib.cut l [10]).2.1 [] with
     | ok r => simp
     | error k => simp; omega
   ·rfl
theorem parse_both {α : Type} (st : List UInt8 → Option α) {a b : List UInt8} {l : List α} (h : parseS st a = .ok l) : parseS st (a ++ b) = match parseS st b with
  | .ok m => .ok (l ++ m)
  | .error k => .error (l.length + k) := by
 unfold parseS at h ⊢
 rw [parse_join st _ a b [] l ((a ++ b).length + 1) (Nat.lt_succ_self _) (Nat.lt_succ_self _) h, parseL_out]
 rw [parseL_fuel st ((a ++ b).length + 1) (b.length + 1) b [] (by simp; omega) (Nat.lt_succ_self _)]
theorem linesOf_len : ∀ (l : List UInt8), ∀ h ∈ linesOf l, h.length ≤ l.length
 | [], h, hh => by rw [List.mem_singleton.1 hh]; exact Nat.le_refl _
 | c :: r, h, hh => by
  have ih := linesOf_len r
  rw [linesOf] at hh
  split at hh
  ·rcases List.mem_cons.1 hh with rfl | hh
   ·exact Nat.zero_le _
   ·have := ih h hh; simp; omega
  ·cases hl : linesOf r with
   | nil =>
    rw [hl] at hh
    rw [List.mem_singleton.1 hh]; simp
   | cons x t =>
    rw [hl] at hh ih
    rcases List.mem_cons.1 hh with rfl | hh
    ·have := ih x (by simp); simp; omega
    ·have := ih h (by simp [hh]); simp; omega
theorem lnOk_of {h : List UInt8} (hh : h.length ≤ 19000) : lnOk h := fun _ => by
 have h1 := plainD_size (cutT (mkS h) spS).2.1
 have h2 : (cutT (mkS h) spS).2.1.size ≤ (mkS h).size := (cutT_size (mkS h) 32).2
 rw [mkS_size] at h2
 omega
theorem lnOk_small {s : Str} (hs : s.size ≤ 19000) : ∀ h ∈ linesOf (bl s), lnOk h := fun h hh => by
 have := linesOf_len (bl s) h hh
 rw [bl_len] at this
 exact lnOk_of (by omega)
/-- What is read comes of lines. -/
theorem parse_mem {α : Type} (st : List UInt8 → Option α) : ∀ (n : Nat) (l : List UInt8) (out r : List α), parseL st n l out = .ok r → ∀ x ∈ r, x ∈ out ∨ ∃ h ∈ linesOf l, st h = some x
 | 0, l, out, r, h, _, _ => by cases h
 | n + 1, l, out, r, h, x, hx => by
  rw [parseL] at h
  by_cases h0 : l = []
  ·rw [if_pos h0] at h; cases h; exact .inl hx
  ·rw [if_neg h0] at h
   rcases cut_byte 10 l with ⟨e, _⟩ | ⟨a, t, e1, e2, e3⟩
   ·rw [e, if_neg (by simp)] at h; cases h
   ·rw [e3, if_pos rfl] at h
    dsimp only at h
    have hl : linesOf l = a :: linesOf t := by rw [e1]; exact linesOf_cut a t e2
    cases hs : st a with
    | none => rw [hs] at h; cases h
    | some y =>
     rw [hs] at h
     rcases parse_mem st n t _ r h x hx with h1 | ⟨b, h1, h2⟩
     ·rcases List.mem_append.1 h1 with h1 | h1
      ·exact .inl h1
      ·rw [List.mem_singleton.1 h1]
       exact .inr ⟨a, by rw [hl]; simp, hs⟩
     ·exact .inr ⟨b, by rw [hl]; simp [h1], h2⟩
theorem parse_few {α : Type} (st : List UInt8 → Option α) : ∀ (n : Nat) (l : List UInt8) (out r : List α), parseL st n l out = .ok r → r.length ≤ out.length + l.length
 | 0, l, out, r, h => by cases h
 | n + 1, l, out, r, h => by
  rw [parseL] at h
  by_cases h0 : l = []
  ·rw [if_pos h0] at h; cases h; omega
  ·rw [if_neg h0] at h
   rcases cut_byte 10 l with ⟨e, _⟩ | ⟨a, t, e1, e2, e3⟩
   ·rw [e, if_neg (by simp)] at h; cases h
   ·rw [e3, if_pos rfl] at h
    dsimp only at h
    cases hs : st a with
    | none => rw [hs] at h; cases h
    | some y =>
     rw [hs] at h
     have := parse_few st n t _ r h
     have := cut_shorter e1
     simp at *
     omega
theorem parse_bad {α : Type} (st : List UInt8 → Option α) : ∀ (n : Nat) (l : List UInt8) (out : List α) (k : Nat), parseL st n l out = .error k → k ≤ out.length + l.length
 | 0, l, out, k, h => by cases h; omega
 | n + 1, l, out, k, h => by
  rw [parseL] at h
  by_cases h0 : l = []
  ·rw [if_pos h0] at h; cases h
  ·rw [if_neg h0] at h
   rcases cut_byte 10 l with ⟨e, _⟩ | ⟨a, t, e1, e2, e3⟩
   ·rw [e, if_neg (by simp)] at h; cases h; omega
   ·rw [e3, if_pos rfl] at h
    dsimp only at h
    cases hs : st a with
    | none => rw [hs] at h; cases h; omega
    | some y =>
     rw [hs] at h
     have := parse_bad st n t _ k h
     have := cut_shorter e1
     simp at *
     omega
/-- What is read may be gone through. -/
theorem parse_fits {s : Str} (hs : s.size ≤ 100000) (ho : ∀ h ∈ linesOf (bl s), lnOk h) {l : List Step} (h : parseS lnStep (bl s) = .ok l) : (∀ x ∈ l, StepFits x ∧ Fits x.pol) ∧ l.length ≤ s.size := by
 refine ⟨fun x hx => ?_, ?_⟩
 ·rcases parse_mem lnStep _ _ _ _ h x hx with h1 | ⟨a, h1, h2⟩
  ·cases h1
  ·unfold lnStep at h2
   split at h2
   ·cases h2
    have hz := linesOf_len (bl s) a h1
    rw [bl_len] at hz
    have F := stepP_fits (h := a) (by rw [mkS_size]; omega) (ho a h1)
    exact ⟨F, F.pol⟩
   ·cases h2
 ·have := parse_few lnStep _ _ _ _ h
  rw [bl_len] at this
  simpa using this
theorem Fits.lens9 {p : Pol} (F : Fits p) : Lens9 p := ⟨Nat.le_trans F.elems (by omega), Nat.le_trans F.attrs (by omega), Nat.le_trans F.schemes (by omega), Nat.le_trans F.classes (by omega), Nat.le_trans F.props (by omega)⟩
end Go.Proofs.YtfaodacmdlnabaaGreatDoor.M
