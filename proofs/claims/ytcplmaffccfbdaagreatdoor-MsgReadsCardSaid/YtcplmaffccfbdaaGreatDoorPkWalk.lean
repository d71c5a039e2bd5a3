/-
  The laws PolicyReads and PolicyBack, walked.
-/
import Derived.Test.YtcplmaffccfbdaaGreatDoorPrread
import Derived.Test.YtcplmaffccfbdaaGreatDoorPsame
import Derived.Test.YtcplmaffccfbdaaGreatDoorPg
namespace Go.Proofs.YtcplmaffccfbdaaGreatDoor.M
open Go.RowKit
set_option linter.unusedVariables false
set_option linter.unusedSimpArgs false
theorem NeatP.lens {p : Pol} (h : NeatP p) : Lens9 p :=
  ⟨by have := h.elems.len; omega, by have := h.attrs.len; omega, by have := h.schemes.len; omega, by have := h.classes.len; omega, by have := h.props.len; omega⟩
theorem NeatP.fits {p : Pol} (h : NeatP p) : Fits p :=
  ⟨by have := h.elems.len; omega, by have := h.attrs.len; omega, by have := h.schemes.len; omega, by have := h.classes.len; omega, by have := h.props.len; omega, fun l hl s hs => by
    simp only [List.mem_cons, List.not_mem_nil, or_false] at hl
    rcases hl with rfl | rfl | rfl | rfl | rfl
    · have := h.elems.size s hs; omega
    · have := h.attrs.size s hs; omega
    · have := h.schemes.size s hs; omega
    · have := h.classes.size s hs; omega
    · have := h.props.size s hs; omega⟩
theorem pol0_lens : Lens9 pol0 := ⟨by decide, by decide, by decide, by decide, by decide⟩
theorem Fits.lens {p : Pol} (h : Fits p) : Lens9 p :=
  ⟨by have := h.elems; omega, by have := h.attrs; omega, by have := h.schemes; omega, by have := h.classes; omega, by have := h.props; omega⟩
/-- What is read: a right policy with that text; or nothing. -/
theorem readR_cases (s : Str) : (∃ p, rightP p = true ∧ textP p = s ∧ readR s = .tup [.agg (polCells p), .v (.int .i64 0)]) ∨ readR s = .tup [.agg (polCells pol0), .v (.int .i64 2)] := by
  unfold readR
  split
  · rename_i h; exact .inl ⟨_, h.1, h.2, rfl⟩
  · exact .inr rfl
theorem readR_text {p : Pol} (h : rightP p = true) : readR (textP p) = .tup [.agg (polCells p), .v (.int .i64 0)] := by
  have e : readP (textP p) = p := by rw [readP_G]; exact back_G h numP_itoa
  unfold readR
  rw [e, if_pos ⟨h, rfl⟩]
/-- Both ways to read numbers read the same policies. -/
theorem rreadR_eq (s : Str) : rreadR s = readR s := by
  by_cases h : rightP (readP s) = true ∧ textP (readP s) = s
  · have e : rreadP s = readP s := by
      have := back_G (num := rnumP) h.1 rnum_itoa
      rw [h.2] at this; exact this
    unfold rreadR readR
    rw [e]
  · have h2 : ¬ (rightP (rreadP s) = true ∧ textP (rreadP s) = s) := fun h2 => by
      have := back_G (num := numP) h2.1 numP_itoa
      rw [h2.2, ← readP_G] at this
      rw [this] at h; exact h h2
    unfold rreadR readR
    rw [if_neg h, if_neg h2]
end Go.Proofs.YtcplmaffccfbdaaGreatDoor.M
