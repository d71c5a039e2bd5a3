/-
  The document's own Right, decimal, lines and Text of layer 8, walked; the law PolicyTexts.
-/
import Derived.Test.YtcplmaffccfbdaaDoorPwLaw
import Derived.Test.YtcplmaffccfbdaaDoorPr2
namespace Go.Proofs.YtcplmaffccfbdaaDoor.M
open Go.RowKit
set_option linter.unusedVariables false
set_option linter.unusedSimpArgs false
theorem rp_false {p : Pol} (h : rightP p = true → False) : rightP p = false := by
  cases e : rightP p
  · rfl
  · exact (h e).elim
theorem scheme_words {p : Pol} (h : rightP p = true) : listP p.schemes wordP = true := by
  obtain ⟨h1, h2, h3⟩ := listP_iff.1 (rightP_split.1 h).2.2.2.1
  exact listP_iff.2 ⟨h1, fun s hs => by have := h2 s hs; unfold schemeP at this; rw [Bool.and_eq_true] at this; exact this.1, h3⟩
theorem elem_words {p : Pol} (h : rightP p = true) : listP p.elems wordP = true := by
  obtain ⟨h1, h2, h3⟩ := listP_iff.1 (rightP_elems h)
  exact listP_iff.2 ⟨h1, fun s hs => by have := h2 s hs; unfold elP at this; rw [Bool.and_eq_true] at this; exact this.1, h3⟩
theorem attr_rises {p : Pol} (h : rightP p = true) : risesP p.attrs = true := by
  obtain ⟨h1, h2, h3⟩ := listP_iff.1 (rightP_attrs h)
  unfold risesP
  rw [Bool.and_eq_true]
  exact ⟨rises_pair.2 h1, decide_eq_true h3⟩
def jsS : Str := (⟨#[106, 97, 118, 97, 115, 99, 114, 105, 112, 116]⟩ : ByteArray)
def dataS : Str := (⟨#[100, 97, 116, 97]⟩ : ByteArray)
def vbS : Str := (⟨#[118, 98, 115, 99, 114, 105, 112, 116]⟩ : ByteArray)
theorem scheme_not {p : Pol} (h : rightP p = true) : jsS ∉ p.schemes ∧ dataS ∉ p.schemes ∧ vbS ∉ p.schemes := by
  have h2 := (listP_iff.1 (rightP_split.1 h).2.2.2.1).2.1
  refine ⟨fun hs => ?_, fun hs => ?_, fun hs => ?_⟩
  · have := h2 _ hs; revert this; decide +kernel
  · have := h2 _ hs; revert this; decide +kernel
  · have := h2 _ hs; revert this; decide +kernel
theorem right_of {p : Pol} (hn : 1 ≤ p.epoch ∧ p.epoch ≤ 1000000 ∧ 1 ≤ p.depth ∧ p.depth ≤ 64 ∧ 1 ≤ p.nodes ∧ p.nodes ≤ 2000 ∧ 1 ≤ p.bytes ∧ p.bytes ≤ 16384) (h1 : listP p.elems wordP = true) (h2 : risesP p.attrs = true) (h3 : listP p.schemes wordP = true) (h4 : listP p.classes wordP = true) (h5 : listP p.props wordP = true)
    (h6 : ∀ s ∈ p.elems, neverP s = false) (h7 : ∀ s ∈ p.attrs, attrsP p.elems s = true) (h8 : liP p.elems = true) (h9 : jsS ∉ p.schemes ∧ dataS ∉ p.schemes ∧ vbS ∉ p.schemes) : rightP p = true := by
  obtain ⟨a1, a2, a3⟩ := listP_iff.1 h1
  obtain ⟨b1, b2, b3⟩ := listP_iff.1 h3
  unfold risesP at h2
  rw [Bool.and_eq_true] at h2
  refine rightP_split.2 ⟨⟨by omega, by omega, ?_⟩, listP_iff.2 ⟨a1, fun s hs => ?_, a3⟩, listP_iff.2 ⟨rises_pair.1 h2.1, h7, of_decide_eq_true h2.2⟩, listP_iff.2 ⟨b1, fun s hs => ?_, b3⟩, h4, h5, h8⟩
  · unfold capsP fitI
    rw [decide_eq_true (by omega), decide_eq_true (by omega), decide_eq_true (by omega)]; rfl
  · unfold elP
    rw [a2 s hs, h6 s hs]; rfl
  · unfold schemeP
    have e1 : s ≠ jsS := fun e => h9.1 (e ▸ hs)
    have e2 : s ≠ dataS := fun e => h9.2.1 (e ▸ hs)
    have e3 : s ≠ vbS := fun e => h9.2.2 (e ▸ hs)
    simp only [Bool.and_eq_true, decide_eq_true_eq]
    exact ⟨b2 s hs, e1, e2, e3⟩
end Go.Proofs.YtcplmaffccfbdaaDoor.M
