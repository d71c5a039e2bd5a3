/-
  A policy without one of its schemes, classes or props, or with a smaller cap.
-/
import Derived.Test.YtcplmaffccfbdaaGreatDoorMS
import Derived.Test.YtcplmaffccfbdaaGreatDoorPoLaw
namespace Go.Proofs.YtcplmaffccfbdaaGreatDoor.M
open Go.RowKit
set_option linter.unusedVariables false
set_option linter.unusedSimpArgs false
theorem rises_pair {l : List Str} : risesL l = true ↔ l.Pairwise Lt := by
  have key : ∀ l : List Str, (∀ i, i + 1 < l.length → strLt (l.getD i ByteArray.empty) (l.getD (i + 1) ByteArray.empty) = true) → l.Pairwise Lt := by
    intro l
    induction l with
    | nil => intro _; exact .nil
    | cons a l ih =>
      intro h
      have hl := ih (fun i hi => by have := h (i + 1) (by simp; omega); simpa using this)
      refine List.pairwise_cons.2 ⟨fun b hb => ?_, hl⟩
      cases l with
      | nil => cases hb
      | cons c l =>
        have h0 := (strLt_eq _ _).1 (h 0 (by simp))
        simp only [List.getD_cons_zero, List.getD_cons_succ] at h0
        rcases List.mem_cons.1 hb with rfl | hb
        · exact h0
        · exact h0.trans ((List.pairwise_cons.1 hl).1 b hb)
  constructor
  · intro h
    exact key l fun i hi => List.all_eq_true.1 h i (List.mem_range.2 (by omega))
  · intro h
    refine List.all_eq_true.2 fun i hi => ?_
    have hi := List.mem_range.1 hi
    have := List.pairwise_iff_getElem.1 h i (i + 1) (by omega) (by omega) (by omega)
    rw [strLt_eq]
    simpa [show i < l.length by omega, show i + 1 < l.length by omega] using this
theorem listP_iff {l : List Str} {holds : Str → Bool} : listP l holds = true ↔ l.Pairwise Lt ∧ (∀ s ∈ l, holds s = true) ∧ l.length ≤ 64 := by
  unfold listP
  simp only [Bool.and_eq_true, decide_eq_true_eq, List.all_eq_true, rises_pair, and_assoc]
theorem list_erase {l : List Str} {holds : Str → Bool} (h : listP l holds = true) (k : Nat) : listP (l.eraseIdx k) holds = true := by
  obtain ⟨h1, h2, h3⟩ := listP_iff.1 h
  exact listP_iff.2 ⟨h1.sublist (List.eraseIdx_sublist l k), fun s hs => h2 s (List.mem_of_mem_eraseIdx hs), Nat.le_trans (List.length_eraseIdx_le l k) h3⟩
theorem not_mem_erase {l : List Str} (h : l.Pairwise Lt) : ∀ {k : Nat} (hk : k < l.length), l[k] ∉ l.eraseIdx k := by
  induction l with
  | nil => intro k hk; simp at hk
  | cons a l ih =>
    obtain ⟨h1, h2⟩ := List.pairwise_cons.1 h
    intro k hk
    cases k with
    | zero =>
      simp only [List.getElem_cons_zero, List.eraseIdx_cons_zero]
      exact fun h => Lt.irrefl _ (h1 a h)
    | succ k =>
      simp only [List.getElem_cons_succ, List.eraseIdx_cons_succ, List.mem_cons, not_or]
      have hk' : k < l.length := by simpa using hk
      refine ⟨fun e => ?_, ih h2 hk'⟩
      have := h1 l[k] (List.getElem_mem hk')
      rw [e] at this
      exact Lt.irrefl _ this
def dropAt (l : List Str) (n : Int) : List Str := l.eraseIdx (n.toNat % l.length)
theorem dropAt_sub {l : List Str} {n : Int} {s : Str} (h : s ∈ dropAt l n) : s ∈ l := List.mem_of_mem_eraseIdx h
theorem allIn_drop (l : List Str) (n : Int) : allIn (dropAt l n) l = true := by
  unfold allIn
  rw [List.all_eq_true]
  exact fun s hs => decide_eq_true (dropAt_sub hs)
theorem allIn_self (l : List Str) : allIn l l = true := by
  unfold allIn
  rw [List.all_eq_true]
  exact fun s hs => decide_eq_true hs
theorem allIn_less {l : List Str} (h : l.Pairwise Lt) (n : Int) : allIn l (dropAt l n) = !decide ((0 : Int) < (l.length : Int)) := by
  cases l with
  | nil => rfl
  | cons a l =>
    rw [decide_eq_true (by simp only [List.length_cons]; omega)]
    have hk : n.toNat % (a :: l).length < (a :: l).length := Nat.mod_lt _ (by simp)
    unfold allIn
    rw [List.all_eq_false.2 ⟨(a :: l)[n.toNat % (a :: l).length], List.getElem_mem hk, by
      rw [decide_eq_false (show (a :: l)[n.toNat % (a :: l).length] ∉ dropAt (a :: l) n from not_mem_erase h hk)]
      simp⟩]
    rfl
theorem rightP_split {p : Pol} : rightP p = true ↔ (¬ p.epoch < 1 ∧ ¬ 1000000 < p.epoch ∧ capsP p = true) ∧ listP p.elems elP = true ∧ listP p.attrs (attrsP p.elems) = true ∧ listP p.schemes schemeP = true ∧ listP p.classes wordP = true ∧ listP p.props wordP = true ∧ liP p.elems = true := by
  unfold rightP
  simp only [Bool.and_eq_true, Bool.not_eq_true', Bool.or_eq_false_iff, decide_eq_false_iff_not, Bool.not_eq_false']
theorem schemes_law {p : Pol} (h : rightP p = true) (n : Int) : rightP { p with schemes := dropAt p.schemes n } = true ∧ strictP { p with schemes := dropAt p.schemes n } p = true ∧ strictP p { p with schemes := dropAt p.schemes n } = !decide ((0 : Int) < (p.schemes.length : Int)) := by
  obtain ⟨h0, h1, h2, h3, h4, h5, h6⟩ := rightP_split.1 h
  refine ⟨rightP_split.2 ⟨h0, h1, h2, list_erase h3 _, h4, h5, h6⟩, strict_of (fun s hs => attrIn_iff.2 (.inl hs)) ⟨by dsimp only; omega, by dsimp only; omega, by dsimp only; omega⟩ (fun _ h => h) (fun _ h => dropAt_sub h) (fun _ h => h) (fun _ h => h), ?_⟩
  have ha : p.attrs.all (attrIn { p with schemes := dropAt p.schemes n }) = true := List.all_eq_true.2 fun s hs => attrIn_iff.2 (.inl hs)
  unfold strictP
  simp only [ha, allIn_self, allIn_less (listP_iff.1 h3).1, Int.min_self, decide_true, Bool.true_and, Bool.and_true]
theorem classes_law {p : Pol} (h : rightP p = true) (n : Int) : rightP { p with classes := dropAt p.classes n } = true ∧ strictP { p with classes := dropAt p.classes n } p = true ∧ strictP p { p with classes := dropAt p.classes n } = !decide ((0 : Int) < (p.classes.length : Int)) := by
  obtain ⟨h0, h1, h2, h3, h4, h5, h6⟩ := rightP_split.1 h
  refine ⟨rightP_split.2 ⟨h0, h1, h2, h3, list_erase h4 _, h5, h6⟩, strict_of (fun s hs => attrIn_iff.2 (.inl hs)) ⟨by dsimp only; omega, by dsimp only; omega, by dsimp only; omega⟩ (fun _ h => h) (fun _ h => h) (fun _ h => dropAt_sub h) (fun _ h => h), ?_⟩
  have ha : p.attrs.all (attrIn { p with classes := dropAt p.classes n }) = true := List.all_eq_true.2 fun s hs => attrIn_iff.2 (.inl hs)
  unfold strictP
  simp only [ha, allIn_self, allIn_less (listP_iff.1 h4).1, Int.min_self, decide_true, Bool.true_and, Bool.and_true]
theorem props_law {p : Pol} (h : rightP p = true) (n : Int) : rightP { p with props := dropAt p.props n } = true ∧ strictP { p with props := dropAt p.props n } p = true ∧ strictP p { p with props := dropAt p.props n } = !decide ((0 : Int) < (p.props.length : Int)) := by
  obtain ⟨h0, h1, h2, h3, h4, h5, h6⟩ := rightP_split.1 h
  refine ⟨rightP_split.2 ⟨h0, h1, h2, h3, h4, list_erase h5 _, h6⟩, strict_of (fun s hs => attrIn_iff.2 (.inl hs)) ⟨by dsimp only; omega, by dsimp only; omega, by dsimp only; omega⟩ (fun _ h => h) (fun _ h => h) (fun _ h => h) (fun _ h => dropAt_sub h), ?_⟩
  have ha : p.attrs.all (attrIn { p with props := dropAt p.props n }) = true := List.all_eq_true.2 fun s hs => attrIn_iff.2 (.inl hs)
  unfold strictP
  simp only [ha, allIn_self, allIn_less (listP_iff.1 h5).1, Int.min_self, decide_true, Bool.true_and, Bool.and_true]
theorem bytes_law {p : Pol} (h : rightP p = true) : rightP { p with bytes := max (p.bytes - 1) 1 } = true ∧ strictP { p with bytes := max (p.bytes - 1) 1 } p = true ∧ strictP p { p with bytes := max (p.bytes - 1) 1 } = !decide (1 < p.bytes) := by
  have hn := rightP_nums h
  obtain ⟨⟨ha, hb, hc⟩, h1, h2, h3, h4, h5, h6⟩ := rightP_split.1 h
  refine ⟨rightP_split.2 ⟨⟨ha, hb, ?_⟩, h1, h2, h3, h4, h5, h6⟩, strict_of (fun s hs => attrIn_iff.2 (.inl hs)) ⟨by dsimp only; omega, by dsimp only; omega, by dsimp only; omega⟩ (fun _ h => h) (fun _ h => h) (fun _ h => h) (fun _ h => h), ?_⟩
  · unfold capsP fitI at hc ⊢
    simp only [Bool.and_eq_true, decide_eq_true_eq] at hc ⊢
    exact ⟨hc.1, hc.2.1, by omega⟩
  · have ha : p.attrs.all (attrIn { p with bytes := max (p.bytes - 1) 1 }) = true := List.all_eq_true.2 fun s hs => attrIn_iff.2 (.inl hs)
    unfold strictP
    simp only [ha, allIn_self, Int.min_self, decide_true, Bool.true_and, Bool.and_true]
    by_cases h1 : 1 < p.bytes
    · rw [decide_eq_true h1, decide_eq_false (by omega)]; rfl
    · rw [decide_eq_false h1, decide_eq_true (by omega)]; rfl
end Go.Proofs.YtcplmaffccfbdaaGreatDoor.M
