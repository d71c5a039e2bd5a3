/-
  A policy is as strict as itself; what is stricter than what is stricter is, too; what it lets the other one does.
-/
import Derived.Test.YtcplmaffccfbdaaGreatDoorPg
namespace Go.Proofs.YtcplmaffccfbdaaGreatDoor.M
open Go.RowKit
set_option linter.unusedVariables false
set_option linter.unusedSimpArgs false
def bl (s : Str) : List UInt8 := s.data.toList
theorem bl_app (a b : Str) : bl (a ++ b) = bl a ++ bl b := by
  unfold bl
  rw [ByteArray.data_append, Array.toList_append]
theorem bl_inj {a b : Str} (h : bl a = bl b) : a = b := by
  apply ByteArray.ext
  apply Array.ext'
  exact h
theorem bl_len (s : Str) : (bl s).length = s.size := by
  unfold bl
  rw [Array.length_toList]; rfl
theorem ixd (c : UInt8) : ∀ l : List UInt8, (Lib.indexByte l c = -1 → l.dropWhile (fun x => !(x == c)) = []) ∧ ∀ o : Nat, Lib.indexByte l c = o → l.dropWhile (fun x => !(x == c)) = l.drop o
  | [] => ⟨fun _ => rfl, fun o h => by simp [Lib.indexByte] at h⟩
  | b :: l => by
    obtain ⟨h1, h2⟩ := ixd c l
    have hge := Lib.indexByte_ge l c
    by_cases e : b == c
    · refine ⟨fun h => ?_, fun o h => ?_⟩
      · simp [Lib.indexByte, e] at h
      · simp only [Lib.indexByte, e, if_true] at h
        obtain rfl : o = 0 := by omega
        simp [List.dropWhile, e]
    · by_cases e2 : Lib.indexByte l c == -1
      · refine ⟨fun _ => ?_, fun o h => ?_⟩
        · simp only [List.dropWhile, e, Bool.not_false]
          exact h1 (by simpa using e2)
        · simp only [Lib.indexByte, e, e2, if_true, Bool.false_eq_true, if_false] at h
          omega
      · have e3 : Lib.indexByte l c ≠ -1 := by simpa using e2
        refine ⟨fun h => ?_, fun o h => ?_⟩
        · simp only [Lib.indexByte, e, e2, Bool.false_eq_true, if_false] at h
          omega
        · simp only [Lib.indexByte, e, e2, Bool.false_eq_true, if_false] at h
          obtain ⟨m, rfl⟩ : ∃ m, o = m + 1 := ⟨o - 1, by omega⟩
          simp only [List.dropWhile, e, Bool.not_false, List.drop_succ_cons]
          exact h2 m (by omega)
def tailL (l : List UInt8) : List UInt8 := l.dropWhile fun x => !(x == 46)
theorem any_bl (s : Str) : bl (anyS s) = 42 :: tailL (bl s) := by
  unfold anyS
  have hx : ixS s = Lib.indexByte (bl s) 46 := rfl
  obtain ⟨h1, h2⟩ := ixd 46 (bl s)
  have hge := Lib.indexByte_ge (bl s) 46
  by_cases h : 0 ≤ ixS s
  · rw [if_pos h, bl_app]
    obtain ⟨o, ho⟩ : ∃ o : Nat, ixS s = o := ⟨(ixS s).toNat, by omega⟩
    have h3 := h2 o (by rw [← hx]; exact ho)
    unfold tailL
    rw [h3, ho]
    have : bl (cutS s (o : Int) (s.size : Int)) = (bl s).drop o := by
      unfold cutS bl
      rw [ByteArray.data_extract, Array.toList_extract]
      simp only [Int.toNat_natCast, List.extract_eq_take_drop]
      rw [← List.drop_take, List.take_of_length_le (by have := bl_len s; unfold bl at this; omega)]
    rw [this]; rfl
  · rw [if_neg h]
    unfold tailL
    rw [h1 (by omega)]
    rfl
theorem tail_dots {l : List UInt8} (h : ∀ x ∈ l, x ≠ 46) (r : List UInt8) : tailL (l ++ 46 :: r) = 46 :: r := by
  unfold tailL
  induction l with
  | nil => rfl
  | cons a l ih =>
    have ha : (a == 46) = false := by simpa using h a (by simp)
    simp only [List.cons_append, List.dropWhile, ha, Bool.not_false]
    exact ih fun x hx => h x (by simp [hx])
theorem tail_idem (l : List UInt8) : tailL (42 :: tailL l) = tailL l := by
  have h : (42 == (46 : UInt8)) = false := rfl
  show List.dropWhile _ (42 :: tailL l) = _
  simp only [List.dropWhile, h, Bool.not_false]
  unfold tailL
  induction l with
  | nil => rfl
  | cons a l ih =>
    cases ha : (a == (46 : UInt8))
    · simp only [List.dropWhile, ha, Bool.not_false]; exact ih
    · simp only [List.dropWhile, ha, Bool.not_true]
theorem any_any (s : Str) : anyS (anyS s) = anyS s := bl_inj (by rw [any_bl, any_bl, tail_idem])
def starA (a : Str) : Str := ⟨#[42, 46]⟩ ++ a
def elemA (e a : Str) : Str := (e ++ ⟨#[46]⟩ : Str) ++ a
theorem any_star (a : Str) : anyS (starA a) = starA a := bl_inj (by
  rw [any_bl]
  have : bl (starA a) = [42] ++ 46 :: bl a := by unfold starA; rw [bl_app]; rfl
  rw [this, tail_dots (by simp)]; rfl)
theorem any_elem {e : Str} (h : ∀ x ∈ bl e, x ≠ 46) (a : Str) : anyS (elemA e a) = starA a := bl_inj (by
  rw [any_bl]
  have h1 : bl (elemA e a) = bl e ++ 46 :: bl a := by
    unfold elemA; rw [bl_app, bl_app, List.append_assoc]; rfl
  have h2 : bl (starA a) = 42 :: 46 :: bl a := by unfold starA; rw [bl_app]; rfl
  rw [h1, tail_dots h, h2])
theorem word_dots {e : Str} (h : wordP e = true) : ∀ x ∈ bl e, x ≠ 46 := by
  intro x hx hdot
  subst hdot
  obtain ⟨i, hi, he⟩ := List.getElem_of_mem hx
  unfold wordP at h
  rw [Bool.and_eq_true] at h
  have h1 := List.all_eq_true.1 h.1 i (by rw [List.mem_range, ← bl_len]; exact hi)
  have h2 : bt e (i : Int) = 46 := by
    unfold bt
    have : e.data.toList.getD i 0 = 46 := by
      have hi' : i < e.data.toList.length := hi
      have : e.data.toList[i] = 46 := he
      rw [List.getD_eq_getElem?_getD, List.getElem?_eq_getElem hi', this]; rfl
    rw [Int.toNat_natCast, this]; rfl
  rw [h2] at h1
  simp [okB] at h1
theorem listP_all {l : List Str} {holds : Str → Bool} (h : listP l holds = true) {s : Str} (hs : s ∈ l) : holds s = true := by
  unfold listP at h
  simp only [Bool.and_eq_true] at h
  exact List.all_eq_true.1 h.1.2 s hs
theorem rightP_elems {p : Pol} (h : rightP p = true) : listP p.elems elP = true := by
  unfold rightP at h
  simp only [Bool.and_eq_true] at h
  exact h.2.1
theorem rightP_attrs {p : Pol} (h : rightP p = true) : listP p.attrs (attrsP p.elems) = true := by
  unfold rightP at h
  simp only [Bool.and_eq_true] at h
  exact h.2.2.1
theorem elem_dots {p : Pol} (h : rightP p = true) {e : Str} (he : e ∈ p.elems) : ∀ x ∈ bl e, x ≠ 46 := by
  have := listP_all (rightP_elems h) he
  unfold elP at this
  rw [Bool.and_eq_true] at this
  exact word_dots this.1
theorem strict_parts {p q : Pol} (h : strictP p q = true) : (∀ s ∈ p.attrs, attrIn q s = true) ∧ (p.depth = min p.depth q.depth ∧ p.nodes = min p.nodes q.nodes ∧ p.bytes = min p.bytes q.bytes) ∧ (∀ s ∈ p.elems, s ∈ q.elems) ∧ (∀ s ∈ p.schemes, s ∈ q.schemes) ∧ (∀ s ∈ p.classes, s ∈ q.classes) ∧ ∀ s ∈ p.props, s ∈ q.props := by
  unfold strictP allIn at h
  simp only [Bool.and_eq_true, decide_eq_true_eq, List.all_eq_true] at h
  exact ⟨h.1, h.2.1, h.2.2.1, h.2.2.2.1, h.2.2.2.2.1, h.2.2.2.2.2⟩
theorem strict_of {p q : Pol} (h1 : ∀ s ∈ p.attrs, attrIn q s = true) (h2 : p.depth = min p.depth q.depth ∧ p.nodes = min p.nodes q.nodes ∧ p.bytes = min p.bytes q.bytes) (h3 : ∀ s ∈ p.elems, s ∈ q.elems) (h4 : ∀ s ∈ p.schemes, s ∈ q.schemes) (h5 : ∀ s ∈ p.classes, s ∈ q.classes) (h6 : ∀ s ∈ p.props, s ∈ q.props) : strictP p q = true := by
  unfold strictP allIn
  simp only [Bool.and_eq_true, decide_eq_true_eq, List.all_eq_true]
  exact ⟨h1, h2, h3, h4, h5, h6⟩
theorem attrIn_iff {q : Pol} {s : Str} : attrIn q s = true ↔ s ∈ q.attrs ∨ anyS s ∈ q.attrs := by
  unfold attrIn
  simp only [Bool.or_eq_true, decide_eq_true_eq]
theorem strict_refl (p : Pol) : strictP p p = true :=
  strict_of (fun s hs => attrIn_iff.2 (.inl hs)) ⟨by omega, by omega, by omega⟩ (fun _ h => h) (fun _ h => h) (fun _ h => h) (fun _ h => h)
theorem strict_trans {p q r : Pol} (h : strictP p q = true) (k : strictP q r = true) : strictP p r = true := by
  obtain ⟨h1, h2, h3, h4, h5, h6⟩ := strict_parts h
  obtain ⟨k1, k2, k3, k4, k5, k6⟩ := strict_parts k
  refine strict_of (fun s hs => ?_) ⟨by omega, by omega, by omega⟩ (fun s hs => k3 s (h3 s hs)) (fun s hs => k4 s (h4 s hs)) (fun s hs => k5 s (h5 s hs)) (fun s hs => k6 s (h6 s hs))
  rcases attrIn_iff.1 (h1 s hs) with h | h
  · exact k1 s h
  · rcases attrIn_iff.1 (k1 _ h) with k | k
    · exact attrIn_iff.2 (.inr k)
    · rw [any_any] at k
      exact attrIn_iff.2 (.inr k)
theorem strict_lets {p q : Pol} (h : strictP p q = true) (hr : rightP p = true) {e a : Str} (he : e ∈ p.elems) (hl : letsP p e a = true) : letsP q e a = true := by
  obtain ⟨h1, h2, h3, h4, h5, h6⟩ := strict_parts h
  unfold letsP at hl ⊢
  simp only [Bool.and_eq_true, Bool.or_eq_true, decide_eq_true_eq] at hl ⊢
  refine ⟨h3 e he, ?_⟩
  rcases hl.2 with hl | hl
  · rcases attrIn_iff.1 (h1 _ hl) with h | h
    · exact .inl h
    · rw [show (⟨#[42, 46]⟩ ++ a : Str) = starA a from rfl, any_star] at h
      exact .inl h
  · rcases attrIn_iff.1 (h1 _ hl) with h | h
    · exact .inr h
    · rw [show ((e ++ ⟨#[46]⟩ : Str) ++ a : Str) = elemA e a from rfl, any_elem (elem_dots hr he)] at h
      exact .inl h
theorem index_dot : ∀ {l : List UInt8}, 0 ≤ Lib.index l [46] → 46 ∈ l
  | [], h => by simp [Lib.index] at h
  | b :: l, h => by
    by_cases e : b = 46
    · simp [e]
    · have hge := Lib.index_ge l [46]
      have hp : ([46] : List UInt8).isPrefixOf (b :: l) = false := by simp [List.isPrefixOf, Ne.symm e]
      simp only [Lib.index, hp, Bool.false_eq_true, if_false] at h
      split at h
      · omega
      · rename_i h2
        have h3 : Lib.index l [46] ≠ -1 := by simpa using h2
        exact List.mem_cons_of_mem _ (index_dot (by omega))
/-- Each of a policy's attributes has a dot. -/
theorem attr_dot {p : Pol} (h : rightP p = true) {s : Str} (hs : s ∈ p.attrs) : ∃ i, i < s.size ∧ bt s (i : Int) = 46 := by
  have h1 := listP_all (rightP_attrs h) hs
  unfold attrsP at h1
  rw [Bool.and_eq_true] at h1
  have h2 : 0 ≤ Lib.index (bl s) [46] := by
    have h3 := h1.1
    unfold cutT Lib.cut at h3
    split at h3
    · rename_i h4; exact h4
    · cases h3
  obtain ⟨i, hi, he⟩ := List.getElem_of_mem (index_dot h2)
  refine ⟨i, by rw [← bl_len]; exact hi, ?_⟩
  unfold bt
  have : s.data.toList.getD i 0 = 46 := by
    have hi' : i < s.data.toList.length := hi
    have : s.data.toList[i] = 46 := he
    rw [List.getD_eq_getElem?_getD, List.getElem?_eq_getElem hi', this]; rfl
  rw [Int.toNat_natCast, this]; rfl
end Go.Proofs.YtcplmaffccfbdaaGreatDoor.M
