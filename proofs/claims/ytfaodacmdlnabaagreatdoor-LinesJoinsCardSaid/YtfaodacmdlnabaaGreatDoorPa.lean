/-
 Texts in lists, beginnings of texts, words and names, walked.
-/
import Derived.Test.YtfaodacmdlnabaaGreatDoorProg
import Derived.Test.YtfaodacmdlnabaaGreatDoorMV
import Derived.Test.YtfaodacmdlnabaaGreatDoorFol
namespace Go.Proofs.YtfaodacmdlnabaaGreatDoor.M
open Go.RowKit
set_option linter.unusedVariables false
set_option linter.unusedSimpArgs false
def c_Index : AFn := ⟨2, 19, [4],
 .seq (.ops [oq 4 (.mv (.const (.int .i64 0)))])
 (.seq (.seq (.ops [oq 6 (.mv (.tmp 0)),
   oq 7 (.len false (.tmp 6)),
   oq 8 (.mv (.const (.int .i64 0)))])
 (.block 0 (.loop (.seq (.ops [oq 9 (.bin .lss .num (.tmp 8) (.tmp 7))])
   (.seq (.cond (.tmp 9)
    (.skip)
    (.exit 0))
   (.seq (.block 1 (.seq (.ops [oq 10 (.mv (.tmp 8)),
      oq 5 (.mv (.tmp 10))])
    (.seq (.ops [oq 11 (.mv (.tmp 1)),
      oq 12 (.mv (.tmp 0)),
      oq 13 (.mv (.tmp 5)),
      oq 14 (.ixa 1 (.tmp 12) (.tmp 13)),
      oq 15 (.ld false 1 (.tmp 14)),
      oq 16 (.bin .eql .num (.tmp 11) (.tmp 15))])
    (.cond (.tmp 16)
     (.seq (.ops [oq 17 (.mv (.tmp 5)),
       oq 4 (.mv (.tmp 17))])
     (.ret))
     (.skip)))))
   (.ops [oq 18 (.bin .add .num (.tmp 8) (.const (.int .i64 1))),
     oq 8 (.mv (.tmp 18))])))))))
 (.seq (.ops [oq 4 (.mv (.const (.int .i64 (-1))))])
 (.ret))), []⟩
theorem k_Index : compF Tryz.prog 141 = some c_Index := by kernel_rfl
set_option maxHeartbeats 2000000 in
theorem index_ok {W : World} {f : Bool} (l : List Str) (x : Str) (hl : l.length ≤ 1000000000) : ACalls Tryz.prog W 141 [.sl f 1 (strRows l), .v (.string x)] AHeap.none fun v _ => ∃ n : Int, v = .v (.int .i64 n) ∧ (0 ≤ n ↔ x ∈ l) := by
 refine fn_run follows k_Index rfl ?_
 simp only [oq, og, oe, oh, on, c_Index, aretC_nil, List.zipIdx_cons, List.zipIdx_nil, List.map_cons, List.map_nil, Nat.zero_add]
 (try simp +decide -implicitDefEqProofs only [go_sem])
 refine stk_up (α := Unit) l.length (fun i _ => ⟨[(8, .v (.int .i64 i)), (7, .v (.int .i64 l.length)), (0, .sl f 1 (strRows l)), (1, .v (.string x))], AHeap.none⟩) (fun i _ => x ∉ l.take i) () (Weak.list _ (Sub.refl _) (by (try simp +decide -implicitDefEqProofs only [go_sem]))) (by simp) ?_
 rintro i ⟨⟩ hi hJ
 by_cases hlt : i < l.length
 ·have g1 : (i : Int) < (l.length : Int) := by omega
  have hw := wrap_in (n := i + 1) (by omega) (by omega)
  have hg := strRows_get hlt
  have hget : l.getD i ByteArray.empty = l[i] := by simp [hlt]
  by_cases e : x = l.getD i ByteArray.empty
  ·have e1 := decide_eq_true e
   (try simp +decide -implicitDefEqProofs only [go_sem, g1, hlt, hw, hg, e1])
   refine aret_pure (.inr rfl) ?_; simp +decide only [retOf, tget, if_true, if_false, ↓reduceIte, List.map_cons, List.map_nil]
   exact ⟨i, rfl, fun _ => by rw [e, hget]; exact List.getElem_mem _, fun _ => by omega⟩
  ·have e1 := decide_eq_false e
   (try simp +decide -implicitDefEqProofs only [go_sem, g1, hlt, hw, hg, e1])
   refine ⟨(), Weak.list _ (Sub.refl _) (by (try simp +decide -implicitDefEqProofs only [go_sem])), ?_⟩
   rw [List.take_succ_eq_append_getElem hlt]
   simp only [List.mem_append, List.mem_singleton, not_or]
   exact ⟨hJ, by rw [← hget]; exact e⟩
 ·have g1 : ¬ (i : Int) < (l.length : Int) := by omega
  (try simp +decide -implicitDefEqProofs only [go_sem, g1])
  refine aret_pure (.inr rfl) ?_; simp +decide only [retOf, tget, if_true, if_false, ↓reduceIte, List.map_cons, List.map_nil]
  rw [List.take_of_length_le (by omega)] at hJ
  exact ⟨-1, rfl, fun h => by omega, fun h => absurd h hJ⟩
def c_Contains : AFn := ⟨2, 9, [4],
 .seq (.ops [oq 4 (.mv (.const (.bool false)))])
 (.seq (.ops [oq 5 (.mv (.tmp 0)),
   oq 6 (.mv (.tmp 1)),
   oe 7 (.call 141 [(.tmp 5), (.tmp 6)]),
   oq 8 (.bin .geq .num (.tmp 7) (.const (.int .i64 0))),
   oq 4 (.mv (.tmp 8))])
 (.ret)), []⟩
theorem k_Contains : compF Tryz.prog 97 = some c_Contains := by kernel_rfl
theorem contains_ok {W : World} {f : Bool} (l : List Str) (x : Str) (hl : l.length ≤ 1000000000) : ACalls Tryz.prog W 97 [.sl f 1 (strRows l), .v (.string x)] AHeap.none fun v _ => v = .v (.bool (decide (x ∈ l))) := by
 refine fn_run follows k_Contains rfl ?_
 simp only [oq, og, oe, oh, on, c_Contains, aretC_nil, List.zipIdx_cons, List.zipIdx_nil, List.map_cons, List.map_nil, Nat.zero_add]
 (try simp +decide -implicitDefEqProofs only [go_sem])
 refine stk_pure (index_ok l x hl) fun v hv => ?_
 obtain ⟨n, rfl, hn⟩ := hv
 (try simp +decide -implicitDefEqProofs only [go_sem])
 refine aret_pure (.inr rfl) ?_; simp +decide only [retOf, tget, if_true, if_false, ↓reduceIte, List.map_cons, List.map_nil]
 simp only [hn]
def hasPre (s t : Str) : Bool := decide (t.size ≤ s.size) && decide (s.extract 0 t.size = t)
def bt8 (s : Str) (i : Nat) : Int := bt s (i : Int)
def okB (i : Nat) (c : Int) : Bool := (decide (97 ≤ c) && decide (c ≤ 122)) || (decide (0 < i) && ((decide (48 ≤ c) && decide (c ≤ 57)) || decide (c = 45)))
def wordP (s : Str) : Bool := (List.range s.size).all (fun i => okB i (bt s i)) && (decide (s ≠ ByteArray.empty) && decide (s.size ≤ 32))
theorem word_no {s : Str} {i : Nat} (h : i < s.size) (hb : okB i (bt s i) = false) : AVal.v (.bool false) = .v (.bool (wordP s)) := by
 have : wordP s = false := by
  unfold wordP
  rw [Bool.and_eq_false_iff]; left
  rw [List.all_eq_false]
  exact ⟨i, by simp [h], by simp [hb]⟩
 rw [this]
theorem word_yes {s : Str} (h : ∀ i, i < s.size → okB i (bt s i) = true) : wordP s = (decide (s ≠ ByteArray.empty) && decide (s.size ≤ 32)) := by
 unfold wordP
 rw [List.all_eq_true.2 (fun i hi => h i (by simpa using hi))]
 rfl
def c_word : AFn := ⟨1, 43, [2],
 .seq (.ops [oq 2 (.mv (.const (.bool false)))])
 (.seq (.seq (.ops [oq 5 (.mv (.tmp 0)),
   oq 6 (.len true (.tmp 5)),
   oq 7 (.mv (.const (.int .i64 0)))])
 (.block 0 (.loop (.seq (.ops [oq 8 (.bin .lss .num (.tmp 7) (.tmp 6))])
   (.seq (.cond (.tmp 8)
    (.skip)
    (.exit 0))
   (.seq (.block 1 (.seq (.ops [oq 9 (.mv (.tmp 7)),
      oq 3 (.mv (.tmp 9))])
    (.seq (.ops [oq 10 (.mv (.tmp 0)),
      oq 11 (.mv (.tmp 3)),
      oq 12 (.six (.tmp 10) (.tmp 11)),
      oq 4 (.mv (.tmp 12))])
    (.seq (.seq (.ops [oq 13 (.mv (.tmp 4)),
      oq 14 (.bin .geq .num (.tmp 13) (.const (.int .u8 97))),
      oq 15 (.mv (.tmp 14)),
      og 16 15 true (.mv (.tmp 4)),
      og 17 15 true (.bin .leq .num (.tmp 16) (.const (.int .u8 122))),
      oq 18 (.pick (.tmp 15) (.tmp 17) (.const (.bool false))),
      oq 19 (.mv (.tmp 18)),
      og 20 19 false (.mv (.tmp 3)),
      og 21 19 false (.bin .gtr .num (.tmp 20) (.const (.int .i64 0))),
      og 22 19 false (.mv (.tmp 21)),
      og 23 22 true (.mv (.tmp 4)),
      og 24 22 true (.bin .geq .num (.tmp 23) (.const (.int .u8 48))),
      og 25 22 true (.mv (.tmp 24)),
      og 26 25 true (.mv (.tmp 4)),
      og 27 25 true (.bin .leq .num (.tmp 26) (.const (.int .u8 57))),
      og 28 22 true (.pick (.tmp 25) (.tmp 27) (.const (.bool false))),
      og 29 22 true (.mv (.tmp 28)),
      og 30 29 false (.mv (.tmp 4)),
      og 31 29 false (.bin .eql .num (.tmp 30) (.const (.int .u8 45))),
      og 32 22 true (.pick (.tmp 29) (.const (.bool true)) (.tmp 31)),
      og 33 19 false (.pick (.tmp 22) (.tmp 32) (.const (.bool false))),
      oq 34 (.pick (.tmp 19) (.const (.bool true)) (.tmp 33))])
    (.cond (.tmp 34)
     (.exit 1)
     (.skip)))
    (.seq (.ops [oq 2 (.mv (.const (.bool false)))])
    (.ret))))))
   (.ops [oq 35 (.bin .add .num (.tmp 7) (.const (.int .i64 1))),
     oq 7 (.mv (.tmp 35))])))))))
 (.seq (.ops [oq 36 (.mv (.tmp 0)),
   oq 37 (.bin .neq .num (.tmp 36) (.const (.string ByteArray.empty))),
   oq 38 (.mv (.tmp 37)),
   og 39 38 true (.mv (.tmp 0)),
   og 40 38 true (.len true (.tmp 39)),
   og 41 38 true (.bin .leq .num (.tmp 40) (.const (.int .i64 32))),
   oq 42 (.pick (.tmp 38) (.tmp 41) (.const (.bool false))),
   oq 2 (.mv (.tmp 42))])
 (.ret))), []⟩
theorem k_word : compF Tryz.prog 100 = some c_word := by kernel_rfl
set_option maxHeartbeats 4000000 in
theorem word_ok {W : World} (s : Str) (hs : s.size ≤ 1000000000) : ACalls Tryz.prog W 100 [.v (.string s)] AHeap.none fun v _ => v = .v (.bool (wordP s)) := by
 refine fn_run follows k_word rfl ?_
 simp only [oq, og, oe, oh, on, c_word, aretC_nil, List.zipIdx_cons, List.zipIdx_nil, List.map_cons, List.map_nil, Nat.zero_add]
 (try simp +decide -implicitDefEqProofs only [go_sem])
 refine stk_up (α := Unit) s.size (fun i _ => ⟨[(7, .v (.int .i64 i)), (6, .v (.int .i64 s.size)), (0, .v (.string s))], AHeap.none⟩) (fun i _ => ∀ j, j < i → okB j (bt s j) = true) () (Weak.list _ (Sub.refl _) (by (try simp +decide -implicitDefEqProofs only [go_sem]))) (by intro j h; omega) ?_
 rintro i ⟨⟩ hi hJ
 by_cases hlt : i < s.size
 ·have g1 : (i : Int) < (s.size : Int) := by omega
  have hw := wrap_in (n := i + 1) (by omega) (by omega)
  have hnn : (0 : Int) ≤ (i : Int) := by omega
  have hnext : okB i (bt s i) = true → ∀ j, j < i + 1 → okB j (bt s j) = true := fun h j hj => by
   by_cases e : j = i
   ·rw [e]; exact h
   ·exact hJ j (by omega)
  have hno := word_no hlt
  have hdef : okB i (bt s i) = ((decide (97 ≤ bt s i) && decide (bt s i ≤ 122)) || (decide (0 < i) && ((decide (48 ≤ bt s i) && decide (bt s i ≤ 57)) || decide (bt s i = 45)))) := rfl
  generalize okB i (bt s i) = ok at hnext hno hdef
  generalize hc : bt s i = c at hdef
  by_cases a1 : 97 ≤ c
  ·by_cases a2 : c ≤ 122
   ·(try simp +decide -implicitDefEqProofs only [go_sem, g1, hlt, hnn, hw, hc, a1, a2])
    refine ⟨(), Weak.list _ (Sub.refl _) (by (try simp +decide -implicitDefEqProofs only [go_sem])), ?_⟩
    exact hnext (by rw [hdef]; simp [a1, a2])
   ·by_cases a3 : (0 : Int) < (i : Int)
    ·have a4 : (48 : Int) ≤ c := by omega
     have a5 : ¬ c ≤ 57 := by omega
     have a6 : ¬ c = 45 := by omega
     (try simp +decide -implicitDefEqProofs only [go_sem, g1, hlt, hnn, hw, hc, a1, a2, a3, a4, a5, decide_eq_false a6])
     refine aret_pure (.inr rfl) ?_; simp +decide only [retOf, tget, if_true, if_false, ↓reduceIte, List.map_cons, List.map_nil]
     exact hno (by rw [hdef]; simp [a2, a5, a6])
    ·(try simp +decide -implicitDefEqProofs only [go_sem, g1, hlt, hnn, hw, hc, a1, a2, a3])
     refine aret_pure (.inr rfl) ?_; simp +decide only [retOf, tget, if_true, if_false, ↓reduceIte, List.map_cons, List.map_nil]
     exact hno (by rw [hdef]; simp [a2]; omega)
  ·by_cases a3 : (0 : Int) < (i : Int)
   ·have a3' : 0 < i := by omega
    by_cases a4 : 48 ≤ c
    ·by_cases a5 : c ≤ 57
     ·(try simp +decide -implicitDefEqProofs only [go_sem, g1, hlt, hnn, hw, hc, a1, a3, a4, a5])
      refine ⟨(), Weak.list _ (Sub.refl _) (by (try simp +decide -implicitDefEqProofs only [go_sem])), ?_⟩
      exact hnext (by rw [hdef]; simp [a3', a4, a5])
     ·have a6 : ¬ c = 45 := by omega
      (try simp +decide -implicitDefEqProofs only [go_sem, g1, hlt, hnn, hw, hc, a1, a3, a4, a5, decide_eq_false a6])
      refine aret_pure (.inr rfl) ?_; simp +decide only [retOf, tget, if_true, if_false, ↓reduceIte, List.map_cons, List.map_nil]
      exact hno (by rw [hdef]; simp [a1, a5, a6])
    ·by_cases a6 : c = 45
     ·(try simp +decide -implicitDefEqProofs only [go_sem, g1, hlt, hnn, hw, hc, a1, a3, a4, decide_eq_true a6])
      refine ⟨(), Weak.list _ (Sub.refl _) (by (try simp +decide -implicitDefEqProofs only [go_sem])), ?_⟩
      exact hnext (by rw [hdef]; simp [a3', a6])
     ·(try simp +decide -implicitDefEqProofs only [go_sem, g1, hlt, hnn, hw, hc, a1, a3, a4, decide_eq_false a6])
      refine aret_pure (.inr rfl) ?_; simp +decide only [retOf, tget, if_true, if_false, ↓reduceIte, List.map_cons, List.map_nil]
      exact hno (by rw [hdef]; simp [a1, a4, a6])
   ·(try simp +decide -implicitDefEqProofs only [go_sem, g1, hlt, hnn, hw, hc, a1, a3])
    refine aret_pure (.inr rfl) ?_; simp +decide only [retOf, tget, if_true, if_false, ↓reduceIte, List.map_cons, List.map_nil]
    exact hno (by rw [hdef]; simp [a1]; omega)
 ·have g1 : ¬ (i : Int) < (s.size : Int) := by omega
  have hy := word_yes (s := s) (fun j hj => hJ j (by omega))
  by_cases e : s = ByteArray.empty
  ·have e1 : decide (s ≠ ByteArray.empty) = false := by simp [e]
   (try simp +decide -implicitDefEqProofs only [go_sem, g1, e1])
   refine aret_pure (.inr rfl) ?_; simp +decide only [retOf, tget, if_true, if_false, ↓reduceIte, List.map_cons, List.map_nil]
   rw [hy, e1]; rfl
  ·have e1 : decide (s ≠ ByteArray.empty) = true := by simp [e]
   (try simp +decide -implicitDefEqProofs only [go_sem, g1, e1])
   refine aret_pure (.inr rfl) ?_; simp +decide only [retOf, tget, if_true, if_false, ↓reduceIte, List.map_cons, List.map_nil]
   rw [hy, e1]
   simp only [Bool.true_and]
   congr 2
   exact decide_eq_decide.2 (by omega)
end Go.Proofs.YtfaodacmdlnabaaGreatDoor.M
