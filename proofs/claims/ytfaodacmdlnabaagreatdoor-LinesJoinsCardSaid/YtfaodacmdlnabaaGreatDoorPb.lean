/-
 Names that never may stay, attributes, lists that are right: walked.
-/
import Derived.Test.YtfaodacmdlnabaaGreatDoorPtext
namespace Go.Proofs.YtfaodacmdlnabaaGreatDoor.M
open Go.RowKit
set_option linter.unusedVariables false
set_option linter.unusedSimpArgs false
def neverNames : List Str := [(⟨#[98, 97, 115, 101]⟩ : Str), (⟨#[101, 109, 98, 101, 100]⟩ : Str), (⟨#[102, 111, 114, 109]⟩ : Str), (⟨#[105, 110, 112, 117, 116]⟩ : Str), (⟨#[108, 105, 110, 107]⟩ : Str), (⟨#[109, 97, 116, 104]⟩ : Str), (⟨#[109, 101, 116, 97]⟩ : Str), (⟨#[111, 98, 106, 101, 99, 116]⟩ : Str), (⟨#[112, 97, 114, 97, 109]⟩ : Str), (⟨#[115, 101, 108, 101, 99, 116]⟩ : Str), (⟨#[115, 118, 103]⟩ : Str), (⟨#[116, 101, 109, 112, 108, 97, 116, 101]⟩ : Str), (⟨#[110, 111, 115, 99, 114, 105, 112, 116]⟩ : Str), (⟨#[102, 114, 97, 109, 101]⟩ : Str), (⟨#[102, 114, 97, 109, 101, 115, 101, 116]⟩ : Str)]
def raw7 : List Str := [(⟨#[115, 99, 114, 105, 112, 116]⟩ : Str), (⟨#[115, 116, 121, 108, 101]⟩ : Str), (⟨#[120, 109, 112]⟩ : Str), (⟨#[105, 102, 114, 97, 109, 101]⟩ : Str), (⟨#[110, 111, 101, 109, 98, 101, 100]⟩ : Str), (⟨#[110, 111, 102, 114, 97, 109, 101, 115]⟩ : Str), (⟨#[112, 108, 97, 105, 110, 116, 101, 120, 116]⟩ : Str)]
def raw2 : List Str := [(⟨#[116, 101, 120, 116, 97, 114, 101, 97]⟩ : Str), (⟨#[116, 105, 116, 108, 101]⟩ : Str)]
def rawP (s : Str) : Bool := decide (s ∈ raw7) || decide (s ∈ raw2)
def neverP (s : Str) : Bool := decide (s ∈ neverNames) || rawP s
def c_Raw : AFn := ⟨1, 16, [2, 3],
 .seq (.ops [oq 2 (.mv (.const (.bool false))),
   oq 3 (.mv (.const (.bool false)))])
 (.seq (.seq (.ops [oq 4 (.mv (.tmp 0))])
 (.block 0 (.seq (.seq (.ops [oq 6 (.bin .eql .num (.tmp 4) (.const (.string ⟨#[115, 99, 114, 105, 112, 116]⟩))),
    oq 5 (.mv (.tmp 6))])
  (.cond (.tmp 5)
   (.skip)
   (.seq (.ops [oq 7 (.bin .eql .num (.tmp 4) (.const (.string ⟨#[115, 116, 121, 108, 101]⟩))),
     oq 5 (.mv (.tmp 7))])
   (.cond (.tmp 5)
    (.skip)
    (.seq (.ops [oq 8 (.bin .eql .num (.tmp 4) (.const (.string ⟨#[120, 109, 112]⟩))),
      oq 5 (.mv (.tmp 8))])
    (.cond (.tmp 5)
     (.skip)
     (.seq (.ops [oq 9 (.bin .eql .num (.tmp 4) (.const (.string ⟨#[105, 102, 114, 97, 109, 101]⟩))),
       oq 5 (.mv (.tmp 9))])
     (.cond (.tmp 5)
      (.skip)
      (.seq (.ops [oq 10 (.bin .eql .num (.tmp 4) (.const (.string ⟨#[110, 111, 101, 109, 98, 101, 100]⟩))),
        oq 5 (.mv (.tmp 10))])
      (.cond (.tmp 5)
       (.skip)
       (.seq (.ops [oq 11 (.bin .eql .num (.tmp 4) (.const (.string ⟨#[110, 111, 102, 114, 97, 109, 101, 115]⟩))),
         oq 5 (.mv (.tmp 11))])
       (.cond (.tmp 5)
        (.skip)
        (.ops [oq 12 (.bin .eql .num (.tmp 4) (.const (.string ⟨#[112, 108, 97, 105, 110, 116, 101, 120, 116]⟩))),
          oq 5 (.mv (.tmp 12))])))))))))))))
  (.cond (.tmp 5)
   (.seq (.ops [oq 2 (.mv (.const (.bool true))),
     oq 3 (.mv (.const (.bool false)))])
   (.ret))
   (.seq (.seq (.ops [oq 14 (.bin .eql .num (.tmp 4) (.const (.string ⟨#[116, 101, 120, 116, 97, 114, 101, 97]⟩))),
     oq 13 (.mv (.tmp 14))])
   (.cond (.tmp 13)
    (.skip)
    (.ops [oq 15 (.bin .eql .num (.tmp 4) (.const (.string ⟨#[116, 105, 116, 108, 101]⟩))),
      oq 13 (.mv (.tmp 15))])))
   (.cond (.tmp 13)
    (.seq (.ops [oq 2 (.mv (.const (.bool true))),
      oq 3 (.mv (.const (.bool true)))])
    (.ret))
    (.skip)))))))
 (.seq (.ops [oq 2 (.mv (.const (.bool false))),
   oq 3 (.mv (.const (.bool false)))])
 (.ret))), []⟩
theorem k_Raw : compF Tryz.prog 142 = some c_Raw := by kernel_rfl
set_option maxHeartbeats 4000000 in
theorem raw_ok {W : World} (s : Str) : ACalls Tryz.prog W 142 [.v (.string s)] AHeap.none fun v _ => v = .tup [.v (.bool (rawP s)), .v (.bool (decide (s ∈ raw2)))] := by
 refine fn_run follows k_Raw rfl ?_
 simp only [oq, og, oe, oh, on, c_Raw, aretC_nil, List.zipIdx_cons, List.zipIdx_nil, List.map_cons, List.map_nil, Nat.zero_add]
 by_cases h : s ∈ raw7
 ·have hr : rawP s = true := by unfold rawP; rw [decide_eq_true h]; rfl
  have h2 : decide (s ∈ raw2) = false := by
   simp only [raw7, List.mem_cons, List.not_mem_nil, or_false] at h
   rcases h with rfl | rfl | rfl | rfl | rfl | rfl | rfl
   all_goals (
    decide +kernel)
  rw [hr, h2]
  clear hr h2
  simp only [raw7, List.mem_cons, List.not_mem_nil, or_false] at h
  rcases h with rfl | rfl | rfl | rfl | rfl | rfl | rfl
  all_goals (
   (try simp +decide -implicitDefEqProofs only [go_sem])
   refine aret_pure (.inr rfl) ?_; simp +decide only [retOf, tget, if_true, if_false, ↓reduceIte, List.map_cons, List.map_nil])
 ·have hr : rawP s = decide (s ∈ raw2) := by unfold rawP; rw [decide_eq_false h]; rfl
  rw [hr]
  have h2 := h
  simp only [raw7, List.mem_cons, List.not_mem_nil, or_false, not_or] at h2
  obtain ⟨n0, n1, n2, n3, n4, n5, n6⟩ := h2
  by_cases k : s ∈ raw2
  ·rw [decide_eq_true k]
   simp only [raw2, List.mem_cons, List.not_mem_nil, or_false] at k
   rcases k with rfl | rfl
   all_goals (
    (try simp +decide -implicitDefEqProofs only [go_sem])
    refine aret_pure (.inr rfl) ?_; simp +decide only [retOf, tget, if_true, if_false, ↓reduceIte, List.map_cons, List.map_nil])
  ·rw [decide_eq_false k]
   have k2 := k
   simp only [raw2, List.mem_cons, List.not_mem_nil, or_false, not_or] at k2
   obtain ⟨m0, m1⟩ := k2
   (try simp +decide -implicitDefEqProofs only [go_sem, decide_eq_false n0, decide_eq_false n1, decide_eq_false n2, decide_eq_false n3, decide_eq_false n4, decide_eq_false n5, decide_eq_false n6, decide_eq_false m0, decide_eq_false m1])
   refine aret_pure (.inr rfl) ?_; simp +decide only [retOf, tget, if_true, if_false, ↓reduceIte, List.map_cons, List.map_nil]
def c_never : AFn := ⟨1, 28, [2],
 .seq (.ops [oq 2 (.mv (.const (.bool false)))])
 (.seq (.seq (.ops [oq 5 (.mv (.tmp 0))])
 (.block 0 (.seq (.seq (.ops [oq 7 (.bin .eql .num (.tmp 5) (.const (.string ⟨#[98, 97, 115, 101]⟩))),
    oq 6 (.mv (.tmp 7))])
  (.cond (.tmp 6)
   (.skip)
   (.seq (.ops [oq 8 (.bin .eql .num (.tmp 5) (.const (.string ⟨#[101, 109, 98, 101, 100]⟩))),
     oq 6 (.mv (.tmp 8))])
   (.cond (.tmp 6)
    (.skip)
    (.seq (.ops [oq 9 (.bin .eql .num (.tmp 5) (.const (.string ⟨#[102, 111, 114, 109]⟩))),
      oq 6 (.mv (.tmp 9))])
    (.cond (.tmp 6)
     (.skip)
     (.seq (.ops [oq 10 (.bin .eql .num (.tmp 5) (.const (.string ⟨#[105, 110, 112, 117, 116]⟩))),
       oq 6 (.mv (.tmp 10))])
     (.cond (.tmp 6)
      (.skip)
      (.seq (.ops [oq 11 (.bin .eql .num (.tmp 5) (.const (.string ⟨#[108, 105, 110, 107]⟩))),
        oq 6 (.mv (.tmp 11))])
      (.cond (.tmp 6)
       (.skip)
       (.seq (.ops [oq 12 (.bin .eql .num (.tmp 5) (.const (.string ⟨#[109, 97, 116, 104]⟩))),
         oq 6 (.mv (.tmp 12))])
       (.cond (.tmp 6)
        (.skip)
        (.seq (.ops [oq 13 (.bin .eql .num (.tmp 5) (.const (.string ⟨#[109, 101, 116, 97]⟩))),
          oq 6 (.mv (.tmp 13))])
        (.cond (.tmp 6)
         (.skip)
         (.seq (.ops [oq 14 (.bin .eql .num (.tmp 5) (.const (.string ⟨#[111, 98, 106, 101, 99, 116]⟩))),
           oq 6 (.mv (.tmp 14))])
         (.cond (.tmp 6)
          (.skip)
          (.seq (.ops [oq 15 (.bin .eql .num (.tmp 5) (.const (.string ⟨#[112, 97, 114, 97, 109]⟩))),
            oq 6 (.mv (.tmp 15))])
          (.cond (.tmp 6)
           (.skip)
           (.seq (.ops [oq 16 (.bin .eql .num (.tmp 5) (.const (.string ⟨#[115, 101, 108, 101, 99, 116]⟩))),
             oq 6 (.mv (.tmp 16))])
           (.cond (.tmp 6)
            (.skip)
            (.seq (.ops [oq 17 (.bin .eql .num (.tmp 5) (.const (.string ⟨#[115, 118, 103]⟩))),
              oq 6 (.mv (.tmp 17))])
            (.cond (.tmp 6)
             (.skip)
             (.seq (.ops [oq 18 (.bin .eql .num (.tmp 5) (.const (.string ⟨#[116, 101, 109, 112, 108, 97, 116, 101]⟩))),
               oq 6 (.mv (.tmp 18))])
             (.cond (.tmp 6)
              (.skip)
              (.seq (.ops [oq 19 (.bin .eql .num (.tmp 5) (.const (.string ⟨#[110, 111, 115, 99, 114, 105, 112, 116]⟩))),
                oq 6 (.mv (.tmp 19))])
              (.cond (.tmp 6)
               (.skip)
               (.seq (.ops [oq 20 (.bin .eql .num (.tmp 5) (.const (.string ⟨#[102, 114, 97, 109, 101]⟩))),
                 oq 6 (.mv (.tmp 20))])
               (.cond (.tmp 6)
                (.skip)
                (.ops [oq 21 (.bin .eql .num (.tmp 5) (.const (.string ⟨#[102, 114, 97, 109, 101, 115, 101, 116]⟩))),
                  oq 6 (.mv (.tmp 21))])))))))))))))))))))))))))))))
  (.cond (.tmp 6)
   (.seq (.ops [oq 2 (.mv (.const (.bool true)))])
   (.ret))
   (.skip)))))
 (.seq (.ops [oq 23 (.mv (.tmp 0)),
   oe 24 (.call 142 [(.tmp 23)]),
   oq 22 (.mv (.tmp 24)),
   oq 25 (.ext (.tmp 22) 0),
   oq 26 (.ext (.tmp 22) 1),
   oq 3 (.mv (.tmp 25)),
   oq 4 (.mv (.tmp 26))])
 (.seq (.ops [oq 27 (.mv (.tmp 3)),
   oq 2 (.mv (.tmp 27))])
 (.ret)))), []⟩
theorem k_never : compF Tryz.prog 101 = some c_never := by kernel_rfl
set_option maxHeartbeats 4000000 in
theorem never_ok {W : World} (s : Str) : ACalls Tryz.prog W 101 [.v (.string s)] AHeap.none fun v _ => v = .v (.bool (neverP s)) := by
 refine fn_run follows k_never rfl ?_
 simp only [oq, og, oe, oh, on, c_never, aretC_nil, List.zipIdx_cons, List.zipIdx_nil, List.map_cons, List.map_nil, Nat.zero_add]
 by_cases h : s ∈ neverNames
 ·have hr : neverP s = true := by unfold neverP; rw [decide_eq_true h]; rfl
  rw [hr]
  clear hr
  simp only [neverNames, List.mem_cons, List.not_mem_nil, or_false] at h
  rcases h with rfl | rfl | rfl | rfl | rfl | rfl | rfl | rfl | rfl | rfl | rfl | rfl | rfl | rfl | rfl
  all_goals (
   (try simp +decide -implicitDefEqProofs only [go_sem])
   refine aret_pure (.inr rfl) ?_; simp +decide only [retOf, tget, if_true, if_false, ↓reduceIte, List.map_cons, List.map_nil])
 ·have hr : neverP s = rawP s := by unfold neverP; rw [decide_eq_false h]; rfl
  rw [hr]
  have h2 := h
  simp only [neverNames, List.mem_cons, List.not_mem_nil, or_false, not_or] at h2
  obtain ⟨n0, n1, n2, n3, n4, n5, n6, n7, n8, n9, n10, n11, n12, n13, n14⟩ := h2
  (try simp +decide -implicitDefEqProofs only [go_sem, decide_eq_false n0, decide_eq_false n1, decide_eq_false n2, decide_eq_false n3, decide_eq_false n4, decide_eq_false n5, decide_eq_false n6, decide_eq_false n7, decide_eq_false n8, decide_eq_false n9, decide_eq_false n10, decide_eq_false n11, decide_eq_false n12, decide_eq_false n13, decide_eq_false n14])
  refine stk_pure (raw_ok s) fun v hv => ?_
  subst hv
  (try simp +decide -implicitDefEqProofs only [go_sem])
  refine aret_pure (.inr rfl) ?_; simp +decide only [retOf, tget, if_true, if_false, ↓reduceIte, List.map_cons, List.map_nil]
def c_HasPrefix0 : AFn := ⟨2, 18, [4],
 .seq (.ops [oq 4 (.mv (.const (.bool false)))])
 (.seq (.ops [oq 5 (.mv (.tmp 0)),
   oq 6 (.len true (.tmp 5)),
   oq 7 (.mv (.tmp 1)),
   oq 8 (.len true (.tmp 7)),
   oq 9 (.bin .geq .num (.tmp 6) (.tmp 8)),
   oq 10 (.mv (.tmp 9)),
   og 11 10 true (.mv (.tmp 0)),
   og 12 10 true (.mv (.tmp 1)),
   og 13 10 true (.len true (.tmp 12)),
   og 14 10 true (.ssl (.tmp 11) none (some (.tmp 13))),
   og 15 10 true (.mv (.tmp 1)),
   og 16 10 true (.bin .eql .num (.tmp 14) (.tmp 15)),
   oq 17 (.pick (.tmp 10) (.tmp 16) (.const (.bool false))),
   oq 4 (.mv (.tmp 17))])
 (.ret)), []⟩
theorem k_HasPrefix0 : compF Tryz.prog 109 = some c_HasPrefix0 := by kernel_rfl
theorem hasPre0_ok {W : World} (s t : Str) : ACalls Tryz.prog W 109 [.v (.string s), .v (.string t)] AHeap.none fun v _ => v = .v (.bool (hasPre s t)) := by
 refine fn_run follows k_HasPrefix0 rfl ?_
 simp only [oq, og, oe, oh, on, c_HasPrefix0, aretC_nil, List.zipIdx_cons, List.zipIdx_nil, List.map_cons, List.map_nil, Nat.zero_add]
 by_cases h : (t.size : Int) ≤ (s.size : Int)
 ·have h2 : t.size ≤ s.size := by omega
  have h3 : (0 : Int) ≤ (t.size : Int) := by omega
  (try simp +decide -implicitDefEqProofs only [go_sem, h, h2, h3])
  refine aret_pure (.inr rfl) ?_; simp +decide only [retOf, tget, if_true, if_false, ↓reduceIte, List.map_cons, List.map_nil]
  unfold hasPre
  rw [decide_eq_true h2]; rfl
 ·(try simp +decide -implicitDefEqProofs only [go_sem, h])
  refine aret_pure (.inr rfl) ?_; simp +decide only [retOf, tget, if_true, if_false, ↓reduceIte, List.map_cons, List.map_nil]
  unfold hasPre
  rw [decide_eq_false (by omega)]; rfl
def c_HasPrefix : AFn := ⟨2, 8, [4],
 .seq (.ops [oq 4 (.mv (.const (.bool false)))])
 (.seq (.ops [oq 5 (.mv (.tmp 0)),
   oq 6 (.mv (.tmp 1)),
   oe 7 (.call 109 [(.tmp 5), (.tmp 6)]),
   oq 4 (.mv (.tmp 7))])
 (.ret)), []⟩
theorem k_HasPrefix : compF Tryz.prog 65 = some c_HasPrefix := by kernel_rfl
theorem hasPre_ok {W : World} (s t : Str) : ACalls Tryz.prog W 65 [.v (.string s), .v (.string t)] AHeap.none fun v _ => v = .v (.bool (hasPre s t)) := by
 refine fn_run follows k_HasPrefix rfl ?_
 simp only [oq, og, oe, oh, on, c_HasPrefix, aretC_nil, List.zipIdx_cons, List.zipIdx_nil, List.map_cons, List.map_nil, Nat.zero_add]
 (try simp +decide -implicitDefEqProofs only [go_sem])
 refine stk_pure (hasPre0_ok s t) fun v hv => ?_
 subst hv
 (try simp +decide -implicitDefEqProofs only [go_sem])
 refine aret_pure (.inr rfl) ?_; simp +decide only [retOf, tget, if_true, if_false, ↓reduceIte, List.map_cons, List.map_nil]
def attrP (s : Str) : Bool := wordP s && (!hasPre s (⟨#[111, 110]⟩ : Str) && (decide (s ≠ (⟨#[115, 114, 99, 100, 111, 99]⟩ : Str)) && (decide (s ≠ (⟨#[102, 111, 114, 109, 97, 99, 116, 105, 111, 110]⟩ : Str)) && decide (s ≠ (⟨#[115, 116, 121, 108, 101]⟩ : Str)))))
def c_attr : AFn := ⟨1, 22, [2],
 .seq (.ops [oq 2 (.mv (.const (.bool false)))])
 (.seq (.ops [oq 3 (.mv (.tmp 0)),
   oe 4 (.call 100 [(.tmp 3)]),
   oq 5 (.mv (.tmp 4)),
   og 6 5 true (.mv (.tmp 0)),
   oh 7 5 true (.call 65 [(.tmp 6), (.const (.string ⟨#[111, 110]⟩))]),
   og 8 5 true (.un .not (.tmp 7)),
   oq 9 (.pick (.tmp 5) (.tmp 8) (.const (.bool false))),
   oq 10 (.mv (.tmp 9)),
   og 11 10 true (.mv (.tmp 0)),
   og 12 10 true (.bin .neq .num (.tmp 11) (.const (.string ⟨#[115, 114, 99, 100, 111, 99]⟩))),
   oq 13 (.pick (.tmp 10) (.tmp 12) (.const (.bool false))),
   oq 14 (.mv (.tmp 13)),
   og 15 14 true (.mv (.tmp 0)),
   og 16 14 true (.bin .neq .num (.tmp 15) (.const (.string ⟨#[102, 111, 114, 109, 97, 99, 116, 105, 111, 110]⟩))),
   oq 17 (.pick (.tmp 14) (.tmp 16) (.const (.bool false))),
   oq 18 (.mv (.tmp 17)),
   og 19 18 true (.mv (.tmp 0)),
   og 20 18 true (.bin .neq .num (.tmp 19) (.const (.string ⟨#[115, 116, 121, 108, 101]⟩))),
   oq 21 (.pick (.tmp 18) (.tmp 20) (.const (.bool false))),
   oq 2 (.mv (.tmp 21))])
 (.ret)), []⟩
theorem k_attr : compF Tryz.prog 103 = some c_attr := by kernel_rfl
set_option maxHeartbeats 2000000 in
theorem attr_ok {W : World} (s : Str) (hs : s.size ≤ 1000000000) : ACalls Tryz.prog W 103 [.v (.string s)] AHeap.none fun v _ => v = .v (.bool (attrP s)) := by
 refine fn_run follows k_attr rfl ?_
 simp only [oq, og, oe, oh, on, c_attr, aretC_nil, List.zipIdx_cons, List.zipIdx_nil, List.map_cons, List.map_nil, Nat.zero_add]
 (try simp +decide -implicitDefEqProofs only [go_sem])
 refine stk_pure (word_ok s hs) fun v hv => ?_
 subst hv
 unfold attrP
 cases hw : wordP s
 ·(try simp +decide -implicitDefEqProofs only [go_sem])
  refine aret_pure (.inr rfl) ?_; simp +decide only [retOf, tget, if_true, if_false, ↓reduceIte, List.map_cons, List.map_nil]
  rfl
 ·(try simp +decide -implicitDefEqProofs only [go_sem])
  refine stk_pure (hasPre_ok s (⟨#[111, 110]⟩ : Str)) fun v hv => ?_
  subst hv
  cases hp : hasPre s (⟨#[111, 110]⟩ : Str)
  ·by_cases e1 : s = (⟨#[115, 114, 99, 100, 111, 99]⟩ : Str)
   ·have f1 : decide (s ≠ (⟨#[115, 114, 99, 100, 111, 99]⟩ : Str)) = false := by simp [e1]
    (try simp +decide -implicitDefEqProofs only [go_sem, f1])
    refine aret_pure (.inr rfl) ?_; simp +decide only [retOf, tget, if_true, if_false, ↓reduceIte, List.map_cons, List.map_nil]
    simp [e1]
   ·have f1 : decide (s ≠ (⟨#[115, 114, 99, 100, 111, 99]⟩ : Str)) = true := by simp [e1]
    by_cases e2 : s = (⟨#[102, 111, 114, 109, 97, 99, 116, 105, 111, 110]⟩ : Str)
    ·have f2 : decide (s ≠ (⟨#[102, 111, 114, 109, 97, 99, 116, 105, 111, 110]⟩ : Str)) = false := by simp [e2]
     (try simp +decide -implicitDefEqProofs only [go_sem, f1, f2])
     refine aret_pure (.inr rfl) ?_; simp +decide only [retOf, tget, if_true, if_false, ↓reduceIte, List.map_cons, List.map_nil]
     simp [e2]
    ·have f2 : decide (s ≠ (⟨#[102, 111, 114, 109, 97, 99, 116, 105, 111, 110]⟩ : Str)) = true := by simp [e2]
     (try simp +decide -implicitDefEqProofs only [go_sem, f1, f2])
     refine aret_pure (.inr rfl) ?_; simp +decide only [retOf, tget, if_true, if_false, ↓reduceIte, List.map_cons, List.map_nil]
  ·(try simp +decide -implicitDefEqProofs only [go_sem])
   refine aret_pure (.inr rfl) ?_; simp +decide only [retOf, tget, if_true, if_false, ↓reduceIte, List.map_cons, List.map_nil]
   rfl
end Go.Proofs.YtfaodacmdlnabaaGreatDoor.M
