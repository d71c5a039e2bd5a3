/-
 The node, opened, and what it takes in; a digest may be: walked.
-/
import Derived.Test.YtfaodacmdlnabaaGreatDoorNc
namespace Go.Proofs.YtfaodacmdlnabaaGreatDoor.M
open Go.RowKit
set_option linter.unusedVariables false
set_option linter.unusedSimpArgs false
abbrev nil : AVal := .v (.slice none 0 0)
def n_gtS (a b : Str) : Bool := !(strLt a b || decide (a = b))
def n_stepS (last x : Str) : Bool := n_gtS x last && decide ((x.size : Int) ≤ 16)
def n_riseIds : Str → List Str → Bool
 | _, [] => true
 | last, x :: l => n_stepS last x && n_riseIds x l
def c_mrises : AFn := ⟨2, 13, [4],
 .seq (.ops [oq 4 (.mv (.const (.bool false)))])
 (.seq (.ops [oq 5 (.mv (.tmp 1)),
   oq 6 (.mv (.tmp 0)),
   oq 7 (.bin .gtr .num (.tmp 5) (.tmp 6)),
   oq 8 (.mv (.tmp 7)),
   og 9 8 true (.mv (.tmp 1)),
   og 10 8 true (.len true (.tmp 9)),
   og 11 8 true (.bin .leq .num (.tmp 10) (.const (.int .i64 16))),
   oq 12 (.pick (.tmp 8) (.tmp 11) (.const (.bool false))),
   oq 4 (.mv (.tmp 12))])
 (.ret)), []⟩
theorem k_mrises : compF Tryz.prog 172 = some c_mrises := by kernel_rfl
set_option maxHeartbeats 2000000 in
theorem n_mrises_ok {W : World} (last x : Str) : ACalls Tryz.prog W 172 [.v (.string last), .v (.string x)] AHeap.none fun v _ => v = .v (.bool (n_stepS last x)) := by
 refine fn_run follows k_mrises rfl ?_
 simp only [oq, og, oe, oh, on, c_mrises, aretC_nil, List.zipIdx_cons, List.zipIdx_nil, List.map_cons, List.map_nil, Nat.zero_add]
 unfold n_stepS n_gtS
 cases h1 : strLt x last
 ·cases h2 : decide (x = last)
  ·(try simp +decide -implicitDefEqProofs only [go_sem, h1, h2, Bool.or_false, Bool.false_or])
   refine aret_pure (.inr rfl) ?_; simp +decide only [retOf, tget, if_true, if_false, ↓reduceIte, List.map_cons, List.map_nil]
   try simp
  ·(try simp +decide -implicitDefEqProofs only [go_sem, h1, h2, Bool.or_false, Bool.false_or, Bool.or_true])
   refine aret_pure (.inr rfl) ?_; simp +decide only [retOf, tget, if_true, if_false, ↓reduceIte, List.map_cons, List.map_nil]
   try simp
 ·(try simp +decide -implicitDefEqProofs only [go_sem, h1, Bool.true_or])
  refine aret_pure (.inr rfl) ?_; simp +decide only [retOf, tget, if_true, if_false, ↓reduceIte, List.map_cons, List.map_nil]
  try simp
def pol9 : List AVal := [.v (.int .i64 0), nil, nil, nil, nil, nil, .v (.int .i64 0), .v (.int .i64 0), .v (.int .i64 0)]
def c_empty : AFn := ⟨1, 43, [2],
 .seq (.ops [oe 1 (.box 36 (.tmp 0)),
   oq 2 (.mv (.const (.bool false)))])
 (.seq (.ops [oq 3 (.fad 0 1 (.tmp 1)),
   oq 4 (.ld false 1 (.tmp 3)),
   oq 5 (.bin .eql .num (.tmp 4) (.const (.int .i64 0))),
   oq 6 (.mv (.tmp 5)),
   og 7 6 true (.fad 1 1 (.tmp 1)),
   og 8 6 true (.ld false 1 (.tmp 7)),
   og 9 6 true (.len false (.tmp 8)),
   og 10 6 true (.fad 2 1 (.tmp 1)),
   og 11 6 true (.ld false 1 (.tmp 10)),
   og 12 6 true (.len false (.tmp 11)),
   og 13 6 true (.bin .add .num (.tmp 9) (.tmp 12)),
   og 14 6 true (.fad 3 1 (.tmp 1)),
   og 15 6 true (.ld false 1 (.tmp 14)),
   og 16 6 true (.len false (.tmp 15)),
   og 17 6 true (.bin .add .num (.tmp 13) (.tmp 16)),
   og 18 6 true (.fad 4 1 (.tmp 1)),
   og 19 6 true (.ld false 1 (.tmp 18)),
   og 20 6 true (.len false (.tmp 19)),
   og 21 6 true (.bin .add .num (.tmp 17) (.tmp 20)),
   og 22 6 true (.fad 5 1 (.tmp 1)),
   og 23 6 true (.ld false 1 (.tmp 22)),
   og 24 6 true (.len false (.tmp 23)),
   og 25 6 true (.bin .add .num (.tmp 21) (.tmp 24)),
   og 26 6 true (.bin .eql .num (.tmp 25) (.const (.int .i64 0))),
   oq 27 (.pick (.tmp 6) (.tmp 26) (.const (.bool false))),
   oq 28 (.mv (.tmp 27)),
   og 29 28 true (.fad 6 1 (.tmp 1)),
   og 30 28 true (.ld false 1 (.tmp 29)),
   og 31 28 true (.bin .eql .num (.tmp 30) (.const (.int .i64 0))),
   oq 32 (.pick (.tmp 28) (.tmp 31) (.const (.bool false))),
   oq 33 (.mv (.tmp 32)),
   og 34 33 true (.fad 7 1 (.tmp 1)),
   og 35 33 true (.ld false 1 (.tmp 34)),
   og 36 33 true (.bin .eql .num (.tmp 35) (.const (.int .i64 0))),
   oq 37 (.pick (.tmp 33) (.tmp 36) (.const (.bool false))),
   oq 38 (.mv (.tmp 37)),
   og 39 38 true (.fad 8 1 (.tmp 1)),
   og 40 38 true (.ld false 1 (.tmp 39)),
   og 41 38 true (.bin .eql .num (.tmp 40) (.const (.int .i64 0))),
   oq 42 (.pick (.tmp 38) (.tmp 41) (.const (.bool false))),
   oq 2 (.mv (.tmp 42))])
 (.ret)), []⟩
theorem k_empty : compF Tryz.prog 171 = some c_empty := by kernel_rfl
theorem empty9_ok {W : World} : ACalls Tryz.prog W 171 [.agg pol9] AHeap.none fun v _ => v = .v (.bool true) := by
 refine fn_run follows k_empty rfl ?_
 simp only [oq, og, oe, oh, on, c_empty, aretC_nil, List.zipIdx_cons, List.zipIdx_nil, List.map_cons, List.map_nil, Nat.zero_add]
 have d0 : decide ((0 : Int) = 0) = true := rfl
 (try simp +decide -implicitDefEqProofs only [go_sem])
 rw [stk_box]
 refine ⟨by rfl, fun b1 h1 => ?_⟩
 have w0 : IntKind.i64.wrap 0 = 0 := by decide
 have w1 : IntKind.i64.wrap (0 + 0) = 0 := by decide
 (try simp +decide -implicitDefEqProofs only [go_sem, pol9, d0, w0, w1, Int.add_zero, lay, oneOr, List.take_succ_cons, List.take_zero, List.drop_succ_cons, List.drop_zero, List.nil_append, List.cons_append, Option.getD_some, Nat.reduceAdd, Nat.reduceLeDiff, List.append_nil, and_self, List.all_cons, List.all_nil])
 refine aret_pure (.inr rfl) ?_; simp +decide only [retOf, tget, if_true, if_false, ↓reduceIte, List.map_cons, List.map_nil]
/-- A digest's cells. -/
def digC (ids : AVal) : List AVal := [.v (.int .i64 1), .v (.int .i64 2), .v (.int .i64 1), .v (.int .i64 0), ids, nil, .v (.int .i64 0), nil, nil, nil, nil, nil, .v (.int .i64 0), .v (.int .i64 0), .v (.int .i64 0)]
theorem n_drop_cons {α : Type} {l : List α} {i : Nat} {d : α} (h : i < l.length) : l.drop i = l.getD i d :: l.drop (i + 1) := by
 rw [List.drop_eq_getElem_cons h]; simp [h]
def c_mRight : AFn := ⟨1, 136, [2],
 .seq (.ops [oe 1 (.box 131 (.tmp 0)),
   oq 2 (.mv (.const (.bool false)))])
 (.seq (.seq (.ops [oq 8 (.fad 1 1 (.tmp 1)),
   oq 9 (.ld false 1 (.tmp 8)),
   oq 10 (.fad 2 1 (.tmp 1)),
   oq 11 (.ld false 1 (.tmp 10)),
   oq 12 (.mm false (.tmp 9) (.tmp 11)),
   oq 13 (.bin .lss .num (.tmp 12) (.const (.int .i64 0))),
   oq 14 (.mv (.tmp 13)),
   og 15 14 false (.fad 1 1 (.tmp 1)),
   og 16 14 false (.ld false 1 (.tmp 15)),
   og 17 14 false (.fad 2 1 (.tmp 1)),
   og 18 14 false (.ld false 1 (.tmp 17)),
   og 19 14 false (.mm true (.tmp 16) (.tmp 18)),
   og 20 14 false (.bin .gtr .num (.tmp 19) (.const (.int .i64 5))),
   oq 21 (.pick (.tmp 14) (.const (.bool true)) (.tmp 20)),
   oq 22 (.mv (.tmp 21)),
   og 23 22 false (.fad 1 1 (.tmp 1)),
   og 24 22 false (.ld false 1 (.tmp 23)),
   og 25 22 false (.fad 2 1 (.tmp 1)),
   og 26 22 false (.ld false 1 (.tmp 25)),
   og 27 22 false (.bin .eql .num (.tmp 24) (.tmp 26)),
   oq 28 (.pick (.tmp 22) (.const (.bool true)) (.tmp 27)),
   oq 29 (.mv (.tmp 28)),
   og 30 29 false (.fad 3 1 (.tmp 1)),
   og 31 29 false (.ld false 1 (.tmp 30)),
   og 32 29 false (.bin .lss .num (.tmp 31) (.const (.int .i64 0))),
   oq 33 (.pick (.tmp 29) (.const (.bool true)) (.tmp 32)),
   oq 34 (.mv (.tmp 33)),
   og 35 34 false (.fad 3 1 (.tmp 1)),
   og 36 34 false (.ld false 1 (.tmp 35)),
   og 37 34 false (.bin .gtr .num (.tmp 36) (.const (.int .i64 1000000))),
   oq 38 (.pick (.tmp 34) (.const (.bool true)) (.tmp 37))])
 (.cond (.tmp 38)
  (.seq (.ops [oq 2 (.mv (.const (.bool false)))])
  (.ret))
  (.skip)))
 (.seq (.seq (.ops [oq 39 (.fad 0 1 (.tmp 1)),
   oq 40 (.ld false 1 (.tmp 39)),
   oq 41 (.bin .neq .num (.tmp 40) (.const (.int .i64 1))),
   oq 42 (.mv (.tmp 41)),
   og 43 42 true (.fad 4 1 (.tmp 1)),
   og 44 42 true (.ld false 1 (.tmp 43)),
   og 45 42 true (.len false (.tmp 44)),
   og 46 42 true (.bin .gtr .num (.tmp 45) (.const (.int .i64 0))),
   oq 47 (.pick (.tmp 42) (.tmp 46) (.const (.bool false))),
   oq 48 (.mv (.tmp 47)),
   og 49 48 false (.fad 0 1 (.tmp 1)),
   og 50 48 false (.ld false 1 (.tmp 49)),
   og 51 48 false (.bin .neq .num (.tmp 50) (.const (.int .i64 2))),
   og 52 48 false (.mv (.tmp 51)),
   og 53 52 true (.fad 5 1 (.tmp 1)),
   og 54 52 true (.ld false 1 (.tmp 53)),
   og 55 52 true (.len false (.tmp 54)),
   og 56 52 true (.bin .gtr .num (.tmp 55) (.const (.int .i64 0))),
   og 57 48 false (.pick (.tmp 52) (.tmp 56) (.const (.bool false))),
   oq 58 (.pick (.tmp 48) (.const (.bool true)) (.tmp 57)),
   oq 59 (.mv (.tmp 58)),
   og 60 59 false (.fad 0 1 (.tmp 1)),
   og 61 59 false (.ld false 1 (.tmp 60)),
   og 62 59 false (.bin .neq .num (.tmp 61) (.const (.int .i64 3))),
   og 63 59 false (.mv (.tmp 62)),
   og 64 63 true (.fad 6 9 (.tmp 1)),
   og 65 63 true (.ld true 9 (.tmp 64)),
   oh 66 63 true (.call 171 [(.tmp 65)]),
   og 67 63 true (.un .not (.tmp 66)),
   og 68 59 false (.pick (.tmp 63) (.tmp 67) (.const (.bool false))),
   oq 69 (.pick (.tmp 59) (.const (.bool true)) (.tmp 68))])
 (.cond (.tmp 69)
  (.seq (.ops [oq 2 (.mv (.const (.bool false)))])
  (.ret))
  (.skip)))
 (.seq (.ops [oq 3 (.mv (.const (.string ByteArray.empty)))])
 (.seq (.seq (.ops [oq 70 (.fad 0 1 (.tmp 1)),
   oq 71 (.ld false 1 (.tmp 70))])
 (.block 0 (.seq (.ops [oq 73 (.bin .eql .num (.tmp 71) (.const (.int .i64 1))),
    oq 72 (.mv (.tmp 73))])
  (.cond (.tmp 72)
   (.seq (.seq (.ops [oq 74 (.fad 4 1 (.tmp 1)),
     oq 75 (.ld false 1 (.tmp 74)),
     oq 76 (.len false (.tmp 75)),
     oq 77 (.mv (.const (.int .i64 0)))])
   (.block 1 (.loop (.seq (.ops [oq 78 (.bin .lss .num (.tmp 77) (.tmp 76))])
     (.seq (.cond (.tmp 78)
      (.skip)
      (.exit 1))
     (.seq (.block 2 (.seq (.ops [oq 79 (.ixa 1 (.tmp 75) (.tmp 77)),
        oq 80 (.ld false 1 (.tmp 79)),
        oq 5 (.mv (.tmp 80))])
      (.seq (.seq (.ops [oq 81 (.mv (.tmp 3)),
        oq 82 (.mv (.tmp 5)),
        oe 83 (.call 172 [(.tmp 81), (.tmp 82)]),
        oq 84 (.un .not (.tmp 83))])
      (.cond (.tmp 84)
       (.seq (.ops [oq 2 (.mv (.const (.bool false)))])
       (.ret))
       (.skip)))
      (.ops [oq 85 (.mv (.tmp 5)),
        oq 3 (.mv (.tmp 85))]))))
     (.ops [oq 86 (.bin .add .num (.tmp 77) (.const (.int .i64 1))),
       oq 77 (.mv (.tmp 86))])))))))
   (.seq (.ops [oq 87 (.fad 4 1 (.tmp 1)),
     oq 88 (.ld false 1 (.tmp 87)),
     oq 89 (.len false (.tmp 88)),
     oq 90 (.bin .leq .num (.tmp 89) (.const (.int .i64 64))),
     oq 2 (.mv (.tmp 90))])
   (.ret)))
   (.seq (.ops [oq 92 (.bin .eql .num (.tmp 71) (.const (.int .i64 2))),
     oq 91 (.mv (.tmp 92))])
   (.cond (.tmp 91)
    (.seq (.seq (.ops [oq 93 (.fad 5 1 (.tmp 1)),
      oq 94 (.ld false 1 (.tmp 93)),
      oq 95 (.len false (.tmp 94)),
      oq 96 (.mv (.const (.int .i64 0)))])
    (.block 3 (.loop (.seq (.ops [oq 97 (.bin .lss .num (.tmp 96) (.tmp 95))])
      (.seq (.cond (.tmp 97)
       (.skip)
       (.exit 3))
      (.seq (.block 4 (.seq (.ops [oq 98 (.ixa 2 (.tmp 94) (.tmp 96)),
         oq 99 (.ld true 2 (.tmp 98)),
         oe 7 (.alloc 170 [(.string ByteArray.empty), (.string ByteArray.empty)]),
         on (.st 2 (.tmp 7) (.tmp 99))])
       (.seq (.seq (.ops [oq 100 (.mv (.tmp 3)),
         oq 101 (.fad 0 1 (.tmp 7)),
         oq 102 (.ld false 1 (.tmp 101)),
         oe 103 (.call 172 [(.tmp 100), (.tmp 102)]),
         oq 104 (.un .not (.tmp 103)),
         oq 105 (.mv (.tmp 104)),
         og 106 105 false (.fad 1 1 (.tmp 7)),
         og 107 105 false (.ld false 1 (.tmp 106)),
         og 108 105 false (.len true (.tmp 107)),
         og 109 105 false (.bin .gtr .num (.tmp 108) (.const (.int .i64 2000))),
         oq 110 (.pick (.tmp 105) (.const (.bool true)) (.tmp 109))])
       (.cond (.tmp 110)
        (.seq (.ops [oq 2 (.mv (.const (.bool false)))])
        (.ret))
        (.skip)))
       (.ops [oq 111 (.fad 0 1 (.tmp 7)),
         oq 112 (.ld false 1 (.tmp 111)),
         oq 3 (.mv (.tmp 112))]))))
      (.ops [oq 113 (.bin .add .num (.tmp 96) (.const (.int .i64 1))),
        oq 96 (.mv (.tmp 113))])))))))
    (.seq (.ops [oq 114 (.fad 5 1 (.tmp 1)),
      oq 115 (.ld false 1 (.tmp 114)),
      oq 116 (.len false (.tmp 115)),
      oq 117 (.bin .leq .num (.tmp 116) (.const (.int .i64 64))),
      oq 118 (.mv (.tmp 117)),
      og 119 118 true (.fad 3 1 (.tmp 1)),
      og 120 118 true (.ld false 1 (.tmp 119)),
      og 121 118 true (.bin .eql .num (.tmp 120) (.const (.int .i64 0))),
      oq 122 (.pick (.tmp 118) (.tmp 121) (.const (.bool false))),
      oq 2 (.mv (.tmp 122))])
    (.ret)))
    (.seq (.ops [oq 124 (.bin .eql .num (.tmp 71) (.const (.int .i64 3))),
      oq 123 (.mv (.tmp 124))])
    (.cond (.tmp 123)
     (.seq (.ops [oq 125 (.fad 6 9 (.tmp 1)),
       oq 126 (.ld true 9 (.tmp 125)),
       oe 127 (.call 61 [(.tmp 126)]),
       oq 128 (.mv (.tmp 127)),
       og 129 128 true (.fad 3 1 (.tmp 1)),
       og 130 128 true (.ld false 1 (.tmp 129)),
       og 131 128 true (.bin .eql .num (.tmp 130) (.const (.int .i64 0))),
       oq 132 (.pick (.tmp 128) (.tmp 131) (.const (.bool false))),
       oq 2 (.mv (.tmp 132))])
     (.ret))
     (.skip)))))))))
 (.seq (.ops [oq 133 (.fad 0 1 (.tmp 1)),
   oq 134 (.ld false 1 (.tmp 133)),
   oq 135 (.bin .eql .num (.tmp 134) (.const (.int .i64 4))),
   oq 2 (.mv (.tmp 135))])
 (.ret)))))), []⟩
theorem k_mRight : compF Tryz.prog 137 = some c_mRight := by kernel_rfl
set_option maxHeartbeats 4000000 in
theorem mrightD_ok {W : World} (l : List Str) (hl : l.length ≤ 64) (hr : n_riseIds ByteArray.empty l = true) : ACalls Tryz.prog W 137 [.agg (digC (.sl false 1 (strRows l)))] AHeap.none fun v _ => v = .v (.bool true) := by
 refine fn_run follows k_mRight rfl ?_
 simp only [oq, og, oe, oh, on, c_mRight, aretC_nil, List.zipIdx_cons, List.zipIdx_nil, List.map_cons, List.map_nil, Nat.zero_add]
 have d1 : decide (min (2 : Int) 1 < 0) = false := by decide
 have d2 : decide ((5 : Int) < max 2 1) = false := by decide
 have d3 : decide ((2 : Int) = 1) = false := by decide
 have d4 : decide ((0 : Int) < 0) = false := by decide
 have d5 : decide ((1000000 : Int) < 0) = false := by decide
 have d6 : decide ((1 : Int) = 1) = true := by decide
 have d7 : decide (¬ (1 : Int) = 1) = false := by decide
 have d8 : decide (¬ (1 : Int) = 2) = true := by decide
 have d9 : decide (¬ (1 : Int) = 3) = true := by decide
 (try simp +decide -implicitDefEqProofs only [go_sem])
 rw [stk_box]
 refine ⟨by rfl, fun b1 h1 => ?_⟩
 (try simp +decide -implicitDefEqProofs only [go_sem, digC, d1, d2, d3, d4, d5, d6, d7, d8, d9, ne_eq, not_true_eq_false, lay, oneOr, List.take_succ_cons, List.take_zero, List.drop_succ_cons, List.drop_zero, List.nil_append, List.cons_append, Option.getD_some, Nat.reduceAdd, Nat.reduceLeDiff, List.append_nil, and_self, List.all_cons, List.all_nil])
 refine stk_pureW ⟨[(65, .agg pol9), (63, .v (.bool true)), (59, .v (.bool false)), (1, .pl (digC (.sl false 1 (strRows l))))], AHeap.none⟩ (Weak.list _ (Sub.none _) ?_) empty9_ok fun v hv => ?_
 ·(try simp +decide -implicitDefEqProofs only [go_sem, pol9, FZ_rfl])
  exact FZ.cells (hp_self _ _ _) rfl rfl (fun j _ _ => .refl _)
 subst hv
 (try simp +decide -implicitDefEqProofs only [go_sem, digC, d6, lay, oneOr, List.take_succ_cons, List.take_zero, List.drop_succ_cons, List.drop_zero, List.nil_append, List.cons_append, Option.getD_some, Nat.reduceAdd, Nat.reduceLeDiff, List.append_nil, and_self, List.all_cons, List.all_nil])
 refine stk_up (α := Str) l.length (fun i a => ⟨[(77, .v (.int .i64 i)), (76, .v (.int .i64 l.length)), (75, .sl false 1 (strRows l)), (3, .v (.string a)), (1, .pl (digC (.sl false 1 (strRows l))))], AHeap.none⟩) (fun i a => n_riseIds a (l.drop i) = true) ByteArray.empty (Weak.list _ (Sub.refl _) (by (try simp +decide -implicitDefEqProofs only [go_sem, digC, FZ_rfl]))) (by rw [List.drop_zero]; exact hr) ?_
 rintro i a hi hJ
 by_cases hlt : i < l.length
 ·have g1 : (i : Int) < (l.length : Int) := by omega
  have hw := wrap_in (n := (i : Int) + 1) (by omega) (by omega)
  have hg := strRows_get hlt
  rw [n_drop_cons (d := ByteArray.empty) hlt, n_riseIds, Bool.and_eq_true] at hJ
  obtain ⟨hs, hJ⟩ := hJ
  (try simp +decide -implicitDefEqProofs only [go_sem, g1, hlt, hg])
  refine stk_pure (n_mrises_ok a (l.getD i ByteArray.empty)) fun v hv => ?_
  subst hv
  (try simp +decide -implicitDefEqProofs only [go_sem, hw, hs])
  first | exact ⟨by omega, _, Weak.list _ (Sub.refl _) (by (try simp +decide -implicitDefEqProofs only [go_sem])), hJ⟩ | exact ⟨_, Weak.list _ (Sub.refl _) (by (try simp +decide -implicitDefEqProofs only [go_sem])), hJ⟩
 ·have g1 : ¬ (i : Int) < (l.length : Int) := by omega
  have g2 : (l.length : Int) ≤ 64 := by omega
  (try simp +decide -implicitDefEqProofs only [go_sem, g1, g2, digC, lay, oneOr, List.take_succ_cons, List.take_zero, List.drop_succ_cons, List.drop_zero, List.nil_append, List.cons_append, Option.getD_some, Nat.reduceAdd, Nat.reduceLeDiff, List.append_nil, and_self, List.all_cons, List.all_nil])
  refine aret_pure (.inr rfl) ?_; simp +decide only [retOf, tget, if_true, if_false, ↓reduceIte, List.map_cons, List.map_nil]
abbrev tNode : Nat := 121
def nodeCells (me : Int) (s does : Nat) : List AVal := [.v (.int .i64 me), ptr s, .v (.map (some does))]
def doesL : List (Value × Nat × AVal) := [(.int .i64 1, 0, .fn 78 []), (.int .i64 2, 1, .fn 79 []), (.int .i64 3, 2, .fn 80 [])]
/-- A node that follows no policy. -/
structure Nod (H : AHeap) (g : Nat) (me : Int) (s l d ps st does used : Nat) (pl : List (Str × Nat × AVal)) : Prop where
 here : H g = some (.cells tNode (nodeCells me s does))
 fns : H does = some (.mp doesL 3)
 sto : Sto H s l d ps st used pl
 ne1 : does ≠ ps
 ne2 : does ≠ st
theorem Nod.all {H H' : AHeap} {g : Nat} {me : Int} {s l d ps st does used : Nat} {pl : List (Str × Nat × AVal)} (h : Nod H g me s l d ps st does used pl) (hk : All H H') : Nod H' g me s l d ps st does used pl :=
 ⟨hk _ _ h.here, hk _ _ h.fns, h.sto.kept hk, h.ne1, h.ne2⟩
theorem Nod.next {H H' : AHeap} {g : Nat} {me : Int} {s l d ps st does used used' : Nat} {pl pl' : List (Str × Nat × AVal)} (h : Nod H g me s l d ps st does used pl) (hk : KeptS d ps st H H') (hs : Sto H' s l d ps st used' pl') : Nod H' g me s l d ps st does used' pl' := by
 obtain ⟨X, rows, n, hd, _⟩ := h.sto.dev
 obtain ⟨pc, hp, _⟩ := h.sto.posts
 obtain ⟨sl, sc, hst⟩ := h.sto.stale
 have hh := h.here
 have hdo := h.fns
 refine ⟨hk _ _ hh (fun e => ?_) (fun e => ?_) (fun e => ?_) (fun _ e => by cases e), hk _ _ hdo (fun e => ?_) h.ne1 h.ne2 (fun _ e => by cases e), hs, h.ne1, h.ne2⟩
 ·rw [e, hd.here] at hh; exact absurd hh (by unfold devCells nodeCells; simp)
 ·rw [e, hp] at hh; cases hh
 ·rw [e, hst] at hh; cases hh
 ·rw [e, hd.here] at hdo; cases hdo
def c_nIngest : AFn := ⟨3, 14, [6],
 .seq (.ops [oq 6 (.mv (.const (.int .i64 0)))])
 (.seq (.ops [oq 7 (.mv (.tmp 0)),
   oq 8 (.nck (.tmp 7)),
   oq 9 (.fad 1 1 (.tmp 8)),
   oq 10 (.ld false 1 (.tmp 9)),
   oq 11 (.mv (.tmp 1)),
   oq 12 (.mv (.tmp 2)),
   oe 13 (.call 129 [(.tmp 10), (.tmp 11), (.tmp 12)]),
   oq 6 (.mv (.tmp 13))])
 (.ret)), []⟩
theorem k_nIngest : compF Tryz.prog 82 = some c_nIngest := by kernel_rfl
theorem nIngest_ok {W : World} {H : AHeap} {g : Nat} {me : Int} {s l d ps st does used : Nat} {pl : List (Str × Nat × AVal)} (h : Nod H g me s l d ps st does used pl) (id raw : Str) (hid : id.size ≤ maxLen) :
  ACalls Tryz.prog W 82 [ptr g, .v (.string id), .v (.string raw)] H fun v H' => ∃ e pl', v = .v (.int .i64 e) ∧ Nod H' g me s l d ps st does 60000 pl' ∧ pl'.length ≤ pl.length + 1 ∧
   (mayE id raw pl = 0 → used + (5 + id.size + raw.size) ≤ 60000 → e = 0 ∧ ∃ c, pl' = pl ++ [(id, c, keptV id raw)]) := by
 have hg := h.here
 unfold nodeCells at hg
 refine fn_run follows k_nIngest rfl ?_
 simp only [oq, og, oe, oh, on, c_nIngest, aretC_nil, List.zipIdx_cons, List.zipIdx_nil, List.map_cons, List.map_nil, Nat.zero_add]
 (try simp +decide -implicitDefEqProofs only [go_sem, hg, lay, oneOr, List.take_succ_cons, List.take_zero, List.drop_succ_cons, List.drop_zero, List.nil_append, List.cons_append, Option.getD_some, Nat.reduceAdd, Nat.reduceLeDiff, List.append_nil, and_self, List.all_cons, List.all_nil])
 refine stk_call (stoPost_ok h.sto id raw hid) fun v H1 hv => ?_
 obtain ⟨e, pl', rfl, hs, hk, hl, he⟩ := hv
 (try simp +decide -implicitDefEqProofs only [go_sem, lay, oneOr, List.take_succ_cons, List.take_zero, List.drop_succ_cons, List.drop_zero, List.nil_append, List.cons_append, Option.getD_some, Nat.reduceAdd, Nat.reduceLeDiff, List.append_nil, and_self, List.all_cons, List.all_nil])
 exact ⟨.inr rfl, _, _, Sub.refl _, .refl _, e, pl', rfl, h.next hk hs, hl, he⟩
def c_nIDs : AFn := ⟨1, 8, [2],
 .seq (.ops [oq 2 (.mv (.const (.slice none 0 0)))])
 (.seq (.ops [oq 3 (.mv (.tmp 0)),
   oq 4 (.nck (.tmp 3)),
   oq 5 (.fad 1 1 (.tmp 4)),
   oq 6 (.ld false 1 (.tmp 5)),
   oe 7 (.call 163 [(.tmp 6)]),
   oq 2 (.mv (.tmp 7))])
 (.ret)), []⟩
theorem k_nIDs : compF Tryz.prog 125 = some c_nIDs := by kernel_rfl
theorem nIDs_ok {W : World} {H : AHeap} {g : Nat} {me : Int} {s l0 d ps st does used : Nat} {l : List (Str × Nat × AVal)} (h : Nod H g me s l0 d ps st does used l) : ACalls Tryz.prog W 125 [ptr g] H fun v H' => RowO H' 9 1 v (strRows (sortS (l.map (·.1)))) ∧ All H H' ∧ ∀ b, blkOf v = some b → H b = none := by
 have hg := h.here
 unfold nodeCells at hg
 refine fn_run follows k_nIDs rfl ?_
 simp only [oq, og, oe, oh, on, c_nIDs, aretC_nil, List.zipIdx_cons, List.zipIdx_nil, List.map_cons, List.map_nil, Nat.zero_add]
 (try simp +decide -implicitDefEqProofs only [go_sem, hg, lay, oneOr, List.take_succ_cons, List.take_zero, List.drop_succ_cons, List.drop_zero, List.nil_append, List.cons_append, Option.getD_some, Nat.reduceAdd, Nat.reduceLeDiff, List.append_nil, and_self, List.all_cons, List.all_nil])
 refine stk_call (stIDs_ok h.sto) fun v H1 hv => ?_
 (try simp +decide -implicitDefEqProofs only [go_sem, lay, oneOr, List.take_succ_cons, List.take_zero, List.drop_succ_cons, List.drop_zero, List.nil_append, List.cons_append, Option.getD_some, Nat.reduceAdd, Nat.reduceLeDiff, List.append_nil, and_self, List.all_cons, List.all_nil])
 exact ⟨.inr rfl, _, _, Sub.refl _, .refl _, hv⟩
def c_nOpen : AFn := ⟨2, 30, [4, 5],
 .seq (.ops [oq 4 (.mv (.const (.pointer none))),
   oq 5 (.mv (.const (.int .i64 0)))])
 (.seq (.seq (.ops [oq 9 (.mv (.tmp 0)),
   oq 10 (.bin .lss .num (.tmp 9) (.const (.int .i64 1))),
   oq 11 (.mv (.tmp 10)),
   og 12 11 false (.mv (.tmp 0)),
   og 13 11 false (.bin .gtr .num (.tmp 12) (.const (.int .i64 5))),
   oq 14 (.pick (.tmp 11) (.const (.bool true)) (.tmp 13))])
 (.cond (.tmp 14)
  (.seq (.ops [oq 4 (.mv (.const (.pointer none))),
    oq 5 (.mv (.const (.int .i64 1)))])
  (.ret))
  (.skip)))
 (.seq (.ops [oq 16 (.mv (.tmp 1)),
   oe 17 (.call 77 [(.tmp 16)]),
   oq 15 (.mv (.tmp 17)),
   oq 18 (.ext (.tmp 15) 0),
   oq 19 (.ext (.tmp 15) 1),
   oq 6 (.mv (.tmp 18)),
   oq 7 (.mv (.tmp 19))])
 (.seq (.seq (.ops [oq 20 (.mv (.tmp 7)),
   oq 21 (.bin .neq .num (.tmp 20) (.const (.int .i64 0)))])
 (.cond (.tmp 21)
  (.seq (.ops [oq 22 (.mv (.tmp 7)),
    oq 4 (.mv (.const (.pointer none))),
    oq 5 (.mv (.tmp 22))])
  (.ret))
  (.skip)))
 (.seq (.ops [oe 23 (.mk),
   on (.up (some .i64) (.tmp 23) (.const (.int .i64 1)) (.func 78)),
   on (.up (some .i64) (.tmp 23) (.const (.int .i64 2)) (.func 79)),
   on (.up (some .i64) (.tmp 23) (.const (.int .i64 3)) (.func 80)),
   oq 24 (.mv (.tmp 23)),
   oq 8 (.mv (.tmp 24))])
 (.seq (.ops [oq 25 (.mv (.tmp 0)),
   oq 26 (.mv (.tmp 6)),
   oq 27 (.mv (.tmp 8)),
   oq 28 (.bld [(.int .i64 0), (.pointer none), (.map none)] [(0, 1, (.tmp 25)), (1, 1, (.tmp 26)), (2, 1, (.tmp 27))]),
   oe 29 (.box 121 (.tmp 28)),
   oq 4 (.mv (.tmp 29)),
   oq 5 (.mv (.const (.int .i64 0)))])
 (.ret)))))), []⟩
theorem k_nOpen : compF Tryz.prog 48 = some c_nOpen := by kernel_rfl
set_option maxHeartbeats 1000000 in
theorem nOpen_ok {W : World} {H : AHeap} {d : Nat} {n : Int} (h : DevH H d (.v (.slice none 0 0)) [] n) : ACalls Tryz.prog W 48 [.v (.int .i64 1), ptr d] H fun v H' => ∃ g s l ps st does, v = .tup [ptr g, .v (.int .i64 0)] ∧ Nod H' g 1 s l d ps st does 0 [] := by
 refine fn_run follows k_nOpen rfl ?_
 simp only [oq, og, oe, oh, on, c_nOpen, aretC_nil, List.zipIdx_cons, List.zipIdx_nil, List.map_cons, List.map_nil, Nat.zero_add]
 have d1 : decide ((1 : Int) < 1) = false := by decide
 have d2 : decide ((5 : Int) < 1) = false := by decide
 (try simp +decide -implicitDefEqProofs only [go_sem, d1, d2, lay, oneOr, List.take_succ_cons, List.take_zero, List.drop_succ_cons, List.drop_zero, List.nil_append, List.cons_append, Option.getD_some, Nat.reduceAdd, Nat.reduceLeDiff, List.append_nil, and_self, List.all_cons, List.all_nil])
 refine stk_call (stOpen_ok h) fun v H1 hv => ?_
 obtain ⟨s, l, ps, st, rfl, hs, hall⟩ := hv
 (try simp +decide -implicitDefEqProofs only [go_sem, ne_eq, not_true_eq_false, lay, oneOr, List.take_succ_cons, List.take_zero, List.drop_succ_cons, List.drop_zero, List.nil_append, List.cons_append, Option.getD_some, Nat.reduceAdd, Nat.reduceLeDiff, List.append_nil, and_self, List.all_cons, List.all_nil])
 intro does hdo
 have hdo : H1 does = none := hdo
 (try simp +decide -implicitDefEqProofs only [go_sem, lay, oneOr, List.take_succ_cons, List.take_zero, List.drop_succ_cons, List.drop_zero, List.nil_append, List.cons_append, Option.getD_some, Nat.reduceAdd, Nat.reduceLeDiff, List.append_nil, and_self, List.all_cons, List.all_nil])
 refine stk_up' (b := does) (c := 0) (l := []) rfl (put_self _ _ _) rfl rfl ?_
 (try simp +decide -implicitDefEqProofs only [go_sem, hp_hp, lay, oneOr, List.take_succ_cons, List.take_zero, List.drop_succ_cons, List.drop_zero, List.nil_append, List.cons_append, Option.getD_some, Nat.reduceAdd, Nat.reduceLeDiff, List.append_nil, and_self, List.all_cons, List.all_nil])
 refine stk_up' (b := does) (c := 1) (l := [(.int .i64 1, 0, .fn 78 [])]) rfl (put_self _ _ _) rfl rfl ?_
 (try simp +decide -implicitDefEqProofs only [go_sem, hp_hp, lay, oneOr, List.take_succ_cons, List.take_zero, List.drop_succ_cons, List.drop_zero, List.nil_append, List.cons_append, Option.getD_some, Nat.reduceAdd, Nat.reduceLeDiff, List.append_nil, and_self, List.all_cons, List.all_nil])
 refine stk_up' (b := does) (c := 2) (l := [(.int .i64 1, 0, .fn 78 []), (.int .i64 2, 1, .fn 79 [])]) rfl (put_self _ _ _) rfl rfl ?_
 (try simp +decide -implicitDefEqProofs only [go_sem, hp_hp, lay, oneOr, List.take_succ_cons, List.take_zero, List.drop_succ_cons, List.drop_zero, List.nil_append, List.cons_append, Option.getD_some, Nat.reduceAdd, Nat.reduceLeDiff, List.append_nil, and_self, List.all_cons, List.all_nil])
 rw [stk_box]
 refine ⟨by rfl, fun g hg => ?_⟩
 obtain ⟨hgd, hg1⟩ := put_none (show (H1.put does _) g = none from hg)
 have hall2 : All H1 ((H1.put does (.mp doesL 3)).put g (.cells tNode (nodeCells 1 s does))) := fun c o hc => by
  have c1 : c ≠ does := fun e => by rw [e, hdo] at hc; cases hc
  have c2 : c ≠ g := fun e => by rw [e, hg1] at hc; cases hc
  rw [put_ne _ _ c2, put_ne _ _ c1]; exact hc
 obtain ⟨pc, hp, _⟩ := hs.posts
 obtain ⟨sl, sc, hst⟩ := hs.stale
 have hnod : Nod ((H1.put does (.mp doesL 3)).put g (.cells tNode (nodeCells 1 s does))) g 1 s l d ps st does 0 [] :=
  ⟨put_self _ _ _, by rw [put_ne _ _ (Ne.symm hgd), put_self], hs.kept hall2, (fun e => by rw [e, hp] at hdo; cases hdo), (fun e => by rw [e, hst] at hdo; cases hdo)⟩
 show stk _ _ _ _ _ (AState.put ⟨_, (H1.put does (.mp doesL 3)).put g (.cells tNode (nodeCells 1 s does))⟩ _ _)
 generalize (H1.put does (.mp doesL 3)).put g (.cells tNode (nodeCells 1 s does)) = H2 at hnod ⊢
 (try simp +decide -implicitDefEqProofs only [go_sem, lay, oneOr, List.take_succ_cons, List.take_zero, List.drop_succ_cons, List.drop_zero, List.nil_append, List.cons_append, Option.getD_some, Nat.reduceAdd, Nat.reduceLeDiff, List.append_nil, and_self, List.all_cons, List.all_nil])
 exact ⟨.inr rfl, _, _, Sub.refl _, .refl _, g, s, l, ps, st, does, rfl, hnod⟩
end Go.Proofs.YtfaodacmdlnabaaGreatDoor.M
