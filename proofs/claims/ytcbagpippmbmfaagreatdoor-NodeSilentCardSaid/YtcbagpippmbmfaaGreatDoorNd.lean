/-
  The node, opened, and what it takes in; a digest may be: walked.
-/
import Derived.Test.YtcbagpippmbmfaaGreatDoorNc
namespace Go.Proofs.YtcbagpippmbmfaaGreatDoor.M
open Go.RowKit
attribute [local go_sem] stk_nil stk_skip stk_ops stk_seq stk_block stk_scope stk_exit stk_ret stk_code_exit stk_code_ret stk_ops_exit stk_ops_ret stk_endb stk_endb_exit stk_endb_ret stk_endl stk_endl_exit stk_endl_ret stk_ops_nil stk_q stk_niq niqA flip srcOf stk_bsl side val bside bval uside uval cside cval bndS bndV intA isInt lside lval fside fval faside faval iside ival sxside sxval sizeA slside slval llside llval lenside lenval lenA tupA mmside mmval nkside boolA isBool ev_t ev_c tget put_s put_n lkside lkval menval stk_mk Option.isSome_some isMapA mapA keyA FZ_rfl FZ_any retOf true_and and_true if_true if_false decide_true decide_false Bool.not_true Bool.not_false Nat.zero_add List.map_cons List.map_nil Int.toNat_natCast strRows_len intRows_len List.getD_cons_zero List.getD_cons_succ List.length_cons List.length_nil List.forall_mem_cons List.not_mem_nil false_implies implies_true Int.ofNat_zero Int.natCast_add Int.natCast_one Int.ofNat_one Int.natCast_zero isB isU Bool.false_eq_true beq_self_eq_true Bool.false_beq Bool.true_beq Int.natCast_nonneg undef strRows_take strRows_drop Int.toNat_zero List.drop_zero Bool.and_true oneOr List.all_cons List.all_nil AVal.one Value.oneCell' Bool.true_and List.take_length stk_st' stside stH hp_self hp_hp isnside isnval
set_option linter.unusedVariables false
set_option linter.unusedSimpArgs false
abbrev nil : AVal := .v (.slice none 0 0)
def gtS (a b : Str) : Bool := !(strLt a b || decide (a = b))
def stepS (last x : Str) : Bool := gtS x last && decide ((x.size : Int) ≤ 16)
def riseIds : Str → List Str → Bool
  | _, [] => true
  | last, x :: l => stepS last x && riseIds x l
def c_mrises : AFn := ⟨2, 13, [4],
  .seq (.ops [⟨(some 4), none, .q (.mv (.const (.bool false)))⟩])
  (.seq (.ops [⟨(some 5), none, .q (.mv (.tmp 1))⟩,
      ⟨(some 6), none, .q (.mv (.tmp 0))⟩,
      ⟨(some 7), none, .q (.bin .gtr .num (.tmp 5) (.tmp 6))⟩,
      ⟨(some 8), none, .q (.mv (.tmp 7))⟩,
      ⟨(some 9), (some (8, true)), .q (.mv (.tmp 1))⟩,
      ⟨(some 10), (some (8, true)), .q (.len true (.tmp 9))⟩,
      ⟨(some 11), (some (8, true)), .q (.bin .leq .num (.tmp 10) (.const (.int .i64 16)))⟩,
      ⟨(some 12), none, .q (.pick (.tmp 8) (.tmp 11) (.const (.bool false)))⟩,
      ⟨(some 4), none, .q (.mv (.tmp 12))⟩])
  (.ret)), []⟩
theorem k_mrises : compF Tryz.prog 49 = some c_mrises := by kernel_rfl
set_option maxHeartbeats 2000000 in
theorem mrises_ok {W : World} (last x : Str) : ACalls Tryz.prog W 49 [.v (.string last), .v (.string x)] AHeap.none fun v _ => v = .v (.bool (stepS last x)) := by
  refine fn_run follows k_mrises rfl ?_
  simp only [c_mrises, aretC_nil, List.zipIdx_cons, List.zipIdx_nil, List.map_cons, List.map_nil, Nat.zero_add]
  unfold stepS gtS
  cases h1 : strLt x last
  · cases h2 : decide (x = last)
    · (try simp +decide (implicitDefEqProofs := false) only [go_sem, ↓stk_g, ↓stk_c, ↓reduceIte, h1, h2, Bool.or_false, Bool.false_or])
      refine aret_pure (.inr rfl) ?_; simp +decide only [retOf, tget, if_true, if_false, ↓reduceIte, List.map_cons, List.map_nil]
      try simp
    · (try simp +decide (implicitDefEqProofs := false) only [go_sem, ↓stk_g, ↓stk_c, ↓reduceIte, h1, h2, Bool.or_false, Bool.false_or, Bool.or_true])
      refine aret_pure (.inr rfl) ?_; simp +decide only [retOf, tget, if_true, if_false, ↓reduceIte, List.map_cons, List.map_nil]
      try simp
  · (try simp +decide (implicitDefEqProofs := false) only [go_sem, ↓stk_g, ↓stk_c, ↓reduceIte, h1, Bool.true_or])
    refine aret_pure (.inr rfl) ?_; simp +decide only [retOf, tget, if_true, if_false, ↓reduceIte, List.map_cons, List.map_nil]
    try simp
def pol9 : List AVal := [.v (.int .i64 0), nil, nil, nil, nil, nil, .v (.int .i64 0), .v (.int .i64 0), .v (.int .i64 0)]
def c_empty : AFn := ⟨1, 43, [2],
  .seq (.ops [⟨(some 1), none, .e (.box 39 (.tmp 0))⟩,
      ⟨(some 2), none, .q (.mv (.const (.bool false)))⟩])
  (.seq (.ops [⟨(some 3), none, .q (.fad 0 1 (.tmp 1))⟩,
      ⟨(some 4), none, .q (.ld false 1 (.tmp 3))⟩,
      ⟨(some 5), none, .q (.bin .eql .num (.tmp 4) (.const (.int .i64 0)))⟩,
      ⟨(some 6), none, .q (.mv (.tmp 5))⟩,
      ⟨(some 7), (some (6, true)), .q (.fad 1 1 (.tmp 1))⟩,
      ⟨(some 8), (some (6, true)), .q (.ld false 1 (.tmp 7))⟩,
      ⟨(some 9), (some (6, true)), .q (.len false (.tmp 8))⟩,
      ⟨(some 10), (some (6, true)), .q (.fad 2 1 (.tmp 1))⟩,
      ⟨(some 11), (some (6, true)), .q (.ld false 1 (.tmp 10))⟩,
      ⟨(some 12), (some (6, true)), .q (.len false (.tmp 11))⟩,
      ⟨(some 13), (some (6, true)), .q (.bin .add .num (.tmp 9) (.tmp 12))⟩,
      ⟨(some 14), (some (6, true)), .q (.fad 3 1 (.tmp 1))⟩,
      ⟨(some 15), (some (6, true)), .q (.ld false 1 (.tmp 14))⟩,
      ⟨(some 16), (some (6, true)), .q (.len false (.tmp 15))⟩,
      ⟨(some 17), (some (6, true)), .q (.bin .add .num (.tmp 13) (.tmp 16))⟩,
      ⟨(some 18), (some (6, true)), .q (.fad 4 1 (.tmp 1))⟩,
      ⟨(some 19), (some (6, true)), .q (.ld false 1 (.tmp 18))⟩,
      ⟨(some 20), (some (6, true)), .q (.len false (.tmp 19))⟩,
      ⟨(some 21), (some (6, true)), .q (.bin .add .num (.tmp 17) (.tmp 20))⟩,
      ⟨(some 22), (some (6, true)), .q (.fad 5 1 (.tmp 1))⟩,
      ⟨(some 23), (some (6, true)), .q (.ld false 1 (.tmp 22))⟩,
      ⟨(some 24), (some (6, true)), .q (.len false (.tmp 23))⟩,
      ⟨(some 25), (some (6, true)), .q (.bin .add .num (.tmp 21) (.tmp 24))⟩,
      ⟨(some 26), (some (6, true)), .q (.bin .eql .num (.tmp 25) (.const (.int .i64 0)))⟩,
      ⟨(some 27), none, .q (.pick (.tmp 6) (.tmp 26) (.const (.bool false)))⟩,
      ⟨(some 28), none, .q (.mv (.tmp 27))⟩,
      ⟨(some 29), (some (28, true)), .q (.fad 6 1 (.tmp 1))⟩,
      ⟨(some 30), (some (28, true)), .q (.ld false 1 (.tmp 29))⟩,
      ⟨(some 31), (some (28, true)), .q (.bin .eql .num (.tmp 30) (.const (.int .i64 0)))⟩,
      ⟨(some 32), none, .q (.pick (.tmp 28) (.tmp 31) (.const (.bool false)))⟩,
      ⟨(some 33), none, .q (.mv (.tmp 32))⟩,
      ⟨(some 34), (some (33, true)), .q (.fad 7 1 (.tmp 1))⟩,
      ⟨(some 35), (some (33, true)), .q (.ld false 1 (.tmp 34))⟩,
      ⟨(some 36), (some (33, true)), .q (.bin .eql .num (.tmp 35) (.const (.int .i64 0)))⟩,
      ⟨(some 37), none, .q (.pick (.tmp 33) (.tmp 36) (.const (.bool false)))⟩,
      ⟨(some 38), none, .q (.mv (.tmp 37))⟩,
      ⟨(some 39), (some (38, true)), .q (.fad 8 1 (.tmp 1))⟩,
      ⟨(some 40), (some (38, true)), .q (.ld false 1 (.tmp 39))⟩,
      ⟨(some 41), (some (38, true)), .q (.bin .eql .num (.tmp 40) (.const (.int .i64 0)))⟩,
      ⟨(some 42), none, .q (.pick (.tmp 38) (.tmp 41) (.const (.bool false)))⟩,
      ⟨(some 2), none, .q (.mv (.tmp 42))⟩])
  (.ret)), []⟩
theorem k_empty : compF Tryz.prog 48 = some c_empty := by kernel_rfl
theorem empty9_ok {W : World} : ACalls Tryz.prog W 48 [.agg pol9] AHeap.none fun v _ => v = .v (.bool true) := by
  refine fn_run follows k_empty rfl ?_
  simp only [c_empty, aretC_nil, List.zipIdx_cons, List.zipIdx_nil, List.map_cons, List.map_nil, Nat.zero_add]
  have d0 : decide ((0 : Int) = 0) = true := rfl
  (try simp +decide (implicitDefEqProofs := false) only [go_sem, ↓stk_g, ↓stk_c, ↓reduceIte])
  rw [stk_box]
  refine ⟨by rfl, fun b1 h1 => ?_⟩
  have w0 : IntKind.i64.wrap 0 = 0 := by decide
  have w1 : IntKind.i64.wrap (0 + 0) = 0 := by decide
  (try simp +decide (implicitDefEqProofs := false) only [go_sem, ↓stk_g, ↓stk_c, ↓reduceIte, pol9, d0, w0, w1, Int.add_zero, lay, oneOr, List.take_succ_cons, List.take_zero, List.drop_succ_cons, List.drop_zero, List.nil_append, List.cons_append, Option.getD_some, Nat.reduceAdd, Nat.reduceLeDiff, List.append_nil, and_self, List.all_cons, List.all_nil])
  refine aret_pure (.inr rfl) ?_; simp +decide only [retOf, tget, if_true, if_false, ↓reduceIte, List.map_cons, List.map_nil]
/-- A digest's cells. -/
def digC (ids : AVal) : List AVal := [.v (.int .i64 1), .v (.int .i64 2), .v (.int .i64 1), .v (.int .i64 0), ids, nil, .v (.int .i64 0), nil, nil, nil, nil, nil, .v (.int .i64 0), .v (.int .i64 0), .v (.int .i64 0)]
theorem drop_cons {α : Type} {l : List α} {i : Nat} {d : α} (h : i < l.length) : l.drop i = l.getD i d :: l.drop (i + 1) := by
  rw [List.drop_eq_getElem_cons h]; simp [h]
def c_mRight : AFn := ⟨1, 136, [2],
  .seq (.ops [⟨(some 1), none, .e (.box 41 (.tmp 0))⟩,
      ⟨(some 2), none, .q (.mv (.const (.bool false)))⟩])
  (.seq (.seq (.ops [⟨(some 8), none, .q (.fad 1 1 (.tmp 1))⟩,
      ⟨(some 9), none, .q (.ld false 1 (.tmp 8))⟩,
      ⟨(some 10), none, .q (.fad 2 1 (.tmp 1))⟩,
      ⟨(some 11), none, .q (.ld false 1 (.tmp 10))⟩,
      ⟨(some 12), none, .q (.mm false (.tmp 9) (.tmp 11))⟩,
      ⟨(some 13), none, .q (.bin .lss .num (.tmp 12) (.const (.int .i64 0)))⟩,
      ⟨(some 14), none, .q (.mv (.tmp 13))⟩,
      ⟨(some 15), (some (14, false)), .q (.fad 1 1 (.tmp 1))⟩,
      ⟨(some 16), (some (14, false)), .q (.ld false 1 (.tmp 15))⟩,
      ⟨(some 17), (some (14, false)), .q (.fad 2 1 (.tmp 1))⟩,
      ⟨(some 18), (some (14, false)), .q (.ld false 1 (.tmp 17))⟩,
      ⟨(some 19), (some (14, false)), .q (.mm true (.tmp 16) (.tmp 18))⟩,
      ⟨(some 20), (some (14, false)), .q (.bin .gtr .num (.tmp 19) (.const (.int .i64 5)))⟩,
      ⟨(some 21), none, .q (.pick (.tmp 14) (.const (.bool true)) (.tmp 20))⟩,
      ⟨(some 22), none, .q (.mv (.tmp 21))⟩,
      ⟨(some 23), (some (22, false)), .q (.fad 1 1 (.tmp 1))⟩,
      ⟨(some 24), (some (22, false)), .q (.ld false 1 (.tmp 23))⟩,
      ⟨(some 25), (some (22, false)), .q (.fad 2 1 (.tmp 1))⟩,
      ⟨(some 26), (some (22, false)), .q (.ld false 1 (.tmp 25))⟩,
      ⟨(some 27), (some (22, false)), .q (.bin .eql .num (.tmp 24) (.tmp 26))⟩,
      ⟨(some 28), none, .q (.pick (.tmp 22) (.const (.bool true)) (.tmp 27))⟩,
      ⟨(some 29), none, .q (.mv (.tmp 28))⟩,
      ⟨(some 30), (some (29, false)), .q (.fad 3 1 (.tmp 1))⟩,
      ⟨(some 31), (some (29, false)), .q (.ld false 1 (.tmp 30))⟩,
      ⟨(some 32), (some (29, false)), .q (.bin .lss .num (.tmp 31) (.const (.int .i64 0)))⟩,
      ⟨(some 33), none, .q (.pick (.tmp 29) (.const (.bool true)) (.tmp 32))⟩,
      ⟨(some 34), none, .q (.mv (.tmp 33))⟩,
      ⟨(some 35), (some (34, false)), .q (.fad 3 1 (.tmp 1))⟩,
      ⟨(some 36), (some (34, false)), .q (.ld false 1 (.tmp 35))⟩,
      ⟨(some 37), (some (34, false)), .q (.bin .gtr .num (.tmp 36) (.const (.int .i64 1000000)))⟩,
      ⟨(some 38), none, .q (.pick (.tmp 34) (.const (.bool true)) (.tmp 37))⟩])
  (.cond (.tmp 38)
    (.seq (.ops [⟨(some 2), none, .q (.mv (.const (.bool false)))⟩])
    (.ret))
    (.skip)))
  (.seq (.seq (.ops [⟨(some 39), none, .q (.fad 0 1 (.tmp 1))⟩,
      ⟨(some 40), none, .q (.ld false 1 (.tmp 39))⟩,
      ⟨(some 41), none, .q (.bin .neq .num (.tmp 40) (.const (.int .i64 1)))⟩,
      ⟨(some 42), none, .q (.mv (.tmp 41))⟩,
      ⟨(some 43), (some (42, true)), .q (.fad 4 1 (.tmp 1))⟩,
      ⟨(some 44), (some (42, true)), .q (.ld false 1 (.tmp 43))⟩,
      ⟨(some 45), (some (42, true)), .q (.len false (.tmp 44))⟩,
      ⟨(some 46), (some (42, true)), .q (.bin .gtr .num (.tmp 45) (.const (.int .i64 0)))⟩,
      ⟨(some 47), none, .q (.pick (.tmp 42) (.tmp 46) (.const (.bool false)))⟩,
      ⟨(some 48), none, .q (.mv (.tmp 47))⟩,
      ⟨(some 49), (some (48, false)), .q (.fad 0 1 (.tmp 1))⟩,
      ⟨(some 50), (some (48, false)), .q (.ld false 1 (.tmp 49))⟩,
      ⟨(some 51), (some (48, false)), .q (.bin .neq .num (.tmp 50) (.const (.int .i64 2)))⟩,
      ⟨(some 52), (some (48, false)), .q (.mv (.tmp 51))⟩,
      ⟨(some 53), (some (52, true)), .q (.fad 5 1 (.tmp 1))⟩,
      ⟨(some 54), (some (52, true)), .q (.ld false 1 (.tmp 53))⟩,
      ⟨(some 55), (some (52, true)), .q (.len false (.tmp 54))⟩,
      ⟨(some 56), (some (52, true)), .q (.bin .gtr .num (.tmp 55) (.const (.int .i64 0)))⟩,
      ⟨(some 57), (some (48, false)), .q (.pick (.tmp 52) (.tmp 56) (.const (.bool false)))⟩,
      ⟨(some 58), none, .q (.pick (.tmp 48) (.const (.bool true)) (.tmp 57))⟩,
      ⟨(some 59), none, .q (.mv (.tmp 58))⟩,
      ⟨(some 60), (some (59, false)), .q (.fad 0 1 (.tmp 1))⟩,
      ⟨(some 61), (some (59, false)), .q (.ld false 1 (.tmp 60))⟩,
      ⟨(some 62), (some (59, false)), .q (.bin .neq .num (.tmp 61) (.const (.int .i64 3)))⟩,
      ⟨(some 63), (some (59, false)), .q (.mv (.tmp 62))⟩,
      ⟨(some 64), (some (63, true)), .q (.fad 6 9 (.tmp 1))⟩,
      ⟨(some 65), (some (63, true)), .q (.ld true 9 (.tmp 64))⟩,
      ⟨(some 66), (some (63, true)), .e (.call 48 [(.tmp 65)])⟩,
      ⟨(some 67), (some (63, true)), .q (.un .not (.tmp 66))⟩,
      ⟨(some 68), (some (59, false)), .q (.pick (.tmp 63) (.tmp 67) (.const (.bool false)))⟩,
      ⟨(some 69), none, .q (.pick (.tmp 59) (.const (.bool true)) (.tmp 68))⟩])
  (.cond (.tmp 69)
    (.seq (.ops [⟨(some 2), none, .q (.mv (.const (.bool false)))⟩])
    (.ret))
    (.skip)))
  (.seq (.ops [⟨(some 3), none, .q (.mv (.const (.string ByteArray.empty)))⟩])
  (.seq (.seq (.ops [⟨(some 70), none, .q (.fad 0 1 (.tmp 1))⟩,
      ⟨(some 71), none, .q (.ld false 1 (.tmp 70))⟩])
  (.block 0 (.seq (.ops [⟨(some 73), none, .q (.bin .eql .num (.tmp 71) (.const (.int .i64 1)))⟩,
        ⟨(some 72), none, .q (.mv (.tmp 73))⟩])
    (.cond (.tmp 72)
      (.seq (.seq (.ops [⟨(some 74), none, .q (.fad 4 1 (.tmp 1))⟩,
          ⟨(some 75), none, .q (.ld false 1 (.tmp 74))⟩,
          ⟨(some 76), none, .q (.len false (.tmp 75))⟩,
          ⟨(some 77), none, .q (.mv (.const (.int .i64 0)))⟩])
      (.block 1 (.loop (.seq (.ops [⟨(some 78), none, .q (.bin .lss .num (.tmp 77) (.tmp 76))⟩])
          (.seq (.cond (.tmp 78)
            (.skip)
            (.exit 1))
          (.seq (.block 2 (.seq (.ops [⟨(some 79), none, .q (.ixa 1 (.tmp 75) (.tmp 77))⟩,
                ⟨(some 80), none, .q (.ld false 1 (.tmp 79))⟩,
                ⟨(some 5), none, .q (.mv (.tmp 80))⟩])
            (.seq (.seq (.ops [⟨(some 81), none, .q (.mv (.tmp 3))⟩,
                ⟨(some 82), none, .q (.mv (.tmp 5))⟩,
                ⟨(some 83), none, .e (.call 49 [(.tmp 81), (.tmp 82)])⟩,
                ⟨(some 84), none, .q (.un .not (.tmp 83))⟩])
            (.cond (.tmp 84)
              (.seq (.ops [⟨(some 2), none, .q (.mv (.const (.bool false)))⟩])
              (.ret))
              (.skip)))
            (.ops [⟨(some 85), none, .q (.mv (.tmp 5))⟩,
                ⟨(some 3), none, .q (.mv (.tmp 85))⟩]))))
          (.ops [⟨(some 86), none, .q (.bin .add .num (.tmp 77) (.const (.int .i64 1)))⟩,
              ⟨(some 77), none, .q (.mv (.tmp 86))⟩])))))))
      (.seq (.ops [⟨(some 87), none, .q (.fad 4 1 (.tmp 1))⟩,
          ⟨(some 88), none, .q (.ld false 1 (.tmp 87))⟩,
          ⟨(some 89), none, .q (.len false (.tmp 88))⟩,
          ⟨(some 90), none, .q (.bin .leq .num (.tmp 89) (.const (.int .i64 64)))⟩,
          ⟨(some 2), none, .q (.mv (.tmp 90))⟩])
      (.ret)))
      (.seq (.ops [⟨(some 92), none, .q (.bin .eql .num (.tmp 71) (.const (.int .i64 2)))⟩,
          ⟨(some 91), none, .q (.mv (.tmp 92))⟩])
      (.cond (.tmp 91)
        (.seq (.seq (.ops [⟨(some 93), none, .q (.fad 5 1 (.tmp 1))⟩,
            ⟨(some 94), none, .q (.ld false 1 (.tmp 93))⟩,
            ⟨(some 95), none, .q (.len false (.tmp 94))⟩,
            ⟨(some 96), none, .q (.mv (.const (.int .i64 0)))⟩])
        (.block 3 (.loop (.seq (.ops [⟨(some 97), none, .q (.bin .lss .num (.tmp 96) (.tmp 95))⟩])
            (.seq (.cond (.tmp 97)
              (.skip)
              (.exit 3))
            (.seq (.block 4 (.seq (.ops [⟨(some 98), none, .q (.ixa 2 (.tmp 94) (.tmp 96))⟩,
                  ⟨(some 99), none, .q (.ld true 2 (.tmp 98))⟩,
                  ⟨(some 7), none, .e (.alloc 32 [(.string ByteArray.empty), (.string ByteArray.empty)])⟩,
                  ⟨none, none, .e (.st 2 (.tmp 7) (.tmp 99))⟩])
              (.seq (.seq (.ops [⟨(some 100), none, .q (.mv (.tmp 3))⟩,
                  ⟨(some 101), none, .q (.fad 0 1 (.tmp 7))⟩,
                  ⟨(some 102), none, .q (.ld false 1 (.tmp 101))⟩,
                  ⟨(some 103), none, .e (.call 49 [(.tmp 100), (.tmp 102)])⟩,
                  ⟨(some 104), none, .q (.un .not (.tmp 103))⟩,
                  ⟨(some 105), none, .q (.mv (.tmp 104))⟩,
                  ⟨(some 106), (some (105, false)), .q (.fad 1 1 (.tmp 7))⟩,
                  ⟨(some 107), (some (105, false)), .q (.ld false 1 (.tmp 106))⟩,
                  ⟨(some 108), (some (105, false)), .q (.len true (.tmp 107))⟩,
                  ⟨(some 109), (some (105, false)), .q (.bin .gtr .num (.tmp 108) (.const (.int .i64 2000)))⟩,
                  ⟨(some 110), none, .q (.pick (.tmp 105) (.const (.bool true)) (.tmp 109))⟩])
              (.cond (.tmp 110)
                (.seq (.ops [⟨(some 2), none, .q (.mv (.const (.bool false)))⟩])
                (.ret))
                (.skip)))
              (.ops [⟨(some 111), none, .q (.fad 0 1 (.tmp 7))⟩,
                  ⟨(some 112), none, .q (.ld false 1 (.tmp 111))⟩,
                  ⟨(some 3), none, .q (.mv (.tmp 112))⟩]))))
            (.ops [⟨(some 113), none, .q (.bin .add .num (.tmp 96) (.const (.int .i64 1)))⟩,
                ⟨(some 96), none, .q (.mv (.tmp 113))⟩])))))))
        (.seq (.ops [⟨(some 114), none, .q (.fad 5 1 (.tmp 1))⟩,
            ⟨(some 115), none, .q (.ld false 1 (.tmp 114))⟩,
            ⟨(some 116), none, .q (.len false (.tmp 115))⟩,
            ⟨(some 117), none, .q (.bin .leq .num (.tmp 116) (.const (.int .i64 64)))⟩,
            ⟨(some 118), none, .q (.mv (.tmp 117))⟩,
            ⟨(some 119), (some (118, true)), .q (.fad 3 1 (.tmp 1))⟩,
            ⟨(some 120), (some (118, true)), .q (.ld false 1 (.tmp 119))⟩,
            ⟨(some 121), (some (118, true)), .q (.bin .eql .num (.tmp 120) (.const (.int .i64 0)))⟩,
            ⟨(some 122), none, .q (.pick (.tmp 118) (.tmp 121) (.const (.bool false)))⟩,
            ⟨(some 2), none, .q (.mv (.tmp 122))⟩])
        (.ret)))
        (.seq (.ops [⟨(some 124), none, .q (.bin .eql .num (.tmp 71) (.const (.int .i64 3)))⟩,
            ⟨(some 123), none, .q (.mv (.tmp 124))⟩])
        (.cond (.tmp 123)
          (.seq (.ops [⟨(some 125), none, .q (.fad 6 9 (.tmp 1))⟩,
              ⟨(some 126), none, .q (.ld true 9 (.tmp 125))⟩,
              ⟨(some 127), none, .e (.call 50 [(.tmp 126)])⟩,
              ⟨(some 128), none, .q (.mv (.tmp 127))⟩,
              ⟨(some 129), (some (128, true)), .q (.fad 3 1 (.tmp 1))⟩,
              ⟨(some 130), (some (128, true)), .q (.ld false 1 (.tmp 129))⟩,
              ⟨(some 131), (some (128, true)), .q (.bin .eql .num (.tmp 130) (.const (.int .i64 0)))⟩,
              ⟨(some 132), none, .q (.pick (.tmp 128) (.tmp 131) (.const (.bool false)))⟩,
              ⟨(some 2), none, .q (.mv (.tmp 132))⟩])
          (.ret))
          (.skip)))))))))
  (.seq (.ops [⟨(some 133), none, .q (.fad 0 1 (.tmp 1))⟩,
      ⟨(some 134), none, .q (.ld false 1 (.tmp 133))⟩,
      ⟨(some 135), none, .q (.bin .eql .num (.tmp 134) (.const (.int .i64 4)))⟩,
      ⟨(some 2), none, .q (.mv (.tmp 135))⟩])
  (.ret)))))), []⟩
theorem k_mRight : compF Tryz.prog 19 = some c_mRight := by kernel_rfl
set_option maxHeartbeats 4000000 in
theorem mrightD_ok {W : World} (l : List Str) (hl : l.length ≤ 64) (hr : riseIds ByteArray.empty l = true) : ACalls Tryz.prog W 19 [.agg (digC (.sl false 1 (strRows l)))] AHeap.none fun v _ => v = .v (.bool true) := by
  refine fn_run follows k_mRight rfl ?_
  simp only [c_mRight, aretC_nil, List.zipIdx_cons, List.zipIdx_nil, List.map_cons, List.map_nil, Nat.zero_add]
  have d1 : decide (min (2 : Int) 1 < 0) = false := by decide
  have d2 : decide ((5 : Int) < max 2 1) = false := by decide
  have d3 : decide ((2 : Int) = 1) = false := by decide
  have d4 : decide ((0 : Int) < 0) = false := by decide
  have d5 : decide ((1000000 : Int) < 0) = false := by decide
  have d6 : decide ((1 : Int) = 1) = true := by decide
  have d7 : decide (¬ (1 : Int) = 1) = false := by decide
  have d8 : decide (¬ (1 : Int) = 2) = true := by decide
  have d9 : decide (¬ (1 : Int) = 3) = true := by decide
  (try simp +decide (implicitDefEqProofs := false) only [go_sem, ↓stk_g, ↓stk_c, ↓reduceIte])
  rw [stk_box]
  refine ⟨by rfl, fun b1 h1 => ?_⟩
  (try simp +decide (implicitDefEqProofs := false) only [go_sem, ↓stk_g, ↓stk_c, ↓reduceIte, digC, d1, d2, d3, d4, d5, d6, d7, d8, d9, ne_eq, not_true_eq_false, lay, oneOr, List.take_succ_cons, List.take_zero, List.drop_succ_cons, List.drop_zero, List.nil_append, List.cons_append, Option.getD_some, Nat.reduceAdd, Nat.reduceLeDiff, List.append_nil, and_self, List.all_cons, List.all_nil])
  refine stk_pureW ⟨[(65, .agg pol9), (63, .v (.bool true)), (59, .v (.bool false)), (1, .pl (digC (.sl false 1 (strRows l))))], AHeap.none⟩ (Weak.list _ (Sub.none _) ?_) empty9_ok fun v hv => ?_
  · (try simp +decide (implicitDefEqProofs := false) only [go_sem, ↓stk_g, ↓stk_c, ↓reduceIte, pol9, FZ_rfl])
    exact FZ.cells (hp_self _ _ _) rfl rfl (fun j _ _ => .refl _)
  subst hv
  (try simp +decide (implicitDefEqProofs := false) only [go_sem, ↓stk_g, ↓stk_c, ↓reduceIte, digC, d6, lay, oneOr, List.take_succ_cons, List.take_zero, List.drop_succ_cons, List.drop_zero, List.nil_append, List.cons_append, Option.getD_some, Nat.reduceAdd, Nat.reduceLeDiff, List.append_nil, and_self, List.all_cons, List.all_nil])
  refine stk_up (α := Str) l.length (fun i a => ⟨[(77, .v (.int .i64 i)), (76, .v (.int .i64 l.length)), (75, .sl false 1 (strRows l)), (3, .v (.string a)), (1, .pl (digC (.sl false 1 (strRows l))))], AHeap.none⟩) (fun i a => riseIds a (l.drop i) = true) ByteArray.empty (Weak.list _ (Sub.refl _) (by (try simp +decide (implicitDefEqProofs := false) only [go_sem, ↓stk_g, ↓stk_c, ↓reduceIte, digC, FZ_rfl]))) (by rw [List.drop_zero]; exact hr) ?_
  rintro i a hi hJ
  by_cases hlt : i < l.length
  · have g1 : (i : Int) < (l.length : Int) := by omega
    have hw := wrap_in (n := (i : Int) + 1) (by omega) (by omega)
    have hg := strRows_get hlt
    rw [drop_cons (d := ByteArray.empty) hlt, riseIds, Bool.and_eq_true] at hJ
    obtain ⟨hs, hJ⟩ := hJ
    (try simp +decide (implicitDefEqProofs := false) only [go_sem, ↓stk_g, ↓stk_c, ↓reduceIte, g1, hlt, hg])
    refine stk_pure (mrises_ok a (l.getD i ByteArray.empty)) fun v hv => ?_
    subst hv
    (try simp +decide (implicitDefEqProofs := false) only [go_sem, ↓stk_g, ↓stk_c, ↓reduceIte, hw, hs])
    first | exact ⟨by omega, _, Weak.list _ (Sub.refl _) (by (try simp +decide (implicitDefEqProofs := false) only [go_sem, ↓stk_g, ↓stk_c, ↓reduceIte])), hJ⟩ | exact ⟨_, Weak.list _ (Sub.refl _) (by (try simp +decide (implicitDefEqProofs := false) only [go_sem, ↓stk_g, ↓stk_c, ↓reduceIte])), hJ⟩
  · have g1 : ¬ (i : Int) < (l.length : Int) := by omega
    have g2 : (l.length : Int) ≤ 64 := by omega
    (try simp +decide (implicitDefEqProofs := false) only [go_sem, ↓stk_g, ↓stk_c, ↓reduceIte, g1, g2, digC, lay, oneOr, List.take_succ_cons, List.take_zero, List.drop_succ_cons, List.drop_zero, List.nil_append, List.cons_append, Option.getD_some, Nat.reduceAdd, Nat.reduceLeDiff, List.append_nil, and_self, List.all_cons, List.all_nil])
    refine aret_pure (.inr rfl) ?_; simp +decide only [retOf, tget, if_true, if_false, ↓reduceIte, List.map_cons, List.map_nil]
abbrev tNode : Nat := 84
def nodeCells (me : Int) (s does : Nat) : List AVal := [.v (.int .i64 me), ptr s, .v (.map (some does))]
def doesL : List (Value × Nat × AVal) := [(.int .i64 1, 0, .fn 41 []), (.int .i64 2, 1, .fn 42 []), (.int .i64 3, 2, .fn 43 [])]
/-- A node that follows no policy. -/
structure Nod (H : AHeap) (g : Nat) (me : Int) (s l d ps st does used : Nat) (pl : List (Str × Nat × AVal)) : Prop where
  here : H g = some (.cells tNode (nodeCells me s does))
  fns : H does = some (.mp doesL 3)
  sto : Sto H s l d ps st used pl
  ne1 : does ≠ ps
  ne2 : does ≠ st
theorem Nod.all {H H' : AHeap} {g : Nat} {me : Int} {s l d ps st does used : Nat} {pl : List (Str × Nat × AVal)} (h : Nod H g me s l d ps st does used pl) (hk : All H H') : Nod H' g me s l d ps st does used pl :=
  ⟨hk _ _ h.here, hk _ _ h.fns, h.sto.kept hk, h.ne1, h.ne2⟩
theorem Nod.next {H H' : AHeap} {g : Nat} {me : Int} {s l d ps st does used used' : Nat} {pl pl' : List (Str × Nat × AVal)} (h : Nod H g me s l d ps st does used pl) (hk : KeptS d ps st H H') (hs : Sto H' s l d ps st used' pl') : Nod H' g me s l d ps st does used' pl' := by
  obtain ⟨X, rows, n, hd, _⟩ := h.sto.dev
  obtain ⟨pc, hp, _⟩ := h.sto.posts
  obtain ⟨sl, sc, hst⟩ := h.sto.stale
  have hh := h.here
  have hdo := h.fns
  refine ⟨hk _ _ hh (fun e => ?_) (fun e => ?_) (fun e => ?_) (fun _ e => by cases e), hk _ _ hdo (fun e => ?_) h.ne1 h.ne2 (fun _ e => by cases e), hs, h.ne1, h.ne2⟩
  · rw [e, hd.here] at hh; exact absurd hh (by unfold devCells nodeCells; simp)
  · rw [e, hp] at hh; cases hh
  · rw [e, hst] at hh; cases hh
  · rw [e, hd.here] at hdo; cases hdo
def c_nIngest : AFn := ⟨3, 14, [6],
  .seq (.ops [⟨(some 6), none, .q (.mv (.const (.int .i64 0)))⟩])
  (.seq (.ops [⟨(some 7), none, .q (.mv (.tmp 0))⟩,
      ⟨(some 8), none, .q (.nck (.tmp 7))⟩,
      ⟨(some 9), none, .q (.fad 1 1 (.tmp 8))⟩,
      ⟨(some 10), none, .q (.ld false 1 (.tmp 9))⟩,
      ⟨(some 11), none, .q (.mv (.tmp 1))⟩,
      ⟨(some 12), none, .q (.mv (.tmp 2))⟩,
      ⟨(some 13), none, .e (.call 44 [(.tmp 10), (.tmp 11), (.tmp 12)])⟩,
      ⟨(some 6), none, .q (.mv (.tmp 13))⟩])
  (.ret)), []⟩
theorem k_nIngest : compF Tryz.prog 12 = some c_nIngest := by kernel_rfl
theorem nIngest_ok {W : World} {H : AHeap} {g : Nat} {me : Int} {s l d ps st does used : Nat} {pl : List (Str × Nat × AVal)} (h : Nod H g me s l d ps st does used pl) (id raw : Str) (hid : id.size ≤ maxLen) :
    ACalls Tryz.prog W 12 [ptr g, .v (.string id), .v (.string raw)] H fun v H' => ∃ e pl', v = .v (.int .i64 e) ∧ Nod H' g me s l d ps st does 60000 pl' ∧ pl'.length ≤ pl.length + 1 ∧
      (mayE id raw pl = 0 → used + (5 + id.size + raw.size) ≤ 60000 → e = 0 ∧ ∃ c, pl' = pl ++ [(id, c, keptV id raw)]) := by
  have hg := h.here
  unfold nodeCells at hg
  refine fn_run follows k_nIngest rfl ?_
  simp only [c_nIngest, aretC_nil, List.zipIdx_cons, List.zipIdx_nil, List.map_cons, List.map_nil, Nat.zero_add]
  (try simp +decide (implicitDefEqProofs := false) only [go_sem, ↓stk_g, ↓stk_c, ↓reduceIte, hg, lay, oneOr, List.take_succ_cons, List.take_zero, List.drop_succ_cons, List.drop_zero, List.nil_append, List.cons_append, Option.getD_some, Nat.reduceAdd, Nat.reduceLeDiff, List.append_nil, and_self, List.all_cons, List.all_nil])
  refine stk_call (stoPost_ok h.sto id raw hid) fun v H1 hv => ?_
  obtain ⟨e, pl', rfl, hs, hk, hl, he⟩ := hv
  (try simp +decide (implicitDefEqProofs := false) only [go_sem, ↓stk_g, ↓stk_c, ↓reduceIte, lay, oneOr, List.take_succ_cons, List.take_zero, List.drop_succ_cons, List.drop_zero, List.nil_append, List.cons_append, Option.getD_some, Nat.reduceAdd, Nat.reduceLeDiff, List.append_nil, and_self, List.all_cons, List.all_nil])
  exact ⟨.inr rfl, _, _, Sub.refl _, .refl _, e, pl', rfl, h.next hk hs, hl, he⟩
def c_nIDs : AFn := ⟨1, 8, [2],
  .seq (.ops [⟨(some 2), none, .q (.mv (.const (.slice none 0 0)))⟩])
  (.seq (.ops [⟨(some 3), none, .q (.mv (.tmp 0))⟩,
      ⟨(some 4), none, .q (.nck (.tmp 3))⟩,
      ⟨(some 5), none, .q (.fad 1 1 (.tmp 4))⟩,
      ⟨(some 6), none, .q (.ld false 1 (.tmp 5))⟩,
      ⟨(some 7), none, .e (.call 45 [(.tmp 6)])⟩,
      ⟨(some 2), none, .q (.mv (.tmp 7))⟩])
  (.ret)), []⟩
theorem k_nIDs : compF Tryz.prog 13 = some c_nIDs := by kernel_rfl
theorem nIDs_ok {W : World} {H : AHeap} {g : Nat} {me : Int} {s l0 d ps st does used : Nat} {l : List (Str × Nat × AVal)} (h : Nod H g me s l0 d ps st does used l) : ACalls Tryz.prog W 13 [ptr g] H fun v H' => RowO H' 9 1 v (strRows (sortS (l.map (·.1)))) ∧ All H H' ∧ ∀ b, blkOf v = some b → H b = none := by
  have hg := h.here
  unfold nodeCells at hg
  refine fn_run follows k_nIDs rfl ?_
  simp only [c_nIDs, aretC_nil, List.zipIdx_cons, List.zipIdx_nil, List.map_cons, List.map_nil, Nat.zero_add]
  (try simp +decide (implicitDefEqProofs := false) only [go_sem, ↓stk_g, ↓stk_c, ↓reduceIte, hg, lay, oneOr, List.take_succ_cons, List.take_zero, List.drop_succ_cons, List.drop_zero, List.nil_append, List.cons_append, Option.getD_some, Nat.reduceAdd, Nat.reduceLeDiff, List.append_nil, and_self, List.all_cons, List.all_nil])
  refine stk_call (stIDs_ok h.sto) fun v H1 hv => ?_
  (try simp +decide (implicitDefEqProofs := false) only [go_sem, ↓stk_g, ↓stk_c, ↓reduceIte, lay, oneOr, List.take_succ_cons, List.take_zero, List.drop_succ_cons, List.drop_zero, List.nil_append, List.cons_append, Option.getD_some, Nat.reduceAdd, Nat.reduceLeDiff, List.append_nil, and_self, List.all_cons, List.all_nil])
  exact ⟨.inr rfl, _, _, Sub.refl _, .refl _, hv⟩
def c_nOpen : AFn := ⟨2, 30, [4, 5],
  .seq (.ops [⟨(some 4), none, .q (.mv (.const (.pointer none)))⟩,
      ⟨(some 5), none, .q (.mv (.const (.int .i64 0)))⟩])
  (.seq (.seq (.ops [⟨(some 9), none, .q (.mv (.tmp 0))⟩,
      ⟨(some 10), none, .q (.bin .lss .num (.tmp 9) (.const (.int .i64 1)))⟩,
      ⟨(some 11), none, .q (.mv (.tmp 10))⟩,
      ⟨(some 12), (some (11, false)), .q (.mv (.tmp 0))⟩,
      ⟨(some 13), (some (11, false)), .q (.bin .gtr .num (.tmp 12) (.const (.int .i64 5)))⟩,
      ⟨(some 14), none, .q (.pick (.tmp 11) (.const (.bool true)) (.tmp 13))⟩])
  (.cond (.tmp 14)
    (.seq (.ops [⟨(some 4), none, .q (.mv (.const (.pointer none)))⟩,
        ⟨(some 5), none, .q (.mv (.const (.int .i64 1)))⟩])
    (.ret))
    (.skip)))
  (.seq (.ops [⟨(some 16), none, .q (.mv (.tmp 1))⟩,
      ⟨(some 17), none, .e (.call 40 [(.tmp 16)])⟩,
      ⟨(some 15), none, .q (.mv (.tmp 17))⟩,
      ⟨(some 18), none, .q (.ext (.tmp 15) 0)⟩,
      ⟨(some 19), none, .q (.ext (.tmp 15) 1)⟩,
      ⟨(some 6), none, .q (.mv (.tmp 18))⟩,
      ⟨(some 7), none, .q (.mv (.tmp 19))⟩])
  (.seq (.seq (.ops [⟨(some 20), none, .q (.mv (.tmp 7))⟩,
      ⟨(some 21), none, .q (.bin .neq .num (.tmp 20) (.const (.int .i64 0)))⟩])
  (.cond (.tmp 21)
    (.seq (.ops [⟨(some 22), none, .q (.mv (.tmp 7))⟩,
        ⟨(some 4), none, .q (.mv (.const (.pointer none)))⟩,
        ⟨(some 5), none, .q (.mv (.tmp 22))⟩])
    (.ret))
    (.skip)))
  (.seq (.ops [⟨(some 23), none, .e (.mk)⟩,
      ⟨none, none, .e (.up (some .i64) (.tmp 23) (.const (.int .i64 1)) (.func 41))⟩,
      ⟨none, none, .e (.up (some .i64) (.tmp 23) (.const (.int .i64 2)) (.func 42))⟩,
      ⟨none, none, .e (.up (some .i64) (.tmp 23) (.const (.int .i64 3)) (.func 43))⟩,
      ⟨(some 24), none, .q (.mv (.tmp 23))⟩,
      ⟨(some 8), none, .q (.mv (.tmp 24))⟩])
  (.seq (.ops [⟨(some 25), none, .q (.mv (.tmp 0))⟩,
      ⟨(some 26), none, .q (.mv (.tmp 6))⟩,
      ⟨(some 27), none, .q (.mv (.tmp 8))⟩,
      ⟨(some 28), none, .q (.bld [(.int .i64 0), (.pointer none), (.map none)] [(0, 1, (.tmp 25)), (1, 1, (.tmp 26)), (2, 1, (.tmp 27))])⟩,
      ⟨(some 29), none, .e (.box 84 (.tmp 28))⟩,
      ⟨(some 4), none, .q (.mv (.tmp 29))⟩,
      ⟨(some 5), none, .q (.mv (.const (.int .i64 0)))⟩])
  (.ret)))))), []⟩
theorem k_nOpen : compF Tryz.prog 10 = some c_nOpen := by kernel_rfl
set_option maxHeartbeats 1000000 in
theorem nOpen_ok {W : World} {H : AHeap} {d : Nat} {n : Int} (h : DevH H d (.v (.slice none 0 0)) [] n) : ACalls Tryz.prog W 10 [.v (.int .i64 1), ptr d] H fun v H' => ∃ g s l ps st does, v = .tup [ptr g, .v (.int .i64 0)] ∧ Nod H' g 1 s l d ps st does 0 [] := by
  refine fn_run follows k_nOpen rfl ?_
  simp only [c_nOpen, aretC_nil, List.zipIdx_cons, List.zipIdx_nil, List.map_cons, List.map_nil, Nat.zero_add]
  have d1 : decide ((1 : Int) < 1) = false := by decide
  have d2 : decide ((5 : Int) < 1) = false := by decide
  (try simp +decide (implicitDefEqProofs := false) only [go_sem, ↓stk_g, ↓stk_c, ↓reduceIte, d1, d2, lay, oneOr, List.take_succ_cons, List.take_zero, List.drop_succ_cons, List.drop_zero, List.nil_append, List.cons_append, Option.getD_some, Nat.reduceAdd, Nat.reduceLeDiff, List.append_nil, and_self, List.all_cons, List.all_nil])
  refine stk_call (stOpen_ok h) fun v H1 hv => ?_
  obtain ⟨s, l, ps, st, rfl, hs, hall⟩ := hv
  (try simp +decide (implicitDefEqProofs := false) only [go_sem, ↓stk_g, ↓stk_c, ↓reduceIte, ne_eq, not_true_eq_false, lay, oneOr, List.take_succ_cons, List.take_zero, List.drop_succ_cons, List.drop_zero, List.nil_append, List.cons_append, Option.getD_some, Nat.reduceAdd, Nat.reduceLeDiff, List.append_nil, and_self, List.all_cons, List.all_nil])
  intro does hdo
  have hdo : H1 does = none := hdo
  (try simp +decide (implicitDefEqProofs := false) only [go_sem, ↓stk_g, ↓stk_c, ↓reduceIte, lay, oneOr, List.take_succ_cons, List.take_zero, List.drop_succ_cons, List.drop_zero, List.nil_append, List.cons_append, Option.getD_some, Nat.reduceAdd, Nat.reduceLeDiff, List.append_nil, and_self, List.all_cons, List.all_nil])
  refine stk_up' (b := does) (c := 0) (l := []) rfl (put_self _ _ _) rfl rfl ?_
  (try simp +decide (implicitDefEqProofs := false) only [go_sem, ↓stk_g, ↓stk_c, ↓reduceIte, hp_hp, lay, oneOr, List.take_succ_cons, List.take_zero, List.drop_succ_cons, List.drop_zero, List.nil_append, List.cons_append, Option.getD_some, Nat.reduceAdd, Nat.reduceLeDiff, List.append_nil, and_self, List.all_cons, List.all_nil])
  refine stk_up' (b := does) (c := 1) (l := [(.int .i64 1, 0, .fn 41 [])]) rfl (put_self _ _ _) rfl rfl ?_
  (try simp +decide (implicitDefEqProofs := false) only [go_sem, ↓stk_g, ↓stk_c, ↓reduceIte, hp_hp, lay, oneOr, List.take_succ_cons, List.take_zero, List.drop_succ_cons, List.drop_zero, List.nil_append, List.cons_append, Option.getD_some, Nat.reduceAdd, Nat.reduceLeDiff, List.append_nil, and_self, List.all_cons, List.all_nil])
  refine stk_up' (b := does) (c := 2) (l := [(.int .i64 1, 0, .fn 41 []), (.int .i64 2, 1, .fn 42 [])]) rfl (put_self _ _ _) rfl rfl ?_
  (try simp +decide (implicitDefEqProofs := false) only [go_sem, ↓stk_g, ↓stk_c, ↓reduceIte, hp_hp, lay, oneOr, List.take_succ_cons, List.take_zero, List.drop_succ_cons, List.drop_zero, List.nil_append, List.cons_append, Option.getD_some, Nat.reduceAdd, Nat.reduceLeDiff, List.append_nil, and_self, List.all_cons, List.all_nil])
  rw [stk_box]
  refine ⟨by rfl, fun g hg => ?_⟩
  obtain ⟨hgd, hg1⟩ := put_none (show (H1.put does _) g = none from hg)
  have hall2 : All H1 ((H1.put does (.mp doesL 3)).put g (.cells tNode (nodeCells 1 s does))) := fun c o hc => by
    have c1 : c ≠ does := fun e => by rw [e, hdo] at hc; cases hc
    have c2 : c ≠ g := fun e => by rw [e, hg1] at hc; cases hc
    rw [put_ne _ _ c2, put_ne _ _ c1]; exact hc
  obtain ⟨pc, hp, _⟩ := hs.posts
  obtain ⟨sl, sc, hst⟩ := hs.stale
  have hnod : Nod ((H1.put does (.mp doesL 3)).put g (.cells tNode (nodeCells 1 s does))) g 1 s l d ps st does 0 [] :=
    ⟨put_self _ _ _, by rw [put_ne _ _ (Ne.symm hgd), put_self], hs.kept hall2, (fun e => by rw [e, hp] at hdo; cases hdo), (fun e => by rw [e, hst] at hdo; cases hdo)⟩
  show stk _ _ _ _ _ (AState.put ⟨_, (H1.put does (.mp doesL 3)).put g (.cells tNode (nodeCells 1 s does))⟩ _ _)
  generalize (H1.put does (.mp doesL 3)).put g (.cells tNode (nodeCells 1 s does)) = H2 at hnod ⊢
  (try simp +decide (implicitDefEqProofs := false) only [go_sem, ↓stk_g, ↓stk_c, ↓reduceIte, lay, oneOr, List.take_succ_cons, List.take_zero, List.drop_succ_cons, List.drop_zero, List.nil_append, List.cons_append, Option.getD_some, Nat.reduceAdd, Nat.reduceLeDiff, List.append_nil, and_self, List.all_cons, List.all_nil])
  exact ⟨.inr rfl, _, _, Sub.refl _, .refl _, g, s, l, ps, st, does, rfl, hnod⟩
end Go.Proofs.YtcbagpippmbmfaaGreatDoor.M
