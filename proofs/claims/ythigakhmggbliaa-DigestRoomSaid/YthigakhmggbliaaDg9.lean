/-
  Layer 16: the laws' walks: what is short is a beginning, and the next one would be too much.
-/
import Derived.Test.YthigakhmggbliaaDg8
namespace Go.Proofs.Ythigakhmggbliaa.M
open Go.RowKit
set_option linter.unusedVariables false
set_option linter.unusedSimpArgs false
theorem getD_take {l : List Str} {i k : Nat} (h : i < k) : (l.take k).getD i ByteArray.empty = l.getD i ByteArray.empty := by
  simp [List.getElem?_take, h]
def c_law_Room : AFn := ⟨3, 92, [6],
  .seq (.ops [⟨(some 6), none, .q (.mv (.const (.bool false)))⟩])
  (.seq (.ops [⟨(some 14), none, .e (.call 9 [])⟩,
      ⟨(some 7), none, .q (.mv (.tmp 14))⟩])
  (.seq (.ops [⟨(some 15), none, .q (.mv (.tmp 0))⟩,
      ⟨(some 16), none, .e (.call 10 [(.tmp 15)])⟩,
      ⟨(some 8), none, .q (.mv (.tmp 16))⟩])
  (.seq (.seq (.ops [⟨(some 17), none, .q (.mv (.tmp 8))⟩,
      ⟨(some 18), none, .q (.un .not (.tmp 17))⟩,
      ⟨(some 19), none, .q (.mv (.tmp 18))⟩,
      ⟨(some 20), (some (19, false)), .q (.mv (.tmp 1))⟩,
      ⟨(some 21), (some (19, false)), .e (.call 16 [(.tmp 20)])⟩,
      ⟨(some 22), (some (19, false)), .q (.un .not (.tmp 21))⟩,
      ⟨(some 23), none, .q (.pick (.tmp 19) (.const (.bool true)) (.tmp 22))⟩])
  (.cond (.tmp 23)
    (.seq (.ops [⟨(some 24), none, .q (.mv (.tmp 7))⟩,
        ⟨(some 6), none, .q (.mv (.tmp 24))⟩])
    (.ret))
    (.skip)))
  (.seq (.ops [⟨(some 25), none, .q (.mv (.tmp 0))⟩,
      ⟨(some 26), none, .q (.mv (.tmp 1))⟩,
      ⟨(some 27), none, .q (.mv (.tmp 2))⟩,
      ⟨(some 28), none, .e (.call 17 [(.tmp 25), (.tmp 26), (.tmp 27)])⟩,
      ⟨(some 9), none, .q (.mv (.tmp 28))⟩])
  (.seq (.seq (.ops [⟨(some 29), none, .q (.mv (.tmp 9))⟩,
      ⟨(some 30), none, .q (.len false (.tmp 29))⟩,
      ⟨(some 31), none, .q (.mv (.tmp 0))⟩,
      ⟨(some 32), none, .q (.len false (.tmp 31))⟩,
      ⟨(some 33), none, .q (.bin .gtr .num (.tmp 30) (.tmp 32))⟩,
      ⟨(some 34), none, .q (.mv (.tmp 33))⟩,
      ⟨(some 35), (some (34, false)), .q (.mv (.tmp 0))⟩,
      ⟨(some 36), (some (34, false)), .q (.len false (.tmp 35))⟩,
      ⟨(some 37), (some (34, false)), .q (.bin .gtr .num (.tmp 36) (.const (.int .i64 0)))⟩,
      ⟨(some 38), (some (34, false)), .q (.mv (.tmp 37))⟩,
      ⟨(some 39), (some (38, true)), .q (.mv (.tmp 9))⟩,
      ⟨(some 40), (some (38, true)), .q (.len false (.tmp 39))⟩,
      ⟨(some 41), (some (38, true)), .q (.bin .eql .num (.tmp 40) (.const (.int .i64 0)))⟩,
      ⟨(some 42), (some (34, false)), .q (.pick (.tmp 38) (.tmp 41) (.const (.bool false)))⟩,
      ⟨(some 43), none, .q (.pick (.tmp 34) (.const (.bool true)) (.tmp 42))⟩])
  (.cond (.tmp 43)
    (.seq (.ops [⟨(some 6), none, .q (.mv (.const (.bool false)))⟩])
    (.ret))
    (.skip)))
  (.seq (.ops [⟨(some 10), none, .q (.mv (.const (.int .i64 0)))⟩])
  (.seq (.seq (.ops [⟨(some 11), none, .q (.mv (.const (.int .i64 0)))⟩])
  (.block 0 (.loop (.seq (.seq (.ops [⟨(some 44), none, .q (.mv (.tmp 11))⟩,
          ⟨(some 45), none, .q (.mv (.tmp 9))⟩,
          ⟨(some 46), none, .q (.len false (.tmp 45))⟩,
          ⟨(some 47), none, .q (.bin .lss .num (.tmp 44) (.tmp 46))⟩])
      (.cond (.tmp 47)
        (.skip)
        (.exit 0)))
      (.seq (.block 1 (.seq (.seq (.ops [⟨(some 50), none, .q (.mv (.tmp 9))⟩,
            ⟨(some 51), none, .q (.mv (.tmp 11))⟩,
            ⟨(some 52), none, .q (.ixa 1 (.tmp 50) (.tmp 51))⟩,
            ⟨(some 53), none, .q (.ld false 1 (.tmp 52))⟩,
            ⟨(some 54), none, .q (.mv (.tmp 0))⟩,
            ⟨(some 55), none, .q (.mv (.tmp 11))⟩,
            ⟨(some 56), none, .q (.ixa 1 (.tmp 54) (.tmp 55))⟩,
            ⟨(some 57), none, .q (.ld false 1 (.tmp 56))⟩,
            ⟨(some 58), none, .q (.bin .neq .num (.tmp 53) (.tmp 57))⟩])
        (.cond (.tmp 58)
          (.seq (.ops [⟨(some 6), none, .q (.mv (.const (.bool false)))⟩])
          (.ret))
          (.skip)))
        (.seq (.ops [⟨(some 59), none, .q (.mv (.tmp 1))⟩,
            ⟨(some 60), none, .q (.mv (.tmp 11))⟩,
            ⟨(some 61), none, .e (.call 20 [(.tmp 59), (.tmp 60)])⟩,
            ⟨(some 12), none, .q (.mv (.tmp 61))⟩])
        (.ops [⟨(some 62), none, .q (.mv (.tmp 10))⟩,
            ⟨(some 63), none, .q (.mv (.tmp 12))⟩,
            ⟨(some 64), none, .q (.bin .add .num (.tmp 62) (.tmp 63))⟩,
            ⟨(some 10), none, .q (.mv (.tmp 64))⟩]))))
      (.ops [⟨(some 48), none, .q (.mv (.tmp 11))⟩,
          ⟨(some 49), none, .q (.bin .add .num (.tmp 48) (.const (.int .i64 1)))⟩,
          ⟨(some 11), none, .q (.mv (.tmp 49))⟩]))))))
  (.seq (.seq (.ops [⟨(some 65), none, .q (.mv (.tmp 9))⟩,
      ⟨(some 66), none, .q (.len false (.tmp 65))⟩,
      ⟨(some 67), none, .q (.bin .gtr .num (.tmp 66) (.const (.int .i64 1)))⟩,
      ⟨(some 68), none, .q (.mv (.tmp 67))⟩,
      ⟨(some 69), (some (68, true)), .q (.mv (.tmp 10))⟩,
      ⟨(some 70), (some (68, true)), .q (.mv (.tmp 2))⟩,
      ⟨(some 71), (some (68, true)), .q (.bin .gtr .num (.tmp 69) (.tmp 70))⟩,
      ⟨(some 72), none, .q (.pick (.tmp 68) (.tmp 71) (.const (.bool false)))⟩])
  (.cond (.tmp 72)
    (.seq (.ops [⟨(some 6), none, .q (.mv (.const (.bool false)))⟩])
    (.ret))
    (.skip)))
  (.seq (.ops [⟨(some 73), none, .q (.mv (.tmp 1))⟩,
      ⟨(some 74), none, .q (.mv (.tmp 9))⟩,
      ⟨(some 75), none, .q (.len false (.tmp 74))⟩,
      ⟨(some 76), none, .e (.call 20 [(.tmp 73), (.tmp 75)])⟩,
      ⟨(some 13), none, .q (.mv (.tmp 76))⟩])
  (.seq (.ops [⟨(some 77), none, .q (.mv (.tmp 7))⟩,
      ⟨(some 78), none, .q (.mv (.tmp 77))⟩,
      ⟨(some 79), (some (78, true)), .q (.mv (.tmp 9))⟩,
      ⟨(some 80), (some (78, true)), .q (.len false (.tmp 79))⟩,
      ⟨(some 81), (some (78, true)), .q (.mv (.tmp 0))⟩,
      ⟨(some 82), (some (78, true)), .q (.len false (.tmp 81))⟩,
      ⟨(some 83), (some (78, true)), .q (.bin .eql .num (.tmp 80) (.tmp 82))⟩,
      ⟨(some 84), (some (78, true)), .q (.mv (.tmp 83))⟩,
      ⟨(some 85), (some (84, false)), .q (.mv (.tmp 10))⟩,
      ⟨(some 86), (some (84, false)), .q (.mv (.tmp 13))⟩,
      ⟨(some 87), (some (84, false)), .q (.bin .add .num (.tmp 85) (.tmp 86))⟩,
      ⟨(some 88), (some (84, false)), .q (.mv (.tmp 2))⟩,
      ⟨(some 89), (some (84, false)), .q (.bin .gtr .num (.tmp 87) (.tmp 88))⟩,
      ⟨(some 90), (some (78, true)), .q (.pick (.tmp 84) (.const (.bool true)) (.tmp 89))⟩,
      ⟨(some 91), none, .q (.pick (.tmp 78) (.tmp 90) (.const (.bool false)))⟩,
      ⟨(some 6), none, .q (.mv (.tmp 91))⟩])
  (.ret)))))))))))⟩
theorem k_law_Room : compF Try.prog 7 = some c_law_Room := by kernel_rfl
set_option maxHeartbeats 4000000 in
theorem room_law {W : World} (l : List Str) (sz : List Int) (most : Int) (hm1 : -9223372036854775808 ≤ most) (hm2 : most ≤ 9223372036854775807) (hl : l.length ≤ maxLen) (hs : sz.length ≤ maxLen) : ACalls Try.prog W 7 [.sl false 1 (strRows l), .sl false 1 (intRows sz), .v (.int .i64 most)] AHeap.none (fun r _ => r = .v (.bool true)) := by
  refine fn_run follows k_law_Room rfl ?_
  simp only [c_law_Room, List.zipIdx_cons, List.zipIdx_nil, List.map_cons, List.map_nil, Nat.zero_add]
  (try simp +decide (implicitDefEqProofs := false) only [stk_nil, stk_skip, stk_ops, stk_seq, stk_block, stk_scope, stk_exit, stk_ret, stk_code_exit, stk_code_ret, stk_ops_exit, stk_ops_ret, stk_endb, stk_endb_exit, stk_endb_ret, stk_endl, stk_endl_exit, stk_endl_ret, stk_ops_nil, stk_q, stk_niq, niqA, flip, srcOf, stk_alloc, stk_box, stk_bsl, ↓stk_g, ↓stk_c, side, val, bside, bval, uside, uval, cside, cval, bndS, bndV, intA, isInt, lside, lval, fside, fval, faside, faval, iside, ival, sxside, sxval, sizeA, slside, slval, llside, llval, lenside, lenval, lenA, tupA, mmside, mmval, nkside, boolA, isBool, ev_t, ev_c, tget, put_s, put_n, lkside, lkval, menval, stk_mk, Option.isSome_some, isMapA, mapA, keyA, FZ_rfl, FZ_any, retOf, true_and, and_true, if_true, if_false, ↓reduceIte, decide_true, decide_false, Bool.not_true, Bool.not_false, Nat.zero_add, List.map_cons, List.map_nil, Int.toNat_natCast, strRows_len, intRows_len, List.getD_cons_zero, List.getD_cons_succ, List.length_cons, List.length_nil, List.forall_mem_cons, List.not_mem_nil, false_implies, implies_true, Int.ofNat_zero, Int.natCast_add, Int.natCast_one, Int.ofNat_one, Int.natCast_zero, isB, isU, Bool.false_eq_true, beq_self_eq_true, Bool.false_beq, Bool.true_beq, Int.natCast_nonneg, undef, strRows_take, strRows_drop, Int.toNat_zero, List.drop_zero, Bool.and_true, oneOr, List.all_cons, List.all_nil, AVal.one, Value.oneCell', beq_self_eq_true, Bool.true_and, List.take_length])
  refine stk_pure (awake_ok) fun v hv => ?_
  subst hv
  (try simp +decide (implicitDefEqProofs := false) only [stk_nil, stk_skip, stk_ops, stk_seq, stk_block, stk_scope, stk_exit, stk_ret, stk_code_exit, stk_code_ret, stk_ops_exit, stk_ops_ret, stk_endb, stk_endb_exit, stk_endb_ret, stk_endl, stk_endl_exit, stk_endl_ret, stk_ops_nil, stk_q, stk_niq, niqA, flip, srcOf, stk_alloc, stk_box, stk_bsl, ↓stk_g, ↓stk_c, side, val, bside, bval, uside, uval, cside, cval, bndS, bndV, intA, isInt, lside, lval, fside, fval, faside, faval, iside, ival, sxside, sxval, sizeA, slside, slval, llside, llval, lenside, lenval, lenA, tupA, mmside, mmval, nkside, boolA, isBool, ev_t, ev_c, tget, put_s, put_n, lkside, lkval, menval, stk_mk, Option.isSome_some, isMapA, mapA, keyA, FZ_rfl, FZ_any, retOf, true_and, and_true, if_true, if_false, ↓reduceIte, decide_true, decide_false, Bool.not_true, Bool.not_false, Nat.zero_add, List.map_cons, List.map_nil, Int.toNat_natCast, strRows_len, intRows_len, List.getD_cons_zero, List.getD_cons_succ, List.length_cons, List.length_nil, List.forall_mem_cons, List.not_mem_nil, false_implies, implies_true, Int.ofNat_zero, Int.natCast_add, Int.natCast_one, Int.ofNat_one, Int.natCast_zero, isB, isU, Bool.false_eq_true, beq_self_eq_true, Bool.false_beq, Bool.true_beq, Int.natCast_nonneg, undef, strRows_take, strRows_drop, Int.toNat_zero, List.drop_zero, Bool.and_true, oneOr, List.all_cons, List.all_nil, AVal.one, Value.oneCell', beq_self_eq_true, Bool.true_and, List.take_length])
  refine stk_pure (light_ok false l hl) fun v hv => ?_
  obtain ⟨la, rfl, hla⟩ := hv
  cases la
  · (try simp +decide (implicitDefEqProofs := false) only [stk_nil, stk_skip, stk_ops, stk_seq, stk_block, stk_scope, stk_exit, stk_ret, stk_code_exit, stk_code_ret, stk_ops_exit, stk_ops_ret, stk_endb, stk_endb_exit, stk_endb_ret, stk_endl, stk_endl_exit, stk_endl_ret, stk_ops_nil, stk_q, stk_niq, niqA, flip, srcOf, stk_alloc, stk_box, stk_bsl, ↓stk_g, ↓stk_c, side, val, bside, bval, uside, uval, cside, cval, bndS, bndV, intA, isInt, lside, lval, fside, fval, faside, faval, iside, ival, sxside, sxval, sizeA, slside, slval, llside, llval, lenside, lenval, lenA, tupA, mmside, mmval, nkside, boolA, isBool, ev_t, ev_c, tget, put_s, put_n, lkside, lkval, menval, stk_mk, Option.isSome_some, isMapA, mapA, keyA, FZ_rfl, FZ_any, retOf, true_and, and_true, if_true, if_false, ↓reduceIte, decide_true, decide_false, Bool.not_true, Bool.not_false, Nat.zero_add, List.map_cons, List.map_nil, Int.toNat_natCast, strRows_len, intRows_len, List.getD_cons_zero, List.getD_cons_succ, List.length_cons, List.length_nil, List.forall_mem_cons, List.not_mem_nil, false_implies, implies_true, Int.ofNat_zero, Int.natCast_add, Int.natCast_one, Int.ofNat_one, Int.natCast_zero, isB, isU, Bool.false_eq_true, beq_self_eq_true, Bool.false_beq, Bool.true_beq, Int.natCast_nonneg, undef, strRows_take, strRows_drop, Int.toNat_zero, List.drop_zero, Bool.and_true, oneOr, List.all_cons, List.all_nil, AVal.one, Value.oneCell', beq_self_eq_true, Bool.true_and, List.take_length])
    refine aret_pure (.inr rfl) ?_; simp +decide only [retOf, tget, if_true, if_false, ↓reduceIte]
  (try simp +decide (implicitDefEqProofs := false) only [stk_nil, stk_skip, stk_ops, stk_seq, stk_block, stk_scope, stk_exit, stk_ret, stk_code_exit, stk_code_ret, stk_ops_exit, stk_ops_ret, stk_endb, stk_endb_exit, stk_endb_ret, stk_endl, stk_endl_exit, stk_endl_ret, stk_ops_nil, stk_q, stk_niq, niqA, flip, srcOf, stk_alloc, stk_box, stk_bsl, ↓stk_g, ↓stk_c, side, val, bside, bval, uside, uval, cside, cval, bndS, bndV, intA, isInt, lside, lval, fside, fval, faside, faval, iside, ival, sxside, sxval, sizeA, slside, slval, llside, llval, lenside, lenval, lenA, tupA, mmside, mmval, nkside, boolA, isBool, ev_t, ev_c, tget, put_s, put_n, lkside, lkval, menval, stk_mk, Option.isSome_some, isMapA, mapA, keyA, FZ_rfl, FZ_any, retOf, true_and, and_true, if_true, if_false, ↓reduceIte, decide_true, decide_false, Bool.not_true, Bool.not_false, Nat.zero_add, List.map_cons, List.map_nil, Int.toNat_natCast, strRows_len, intRows_len, List.getD_cons_zero, List.getD_cons_succ, List.length_cons, List.length_nil, List.forall_mem_cons, List.not_mem_nil, false_implies, implies_true, Int.ofNat_zero, Int.natCast_add, Int.natCast_one, Int.ofNat_one, Int.natCast_zero, isB, isU, Bool.false_eq_true, beq_self_eq_true, Bool.false_beq, Bool.true_beq, Int.natCast_nonneg, undef, strRows_take, strRows_drop, Int.toNat_zero, List.drop_zero, Bool.and_true, oneOr, List.all_cons, List.all_nil, AVal.one, Value.oneCell', beq_self_eq_true, Bool.true_and, List.take_length])
  refine stk_pure (small_ok false sz hs) fun v hv => ?_
  obtain ⟨ls, rfl, hls⟩ := hv
  cases ls
  · (try simp +decide (implicitDefEqProofs := false) only [stk_nil, stk_skip, stk_ops, stk_seq, stk_block, stk_scope, stk_exit, stk_ret, stk_code_exit, stk_code_ret, stk_ops_exit, stk_ops_ret, stk_endb, stk_endb_exit, stk_endb_ret, stk_endl, stk_endl_exit, stk_endl_ret, stk_ops_nil, stk_q, stk_niq, niqA, flip, srcOf, stk_alloc, stk_box, stk_bsl, ↓stk_g, ↓stk_c, side, val, bside, bval, uside, uval, cside, cval, bndS, bndV, intA, isInt, lside, lval, fside, fval, faside, faval, iside, ival, sxside, sxval, sizeA, slside, slval, llside, llval, lenside, lenval, lenA, tupA, mmside, mmval, nkside, boolA, isBool, ev_t, ev_c, tget, put_s, put_n, lkside, lkval, menval, stk_mk, Option.isSome_some, isMapA, mapA, keyA, FZ_rfl, FZ_any, retOf, true_and, and_true, if_true, if_false, ↓reduceIte, decide_true, decide_false, Bool.not_true, Bool.not_false, Nat.zero_add, List.map_cons, List.map_nil, Int.toNat_natCast, strRows_len, intRows_len, List.getD_cons_zero, List.getD_cons_succ, List.length_cons, List.length_nil, List.forall_mem_cons, List.not_mem_nil, false_implies, implies_true, Int.ofNat_zero, Int.natCast_add, Int.natCast_one, Int.ofNat_one, Int.natCast_zero, isB, isU, Bool.false_eq_true, beq_self_eq_true, Bool.false_beq, Bool.true_beq, Int.natCast_nonneg, undef, strRows_take, strRows_drop, Int.toNat_zero, List.drop_zero, Bool.and_true, oneOr, List.all_cons, List.all_nil, AVal.one, Value.oneCell', beq_self_eq_true, Bool.true_and, List.take_length])
    refine aret_pure (.inr rfl) ?_; simp +decide only [retOf, tget, if_true, if_false, ↓reduceIte]
  have hl2 := hla rfl
  obtain ⟨hs2, hs3⟩ := hls rfl
  (try simp +decide (implicitDefEqProofs := false) only [stk_nil, stk_skip, stk_ops, stk_seq, stk_block, stk_scope, stk_exit, stk_ret, stk_code_exit, stk_code_ret, stk_ops_exit, stk_ops_ret, stk_endb, stk_endb_exit, stk_endb_ret, stk_endl, stk_endl_exit, stk_endl_ret, stk_ops_nil, stk_q, stk_niq, niqA, flip, srcOf, stk_alloc, stk_box, stk_bsl, ↓stk_g, ↓stk_c, side, val, bside, bval, uside, uval, cside, cval, bndS, bndV, intA, isInt, lside, lval, fside, fval, faside, faval, iside, ival, sxside, sxval, sizeA, slside, slval, llside, llval, lenside, lenval, lenA, tupA, mmside, mmval, nkside, boolA, isBool, ev_t, ev_c, tget, put_s, put_n, lkside, lkval, menval, stk_mk, Option.isSome_some, isMapA, mapA, keyA, FZ_rfl, FZ_any, retOf, true_and, and_true, if_true, if_false, ↓reduceIte, decide_true, decide_false, Bool.not_true, Bool.not_false, Nat.zero_add, List.map_cons, List.map_nil, Int.toNat_natCast, strRows_len, intRows_len, List.getD_cons_zero, List.getD_cons_succ, List.length_cons, List.length_nil, List.forall_mem_cons, List.not_mem_nil, false_implies, implies_true, Int.ofNat_zero, Int.natCast_add, Int.natCast_one, Int.ofNat_one, Int.natCast_zero, isB, isU, Bool.false_eq_true, beq_self_eq_true, Bool.false_beq, Bool.true_beq, Int.natCast_nonneg, undef, strRows_take, strRows_drop, Int.toNat_zero, List.drop_zero, Bool.and_true, oneOr, List.all_cons, List.all_nil, AVal.one, Value.oneCell', beq_self_eq_true, Bool.true_and, List.take_length])
  refine stk_pure (short_ok false false l sz most hm1 hm2 (by omega) hs2 hs3) fun v hv => ?_
  obtain ⟨k, hk, rfl⟩ := hv
  obtain ⟨hk1, hk2, hk3⟩ := hk
  have hlen : (l.take k).length = k := by simp; omega
  have g1 : ¬ (l.length : Int) < (k : Int) := by omega
  have rest : ∀ (t : List (Nat × AVal)), tget t 8 = tget t 8 := fun _ => rfl
  have hdo : ∀ b1 : Bool, b1 = decide (0 < (l.length : Int)) → (b1 = true → ¬ (k : Int) = 0) := by
    intro b1 h1 h2 h3
    rw [h1] at h2
    simp at h2
    have := (hk3 (by omega)).1
    omega
  have hsum := fun i => sumTo_in hs3 i
  have hsz1 := fun i => sizeAt_le hs3 i
  have hsz2 := fun i => sizeAt_nonneg sz i
  have hnk := hsum k
  have hzk1 := hsz1 k
  have hzk2 := hsz2 k
  have hmost : 1 < k → ¬ most < sumTo sz k := by
    intro h1 h2
    have h3 := hk2 (k - 1) (by omega)
    have h4 : sumTo sz k = sumTo sz (k - 1) + sizeAt sz (k - 1) := by
      obtain ⟨j, rfl⟩ : ∃ j, k = j + 1 := ⟨k - 1, by omega⟩
      rfl
    refine h3 ⟨by omega, ?_⟩
    right
    omega
  have hfin : ¬ k = l.length → most < sumTo sz k + sizeAt sz k := by
    intro h
    rcases (hk3 (by omega)).2 with h1 | h1
    · omega
    · omega
  by_cases h0 : 0 < l.length
  all_goals
    have g2 : (0 < (l.length : Int)) ↔ (0 < l.length) := by omega
  · have g3 : ¬ ((k : Int) = 0) := by
      have := hk3
      by_cases e : k < l.length
      · have := (hk3 e).1; omega
      · omega
    have g4 : 0 < (l.length : Int) := by omega
    (try simp +decide (implicitDefEqProofs := false) only [stk_nil, stk_skip, stk_ops, stk_seq, stk_block, stk_scope, stk_exit, stk_ret, stk_code_exit, stk_code_ret, stk_ops_exit, stk_ops_ret, stk_endb, stk_endb_exit, stk_endb_ret, stk_endl, stk_endl_exit, stk_endl_ret, stk_ops_nil, stk_q, stk_niq, niqA, flip, srcOf, stk_alloc, stk_box, stk_bsl, ↓stk_g, ↓stk_c, side, val, bside, bval, uside, uval, cside, cval, bndS, bndV, intA, isInt, lside, lval, fside, fval, faside, faval, iside, ival, sxside, sxval, sizeA, slside, slval, llside, llval, lenside, lenval, lenA, tupA, mmside, mmval, nkside, boolA, isBool, ev_t, ev_c, tget, put_s, put_n, lkside, lkval, menval, stk_mk, Option.isSome_some, isMapA, mapA, keyA, FZ_rfl, FZ_any, retOf, true_and, and_true, if_true, if_false, ↓reduceIte, decide_true, decide_false, Bool.not_true, Bool.not_false, Nat.zero_add, List.map_cons, List.map_nil, Int.toNat_natCast, strRows_len, intRows_len, List.getD_cons_zero, List.getD_cons_succ, List.length_cons, List.length_nil, List.forall_mem_cons, List.not_mem_nil, false_implies, implies_true, Int.ofNat_zero, Int.natCast_add, Int.natCast_one, Int.ofNat_one, Int.natCast_zero, isB, isU, Bool.false_eq_true, beq_self_eq_true, Bool.false_beq, Bool.true_beq, Int.natCast_nonneg, undef, strRows_take, strRows_drop, Int.toNat_zero, List.drop_zero, Bool.and_true, oneOr, List.all_cons, List.all_nil, AVal.one, Value.oneCell', beq_self_eq_true, Bool.true_and, List.take_length, g1, g3, g4, hlen])
    refine stk_up (α := Unit) k (fun i _ => ⟨[(11, .v (.int .i64 i)), (10, .v (.int .i64 (sumTo sz i))), (9, .sl false 1 (strRows (l.take k))), (7, .v (.bool true)), (0, .sl false 1 (strRows l)), (1, .sl false 1 (intRows sz)), (2, .v (.int .i64 most))], AHeap.none⟩) (fun i _ => True) () (Weak.list _ (Sub.refl _) (by (try simp +decide (implicitDefEqProofs := false) only [stk_nil, stk_skip, stk_ops, stk_seq, stk_block, stk_scope, stk_exit, stk_ret, stk_code_exit, stk_code_ret, stk_ops_exit, stk_ops_ret, stk_endb, stk_endb_exit, stk_endb_ret, stk_endl, stk_endl_exit, stk_endl_ret, stk_ops_nil, stk_q, stk_niq, niqA, flip, srcOf, stk_alloc, stk_box, stk_bsl, ↓stk_g, ↓stk_c, side, val, bside, bval, uside, uval, cside, cval, bndS, bndV, intA, isInt, lside, lval, fside, fval, faside, faval, iside, ival, sxside, sxval, sizeA, slside, slval, llside, llval, lenside, lenval, lenA, tupA, mmside, mmval, nkside, boolA, isBool, ev_t, ev_c, tget, put_s, put_n, lkside, lkval, menval, stk_mk, Option.isSome_some, isMapA, mapA, keyA, FZ_rfl, FZ_any, retOf, true_and, and_true, if_true, if_false, ↓reduceIte, decide_true, decide_false, Bool.not_true, Bool.not_false, Nat.zero_add, List.map_cons, List.map_nil, Int.toNat_natCast, strRows_len, intRows_len, List.getD_cons_zero, List.getD_cons_succ, List.length_cons, List.length_nil, List.forall_mem_cons, List.not_mem_nil, false_implies, implies_true, Int.ofNat_zero, Int.natCast_add, Int.natCast_one, Int.ofNat_one, Int.natCast_zero, isB, isU, Bool.false_eq_true, beq_self_eq_true, Bool.false_beq, Bool.true_beq, Int.natCast_nonneg, undef, strRows_take, strRows_drop, Int.toNat_zero, List.drop_zero, Bool.and_true, oneOr, List.all_cons, List.all_nil, AVal.one, Value.oneCell', beq_self_eq_true, Bool.true_and, List.take_length, sumTo]))) trivial ?_
    rintro i _ hi -
    by_cases hil : i < k
    · have h1 : (i : Int) < (k : Int) := by omega
      have h2 : (i : Int) < (l.length : Int) := by omega
      have hg := strRows_get (l := l.take k) (i := i) (by omega)
      rw [getD_take hil] at hg
      have hg2 := strRows_get (l := l) (i := i) (by omega)
      have hw := wrap_in (n := i + 1) (by omega) (by omega)
      have hsi := hsum i
      have hzi := hsz1 i
      have hzi2 := hsz2 i
      have hw3 := wrap_in (n := sumTo sz i + sizeAt sz i) (by omega) (by omega)
      have hstep : sumTo sz (i + 1) = sumTo sz i + sizeAt sz i := rfl
      (try simp +decide (implicitDefEqProofs := false) only [stk_nil, stk_skip, stk_ops, stk_seq, stk_block, stk_scope, stk_exit, stk_ret, stk_code_exit, stk_code_ret, stk_ops_exit, stk_ops_ret, stk_endb, stk_endb_exit, stk_endb_ret, stk_endl, stk_endl_exit, stk_endl_ret, stk_ops_nil, stk_q, stk_niq, niqA, flip, srcOf, stk_alloc, stk_box, stk_bsl, ↓stk_g, ↓stk_c, side, val, bside, bval, uside, uval, cside, cval, bndS, bndV, intA, isInt, lside, lval, fside, fval, faside, faval, iside, ival, sxside, sxval, sizeA, slside, slval, llside, llval, lenside, lenval, lenA, tupA, mmside, mmval, nkside, boolA, isBool, ev_t, ev_c, tget, put_s, put_n, lkside, lkval, menval, stk_mk, Option.isSome_some, isMapA, mapA, keyA, FZ_rfl, FZ_any, retOf, true_and, and_true, if_true, if_false, ↓reduceIte, decide_true, decide_false, Bool.not_true, Bool.not_false, Nat.zero_add, List.map_cons, List.map_nil, Int.toNat_natCast, strRows_len, intRows_len, List.getD_cons_zero, List.getD_cons_succ, List.length_cons, List.length_nil, List.forall_mem_cons, List.not_mem_nil, false_implies, implies_true, Int.ofNat_zero, Int.natCast_add, Int.natCast_one, Int.ofNat_one, Int.natCast_zero, isB, isU, Bool.false_eq_true, beq_self_eq_true, Bool.false_beq, Bool.true_beq, Int.natCast_nonneg, undef, strRows_take, strRows_drop, Int.toNat_zero, List.drop_zero, Bool.and_true, oneOr, List.all_cons, List.all_nil, AVal.one, Value.oneCell', beq_self_eq_true, Bool.true_and, List.take_length, h1, h2, hg, hg2, hlen, ne_eq, not_true_eq_false])
      refine stk_pure (size_ok false sz i) fun v hv => ?_
      subst hv
      (try simp +decide (implicitDefEqProofs := false) only [stk_nil, stk_skip, stk_ops, stk_seq, stk_block, stk_scope, stk_exit, stk_ret, stk_code_exit, stk_code_ret, stk_ops_exit, stk_ops_ret, stk_endb, stk_endb_exit, stk_endb_ret, stk_endl, stk_endl_exit, stk_endl_ret, stk_ops_nil, stk_q, stk_niq, niqA, flip, srcOf, stk_alloc, stk_box, stk_bsl, ↓stk_g, ↓stk_c, side, val, bside, bval, uside, uval, cside, cval, bndS, bndV, intA, isInt, lside, lval, fside, fval, faside, faval, iside, ival, sxside, sxval, sizeA, slside, slval, llside, llval, lenside, lenval, lenA, tupA, mmside, mmval, nkside, boolA, isBool, ev_t, ev_c, tget, put_s, put_n, lkside, lkval, menval, stk_mk, Option.isSome_some, isMapA, mapA, keyA, FZ_rfl, FZ_any, retOf, true_and, and_true, if_true, if_false, ↓reduceIte, decide_true, decide_false, Bool.not_true, Bool.not_false, Nat.zero_add, List.map_cons, List.map_nil, Int.toNat_natCast, strRows_len, intRows_len, List.getD_cons_zero, List.getD_cons_succ, List.length_cons, List.length_nil, List.forall_mem_cons, List.not_mem_nil, false_implies, implies_true, Int.ofNat_zero, Int.natCast_add, Int.natCast_one, Int.ofNat_one, Int.natCast_zero, isB, isU, Bool.false_eq_true, beq_self_eq_true, Bool.false_beq, Bool.true_beq, Int.natCast_nonneg, undef, strRows_take, strRows_drop, Int.toNat_zero, List.drop_zero, Bool.and_true, oneOr, List.all_cons, List.all_nil, AVal.one, Value.oneCell', beq_self_eq_true, Bool.true_and, List.take_length, hw, hw3, hstep])
      refine ⟨by omega, (), Weak.list _ (Sub.refl _) (by (try simp +decide (implicitDefEqProofs := false) only [stk_nil, stk_skip, stk_ops, stk_seq, stk_block, stk_scope, stk_exit, stk_ret, stk_code_exit, stk_code_ret, stk_ops_exit, stk_ops_ret, stk_endb, stk_endb_exit, stk_endb_ret, stk_endl, stk_endl_exit, stk_endl_ret, stk_ops_nil, stk_q, stk_niq, niqA, flip, srcOf, stk_alloc, stk_box, stk_bsl, ↓stk_g, ↓stk_c, side, val, bside, bval, uside, uval, cside, cval, bndS, bndV, intA, isInt, lside, lval, fside, fval, faside, faval, iside, ival, sxside, sxval, sizeA, slside, slval, llside, llval, lenside, lenval, lenA, tupA, mmside, mmval, nkside, boolA, isBool, ev_t, ev_c, tget, put_s, put_n, lkside, lkval, menval, stk_mk, Option.isSome_some, isMapA, mapA, keyA, FZ_rfl, FZ_any, retOf, true_and, and_true, if_true, if_false, ↓reduceIte, decide_true, decide_false, Bool.not_true, Bool.not_false, Nat.zero_add, List.map_cons, List.map_nil, Int.toNat_natCast, strRows_len, intRows_len, List.getD_cons_zero, List.getD_cons_succ, List.length_cons, List.length_nil, List.forall_mem_cons, List.not_mem_nil, false_implies, implies_true, Int.ofNat_zero, Int.natCast_add, Int.natCast_one, Int.ofNat_one, Int.natCast_zero, isB, isU, Bool.false_eq_true, beq_self_eq_true, Bool.false_beq, Bool.true_beq, Int.natCast_nonneg, undef, strRows_take, strRows_drop, Int.toNat_zero, List.drop_zero, Bool.and_true, oneOr, List.all_cons, List.all_nil, AVal.one, Value.oneCell', beq_self_eq_true, Bool.true_and, List.take_length]))⟩
    · have h1 : ¬ (i : Int) < (k : Int) := by omega
      obtain rfl : i = k := by omega
      have hw3 := wrap_in (n := sumTo sz i + sizeAt sz i) (by omega) (by omega)
      by_cases h5 : 1 < i
      · have g5 : (1 : Int) < (i : Int) := by omega
        have g6 := hmost h5
        (try simp +decide (implicitDefEqProofs := false) only [stk_nil, stk_skip, stk_ops, stk_seq, stk_block, stk_scope, stk_exit, stk_ret, stk_code_exit, stk_code_ret, stk_ops_exit, stk_ops_ret, stk_endb, stk_endb_exit, stk_endb_ret, stk_endl, stk_endl_exit, stk_endl_ret, stk_ops_nil, stk_q, stk_niq, niqA, flip, srcOf, stk_alloc, stk_box, stk_bsl, ↓stk_g, ↓stk_c, side, val, bside, bval, uside, uval, cside, cval, bndS, bndV, intA, isInt, lside, lval, fside, fval, faside, faval, iside, ival, sxside, sxval, sizeA, slside, slval, llside, llval, lenside, lenval, lenA, tupA, mmside, mmval, nkside, boolA, isBool, ev_t, ev_c, tget, put_s, put_n, lkside, lkval, menval, stk_mk, Option.isSome_some, isMapA, mapA, keyA, FZ_rfl, FZ_any, retOf, true_and, and_true, if_true, if_false, ↓reduceIte, decide_true, decide_false, Bool.not_true, Bool.not_false, Nat.zero_add, List.map_cons, List.map_nil, Int.toNat_natCast, strRows_len, intRows_len, List.getD_cons_zero, List.getD_cons_succ, List.length_cons, List.length_nil, List.forall_mem_cons, List.not_mem_nil, false_implies, implies_true, Int.ofNat_zero, Int.natCast_add, Int.natCast_one, Int.ofNat_one, Int.natCast_zero, isB, isU, Bool.false_eq_true, beq_self_eq_true, Bool.false_beq, Bool.true_beq, Int.natCast_nonneg, undef, strRows_take, strRows_drop, Int.toNat_zero, List.drop_zero, Bool.and_true, oneOr, List.all_cons, List.all_nil, AVal.one, Value.oneCell', beq_self_eq_true, Bool.true_and, List.take_length, h1, g5, g6, hlen])
        refine stk_pure (size_ok false sz i) fun v hv => ?_
        subst hv
        by_cases h7 : i = l.length
        · have g7 : (i : Int) = (l.length : Int) := by omega
          have g8 : ((l.length : Nat) : Int) = (l.length : Int) := rfl
          (try simp +decide (implicitDefEqProofs := false) only [stk_nil, stk_skip, stk_ops, stk_seq, stk_block, stk_scope, stk_exit, stk_ret, stk_code_exit, stk_code_ret, stk_ops_exit, stk_ops_ret, stk_endb, stk_endb_exit, stk_endb_ret, stk_endl, stk_endl_exit, stk_endl_ret, stk_ops_nil, stk_q, stk_niq, niqA, flip, srcOf, stk_alloc, stk_box, stk_bsl, ↓stk_g, ↓stk_c, side, val, bside, bval, uside, uval, cside, cval, bndS, bndV, intA, isInt, lside, lval, fside, fval, faside, faval, iside, ival, sxside, sxval, sizeA, slside, slval, llside, llval, lenside, lenval, lenA, tupA, mmside, mmval, nkside, boolA, isBool, ev_t, ev_c, tget, put_s, put_n, lkside, lkval, menval, stk_mk, Option.isSome_some, isMapA, mapA, keyA, FZ_rfl, FZ_any, retOf, true_and, and_true, if_true, if_false, ↓reduceIte, decide_true, decide_false, Bool.not_true, Bool.not_false, Nat.zero_add, List.map_cons, List.map_nil, Int.toNat_natCast, strRows_len, intRows_len, List.getD_cons_zero, List.getD_cons_succ, List.length_cons, List.length_nil, List.forall_mem_cons, List.not_mem_nil, false_implies, implies_true, Int.ofNat_zero, Int.natCast_add, Int.natCast_one, Int.ofNat_one, Int.natCast_zero, isB, isU, Bool.false_eq_true, beq_self_eq_true, Bool.false_beq, Bool.true_beq, Int.natCast_nonneg, undef, strRows_take, strRows_drop, Int.toNat_zero, List.drop_zero, Bool.and_true, oneOr, List.all_cons, List.all_nil, AVal.one, Value.oneCell', beq_self_eq_true, Bool.true_and, List.take_length, hlen, decide_eq_true g7])
          refine aret_pure (.inr rfl) ?_; simp +decide only [retOf, tget, if_true, if_false, ↓reduceIte]
        · have g7 : ¬ (i : Int) = (l.length : Int) := by omega
          have g8 := hfin h7
          (try simp +decide (implicitDefEqProofs := false) only [stk_nil, stk_skip, stk_ops, stk_seq, stk_block, stk_scope, stk_exit, stk_ret, stk_code_exit, stk_code_ret, stk_ops_exit, stk_ops_ret, stk_endb, stk_endb_exit, stk_endb_ret, stk_endl, stk_endl_exit, stk_endl_ret, stk_ops_nil, stk_q, stk_niq, niqA, flip, srcOf, stk_alloc, stk_box, stk_bsl, ↓stk_g, ↓stk_c, side, val, bside, bval, uside, uval, cside, cval, bndS, bndV, intA, isInt, lside, lval, fside, fval, faside, faval, iside, ival, sxside, sxval, sizeA, slside, slval, llside, llval, lenside, lenval, lenA, tupA, mmside, mmval, nkside, boolA, isBool, ev_t, ev_c, tget, put_s, put_n, lkside, lkval, menval, stk_mk, Option.isSome_some, isMapA, mapA, keyA, FZ_rfl, FZ_any, retOf, true_and, and_true, if_true, if_false, ↓reduceIte, decide_true, decide_false, Bool.not_true, Bool.not_false, Nat.zero_add, List.map_cons, List.map_nil, Int.toNat_natCast, strRows_len, intRows_len, List.getD_cons_zero, List.getD_cons_succ, List.length_cons, List.length_nil, List.forall_mem_cons, List.not_mem_nil, false_implies, implies_true, Int.ofNat_zero, Int.natCast_add, Int.natCast_one, Int.ofNat_one, Int.natCast_zero, isB, isU, Bool.false_eq_true, beq_self_eq_true, Bool.false_beq, Bool.true_beq, Int.natCast_nonneg, undef, strRows_take, strRows_drop, Int.toNat_zero, List.drop_zero, Bool.and_true, oneOr, List.all_cons, List.all_nil, AVal.one, Value.oneCell', beq_self_eq_true, Bool.true_and, List.take_length, hlen, g7, hw3, g8])
          refine aret_pure (.inr rfl) ?_; simp +decide only [retOf, tget, if_true, if_false, ↓reduceIte]
      · have g5 : ¬ (1 : Int) < (i : Int) := by omega
        (try simp +decide (implicitDefEqProofs := false) only [stk_nil, stk_skip, stk_ops, stk_seq, stk_block, stk_scope, stk_exit, stk_ret, stk_code_exit, stk_code_ret, stk_ops_exit, stk_ops_ret, stk_endb, stk_endb_exit, stk_endb_ret, stk_endl, stk_endl_exit, stk_endl_ret, stk_ops_nil, stk_q, stk_niq, niqA, flip, srcOf, stk_alloc, stk_box, stk_bsl, ↓stk_g, ↓stk_c, side, val, bside, bval, uside, uval, cside, cval, bndS, bndV, intA, isInt, lside, lval, fside, fval, faside, faval, iside, ival, sxside, sxval, sizeA, slside, slval, llside, llval, lenside, lenval, lenA, tupA, mmside, mmval, nkside, boolA, isBool, ev_t, ev_c, tget, put_s, put_n, lkside, lkval, menval, stk_mk, Option.isSome_some, isMapA, mapA, keyA, FZ_rfl, FZ_any, retOf, true_and, and_true, if_true, if_false, ↓reduceIte, decide_true, decide_false, Bool.not_true, Bool.not_false, Nat.zero_add, List.map_cons, List.map_nil, Int.toNat_natCast, strRows_len, intRows_len, List.getD_cons_zero, List.getD_cons_succ, List.length_cons, List.length_nil, List.forall_mem_cons, List.not_mem_nil, false_implies, implies_true, Int.ofNat_zero, Int.natCast_add, Int.natCast_one, Int.ofNat_one, Int.natCast_zero, isB, isU, Bool.false_eq_true, beq_self_eq_true, Bool.false_beq, Bool.true_beq, Int.natCast_nonneg, undef, strRows_take, strRows_drop, Int.toNat_zero, List.drop_zero, Bool.and_true, oneOr, List.all_cons, List.all_nil, AVal.one, Value.oneCell', beq_self_eq_true, Bool.true_and, List.take_length, h1, g5, hlen])
        refine stk_pure (size_ok false sz i) fun v hv => ?_
        subst hv
        by_cases h7 : i = l.length
        · have g7 : (i : Int) = (l.length : Int) := by omega
          (try simp +decide (implicitDefEqProofs := false) only [stk_nil, stk_skip, stk_ops, stk_seq, stk_block, stk_scope, stk_exit, stk_ret, stk_code_exit, stk_code_ret, stk_ops_exit, stk_ops_ret, stk_endb, stk_endb_exit, stk_endb_ret, stk_endl, stk_endl_exit, stk_endl_ret, stk_ops_nil, stk_q, stk_niq, niqA, flip, srcOf, stk_alloc, stk_box, stk_bsl, ↓stk_g, ↓stk_c, side, val, bside, bval, uside, uval, cside, cval, bndS, bndV, intA, isInt, lside, lval, fside, fval, faside, faval, iside, ival, sxside, sxval, sizeA, slside, slval, llside, llval, lenside, lenval, lenA, tupA, mmside, mmval, nkside, boolA, isBool, ev_t, ev_c, tget, put_s, put_n, lkside, lkval, menval, stk_mk, Option.isSome_some, isMapA, mapA, keyA, FZ_rfl, FZ_any, retOf, true_and, and_true, if_true, if_false, ↓reduceIte, decide_true, decide_false, Bool.not_true, Bool.not_false, Nat.zero_add, List.map_cons, List.map_nil, Int.toNat_natCast, strRows_len, intRows_len, List.getD_cons_zero, List.getD_cons_succ, List.length_cons, List.length_nil, List.forall_mem_cons, List.not_mem_nil, false_implies, implies_true, Int.ofNat_zero, Int.natCast_add, Int.natCast_one, Int.ofNat_one, Int.natCast_zero, isB, isU, Bool.false_eq_true, beq_self_eq_true, Bool.false_beq, Bool.true_beq, Int.natCast_nonneg, undef, strRows_take, strRows_drop, Int.toNat_zero, List.drop_zero, Bool.and_true, oneOr, List.all_cons, List.all_nil, AVal.one, Value.oneCell', beq_self_eq_true, Bool.true_and, List.take_length, hlen, decide_eq_true g7])
          refine aret_pure (.inr rfl) ?_; simp +decide only [retOf, tget, if_true, if_false, ↓reduceIte]
        · have g7 : ¬ (i : Int) = (l.length : Int) := by omega
          have g8 := hfin h7
          (try simp +decide (implicitDefEqProofs := false) only [stk_nil, stk_skip, stk_ops, stk_seq, stk_block, stk_scope, stk_exit, stk_ret, stk_code_exit, stk_code_ret, stk_ops_exit, stk_ops_ret, stk_endb, stk_endb_exit, stk_endb_ret, stk_endl, stk_endl_exit, stk_endl_ret, stk_ops_nil, stk_q, stk_niq, niqA, flip, srcOf, stk_alloc, stk_box, stk_bsl, ↓stk_g, ↓stk_c, side, val, bside, bval, uside, uval, cside, cval, bndS, bndV, intA, isInt, lside, lval, fside, fval, faside, faval, iside, ival, sxside, sxval, sizeA, slside, slval, llside, llval, lenside, lenval, lenA, tupA, mmside, mmval, nkside, boolA, isBool, ev_t, ev_c, tget, put_s, put_n, lkside, lkval, menval, stk_mk, Option.isSome_some, isMapA, mapA, keyA, FZ_rfl, FZ_any, retOf, true_and, and_true, if_true, if_false, ↓reduceIte, decide_true, decide_false, Bool.not_true, Bool.not_false, Nat.zero_add, List.map_cons, List.map_nil, Int.toNat_natCast, strRows_len, intRows_len, List.getD_cons_zero, List.getD_cons_succ, List.length_cons, List.length_nil, List.forall_mem_cons, List.not_mem_nil, false_implies, implies_true, Int.ofNat_zero, Int.natCast_add, Int.natCast_one, Int.ofNat_one, Int.natCast_zero, isB, isU, Bool.false_eq_true, beq_self_eq_true, Bool.false_beq, Bool.true_beq, Int.natCast_nonneg, undef, strRows_take, strRows_drop, Int.toNat_zero, List.drop_zero, Bool.and_true, oneOr, List.all_cons, List.all_nil, AVal.one, Value.oneCell', beq_self_eq_true, Bool.true_and, List.take_length, hlen, g7, hw3, g8])
          refine aret_pure (.inr rfl) ?_; simp +decide only [retOf, tget, if_true, if_false, ↓reduceIte]
  · have g4 : ¬ 0 < (l.length : Int) := by omega
    (try simp +decide (implicitDefEqProofs := false) only [stk_nil, stk_skip, stk_ops, stk_seq, stk_block, stk_scope, stk_exit, stk_ret, stk_code_exit, stk_code_ret, stk_ops_exit, stk_ops_ret, stk_endb, stk_endb_exit, stk_endb_ret, stk_endl, stk_endl_exit, stk_endl_ret, stk_ops_nil, stk_q, stk_niq, niqA, flip, srcOf, stk_alloc, stk_box, stk_bsl, ↓stk_g, ↓stk_c, side, val, bside, bval, uside, uval, cside, cval, bndS, bndV, intA, isInt, lside, lval, fside, fval, faside, faval, iside, ival, sxside, sxval, sizeA, slside, slval, llside, llval, lenside, lenval, lenA, tupA, mmside, mmval, nkside, boolA, isBool, ev_t, ev_c, tget, put_s, put_n, lkside, lkval, menval, stk_mk, Option.isSome_some, isMapA, mapA, keyA, FZ_rfl, FZ_any, retOf, true_and, and_true, if_true, if_false, ↓reduceIte, decide_true, decide_false, Bool.not_true, Bool.not_false, Nat.zero_add, List.map_cons, List.map_nil, Int.toNat_natCast, strRows_len, intRows_len, List.getD_cons_zero, List.getD_cons_succ, List.length_cons, List.length_nil, List.forall_mem_cons, List.not_mem_nil, false_implies, implies_true, Int.ofNat_zero, Int.natCast_add, Int.natCast_one, Int.ofNat_one, Int.natCast_zero, isB, isU, Bool.false_eq_true, beq_self_eq_true, Bool.false_beq, Bool.true_beq, Int.natCast_nonneg, undef, strRows_take, strRows_drop, Int.toNat_zero, List.drop_zero, Bool.and_true, oneOr, List.all_cons, List.all_nil, AVal.one, Value.oneCell', beq_self_eq_true, Bool.true_and, List.take_length, g1, g4, hlen])
    refine stk_up (α := Unit) k (fun i _ => ⟨[(11, .v (.int .i64 i)), (10, .v (.int .i64 (sumTo sz i))), (9, .sl false 1 (strRows (l.take k))), (7, .v (.bool true)), (0, .sl false 1 (strRows l)), (1, .sl false 1 (intRows sz)), (2, .v (.int .i64 most))], AHeap.none⟩) (fun i _ => True) () (Weak.list _ (Sub.refl _) (by (try simp +decide (implicitDefEqProofs := false) only [stk_nil, stk_skip, stk_ops, stk_seq, stk_block, stk_scope, stk_exit, stk_ret, stk_code_exit, stk_code_ret, stk_ops_exit, stk_ops_ret, stk_endb, stk_endb_exit, stk_endb_ret, stk_endl, stk_endl_exit, stk_endl_ret, stk_ops_nil, stk_q, stk_niq, niqA, flip, srcOf, stk_alloc, stk_box, stk_bsl, ↓stk_g, ↓stk_c, side, val, bside, bval, uside, uval, cside, cval, bndS, bndV, intA, isInt, lside, lval, fside, fval, faside, faval, iside, ival, sxside, sxval, sizeA, slside, slval, llside, llval, lenside, lenval, lenA, tupA, mmside, mmval, nkside, boolA, isBool, ev_t, ev_c, tget, put_s, put_n, lkside, lkval, menval, stk_mk, Option.isSome_some, isMapA, mapA, keyA, FZ_rfl, FZ_any, retOf, true_and, and_true, if_true, if_false, ↓reduceIte, decide_true, decide_false, Bool.not_true, Bool.not_false, Nat.zero_add, List.map_cons, List.map_nil, Int.toNat_natCast, strRows_len, intRows_len, List.getD_cons_zero, List.getD_cons_succ, List.length_cons, List.length_nil, List.forall_mem_cons, List.not_mem_nil, false_implies, implies_true, Int.ofNat_zero, Int.natCast_add, Int.natCast_one, Int.ofNat_one, Int.natCast_zero, isB, isU, Bool.false_eq_true, beq_self_eq_true, Bool.false_beq, Bool.true_beq, Int.natCast_nonneg, undef, strRows_take, strRows_drop, Int.toNat_zero, List.drop_zero, Bool.and_true, oneOr, List.all_cons, List.all_nil, AVal.one, Value.oneCell', beq_self_eq_true, Bool.true_and, List.take_length, sumTo]))) trivial ?_
    rintro i _ hi -
    by_cases hil : i < k
    · have h1 : (i : Int) < (k : Int) := by omega
      have h2 : (i : Int) < (l.length : Int) := by omega
      have hg := strRows_get (l := l.take k) (i := i) (by omega)
      rw [getD_take hil] at hg
      have hg2 := strRows_get (l := l) (i := i) (by omega)
      have hw := wrap_in (n := i + 1) (by omega) (by omega)
      have hsi := hsum i
      have hzi := hsz1 i
      have hzi2 := hsz2 i
      have hw3 := wrap_in (n := sumTo sz i + sizeAt sz i) (by omega) (by omega)
      have hstep : sumTo sz (i + 1) = sumTo sz i + sizeAt sz i := rfl
      (try simp +decide (implicitDefEqProofs := false) only [stk_nil, stk_skip, stk_ops, stk_seq, stk_block, stk_scope, stk_exit, stk_ret, stk_code_exit, stk_code_ret, stk_ops_exit, stk_ops_ret, stk_endb, stk_endb_exit, stk_endb_ret, stk_endl, stk_endl_exit, stk_endl_ret, stk_ops_nil, stk_q, stk_niq, niqA, flip, srcOf, stk_alloc, stk_box, stk_bsl, ↓stk_g, ↓stk_c, side, val, bside, bval, uside, uval, cside, cval, bndS, bndV, intA, isInt, lside, lval, fside, fval, faside, faval, iside, ival, sxside, sxval, sizeA, slside, slval, llside, llval, lenside, lenval, lenA, tupA, mmside, mmval, nkside, boolA, isBool, ev_t, ev_c, tget, put_s, put_n, lkside, lkval, menval, stk_mk, Option.isSome_some, isMapA, mapA, keyA, FZ_rfl, FZ_any, retOf, true_and, and_true, if_true, if_false, ↓reduceIte, decide_true, decide_false, Bool.not_true, Bool.not_false, Nat.zero_add, List.map_cons, List.map_nil, Int.toNat_natCast, strRows_len, intRows_len, List.getD_cons_zero, List.getD_cons_succ, List.length_cons, List.length_nil, List.forall_mem_cons, List.not_mem_nil, false_implies, implies_true, Int.ofNat_zero, Int.natCast_add, Int.natCast_one, Int.ofNat_one, Int.natCast_zero, isB, isU, Bool.false_eq_true, beq_self_eq_true, Bool.false_beq, Bool.true_beq, Int.natCast_nonneg, undef, strRows_take, strRows_drop, Int.toNat_zero, List.drop_zero, Bool.and_true, oneOr, List.all_cons, List.all_nil, AVal.one, Value.oneCell', beq_self_eq_true, Bool.true_and, List.take_length, h1, h2, hg, hg2, hlen, ne_eq, not_true_eq_false])
      refine stk_pure (size_ok false sz i) fun v hv => ?_
      subst hv
      (try simp +decide (implicitDefEqProofs := false) only [stk_nil, stk_skip, stk_ops, stk_seq, stk_block, stk_scope, stk_exit, stk_ret, stk_code_exit, stk_code_ret, stk_ops_exit, stk_ops_ret, stk_endb, stk_endb_exit, stk_endb_ret, stk_endl, stk_endl_exit, stk_endl_ret, stk_ops_nil, stk_q, stk_niq, niqA, flip, srcOf, stk_alloc, stk_box, stk_bsl, ↓stk_g, ↓stk_c, side, val, bside, bval, uside, uval, cside, cval, bndS, bndV, intA, isInt, lside, lval, fside, fval, faside, faval, iside, ival, sxside, sxval, sizeA, slside, slval, llside, llval, lenside, lenval, lenA, tupA, mmside, mmval, nkside, boolA, isBool, ev_t, ev_c, tget, put_s, put_n, lkside, lkval, menval, stk_mk, Option.isSome_some, isMapA, mapA, keyA, FZ_rfl, FZ_any, retOf, true_and, and_true, if_true, if_false, ↓reduceIte, decide_true, decide_false, Bool.not_true, Bool.not_false, Nat.zero_add, List.map_cons, List.map_nil, Int.toNat_natCast, strRows_len, intRows_len, List.getD_cons_zero, List.getD_cons_succ, List.length_cons, List.length_nil, List.forall_mem_cons, List.not_mem_nil, false_implies, implies_true, Int.ofNat_zero, Int.natCast_add, Int.natCast_one, Int.ofNat_one, Int.natCast_zero, isB, isU, Bool.false_eq_true, beq_self_eq_true, Bool.false_beq, Bool.true_beq, Int.natCast_nonneg, undef, strRows_take, strRows_drop, Int.toNat_zero, List.drop_zero, Bool.and_true, oneOr, List.all_cons, List.all_nil, AVal.one, Value.oneCell', beq_self_eq_true, Bool.true_and, List.take_length, hw, hw3, hstep])
      refine ⟨by omega, (), Weak.list _ (Sub.refl _) (by (try simp +decide (implicitDefEqProofs := false) only [stk_nil, stk_skip, stk_ops, stk_seq, stk_block, stk_scope, stk_exit, stk_ret, stk_code_exit, stk_code_ret, stk_ops_exit, stk_ops_ret, stk_endb, stk_endb_exit, stk_endb_ret, stk_endl, stk_endl_exit, stk_endl_ret, stk_ops_nil, stk_q, stk_niq, niqA, flip, srcOf, stk_alloc, stk_box, stk_bsl, ↓stk_g, ↓stk_c, side, val, bside, bval, uside, uval, cside, cval, bndS, bndV, intA, isInt, lside, lval, fside, fval, faside, faval, iside, ival, sxside, sxval, sizeA, slside, slval, llside, llval, lenside, lenval, lenA, tupA, mmside, mmval, nkside, boolA, isBool, ev_t, ev_c, tget, put_s, put_n, lkside, lkval, menval, stk_mk, Option.isSome_some, isMapA, mapA, keyA, FZ_rfl, FZ_any, retOf, true_and, and_true, if_true, if_false, ↓reduceIte, decide_true, decide_false, Bool.not_true, Bool.not_false, Nat.zero_add, List.map_cons, List.map_nil, Int.toNat_natCast, strRows_len, intRows_len, List.getD_cons_zero, List.getD_cons_succ, List.length_cons, List.length_nil, List.forall_mem_cons, List.not_mem_nil, false_implies, implies_true, Int.ofNat_zero, Int.natCast_add, Int.natCast_one, Int.ofNat_one, Int.natCast_zero, isB, isU, Bool.false_eq_true, beq_self_eq_true, Bool.false_beq, Bool.true_beq, Int.natCast_nonneg, undef, strRows_take, strRows_drop, Int.toNat_zero, List.drop_zero, Bool.and_true, oneOr, List.all_cons, List.all_nil, AVal.one, Value.oneCell', beq_self_eq_true, Bool.true_and, List.take_length]))⟩
    · have h1 : ¬ (i : Int) < (k : Int) := by omega
      obtain rfl : i = k := by omega
      have hw3 := wrap_in (n := sumTo sz i + sizeAt sz i) (by omega) (by omega)
      by_cases h5 : 1 < i
      · have g5 : (1 : Int) < (i : Int) := by omega
        have g6 := hmost h5
        (try simp +decide (implicitDefEqProofs := false) only [stk_nil, stk_skip, stk_ops, stk_seq, stk_block, stk_scope, stk_exit, stk_ret, stk_code_exit, stk_code_ret, stk_ops_exit, stk_ops_ret, stk_endb, stk_endb_exit, stk_endb_ret, stk_endl, stk_endl_exit, stk_endl_ret, stk_ops_nil, stk_q, stk_niq, niqA, flip, srcOf, stk_alloc, stk_box, stk_bsl, ↓stk_g, ↓stk_c, side, val, bside, bval, uside, uval, cside, cval, bndS, bndV, intA, isInt, lside, lval, fside, fval, faside, faval, iside, ival, sxside, sxval, sizeA, slside, slval, llside, llval, lenside, lenval, lenA, tupA, mmside, mmval, nkside, boolA, isBool, ev_t, ev_c, tget, put_s, put_n, lkside, lkval, menval, stk_mk, Option.isSome_some, isMapA, mapA, keyA, FZ_rfl, FZ_any, retOf, true_and, and_true, if_true, if_false, ↓reduceIte, decide_true, decide_false, Bool.not_true, Bool.not_false, Nat.zero_add, List.map_cons, List.map_nil, Int.toNat_natCast, strRows_len, intRows_len, List.getD_cons_zero, List.getD_cons_succ, List.length_cons, List.length_nil, List.forall_mem_cons, List.not_mem_nil, false_implies, implies_true, Int.ofNat_zero, Int.natCast_add, Int.natCast_one, Int.ofNat_one, Int.natCast_zero, isB, isU, Bool.false_eq_true, beq_self_eq_true, Bool.false_beq, Bool.true_beq, Int.natCast_nonneg, undef, strRows_take, strRows_drop, Int.toNat_zero, List.drop_zero, Bool.and_true, oneOr, List.all_cons, List.all_nil, AVal.one, Value.oneCell', beq_self_eq_true, Bool.true_and, List.take_length, h1, g5, g6, hlen])
        refine stk_pure (size_ok false sz i) fun v hv => ?_
        subst hv
        by_cases h7 : i = l.length
        · have g7 : (i : Int) = (l.length : Int) := by omega
          have g8 : ((l.length : Nat) : Int) = (l.length : Int) := rfl
          (try simp +decide (implicitDefEqProofs := false) only [stk_nil, stk_skip, stk_ops, stk_seq, stk_block, stk_scope, stk_exit, stk_ret, stk_code_exit, stk_code_ret, stk_ops_exit, stk_ops_ret, stk_endb, stk_endb_exit, stk_endb_ret, stk_endl, stk_endl_exit, stk_endl_ret, stk_ops_nil, stk_q, stk_niq, niqA, flip, srcOf, stk_alloc, stk_box, stk_bsl, ↓stk_g, ↓stk_c, side, val, bside, bval, uside, uval, cside, cval, bndS, bndV, intA, isInt, lside, lval, fside, fval, faside, faval, iside, ival, sxside, sxval, sizeA, slside, slval, llside, llval, lenside, lenval, lenA, tupA, mmside, mmval, nkside, boolA, isBool, ev_t, ev_c, tget, put_s, put_n, lkside, lkval, menval, stk_mk, Option.isSome_some, isMapA, mapA, keyA, FZ_rfl, FZ_any, retOf, true_and, and_true, if_true, if_false, ↓reduceIte, decide_true, decide_false, Bool.not_true, Bool.not_false, Nat.zero_add, List.map_cons, List.map_nil, Int.toNat_natCast, strRows_len, intRows_len, List.getD_cons_zero, List.getD_cons_succ, List.length_cons, List.length_nil, List.forall_mem_cons, List.not_mem_nil, false_implies, implies_true, Int.ofNat_zero, Int.natCast_add, Int.natCast_one, Int.ofNat_one, Int.natCast_zero, isB, isU, Bool.false_eq_true, beq_self_eq_true, Bool.false_beq, Bool.true_beq, Int.natCast_nonneg, undef, strRows_take, strRows_drop, Int.toNat_zero, List.drop_zero, Bool.and_true, oneOr, List.all_cons, List.all_nil, AVal.one, Value.oneCell', beq_self_eq_true, Bool.true_and, List.take_length, hlen, decide_eq_true g7])
          refine aret_pure (.inr rfl) ?_; simp +decide only [retOf, tget, if_true, if_false, ↓reduceIte]
        · have g7 : ¬ (i : Int) = (l.length : Int) := by omega
          have g8 := hfin h7
          (try simp +decide (implicitDefEqProofs := false) only [stk_nil, stk_skip, stk_ops, stk_seq, stk_block, stk_scope, stk_exit, stk_ret, stk_code_exit, stk_code_ret, stk_ops_exit, stk_ops_ret, stk_endb, stk_endb_exit, stk_endb_ret, stk_endl, stk_endl_exit, stk_endl_ret, stk_ops_nil, stk_q, stk_niq, niqA, flip, srcOf, stk_alloc, stk_box, stk_bsl, ↓stk_g, ↓stk_c, side, val, bside, bval, uside, uval, cside, cval, bndS, bndV, intA, isInt, lside, lval, fside, fval, faside, faval, iside, ival, sxside, sxval, sizeA, slside, slval, llside, llval, lenside, lenval, lenA, tupA, mmside, mmval, nkside, boolA, isBool, ev_t, ev_c, tget, put_s, put_n, lkside, lkval, menval, stk_mk, Option.isSome_some, isMapA, mapA, keyA, FZ_rfl, FZ_any, retOf, true_and, and_true, if_true, if_false, ↓reduceIte, decide_true, decide_false, Bool.not_true, Bool.not_false, Nat.zero_add, List.map_cons, List.map_nil, Int.toNat_natCast, strRows_len, intRows_len, List.getD_cons_zero, List.getD_cons_succ, List.length_cons, List.length_nil, List.forall_mem_cons, List.not_mem_nil, false_implies, implies_true, Int.ofNat_zero, Int.natCast_add, Int.natCast_one, Int.ofNat_one, Int.natCast_zero, isB, isU, Bool.false_eq_true, beq_self_eq_true, Bool.false_beq, Bool.true_beq, Int.natCast_nonneg, undef, strRows_take, strRows_drop, Int.toNat_zero, List.drop_zero, Bool.and_true, oneOr, List.all_cons, List.all_nil, AVal.one, Value.oneCell', beq_self_eq_true, Bool.true_and, List.take_length, hlen, g7, hw3, g8])
          refine aret_pure (.inr rfl) ?_; simp +decide only [retOf, tget, if_true, if_false, ↓reduceIte]
      · have g5 : ¬ (1 : Int) < (i : Int) := by omega
        (try simp +decide (implicitDefEqProofs := false) only [stk_nil, stk_skip, stk_ops, stk_seq, stk_block, stk_scope, stk_exit, stk_ret, stk_code_exit, stk_code_ret, stk_ops_exit, stk_ops_ret, stk_endb, stk_endb_exit, stk_endb_ret, stk_endl, stk_endl_exit, stk_endl_ret, stk_ops_nil, stk_q, stk_niq, niqA, flip, srcOf, stk_alloc, stk_box, stk_bsl, ↓stk_g, ↓stk_c, side, val, bside, bval, uside, uval, cside, cval, bndS, bndV, intA, isInt, lside, lval, fside, fval, faside, faval, iside, ival, sxside, sxval, sizeA, slside, slval, llside, llval, lenside, lenval, lenA, tupA, mmside, mmval, nkside, boolA, isBool, ev_t, ev_c, tget, put_s, put_n, lkside, lkval, menval, stk_mk, Option.isSome_some, isMapA, mapA, keyA, FZ_rfl, FZ_any, retOf, true_and, and_true, if_true, if_false, ↓reduceIte, decide_true, decide_false, Bool.not_true, Bool.not_false, Nat.zero_add, List.map_cons, List.map_nil, Int.toNat_natCast, strRows_len, intRows_len, List.getD_cons_zero, List.getD_cons_succ, List.length_cons, List.length_nil, List.forall_mem_cons, List.not_mem_nil, false_implies, implies_true, Int.ofNat_zero, Int.natCast_add, Int.natCast_one, Int.ofNat_one, Int.natCast_zero, isB, isU, Bool.false_eq_true, beq_self_eq_true, Bool.false_beq, Bool.true_beq, Int.natCast_nonneg, undef, strRows_take, strRows_drop, Int.toNat_zero, List.drop_zero, Bool.and_true, oneOr, List.all_cons, List.all_nil, AVal.one, Value.oneCell', beq_self_eq_true, Bool.true_and, List.take_length, h1, g5, hlen])
        refine stk_pure (size_ok false sz i) fun v hv => ?_
        subst hv
        by_cases h7 : i = l.length
        · have g7 : (i : Int) = (l.length : Int) := by omega
          (try simp +decide (implicitDefEqProofs := false) only [stk_nil, stk_skip, stk_ops, stk_seq, stk_block, stk_scope, stk_exit, stk_ret, stk_code_exit, stk_code_ret, stk_ops_exit, stk_ops_ret, stk_endb, stk_endb_exit, stk_endb_ret, stk_endl, stk_endl_exit, stk_endl_ret, stk_ops_nil, stk_q, stk_niq, niqA, flip, srcOf, stk_alloc, stk_box, stk_bsl, ↓stk_g, ↓stk_c, side, val, bside, bval, uside, uval, cside, cval, bndS, bndV, intA, isInt, lside, lval, fside, fval, faside, faval, iside, ival, sxside, sxval, sizeA, slside, slval, llside, llval, lenside, lenval, lenA, tupA, mmside, mmval, nkside, boolA, isBool, ev_t, ev_c, tget, put_s, put_n, lkside, lkval, menval, stk_mk, Option.isSome_some, isMapA, mapA, keyA, FZ_rfl, FZ_any, retOf, true_and, and_true, if_true, if_false, ↓reduceIte, decide_true, decide_false, Bool.not_true, Bool.not_false, Nat.zero_add, List.map_cons, List.map_nil, Int.toNat_natCast, strRows_len, intRows_len, List.getD_cons_zero, List.getD_cons_succ, List.length_cons, List.length_nil, List.forall_mem_cons, List.not_mem_nil, false_implies, implies_true, Int.ofNat_zero, Int.natCast_add, Int.natCast_one, Int.ofNat_one, Int.natCast_zero, isB, isU, Bool.false_eq_true, beq_self_eq_true, Bool.false_beq, Bool.true_beq, Int.natCast_nonneg, undef, strRows_take, strRows_drop, Int.toNat_zero, List.drop_zero, Bool.and_true, oneOr, List.all_cons, List.all_nil, AVal.one, Value.oneCell', beq_self_eq_true, Bool.true_and, List.take_length, hlen, decide_eq_true g7])
          refine aret_pure (.inr rfl) ?_; simp +decide only [retOf, tget, if_true, if_false, ↓reduceIte]
        · have g7 : ¬ (i : Int) = (l.length : Int) := by omega
          have g8 := hfin h7
          (try simp +decide (implicitDefEqProofs := false) only [stk_nil, stk_skip, stk_ops, stk_seq, stk_block, stk_scope, stk_exit, stk_ret, stk_code_exit, stk_code_ret, stk_ops_exit, stk_ops_ret, stk_endb, stk_endb_exit, stk_endb_ret, stk_endl, stk_endl_exit, stk_endl_ret, stk_ops_nil, stk_q, stk_niq, niqA, flip, srcOf, stk_alloc, stk_box, stk_bsl, ↓stk_g, ↓stk_c, side, val, bside, bval, uside, uval, cside, cval, bndS, bndV, intA, isInt, lside, lval, fside, fval, faside, faval, iside, ival, sxside, sxval, sizeA, slside, slval, llside, llval, lenside, lenval, lenA, tupA, mmside, mmval, nkside, boolA, isBool, ev_t, ev_c, tget, put_s, put_n, lkside, lkval, menval, stk_mk, Option.isSome_some, isMapA, mapA, keyA, FZ_rfl, FZ_any, retOf, true_and, and_true, if_true, if_false, ↓reduceIte, decide_true, decide_false, Bool.not_true, Bool.not_false, Nat.zero_add, List.map_cons, List.map_nil, Int.toNat_natCast, strRows_len, intRows_len, List.getD_cons_zero, List.getD_cons_succ, List.length_cons, List.length_nil, List.forall_mem_cons, List.not_mem_nil, false_implies, implies_true, Int.ofNat_zero, Int.natCast_add, Int.natCast_one, Int.ofNat_one, Int.natCast_zero, isB, isU, Bool.false_eq_true, beq_self_eq_true, Bool.false_beq, Bool.true_beq, Int.natCast_nonneg, undef, strRows_take, strRows_drop, Int.toNat_zero, List.drop_zero, Bool.and_true, oneOr, List.all_cons, List.all_nil, AVal.one, Value.oneCell', beq_self_eq_true, Bool.true_and, List.take_length, hlen, g7, hw3, g8])
          refine aret_pure (.inr rfl) ?_; simp +decide only [retOf, tget, if_true, if_false, ↓reduceIte]
end Go.Proofs.Ythigakhmggbliaa.M
