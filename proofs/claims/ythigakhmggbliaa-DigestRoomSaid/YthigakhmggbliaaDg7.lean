/-
  Layer 16: the laws' walks: what is lacked joined to what is had; what rises; of what has nothing all is lacked.
-/
import Derived.Test.YthigakhmggbliaaDg6
namespace Go.Proofs.Ythigakhmggbliaa.M
open Go.RowKit
set_option linter.unusedVariables false
set_option linter.unusedSimpArgs false
theorem join_len (a b : List Str) : (joinS a b).length ≤ a.length + b.length := by
  have h1 := fold_len b (a.foldl putS [])
  have h2 := fold_len a []
  unfold joinS; simp only [List.length_nil] at h2; omega
theorem join_lacks (a b : List Str) : joinS a (lacksS a b) = joinS a b := rises_eq (joinS_rises _ _) (joinS_rises _ _) fun z => by
  rw [joinS_mem, joinS_mem, lacksS_mem]
  by_cases h : z ∈ a <;> simp [h]
theorem join_comm (a b : List Str) : joinS b a = joinS a b := rises_eq (joinS_rises _ _) (joinS_rises _ _) fun z => by rw [joinS_mem, joinS_mem, Or.comm]
theorem lacks_none {a b : List Str} (h : ∀ z, z ∈ b → z ∈ a) : lacksS a b = [] := by
  cases e : lacksS a b with
  | nil => rfl
  | cons z l =>
    have := (lacksS_mem a b z).1 (by rw [e]; simp)
    exact absurd (h z this.1) this.2
theorem lacks_join1 (a b : List Str) : lacksS (joinS a b) b = [] := lacks_none fun z h => (joinS_mem a b z).2 (.inr h)
theorem lacks_join2 (a b : List Str) : lacksS (joinS a b) a = [] := lacks_none fun z h => (joinS_mem a b z).2 (.inl h)
theorem lacks_self (a : List Str) : lacksS a a = [] := lacks_none fun z h => h
theorem getD_mem {l : List Str} {i : Nat} (h : i < l.length) : l.getD i ByteArray.empty ∈ l := mem_iff_getD.2 ⟨i, h, rfl⟩
def c_law_Meets : AFn := ⟨2, 83, [4],
  .seq (.ops [⟨(some 4), none, .q (.mv (.const (.bool false)))⟩])
  (.seq (.ops [⟨(some 14), none, .e (.call 9 [])⟩,
      ⟨(some 5), none, .q (.mv (.tmp 14))⟩])
  (.seq (.ops [⟨(some 15), none, .q (.mv (.tmp 0))⟩,
      ⟨(some 16), none, .e (.call 10 [(.tmp 15)])⟩,
      ⟨(some 6), none, .q (.mv (.tmp 16))⟩])
  (.seq (.ops [⟨(some 17), none, .q (.mv (.tmp 1))⟩,
      ⟨(some 18), none, .e (.call 10 [(.tmp 17)])⟩,
      ⟨(some 7), none, .q (.mv (.tmp 18))⟩])
  (.seq (.seq (.ops [⟨(some 19), none, .q (.mv (.tmp 6))⟩,
      ⟨(some 20), none, .q (.un .not (.tmp 19))⟩,
      ⟨(some 21), none, .q (.mv (.tmp 20))⟩,
      ⟨(some 22), (some (21, false)), .q (.mv (.tmp 7))⟩,
      ⟨(some 23), (some (21, false)), .q (.un .not (.tmp 22))⟩,
      ⟨(some 24), none, .q (.pick (.tmp 21) (.const (.bool true)) (.tmp 23))⟩])
  (.cond (.tmp 24)
    (.seq (.ops [⟨(some 25), none, .q (.mv (.tmp 5))⟩,
        ⟨(some 4), none, .q (.mv (.tmp 25))⟩])
    (.ret))
    (.skip)))
  (.seq (.ops [⟨(some 26), none, .q (.mv (.tmp 0))⟩,
      ⟨(some 27), none, .q (.mv (.tmp 1))⟩,
      ⟨(some 28), none, .e (.call 12 [(.tmp 26), (.tmp 27)])⟩,
      ⟨(some 8), none, .q (.mv (.tmp 28))⟩])
  (.seq (.ops [⟨(some 29), none, .q (.mv (.tmp 0))⟩,
      ⟨(some 30), none, .q (.mv (.tmp 1))⟩,
      ⟨(some 31), none, .e (.call 14 [(.tmp 29), (.tmp 30)])⟩,
      ⟨(some 9), none, .q (.mv (.tmp 31))⟩])
  (.seq (.seq (.ops [⟨(some 10), none, .q (.mv (.const (.int .i64 0)))⟩])
  (.block 0 (.loop (.seq (.seq (.ops [⟨(some 32), none, .q (.mv (.tmp 10))⟩,
          ⟨(some 33), none, .q (.mv (.tmp 8))⟩,
          ⟨(some 34), none, .q (.len false (.tmp 33))⟩,
          ⟨(some 35), none, .q (.bin .lss .num (.tmp 32) (.tmp 34))⟩])
      (.cond (.tmp 35)
        (.skip)
        (.exit 0)))
      (.seq (.block 1 (.seq (.ops [⟨(some 38), none, .q (.mv (.tmp 0))⟩,
            ⟨(some 39), none, .q (.mv (.tmp 8))⟩,
            ⟨(some 40), none, .q (.mv (.tmp 10))⟩,
            ⟨(some 41), none, .q (.ixa 1 (.tmp 39) (.tmp 40))⟩,
            ⟨(some 42), none, .q (.ld false 1 (.tmp 41))⟩,
            ⟨(some 43), none, .e (.call 19 [(.tmp 38), (.tmp 42)])⟩,
            ⟨(some 11), none, .q (.mv (.tmp 43))⟩])
        (.seq (.ops [⟨(some 44), none, .q (.mv (.tmp 11))⟩])
        (.cond (.tmp 44)
          (.seq (.ops [⟨(some 4), none, .q (.mv (.const (.bool false)))⟩])
          (.ret))
          (.skip)))))
      (.ops [⟨(some 36), none, .q (.mv (.tmp 10))⟩,
          ⟨(some 37), none, .q (.bin .add .num (.tmp 36) (.const (.int .i64 1)))⟩,
          ⟨(some 10), none, .q (.mv (.tmp 37))⟩]))))))
  (.seq (.ops [⟨(some 45), none, .q (.mv (.tmp 0))⟩,
      ⟨(some 46), none, .q (.mv (.tmp 8))⟩,
      ⟨(some 47), none, .e (.call 14 [(.tmp 45), (.tmp 46)])⟩,
      ⟨(some 48), none, .q (.mv (.tmp 9))⟩,
      ⟨(some 49), none, .e (.call 11 [(.tmp 47), (.tmp 48)])⟩,
      ⟨(some 12), none, .q (.mv (.tmp 49))⟩])
  (.seq (.ops [⟨(some 50), none, .q (.mv (.tmp 1))⟩,
      ⟨(some 51), none, .q (.mv (.tmp 0))⟩,
      ⟨(some 52), none, .e (.call 14 [(.tmp 50), (.tmp 51)])⟩,
      ⟨(some 53), none, .q (.mv (.tmp 9))⟩,
      ⟨(some 54), none, .e (.call 11 [(.tmp 52), (.tmp 53)])⟩,
      ⟨(some 13), none, .q (.mv (.tmp 54))⟩])
  (.seq (.ops [⟨(some 55), none, .q (.mv (.tmp 5))⟩,
      ⟨(some 56), none, .q (.mv (.tmp 55))⟩,
      ⟨(some 57), (some (56, true)), .q (.mv (.tmp 12))⟩,
      ⟨(some 58), none, .q (.pick (.tmp 56) (.tmp 57) (.const (.bool false)))⟩,
      ⟨(some 59), none, .q (.mv (.tmp 58))⟩,
      ⟨(some 60), (some (59, true)), .q (.mv (.tmp 13))⟩,
      ⟨(some 61), none, .q (.pick (.tmp 59) (.tmp 60) (.const (.bool false)))⟩,
      ⟨(some 62), none, .q (.mv (.tmp 61))⟩,
      ⟨(some 63), (some (62, true)), .q (.mv (.tmp 9))⟩,
      ⟨(some 64), (some (62, true)), .q (.mv (.tmp 1))⟩,
      ⟨(some 65), (some (62, true)), .e (.call 12 [(.tmp 63), (.tmp 64)])⟩,
      ⟨(some 66), (some (62, true)), .q (.len false (.tmp 65))⟩,
      ⟨(some 67), (some (62, true)), .q (.bin .eql .num (.tmp 66) (.const (.int .i64 0)))⟩,
      ⟨(some 68), none, .q (.pick (.tmp 62) (.tmp 67) (.const (.bool false)))⟩,
      ⟨(some 69), none, .q (.mv (.tmp 68))⟩,
      ⟨(some 70), (some (69, true)), .q (.mv (.tmp 9))⟩,
      ⟨(some 71), (some (69, true)), .q (.mv (.tmp 0))⟩,
      ⟨(some 72), (some (69, true)), .e (.call 12 [(.tmp 70), (.tmp 71)])⟩,
      ⟨(some 73), (some (69, true)), .q (.len false (.tmp 72))⟩,
      ⟨(some 74), (some (69, true)), .q (.bin .eql .num (.tmp 73) (.const (.int .i64 0)))⟩,
      ⟨(some 75), none, .q (.pick (.tmp 69) (.tmp 74) (.const (.bool false)))⟩,
      ⟨(some 76), none, .q (.mv (.tmp 75))⟩,
      ⟨(some 77), (some (76, true)), .q (.mv (.tmp 0))⟩,
      ⟨(some 78), (some (76, true)), .q (.mv (.tmp 0))⟩,
      ⟨(some 79), (some (76, true)), .e (.call 12 [(.tmp 77), (.tmp 78)])⟩,
      ⟨(some 80), (some (76, true)), .q (.len false (.tmp 79))⟩,
      ⟨(some 81), (some (76, true)), .q (.bin .eql .num (.tmp 80) (.const (.int .i64 0)))⟩,
      ⟨(some 82), none, .q (.pick (.tmp 76) (.tmp 81) (.const (.bool false)))⟩,
      ⟨(some 4), none, .q (.mv (.tmp 82))⟩])
  (.ret)))))))))))⟩
theorem k_law_Meets : compF Try.prog 5 = some c_law_Meets := by kernel_rfl
set_option maxHeartbeats 4000000 in
theorem meets_law {W : World} (a b : List Str) (ha : a.length ≤ maxLen) (hb : b.length ≤ maxLen) : ACalls Try.prog W 5 [.sl false 1 (strRows a), .sl false 1 (strRows b)] AHeap.none (fun r _ => r = .v (.bool true)) := by
  refine fn_run follows k_law_Meets rfl ?_
  simp only [c_law_Meets, List.zipIdx_cons, List.zipIdx_nil, List.map_cons, List.map_nil, Nat.zero_add]
  (try simp +decide (implicitDefEqProofs := false) only [stk_nil, stk_skip, stk_ops, stk_seq, stk_block, stk_scope, stk_exit, stk_ret, stk_code_exit, stk_code_ret, stk_ops_exit, stk_ops_ret, stk_endb, stk_endb_exit, stk_endb_ret, stk_endl, stk_endl_exit, stk_endl_ret, stk_ops_nil, stk_q, stk_niq, niqA, flip, srcOf, stk_alloc, stk_box, stk_bsl, ↓stk_g, ↓stk_c, side, val, bside, bval, uside, uval, cside, cval, bndS, bndV, intA, isInt, lside, lval, fside, fval, faside, faval, iside, ival, sxside, sxval, sizeA, slside, slval, llside, llval, lenside, lenval, lenA, tupA, mmside, mmval, nkside, boolA, isBool, ev_t, ev_c, tget, put_s, put_n, lkside, lkval, menval, stk_mk, Option.isSome_some, isMapA, mapA, keyA, FZ_rfl, FZ_any, retOf, true_and, and_true, if_true, if_false, ↓reduceIte, decide_true, decide_false, Bool.not_true, Bool.not_false, Nat.zero_add, List.map_cons, List.map_nil, Int.toNat_natCast, strRows_len, intRows_len, List.getD_cons_zero, List.getD_cons_succ, List.length_cons, List.length_nil, List.forall_mem_cons, List.not_mem_nil, false_implies, implies_true, Int.ofNat_zero, Int.natCast_add, Int.natCast_one, Int.ofNat_one, Int.natCast_zero, isB, isU, Bool.false_eq_true, beq_self_eq_true, Bool.false_beq, Bool.true_beq, Int.natCast_nonneg, undef, strRows_take, strRows_drop, Int.toNat_zero, List.drop_zero, Bool.and_true, oneOr, List.all_cons, List.all_nil, AVal.one, Value.oneCell', beq_self_eq_true, Bool.true_and, List.take_length])
  refine stk_pure (awake_ok) fun v hv => ?_
  subst hv
  (try simp +decide (implicitDefEqProofs := false) only [stk_nil, stk_skip, stk_ops, stk_seq, stk_block, stk_scope, stk_exit, stk_ret, stk_code_exit, stk_code_ret, stk_ops_exit, stk_ops_ret, stk_endb, stk_endb_exit, stk_endb_ret, stk_endl, stk_endl_exit, stk_endl_ret, stk_ops_nil, stk_q, stk_niq, niqA, flip, srcOf, stk_alloc, stk_box, stk_bsl, ↓stk_g, ↓stk_c, side, val, bside, bval, uside, uval, cside, cval, bndS, bndV, intA, isInt, lside, lval, fside, fval, faside, faval, iside, ival, sxside, sxval, sizeA, slside, slval, llside, llval, lenside, lenval, lenA, tupA, mmside, mmval, nkside, boolA, isBool, ev_t, ev_c, tget, put_s, put_n, lkside, lkval, menval, stk_mk, Option.isSome_some, isMapA, mapA, keyA, FZ_rfl, FZ_any, retOf, true_and, and_true, if_true, if_false, ↓reduceIte, decide_true, decide_false, Bool.not_true, Bool.not_false, Nat.zero_add, List.map_cons, List.map_nil, Int.toNat_natCast, strRows_len, intRows_len, List.getD_cons_zero, List.getD_cons_succ, List.length_cons, List.length_nil, List.forall_mem_cons, List.not_mem_nil, false_implies, implies_true, Int.ofNat_zero, Int.natCast_add, Int.natCast_one, Int.ofNat_one, Int.natCast_zero, isB, isU, Bool.false_eq_true, beq_self_eq_true, Bool.false_beq, Bool.true_beq, Int.natCast_nonneg, undef, strRows_take, strRows_drop, Int.toNat_zero, List.drop_zero, Bool.and_true, oneOr, List.all_cons, List.all_nil, AVal.one, Value.oneCell', beq_self_eq_true, Bool.true_and, List.take_length])
  refine stk_pure (light_ok false a ha) fun v hv => ?_
  obtain ⟨la, rfl, hla⟩ := hv
  (try simp +decide (implicitDefEqProofs := false) only [stk_nil, stk_skip, stk_ops, stk_seq, stk_block, stk_scope, stk_exit, stk_ret, stk_code_exit, stk_code_ret, stk_ops_exit, stk_ops_ret, stk_endb, stk_endb_exit, stk_endb_ret, stk_endl, stk_endl_exit, stk_endl_ret, stk_ops_nil, stk_q, stk_niq, niqA, flip, srcOf, stk_alloc, stk_box, stk_bsl, ↓stk_g, ↓stk_c, side, val, bside, bval, uside, uval, cside, cval, bndS, bndV, intA, isInt, lside, lval, fside, fval, faside, faval, iside, ival, sxside, sxval, sizeA, slside, slval, llside, llval, lenside, lenval, lenA, tupA, mmside, mmval, nkside, boolA, isBool, ev_t, ev_c, tget, put_s, put_n, lkside, lkval, menval, stk_mk, Option.isSome_some, isMapA, mapA, keyA, FZ_rfl, FZ_any, retOf, true_and, and_true, if_true, if_false, ↓reduceIte, decide_true, decide_false, Bool.not_true, Bool.not_false, Nat.zero_add, List.map_cons, List.map_nil, Int.toNat_natCast, strRows_len, intRows_len, List.getD_cons_zero, List.getD_cons_succ, List.length_cons, List.length_nil, List.forall_mem_cons, List.not_mem_nil, false_implies, implies_true, Int.ofNat_zero, Int.natCast_add, Int.natCast_one, Int.ofNat_one, Int.natCast_zero, isB, isU, Bool.false_eq_true, beq_self_eq_true, Bool.false_beq, Bool.true_beq, Int.natCast_nonneg, undef, strRows_take, strRows_drop, Int.toNat_zero, List.drop_zero, Bool.and_true, oneOr, List.all_cons, List.all_nil, AVal.one, Value.oneCell', beq_self_eq_true, Bool.true_and, List.take_length])
  refine stk_pure (light_ok false b hb) fun v hv => ?_
  obtain ⟨lb, rfl, hlb⟩ := hv
  cases la
  · (try simp +decide (implicitDefEqProofs := false) only [stk_nil, stk_skip, stk_ops, stk_seq, stk_block, stk_scope, stk_exit, stk_ret, stk_code_exit, stk_code_ret, stk_ops_exit, stk_ops_ret, stk_endb, stk_endb_exit, stk_endb_ret, stk_endl, stk_endl_exit, stk_endl_ret, stk_ops_nil, stk_q, stk_niq, niqA, flip, srcOf, stk_alloc, stk_box, stk_bsl, ↓stk_g, ↓stk_c, side, val, bside, bval, uside, uval, cside, cval, bndS, bndV, intA, isInt, lside, lval, fside, fval, faside, faval, iside, ival, sxside, sxval, sizeA, slside, slval, llside, llval, lenside, lenval, lenA, tupA, mmside, mmval, nkside, boolA, isBool, ev_t, ev_c, tget, put_s, put_n, lkside, lkval, menval, stk_mk, Option.isSome_some, isMapA, mapA, keyA, FZ_rfl, FZ_any, retOf, true_and, and_true, if_true, if_false, ↓reduceIte, decide_true, decide_false, Bool.not_true, Bool.not_false, Nat.zero_add, List.map_cons, List.map_nil, Int.toNat_natCast, strRows_len, intRows_len, List.getD_cons_zero, List.getD_cons_succ, List.length_cons, List.length_nil, List.forall_mem_cons, List.not_mem_nil, false_implies, implies_true, Int.ofNat_zero, Int.natCast_add, Int.natCast_one, Int.ofNat_one, Int.natCast_zero, isB, isU, Bool.false_eq_true, beq_self_eq_true, Bool.false_beq, Bool.true_beq, Int.natCast_nonneg, undef, strRows_take, strRows_drop, Int.toNat_zero, List.drop_zero, Bool.and_true, oneOr, List.all_cons, List.all_nil, AVal.one, Value.oneCell', beq_self_eq_true, Bool.true_and, List.take_length])
    refine aret_pure (.inr rfl) ?_; simp +decide only [retOf, tget, if_true, if_false, ↓reduceIte]
  cases lb
  · (try simp +decide (implicitDefEqProofs := false) only [stk_nil, stk_skip, stk_ops, stk_seq, stk_block, stk_scope, stk_exit, stk_ret, stk_code_exit, stk_code_ret, stk_ops_exit, stk_ops_ret, stk_endb, stk_endb_exit, stk_endb_ret, stk_endl, stk_endl_exit, stk_endl_ret, stk_ops_nil, stk_q, stk_niq, niqA, flip, srcOf, stk_alloc, stk_box, stk_bsl, ↓stk_g, ↓stk_c, side, val, bside, bval, uside, uval, cside, cval, bndS, bndV, intA, isInt, lside, lval, fside, fval, faside, faval, iside, ival, sxside, sxval, sizeA, slside, slval, llside, llval, lenside, lenval, lenA, tupA, mmside, mmval, nkside, boolA, isBool, ev_t, ev_c, tget, put_s, put_n, lkside, lkval, menval, stk_mk, Option.isSome_some, isMapA, mapA, keyA, FZ_rfl, FZ_any, retOf, true_and, and_true, if_true, if_false, ↓reduceIte, decide_true, decide_false, Bool.not_true, Bool.not_false, Nat.zero_add, List.map_cons, List.map_nil, Int.toNat_natCast, strRows_len, intRows_len, List.getD_cons_zero, List.getD_cons_succ, List.length_cons, List.length_nil, List.forall_mem_cons, List.not_mem_nil, false_implies, implies_true, Int.ofNat_zero, Int.natCast_add, Int.natCast_one, Int.ofNat_one, Int.natCast_zero, isB, isU, Bool.false_eq_true, beq_self_eq_true, Bool.false_beq, Bool.true_beq, Int.natCast_nonneg, undef, strRows_take, strRows_drop, Int.toNat_zero, List.drop_zero, Bool.and_true, oneOr, List.all_cons, List.all_nil, AVal.one, Value.oneCell', beq_self_eq_true, Bool.true_and, List.take_length])
    refine aret_pure (.inr rfl) ?_; simp +decide only [retOf, tget, if_true, if_false, ↓reduceIte]
  have ha2 := hla rfl
  have hb2 := hlb rfl
  have hl1 := lacks_len a b
  have hj1 := join_len a b
  have hj2 := join_len b a
  (try simp +decide (implicitDefEqProofs := false) only [stk_nil, stk_skip, stk_ops, stk_seq, stk_block, stk_scope, stk_exit, stk_ret, stk_code_exit, stk_code_ret, stk_ops_exit, stk_ops_ret, stk_endb, stk_endb_exit, stk_endb_ret, stk_endl, stk_endl_exit, stk_endl_ret, stk_ops_nil, stk_q, stk_niq, niqA, flip, srcOf, stk_alloc, stk_box, stk_bsl, ↓stk_g, ↓stk_c, side, val, bside, bval, uside, uval, cside, cval, bndS, bndV, intA, isInt, lside, lval, fside, fval, faside, faval, iside, ival, sxside, sxval, sizeA, slside, slval, llside, llval, lenside, lenval, lenA, tupA, mmside, mmval, nkside, boolA, isBool, ev_t, ev_c, tget, put_s, put_n, lkside, lkval, menval, stk_mk, Option.isSome_some, isMapA, mapA, keyA, FZ_rfl, FZ_any, retOf, true_and, and_true, if_true, if_false, ↓reduceIte, decide_true, decide_false, Bool.not_true, Bool.not_false, Nat.zero_add, List.map_cons, List.map_nil, Int.toNat_natCast, strRows_len, intRows_len, List.getD_cons_zero, List.getD_cons_succ, List.length_cons, List.length_nil, List.forall_mem_cons, List.not_mem_nil, false_implies, implies_true, Int.ofNat_zero, Int.natCast_add, Int.natCast_one, Int.ofNat_one, Int.natCast_zero, isB, isU, Bool.false_eq_true, beq_self_eq_true, Bool.false_beq, Bool.true_beq, Int.natCast_nonneg, undef, strRows_take, strRows_drop, Int.toNat_zero, List.drop_zero, Bool.and_true, oneOr, List.all_cons, List.all_nil, AVal.one, Value.oneCell', beq_self_eq_true, Bool.true_and, List.take_length])
  refine stk_pure (lacks_ok false false a b (by omega) (by omega)) fun v hv => ?_
  subst hv
  (try simp +decide (implicitDefEqProofs := false) only [stk_nil, stk_skip, stk_ops, stk_seq, stk_block, stk_scope, stk_exit, stk_ret, stk_code_exit, stk_code_ret, stk_ops_exit, stk_ops_ret, stk_endb, stk_endb_exit, stk_endb_ret, stk_endl, stk_endl_exit, stk_endl_ret, stk_ops_nil, stk_q, stk_niq, niqA, flip, srcOf, stk_alloc, stk_box, stk_bsl, ↓stk_g, ↓stk_c, side, val, bside, bval, uside, uval, cside, cval, bndS, bndV, intA, isInt, lside, lval, fside, fval, faside, faval, iside, ival, sxside, sxval, sizeA, slside, slval, llside, llval, lenside, lenval, lenA, tupA, mmside, mmval, nkside, boolA, isBool, ev_t, ev_c, tget, put_s, put_n, lkside, lkval, menval, stk_mk, Option.isSome_some, isMapA, mapA, keyA, FZ_rfl, FZ_any, retOf, true_and, and_true, if_true, if_false, ↓reduceIte, decide_true, decide_false, Bool.not_true, Bool.not_false, Nat.zero_add, List.map_cons, List.map_nil, Int.toNat_natCast, strRows_len, intRows_len, List.getD_cons_zero, List.getD_cons_succ, List.length_cons, List.length_nil, List.forall_mem_cons, List.not_mem_nil, false_implies, implies_true, Int.ofNat_zero, Int.natCast_add, Int.natCast_one, Int.ofNat_one, Int.natCast_zero, isB, isU, Bool.false_eq_true, beq_self_eq_true, Bool.false_beq, Bool.true_beq, Int.natCast_nonneg, undef, strRows_take, strRows_drop, Int.toNat_zero, List.drop_zero, Bool.and_true, oneOr, List.all_cons, List.all_nil, AVal.one, Value.oneCell', beq_self_eq_true, Bool.true_and, List.take_length])
  refine stk_pure (join_ok false false a b (by omega) (by omega)) fun v hv => ?_
  subst hv
  (try simp +decide (implicitDefEqProofs := false) only [stk_nil, stk_skip, stk_ops, stk_seq, stk_block, stk_scope, stk_exit, stk_ret, stk_code_exit, stk_code_ret, stk_ops_exit, stk_ops_ret, stk_endb, stk_endb_exit, stk_endb_ret, stk_endl, stk_endl_exit, stk_endl_ret, stk_ops_nil, stk_q, stk_niq, niqA, flip, srcOf, stk_alloc, stk_box, stk_bsl, ↓stk_g, ↓stk_c, side, val, bside, bval, uside, uval, cside, cval, bndS, bndV, intA, isInt, lside, lval, fside, fval, faside, faval, iside, ival, sxside, sxval, sizeA, slside, slval, llside, llval, lenside, lenval, lenA, tupA, mmside, mmval, nkside, boolA, isBool, ev_t, ev_c, tget, put_s, put_n, lkside, lkval, menval, stk_mk, Option.isSome_some, isMapA, mapA, keyA, FZ_rfl, FZ_any, retOf, true_and, and_true, if_true, if_false, ↓reduceIte, decide_true, decide_false, Bool.not_true, Bool.not_false, Nat.zero_add, List.map_cons, List.map_nil, Int.toNat_natCast, strRows_len, intRows_len, List.getD_cons_zero, List.getD_cons_succ, List.length_cons, List.length_nil, List.forall_mem_cons, List.not_mem_nil, false_implies, implies_true, Int.ofNat_zero, Int.natCast_add, Int.natCast_one, Int.ofNat_one, Int.natCast_zero, isB, isU, Bool.false_eq_true, beq_self_eq_true, Bool.false_beq, Bool.true_beq, Int.natCast_nonneg, undef, strRows_take, strRows_drop, Int.toNat_zero, List.drop_zero, Bool.and_true, oneOr, List.all_cons, List.all_nil, AVal.one, Value.oneCell', beq_self_eq_true, Bool.true_and, List.take_length])
  refine stk_up (α := Unit) (lacksS a b).length (fun i _ => ⟨[(10, .v (.int .i64 i)), (8, .sl false 1 (strRows (lacksS a b))), (9, .sl false 1 (strRows (joinS a b))), (5, .v (.bool true)), (0, .sl false 1 (strRows a)), (1, .sl false 1 (strRows b))], AHeap.none⟩) (fun i _ => True) () (Weak.list _ (Sub.refl _) (by (try simp +decide (implicitDefEqProofs := false) only [stk_nil, stk_skip, stk_ops, stk_seq, stk_block, stk_scope, stk_exit, stk_ret, stk_code_exit, stk_code_ret, stk_ops_exit, stk_ops_ret, stk_endb, stk_endb_exit, stk_endb_ret, stk_endl, stk_endl_exit, stk_endl_ret, stk_ops_nil, stk_q, stk_niq, niqA, flip, srcOf, stk_alloc, stk_box, stk_bsl, ↓stk_g, ↓stk_c, side, val, bside, bval, uside, uval, cside, cval, bndS, bndV, intA, isInt, lside, lval, fside, fval, faside, faval, iside, ival, sxside, sxval, sizeA, slside, slval, llside, llval, lenside, lenval, lenA, tupA, mmside, mmval, nkside, boolA, isBool, ev_t, ev_c, tget, put_s, put_n, lkside, lkval, menval, stk_mk, Option.isSome_some, isMapA, mapA, keyA, FZ_rfl, FZ_any, retOf, true_and, and_true, if_true, if_false, ↓reduceIte, decide_true, decide_false, Bool.not_true, Bool.not_false, Nat.zero_add, List.map_cons, List.map_nil, Int.toNat_natCast, strRows_len, intRows_len, List.getD_cons_zero, List.getD_cons_succ, List.length_cons, List.length_nil, List.forall_mem_cons, List.not_mem_nil, false_implies, implies_true, Int.ofNat_zero, Int.natCast_add, Int.natCast_one, Int.ofNat_one, Int.natCast_zero, isB, isU, Bool.false_eq_true, beq_self_eq_true, Bool.false_beq, Bool.true_beq, Int.natCast_nonneg, undef, strRows_take, strRows_drop, Int.toNat_zero, List.drop_zero, Bool.and_true, oneOr, List.all_cons, List.all_nil, AVal.one, Value.oneCell', beq_self_eq_true, Bool.true_and, List.take_length]))) trivial ?_
  rintro i _ hi -
  by_cases hl : i < (lacksS a b).length
  · have h1 : (i : Int) < ((lacksS a b).length : Int) := by omega
    have hg := strRows_get hl
    have hw := wrap_in (n := i + 1) (by omega) (by omega)
    have hno : (lacksS a b).getD i ByteArray.empty ∉ a := ((lacksS_mem a b _).1 (getD_mem hl)).2
    (try simp +decide (implicitDefEqProofs := false) only [stk_nil, stk_skip, stk_ops, stk_seq, stk_block, stk_scope, stk_exit, stk_ret, stk_code_exit, stk_code_ret, stk_ops_exit, stk_ops_ret, stk_endb, stk_endb_exit, stk_endb_ret, stk_endl, stk_endl_exit, stk_endl_ret, stk_ops_nil, stk_q, stk_niq, niqA, flip, srcOf, stk_alloc, stk_box, stk_bsl, ↓stk_g, ↓stk_c, side, val, bside, bval, uside, uval, cside, cval, bndS, bndV, intA, isInt, lside, lval, fside, fval, faside, faval, iside, ival, sxside, sxval, sizeA, slside, slval, llside, llval, lenside, lenval, lenA, tupA, mmside, mmval, nkside, boolA, isBool, ev_t, ev_c, tget, put_s, put_n, lkside, lkval, menval, stk_mk, Option.isSome_some, isMapA, mapA, keyA, FZ_rfl, FZ_any, retOf, true_and, and_true, if_true, if_false, ↓reduceIte, decide_true, decide_false, Bool.not_true, Bool.not_false, Nat.zero_add, List.map_cons, List.map_nil, Int.toNat_natCast, strRows_len, intRows_len, List.getD_cons_zero, List.getD_cons_succ, List.length_cons, List.length_nil, List.forall_mem_cons, List.not_mem_nil, false_implies, implies_true, Int.ofNat_zero, Int.natCast_add, Int.natCast_one, Int.ofNat_one, Int.natCast_zero, isB, isU, Bool.false_eq_true, beq_self_eq_true, Bool.false_beq, Bool.true_beq, Int.natCast_nonneg, undef, strRows_take, strRows_drop, Int.toNat_zero, List.drop_zero, Bool.and_true, oneOr, List.all_cons, List.all_nil, AVal.one, Value.oneCell', beq_self_eq_true, Bool.true_and, List.take_length, h1, hg, hw])
    refine stk_pure (has_ok false a _ ha) fun v hv => ?_
    rw [decide_eq_false hno] at hv
    subst hv
    (try simp +decide (implicitDefEqProofs := false) only [stk_nil, stk_skip, stk_ops, stk_seq, stk_block, stk_scope, stk_exit, stk_ret, stk_code_exit, stk_code_ret, stk_ops_exit, stk_ops_ret, stk_endb, stk_endb_exit, stk_endb_ret, stk_endl, stk_endl_exit, stk_endl_ret, stk_ops_nil, stk_q, stk_niq, niqA, flip, srcOf, stk_alloc, stk_box, stk_bsl, ↓stk_g, ↓stk_c, side, val, bside, bval, uside, uval, cside, cval, bndS, bndV, intA, isInt, lside, lval, fside, fval, faside, faval, iside, ival, sxside, sxval, sizeA, slside, slval, llside, llval, lenside, lenval, lenA, tupA, mmside, mmval, nkside, boolA, isBool, ev_t, ev_c, tget, put_s, put_n, lkside, lkval, menval, stk_mk, Option.isSome_some, isMapA, mapA, keyA, FZ_rfl, FZ_any, retOf, true_and, and_true, if_true, if_false, ↓reduceIte, decide_true, decide_false, Bool.not_true, Bool.not_false, Nat.zero_add, List.map_cons, List.map_nil, Int.toNat_natCast, strRows_len, intRows_len, List.getD_cons_zero, List.getD_cons_succ, List.length_cons, List.length_nil, List.forall_mem_cons, List.not_mem_nil, false_implies, implies_true, Int.ofNat_zero, Int.natCast_add, Int.natCast_one, Int.ofNat_one, Int.natCast_zero, isB, isU, Bool.false_eq_true, beq_self_eq_true, Bool.false_beq, Bool.true_beq, Int.natCast_nonneg, undef, strRows_take, strRows_drop, Int.toNat_zero, List.drop_zero, Bool.and_true, oneOr, List.all_cons, List.all_nil, AVal.one, Value.oneCell', beq_self_eq_true, Bool.true_and, List.take_length, h1, hg, hw])
    refine ⟨by omega, (), Weak.list _ (Sub.refl _) (by (try simp +decide (implicitDefEqProofs := false) only [stk_nil, stk_skip, stk_ops, stk_seq, stk_block, stk_scope, stk_exit, stk_ret, stk_code_exit, stk_code_ret, stk_ops_exit, stk_ops_ret, stk_endb, stk_endb_exit, stk_endb_ret, stk_endl, stk_endl_exit, stk_endl_ret, stk_ops_nil, stk_q, stk_niq, niqA, flip, srcOf, stk_alloc, stk_box, stk_bsl, ↓stk_g, ↓stk_c, side, val, bside, bval, uside, uval, cside, cval, bndS, bndV, intA, isInt, lside, lval, fside, fval, faside, faval, iside, ival, sxside, sxval, sizeA, slside, slval, llside, llval, lenside, lenval, lenA, tupA, mmside, mmval, nkside, boolA, isBool, ev_t, ev_c, tget, put_s, put_n, lkside, lkval, menval, stk_mk, Option.isSome_some, isMapA, mapA, keyA, FZ_rfl, FZ_any, retOf, true_and, and_true, if_true, if_false, ↓reduceIte, decide_true, decide_false, Bool.not_true, Bool.not_false, Nat.zero_add, List.map_cons, List.map_nil, Int.toNat_natCast, strRows_len, intRows_len, List.getD_cons_zero, List.getD_cons_succ, List.length_cons, List.length_nil, List.forall_mem_cons, List.not_mem_nil, false_implies, implies_true, Int.ofNat_zero, Int.natCast_add, Int.natCast_one, Int.ofNat_one, Int.natCast_zero, isB, isU, Bool.false_eq_true, beq_self_eq_true, Bool.false_beq, Bool.true_beq, Int.natCast_nonneg, undef, strRows_take, strRows_drop, Int.toNat_zero, List.drop_zero, Bool.and_true, oneOr, List.all_cons, List.all_nil, AVal.one, Value.oneCell', beq_self_eq_true, Bool.true_and, List.take_length]))⟩
  · have h1 : ¬ (i : Int) < ((lacksS a b).length : Int) := by omega
    (try simp +decide (implicitDefEqProofs := false) only [stk_nil, stk_skip, stk_ops, stk_seq, stk_block, stk_scope, stk_exit, stk_ret, stk_code_exit, stk_code_ret, stk_ops_exit, stk_ops_ret, stk_endb, stk_endb_exit, stk_endb_ret, stk_endl, stk_endl_exit, stk_endl_ret, stk_ops_nil, stk_q, stk_niq, niqA, flip, srcOf, stk_alloc, stk_box, stk_bsl, ↓stk_g, ↓stk_c, side, val, bside, bval, uside, uval, cside, cval, bndS, bndV, intA, isInt, lside, lval, fside, fval, faside, faval, iside, ival, sxside, sxval, sizeA, slside, slval, llside, llval, lenside, lenval, lenA, tupA, mmside, mmval, nkside, boolA, isBool, ev_t, ev_c, tget, put_s, put_n, lkside, lkval, menval, stk_mk, Option.isSome_some, isMapA, mapA, keyA, FZ_rfl, FZ_any, retOf, true_and, and_true, if_true, if_false, ↓reduceIte, decide_true, decide_false, Bool.not_true, Bool.not_false, Nat.zero_add, List.map_cons, List.map_nil, Int.toNat_natCast, strRows_len, intRows_len, List.getD_cons_zero, List.getD_cons_succ, List.length_cons, List.length_nil, List.forall_mem_cons, List.not_mem_nil, false_implies, implies_true, Int.ofNat_zero, Int.natCast_add, Int.natCast_one, Int.ofNat_one, Int.natCast_zero, isB, isU, Bool.false_eq_true, beq_self_eq_true, Bool.false_beq, Bool.true_beq, Int.natCast_nonneg, undef, strRows_take, strRows_drop, Int.toNat_zero, List.drop_zero, Bool.and_true, oneOr, List.all_cons, List.all_nil, AVal.one, Value.oneCell', beq_self_eq_true, Bool.true_and, List.take_length, h1])
    refine stk_pure (join_ok false false a (lacksS a b) (by omega) (by omega)) fun v hv => ?_
    rw [join_lacks] at hv
    subst hv
    (try simp +decide (implicitDefEqProofs := false) only [stk_nil, stk_skip, stk_ops, stk_seq, stk_block, stk_scope, stk_exit, stk_ret, stk_code_exit, stk_code_ret, stk_ops_exit, stk_ops_ret, stk_endb, stk_endb_exit, stk_endb_ret, stk_endl, stk_endl_exit, stk_endl_ret, stk_ops_nil, stk_q, stk_niq, niqA, flip, srcOf, stk_alloc, stk_box, stk_bsl, ↓stk_g, ↓stk_c, side, val, bside, bval, uside, uval, cside, cval, bndS, bndV, intA, isInt, lside, lval, fside, fval, faside, faval, iside, ival, sxside, sxval, sizeA, slside, slval, llside, llval, lenside, lenval, lenA, tupA, mmside, mmval, nkside, boolA, isBool, ev_t, ev_c, tget, put_s, put_n, lkside, lkval, menval, stk_mk, Option.isSome_some, isMapA, mapA, keyA, FZ_rfl, FZ_any, retOf, true_and, and_true, if_true, if_false, ↓reduceIte, decide_true, decide_false, Bool.not_true, Bool.not_false, Nat.zero_add, List.map_cons, List.map_nil, Int.toNat_natCast, strRows_len, intRows_len, List.getD_cons_zero, List.getD_cons_succ, List.length_cons, List.length_nil, List.forall_mem_cons, List.not_mem_nil, false_implies, implies_true, Int.ofNat_zero, Int.natCast_add, Int.natCast_one, Int.ofNat_one, Int.natCast_zero, isB, isU, Bool.false_eq_true, beq_self_eq_true, Bool.false_beq, Bool.true_beq, Int.natCast_nonneg, undef, strRows_take, strRows_drop, Int.toNat_zero, List.drop_zero, Bool.and_true, oneOr, List.all_cons, List.all_nil, AVal.one, Value.oneCell', beq_self_eq_true, Bool.true_and, List.take_length])
    refine stk_pure (sameS_ok false false (joinS a b) (joinS a b) (by unfold maxLen; omega)) fun v hv => ?_
    subst hv
    (try simp +decide (implicitDefEqProofs := false) only [stk_nil, stk_skip, stk_ops, stk_seq, stk_block, stk_scope, stk_exit, stk_ret, stk_code_exit, stk_code_ret, stk_ops_exit, stk_ops_ret, stk_endb, stk_endb_exit, stk_endb_ret, stk_endl, stk_endl_exit, stk_endl_ret, stk_ops_nil, stk_q, stk_niq, niqA, flip, srcOf, stk_alloc, stk_box, stk_bsl, ↓stk_g, ↓stk_c, side, val, bside, bval, uside, uval, cside, cval, bndS, bndV, intA, isInt, lside, lval, fside, fval, faside, faval, iside, ival, sxside, sxval, sizeA, slside, slval, llside, llval, lenside, lenval, lenA, tupA, mmside, mmval, nkside, boolA, isBool, ev_t, ev_c, tget, put_s, put_n, lkside, lkval, menval, stk_mk, Option.isSome_some, isMapA, mapA, keyA, FZ_rfl, FZ_any, retOf, true_and, and_true, if_true, if_false, ↓reduceIte, decide_true, decide_false, Bool.not_true, Bool.not_false, Nat.zero_add, List.map_cons, List.map_nil, Int.toNat_natCast, strRows_len, intRows_len, List.getD_cons_zero, List.getD_cons_succ, List.length_cons, List.length_nil, List.forall_mem_cons, List.not_mem_nil, false_implies, implies_true, Int.ofNat_zero, Int.natCast_add, Int.natCast_one, Int.ofNat_one, Int.natCast_zero, isB, isU, Bool.false_eq_true, beq_self_eq_true, Bool.false_beq, Bool.true_beq, Int.natCast_nonneg, undef, strRows_take, strRows_drop, Int.toNat_zero, List.drop_zero, Bool.and_true, oneOr, List.all_cons, List.all_nil, AVal.one, Value.oneCell', beq_self_eq_true, Bool.true_and, List.take_length])
    refine stk_pure (join_ok false false b a (by omega) (by omega)) fun v hv => ?_
    rw [join_comm] at hv
    subst hv
    (try simp +decide (implicitDefEqProofs := false) only [stk_nil, stk_skip, stk_ops, stk_seq, stk_block, stk_scope, stk_exit, stk_ret, stk_code_exit, stk_code_ret, stk_ops_exit, stk_ops_ret, stk_endb, stk_endb_exit, stk_endb_ret, stk_endl, stk_endl_exit, stk_endl_ret, stk_ops_nil, stk_q, stk_niq, niqA, flip, srcOf, stk_alloc, stk_box, stk_bsl, ↓stk_g, ↓stk_c, side, val, bside, bval, uside, uval, cside, cval, bndS, bndV, intA, isInt, lside, lval, fside, fval, faside, faval, iside, ival, sxside, sxval, sizeA, slside, slval, llside, llval, lenside, lenval, lenA, tupA, mmside, mmval, nkside, boolA, isBool, ev_t, ev_c, tget, put_s, put_n, lkside, lkval, menval, stk_mk, Option.isSome_some, isMapA, mapA, keyA, FZ_rfl, FZ_any, retOf, true_and, and_true, if_true, if_false, ↓reduceIte, decide_true, decide_false, Bool.not_true, Bool.not_false, Nat.zero_add, List.map_cons, List.map_nil, Int.toNat_natCast, strRows_len, intRows_len, List.getD_cons_zero, List.getD_cons_succ, List.length_cons, List.length_nil, List.forall_mem_cons, List.not_mem_nil, false_implies, implies_true, Int.ofNat_zero, Int.natCast_add, Int.natCast_one, Int.ofNat_one, Int.natCast_zero, isB, isU, Bool.false_eq_true, beq_self_eq_true, Bool.false_beq, Bool.true_beq, Int.natCast_nonneg, undef, strRows_take, strRows_drop, Int.toNat_zero, List.drop_zero, Bool.and_true, oneOr, List.all_cons, List.all_nil, AVal.one, Value.oneCell', beq_self_eq_true, Bool.true_and, List.take_length])
    refine stk_pure (sameS_ok false false (joinS a b) (joinS a b) (by unfold maxLen; omega)) fun v hv => ?_
    subst hv
    (try simp +decide (implicitDefEqProofs := false) only [stk_nil, stk_skip, stk_ops, stk_seq, stk_block, stk_scope, stk_exit, stk_ret, stk_code_exit, stk_code_ret, stk_ops_exit, stk_ops_ret, stk_endb, stk_endb_exit, stk_endb_ret, stk_endl, stk_endl_exit, stk_endl_ret, stk_ops_nil, stk_q, stk_niq, niqA, flip, srcOf, stk_alloc, stk_box, stk_bsl, ↓stk_g, ↓stk_c, side, val, bside, bval, uside, uval, cside, cval, bndS, bndV, intA, isInt, lside, lval, fside, fval, faside, faval, iside, ival, sxside, sxval, sizeA, slside, slval, llside, llval, lenside, lenval, lenA, tupA, mmside, mmval, nkside, boolA, isBool, ev_t, ev_c, tget, put_s, put_n, lkside, lkval, menval, stk_mk, Option.isSome_some, isMapA, mapA, keyA, FZ_rfl, FZ_any, retOf, true_and, and_true, if_true, if_false, ↓reduceIte, decide_true, decide_false, Bool.not_true, Bool.not_false, Nat.zero_add, List.map_cons, List.map_nil, Int.toNat_natCast, strRows_len, intRows_len, List.getD_cons_zero, List.getD_cons_succ, List.length_cons, List.length_nil, List.forall_mem_cons, List.not_mem_nil, false_implies, implies_true, Int.ofNat_zero, Int.natCast_add, Int.natCast_one, Int.ofNat_one, Int.natCast_zero, isB, isU, Bool.false_eq_true, beq_self_eq_true, Bool.false_beq, Bool.true_beq, Int.natCast_nonneg, undef, strRows_take, strRows_drop, Int.toNat_zero, List.drop_zero, Bool.and_true, oneOr, List.all_cons, List.all_nil, AVal.one, Value.oneCell', beq_self_eq_true, Bool.true_and, List.take_length])
    refine stk_pure (lacks_ok false false (joinS a b) b (by omega) (by omega)) fun v hv => ?_
    rw [lacks_join1] at hv
    subst hv
    (try simp +decide (implicitDefEqProofs := false) only [stk_nil, stk_skip, stk_ops, stk_seq, stk_block, stk_scope, stk_exit, stk_ret, stk_code_exit, stk_code_ret, stk_ops_exit, stk_ops_ret, stk_endb, stk_endb_exit, stk_endb_ret, stk_endl, stk_endl_exit, stk_endl_ret, stk_ops_nil, stk_q, stk_niq, niqA, flip, srcOf, stk_alloc, stk_box, stk_bsl, ↓stk_g, ↓stk_c, side, val, bside, bval, uside, uval, cside, cval, bndS, bndV, intA, isInt, lside, lval, fside, fval, faside, faval, iside, ival, sxside, sxval, sizeA, slside, slval, llside, llval, lenside, lenval, lenA, tupA, mmside, mmval, nkside, boolA, isBool, ev_t, ev_c, tget, put_s, put_n, lkside, lkval, menval, stk_mk, Option.isSome_some, isMapA, mapA, keyA, FZ_rfl, FZ_any, retOf, true_and, and_true, if_true, if_false, ↓reduceIte, decide_true, decide_false, Bool.not_true, Bool.not_false, Nat.zero_add, List.map_cons, List.map_nil, Int.toNat_natCast, strRows_len, intRows_len, List.getD_cons_zero, List.getD_cons_succ, List.length_cons, List.length_nil, List.forall_mem_cons, List.not_mem_nil, false_implies, implies_true, Int.ofNat_zero, Int.natCast_add, Int.natCast_one, Int.ofNat_one, Int.natCast_zero, isB, isU, Bool.false_eq_true, beq_self_eq_true, Bool.false_beq, Bool.true_beq, Int.natCast_nonneg, undef, strRows_take, strRows_drop, Int.toNat_zero, List.drop_zero, Bool.and_true, oneOr, List.all_cons, List.all_nil, AVal.one, Value.oneCell', beq_self_eq_true, Bool.true_and, List.take_length])
    refine stk_pure (lacks_ok false false (joinS a b) a (by omega) (by omega)) fun v hv => ?_
    rw [lacks_join2] at hv
    subst hv
    (try simp +decide (implicitDefEqProofs := false) only [stk_nil, stk_skip, stk_ops, stk_seq, stk_block, stk_scope, stk_exit, stk_ret, stk_code_exit, stk_code_ret, stk_ops_exit, stk_ops_ret, stk_endb, stk_endb_exit, stk_endb_ret, stk_endl, stk_endl_exit, stk_endl_ret, stk_ops_nil, stk_q, stk_niq, niqA, flip, srcOf, stk_alloc, stk_box, stk_bsl, ↓stk_g, ↓stk_c, side, val, bside, bval, uside, uval, cside, cval, bndS, bndV, intA, isInt, lside, lval, fside, fval, faside, faval, iside, ival, sxside, sxval, sizeA, slside, slval, llside, llval, lenside, lenval, lenA, tupA, mmside, mmval, nkside, boolA, isBool, ev_t, ev_c, tget, put_s, put_n, lkside, lkval, menval, stk_mk, Option.isSome_some, isMapA, mapA, keyA, FZ_rfl, FZ_any, retOf, true_and, and_true, if_true, if_false, ↓reduceIte, decide_true, decide_false, Bool.not_true, Bool.not_false, Nat.zero_add, List.map_cons, List.map_nil, Int.toNat_natCast, strRows_len, intRows_len, List.getD_cons_zero, List.getD_cons_succ, List.length_cons, List.length_nil, List.forall_mem_cons, List.not_mem_nil, false_implies, implies_true, Int.ofNat_zero, Int.natCast_add, Int.natCast_one, Int.ofNat_one, Int.natCast_zero, isB, isU, Bool.false_eq_true, beq_self_eq_true, Bool.false_beq, Bool.true_beq, Int.natCast_nonneg, undef, strRows_take, strRows_drop, Int.toNat_zero, List.drop_zero, Bool.and_true, oneOr, List.all_cons, List.all_nil, AVal.one, Value.oneCell', beq_self_eq_true, Bool.true_and, List.take_length])
    refine stk_pure (lacks_ok false false a a (by omega) (by omega)) fun v hv => ?_
    rw [lacks_self] at hv
    subst hv
    (try simp +decide (implicitDefEqProofs := false) only [stk_nil, stk_skip, stk_ops, stk_seq, stk_block, stk_scope, stk_exit, stk_ret, stk_code_exit, stk_code_ret, stk_ops_exit, stk_ops_ret, stk_endb, stk_endb_exit, stk_endb_ret, stk_endl, stk_endl_exit, stk_endl_ret, stk_ops_nil, stk_q, stk_niq, niqA, flip, srcOf, stk_alloc, stk_box, stk_bsl, ↓stk_g, ↓stk_c, side, val, bside, bval, uside, uval, cside, cval, bndS, bndV, intA, isInt, lside, lval, fside, fval, faside, faval, iside, ival, sxside, sxval, sizeA, slside, slval, llside, llval, lenside, lenval, lenA, tupA, mmside, mmval, nkside, boolA, isBool, ev_t, ev_c, tget, put_s, put_n, lkside, lkval, menval, stk_mk, Option.isSome_some, isMapA, mapA, keyA, FZ_rfl, FZ_any, retOf, true_and, and_true, if_true, if_false, ↓reduceIte, decide_true, decide_false, Bool.not_true, Bool.not_false, Nat.zero_add, List.map_cons, List.map_nil, Int.toNat_natCast, strRows_len, intRows_len, List.getD_cons_zero, List.getD_cons_succ, List.length_cons, List.length_nil, List.forall_mem_cons, List.not_mem_nil, false_implies, implies_true, Int.ofNat_zero, Int.natCast_add, Int.natCast_one, Int.ofNat_one, Int.natCast_zero, isB, isU, Bool.false_eq_true, beq_self_eq_true, Bool.false_beq, Bool.true_beq, Int.natCast_nonneg, undef, strRows_take, strRows_drop, Int.toNat_zero, List.drop_zero, Bool.and_true, oneOr, List.all_cons, List.all_nil, AVal.one, Value.oneCell', beq_self_eq_true, Bool.true_and, List.take_length])
    refine aret_pure (.inr rfl) ?_; simp +decide only [retOf, tget, if_true, if_false, ↓reduceIte]
end Go.Proofs.Ythigakhmggbliaa.M
