/-
  Layer 16: the document's answer: what a list has, when two are the same, how much a list weighs.
-/
import Derived.Test.YthigakhmggbliaaMT
import Derived.Test.YthigakhmggbliaaProg
import Derived.KernelRfl
namespace Go.Proofs.Ythigakhmggbliaa.M
open Go.RowKit
set_option linter.unusedVariables false
set_option linter.unusedSimpArgs false
theorem follows : Try.prog.follows .mixedOrders = true := by kernel_rfl
theorem mem_iff_getD {l : List Str} {x : Str} : x ∈ l ↔ ∃ i, i < l.length ∧ l.getD i ByteArray.empty = x := by
  rw [List.mem_iff_getElem]
  constructor
  · rintro ⟨i, hi, rfl⟩; exact ⟨i, hi, by simp [hi]⟩
  · rintro ⟨i, hi, rfl⟩; exact ⟨i, hi, by simp [hi]⟩
def c_Has : AFn := ⟨2, 18, [4],
  .seq (.ops [⟨(some 4), none, .q (.mv (.const (.bool false)))⟩])
  (.seq (.seq (.ops [⟨(some 5), none, .q (.mv (.const (.int .i64 0)))⟩])
  (.block 0 (.loop (.seq (.seq (.ops [⟨(some 6), none, .q (.mv (.tmp 5))⟩,
          ⟨(some 7), none, .q (.mv (.tmp 0))⟩,
          ⟨(some 8), none, .q (.len false (.tmp 7))⟩,
          ⟨(some 9), none, .q (.bin .lss .num (.tmp 6) (.tmp 8))⟩])
      (.cond (.tmp 9)
        (.skip)
        (.exit 0)))
      (.seq (.block 1 (.seq (.ops [⟨(some 12), none, .q (.mv (.tmp 0))⟩,
            ⟨(some 13), none, .q (.mv (.tmp 5))⟩,
            ⟨(some 14), none, .q (.ixa 1 (.tmp 12) (.tmp 13))⟩,
            ⟨(some 15), none, .q (.ld false 1 (.tmp 14))⟩,
            ⟨(some 16), none, .q (.mv (.tmp 1))⟩,
            ⟨(some 17), none, .q (.bin .eql .num (.tmp 15) (.tmp 16))⟩])
        (.cond (.tmp 17)
          (.seq (.ops [⟨(some 4), none, .q (.mv (.const (.bool true)))⟩])
          (.ret))
          (.skip))))
      (.ops [⟨(some 10), none, .q (.mv (.tmp 5))⟩,
          ⟨(some 11), none, .q (.bin .add .num (.tmp 10) (.const (.int .i64 1)))⟩,
          ⟨(some 5), none, .q (.mv (.tmp 11))⟩]))))))
  (.seq (.ops [⟨(some 4), none, .q (.mv (.const (.bool false)))⟩])
  (.ret)))⟩
theorem k_Has : compF Try.prog 19 = some c_Has := by kernel_rfl
theorem has_ok {W : World} (f : Bool) (l : List Str) (x : Str) (hl : l.length ≤ maxLen) : ACalls Try.prog W 19 [.sl f 1 (strRows l), .v (.string x)] AHeap.none (fun r _ => r = .v (.bool (decide (x ∈ l)))) := by
  unfold maxLen at hl
  refine fn_run follows k_Has rfl ?_
  simp only [c_Has, List.zipIdx_cons, List.zipIdx_nil, List.map_cons, List.map_nil, Nat.zero_add]
  (try simp +decide (implicitDefEqProofs := false) only [stk_nil, stk_skip, stk_ops, stk_seq, stk_block, stk_scope, stk_exit, stk_ret, stk_code_exit, stk_code_ret, stk_ops_exit, stk_ops_ret, stk_endb, stk_endb_exit, stk_endb_ret, stk_endl, stk_endl_exit, stk_endl_ret, stk_ops_nil, stk_q, stk_niq, niqA, flip, srcOf, stk_alloc, stk_box, stk_bsl, ↓stk_g, ↓stk_c, side, val, bside, bval, uside, uval, cside, cval, bndS, bndV, intA, isInt, lside, lval, fside, fval, faside, faval, iside, ival, sxside, sxval, sizeA, slside, slval, llside, llval, lenside, lenval, lenA, tupA, mmside, mmval, nkside, boolA, isBool, ev_t, ev_c, tget, put_s, put_n, lkside, lkval, menval, stk_mk, Option.isSome_some, isMapA, mapA, keyA, FZ_rfl, FZ_any, retOf, true_and, and_true, if_true, if_false, ↓reduceIte, decide_true, decide_false, Bool.not_true, Bool.not_false, Nat.zero_add, List.map_cons, List.map_nil, Int.toNat_natCast, strRows_len, intRows_len, List.getD_cons_zero, List.getD_cons_succ, List.length_cons, List.length_nil, List.forall_mem_cons, List.not_mem_nil, false_implies, implies_true, Int.ofNat_zero, Int.natCast_add, Int.natCast_one, Int.ofNat_one, Int.natCast_zero, isB, isU, Bool.false_eq_true, beq_self_eq_true, Bool.false_beq, Bool.true_beq, Int.natCast_nonneg, undef, strRows_take, strRows_drop, Int.toNat_zero, List.drop_zero, Bool.and_true, oneOr, List.all_cons, List.all_nil, AVal.one, Value.oneCell', beq_self_eq_true, Bool.true_and, List.take_length])
  refine stk_up (α := Unit) l.length (fun i _ => ⟨[(5, .v (.int .i64 i)), (0, .sl f 1 (strRows l)), (1, .v (.string x))], AHeap.none⟩) (fun i _ => ∀ j, j < i → l.getD j ByteArray.empty ≠ x) () (Weak.list _ (Sub.refl _) (by (try simp +decide (implicitDefEqProofs := false) only [stk_nil, stk_skip, stk_ops, stk_seq, stk_block, stk_scope, stk_exit, stk_ret, stk_code_exit, stk_code_ret, stk_ops_exit, stk_ops_ret, stk_endb, stk_endb_exit, stk_endb_ret, stk_endl, stk_endl_exit, stk_endl_ret, stk_ops_nil, stk_q, stk_niq, niqA, flip, srcOf, stk_alloc, stk_box, stk_bsl, ↓stk_g, ↓stk_c, side, val, bside, bval, uside, uval, cside, cval, bndS, bndV, intA, isInt, lside, lval, fside, fval, faside, faval, iside, ival, sxside, sxval, sizeA, slside, slval, llside, llval, lenside, lenval, lenA, tupA, mmside, mmval, nkside, boolA, isBool, ev_t, ev_c, tget, put_s, put_n, lkside, lkval, menval, stk_mk, Option.isSome_some, isMapA, mapA, keyA, FZ_rfl, FZ_any, retOf, true_and, and_true, if_true, if_false, ↓reduceIte, decide_true, decide_false, Bool.not_true, Bool.not_false, Nat.zero_add, List.map_cons, List.map_nil, Int.toNat_natCast, strRows_len, intRows_len, List.getD_cons_zero, List.getD_cons_succ, List.length_cons, List.length_nil, List.forall_mem_cons, List.not_mem_nil, false_implies, implies_true, Int.ofNat_zero, Int.natCast_add, Int.natCast_one, Int.ofNat_one, Int.natCast_zero, isB, isU, Bool.false_eq_true, beq_self_eq_true, Bool.false_beq, Bool.true_beq, Int.natCast_nonneg, undef, strRows_take, strRows_drop, Int.toNat_zero, List.drop_zero, Bool.and_true, oneOr, List.all_cons, List.all_nil, AVal.one, Value.oneCell', beq_self_eq_true, Bool.true_and, List.take_length]))) (fun j hj => by omega) ?_
  rintro i _ hi hno
  by_cases hl : i < l.length
  · have h1 : (i : Int) < (l.length : Int) := by omega
    have hg := strRows_get hl
    have hw := wrap_in (n := i + 1) (by omega) (by omega)
    by_cases he : l.getD i ByteArray.empty = x
    · (try simp +decide (implicitDefEqProofs := false) only [stk_nil, stk_skip, stk_ops, stk_seq, stk_block, stk_scope, stk_exit, stk_ret, stk_code_exit, stk_code_ret, stk_ops_exit, stk_ops_ret, stk_endb, stk_endb_exit, stk_endb_ret, stk_endl, stk_endl_exit, stk_endl_ret, stk_ops_nil, stk_q, stk_niq, niqA, flip, srcOf, stk_alloc, stk_box, stk_bsl, ↓stk_g, ↓stk_c, side, val, bside, bval, uside, uval, cside, cval, bndS, bndV, intA, isInt, lside, lval, fside, fval, faside, faval, iside, ival, sxside, sxval, sizeA, slside, slval, llside, llval, lenside, lenval, lenA, tupA, mmside, mmval, nkside, boolA, isBool, ev_t, ev_c, tget, put_s, put_n, lkside, lkval, menval, stk_mk, Option.isSome_some, isMapA, mapA, keyA, FZ_rfl, FZ_any, retOf, true_and, and_true, if_true, if_false, ↓reduceIte, decide_true, decide_false, Bool.not_true, Bool.not_false, Nat.zero_add, List.map_cons, List.map_nil, Int.toNat_natCast, strRows_len, intRows_len, List.getD_cons_zero, List.getD_cons_succ, List.length_cons, List.length_nil, List.forall_mem_cons, List.not_mem_nil, false_implies, implies_true, Int.ofNat_zero, Int.natCast_add, Int.natCast_one, Int.ofNat_one, Int.natCast_zero, isB, isU, Bool.false_eq_true, beq_self_eq_true, Bool.false_beq, Bool.true_beq, Int.natCast_nonneg, undef, strRows_take, strRows_drop, Int.toNat_zero, List.drop_zero, Bool.and_true, oneOr, List.all_cons, List.all_nil, AVal.one, Value.oneCell', beq_self_eq_true, Bool.true_and, List.take_length, h1, he, hg, hw])
      refine aret_pure (.inr rfl) ?_; simp +decide only [retOf, tget, if_true, if_false, ↓reduceIte]
      rw [decide_eq_true (mem_iff_getD.2 ⟨i, hl, he⟩)]
    · (try simp +decide (implicitDefEqProofs := false) only [stk_nil, stk_skip, stk_ops, stk_seq, stk_block, stk_scope, stk_exit, stk_ret, stk_code_exit, stk_code_ret, stk_ops_exit, stk_ops_ret, stk_endb, stk_endb_exit, stk_endb_ret, stk_endl, stk_endl_exit, stk_endl_ret, stk_ops_nil, stk_q, stk_niq, niqA, flip, srcOf, stk_alloc, stk_box, stk_bsl, ↓stk_g, ↓stk_c, side, val, bside, bval, uside, uval, cside, cval, bndS, bndV, intA, isInt, lside, lval, fside, fval, faside, faval, iside, ival, sxside, sxval, sizeA, slside, slval, llside, llval, lenside, lenval, lenA, tupA, mmside, mmval, nkside, boolA, isBool, ev_t, ev_c, tget, put_s, put_n, lkside, lkval, menval, stk_mk, Option.isSome_some, isMapA, mapA, keyA, FZ_rfl, FZ_any, retOf, true_and, and_true, if_true, if_false, ↓reduceIte, decide_true, decide_false, Bool.not_true, Bool.not_false, Nat.zero_add, List.map_cons, List.map_nil, Int.toNat_natCast, strRows_len, intRows_len, List.getD_cons_zero, List.getD_cons_succ, List.length_cons, List.length_nil, List.forall_mem_cons, List.not_mem_nil, false_implies, implies_true, Int.ofNat_zero, Int.natCast_add, Int.natCast_one, Int.ofNat_one, Int.natCast_zero, isB, isU, Bool.false_eq_true, beq_self_eq_true, Bool.false_beq, Bool.true_beq, Int.natCast_nonneg, undef, strRows_take, strRows_drop, Int.toNat_zero, List.drop_zero, Bool.and_true, oneOr, List.all_cons, List.all_nil, AVal.one, Value.oneCell', beq_self_eq_true, Bool.true_and, List.take_length, h1, he, hg, hw])
      refine ⟨by omega, (), Weak.list _ (Sub.refl _) (by (try simp +decide (implicitDefEqProofs := false) only [stk_nil, stk_skip, stk_ops, stk_seq, stk_block, stk_scope, stk_exit, stk_ret, stk_code_exit, stk_code_ret, stk_ops_exit, stk_ops_ret, stk_endb, stk_endb_exit, stk_endb_ret, stk_endl, stk_endl_exit, stk_endl_ret, stk_ops_nil, stk_q, stk_niq, niqA, flip, srcOf, stk_alloc, stk_box, stk_bsl, ↓stk_g, ↓stk_c, side, val, bside, bval, uside, uval, cside, cval, bndS, bndV, intA, isInt, lside, lval, fside, fval, faside, faval, iside, ival, sxside, sxval, sizeA, slside, slval, llside, llval, lenside, lenval, lenA, tupA, mmside, mmval, nkside, boolA, isBool, ev_t, ev_c, tget, put_s, put_n, lkside, lkval, menval, stk_mk, Option.isSome_some, isMapA, mapA, keyA, FZ_rfl, FZ_any, retOf, true_and, and_true, if_true, if_false, ↓reduceIte, decide_true, decide_false, Bool.not_true, Bool.not_false, Nat.zero_add, List.map_cons, List.map_nil, Int.toNat_natCast, strRows_len, intRows_len, List.getD_cons_zero, List.getD_cons_succ, List.length_cons, List.length_nil, List.forall_mem_cons, List.not_mem_nil, false_implies, implies_true, Int.ofNat_zero, Int.natCast_add, Int.natCast_one, Int.ofNat_one, Int.natCast_zero, isB, isU, Bool.false_eq_true, beq_self_eq_true, Bool.false_beq, Bool.true_beq, Int.natCast_nonneg, undef, strRows_take, strRows_drop, Int.toNat_zero, List.drop_zero, Bool.and_true, oneOr, List.all_cons, List.all_nil, AVal.one, Value.oneCell', beq_self_eq_true, Bool.true_and, List.take_length])), ?_⟩
      intro j hj
      by_cases e : j = i
      · rw [e]; exact he
      · exact hno j (by omega)
  · have h1 : ¬ (i : Int) < (l.length : Int) := by omega
    (try simp +decide (implicitDefEqProofs := false) only [stk_nil, stk_skip, stk_ops, stk_seq, stk_block, stk_scope, stk_exit, stk_ret, stk_code_exit, stk_code_ret, stk_ops_exit, stk_ops_ret, stk_endb, stk_endb_exit, stk_endb_ret, stk_endl, stk_endl_exit, stk_endl_ret, stk_ops_nil, stk_q, stk_niq, niqA, flip, srcOf, stk_alloc, stk_box, stk_bsl, ↓stk_g, ↓stk_c, side, val, bside, bval, uside, uval, cside, cval, bndS, bndV, intA, isInt, lside, lval, fside, fval, faside, faval, iside, ival, sxside, sxval, sizeA, slside, slval, llside, llval, lenside, lenval, lenA, tupA, mmside, mmval, nkside, boolA, isBool, ev_t, ev_c, tget, put_s, put_n, lkside, lkval, menval, stk_mk, Option.isSome_some, isMapA, mapA, keyA, FZ_rfl, FZ_any, retOf, true_and, and_true, if_true, if_false, ↓reduceIte, decide_true, decide_false, Bool.not_true, Bool.not_false, Nat.zero_add, List.map_cons, List.map_nil, Int.toNat_natCast, strRows_len, intRows_len, List.getD_cons_zero, List.getD_cons_succ, List.length_cons, List.length_nil, List.forall_mem_cons, List.not_mem_nil, false_implies, implies_true, Int.ofNat_zero, Int.natCast_add, Int.natCast_one, Int.ofNat_one, Int.natCast_zero, isB, isU, Bool.false_eq_true, beq_self_eq_true, Bool.false_beq, Bool.true_beq, Int.natCast_nonneg, undef, strRows_take, strRows_drop, Int.toNat_zero, List.drop_zero, Bool.and_true, oneOr, List.all_cons, List.all_nil, AVal.one, Value.oneCell', beq_self_eq_true, Bool.true_and, List.take_length, h1])
    refine aret_pure (.inr rfl) ?_; simp +decide only [retOf, tget, if_true, if_false, ↓reduceIte]
    rw [decide_eq_false]
    intro hm
    obtain ⟨j, hj, e⟩ := mem_iff_getD.1 hm
    exact hno j (by omega) e
theorem eq_of_getD {a b : List Str} (hl : a.length = b.length) (h : ∀ j, j < a.length → a.getD j ByteArray.empty = b.getD j ByteArray.empty) : a = b := by
  apply List.ext_getElem hl
  intro i h1 h2
  have := h i h1
  simpa [h1, h2] using this
def c_Same : AFn := ⟨2, 26, [4],
  .seq (.ops [⟨(some 4), none, .q (.mv (.const (.bool false)))⟩])
  (.seq (.seq (.ops [⟨(some 6), none, .q (.mv (.tmp 0))⟩,
      ⟨(some 7), none, .q (.len false (.tmp 6))⟩,
      ⟨(some 8), none, .q (.mv (.tmp 1))⟩,
      ⟨(some 9), none, .q (.len false (.tmp 8))⟩,
      ⟨(some 10), none, .q (.bin .neq .num (.tmp 7) (.tmp 9))⟩])
  (.cond (.tmp 10)
    (.seq (.ops [⟨(some 4), none, .q (.mv (.const (.bool false)))⟩])
    (.ret))
    (.skip)))
  (.seq (.seq (.ops [⟨(some 5), none, .q (.mv (.const (.int .i64 0)))⟩])
  (.block 0 (.loop (.seq (.seq (.ops [⟨(some 11), none, .q (.mv (.tmp 5))⟩,
          ⟨(some 12), none, .q (.mv (.tmp 0))⟩,
          ⟨(some 13), none, .q (.len false (.tmp 12))⟩,
          ⟨(some 14), none, .q (.bin .lss .num (.tmp 11) (.tmp 13))⟩])
      (.cond (.tmp 14)
        (.skip)
        (.exit 0)))
      (.seq (.block 1 (.seq (.ops [⟨(some 17), none, .q (.mv (.tmp 0))⟩,
            ⟨(some 18), none, .q (.mv (.tmp 5))⟩,
            ⟨(some 19), none, .q (.ixa 1 (.tmp 17) (.tmp 18))⟩,
            ⟨(some 20), none, .q (.ld false 1 (.tmp 19))⟩,
            ⟨(some 21), none, .q (.mv (.tmp 1))⟩,
            ⟨(some 22), none, .q (.mv (.tmp 5))⟩,
            ⟨(some 23), none, .q (.ixa 1 (.tmp 21) (.tmp 22))⟩,
            ⟨(some 24), none, .q (.ld false 1 (.tmp 23))⟩,
            ⟨(some 25), none, .q (.bin .neq .num (.tmp 20) (.tmp 24))⟩])
        (.cond (.tmp 25)
          (.seq (.ops [⟨(some 4), none, .q (.mv (.const (.bool false)))⟩])
          (.ret))
          (.skip))))
      (.ops [⟨(some 15), none, .q (.mv (.tmp 5))⟩,
          ⟨(some 16), none, .q (.bin .add .num (.tmp 15) (.const (.int .i64 1)))⟩,
          ⟨(some 5), none, .q (.mv (.tmp 16))⟩]))))))
  (.seq (.ops [⟨(some 4), none, .q (.mv (.const (.bool true)))⟩])
  (.ret))))⟩
theorem k_Same : compF Try.prog 11 = some c_Same := by kernel_rfl
theorem sameS_ok {W : World} (f g : Bool) (a b : List Str) (ha : a.length ≤ maxLen) : ACalls Try.prog W 11 [.sl f 1 (strRows a), .sl g 1 (strRows b)] AHeap.none (fun r _ => r = .v (.bool (decide (a = b)))) := by
  unfold maxLen at ha
  refine fn_run follows k_Same rfl ?_
  simp only [c_Same, List.zipIdx_cons, List.zipIdx_nil, List.map_cons, List.map_nil, Nat.zero_add]
  by_cases hab : a.length = b.length
  · have h0 : ((a.length : Int) = (b.length : Int)) := by omega
    (try simp +decide (implicitDefEqProofs := false) only [stk_nil, stk_skip, stk_ops, stk_seq, stk_block, stk_scope, stk_exit, stk_ret, stk_code_exit, stk_code_ret, stk_ops_exit, stk_ops_ret, stk_endb, stk_endb_exit, stk_endb_ret, stk_endl, stk_endl_exit, stk_endl_ret, stk_ops_nil, stk_q, stk_niq, niqA, flip, srcOf, stk_alloc, stk_box, stk_bsl, ↓stk_g, ↓stk_c, side, val, bside, bval, uside, uval, cside, cval, bndS, bndV, intA, isInt, lside, lval, fside, fval, faside, faval, iside, ival, sxside, sxval, sizeA, slside, slval, llside, llval, lenside, lenval, lenA, tupA, mmside, mmval, nkside, boolA, isBool, ev_t, ev_c, tget, put_s, put_n, lkside, lkval, menval, stk_mk, Option.isSome_some, isMapA, mapA, keyA, FZ_rfl, FZ_any, retOf, true_and, and_true, if_true, if_false, ↓reduceIte, decide_true, decide_false, Bool.not_true, Bool.not_false, Nat.zero_add, List.map_cons, List.map_nil, Int.toNat_natCast, strRows_len, intRows_len, List.getD_cons_zero, List.getD_cons_succ, List.length_cons, List.length_nil, List.forall_mem_cons, List.not_mem_nil, false_implies, implies_true, Int.ofNat_zero, Int.natCast_add, Int.natCast_one, Int.ofNat_one, Int.natCast_zero, isB, isU, Bool.false_eq_true, beq_self_eq_true, Bool.false_beq, Bool.true_beq, Int.natCast_nonneg, undef, strRows_take, strRows_drop, Int.toNat_zero, List.drop_zero, Bool.and_true, oneOr, List.all_cons, List.all_nil, AVal.one, Value.oneCell', beq_self_eq_true, Bool.true_and, List.take_length, h0, ne_eq, not_true_eq_false])
    refine stk_up (α := Unit) a.length (fun i _ => ⟨[(5, .v (.int .i64 i)), (0, .sl f 1 (strRows a)), (1, .sl g 1 (strRows b))], AHeap.none⟩) (fun i _ => ∀ j, j < i → a.getD j ByteArray.empty = b.getD j ByteArray.empty) () (Weak.list _ (Sub.refl _) (by (try simp +decide (implicitDefEqProofs := false) only [stk_nil, stk_skip, stk_ops, stk_seq, stk_block, stk_scope, stk_exit, stk_ret, stk_code_exit, stk_code_ret, stk_ops_exit, stk_ops_ret, stk_endb, stk_endb_exit, stk_endb_ret, stk_endl, stk_endl_exit, stk_endl_ret, stk_ops_nil, stk_q, stk_niq, niqA, flip, srcOf, stk_alloc, stk_box, stk_bsl, ↓stk_g, ↓stk_c, side, val, bside, bval, uside, uval, cside, cval, bndS, bndV, intA, isInt, lside, lval, fside, fval, faside, faval, iside, ival, sxside, sxval, sizeA, slside, slval, llside, llval, lenside, lenval, lenA, tupA, mmside, mmval, nkside, boolA, isBool, ev_t, ev_c, tget, put_s, put_n, lkside, lkval, menval, stk_mk, Option.isSome_some, isMapA, mapA, keyA, FZ_rfl, FZ_any, retOf, true_and, and_true, if_true, if_false, ↓reduceIte, decide_true, decide_false, Bool.not_true, Bool.not_false, Nat.zero_add, List.map_cons, List.map_nil, Int.toNat_natCast, strRows_len, intRows_len, List.getD_cons_zero, List.getD_cons_succ, List.length_cons, List.length_nil, List.forall_mem_cons, List.not_mem_nil, false_implies, implies_true, Int.ofNat_zero, Int.natCast_add, Int.natCast_one, Int.ofNat_one, Int.natCast_zero, isB, isU, Bool.false_eq_true, beq_self_eq_true, Bool.false_beq, Bool.true_beq, Int.natCast_nonneg, undef, strRows_take, strRows_drop, Int.toNat_zero, List.drop_zero, Bool.and_true, oneOr, List.all_cons, List.all_nil, AVal.one, Value.oneCell', beq_self_eq_true, Bool.true_and, List.take_length]))) (fun j hj => by omega) ?_
    rintro i _ hi hall
    by_cases hl : i < a.length
    · have h1 : (i : Int) < (b.length : Int) := by omega
      have hg := strRows_get hl
      have hg2 := strRows_get (l := b) (i := i) (by omega)
      have hw := wrap_in (n := i + 1) (by omega) (by omega)
      by_cases he : a.getD i ByteArray.empty = b.getD i ByteArray.empty
      · (try simp +decide (implicitDefEqProofs := false) only [stk_nil, stk_skip, stk_ops, stk_seq, stk_block, stk_scope, stk_exit, stk_ret, stk_code_exit, stk_code_ret, stk_ops_exit, stk_ops_ret, stk_endb, stk_endb_exit, stk_endb_ret, stk_endl, stk_endl_exit, stk_endl_ret, stk_ops_nil, stk_q, stk_niq, niqA, flip, srcOf, stk_alloc, stk_box, stk_bsl, ↓stk_g, ↓stk_c, side, val, bside, bval, uside, uval, cside, cval, bndS, bndV, intA, isInt, lside, lval, fside, fval, faside, faval, iside, ival, sxside, sxval, sizeA, slside, slval, llside, llval, lenside, lenval, lenA, tupA, mmside, mmval, nkside, boolA, isBool, ev_t, ev_c, tget, put_s, put_n, lkside, lkval, menval, stk_mk, Option.isSome_some, isMapA, mapA, keyA, FZ_rfl, FZ_any, retOf, true_and, and_true, if_true, if_false, ↓reduceIte, decide_true, decide_false, Bool.not_true, Bool.not_false, Nat.zero_add, List.map_cons, List.map_nil, Int.toNat_natCast, strRows_len, intRows_len, List.getD_cons_zero, List.getD_cons_succ, List.length_cons, List.length_nil, List.forall_mem_cons, List.not_mem_nil, false_implies, implies_true, Int.ofNat_zero, Int.natCast_add, Int.natCast_one, Int.ofNat_one, Int.natCast_zero, isB, isU, Bool.false_eq_true, beq_self_eq_true, Bool.false_beq, Bool.true_beq, Int.natCast_nonneg, undef, strRows_take, strRows_drop, Int.toNat_zero, List.drop_zero, Bool.and_true, oneOr, List.all_cons, List.all_nil, AVal.one, Value.oneCell', beq_self_eq_true, Bool.true_and, List.take_length, h0, h1, he, hg, hg2, hw, ne_eq, not_true_eq_false])
        refine ⟨by omega, (), Weak.list _ (Sub.refl _) (by (try simp +decide (implicitDefEqProofs := false) only [stk_nil, stk_skip, stk_ops, stk_seq, stk_block, stk_scope, stk_exit, stk_ret, stk_code_exit, stk_code_ret, stk_ops_exit, stk_ops_ret, stk_endb, stk_endb_exit, stk_endb_ret, stk_endl, stk_endl_exit, stk_endl_ret, stk_ops_nil, stk_q, stk_niq, niqA, flip, srcOf, stk_alloc, stk_box, stk_bsl, ↓stk_g, ↓stk_c, side, val, bside, bval, uside, uval, cside, cval, bndS, bndV, intA, isInt, lside, lval, fside, fval, faside, faval, iside, ival, sxside, sxval, sizeA, slside, slval, llside, llval, lenside, lenval, lenA, tupA, mmside, mmval, nkside, boolA, isBool, ev_t, ev_c, tget, put_s, put_n, lkside, lkval, menval, stk_mk, Option.isSome_some, isMapA, mapA, keyA, FZ_rfl, FZ_any, retOf, true_and, and_true, if_true, if_false, ↓reduceIte, decide_true, decide_false, Bool.not_true, Bool.not_false, Nat.zero_add, List.map_cons, List.map_nil, Int.toNat_natCast, strRows_len, intRows_len, List.getD_cons_zero, List.getD_cons_succ, List.length_cons, List.length_nil, List.forall_mem_cons, List.not_mem_nil, false_implies, implies_true, Int.ofNat_zero, Int.natCast_add, Int.natCast_one, Int.ofNat_one, Int.natCast_zero, isB, isU, Bool.false_eq_true, beq_self_eq_true, Bool.false_beq, Bool.true_beq, Int.natCast_nonneg, undef, strRows_take, strRows_drop, Int.toNat_zero, List.drop_zero, Bool.and_true, oneOr, List.all_cons, List.all_nil, AVal.one, Value.oneCell', beq_self_eq_true, Bool.true_and, List.take_length])), ?_⟩
        intro j hj
        by_cases e : j = i
        · rw [e]; exact he
        · exact hall j (by omega)
      · (try simp +decide (implicitDefEqProofs := false) only [stk_nil, stk_skip, stk_ops, stk_seq, stk_block, stk_scope, stk_exit, stk_ret, stk_code_exit, stk_code_ret, stk_ops_exit, stk_ops_ret, stk_endb, stk_endb_exit, stk_endb_ret, stk_endl, stk_endl_exit, stk_endl_ret, stk_ops_nil, stk_q, stk_niq, niqA, flip, srcOf, stk_alloc, stk_box, stk_bsl, ↓stk_g, ↓stk_c, side, val, bside, bval, uside, uval, cside, cval, bndS, bndV, intA, isInt, lside, lval, fside, fval, faside, faval, iside, ival, sxside, sxval, sizeA, slside, slval, llside, llval, lenside, lenval, lenA, tupA, mmside, mmval, nkside, boolA, isBool, ev_t, ev_c, tget, put_s, put_n, lkside, lkval, menval, stk_mk, Option.isSome_some, isMapA, mapA, keyA, FZ_rfl, FZ_any, retOf, true_and, and_true, if_true, if_false, ↓reduceIte, decide_true, decide_false, Bool.not_true, Bool.not_false, Nat.zero_add, List.map_cons, List.map_nil, Int.toNat_natCast, strRows_len, intRows_len, List.getD_cons_zero, List.getD_cons_succ, List.length_cons, List.length_nil, List.forall_mem_cons, List.not_mem_nil, false_implies, implies_true, Int.ofNat_zero, Int.natCast_add, Int.natCast_one, Int.ofNat_one, Int.natCast_zero, isB, isU, Bool.false_eq_true, beq_self_eq_true, Bool.false_beq, Bool.true_beq, Int.natCast_nonneg, undef, strRows_take, strRows_drop, Int.toNat_zero, List.drop_zero, Bool.and_true, oneOr, List.all_cons, List.all_nil, AVal.one, Value.oneCell', beq_self_eq_true, Bool.true_and, List.take_length, h0, h1, he, hg, hg2, hw, ne_eq, not_false_eq_true])
        refine aret_pure (.inr rfl) ?_; simp +decide only [retOf, tget, if_true, if_false, ↓reduceIte]
        rw [decide_eq_false]
        intro e; exact he (by rw [e])
    · have h1 : ¬ (i : Int) < (b.length : Int) := by omega
      (try simp +decide (implicitDefEqProofs := false) only [stk_nil, stk_skip, stk_ops, stk_seq, stk_block, stk_scope, stk_exit, stk_ret, stk_code_exit, stk_code_ret, stk_ops_exit, stk_ops_ret, stk_endb, stk_endb_exit, stk_endb_ret, stk_endl, stk_endl_exit, stk_endl_ret, stk_ops_nil, stk_q, stk_niq, niqA, flip, srcOf, stk_alloc, stk_box, stk_bsl, ↓stk_g, ↓stk_c, side, val, bside, bval, uside, uval, cside, cval, bndS, bndV, intA, isInt, lside, lval, fside, fval, faside, faval, iside, ival, sxside, sxval, sizeA, slside, slval, llside, llval, lenside, lenval, lenA, tupA, mmside, mmval, nkside, boolA, isBool, ev_t, ev_c, tget, put_s, put_n, lkside, lkval, menval, stk_mk, Option.isSome_some, isMapA, mapA, keyA, FZ_rfl, FZ_any, retOf, true_and, and_true, if_true, if_false, ↓reduceIte, decide_true, decide_false, Bool.not_true, Bool.not_false, Nat.zero_add, List.map_cons, List.map_nil, Int.toNat_natCast, strRows_len, intRows_len, List.getD_cons_zero, List.getD_cons_succ, List.length_cons, List.length_nil, List.forall_mem_cons, List.not_mem_nil, false_implies, implies_true, Int.ofNat_zero, Int.natCast_add, Int.natCast_one, Int.ofNat_one, Int.natCast_zero, isB, isU, Bool.false_eq_true, beq_self_eq_true, Bool.false_beq, Bool.true_beq, Int.natCast_nonneg, undef, strRows_take, strRows_drop, Int.toNat_zero, List.drop_zero, Bool.and_true, oneOr, List.all_cons, List.all_nil, AVal.one, Value.oneCell', beq_self_eq_true, Bool.true_and, List.take_length, h0, h1])
      refine aret_pure (.inr rfl) ?_; simp +decide only [retOf, tget, if_true, if_false, ↓reduceIte]
      rw [decide_eq_true (eq_of_getD hab fun j hj => hall j (by omega))]
  · have h0 : ¬ ((a.length : Int) = (b.length : Int)) := by omega
    (try simp +decide (implicitDefEqProofs := false) only [stk_nil, stk_skip, stk_ops, stk_seq, stk_block, stk_scope, stk_exit, stk_ret, stk_code_exit, stk_code_ret, stk_ops_exit, stk_ops_ret, stk_endb, stk_endb_exit, stk_endb_ret, stk_endl, stk_endl_exit, stk_endl_ret, stk_ops_nil, stk_q, stk_niq, niqA, flip, srcOf, stk_alloc, stk_box, stk_bsl, ↓stk_g, ↓stk_c, side, val, bside, bval, uside, uval, cside, cval, bndS, bndV, intA, isInt, lside, lval, fside, fval, faside, faval, iside, ival, sxside, sxval, sizeA, slside, slval, llside, llval, lenside, lenval, lenA, tupA, mmside, mmval, nkside, boolA, isBool, ev_t, ev_c, tget, put_s, put_n, lkside, lkval, menval, stk_mk, Option.isSome_some, isMapA, mapA, keyA, FZ_rfl, FZ_any, retOf, true_and, and_true, if_true, if_false, ↓reduceIte, decide_true, decide_false, Bool.not_true, Bool.not_false, Nat.zero_add, List.map_cons, List.map_nil, Int.toNat_natCast, strRows_len, intRows_len, List.getD_cons_zero, List.getD_cons_succ, List.length_cons, List.length_nil, List.forall_mem_cons, List.not_mem_nil, false_implies, implies_true, Int.ofNat_zero, Int.natCast_add, Int.natCast_one, Int.ofNat_one, Int.natCast_zero, isB, isU, Bool.false_eq_true, beq_self_eq_true, Bool.false_beq, Bool.true_beq, Int.natCast_nonneg, undef, strRows_take, strRows_drop, Int.toNat_zero, List.drop_zero, Bool.and_true, oneOr, List.all_cons, List.all_nil, AVal.one, Value.oneCell', beq_self_eq_true, Bool.true_and, List.take_length, h0, ne_eq, not_false_eq_true])
    refine aret_pure (.inr rfl) ?_; simp +decide only [retOf, tget, if_true, if_false, ↓reduceIte]
    rw [decide_eq_false]
    intro e; exact hab (by rw [e])
def c_Light : AFn := ⟨1, 31, [2],
  .seq (.ops [⟨(some 2), none, .q (.mv (.const (.bool false)))⟩])
  (.seq (.ops [⟨(some 3), none, .q (.mv (.const (.int .i64 0)))⟩])
  (.seq (.seq (.ops [⟨(some 4), none, .q (.mv (.const (.int .i64 0)))⟩])
  (.block 0 (.loop (.seq (.seq (.ops [⟨(some 5), none, .q (.mv (.tmp 4))⟩,
          ⟨(some 6), none, .q (.mv (.tmp 0))⟩,
          ⟨(some 7), none, .q (.len false (.tmp 6))⟩,
          ⟨(some 8), none, .q (.bin .lss .num (.tmp 5) (.tmp 7))⟩,
          ⟨(some 9), none, .q (.mv (.tmp 8))⟩,
          ⟨(some 10), (some (9, true)), .q (.mv (.tmp 3))⟩,
          ⟨(some 11), (some (9, true)), .q (.bin .lss .num (.tmp 10) (.const (.int .i64 5000)))⟩,
          ⟨(some 12), none, .q (.pick (.tmp 9) (.tmp 11) (.const (.bool false)))⟩])
      (.cond (.tmp 12)
        (.skip)
        (.exit 0)))
      (.seq (.block 1 (.ops [⟨(some 15), none, .q (.mv (.tmp 3))⟩,
            ⟨(some 16), none, .q (.bin .add .num (.tmp 15) (.const (.int .i64 1)))⟩,
            ⟨(some 17), none, .q (.mv (.tmp 0))⟩,
            ⟨(some 18), none, .q (.mv (.tmp 4))⟩,
            ⟨(some 19), none, .q (.ixa 1 (.tmp 17) (.tmp 18))⟩,
            ⟨(some 20), none, .q (.ld false 1 (.tmp 19))⟩,
            ⟨(some 21), none, .q (.len true (.tmp 20))⟩,
            ⟨(some 22), none, .q (.mm false (.tmp 21) (.const (.int .i64 5000)))⟩,
            ⟨(some 23), none, .q (.bin .add .num (.tmp 16) (.tmp 22))⟩,
            ⟨(some 3), none, .q (.mv (.tmp 23))⟩]))
      (.ops [⟨(some 13), none, .q (.mv (.tmp 4))⟩,
          ⟨(some 14), none, .q (.bin .add .num (.tmp 13) (.const (.int .i64 1)))⟩,
          ⟨(some 4), none, .q (.mv (.tmp 14))⟩]))))))
  (.seq (.ops [⟨(some 24), none, .q (.mv (.tmp 3))⟩,
      ⟨(some 25), none, .q (.bin .lss .num (.tmp 24) (.const (.int .i64 5000)))⟩,
      ⟨(some 26), none, .q (.mv (.tmp 25))⟩,
      ⟨(some 27), (some (26, true)), .q (.mv (.tmp 0))⟩,
      ⟨(some 28), (some (26, true)), .q (.len false (.tmp 27))⟩,
      ⟨(some 29), (some (26, true)), .q (.bin .leq .num (.tmp 28) (.const (.int .i64 300)))⟩,
      ⟨(some 30), none, .q (.pick (.tmp 26) (.tmp 29) (.const (.bool false)))⟩,
      ⟨(some 2), none, .q (.mv (.tmp 30))⟩])
  (.ret))))⟩
theorem k_Light : compF Try.prog 10 = some c_Light := by kernel_rfl
theorem light_ok {W : World} (f : Bool) (l : List Str) (hl : l.length ≤ maxLen) : ACalls Try.prog W 10 [.sl f 1 (strRows l)] AHeap.none (fun r _ => ∃ b : Bool, r = .v (.bool b) ∧ (b = true → l.length ≤ 300)) := by
  unfold maxLen at hl
  refine fn_run follows k_Light rfl ?_
  simp only [c_Light, List.zipIdx_cons, List.zipIdx_nil, List.map_cons, List.map_nil, Nat.zero_add]
  (try simp +decide (implicitDefEqProofs := false) only [stk_nil, stk_skip, stk_ops, stk_seq, stk_block, stk_scope, stk_exit, stk_ret, stk_code_exit, stk_code_ret, stk_ops_exit, stk_ops_ret, stk_endb, stk_endb_exit, stk_endb_ret, stk_endl, stk_endl_exit, stk_endl_ret, stk_ops_nil, stk_q, stk_niq, niqA, flip, srcOf, stk_alloc, stk_box, stk_bsl, ↓stk_g, ↓stk_c, side, val, bside, bval, uside, uval, cside, cval, bndS, bndV, intA, isInt, lside, lval, fside, fval, faside, faval, iside, ival, sxside, sxval, sizeA, slside, slval, llside, llval, lenside, lenval, lenA, tupA, mmside, mmval, nkside, boolA, isBool, ev_t, ev_c, tget, put_s, put_n, lkside, lkval, menval, stk_mk, Option.isSome_some, isMapA, mapA, keyA, FZ_rfl, FZ_any, retOf, true_and, and_true, if_true, if_false, ↓reduceIte, decide_true, decide_false, Bool.not_true, Bool.not_false, Nat.zero_add, List.map_cons, List.map_nil, Int.toNat_natCast, strRows_len, intRows_len, List.getD_cons_zero, List.getD_cons_succ, List.length_cons, List.length_nil, List.forall_mem_cons, List.not_mem_nil, false_implies, implies_true, Int.ofNat_zero, Int.natCast_add, Int.natCast_one, Int.ofNat_one, Int.natCast_zero, isB, isU, Bool.false_eq_true, beq_self_eq_true, Bool.false_beq, Bool.true_beq, Int.natCast_nonneg, undef, strRows_take, strRows_drop, Int.toNat_zero, List.drop_zero, Bool.and_true, oneOr, List.all_cons, List.all_nil, AVal.one, Value.oneCell', beq_self_eq_true, Bool.true_and, List.take_length])
  refine stk_up (α := Int) l.length (fun i n => ⟨[(4, .v (.int .i64 i)), (3, .v (.int .i64 n)), (0, .sl f 1 (strRows l))], AHeap.none⟩) (fun i n => 0 ≤ n ∧ n ≤ 10001) 0 (Weak.list _ (Sub.refl _) (by (try simp +decide (implicitDefEqProofs := false) only [stk_nil, stk_skip, stk_ops, stk_seq, stk_block, stk_scope, stk_exit, stk_ret, stk_code_exit, stk_code_ret, stk_ops_exit, stk_ops_ret, stk_endb, stk_endb_exit, stk_endb_ret, stk_endl, stk_endl_exit, stk_endl_ret, stk_ops_nil, stk_q, stk_niq, niqA, flip, srcOf, stk_alloc, stk_box, stk_bsl, ↓stk_g, ↓stk_c, side, val, bside, bval, uside, uval, cside, cval, bndS, bndV, intA, isInt, lside, lval, fside, fval, faside, faval, iside, ival, sxside, sxval, sizeA, slside, slval, llside, llval, lenside, lenval, lenA, tupA, mmside, mmval, nkside, boolA, isBool, ev_t, ev_c, tget, put_s, put_n, lkside, lkval, menval, stk_mk, Option.isSome_some, isMapA, mapA, keyA, FZ_rfl, FZ_any, retOf, true_and, and_true, if_true, if_false, ↓reduceIte, decide_true, decide_false, Bool.not_true, Bool.not_false, Nat.zero_add, List.map_cons, List.map_nil, Int.toNat_natCast, strRows_len, intRows_len, List.getD_cons_zero, List.getD_cons_succ, List.length_cons, List.length_nil, List.forall_mem_cons, List.not_mem_nil, false_implies, implies_true, Int.ofNat_zero, Int.natCast_add, Int.natCast_one, Int.ofNat_one, Int.natCast_zero, isB, isU, Bool.false_eq_true, beq_self_eq_true, Bool.false_beq, Bool.true_beq, Int.natCast_nonneg, undef, strRows_take, strRows_drop, Int.toNat_zero, List.drop_zero, Bool.and_true, oneOr, List.all_cons, List.all_nil, AVal.one, Value.oneCell', beq_self_eq_true, Bool.true_and, List.take_length]))) (by omega) ?_
  rintro i n hi ⟨hn0, hn⟩
  by_cases hl : i < l.length
  · have h1 : (i : Int) < (l.length : Int) := by omega
    by_cases h2 : n < 5000
    · have hg := strRows_get hl
      have hw := wrap_in (n := i + 1) (by omega) (by omega)
      have hw2 := wrap_in (n := n + 1) (by omega) (by omega)
      have hw3 := wrap_in (n := n + 1 + min ((l.getD i ByteArray.empty).size : Int) 5000) (by omega) (by omega)
      (try simp +decide (implicitDefEqProofs := false) only [stk_nil, stk_skip, stk_ops, stk_seq, stk_block, stk_scope, stk_exit, stk_ret, stk_code_exit, stk_code_ret, stk_ops_exit, stk_ops_ret, stk_endb, stk_endb_exit, stk_endb_ret, stk_endl, stk_endl_exit, stk_endl_ret, stk_ops_nil, stk_q, stk_niq, niqA, flip, srcOf, stk_alloc, stk_box, stk_bsl, ↓stk_g, ↓stk_c, side, val, bside, bval, uside, uval, cside, cval, bndS, bndV, intA, isInt, lside, lval, fside, fval, faside, faval, iside, ival, sxside, sxval, sizeA, slside, slval, llside, llval, lenside, lenval, lenA, tupA, mmside, mmval, nkside, boolA, isBool, ev_t, ev_c, tget, put_s, put_n, lkside, lkval, menval, stk_mk, Option.isSome_some, isMapA, mapA, keyA, FZ_rfl, FZ_any, retOf, true_and, and_true, if_true, if_false, ↓reduceIte, decide_true, decide_false, Bool.not_true, Bool.not_false, Nat.zero_add, List.map_cons, List.map_nil, Int.toNat_natCast, strRows_len, intRows_len, List.getD_cons_zero, List.getD_cons_succ, List.length_cons, List.length_nil, List.forall_mem_cons, List.not_mem_nil, false_implies, implies_true, Int.ofNat_zero, Int.natCast_add, Int.natCast_one, Int.ofNat_one, Int.natCast_zero, isB, isU, Bool.false_eq_true, beq_self_eq_true, Bool.false_beq, Bool.true_beq, Int.natCast_nonneg, undef, strRows_take, strRows_drop, Int.toNat_zero, List.drop_zero, Bool.and_true, oneOr, List.all_cons, List.all_nil, AVal.one, Value.oneCell', beq_self_eq_true, Bool.true_and, List.take_length, h1, h2, hg, hw, hw2, hw3])
      exact ⟨by omega, n + 1 + min ((l.getD i ByteArray.empty).size : Int) 5000, Weak.list _ (Sub.refl _) (by (try simp +decide (implicitDefEqProofs := false) only [stk_nil, stk_skip, stk_ops, stk_seq, stk_block, stk_scope, stk_exit, stk_ret, stk_code_exit, stk_code_ret, stk_ops_exit, stk_ops_ret, stk_endb, stk_endb_exit, stk_endb_ret, stk_endl, stk_endl_exit, stk_endl_ret, stk_ops_nil, stk_q, stk_niq, niqA, flip, srcOf, stk_alloc, stk_box, stk_bsl, ↓stk_g, ↓stk_c, side, val, bside, bval, uside, uval, cside, cval, bndS, bndV, intA, isInt, lside, lval, fside, fval, faside, faval, iside, ival, sxside, sxval, sizeA, slside, slval, llside, llval, lenside, lenval, lenA, tupA, mmside, mmval, nkside, boolA, isBool, ev_t, ev_c, tget, put_s, put_n, lkside, lkval, menval, stk_mk, Option.isSome_some, isMapA, mapA, keyA, FZ_rfl, FZ_any, retOf, true_and, and_true, if_true, if_false, ↓reduceIte, decide_true, decide_false, Bool.not_true, Bool.not_false, Nat.zero_add, List.map_cons, List.map_nil, Int.toNat_natCast, strRows_len, intRows_len, List.getD_cons_zero, List.getD_cons_succ, List.length_cons, List.length_nil, List.forall_mem_cons, List.not_mem_nil, false_implies, implies_true, Int.ofNat_zero, Int.natCast_add, Int.natCast_one, Int.ofNat_one, Int.natCast_zero, isB, isU, Bool.false_eq_true, beq_self_eq_true, Bool.false_beq, Bool.true_beq, Int.natCast_nonneg, undef, strRows_take, strRows_drop, Int.toNat_zero, List.drop_zero, Bool.and_true, oneOr, List.all_cons, List.all_nil, AVal.one, Value.oneCell', beq_self_eq_true, Bool.true_and, List.take_length])), by omega, by omega⟩
    · (try simp +decide (implicitDefEqProofs := false) only [stk_nil, stk_skip, stk_ops, stk_seq, stk_block, stk_scope, stk_exit, stk_ret, stk_code_exit, stk_code_ret, stk_ops_exit, stk_ops_ret, stk_endb, stk_endb_exit, stk_endb_ret, stk_endl, stk_endl_exit, stk_endl_ret, stk_ops_nil, stk_q, stk_niq, niqA, flip, srcOf, stk_alloc, stk_box, stk_bsl, ↓stk_g, ↓stk_c, side, val, bside, bval, uside, uval, cside, cval, bndS, bndV, intA, isInt, lside, lval, fside, fval, faside, faval, iside, ival, sxside, sxval, sizeA, slside, slval, llside, llval, lenside, lenval, lenA, tupA, mmside, mmval, nkside, boolA, isBool, ev_t, ev_c, tget, put_s, put_n, lkside, lkval, menval, stk_mk, Option.isSome_some, isMapA, mapA, keyA, FZ_rfl, FZ_any, retOf, true_and, and_true, if_true, if_false, ↓reduceIte, decide_true, decide_false, Bool.not_true, Bool.not_false, Nat.zero_add, List.map_cons, List.map_nil, Int.toNat_natCast, strRows_len, intRows_len, List.getD_cons_zero, List.getD_cons_succ, List.length_cons, List.length_nil, List.forall_mem_cons, List.not_mem_nil, false_implies, implies_true, Int.ofNat_zero, Int.natCast_add, Int.natCast_one, Int.ofNat_one, Int.natCast_zero, isB, isU, Bool.false_eq_true, beq_self_eq_true, Bool.false_beq, Bool.true_beq, Int.natCast_nonneg, undef, strRows_take, strRows_drop, Int.toNat_zero, List.drop_zero, Bool.and_true, oneOr, List.all_cons, List.all_nil, AVal.one, Value.oneCell', beq_self_eq_true, Bool.true_and, List.take_length, h1, h2])
      refine aret_pure (.inr rfl) ?_; simp +decide only [retOf, tget, if_true, if_false, ↓reduceIte]
      exact ⟨_, rfl, fun h => by simp at h⟩
  · have h1 : ¬ (i : Int) < (l.length : Int) := by omega
    by_cases h2 : n < 5000
    · (try simp +decide (implicitDefEqProofs := false) only [stk_nil, stk_skip, stk_ops, stk_seq, stk_block, stk_scope, stk_exit, stk_ret, stk_code_exit, stk_code_ret, stk_ops_exit, stk_ops_ret, stk_endb, stk_endb_exit, stk_endb_ret, stk_endl, stk_endl_exit, stk_endl_ret, stk_ops_nil, stk_q, stk_niq, niqA, flip, srcOf, stk_alloc, stk_box, stk_bsl, ↓stk_g, ↓stk_c, side, val, bside, bval, uside, uval, cside, cval, bndS, bndV, intA, isInt, lside, lval, fside, fval, faside, faval, iside, ival, sxside, sxval, sizeA, slside, slval, llside, llval, lenside, lenval, lenA, tupA, mmside, mmval, nkside, boolA, isBool, ev_t, ev_c, tget, put_s, put_n, lkside, lkval, menval, stk_mk, Option.isSome_some, isMapA, mapA, keyA, FZ_rfl, FZ_any, retOf, true_and, and_true, if_true, if_false, ↓reduceIte, decide_true, decide_false, Bool.not_true, Bool.not_false, Nat.zero_add, List.map_cons, List.map_nil, Int.toNat_natCast, strRows_len, intRows_len, List.getD_cons_zero, List.getD_cons_succ, List.length_cons, List.length_nil, List.forall_mem_cons, List.not_mem_nil, false_implies, implies_true, Int.ofNat_zero, Int.natCast_add, Int.natCast_one, Int.ofNat_one, Int.natCast_zero, isB, isU, Bool.false_eq_true, beq_self_eq_true, Bool.false_beq, Bool.true_beq, Int.natCast_nonneg, undef, strRows_take, strRows_drop, Int.toNat_zero, List.drop_zero, Bool.and_true, oneOr, List.all_cons, List.all_nil, AVal.one, Value.oneCell', beq_self_eq_true, Bool.true_and, List.take_length, h1, h2])
      refine aret_pure (.inr rfl) ?_; simp +decide only [retOf, tget, if_true, if_false, ↓reduceIte]
      refine ⟨_, rfl, fun h => ?_⟩
      simp at h
      omega
    · (try simp +decide (implicitDefEqProofs := false) only [stk_nil, stk_skip, stk_ops, stk_seq, stk_block, stk_scope, stk_exit, stk_ret, stk_code_exit, stk_code_ret, stk_ops_exit, stk_ops_ret, stk_endb, stk_endb_exit, stk_endb_ret, stk_endl, stk_endl_exit, stk_endl_ret, stk_ops_nil, stk_q, stk_niq, niqA, flip, srcOf, stk_alloc, stk_box, stk_bsl, ↓stk_g, ↓stk_c, side, val, bside, bval, uside, uval, cside, cval, bndS, bndV, intA, isInt, lside, lval, fside, fval, faside, faval, iside, ival, sxside, sxval, sizeA, slside, slval, llside, llval, lenside, lenval, lenA, tupA, mmside, mmval, nkside, boolA, isBool, ev_t, ev_c, tget, put_s, put_n, lkside, lkval, menval, stk_mk, Option.isSome_some, isMapA, mapA, keyA, FZ_rfl, FZ_any, retOf, true_and, and_true, if_true, if_false, ↓reduceIte, decide_true, decide_false, Bool.not_true, Bool.not_false, Nat.zero_add, List.map_cons, List.map_nil, Int.toNat_natCast, strRows_len, intRows_len, List.getD_cons_zero, List.getD_cons_succ, List.length_cons, List.length_nil, List.forall_mem_cons, List.not_mem_nil, false_implies, implies_true, Int.ofNat_zero, Int.natCast_add, Int.natCast_one, Int.ofNat_one, Int.natCast_zero, isB, isU, Bool.false_eq_true, beq_self_eq_true, Bool.false_beq, Bool.true_beq, Int.natCast_nonneg, undef, strRows_take, strRows_drop, Int.toNat_zero, List.drop_zero, Bool.and_true, oneOr, List.all_cons, List.all_nil, AVal.one, Value.oneCell', beq_self_eq_true, Bool.true_and, List.take_length, h1, h2])
      refine aret_pure (.inr rfl) ?_; simp +decide only [retOf, tget, if_true, if_false, ↓reduceIte]
      exact ⟨_, rfl, fun h => by simp at h⟩
def c_small : AFn := ⟨1, 18, [2],
  .seq (.ops [⟨(some 2), none, .q (.mv (.const (.bool false)))⟩])
  (.seq (.seq (.ops [⟨(some 3), none, .q (.mv (.const (.int .i64 0)))⟩])
  (.block 0 (.loop (.seq (.seq (.ops [⟨(some 4), none, .q (.mv (.tmp 3))⟩,
          ⟨(some 5), none, .q (.mv (.tmp 0))⟩,
          ⟨(some 6), none, .q (.len false (.tmp 5))⟩,
          ⟨(some 7), none, .q (.bin .lss .num (.tmp 4) (.tmp 6))⟩])
      (.cond (.tmp 7)
        (.skip)
        (.exit 0)))
      (.seq (.block 1 (.seq (.ops [⟨(some 10), none, .q (.mv (.tmp 0))⟩,
            ⟨(some 11), none, .q (.mv (.tmp 3))⟩,
            ⟨(some 12), none, .q (.ixa 1 (.tmp 10) (.tmp 11))⟩,
            ⟨(some 13), none, .q (.ld false 1 (.tmp 12))⟩,
            ⟨(some 14), none, .q (.bin .gtr .num (.tmp 13) (.const (.int .i64 1000000)))⟩])
        (.cond (.tmp 14)
          (.seq (.ops [⟨(some 2), none, .q (.mv (.const (.bool false)))⟩])
          (.ret))
          (.skip))))
      (.ops [⟨(some 8), none, .q (.mv (.tmp 3))⟩,
          ⟨(some 9), none, .q (.bin .add .num (.tmp 8) (.const (.int .i64 1)))⟩,
          ⟨(some 3), none, .q (.mv (.tmp 9))⟩]))))))
  (.seq (.ops [⟨(some 15), none, .q (.mv (.tmp 0))⟩,
      ⟨(some 16), none, .q (.len false (.tmp 15))⟩,
      ⟨(some 17), none, .q (.bin .leq .num (.tmp 16) (.const (.int .i64 1000)))⟩,
      ⟨(some 2), none, .q (.mv (.tmp 17))⟩])
  (.ret)))⟩
theorem k_small : compF Try.prog 16 = some c_small := by kernel_rfl
theorem small_ok {W : World} (f : Bool) (l : List Int) (hl : l.length ≤ maxLen) : ACalls Try.prog W 16 [.sl f 1 (intRows l)] AHeap.none (fun r _ => ∃ b : Bool, r = .v (.bool b) ∧ (b = true → l.length ≤ 1000 ∧ ∀ i, i < l.length → l.getD i 0 ≤ 1000000)) := by
  unfold maxLen at hl
  refine fn_run follows k_small rfl ?_
  simp only [c_small, List.zipIdx_cons, List.zipIdx_nil, List.map_cons, List.map_nil, Nat.zero_add]
  (try simp +decide (implicitDefEqProofs := false) only [stk_nil, stk_skip, stk_ops, stk_seq, stk_block, stk_scope, stk_exit, stk_ret, stk_code_exit, stk_code_ret, stk_ops_exit, stk_ops_ret, stk_endb, stk_endb_exit, stk_endb_ret, stk_endl, stk_endl_exit, stk_endl_ret, stk_ops_nil, stk_q, stk_niq, niqA, flip, srcOf, stk_alloc, stk_box, stk_bsl, ↓stk_g, ↓stk_c, side, val, bside, bval, uside, uval, cside, cval, bndS, bndV, intA, isInt, lside, lval, fside, fval, faside, faval, iside, ival, sxside, sxval, sizeA, slside, slval, llside, llval, lenside, lenval, lenA, tupA, mmside, mmval, nkside, boolA, isBool, ev_t, ev_c, tget, put_s, put_n, lkside, lkval, menval, stk_mk, Option.isSome_some, isMapA, mapA, keyA, FZ_rfl, FZ_any, retOf, true_and, and_true, if_true, if_false, ↓reduceIte, decide_true, decide_false, Bool.not_true, Bool.not_false, Nat.zero_add, List.map_cons, List.map_nil, Int.toNat_natCast, strRows_len, intRows_len, List.getD_cons_zero, List.getD_cons_succ, List.length_cons, List.length_nil, List.forall_mem_cons, List.not_mem_nil, false_implies, implies_true, Int.ofNat_zero, Int.natCast_add, Int.natCast_one, Int.ofNat_one, Int.natCast_zero, isB, isU, Bool.false_eq_true, beq_self_eq_true, Bool.false_beq, Bool.true_beq, Int.natCast_nonneg, undef, strRows_take, strRows_drop, Int.toNat_zero, List.drop_zero, Bool.and_true, oneOr, List.all_cons, List.all_nil, AVal.one, Value.oneCell', beq_self_eq_true, Bool.true_and, List.take_length])
  refine stk_up (α := Unit) l.length (fun i _ => ⟨[(3, .v (.int .i64 i)), (0, .sl f 1 (intRows l))], AHeap.none⟩) (fun i _ => ∀ j, j < i → l.getD j 0 ≤ 1000000) () (Weak.list _ (Sub.refl _) (by (try simp +decide (implicitDefEqProofs := false) only [stk_nil, stk_skip, stk_ops, stk_seq, stk_block, stk_scope, stk_exit, stk_ret, stk_code_exit, stk_code_ret, stk_ops_exit, stk_ops_ret, stk_endb, stk_endb_exit, stk_endb_ret, stk_endl, stk_endl_exit, stk_endl_ret, stk_ops_nil, stk_q, stk_niq, niqA, flip, srcOf, stk_alloc, stk_box, stk_bsl, ↓stk_g, ↓stk_c, side, val, bside, bval, uside, uval, cside, cval, bndS, bndV, intA, isInt, lside, lval, fside, fval, faside, faval, iside, ival, sxside, sxval, sizeA, slside, slval, llside, llval, lenside, lenval, lenA, tupA, mmside, mmval, nkside, boolA, isBool, ev_t, ev_c, tget, put_s, put_n, lkside, lkval, menval, stk_mk, Option.isSome_some, isMapA, mapA, keyA, FZ_rfl, FZ_any, retOf, true_and, and_true, if_true, if_false, ↓reduceIte, decide_true, decide_false, Bool.not_true, Bool.not_false, Nat.zero_add, List.map_cons, List.map_nil, Int.toNat_natCast, strRows_len, intRows_len, List.getD_cons_zero, List.getD_cons_succ, List.length_cons, List.length_nil, List.forall_mem_cons, List.not_mem_nil, false_implies, implies_true, Int.ofNat_zero, Int.natCast_add, Int.natCast_one, Int.ofNat_one, Int.natCast_zero, isB, isU, Bool.false_eq_true, beq_self_eq_true, Bool.false_beq, Bool.true_beq, Int.natCast_nonneg, undef, strRows_take, strRows_drop, Int.toNat_zero, List.drop_zero, Bool.and_true, oneOr, List.all_cons, List.all_nil, AVal.one, Value.oneCell', beq_self_eq_true, Bool.true_and, List.take_length]))) (fun j hj => by omega) ?_
  rintro i _ hi hall
  by_cases hl : i < l.length
  · have h1 : (i : Int) < (l.length : Int) := by omega
    have hg := intRows_get hl
    have hw := wrap_in (n := i + 1) (by omega) (by omega)
    by_cases he : 1000000 < l.getD i 0
    · (try simp +decide (implicitDefEqProofs := false) only [stk_nil, stk_skip, stk_ops, stk_seq, stk_block, stk_scope, stk_exit, stk_ret, stk_code_exit, stk_code_ret, stk_ops_exit, stk_ops_ret, stk_endb, stk_endb_exit, stk_endb_ret, stk_endl, stk_endl_exit, stk_endl_ret, stk_ops_nil, stk_q, stk_niq, niqA, flip, srcOf, stk_alloc, stk_box, stk_bsl, ↓stk_g, ↓stk_c, side, val, bside, bval, uside, uval, cside, cval, bndS, bndV, intA, isInt, lside, lval, fside, fval, faside, faval, iside, ival, sxside, sxval, sizeA, slside, slval, llside, llval, lenside, lenval, lenA, tupA, mmside, mmval, nkside, boolA, isBool, ev_t, ev_c, tget, put_s, put_n, lkside, lkval, menval, stk_mk, Option.isSome_some, isMapA, mapA, keyA, FZ_rfl, FZ_any, retOf, true_and, and_true, if_true, if_false, ↓reduceIte, decide_true, decide_false, Bool.not_true, Bool.not_false, Nat.zero_add, List.map_cons, List.map_nil, Int.toNat_natCast, strRows_len, intRows_len, List.getD_cons_zero, List.getD_cons_succ, List.length_cons, List.length_nil, List.forall_mem_cons, List.not_mem_nil, false_implies, implies_true, Int.ofNat_zero, Int.natCast_add, Int.natCast_one, Int.ofNat_one, Int.natCast_zero, isB, isU, Bool.false_eq_true, beq_self_eq_true, Bool.false_beq, Bool.true_beq, Int.natCast_nonneg, undef, strRows_take, strRows_drop, Int.toNat_zero, List.drop_zero, Bool.and_true, oneOr, List.all_cons, List.all_nil, AVal.one, Value.oneCell', beq_self_eq_true, Bool.true_and, List.take_length, h1, he, hg, hw])
      refine aret_pure (.inr rfl) ?_; simp +decide only [retOf, tget, if_true, if_false, ↓reduceIte]
      exact ⟨_, rfl, fun h => by cases h⟩
    · (try simp +decide (implicitDefEqProofs := false) only [stk_nil, stk_skip, stk_ops, stk_seq, stk_block, stk_scope, stk_exit, stk_ret, stk_code_exit, stk_code_ret, stk_ops_exit, stk_ops_ret, stk_endb, stk_endb_exit, stk_endb_ret, stk_endl, stk_endl_exit, stk_endl_ret, stk_ops_nil, stk_q, stk_niq, niqA, flip, srcOf, stk_alloc, stk_box, stk_bsl, ↓stk_g, ↓stk_c, side, val, bside, bval, uside, uval, cside, cval, bndS, bndV, intA, isInt, lside, lval, fside, fval, faside, faval, iside, ival, sxside, sxval, sizeA, slside, slval, llside, llval, lenside, lenval, lenA, tupA, mmside, mmval, nkside, boolA, isBool, ev_t, ev_c, tget, put_s, put_n, lkside, lkval, menval, stk_mk, Option.isSome_some, isMapA, mapA, keyA, FZ_rfl, FZ_any, retOf, true_and, and_true, if_true, if_false, ↓reduceIte, decide_true, decide_false, Bool.not_true, Bool.not_false, Nat.zero_add, List.map_cons, List.map_nil, Int.toNat_natCast, strRows_len, intRows_len, List.getD_cons_zero, List.getD_cons_succ, List.length_cons, List.length_nil, List.forall_mem_cons, List.not_mem_nil, false_implies, implies_true, Int.ofNat_zero, Int.natCast_add, Int.natCast_one, Int.ofNat_one, Int.natCast_zero, isB, isU, Bool.false_eq_true, beq_self_eq_true, Bool.false_beq, Bool.true_beq, Int.natCast_nonneg, undef, strRows_take, strRows_drop, Int.toNat_zero, List.drop_zero, Bool.and_true, oneOr, List.all_cons, List.all_nil, AVal.one, Value.oneCell', beq_self_eq_true, Bool.true_and, List.take_length, h1, he, hg, hw])
      refine ⟨by omega, (), Weak.list _ (Sub.refl _) (by (try simp +decide (implicitDefEqProofs := false) only [stk_nil, stk_skip, stk_ops, stk_seq, stk_block, stk_scope, stk_exit, stk_ret, stk_code_exit, stk_code_ret, stk_ops_exit, stk_ops_ret, stk_endb, stk_endb_exit, stk_endb_ret, stk_endl, stk_endl_exit, stk_endl_ret, stk_ops_nil, stk_q, stk_niq, niqA, flip, srcOf, stk_alloc, stk_box, stk_bsl, ↓stk_g, ↓stk_c, side, val, bside, bval, uside, uval, cside, cval, bndS, bndV, intA, isInt, lside, lval, fside, fval, faside, faval, iside, ival, sxside, sxval, sizeA, slside, slval, llside, llval, lenside, lenval, lenA, tupA, mmside, mmval, nkside, boolA, isBool, ev_t, ev_c, tget, put_s, put_n, lkside, lkval, menval, stk_mk, Option.isSome_some, isMapA, mapA, keyA, FZ_rfl, FZ_any, retOf, true_and, and_true, if_true, if_false, ↓reduceIte, decide_true, decide_false, Bool.not_true, Bool.not_false, Nat.zero_add, List.map_cons, List.map_nil, Int.toNat_natCast, strRows_len, intRows_len, List.getD_cons_zero, List.getD_cons_succ, List.length_cons, List.length_nil, List.forall_mem_cons, List.not_mem_nil, false_implies, implies_true, Int.ofNat_zero, Int.natCast_add, Int.natCast_one, Int.ofNat_one, Int.natCast_zero, isB, isU, Bool.false_eq_true, beq_self_eq_true, Bool.false_beq, Bool.true_beq, Int.natCast_nonneg, undef, strRows_take, strRows_drop, Int.toNat_zero, List.drop_zero, Bool.and_true, oneOr, List.all_cons, List.all_nil, AVal.one, Value.oneCell', beq_self_eq_true, Bool.true_and, List.take_length])), ?_⟩
      intro j hj
      by_cases e : j = i
      · rw [e]; omega
      · exact hall j (by omega)
  · have h1 : ¬ (i : Int) < (l.length : Int) := by omega
    (try simp +decide (implicitDefEqProofs := false) only [stk_nil, stk_skip, stk_ops, stk_seq, stk_block, stk_scope, stk_exit, stk_ret, stk_code_exit, stk_code_ret, stk_ops_exit, stk_ops_ret, stk_endb, stk_endb_exit, stk_endb_ret, stk_endl, stk_endl_exit, stk_endl_ret, stk_ops_nil, stk_q, stk_niq, niqA, flip, srcOf, stk_alloc, stk_box, stk_bsl, ↓stk_g, ↓stk_c, side, val, bside, bval, uside, uval, cside, cval, bndS, bndV, intA, isInt, lside, lval, fside, fval, faside, faval, iside, ival, sxside, sxval, sizeA, slside, slval, llside, llval, lenside, lenval, lenA, tupA, mmside, mmval, nkside, boolA, isBool, ev_t, ev_c, tget, put_s, put_n, lkside, lkval, menval, stk_mk, Option.isSome_some, isMapA, mapA, keyA, FZ_rfl, FZ_any, retOf, true_and, and_true, if_true, if_false, ↓reduceIte, decide_true, decide_false, Bool.not_true, Bool.not_false, Nat.zero_add, List.map_cons, List.map_nil, Int.toNat_natCast, strRows_len, intRows_len, List.getD_cons_zero, List.getD_cons_succ, List.length_cons, List.length_nil, List.forall_mem_cons, List.not_mem_nil, false_implies, implies_true, Int.ofNat_zero, Int.natCast_add, Int.natCast_one, Int.ofNat_one, Int.natCast_zero, isB, isU, Bool.false_eq_true, beq_self_eq_true, Bool.false_beq, Bool.true_beq, Int.natCast_nonneg, undef, strRows_take, strRows_drop, Int.toNat_zero, List.drop_zero, Bool.and_true, oneOr, List.all_cons, List.all_nil, AVal.one, Value.oneCell', beq_self_eq_true, Bool.true_and, List.take_length, h1])
    refine aret_pure (.inr rfl) ?_; simp +decide only [retOf, tget, if_true, if_false, ↓reduceIte]
    refine ⟨_, rfl, fun h => ⟨?_, fun j hj => hall j (by omega)⟩⟩
    simp at h
    omega
def c_Size : AFn := ⟨2, 14, [4],
  .seq (.ops [⟨(some 4), none, .q (.mv (.const (.int .i64 0)))⟩])
  (.seq (.seq (.ops [⟨(some 5), none, .q (.mv (.tmp 1))⟩,
      ⟨(some 6), none, .q (.mv (.tmp 0))⟩,
      ⟨(some 7), none, .q (.len false (.tmp 6))⟩,
      ⟨(some 8), none, .q (.bin .geq .num (.tmp 5) (.tmp 7))⟩])
  (.cond (.tmp 8)
    (.seq (.ops [⟨(some 4), none, .q (.mv (.const (.int .i64 0)))⟩])
    (.ret))
    (.skip)))
  (.seq (.ops [⟨(some 9), none, .q (.mv (.tmp 0))⟩,
      ⟨(some 10), none, .q (.mv (.tmp 1))⟩,
      ⟨(some 11), none, .q (.ixa 1 (.tmp 9) (.tmp 10))⟩,
      ⟨(some 12), none, .q (.ld false 1 (.tmp 11))⟩,
      ⟨(some 13), none, .q (.mm true (.tmp 12) (.const (.int .i64 0)))⟩,
      ⟨(some 4), none, .q (.mv (.tmp 13))⟩])
  (.ret)))⟩
theorem k_Size : compF Try.prog 20 = some c_Size := by kernel_rfl
def sizeAt (l : List Int) (i : Nat) : Int := if i < l.length then max (l.getD i 0) 0 else 0
theorem size_ok {W : World} (f : Bool) (l : List Int) (i : Nat) : ACalls Try.prog W 20 [.sl f 1 (intRows l), .v (.int .i64 i)] AHeap.none (fun r _ => r = .v (.int .i64 (sizeAt l i))) := by
  refine fn_run follows k_Size rfl ?_
  simp only [c_Size, List.zipIdx_cons, List.zipIdx_nil, List.map_cons, List.map_nil, Nat.zero_add]
  by_cases hl : i < l.length
  · have h1 : ¬ (l.length : Int) ≤ (i : Int) := by omega
    have h2 : (i : Int) < (l.length : Int) := by omega
    have hg := intRows_get hl
    (try simp +decide (implicitDefEqProofs := false) only [stk_nil, stk_skip, stk_ops, stk_seq, stk_block, stk_scope, stk_exit, stk_ret, stk_code_exit, stk_code_ret, stk_ops_exit, stk_ops_ret, stk_endb, stk_endb_exit, stk_endb_ret, stk_endl, stk_endl_exit, stk_endl_ret, stk_ops_nil, stk_q, stk_niq, niqA, flip, srcOf, stk_alloc, stk_box, stk_bsl, ↓stk_g, ↓stk_c, side, val, bside, bval, uside, uval, cside, cval, bndS, bndV, intA, isInt, lside, lval, fside, fval, faside, faval, iside, ival, sxside, sxval, sizeA, slside, slval, llside, llval, lenside, lenval, lenA, tupA, mmside, mmval, nkside, boolA, isBool, ev_t, ev_c, tget, put_s, put_n, lkside, lkval, menval, stk_mk, Option.isSome_some, isMapA, mapA, keyA, FZ_rfl, FZ_any, retOf, true_and, and_true, if_true, if_false, ↓reduceIte, decide_true, decide_false, Bool.not_true, Bool.not_false, Nat.zero_add, List.map_cons, List.map_nil, Int.toNat_natCast, strRows_len, intRows_len, List.getD_cons_zero, List.getD_cons_succ, List.length_cons, List.length_nil, List.forall_mem_cons, List.not_mem_nil, false_implies, implies_true, Int.ofNat_zero, Int.natCast_add, Int.natCast_one, Int.ofNat_one, Int.natCast_zero, isB, isU, Bool.false_eq_true, beq_self_eq_true, Bool.false_beq, Bool.true_beq, Int.natCast_nonneg, undef, strRows_take, strRows_drop, Int.toNat_zero, List.drop_zero, Bool.and_true, oneOr, List.all_cons, List.all_nil, AVal.one, Value.oneCell', beq_self_eq_true, Bool.true_and, List.take_length, h1, h2, hg])
    refine aret_pure (.inr rfl) ?_; simp +decide only [retOf, tget, if_true, if_false, ↓reduceIte]
    rw [sizeAt, if_pos hl]
  · have h1 : (l.length : Int) ≤ (i : Int) := by omega
    (try simp +decide (implicitDefEqProofs := false) only [stk_nil, stk_skip, stk_ops, stk_seq, stk_block, stk_scope, stk_exit, stk_ret, stk_code_exit, stk_code_ret, stk_ops_exit, stk_ops_ret, stk_endb, stk_endb_exit, stk_endb_ret, stk_endl, stk_endl_exit, stk_endl_ret, stk_ops_nil, stk_q, stk_niq, niqA, flip, srcOf, stk_alloc, stk_box, stk_bsl, ↓stk_g, ↓stk_c, side, val, bside, bval, uside, uval, cside, cval, bndS, bndV, intA, isInt, lside, lval, fside, fval, faside, faval, iside, ival, sxside, sxval, sizeA, slside, slval, llside, llval, lenside, lenval, lenA, tupA, mmside, mmval, nkside, boolA, isBool, ev_t, ev_c, tget, put_s, put_n, lkside, lkval, menval, stk_mk, Option.isSome_some, isMapA, mapA, keyA, FZ_rfl, FZ_any, retOf, true_and, and_true, if_true, if_false, ↓reduceIte, decide_true, decide_false, Bool.not_true, Bool.not_false, Nat.zero_add, List.map_cons, List.map_nil, Int.toNat_natCast, strRows_len, intRows_len, List.getD_cons_zero, List.getD_cons_succ, List.length_cons, List.length_nil, List.forall_mem_cons, List.not_mem_nil, false_implies, implies_true, Int.ofNat_zero, Int.natCast_add, Int.natCast_one, Int.ofNat_one, Int.natCast_zero, isB, isU, Bool.false_eq_true, beq_self_eq_true, Bool.false_beq, Bool.true_beq, Int.natCast_nonneg, undef, strRows_take, strRows_drop, Int.toNat_zero, List.drop_zero, Bool.and_true, oneOr, List.all_cons, List.all_nil, AVal.one, Value.oneCell', beq_self_eq_true, Bool.true_and, List.take_length, h1])
    refine aret_pure (.inr rfl) ?_; simp +decide only [retOf, tget, if_true, if_false, ↓reduceIte]
    rw [sizeAt, if_neg hl]
end Go.Proofs.Ythigakhmggbliaa.M
