/-
  The law DomNested, walked.
-/
import Derived.Test.YtidicfdcjoggpaaBridge2
import Derived.Test.YtidicfdcjoggpaaDomNestedLaw
import Derived.Test.YtidicfdcjoggpaaDomBesideWalk
namespace Go.Proofs.Ytidicfdcjoggpaa.M
open Go.RowKit
set_option linter.unusedVariables false
set_option linter.unusedSimpArgs false
theorem RowO.own {H : AHeap} {E sz : Nat} {x : AVal} {rows : List (List AVal)} (h : RowO H E sz x rows) (hne : rows ≠ []) : ∃ g, x = .bs g sz rows.length ∧ H g = some (.buf E sz rows) := by
  cases h with
  | nil => exact absurd rfl hne
  | bs h hn => exact ⟨_, by rw [hn], h⟩
def ntoks (n : Nat) : List Token := (List.range' 0 n).map fun i => tokStart (nmN i)
theorem ntoks_succ (n : Nat) : ntoks (n + 1) = ntoks n ++ [tokStart (nmN n)] := by simp [ntoks, List.range'_concat]
theorem ntoks_len (n : Nat) : (ntoks n).length = n := by simp [ntoks]
theorem ntoks_zero {n : Nat} (h : 0 < n) : ((ntoks n).map rawRow).getD 0 [] = rawRow (tokStart (nmN 0)) := by
  obtain ⟨m, rfl⟩ : ∃ m, n = m + 1 := ⟨n - 1, by omega⟩
  rfl
theorem nm_bytes {i : Nat} (h : i < 60) : [[AVal.v (.int .u8 (97 + ((i % 2 : Nat) : Int)))], [AVal.v (.int .u8 (48 + ((i / 10 : Nat) : Int)))], [AVal.v (.int .u8 (48 + ((i % 10 : Nat) : Int)))]] = bytesOf (nmN i) := by
  have h1 : (97 + i % 2) % 256 = 97 + i % 2 := by omega
  have h2 : (48 + i / 10) % 256 = 48 + i / 10 := by omega
  have h3 : (48 + i % 10) % 256 = 48 + i % 10 := by omega
  simp only [bytesOf, nmN, List.map_cons, List.map_nil, UInt8.toNat_ofNat', h1, h2, h3, Int.natCast_add]
  rfl
theorem u8_in {n : Int} (h1 : 0 ≤ n) (h2 : n ≤ 255) : IntKind.u8.wrap n = n := by rw [IntKind.wrap_u8]; omega
def nAll (n : Nat) (t : Str) : List Token := ntoks n ++ [tokText t, tokEnd (nmN 0), tokText t]
theorem nAll_attrs (n : Nat) (t : Str) : ∀ x ∈ nAll n t, x.attrs = [] := by
  intro x hx
  simp only [nAll, ntoks, List.mem_append, List.mem_map, List.mem_cons, List.not_mem_nil, or_false] at hx
  rcases hx with ⟨_, _, rfl⟩ | rfl | rfl | rfl <;> rfl
theorem nAll_size (n : Nat) (t : Str) : textsSize (nAll n t) = t.size + t.size := by
  have h : ∀ l : List Nat, ((l.map fun i => tokStart (nmN i)).map fun t => t.text.size).sum = 0 := by
    intro l
    induction l with
    | nil => rfl
    | cons a l ih => simp only [List.map_cons, List.sum_cons, ih]; rfl
  simp only [textsSize, nAll, ntoks, List.map_append, List.sum_append, h, List.map_cons, List.map_nil, List.sum_cons, List.sum_nil, tokText, tokEnd]
  have : ByteArray.empty.size = 0 := rfl
  omega
theorem wrapN_one : ∀ (n : Nat) (ks : List Node), ∃ x : Node, wrapN (n + 1) ks = [x]
  | 0, ks => ⟨_, rfl⟩
  | n + 1, ks => wrapN_one n _
theorem nested_buildR {n : Nat} (h1 : 1 ≤ n) (h2 : n ≤ 60) {t : Str} (ht : t ≠ ByteArray.empty) : ∃ x : Node, wrapN n [textNode t] = [x] ∧ buildR (nAll n t) = .tup [.sl false 4 ([x, textNode t].map nodeRow), .v (.int .i64 0)] := by
  obtain ⟨m, rfl⟩ : ∃ m, n = m + 1 := ⟨n - 1, by omega⟩
  obtain ⟨x, hx⟩ := wrapN_one m [textNode t]
  refine ⟨x, hx, ?_⟩
  have h := nested_build h1 h2 ht
  unfold buildR nAll ntoks
  rw [h, hx]
  rfl
theorem textRow_get (x : Node) (t : Str) : ([x, textNode t].map nodeRow).getD (Int.toNat 1) [] = [.v (.string ByteArray.empty), .sl false 2 [], .v (.string t), .sl false 4 []] := by
  show nodeRow (textNode t) = _
  rw [nodeRow_def]; rfl
def c_law_Nested : AFn := ⟨2, 109, [4],
  .seq (.ops [⟨(some 4), none, .q (.mv (.const (.bool false)))⟩])
  (.seq (.ops [⟨(some 12), none, .e (.call 11 [])⟩,
      ⟨(some 5), none, .q (.mv (.tmp 12))⟩])
  (.seq (.seq (.ops [⟨(some 13), none, .q (.mv (.tmp 0))⟩,
      ⟨(some 14), none, .q (.bin .lss .num (.tmp 13) (.const (.int .i64 1)))⟩,
      ⟨(some 15), none, .q (.mv (.tmp 14))⟩,
      ⟨(some 16), (some (15, false)), .q (.mv (.tmp 0))⟩,
      ⟨(some 17), (some (15, false)), .q (.bin .gtr .num (.tmp 16) (.const (.int .i64 60)))⟩,
      ⟨(some 18), none, .q (.pick (.tmp 15) (.const (.bool true)) (.tmp 17))⟩,
      ⟨(some 19), none, .q (.mv (.tmp 18))⟩,
      ⟨(some 20), (some (19, false)), .q (.mv (.tmp 1))⟩,
      ⟨(some 21), (some (19, false)), .q (.bin .eql .num (.tmp 20) (.const (.string ByteArray.empty)))⟩,
      ⟨(some 22), none, .q (.pick (.tmp 19) (.const (.bool true)) (.tmp 21))⟩,
      ⟨(some 23), none, .q (.mv (.tmp 22))⟩,
      ⟨(some 24), (some (23, false)), .q (.mv (.tmp 1))⟩,
      ⟨(some 25), (some (23, false)), .q (.len true (.tmp 24))⟩,
      ⟨(some 26), (some (23, false)), .q (.bin .gtr .num (.tmp 25) (.const (.int .i64 1000)))⟩,
      ⟨(some 27), none, .q (.pick (.tmp 23) (.const (.bool true)) (.tmp 26))⟩])
  (.cond (.tmp 27)
    (.seq (.ops [⟨(some 28), none, .q (.mv (.tmp 5))⟩,
        ⟨(some 4), none, .q (.mv (.tmp 28))⟩])
    (.ret))
    (.skip)))
  (.seq (.ops [⟨(some 6), none, .q (.mv (.const (.slice none 0 0)))⟩])
  (.seq (.seq (.ops [⟨(some 7), none, .q (.mv (.const (.int .i64 0)))⟩])
  (.block 0 (.loop (.seq (.seq (.ops [⟨(some 29), none, .q (.mv (.tmp 7))⟩,
          ⟨(some 30), none, .q (.mv (.tmp 0))⟩,
          ⟨(some 31), none, .q (.bin .lss .num (.tmp 29) (.tmp 30))⟩])
      (.cond (.tmp 31)
        (.skip)
        (.exit 0)))
      (.seq (.block 1 (.ops [⟨(some 34), none, .q (.mv (.tmp 6))⟩,
            ⟨(some 35), none, .q (.mv (.tmp 7))⟩,
            ⟨(some 36), none, .q (.bin .rem .num (.tmp 35) (.const (.int .i64 2)))⟩,
            ⟨(some 37), none, .q (.bin .add .num (.const (.int .i64 97)) (.tmp 36))⟩,
            ⟨(some 38), none, .q (.cv (.int .u8) (.tmp 37))⟩,
            ⟨(some 39), none, .q (.mv (.tmp 7))⟩,
            ⟨(some 40), none, .q (.bin .quo .num (.tmp 39) (.const (.int .i64 10)))⟩,
            ⟨(some 41), none, .q (.bin .add .num (.const (.int .i64 48)) (.tmp 40))⟩,
            ⟨(some 42), none, .q (.cv (.int .u8) (.tmp 41))⟩,
            ⟨(some 43), none, .q (.mv (.tmp 7))⟩,
            ⟨(some 44), none, .q (.bin .rem .num (.tmp 43) (.const (.int .i64 10)))⟩,
            ⟨(some 45), none, .q (.bin .add .num (.const (.int .i64 48)) (.tmp 44))⟩,
            ⟨(some 46), none, .q (.cv (.int .u8) (.tmp 45))⟩,
            ⟨(some 47), none, .e (.bsl 5 1 [(.tmp 38), (.tmp 42), (.tmp 46)])⟩,
            ⟨(some 48), none, .e (.b2s (.tmp 47))⟩,
            ⟨(some 49), none, .q (.bld [(.int .i64 0), (.string ByteArray.empty), (.slice none 0 0), (.bool false), (.string ByteArray.empty)] [(0, 1, (.const (.int .i64 2))), (1, 1, (.tmp 48))])⟩,
            ⟨(some 50), none, .e (.bsl 33 5 [(.tmp 49)])⟩,
            ⟨(some 51), none, .e (.app 33 5 72 false (.tmp 34) (.tmp 50))⟩,
            ⟨(some 6), none, .q (.mv (.tmp 51))⟩]))
      (.ops [⟨(some 32), none, .q (.mv (.tmp 7))⟩,
          ⟨(some 33), none, .q (.bin .add .num (.tmp 32) (.const (.int .i64 1)))⟩,
          ⟨(some 7), none, .q (.mv (.tmp 33))⟩]))))))
  (.seq (.ops [⟨(some 52), none, .q (.mv (.tmp 6))⟩,
      ⟨(some 53), none, .q (.mv (.tmp 1))⟩,
      ⟨(some 54), none, .q (.bld [(.int .i64 0), (.string ByteArray.empty), (.slice none 0 0), (.bool false), (.string ByteArray.empty)] [(0, 1, (.const (.int .i64 1))), (4, 1, (.tmp 53))])⟩,
      ⟨(some 55), none, .q (.mv (.tmp 6))⟩,
      ⟨(some 56), none, .q (.ixa 5 (.tmp 55) (.const (.int .i64 0)))⟩,
      ⟨(some 57), none, .q (.fad 1 1 (.tmp 56))⟩,
      ⟨(some 58), none, .q (.ld false 1 (.tmp 57))⟩,
      ⟨(some 59), none, .q (.bld [(.int .i64 0), (.string ByteArray.empty), (.slice none 0 0), (.bool false), (.string ByteArray.empty)] [(0, 1, (.const (.int .i64 3))), (1, 1, (.tmp 58))])⟩,
      ⟨(some 60), none, .q (.mv (.tmp 1))⟩,
      ⟨(some 61), none, .q (.bld [(.int .i64 0), (.string ByteArray.empty), (.slice none 0 0), (.bool false), (.string ByteArray.empty)] [(0, 1, (.const (.int .i64 1))), (4, 1, (.tmp 60))])⟩,
      ⟨(some 62), none, .e (.bsl 33 5 [(.tmp 54), (.tmp 59), (.tmp 61)])⟩,
      ⟨(some 63), none, .e (.app 33 5 72 false (.tmp 52) (.tmp 62))⟩,
      ⟨(some 6), none, .q (.mv (.tmp 63))⟩])
  (.seq (.ops [⟨(some 65), none, .q (.mv (.tmp 6))⟩,
      ⟨(some 66), none, .e (.call 14 [(.tmp 65)])⟩,
      ⟨(some 64), none, .q (.mv (.tmp 66))⟩,
      ⟨(some 67), none, .q (.ext (.tmp 64) 0)⟩,
      ⟨(some 68), none, .q (.ext (.tmp 64) 1)⟩,
      ⟨(some 8), none, .q (.mv (.tmp 67))⟩,
      ⟨(some 9), none, .q (.mv (.tmp 68))⟩])
  (.seq (.seq (.ops [⟨(some 69), none, .q (.mv (.tmp 9))⟩,
      ⟨(some 70), none, .q (.bin .neq .num (.tmp 69) (.const (.int .i64 0)))⟩,
      ⟨(some 71), none, .q (.mv (.tmp 70))⟩,
      ⟨(some 72), (some (71, false)), .q (.mv (.tmp 8))⟩,
      ⟨(some 73), (some (71, false)), .q (.len false (.tmp 72))⟩,
      ⟨(some 74), (some (71, false)), .q (.bin .neq .num (.tmp 73) (.const (.int .i64 2)))⟩,
      ⟨(some 75), none, .q (.pick (.tmp 71) (.const (.bool true)) (.tmp 74))⟩,
      ⟨(some 76), none, .q (.mv (.tmp 75))⟩,
      ⟨(some 77), (some (76, false)), .q (.mv (.tmp 8))⟩,
      ⟨(some 78), (some (76, false)), .q (.ixa 4 (.tmp 77) (.const (.int .i64 1)))⟩,
      ⟨(some 79), (some (76, false)), .q (.fad 2 1 (.tmp 78))⟩,
      ⟨(some 80), (some (76, false)), .q (.ld false 1 (.tmp 79))⟩,
      ⟨(some 81), (some (76, false)), .q (.mv (.tmp 1))⟩,
      ⟨(some 82), (some (76, false)), .q (.bin .neq .num (.tmp 80) (.tmp 81))⟩,
      ⟨(some 83), none, .q (.pick (.tmp 76) (.const (.bool true)) (.tmp 82))⟩])
  (.cond (.tmp 83)
    (.seq (.ops [⟨(some 4), none, .q (.mv (.const (.bool false)))⟩])
    (.ret))
    (.skip)))
  (.seq (.ops [⟨(some 85), none, .q (.mv (.tmp 8))⟩,
      ⟨(some 86), none, .e (.call 23 [(.tmp 85)])⟩,
      ⟨(some 84), none, .q (.mv (.tmp 86))⟩,
      ⟨(some 87), none, .q (.ext (.tmp 84) 0)⟩,
      ⟨(some 88), none, .q (.ext (.tmp 84) 1)⟩,
      ⟨(some 10), none, .q (.mv (.tmp 87))⟩,
      ⟨(some 11), none, .q (.mv (.tmp 88))⟩])
  (.seq (.ops [⟨(some 89), none, .q (.mv (.tmp 5))⟩,
      ⟨(some 90), none, .q (.mv (.tmp 89))⟩,
      ⟨(some 91), (some (90, true)), .q (.mv (.tmp 11))⟩,
      ⟨(some 92), (some (90, true)), .q (.mv (.tmp 0))⟩,
      ⟨(some 93), (some (90, true)), .q (.bin .eql .num (.tmp 91) (.tmp 92))⟩,
      ⟨(some 94), none, .q (.pick (.tmp 90) (.tmp 93) (.const (.bool false)))⟩,
      ⟨(some 95), none, .q (.mv (.tmp 94))⟩,
      ⟨(some 96), (some (95, true)), .q (.mv (.tmp 10))⟩,
      ⟨(some 97), (some (95, true)), .q (.mv (.tmp 0))⟩,
      ⟨(some 98), (some (95, true)), .q (.bin .add .num (.tmp 97) (.const (.int .i64 2)))⟩,
      ⟨(some 99), (some (95, true)), .q (.bin .eql .num (.tmp 96) (.tmp 98))⟩,
      ⟨(some 100), none, .q (.pick (.tmp 95) (.tmp 99) (.const (.bool false)))⟩,
      ⟨(some 101), none, .q (.mv (.tmp 100))⟩,
      ⟨(some 102), (some (101, true)), .q (.mv (.tmp 8))⟩,
      ⟨(some 103), (some (101, true)), .e (.call 21 [(.tmp 102)])⟩,
      ⟨(some 104), (some (101, true)), .q (.mv (.tmp 1))⟩,
      ⟨(some 105), (some (101, true)), .q (.mv (.tmp 1))⟩,
      ⟨(some 106), (some (101, true)), .q (.bin .add .num (.tmp 104) (.tmp 105))⟩,
      ⟨(some 107), (some (101, true)), .q (.bin .eql .num (.tmp 103) (.tmp 106))⟩,
      ⟨(some 108), none, .q (.pick (.tmp 101) (.tmp 107) (.const (.bool false)))⟩,
      ⟨(some 4), none, .q (.mv (.tmp 108))⟩])
  (.ret))))))))))⟩
theorem k_law_Nested : compF Try.prog 10 = some c_law_Nested := by kernel_rfl
set_option maxHeartbeats 4000000 in
theorem nested_law {W : World} (m : Int) (t : Str) (ht : t.size < 9223372036854775808) : ACalls Try.prog W 10 [.v (.int .i64 m), .v (.string t)] AHeap.none (fun r _ => r = .v (.bool true)) := by
  refine fn_run follows k_law_Nested rfl ?_
  simp only [c_law_Nested, List.zipIdx_cons, List.zipIdx_nil, List.map_cons, List.map_nil, Nat.zero_add]
  (try simp +decide (implicitDefEqProofs := false) only [stk_nil, stk_skip, stk_ops, stk_seq, stk_block, stk_scope, stk_exit, stk_ret, stk_code_exit, stk_code_ret, stk_ops_exit, stk_ops_ret, stk_endb, stk_endb_exit, stk_endb_ret, stk_endl, stk_endl_exit, stk_endl_ret, stk_ops_nil, stk_q, stk_niq, niqA, flip, srcOf, stk_alloc, stk_box, stk_bsl, ↓stk_g, ↓stk_c, side, val, bside, bval, uside, uval, cside, cval, bndS, bndV, intA, isInt, lside, lval, fside, fval, faside, faval, iside, ival, sxside, sxval, sizeA, slside, slval, llside, llval, lenside, lenval, lenA, tupA, mmside, mmval, nkside, boolA, isBool, ev_t, ev_c, tget, put_s, put_n, lkside, lkval, menval, stk_mk, Option.isSome_some, isMapA, mapA, keyA, FZ_rfl, FZ_any, retOf, true_and, and_true, if_true, if_false, ↓reduceIte, decide_true, decide_false, Bool.not_true, Bool.not_false, Nat.zero_add, List.map_cons, List.map_nil, Int.toNat_natCast, strRows_len, intRows_len, List.getD_cons_zero, List.getD_cons_succ, List.length_cons, List.length_nil, List.forall_mem_cons, List.not_mem_nil, false_implies, implies_true, Int.ofNat_zero, Int.natCast_add, Int.natCast_one, Int.ofNat_one, Int.natCast_zero, isB, isU, Bool.false_eq_true, beq_self_eq_true, Bool.false_beq, Bool.true_beq, Int.natCast_nonneg, undef, strRows_take, strRows_drop, Int.toNat_zero, List.drop_zero, Bool.and_true, oneOr, List.all_cons, List.all_nil, AVal.one, Value.oneCell', beq_self_eq_true, Bool.true_and, List.take_length])
  refine stk_pure (lift_none (u := .bool true) (fun w => (awake_any w).mono fun e w' h => ⟨h.1, h.2.below⟩)) fun v hv => ?_
  subst hv
  by_cases h1 : m < 1
  · (try simp +decide (implicitDefEqProofs := false) only [stk_nil, stk_skip, stk_ops, stk_seq, stk_block, stk_scope, stk_exit, stk_ret, stk_code_exit, stk_code_ret, stk_ops_exit, stk_ops_ret, stk_endb, stk_endb_exit, stk_endb_ret, stk_endl, stk_endl_exit, stk_endl_ret, stk_ops_nil, stk_q, stk_niq, niqA, flip, srcOf, stk_alloc, stk_box, stk_bsl, ↓stk_g, ↓stk_c, side, val, bside, bval, uside, uval, cside, cval, bndS, bndV, intA, isInt, lside, lval, fside, fval, faside, faval, iside, ival, sxside, sxval, sizeA, slside, slval, llside, llval, lenside, lenval, lenA, tupA, mmside, mmval, nkside, boolA, isBool, ev_t, ev_c, tget, put_s, put_n, lkside, lkval, menval, stk_mk, Option.isSome_some, isMapA, mapA, keyA, FZ_rfl, FZ_any, retOf, true_and, and_true, if_true, if_false, ↓reduceIte, decide_true, decide_false, Bool.not_true, Bool.not_false, Nat.zero_add, List.map_cons, List.map_nil, Int.toNat_natCast, strRows_len, intRows_len, List.getD_cons_zero, List.getD_cons_succ, List.length_cons, List.length_nil, List.forall_mem_cons, List.not_mem_nil, false_implies, implies_true, Int.ofNat_zero, Int.natCast_add, Int.natCast_one, Int.ofNat_one, Int.natCast_zero, isB, isU, Bool.false_eq_true, beq_self_eq_true, Bool.false_beq, Bool.true_beq, Int.natCast_nonneg, undef, strRows_take, strRows_drop, Int.toNat_zero, List.drop_zero, Bool.and_true, oneOr, List.all_cons, List.all_nil, AVal.one, Value.oneCell', beq_self_eq_true, Bool.true_and, List.take_length, h1])
    refine aret_pure (.inr rfl) ?_; simp +decide only [retOf, tget, if_true, if_false, ↓reduceIte]
  by_cases h2 : 60 < m
  · (try simp +decide (implicitDefEqProofs := false) only [stk_nil, stk_skip, stk_ops, stk_seq, stk_block, stk_scope, stk_exit, stk_ret, stk_code_exit, stk_code_ret, stk_ops_exit, stk_ops_ret, stk_endb, stk_endb_exit, stk_endb_ret, stk_endl, stk_endl_exit, stk_endl_ret, stk_ops_nil, stk_q, stk_niq, niqA, flip, srcOf, stk_alloc, stk_box, stk_bsl, ↓stk_g, ↓stk_c, side, val, bside, bval, uside, uval, cside, cval, bndS, bndV, intA, isInt, lside, lval, fside, fval, faside, faval, iside, ival, sxside, sxval, sizeA, slside, slval, llside, llval, lenside, lenval, lenA, tupA, mmside, mmval, nkside, boolA, isBool, ev_t, ev_c, tget, put_s, put_n, lkside, lkval, menval, stk_mk, Option.isSome_some, isMapA, mapA, keyA, FZ_rfl, FZ_any, retOf, true_and, and_true, if_true, if_false, ↓reduceIte, decide_true, decide_false, Bool.not_true, Bool.not_false, Nat.zero_add, List.map_cons, List.map_nil, Int.toNat_natCast, strRows_len, intRows_len, List.getD_cons_zero, List.getD_cons_succ, List.length_cons, List.length_nil, List.forall_mem_cons, List.not_mem_nil, false_implies, implies_true, Int.ofNat_zero, Int.natCast_add, Int.natCast_one, Int.ofNat_one, Int.natCast_zero, isB, isU, Bool.false_eq_true, beq_self_eq_true, Bool.false_beq, Bool.true_beq, Int.natCast_nonneg, undef, strRows_take, strRows_drop, Int.toNat_zero, List.drop_zero, Bool.and_true, oneOr, List.all_cons, List.all_nil, AVal.one, Value.oneCell', beq_self_eq_true, Bool.true_and, List.take_length, h1, h2])
    refine aret_pure (.inr rfl) ?_; simp +decide only [retOf, tget, if_true, if_false, ↓reduceIte]
  by_cases h3 : t = ByteArray.empty
  · (try simp +decide (implicitDefEqProofs := false) only [stk_nil, stk_skip, stk_ops, stk_seq, stk_block, stk_scope, stk_exit, stk_ret, stk_code_exit, stk_code_ret, stk_ops_exit, stk_ops_ret, stk_endb, stk_endb_exit, stk_endb_ret, stk_endl, stk_endl_exit, stk_endl_ret, stk_ops_nil, stk_q, stk_niq, niqA, flip, srcOf, stk_alloc, stk_box, stk_bsl, ↓stk_g, ↓stk_c, side, val, bside, bval, uside, uval, cside, cval, bndS, bndV, intA, isInt, lside, lval, fside, fval, faside, faval, iside, ival, sxside, sxval, sizeA, slside, slval, llside, llval, lenside, lenval, lenA, tupA, mmside, mmval, nkside, boolA, isBool, ev_t, ev_c, tget, put_s, put_n, lkside, lkval, menval, stk_mk, Option.isSome_some, isMapA, mapA, keyA, FZ_rfl, FZ_any, retOf, true_and, and_true, if_true, if_false, ↓reduceIte, decide_true, decide_false, Bool.not_true, Bool.not_false, Nat.zero_add, List.map_cons, List.map_nil, Int.toNat_natCast, strRows_len, intRows_len, List.getD_cons_zero, List.getD_cons_succ, List.length_cons, List.length_nil, List.forall_mem_cons, List.not_mem_nil, false_implies, implies_true, Int.ofNat_zero, Int.natCast_add, Int.natCast_one, Int.ofNat_one, Int.natCast_zero, isB, isU, Bool.false_eq_true, beq_self_eq_true, Bool.false_beq, Bool.true_beq, Int.natCast_nonneg, undef, strRows_take, strRows_drop, Int.toNat_zero, List.drop_zero, Bool.and_true, oneOr, List.all_cons, List.all_nil, AVal.one, Value.oneCell', beq_self_eq_true, Bool.true_and, List.take_length, h1, h2, decide_eq_true h3])
    refine aret_pure (.inr rfl) ?_; simp +decide only [retOf, tget, if_true, if_false, ↓reduceIte]
  have g3 := decide_eq_false h3
  by_cases h4 : 1000 < (t.size : Int)
  · (try simp +decide (implicitDefEqProofs := false) only [stk_nil, stk_skip, stk_ops, stk_seq, stk_block, stk_scope, stk_exit, stk_ret, stk_code_exit, stk_code_ret, stk_ops_exit, stk_ops_ret, stk_endb, stk_endb_exit, stk_endb_ret, stk_endl, stk_endl_exit, stk_endl_ret, stk_ops_nil, stk_q, stk_niq, niqA, flip, srcOf, stk_alloc, stk_box, stk_bsl, ↓stk_g, ↓stk_c, side, val, bside, bval, uside, uval, cside, cval, bndS, bndV, intA, isInt, lside, lval, fside, fval, faside, faval, iside, ival, sxside, sxval, sizeA, slside, slval, llside, llval, lenside, lenval, lenA, tupA, mmside, mmval, nkside, boolA, isBool, ev_t, ev_c, tget, put_s, put_n, lkside, lkval, menval, stk_mk, Option.isSome_some, isMapA, mapA, keyA, FZ_rfl, FZ_any, retOf, true_and, and_true, if_true, if_false, ↓reduceIte, decide_true, decide_false, Bool.not_true, Bool.not_false, Nat.zero_add, List.map_cons, List.map_nil, Int.toNat_natCast, strRows_len, intRows_len, List.getD_cons_zero, List.getD_cons_succ, List.length_cons, List.length_nil, List.forall_mem_cons, List.not_mem_nil, false_implies, implies_true, Int.ofNat_zero, Int.natCast_add, Int.natCast_one, Int.ofNat_one, Int.natCast_zero, isB, isU, Bool.false_eq_true, beq_self_eq_true, Bool.false_beq, Bool.true_beq, Int.natCast_nonneg, undef, strRows_take, strRows_drop, Int.toNat_zero, List.drop_zero, Bool.and_true, oneOr, List.all_cons, List.all_nil, AVal.one, Value.oneCell', beq_self_eq_true, Bool.true_and, List.take_length, h1, h2, g3, h4])
    refine aret_pure (.inr rfl) ?_; simp +decide only [retOf, tget, if_true, if_false, ↓reduceIte]
  obtain ⟨n, rfl⟩ : ∃ n : Nat, m = n := ⟨m.toNat, by omega⟩
  (try simp +decide (implicitDefEqProofs := false) only [stk_nil, stk_skip, stk_ops, stk_seq, stk_block, stk_scope, stk_exit, stk_ret, stk_code_exit, stk_code_ret, stk_ops_exit, stk_ops_ret, stk_endb, stk_endb_exit, stk_endb_ret, stk_endl, stk_endl_exit, stk_endl_ret, stk_ops_nil, stk_q, stk_niq, niqA, flip, srcOf, stk_alloc, stk_box, stk_bsl, ↓stk_g, ↓stk_c, side, val, bside, bval, uside, uval, cside, cval, bndS, bndV, intA, isInt, lside, lval, fside, fval, faside, faval, iside, ival, sxside, sxval, sizeA, slside, slval, llside, llval, lenside, lenval, lenA, tupA, mmside, mmval, nkside, boolA, isBool, ev_t, ev_c, tget, put_s, put_n, lkside, lkval, menval, stk_mk, Option.isSome_some, isMapA, mapA, keyA, FZ_rfl, FZ_any, retOf, true_and, and_true, if_true, if_false, ↓reduceIte, decide_true, decide_false, Bool.not_true, Bool.not_false, Nat.zero_add, List.map_cons, List.map_nil, Int.toNat_natCast, strRows_len, intRows_len, List.getD_cons_zero, List.getD_cons_succ, List.length_cons, List.length_nil, List.forall_mem_cons, List.not_mem_nil, false_implies, implies_true, Int.ofNat_zero, Int.natCast_add, Int.natCast_one, Int.ofNat_one, Int.natCast_zero, isB, isU, Bool.false_eq_true, beq_self_eq_true, Bool.false_beq, Bool.true_beq, Int.natCast_nonneg, undef, strRows_take, strRows_drop, Int.toNat_zero, List.drop_zero, Bool.and_true, oneOr, List.all_cons, List.all_nil, AVal.one, Value.oneCell', beq_self_eq_true, Bool.true_and, List.take_length, h1, h2, g3, h4])
  refine stk_up (α := AVal × AHeap) n (fun i q => ⟨[(7, .v (.int .i64 i)), (6, q.1), (5, .v (.bool true)), (0, .v (.int .i64 n)), (1, .v (.string t))], q.2⟩) (fun i q => RowO q.2 33 5 q.1 ((ntoks i).map rawRow)) (.v (.slice none 0 0), AHeap.none) (Weak.list _ (Sub.refl _) (by (try simp +decide (implicitDefEqProofs := false) only [stk_nil, stk_skip, stk_ops, stk_seq, stk_block, stk_scope, stk_exit, stk_ret, stk_code_exit, stk_code_ret, stk_ops_exit, stk_ops_ret, stk_endb, stk_endb_exit, stk_endb_ret, stk_endl, stk_endl_exit, stk_endl_ret, stk_ops_nil, stk_q, stk_niq, niqA, flip, srcOf, stk_alloc, stk_box, stk_bsl, ↓stk_g, ↓stk_c, side, val, bside, bval, uside, uval, cside, cval, bndS, bndV, intA, isInt, lside, lval, fside, fval, faside, faval, iside, ival, sxside, sxval, sizeA, slside, slval, llside, llval, lenside, lenval, lenA, tupA, mmside, mmval, nkside, boolA, isBool, ev_t, ev_c, tget, put_s, put_n, lkside, lkval, menval, stk_mk, Option.isSome_some, isMapA, mapA, keyA, FZ_rfl, FZ_any, retOf, true_and, and_true, if_true, if_false, ↓reduceIte, decide_true, decide_false, Bool.not_true, Bool.not_false, Nat.zero_add, List.map_cons, List.map_nil, Int.toNat_natCast, strRows_len, intRows_len, List.getD_cons_zero, List.getD_cons_succ, List.length_cons, List.length_nil, List.forall_mem_cons, List.not_mem_nil, false_implies, implies_true, Int.ofNat_zero, Int.natCast_add, Int.natCast_one, Int.ofNat_one, Int.natCast_zero, isB, isU, Bool.false_eq_true, beq_self_eq_true, Bool.false_beq, Bool.true_beq, Int.natCast_nonneg, undef, strRows_take, strRows_drop, Int.toNat_zero, List.drop_zero, Bool.and_true, oneOr, List.all_cons, List.all_nil, AVal.one, Value.oneCell', beq_self_eq_true, Bool.true_and, List.take_length]))) RowO.nil ?_
  rintro i ⟨x, H⟩ hi hrow
  dsimp only at hrow
  by_cases hl : i < n
  · have g1 : (i : Int) < (n : Int) := by omega
    have hw := wrap_in (n := i + 1) (by omega) (by omega)
    have r1 : (i : Int).tmod 2 = ((i % 2 : Nat) : Int) := by rw [Int.tmod_eq_emod_of_nonneg (by omega)]; omega
    have r2 : (i : Int).tdiv 10 = ((i / 10 : Nat) : Int) := by rw [Int.tdiv_eq_ediv_of_nonneg (by omega)]; omega
    have r3 : (i : Int).tmod 10 = ((i % 10 : Nat) : Int) := by rw [Int.tmod_eq_emod_of_nonneg (by omega)]; omega
    have hb := nm_bytes (i := i) (by omega)
    have b1 : i % 2 ≤ 1 := by omega
    have b2 : i / 10 ≤ 5 := by omega
    have b3 : i % 10 ≤ 9 := by omega
    generalize i % 2 = a at r1 hb b1
    generalize i / 10 = b at r2 hb b2
    generalize i % 10 = c at r3 hb b3
    have w0 := wrap_in (n := (b : Int)) (by omega) (by omega)
    have w1 := wrap_in (n := 97 + (a : Int)) (by omega) (by omega)
    have w2 := wrap_in (n := 48 + (b : Int)) (by omega) (by omega)
    have w3 := wrap_in (n := 48 + (c : Int)) (by omega) (by omega)
    have v1 := u8_in (n := 97 + (a : Int)) (by omega) (by omega)
    have v2 := u8_in (n := 48 + (b : Int)) (by omega) (by omega)
    have v3 := u8_in (n := 48 + (c : Int)) (by omega) (by omega)
    (try simp +decide (implicitDefEqProofs := false) only [stk_nil, stk_skip, stk_ops, stk_seq, stk_block, stk_scope, stk_exit, stk_ret, stk_code_exit, stk_code_ret, stk_ops_exit, stk_ops_ret, stk_endb, stk_endb_exit, stk_endb_ret, stk_endl, stk_endl_exit, stk_endl_ret, stk_ops_nil, stk_q, stk_niq, niqA, flip, srcOf, stk_alloc, stk_box, stk_bsl, ↓stk_g, ↓stk_c, side, val, bside, bval, uside, uval, cside, cval, bndS, bndV, intA, isInt, lside, lval, fside, fval, faside, faval, iside, ival, sxside, sxval, sizeA, slside, slval, llside, llval, lenside, lenval, lenA, tupA, mmside, mmval, nkside, boolA, isBool, ev_t, ev_c, tget, put_s, put_n, lkside, lkval, menval, stk_mk, Option.isSome_some, isMapA, mapA, keyA, FZ_rfl, FZ_any, retOf, true_and, and_true, if_true, if_false, ↓reduceIte, decide_true, decide_false, Bool.not_true, Bool.not_false, Nat.zero_add, List.map_cons, List.map_nil, Int.toNat_natCast, strRows_len, intRows_len, List.getD_cons_zero, List.getD_cons_succ, List.length_cons, List.length_nil, List.forall_mem_cons, List.not_mem_nil, false_implies, implies_true, Int.ofNat_zero, Int.natCast_add, Int.natCast_one, Int.ofNat_one, Int.natCast_zero, isB, isU, Bool.false_eq_true, beq_self_eq_true, Bool.false_beq, Bool.true_beq, Int.natCast_nonneg, undef, strRows_take, strRows_drop, Int.toNat_zero, List.drop_zero, Bool.and_true, oneOr, List.all_cons, List.all_nil, AVal.one, Value.oneCell', beq_self_eq_true, Bool.true_and, List.take_length, g1, r1, r2, r3, w0, w1, w2, w3, v1, v2, v3])
    refine stk_b2s (nmN i) (by rfl) (by rfl) hb ?_
    (try simp +decide (implicitDefEqProofs := false) only [stk_nil, stk_skip, stk_ops, stk_seq, stk_block, stk_scope, stk_exit, stk_ret, stk_code_exit, stk_code_ret, stk_ops_exit, stk_ops_ret, stk_endb, stk_endb_exit, stk_endb_ret, stk_endl, stk_endl_exit, stk_endl_ret, stk_ops_nil, stk_q, stk_niq, niqA, flip, srcOf, stk_alloc, stk_box, stk_bsl, ↓stk_g, ↓stk_c, side, val, bside, bval, uside, uval, cside, cval, bndS, bndV, intA, isInt, lside, lval, fside, fval, faside, faval, iside, ival, sxside, sxval, sizeA, slside, slval, llside, llval, lenside, lenval, lenA, tupA, mmside, mmval, nkside, boolA, isBool, ev_t, ev_c, tget, put_s, put_n, lkside, lkval, menval, stk_mk, Option.isSome_some, isMapA, mapA, keyA, FZ_rfl, FZ_any, retOf, true_and, and_true, if_true, if_false, ↓reduceIte, decide_true, decide_false, Bool.not_true, Bool.not_false, Nat.zero_add, List.map_cons, List.map_nil, Int.toNat_natCast, strRows_len, intRows_len, List.getD_cons_zero, List.getD_cons_succ, List.length_cons, List.length_nil, List.forall_mem_cons, List.not_mem_nil, false_implies, implies_true, Int.ofNat_zero, Int.natCast_add, Int.natCast_one, Int.ofNat_one, Int.natCast_zero, isB, isU, Bool.false_eq_true, beq_self_eq_true, Bool.false_beq, Bool.true_beq, Int.natCast_nonneg, undef, strRows_take, strRows_drop, Int.toNat_zero, List.drop_zero, Bool.and_true, oneOr, List.all_cons, List.all_nil, AVal.one, Value.oneCell', beq_self_eq_true, Bool.true_and, List.take_length, lay, oneOr, List.take_succ_cons, List.take_zero, List.drop_succ_cons, List.drop_zero, List.nil_append, List.cons_append, Option.getD_some, Nat.reduceAdd, Nat.reduceLeDiff, List.append_nil, and_self, List.all_cons, List.all_nil])
    refine stk_appO (rows := (ntoks i).map rawRow) hrow (by rfl) (by simp only [List.length_map, ntoks_len, List.length_cons, List.length_nil]; omega) fun x1 H1 hr1 _ => ?_
    (try simp +decide (implicitDefEqProofs := false) only [stk_nil, stk_skip, stk_ops, stk_seq, stk_block, stk_scope, stk_exit, stk_ret, stk_code_exit, stk_code_ret, stk_ops_exit, stk_ops_ret, stk_endb, stk_endb_exit, stk_endb_ret, stk_endl, stk_endl_exit, stk_endl_ret, stk_ops_nil, stk_q, stk_niq, niqA, flip, srcOf, stk_alloc, stk_box, stk_bsl, ↓stk_g, ↓stk_c, side, val, bside, bval, uside, uval, cside, cval, bndS, bndV, intA, isInt, lside, lval, fside, fval, faside, faval, iside, ival, sxside, sxval, sizeA, slside, slval, llside, llval, lenside, lenval, lenA, tupA, mmside, mmval, nkside, boolA, isBool, ev_t, ev_c, tget, put_s, put_n, lkside, lkval, menval, stk_mk, Option.isSome_some, isMapA, mapA, keyA, FZ_rfl, FZ_any, retOf, true_and, and_true, if_true, if_false, ↓reduceIte, decide_true, decide_false, Bool.not_true, Bool.not_false, Nat.zero_add, List.map_cons, List.map_nil, Int.toNat_natCast, strRows_len, intRows_len, List.getD_cons_zero, List.getD_cons_succ, List.length_cons, List.length_nil, List.forall_mem_cons, List.not_mem_nil, false_implies, implies_true, Int.ofNat_zero, Int.natCast_add, Int.natCast_one, Int.ofNat_one, Int.natCast_zero, isB, isU, Bool.false_eq_true, beq_self_eq_true, Bool.false_beq, Bool.true_beq, Int.natCast_nonneg, undef, strRows_take, strRows_drop, Int.toNat_zero, List.drop_zero, Bool.and_true, oneOr, List.all_cons, List.all_nil, AVal.one, Value.oneCell', beq_self_eq_true, Bool.true_and, List.take_length, hw])
    refine ⟨by omega, (x1, H1), Weak.list _ (Sub.refl _) (by (try simp +decide (implicitDefEqProofs := false) only [stk_nil, stk_skip, stk_ops, stk_seq, stk_block, stk_scope, stk_exit, stk_ret, stk_code_exit, stk_code_ret, stk_ops_exit, stk_ops_ret, stk_endb, stk_endb_exit, stk_endb_ret, stk_endl, stk_endl_exit, stk_endl_ret, stk_ops_nil, stk_q, stk_niq, niqA, flip, srcOf, stk_alloc, stk_box, stk_bsl, ↓stk_g, ↓stk_c, side, val, bside, bval, uside, uval, cside, cval, bndS, bndV, intA, isInt, lside, lval, fside, fval, faside, faval, iside, ival, sxside, sxval, sizeA, slside, slval, llside, llval, lenside, lenval, lenA, tupA, mmside, mmval, nkside, boolA, isBool, ev_t, ev_c, tget, put_s, put_n, lkside, lkval, menval, stk_mk, Option.isSome_some, isMapA, mapA, keyA, FZ_rfl, FZ_any, retOf, true_and, and_true, if_true, if_false, ↓reduceIte, decide_true, decide_false, Bool.not_true, Bool.not_false, Nat.zero_add, List.map_cons, List.map_nil, Int.toNat_natCast, strRows_len, intRows_len, List.getD_cons_zero, List.getD_cons_succ, List.length_cons, List.length_nil, List.forall_mem_cons, List.not_mem_nil, false_implies, implies_true, Int.ofNat_zero, Int.natCast_add, Int.natCast_one, Int.ofNat_one, Int.natCast_zero, isB, isU, Bool.false_eq_true, beq_self_eq_true, Bool.false_beq, Bool.true_beq, Int.natCast_nonneg, undef, strRows_take, strRows_drop, Int.toNat_zero, List.drop_zero, Bool.and_true, oneOr, List.all_cons, List.all_nil, AVal.one, Value.oneCell', beq_self_eq_true, Bool.true_and, List.take_length])), ?_⟩
    rw [ntoks_succ, List.map_append]; exact hr1
  have g1 : ¬ (i : Int) < (n : Int) := by omega
  obtain rfl : i = n := by omega
  have hln : ((ntoks i).map rawRow).length = i := by rw [List.length_map, ntoks_len]
  obtain ⟨g, rfl, hH⟩ := hrow.own (fun h => by rw [h] at hln; simp at hln; omega)
  have hz := ntoks_zero (n := i) (by omega)
  have h0i : (0 : Int) < (i : Int) := by omega
  have h0n : 0 < i := by omega
  rw [hln]
  rw [hln] at hrow
  (try simp +decide (implicitDefEqProofs := false) only [stk_nil, stk_skip, stk_ops, stk_seq, stk_block, stk_scope, stk_exit, stk_ret, stk_code_exit, stk_code_ret, stk_ops_exit, stk_ops_ret, stk_endb, stk_endb_exit, stk_endb_ret, stk_endl, stk_endl_exit, stk_endl_ret, stk_ops_nil, stk_q, stk_niq, niqA, flip, srcOf, stk_alloc, stk_box, stk_bsl, ↓stk_g, ↓stk_c, side, val, bside, bval, uside, uval, cside, cval, bndS, bndV, intA, isInt, lside, lval, fside, fval, faside, faval, iside, ival, sxside, sxval, sizeA, slside, slval, llside, llval, lenside, lenval, lenA, tupA, mmside, mmval, nkside, boolA, isBool, ev_t, ev_c, tget, put_s, put_n, lkside, lkval, menval, stk_mk, Option.isSome_some, isMapA, mapA, keyA, FZ_rfl, FZ_any, retOf, true_and, and_true, if_true, if_false, ↓reduceIte, decide_true, decide_false, Bool.not_true, Bool.not_false, Nat.zero_add, List.map_cons, List.map_nil, Int.toNat_natCast, strRows_len, intRows_len, List.getD_cons_zero, List.getD_cons_succ, List.length_cons, List.length_nil, List.forall_mem_cons, List.not_mem_nil, false_implies, implies_true, Int.ofNat_zero, Int.natCast_add, Int.natCast_one, Int.ofNat_one, Int.natCast_zero, isB, isU, Bool.false_eq_true, beq_self_eq_true, Bool.false_beq, Bool.true_beq, Int.natCast_nonneg, undef, strRows_take, strRows_drop, Int.toNat_zero, List.drop_zero, Bool.and_true, oneOr, List.all_cons, List.all_nil, AVal.one, Value.oneCell', beq_self_eq_true, Bool.true_and, List.take_length, g1, h0i, h0n, hH, hln, hz, rawRow, tokStart, lay, oneOr, List.take_succ_cons, List.take_zero, List.drop_succ_cons, List.drop_zero, List.nil_append, List.cons_append, Option.getD_some, Nat.reduceAdd, Nat.reduceLeDiff, List.append_nil, and_self, List.all_cons, List.all_nil])
  refine stk_appO (rows := (ntoks i).map rawRow) hrow (by rfl) (by simp only [List.length_map, ntoks_len, List.length_cons, List.length_nil]; omega) fun x1 H1 hr1 _ => ?_
  have hr2 : RowO H1 33 5 x1 ((nAll i t).map rawRow) := by
    rw [nAll, List.map_append]; exact hr1
  (try simp +decide (implicitDefEqProofs := false) only [stk_nil, stk_skip, stk_ops, stk_seq, stk_block, stk_scope, stk_exit, stk_ret, stk_code_exit, stk_code_ret, stk_ops_exit, stk_ops_ret, stk_endb, stk_endb_exit, stk_endb_ret, stk_endl, stk_endl_exit, stk_endl_ret, stk_ops_nil, stk_q, stk_niq, niqA, flip, srcOf, stk_alloc, stk_box, stk_bsl, ↓stk_g, ↓stk_c, side, val, bside, bval, uside, uval, cside, cval, bndS, bndV, intA, isInt, lside, lval, fside, fval, faside, faval, iside, ival, sxside, sxval, sizeA, slside, slval, llside, llval, lenside, lenval, lenA, tupA, mmside, mmval, nkside, boolA, isBool, ev_t, ev_c, tget, put_s, put_n, lkside, lkval, menval, stk_mk, Option.isSome_some, isMapA, mapA, keyA, FZ_rfl, FZ_any, retOf, true_and, and_true, if_true, if_false, ↓reduceIte, decide_true, decide_false, Bool.not_true, Bool.not_false, Nat.zero_add, List.map_cons, List.map_nil, Int.toNat_natCast, strRows_len, intRows_len, List.getD_cons_zero, List.getD_cons_succ, List.length_cons, List.length_nil, List.forall_mem_cons, List.not_mem_nil, false_implies, implies_true, Int.ofNat_zero, Int.natCast_add, Int.natCast_one, Int.ofNat_one, Int.natCast_zero, isB, isU, Bool.false_eq_true, beq_self_eq_true, Bool.false_beq, Bool.true_beq, Int.natCast_nonneg, undef, strRows_take, strRows_drop, Int.toNat_zero, List.drop_zero, Bool.and_true, oneOr, List.all_cons, List.all_nil, AVal.one, Value.oneCell', beq_self_eq_true, Bool.true_and, List.take_length])
  have hfz : FZ H1 AHeap.none x1 (.sl false 5 ((nAll i t).map tokRow)) := fz_toks hr2 (nAll_attrs i t) (fun _ _ => rfl)
  refine stk_pureW ⟨[(65, .sl false 5 ((nAll i t).map tokRow)), (5, .v (.bool true)), (0, .v (.int .i64 i)), (1, .v (.string t))], AHeap.none⟩ (Weak.list _ (Sub.none _) ?_) (build_ok false (nAll i t) (by simp [nAll, ntoks_len]; omega) (fun x hx => by rw [nAll_attrs i t x hx]; simp) (by rw [nAll_size]; omega)) fun v hv => ?_
  · (try simp +decide (implicitDefEqProofs := false) only [stk_nil, stk_skip, stk_ops, stk_seq, stk_block, stk_scope, stk_exit, stk_ret, stk_code_exit, stk_code_ret, stk_ops_exit, stk_ops_ret, stk_endb, stk_endb_exit, stk_endb_ret, stk_endl, stk_endl_exit, stk_endl_ret, stk_ops_nil, stk_q, stk_niq, niqA, flip, srcOf, stk_alloc, stk_box, stk_bsl, ↓stk_g, ↓stk_c, side, val, bside, bval, uside, uval, cside, cval, bndS, bndV, intA, isInt, lside, lval, fside, fval, faside, faval, iside, ival, sxside, sxval, sizeA, slside, slval, llside, llval, lenside, lenval, lenA, tupA, mmside, mmval, nkside, boolA, isBool, ev_t, ev_c, tget, put_s, put_n, lkside, lkval, menval, stk_mk, Option.isSome_some, isMapA, mapA, keyA, FZ_rfl, FZ_any, retOf, true_and, and_true, if_true, if_false, ↓reduceIte, decide_true, decide_false, Bool.not_true, Bool.not_false, Nat.zero_add, List.map_cons, List.map_nil, Int.toNat_natCast, strRows_len, intRows_len, List.getD_cons_zero, List.getD_cons_succ, List.length_cons, List.length_nil, List.forall_mem_cons, List.not_mem_nil, false_implies, implies_true, Int.ofNat_zero, Int.natCast_add, Int.natCast_one, Int.ofNat_one, Int.natCast_zero, isB, isU, Bool.false_eq_true, beq_self_eq_true, Bool.false_beq, Bool.true_beq, Int.natCast_nonneg, undef, strRows_take, strRows_drop, Int.toNat_zero, List.drop_zero, Bool.and_true, oneOr, List.all_cons, List.all_nil, AVal.one, Value.oneCell', beq_self_eq_true, Bool.true_and, List.take_length])
    exact hfz
  obtain ⟨x, hx, hbd⟩ := nested_buildR (n := i) (by omega) (by omega) h3
  rw [hbd] at hv
  subst hv
  have hg := textRow_get x t
  have hc := wrapN_count i [textNode t] (by omega)
  rw [hx] at hc
  have e0 : ByteArray.empty.size = 0 := rfl
  have ct : nCount [textNode t] = 1 ∧ nDeep [textNode t] = 0 ∧ nText [textNode t] = t := by
    refine ⟨?_, ?_, ?_⟩
    · rw [nCount_cons, nCount_nil]; simp only [textNode]; rw [nCount_nil]
    · rw [nDeep_cons, nDeep_nil]; simp only [textNode]; rfl
    · rw [nText_cons, nText_nil]; simp only [textNode]; rw [nText_nil]; simp
  have c1 : nCount [x, textNode t] = i + 2 := by
    have := hc.1
    rw [nCount_cons, ct.1]; rw [nCount_cons, nCount_nil] at this; omega
  have c2 : nDeep [x, textNode t] = i := by
    have := hc.2.1
    rw [nDeep_cons, ct.2.1]; rw [nDeep_cons, nDeep_nil] at this; omega
  have c3 : nText [x, textNode t] = t ++ t := by
    have h := hc.2.2
    rw [nText_cons, nText_nil, ByteArray.append_empty, ct.2.2] at h
    rw [nText_cons, ct.2.2, h]
  have hsz := size_ok (W := W) false [x, textNode t] (by rw [c1]; omega)
  have htx := text_ok (W := W) false [x, textNode t] (by rw [c3, ByteArray.size_append]; omega)
  have hl2 : ([x, textNode t].map nodeRow).length = 2 := rfl
  generalize [x, textNode t].map nodeRow = L at hsz htx hl2 hg ⊢
  clear hfz hr2 hr1 hH hrow hz hln
  (try simp +decide (implicitDefEqProofs := false) only [stk_nil, stk_skip, stk_ops, stk_seq, stk_block, stk_scope, stk_exit, stk_ret, stk_code_exit, stk_code_ret, stk_ops_exit, stk_ops_ret, stk_endb, stk_endb_exit, stk_endb_ret, stk_endl, stk_endl_exit, stk_endl_ret, stk_ops_nil, stk_q, stk_niq, niqA, flip, srcOf, stk_alloc, stk_box, stk_bsl, ↓stk_g, ↓stk_c, side, val, bside, bval, uside, uval, cside, cval, bndS, bndV, intA, isInt, lside, lval, fside, fval, faside, faval, iside, ival, sxside, sxval, sizeA, slside, slval, llside, llval, lenside, lenval, lenA, tupA, mmside, mmval, nkside, boolA, isBool, ev_t, ev_c, tget, put_s, put_n, lkside, lkval, menval, stk_mk, Option.isSome_some, isMapA, mapA, keyA, FZ_rfl, FZ_any, retOf, true_and, and_true, if_true, if_false, ↓reduceIte, decide_true, decide_false, Bool.not_true, Bool.not_false, Nat.zero_add, List.map_cons, List.map_nil, Int.toNat_natCast, strRows_len, intRows_len, List.getD_cons_zero, List.getD_cons_succ, List.length_cons, List.length_nil, List.forall_mem_cons, List.not_mem_nil, false_implies, implies_true, Int.ofNat_zero, Int.natCast_add, Int.natCast_one, Int.ofNat_one, Int.natCast_zero, isB, isU, Bool.false_eq_true, beq_self_eq_true, Bool.false_beq, Bool.true_beq, Int.natCast_nonneg, undef, strRows_take, strRows_drop, Int.toNat_zero, List.drop_zero, Bool.and_true, oneOr, List.all_cons, List.all_nil, AVal.one, Value.oneCell', beq_self_eq_true, Bool.true_and, List.take_length, hg, hl2, lay, oneOr, List.take_succ_cons, List.take_zero, List.drop_succ_cons, List.drop_zero, List.nil_append, List.cons_append, Option.getD_some, Nat.reduceAdd, Nat.reduceLeDiff, List.append_nil, and_self, List.all_cons, List.all_nil, ne_eq, not_true_eq_false])
  have w5 := wrap_in (n := (i : Int) + 2) (by omega) (by omega)
  have cI : ((nCount [x, textNode t] : Nat) : Int) = (i : Int) + 2 := by rw [c1]; omega
  have s2 : (t.size : Int) + (t.size : Int) ≤ 9223372036854775807 := by omega
  have s3 : t.size + t.size ≤ 9223372036854775807 := by omega
  refine stk_pure (hsz) fun v hv => ?_
  subst hv
  (try simp +decide (implicitDefEqProofs := false) only [stk_nil, stk_skip, stk_ops, stk_seq, stk_block, stk_scope, stk_exit, stk_ret, stk_code_exit, stk_code_ret, stk_ops_exit, stk_ops_ret, stk_endb, stk_endb_exit, stk_endb_ret, stk_endl, stk_endl_exit, stk_endl_ret, stk_ops_nil, stk_q, stk_niq, niqA, flip, srcOf, stk_alloc, stk_box, stk_bsl, ↓stk_g, ↓stk_c, side, val, bside, bval, uside, uval, cside, cval, bndS, bndV, intA, isInt, lside, lval, fside, fval, faside, faval, iside, ival, sxside, sxval, sizeA, slside, slval, llside, llval, lenside, lenval, lenA, tupA, mmside, mmval, nkside, boolA, isBool, ev_t, ev_c, tget, put_s, put_n, lkside, lkval, menval, stk_mk, Option.isSome_some, isMapA, mapA, keyA, FZ_rfl, FZ_any, retOf, true_and, and_true, if_true, if_false, ↓reduceIte, decide_true, decide_false, Bool.not_true, Bool.not_false, Nat.zero_add, List.map_cons, List.map_nil, Int.toNat_natCast, strRows_len, intRows_len, List.getD_cons_zero, List.getD_cons_succ, List.length_cons, List.length_nil, List.forall_mem_cons, List.not_mem_nil, false_implies, implies_true, Int.ofNat_zero, Int.natCast_add, Int.natCast_one, Int.ofNat_one, Int.natCast_zero, isB, isU, Bool.false_eq_true, beq_self_eq_true, Bool.false_beq, Bool.true_beq, Int.natCast_nonneg, undef, strRows_take, strRows_drop, Int.toNat_zero, List.drop_zero, Bool.and_true, oneOr, List.all_cons, List.all_nil, AVal.one, Value.oneCell', beq_self_eq_true, Bool.true_and, List.take_length, cI, c2, w5])
  refine stk_pure (htx) fun v hv => ?_
  subst hv
  (try simp +decide (implicitDefEqProofs := false) only [stk_nil, stk_skip, stk_ops, stk_seq, stk_block, stk_scope, stk_exit, stk_ret, stk_code_exit, stk_code_ret, stk_ops_exit, stk_ops_ret, stk_endb, stk_endb_exit, stk_endb_ret, stk_endl, stk_endl_exit, stk_endl_ret, stk_ops_nil, stk_q, stk_niq, niqA, flip, srcOf, stk_alloc, stk_box, stk_bsl, ↓stk_g, ↓stk_c, side, val, bside, bval, uside, uval, cside, cval, bndS, bndV, intA, isInt, lside, lval, fside, fval, faside, faval, iside, ival, sxside, sxval, sizeA, slside, slval, llside, llval, lenside, lenval, lenA, tupA, mmside, mmval, nkside, boolA, isBool, ev_t, ev_c, tget, put_s, put_n, lkside, lkval, menval, stk_mk, Option.isSome_some, isMapA, mapA, keyA, FZ_rfl, FZ_any, retOf, true_and, and_true, if_true, if_false, ↓reduceIte, decide_true, decide_false, Bool.not_true, Bool.not_false, Nat.zero_add, List.map_cons, List.map_nil, Int.toNat_natCast, strRows_len, intRows_len, List.getD_cons_zero, List.getD_cons_succ, List.length_cons, List.length_nil, List.forall_mem_cons, List.not_mem_nil, false_implies, implies_true, Int.ofNat_zero, Int.natCast_add, Int.natCast_one, Int.ofNat_one, Int.natCast_zero, isB, isU, Bool.false_eq_true, beq_self_eq_true, Bool.false_beq, Bool.true_beq, Int.natCast_nonneg, undef, strRows_take, strRows_drop, Int.toNat_zero, List.drop_zero, Bool.and_true, oneOr, List.all_cons, List.all_nil, AVal.one, Value.oneCell', beq_self_eq_true, Bool.true_and, List.take_length, c3, s2, s3])
  refine aret_pure (.inr rfl) ?_; simp +decide only [retOf, tget, if_true, if_false, ↓reduceIte]
end Go.Proofs.Ytidicfdcjoggpaa.M
