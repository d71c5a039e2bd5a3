/-
  The law DomBeside, walked.
-/
import Derived.Test.YtidicfdcjoggpaaBridge
import Derived.Test.YtidicfdcjoggpaaDomBesideLaw
import Derived.Test.YtidicfdcjoggpaaDomAwake
namespace Go.Proofs.Ytidicfdcjoggpaa.M
open Go.RowKit
set_option linter.unusedVariables false
set_option linter.unusedSimpArgs false
theorem follows : Try.prog.follows .mixedOrders = true := by kernel_rfl
def rawRow (t : Token) : List AVal := [.v (.int .i64 t.kind), .v (.string t.name), .v (.slice none 0 0), .v (.bool t.closed), .v (.string t.text)]
theorem fz_row {H H' : AHeap} : ∀ {t : Token}, t.attrs = [] → ∀ j (hj : j < (rawRow t).length) (hj' : j < (tokRow t).length), FZ H H' (rawRow t)[j] (tokRow t)[j]
  | ⟨a1, a2, a3, a4, a5⟩, hat, j, hj, hj' => by
    simp only at hat
    subst hat
    rcases j with _ | _ | _ | _ | _ | j
    · exact .refl _
    · exact .refl _
    · exact .nil 2
    · exact .refl _
    · exact .refl _
    · simp [rawRow] at hj; omega
theorem besideToks_attrs (block : Bool) : ∀ (ts : List Str), ∀ t ∈ besideToks block ts, t.attrs = []
  | [], t, h => by cases h
  | x :: ts, t, h => by
    cases block <;> simp only [besideToks, List.mem_cons] at h
    · rcases h with rfl | rfl | rfl | h
      · rfl
      · rfl
      · rfl
      · exact besideToks_attrs false ts t h
    · rcases h with rfl | rfl | h
      · rfl
      · rfl
      · exact besideToks_attrs true ts t h
theorem besideToks_size (block : Bool) : ∀ (ts : List Str), (∀ t ∈ ts, t.size ≤ 100) → textsSize (besideToks block ts) ≤ 100 * ts.length
  | [], _ => by simp [besideToks, textsSize]
  | x :: ts, h => by
    have h1 := besideToks_size block ts (fun t ht => h t (by simp [ht]))
    have h2 := h x (by simp)
    have e0 : ByteArray.empty.size = 0 := rfl
    cases block <;> simp only [besideToks, textsSize, List.map_cons, List.sum_cons, tokStart, tokText, tokEnd, List.length_cons, e0] at h1 ⊢ <;> omega
def besRow (nm t : Str) : List AVal := [.v (.string nm), .sl false 2 [], .v (.string ByteArray.empty), .sl false 4 [[.v (.string ByteArray.empty), .sl false 2 [], .v (.string t), .sl false 4 []]]]
theorem besRow_def (nm t : Str) : nodeRow (mkEl nm t).node = besRow nm t := by
  rw [nodeRow_def]
  simp only [El.node, mkEl, List.map_cons, List.map_nil]
  rw [nodeRow_def]
  rfl
theorem besBuild (block : Bool) (ts : List Str) (hl : ts.length ≤ 100) (hn : ∀ t ∈ ts, t ≠ ByteArray.empty) : buildR (besideToks block ts) = .tup [.sl false 4 (ts.map (besRow (nmOf block))), .v (.int .i64 0)] := by
  unfold buildR
  rw [beside_build block ts hl hn]
  simp only [List.map_map]
  congr 3
  apply List.map_congr_left
  intro t _
  exact besRow_def _ t
theorem besGet {nm : Str} {ts : List Str} {i : Nat} (h : i < ts.length) : (ts.map (besRow nm)).getD i [] = besRow nm (ts.getD i ByteArray.empty) := by simp [h]
theorem fz_toks {H H' : AHeap} {E : TypeId} {x : AVal} {l : List Token} (h : RowO H E 5 x (l.map rawRow)) (ha : ∀ t ∈ l, t.attrs = []) (hd : ∀ b, blkOf x = some b → H' b = none) : FZ H H' x (.sl false 5 (l.map tokRow)) := by
  generalize he : l.map rawRow = rows at h
  cases h with
  | nil =>
    have : l = [] := by simpa using he
    subst this; exact .nil 5
  | @bs g n rows hb hn =>
    subst he
    refine .buf hb (hd g rfl) (by omega) (by rw [hn]; simp) (fun i hi => by simp [tokRow]) (fun i hi j hj => ?_) (fun i hi hi' j hj hj' => ?_)
    · simp only [List.getElem_map, tokRow] at hj ⊢
      rcases j with _ | _ | _ | _ | _ | j <;> first | rfl | (simp at hj; omega)
    · simp only [List.getElem_map] at hj hj' ⊢
      exact fz_row (ha _ (List.getElem_mem _)) j hj hj'
theorem besideToks_append (block : Bool) (a b : List Str) : besideToks block (a ++ b) = besideToks block a ++ besideToks block b := by
  induction a with
  | nil => rfl
  | cons t a ih => cases block <;> simp [besideToks, ih]
theorem besideToks_len (block : Bool) (a : List Str) : (besideToks block a).length ≤ 3 * a.length := by
  induction a with
  | nil => simp [besideToks]
  | cons t a ih => cases block <;> simp [besideToks] <;> omega
def c_law_Beside : AFn := ⟨2, 107, [4],
  .seq (.ops [⟨(some 4), none, .q (.mv (.const (.bool false)))⟩])
  (.seq (.ops [⟨(some 12), none, .e (.call 11 [])⟩,
      ⟨(some 5), none, .q (.mv (.tmp 12))⟩])
  (.seq (.seq (.ops [⟨(some 13), none, .q (.mv (.tmp 0))⟩,
      ⟨(some 14), none, .q (.len false (.tmp 13))⟩,
      ⟨(some 15), none, .q (.bin .gtr .num (.tmp 14) (.const (.int .i64 100)))⟩])
  (.cond (.tmp 15)
    (.seq (.ops [⟨(some 16), none, .q (.mv (.tmp 5))⟩,
        ⟨(some 4), none, .q (.mv (.tmp 16))⟩])
    (.ret))
    (.skip)))
  (.seq (.ops [⟨(some 6), none, .q (.mv (.const (.string ⟨#[98]⟩)))⟩])
  (.seq (.seq (.ops [⟨(some 17), none, .q (.mv (.tmp 1))⟩])
  (.cond (.tmp 17)
    (.ops [⟨(some 6), none, .q (.mv (.const (.string ⟨#[112]⟩)))⟩])
    (.skip)))
  (.seq (.ops [⟨(some 7), none, .q (.mv (.const (.slice none 0 0)))⟩])
  (.seq (.seq (.ops [⟨(some 8), none, .q (.mv (.const (.int .i64 0)))⟩])
  (.block 0 (.loop (.seq (.seq (.ops [⟨(some 18), none, .q (.mv (.tmp 8))⟩,
          ⟨(some 19), none, .q (.mv (.tmp 0))⟩,
          ⟨(some 20), none, .q (.len false (.tmp 19))⟩,
          ⟨(some 21), none, .q (.bin .lss .num (.tmp 18) (.tmp 20))⟩])
      (.cond (.tmp 21)
        (.skip)
        (.exit 0)))
      (.seq (.block 1 (.seq (.seq (.ops [⟨(some 24), none, .q (.mv (.tmp 0))⟩,
            ⟨(some 25), none, .q (.mv (.tmp 8))⟩,
            ⟨(some 26), none, .q (.ixa 1 (.tmp 24) (.tmp 25))⟩,
            ⟨(some 27), none, .q (.ld false 1 (.tmp 26))⟩,
            ⟨(some 28), none, .q (.bin .eql .num (.tmp 27) (.const (.string ByteArray.empty)))⟩,
            ⟨(some 29), none, .q (.mv (.tmp 28))⟩,
            ⟨(some 30), (some (29, false)), .q (.mv (.tmp 0))⟩,
            ⟨(some 31), (some (29, false)), .q (.mv (.tmp 8))⟩,
            ⟨(some 32), (some (29, false)), .q (.ixa 1 (.tmp 30) (.tmp 31))⟩,
            ⟨(some 33), (some (29, false)), .q (.ld false 1 (.tmp 32))⟩,
            ⟨(some 34), (some (29, false)), .q (.len true (.tmp 33))⟩,
            ⟨(some 35), (some (29, false)), .q (.bin .gtr .num (.tmp 34) (.const (.int .i64 100)))⟩,
            ⟨(some 36), none, .q (.pick (.tmp 29) (.const (.bool true)) (.tmp 35))⟩])
        (.cond (.tmp 36)
          (.seq (.ops [⟨(some 37), none, .q (.mv (.tmp 5))⟩,
              ⟨(some 4), none, .q (.mv (.tmp 37))⟩])
          (.ret))
          (.skip)))
        (.seq (.ops [⟨(some 38), none, .q (.mv (.tmp 7))⟩,
            ⟨(some 39), none, .q (.mv (.tmp 6))⟩,
            ⟨(some 40), none, .q (.bld [(.int .i64 0), (.string ByteArray.empty), (.slice none 0 0), (.bool false), (.string ByteArray.empty)] [(0, 1, (.const (.int .i64 2))), (1, 1, (.tmp 39))])⟩,
            ⟨(some 41), none, .q (.mv (.tmp 0))⟩,
            ⟨(some 42), none, .q (.mv (.tmp 8))⟩,
            ⟨(some 43), none, .q (.ixa 1 (.tmp 41) (.tmp 42))⟩,
            ⟨(some 44), none, .q (.ld false 1 (.tmp 43))⟩,
            ⟨(some 45), none, .q (.bld [(.int .i64 0), (.string ByteArray.empty), (.slice none 0 0), (.bool false), (.string ByteArray.empty)] [(0, 1, (.const (.int .i64 1))), (4, 1, (.tmp 44))])⟩,
            ⟨(some 46), none, .e (.bsl 33 5 [(.tmp 40), (.tmp 45)])⟩,
            ⟨(some 47), none, .e (.app 33 5 72 false (.tmp 38) (.tmp 46))⟩,
            ⟨(some 7), none, .q (.mv (.tmp 47))⟩])
        (.seq (.ops [⟨(some 48), none, .q (.mv (.tmp 1))⟩,
            ⟨(some 49), none, .q (.un .not (.tmp 48))⟩])
        (.cond (.tmp 49)
          (.ops [⟨(some 50), none, .q (.mv (.tmp 7))⟩,
              ⟨(some 51), none, .q (.mv (.tmp 6))⟩,
              ⟨(some 52), none, .q (.bld [(.int .i64 0), (.string ByteArray.empty), (.slice none 0 0), (.bool false), (.string ByteArray.empty)] [(0, 1, (.const (.int .i64 3))), (1, 1, (.tmp 51))])⟩,
              ⟨(some 53), none, .e (.bsl 33 5 [(.tmp 52)])⟩,
              ⟨(some 54), none, .e (.app 33 5 72 false (.tmp 50) (.tmp 53))⟩,
              ⟨(some 7), none, .q (.mv (.tmp 54))⟩])
          (.skip))))))
      (.ops [⟨(some 22), none, .q (.mv (.tmp 8))⟩,
          ⟨(some 23), none, .q (.bin .add .num (.tmp 22) (.const (.int .i64 1)))⟩,
          ⟨(some 8), none, .q (.mv (.tmp 23))⟩]))))))
  (.seq (.ops [⟨(some 56), none, .q (.mv (.tmp 7))⟩,
      ⟨(some 57), none, .e (.call 14 [(.tmp 56)])⟩,
      ⟨(some 55), none, .q (.mv (.tmp 57))⟩,
      ⟨(some 58), none, .q (.ext (.tmp 55) 0)⟩,
      ⟨(some 59), none, .q (.ext (.tmp 55) 1)⟩,
      ⟨(some 9), none, .q (.mv (.tmp 58))⟩,
      ⟨(some 10), none, .q (.mv (.tmp 59))⟩])
  (.seq (.seq (.ops [⟨(some 60), none, .q (.mv (.tmp 10))⟩,
      ⟨(some 61), none, .q (.bin .neq .num (.tmp 60) (.const (.int .i64 0)))⟩,
      ⟨(some 62), none, .q (.mv (.tmp 61))⟩,
      ⟨(some 63), (some (62, false)), .q (.mv (.tmp 9))⟩,
      ⟨(some 64), (some (62, false)), .q (.len false (.tmp 63))⟩,
      ⟨(some 65), (some (62, false)), .q (.mv (.tmp 0))⟩,
      ⟨(some 66), (some (62, false)), .q (.len false (.tmp 65))⟩,
      ⟨(some 67), (some (62, false)), .q (.bin .neq .num (.tmp 64) (.tmp 66))⟩,
      ⟨(some 68), none, .q (.pick (.tmp 62) (.const (.bool true)) (.tmp 67))⟩])
  (.cond (.tmp 68)
    (.seq (.ops [⟨(some 4), none, .q (.mv (.const (.bool false)))⟩])
    (.ret))
    (.skip)))
  (.seq (.seq (.ops [⟨(some 11), none, .q (.mv (.const (.int .i64 0)))⟩])
  (.block 2 (.loop (.seq (.seq (.ops [⟨(some 69), none, .q (.mv (.tmp 11))⟩,
          ⟨(some 70), none, .q (.mv (.tmp 9))⟩,
          ⟨(some 71), none, .q (.len false (.tmp 70))⟩,
          ⟨(some 72), none, .q (.bin .lss .num (.tmp 69) (.tmp 71))⟩])
      (.cond (.tmp 72)
        (.skip)
        (.exit 2)))
      (.seq (.block 3 (.seq (.ops [⟨(some 75), none, .q (.mv (.tmp 9))⟩,
            ⟨(some 76), none, .q (.mv (.tmp 11))⟩,
            ⟨(some 77), none, .q (.ixa 4 (.tmp 75) (.tmp 76))⟩,
            ⟨(some 78), none, .q (.fad 0 1 (.tmp 77))⟩,
            ⟨(some 79), none, .q (.ld false 1 (.tmp 78))⟩,
            ⟨(some 80), none, .q (.mv (.tmp 6))⟩,
            ⟨(some 81), none, .q (.bin .neq .num (.tmp 79) (.tmp 80))⟩,
            ⟨(some 82), none, .q (.mv (.tmp 81))⟩,
            ⟨(some 83), (some (82, false)), .q (.mv (.tmp 9))⟩,
            ⟨(some 84), (some (82, false)), .q (.mv (.tmp 11))⟩,
            ⟨(some 85), (some (82, false)), .q (.ixa 4 (.tmp 83) (.tmp 84))⟩,
            ⟨(some 86), (some (82, false)), .q (.fad 3 1 (.tmp 85))⟩,
            ⟨(some 87), (some (82, false)), .q (.ld false 1 (.tmp 86))⟩,
            ⟨(some 88), (some (82, false)), .q (.len false (.tmp 87))⟩,
            ⟨(some 89), (some (82, false)), .q (.bin .neq .num (.tmp 88) (.const (.int .i64 1)))⟩,
            ⟨(some 90), none, .q (.pick (.tmp 82) (.const (.bool true)) (.tmp 89))⟩,
            ⟨(some 91), none, .q (.mv (.tmp 90))⟩,
            ⟨(some 92), (some (91, false)), .q (.mv (.tmp 9))⟩,
            ⟨(some 93), (some (91, false)), .q (.mv (.tmp 11))⟩,
            ⟨(some 94), (some (91, false)), .q (.ixa 4 (.tmp 92) (.tmp 93))⟩,
            ⟨(some 95), (some (91, false)), .q (.fad 3 1 (.tmp 94))⟩,
            ⟨(some 96), (some (91, false)), .q (.ld false 1 (.tmp 95))⟩,
            ⟨(some 97), (some (91, false)), .q (.ixa 4 (.tmp 96) (.const (.int .i64 0)))⟩,
            ⟨(some 98), (some (91, false)), .q (.fad 2 1 (.tmp 97))⟩,
            ⟨(some 99), (some (91, false)), .q (.ld false 1 (.tmp 98))⟩,
            ⟨(some 100), (some (91, false)), .q (.mv (.tmp 0))⟩,
            ⟨(some 101), (some (91, false)), .q (.mv (.tmp 11))⟩,
            ⟨(some 102), (some (91, false)), .q (.ixa 1 (.tmp 100) (.tmp 101))⟩,
            ⟨(some 103), (some (91, false)), .q (.ld false 1 (.tmp 102))⟩,
            ⟨(some 104), (some (91, false)), .q (.bin .neq .num (.tmp 99) (.tmp 103))⟩,
            ⟨(some 105), none, .q (.pick (.tmp 91) (.const (.bool true)) (.tmp 104))⟩])
        (.cond (.tmp 105)
          (.seq (.ops [⟨(some 4), none, .q (.mv (.const (.bool false)))⟩])
          (.ret))
          (.skip))))
      (.ops [⟨(some 73), none, .q (.mv (.tmp 11))⟩,
          ⟨(some 74), none, .q (.bin .add .num (.tmp 73) (.const (.int .i64 1)))⟩,
          ⟨(some 11), none, .q (.mv (.tmp 74))⟩]))))))
  (.seq (.ops [⟨(some 106), none, .q (.mv (.tmp 5))⟩,
      ⟨(some 4), none, .q (.mv (.tmp 106))⟩])
  (.ret)))))))))))⟩
theorem k_law_Beside : compF Try.prog 6 = some c_law_Beside := by kernel_rfl
set_option maxHeartbeats 4000000 in
theorem beside_law {W : World} (ts : List Str) (block : Bool) (hts : ts.length ≤ maxLen) : ACalls Try.prog W 6 [.sl false 1 (strRows ts), .v (.bool block)] AHeap.none (fun r _ => r = .v (.bool true)) := by
  unfold maxLen at hts
  refine fn_run follows k_law_Beside rfl ?_
  simp only [c_law_Beside, List.zipIdx_cons, List.zipIdx_nil, List.map_cons, List.map_nil, Nat.zero_add]
  (try simp +decide (implicitDefEqProofs := false) only [stk_nil, stk_skip, stk_ops, stk_seq, stk_block, stk_scope, stk_exit, stk_ret, stk_code_exit, stk_code_ret, stk_ops_exit, stk_ops_ret, stk_endb, stk_endb_exit, stk_endb_ret, stk_endl, stk_endl_exit, stk_endl_ret, stk_ops_nil, stk_q, stk_niq, niqA, flip, srcOf, stk_alloc, stk_box, stk_bsl, ↓stk_g, ↓stk_c, side, val, bside, bval, uside, uval, cside, cval, bndS, bndV, intA, isInt, lside, lval, fside, fval, faside, faval, iside, ival, sxside, sxval, sizeA, slside, slval, llside, llval, lenside, lenval, lenA, tupA, mmside, mmval, nkside, boolA, isBool, ev_t, ev_c, tget, put_s, put_n, lkside, lkval, menval, stk_mk, Option.isSome_some, isMapA, mapA, keyA, FZ_rfl, FZ_any, retOf, true_and, and_true, if_true, if_false, ↓reduceIte, decide_true, decide_false, Bool.not_true, Bool.not_false, Nat.zero_add, List.map_cons, List.map_nil, Int.toNat_natCast, strRows_len, intRows_len, List.getD_cons_zero, List.getD_cons_succ, List.length_cons, List.length_nil, List.forall_mem_cons, List.not_mem_nil, false_implies, implies_true, Int.ofNat_zero, Int.natCast_add, Int.natCast_one, Int.ofNat_one, Int.natCast_zero, isB, isU, Bool.false_eq_true, beq_self_eq_true, Bool.false_beq, Bool.true_beq, Int.natCast_nonneg, undef, strRows_take, strRows_drop, Int.toNat_zero, List.drop_zero, Bool.and_true, oneOr, List.all_cons, List.all_nil, AVal.one, Value.oneCell', beq_self_eq_true, Bool.true_and, List.take_length])
  refine stk_pure (lift_none (u := .bool true) (fun w => (awake_any w).mono fun e w' h => ⟨h.1, h.2.below⟩)) fun v hv => ?_
  subst hv
  by_cases h0 : 100 < ts.length
  · have g0 : (100 : Int) < (ts.length : Int) := by omega
    (try simp +decide (implicitDefEqProofs := false) only [stk_nil, stk_skip, stk_ops, stk_seq, stk_block, stk_scope, stk_exit, stk_ret, stk_code_exit, stk_code_ret, stk_ops_exit, stk_ops_ret, stk_endb, stk_endb_exit, stk_endb_ret, stk_endl, stk_endl_exit, stk_endl_ret, stk_ops_nil, stk_q, stk_niq, niqA, flip, srcOf, stk_alloc, stk_box, stk_bsl, ↓stk_g, ↓stk_c, side, val, bside, bval, uside, uval, cside, cval, bndS, bndV, intA, isInt, lside, lval, fside, fval, faside, faval, iside, ival, sxside, sxval, sizeA, slside, slval, llside, llval, lenside, lenval, lenA, tupA, mmside, mmval, nkside, boolA, isBool, ev_t, ev_c, tget, put_s, put_n, lkside, lkval, menval, stk_mk, Option.isSome_some, isMapA, mapA, keyA, FZ_rfl, FZ_any, retOf, true_and, and_true, if_true, if_false, ↓reduceIte, decide_true, decide_false, Bool.not_true, Bool.not_false, Nat.zero_add, List.map_cons, List.map_nil, Int.toNat_natCast, strRows_len, intRows_len, List.getD_cons_zero, List.getD_cons_succ, List.length_cons, List.length_nil, List.forall_mem_cons, List.not_mem_nil, false_implies, implies_true, Int.ofNat_zero, Int.natCast_add, Int.natCast_one, Int.ofNat_one, Int.natCast_zero, isB, isU, Bool.false_eq_true, beq_self_eq_true, Bool.false_beq, Bool.true_beq, Int.natCast_nonneg, undef, strRows_take, strRows_drop, Int.toNat_zero, List.drop_zero, Bool.and_true, oneOr, List.all_cons, List.all_nil, AVal.one, Value.oneCell', beq_self_eq_true, Bool.true_and, List.take_length, g0])
    refine aret_pure (.inr rfl) ?_; simp +decide only [retOf, tget, if_true, if_false, ↓reduceIte]
  have g0 : ¬ (100 : Int) < (ts.length : Int) := by omega
  cases block
  · (try simp +decide (implicitDefEqProofs := false) only [stk_nil, stk_skip, stk_ops, stk_seq, stk_block, stk_scope, stk_exit, stk_ret, stk_code_exit, stk_code_ret, stk_ops_exit, stk_ops_ret, stk_endb, stk_endb_exit, stk_endb_ret, stk_endl, stk_endl_exit, stk_endl_ret, stk_ops_nil, stk_q, stk_niq, niqA, flip, srcOf, stk_alloc, stk_box, stk_bsl, ↓stk_g, ↓stk_c, side, val, bside, bval, uside, uval, cside, cval, bndS, bndV, intA, isInt, lside, lval, fside, fval, faside, faval, iside, ival, sxside, sxval, sizeA, slside, slval, llside, llval, lenside, lenval, lenA, tupA, mmside, mmval, nkside, boolA, isBool, ev_t, ev_c, tget, put_s, put_n, lkside, lkval, menval, stk_mk, Option.isSome_some, isMapA, mapA, keyA, FZ_rfl, FZ_any, retOf, true_and, and_true, if_true, if_false, ↓reduceIte, decide_true, decide_false, Bool.not_true, Bool.not_false, Nat.zero_add, List.map_cons, List.map_nil, Int.toNat_natCast, strRows_len, intRows_len, List.getD_cons_zero, List.getD_cons_succ, List.length_cons, List.length_nil, List.forall_mem_cons, List.not_mem_nil, false_implies, implies_true, Int.ofNat_zero, Int.natCast_add, Int.natCast_one, Int.ofNat_one, Int.natCast_zero, isB, isU, Bool.false_eq_true, beq_self_eq_true, Bool.false_beq, Bool.true_beq, Int.natCast_nonneg, undef, strRows_take, strRows_drop, Int.toNat_zero, List.drop_zero, Bool.and_true, oneOr, List.all_cons, List.all_nil, AVal.one, Value.oneCell', beq_self_eq_true, Bool.true_and, List.take_length, g0])
    refine stk_up (α := AVal × AHeap) ts.length (fun i q => ⟨[(8, .v (.int .i64 i)), (7, q.1), (6, .v (.string ⟨#[98]⟩)), (5, .v (.bool true)), (0, .sl false 1 (strRows ts)), (1, .v (.bool false))], q.2⟩)
      (fun i q => RowO q.2 33 5 q.1 ((besideToks false (ts.take i)).map rawRow) ∧ ∀ t ∈ ts.take i, t ≠ ByteArray.empty ∧ t.size ≤ 100) (.v (.slice none 0 0), AHeap.none) (Weak.list _ (Sub.refl _) (by (try simp +decide (implicitDefEqProofs := false) only [stk_nil, stk_skip, stk_ops, stk_seq, stk_block, stk_scope, stk_exit, stk_ret, stk_code_exit, stk_code_ret, stk_ops_exit, stk_ops_ret, stk_endb, stk_endb_exit, stk_endb_ret, stk_endl, stk_endl_exit, stk_endl_ret, stk_ops_nil, stk_q, stk_niq, niqA, flip, srcOf, stk_alloc, stk_box, stk_bsl, ↓stk_g, ↓stk_c, side, val, bside, bval, uside, uval, cside, cval, bndS, bndV, intA, isInt, lside, lval, fside, fval, faside, faval, iside, ival, sxside, sxval, sizeA, slside, slval, llside, llval, lenside, lenval, lenA, tupA, mmside, mmval, nkside, boolA, isBool, ev_t, ev_c, tget, put_s, put_n, lkside, lkval, menval, stk_mk, Option.isSome_some, isMapA, mapA, keyA, FZ_rfl, FZ_any, retOf, true_and, and_true, if_true, if_false, ↓reduceIte, decide_true, decide_false, Bool.not_true, Bool.not_false, Nat.zero_add, List.map_cons, List.map_nil, Int.toNat_natCast, strRows_len, intRows_len, List.getD_cons_zero, List.getD_cons_succ, List.length_cons, List.length_nil, List.forall_mem_cons, List.not_mem_nil, false_implies, implies_true, Int.ofNat_zero, Int.natCast_add, Int.natCast_one, Int.ofNat_one, Int.natCast_zero, isB, isU, Bool.false_eq_true, beq_self_eq_true, Bool.false_beq, Bool.true_beq, Int.natCast_nonneg, undef, strRows_take, strRows_drop, Int.toNat_zero, List.drop_zero, Bool.and_true, oneOr, List.all_cons, List.all_nil, AVal.one, Value.oneCell', beq_self_eq_true, Bool.true_and, List.take_length]))) ⟨RowO.nil, by simp⟩ ?_
    rintro i ⟨x, H⟩ hi ⟨hrow, hall⟩
    dsimp only at hrow
    by_cases hl : i < ts.length
    · have h1 : (i : Int) < (ts.length : Int) := by omega
      have hg := strRows_get hl
      have hw := wrap_in (n := i + 1) (by omega) (by omega)
      have hbl := besideToks_len false (ts.take i)
      have htl : (ts.take i).length = i := by simp; omega
      have htake : besideToks false (ts.take (i + 1)) = besideToks false (ts.take i) ++ besideToks false [ts.getD i ByteArray.empty] := by
        rw [List.take_succ_eq_append_getElem hl, besideToks_append]; simp [hl]
      by_cases he : ts.getD i ByteArray.empty = ByteArray.empty
      · have he' : decide (ts.getD i ByteArray.empty = ByteArray.empty) = true := decide_eq_true he
        (try simp +decide (implicitDefEqProofs := false) only [stk_nil, stk_skip, stk_ops, stk_seq, stk_block, stk_scope, stk_exit, stk_ret, stk_code_exit, stk_code_ret, stk_ops_exit, stk_ops_ret, stk_endb, stk_endb_exit, stk_endb_ret, stk_endl, stk_endl_exit, stk_endl_ret, stk_ops_nil, stk_q, stk_niq, niqA, flip, srcOf, stk_alloc, stk_box, stk_bsl, ↓stk_g, ↓stk_c, side, val, bside, bval, uside, uval, cside, cval, bndS, bndV, intA, isInt, lside, lval, fside, fval, faside, faval, iside, ival, sxside, sxval, sizeA, slside, slval, llside, llval, lenside, lenval, lenA, tupA, mmside, mmval, nkside, boolA, isBool, ev_t, ev_c, tget, put_s, put_n, lkside, lkval, menval, stk_mk, Option.isSome_some, isMapA, mapA, keyA, FZ_rfl, FZ_any, retOf, true_and, and_true, if_true, if_false, ↓reduceIte, decide_true, decide_false, Bool.not_true, Bool.not_false, Nat.zero_add, List.map_cons, List.map_nil, Int.toNat_natCast, strRows_len, intRows_len, List.getD_cons_zero, List.getD_cons_succ, List.length_cons, List.length_nil, List.forall_mem_cons, List.not_mem_nil, false_implies, implies_true, Int.ofNat_zero, Int.natCast_add, Int.natCast_one, Int.ofNat_one, Int.natCast_zero, isB, isU, Bool.false_eq_true, beq_self_eq_true, Bool.false_beq, Bool.true_beq, Int.natCast_nonneg, undef, strRows_take, strRows_drop, Int.toNat_zero, List.drop_zero, Bool.and_true, oneOr, List.all_cons, List.all_nil, AVal.one, Value.oneCell', beq_self_eq_true, Bool.true_and, List.take_length, h1, hg, he'])
        refine aret_pure (.inr rfl) ?_; simp +decide only [retOf, tget, if_true, if_false, ↓reduceIte]
      have he' : decide (ts.getD i ByteArray.empty = ByteArray.empty) = false := decide_eq_false he
      by_cases hz : (100 : Int) < ((ts.getD i ByteArray.empty).size : Int)
      · (try simp +decide (implicitDefEqProofs := false) only [stk_nil, stk_skip, stk_ops, stk_seq, stk_block, stk_scope, stk_exit, stk_ret, stk_code_exit, stk_code_ret, stk_ops_exit, stk_ops_ret, stk_endb, stk_endb_exit, stk_endb_ret, stk_endl, stk_endl_exit, stk_endl_ret, stk_ops_nil, stk_q, stk_niq, niqA, flip, srcOf, stk_alloc, stk_box, stk_bsl, ↓stk_g, ↓stk_c, side, val, bside, bval, uside, uval, cside, cval, bndS, bndV, intA, isInt, lside, lval, fside, fval, faside, faval, iside, ival, sxside, sxval, sizeA, slside, slval, llside, llval, lenside, lenval, lenA, tupA, mmside, mmval, nkside, boolA, isBool, ev_t, ev_c, tget, put_s, put_n, lkside, lkval, menval, stk_mk, Option.isSome_some, isMapA, mapA, keyA, FZ_rfl, FZ_any, retOf, true_and, and_true, if_true, if_false, ↓reduceIte, decide_true, decide_false, Bool.not_true, Bool.not_false, Nat.zero_add, List.map_cons, List.map_nil, Int.toNat_natCast, strRows_len, intRows_len, List.getD_cons_zero, List.getD_cons_succ, List.length_cons, List.length_nil, List.forall_mem_cons, List.not_mem_nil, false_implies, implies_true, Int.ofNat_zero, Int.natCast_add, Int.natCast_one, Int.ofNat_one, Int.natCast_zero, isB, isU, Bool.false_eq_true, beq_self_eq_true, Bool.false_beq, Bool.true_beq, Int.natCast_nonneg, undef, strRows_take, strRows_drop, Int.toNat_zero, List.drop_zero, Bool.and_true, oneOr, List.all_cons, List.all_nil, AVal.one, Value.oneCell', beq_self_eq_true, Bool.true_and, List.take_length, h1, hg, he', hz])
        refine aret_pure (.inr rfl) ?_; simp +decide only [retOf, tget, if_true, if_false, ↓reduceIte]
      (try simp +decide (implicitDefEqProofs := false) only [stk_nil, stk_skip, stk_ops, stk_seq, stk_block, stk_scope, stk_exit, stk_ret, stk_code_exit, stk_code_ret, stk_ops_exit, stk_ops_ret, stk_endb, stk_endb_exit, stk_endb_ret, stk_endl, stk_endl_exit, stk_endl_ret, stk_ops_nil, stk_q, stk_niq, niqA, flip, srcOf, stk_alloc, stk_box, stk_bsl, ↓stk_g, ↓stk_c, side, val, bside, bval, uside, uval, cside, cval, bndS, bndV, intA, isInt, lside, lval, fside, fval, faside, faval, iside, ival, sxside, sxval, sizeA, slside, slval, llside, llval, lenside, lenval, lenA, tupA, mmside, mmval, nkside, boolA, isBool, ev_t, ev_c, tget, put_s, put_n, lkside, lkval, menval, stk_mk, Option.isSome_some, isMapA, mapA, keyA, FZ_rfl, FZ_any, retOf, true_and, and_true, if_true, if_false, ↓reduceIte, decide_true, decide_false, Bool.not_true, Bool.not_false, Nat.zero_add, List.map_cons, List.map_nil, Int.toNat_natCast, strRows_len, intRows_len, List.getD_cons_zero, List.getD_cons_succ, List.length_cons, List.length_nil, List.forall_mem_cons, List.not_mem_nil, false_implies, implies_true, Int.ofNat_zero, Int.natCast_add, Int.natCast_one, Int.ofNat_one, Int.natCast_zero, isB, isU, Bool.false_eq_true, beq_self_eq_true, Bool.false_beq, Bool.true_beq, Int.natCast_nonneg, undef, strRows_take, strRows_drop, Int.toNat_zero, List.drop_zero, Bool.and_true, oneOr, List.all_cons, List.all_nil, AVal.one, Value.oneCell', beq_self_eq_true, Bool.true_and, List.take_length, h1, hg, he', hz, lay, oneOr, List.take_succ_cons, List.take_zero, List.drop_succ_cons, List.drop_zero, List.nil_append, List.cons_append, Option.getD_some, Nat.reduceAdd, Nat.reduceLeDiff, List.append_nil, and_self, List.all_cons, List.all_nil])
      refine stk_appO (rows := (besideToks false (ts.take i)).map rawRow) hrow (by rfl) (by simp only [List.length_map, List.length_cons, List.length_nil]; omega) fun x1 H1 hr1 _ => ?_
      (try simp +decide (implicitDefEqProofs := false) only [stk_nil, stk_skip, stk_ops, stk_seq, stk_block, stk_scope, stk_exit, stk_ret, stk_code_exit, stk_code_ret, stk_ops_exit, stk_ops_ret, stk_endb, stk_endb_exit, stk_endb_ret, stk_endl, stk_endl_exit, stk_endl_ret, stk_ops_nil, stk_q, stk_niq, niqA, flip, srcOf, stk_alloc, stk_box, stk_bsl, ↓stk_g, ↓stk_c, side, val, bside, bval, uside, uval, cside, cval, bndS, bndV, intA, isInt, lside, lval, fside, fval, faside, faval, iside, ival, sxside, sxval, sizeA, slside, slval, llside, llval, lenside, lenval, lenA, tupA, mmside, mmval, nkside, boolA, isBool, ev_t, ev_c, tget, put_s, put_n, lkside, lkval, menval, stk_mk, Option.isSome_some, isMapA, mapA, keyA, FZ_rfl, FZ_any, retOf, true_and, and_true, if_true, if_false, ↓reduceIte, decide_true, decide_false, Bool.not_true, Bool.not_false, Nat.zero_add, List.map_cons, List.map_nil, Int.toNat_natCast, strRows_len, intRows_len, List.getD_cons_zero, List.getD_cons_succ, List.length_cons, List.length_nil, List.forall_mem_cons, List.not_mem_nil, false_implies, implies_true, Int.ofNat_zero, Int.natCast_add, Int.natCast_one, Int.ofNat_one, Int.natCast_zero, isB, isU, Bool.false_eq_true, beq_self_eq_true, Bool.false_beq, Bool.true_beq, Int.natCast_nonneg, undef, strRows_take, strRows_drop, Int.toNat_zero, List.drop_zero, Bool.and_true, oneOr, List.all_cons, List.all_nil, AVal.one, Value.oneCell', beq_self_eq_true, Bool.true_and, List.take_length, hw, lay, oneOr, List.take_succ_cons, List.take_zero, List.drop_succ_cons, List.drop_zero, List.nil_append, List.cons_append, Option.getD_some, Nat.reduceAdd, Nat.reduceLeDiff, List.append_nil, and_self, List.all_cons, List.all_nil])
      refine stk_appO (rows := _) hr1 (by rfl) (by simp only [List.length_append, List.length_map, List.length_cons, List.length_nil]; omega) fun x2 H2 hr2 _ => ?_
      (try simp +decide (implicitDefEqProofs := false) only [stk_nil, stk_skip, stk_ops, stk_seq, stk_block, stk_scope, stk_exit, stk_ret, stk_code_exit, stk_code_ret, stk_ops_exit, stk_ops_ret, stk_endb, stk_endb_exit, stk_endb_ret, stk_endl, stk_endl_exit, stk_endl_ret, stk_ops_nil, stk_q, stk_niq, niqA, flip, srcOf, stk_alloc, stk_box, stk_bsl, ↓stk_g, ↓stk_c, side, val, bside, bval, uside, uval, cside, cval, bndS, bndV, intA, isInt, lside, lval, fside, fval, faside, faval, iside, ival, sxside, sxval, sizeA, slside, slval, llside, llval, lenside, lenval, lenA, tupA, mmside, mmval, nkside, boolA, isBool, ev_t, ev_c, tget, put_s, put_n, lkside, lkval, menval, stk_mk, Option.isSome_some, isMapA, mapA, keyA, FZ_rfl, FZ_any, retOf, true_and, and_true, if_true, if_false, ↓reduceIte, decide_true, decide_false, Bool.not_true, Bool.not_false, Nat.zero_add, List.map_cons, List.map_nil, Int.toNat_natCast, strRows_len, intRows_len, List.getD_cons_zero, List.getD_cons_succ, List.length_cons, List.length_nil, List.forall_mem_cons, List.not_mem_nil, false_implies, implies_true, Int.ofNat_zero, Int.natCast_add, Int.natCast_one, Int.ofNat_one, Int.natCast_zero, isB, isU, Bool.false_eq_true, beq_self_eq_true, Bool.false_beq, Bool.true_beq, Int.natCast_nonneg, undef, strRows_take, strRows_drop, Int.toNat_zero, List.drop_zero, Bool.and_true, oneOr, List.all_cons, List.all_nil, AVal.one, Value.oneCell', beq_self_eq_true, Bool.true_and, List.take_length, hw])
      refine ⟨by omega, (x2, H2), Weak.list _ (Sub.refl _) (by (try simp +decide (implicitDefEqProofs := false) only [stk_nil, stk_skip, stk_ops, stk_seq, stk_block, stk_scope, stk_exit, stk_ret, stk_code_exit, stk_code_ret, stk_ops_exit, stk_ops_ret, stk_endb, stk_endb_exit, stk_endb_ret, stk_endl, stk_endl_exit, stk_endl_ret, stk_ops_nil, stk_q, stk_niq, niqA, flip, srcOf, stk_alloc, stk_box, stk_bsl, ↓stk_g, ↓stk_c, side, val, bside, bval, uside, uval, cside, cval, bndS, bndV, intA, isInt, lside, lval, fside, fval, faside, faval, iside, ival, sxside, sxval, sizeA, slside, slval, llside, llval, lenside, lenval, lenA, tupA, mmside, mmval, nkside, boolA, isBool, ev_t, ev_c, tget, put_s, put_n, lkside, lkval, menval, stk_mk, Option.isSome_some, isMapA, mapA, keyA, FZ_rfl, FZ_any, retOf, true_and, and_true, if_true, if_false, ↓reduceIte, decide_true, decide_false, Bool.not_true, Bool.not_false, Nat.zero_add, List.map_cons, List.map_nil, Int.toNat_natCast, strRows_len, intRows_len, List.getD_cons_zero, List.getD_cons_succ, List.length_cons, List.length_nil, List.forall_mem_cons, List.not_mem_nil, false_implies, implies_true, Int.ofNat_zero, Int.natCast_add, Int.natCast_one, Int.ofNat_one, Int.natCast_zero, isB, isU, Bool.false_eq_true, beq_self_eq_true, Bool.false_beq, Bool.true_beq, Int.natCast_nonneg, undef, strRows_take, strRows_drop, Int.toNat_zero, List.drop_zero, Bool.and_true, oneOr, List.all_cons, List.all_nil, AVal.one, Value.oneCell', beq_self_eq_true, Bool.true_and, List.take_length])), ?_, ?_⟩
      · rw [htake]
        simpa [besideToks, rawRow, tokStart, tokText, tokEnd, bB, bP, List.append_assoc] using hr2
      · intro t ht
        rw [List.take_succ_eq_append_getElem hl] at ht
        rcases List.mem_append.1 ht with h | h
        · exact hall t h
        · simp at h
          rw [h]
          have e1 : ts.getD i ByteArray.empty = ts[i] := by simp [hl]
          rw [← e1]
          exact ⟨he, by omega⟩
    · have h1 : ¬ (i : Int) < (ts.length : Int) := by omega
      have hia : ts.take i = ts := by rw [List.take_of_length_le (by omega)]
      rw [hia] at hrow hall
      (try simp +decide (implicitDefEqProofs := false) only [stk_nil, stk_skip, stk_ops, stk_seq, stk_block, stk_scope, stk_exit, stk_ret, stk_code_exit, stk_code_ret, stk_ops_exit, stk_ops_ret, stk_endb, stk_endb_exit, stk_endb_ret, stk_endl, stk_endl_exit, stk_endl_ret, stk_ops_nil, stk_q, stk_niq, niqA, flip, srcOf, stk_alloc, stk_box, stk_bsl, ↓stk_g, ↓stk_c, side, val, bside, bval, uside, uval, cside, cval, bndS, bndV, intA, isInt, lside, lval, fside, fval, faside, faval, iside, ival, sxside, sxval, sizeA, slside, slval, llside, llval, lenside, lenval, lenA, tupA, mmside, mmval, nkside, boolA, isBool, ev_t, ev_c, tget, put_s, put_n, lkside, lkval, menval, stk_mk, Option.isSome_some, isMapA, mapA, keyA, FZ_rfl, FZ_any, retOf, true_and, and_true, if_true, if_false, ↓reduceIte, decide_true, decide_false, Bool.not_true, Bool.not_false, Nat.zero_add, List.map_cons, List.map_nil, Int.toNat_natCast, strRows_len, intRows_len, List.getD_cons_zero, List.getD_cons_succ, List.length_cons, List.length_nil, List.forall_mem_cons, List.not_mem_nil, false_implies, implies_true, Int.ofNat_zero, Int.natCast_add, Int.natCast_one, Int.ofNat_one, Int.natCast_zero, isB, isU, Bool.false_eq_true, beq_self_eq_true, Bool.false_beq, Bool.true_beq, Int.natCast_nonneg, undef, strRows_take, strRows_drop, Int.toNat_zero, List.drop_zero, Bool.and_true, oneOr, List.all_cons, List.all_nil, AVal.one, Value.oneCell', beq_self_eq_true, Bool.true_and, List.take_length, h1])
      have hfz : FZ H AHeap.none x (.sl false 5 ((besideToks false ts).map tokRow)) := fz_toks hrow (besideToks_attrs false ts) (fun _ _ => rfl)
      have hbl := besideToks_len false ts
      have hbs := besideToks_size false ts (fun t ht => (hall t ht).2)
      refine stk_pureW ⟨[(56, .sl false 5 ((besideToks false ts).map tokRow)), (6, .v (.string ⟨#[98]⟩)), (5, .v (.bool true)), (0, .sl false 1 (strRows ts))], AHeap.none⟩ (Weak.list _ (Sub.none _) ?_) (build_ok false (besideToks false ts) (by omega) (fun t ht => by rw [besideToks_attrs false ts t ht]; simp) (by omega)) fun v hv => ?_
      · (try simp +decide (implicitDefEqProofs := false) only [stk_nil, stk_skip, stk_ops, stk_seq, stk_block, stk_scope, stk_exit, stk_ret, stk_code_exit, stk_code_ret, stk_ops_exit, stk_ops_ret, stk_endb, stk_endb_exit, stk_endb_ret, stk_endl, stk_endl_exit, stk_endl_ret, stk_ops_nil, stk_q, stk_niq, niqA, flip, srcOf, stk_alloc, stk_box, stk_bsl, ↓stk_g, ↓stk_c, side, val, bside, bval, uside, uval, cside, cval, bndS, bndV, intA, isInt, lside, lval, fside, fval, faside, faval, iside, ival, sxside, sxval, sizeA, slside, slval, llside, llval, lenside, lenval, lenA, tupA, mmside, mmval, nkside, boolA, isBool, ev_t, ev_c, tget, put_s, put_n, lkside, lkval, menval, stk_mk, Option.isSome_some, isMapA, mapA, keyA, FZ_rfl, FZ_any, retOf, true_and, and_true, if_true, if_false, ↓reduceIte, decide_true, decide_false, Bool.not_true, Bool.not_false, Nat.zero_add, List.map_cons, List.map_nil, Int.toNat_natCast, strRows_len, intRows_len, List.getD_cons_zero, List.getD_cons_succ, List.length_cons, List.length_nil, List.forall_mem_cons, List.not_mem_nil, false_implies, implies_true, Int.ofNat_zero, Int.natCast_add, Int.natCast_one, Int.ofNat_one, Int.natCast_zero, isB, isU, Bool.false_eq_true, beq_self_eq_true, Bool.false_beq, Bool.true_beq, Int.natCast_nonneg, undef, strRows_take, strRows_drop, Int.toNat_zero, List.drop_zero, Bool.and_true, oneOr, List.all_cons, List.all_nil, AVal.one, Value.oneCell', beq_self_eq_true, Bool.true_and, List.take_length])
        exact hfz
      rw [besBuild false ts (by omega) (fun t ht => (hall t ht).1)] at hv
      subst hv
      (try simp +decide (implicitDefEqProofs := false) only [stk_nil, stk_skip, stk_ops, stk_seq, stk_block, stk_scope, stk_exit, stk_ret, stk_code_exit, stk_code_ret, stk_ops_exit, stk_ops_ret, stk_endb, stk_endb_exit, stk_endb_ret, stk_endl, stk_endl_exit, stk_endl_ret, stk_ops_nil, stk_q, stk_niq, niqA, flip, srcOf, stk_alloc, stk_box, stk_bsl, ↓stk_g, ↓stk_c, side, val, bside, bval, uside, uval, cside, cval, bndS, bndV, intA, isInt, lside, lval, fside, fval, faside, faval, iside, ival, sxside, sxval, sizeA, slside, slval, llside, llval, lenside, lenval, lenA, tupA, mmside, mmval, nkside, boolA, isBool, ev_t, ev_c, tget, put_s, put_n, lkside, lkval, menval, stk_mk, Option.isSome_some, isMapA, mapA, keyA, FZ_rfl, FZ_any, retOf, true_and, and_true, if_true, if_false, ↓reduceIte, decide_true, decide_false, Bool.not_true, Bool.not_false, Nat.zero_add, List.map_cons, List.map_nil, Int.toNat_natCast, strRows_len, intRows_len, List.getD_cons_zero, List.getD_cons_succ, List.length_cons, List.length_nil, List.forall_mem_cons, List.not_mem_nil, false_implies, implies_true, Int.ofNat_zero, Int.natCast_add, Int.natCast_one, Int.ofNat_one, Int.natCast_zero, isB, isU, Bool.false_eq_true, beq_self_eq_true, Bool.false_beq, Bool.true_beq, Int.natCast_nonneg, undef, strRows_take, strRows_drop, Int.toNat_zero, List.drop_zero, Bool.and_true, oneOr, List.all_cons, List.all_nil, AVal.one, Value.oneCell', beq_self_eq_true, Bool.true_and, List.take_length, List.length_map, nmOf, ne_eq, not_true_eq_false])
      refine stk_up (α := Unit) ts.length (fun j _ => ⟨[(11, .v (.int .i64 j)), (9, .sl false 4 (ts.map (besRow ⟨#[98]⟩))), (6, .v (.string ⟨#[98]⟩)), (5, .v (.bool true)), (0, .sl false 1 (strRows ts))], AHeap.none⟩) (fun j _ => True) () (Weak.list _ (Sub.refl _) (by (try simp +decide (implicitDefEqProofs := false) only [stk_nil, stk_skip, stk_ops, stk_seq, stk_block, stk_scope, stk_exit, stk_ret, stk_code_exit, stk_code_ret, stk_ops_exit, stk_ops_ret, stk_endb, stk_endb_exit, stk_endb_ret, stk_endl, stk_endl_exit, stk_endl_ret, stk_ops_nil, stk_q, stk_niq, niqA, flip, srcOf, stk_alloc, stk_box, stk_bsl, ↓stk_g, ↓stk_c, side, val, bside, bval, uside, uval, cside, cval, bndS, bndV, intA, isInt, lside, lval, fside, fval, faside, faval, iside, ival, sxside, sxval, sizeA, slside, slval, llside, llval, lenside, lenval, lenA, tupA, mmside, mmval, nkside, boolA, isBool, ev_t, ev_c, tget, put_s, put_n, lkside, lkval, menval, stk_mk, Option.isSome_some, isMapA, mapA, keyA, FZ_rfl, FZ_any, retOf, true_and, and_true, if_true, if_false, ↓reduceIte, decide_true, decide_false, Bool.not_true, Bool.not_false, Nat.zero_add, List.map_cons, List.map_nil, Int.toNat_natCast, strRows_len, intRows_len, List.getD_cons_zero, List.getD_cons_succ, List.length_cons, List.length_nil, List.forall_mem_cons, List.not_mem_nil, false_implies, implies_true, Int.ofNat_zero, Int.natCast_add, Int.natCast_one, Int.ofNat_one, Int.natCast_zero, isB, isU, Bool.false_eq_true, beq_self_eq_true, Bool.false_beq, Bool.true_beq, Int.natCast_nonneg, undef, strRows_take, strRows_drop, Int.toNat_zero, List.drop_zero, Bool.and_true, oneOr, List.all_cons, List.all_nil, AVal.one, Value.oneCell', beq_self_eq_true, Bool.true_and, List.take_length, nmOf, bB, bP]))) trivial ?_
      rintro j _ hj -
      by_cases hl2 : j < ts.length
      · have h1 : (j : Int) < (ts.length : Int) := by omega
        have hg := strRows_get hl2
        have hb := besGet (nm := ⟨#[98]⟩) hl2
        have hw := wrap_in (n := j + 1) (by omega) (by omega)
        (try simp +decide (implicitDefEqProofs := false) only [stk_nil, stk_skip, stk_ops, stk_seq, stk_block, stk_scope, stk_exit, stk_ret, stk_code_exit, stk_code_ret, stk_ops_exit, stk_ops_ret, stk_endb, stk_endb_exit, stk_endb_ret, stk_endl, stk_endl_exit, stk_endl_ret, stk_ops_nil, stk_q, stk_niq, niqA, flip, srcOf, stk_alloc, stk_box, stk_bsl, ↓stk_g, ↓stk_c, side, val, bside, bval, uside, uval, cside, cval, bndS, bndV, intA, isInt, lside, lval, fside, fval, faside, faval, iside, ival, sxside, sxval, sizeA, slside, slval, llside, llval, lenside, lenval, lenA, tupA, mmside, mmval, nkside, boolA, isBool, ev_t, ev_c, tget, put_s, put_n, lkside, lkval, menval, stk_mk, Option.isSome_some, isMapA, mapA, keyA, FZ_rfl, FZ_any, retOf, true_and, and_true, if_true, if_false, ↓reduceIte, decide_true, decide_false, Bool.not_true, Bool.not_false, Nat.zero_add, List.map_cons, List.map_nil, Int.toNat_natCast, strRows_len, intRows_len, List.getD_cons_zero, List.getD_cons_succ, List.length_cons, List.length_nil, List.forall_mem_cons, List.not_mem_nil, false_implies, implies_true, Int.ofNat_zero, Int.natCast_add, Int.natCast_one, Int.ofNat_one, Int.natCast_zero, isB, isU, Bool.false_eq_true, beq_self_eq_true, Bool.false_beq, Bool.true_beq, Int.natCast_nonneg, undef, strRows_take, strRows_drop, Int.toNat_zero, List.drop_zero, Bool.and_true, oneOr, List.all_cons, List.all_nil, AVal.one, Value.oneCell', beq_self_eq_true, Bool.true_and, List.take_length, h1, hg, hb, hw, besRow, List.length_map, List.drop_zero, List.drop_succ_cons, ne_eq, not_true_eq_false])
        refine ⟨by omega, (), Weak.list _ (Sub.refl _) (by (try simp +decide (implicitDefEqProofs := false) only [stk_nil, stk_skip, stk_ops, stk_seq, stk_block, stk_scope, stk_exit, stk_ret, stk_code_exit, stk_code_ret, stk_ops_exit, stk_ops_ret, stk_endb, stk_endb_exit, stk_endb_ret, stk_endl, stk_endl_exit, stk_endl_ret, stk_ops_nil, stk_q, stk_niq, niqA, flip, srcOf, stk_alloc, stk_box, stk_bsl, ↓stk_g, ↓stk_c, side, val, bside, bval, uside, uval, cside, cval, bndS, bndV, intA, isInt, lside, lval, fside, fval, faside, faval, iside, ival, sxside, sxval, sizeA, slside, slval, llside, llval, lenside, lenval, lenA, tupA, mmside, mmval, nkside, boolA, isBool, ev_t, ev_c, tget, put_s, put_n, lkside, lkval, menval, stk_mk, Option.isSome_some, isMapA, mapA, keyA, FZ_rfl, FZ_any, retOf, true_and, and_true, if_true, if_false, ↓reduceIte, decide_true, decide_false, Bool.not_true, Bool.not_false, Nat.zero_add, List.map_cons, List.map_nil, Int.toNat_natCast, strRows_len, intRows_len, List.getD_cons_zero, List.getD_cons_succ, List.length_cons, List.length_nil, List.forall_mem_cons, List.not_mem_nil, false_implies, implies_true, Int.ofNat_zero, Int.natCast_add, Int.natCast_one, Int.ofNat_one, Int.natCast_zero, isB, isU, Bool.false_eq_true, beq_self_eq_true, Bool.false_beq, Bool.true_beq, Int.natCast_nonneg, undef, strRows_take, strRows_drop, Int.toNat_zero, List.drop_zero, Bool.and_true, oneOr, List.all_cons, List.all_nil, AVal.one, Value.oneCell', beq_self_eq_true, Bool.true_and, List.take_length]))⟩
      · have h1 : ¬ (j : Int) < (ts.length : Int) := by omega
        (try simp +decide (implicitDefEqProofs := false) only [stk_nil, stk_skip, stk_ops, stk_seq, stk_block, stk_scope, stk_exit, stk_ret, stk_code_exit, stk_code_ret, stk_ops_exit, stk_ops_ret, stk_endb, stk_endb_exit, stk_endb_ret, stk_endl, stk_endl_exit, stk_endl_ret, stk_ops_nil, stk_q, stk_niq, niqA, flip, srcOf, stk_alloc, stk_box, stk_bsl, ↓stk_g, ↓stk_c, side, val, bside, bval, uside, uval, cside, cval, bndS, bndV, intA, isInt, lside, lval, fside, fval, faside, faval, iside, ival, sxside, sxval, sizeA, slside, slval, llside, llval, lenside, lenval, lenA, tupA, mmside, mmval, nkside, boolA, isBool, ev_t, ev_c, tget, put_s, put_n, lkside, lkval, menval, stk_mk, Option.isSome_some, isMapA, mapA, keyA, FZ_rfl, FZ_any, retOf, true_and, and_true, if_true, if_false, ↓reduceIte, decide_true, decide_false, Bool.not_true, Bool.not_false, Nat.zero_add, List.map_cons, List.map_nil, Int.toNat_natCast, strRows_len, intRows_len, List.getD_cons_zero, List.getD_cons_succ, List.length_cons, List.length_nil, List.forall_mem_cons, List.not_mem_nil, false_implies, implies_true, Int.ofNat_zero, Int.natCast_add, Int.natCast_one, Int.ofNat_one, Int.natCast_zero, isB, isU, Bool.false_eq_true, beq_self_eq_true, Bool.false_beq, Bool.true_beq, Int.natCast_nonneg, undef, strRows_take, strRows_drop, Int.toNat_zero, List.drop_zero, Bool.and_true, oneOr, List.all_cons, List.all_nil, AVal.one, Value.oneCell', beq_self_eq_true, Bool.true_and, List.take_length, h1, List.length_map])
        refine aret_pure (.inr rfl) ?_; simp +decide only [retOf, tget, if_true, if_false, ↓reduceIte]
  · (try simp +decide (implicitDefEqProofs := false) only [stk_nil, stk_skip, stk_ops, stk_seq, stk_block, stk_scope, stk_exit, stk_ret, stk_code_exit, stk_code_ret, stk_ops_exit, stk_ops_ret, stk_endb, stk_endb_exit, stk_endb_ret, stk_endl, stk_endl_exit, stk_endl_ret, stk_ops_nil, stk_q, stk_niq, niqA, flip, srcOf, stk_alloc, stk_box, stk_bsl, ↓stk_g, ↓stk_c, side, val, bside, bval, uside, uval, cside, cval, bndS, bndV, intA, isInt, lside, lval, fside, fval, faside, faval, iside, ival, sxside, sxval, sizeA, slside, slval, llside, llval, lenside, lenval, lenA, tupA, mmside, mmval, nkside, boolA, isBool, ev_t, ev_c, tget, put_s, put_n, lkside, lkval, menval, stk_mk, Option.isSome_some, isMapA, mapA, keyA, FZ_rfl, FZ_any, retOf, true_and, and_true, if_true, if_false, ↓reduceIte, decide_true, decide_false, Bool.not_true, Bool.not_false, Nat.zero_add, List.map_cons, List.map_nil, Int.toNat_natCast, strRows_len, intRows_len, List.getD_cons_zero, List.getD_cons_succ, List.length_cons, List.length_nil, List.forall_mem_cons, List.not_mem_nil, false_implies, implies_true, Int.ofNat_zero, Int.natCast_add, Int.natCast_one, Int.ofNat_one, Int.natCast_zero, isB, isU, Bool.false_eq_true, beq_self_eq_true, Bool.false_beq, Bool.true_beq, Int.natCast_nonneg, undef, strRows_take, strRows_drop, Int.toNat_zero, List.drop_zero, Bool.and_true, oneOr, List.all_cons, List.all_nil, AVal.one, Value.oneCell', beq_self_eq_true, Bool.true_and, List.take_length, g0])
    refine stk_up (α := AVal × AHeap) ts.length (fun i q => ⟨[(8, .v (.int .i64 i)), (7, q.1), (6, .v (.string ⟨#[112]⟩)), (5, .v (.bool true)), (0, .sl false 1 (strRows ts)), (1, .v (.bool true))], q.2⟩)
      (fun i q => RowO q.2 33 5 q.1 ((besideToks true (ts.take i)).map rawRow) ∧ ∀ t ∈ ts.take i, t ≠ ByteArray.empty ∧ t.size ≤ 100) (.v (.slice none 0 0), AHeap.none) (Weak.list _ (Sub.refl _) (by (try simp +decide (implicitDefEqProofs := false) only [stk_nil, stk_skip, stk_ops, stk_seq, stk_block, stk_scope, stk_exit, stk_ret, stk_code_exit, stk_code_ret, stk_ops_exit, stk_ops_ret, stk_endb, stk_endb_exit, stk_endb_ret, stk_endl, stk_endl_exit, stk_endl_ret, stk_ops_nil, stk_q, stk_niq, niqA, flip, srcOf, stk_alloc, stk_box, stk_bsl, ↓stk_g, ↓stk_c, side, val, bside, bval, uside, uval, cside, cval, bndS, bndV, intA, isInt, lside, lval, fside, fval, faside, faval, iside, ival, sxside, sxval, sizeA, slside, slval, llside, llval, lenside, lenval, lenA, tupA, mmside, mmval, nkside, boolA, isBool, ev_t, ev_c, tget, put_s, put_n, lkside, lkval, menval, stk_mk, Option.isSome_some, isMapA, mapA, keyA, FZ_rfl, FZ_any, retOf, true_and, and_true, if_true, if_false, ↓reduceIte, decide_true, decide_false, Bool.not_true, Bool.not_false, Nat.zero_add, List.map_cons, List.map_nil, Int.toNat_natCast, strRows_len, intRows_len, List.getD_cons_zero, List.getD_cons_succ, List.length_cons, List.length_nil, List.forall_mem_cons, List.not_mem_nil, false_implies, implies_true, Int.ofNat_zero, Int.natCast_add, Int.natCast_one, Int.ofNat_one, Int.natCast_zero, isB, isU, Bool.false_eq_true, beq_self_eq_true, Bool.false_beq, Bool.true_beq, Int.natCast_nonneg, undef, strRows_take, strRows_drop, Int.toNat_zero, List.drop_zero, Bool.and_true, oneOr, List.all_cons, List.all_nil, AVal.one, Value.oneCell', beq_self_eq_true, Bool.true_and, List.take_length]))) ⟨RowO.nil, by simp⟩ ?_
    rintro i ⟨x, H⟩ hi ⟨hrow, hall⟩
    dsimp only at hrow
    by_cases hl : i < ts.length
    · have h1 : (i : Int) < (ts.length : Int) := by omega
      have hg := strRows_get hl
      have hw := wrap_in (n := i + 1) (by omega) (by omega)
      have hbl := besideToks_len true (ts.take i)
      have htl : (ts.take i).length = i := by simp; omega
      have htake : besideToks true (ts.take (i + 1)) = besideToks true (ts.take i) ++ besideToks true [ts.getD i ByteArray.empty] := by
        rw [List.take_succ_eq_append_getElem hl, besideToks_append]; simp [hl]
      by_cases he : ts.getD i ByteArray.empty = ByteArray.empty
      · have he' : decide (ts.getD i ByteArray.empty = ByteArray.empty) = true := decide_eq_true he
        (try simp +decide (implicitDefEqProofs := false) only [stk_nil, stk_skip, stk_ops, stk_seq, stk_block, stk_scope, stk_exit, stk_ret, stk_code_exit, stk_code_ret, stk_ops_exit, stk_ops_ret, stk_endb, stk_endb_exit, stk_endb_ret, stk_endl, stk_endl_exit, stk_endl_ret, stk_ops_nil, stk_q, stk_niq, niqA, flip, srcOf, stk_alloc, stk_box, stk_bsl, ↓stk_g, ↓stk_c, side, val, bside, bval, uside, uval, cside, cval, bndS, bndV, intA, isInt, lside, lval, fside, fval, faside, faval, iside, ival, sxside, sxval, sizeA, slside, slval, llside, llval, lenside, lenval, lenA, tupA, mmside, mmval, nkside, boolA, isBool, ev_t, ev_c, tget, put_s, put_n, lkside, lkval, menval, stk_mk, Option.isSome_some, isMapA, mapA, keyA, FZ_rfl, FZ_any, retOf, true_and, and_true, if_true, if_false, ↓reduceIte, decide_true, decide_false, Bool.not_true, Bool.not_false, Nat.zero_add, List.map_cons, List.map_nil, Int.toNat_natCast, strRows_len, intRows_len, List.getD_cons_zero, List.getD_cons_succ, List.length_cons, List.length_nil, List.forall_mem_cons, List.not_mem_nil, false_implies, implies_true, Int.ofNat_zero, Int.natCast_add, Int.natCast_one, Int.ofNat_one, Int.natCast_zero, isB, isU, Bool.false_eq_true, beq_self_eq_true, Bool.false_beq, Bool.true_beq, Int.natCast_nonneg, undef, strRows_take, strRows_drop, Int.toNat_zero, List.drop_zero, Bool.and_true, oneOr, List.all_cons, List.all_nil, AVal.one, Value.oneCell', beq_self_eq_true, Bool.true_and, List.take_length, h1, hg, he'])
        refine aret_pure (.inr rfl) ?_; simp +decide only [retOf, tget, if_true, if_false, ↓reduceIte]
      have he' : decide (ts.getD i ByteArray.empty = ByteArray.empty) = false := decide_eq_false he
      by_cases hz : (100 : Int) < ((ts.getD i ByteArray.empty).size : Int)
      · (try simp +decide (implicitDefEqProofs := false) only [stk_nil, stk_skip, stk_ops, stk_seq, stk_block, stk_scope, stk_exit, stk_ret, stk_code_exit, stk_code_ret, stk_ops_exit, stk_ops_ret, stk_endb, stk_endb_exit, stk_endb_ret, stk_endl, stk_endl_exit, stk_endl_ret, stk_ops_nil, stk_q, stk_niq, niqA, flip, srcOf, stk_alloc, stk_box, stk_bsl, ↓stk_g, ↓stk_c, side, val, bside, bval, uside, uval, cside, cval, bndS, bndV, intA, isInt, lside, lval, fside, fval, faside, faval, iside, ival, sxside, sxval, sizeA, slside, slval, llside, llval, lenside, lenval, lenA, tupA, mmside, mmval, nkside, boolA, isBool, ev_t, ev_c, tget, put_s, put_n, lkside, lkval, menval, stk_mk, Option.isSome_some, isMapA, mapA, keyA, FZ_rfl, FZ_any, retOf, true_and, and_true, if_true, if_false, ↓reduceIte, decide_true, decide_false, Bool.not_true, Bool.not_false, Nat.zero_add, List.map_cons, List.map_nil, Int.toNat_natCast, strRows_len, intRows_len, List.getD_cons_zero, List.getD_cons_succ, List.length_cons, List.length_nil, List.forall_mem_cons, List.not_mem_nil, false_implies, implies_true, Int.ofNat_zero, Int.natCast_add, Int.natCast_one, Int.ofNat_one, Int.natCast_zero, isB, isU, Bool.false_eq_true, beq_self_eq_true, Bool.false_beq, Bool.true_beq, Int.natCast_nonneg, undef, strRows_take, strRows_drop, Int.toNat_zero, List.drop_zero, Bool.and_true, oneOr, List.all_cons, List.all_nil, AVal.one, Value.oneCell', beq_self_eq_true, Bool.true_and, List.take_length, h1, hg, he', hz])
        refine aret_pure (.inr rfl) ?_; simp +decide only [retOf, tget, if_true, if_false, ↓reduceIte]
      (try simp +decide (implicitDefEqProofs := false) only [stk_nil, stk_skip, stk_ops, stk_seq, stk_block, stk_scope, stk_exit, stk_ret, stk_code_exit, stk_code_ret, stk_ops_exit, stk_ops_ret, stk_endb, stk_endb_exit, stk_endb_ret, stk_endl, stk_endl_exit, stk_endl_ret, stk_ops_nil, stk_q, stk_niq, niqA, flip, srcOf, stk_alloc, stk_box, stk_bsl, ↓stk_g, ↓stk_c, side, val, bside, bval, uside, uval, cside, cval, bndS, bndV, intA, isInt, lside, lval, fside, fval, faside, faval, iside, ival, sxside, sxval, sizeA, slside, slval, llside, llval, lenside, lenval, lenA, tupA, mmside, mmval, nkside, boolA, isBool, ev_t, ev_c, tget, put_s, put_n, lkside, lkval, menval, stk_mk, Option.isSome_some, isMapA, mapA, keyA, FZ_rfl, FZ_any, retOf, true_and, and_true, if_true, if_false, ↓reduceIte, decide_true, decide_false, Bool.not_true, Bool.not_false, Nat.zero_add, List.map_cons, List.map_nil, Int.toNat_natCast, strRows_len, intRows_len, List.getD_cons_zero, List.getD_cons_succ, List.length_cons, List.length_nil, List.forall_mem_cons, List.not_mem_nil, false_implies, implies_true, Int.ofNat_zero, Int.natCast_add, Int.natCast_one, Int.ofNat_one, Int.natCast_zero, isB, isU, Bool.false_eq_true, beq_self_eq_true, Bool.false_beq, Bool.true_beq, Int.natCast_nonneg, undef, strRows_take, strRows_drop, Int.toNat_zero, List.drop_zero, Bool.and_true, oneOr, List.all_cons, List.all_nil, AVal.one, Value.oneCell', beq_self_eq_true, Bool.true_and, List.take_length, h1, hg, he', hz, lay, oneOr, List.take_succ_cons, List.take_zero, List.drop_succ_cons, List.drop_zero, List.nil_append, List.cons_append, Option.getD_some, Nat.reduceAdd, Nat.reduceLeDiff, List.append_nil, and_self, List.all_cons, List.all_nil])
      refine stk_appO (rows := (besideToks true (ts.take i)).map rawRow) hrow (by rfl) (by simp only [List.length_map, List.length_cons, List.length_nil]; omega) fun x1 H1 hr1 _ => ?_
      (try simp +decide (implicitDefEqProofs := false) only [stk_nil, stk_skip, stk_ops, stk_seq, stk_block, stk_scope, stk_exit, stk_ret, stk_code_exit, stk_code_ret, stk_ops_exit, stk_ops_ret, stk_endb, stk_endb_exit, stk_endb_ret, stk_endl, stk_endl_exit, stk_endl_ret, stk_ops_nil, stk_q, stk_niq, niqA, flip, srcOf, stk_alloc, stk_box, stk_bsl, ↓stk_g, ↓stk_c, side, val, bside, bval, uside, uval, cside, cval, bndS, bndV, intA, isInt, lside, lval, fside, fval, faside, faval, iside, ival, sxside, sxval, sizeA, slside, slval, llside, llval, lenside, lenval, lenA, tupA, mmside, mmval, nkside, boolA, isBool, ev_t, ev_c, tget, put_s, put_n, lkside, lkval, menval, stk_mk, Option.isSome_some, isMapA, mapA, keyA, FZ_rfl, FZ_any, retOf, true_and, and_true, if_true, if_false, ↓reduceIte, decide_true, decide_false, Bool.not_true, Bool.not_false, Nat.zero_add, List.map_cons, List.map_nil, Int.toNat_natCast, strRows_len, intRows_len, List.getD_cons_zero, List.getD_cons_succ, List.length_cons, List.length_nil, List.forall_mem_cons, List.not_mem_nil, false_implies, implies_true, Int.ofNat_zero, Int.natCast_add, Int.natCast_one, Int.ofNat_one, Int.natCast_zero, isB, isU, Bool.false_eq_true, beq_self_eq_true, Bool.false_beq, Bool.true_beq, Int.natCast_nonneg, undef, strRows_take, strRows_drop, Int.toNat_zero, List.drop_zero, Bool.and_true, oneOr, List.all_cons, List.all_nil, AVal.one, Value.oneCell', beq_self_eq_true, Bool.true_and, List.take_length, hw, lay, oneOr, List.take_succ_cons, List.take_zero, List.drop_succ_cons, List.drop_zero, List.nil_append, List.cons_append, Option.getD_some, Nat.reduceAdd, Nat.reduceLeDiff, List.append_nil, and_self, List.all_cons, List.all_nil])
      have hr2 := hr1
      refine ⟨by omega, (x1, H1), Weak.list _ (Sub.refl _) (by (try simp +decide (implicitDefEqProofs := false) only [stk_nil, stk_skip, stk_ops, stk_seq, stk_block, stk_scope, stk_exit, stk_ret, stk_code_exit, stk_code_ret, stk_ops_exit, stk_ops_ret, stk_endb, stk_endb_exit, stk_endb_ret, stk_endl, stk_endl_exit, stk_endl_ret, stk_ops_nil, stk_q, stk_niq, niqA, flip, srcOf, stk_alloc, stk_box, stk_bsl, ↓stk_g, ↓stk_c, side, val, bside, bval, uside, uval, cside, cval, bndS, bndV, intA, isInt, lside, lval, fside, fval, faside, faval, iside, ival, sxside, sxval, sizeA, slside, slval, llside, llval, lenside, lenval, lenA, tupA, mmside, mmval, nkside, boolA, isBool, ev_t, ev_c, tget, put_s, put_n, lkside, lkval, menval, stk_mk, Option.isSome_some, isMapA, mapA, keyA, FZ_rfl, FZ_any, retOf, true_and, and_true, if_true, if_false, ↓reduceIte, decide_true, decide_false, Bool.not_true, Bool.not_false, Nat.zero_add, List.map_cons, List.map_nil, Int.toNat_natCast, strRows_len, intRows_len, List.getD_cons_zero, List.getD_cons_succ, List.length_cons, List.length_nil, List.forall_mem_cons, List.not_mem_nil, false_implies, implies_true, Int.ofNat_zero, Int.natCast_add, Int.natCast_one, Int.ofNat_one, Int.natCast_zero, isB, isU, Bool.false_eq_true, beq_self_eq_true, Bool.false_beq, Bool.true_beq, Int.natCast_nonneg, undef, strRows_take, strRows_drop, Int.toNat_zero, List.drop_zero, Bool.and_true, oneOr, List.all_cons, List.all_nil, AVal.one, Value.oneCell', beq_self_eq_true, Bool.true_and, List.take_length])), ?_, ?_⟩
      · rw [htake]
        simpa [besideToks, rawRow, tokStart, tokText, tokEnd, bB, bP, List.append_assoc] using hr2
      · intro t ht
        rw [List.take_succ_eq_append_getElem hl] at ht
        rcases List.mem_append.1 ht with h | h
        · exact hall t h
        · simp at h
          rw [h]
          have e1 : ts.getD i ByteArray.empty = ts[i] := by simp [hl]
          rw [← e1]
          exact ⟨he, by omega⟩
    · have h1 : ¬ (i : Int) < (ts.length : Int) := by omega
      have hia : ts.take i = ts := by rw [List.take_of_length_le (by omega)]
      rw [hia] at hrow hall
      (try simp +decide (implicitDefEqProofs := false) only [stk_nil, stk_skip, stk_ops, stk_seq, stk_block, stk_scope, stk_exit, stk_ret, stk_code_exit, stk_code_ret, stk_ops_exit, stk_ops_ret, stk_endb, stk_endb_exit, stk_endb_ret, stk_endl, stk_endl_exit, stk_endl_ret, stk_ops_nil, stk_q, stk_niq, niqA, flip, srcOf, stk_alloc, stk_box, stk_bsl, ↓stk_g, ↓stk_c, side, val, bside, bval, uside, uval, cside, cval, bndS, bndV, intA, isInt, lside, lval, fside, fval, faside, faval, iside, ival, sxside, sxval, sizeA, slside, slval, llside, llval, lenside, lenval, lenA, tupA, mmside, mmval, nkside, boolA, isBool, ev_t, ev_c, tget, put_s, put_n, lkside, lkval, menval, stk_mk, Option.isSome_some, isMapA, mapA, keyA, FZ_rfl, FZ_any, retOf, true_and, and_true, if_true, if_false, ↓reduceIte, decide_true, decide_false, Bool.not_true, Bool.not_false, Nat.zero_add, List.map_cons, List.map_nil, Int.toNat_natCast, strRows_len, intRows_len, List.getD_cons_zero, List.getD_cons_succ, List.length_cons, List.length_nil, List.forall_mem_cons, List.not_mem_nil, false_implies, implies_true, Int.ofNat_zero, Int.natCast_add, Int.natCast_one, Int.ofNat_one, Int.natCast_zero, isB, isU, Bool.false_eq_true, beq_self_eq_true, Bool.false_beq, Bool.true_beq, Int.natCast_nonneg, undef, strRows_take, strRows_drop, Int.toNat_zero, List.drop_zero, Bool.and_true, oneOr, List.all_cons, List.all_nil, AVal.one, Value.oneCell', beq_self_eq_true, Bool.true_and, List.take_length, h1])
      have hfz : FZ H AHeap.none x (.sl false 5 ((besideToks true ts).map tokRow)) := fz_toks hrow (besideToks_attrs true ts) (fun _ _ => rfl)
      have hbl := besideToks_len true ts
      have hbs := besideToks_size true ts (fun t ht => (hall t ht).2)
      refine stk_pureW ⟨[(56, .sl false 5 ((besideToks true ts).map tokRow)), (6, .v (.string ⟨#[112]⟩)), (5, .v (.bool true)), (0, .sl false 1 (strRows ts))], AHeap.none⟩ (Weak.list _ (Sub.none _) ?_) (build_ok false (besideToks true ts) (by omega) (fun t ht => by rw [besideToks_attrs true ts t ht]; simp) (by omega)) fun v hv => ?_
      · (try simp +decide (implicitDefEqProofs := false) only [stk_nil, stk_skip, stk_ops, stk_seq, stk_block, stk_scope, stk_exit, stk_ret, stk_code_exit, stk_code_ret, stk_ops_exit, stk_ops_ret, stk_endb, stk_endb_exit, stk_endb_ret, stk_endl, stk_endl_exit, stk_endl_ret, stk_ops_nil, stk_q, stk_niq, niqA, flip, srcOf, stk_alloc, stk_box, stk_bsl, ↓stk_g, ↓stk_c, side, val, bside, bval, uside, uval, cside, cval, bndS, bndV, intA, isInt, lside, lval, fside, fval, faside, faval, iside, ival, sxside, sxval, sizeA, slside, slval, llside, llval, lenside, lenval, lenA, tupA, mmside, mmval, nkside, boolA, isBool, ev_t, ev_c, tget, put_s, put_n, lkside, lkval, menval, stk_mk, Option.isSome_some, isMapA, mapA, keyA, FZ_rfl, FZ_any, retOf, true_and, and_true, if_true, if_false, ↓reduceIte, decide_true, decide_false, Bool.not_true, Bool.not_false, Nat.zero_add, List.map_cons, List.map_nil, Int.toNat_natCast, strRows_len, intRows_len, List.getD_cons_zero, List.getD_cons_succ, List.length_cons, List.length_nil, List.forall_mem_cons, List.not_mem_nil, false_implies, implies_true, Int.ofNat_zero, Int.natCast_add, Int.natCast_one, Int.ofNat_one, Int.natCast_zero, isB, isU, Bool.false_eq_true, beq_self_eq_true, Bool.false_beq, Bool.true_beq, Int.natCast_nonneg, undef, strRows_take, strRows_drop, Int.toNat_zero, List.drop_zero, Bool.and_true, oneOr, List.all_cons, List.all_nil, AVal.one, Value.oneCell', beq_self_eq_true, Bool.true_and, List.take_length])
        exact hfz
      rw [besBuild true ts (by omega) (fun t ht => (hall t ht).1)] at hv
      subst hv
      (try simp +decide (implicitDefEqProofs := false) only [stk_nil, stk_skip, stk_ops, stk_seq, stk_block, stk_scope, stk_exit, stk_ret, stk_code_exit, stk_code_ret, stk_ops_exit, stk_ops_ret, stk_endb, stk_endb_exit, stk_endb_ret, stk_endl, stk_endl_exit, stk_endl_ret, stk_ops_nil, stk_q, stk_niq, niqA, flip, srcOf, stk_alloc, stk_box, stk_bsl, ↓stk_g, ↓stk_c, side, val, bside, bval, uside, uval, cside, cval, bndS, bndV, intA, isInt, lside, lval, fside, fval, faside, faval, iside, ival, sxside, sxval, sizeA, slside, slval, llside, llval, lenside, lenval, lenA, tupA, mmside, mmval, nkside, boolA, isBool, ev_t, ev_c, tget, put_s, put_n, lkside, lkval, menval, stk_mk, Option.isSome_some, isMapA, mapA, keyA, FZ_rfl, FZ_any, retOf, true_and, and_true, if_true, if_false, ↓reduceIte, decide_true, decide_false, Bool.not_true, Bool.not_false, Nat.zero_add, List.map_cons, List.map_nil, Int.toNat_natCast, strRows_len, intRows_len, List.getD_cons_zero, List.getD_cons_succ, List.length_cons, List.length_nil, List.forall_mem_cons, List.not_mem_nil, false_implies, implies_true, Int.ofNat_zero, Int.natCast_add, Int.natCast_one, Int.ofNat_one, Int.natCast_zero, isB, isU, Bool.false_eq_true, beq_self_eq_true, Bool.false_beq, Bool.true_beq, Int.natCast_nonneg, undef, strRows_take, strRows_drop, Int.toNat_zero, List.drop_zero, Bool.and_true, oneOr, List.all_cons, List.all_nil, AVal.one, Value.oneCell', beq_self_eq_true, Bool.true_and, List.take_length, List.length_map, nmOf, ne_eq, not_true_eq_false])
      refine stk_up (α := Unit) ts.length (fun j _ => ⟨[(11, .v (.int .i64 j)), (9, .sl false 4 (ts.map (besRow ⟨#[112]⟩))), (6, .v (.string ⟨#[112]⟩)), (5, .v (.bool true)), (0, .sl false 1 (strRows ts))], AHeap.none⟩) (fun j _ => True) () (Weak.list _ (Sub.refl _) (by (try simp +decide (implicitDefEqProofs := false) only [stk_nil, stk_skip, stk_ops, stk_seq, stk_block, stk_scope, stk_exit, stk_ret, stk_code_exit, stk_code_ret, stk_ops_exit, stk_ops_ret, stk_endb, stk_endb_exit, stk_endb_ret, stk_endl, stk_endl_exit, stk_endl_ret, stk_ops_nil, stk_q, stk_niq, niqA, flip, srcOf, stk_alloc, stk_box, stk_bsl, ↓stk_g, ↓stk_c, side, val, bside, bval, uside, uval, cside, cval, bndS, bndV, intA, isInt, lside, lval, fside, fval, faside, faval, iside, ival, sxside, sxval, sizeA, slside, slval, llside, llval, lenside, lenval, lenA, tupA, mmside, mmval, nkside, boolA, isBool, ev_t, ev_c, tget, put_s, put_n, lkside, lkval, menval, stk_mk, Option.isSome_some, isMapA, mapA, keyA, FZ_rfl, FZ_any, retOf, true_and, and_true, if_true, if_false, ↓reduceIte, decide_true, decide_false, Bool.not_true, Bool.not_false, Nat.zero_add, List.map_cons, List.map_nil, Int.toNat_natCast, strRows_len, intRows_len, List.getD_cons_zero, List.getD_cons_succ, List.length_cons, List.length_nil, List.forall_mem_cons, List.not_mem_nil, false_implies, implies_true, Int.ofNat_zero, Int.natCast_add, Int.natCast_one, Int.ofNat_one, Int.natCast_zero, isB, isU, Bool.false_eq_true, beq_self_eq_true, Bool.false_beq, Bool.true_beq, Int.natCast_nonneg, undef, strRows_take, strRows_drop, Int.toNat_zero, List.drop_zero, Bool.and_true, oneOr, List.all_cons, List.all_nil, AVal.one, Value.oneCell', beq_self_eq_true, Bool.true_and, List.take_length, nmOf, bB, bP]))) trivial ?_
      rintro j _ hj -
      by_cases hl2 : j < ts.length
      · have h1 : (j : Int) < (ts.length : Int) := by omega
        have hg := strRows_get hl2
        have hb := besGet (nm := ⟨#[112]⟩) hl2
        have hw := wrap_in (n := j + 1) (by omega) (by omega)
        (try simp +decide (implicitDefEqProofs := false) only [stk_nil, stk_skip, stk_ops, stk_seq, stk_block, stk_scope, stk_exit, stk_ret, stk_code_exit, stk_code_ret, stk_ops_exit, stk_ops_ret, stk_endb, stk_endb_exit, stk_endb_ret, stk_endl, stk_endl_exit, stk_endl_ret, stk_ops_nil, stk_q, stk_niq, niqA, flip, srcOf, stk_alloc, stk_box, stk_bsl, ↓stk_g, ↓stk_c, side, val, bside, bval, uside, uval, cside, cval, bndS, bndV, intA, isInt, lside, lval, fside, fval, faside, faval, iside, ival, sxside, sxval, sizeA, slside, slval, llside, llval, lenside, lenval, lenA, tupA, mmside, mmval, nkside, boolA, isBool, ev_t, ev_c, tget, put_s, put_n, lkside, lkval, menval, stk_mk, Option.isSome_some, isMapA, mapA, keyA, FZ_rfl, FZ_any, retOf, true_and, and_true, if_true, if_false, ↓reduceIte, decide_true, decide_false, Bool.not_true, Bool.not_false, Nat.zero_add, List.map_cons, List.map_nil, Int.toNat_natCast, strRows_len, intRows_len, List.getD_cons_zero, List.getD_cons_succ, List.length_cons, List.length_nil, List.forall_mem_cons, List.not_mem_nil, false_implies, implies_true, Int.ofNat_zero, Int.natCast_add, Int.natCast_one, Int.ofNat_one, Int.natCast_zero, isB, isU, Bool.false_eq_true, beq_self_eq_true, Bool.false_beq, Bool.true_beq, Int.natCast_nonneg, undef, strRows_take, strRows_drop, Int.toNat_zero, List.drop_zero, Bool.and_true, oneOr, List.all_cons, List.all_nil, AVal.one, Value.oneCell', beq_self_eq_true, Bool.true_and, List.take_length, h1, hg, hb, hw, besRow, List.length_map, List.drop_zero, List.drop_succ_cons, ne_eq, not_true_eq_false])
        refine ⟨by omega, (), Weak.list _ (Sub.refl _) (by (try simp +decide (implicitDefEqProofs := false) only [stk_nil, stk_skip, stk_ops, stk_seq, stk_block, stk_scope, stk_exit, stk_ret, stk_code_exit, stk_code_ret, stk_ops_exit, stk_ops_ret, stk_endb, stk_endb_exit, stk_endb_ret, stk_endl, stk_endl_exit, stk_endl_ret, stk_ops_nil, stk_q, stk_niq, niqA, flip, srcOf, stk_alloc, stk_box, stk_bsl, ↓stk_g, ↓stk_c, side, val, bside, bval, uside, uval, cside, cval, bndS, bndV, intA, isInt, lside, lval, fside, fval, faside, faval, iside, ival, sxside, sxval, sizeA, slside, slval, llside, llval, lenside, lenval, lenA, tupA, mmside, mmval, nkside, boolA, isBool, ev_t, ev_c, tget, put_s, put_n, lkside, lkval, menval, stk_mk, Option.isSome_some, isMapA, mapA, keyA, FZ_rfl, FZ_any, retOf, true_and, and_true, if_true, if_false, ↓reduceIte, decide_true, decide_false, Bool.not_true, Bool.not_false, Nat.zero_add, List.map_cons, List.map_nil, Int.toNat_natCast, strRows_len, intRows_len, List.getD_cons_zero, List.getD_cons_succ, List.length_cons, List.length_nil, List.forall_mem_cons, List.not_mem_nil, false_implies, implies_true, Int.ofNat_zero, Int.natCast_add, Int.natCast_one, Int.ofNat_one, Int.natCast_zero, isB, isU, Bool.false_eq_true, beq_self_eq_true, Bool.false_beq, Bool.true_beq, Int.natCast_nonneg, undef, strRows_take, strRows_drop, Int.toNat_zero, List.drop_zero, Bool.and_true, oneOr, List.all_cons, List.all_nil, AVal.one, Value.oneCell', beq_self_eq_true, Bool.true_and, List.take_length]))⟩
      · have h1 : ¬ (j : Int) < (ts.length : Int) := by omega
        (try simp +decide (implicitDefEqProofs := false) only [stk_nil, stk_skip, stk_ops, stk_seq, stk_block, stk_scope, stk_exit, stk_ret, stk_code_exit, stk_code_ret, stk_ops_exit, stk_ops_ret, stk_endb, stk_endb_exit, stk_endb_ret, stk_endl, stk_endl_exit, stk_endl_ret, stk_ops_nil, stk_q, stk_niq, niqA, flip, srcOf, stk_alloc, stk_box, stk_bsl, ↓stk_g, ↓stk_c, side, val, bside, bval, uside, uval, cside, cval, bndS, bndV, intA, isInt, lside, lval, fside, fval, faside, faval, iside, ival, sxside, sxval, sizeA, slside, slval, llside, llval, lenside, lenval, lenA, tupA, mmside, mmval, nkside, boolA, isBool, ev_t, ev_c, tget, put_s, put_n, lkside, lkval, menval, stk_mk, Option.isSome_some, isMapA, mapA, keyA, FZ_rfl, FZ_any, retOf, true_and, and_true, if_true, if_false, ↓reduceIte, decide_true, decide_false, Bool.not_true, Bool.not_false, Nat.zero_add, List.map_cons, List.map_nil, Int.toNat_natCast, strRows_len, intRows_len, List.getD_cons_zero, List.getD_cons_succ, List.length_cons, List.length_nil, List.forall_mem_cons, List.not_mem_nil, false_implies, implies_true, Int.ofNat_zero, Int.natCast_add, Int.natCast_one, Int.ofNat_one, Int.natCast_zero, isB, isU, Bool.false_eq_true, beq_self_eq_true, Bool.false_beq, Bool.true_beq, Int.natCast_nonneg, undef, strRows_take, strRows_drop, Int.toNat_zero, List.drop_zero, Bool.and_true, oneOr, List.all_cons, List.all_nil, AVal.one, Value.oneCell', beq_self_eq_true, Bool.true_and, List.take_length, h1, List.length_map])
        refine aret_pure (.inr rfl) ?_; simp +decide only [retOf, tget, if_true, if_false, ↓reduceIte]
end Go.Proofs.Ytidicfdcjoggpaa.M
