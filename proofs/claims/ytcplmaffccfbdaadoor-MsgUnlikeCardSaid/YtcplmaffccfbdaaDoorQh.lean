/-
  The laws MsgBack, MsgUnlike, MsgAcks, MsgPosts, walked.
-/
import Derived.Test.YtcplmaffccfbdaaDoorQf
namespace Go.Proofs.YtcplmaffccfbdaaDoor.M
open Go.RowKit
attribute [local go_sem] stk_nil stk_skip stk_ops stk_seq stk_block stk_scope stk_exit stk_ret stk_code_exit stk_code_ret stk_ops_exit stk_ops_ret stk_endb stk_endb_exit stk_endb_ret stk_endl stk_endl_exit stk_endl_ret stk_ops_nil stk_q stk_niq niqA flip srcOf stk_bsl side val bside bval uside uval cside cval bndS bndV intA isInt lside lval fside fval faside faval iside ival sxside sxval sizeA slside slval llside llval lenside lenval lenA tupA mmside mmval nkside boolA isBool ev_t ev_c tget put_s put_n lkside lkval menval stk_mk Option.isSome_some isMapA mapA keyA FZ_rfl FZ_any retOf true_and and_true if_true if_false decide_true decide_false Bool.not_true Bool.not_false Nat.zero_add List.map_cons List.map_nil Int.toNat_natCast strRows_len intRows_len List.getD_cons_zero List.getD_cons_succ List.length_cons List.length_nil List.forall_mem_cons List.not_mem_nil false_implies implies_true Int.ofNat_zero Int.natCast_add Int.natCast_one Int.ofNat_one Int.natCast_zero isB isU Bool.false_eq_true beq_self_eq_true Bool.false_beq Bool.true_beq Int.natCast_nonneg undef strRows_take strRows_drop Int.toNat_zero List.drop_zero Bool.and_true oneOr List.all_cons List.all_nil AVal.one Value.oneCell' Bool.true_and List.take_length stk_st' stside stH hp_self hp_hp isnside isnval
set_option linter.unusedVariables false
set_option linter.unusedSimpArgs false
theorem RightF.fits {m : Msg} (R : RightF m) : MFits m := by
  refine ⟨by have := R.ids.1; omega, by have := R.posts.1; omega, ?_⟩
  by_cases h : m.kind = 3
  · exact (right_neat (R.pol h)).fits
  · rw [R.pol0 h]; exact (pol0_small 0 0).fits (by omega) (by omega)
theorem msgT_inj {a b : Msg} (ha : rightM a = true) (hb : rightM b = true) : decide (msgT a = msgT b) = decide (a = b) := decide_eq_decide.2 ⟨fun h => by
  have h1 := decode_back ha
  rw [h, decode_back hb] at h1
  exact (congrArg Prod.fst h1).symm, fun h => by rw [h]⟩
def c_law_Back : AFn := ⟨2, 81, [4],
  .seq (.ops [⟨(some 2), none, .e (.box 27 (.tmp 0))⟩,
      ⟨(some 4), none, .q (.mv (.const (.bool false)))⟩])
  (.seq (.ops [⟨(some 16), none, .e (.call 8 [])⟩,
      ⟨(some 5), none, .q (.mv (.tmp 16))⟩])
  (.seq (.ops [⟨(some 17), none, .q (.ld true 15 (.tmp 2))⟩,
      ⟨(some 18), none, .e (.call 9 [(.tmp 17)])⟩,
      ⟨(some 6), none, .q (.mv (.tmp 18))⟩])
  (.seq (.seq (.ops [⟨(some 19), none, .q (.mv (.tmp 6))⟩,
      ⟨(some 20), none, .q (.un .not (.tmp 19))⟩,
      ⟨(some 21), none, .q (.mv (.tmp 20))⟩,
      ⟨(some 22), (some (21, false)), .q (.mv (.tmp 1))⟩,
      ⟨(some 23), (some (21, false)), .q (.len true (.tmp 22))⟩,
      ⟨(some 24), (some (21, false)), .q (.bin .gtr .num (.tmp 23) (.const (.int .i64 8000)))⟩,
      ⟨(some 25), none, .q (.pick (.tmp 21) (.const (.bool true)) (.tmp 24))⟩])
  (.cond (.tmp 25)
    (.seq (.ops [⟨(some 26), none, .q (.mv (.tmp 5))⟩,
        ⟨(some 4), none, .q (.mv (.tmp 26))⟩])
    (.ret))
    (.skip)))
  (.seq (.ops [⟨(some 28), none, .q (.ld true 15 (.tmp 2))⟩,
      ⟨(some 29), none, .e (.call 10 [(.tmp 28)])⟩,
      ⟨(some 27), none, .q (.mv (.tmp 29))⟩,
      ⟨(some 30), none, .q (.ext (.tmp 27) 0)⟩,
      ⟨(some 31), none, .q (.ext (.tmp 27) 1)⟩,
      ⟨(some 7), none, .q (.mv (.tmp 30))⟩,
      ⟨(some 8), none, .q (.mv (.tmp 31))⟩])
  (.seq (.seq (.ops [⟨(some 32), none, .q (.mv (.tmp 8))⟩,
      ⟨(some 33), none, .q (.bin .eql .num (.tmp 32) (.const (.int .i64 0)))⟩])
  (.cond (.tmp 33)
    (.seq (.ops [⟨(some 35), none, .q (.mv (.tmp 7))⟩,
        ⟨(some 36), none, .e (.call 11 [(.tmp 35)])⟩,
        ⟨(some 34), none, .q (.mv (.tmp 36))⟩,
        ⟨(some 37), none, .q (.ext (.tmp 34) 0)⟩,
        ⟨(some 38), none, .q (.ext (.tmp 34) 1)⟩,
        ⟨(some 9), none, .e (.alloc 27 [(.int .i64 0), (.int .i64 0), (.int .i64 0), (.int .i64 0), (.slice none 0 0), (.slice none 0 0), (.int .i64 0), (.slice none 0 0), (.slice none 0 0), (.slice none 0 0), (.slice none 0 0), (.slice none 0 0), (.int .i64 0), (.int .i64 0), (.int .i64 0)])⟩,
        ⟨none, none, .e (.st 15 (.tmp 9) (.tmp 37))⟩,
        ⟨(some 10), none, .q (.mv (.tmp 38))⟩])
    (.seq (.ops [⟨(some 39), none, .q (.ld true 15 (.tmp 2))⟩,
        ⟨(some 40), none, .q (.ld true 15 (.tmp 9))⟩,
        ⟨(some 41), none, .e (.call 12 [(.tmp 39), (.tmp 40)])⟩,
        ⟨(some 11), none, .q (.mv (.tmp 41))⟩])
    (.seq (.ops [⟨(some 42), none, .q (.mv (.tmp 10))⟩,
        ⟨(some 43), none, .q (.bin .neq .num (.tmp 42) (.const (.int .i64 0)))⟩,
        ⟨(some 44), none, .q (.mv (.tmp 43))⟩,
        ⟨(some 45), (some (44, false)), .q (.mv (.tmp 11))⟩,
        ⟨(some 46), (some (44, false)), .q (.un .not (.tmp 45))⟩,
        ⟨(some 47), none, .q (.pick (.tmp 44) (.const (.bool true)) (.tmp 46))⟩,
        ⟨(some 48), none, .q (.mv (.tmp 47))⟩,
        ⟨(some 49), (some (48, false)), .q (.ld true 15 (.tmp 2))⟩,
        ⟨(some 50), (some (48, false)), .e (.call 13 [(.tmp 49)])⟩,
        ⟨(some 51), (some (48, false)), .q (.un .not (.tmp 50))⟩,
        ⟨(some 52), none, .q (.pick (.tmp 48) (.const (.bool true)) (.tmp 51))⟩])
    (.cond (.tmp 52)
      (.seq (.ops [⟨(some 4), none, .q (.mv (.const (.bool false)))⟩])
      (.ret))
      (.skip)))))
    (.skip)))
  (.seq (.ops [⟨(some 54), none, .q (.mv (.tmp 1))⟩,
      ⟨(some 55), none, .e (.call 11 [(.tmp 54)])⟩,
      ⟨(some 53), none, .q (.mv (.tmp 55))⟩,
      ⟨(some 56), none, .q (.ext (.tmp 53) 0)⟩,
      ⟨(some 57), none, .q (.ext (.tmp 53) 1)⟩,
      ⟨(some 12), none, .e (.alloc 27 [(.int .i64 0), (.int .i64 0), (.int .i64 0), (.int .i64 0), (.slice none 0 0), (.slice none 0 0), (.int .i64 0), (.slice none 0 0), (.slice none 0 0), (.slice none 0 0), (.slice none 0 0), (.slice none 0 0), (.int .i64 0), (.int .i64 0), (.int .i64 0)])⟩,
      ⟨none, none, .e (.st 15 (.tmp 12) (.tmp 56))⟩,
      ⟨(some 13), none, .q (.mv (.tmp 57))⟩])
  (.seq (.seq (.ops [⟨(some 58), none, .q (.mv (.tmp 13))⟩,
      ⟨(some 59), none, .q (.bin .neq .num (.tmp 58) (.const (.int .i64 0)))⟩])
  (.cond (.tmp 59)
    (.seq (.ops [⟨(some 60), none, .q (.mv (.tmp 5))⟩,
        ⟨(some 61), none, .q (.mv (.tmp 60))⟩,
        ⟨(some 62), (some (61, true)), .q (.fad 0 1 (.tmp 12))⟩,
        ⟨(some 63), (some (61, true)), .q (.ld false 1 (.tmp 62))⟩,
        ⟨(some 64), (some (61, true)), .q (.bin .eql .num (.tmp 63) (.const (.int .i64 0)))⟩,
        ⟨(some 65), none, .q (.pick (.tmp 61) (.tmp 64) (.const (.bool false)))⟩,
        ⟨(some 4), none, .q (.mv (.tmp 65))⟩])
    (.ret))
    (.skip)))
  (.seq (.ops [⟨(some 67), none, .q (.ld true 15 (.tmp 12))⟩,
      ⟨(some 68), none, .e (.call 10 [(.tmp 67)])⟩,
      ⟨(some 66), none, .q (.mv (.tmp 68))⟩,
      ⟨(some 69), none, .q (.ext (.tmp 66) 0)⟩,
      ⟨(some 70), none, .q (.ext (.tmp 66) 1)⟩,
      ⟨(some 14), none, .q (.mv (.tmp 69))⟩,
      ⟨(some 15), none, .q (.mv (.tmp 70))⟩])
  (.seq (.ops [⟨(some 71), none, .q (.mv (.tmp 5))⟩,
      ⟨(some 72), none, .q (.mv (.tmp 71))⟩,
      ⟨(some 73), (some (72, true)), .q (.mv (.tmp 15))⟩,
      ⟨(some 74), (some (72, true)), .q (.bin .eql .num (.tmp 73) (.const (.int .i64 0)))⟩,
      ⟨(some 75), none, .q (.pick (.tmp 72) (.tmp 74) (.const (.bool false)))⟩,
      ⟨(some 76), none, .q (.mv (.tmp 75))⟩,
      ⟨(some 77), (some (76, true)), .q (.mv (.tmp 14))⟩,
      ⟨(some 78), (some (76, true)), .q (.mv (.tmp 1))⟩,
      ⟨(some 79), (some (76, true)), .q (.bin .eql .num (.tmp 77) (.tmp 78))⟩,
      ⟨(some 80), none, .q (.pick (.tmp 76) (.tmp 79) (.const (.bool false)))⟩,
      ⟨(some 4), none, .q (.mv (.tmp 80))⟩])
  (.ret)))))))))), []⟩
theorem k_law_Back : compF Tryd.prog 3 = some c_law_Back := by kernel_rfl
set_option maxHeartbeats 16000000 in
theorem mback_law {W : World} (L : Laid W) (E : Errs W) (m : Msg) (s : Str) (hlen : MLens m) : ACalls Tryd.prog W 3 [.agg (msgCells m), .v (.string s)] AHeap.none fun v _ => v = .v (.bool true) := by
  refine fn_run follows k_law_Back rfl ?_
  simp only [c_law_Back, aretC_nil, List.zipIdx_cons, List.zipIdx_nil, List.map_cons, List.map_nil, Nat.zero_add]
  (try simp +decide (implicitDefEqProofs := false) only [go_sem, ↓stk_g, ↓stk_c, ↓reduceIte])
  rw [stk_box]
  refine ⟨by rfl, fun b1 h1 => ?_⟩
  (try simp +decide (implicitDefEqProofs := false) only [go_sem, ↓stk_g, ↓stk_c, ↓reduceIte])
  refine stk_pureW ⟨[(2, .pl (msgCells m)), (1, .v (.string s))], AHeap.none⟩ (Weak.list _ (Sub.none _) ?_) (mawake_ok L E) fun v hv => ?_
  · (try simp +decide (implicitDefEqProofs := false) only [go_sem, ↓stk_g, ↓stk_c, ↓reduceIte])
    exact FZ.cellsR (hp_self _ _ _) rfl
  subst hv
  (try simp +decide (implicitDefEqProofs := false) only [go_sem, ↓stk_g, ↓stk_c, ↓reduceIte, msgCells, lay, oneOr, List.take_succ_cons, List.take_zero, List.drop_succ_cons, List.drop_zero, List.nil_append, List.cons_append, Option.getD_some, Nat.reduceAdd, Nat.reduceLeDiff, List.append_nil, and_self, List.all_cons, List.all_nil])
  refine stk_pure (mlight_ok m hlen) fun v hv => ?_
  obtain ⟨b, rfl, hF⟩ := hv
  cases b
  · (try simp +decide (implicitDefEqProofs := false) only [go_sem, ↓stk_g, ↓stk_c, ↓reduceIte])
    refine aret_pure (.inr rfl) ?_; simp +decide only [retOf, tget, if_true, if_false, ↓reduceIte, List.map_cons, List.map_nil]
  have F := hF rfl
  clear hF
  by_cases hs : (8000 : Int) < (s.size : Int)
  · (try simp +decide (implicitDefEqProofs := false) only [go_sem, ↓stk_g, ↓stk_c, ↓reduceIte, hs])
    refine aret_pure (.inr rfl) ?_; simp +decide only [retOf, tget, if_true, if_false, ↓reduceIte, List.map_cons, List.map_nil]
  (try simp +decide (implicitDefEqProofs := false) only [go_sem, ↓stk_g, ↓stk_c, ↓reduceIte, hs, msgCells, lay, oneOr, List.take_succ_cons, List.take_zero, List.drop_succ_cons, List.drop_zero, List.nil_append, List.cons_append, Option.getD_some, Nat.reduceAdd, Nat.reduceLeDiff, List.append_nil, and_self, List.all_cons, List.all_nil])
  refine stk_pure (encode_ok L m F) fun v hv => ?_
  unfold encR at hv
  cases hr : rightM m
  · rw [hr, if_neg (by simp)] at hv
    subst hv
    (try simp +decide (implicitDefEqProofs := false) only [go_sem, ↓stk_g, ↓stk_c, ↓reduceIte])
    refine stk_pure (decode_ok L E s (by omega) (hsm_small (by omega))) fun v hv => ?_
    obtain ⟨q, q3, q1, q2⟩ | ⟨e, q3, he⟩ := decode_cases s
    · rw [q3] at hv
      unfold decodeA at hv
      subst hv
      (try simp +decide (implicitDefEqProofs := false) only [go_sem, ↓stk_g, ↓stk_c, ↓reduceIte, msgCells, lay, oneOr, List.take_succ_cons, List.take_zero, List.drop_succ_cons, List.drop_zero, List.nil_append, List.cons_append, Option.getD_some, Nat.reduceAdd, Nat.reduceLeDiff, List.append_nil, and_self, List.all_cons, List.all_nil])
      rw [stk_alloc]
      intro b3 h3
      (try simp +decide (implicitDefEqProofs := false) only [go_sem, ↓stk_g, ↓stk_c, ↓reduceIte, hp_self, msgCells, lay, oneOr, List.take_succ_cons, List.take_zero, List.drop_succ_cons, List.drop_zero, List.nil_append, List.cons_append, Option.getD_some, Nat.reduceAdd, Nat.reduceLeDiff, List.append_nil, and_self, List.all_cons, List.all_nil])
      refine stk_pure (encode_ok L q (rightM_facts q1).fits) fun v hv => ?_
      unfold encR at hv
      rw [q1, if_pos rfl, q2] at hv
      subst hv
      have hss : decide (s = s) = true := decide_eq_true rfl
      (try simp +decide (implicitDefEqProofs := false) only [go_sem, ↓stk_g, ↓stk_c, ↓reduceIte, hp_self, hss, lay, oneOr, List.take_succ_cons, List.take_zero, List.drop_succ_cons, List.drop_zero, List.nil_append, List.cons_append, Option.getD_some, Nat.reduceAdd, Nat.reduceLeDiff, List.append_nil, and_self, List.all_cons, List.all_nil])
      refine aret_pure (.inr rfl) ?_; simp +decide only [retOf, tget, if_true, if_false, ↓reduceIte, List.map_cons, List.map_nil]
    · rw [q3] at hv
      unfold decodeA at hv
      subst hv
      have d1 : decide (e ≠ 0) = true := decide_eq_true (by omega)
      (try simp +decide (implicitDefEqProofs := false) only [go_sem, ↓stk_g, ↓stk_c, ↓reduceIte, msgCells, msg0, pol0, strRows, postRows, d1, lay, oneOr, List.take_succ_cons, List.take_zero, List.drop_succ_cons, List.drop_zero, List.nil_append, List.cons_append, Option.getD_some, Nat.reduceAdd, Nat.reduceLeDiff, List.append_nil, and_self, List.all_cons, List.all_nil])
      rw [stk_alloc]
      intro b3 h3
      (try simp +decide (implicitDefEqProofs := false) only [go_sem, ↓stk_g, ↓stk_c, ↓reduceIte, hp_self, msgCells, msg0, d1, lay, oneOr, List.take_succ_cons, List.take_zero, List.drop_succ_cons, List.drop_zero, List.nil_append, List.cons_append, Option.getD_some, Nat.reduceAdd, Nat.reduceLeDiff, List.append_nil, and_self, List.all_cons, List.all_nil])
      refine aret_pure (.inr rfl) ?_; simp +decide only [retOf, tget, if_true, if_false, ↓reduceIte, List.map_cons, List.map_nil]
  · rw [hr, if_pos rfl] at hv
    subst hv
    (try simp +decide (implicitDefEqProofs := false) only [go_sem, ↓stk_g, ↓stk_c, ↓reduceIte])
    refine stk_pure (decode_ok L E (msgT m) (by have := msgT_len hr; omega) (hsm_text hr)) fun v hv => ?_
    rw [decode_back hr] at hv
    unfold decodeA at hv
    subst hv
    (try simp +decide (implicitDefEqProofs := false) only [go_sem, ↓stk_g, ↓stk_c, ↓reduceIte, msgCells, lay, oneOr, List.take_succ_cons, List.take_zero, List.drop_succ_cons, List.drop_zero, List.nil_append, List.cons_append, Option.getD_some, Nat.reduceAdd, Nat.reduceLeDiff, List.append_nil, and_self, List.all_cons, List.all_nil])
    rw [stk_alloc]
    intro b2 h2
    (try simp +decide (implicitDefEqProofs := false) only [go_sem, ↓stk_g, ↓stk_c, ↓reduceIte, hp_self, msgCells, lay, oneOr, List.take_succ_cons, List.take_zero, List.drop_succ_cons, List.drop_zero, List.nil_append, List.cons_append, Option.getD_some, Nat.reduceAdd, Nat.reduceLeDiff, List.append_nil, and_self, List.all_cons, List.all_nil])
    refine stk_pure (msame_ok m m F F) fun v hv => ?_
    rw [decide_eq_true (rfl : m = m)] at hv
    subst hv
    (try simp +decide (implicitDefEqProofs := false) only [go_sem, ↓stk_g, ↓stk_c, ↓reduceIte, hp_self, msgCells, lay, oneOr, List.take_succ_cons, List.take_zero, List.drop_succ_cons, List.drop_zero, List.nil_append, List.cons_append, Option.getD_some, Nat.reduceAdd, Nat.reduceLeDiff, List.append_nil, and_self, List.all_cons, List.all_nil])
    refine stk_pure (mright_ok L m F) fun v hv => ?_
    rw [hr] at hv
    subst hv
    (try simp +decide (implicitDefEqProofs := false) only [go_sem, ↓stk_g, ↓stk_c, ↓reduceIte])
    refine stk_pure (decode_ok L E s (by omega) (hsm_small (by omega))) fun v hv => ?_
    obtain ⟨q, q3, q1, q2⟩ | ⟨e, q3, he⟩ := decode_cases s
    · rw [q3] at hv
      unfold decodeA at hv
      subst hv
      (try simp +decide (implicitDefEqProofs := false) only [go_sem, ↓stk_g, ↓stk_c, ↓reduceIte, msgCells, lay, oneOr, List.take_succ_cons, List.take_zero, List.drop_succ_cons, List.drop_zero, List.nil_append, List.cons_append, Option.getD_some, Nat.reduceAdd, Nat.reduceLeDiff, List.append_nil, and_self, List.all_cons, List.all_nil])
      rw [stk_alloc]
      intro b3 h3
      have n3 := new_ne (hp_self _ _ _) h3
      have n3' := n3.symm
      (try simp +decide (implicitDefEqProofs := false) only [go_sem, ↓stk_g, ↓stk_c, ↓reduceIte, hp_ne, n3, n3', hp_self, msgCells, lay, oneOr, List.take_succ_cons, List.take_zero, List.drop_succ_cons, List.drop_zero, List.nil_append, List.cons_append, Option.getD_some, Nat.reduceAdd, Nat.reduceLeDiff, List.append_nil, and_self, List.all_cons, List.all_nil])
      refine stk_pure (encode_ok L q (rightM_facts q1).fits) fun v hv => ?_
      unfold encR at hv
      rw [q1, if_pos rfl, q2] at hv
      subst hv
      have hss : decide (s = s) = true := decide_eq_true rfl
      (try simp +decide (implicitDefEqProofs := false) only [go_sem, ↓stk_g, ↓stk_c, ↓reduceIte, hp_ne, n3, n3', hp_self, hss, lay, oneOr, List.take_succ_cons, List.take_zero, List.drop_succ_cons, List.drop_zero, List.nil_append, List.cons_append, Option.getD_some, Nat.reduceAdd, Nat.reduceLeDiff, List.append_nil, and_self, List.all_cons, List.all_nil])
      refine aret_pure (.inr rfl) ?_; simp +decide only [retOf, tget, if_true, if_false, ↓reduceIte, List.map_cons, List.map_nil]
    · rw [q3] at hv
      unfold decodeA at hv
      subst hv
      have d1 : decide (e ≠ 0) = true := decide_eq_true (by omega)
      (try simp +decide (implicitDefEqProofs := false) only [go_sem, ↓stk_g, ↓stk_c, ↓reduceIte, msgCells, msg0, pol0, strRows, postRows, d1, lay, oneOr, List.take_succ_cons, List.take_zero, List.drop_succ_cons, List.drop_zero, List.nil_append, List.cons_append, Option.getD_some, Nat.reduceAdd, Nat.reduceLeDiff, List.append_nil, and_self, List.all_cons, List.all_nil])
      rw [stk_alloc]
      intro b3 h3
      have n3 := new_ne (hp_self _ _ _) h3
      have n3' := n3.symm
      (try simp +decide (implicitDefEqProofs := false) only [go_sem, ↓stk_g, ↓stk_c, ↓reduceIte, hp_ne, n3, n3', hp_self, msgCells, msg0, d1, lay, oneOr, List.take_succ_cons, List.take_zero, List.drop_succ_cons, List.drop_zero, List.nil_append, List.cons_append, Option.getD_some, Nat.reduceAdd, Nat.reduceLeDiff, List.append_nil, and_self, List.all_cons, List.all_nil])
      refine aret_pure (.inr rfl) ?_; simp +decide only [retOf, tget, if_true, if_false, ↓reduceIte, List.map_cons, List.map_nil]
def c_law_Unlike : AFn := ⟨2, 53, [4],
  .seq (.ops [⟨(some 2), none, .e (.box 27 (.tmp 0))⟩,
      ⟨(some 3), none, .e (.box 27 (.tmp 1))⟩,
      ⟨(some 4), none, .q (.mv (.const (.bool false)))⟩])
  (.seq (.ops [⟨(some 13), none, .e (.call 8 [])⟩,
      ⟨(some 5), none, .q (.mv (.tmp 13))⟩])
  (.seq (.ops [⟨(some 14), none, .q (.ld true 15 (.tmp 2))⟩,
      ⟨(some 15), none, .e (.call 9 [(.tmp 14)])⟩,
      ⟨(some 6), none, .q (.mv (.tmp 15))⟩])
  (.seq (.ops [⟨(some 16), none, .q (.ld true 15 (.tmp 3))⟩,
      ⟨(some 17), none, .e (.call 9 [(.tmp 16)])⟩,
      ⟨(some 7), none, .q (.mv (.tmp 17))⟩])
  (.seq (.seq (.ops [⟨(some 18), none, .q (.mv (.tmp 6))⟩,
      ⟨(some 19), none, .q (.un .not (.tmp 18))⟩,
      ⟨(some 20), none, .q (.mv (.tmp 19))⟩,
      ⟨(some 21), (some (20, false)), .q (.mv (.tmp 7))⟩,
      ⟨(some 22), (some (20, false)), .q (.un .not (.tmp 21))⟩,
      ⟨(some 23), none, .q (.pick (.tmp 20) (.const (.bool true)) (.tmp 22))⟩])
  (.cond (.tmp 23)
    (.seq (.ops [⟨(some 24), none, .q (.mv (.tmp 5))⟩,
        ⟨(some 4), none, .q (.mv (.tmp 24))⟩])
    (.ret))
    (.skip)))
  (.seq (.ops [⟨(some 26), none, .q (.ld true 15 (.tmp 2))⟩,
      ⟨(some 27), none, .e (.call 10 [(.tmp 26)])⟩,
      ⟨(some 25), none, .q (.mv (.tmp 27))⟩,
      ⟨(some 28), none, .q (.ext (.tmp 25) 0)⟩,
      ⟨(some 29), none, .q (.ext (.tmp 25) 1)⟩,
      ⟨(some 8), none, .q (.mv (.tmp 28))⟩,
      ⟨(some 9), none, .q (.mv (.tmp 29))⟩])
  (.seq (.ops [⟨(some 31), none, .q (.ld true 15 (.tmp 3))⟩,
      ⟨(some 32), none, .e (.call 10 [(.tmp 31)])⟩,
      ⟨(some 30), none, .q (.mv (.tmp 32))⟩,
      ⟨(some 33), none, .q (.ext (.tmp 30) 0)⟩,
      ⟨(some 34), none, .q (.ext (.tmp 30) 1)⟩,
      ⟨(some 10), none, .q (.mv (.tmp 33))⟩,
      ⟨(some 11), none, .q (.mv (.tmp 34))⟩])
  (.seq (.seq (.ops [⟨(some 35), none, .q (.mv (.tmp 9))⟩,
      ⟨(some 36), none, .q (.bin .neq .num (.tmp 35) (.const (.int .i64 0)))⟩,
      ⟨(some 37), none, .q (.mv (.tmp 36))⟩,
      ⟨(some 38), (some (37, false)), .q (.mv (.tmp 11))⟩,
      ⟨(some 39), (some (37, false)), .q (.bin .neq .num (.tmp 38) (.const (.int .i64 0)))⟩,
      ⟨(some 40), none, .q (.pick (.tmp 37) (.const (.bool true)) (.tmp 39))⟩])
  (.cond (.tmp 40)
    (.seq (.ops [⟨(some 41), none, .q (.mv (.tmp 5))⟩,
        ⟨(some 4), none, .q (.mv (.tmp 41))⟩])
    (.ret))
    (.skip)))
  (.seq (.ops [⟨(some 42), none, .q (.ld true 15 (.tmp 2))⟩,
      ⟨(some 43), none, .q (.ld true 15 (.tmp 3))⟩,
      ⟨(some 44), none, .e (.call 12 [(.tmp 42), (.tmp 43)])⟩,
      ⟨(some 12), none, .q (.mv (.tmp 44))⟩])
  (.seq (.ops [⟨(some 45), none, .q (.mv (.tmp 5))⟩,
      ⟨(some 46), none, .q (.mv (.tmp 45))⟩,
      ⟨(some 47), (some (46, true)), .q (.mv (.tmp 8))⟩,
      ⟨(some 48), (some (46, true)), .q (.mv (.tmp 10))⟩,
      ⟨(some 49), (some (46, true)), .q (.bin .eql .num (.tmp 47) (.tmp 48))⟩,
      ⟨(some 50), (some (46, true)), .q (.mv (.tmp 12))⟩,
      ⟨(some 51), (some (46, true)), .q (.bin .eql .bool (.tmp 49) (.tmp 50))⟩,
      ⟨(some 52), none, .q (.pick (.tmp 46) (.tmp 51) (.const (.bool false)))⟩,
      ⟨(some 4), none, .q (.mv (.tmp 52))⟩])
  (.ret)))))))))), []⟩
theorem k_law_Unlike : compF Tryd.prog 5 = some c_law_Unlike := by kernel_rfl
set_option maxHeartbeats 16000000 in
theorem munlike_law {W : World} (L : Laid W) (E : Errs W) (a b : Msg) (hla : MLens a) (hlb : MLens b) : ACalls Tryd.prog W 5 [.agg (msgCells a), .agg (msgCells b)] AHeap.none fun v _ => v = .v (.bool true) := by
  refine fn_run follows k_law_Unlike rfl ?_
  simp only [c_law_Unlike, aretC_nil, List.zipIdx_cons, List.zipIdx_nil, List.map_cons, List.map_nil, Nat.zero_add]
  (try simp +decide (implicitDefEqProofs := false) only [go_sem, ↓stk_g, ↓stk_c, ↓reduceIte])
  rw [stk_box]
  refine ⟨by rfl, fun b1 h1 => ?_⟩
  (try simp +decide (implicitDefEqProofs := false) only [go_sem, ↓stk_g, ↓stk_c, ↓reduceIte])
  rw [stk_box]
  refine ⟨by rfl, fun b2 h2 => ?_⟩
  have n2 := new_ne (hp_self _ _ _) h2
  have n2' := n2.symm
  have hb1 := fun (x y : AObj) => (hp_ne (AHeap.none.put b1 x) y n2').trans (hp_self AHeap.none b1 x)
  (try simp +decide (implicitDefEqProofs := false) only [go_sem, ↓stk_g, ↓stk_c, ↓reduceIte])
  refine stk_pureW ⟨[(3, .pl (msgCells b)), (2, .pl (msgCells a))], AHeap.none⟩ (Weak.list _ (Sub.none _) ?_) (mawake_ok L E) fun v hv => ?_
  · (try simp +decide (implicitDefEqProofs := false) only [go_sem, ↓stk_g, ↓stk_c, ↓reduceIte])
    exact ⟨FZ.cellsR (hp_self _ _ _) rfl, FZ.cellsR (hb1 _ _) rfl⟩
  subst hv
  (try simp +decide (implicitDefEqProofs := false) only [go_sem, ↓stk_g, ↓stk_c, ↓reduceIte, msgCells, lay, oneOr, List.take_succ_cons, List.take_zero, List.drop_succ_cons, List.drop_zero, List.nil_append, List.cons_append, Option.getD_some, Nat.reduceAdd, Nat.reduceLeDiff, List.append_nil, and_self, List.all_cons, List.all_nil])
  refine stk_pure (mlight_ok a hla) fun v hv => ?_
  obtain ⟨ba, rfl, hFa⟩ := hv
  (try simp +decide (implicitDefEqProofs := false) only [go_sem, ↓stk_g, ↓stk_c, ↓reduceIte, msgCells, lay, oneOr, List.take_succ_cons, List.take_zero, List.drop_succ_cons, List.drop_zero, List.nil_append, List.cons_append, Option.getD_some, Nat.reduceAdd, Nat.reduceLeDiff, List.append_nil, and_self, List.all_cons, List.all_nil])
  refine stk_pure (mlight_ok b hlb) fun v hv => ?_
  obtain ⟨bb, rfl, hFb⟩ := hv
  cases ba
  · (try simp +decide (implicitDefEqProofs := false) only [go_sem, ↓stk_g, ↓stk_c, ↓reduceIte])
    refine aret_pure (.inr rfl) ?_; simp +decide only [retOf, tget, if_true, if_false, ↓reduceIte, List.map_cons, List.map_nil]
  cases bb
  · (try simp +decide (implicitDefEqProofs := false) only [go_sem, ↓stk_g, ↓stk_c, ↓reduceIte])
    refine aret_pure (.inr rfl) ?_; simp +decide only [retOf, tget, if_true, if_false, ↓reduceIte, List.map_cons, List.map_nil]
  have F := hFa rfl
  have G := hFb rfl
  clear hFa hFb
  (try simp +decide (implicitDefEqProofs := false) only [go_sem, ↓stk_g, ↓stk_c, ↓reduceIte, msgCells, lay, oneOr, List.take_succ_cons, List.take_zero, List.drop_succ_cons, List.drop_zero, List.nil_append, List.cons_append, Option.getD_some, Nat.reduceAdd, Nat.reduceLeDiff, List.append_nil, and_self, List.all_cons, List.all_nil])
  refine stk_pure (encode_ok L a F) fun v hv => ?_
  unfold encR at hv
  have hea : ∃ t e, v = .tup [.v (.string t), .v (.int .i64 e)] ∧ ((e = 0 ∧ rightM a = true ∧ t = msgT a) ∨ e = 2) := by
    split at hv
    · rename_i h; exact ⟨_, _, hv, .inl ⟨rfl, h, rfl⟩⟩
    · exact ⟨_, _, hv, .inr rfl⟩
  obtain ⟨t, e, rfl, hte⟩ := hea
  clear hv
  (try simp +decide (implicitDefEqProofs := false) only [go_sem, ↓stk_g, ↓stk_c, ↓reduceIte, msgCells, lay, oneOr, List.take_succ_cons, List.take_zero, List.drop_succ_cons, List.drop_zero, List.nil_append, List.cons_append, Option.getD_some, Nat.reduceAdd, Nat.reduceLeDiff, List.append_nil, and_self, List.all_cons, List.all_nil])
  refine stk_pure (encode_ok L b G) fun v hv => ?_
  unfold encR at hv
  have heb : ∃ t e, v = .tup [.v (.string t), .v (.int .i64 e)] ∧ ((e = 0 ∧ rightM b = true ∧ t = msgT b) ∨ e = 2) := by
    split at hv
    · rename_i h; exact ⟨_, _, hv, .inl ⟨rfl, h, rfl⟩⟩
    · exact ⟨_, _, hv, .inr rfl⟩
  obtain ⟨t2, e2, rfl, hte2⟩ := heb
  clear hv
  rcases hte with ⟨rfl, ha, rfl⟩ | rfl
  rotate_left
  · (try simp +decide (implicitDefEqProofs := false) only [go_sem, ↓stk_g, ↓stk_c, ↓reduceIte])
    refine aret_pure (.inr rfl) ?_; simp +decide only [retOf, tget, if_true, if_false, ↓reduceIte, List.map_cons, List.map_nil]
  rcases hte2 with ⟨rfl, hb, rfl⟩ | rfl
  rotate_left
  · (try simp +decide (implicitDefEqProofs := false) only [go_sem, ↓stk_g, ↓stk_c, ↓reduceIte])
    refine aret_pure (.inr rfl) ?_; simp +decide only [retOf, tget, if_true, if_false, ↓reduceIte, List.map_cons, List.map_nil]
  have hij := msgT_inj ha hb
  (try simp +decide (implicitDefEqProofs := false) only [go_sem, ↓stk_g, ↓stk_c, ↓reduceIte, msgCells, lay, oneOr, List.take_succ_cons, List.take_zero, List.drop_succ_cons, List.drop_zero, List.nil_append, List.cons_append, Option.getD_some, Nat.reduceAdd, Nat.reduceLeDiff, List.append_nil, and_self, List.all_cons, List.all_nil])
  refine stk_pure (msame_ok a b F G) fun v hv => ?_
  subst hv
  generalize decide (a = b) = d at hij
  (try simp +decide (implicitDefEqProofs := false) only [go_sem, ↓stk_g, ↓stk_c, ↓reduceIte, hij])
  refine aret_pure (.inr rfl) ?_; simp +decide only [retOf, tget, if_true, if_false, ↓reduceIte, List.map_cons, List.map_nil]
def mK (f d e : Int) : Msg := ⟨4, f, d, e, [], [], pol0⟩
theorem mK_fits (f d e : Int) : MFits (mK f d e) := ⟨Nat.zero_le _, Nat.zero_le _, (pol0_small 0 0).fits (by omega) (by omega)⟩
theorem mK_right {f d e : Int} (h : (0 ≤ f ∧ f ≤ 5) ∧ (0 ≤ d ∧ d ≤ 5) ∧ f ≠ d ∧ 0 ≤ e ∧ e ≤ 1000000) : rightM (mK f d e) = true := by
  unfold rightM mK
  dsimp only
  rw [if_neg (by omega), if_neg (fun h => h.elim (fun h => absurd h.2 (by decide)) (fun h => h.elim (fun h => absurd h.2 (by decide)) (fun h => absurd rfl h.2))), if_neg (by decide), if_neg (by decide), if_neg (by decide)]
  rfl
theorem mK_wrong {f d e : Int} (h : ¬ ((0 ≤ f ∧ f ≤ 5) ∧ (0 ≤ d ∧ d ≤ 5) ∧ f ≠ d ∧ 0 ≤ e ∧ e ≤ 1000000)) : rightM (mK f d e) = false := by
  cases hr : rightM (mK f d e)
  · rfl
  · have R := rightM_facts hr
    exact absurd ⟨R.frm, R.dst, R.ne, R.epoch⟩ h
theorem fieldS_size3 {x : Str} (h : x.size < 10) : (fieldS x).size = x.size + 3 := by
  rw [← bl_len, fieldS_bl, Lib.decDigits_one h]
  have := bl_len x
  simp; omega
theorem itoa_one {n : Int} (h0 : 0 ≤ n) (h1 : n < 10) : (itoaS n).size = 1 := by
  obtain ⟨k, rfl⟩ : ∃ k : Nat, n = k := ⟨n.toNat, by omega⟩
  rw [← bl_len, bl_itoa, Lib.decDigits_one (by omega)]; rfl
theorem mK_len {f d e : Int} (h : (0 ≤ f ∧ f ≤ 5) ∧ (0 ≤ d ∧ d ≤ 5) ∧ f ≠ d ∧ 0 ≤ e ∧ e ≤ 1000000) : (msgT (mK f d e)).size ≤ 22 := by
  rw [msgT_cat]
  show (fieldS (itoaS 4) ++ (fieldS (itoaS f) ++ (fieldS (itoaS d) ++ (fieldS (itoaS e) ++ ByteArray.empty : Str) : Str) : Str) : Str).size ≤ 22
  have h1 := itoa_one (n := 4) (by omega) (by omega)
  have h2 := itoa_one (n := f) (by omega) (by omega)
  have h3 := itoa_one (n := d) (by omega) (by omega)
  have h4 := itoa_len e (by omega) (by omega)
  have e0 : ByteArray.empty.size = 0 := rfl
  rw [ByteArray.size_append, ByteArray.size_append, ByteArray.size_append, ByteArray.size_append, fieldS_size3 (by omega), fieldS_size3 (by omega), fieldS_size3 (by omega), fieldS_size3 (by omega), e0]
  omega
def c_law_Acks : AFn := ⟨3, 109, [6],
  .seq (.ops [⟨(some 6), none, .q (.mv (.const (.bool false)))⟩])
  (.seq (.ops [⟨(some 14), none, .e (.call 8 [])⟩,
      ⟨(some 7), none, .q (.mv (.tmp 14))⟩])
  (.seq (.ops [⟨(some 15), none, .q (.mv (.tmp 0))⟩,
      ⟨(some 16), none, .q (.mv (.tmp 1))⟩,
      ⟨(some 17), none, .q (.mv (.tmp 2))⟩,
      ⟨(some 18), none, .q (.bld [(.int .i64 0), (.int .i64 0), (.int .i64 0), (.int .i64 0), (.slice none 0 0), (.slice none 0 0), (.int .i64 0), (.slice none 0 0), (.slice none 0 0), (.slice none 0 0), (.slice none 0 0), (.slice none 0 0), (.int .i64 0), (.int .i64 0), (.int .i64 0)] [(0, 1, (.const (.int .i64 4))), (1, 1, (.tmp 15)), (2, 1, (.tmp 16)), (3, 1, (.tmp 17))])⟩,
      ⟨(some 8), none, .e (.alloc 27 [(.int .i64 0), (.int .i64 0), (.int .i64 0), (.int .i64 0), (.slice none 0 0), (.slice none 0 0), (.int .i64 0), (.slice none 0 0), (.slice none 0 0), (.slice none 0 0), (.slice none 0 0), (.slice none 0 0), (.int .i64 0), (.int .i64 0), (.int .i64 0)])⟩,
      ⟨none, none, .e (.st 15 (.tmp 8) (.tmp 18))⟩])
  (.seq (.ops [⟨(some 19), none, .q (.mv (.tmp 0))⟩,
      ⟨(some 20), none, .q (.bin .geq .num (.tmp 19) (.const (.int .i64 0)))⟩,
      ⟨(some 21), none, .q (.mv (.tmp 20))⟩,
      ⟨(some 22), (some (21, true)), .q (.mv (.tmp 0))⟩,
      ⟨(some 23), (some (21, true)), .q (.bin .leq .num (.tmp 22) (.const (.int .i64 5)))⟩,
      ⟨(some 24), none, .q (.pick (.tmp 21) (.tmp 23) (.const (.bool false)))⟩,
      ⟨(some 25), none, .q (.mv (.tmp 24))⟩,
      ⟨(some 26), (some (25, true)), .q (.mv (.tmp 1))⟩,
      ⟨(some 27), (some (25, true)), .q (.bin .geq .num (.tmp 26) (.const (.int .i64 0)))⟩,
      ⟨(some 28), none, .q (.pick (.tmp 25) (.tmp 27) (.const (.bool false)))⟩,
      ⟨(some 29), none, .q (.mv (.tmp 28))⟩,
      ⟨(some 30), (some (29, true)), .q (.mv (.tmp 1))⟩,
      ⟨(some 31), (some (29, true)), .q (.bin .leq .num (.tmp 30) (.const (.int .i64 5)))⟩,
      ⟨(some 32), none, .q (.pick (.tmp 29) (.tmp 31) (.const (.bool false)))⟩,
      ⟨(some 33), none, .q (.mv (.tmp 32))⟩,
      ⟨(some 34), (some (33, true)), .q (.mv (.tmp 0))⟩,
      ⟨(some 35), (some (33, true)), .q (.mv (.tmp 1))⟩,
      ⟨(some 36), (some (33, true)), .q (.bin .neq .num (.tmp 34) (.tmp 35))⟩,
      ⟨(some 37), none, .q (.pick (.tmp 33) (.tmp 36) (.const (.bool false)))⟩,
      ⟨(some 38), none, .q (.mv (.tmp 37))⟩,
      ⟨(some 39), (some (38, true)), .q (.mv (.tmp 2))⟩,
      ⟨(some 40), (some (38, true)), .q (.bin .geq .num (.tmp 39) (.const (.int .i64 0)))⟩,
      ⟨(some 41), none, .q (.pick (.tmp 38) (.tmp 40) (.const (.bool false)))⟩,
      ⟨(some 42), none, .q (.mv (.tmp 41))⟩,
      ⟨(some 43), (some (42, true)), .q (.mv (.tmp 2))⟩,
      ⟨(some 44), (some (42, true)), .q (.bin .leq .num (.tmp 43) (.const (.int .i64 1000000)))⟩,
      ⟨(some 45), none, .q (.pick (.tmp 42) (.tmp 44) (.const (.bool false)))⟩,
      ⟨(some 9), none, .q (.mv (.tmp 45))⟩])
  (.seq (.ops [⟨(some 47), none, .q (.ld true 15 (.tmp 8))⟩,
      ⟨(some 48), none, .e (.call 10 [(.tmp 47)])⟩,
      ⟨(some 46), none, .q (.mv (.tmp 48))⟩,
      ⟨(some 49), none, .q (.ext (.tmp 46) 0)⟩,
      ⟨(some 50), none, .q (.ext (.tmp 46) 1)⟩,
      ⟨(some 10), none, .q (.mv (.tmp 49))⟩,
      ⟨(some 11), none, .q (.mv (.tmp 50))⟩])
  (.seq (.seq (.ops [⟨(some 51), none, .q (.mv (.tmp 9))⟩,
      ⟨(some 52), none, .q (.un .not (.tmp 51))⟩])
  (.cond (.tmp 52)
    (.seq (.ops [⟨(some 53), none, .q (.mv (.tmp 7))⟩,
        ⟨(some 54), none, .q (.mv (.tmp 53))⟩,
        ⟨(some 55), (some (54, true)), .q (.mv (.tmp 11))⟩,
        ⟨(some 56), (some (54, true)), .q (.bin .eql .num (.tmp 55) (.const (.int .i64 2)))⟩,
        ⟨(some 57), none, .q (.pick (.tmp 54) (.tmp 56) (.const (.bool false)))⟩,
        ⟨(some 58), none, .q (.mv (.tmp 57))⟩,
        ⟨(some 59), (some (58, true)), .q (.mv (.tmp 10))⟩,
        ⟨(some 60), (some (58, true)), .q (.bin .eql .num (.tmp 59) (.const (.string ByteArray.empty)))⟩,
        ⟨(some 61), none, .q (.pick (.tmp 58) (.tmp 60) (.const (.bool false)))⟩,
        ⟨(some 62), none, .q (.mv (.tmp 61))⟩,
        ⟨(some 63), (some (62, true)), .q (.ld true 15 (.tmp 8))⟩,
        ⟨(some 64), (some (62, true)), .e (.call 13 [(.tmp 63)])⟩,
        ⟨(some 65), (some (62, true)), .q (.un .not (.tmp 64))⟩,
        ⟨(some 66), none, .q (.pick (.tmp 62) (.tmp 65) (.const (.bool false)))⟩,
        ⟨(some 6), none, .q (.mv (.tmp 66))⟩])
    (.ret))
    (.skip)))
  (.seq (.ops [⟨(some 68), none, .q (.mv (.tmp 10))⟩,
      ⟨(some 69), none, .e (.call 11 [(.tmp 68)])⟩,
      ⟨(some 67), none, .q (.mv (.tmp 69))⟩,
      ⟨(some 70), none, .q (.ext (.tmp 67) 0)⟩,
      ⟨(some 71), none, .q (.ext (.tmp 67) 1)⟩,
      ⟨(some 12), none, .e (.alloc 27 [(.int .i64 0), (.int .i64 0), (.int .i64 0), (.int .i64 0), (.slice none 0 0), (.slice none 0 0), (.int .i64 0), (.slice none 0 0), (.slice none 0 0), (.slice none 0 0), (.slice none 0 0), (.slice none 0 0), (.int .i64 0), (.int .i64 0), (.int .i64 0)])⟩,
      ⟨none, none, .e (.st 15 (.tmp 12) (.tmp 70))⟩,
      ⟨(some 13), none, .q (.mv (.tmp 71))⟩])
  (.seq (.ops [⟨(some 72), none, .q (.mv (.tmp 7))⟩,
      ⟨(some 73), none, .q (.mv (.tmp 72))⟩,
      ⟨(some 74), (some (73, true)), .q (.mv (.tmp 11))⟩,
      ⟨(some 75), (some (73, true)), .q (.bin .eql .num (.tmp 74) (.const (.int .i64 0)))⟩,
      ⟨(some 76), none, .q (.pick (.tmp 73) (.tmp 75) (.const (.bool false)))⟩,
      ⟨(some 77), none, .q (.mv (.tmp 76))⟩,
      ⟨(some 78), (some (77, true)), .q (.mv (.tmp 13))⟩,
      ⟨(some 79), (some (77, true)), .q (.bin .eql .num (.tmp 78) (.const (.int .i64 0)))⟩,
      ⟨(some 80), none, .q (.pick (.tmp 77) (.tmp 79) (.const (.bool false)))⟩,
      ⟨(some 81), none, .q (.mv (.tmp 80))⟩,
      ⟨(some 82), (some (81, true)), .q (.fad 1 1 (.tmp 12))⟩,
      ⟨(some 83), (some (81, true)), .q (.ld false 1 (.tmp 82))⟩,
      ⟨(some 84), (some (81, true)), .q (.mv (.tmp 0))⟩,
      ⟨(some 85), (some (81, true)), .q (.bin .eql .num (.tmp 83) (.tmp 84))⟩,
      ⟨(some 86), none, .q (.pick (.tmp 81) (.tmp 85) (.const (.bool false)))⟩,
      ⟨(some 87), none, .q (.mv (.tmp 86))⟩,
      ⟨(some 88), (some (87, true)), .q (.fad 2 1 (.tmp 12))⟩,
      ⟨(some 89), (some (87, true)), .q (.ld false 1 (.tmp 88))⟩,
      ⟨(some 90), (some (87, true)), .q (.mv (.tmp 1))⟩,
      ⟨(some 91), (some (87, true)), .q (.bin .eql .num (.tmp 89) (.tmp 90))⟩,
      ⟨(some 92), none, .q (.pick (.tmp 87) (.tmp 91) (.const (.bool false)))⟩,
      ⟨(some 93), none, .q (.mv (.tmp 92))⟩,
      ⟨(some 94), (some (93, true)), .q (.fad 3 1 (.tmp 12))⟩,
      ⟨(some 95), (some (93, true)), .q (.ld false 1 (.tmp 94))⟩,
      ⟨(some 96), (some (93, true)), .q (.mv (.tmp 2))⟩,
      ⟨(some 97), (some (93, true)), .q (.bin .eql .num (.tmp 95) (.tmp 96))⟩,
      ⟨(some 98), none, .q (.pick (.tmp 93) (.tmp 97) (.const (.bool false)))⟩,
      ⟨(some 99), none, .q (.mv (.tmp 98))⟩,
      ⟨(some 100), (some (99, true)), .q (.fad 0 1 (.tmp 12))⟩,
      ⟨(some 101), (some (99, true)), .q (.ld false 1 (.tmp 100))⟩,
      ⟨(some 102), (some (99, true)), .q (.bin .eql .num (.tmp 101) (.const (.int .i64 4)))⟩,
      ⟨(some 103), none, .q (.pick (.tmp 99) (.tmp 102) (.const (.bool false)))⟩,
      ⟨(some 104), none, .q (.mv (.tmp 103))⟩,
      ⟨(some 105), (some (104, true)), .q (.mv (.tmp 10))⟩,
      ⟨(some 106), (some (104, true)), .q (.len true (.tmp 105))⟩,
      ⟨(some 107), (some (104, true)), .q (.bin .leq .num (.tmp 106) (.const (.int .i64 22)))⟩,
      ⟨(some 108), none, .q (.pick (.tmp 104) (.tmp 107) (.const (.bool false)))⟩,
      ⟨(some 6), none, .q (.mv (.tmp 108))⟩])
  (.ret)))))))), []⟩
theorem k_law_Acks : compF Tryd.prog 6 = some c_law_Acks := by kernel_rfl
set_option maxHeartbeats 16000000 in
theorem macks_law {W : World} (L : Laid W) (E : Errs W) (f d e : Int) : ACalls Tryd.prog W 6 [.v (.int .i64 f), .v (.int .i64 d), .v (.int .i64 e)] AHeap.none fun v _ => v = .v (.bool true) := by
  refine fn_run follows k_law_Acks rfl ?_
  simp only [c_law_Acks, aretC_nil, List.zipIdx_cons, List.zipIdx_nil, List.map_cons, List.map_nil, Nat.zero_add]
  (try simp +decide (implicitDefEqProofs := false) only [go_sem, ↓stk_g, ↓stk_c, ↓reduceIte])
  refine stk_pure (mawake_ok L E) fun v hv => ?_
  subst hv
  (try simp +decide (implicitDefEqProofs := false) only [go_sem, ↓stk_g, ↓stk_c, ↓reduceIte, lay, oneOr, List.take_succ_cons, List.take_zero, List.drop_succ_cons, List.drop_zero, List.nil_append, List.cons_append, Option.getD_some, Nat.reduceAdd, Nat.reduceLeDiff, List.append_nil, and_self, List.all_cons, List.all_nil])
  rw [stk_alloc]
  intro b1 h1
  by_cases c_f0 : 0 ≤ f
  case neg =>
    have hw := mK_wrong (f := f) (d := d) (e := e) (by rintro ⟨⟨a1, a2⟩, ⟨a3, a4⟩, a5, a6, a7⟩; contradiction)
    (try simp +decide (implicitDefEqProofs := false) only [go_sem, ↓stk_g, ↓stk_c, ↓reduceIte, hp_self, c_f0, lay, oneOr, List.take_succ_cons, List.take_zero, List.drop_succ_cons, List.drop_zero, List.nil_append, List.cons_append, Option.getD_some, Nat.reduceAdd, Nat.reduceLeDiff, List.append_nil, and_self, List.all_cons, List.all_nil])
    refine stk_pureW ⟨[(7, .v (.bool true)), (8, .pl (msgCells (mK f d e))), (9, .v (.bool false)), (47, .agg (msgCells (mK f d e)))], AHeap.none⟩ (Weak.list _ (Sub.none _) ?_) (encode_ok L (mK f d e) (mK_fits f d e)) fun v hv => ?_
    · (try simp +decide (implicitDefEqProofs := false) only [go_sem, ↓stk_g, ↓stk_c, ↓reduceIte])
      exact ⟨FZ.cells (hp_self _ _ _) rfl rfl (FZ.msgX (m := mK f d e) (.nil 1) (.nil 2) (.nil 1) (.nil 1) (.nil 1) (.nil 1) (.nil 1)), .agg rfl (msgCells_one _) (FZ.msgX (m := mK f d e) (.nil 1) (.nil 2) (.nil 1) (.nil 1) (.nil 1) (.nil 1) (.nil 1))⟩
    unfold encR at hv
    rw [hw, if_neg (by simp)] at hv
    subst hv
    (try simp +decide (implicitDefEqProofs := false) only [go_sem, ↓stk_g, ↓stk_c, ↓reduceIte, msgCells, lay, oneOr, List.take_succ_cons, List.take_zero, List.drop_succ_cons, List.drop_zero, List.nil_append, List.cons_append, Option.getD_some, Nat.reduceAdd, Nat.reduceLeDiff, List.append_nil, and_self, List.all_cons, List.all_nil])
    refine stk_pure (mright_ok L (mK f d e) (mK_fits f d e)) fun v hv => ?_
    rw [hw] at hv
    subst hv
    (try simp +decide (implicitDefEqProofs := false) only [go_sem, ↓stk_g, ↓stk_c, ↓reduceIte])
    refine aret_pure (.inr rfl) ?_; simp +decide only [retOf, tget, if_true, if_false, ↓reduceIte, List.map_cons, List.map_nil]
  by_cases c_f1 : f ≤ 5
  case neg =>
    have hw := mK_wrong (f := f) (d := d) (e := e) (by rintro ⟨⟨a1, a2⟩, ⟨a3, a4⟩, a5, a6, a7⟩; contradiction)
    (try simp +decide (implicitDefEqProofs := false) only [go_sem, ↓stk_g, ↓stk_c, ↓reduceIte, hp_self, c_f0, c_f1, lay, oneOr, List.take_succ_cons, List.take_zero, List.drop_succ_cons, List.drop_zero, List.nil_append, List.cons_append, Option.getD_some, Nat.reduceAdd, Nat.reduceLeDiff, List.append_nil, and_self, List.all_cons, List.all_nil])
    refine stk_pureW ⟨[(7, .v (.bool true)), (8, .pl (msgCells (mK f d e))), (9, .v (.bool false)), (47, .agg (msgCells (mK f d e)))], AHeap.none⟩ (Weak.list _ (Sub.none _) ?_) (encode_ok L (mK f d e) (mK_fits f d e)) fun v hv => ?_
    · (try simp +decide (implicitDefEqProofs := false) only [go_sem, ↓stk_g, ↓stk_c, ↓reduceIte])
      exact ⟨FZ.cells (hp_self _ _ _) rfl rfl (FZ.msgX (m := mK f d e) (.nil 1) (.nil 2) (.nil 1) (.nil 1) (.nil 1) (.nil 1) (.nil 1)), .agg rfl (msgCells_one _) (FZ.msgX (m := mK f d e) (.nil 1) (.nil 2) (.nil 1) (.nil 1) (.nil 1) (.nil 1) (.nil 1))⟩
    unfold encR at hv
    rw [hw, if_neg (by simp)] at hv
    subst hv
    (try simp +decide (implicitDefEqProofs := false) only [go_sem, ↓stk_g, ↓stk_c, ↓reduceIte, msgCells, lay, oneOr, List.take_succ_cons, List.take_zero, List.drop_succ_cons, List.drop_zero, List.nil_append, List.cons_append, Option.getD_some, Nat.reduceAdd, Nat.reduceLeDiff, List.append_nil, and_self, List.all_cons, List.all_nil])
    refine stk_pure (mright_ok L (mK f d e) (mK_fits f d e)) fun v hv => ?_
    rw [hw] at hv
    subst hv
    (try simp +decide (implicitDefEqProofs := false) only [go_sem, ↓stk_g, ↓stk_c, ↓reduceIte])
    refine aret_pure (.inr rfl) ?_; simp +decide only [retOf, tget, if_true, if_false, ↓reduceIte, List.map_cons, List.map_nil]
  by_cases c_d0 : 0 ≤ d
  case neg =>
    have hw := mK_wrong (f := f) (d := d) (e := e) (by rintro ⟨⟨a1, a2⟩, ⟨a3, a4⟩, a5, a6, a7⟩; contradiction)
    (try simp +decide (implicitDefEqProofs := false) only [go_sem, ↓stk_g, ↓stk_c, ↓reduceIte, hp_self, c_f0, c_f1, c_d0, lay, oneOr, List.take_succ_cons, List.take_zero, List.drop_succ_cons, List.drop_zero, List.nil_append, List.cons_append, Option.getD_some, Nat.reduceAdd, Nat.reduceLeDiff, List.append_nil, and_self, List.all_cons, List.all_nil])
    refine stk_pureW ⟨[(7, .v (.bool true)), (8, .pl (msgCells (mK f d e))), (9, .v (.bool false)), (47, .agg (msgCells (mK f d e)))], AHeap.none⟩ (Weak.list _ (Sub.none _) ?_) (encode_ok L (mK f d e) (mK_fits f d e)) fun v hv => ?_
    · (try simp +decide (implicitDefEqProofs := false) only [go_sem, ↓stk_g, ↓stk_c, ↓reduceIte])
      exact ⟨FZ.cells (hp_self _ _ _) rfl rfl (FZ.msgX (m := mK f d e) (.nil 1) (.nil 2) (.nil 1) (.nil 1) (.nil 1) (.nil 1) (.nil 1)), .agg rfl (msgCells_one _) (FZ.msgX (m := mK f d e) (.nil 1) (.nil 2) (.nil 1) (.nil 1) (.nil 1) (.nil 1) (.nil 1))⟩
    unfold encR at hv
    rw [hw, if_neg (by simp)] at hv
    subst hv
    (try simp +decide (implicitDefEqProofs := false) only [go_sem, ↓stk_g, ↓stk_c, ↓reduceIte, msgCells, lay, oneOr, List.take_succ_cons, List.take_zero, List.drop_succ_cons, List.drop_zero, List.nil_append, List.cons_append, Option.getD_some, Nat.reduceAdd, Nat.reduceLeDiff, List.append_nil, and_self, List.all_cons, List.all_nil])
    refine stk_pure (mright_ok L (mK f d e) (mK_fits f d e)) fun v hv => ?_
    rw [hw] at hv
    subst hv
    (try simp +decide (implicitDefEqProofs := false) only [go_sem, ↓stk_g, ↓stk_c, ↓reduceIte])
    refine aret_pure (.inr rfl) ?_; simp +decide only [retOf, tget, if_true, if_false, ↓reduceIte, List.map_cons, List.map_nil]
  by_cases c_d1 : d ≤ 5
  case neg =>
    have hw := mK_wrong (f := f) (d := d) (e := e) (by rintro ⟨⟨a1, a2⟩, ⟨a3, a4⟩, a5, a6, a7⟩; contradiction)
    (try simp +decide (implicitDefEqProofs := false) only [go_sem, ↓stk_g, ↓stk_c, ↓reduceIte, hp_self, c_f0, c_f1, c_d0, c_d1, lay, oneOr, List.take_succ_cons, List.take_zero, List.drop_succ_cons, List.drop_zero, List.nil_append, List.cons_append, Option.getD_some, Nat.reduceAdd, Nat.reduceLeDiff, List.append_nil, and_self, List.all_cons, List.all_nil])
    refine stk_pureW ⟨[(7, .v (.bool true)), (8, .pl (msgCells (mK f d e))), (9, .v (.bool false)), (47, .agg (msgCells (mK f d e)))], AHeap.none⟩ (Weak.list _ (Sub.none _) ?_) (encode_ok L (mK f d e) (mK_fits f d e)) fun v hv => ?_
    · (try simp +decide (implicitDefEqProofs := false) only [go_sem, ↓stk_g, ↓stk_c, ↓reduceIte])
      exact ⟨FZ.cells (hp_self _ _ _) rfl rfl (FZ.msgX (m := mK f d e) (.nil 1) (.nil 2) (.nil 1) (.nil 1) (.nil 1) (.nil 1) (.nil 1)), .agg rfl (msgCells_one _) (FZ.msgX (m := mK f d e) (.nil 1) (.nil 2) (.nil 1) (.nil 1) (.nil 1) (.nil 1) (.nil 1))⟩
    unfold encR at hv
    rw [hw, if_neg (by simp)] at hv
    subst hv
    (try simp +decide (implicitDefEqProofs := false) only [go_sem, ↓stk_g, ↓stk_c, ↓reduceIte, msgCells, lay, oneOr, List.take_succ_cons, List.take_zero, List.drop_succ_cons, List.drop_zero, List.nil_append, List.cons_append, Option.getD_some, Nat.reduceAdd, Nat.reduceLeDiff, List.append_nil, and_self, List.all_cons, List.all_nil])
    refine stk_pure (mright_ok L (mK f d e) (mK_fits f d e)) fun v hv => ?_
    rw [hw] at hv
    subst hv
    (try simp +decide (implicitDefEqProofs := false) only [go_sem, ↓stk_g, ↓stk_c, ↓reduceIte])
    refine aret_pure (.inr rfl) ?_; simp +decide only [retOf, tget, if_true, if_false, ↓reduceIte, List.map_cons, List.map_nil]
  by_cases c_ne : f ≠ d
  case neg =>
    have hw := mK_wrong (f := f) (d := d) (e := e) (by rintro ⟨⟨a1, a2⟩, ⟨a3, a4⟩, a5, a6, a7⟩; contradiction)
    have g_ne : decide (f ≠ d) = false := decide_eq_false c_ne
    (try simp +decide (implicitDefEqProofs := false) only [go_sem, ↓stk_g, ↓stk_c, ↓reduceIte, hp_self, c_f0, c_f1, c_d0, c_d1, g_ne, lay, oneOr, List.take_succ_cons, List.take_zero, List.drop_succ_cons, List.drop_zero, List.nil_append, List.cons_append, Option.getD_some, Nat.reduceAdd, Nat.reduceLeDiff, List.append_nil, and_self, List.all_cons, List.all_nil])
    refine stk_pureW ⟨[(7, .v (.bool true)), (8, .pl (msgCells (mK f d e))), (9, .v (.bool false)), (47, .agg (msgCells (mK f d e)))], AHeap.none⟩ (Weak.list _ (Sub.none _) ?_) (encode_ok L (mK f d e) (mK_fits f d e)) fun v hv => ?_
    · (try simp +decide (implicitDefEqProofs := false) only [go_sem, ↓stk_g, ↓stk_c, ↓reduceIte])
      exact ⟨FZ.cells (hp_self _ _ _) rfl rfl (FZ.msgX (m := mK f d e) (.nil 1) (.nil 2) (.nil 1) (.nil 1) (.nil 1) (.nil 1) (.nil 1)), .agg rfl (msgCells_one _) (FZ.msgX (m := mK f d e) (.nil 1) (.nil 2) (.nil 1) (.nil 1) (.nil 1) (.nil 1) (.nil 1))⟩
    unfold encR at hv
    rw [hw, if_neg (by simp)] at hv
    subst hv
    (try simp +decide (implicitDefEqProofs := false) only [go_sem, ↓stk_g, ↓stk_c, ↓reduceIte, msgCells, lay, oneOr, List.take_succ_cons, List.take_zero, List.drop_succ_cons, List.drop_zero, List.nil_append, List.cons_append, Option.getD_some, Nat.reduceAdd, Nat.reduceLeDiff, List.append_nil, and_self, List.all_cons, List.all_nil])
    refine stk_pure (mright_ok L (mK f d e) (mK_fits f d e)) fun v hv => ?_
    rw [hw] at hv
    subst hv
    (try simp +decide (implicitDefEqProofs := false) only [go_sem, ↓stk_g, ↓stk_c, ↓reduceIte])
    refine aret_pure (.inr rfl) ?_; simp +decide only [retOf, tget, if_true, if_false, ↓reduceIte, List.map_cons, List.map_nil]
  have g_ne : decide (f ≠ d) = true := decide_eq_true c_ne
  by_cases c_e0 : 0 ≤ e
  case neg =>
    have hw := mK_wrong (f := f) (d := d) (e := e) (by rintro ⟨⟨a1, a2⟩, ⟨a3, a4⟩, a5, a6, a7⟩; contradiction)
    (try simp +decide (implicitDefEqProofs := false) only [go_sem, ↓stk_g, ↓stk_c, ↓reduceIte, hp_self, c_f0, c_f1, c_d0, c_d1, g_ne, c_e0, lay, oneOr, List.take_succ_cons, List.take_zero, List.drop_succ_cons, List.drop_zero, List.nil_append, List.cons_append, Option.getD_some, Nat.reduceAdd, Nat.reduceLeDiff, List.append_nil, and_self, List.all_cons, List.all_nil])
    refine stk_pureW ⟨[(7, .v (.bool true)), (8, .pl (msgCells (mK f d e))), (9, .v (.bool false)), (47, .agg (msgCells (mK f d e)))], AHeap.none⟩ (Weak.list _ (Sub.none _) ?_) (encode_ok L (mK f d e) (mK_fits f d e)) fun v hv => ?_
    · (try simp +decide (implicitDefEqProofs := false) only [go_sem, ↓stk_g, ↓stk_c, ↓reduceIte])
      exact ⟨FZ.cells (hp_self _ _ _) rfl rfl (FZ.msgX (m := mK f d e) (.nil 1) (.nil 2) (.nil 1) (.nil 1) (.nil 1) (.nil 1) (.nil 1)), .agg rfl (msgCells_one _) (FZ.msgX (m := mK f d e) (.nil 1) (.nil 2) (.nil 1) (.nil 1) (.nil 1) (.nil 1) (.nil 1))⟩
    unfold encR at hv
    rw [hw, if_neg (by simp)] at hv
    subst hv
    (try simp +decide (implicitDefEqProofs := false) only [go_sem, ↓stk_g, ↓stk_c, ↓reduceIte, msgCells, lay, oneOr, List.take_succ_cons, List.take_zero, List.drop_succ_cons, List.drop_zero, List.nil_append, List.cons_append, Option.getD_some, Nat.reduceAdd, Nat.reduceLeDiff, List.append_nil, and_self, List.all_cons, List.all_nil])
    refine stk_pure (mright_ok L (mK f d e) (mK_fits f d e)) fun v hv => ?_
    rw [hw] at hv
    subst hv
    (try simp +decide (implicitDefEqProofs := false) only [go_sem, ↓stk_g, ↓stk_c, ↓reduceIte])
    refine aret_pure (.inr rfl) ?_; simp +decide only [retOf, tget, if_true, if_false, ↓reduceIte, List.map_cons, List.map_nil]
  by_cases c_e1 : e ≤ 1000000
  case neg =>
    have hw := mK_wrong (f := f) (d := d) (e := e) (by rintro ⟨⟨a1, a2⟩, ⟨a3, a4⟩, a5, a6, a7⟩; contradiction)
    (try simp +decide (implicitDefEqProofs := false) only [go_sem, ↓stk_g, ↓stk_c, ↓reduceIte, hp_self, c_f0, c_f1, c_d0, c_d1, g_ne, c_e0, c_e1, lay, oneOr, List.take_succ_cons, List.take_zero, List.drop_succ_cons, List.drop_zero, List.nil_append, List.cons_append, Option.getD_some, Nat.reduceAdd, Nat.reduceLeDiff, List.append_nil, and_self, List.all_cons, List.all_nil])
    refine stk_pureW ⟨[(7, .v (.bool true)), (8, .pl (msgCells (mK f d e))), (9, .v (.bool false)), (47, .agg (msgCells (mK f d e)))], AHeap.none⟩ (Weak.list _ (Sub.none _) ?_) (encode_ok L (mK f d e) (mK_fits f d e)) fun v hv => ?_
    · (try simp +decide (implicitDefEqProofs := false) only [go_sem, ↓stk_g, ↓stk_c, ↓reduceIte])
      exact ⟨FZ.cells (hp_self _ _ _) rfl rfl (FZ.msgX (m := mK f d e) (.nil 1) (.nil 2) (.nil 1) (.nil 1) (.nil 1) (.nil 1) (.nil 1)), .agg rfl (msgCells_one _) (FZ.msgX (m := mK f d e) (.nil 1) (.nil 2) (.nil 1) (.nil 1) (.nil 1) (.nil 1) (.nil 1))⟩
    unfold encR at hv
    rw [hw, if_neg (by simp)] at hv
    subst hv
    (try simp +decide (implicitDefEqProofs := false) only [go_sem, ↓stk_g, ↓stk_c, ↓reduceIte, msgCells, lay, oneOr, List.take_succ_cons, List.take_zero, List.drop_succ_cons, List.drop_zero, List.nil_append, List.cons_append, Option.getD_some, Nat.reduceAdd, Nat.reduceLeDiff, List.append_nil, and_self, List.all_cons, List.all_nil])
    refine stk_pure (mright_ok L (mK f d e) (mK_fits f d e)) fun v hv => ?_
    rw [hw] at hv
    subst hv
    (try simp +decide (implicitDefEqProofs := false) only [go_sem, ↓stk_g, ↓stk_c, ↓reduceIte])
    refine aret_pure (.inr rfl) ?_; simp +decide only [retOf, tget, if_true, if_false, ↓reduceIte, List.map_cons, List.map_nil]
  have hall : (0 ≤ f ∧ f ≤ 5) ∧ (0 ≤ d ∧ d ≤ 5) ∧ f ≠ d ∧ 0 ≤ e ∧ e ≤ 1000000 := ⟨⟨c_f0, c_f1⟩, ⟨c_d0, c_d1⟩, c_ne, c_e0, c_e1⟩
  have hr := mK_right hall
  have hl22 := mK_len hall
  (try simp +decide (implicitDefEqProofs := false) only [go_sem, ↓stk_g, ↓stk_c, ↓reduceIte, hp_self, c_f0, c_f1, c_d0, c_d1, g_ne, c_e0, c_e1, lay, oneOr, List.take_succ_cons, List.take_zero, List.drop_succ_cons, List.drop_zero, List.nil_append, List.cons_append, Option.getD_some, Nat.reduceAdd, Nat.reduceLeDiff, List.append_nil, and_self, List.all_cons, List.all_nil])
  refine stk_pureW ⟨[(0, .v (.int .i64 f)), (1, .v (.int .i64 d)), (2, .v (.int .i64 e)), (7, .v (.bool true)), (9, .v (.bool true)), (47, .agg (msgCells (mK f d e)))], AHeap.none⟩ (Weak.list _ (Sub.none _) ?_) (encode_ok L (mK f d e) (mK_fits f d e)) fun v hv => ?_
  · (try simp +decide (implicitDefEqProofs := false) only [go_sem, ↓stk_g, ↓stk_c, ↓reduceIte])
    exact .agg rfl (msgCells_one _) (FZ.msgX (m := mK f d e) (.nil 1) (.nil 2) (.nil 1) (.nil 1) (.nil 1) (.nil 1) (.nil 1))
  unfold encR at hv
  rw [hr, if_pos rfl] at hv
  subst hv
  (try simp +decide (implicitDefEqProofs := false) only [go_sem, ↓stk_g, ↓stk_c, ↓reduceIte])
  refine stk_pure (decode_ok L E (msgT (mK f d e)) (by omega) (hsm_text hr)) fun v hv => ?_
  rw [decode_back hr] at hv
  unfold decodeA at hv
  subst hv
  have z1 : decide (f = f) = true := decide_eq_true rfl
  have z2 : decide (d = d) = true := decide_eq_true rfl
  have z3 : decide (e = e) = true := decide_eq_true rfl
  have z4 : ((msgT (mK f d e)).size : Int) ≤ 22 := by omega
  (try simp +decide (implicitDefEqProofs := false) only [go_sem, ↓stk_g, ↓stk_c, ↓reduceIte, msgCells, mK, lay, oneOr, List.take_succ_cons, List.take_zero, List.drop_succ_cons, List.drop_zero, List.nil_append, List.cons_append, Option.getD_some, Nat.reduceAdd, Nat.reduceLeDiff, List.append_nil, and_self, List.all_cons, List.all_nil])
  rw [stk_alloc]
  intro b2 h2
  (try simp +decide (implicitDefEqProofs := false) only [go_sem, ↓stk_g, ↓stk_c, ↓reduceIte, hp_self, msgCells, mK, z1, z2, z3, lay, oneOr, List.take_succ_cons, List.take_zero, List.drop_succ_cons, List.drop_zero, List.nil_append, List.cons_append, Option.getD_some, Nat.reduceAdd, Nat.reduceLeDiff, List.append_nil, and_self, List.all_cons, List.all_nil])
  unfold mK at z4
  (try simp +decide (implicitDefEqProofs := false) only [go_sem, ↓stk_g, ↓stk_c, ↓reduceIte, hp_self, msgCells, mK, z1, z2, z3, z4, lay, oneOr, List.take_succ_cons, List.take_zero, List.drop_succ_cons, List.drop_zero, List.nil_append, List.cons_append, Option.getD_some, Nat.reduceAdd, Nat.reduceLeDiff, List.append_nil, and_self, List.all_cons, List.all_nil])
  refine aret_pure (.inr rfl) ?_; simp +decide only [retOf, tget, if_true, if_false, ↓reduceIte, List.map_cons, List.map_nil]
theorem strLt_empty (x : Str) : strLt x ByteArray.empty = false := by
  cases h : strLt x ByteArray.empty
  · rfl
  · have := (strLt_eq x ByteArray.empty).1 h
    have h2 : bytesL x < [] := this
    exact absurd h2 (List.not_lt_nil _)
theorem gtS_empty (x : Str) : gtS x ByteArray.empty = decide (x ≠ ByteArray.empty) := by
  unfold gtS
  rw [strLt_empty]
  by_cases h : x = ByteArray.empty
  · rw [decide_eq_true h, decide_eq_false (fun k => k h)]; rfl
  · rw [decide_eq_false h, decide_eq_true h]; rfl
def mP (id raw : Str) : Msg := ⟨2, 1, 2, 0, [], [(id, raw)], pol0⟩
theorem mP_fits (id raw : Str) : MFits (mP id raw) := ⟨Nat.zero_le _, by show 1 ≤ _; omega, (pol0_small 0 0).fits (by omega) (by omega)⟩
theorem mP_right (id raw : Str) : rightM (mP id raw) = (decide (id ≠ ByteArray.empty) && decide ((id.size : Int) ≤ 16) && decide ((raw.size : Int) ≤ 2000)) := by
  unfold rightM mP
  dsimp only
  rw [if_neg (by omega), if_neg (fun h => h.elim (fun h => absurd h.2 (by decide)) (fun h => h.elim (fun h => absurd rfl h.1) (fun h => absurd rfl h.2))), if_neg (by decide), if_pos rfl]
  unfold risePosts risePosts stepS
  rw [gtS_empty]
  simp
theorem size_ne {x : Str} : x ≠ ByteArray.empty ↔ 1 ≤ x.size := ⟨size_pos, fun h e => by rw [e] at h; exact absurd h (by decide)⟩
def c_law_Posts : AFn := ⟨2, 77, [4],
  .seq (.ops [⟨(some 4), none, .q (.mv (.const (.bool false)))⟩])
  (.seq (.ops [⟨(some 10), none, .e (.call 8 [])⟩,
      ⟨(some 5), none, .q (.mv (.tmp 10))⟩])
  (.seq (.seq (.ops [⟨(some 11), none, .q (.mv (.tmp 0))⟩,
      ⟨(some 12), none, .q (.len true (.tmp 11))⟩,
      ⟨(some 13), none, .q (.bin .gtr .num (.tmp 12) (.const (.int .i64 100)))⟩,
      ⟨(some 14), none, .q (.mv (.tmp 13))⟩,
      ⟨(some 15), (some (14, false)), .q (.mv (.tmp 1))⟩,
      ⟨(some 16), (some (14, false)), .q (.len true (.tmp 15))⟩,
      ⟨(some 17), (some (14, false)), .q (.bin .gtr .num (.tmp 16) (.const (.int .i64 3000)))⟩,
      ⟨(some 18), none, .q (.pick (.tmp 14) (.const (.bool true)) (.tmp 17))⟩])
  (.cond (.tmp 18)
    (.seq (.ops [⟨(some 19), none, .q (.mv (.tmp 5))⟩,
        ⟨(some 4), none, .q (.mv (.tmp 19))⟩])
    (.ret))
    (.skip)))
  (.seq (.ops [⟨(some 21), none, .q (.mv (.tmp 0))⟩,
      ⟨(some 22), none, .q (.mv (.tmp 1))⟩,
      ⟨(some 23), none, .q (.bld [(.string ByteArray.empty), (.string ByteArray.empty)] [(0, 1, (.tmp 21)), (1, 1, (.tmp 22))])⟩,
      ⟨(some 24), none, .e (.bsl 40 2 [(.tmp 23)])⟩,
      ⟨(some 25), none, .q (.bld [(.int .i64 0), (.int .i64 0), (.int .i64 0), (.int .i64 0), (.slice none 0 0), (.slice none 0 0), (.int .i64 0), (.slice none 0 0), (.slice none 0 0), (.slice none 0 0), (.slice none 0 0), (.slice none 0 0), (.int .i64 0), (.int .i64 0), (.int .i64 0)] [(0, 1, (.const (.int .i64 2))), (1, 1, (.const (.int .i64 1))), (2, 1, (.const (.int .i64 2))), (5, 1, (.tmp 24))])⟩,
      ⟨(some 26), none, .e (.call 10 [(.tmp 25)])⟩,
      ⟨(some 20), none, .q (.mv (.tmp 26))⟩,
      ⟨(some 27), none, .q (.ext (.tmp 20) 0)⟩,
      ⟨(some 28), none, .q (.ext (.tmp 20) 1)⟩,
      ⟨(some 6), none, .q (.mv (.tmp 27))⟩,
      ⟨(some 7), none, .q (.mv (.tmp 28))⟩])
  (.seq (.seq (.ops [⟨(some 29), none, .q (.mv (.tmp 0))⟩,
      ⟨(some 30), none, .q (.len true (.tmp 29))⟩,
      ⟨(some 31), none, .q (.bin .lss .num (.tmp 30) (.const (.int .i64 1)))⟩,
      ⟨(some 32), none, .q (.mv (.tmp 31))⟩,
      ⟨(some 33), (some (32, false)), .q (.mv (.tmp 0))⟩,
      ⟨(some 34), (some (32, false)), .q (.len true (.tmp 33))⟩,
      ⟨(some 35), (some (32, false)), .q (.bin .gtr .num (.tmp 34) (.const (.int .i64 16)))⟩,
      ⟨(some 36), none, .q (.pick (.tmp 32) (.const (.bool true)) (.tmp 35))⟩,
      ⟨(some 37), none, .q (.mv (.tmp 36))⟩,
      ⟨(some 38), (some (37, false)), .q (.mv (.tmp 1))⟩,
      ⟨(some 39), (some (37, false)), .q (.len true (.tmp 38))⟩,
      ⟨(some 40), (some (37, false)), .q (.bin .gtr .num (.tmp 39) (.const (.int .i64 2000)))⟩,
      ⟨(some 41), none, .q (.pick (.tmp 37) (.const (.bool true)) (.tmp 40))⟩])
  (.cond (.tmp 41)
    (.seq (.ops [⟨(some 42), none, .q (.mv (.tmp 5))⟩,
        ⟨(some 43), none, .q (.mv (.tmp 42))⟩,
        ⟨(some 44), (some (43, true)), .q (.mv (.tmp 7))⟩,
        ⟨(some 45), (some (43, true)), .q (.bin .eql .num (.tmp 44) (.const (.int .i64 2)))⟩,
        ⟨(some 46), none, .q (.pick (.tmp 43) (.tmp 45) (.const (.bool false)))⟩,
        ⟨(some 4), none, .q (.mv (.tmp 46))⟩])
    (.ret))
    (.skip)))
  (.seq (.ops [⟨(some 48), none, .q (.mv (.tmp 6))⟩,
      ⟨(some 49), none, .e (.call 11 [(.tmp 48)])⟩,
      ⟨(some 47), none, .q (.mv (.tmp 49))⟩,
      ⟨(some 50), none, .q (.ext (.tmp 47) 0)⟩,
      ⟨(some 51), none, .q (.ext (.tmp 47) 1)⟩,
      ⟨(some 8), none, .e (.alloc 27 [(.int .i64 0), (.int .i64 0), (.int .i64 0), (.int .i64 0), (.slice none 0 0), (.slice none 0 0), (.int .i64 0), (.slice none 0 0), (.slice none 0 0), (.slice none 0 0), (.slice none 0 0), (.slice none 0 0), (.int .i64 0), (.int .i64 0), (.int .i64 0)])⟩,
      ⟨none, none, .e (.st 15 (.tmp 8) (.tmp 50))⟩,
      ⟨(some 9), none, .q (.mv (.tmp 51))⟩])
  (.seq (.ops [⟨(some 52), none, .q (.mv (.tmp 5))⟩,
      ⟨(some 53), none, .q (.mv (.tmp 52))⟩,
      ⟨(some 54), (some (53, true)), .q (.mv (.tmp 7))⟩,
      ⟨(some 55), (some (53, true)), .q (.bin .eql .num (.tmp 54) (.const (.int .i64 0)))⟩,
      ⟨(some 56), none, .q (.pick (.tmp 53) (.tmp 55) (.const (.bool false)))⟩,
      ⟨(some 57), none, .q (.mv (.tmp 56))⟩,
      ⟨(some 58), (some (57, true)), .q (.mv (.tmp 9))⟩,
      ⟨(some 59), (some (57, true)), .q (.bin .eql .num (.tmp 58) (.const (.int .i64 0)))⟩,
      ⟨(some 60), none, .q (.pick (.tmp 57) (.tmp 59) (.const (.bool false)))⟩,
      ⟨(some 61), none, .q (.mv (.tmp 60))⟩,
      ⟨(some 62), (some (61, true)), .q (.fad 5 1 (.tmp 8))⟩,
      ⟨(some 63), (some (61, true)), .q (.ld false 1 (.tmp 62))⟩,
      ⟨(some 64), (some (61, true)), .q (.len false (.tmp 63))⟩,
      ⟨(some 65), (some (61, true)), .q (.bin .eql .num (.tmp 64) (.const (.int .i64 1)))⟩,
      ⟨(some 66), none, .q (.pick (.tmp 61) (.tmp 65) (.const (.bool false)))⟩,
      ⟨(some 67), none, .q (.mv (.tmp 66))⟩,
      ⟨(some 68), (some (67, true)), .q (.fad 5 1 (.tmp 8))⟩,
      ⟨(some 69), (some (67, true)), .q (.ld false 1 (.tmp 68))⟩,
      ⟨(some 70), (some (67, true)), .q (.ixa 2 (.tmp 69) (.const (.int .i64 0)))⟩,
      ⟨(some 71), (some (67, true)), .q (.ld true 2 (.tmp 70))⟩,
      ⟨(some 72), (some (67, true)), .q (.mv (.tmp 0))⟩,
      ⟨(some 73), (some (67, true)), .q (.mv (.tmp 1))⟩,
      ⟨(some 74), (some (67, true)), .q (.bld [(.string ByteArray.empty), (.string ByteArray.empty)] [(0, 1, (.tmp 72)), (1, 1, (.tmp 73))])⟩,
      ⟨(some 75), (some (67, true)), .q (.bin .eql (.struct [1, 1]) (.tmp 71) (.tmp 74))⟩,
      ⟨(some 76), none, .q (.pick (.tmp 67) (.tmp 75) (.const (.bool false)))⟩,
      ⟨(some 4), none, .q (.mv (.tmp 76))⟩])
  (.ret))))))), []⟩
theorem k_law_Posts : compF Tryd.prog 7 = some c_law_Posts := by kernel_rfl
set_option maxHeartbeats 16000000 in
theorem mposts_law {W : World} (L : Laid W) (E : Errs W) (id raw : Str) : ACalls Tryd.prog W 7 [.v (.string id), .v (.string raw)] AHeap.none fun v _ => v = .v (.bool true) := by
  refine fn_run follows k_law_Posts rfl ?_
  simp only [c_law_Posts, aretC_nil, List.zipIdx_cons, List.zipIdx_nil, List.map_cons, List.map_nil, Nat.zero_add]
  (try simp +decide (implicitDefEqProofs := false) only [go_sem, ↓stk_g, ↓stk_c, ↓reduceIte])
  refine stk_pure (mawake_ok L E) fun v hv => ?_
  subst hv
  by_cases s1 : (100 : Int) < (id.size : Int)
  · (try simp +decide (implicitDefEqProofs := false) only [go_sem, ↓stk_g, ↓stk_c, ↓reduceIte, s1])
    refine aret_pure (.inr rfl) ?_; simp +decide only [retOf, tget, if_true, if_false, ↓reduceIte, List.map_cons, List.map_nil]
  by_cases s2 : (3000 : Int) < (raw.size : Int)
  · (try simp +decide (implicitDefEqProofs := false) only [go_sem, ↓stk_g, ↓stk_c, ↓reduceIte, s1, s2])
    refine aret_pure (.inr rfl) ?_; simp +decide only [retOf, tget, if_true, if_false, ↓reduceIte, List.map_cons, List.map_nil]
  (try simp +decide (implicitDefEqProofs := false) only [go_sem, ↓stk_g, ↓stk_c, ↓reduceIte, s1, s2, lay, oneOr, List.take_succ_cons, List.take_zero, List.drop_succ_cons, List.drop_zero, List.nil_append, List.cons_append, Option.getD_some, Nat.reduceAdd, Nat.reduceLeDiff, List.append_nil, and_self, List.all_cons, List.all_nil])
  refine stk_pureW ⟨[(0, .v (.string id)), (1, .v (.string raw)), (5, .v (.bool true)), (25, .agg (msgCells (mP id raw)))], AHeap.none⟩ (Weak.list _ (Sub.none _) ?_) (encode_ok L (mP id raw) (mP_fits id raw)) fun v hv => ?_
  · (try simp +decide (implicitDefEqProofs := false) only [go_sem, ↓stk_g, ↓stk_c, ↓reduceIte])
    exact .agg rfl (msgCells_one _) (FZ.msgX (m := mP id raw) (.nil 1) (.loose _ _ _) (.nil 1) (.nil 1) (.nil 1) (.nil 1) (.nil 1))
  unfold encR at hv
  have hmr := mP_right id raw
  by_cases q1 : (id.size : Int) < 1
  · have hw : rightM (mP id raw) = false := by rw [hmr, decide_eq_false (by rw [size_ne]; omega)]; rfl
    rw [hw, if_neg (by simp)] at hv
    subst hv
    (try simp +decide (implicitDefEqProofs := false) only [go_sem, ↓stk_g, ↓stk_c, ↓reduceIte, q1])
    refine aret_pure (.inr rfl) ?_; simp +decide only [retOf, tget, if_true, if_false, ↓reduceIte, List.map_cons, List.map_nil]
  by_cases q2 : (16 : Int) < (id.size : Int)
  · have hw : rightM (mP id raw) = false := by rw [hmr, decide_eq_false (p := (id.size : Int) ≤ 16) (by omega), Bool.and_false]; rfl
    rw [hw, if_neg (by simp)] at hv
    subst hv
    (try simp +decide (implicitDefEqProofs := false) only [go_sem, ↓stk_g, ↓stk_c, ↓reduceIte, q1, q2])
    refine aret_pure (.inr rfl) ?_; simp +decide only [retOf, tget, if_true, if_false, ↓reduceIte, List.map_cons, List.map_nil]
  by_cases q3 : (2000 : Int) < (raw.size : Int)
  · have hw : rightM (mP id raw) = false := by rw [hmr, decide_eq_false (p := (raw.size : Int) ≤ 2000) (by omega), Bool.and_false]
    rw [hw, if_neg (by simp)] at hv
    subst hv
    (try simp +decide (implicitDefEqProofs := false) only [go_sem, ↓stk_g, ↓stk_c, ↓reduceIte, q1, q2, q3])
    refine aret_pure (.inr rfl) ?_; simp +decide only [retOf, tget, if_true, if_false, ↓reduceIte, List.map_cons, List.map_nil]
  have hr : rightM (mP id raw) = true := by rw [hmr, decide_eq_true (size_ne.2 (by omega)), decide_eq_true (p := (id.size : Int) ≤ 16) (by omega), decide_eq_true (p := (raw.size : Int) ≤ 2000) (by omega)]; rfl
  rw [hr, if_pos rfl] at hv
  subst hv
  (try simp +decide (implicitDefEqProofs := false) only [go_sem, ↓stk_g, ↓stk_c, ↓reduceIte, q1, q2, q3])
  refine stk_pure (decode_ok L E (msgT (mP id raw)) (by have := msgT_len hr; omega) (hsm_text hr)) fun v hv => ?_
  rw [decode_back hr] at hv
  unfold decodeA at hv
  subst hv
  have hpl : postRows [(id, raw)] = [[.v (.string id), .v (.string raw)]] := rfl
  have z1 : decide (id = id) = true := decide_eq_true rfl
  have z2 : decide (raw = raw) = true := decide_eq_true rfl
  (try simp +decide (implicitDefEqProofs := false) only [go_sem, ↓stk_g, ↓stk_c, ↓reduceIte, msgCells, mP, hpl, lay, oneOr, List.take_succ_cons, List.take_zero, List.drop_succ_cons, List.drop_zero, List.nil_append, List.cons_append, Option.getD_some, Nat.reduceAdd, Nat.reduceLeDiff, List.append_nil, and_self, List.all_cons, List.all_nil])
  rw [stk_alloc]
  intro b2 h2
  (try simp +decide (implicitDefEqProofs := false) only [go_sem, ↓stk_g, ↓stk_c, ↓reduceIte, hp_self, msgCells, mP, hpl, steq2, z1, z2, lay, oneOr, List.take_succ_cons, List.take_zero, List.drop_succ_cons, List.drop_zero, List.nil_append, List.cons_append, Option.getD_some, Nat.reduceAdd, Nat.reduceLeDiff, List.append_nil, and_self, List.all_cons, List.all_nil])
  refine aret_pure (.inr rfl) ?_; simp +decide only [retOf, tget, if_true, if_false, ↓reduceIte, List.map_cons, List.map_nil]
end Go.Proofs.YtcplmaffccfbdaaDoor.M
