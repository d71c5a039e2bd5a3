/-
  The laws PolicyReads and PolicyBack, walked.
-/
import Derived.Test.YtpclcofdogcbjaaDoorPrread
import Derived.Test.YtpclcofdogcbjaaDoorPsame
import Derived.Test.YtpclcofdogcbjaaDoorPg
namespace Go.Proofs.YtpclcofdogcbjaaDoor.M
open Go.RowKit
attribute [local go_sem] stk_nil stk_skip stk_ops stk_seq stk_block stk_scope stk_exit stk_ret stk_code_exit stk_code_ret stk_ops_exit stk_ops_ret stk_endb stk_endb_exit stk_endb_ret stk_endl stk_endl_exit stk_endl_ret stk_ops_nil stk_q stk_niq niqA flip srcOf stk_bsl side val bside bval uside uval cside cval bndS bndV intA isInt lside lval fside fval faside faval iside ival sxside sxval sizeA slside slval llside llval lenside lenval lenA tupA mmside mmval nkside boolA isBool ev_t ev_c tget put_s put_n lkside lkval menval stk_mk Option.isSome_some isMapA mapA keyA FZ_rfl FZ_any retOf true_and and_true if_true if_false decide_true decide_false Bool.not_true Bool.not_false Nat.zero_add List.map_cons List.map_nil Int.toNat_natCast strRows_len intRows_len List.getD_cons_zero List.getD_cons_succ List.length_cons List.length_nil List.forall_mem_cons List.not_mem_nil false_implies implies_true Int.ofNat_zero Int.natCast_add Int.natCast_one Int.ofNat_one Int.natCast_zero isB isU Bool.false_eq_true beq_self_eq_true Bool.false_beq Bool.true_beq Int.natCast_nonneg undef strRows_take strRows_drop Int.toNat_zero List.drop_zero Bool.and_true oneOr List.all_cons List.all_nil AVal.one Value.oneCell' Bool.true_and List.take_length stk_st' stside stH hp_self hp_hp isnside isnval
set_option linter.unusedVariables false
set_option linter.unusedSimpArgs false
theorem NeatP.lens {p : Pol} (h : NeatP p) : Lens9 p :=
  ⟨by have := h.elems.len; omega, by have := h.attrs.len; omega, by have := h.schemes.len; omega, by have := h.classes.len; omega, by have := h.props.len; omega⟩
theorem NeatP.fits {p : Pol} (h : NeatP p) : Fits p :=
  ⟨by have := h.elems.len; omega, by have := h.attrs.len; omega, by have := h.schemes.len; omega, by have := h.classes.len; omega, by have := h.props.len; omega, fun l hl s hs => by
    simp only [List.mem_cons, List.not_mem_nil, or_false] at hl
    rcases hl with rfl | rfl | rfl | rfl | rfl
    · have := h.elems.size s hs; omega
    · have := h.attrs.size s hs; omega
    · have := h.schemes.size s hs; omega
    · have := h.classes.size s hs; omega
    · have := h.props.size s hs; omega⟩
theorem pol0_lens : Lens9 pol0 := ⟨by decide, by decide, by decide, by decide, by decide⟩
theorem Fits.lens {p : Pol} (h : Fits p) : Lens9 p :=
  ⟨by have := h.elems; omega, by have := h.attrs; omega, by have := h.schemes; omega, by have := h.classes; omega, by have := h.props; omega⟩
/-- What is read: a right policy with that text; or nothing. -/
theorem readR_cases (s : Str) : (∃ p, rightP p = true ∧ textP p = s ∧ readR s = .tup [.agg (polCells p), .v (.int .i64 0)]) ∨ readR s = .tup [.agg (polCells pol0), .v (.int .i64 2)] := by
  unfold readR
  split
  · rename_i h; exact .inl ⟨_, h.1, h.2, rfl⟩
  · exact .inr rfl
theorem readR_text {p : Pol} (h : rightP p = true) : readR (textP p) = .tup [.agg (polCells p), .v (.int .i64 0)] := by
  have e : readP (textP p) = p := by rw [readP_G]; exact back_G h numP_itoa
  unfold readR
  rw [e, if_pos ⟨h, rfl⟩]
/-- Both ways to read numbers read the same policies. -/
theorem rreadR_eq (s : Str) : rreadR s = readR s := by
  by_cases h : rightP (readP s) = true ∧ textP (readP s) = s
  · have e : rreadP s = readP s := by
      have := back_G (num := rnumP) h.1 rnum_itoa
      rw [h.2] at this; exact this
    unfold rreadR readR
    rw [e]
  · have h2 : ¬ (rightP (rreadP s) = true ∧ textP (rreadP s) = s) := fun h2 => by
      have := back_G (num := numP) h2.1 numP_itoa
      rw [h2.2, ← readP_G] at this
      rw [this] at h; exact h h2
    unfold rreadR readR
    rw [if_neg h, if_neg h2]
def c_law_Reads : AFn := ⟨1, 36, [2],
  .seq (.ops [⟨(some 2), none, .q (.mv (.const (.bool false)))⟩])
  (.seq (.ops [⟨(some 9), none, .e (.call 10 [])⟩,
      ⟨(some 3), none, .q (.mv (.tmp 9))⟩])
  (.seq (.seq (.ops [⟨(some 10), none, .q (.mv (.tmp 0))⟩,
      ⟨(some 11), none, .q (.len true (.tmp 10))⟩,
      ⟨(some 12), none, .q (.bin .gtr .num (.tmp 11) (.const (.int .i64 4000)))⟩])
  (.cond (.tmp 12)
    (.seq (.ops [⟨(some 13), none, .q (.mv (.tmp 3))⟩,
        ⟨(some 2), none, .q (.mv (.tmp 13))⟩])
    (.ret))
    (.skip)))
  (.seq (.ops [⟨(some 15), none, .q (.mv (.tmp 0))⟩,
      ⟨(some 16), none, .e (.call 24 [(.tmp 15)])⟩,
      ⟨(some 14), none, .q (.mv (.tmp 16))⟩,
      ⟨(some 17), none, .q (.ext (.tmp 14) 0)⟩,
      ⟨(some 18), none, .q (.ext (.tmp 14) 1)⟩,
      ⟨(some 4), none, .e (.alloc 24 [(.int .i64 0), (.slice none 0 0), (.slice none 0 0), (.slice none 0 0), (.slice none 0 0), (.slice none 0 0), (.int .i64 0), (.int .i64 0), (.int .i64 0)])⟩,
      ⟨none, none, .e (.st 9 (.tmp 4) (.tmp 17))⟩,
      ⟨(some 5), none, .q (.mv (.tmp 18))⟩])
  (.seq (.ops [⟨(some 20), none, .q (.mv (.tmp 0))⟩,
      ⟨(some 21), none, .e (.call 25 [(.tmp 20)])⟩,
      ⟨(some 19), none, .q (.mv (.tmp 21))⟩,
      ⟨(some 22), none, .q (.ext (.tmp 19) 0)⟩,
      ⟨(some 23), none, .q (.ext (.tmp 19) 1)⟩,
      ⟨(some 6), none, .e (.alloc 24 [(.int .i64 0), (.slice none 0 0), (.slice none 0 0), (.slice none 0 0), (.slice none 0 0), (.slice none 0 0), (.int .i64 0), (.int .i64 0), (.int .i64 0)])⟩,
      ⟨none, none, .e (.st 9 (.tmp 6) (.tmp 22))⟩,
      ⟨(some 7), none, .q (.mv (.tmp 23))⟩])
  (.seq (.ops [⟨(some 24), none, .q (.ld true 9 (.tmp 4))⟩,
      ⟨(some 25), none, .q (.ld true 9 (.tmp 6))⟩,
      ⟨(some 26), none, .e (.call 26 [(.tmp 24), (.tmp 25)])⟩,
      ⟨(some 8), none, .q (.mv (.tmp 26))⟩])
  (.seq (.ops [⟨(some 27), none, .q (.mv (.tmp 3))⟩,
      ⟨(some 28), none, .q (.mv (.tmp 27))⟩,
      ⟨(some 29), (some (28, true)), .q (.mv (.tmp 8))⟩,
      ⟨(some 30), none, .q (.pick (.tmp 28) (.tmp 29) (.const (.bool false)))⟩,
      ⟨(some 31), none, .q (.mv (.tmp 30))⟩,
      ⟨(some 32), (some (31, true)), .q (.mv (.tmp 5))⟩,
      ⟨(some 33), (some (31, true)), .q (.mv (.tmp 7))⟩,
      ⟨(some 34), (some (31, true)), .q (.bin .eql .num (.tmp 32) (.tmp 33))⟩,
      ⟨(some 35), none, .q (.pick (.tmp 31) (.tmp 34) (.const (.bool false)))⟩,
      ⟨(some 2), none, .q (.mv (.tmp 35))⟩])
  (.ret))))))), []⟩
theorem k_law_Reads : compF Tryd.prog 8 = some c_law_Reads := by kernel_rfl
set_option maxHeartbeats 8000000 in
theorem reads_law {W : World} (L : Laid W) (E : Errs W) (s : Str) : ACalls Tryd.prog W 8 [.v (.string s)] AHeap.none fun v _ => v = .v (.bool true) := by
  refine fn_run follows k_law_Reads rfl ?_
  simp only [c_law_Reads, aretC_nil, List.zipIdx_cons, List.zipIdx_nil, List.map_cons, List.map_nil, Nat.zero_add]
  (try simp +decide (implicitDefEqProofs := false) only [go_sem, ↓stk_g, ↓stk_c, ↓reduceIte])
  refine stk_pure (awake_ok L) fun v hv => ?_
  subst hv
  by_cases hs : (4000 : Int) < (s.size : Int)
  · (try simp +decide (implicitDefEqProofs := false) only [go_sem, ↓stk_g, ↓stk_c, ↓reduceIte, hs])
    refine aret_pure (.inr rfl) ?_; simp +decide only [retOf, tget, if_true, if_false, ↓reduceIte, List.map_cons, List.map_nil]
  (try simp +decide (implicitDefEqProofs := false) only [go_sem, ↓stk_g, ↓stk_c, ↓reduceIte, hs])
  refine stk_pure (read_ok L E s (by omega)) fun v hv => ?_
  obtain ⟨p, e, hre, F⟩ : ∃ (p : Pol) (e : Int), readR s = .tup [.agg (polCells p), .v (.int .i64 e)] ∧ Lens9 p := by
    rcases readR_cases s with ⟨p, h1, _, h3⟩ | h
    · exact ⟨p, _, h3, (right_neat h1).lens⟩
    · exact ⟨_, _, h, pol0_lens⟩
  rw [hre] at hv
  subst hv
  (try simp +decide (implicitDefEqProofs := false) only [go_sem, ↓stk_g, ↓stk_c, ↓reduceIte])
  rw [stk_alloc]
  intro b1 h1
  (try simp +decide (implicitDefEqProofs := false) only [go_sem, ↓stk_g, ↓stk_c, ↓reduceIte, hp_self, polCells, lay, oneOr, List.take_succ_cons, List.take_zero, List.drop_succ_cons, List.drop_zero, List.nil_append, List.cons_append, Option.getD_some, Nat.reduceAdd, Nat.reduceLeDiff, List.append_nil, and_self, List.all_cons, List.all_nil])
  refine stk_pure (rread_ok s (by omega)) fun v hv => ?_
  rw [rreadR_eq, hre] at hv
  subst hv
  (try simp +decide (implicitDefEqProofs := false) only [go_sem, ↓stk_g, ↓stk_c, ↓reduceIte, polCells, lay, oneOr, List.take_succ_cons, List.take_zero, List.drop_succ_cons, List.drop_zero, List.nil_append, List.cons_append, Option.getD_some, Nat.reduceAdd, Nat.reduceLeDiff, List.append_nil, and_self, List.all_cons, List.all_nil])
  rw [stk_alloc]
  intro b2 h2
  have n2 := new_ne (hp_self _ _ _) h2
  have n2' := n2.symm
  (try simp +decide (implicitDefEqProofs := false) only [go_sem, ↓stk_g, ↓stk_c, ↓reduceIte, hp_self, hp_ne, n2, n2', ne_eq, not_false_eq_true, polCells, lay, oneOr, List.take_succ_cons, List.take_zero, List.drop_succ_cons, List.drop_zero, List.nil_append, List.cons_append, Option.getD_some, Nat.reduceAdd, Nat.reduceLeDiff, List.append_nil, and_self, List.all_cons, List.all_nil])
  refine stk_pure (psame_ok p p F F) fun v hv => ?_
  rw [decide_eq_true (rfl : p = p)] at hv
  subst hv
  have he : decide (e = e) = true := decide_eq_true rfl
  (try simp +decide (implicitDefEqProofs := false) only [go_sem, ↓stk_g, ↓stk_c, ↓reduceIte, he])
  refine aret_pure (.inr rfl) ?_; simp +decide only [retOf, tget, if_true, if_false, ↓reduceIte, List.map_cons, List.map_nil]
def c_law_Back : AFn := ⟨2, 82, [4],
  .seq (.ops [⟨(some 2), none, .e (.box 24 (.tmp 0))⟩,
      ⟨(some 4), none, .q (.mv (.const (.bool false)))⟩])
  (.seq (.ops [⟨(some 16), none, .e (.call 10 [])⟩,
      ⟨(some 5), none, .q (.mv (.tmp 16))⟩])
  (.seq (.ops [⟨(some 17), none, .q (.ld true 9 (.tmp 2))⟩,
      ⟨(some 18), none, .e (.call 11 [(.tmp 17)])⟩,
      ⟨(some 6), none, .q (.mv (.tmp 18))⟩])
  (.seq (.seq (.ops [⟨(some 19), none, .q (.mv (.tmp 6))⟩,
      ⟨(some 20), none, .q (.un .not (.tmp 19))⟩,
      ⟨(some 21), none, .q (.mv (.tmp 20))⟩,
      ⟨(some 22), (some (21, false)), .q (.mv (.tmp 1))⟩,
      ⟨(some 23), (some (21, false)), .q (.len true (.tmp 22))⟩,
      ⟨(some 24), (some (21, false)), .q (.bin .gtr .num (.tmp 23) (.const (.int .i64 5000)))⟩,
      ⟨(some 25), none, .q (.pick (.tmp 21) (.const (.bool true)) (.tmp 24))⟩])
  (.cond (.tmp 25)
    (.seq (.ops [⟨(some 26), none, .q (.mv (.tmp 5))⟩,
        ⟨(some 4), none, .q (.mv (.tmp 26))⟩])
    (.ret))
    (.skip)))
  (.seq (.ops [⟨(some 28), none, .q (.ld true 9 (.tmp 2))⟩,
      ⟨(some 29), none, .e (.call 12 [(.tmp 28)])⟩,
      ⟨(some 27), none, .q (.mv (.tmp 29))⟩,
      ⟨(some 30), none, .q (.ext (.tmp 27) 0)⟩,
      ⟨(some 31), none, .q (.ext (.tmp 27) 1)⟩,
      ⟨(some 7), none, .q (.mv (.tmp 30))⟩,
      ⟨(some 8), none, .q (.mv (.tmp 31))⟩])
  (.seq (.seq (.ops [⟨(some 32), none, .q (.mv (.tmp 8))⟩,
      ⟨(some 33), none, .q (.bin .eql .num (.tmp 32) (.const (.int .i64 0)))⟩])
  (.cond (.tmp 33)
    (.seq (.ops [⟨(some 35), none, .q (.mv (.tmp 7))⟩,
        ⟨(some 36), none, .e (.call 24 [(.tmp 35)])⟩,
        ⟨(some 34), none, .q (.mv (.tmp 36))⟩,
        ⟨(some 37), none, .q (.ext (.tmp 34) 0)⟩,
        ⟨(some 38), none, .q (.ext (.tmp 34) 1)⟩,
        ⟨(some 9), none, .e (.alloc 24 [(.int .i64 0), (.slice none 0 0), (.slice none 0 0), (.slice none 0 0), (.slice none 0 0), (.slice none 0 0), (.int .i64 0), (.int .i64 0), (.int .i64 0)])⟩,
        ⟨none, none, .e (.st 9 (.tmp 9) (.tmp 37))⟩,
        ⟨(some 10), none, .q (.mv (.tmp 38))⟩])
    (.seq (.ops [⟨(some 39), none, .q (.ld true 9 (.tmp 2))⟩,
        ⟨(some 40), none, .q (.ld true 9 (.tmp 9))⟩,
        ⟨(some 41), none, .e (.call 26 [(.tmp 39), (.tmp 40)])⟩,
        ⟨(some 11), none, .q (.mv (.tmp 41))⟩])
    (.seq (.ops [⟨(some 42), none, .q (.mv (.tmp 10))⟩,
        ⟨(some 43), none, .q (.bin .neq .num (.tmp 42) (.const (.int .i64 0)))⟩,
        ⟨(some 44), none, .q (.mv (.tmp 43))⟩,
        ⟨(some 45), (some (44, false)), .q (.mv (.tmp 11))⟩,
        ⟨(some 46), (some (44, false)), .q (.un .not (.tmp 45))⟩,
        ⟨(some 47), none, .q (.pick (.tmp 44) (.const (.bool true)) (.tmp 46))⟩])
    (.cond (.tmp 47)
      (.seq (.ops [⟨(some 4), none, .q (.mv (.const (.bool false)))⟩])
      (.ret))
      (.skip)))))
    (.skip)))
  (.seq (.ops [⟨(some 49), none, .q (.mv (.tmp 1))⟩,
      ⟨(some 50), none, .e (.call 24 [(.tmp 49)])⟩,
      ⟨(some 48), none, .q (.mv (.tmp 50))⟩,
      ⟨(some 51), none, .q (.ext (.tmp 48) 0)⟩,
      ⟨(some 52), none, .q (.ext (.tmp 48) 1)⟩,
      ⟨(some 12), none, .e (.alloc 24 [(.int .i64 0), (.slice none 0 0), (.slice none 0 0), (.slice none 0 0), (.slice none 0 0), (.slice none 0 0), (.int .i64 0), (.int .i64 0), (.int .i64 0)])⟩,
      ⟨none, none, .e (.st 9 (.tmp 12) (.tmp 51))⟩,
      ⟨(some 13), none, .q (.mv (.tmp 52))⟩])
  (.seq (.seq (.ops [⟨(some 53), none, .q (.mv (.tmp 13))⟩,
      ⟨(some 54), none, .q (.bin .neq .num (.tmp 53) (.const (.int .i64 0)))⟩])
  (.cond (.tmp 54)
    (.seq (.ops [⟨(some 55), none, .q (.mv (.tmp 5))⟩,
        ⟨(some 56), none, .q (.mv (.tmp 55))⟩,
        ⟨(some 57), (some (56, true)), .q (.mv (.tmp 8))⟩,
        ⟨(some 58), (some (56, true)), .q (.bin .eql .num (.tmp 57) (.const (.int .i64 0)))⟩,
        ⟨(some 59), (some (56, true)), .q (.ld true 9 (.tmp 2))⟩,
        ⟨(some 60), (some (56, true)), .e (.call 14 [(.tmp 59)])⟩,
        ⟨(some 61), (some (56, true)), .q (.bin .eql .bool (.tmp 58) (.tmp 60))⟩,
        ⟨(some 62), none, .q (.pick (.tmp 56) (.tmp 61) (.const (.bool false)))⟩,
        ⟨(some 4), none, .q (.mv (.tmp 62))⟩])
    (.ret))
    (.skip)))
  (.seq (.ops [⟨(some 64), none, .q (.ld true 9 (.tmp 12))⟩,
      ⟨(some 65), none, .e (.call 12 [(.tmp 64)])⟩,
      ⟨(some 63), none, .q (.mv (.tmp 65))⟩,
      ⟨(some 66), none, .q (.ext (.tmp 63) 0)⟩,
      ⟨(some 67), none, .q (.ext (.tmp 63) 1)⟩,
      ⟨(some 14), none, .q (.mv (.tmp 66))⟩,
      ⟨(some 15), none, .q (.mv (.tmp 67))⟩])
  (.seq (.ops [⟨(some 68), none, .q (.mv (.tmp 5))⟩,
      ⟨(some 69), none, .q (.mv (.tmp 68))⟩,
      ⟨(some 70), (some (69, true)), .q (.mv (.tmp 15))⟩,
      ⟨(some 71), (some (69, true)), .q (.bin .eql .num (.tmp 70) (.const (.int .i64 0)))⟩,
      ⟨(some 72), none, .q (.pick (.tmp 69) (.tmp 71) (.const (.bool false)))⟩,
      ⟨(some 73), none, .q (.mv (.tmp 72))⟩,
      ⟨(some 74), (some (73, true)), .q (.mv (.tmp 14))⟩,
      ⟨(some 75), (some (73, true)), .q (.mv (.tmp 1))⟩,
      ⟨(some 76), (some (73, true)), .q (.bin .eql .num (.tmp 74) (.tmp 75))⟩,
      ⟨(some 77), none, .q (.pick (.tmp 73) (.tmp 76) (.const (.bool false)))⟩,
      ⟨(some 78), none, .q (.mv (.tmp 77))⟩,
      ⟨(some 79), (some (78, true)), .q (.ld true 9 (.tmp 12))⟩,
      ⟨(some 80), (some (78, true)), .e (.call 14 [(.tmp 79)])⟩,
      ⟨(some 81), none, .q (.pick (.tmp 78) (.tmp 80) (.const (.bool false)))⟩,
      ⟨(some 4), none, .q (.mv (.tmp 81))⟩])
  (.ret)))))))))), []⟩
theorem k_law_Back : compF Tryd.prog 9 = some c_law_Back := by kernel_rfl
set_option maxHeartbeats 16000000 in
theorem back_law {W : World} (L : Laid W) (E : Errs W) (p : Pol) (s : Str) (hlen : Lens p) : ACalls Tryd.prog W 9 [.agg (polCells p), .v (.string s)] AHeap.none fun v _ => v = .v (.bool true) := by
  refine fn_run follows k_law_Back rfl ?_
  simp only [c_law_Back, aretC_nil, List.zipIdx_cons, List.zipIdx_nil, List.map_cons, List.map_nil, Nat.zero_add]
  (try simp +decide (implicitDefEqProofs := false) only [go_sem, ↓stk_g, ↓stk_c, ↓reduceIte])
  rw [stk_box]
  refine ⟨by rfl, fun b1 h1 => ?_⟩
  (try simp +decide (implicitDefEqProofs := false) only [go_sem, ↓stk_g, ↓stk_c, ↓reduceIte])
  refine stk_pureW ⟨[(2, .pl (polCells p)), (1, .v (.string s))], AHeap.none⟩ (Weak.list _ (Sub.none _) ?_) (awake_ok L) fun v hv => ?_
  · (try simp +decide (implicitDefEqProofs := false) only [go_sem, ↓stk_g, ↓stk_c, ↓reduceIte])
    exact FZ.cellsR (hp_self _ _ _) rfl
  subst hv
  (try simp +decide (implicitDefEqProofs := false) only [go_sem, ↓stk_g, ↓stk_c, ↓reduceIte, polCells, lay, oneOr, List.take_succ_cons, List.take_zero, List.drop_succ_cons, List.drop_zero, List.nil_append, List.cons_append, Option.getD_some, Nat.reduceAdd, Nat.reduceLeDiff, List.append_nil, and_self, List.all_cons, List.all_nil])
  refine stk_pure (light_ok p hlen) fun v hv => ?_
  obtain ⟨b, rfl, hF⟩ := hv
  cases b
  · (try simp +decide (implicitDefEqProofs := false) only [go_sem, ↓stk_g, ↓stk_c, ↓reduceIte])
    refine aret_pure (.inr rfl) ?_; simp +decide only [retOf, tget, if_true, if_false, ↓reduceIte, List.map_cons, List.map_nil]
  have F := hF rfl
  clear hF
  by_cases hs : (5000 : Int) < (s.size : Int)
  · (try simp +decide (implicitDefEqProofs := false) only [go_sem, ↓stk_g, ↓stk_c, ↓reduceIte, hs])
    refine aret_pure (.inr rfl) ?_; simp +decide only [retOf, tget, if_true, if_false, ↓reduceIte, List.map_cons, List.map_nil]
  (try simp +decide (implicitDefEqProofs := false) only [go_sem, ↓stk_g, ↓stk_c, ↓reduceIte, hs, polCells, lay, oneOr, List.take_succ_cons, List.take_zero, List.drop_succ_cons, List.drop_zero, List.nil_append, List.cons_append, Option.getD_some, Nat.reduceAdd, Nat.reduceLeDiff, List.append_nil, and_self, List.all_cons, List.all_nil])
  refine stk_pure (text_ok L p F) fun v hv => ?_
  unfold textR at hv
  cases hr : rightP p
  · rw [hr, if_neg (by simp)] at hv
    subst hv
    (try simp +decide (implicitDefEqProofs := false) only [go_sem, ↓stk_g, ↓stk_c, ↓reduceIte])
    refine stk_pure (read_ok L E s (by omega)) fun v hv => ?_
    obtain ⟨q, q1, q2, q3⟩ | q3 := readR_cases s
    · rw [q3] at hv
      subst hv
      (try simp +decide (implicitDefEqProofs := false) only [go_sem, ↓stk_g, ↓stk_c, ↓reduceIte, polCells, lay, oneOr, List.take_succ_cons, List.take_zero, List.drop_succ_cons, List.drop_zero, List.nil_append, List.cons_append, Option.getD_some, Nat.reduceAdd, Nat.reduceLeDiff, List.append_nil, and_self, List.all_cons, List.all_nil])
      rw [stk_alloc]
      intro b3 h3
      (try simp +decide (implicitDefEqProofs := false) only [go_sem, ↓stk_g, ↓stk_c, ↓reduceIte, hp_self, polCells, lay, oneOr, List.take_succ_cons, List.take_zero, List.drop_succ_cons, List.drop_zero, List.nil_append, List.cons_append, Option.getD_some, Nat.reduceAdd, Nat.reduceLeDiff, List.append_nil, and_self, List.all_cons, List.all_nil])
      refine stk_pure (text_ok L q (right_neat q1).fits) fun v hv => ?_
      unfold textR at hv
      rw [q1, if_pos rfl, q2] at hv
      subst hv
      have hss : decide (s = s) = true := decide_eq_true rfl
      (try simp +decide (implicitDefEqProofs := false) only [go_sem, ↓stk_g, ↓stk_c, ↓reduceIte, hp_self, polCells, hss, lay, oneOr, List.take_succ_cons, List.take_zero, List.drop_succ_cons, List.drop_zero, List.nil_append, List.cons_append, Option.getD_some, Nat.reduceAdd, Nat.reduceLeDiff, List.append_nil, and_self, List.all_cons, List.all_nil])
      refine stk_pure (right_ok L q (right_neat q1).fits) fun v hv => ?_
      rw [q1] at hv
      subst hv
      (try simp +decide (implicitDefEqProofs := false) only [go_sem, ↓stk_g, ↓stk_c, ↓reduceIte])
      refine aret_pure (.inr rfl) ?_; simp +decide only [retOf, tget, if_true, if_false, ↓reduceIte, List.map_cons, List.map_nil]
    · rw [q3] at hv
      subst hv
      (try simp +decide (implicitDefEqProofs := false) only [go_sem, ↓stk_g, ↓stk_c, ↓reduceIte, polCells, lay, oneOr, List.take_succ_cons, List.take_zero, List.drop_succ_cons, List.drop_zero, List.nil_append, List.cons_append, Option.getD_some, Nat.reduceAdd, Nat.reduceLeDiff, List.append_nil, and_self, List.all_cons, List.all_nil])
      rw [stk_alloc]
      intro b3 h3
      (try simp +decide (implicitDefEqProofs := false) only [go_sem, ↓stk_g, ↓stk_c, ↓reduceIte, hp_self, polCells, lay, oneOr, List.take_succ_cons, List.take_zero, List.drop_succ_cons, List.drop_zero, List.nil_append, List.cons_append, Option.getD_some, Nat.reduceAdd, Nat.reduceLeDiff, List.append_nil, and_self, List.all_cons, List.all_nil])
      refine stk_pure (right_ok L p F) fun v hv => ?_
      rw [hr] at hv
      subst hv
      (try simp +decide (implicitDefEqProofs := false) only [go_sem, ↓stk_g, ↓stk_c, ↓reduceIte])
      refine aret_pure (.inr rfl) ?_; simp +decide only [retOf, tget, if_true, if_false, ↓reduceIte, List.map_cons, List.map_nil]
  · rw [hr, if_pos rfl] at hv
    subst hv
    (try simp +decide (implicitDefEqProofs := false) only [go_sem, ↓stk_g, ↓stk_c, ↓reduceIte, polCells, lay, oneOr, List.take_succ_cons, List.take_zero, List.drop_succ_cons, List.drop_zero, List.nil_append, List.cons_append, Option.getD_some, Nat.reduceAdd, Nat.reduceLeDiff, List.append_nil, and_self, List.all_cons, List.all_nil])
    refine stk_pure (read_ok L E (textP p) (textP_len hr)) fun v hv => ?_
    rw [readR_text hr] at hv
    subst hv
    (try simp +decide (implicitDefEqProofs := false) only [go_sem, ↓stk_g, ↓stk_c, ↓reduceIte, polCells, lay, oneOr, List.take_succ_cons, List.take_zero, List.drop_succ_cons, List.drop_zero, List.nil_append, List.cons_append, Option.getD_some, Nat.reduceAdd, Nat.reduceLeDiff, List.append_nil, and_self, List.all_cons, List.all_nil])
    rw [stk_alloc]
    intro b2 h2
    (try simp +decide (implicitDefEqProofs := false) only [go_sem, ↓stk_g, ↓stk_c, ↓reduceIte, hp_self, polCells, lay, oneOr, List.take_succ_cons, List.take_zero, List.drop_succ_cons, List.drop_zero, List.nil_append, List.cons_append, Option.getD_some, Nat.reduceAdd, Nat.reduceLeDiff, List.append_nil, and_self, List.all_cons, List.all_nil])
    refine stk_pure (psame_ok p p F.lens F.lens) fun v hv => ?_
    rw [decide_eq_true (rfl : p = p)] at hv
    subst hv
    (try simp +decide (implicitDefEqProofs := false) only [go_sem, ↓stk_g, ↓stk_c, ↓reduceIte])
    refine stk_pure (read_ok L E s (by omega)) fun v hv => ?_
    obtain ⟨q, q1, q2, q3⟩ | q3 := readR_cases s
    · rw [q3] at hv
      subst hv
      (try simp +decide (implicitDefEqProofs := false) only [go_sem, ↓stk_g, ↓stk_c, ↓reduceIte, polCells, lay, oneOr, List.take_succ_cons, List.take_zero, List.drop_succ_cons, List.drop_zero, List.nil_append, List.cons_append, Option.getD_some, Nat.reduceAdd, Nat.reduceLeDiff, List.append_nil, and_self, List.all_cons, List.all_nil])
      rw [stk_alloc]
      intro b3 h3
      have n3 := new_ne (hp_self _ _ _) h3
      have n3' := n3.symm
      (try simp +decide (implicitDefEqProofs := false) only [go_sem, ↓stk_g, ↓stk_c, ↓reduceIte, hp_ne, n3, n3', ne_eq, not_false_eq_true, hp_self, polCells, lay, oneOr, List.take_succ_cons, List.take_zero, List.drop_succ_cons, List.drop_zero, List.nil_append, List.cons_append, Option.getD_some, Nat.reduceAdd, Nat.reduceLeDiff, List.append_nil, and_self, List.all_cons, List.all_nil])
      refine stk_pure (text_ok L q (right_neat q1).fits) fun v hv => ?_
      unfold textR at hv
      rw [q1, if_pos rfl, q2] at hv
      subst hv
      have hss : decide (s = s) = true := decide_eq_true rfl
      (try simp +decide (implicitDefEqProofs := false) only [go_sem, ↓stk_g, ↓stk_c, ↓reduceIte, hp_ne, n3, n3', ne_eq, not_false_eq_true, hp_self, polCells, hss, lay, oneOr, List.take_succ_cons, List.take_zero, List.drop_succ_cons, List.drop_zero, List.nil_append, List.cons_append, Option.getD_some, Nat.reduceAdd, Nat.reduceLeDiff, List.append_nil, and_self, List.all_cons, List.all_nil])
      refine stk_pure (right_ok L q (right_neat q1).fits) fun v hv => ?_
      rw [q1] at hv
      subst hv
      (try simp +decide (implicitDefEqProofs := false) only [go_sem, ↓stk_g, ↓stk_c, ↓reduceIte])
      refine aret_pure (.inr rfl) ?_; simp +decide only [retOf, tget, if_true, if_false, ↓reduceIte, List.map_cons, List.map_nil]
    · rw [q3] at hv
      subst hv
      (try simp +decide (implicitDefEqProofs := false) only [go_sem, ↓stk_g, ↓stk_c, ↓reduceIte, polCells, lay, oneOr, List.take_succ_cons, List.take_zero, List.drop_succ_cons, List.drop_zero, List.nil_append, List.cons_append, Option.getD_some, Nat.reduceAdd, Nat.reduceLeDiff, List.append_nil, and_self, List.all_cons, List.all_nil])
      rw [stk_alloc]
      intro b3 h3
      have n3 := new_ne (hp_self _ _ _) h3
      have n3' := n3.symm
      (try simp +decide (implicitDefEqProofs := false) only [go_sem, ↓stk_g, ↓stk_c, ↓reduceIte, hp_ne, n3, n3', ne_eq, not_false_eq_true, hp_self, polCells, lay, oneOr, List.take_succ_cons, List.take_zero, List.drop_succ_cons, List.drop_zero, List.nil_append, List.cons_append, Option.getD_some, Nat.reduceAdd, Nat.reduceLeDiff, List.append_nil, and_self, List.all_cons, List.all_nil])
      refine stk_pure (right_ok L p F) fun v hv => ?_
      rw [hr] at hv
      subst hv
      (try simp +decide (implicitDefEqProofs := false) only [go_sem, ↓stk_g, ↓stk_c, ↓reduceIte])
      refine aret_pure (.inr rfl) ?_; simp +decide only [retOf, tget, if_true, if_false, ↓reduceIte, List.map_cons, List.map_nil]
end Go.Proofs.YtpclcofdogcbjaaDoor.M
