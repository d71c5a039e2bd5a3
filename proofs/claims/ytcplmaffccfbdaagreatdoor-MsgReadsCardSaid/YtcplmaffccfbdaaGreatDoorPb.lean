/-
  Names that never may stay, attributes, lists that are right: walked.
-/
import Derived.Test.YtcplmaffccfbdaaGreatDoorPtext
namespace Go.Proofs.YtcplmaffccfbdaaGreatDoor.M
open Go.RowKit
attribute [local go_sem] stk_nil stk_skip stk_ops stk_seq stk_block stk_scope stk_exit stk_ret stk_code_exit stk_code_ret stk_ops_exit stk_ops_ret stk_endb stk_endb_exit stk_endb_ret stk_endl stk_endl_exit stk_endl_ret stk_ops_nil stk_q stk_niq niqA flip srcOf stk_bsl side val bside bval uside uval cside cval bndS bndV intA isInt lside lval fside fval faside faval iside ival sxside sxval sizeA slside slval llside llval lenside lenval lenA tupA mmside mmval nkside boolA isBool ev_t ev_c tget put_s put_n lkside lkval menval stk_mk Option.isSome_some isMapA mapA keyA FZ_rfl FZ_any retOf true_and and_true if_true if_false decide_true decide_false Bool.not_true Bool.not_false Nat.zero_add List.map_cons List.map_nil Int.toNat_natCast strRows_len intRows_len List.getD_cons_zero List.getD_cons_succ List.length_cons List.length_nil List.forall_mem_cons List.not_mem_nil false_implies implies_true Int.ofNat_zero Int.natCast_add Int.natCast_one Int.ofNat_one Int.natCast_zero isB isU Bool.false_eq_true beq_self_eq_true Bool.false_beq Bool.true_beq Int.natCast_nonneg undef strRows_take strRows_drop Int.toNat_zero List.drop_zero Bool.and_true oneOr List.all_cons List.all_nil AVal.one Value.oneCell' Bool.true_and List.take_length stk_st' stside stH hp_self hp_hp isnside isnval
set_option linter.unusedVariables false
set_option linter.unusedSimpArgs false
def neverNames : List Str := [(⟨#[98, 97, 115, 101]⟩ : Str), (⟨#[101, 109, 98, 101, 100]⟩ : Str), (⟨#[102, 111, 114, 109]⟩ : Str), (⟨#[105, 110, 112, 117, 116]⟩ : Str), (⟨#[108, 105, 110, 107]⟩ : Str), (⟨#[109, 97, 116, 104]⟩ : Str), (⟨#[109, 101, 116, 97]⟩ : Str), (⟨#[111, 98, 106, 101, 99, 116]⟩ : Str), (⟨#[112, 97, 114, 97, 109]⟩ : Str), (⟨#[115, 101, 108, 101, 99, 116]⟩ : Str), (⟨#[115, 118, 103]⟩ : Str), (⟨#[116, 101, 109, 112, 108, 97, 116, 101]⟩ : Str), (⟨#[110, 111, 115, 99, 114, 105, 112, 116]⟩ : Str), (⟨#[102, 114, 97, 109, 101]⟩ : Str), (⟨#[102, 114, 97, 109, 101, 115, 101, 116]⟩ : Str)]
def raw7 : List Str := [(⟨#[115, 99, 114, 105, 112, 116]⟩ : Str), (⟨#[115, 116, 121, 108, 101]⟩ : Str), (⟨#[120, 109, 112]⟩ : Str), (⟨#[105, 102, 114, 97, 109, 101]⟩ : Str), (⟨#[110, 111, 101, 109, 98, 101, 100]⟩ : Str), (⟨#[110, 111, 102, 114, 97, 109, 101, 115]⟩ : Str), (⟨#[112, 108, 97, 105, 110, 116, 101, 120, 116]⟩ : Str)]
def raw2 : List Str := [(⟨#[116, 101, 120, 116, 97, 114, 101, 97]⟩ : Str), (⟨#[116, 105, 116, 108, 101]⟩ : Str)]
def rawP (s : Str) : Bool := decide (s ∈ raw7) || decide (s ∈ raw2)
def neverP (s : Str) : Bool := decide (s ∈ neverNames) || rawP s
def c_Raw : AFn := ⟨1, 16, [2, 3],
  .seq (.ops [⟨(some 2), none, .q (.mv (.const (.bool false)))⟩,
      ⟨(some 3), none, .q (.mv (.const (.bool false)))⟩])
  (.seq (.seq (.ops [⟨(some 4), none, .q (.mv (.tmp 0))⟩])
  (.block 0 (.seq (.seq (.ops [⟨(some 6), none, .q (.bin .eql .num (.tmp 4) (.const (.string ⟨#[115, 99, 114, 105, 112, 116]⟩)))⟩,
        ⟨(some 5), none, .q (.mv (.tmp 6))⟩])
    (.cond (.tmp 5)
      (.skip)
      (.seq (.ops [⟨(some 7), none, .q (.bin .eql .num (.tmp 4) (.const (.string ⟨#[115, 116, 121, 108, 101]⟩)))⟩,
          ⟨(some 5), none, .q (.mv (.tmp 7))⟩])
      (.cond (.tmp 5)
        (.skip)
        (.seq (.ops [⟨(some 8), none, .q (.bin .eql .num (.tmp 4) (.const (.string ⟨#[120, 109, 112]⟩)))⟩,
            ⟨(some 5), none, .q (.mv (.tmp 8))⟩])
        (.cond (.tmp 5)
          (.skip)
          (.seq (.ops [⟨(some 9), none, .q (.bin .eql .num (.tmp 4) (.const (.string ⟨#[105, 102, 114, 97, 109, 101]⟩)))⟩,
              ⟨(some 5), none, .q (.mv (.tmp 9))⟩])
          (.cond (.tmp 5)
            (.skip)
            (.seq (.ops [⟨(some 10), none, .q (.bin .eql .num (.tmp 4) (.const (.string ⟨#[110, 111, 101, 109, 98, 101, 100]⟩)))⟩,
                ⟨(some 5), none, .q (.mv (.tmp 10))⟩])
            (.cond (.tmp 5)
              (.skip)
              (.seq (.ops [⟨(some 11), none, .q (.bin .eql .num (.tmp 4) (.const (.string ⟨#[110, 111, 102, 114, 97, 109, 101, 115]⟩)))⟩,
                  ⟨(some 5), none, .q (.mv (.tmp 11))⟩])
              (.cond (.tmp 5)
                (.skip)
                (.ops [⟨(some 12), none, .q (.bin .eql .num (.tmp 4) (.const (.string ⟨#[112, 108, 97, 105, 110, 116, 101, 120, 116]⟩)))⟩,
                    ⟨(some 5), none, .q (.mv (.tmp 12))⟩])))))))))))))
    (.cond (.tmp 5)
      (.seq (.ops [⟨(some 2), none, .q (.mv (.const (.bool true)))⟩,
          ⟨(some 3), none, .q (.mv (.const (.bool false)))⟩])
      (.ret))
      (.seq (.seq (.ops [⟨(some 14), none, .q (.bin .eql .num (.tmp 4) (.const (.string ⟨#[116, 101, 120, 116, 97, 114, 101, 97]⟩)))⟩,
          ⟨(some 13), none, .q (.mv (.tmp 14))⟩])
      (.cond (.tmp 13)
        (.skip)
        (.ops [⟨(some 15), none, .q (.bin .eql .num (.tmp 4) (.const (.string ⟨#[116, 105, 116, 108, 101]⟩)))⟩,
            ⟨(some 13), none, .q (.mv (.tmp 15))⟩])))
      (.cond (.tmp 13)
        (.seq (.ops [⟨(some 2), none, .q (.mv (.const (.bool true)))⟩,
            ⟨(some 3), none, .q (.mv (.const (.bool true)))⟩])
        (.ret))
        (.skip)))))))
  (.seq (.ops [⟨(some 2), none, .q (.mv (.const (.bool false)))⟩,
      ⟨(some 3), none, .q (.mv (.const (.bool false)))⟩])
  (.ret))), []⟩
theorem k_Raw : compF Tryz.prog 65 = some c_Raw := by kernel_rfl
set_option maxHeartbeats 4000000 in
theorem raw_ok {W : World} (s : Str) : ACalls Tryz.prog W 65 [.v (.string s)] AHeap.none fun v _ => v = .tup [.v (.bool (rawP s)), .v (.bool (decide (s ∈ raw2)))] := by
  refine fn_run follows k_Raw rfl ?_
  simp only [c_Raw, aretC_nil, List.zipIdx_cons, List.zipIdx_nil, List.map_cons, List.map_nil, Nat.zero_add]
  by_cases h : s ∈ raw7
  · have hr : rawP s = true := by unfold rawP; rw [decide_eq_true h]; rfl
    have h2 : decide (s ∈ raw2) = false := by
      simp only [raw7, List.mem_cons, List.not_mem_nil, or_false] at h
      rcases h with rfl | rfl | rfl | rfl | rfl | rfl | rfl
      all_goals (
        decide +kernel)
    rw [hr, h2]
    clear hr h2
    simp only [raw7, List.mem_cons, List.not_mem_nil, or_false] at h
    rcases h with rfl | rfl | rfl | rfl | rfl | rfl | rfl
    all_goals (
      (try simp +decide (implicitDefEqProofs := false) only [go_sem, ↓stk_g, ↓stk_c, ↓reduceIte])
      refine aret_pure (.inr rfl) ?_; simp +decide only [retOf, tget, if_true, if_false, ↓reduceIte, List.map_cons, List.map_nil])
  · have hr : rawP s = decide (s ∈ raw2) := by unfold rawP; rw [decide_eq_false h]; rfl
    rw [hr]
    have h2 := h
    simp only [raw7, List.mem_cons, List.not_mem_nil, or_false, not_or] at h2
    obtain ⟨n0, n1, n2, n3, n4, n5, n6⟩ := h2
    by_cases k : s ∈ raw2
    · rw [decide_eq_true k]
      simp only [raw2, List.mem_cons, List.not_mem_nil, or_false] at k
      rcases k with rfl | rfl
      all_goals (
        (try simp +decide (implicitDefEqProofs := false) only [go_sem, ↓stk_g, ↓stk_c, ↓reduceIte])
        refine aret_pure (.inr rfl) ?_; simp +decide only [retOf, tget, if_true, if_false, ↓reduceIte, List.map_cons, List.map_nil])
    · rw [decide_eq_false k]
      have k2 := k
      simp only [raw2, List.mem_cons, List.not_mem_nil, or_false, not_or] at k2
      obtain ⟨m0, m1⟩ := k2
      (try simp +decide (implicitDefEqProofs := false) only [go_sem, ↓stk_g, ↓stk_c, ↓reduceIte, decide_eq_false n0, decide_eq_false n1, decide_eq_false n2, decide_eq_false n3, decide_eq_false n4, decide_eq_false n5, decide_eq_false n6, decide_eq_false m0, decide_eq_false m1])
      refine aret_pure (.inr rfl) ?_; simp +decide only [retOf, tget, if_true, if_false, ↓reduceIte, List.map_cons, List.map_nil]
def c_never : AFn := ⟨1, 28, [2],
  .seq (.ops [⟨(some 2), none, .q (.mv (.const (.bool false)))⟩])
  (.seq (.seq (.ops [⟨(some 5), none, .q (.mv (.tmp 0))⟩])
  (.block 0 (.seq (.seq (.ops [⟨(some 7), none, .q (.bin .eql .num (.tmp 5) (.const (.string ⟨#[98, 97, 115, 101]⟩)))⟩,
        ⟨(some 6), none, .q (.mv (.tmp 7))⟩])
    (.cond (.tmp 6)
      (.skip)
      (.seq (.ops [⟨(some 8), none, .q (.bin .eql .num (.tmp 5) (.const (.string ⟨#[101, 109, 98, 101, 100]⟩)))⟩,
          ⟨(some 6), none, .q (.mv (.tmp 8))⟩])
      (.cond (.tmp 6)
        (.skip)
        (.seq (.ops [⟨(some 9), none, .q (.bin .eql .num (.tmp 5) (.const (.string ⟨#[102, 111, 114, 109]⟩)))⟩,
            ⟨(some 6), none, .q (.mv (.tmp 9))⟩])
        (.cond (.tmp 6)
          (.skip)
          (.seq (.ops [⟨(some 10), none, .q (.bin .eql .num (.tmp 5) (.const (.string ⟨#[105, 110, 112, 117, 116]⟩)))⟩,
              ⟨(some 6), none, .q (.mv (.tmp 10))⟩])
          (.cond (.tmp 6)
            (.skip)
            (.seq (.ops [⟨(some 11), none, .q (.bin .eql .num (.tmp 5) (.const (.string ⟨#[108, 105, 110, 107]⟩)))⟩,
                ⟨(some 6), none, .q (.mv (.tmp 11))⟩])
            (.cond (.tmp 6)
              (.skip)
              (.seq (.ops [⟨(some 12), none, .q (.bin .eql .num (.tmp 5) (.const (.string ⟨#[109, 97, 116, 104]⟩)))⟩,
                  ⟨(some 6), none, .q (.mv (.tmp 12))⟩])
              (.cond (.tmp 6)
                (.skip)
                (.seq (.ops [⟨(some 13), none, .q (.bin .eql .num (.tmp 5) (.const (.string ⟨#[109, 101, 116, 97]⟩)))⟩,
                    ⟨(some 6), none, .q (.mv (.tmp 13))⟩])
                (.cond (.tmp 6)
                  (.skip)
                  (.seq (.ops [⟨(some 14), none, .q (.bin .eql .num (.tmp 5) (.const (.string ⟨#[111, 98, 106, 101, 99, 116]⟩)))⟩,
                      ⟨(some 6), none, .q (.mv (.tmp 14))⟩])
                  (.cond (.tmp 6)
                    (.skip)
                    (.seq (.ops [⟨(some 15), none, .q (.bin .eql .num (.tmp 5) (.const (.string ⟨#[112, 97, 114, 97, 109]⟩)))⟩,
                        ⟨(some 6), none, .q (.mv (.tmp 15))⟩])
                    (.cond (.tmp 6)
                      (.skip)
                      (.seq (.ops [⟨(some 16), none, .q (.bin .eql .num (.tmp 5) (.const (.string ⟨#[115, 101, 108, 101, 99, 116]⟩)))⟩,
                          ⟨(some 6), none, .q (.mv (.tmp 16))⟩])
                      (.cond (.tmp 6)
                        (.skip)
                        (.seq (.ops [⟨(some 17), none, .q (.bin .eql .num (.tmp 5) (.const (.string ⟨#[115, 118, 103]⟩)))⟩,
                            ⟨(some 6), none, .q (.mv (.tmp 17))⟩])
                        (.cond (.tmp 6)
                          (.skip)
                          (.seq (.ops [⟨(some 18), none, .q (.bin .eql .num (.tmp 5) (.const (.string ⟨#[116, 101, 109, 112, 108, 97, 116, 101]⟩)))⟩,
                              ⟨(some 6), none, .q (.mv (.tmp 18))⟩])
                          (.cond (.tmp 6)
                            (.skip)
                            (.seq (.ops [⟨(some 19), none, .q (.bin .eql .num (.tmp 5) (.const (.string ⟨#[110, 111, 115, 99, 114, 105, 112, 116]⟩)))⟩,
                                ⟨(some 6), none, .q (.mv (.tmp 19))⟩])
                            (.cond (.tmp 6)
                              (.skip)
                              (.seq (.ops [⟨(some 20), none, .q (.bin .eql .num (.tmp 5) (.const (.string ⟨#[102, 114, 97, 109, 101]⟩)))⟩,
                                  ⟨(some 6), none, .q (.mv (.tmp 20))⟩])
                              (.cond (.tmp 6)
                                (.skip)
                                (.ops [⟨(some 21), none, .q (.bin .eql .num (.tmp 5) (.const (.string ⟨#[102, 114, 97, 109, 101, 115, 101, 116]⟩)))⟩,
                                    ⟨(some 6), none, .q (.mv (.tmp 21))⟩])))))))))))))))))))))))))))))
    (.cond (.tmp 6)
      (.seq (.ops [⟨(some 2), none, .q (.mv (.const (.bool true)))⟩])
      (.ret))
      (.skip)))))
  (.seq (.ops [⟨(some 23), none, .q (.mv (.tmp 0))⟩,
      ⟨(some 24), none, .e (.call 65 [(.tmp 23)])⟩,
      ⟨(some 22), none, .q (.mv (.tmp 24))⟩,
      ⟨(some 25), none, .q (.ext (.tmp 22) 0)⟩,
      ⟨(some 26), none, .q (.ext (.tmp 22) 1)⟩,
      ⟨(some 3), none, .q (.mv (.tmp 25))⟩,
      ⟨(some 4), none, .q (.mv (.tmp 26))⟩])
  (.seq (.ops [⟨(some 27), none, .q (.mv (.tmp 3))⟩,
      ⟨(some 2), none, .q (.mv (.tmp 27))⟩])
  (.ret)))), []⟩
theorem k_never : compF Tryz.prog 44 = some c_never := by kernel_rfl
set_option maxHeartbeats 4000000 in
theorem never_ok {W : World} (s : Str) : ACalls Tryz.prog W 44 [.v (.string s)] AHeap.none fun v _ => v = .v (.bool (neverP s)) := by
  refine fn_run follows k_never rfl ?_
  simp only [c_never, aretC_nil, List.zipIdx_cons, List.zipIdx_nil, List.map_cons, List.map_nil, Nat.zero_add]
  by_cases h : s ∈ neverNames
  · have hr : neverP s = true := by unfold neverP; rw [decide_eq_true h]; rfl
    rw [hr]
    clear hr
    simp only [neverNames, List.mem_cons, List.not_mem_nil, or_false] at h
    rcases h with rfl | rfl | rfl | rfl | rfl | rfl | rfl | rfl | rfl | rfl | rfl | rfl | rfl | rfl | rfl
    all_goals (
      (try simp +decide (implicitDefEqProofs := false) only [go_sem, ↓stk_g, ↓stk_c, ↓reduceIte])
      refine aret_pure (.inr rfl) ?_; simp +decide only [retOf, tget, if_true, if_false, ↓reduceIte, List.map_cons, List.map_nil])
  · have hr : neverP s = rawP s := by unfold neverP; rw [decide_eq_false h]; rfl
    rw [hr]
    have h2 := h
    simp only [neverNames, List.mem_cons, List.not_mem_nil, or_false, not_or] at h2
    obtain ⟨n0, n1, n2, n3, n4, n5, n6, n7, n8, n9, n10, n11, n12, n13, n14⟩ := h2
    (try simp +decide (implicitDefEqProofs := false) only [go_sem, ↓stk_g, ↓stk_c, ↓reduceIte, decide_eq_false n0, decide_eq_false n1, decide_eq_false n2, decide_eq_false n3, decide_eq_false n4, decide_eq_false n5, decide_eq_false n6, decide_eq_false n7, decide_eq_false n8, decide_eq_false n9, decide_eq_false n10, decide_eq_false n11, decide_eq_false n12, decide_eq_false n13, decide_eq_false n14])
    refine stk_pure (raw_ok s) fun v hv => ?_
    subst hv
    (try simp +decide (implicitDefEqProofs := false) only [go_sem, ↓stk_g, ↓stk_c, ↓reduceIte])
    refine aret_pure (.inr rfl) ?_; simp +decide only [retOf, tget, if_true, if_false, ↓reduceIte, List.map_cons, List.map_nil]
def c_HasPrefix0 : AFn := ⟨2, 18, [4],
  .seq (.ops [⟨(some 4), none, .q (.mv (.const (.bool false)))⟩])
  (.seq (.ops [⟨(some 5), none, .q (.mv (.tmp 0))⟩,
      ⟨(some 6), none, .q (.len true (.tmp 5))⟩,
      ⟨(some 7), none, .q (.mv (.tmp 1))⟩,
      ⟨(some 8), none, .q (.len true (.tmp 7))⟩,
      ⟨(some 9), none, .q (.bin .geq .num (.tmp 6) (.tmp 8))⟩,
      ⟨(some 10), none, .q (.mv (.tmp 9))⟩,
      ⟨(some 11), (some (10, true)), .q (.mv (.tmp 0))⟩,
      ⟨(some 12), (some (10, true)), .q (.mv (.tmp 1))⟩,
      ⟨(some 13), (some (10, true)), .q (.len true (.tmp 12))⟩,
      ⟨(some 14), (some (10, true)), .q (.ssl (.tmp 11) none (some (.tmp 13)))⟩,
      ⟨(some 15), (some (10, true)), .q (.mv (.tmp 1))⟩,
      ⟨(some 16), (some (10, true)), .q (.bin .eql .num (.tmp 14) (.tmp 15))⟩,
      ⟨(some 17), none, .q (.pick (.tmp 10) (.tmp 16) (.const (.bool false)))⟩,
      ⟨(some 4), none, .q (.mv (.tmp 17))⟩])
  (.ret)), []⟩
theorem k_HasPrefix0 : compF Tryz.prog 78 = some c_HasPrefix0 := by kernel_rfl
theorem hasPre0_ok {W : World} (s t : Str) : ACalls Tryz.prog W 78 [.v (.string s), .v (.string t)] AHeap.none fun v _ => v = .v (.bool (hasPre s t)) := by
  refine fn_run follows k_HasPrefix0 rfl ?_
  simp only [c_HasPrefix0, aretC_nil, List.zipIdx_cons, List.zipIdx_nil, List.map_cons, List.map_nil, Nat.zero_add]
  by_cases h : (t.size : Int) ≤ (s.size : Int)
  · have h2 : t.size ≤ s.size := by omega
    have h3 : (0 : Int) ≤ (t.size : Int) := by omega
    (try simp +decide (implicitDefEqProofs := false) only [go_sem, ↓stk_g, ↓stk_c, ↓reduceIte, h, h2, h3])
    refine aret_pure (.inr rfl) ?_; simp +decide only [retOf, tget, if_true, if_false, ↓reduceIte, List.map_cons, List.map_nil]
    unfold hasPre
    rw [decide_eq_true h2]; rfl
  · (try simp +decide (implicitDefEqProofs := false) only [go_sem, ↓stk_g, ↓stk_c, ↓reduceIte, h])
    refine aret_pure (.inr rfl) ?_; simp +decide only [retOf, tget, if_true, if_false, ↓reduceIte, List.map_cons, List.map_nil]
    unfold hasPre
    rw [decide_eq_false (by omega)]; rfl
def c_HasPrefix : AFn := ⟨2, 8, [4],
  .seq (.ops [⟨(some 4), none, .q (.mv (.const (.bool false)))⟩])
  (.seq (.ops [⟨(some 5), none, .q (.mv (.tmp 0))⟩,
      ⟨(some 6), none, .q (.mv (.tmp 1))⟩,
      ⟨(some 7), none, .e (.call 78 [(.tmp 5), (.tmp 6)])⟩,
      ⟨(some 4), none, .q (.mv (.tmp 7))⟩])
  (.ret)), []⟩
theorem k_HasPrefix : compF Tryz.prog 67 = some c_HasPrefix := by kernel_rfl
theorem hasPre_ok {W : World} (s t : Str) : ACalls Tryz.prog W 67 [.v (.string s), .v (.string t)] AHeap.none fun v _ => v = .v (.bool (hasPre s t)) := by
  refine fn_run follows k_HasPrefix rfl ?_
  simp only [c_HasPrefix, aretC_nil, List.zipIdx_cons, List.zipIdx_nil, List.map_cons, List.map_nil, Nat.zero_add]
  (try simp +decide (implicitDefEqProofs := false) only [go_sem, ↓stk_g, ↓stk_c, ↓reduceIte])
  refine stk_pure (hasPre0_ok s t) fun v hv => ?_
  subst hv
  (try simp +decide (implicitDefEqProofs := false) only [go_sem, ↓stk_g, ↓stk_c, ↓reduceIte])
  refine aret_pure (.inr rfl) ?_; simp +decide only [retOf, tget, if_true, if_false, ↓reduceIte, List.map_cons, List.map_nil]
def attrP (s : Str) : Bool := wordP s && (!hasPre s (⟨#[111, 110]⟩ : Str) && (decide (s ≠ (⟨#[115, 114, 99, 100, 111, 99]⟩ : Str)) && (decide (s ≠ (⟨#[102, 111, 114, 109, 97, 99, 116, 105, 111, 110]⟩ : Str)) && decide (s ≠ (⟨#[115, 116, 121, 108, 101]⟩ : Str)))))
def c_attr : AFn := ⟨1, 22, [2],
  .seq (.ops [⟨(some 2), none, .q (.mv (.const (.bool false)))⟩])
  (.seq (.ops [⟨(some 3), none, .q (.mv (.tmp 0))⟩,
      ⟨(some 4), none, .e (.call 43 [(.tmp 3)])⟩,
      ⟨(some 5), none, .q (.mv (.tmp 4))⟩,
      ⟨(some 6), (some (5, true)), .q (.mv (.tmp 0))⟩,
      ⟨(some 7), (some (5, true)), .e (.call 67 [(.tmp 6), (.const (.string ⟨#[111, 110]⟩))])⟩,
      ⟨(some 8), (some (5, true)), .q (.un .not (.tmp 7))⟩,
      ⟨(some 9), none, .q (.pick (.tmp 5) (.tmp 8) (.const (.bool false)))⟩,
      ⟨(some 10), none, .q (.mv (.tmp 9))⟩,
      ⟨(some 11), (some (10, true)), .q (.mv (.tmp 0))⟩,
      ⟨(some 12), (some (10, true)), .q (.bin .neq .num (.tmp 11) (.const (.string ⟨#[115, 114, 99, 100, 111, 99]⟩)))⟩,
      ⟨(some 13), none, .q (.pick (.tmp 10) (.tmp 12) (.const (.bool false)))⟩,
      ⟨(some 14), none, .q (.mv (.tmp 13))⟩,
      ⟨(some 15), (some (14, true)), .q (.mv (.tmp 0))⟩,
      ⟨(some 16), (some (14, true)), .q (.bin .neq .num (.tmp 15) (.const (.string ⟨#[102, 111, 114, 109, 97, 99, 116, 105, 111, 110]⟩)))⟩,
      ⟨(some 17), none, .q (.pick (.tmp 14) (.tmp 16) (.const (.bool false)))⟩,
      ⟨(some 18), none, .q (.mv (.tmp 17))⟩,
      ⟨(some 19), (some (18, true)), .q (.mv (.tmp 0))⟩,
      ⟨(some 20), (some (18, true)), .q (.bin .neq .num (.tmp 19) (.const (.string ⟨#[115, 116, 121, 108, 101]⟩)))⟩,
      ⟨(some 21), none, .q (.pick (.tmp 18) (.tmp 20) (.const (.bool false)))⟩,
      ⟨(some 2), none, .q (.mv (.tmp 21))⟩])
  (.ret)), []⟩
theorem k_attr : compF Tryz.prog 47 = some c_attr := by kernel_rfl
set_option maxHeartbeats 2000000 in
theorem attr_ok {W : World} (s : Str) (hs : s.size ≤ 1000000000) : ACalls Tryz.prog W 47 [.v (.string s)] AHeap.none fun v _ => v = .v (.bool (attrP s)) := by
  refine fn_run follows k_attr rfl ?_
  simp only [c_attr, aretC_nil, List.zipIdx_cons, List.zipIdx_nil, List.map_cons, List.map_nil, Nat.zero_add]
  (try simp +decide (implicitDefEqProofs := false) only [go_sem, ↓stk_g, ↓stk_c, ↓reduceIte])
  refine stk_pure (word_ok s hs) fun v hv => ?_
  subst hv
  unfold attrP
  cases hw : wordP s
  · (try simp +decide (implicitDefEqProofs := false) only [go_sem, ↓stk_g, ↓stk_c, ↓reduceIte])
    refine aret_pure (.inr rfl) ?_; simp +decide only [retOf, tget, if_true, if_false, ↓reduceIte, List.map_cons, List.map_nil]
    rfl
  · (try simp +decide (implicitDefEqProofs := false) only [go_sem, ↓stk_g, ↓stk_c, ↓reduceIte])
    refine stk_pure (hasPre_ok s (⟨#[111, 110]⟩ : Str)) fun v hv => ?_
    subst hv
    cases hp : hasPre s (⟨#[111, 110]⟩ : Str)
    · by_cases e1 : s = (⟨#[115, 114, 99, 100, 111, 99]⟩ : Str)
      · have f1 : decide (s ≠ (⟨#[115, 114, 99, 100, 111, 99]⟩ : Str)) = false := by simp [e1]
        (try simp +decide (implicitDefEqProofs := false) only [go_sem, ↓stk_g, ↓stk_c, ↓reduceIte, f1])
        refine aret_pure (.inr rfl) ?_; simp +decide only [retOf, tget, if_true, if_false, ↓reduceIte, List.map_cons, List.map_nil]
        simp [e1]
      · have f1 : decide (s ≠ (⟨#[115, 114, 99, 100, 111, 99]⟩ : Str)) = true := by simp [e1]
        by_cases e2 : s = (⟨#[102, 111, 114, 109, 97, 99, 116, 105, 111, 110]⟩ : Str)
        · have f2 : decide (s ≠ (⟨#[102, 111, 114, 109, 97, 99, 116, 105, 111, 110]⟩ : Str)) = false := by simp [e2]
          (try simp +decide (implicitDefEqProofs := false) only [go_sem, ↓stk_g, ↓stk_c, ↓reduceIte, f1, f2])
          refine aret_pure (.inr rfl) ?_; simp +decide only [retOf, tget, if_true, if_false, ↓reduceIte, List.map_cons, List.map_nil]
          simp [e2]
        · have f2 : decide (s ≠ (⟨#[102, 111, 114, 109, 97, 99, 116, 105, 111, 110]⟩ : Str)) = true := by simp [e2]
          (try simp +decide (implicitDefEqProofs := false) only [go_sem, ↓stk_g, ↓stk_c, ↓reduceIte, f1, f2])
          refine aret_pure (.inr rfl) ?_; simp +decide only [retOf, tget, if_true, if_false, ↓reduceIte, List.map_cons, List.map_nil]
    · (try simp +decide (implicitDefEqProofs := false) only [go_sem, ↓stk_g, ↓stk_c, ↓reduceIte])
      refine aret_pure (.inr rfl) ?_; simp +decide only [retOf, tget, if_true, if_false, ↓reduceIte, List.map_cons, List.map_nil]
      rfl
end Go.Proofs.YtcplmaffccfbdaaGreatDoor.M
