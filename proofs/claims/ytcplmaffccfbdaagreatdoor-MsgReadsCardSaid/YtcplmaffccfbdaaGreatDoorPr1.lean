/-
  The document's own small functions of layer 8, walked.
-/
import Derived.Test.YtcplmaffccfbdaaGreatDoorPoLaw
namespace Go.Proofs.YtcplmaffccfbdaaGreatDoor.M
open Go.RowKit
attribute [local go_sem] stk_nil stk_skip stk_ops stk_seq stk_block stk_scope stk_exit stk_ret stk_code_exit stk_code_ret stk_ops_exit stk_ops_ret stk_endb stk_endb_exit stk_endb_ret stk_endl stk_endl_exit stk_endl_ret stk_ops_nil stk_q stk_niq niqA flip srcOf stk_bsl side val bside bval uside uval cside cval bndS bndV intA isInt lside lval fside fval faside faval iside ival sxside sxval sizeA slside slval llside llval lenside lenval lenA tupA mmside mmval nkside boolA isBool ev_t ev_c tget put_s put_n lkside lkval menval stk_mk Option.isSome_some isMapA mapA keyA FZ_rfl FZ_any retOf true_and and_true if_true if_false decide_true decide_false Bool.not_true Bool.not_false Nat.zero_add List.map_cons List.map_nil Int.toNat_natCast strRows_len intRows_len List.getD_cons_zero List.getD_cons_succ List.length_cons List.length_nil List.forall_mem_cons List.not_mem_nil false_implies implies_true Int.ofNat_zero Int.natCast_add Int.natCast_one Int.ofNat_one Int.natCast_zero isB isU Bool.false_eq_true beq_self_eq_true Bool.false_beq Bool.true_beq Int.natCast_nonneg undef strRows_take strRows_drop Int.toNat_zero List.drop_zero Bool.and_true oneOr List.all_cons List.all_nil AVal.one Value.oneCell' Bool.true_and List.take_length stk_st' stside stH hp_self hp_hp isnside isnval
set_option linter.unusedVariables false
set_option linter.unusedSimpArgs false
theorem size_zero {s : Str} (h : s.size = 0) : s = ByteArray.empty := by
  apply bl_inj
  have := bl_len s
  rw [h] at this
  rw [List.length_eq_zero_iff.1 this]; rfl
def c_Has : AFn := ⟨2, 18, [4],
  .seq (.ops [⟨(some 4), none, .q (.mv (.const (.bool false)))⟩])
  (.seq (.seq (.ops [⟨(some 5), none, .q (.mv (.const (.int .i64 0)))⟩])
  (.block 0 (.loop (.seq (.seq (.ops [⟨(some 6), none, .q (.mv (.tmp 5))⟩,
          ⟨(some 7), none, .q (.mv (.tmp 0))⟩,
          ⟨(some 8), none, .q (.len false (.tmp 7))⟩,
          ⟨(some 9), none, .q (.bin .lss .num (.tmp 6) (.tmp 8))⟩])
      (.cond (.tmp 9)
        (.skip)
        (.exit 0)))
      (.seq (.block 1 (.seq (.ops [⟨(some 12), none, .q (.mv (.tmp 0))⟩,
            ⟨(some 13), none, .q (.mv (.tmp 5))⟩,
            ⟨(some 14), none, .q (.ixa 1 (.tmp 12) (.tmp 13))⟩,
            ⟨(some 15), none, .q (.ld false 1 (.tmp 14))⟩,
            ⟨(some 16), none, .q (.mv (.tmp 1))⟩,
            ⟨(some 17), none, .q (.bin .eql .num (.tmp 15) (.tmp 16))⟩])
        (.cond (.tmp 17)
          (.seq (.ops [⟨(some 4), none, .q (.mv (.const (.bool true)))⟩])
          (.ret))
          (.skip))))
      (.ops [⟨(some 10), none, .q (.mv (.tmp 5))⟩,
          ⟨(some 11), none, .q (.bin .add .num (.tmp 10) (.const (.int .i64 1)))⟩,
          ⟨(some 5), none, .q (.mv (.tmp 11))⟩]))))))
  (.seq (.ops [⟨(some 4), none, .q (.mv (.const (.bool false)))⟩])
  (.ret))), []⟩
theorem k_Has : compF Tryz.prog 54 = some c_Has := by kernel_rfl
set_option maxHeartbeats 2000000 in
theorem has_ok {W : World} {f : Bool} (l : List Str) (x : Str) (hl : l.length ≤ 1000000000) : ACalls Tryz.prog W 54 [.sl f 1 (strRows l), .v (.string x)] AHeap.none fun v _ => v = .v (.bool (decide (x ∈ l))) := by
  refine fn_run follows k_Has rfl ?_
  simp only [c_Has, aretC_nil, List.zipIdx_cons, List.zipIdx_nil, List.map_cons, List.map_nil, Nat.zero_add]
  (try simp +decide (implicitDefEqProofs := false) only [go_sem, ↓stk_g, ↓stk_c, ↓reduceIte])
  refine stk_up (α := Unit) l.length (fun i _ => ⟨[(5, .v (.int .i64 i)), (0, .sl f 1 (strRows l)), (1, .v (.string x))], AHeap.none⟩) (fun i _ => x ∉ l.take i) () (Weak.list _ (Sub.refl _) (by (try simp +decide (implicitDefEqProofs := false) only [go_sem, ↓stk_g, ↓stk_c, ↓reduceIte]))) (by simp) ?_
  rintro i ⟨⟩ hi hJ
  by_cases hlt : i < l.length
  · have g1 : (i : Int) < (l.length : Int) := by omega
    have hw := wrap_in (n := i + 1) (by omega) (by omega)
    have hg := strRows_get hlt
    have hget : l.getD i ByteArray.empty = l[i] := by simp [hlt]
    by_cases e : l.getD i ByteArray.empty = x
    · have e1 := decide_eq_true e
      (try simp +decide (implicitDefEqProofs := false) only [go_sem, ↓stk_g, ↓stk_c, ↓reduceIte, g1, hlt, hw, hg, e1])
      refine aret_pure (.inr rfl) ?_; simp +decide only [retOf, tget, if_true, if_false, ↓reduceIte, List.map_cons, List.map_nil]
      rw [decide_eq_true (by rw [← e, hget]; exact List.getElem_mem _)]
    · have e1 := decide_eq_false e
      (try simp +decide (implicitDefEqProofs := false) only [go_sem, ↓stk_g, ↓stk_c, ↓reduceIte, g1, hlt, hw, hg, e1])
      refine ⟨(), Weak.list _ (Sub.refl _) (by (try simp +decide (implicitDefEqProofs := false) only [go_sem, ↓stk_g, ↓stk_c, ↓reduceIte])), ?_⟩
      rw [List.take_succ_eq_append_getElem hlt]
      simp only [List.mem_append, List.mem_singleton, not_or]
      exact ⟨hJ, by rw [← hget]; exact fun h => e h.symm⟩
  · have g1 : ¬ (i : Int) < (l.length : Int) := by omega
    (try simp +decide (implicitDefEqProofs := false) only [go_sem, ↓stk_g, ↓stk_c, ↓reduceIte, g1])
    refine aret_pure (.inr rfl) ?_; simp +decide only [retOf, tget, if_true, if_false, ↓reduceIte, List.map_cons, List.map_nil]
    rw [List.take_of_length_le (by omega)] at hJ
    rw [decide_eq_false hJ]
def c_rword : AFn := ⟨1, 45, [2],
  .seq (.ops [⟨(some 2), none, .q (.mv (.const (.bool false)))⟩])
  (.seq (.seq (.ops [⟨(some 3), none, .q (.mv (.const (.int .i64 0)))⟩])
  (.block 0 (.loop (.seq (.seq (.ops [⟨(some 5), none, .q (.mv (.tmp 3))⟩,
          ⟨(some 6), none, .q (.mv (.tmp 0))⟩,
          ⟨(some 7), none, .q (.len true (.tmp 6))⟩,
          ⟨(some 8), none, .q (.bin .lss .num (.tmp 5) (.tmp 7))⟩])
      (.cond (.tmp 8)
        (.skip)
        (.exit 0)))
      (.seq (.block 1 (.seq (.ops [⟨(some 11), none, .q (.mv (.tmp 0))⟩,
            ⟨(some 12), none, .q (.mv (.tmp 3))⟩,
            ⟨(some 13), none, .q (.six (.tmp 11) (.tmp 12))⟩,
            ⟨(some 4), none, .q (.mv (.tmp 13))⟩])
        (.seq (.ops [⟨(some 14), none, .q (.mv (.tmp 4))⟩,
            ⟨(some 15), none, .q (.bin .geq .num (.tmp 14) (.const (.int .u8 97)))⟩,
            ⟨(some 16), none, .q (.mv (.tmp 15))⟩,
            ⟨(some 17), (some (16, true)), .q (.mv (.tmp 4))⟩,
            ⟨(some 18), (some (16, true)), .q (.bin .leq .num (.tmp 17) (.const (.int .u8 122)))⟩,
            ⟨(some 19), none, .q (.pick (.tmp 16) (.tmp 18) (.const (.bool false)))⟩,
            ⟨(some 20), none, .q (.mv (.tmp 19))⟩,
            ⟨(some 21), (some (20, false)), .q (.mv (.tmp 3))⟩,
            ⟨(some 22), (some (20, false)), .q (.bin .gtr .num (.tmp 21) (.const (.int .i64 0)))⟩,
            ⟨(some 23), (some (20, false)), .q (.mv (.tmp 22))⟩,
            ⟨(some 24), (some (23, true)), .q (.mv (.tmp 4))⟩,
            ⟨(some 25), (some (23, true)), .q (.bin .geq .num (.tmp 24) (.const (.int .u8 48)))⟩,
            ⟨(some 26), (some (23, true)), .q (.mv (.tmp 25))⟩,
            ⟨(some 27), (some (26, true)), .q (.mv (.tmp 4))⟩,
            ⟨(some 28), (some (26, true)), .q (.bin .leq .num (.tmp 27) (.const (.int .u8 57)))⟩,
            ⟨(some 29), (some (23, true)), .q (.pick (.tmp 26) (.tmp 28) (.const (.bool false)))⟩,
            ⟨(some 30), (some (23, true)), .q (.mv (.tmp 29))⟩,
            ⟨(some 31), (some (30, false)), .q (.mv (.tmp 4))⟩,
            ⟨(some 32), (some (30, false)), .q (.bin .eql .num (.tmp 31) (.const (.int .u8 45)))⟩,
            ⟨(some 33), (some (23, true)), .q (.pick (.tmp 30) (.const (.bool true)) (.tmp 32))⟩,
            ⟨(some 34), (some (20, false)), .q (.pick (.tmp 23) (.tmp 33) (.const (.bool false)))⟩,
            ⟨(some 35), none, .q (.pick (.tmp 20) (.const (.bool true)) (.tmp 34))⟩,
            ⟨(some 36), none, .q (.un .not (.tmp 35))⟩])
        (.cond (.tmp 36)
          (.seq (.ops [⟨(some 2), none, .q (.mv (.const (.bool false)))⟩])
          (.ret))
          (.skip)))))
      (.ops [⟨(some 9), none, .q (.mv (.tmp 3))⟩,
          ⟨(some 10), none, .q (.bin .add .num (.tmp 9) (.const (.int .i64 1)))⟩,
          ⟨(some 3), none, .q (.mv (.tmp 10))⟩]))))))
  (.seq (.ops [⟨(some 37), none, .q (.mv (.tmp 0))⟩,
      ⟨(some 38), none, .q (.len true (.tmp 37))⟩,
      ⟨(some 39), none, .q (.bin .geq .num (.tmp 38) (.const (.int .i64 1)))⟩,
      ⟨(some 40), none, .q (.mv (.tmp 39))⟩,
      ⟨(some 41), (some (40, true)), .q (.mv (.tmp 0))⟩,
      ⟨(some 42), (some (40, true)), .q (.len true (.tmp 41))⟩,
      ⟨(some 43), (some (40, true)), .q (.bin .leq .num (.tmp 42) (.const (.int .i64 32)))⟩,
      ⟨(some 44), none, .q (.pick (.tmp 40) (.tmp 43) (.const (.bool false)))⟩,
      ⟨(some 2), none, .q (.mv (.tmp 44))⟩])
  (.ret))), []⟩
theorem k_rword : compF Tryz.prog 68 = some c_rword := by kernel_rfl
set_option maxHeartbeats 4000000 in
theorem rword_ok {W : World} (s : Str) (hs : s.size ≤ 1000000000) : ACalls Tryz.prog W 68 [.v (.string s)] AHeap.none fun v _ => v = .v (.bool (wordP s)) := by
  refine fn_run follows k_rword rfl ?_
  simp only [c_rword, aretC_nil, List.zipIdx_cons, List.zipIdx_nil, List.map_cons, List.map_nil, Nat.zero_add]
  (try simp +decide (implicitDefEqProofs := false) only [go_sem, ↓stk_g, ↓stk_c, ↓reduceIte])
  refine stk_up (α := Unit) s.size (fun i _ => ⟨[(3, .v (.int .i64 i)), (0, .v (.string s))], AHeap.none⟩) (fun i _ => ∀ j, j < i → okB j (bt s j) = true) () (Weak.list _ (Sub.refl _) (by (try simp +decide (implicitDefEqProofs := false) only [go_sem, ↓stk_g, ↓stk_c, ↓reduceIte]))) (by intro j h; omega) ?_
  rintro i ⟨⟩ hi hJ
  by_cases hlt : i < s.size
  · have g1 : (i : Int) < (s.size : Int) := by omega
    have hw := wrap_in (n := i + 1) (by omega) (by omega)
    have hnn : (0 : Int) ≤ (i : Int) := by omega
    have hnext : okB i (bt s i) = true → ∀ j, j < i + 1 → okB j (bt s j) = true := fun h j hj => by
      by_cases e : j = i
      · rw [e]; exact h
      · exact hJ j (by omega)
    have hno := word_no hlt
    have hdef : okB i (bt s i) = ((decide (97 ≤ bt s i) && decide (bt s i ≤ 122)) || (decide (0 < i) && ((decide (48 ≤ bt s i) && decide (bt s i ≤ 57)) || decide (bt s i = 45)))) := rfl
    generalize okB i (bt s i) = ok at hnext hno hdef
    generalize hc : bt s i = c at hdef
    by_cases a1 : 97 ≤ c
    · by_cases a2 : c ≤ 122
      · (try simp +decide (implicitDefEqProofs := false) only [go_sem, ↓stk_g, ↓stk_c, ↓reduceIte, g1, hlt, hnn, hw, hc, a1, a2])
        refine ⟨(), Weak.list _ (Sub.refl _) (by (try simp +decide (implicitDefEqProofs := false) only [go_sem, ↓stk_g, ↓stk_c, ↓reduceIte])), ?_⟩
        exact hnext (by rw [hdef]; simp [a1, a2])
      · by_cases a3 : (0 : Int) < (i : Int)
        · have a4 : (48 : Int) ≤ c := by omega
          have a5 : ¬ c ≤ 57 := by omega
          have a6 : ¬ c = 45 := by omega
          (try simp +decide (implicitDefEqProofs := false) only [go_sem, ↓stk_g, ↓stk_c, ↓reduceIte, g1, hlt, hnn, hw, hc, a1, a2, a3, a4, a5, decide_eq_false a6])
          refine aret_pure (.inr rfl) ?_; simp +decide only [retOf, tget, if_true, if_false, ↓reduceIte, List.map_cons, List.map_nil]
          exact hno (by rw [hdef]; simp [a2, a5, a6])
        · (try simp +decide (implicitDefEqProofs := false) only [go_sem, ↓stk_g, ↓stk_c, ↓reduceIte, g1, hlt, hnn, hw, hc, a1, a2, a3])
          refine aret_pure (.inr rfl) ?_; simp +decide only [retOf, tget, if_true, if_false, ↓reduceIte, List.map_cons, List.map_nil]
          exact hno (by rw [hdef]; simp [a2]; omega)
    · by_cases a3 : (0 : Int) < (i : Int)
      · have a3' : 0 < i := by omega
        by_cases a4 : 48 ≤ c
        · by_cases a5 : c ≤ 57
          · (try simp +decide (implicitDefEqProofs := false) only [go_sem, ↓stk_g, ↓stk_c, ↓reduceIte, g1, hlt, hnn, hw, hc, a1, a3, a4, a5])
            refine ⟨(), Weak.list _ (Sub.refl _) (by (try simp +decide (implicitDefEqProofs := false) only [go_sem, ↓stk_g, ↓stk_c, ↓reduceIte])), ?_⟩
            exact hnext (by rw [hdef]; simp [a3', a4, a5])
          · have a6 : ¬ c = 45 := by omega
            (try simp +decide (implicitDefEqProofs := false) only [go_sem, ↓stk_g, ↓stk_c, ↓reduceIte, g1, hlt, hnn, hw, hc, a1, a3, a4, a5, decide_eq_false a6])
            refine aret_pure (.inr rfl) ?_; simp +decide only [retOf, tget, if_true, if_false, ↓reduceIte, List.map_cons, List.map_nil]
            exact hno (by rw [hdef]; simp [a1, a5, a6])
        · by_cases a6 : c = 45
          · (try simp +decide (implicitDefEqProofs := false) only [go_sem, ↓stk_g, ↓stk_c, ↓reduceIte, g1, hlt, hnn, hw, hc, a1, a3, a4, decide_eq_true a6])
            refine ⟨(), Weak.list _ (Sub.refl _) (by (try simp +decide (implicitDefEqProofs := false) only [go_sem, ↓stk_g, ↓stk_c, ↓reduceIte])), ?_⟩
            exact hnext (by rw [hdef]; simp [a3', a6])
          · (try simp +decide (implicitDefEqProofs := false) only [go_sem, ↓stk_g, ↓stk_c, ↓reduceIte, g1, hlt, hnn, hw, hc, a1, a3, a4, decide_eq_false a6])
            refine aret_pure (.inr rfl) ?_; simp +decide only [retOf, tget, if_true, if_false, ↓reduceIte, List.map_cons, List.map_nil]
            exact hno (by rw [hdef]; simp [a1, a4, a6])
      · (try simp +decide (implicitDefEqProofs := false) only [go_sem, ↓stk_g, ↓stk_c, ↓reduceIte, g1, hlt, hnn, hw, hc, a1, a3])
        refine aret_pure (.inr rfl) ?_; simp +decide only [retOf, tget, if_true, if_false, ↓reduceIte, List.map_cons, List.map_nil]
        exact hno (by rw [hdef]; simp [a1]; omega)
  · have g1 : ¬ (i : Int) < (s.size : Int) := by omega
    have hy := word_yes (s := s) (fun j hj => hJ j (by omega))
    have hne : decide (s ≠ ByteArray.empty) = decide (1 ≤ (s.size : Int)) := by
      by_cases e : s = ByteArray.empty
      · subst e; rfl
      · rw [decide_eq_true e, decide_eq_true]
        rcases Nat.eq_zero_or_pos s.size with h | h
        · exact absurd (size_zero h) e
        · omega
    rw [hy, hne]
    by_cases e : (1 : Int) ≤ (s.size : Int)
    · rw [decide_eq_true e]
      (try simp +decide (implicitDefEqProofs := false) only [go_sem, ↓stk_g, ↓stk_c, ↓reduceIte, g1, e])
      refine aret_pure (.inr rfl) ?_; simp +decide only [retOf, tget, if_true, if_false, ↓reduceIte, List.map_cons, List.map_nil]
      exact congrArg (fun b => AVal.v (.bool b)) (decide_eq_decide.2 (by omega))
    · rw [decide_eq_false e]
      (try simp +decide (implicitDefEqProofs := false) only [go_sem, ↓stk_g, ↓stk_c, ↓reduceIte, g1, e])
      refine aret_pure (.inr rfl) ?_; simp +decide only [retOf, tget, if_true, if_false, ↓reduceIte, List.map_cons, List.map_nil]
      try rfl

def c_rRaw : AFn := ⟨1, 28, [2, 3],
  .seq (.ops [⟨(some 2), none, .q (.mv (.const (.bool false)))⟩,
      ⟨(some 3), none, .q (.mv (.const (.bool false)))⟩])
  (.seq (.ops [⟨(some 7), none, .e (.bsl 9 1 [(.const (.string ⟨#[115, 99, 114, 105, 112, 116]⟩)), (.const (.string ⟨#[115, 116, 121, 108, 101]⟩)), (.const (.string ⟨#[120, 109, 112]⟩)), (.const (.string ⟨#[105, 102, 114, 97, 109, 101]⟩)), (.const (.string ⟨#[110, 111, 101, 109, 98, 101, 100]⟩)), (.const (.string ⟨#[110, 111, 102, 114, 97, 109, 101, 115]⟩)), (.const (.string ⟨#[112, 108, 97, 105, 110, 116, 101, 120, 116]⟩))])⟩,
      ⟨(some 4), none, .q (.mv (.tmp 7))⟩])
  (.seq (.seq (.ops [⟨(some 5), none, .q (.mv (.const (.int .i64 0)))⟩])
  (.block 0 (.loop (.seq (.seq (.ops [⟨(some 8), none, .q (.mv (.tmp 5))⟩,
          ⟨(some 9), none, .q (.mv (.tmp 4))⟩,
          ⟨(some 10), none, .q (.len false (.tmp 9))⟩,
          ⟨(some 11), none, .q (.bin .lss .num (.tmp 8) (.tmp 10))⟩])
      (.cond (.tmp 11)
        (.skip)
        (.exit 0)))
      (.seq (.block 1 (.seq (.ops [⟨(some 14), none, .q (.mv (.tmp 4))⟩,
            ⟨(some 15), none, .q (.mv (.tmp 5))⟩,
            ⟨(some 16), none, .q (.ixa 1 (.tmp 14) (.tmp 15))⟩,
            ⟨(some 17), none, .q (.ld false 1 (.tmp 16))⟩,
            ⟨(some 18), none, .q (.mv (.tmp 0))⟩,
            ⟨(some 19), none, .q (.bin .eql .num (.tmp 17) (.tmp 18))⟩])
        (.cond (.tmp 19)
          (.seq (.ops [⟨(some 2), none, .q (.mv (.const (.bool true)))⟩,
              ⟨(some 3), none, .q (.mv (.const (.bool false)))⟩])
          (.ret))
          (.skip))))
      (.ops [⟨(some 12), none, .q (.mv (.tmp 5))⟩,
          ⟨(some 13), none, .q (.bin .add .num (.tmp 12) (.const (.int .i64 1)))⟩,
          ⟨(some 5), none, .q (.mv (.tmp 13))⟩]))))))
  (.seq (.ops [⟨(some 20), none, .q (.mv (.tmp 0))⟩,
      ⟨(some 21), none, .q (.bin .eql .num (.tmp 20) (.const (.string ⟨#[116, 101, 120, 116, 97, 114, 101, 97]⟩)))⟩,
      ⟨(some 22), none, .q (.mv (.tmp 21))⟩,
      ⟨(some 23), (some (22, false)), .q (.mv (.tmp 0))⟩,
      ⟨(some 24), (some (22, false)), .q (.bin .eql .num (.tmp 23) (.const (.string ⟨#[116, 105, 116, 108, 101]⟩)))⟩,
      ⟨(some 25), none, .q (.pick (.tmp 22) (.const (.bool true)) (.tmp 24))⟩,
      ⟨(some 6), none, .q (.mv (.tmp 25))⟩])
  (.seq (.ops [⟨(some 26), none, .q (.mv (.tmp 6))⟩,
      ⟨(some 27), none, .q (.mv (.tmp 6))⟩,
      ⟨(some 2), none, .q (.mv (.tmp 26))⟩,
      ⟨(some 3), none, .q (.mv (.tmp 27))⟩])
  (.ret))))), []⟩
theorem k_rRaw : compF Tryz.prog 69 = some c_rRaw := by kernel_rfl
set_option maxHeartbeats 2000000 in
theorem rraw_ok {W : World} (s : Str) : ACalls Tryz.prog W 69 [.v (.string s)] AHeap.none fun v _ => v = .tup [.v (.bool (rawP s)), .v (.bool (decide (s ∈ raw2 ∧ s ∉ raw7)))] := by
  refine fn_run follows k_rRaw rfl ?_
  simp only [c_rRaw, aretC_nil, List.zipIdx_cons, List.zipIdx_nil, List.map_cons, List.map_nil, Nat.zero_add]
  (try simp +decide (implicitDefEqProofs := false) only [go_sem, ↓stk_g, ↓stk_c, ↓reduceIte, lay, oneOr, List.take_succ_cons, List.take_zero, List.drop_succ_cons, List.drop_zero, List.nil_append, List.cons_append, Option.getD_some, Nat.reduceAdd, Nat.reduceLeDiff, List.append_nil, and_self, List.all_cons, List.all_nil])
  refine stk_up (α := Unit) 7 (fun i _ => ⟨[(5, .v (.int .i64 i)), (4, .sl true 1 (strRows raw7)), (0, .v (.string s))], AHeap.none⟩) (fun i _ => s ∉ raw7.take i) () (Weak.list _ (Sub.refl _) ?_) (by simp) ?_
  · (try simp +decide (implicitDefEqProofs := false) only [go_sem, ↓stk_g, ↓stk_c, ↓reduceIte])
    first | done | exact FZ.refl _
  rintro i ⟨⟩ hi hJ
  have hlen : raw7.length = 7 := rfl
  by_cases hlt : i < 7
  · have g1 : (i : Int) < ((7 : Nat) : Int) := by omega
    have hw := wrap_in (n := (i : Int) + 1) (by omega) (by omega)
    have hg := strRows_get (l := raw7) (i := i) (by rw [hlen]; exact hlt)
    have hget : raw7.getD i ByteArray.empty = raw7[i]'(by rw [hlen]; exact hlt) := by simp [hlen, hlt]
    have hmem : raw7.getD i ByteArray.empty ∈ raw7 := by rw [hget]; exact List.getElem_mem _
    by_cases e : raw7.getD i ByteArray.empty = s
    · have e1 := decide_eq_true e
      rw [e] at hmem
      generalize hr7 : raw7 = R at hg hlen hmem e1 e hget hJ
      (try simp +decide (implicitDefEqProofs := false) only [go_sem, ↓stk_g, ↓stk_c, ↓reduceIte, g1, hlt, hlen, hw, hg, e1])
      refine aret_pure (.inr rfl) ?_; simp +decide only [retOf, tget, if_true, if_false, ↓reduceIte, List.map_cons, List.map_nil]
      rw [decide_eq_false (fun h => h.2 hmem)]
      have : rawP s = true := by unfold rawP; rw [hr7, decide_eq_true hmem]; rfl
      rw [this]
    · have e1 := decide_eq_false e
      generalize hr7 : raw7 = R at hg hlen hmem e1 e hget hJ
      (try simp +decide (implicitDefEqProofs := false) only [go_sem, ↓stk_g, ↓stk_c, ↓reduceIte, g1, hlt, hlen, hw, hg, e1])
      refine ⟨(), Weak.list _ (Sub.refl _) (by (try simp +decide (implicitDefEqProofs := false) only [go_sem, ↓stk_g, ↓stk_c, ↓reduceIte])), ?_⟩
      rw [List.take_succ_eq_append_getElem (by rw [hlen]; exact hlt)]
      simp only [List.mem_append, List.mem_singleton, not_or]
      exact ⟨hJ, by rw [← hget]; exact fun h => e h.symm⟩
  · have g1 : ¬ (i : Int) < ((7 : Nat) : Int) := by omega
    rw [List.take_of_length_le (by rw [hlen]; omega)] at hJ
    have hr : rawP s = decide (s ∈ raw2) := by unfold rawP; rw [decide_eq_false hJ]; rfl
    have hr2 : decide (s ∈ raw2 ∧ s ∉ raw7) = decide (s ∈ raw2) := decide_eq_decide.2 ⟨fun h => h.1, fun h => ⟨h, hJ⟩⟩
    rw [hr, hr2]
    clear hr hr2 hJ
    by_cases k : s ∈ raw2
    · rw [decide_eq_true k]
      simp only [raw2, List.mem_cons, List.not_mem_nil, or_false] at k
      rcases k with rfl | rfl
      all_goals (
        generalize raw7 = R at hlen ⊢
        (try simp +decide (implicitDefEqProofs := false) only [go_sem, ↓stk_g, ↓stk_c, ↓reduceIte, g1, hlen])
        refine aret_pure (.inr rfl) ?_; simp +decide only [retOf, tget, if_true, if_false, ↓reduceIte, List.map_cons, List.map_nil])
    · rw [decide_eq_false k]
      simp only [raw2, List.mem_cons, List.not_mem_nil, or_false, not_or] at k
      obtain ⟨k1, k2⟩ := k
      generalize raw7 = R at hlen ⊢
      (try simp +decide (implicitDefEqProofs := false) only [go_sem, ↓stk_g, ↓stk_c, ↓reduceIte, g1, hlen, decide_eq_false k1, decide_eq_false k2])
      refine aret_pure (.inr rfl) ?_; simp +decide only [retOf, tget, if_true, if_false, ↓reduceIte, List.map_cons, List.map_nil]
def c_rNever : AFn := ⟨1, 16, [2],
  .seq (.ops [⟨(some 2), none, .q (.mv (.const (.bool false)))⟩])
  (.seq (.ops [⟨(some 6), none, .q (.mv (.tmp 0))⟩,
      ⟨(some 7), none, .e (.call 69 [(.tmp 6)])⟩,
      ⟨(some 5), none, .q (.mv (.tmp 7))⟩,
      ⟨(some 8), none, .q (.ext (.tmp 5) 0)⟩,
      ⟨(some 9), none, .q (.ext (.tmp 5) 1)⟩,
      ⟨(some 3), none, .q (.mv (.tmp 8))⟩,
      ⟨(some 4), none, .q (.mv (.tmp 9))⟩])
  (.seq (.ops [⟨(some 10), none, .q (.mv (.tmp 3))⟩,
      ⟨(some 11), none, .q (.mv (.tmp 10))⟩,
      ⟨(some 12), (some (11, false)), .e (.bsl 9 1 [(.const (.string ⟨#[98, 97, 115, 101]⟩)), (.const (.string ⟨#[101, 109, 98, 101, 100]⟩)), (.const (.string ⟨#[102, 111, 114, 109]⟩)), (.const (.string ⟨#[105, 110, 112, 117, 116]⟩)), (.const (.string ⟨#[108, 105, 110, 107]⟩)), (.const (.string ⟨#[109, 97, 116, 104]⟩)), (.const (.string ⟨#[109, 101, 116, 97]⟩)), (.const (.string ⟨#[111, 98, 106, 101, 99, 116]⟩)), (.const (.string ⟨#[112, 97, 114, 97, 109]⟩)), (.const (.string ⟨#[115, 101, 108, 101, 99, 116]⟩)), (.const (.string ⟨#[115, 118, 103]⟩)), (.const (.string ⟨#[116, 101, 109, 112, 108, 97, 116, 101]⟩)), (.const (.string ⟨#[110, 111, 115, 99, 114, 105, 112, 116]⟩)), (.const (.string ⟨#[102, 114, 97, 109, 101]⟩)), (.const (.string ⟨#[102, 114, 97, 109, 101, 115, 101, 116]⟩))])⟩,
      ⟨(some 13), (some (11, false)), .q (.mv (.tmp 0))⟩,
      ⟨(some 14), (some (11, false)), .e (.call 54 [(.tmp 12), (.tmp 13)])⟩,
      ⟨(some 15), none, .q (.pick (.tmp 11) (.const (.bool true)) (.tmp 14))⟩,
      ⟨(some 2), none, .q (.mv (.tmp 15))⟩])
  (.ret))), []⟩
theorem k_rNever : compF Tryz.prog 52 = some c_rNever := by kernel_rfl
theorem rnever_ok {W : World} (s : Str) : ACalls Tryz.prog W 52 [.v (.string s)] AHeap.none fun v _ => v = .v (.bool (neverP s)) := by
  refine fn_run follows k_rNever rfl ?_
  simp only [c_rNever, aretC_nil, List.zipIdx_cons, List.zipIdx_nil, List.map_cons, List.map_nil, Nat.zero_add]
  (try simp +decide (implicitDefEqProofs := false) only [go_sem, ↓stk_g, ↓stk_c, ↓reduceIte])
  refine stk_pure (rraw_ok s) fun v hv => ?_
  subst hv
  unfold neverP
  rw [Bool.or_comm]
  cases rawP s
  · (try simp +decide (implicitDefEqProofs := false) only [go_sem, ↓stk_g, ↓stk_c, ↓reduceIte, lay, oneOr, List.take_succ_cons, List.take_zero, List.drop_succ_cons, List.drop_zero, List.nil_append, List.cons_append, Option.getD_some, Nat.reduceAdd, Nat.reduceLeDiff, List.append_nil, and_self, List.all_cons, List.all_nil])
    refine stk_pure (has_ok (f := true) neverNames s (by decide)) fun v hv => ?_
    subst hv
    (try simp +decide (implicitDefEqProofs := false) only [go_sem, ↓stk_g, ↓stk_c, ↓reduceIte])
    refine aret_pure (.inr rfl) ?_; simp +decide only [retOf, tget, if_true, if_false, ↓reduceIte, List.map_cons, List.map_nil]
    try rfl
  · (try simp +decide (implicitDefEqProofs := false) only [go_sem, ↓stk_g, ↓stk_c, ↓reduceIte])
    refine aret_pure (.inr rfl) ?_; simp +decide only [retOf, tget, if_true, if_false, ↓reduceIte, List.map_cons, List.map_nil]
    try rfl
def risesP (l : List Str) : Bool := risesL l && decide (l.length ≤ 64)
def c_rises : AFn := ⟨1, 23, [2],
  .seq (.ops [⟨(some 2), none, .q (.mv (.const (.bool false)))⟩])
  (.seq (.seq (.ops [⟨(some 3), none, .q (.mv (.const (.int .i64 1)))⟩])
  (.block 0 (.loop (.seq (.seq (.ops [⟨(some 4), none, .q (.mv (.tmp 3))⟩,
          ⟨(some 5), none, .q (.mv (.tmp 0))⟩,
          ⟨(some 6), none, .q (.len false (.tmp 5))⟩,
          ⟨(some 7), none, .q (.bin .lss .num (.tmp 4) (.tmp 6))⟩])
      (.cond (.tmp 7)
        (.skip)
        (.exit 0)))
      (.seq (.block 1 (.seq (.ops [⟨(some 10), none, .q (.mv (.tmp 0))⟩,
            ⟨(some 11), none, .q (.mv (.tmp 3))⟩,
            ⟨(some 12), none, .q (.bin .sub .num (.tmp 11) (.const (.int .i64 1)))⟩,
            ⟨(some 13), none, .q (.ixa 1 (.tmp 10) (.tmp 12))⟩,
            ⟨(some 14), none, .q (.ld false 1 (.tmp 13))⟩,
            ⟨(some 15), none, .q (.mv (.tmp 0))⟩,
            ⟨(some 16), none, .q (.mv (.tmp 3))⟩,
            ⟨(some 17), none, .q (.ixa 1 (.tmp 15) (.tmp 16))⟩,
            ⟨(some 18), none, .q (.ld false 1 (.tmp 17))⟩,
            ⟨(some 19), none, .q (.bin .geq .num (.tmp 14) (.tmp 18))⟩])
        (.cond (.tmp 19)
          (.seq (.ops [⟨(some 2), none, .q (.mv (.const (.bool false)))⟩])
          (.ret))
          (.skip))))
      (.ops [⟨(some 8), none, .q (.mv (.tmp 3))⟩,
          ⟨(some 9), none, .q (.bin .add .num (.tmp 8) (.const (.int .i64 1)))⟩,
          ⟨(some 3), none, .q (.mv (.tmp 9))⟩]))))))
  (.seq (.ops [⟨(some 20), none, .q (.mv (.tmp 0))⟩,
      ⟨(some 21), none, .q (.len false (.tmp 20))⟩,
      ⟨(some 22), none, .q (.bin .leq .num (.tmp 21) (.const (.int .i64 64)))⟩,
      ⟨(some 2), none, .q (.mv (.tmp 22))⟩])
  (.ret))), []⟩
theorem k_rises : compF Tryz.prog 51 = some c_rises := by kernel_rfl
set_option maxHeartbeats 2000000 in
theorem rises_ok {W : World} {f : Bool} (l : List Str) (hl : l.length ≤ 1000000) : ACalls Tryz.prog W 51 [.sl f 1 (strRows l)] AHeap.none fun v _ => v = .v (.bool (risesP l)) := by
  refine fn_run follows k_rises rfl ?_
  simp only [c_rises, aretC_nil, List.zipIdx_cons, List.zipIdx_nil, List.map_cons, List.map_nil, Nat.zero_add]
  (try simp +decide (implicitDefEqProofs := false) only [go_sem, ↓stk_g, ↓stk_c, ↓reduceIte])
  refine stk_up (α := Unit) (l.length - 1) (fun i _ => ⟨[(3, .v (.int .i64 ((i : Int) + 1))), (0, .sl f 1 (strRows l))], AHeap.none⟩) (fun i _ => ∀ j, j < i → strLt (l.getD j ByteArray.empty) (l.getD (j + 1) ByteArray.empty) = true) () (Weak.list _ (Sub.refl _) ?_) (fun j h => by omega) ?_
  · (try simp +decide (implicitDefEqProofs := false) only [go_sem, ↓stk_g, ↓stk_c, ↓reduceIte])
    exact FZ.refl _
  rintro i ⟨⟩ hi hJ
  by_cases hlt : i + 1 < l.length
  · have g1 : (i : Int) + 1 < (l.length : Int) := by omega
    have hw := wrap_in (n := (i : Int) + 1 + 1) (by omega) (by omega)
    have hw2 : IntKind.i64.wrap ((i : Int) + 1 - 1) = (i : Int) := by rw [IntKind.wrap_i64]; omega
    have hi0 : i < l.length := by omega
    have g2 : (i : Int) < (l.length : Int) := by omega
    have g3 : (0 : Int) ≤ (i : Int) + 1 := by omega
    have g4 : ((i : Int) + 1).toNat = i + 1 := by omega
    have hg := strRows_get hi0
    have hg2 := strRows_get hlt
    cases hs : strLt (l.getD i ByteArray.empty) (l.getD (i + 1) ByteArray.empty)
    · (try simp +decide (implicitDefEqProofs := false) only [go_sem, ↓stk_g, ↓stk_c, ↓reduceIte, g1, g2, g3, g4, hi0, hlt, hw2, hg, hg2, hs])
      refine aret_pure (.inr rfl) ?_; simp +decide only [retOf, tget, if_true, if_false, ↓reduceIte, List.map_cons, List.map_nil]
      have : risesL l = false := by
        unfold risesL
        rw [List.all_eq_false]
        exact ⟨i, List.mem_range.2 (by omega), by rw [hs]; simp⟩
      unfold risesP
      rw [this]; rfl
    · (try simp +decide (implicitDefEqProofs := false) only [go_sem, ↓stk_g, ↓stk_c, ↓reduceIte, g1, g2, g3, g4, hi0, hlt, hw, hw2, hg, hg2, hs])
      have hJ2 : ∀ j, j < i + 1 → strLt (l.getD j ByteArray.empty) (l.getD (j + 1) ByteArray.empty) = true := fun j hj => by
        by_cases e : j = i
        · rw [e]; exact hs
        · exact hJ j (by omega)
      first | exact ⟨by omega, (), Weak.list _ (Sub.refl _) (by (try simp +decide (implicitDefEqProofs := false) only [go_sem, ↓stk_g, ↓stk_c, ↓reduceIte])), hJ2⟩ | exact ⟨(), Weak.list _ (Sub.refl _) (by (try simp +decide (implicitDefEqProofs := false) only [go_sem, ↓stk_g, ↓stk_c, ↓reduceIte])), hJ2⟩
  · have g1 : ¬ (i : Int) + 1 < (l.length : Int) := by omega
    (try simp +decide (implicitDefEqProofs := false) only [go_sem, ↓stk_g, ↓stk_c, ↓reduceIte, g1])
    refine aret_pure (.inr rfl) ?_; simp +decide only [retOf, tget, if_true, if_false, ↓reduceIte, List.map_cons, List.map_nil]
    have : risesL l = true := List.all_eq_true.2 fun j hj => hJ j (by have := List.mem_range.1 hj; omega)
    unfold risesP
    rw [this, Bool.true_and]
    exact congrArg (fun b => AVal.v (.bool b)) (decide_eq_decide.2 (by omega))
def c_words : AFn := ⟨1, 18, [2],
  .seq (.ops [⟨(some 2), none, .q (.mv (.const (.bool false)))⟩])
  (.seq (.seq (.ops [⟨(some 3), none, .q (.mv (.const (.int .i64 0)))⟩])
  (.block 0 (.loop (.seq (.seq (.ops [⟨(some 4), none, .q (.mv (.tmp 3))⟩,
          ⟨(some 5), none, .q (.mv (.tmp 0))⟩,
          ⟨(some 6), none, .q (.len false (.tmp 5))⟩,
          ⟨(some 7), none, .q (.bin .lss .num (.tmp 4) (.tmp 6))⟩])
      (.cond (.tmp 7)
        (.skip)
        (.exit 0)))
      (.seq (.block 1 (.seq (.ops [⟨(some 10), none, .q (.mv (.tmp 0))⟩,
            ⟨(some 11), none, .q (.mv (.tmp 3))⟩,
            ⟨(some 12), none, .q (.ixa 1 (.tmp 10) (.tmp 11))⟩,
            ⟨(some 13), none, .q (.ld false 1 (.tmp 12))⟩,
            ⟨(some 14), none, .e (.call 68 [(.tmp 13)])⟩,
            ⟨(some 15), none, .q (.un .not (.tmp 14))⟩])
        (.cond (.tmp 15)
          (.seq (.ops [⟨(some 2), none, .q (.mv (.const (.bool false)))⟩])
          (.ret))
          (.skip))))
      (.ops [⟨(some 8), none, .q (.mv (.tmp 3))⟩,
          ⟨(some 9), none, .q (.bin .add .num (.tmp 8) (.const (.int .i64 1)))⟩,
          ⟨(some 3), none, .q (.mv (.tmp 9))⟩]))))))
  (.seq (.ops [⟨(some 16), none, .q (.mv (.tmp 0))⟩,
      ⟨(some 17), none, .e (.call 51 [(.tmp 16)])⟩,
      ⟨(some 2), none, .q (.mv (.tmp 17))⟩])
  (.ret))), []⟩
theorem k_words : compF Tryz.prog 50 = some c_words := by kernel_rfl
set_option maxHeartbeats 2000000 in
theorem words_ok {W : World} {f : Bool} (l : List Str) (hl : l.length ≤ 1000000) (hz : ∀ s ∈ l, s.size ≤ 1000000) : ACalls Tryz.prog W 50 [.sl f 1 (strRows l)] AHeap.none fun v _ => v = .v (.bool (listP l wordP)) := by
  refine fn_run follows k_words rfl ?_
  simp only [c_words, aretC_nil, List.zipIdx_cons, List.zipIdx_nil, List.map_cons, List.map_nil, Nat.zero_add]
  (try simp +decide (implicitDefEqProofs := false) only [go_sem, ↓stk_g, ↓stk_c, ↓reduceIte])
  refine stk_up (α := Unit) l.length (fun i _ => ⟨[(3, .v (.int .i64 i)), (0, .sl f 1 (strRows l))], AHeap.none⟩) (fun i _ => ∀ j, j < i → wordP (l.getD j ByteArray.empty) = true) () (Weak.list _ (Sub.refl _) (by (try simp +decide (implicitDefEqProofs := false) only [go_sem, ↓stk_g, ↓stk_c, ↓reduceIte]))) (fun j h => by omega) ?_
  rintro i ⟨⟩ hi hJ
  by_cases hlt : i < l.length
  · have g1 : (i : Int) < (l.length : Int) := by omega
    have hw := wrap_in (n := (i : Int) + 1) (by omega) (by omega)
    have hg := strRows_get hlt
    have hget : l.getD i ByteArray.empty = l[i] := by simp [hlt]
    have hsz := hz (l.getD i ByteArray.empty) (by rw [hget]; exact List.getElem_mem _)
    (try simp +decide (implicitDefEqProofs := false) only [go_sem, ↓stk_g, ↓stk_c, ↓reduceIte, g1, hlt, hg])
    refine stk_pure (rword_ok _ (by omega)) fun v hv => ?_
    subst hv
    cases hh : wordP (l.getD i ByteArray.empty)
    · (try simp +decide (implicitDefEqProofs := false) only [go_sem, ↓stk_g, ↓stk_c, ↓reduceIte])
      refine aret_pure (.inr rfl) ?_; simp +decide only [retOf, tget, if_true, if_false, ↓reduceIte, List.map_cons, List.map_nil]
      rw [listP_no2 hlt hh]
    · (try simp +decide (implicitDefEqProofs := false) only [go_sem, ↓stk_g, ↓stk_c, ↓reduceIte, hw])
      refine ⟨(), Weak.list _ (Sub.refl _) (by (try simp +decide (implicitDefEqProofs := false) only [go_sem, ↓stk_g, ↓stk_c, ↓reduceIte])), fun j hj => ?_⟩
      by_cases e : j = i
      · rw [e]; exact hh
      · exact hJ j (by omega)
  · have g1 : ¬ (i : Int) < (l.length : Int) := by omega
    obtain rfl : i = l.length := by omega
    (try simp +decide (implicitDefEqProofs := false) only [go_sem, ↓stk_g, ↓stk_c, ↓reduceIte, g1])
    refine stk_pure (rises_ok l hl) fun v hv => ?_
    subst hv
    (try simp +decide (implicitDefEqProofs := false) only [go_sem, ↓stk_g, ↓stk_c, ↓reduceIte])
    refine aret_pure (.inr rfl) ?_; simp +decide only [retOf, tget, if_true, if_false, ↓reduceIte, List.map_cons, List.map_nil]
    have : l.all wordP = true := List.all_eq_true.2 fun x hx => by
      obtain ⟨j, hj, rfl⟩ := List.getElem_of_mem hx
      have := hJ j hj
      simpa [hj] using this
    unfold listP risesP
    rw [this, Bool.and_true]
end Go.Proofs.YtcplmaffccfbdaaGreatDoor.M
