/-
  Texts in lists, beginnings of texts, words and names, walked.
-/
import Derived.Test.YtcplmaffccfbdaaGreatDoorProg
import Derived.Test.YtcplmaffccfbdaaGreatDoorMV
namespace Go.Proofs.YtcplmaffccfbdaaGreatDoor.M
open Go.RowKit
attribute [local go_sem] stk_nil stk_skip stk_ops stk_seq stk_block stk_scope stk_exit stk_ret stk_code_exit stk_code_ret stk_ops_exit stk_ops_ret stk_endb stk_endb_exit stk_endb_ret stk_endl stk_endl_exit stk_endl_ret stk_ops_nil stk_q stk_niq niqA flip srcOf stk_bsl side val bside bval uside uval cside cval bndS bndV intA isInt lside lval fside fval faside faval iside ival sxside sxval sizeA slside slval llside llval lenside lenval lenA tupA mmside mmval nkside boolA isBool ev_t ev_c tget put_s put_n lkside lkval menval stk_mk Option.isSome_some isMapA mapA keyA FZ_rfl FZ_any retOf true_and and_true if_true if_false decide_true decide_false Bool.not_true Bool.not_false Nat.zero_add List.map_cons List.map_nil Int.toNat_natCast strRows_len intRows_len List.getD_cons_zero List.getD_cons_succ List.length_cons List.length_nil List.forall_mem_cons List.not_mem_nil false_implies implies_true Int.ofNat_zero Int.natCast_add Int.natCast_one Int.ofNat_one Int.natCast_zero isB isU Bool.false_eq_true beq_self_eq_true Bool.false_beq Bool.true_beq Int.natCast_nonneg undef strRows_take strRows_drop Int.toNat_zero List.drop_zero Bool.and_true oneOr List.all_cons List.all_nil AVal.one Value.oneCell' Bool.true_and List.take_length stk_st' stside stH hp_self hp_hp isnside isnval
set_option linter.unusedVariables false
set_option linter.unusedSimpArgs false
theorem follows : Tryz.prog.follows .mixedOrders = true := by kernel_rfl
def c_Index : AFn := ⟨2, 19, [4],
  .seq (.ops [⟨(some 4), none, .q (.mv (.const (.int .i64 0)))⟩])
  (.seq (.seq (.ops [⟨(some 6), none, .q (.mv (.tmp 0))⟩,
      ⟨(some 7), none, .q (.len false (.tmp 6))⟩,
      ⟨(some 8), none, .q (.mv (.const (.int .i64 0)))⟩])
  (.block 0 (.loop (.seq (.ops [⟨(some 9), none, .q (.bin .lss .num (.tmp 8) (.tmp 7))⟩])
      (.seq (.cond (.tmp 9)
        (.skip)
        (.exit 0))
      (.seq (.block 1 (.seq (.ops [⟨(some 10), none, .q (.mv (.tmp 8))⟩,
            ⟨(some 5), none, .q (.mv (.tmp 10))⟩])
        (.seq (.ops [⟨(some 11), none, .q (.mv (.tmp 1))⟩,
            ⟨(some 12), none, .q (.mv (.tmp 0))⟩,
            ⟨(some 13), none, .q (.mv (.tmp 5))⟩,
            ⟨(some 14), none, .q (.ixa 1 (.tmp 12) (.tmp 13))⟩,
            ⟨(some 15), none, .q (.ld false 1 (.tmp 14))⟩,
            ⟨(some 16), none, .q (.bin .eql .num (.tmp 11) (.tmp 15))⟩])
        (.cond (.tmp 16)
          (.seq (.ops [⟨(some 17), none, .q (.mv (.tmp 5))⟩,
              ⟨(some 4), none, .q (.mv (.tmp 17))⟩])
          (.ret))
          (.skip)))))
      (.ops [⟨(some 18), none, .q (.bin .add .num (.tmp 8) (.const (.int .i64 1)))⟩,
          ⟨(some 8), none, .q (.mv (.tmp 18))⟩])))))))
  (.seq (.ops [⟨(some 4), none, .q (.mv (.const (.int .i64 (-1))))⟩])
  (.ret))), []⟩
theorem k_Index : compF Tryz.prog 64 = some c_Index := by kernel_rfl
set_option maxHeartbeats 2000000 in
theorem index_ok {W : World} {f : Bool} (l : List Str) (x : Str) (hl : l.length ≤ 1000000000) : ACalls Tryz.prog W 64 [.sl f 1 (strRows l), .v (.string x)] AHeap.none fun v _ => ∃ n : Int, v = .v (.int .i64 n) ∧ (0 ≤ n ↔ x ∈ l) := by
  refine fn_run follows k_Index rfl ?_
  simp only [c_Index, aretC_nil, List.zipIdx_cons, List.zipIdx_nil, List.map_cons, List.map_nil, Nat.zero_add]
  (try simp +decide (implicitDefEqProofs := false) only [go_sem, ↓stk_g, ↓stk_c, ↓reduceIte])
  refine stk_up (α := Unit) l.length (fun i _ => ⟨[(8, .v (.int .i64 i)), (7, .v (.int .i64 l.length)), (0, .sl f 1 (strRows l)), (1, .v (.string x))], AHeap.none⟩) (fun i _ => x ∉ l.take i) () (Weak.list _ (Sub.refl _) (by (try simp +decide (implicitDefEqProofs := false) only [go_sem, ↓stk_g, ↓stk_c, ↓reduceIte]))) (by simp) ?_
  rintro i ⟨⟩ hi hJ
  by_cases hlt : i < l.length
  · have g1 : (i : Int) < (l.length : Int) := by omega
    have hw := wrap_in (n := i + 1) (by omega) (by omega)
    have hg := strRows_get hlt
    have hget : l.getD i ByteArray.empty = l[i] := by simp [hlt]
    by_cases e : x = l.getD i ByteArray.empty
    · have e1 := decide_eq_true e
      (try simp +decide (implicitDefEqProofs := false) only [go_sem, ↓stk_g, ↓stk_c, ↓reduceIte, g1, hlt, hw, hg, e1])
      refine aret_pure (.inr rfl) ?_; simp +decide only [retOf, tget, if_true, if_false, ↓reduceIte, List.map_cons, List.map_nil]
      exact ⟨i, rfl, fun _ => by rw [e, hget]; exact List.getElem_mem _, fun _ => by omega⟩
    · have e1 := decide_eq_false e
      (try simp +decide (implicitDefEqProofs := false) only [go_sem, ↓stk_g, ↓stk_c, ↓reduceIte, g1, hlt, hw, hg, e1])
      refine ⟨(), Weak.list _ (Sub.refl _) (by (try simp +decide (implicitDefEqProofs := false) only [go_sem, ↓stk_g, ↓stk_c, ↓reduceIte])), ?_⟩
      rw [List.take_succ_eq_append_getElem hlt]
      simp only [List.mem_append, List.mem_singleton, not_or]
      exact ⟨hJ, by rw [← hget]; exact e⟩
  · have g1 : ¬ (i : Int) < (l.length : Int) := by omega
    (try simp +decide (implicitDefEqProofs := false) only [go_sem, ↓stk_g, ↓stk_c, ↓reduceIte, g1])
    refine aret_pure (.inr rfl) ?_; simp +decide only [retOf, tget, if_true, if_false, ↓reduceIte, List.map_cons, List.map_nil]
    rw [List.take_of_length_le (by omega)] at hJ
    exact ⟨-1, rfl, fun h => by omega, fun h => absurd h hJ⟩
def c_Contains : AFn := ⟨2, 9, [4],
  .seq (.ops [⟨(some 4), none, .q (.mv (.const (.bool false)))⟩])
  (.seq (.ops [⟨(some 5), none, .q (.mv (.tmp 0))⟩,
      ⟨(some 6), none, .q (.mv (.tmp 1))⟩,
      ⟨(some 7), none, .e (.call 64 [(.tmp 5), (.tmp 6)])⟩,
      ⟨(some 8), none, .q (.bin .geq .num (.tmp 7) (.const (.int .i64 0)))⟩,
      ⟨(some 4), none, .q (.mv (.tmp 8))⟩])
  (.ret)), []⟩
theorem k_Contains : compF Tryz.prog 40 = some c_Contains := by kernel_rfl
theorem contains_ok {W : World} {f : Bool} (l : List Str) (x : Str) (hl : l.length ≤ 1000000000) : ACalls Tryz.prog W 40 [.sl f 1 (strRows l), .v (.string x)] AHeap.none fun v _ => v = .v (.bool (decide (x ∈ l))) := by
  refine fn_run follows k_Contains rfl ?_
  simp only [c_Contains, aretC_nil, List.zipIdx_cons, List.zipIdx_nil, List.map_cons, List.map_nil, Nat.zero_add]
  (try simp +decide (implicitDefEqProofs := false) only [go_sem, ↓stk_g, ↓stk_c, ↓reduceIte])
  refine stk_pure (index_ok l x hl) fun v hv => ?_
  obtain ⟨n, rfl, hn⟩ := hv
  (try simp +decide (implicitDefEqProofs := false) only [go_sem, ↓stk_g, ↓stk_c, ↓reduceIte])
  refine aret_pure (.inr rfl) ?_; simp +decide only [retOf, tget, if_true, if_false, ↓reduceIte, List.map_cons, List.map_nil]
  simp only [hn]
def hasPre (s t : Str) : Bool := decide (t.size ≤ s.size) && decide (s.extract 0 t.size = t)
def bt8 (s : Str) (i : Nat) : Int := bt s (i : Int)
def okB (i : Nat) (c : Int) : Bool := (decide (97 ≤ c) && decide (c ≤ 122)) || (decide (0 < i) && ((decide (48 ≤ c) && decide (c ≤ 57)) || decide (c = 45)))
def wordP (s : Str) : Bool := (List.range s.size).all (fun i => okB i (bt s i)) && (decide (s ≠ ByteArray.empty) && decide (s.size ≤ 32))
theorem word_no {s : Str} {i : Nat} (h : i < s.size) (hb : okB i (bt s i) = false) : AVal.v (.bool false) = .v (.bool (wordP s)) := by
  have : wordP s = false := by
    unfold wordP
    rw [Bool.and_eq_false_iff]; left
    rw [List.all_eq_false]
    exact ⟨i, by simp [h], by simp [hb]⟩
  rw [this]
theorem word_yes {s : Str} (h : ∀ i, i < s.size → okB i (bt s i) = true) : wordP s = (decide (s ≠ ByteArray.empty) && decide (s.size ≤ 32)) := by
  unfold wordP
  rw [List.all_eq_true.2 (fun i hi => h i (by simpa using hi))]
  rfl
def c_word : AFn := ⟨1, 43, [2],
  .seq (.ops [⟨(some 2), none, .q (.mv (.const (.bool false)))⟩])
  (.seq (.seq (.ops [⟨(some 5), none, .q (.mv (.tmp 0))⟩,
      ⟨(some 6), none, .q (.len true (.tmp 5))⟩,
      ⟨(some 7), none, .q (.mv (.const (.int .i64 0)))⟩])
  (.block 0 (.loop (.seq (.ops [⟨(some 8), none, .q (.bin .lss .num (.tmp 7) (.tmp 6))⟩])
      (.seq (.cond (.tmp 8)
        (.skip)
        (.exit 0))
      (.seq (.block 1 (.seq (.ops [⟨(some 9), none, .q (.mv (.tmp 7))⟩,
            ⟨(some 3), none, .q (.mv (.tmp 9))⟩])
        (.seq (.ops [⟨(some 10), none, .q (.mv (.tmp 0))⟩,
            ⟨(some 11), none, .q (.mv (.tmp 3))⟩,
            ⟨(some 12), none, .q (.six (.tmp 10) (.tmp 11))⟩,
            ⟨(some 4), none, .q (.mv (.tmp 12))⟩])
        (.seq (.seq (.ops [⟨(some 13), none, .q (.mv (.tmp 4))⟩,
            ⟨(some 14), none, .q (.bin .geq .num (.tmp 13) (.const (.int .u8 97)))⟩,
            ⟨(some 15), none, .q (.mv (.tmp 14))⟩,
            ⟨(some 16), (some (15, true)), .q (.mv (.tmp 4))⟩,
            ⟨(some 17), (some (15, true)), .q (.bin .leq .num (.tmp 16) (.const (.int .u8 122)))⟩,
            ⟨(some 18), none, .q (.pick (.tmp 15) (.tmp 17) (.const (.bool false)))⟩,
            ⟨(some 19), none, .q (.mv (.tmp 18))⟩,
            ⟨(some 20), (some (19, false)), .q (.mv (.tmp 3))⟩,
            ⟨(some 21), (some (19, false)), .q (.bin .gtr .num (.tmp 20) (.const (.int .i64 0)))⟩,
            ⟨(some 22), (some (19, false)), .q (.mv (.tmp 21))⟩,
            ⟨(some 23), (some (22, true)), .q (.mv (.tmp 4))⟩,
            ⟨(some 24), (some (22, true)), .q (.bin .geq .num (.tmp 23) (.const (.int .u8 48)))⟩,
            ⟨(some 25), (some (22, true)), .q (.mv (.tmp 24))⟩,
            ⟨(some 26), (some (25, true)), .q (.mv (.tmp 4))⟩,
            ⟨(some 27), (some (25, true)), .q (.bin .leq .num (.tmp 26) (.const (.int .u8 57)))⟩,
            ⟨(some 28), (some (22, true)), .q (.pick (.tmp 25) (.tmp 27) (.const (.bool false)))⟩,
            ⟨(some 29), (some (22, true)), .q (.mv (.tmp 28))⟩,
            ⟨(some 30), (some (29, false)), .q (.mv (.tmp 4))⟩,
            ⟨(some 31), (some (29, false)), .q (.bin .eql .num (.tmp 30) (.const (.int .u8 45)))⟩,
            ⟨(some 32), (some (22, true)), .q (.pick (.tmp 29) (.const (.bool true)) (.tmp 31))⟩,
            ⟨(some 33), (some (19, false)), .q (.pick (.tmp 22) (.tmp 32) (.const (.bool false)))⟩,
            ⟨(some 34), none, .q (.pick (.tmp 19) (.const (.bool true)) (.tmp 33))⟩])
        (.cond (.tmp 34)
          (.exit 1)
          (.skip)))
        (.seq (.ops [⟨(some 2), none, .q (.mv (.const (.bool false)))⟩])
        (.ret))))))
      (.ops [⟨(some 35), none, .q (.bin .add .num (.tmp 7) (.const (.int .i64 1)))⟩,
          ⟨(some 7), none, .q (.mv (.tmp 35))⟩])))))))
  (.seq (.ops [⟨(some 36), none, .q (.mv (.tmp 0))⟩,
      ⟨(some 37), none, .q (.bin .neq .num (.tmp 36) (.const (.string ByteArray.empty)))⟩,
      ⟨(some 38), none, .q (.mv (.tmp 37))⟩,
      ⟨(some 39), (some (38, true)), .q (.mv (.tmp 0))⟩,
      ⟨(some 40), (some (38, true)), .q (.len true (.tmp 39))⟩,
      ⟨(some 41), (some (38, true)), .q (.bin .leq .num (.tmp 40) (.const (.int .i64 32)))⟩,
      ⟨(some 42), none, .q (.pick (.tmp 38) (.tmp 41) (.const (.bool false)))⟩,
      ⟨(some 2), none, .q (.mv (.tmp 42))⟩])
  (.ret))), []⟩
theorem k_word : compF Tryz.prog 43 = some c_word := by kernel_rfl
set_option maxHeartbeats 4000000 in
theorem word_ok {W : World} (s : Str) (hs : s.size ≤ 1000000000) : ACalls Tryz.prog W 43 [.v (.string s)] AHeap.none fun v _ => v = .v (.bool (wordP s)) := by
  refine fn_run follows k_word rfl ?_
  simp only [c_word, aretC_nil, List.zipIdx_cons, List.zipIdx_nil, List.map_cons, List.map_nil, Nat.zero_add]
  (try simp +decide (implicitDefEqProofs := false) only [go_sem, ↓stk_g, ↓stk_c, ↓reduceIte])
  refine stk_up (α := Unit) s.size (fun i _ => ⟨[(7, .v (.int .i64 i)), (6, .v (.int .i64 s.size)), (0, .v (.string s))], AHeap.none⟩) (fun i _ => ∀ j, j < i → okB j (bt s j) = true) () (Weak.list _ (Sub.refl _) (by (try simp +decide (implicitDefEqProofs := false) only [go_sem, ↓stk_g, ↓stk_c, ↓reduceIte]))) (by intro j h; omega) ?_
  rintro i ⟨⟩ hi hJ
  by_cases hlt : i < s.size
  · have g1 : (i : Int) < (s.size : Int) := by omega
    have hw := wrap_in (n := i + 1) (by omega) (by omega)
    have hnn : (0 : Int) ≤ (i : Int) := by omega
    have hnext : okB i (bt s i) = true → ∀ j, j < i + 1 → okB j (bt s j) = true := fun h j hj => by
      by_cases e : j = i
      · rw [e]; exact h
      · exact hJ j (by omega)
    have hno := word_no hlt
    have hdef : okB i (bt s i) = ((decide (97 ≤ bt s i) && decide (bt s i ≤ 122)) || (decide (0 < i) && ((decide (48 ≤ bt s i) && decide (bt s i ≤ 57)) || decide (bt s i = 45)))) := rfl
    generalize okB i (bt s i) = ok at hnext hno hdef
    generalize hc : bt s i = c at hdef
    by_cases a1 : 97 ≤ c
    · by_cases a2 : c ≤ 122
      · (try simp +decide (implicitDefEqProofs := false) only [go_sem, ↓stk_g, ↓stk_c, ↓reduceIte, g1, hlt, hnn, hw, hc, a1, a2])
        refine ⟨(), Weak.list _ (Sub.refl _) (by (try simp +decide (implicitDefEqProofs := false) only [go_sem, ↓stk_g, ↓stk_c, ↓reduceIte])), ?_⟩
        exact hnext (by rw [hdef]; simp [a1, a2])
      · by_cases a3 : (0 : Int) < (i : Int)
        · have a4 : (48 : Int) ≤ c := by omega
          have a5 : ¬ c ≤ 57 := by omega
          have a6 : ¬ c = 45 := by omega
          (try simp +decide (implicitDefEqProofs := false) only [go_sem, ↓stk_g, ↓stk_c, ↓reduceIte, g1, hlt, hnn, hw, hc, a1, a2, a3, a4, a5, decide_eq_false a6])
          refine aret_pure (.inr rfl) ?_; simp +decide only [retOf, tget, if_true, if_false, ↓reduceIte, List.map_cons, List.map_nil]
          exact hno (by rw [hdef]; simp [a2, a5, a6])
        · (try simp +decide (implicitDefEqProofs := false) only [go_sem, ↓stk_g, ↓stk_c, ↓reduceIte, g1, hlt, hnn, hw, hc, a1, a2, a3])
          refine aret_pure (.inr rfl) ?_; simp +decide only [retOf, tget, if_true, if_false, ↓reduceIte, List.map_cons, List.map_nil]
          exact hno (by rw [hdef]; simp [a2]; omega)
    · by_cases a3 : (0 : Int) < (i : Int)
      · have a3' : 0 < i := by omega
        by_cases a4 : 48 ≤ c
        · by_cases a5 : c ≤ 57
          · (try simp +decide (implicitDefEqProofs := false) only [go_sem, ↓stk_g, ↓stk_c, ↓reduceIte, g1, hlt, hnn, hw, hc, a1, a3, a4, a5])
            refine ⟨(), Weak.list _ (Sub.refl _) (by (try simp +decide (implicitDefEqProofs := false) only [go_sem, ↓stk_g, ↓stk_c, ↓reduceIte])), ?_⟩
            exact hnext (by rw [hdef]; simp [a3', a4, a5])
          · have a6 : ¬ c = 45 := by omega
            (try simp +decide (implicitDefEqProofs := false) only [go_sem, ↓stk_g, ↓stk_c, ↓reduceIte, g1, hlt, hnn, hw, hc, a1, a3, a4, a5, decide_eq_false a6])
            refine aret_pure (.inr rfl) ?_; simp +decide only [retOf, tget, if_true, if_false, ↓reduceIte, List.map_cons, List.map_nil]
            exact hno (by rw [hdef]; simp [a1, a5, a6])
        · by_cases a6 : c = 45
          · (try simp +decide (implicitDefEqProofs := false) only [go_sem, ↓stk_g, ↓stk_c, ↓reduceIte, g1, hlt, hnn, hw, hc, a1, a3, a4, decide_eq_true a6])
            refine ⟨(), Weak.list _ (Sub.refl _) (by (try simp +decide (implicitDefEqProofs := false) only [go_sem, ↓stk_g, ↓stk_c, ↓reduceIte])), ?_⟩
            exact hnext (by rw [hdef]; simp [a3', a6])
          · (try simp +decide (implicitDefEqProofs := false) only [go_sem, ↓stk_g, ↓stk_c, ↓reduceIte, g1, hlt, hnn, hw, hc, a1, a3, a4, decide_eq_false a6])
            refine aret_pure (.inr rfl) ?_; simp +decide only [retOf, tget, if_true, if_false, ↓reduceIte, List.map_cons, List.map_nil]
            exact hno (by rw [hdef]; simp [a1, a4, a6])
      · (try simp +decide (implicitDefEqProofs := false) only [go_sem, ↓stk_g, ↓stk_c, ↓reduceIte, g1, hlt, hnn, hw, hc, a1, a3])
        refine aret_pure (.inr rfl) ?_; simp +decide only [retOf, tget, if_true, if_false, ↓reduceIte, List.map_cons, List.map_nil]
        exact hno (by rw [hdef]; simp [a1]; omega)
  · have g1 : ¬ (i : Int) < (s.size : Int) := by omega
    have hy := word_yes (s := s) (fun j hj => hJ j (by omega))
    by_cases e : s = ByteArray.empty
    · have e1 : decide (s ≠ ByteArray.empty) = false := by simp [e]
      (try simp +decide (implicitDefEqProofs := false) only [go_sem, ↓stk_g, ↓stk_c, ↓reduceIte, g1, e1])
      refine aret_pure (.inr rfl) ?_; simp +decide only [retOf, tget, if_true, if_false, ↓reduceIte, List.map_cons, List.map_nil]
      rw [hy, e1]; rfl
    · have e1 : decide (s ≠ ByteArray.empty) = true := by simp [e]
      (try simp +decide (implicitDefEqProofs := false) only [go_sem, ↓stk_g, ↓stk_c, ↓reduceIte, g1, e1])
      refine aret_pure (.inr rfl) ?_; simp +decide only [retOf, tget, if_true, if_false, ↓reduceIte, List.map_cons, List.map_nil]
      rw [hy, e1]
      simp only [Bool.true_and]
      congr 2
      exact decide_eq_decide.2 (by omega)
end Go.Proofs.YtcplmaffccfbdaaGreatDoor.M
