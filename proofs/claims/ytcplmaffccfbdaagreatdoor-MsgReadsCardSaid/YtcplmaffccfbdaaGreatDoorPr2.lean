/-
  The document's own attr, Right, decimal, lines and Text of layer 8, walked.
-/
import Derived.Test.YtcplmaffccfbdaaGreatDoorPr1
namespace Go.Proofs.YtcplmaffccfbdaaGreatDoor.M
open Go.RowKit
attribute [local go_sem] stk_nil stk_skip stk_ops stk_seq stk_block stk_scope stk_exit stk_ret stk_code_exit stk_code_ret stk_ops_exit stk_ops_ret stk_endb stk_endb_exit stk_endb_ret stk_endl stk_endl_exit stk_endl_ret stk_ops_nil stk_q stk_niq niqA flip srcOf stk_bsl side val bside bval uside uval cside cval bndS bndV intA isInt lside lval fside fval faside faval iside ival sxside sxval sizeA slside slval llside llval lenside lenval lenA tupA mmside mmval nkside boolA isBool ev_t ev_c tget put_s put_n lkside lkval menval stk_mk Option.isSome_some isMapA mapA keyA FZ_rfl FZ_any retOf true_and and_true if_true if_false decide_true decide_false Bool.not_true Bool.not_false Nat.zero_add List.map_cons List.map_nil Int.toNat_natCast strRows_len intRows_len List.getD_cons_zero List.getD_cons_succ List.length_cons List.length_nil List.forall_mem_cons List.not_mem_nil false_implies implies_true Int.ofNat_zero Int.natCast_add Int.natCast_one Int.ofNat_one Int.natCast_zero isB isU Bool.false_eq_true beq_self_eq_true Bool.false_beq Bool.true_beq Int.natCast_nonneg undef strRows_take strRows_drop Int.toNat_zero List.drop_zero Bool.and_true oneOr List.all_cons List.all_nil AVal.one Value.oneCell' Bool.true_and List.take_length stk_st' stside stH hp_self hp_hp isnside isnval
set_option linter.unusedVariables false
set_option linter.unusedSimpArgs false
theorem index_byte (c : UInt8) : ∀ l : List UInt8, Lib.index l [c] = Lib.indexByte l c
  | [] => rfl
  | b :: l => by
    simp only [Lib.index, Lib.indexByte, index_byte c l, List.isPrefixOf, Bool.and_true]
    by_cases e : b = c
    · subst e; simp
    · have h1 : (c == b) = false := by simpa using fun h => e h.symm
      have h2 : (b == c) = false := by simpa using e
      rw [h1, h2]
theorem bt_iff {s : Str} {k : Nat} (h : k < s.size) : (bl s)[k]? = some 46 ↔ bt s (k : Int) = 46 := by
  have hk : k < s.data.toList.length := by have := bl_len s; unfold bl at this; omega
  unfold bt bl
  rw [Int.toNat_natCast, List.getD_eq_getElem?_getD, List.getElem?_eq_getElem hk]
  simp only [Option.some.injEq, Option.getD_some]
  constructor
  · intro h; rw [h]; rfl
  · intro h
    apply UInt8.toNat_inj.1
    have : (46 : UInt8).toNat = 46 := rfl
    omega
theorem ix_first {s : Str} {j : Nat} (hj : j < s.size) (hb : bt s (j : Int) = 46) (hJ : ∀ k, k < j → bt s (k : Int) ≠ 46) : ixS s = (j : Int) := by
  have hge := Lib.indexByte_ge (bl s) 46
  have hx : ixS s = Lib.indexByte (bl s) 46 := rfl
  rcases Int.lt_or_le (ixS s) 0 with h | h
  · exact absurd ((bt_iff hj).2 hb) (Lib.indexByte_none (by omega : Lib.indexByte (bl s) 46 = -1) j)
  · obtain ⟨o, ho⟩ : ∃ o : Nat, ixS s = o := ⟨(ixS s).toNat, by omega⟩
    obtain ⟨h1, h2⟩ := Lib.indexByte_some (show Lib.indexByte (bl s) 46 = (o : Int) by rw [← hx]; exact ho)
    rcases Nat.lt_trichotomy o j with h3 | h3 | h3
    · exact absurd ((bt_iff (by omega)).1 h1) (hJ o h3)
    · rw [ho, h3]
    · exact absurd ((bt_iff hj).2 hb) (h2 j h3)
theorem ix_none {s : Str} (hJ : ∀ k, k < s.size → bt s (k : Int) ≠ 46) : ¬ 0 ≤ ixS s := fun h => by
  obtain ⟨o, ho⟩ : ∃ o : Nat, ixS s = o := ⟨(ixS s).toNat, by omega⟩
  have h3 := ixS_le s h
  have h1 := (Lib.indexByte_some (show Lib.indexByte (bl s) 46 = (o : Int) from ho)).1
  exact hJ o (by omega) ((bt_iff (by omega)).1 h1)
theorem bl_cut (s : Str) (a b : Nat) (hb : b ≤ s.size) : bl (cutS s (a : Int) (b : Int)) = ((bl s).take b).drop a := by
  unfold cutS bl
  rw [ByteArray.data_extract, Array.toList_extract]
  simp only [Int.toNat_natCast, List.extract_eq_take_drop]
  rw [List.drop_take]
theorem cut_first {s : Str} {j : Nat} (hj : j < s.size) (h : ixS s = (j : Int)) : cutT s dotS = (cutS s 0 (j : Int), cutS s ((j : Int) + 1) (s.size : Int), true) := by
  have hi : Lib.index (bl s) [46] = (j : Int) := by rw [index_byte]; exact h
  have e1 : cutS s 0 (j : Int) = ⟨((bl s).take j).toArray⟩ := bl_inj (by
    rw [show (0 : Int) = ((0 : Nat) : Int) from rfl, bl_cut s 0 j (by omega)]; simp [bl])
  have e2 : cutS s ((j : Int) + 1) (s.size : Int) = ⟨((bl s).drop (j + 1)).toArray⟩ := bl_inj (by
    rw [show (j : Int) + 1 = ((j + 1 : Nat) : Int) by omega, bl_cut s (j + 1) s.size (Nat.le_refl _), List.take_of_length_le (by rw [bl_len]; omega)]; simp [bl])
  rw [e1, e2]
  unfold cutT Lib.cut
  rw [show s.data.toList = bl s from rfl, show dotS.data.toList = [46] from rfl, hi, if_pos (by omega)]
  simp only [Int.toNat_natCast, List.length_cons, List.length_nil, Nat.zero_add]
theorem cut_none {s : Str} (h : ¬ 0 ≤ ixS s) : (cutT s dotS).2.2 = false := by
  unfold cutT Lib.cut
  rw [show s.data.toList = bl s from rfl, show dotS.data.toList = [46] from rfl, if_neg (by rw [index_byte]; exact h)]
theorem pre_on (a : Str) : hasPre a (⟨#[111, 110]⟩ : Str) = (decide ((1 : Int) < (a.size : Int)) && decide (cutS a 0 2 = (⟨#[111, 110]⟩ : Str))) := by
  unfold hasPre
  rw [show (⟨#[111, 110]⟩ : Str).size = 2 from rfl, show decide (2 ≤ a.size) = decide ((1 : Int) < (a.size : Int)) from decide_eq_decide.2 (by omega)]
  rfl
def c_rattr : AFn := ⟨2, 61, [4],
  .seq (.ops [⟨(some 4), none, .q (.mv (.const (.bool false)))⟩])
  (.seq (.seq (.ops [⟨(some 5), none, .q (.mv (.const (.int .i64 0)))⟩])
  (.block 0 (.loop (.seq (.seq (.ops [⟨(some 8), none, .q (.mv (.tmp 5))⟩,
          ⟨(some 9), none, .q (.mv (.tmp 0))⟩,
          ⟨(some 10), none, .q (.len true (.tmp 9))⟩,
          ⟨(some 11), none, .q (.bin .lss .num (.tmp 8) (.tmp 10))⟩])
      (.cond (.tmp 11)
        (.skip)
        (.exit 0)))
      (.seq (.block 1 (.seq (.seq (.ops [⟨(some 14), none, .q (.mv (.tmp 0))⟩,
            ⟨(some 15), none, .q (.mv (.tmp 5))⟩,
            ⟨(some 16), none, .q (.six (.tmp 14) (.tmp 15))⟩,
            ⟨(some 17), none, .q (.bin .neq .num (.tmp 16) (.const (.int .u8 46)))⟩])
        (.cond (.tmp 17)
          (.exit 1)
          (.skip)))
        (.seq (.ops [⟨(some 18), none, .q (.mv (.tmp 0))⟩,
            ⟨(some 19), none, .q (.mv (.tmp 5))⟩,
            ⟨(some 20), none, .q (.bin .add .num (.tmp 19) (.const (.int .i64 1)))⟩,
            ⟨(some 21), none, .q (.ssl (.tmp 18) (some (.tmp 20)) none)⟩,
            ⟨(some 6), none, .q (.mv (.tmp 21))⟩])
        (.seq (.ops [⟨(some 22), none, .q (.mv (.tmp 6))⟩,
            ⟨(some 23), none, .q (.len true (.tmp 22))⟩,
            ⟨(some 24), none, .q (.bin .gtr .num (.tmp 23) (.const (.int .i64 1)))⟩,
            ⟨(some 25), none, .q (.mv (.tmp 24))⟩,
            ⟨(some 26), (some (25, true)), .q (.mv (.tmp 6))⟩,
            ⟨(some 27), (some (25, true)), .q (.ssl (.tmp 26) none (some (.const (.int .i64 2))))⟩,
            ⟨(some 28), (some (25, true)), .q (.bin .eql .num (.tmp 27) (.const (.string ⟨#[111, 110]⟩)))⟩,
            ⟨(some 29), none, .q (.pick (.tmp 25) (.tmp 28) (.const (.bool false)))⟩,
            ⟨(some 7), none, .q (.mv (.tmp 29))⟩])
        (.seq (.ops [⟨(some 30), none, .q (.mv (.tmp 0))⟩,
            ⟨(some 31), none, .q (.mv (.tmp 5))⟩,
            ⟨(some 32), none, .q (.ssl (.tmp 30) none (some (.tmp 31)))⟩,
            ⟨(some 33), none, .q (.bin .eql .num (.tmp 32) (.const (.string ⟨#[42]⟩)))⟩,
            ⟨(some 34), none, .q (.mv (.tmp 33))⟩,
            ⟨(some 35), (some (34, false)), .q (.mv (.tmp 1))⟩,
            ⟨(some 36), (some (34, false)), .q (.mv (.tmp 0))⟩,
            ⟨(some 37), (some (34, false)), .q (.mv (.tmp 5))⟩,
            ⟨(some 38), (some (34, false)), .q (.ssl (.tmp 36) none (some (.tmp 37)))⟩,
            ⟨(some 39), (some (34, false)), .e (.call 54 [(.tmp 35), (.tmp 38)])⟩,
            ⟨(some 40), none, .q (.pick (.tmp 34) (.const (.bool true)) (.tmp 39))⟩,
            ⟨(some 41), none, .q (.mv (.tmp 40))⟩,
            ⟨(some 42), (some (41, true)), .q (.mv (.tmp 6))⟩,
            ⟨(some 43), (some (41, true)), .e (.call 68 [(.tmp 42)])⟩,
            ⟨(some 44), none, .q (.pick (.tmp 41) (.tmp 43) (.const (.bool false)))⟩,
            ⟨(some 45), none, .q (.mv (.tmp 44))⟩,
            ⟨(some 46), (some (45, true)), .q (.mv (.tmp 7))⟩,
            ⟨(some 47), (some (45, true)), .q (.un .not (.tmp 46))⟩,
            ⟨(some 48), none, .q (.pick (.tmp 45) (.tmp 47) (.const (.bool false)))⟩,
            ⟨(some 49), none, .q (.mv (.tmp 48))⟩,
            ⟨(some 50), (some (49, true)), .q (.mv (.tmp 6))⟩,
            ⟨(some 51), (some (49, true)), .q (.bin .neq .num (.tmp 50) (.const (.string ⟨#[115, 114, 99, 100, 111, 99]⟩)))⟩,
            ⟨(some 52), none, .q (.pick (.tmp 49) (.tmp 51) (.const (.bool false)))⟩,
            ⟨(some 53), none, .q (.mv (.tmp 52))⟩,
            ⟨(some 54), (some (53, true)), .q (.mv (.tmp 6))⟩,
            ⟨(some 55), (some (53, true)), .q (.bin .neq .num (.tmp 54) (.const (.string ⟨#[102, 111, 114, 109, 97, 99, 116, 105, 111, 110]⟩)))⟩,
            ⟨(some 56), none, .q (.pick (.tmp 53) (.tmp 55) (.const (.bool false)))⟩,
            ⟨(some 57), none, .q (.mv (.tmp 56))⟩,
            ⟨(some 58), (some (57, true)), .q (.mv (.tmp 6))⟩,
            ⟨(some 59), (some (57, true)), .q (.bin .neq .num (.tmp 58) (.const (.string ⟨#[115, 116, 121, 108, 101]⟩)))⟩,
            ⟨(some 60), none, .q (.pick (.tmp 57) (.tmp 59) (.const (.bool false)))⟩,
            ⟨(some 4), none, .q (.mv (.tmp 60))⟩])
        (.ret))))))
      (.ops [⟨(some 12), none, .q (.mv (.tmp 5))⟩,
          ⟨(some 13), none, .q (.bin .add .num (.tmp 12) (.const (.int .i64 1)))⟩,
          ⟨(some 5), none, .q (.mv (.tmp 13))⟩]))))))
  (.seq (.ops [⟨(some 4), none, .q (.mv (.const (.bool false)))⟩])
  (.ret))), []⟩
theorem k_rattr : compF Tryz.prog 53 = some c_rattr := by kernel_rfl
set_option maxHeartbeats 8000000 in
theorem rattr_ok {W : World} {f : Bool} (s : Str) (elems : List Str) (hs : s.size ≤ 1000000) (hl : elems.length ≤ 1000000) : ACalls Tryz.prog W 53 [.v (.string s), .sl f 1 (strRows elems)] AHeap.none fun v _ => v = .v (.bool (attrsP elems s)) := by
  refine fn_run follows k_rattr rfl ?_
  simp only [c_rattr, aretC_nil, List.zipIdx_cons, List.zipIdx_nil, List.map_cons, List.map_nil, Nat.zero_add]
  (try simp +decide (implicitDefEqProofs := false) only [go_sem, ↓stk_g, ↓stk_c, ↓reduceIte])
  refine stk_up (α := Unit) s.size (fun i _ => ⟨[(5, .v (.int .i64 i)), (0, .v (.string s)), (1, .sl f 1 (strRows elems))], AHeap.none⟩) (fun i _ => ∀ k, k < i → bt s (k : Int) ≠ 46) () (Weak.list _ (Sub.refl _) (by (try simp +decide (implicitDefEqProofs := false) only [go_sem, ↓stk_g, ↓stk_c, ↓reduceIte]))) (fun j h => by omega) ?_
  rintro i ⟨⟩ hi hJ
  by_cases hlt : i < s.size
  rotate_left
  · have g1 : ¬ (i : Int) < (s.size : Int) := by omega
    obtain rfl : i = s.size := by omega
    have hc := cut_none (ix_none hJ)
    (try simp +decide (implicitDefEqProofs := false) only [go_sem, ↓stk_g, ↓stk_c, ↓reduceIte, g1])
    refine aret_pure (.inr rfl) ?_; simp +decide only [retOf, tget, if_true, if_false, ↓reduceIte, List.map_cons, List.map_nil]
    unfold attrsP
    rw [hc]; rfl
  have g1 : (i : Int) < (s.size : Int) := by omega
  have hw := wrap_in (n := (i : Int) + 1) (by omega) (by omega)
  have h0 : (0 : Int) ≤ (i : Int) := by omega
  by_cases hb : bt s (i : Int) = 46
  rotate_left
  · have hb1 : decide (bt s (i : Int) ≠ 46) = true := decide_eq_true hb
    (try simp +decide (implicitDefEqProofs := false) only [go_sem, ↓stk_g, ↓stk_c, ↓reduceIte, g1, hlt, h0, hb1, hw])
    refine ⟨(), Weak.list _ (Sub.refl _) (by (try simp +decide (implicitDefEqProofs := false) only [go_sem, ↓stk_g, ↓stk_c, ↓reduceIte])), fun k hk => ?_⟩
    by_cases e : k = i
    · rw [e]; exact hb
    · exact hJ k (by omega)
  have hb1 : decide (bt s (i : Int) ≠ 46) = false := by simp [hb]
  have h3 : (0 : Int) ≤ (i : Int) + 1 := by omega
  have h4 : (i : Int) + 1 ≤ (s.size : Int) := by omega
  have h5 : (s.size : Int) ≤ (s.size : Int) := Int.le_refl _
  have h6 : (i : Int) ≤ (s.size : Int) := by omega
  have hcut := cut_first hlt (ix_first hlt hb hJ)
  have hz := cutS_size s ((i : Int) + 1) (s.size : Int)
  unfold attrsP
  rw [hcut]
  dsimp only
  rw [Bool.true_and]
  generalize hac : cutS s ((i : Int) + 1) (s.size : Int) = a at hz ⊢
  generalize hec : cutS s 0 (i : Int) = e
  have hpre := pre_on a
  have k2 : (0 : Int) ≤ 2 := by omega
  by_cases o1 : (1 : Int) < (a.size : Int)
  · have k3 : (2 : Int) ≤ (a.size : Int) := by omega
    by_cases o2 : cutS a 0 2 = (⟨#[111, 110]⟩ : Str)
    · rw [decide_eq_true o1, decide_eq_true o2] at hpre
      have o3 : decide (cutS a 0 2 = (⟨#[111, 110]⟩ : ByteArray)) = true := decide_eq_true o2
      by_cases es : e = starS
      · have e1 : decide (e = (⟨#[42]⟩ : ByteArray)) = true := decide_eq_true es
        rw [decide_eq_true es, Bool.true_or, Bool.true_and]
        (try simp +decide (implicitDefEqProofs := false) only [go_sem, ↓stk_g, ↓stk_c, ↓reduceIte, g1, hlt, h0, hb1, hw, h3, h4, h5, h6, hac, hec, e1, o1, k2, k3, o3])
        refine stk_pure (rword_ok a (by omega)) fun v hv => ?_
        subst hv
        unfold attrP
        rw [hpre]
        cases wordP a
        · (try simp +decide (implicitDefEqProofs := false) only [go_sem, ↓stk_g, ↓stk_c, ↓reduceIte])
          refine aret_pure (.inr rfl) ?_; simp +decide only [retOf, tget, if_true, if_false, ↓reduceIte, List.map_cons, List.map_nil]
          try rfl
        · (try simp +decide (implicitDefEqProofs := false) only [go_sem, ↓stk_g, ↓stk_c, ↓reduceIte])
          refine aret_pure (.inr rfl) ?_; simp +decide only [retOf, tget, if_true, if_false, ↓reduceIte, List.map_cons, List.map_nil]
          try rfl
      · have e1 : decide (e = (⟨#[42]⟩ : ByteArray)) = false := decide_eq_false es
        rw [decide_eq_false es, Bool.false_or]
        (try simp +decide (implicitDefEqProofs := false) only [go_sem, ↓stk_g, ↓stk_c, ↓reduceIte, g1, hlt, h0, hb1, hw, h3, h4, h5, h6, hac, hec, e1, o1, k2, k3, o3])
        refine stk_pure (has_ok elems e (by omega)) fun v hv => ?_
        subst hv
        cases decide (e ∈ elems)
        · (try simp +decide (implicitDefEqProofs := false) only [go_sem, ↓stk_g, ↓stk_c, ↓reduceIte])
          refine aret_pure (.inr rfl) ?_; simp +decide only [retOf, tget, if_true, if_false, ↓reduceIte, List.map_cons, List.map_nil]
          try rfl
        · rw [Bool.true_and]
          (try simp +decide (implicitDefEqProofs := false) only [go_sem, ↓stk_g, ↓stk_c, ↓reduceIte])
          refine stk_pure (rword_ok a (by omega)) fun v hv => ?_
          subst hv
          unfold attrP
          rw [hpre]
          cases wordP a
          · (try simp +decide (implicitDefEqProofs := false) only [go_sem, ↓stk_g, ↓stk_c, ↓reduceIte])
            refine aret_pure (.inr rfl) ?_; simp +decide only [retOf, tget, if_true, if_false, ↓reduceIte, List.map_cons, List.map_nil]
            try rfl
          · (try simp +decide (implicitDefEqProofs := false) only [go_sem, ↓stk_g, ↓stk_c, ↓reduceIte])
            refine aret_pure (.inr rfl) ?_; simp +decide only [retOf, tget, if_true, if_false, ↓reduceIte, List.map_cons, List.map_nil]
            try rfl
    · rw [decide_eq_true o1, decide_eq_false o2] at hpre
      have o3 : decide (cutS a 0 2 = (⟨#[111, 110]⟩ : ByteArray)) = false := decide_eq_false o2
      by_cases es : e = starS
      · have e1 : decide (e = (⟨#[42]⟩ : ByteArray)) = true := decide_eq_true es
        rw [decide_eq_true es, Bool.true_or, Bool.true_and]
        (try simp +decide (implicitDefEqProofs := false) only [go_sem, ↓stk_g, ↓stk_c, ↓reduceIte, g1, hlt, h0, hb1, hw, h3, h4, h5, h6, hac, hec, e1, o1, k2, k3, o3])
        refine stk_pure (rword_ok a (by omega)) fun v hv => ?_
        subst hv
        unfold attrP
        rw [hpre]
        cases wordP a
        · (try simp +decide (implicitDefEqProofs := false) only [go_sem, ↓stk_g, ↓stk_c, ↓reduceIte])
          refine aret_pure (.inr rfl) ?_; simp +decide only [retOf, tget, if_true, if_false, ↓reduceIte, List.map_cons, List.map_nil]
          try rfl
        · by_cases q1 : a = (⟨#[115, 114, 99, 100, 111, 99]⟩ : Str)
          · have f1 : decide (a ≠ (⟨#[115, 114, 99, 100, 111, 99]⟩ : Str)) = false := by simp [q1]
            (try simp +decide (implicitDefEqProofs := false) only [go_sem, ↓stk_g, ↓stk_c, ↓reduceIte, f1])
            refine aret_pure (.inr rfl) ?_; simp +decide only [retOf, tget, if_true, if_false, ↓reduceIte, List.map_cons, List.map_nil]
            try rfl
          · have f1 : decide (a ≠ (⟨#[115, 114, 99, 100, 111, 99]⟩ : Str)) = true := by simp [q1]
            by_cases q2 : a = (⟨#[102, 111, 114, 109, 97, 99, 116, 105, 111, 110]⟩ : Str)
            · have f2 : decide (a ≠ (⟨#[102, 111, 114, 109, 97, 99, 116, 105, 111, 110]⟩ : Str)) = false := by simp [q2]
              (try simp +decide (implicitDefEqProofs := false) only [go_sem, ↓stk_g, ↓stk_c, ↓reduceIte, f1, f2])
              refine aret_pure (.inr rfl) ?_; simp +decide only [retOf, tget, if_true, if_false, ↓reduceIte, List.map_cons, List.map_nil]
              try rfl
            · have f2 : decide (a ≠ (⟨#[102, 111, 114, 109, 97, 99, 116, 105, 111, 110]⟩ : Str)) = true := by simp [q2]
              (try simp +decide (implicitDefEqProofs := false) only [go_sem, ↓stk_g, ↓stk_c, ↓reduceIte, f1, f2])
              refine aret_pure (.inr rfl) ?_; simp +decide only [retOf, tget, if_true, if_false, ↓reduceIte, List.map_cons, List.map_nil]
              try rfl
      · have e1 : decide (e = (⟨#[42]⟩ : ByteArray)) = false := decide_eq_false es
        rw [decide_eq_false es, Bool.false_or]
        (try simp +decide (implicitDefEqProofs := false) only [go_sem, ↓stk_g, ↓stk_c, ↓reduceIte, g1, hlt, h0, hb1, hw, h3, h4, h5, h6, hac, hec, e1, o1, k2, k3, o3])
        refine stk_pure (has_ok elems e (by omega)) fun v hv => ?_
        subst hv
        cases decide (e ∈ elems)
        · (try simp +decide (implicitDefEqProofs := false) only [go_sem, ↓stk_g, ↓stk_c, ↓reduceIte])
          refine aret_pure (.inr rfl) ?_; simp +decide only [retOf, tget, if_true, if_false, ↓reduceIte, List.map_cons, List.map_nil]
          try rfl
        · rw [Bool.true_and]
          (try simp +decide (implicitDefEqProofs := false) only [go_sem, ↓stk_g, ↓stk_c, ↓reduceIte])
          refine stk_pure (rword_ok a (by omega)) fun v hv => ?_
          subst hv
          unfold attrP
          rw [hpre]
          cases wordP a
          · (try simp +decide (implicitDefEqProofs := false) only [go_sem, ↓stk_g, ↓stk_c, ↓reduceIte])
            refine aret_pure (.inr rfl) ?_; simp +decide only [retOf, tget, if_true, if_false, ↓reduceIte, List.map_cons, List.map_nil]
            try rfl
          · by_cases q1 : a = (⟨#[115, 114, 99, 100, 111, 99]⟩ : Str)
            · have f1 : decide (a ≠ (⟨#[115, 114, 99, 100, 111, 99]⟩ : Str)) = false := by simp [q1]
              (try simp +decide (implicitDefEqProofs := false) only [go_sem, ↓stk_g, ↓stk_c, ↓reduceIte, f1])
              refine aret_pure (.inr rfl) ?_; simp +decide only [retOf, tget, if_true, if_false, ↓reduceIte, List.map_cons, List.map_nil]
              try rfl
            · have f1 : decide (a ≠ (⟨#[115, 114, 99, 100, 111, 99]⟩ : Str)) = true := by simp [q1]
              by_cases q2 : a = (⟨#[102, 111, 114, 109, 97, 99, 116, 105, 111, 110]⟩ : Str)
              · have f2 : decide (a ≠ (⟨#[102, 111, 114, 109, 97, 99, 116, 105, 111, 110]⟩ : Str)) = false := by simp [q2]
                (try simp +decide (implicitDefEqProofs := false) only [go_sem, ↓stk_g, ↓stk_c, ↓reduceIte, f1, f2])
                refine aret_pure (.inr rfl) ?_; simp +decide only [retOf, tget, if_true, if_false, ↓reduceIte, List.map_cons, List.map_nil]
                try rfl
              · have f2 : decide (a ≠ (⟨#[102, 111, 114, 109, 97, 99, 116, 105, 111, 110]⟩ : Str)) = true := by simp [q2]
                (try simp +decide (implicitDefEqProofs := false) only [go_sem, ↓stk_g, ↓stk_c, ↓reduceIte, f1, f2])
                refine aret_pure (.inr rfl) ?_; simp +decide only [retOf, tget, if_true, if_false, ↓reduceIte, List.map_cons, List.map_nil]
                try rfl
  · rw [decide_eq_false o1, Bool.false_and] at hpre
    by_cases es : e = starS
    · have e1 : decide (e = (⟨#[42]⟩ : ByteArray)) = true := decide_eq_true es
      rw [decide_eq_true es, Bool.true_or, Bool.true_and]
      (try simp +decide (implicitDefEqProofs := false) only [go_sem, ↓stk_g, ↓stk_c, ↓reduceIte, g1, hlt, h0, hb1, hw, h3, h4, h5, h6, hac, hec, e1, o1])
      refine stk_pure (rword_ok a (by omega)) fun v hv => ?_
      subst hv
      unfold attrP
      rw [hpre]
      cases wordP a
      · (try simp +decide (implicitDefEqProofs := false) only [go_sem, ↓stk_g, ↓stk_c, ↓reduceIte])
        refine aret_pure (.inr rfl) ?_; simp +decide only [retOf, tget, if_true, if_false, ↓reduceIte, List.map_cons, List.map_nil]
        try rfl
      · by_cases q1 : a = (⟨#[115, 114, 99, 100, 111, 99]⟩ : Str)
        · have f1 : decide (a ≠ (⟨#[115, 114, 99, 100, 111, 99]⟩ : Str)) = false := by simp [q1]
          (try simp +decide (implicitDefEqProofs := false) only [go_sem, ↓stk_g, ↓stk_c, ↓reduceIte, f1])
          refine aret_pure (.inr rfl) ?_; simp +decide only [retOf, tget, if_true, if_false, ↓reduceIte, List.map_cons, List.map_nil]
          try rfl
        · have f1 : decide (a ≠ (⟨#[115, 114, 99, 100, 111, 99]⟩ : Str)) = true := by simp [q1]
          by_cases q2 : a = (⟨#[102, 111, 114, 109, 97, 99, 116, 105, 111, 110]⟩ : Str)
          · have f2 : decide (a ≠ (⟨#[102, 111, 114, 109, 97, 99, 116, 105, 111, 110]⟩ : Str)) = false := by simp [q2]
            (try simp +decide (implicitDefEqProofs := false) only [go_sem, ↓stk_g, ↓stk_c, ↓reduceIte, f1, f2])
            refine aret_pure (.inr rfl) ?_; simp +decide only [retOf, tget, if_true, if_false, ↓reduceIte, List.map_cons, List.map_nil]
            try rfl
          · have f2 : decide (a ≠ (⟨#[102, 111, 114, 109, 97, 99, 116, 105, 111, 110]⟩ : Str)) = true := by simp [q2]
            (try simp +decide (implicitDefEqProofs := false) only [go_sem, ↓stk_g, ↓stk_c, ↓reduceIte, f1, f2])
            refine aret_pure (.inr rfl) ?_; simp +decide only [retOf, tget, if_true, if_false, ↓reduceIte, List.map_cons, List.map_nil]
            try rfl
    · have e1 : decide (e = (⟨#[42]⟩ : ByteArray)) = false := decide_eq_false es
      rw [decide_eq_false es, Bool.false_or]
      (try simp +decide (implicitDefEqProofs := false) only [go_sem, ↓stk_g, ↓stk_c, ↓reduceIte, g1, hlt, h0, hb1, hw, h3, h4, h5, h6, hac, hec, e1, o1])
      refine stk_pure (has_ok elems e (by omega)) fun v hv => ?_
      subst hv
      cases decide (e ∈ elems)
      · (try simp +decide (implicitDefEqProofs := false) only [go_sem, ↓stk_g, ↓stk_c, ↓reduceIte])
        refine aret_pure (.inr rfl) ?_; simp +decide only [retOf, tget, if_true, if_false, ↓reduceIte, List.map_cons, List.map_nil]
        try rfl
      · rw [Bool.true_and]
        (try simp +decide (implicitDefEqProofs := false) only [go_sem, ↓stk_g, ↓stk_c, ↓reduceIte])
        refine stk_pure (rword_ok a (by omega)) fun v hv => ?_
        subst hv
        unfold attrP
        rw [hpre]
        cases wordP a
        · (try simp +decide (implicitDefEqProofs := false) only [go_sem, ↓stk_g, ↓stk_c, ↓reduceIte])
          refine aret_pure (.inr rfl) ?_; simp +decide only [retOf, tget, if_true, if_false, ↓reduceIte, List.map_cons, List.map_nil]
          try rfl
        · by_cases q1 : a = (⟨#[115, 114, 99, 100, 111, 99]⟩ : Str)
          · have f1 : decide (a ≠ (⟨#[115, 114, 99, 100, 111, 99]⟩ : Str)) = false := by simp [q1]
            (try simp +decide (implicitDefEqProofs := false) only [go_sem, ↓stk_g, ↓stk_c, ↓reduceIte, f1])
            refine aret_pure (.inr rfl) ?_; simp +decide only [retOf, tget, if_true, if_false, ↓reduceIte, List.map_cons, List.map_nil]
            try rfl
          · have f1 : decide (a ≠ (⟨#[115, 114, 99, 100, 111, 99]⟩ : Str)) = true := by simp [q1]
            by_cases q2 : a = (⟨#[102, 111, 114, 109, 97, 99, 116, 105, 111, 110]⟩ : Str)
            · have f2 : decide (a ≠ (⟨#[102, 111, 114, 109, 97, 99, 116, 105, 111, 110]⟩ : Str)) = false := by simp [q2]
              (try simp +decide (implicitDefEqProofs := false) only [go_sem, ↓stk_g, ↓stk_c, ↓reduceIte, f1, f2])
              refine aret_pure (.inr rfl) ?_; simp +decide only [retOf, tget, if_true, if_false, ↓reduceIte, List.map_cons, List.map_nil]
              try rfl
            · have f2 : decide (a ≠ (⟨#[102, 111, 114, 109, 97, 99, 116, 105, 111, 110]⟩ : Str)) = true := by simp [q2]
              (try simp +decide (implicitDefEqProofs := false) only [go_sem, ↓stk_g, ↓stk_c, ↓reduceIte, f1, f2])
              refine aret_pure (.inr rfl) ?_; simp +decide only [retOf, tget, if_true, if_false, ↓reduceIte, List.map_cons, List.map_nil]
              try rfl
end Go.Proofs.YtcplmaffccfbdaaGreatDoor.M
