/-
  Layer 16: the first of a list, as many as there is room for.
-/
import Derived.Test.YtcbagpippmbmfaaGreatDoorDg4
namespace Go.Proofs.YtcbagpippmbmfaaGreatDoor.M
open Go.RowKit
attribute [local go_sem] stk_nil stk_skip stk_ops stk_seq stk_block stk_scope stk_exit stk_ret stk_code_exit stk_code_ret stk_ops_exit stk_ops_ret stk_endb stk_endb_exit stk_endb_ret stk_endl stk_endl_exit stk_endl_ret stk_ops_nil stk_q stk_niq niqA flip srcOf stk_bsl side val bside bval uside uval cside cval bndS bndV intA isInt lside lval fside fval faside faval iside ival sxside sxval sizeA slside slval llside llval lenside lenval lenA tupA mmside mmval nkside boolA isBool ev_t ev_c tget put_s put_n lkside lkval menval stk_mk Option.isSome_some isMapA mapA keyA FZ_rfl FZ_any retOf true_and and_true if_true if_false decide_true decide_false Bool.not_true Bool.not_false Nat.zero_add List.map_cons List.map_nil Int.toNat_natCast strRows_len intRows_len List.getD_cons_zero List.getD_cons_succ List.length_cons List.length_nil List.forall_mem_cons List.not_mem_nil false_implies implies_true Int.ofNat_zero Int.natCast_add Int.natCast_one Int.ofNat_one Int.natCast_zero isB isU Bool.false_eq_true beq_self_eq_true Bool.false_beq Bool.true_beq Int.natCast_nonneg undef strRows_take strRows_drop Int.toNat_zero List.drop_zero Bool.and_true oneOr List.all_cons List.all_nil AVal.one Value.oneCell' Bool.true_and List.take_length stk_st' stside stH hp_self hp_hp isnside isnval
set_option linter.unusedVariables false
set_option linter.unusedSimpArgs false
def sumTo (sz : List Int) : Nat → Int
  | 0 => 0
  | i + 1 => sumTo sz i + sizeAt sz i
def Stop (most : Int) (sz : List Int) (i : Nat) : Prop := 0 < i ∧ (most < sumTo sz i ∨ most - sumTo sz i < sizeAt sz i)
def ShortNot (most : Int) (sz : List Int) (i : Nat) : Prop := ∀ j, j < i → ¬ Stop most sz j
theorem ShortNot.step {most : Int} {sz : List Int} {i : Nat} (h : ShortNot most sz i) (hi : ¬ Stop most sz i) : ShortNot most sz (i + 1) := fun j hj => by
  by_cases e : j = i
  · rw [e]; exact hi
  · exact h j (by omega)
def ShortIs (most : Int) (sz : List Int) (n i : Nat) : Prop := i ≤ n ∧ ShortNot most sz i ∧ (i < n → Stop most sz i)
theorem ShortIs.one {most : Int} {sz : List Int} {n i j : Nat} (h : ShortIs most sz n i) (k : ShortIs most sz n j) : i = j := by
  rcases Nat.lt_trichotomy i j with e | e | e
  · exact absurd (h.2.2 (by have := k.1; omega)) (k.2.1 i e)
  · exact e
  · exact absurd (k.2.2 (by have := h.1; omega)) (h.2.1 j e)
theorem sizeAt_nonneg (sz : List Int) (i : Nat) : 0 ≤ sizeAt sz i := by unfold sizeAt; split <;> omega
theorem sizeAt_le {sz : List Int} (h : ∀ i, i < sz.length → sz.getD i 0 ≤ 1000000) (i : Nat) : sizeAt sz i ≤ 1000000 := by
  unfold sizeAt
  split
  · rename_i hi; have := h i hi; omega
  · omega
theorem sumTo_in {sz : List Int} (h : ∀ i, i < sz.length → sz.getD i 0 ≤ 1000000) : ∀ i, 0 ≤ sumTo sz i ∧ sumTo sz i ≤ 1000000 * i
  | 0 => ⟨Int.le_refl _, by simp [sumTo]⟩
  | i + 1 => by
    have h1 := sumTo_in h i
    have h2 := sizeAt_nonneg sz i
    have h3 := sizeAt_le h i
    simp only [sumTo]; omega
def c_Short : AFn := ⟨3, 48, [6],
  .seq (.ops [⟨(some 6), none, .q (.mv (.const (.slice none 0 0)))⟩])
  (.seq (.ops [⟨(some 7), none, .q (.mv (.const (.int .i64 0)))⟩])
  (.seq (.seq (.ops [⟨(some 10), none, .q (.mv (.tmp 0))⟩,
      ⟨(some 11), none, .q (.len false (.tmp 10))⟩,
      ⟨(some 12), none, .q (.mv (.const (.int .i64 0)))⟩])
  (.block 0 (.loop (.seq (.ops [⟨(some 13), none, .q (.bin .lss .num (.tmp 12) (.tmp 11))⟩])
      (.seq (.cond (.tmp 13)
        (.skip)
        (.exit 0))
      (.seq (.block 1 (.seq (.ops [⟨(some 14), none, .q (.mv (.tmp 12))⟩,
            ⟨(some 8), none, .q (.mv (.tmp 14))⟩])
        (.seq (.ops [⟨(some 9), none, .q (.mv (.const (.int .i64 0)))⟩])
        (.seq (.seq (.ops [⟨(some 15), none, .q (.mv (.tmp 8))⟩,
            ⟨(some 16), none, .q (.mv (.tmp 1))⟩,
            ⟨(some 17), none, .q (.len false (.tmp 16))⟩,
            ⟨(some 18), none, .q (.bin .lss .num (.tmp 15) (.tmp 17))⟩])
        (.cond (.tmp 18)
          (.ops [⟨(some 19), none, .q (.mv (.tmp 1))⟩,
              ⟨(some 20), none, .q (.mv (.tmp 8))⟩,
              ⟨(some 21), none, .q (.ixa 1 (.tmp 19) (.tmp 20))⟩,
              ⟨(some 22), none, .q (.ld false 1 (.tmp 21))⟩,
              ⟨(some 23), none, .q (.mm true (.tmp 22) (.const (.int .i64 0)))⟩,
              ⟨(some 9), none, .q (.mv (.tmp 23))⟩])
          (.skip)))
        (.seq (.seq (.ops [⟨(some 24), none, .q (.mv (.tmp 8))⟩,
            ⟨(some 25), none, .q (.bin .gtr .num (.tmp 24) (.const (.int .i64 0)))⟩,
            ⟨(some 26), none, .q (.mv (.tmp 25))⟩,
            ⟨(some 27), (some (26, true)), .q (.mv (.tmp 7))⟩,
            ⟨(some 28), (some (26, true)), .q (.mv (.tmp 2))⟩,
            ⟨(some 29), (some (26, true)), .q (.bin .gtr .num (.tmp 27) (.tmp 28))⟩,
            ⟨(some 30), (some (26, true)), .q (.mv (.tmp 29))⟩,
            ⟨(some 31), (some (30, false)), .q (.mv (.tmp 9))⟩,
            ⟨(some 32), (some (30, false)), .q (.mv (.tmp 2))⟩,
            ⟨(some 33), (some (30, false)), .q (.mv (.tmp 7))⟩,
            ⟨(some 34), (some (30, false)), .q (.bin .sub .num (.tmp 32) (.tmp 33))⟩,
            ⟨(some 35), (some (30, false)), .q (.bin .gtr .num (.tmp 31) (.tmp 34))⟩,
            ⟨(some 36), (some (26, true)), .q (.pick (.tmp 30) (.const (.bool true)) (.tmp 35))⟩,
            ⟨(some 37), none, .q (.pick (.tmp 26) (.tmp 36) (.const (.bool false)))⟩])
        (.cond (.tmp 37)
          (.seq (.ops [⟨(some 38), none, .q (.mv (.tmp 0))⟩,
              ⟨(some 39), none, .q (.mv (.tmp 8))⟩,
              ⟨(some 40), none, .q (.lsl 1 (.tmp 38) none (some (.tmp 39)) none)⟩,
              ⟨(some 41), none, .e (.call 91 [(.tmp 40)])⟩,
              ⟨(some 6), none, .q (.mv (.tmp 41))⟩])
          (.ret))
          (.skip)))
        (.ops [⟨(some 42), none, .q (.mv (.tmp 7))⟩,
            ⟨(some 43), none, .q (.mv (.tmp 9))⟩,
            ⟨(some 44), none, .q (.bin .add .num (.tmp 42) (.tmp 43))⟩,
            ⟨(some 7), none, .q (.mv (.tmp 44))⟩]))))))
      (.ops [⟨(some 45), none, .q (.bin .add .num (.tmp 12) (.const (.int .i64 1)))⟩,
          ⟨(some 12), none, .q (.mv (.tmp 45))⟩])))))))
  (.seq (.ops [⟨(some 46), none, .q (.mv (.tmp 0))⟩,
      ⟨(some 47), none, .e (.call 91 [(.tmp 46)])⟩,
      ⟨(some 6), none, .q (.mv (.tmp 47))⟩])
  (.ret)))), []⟩
theorem k_Short : compF Tryz.prog 74 = some c_Short := by kernel_rfl
set_option maxHeartbeats 4000000 in
theorem short_ok {W : World} (f g : Bool) (l : List Str) (sz : List Int) (most : Int) (hm1 : -9223372036854775808 ≤ most) (hm2 : most ≤ 9223372036854775807) (hl : l.length ≤ 1000) (hsz : sz.length ≤ 1000) (hs : ∀ i, i < sz.length → sz.getD i 0 ≤ 1000000) : ACalls Tryz.prog W 74 [.sl f 1 (strRows l), .sl g 1 (intRows sz), .v (.int .i64 most)] AHeap.none (fun r _ => ∃ i, ShortIs most sz l.length i ∧ r = .sl false 1 (strRows (l.take i))) := by
  refine fn_run follows k_Short rfl ?_
  simp only [c_Short, aretC_nil, List.zipIdx_cons, List.zipIdx_nil, List.map_cons, List.map_nil, Nat.zero_add]
  (try simp +decide (implicitDefEqProofs := false) only [go_sem, ↓stk_g, ↓stk_c, ↓reduceIte])
  refine stk_up (α := Int) l.length (fun i n => ⟨[(12, .v (.int .i64 i)), (11, .v (.int .i64 l.length)), (7, .v (.int .i64 n)), (0, .sl f 1 (strRows l)), (1, .sl g 1 (intRows sz)), (2, .v (.int .i64 most))], AHeap.none⟩) (fun i n => n = sumTo sz i ∧ ShortNot most sz i) 0 (Weak.list _ (Sub.refl _) (by (try simp +decide (implicitDefEqProofs := false) only [go_sem, ↓stk_g, ↓stk_c, ↓reduceIte]))) ⟨rfl, fun j hj => absurd hj (by omega)⟩ ?_
  rintro i n hi ⟨hnv, hns⟩
  have hsum := sumTo_in hs i
  have hs1 := sizeAt_le hs i
  have hs2 := sizeAt_nonneg sz i
  rw [← hnv] at hsum
  by_cases hil : i < l.length
  · have h1 : (i : Int) < (l.length : Int) := by omega
    have hg := strRows_get hil
    have hw := wrap_in (n := i + 1) (by omega) (by omega)
    by_cases hlt : i < sz.length
    · have g1 : (i : Int) < (sz.length : Int) := by omega
      have hg1 := intRows_get hlt
      have hse : sizeAt sz i = max (sz.getD i 0) 0 := by rw [sizeAt, if_pos hlt]
      have hw3 := wrap_in (n := n + max (sz.getD i 0) 0) (by omega) (by omega)
      have hle : (i : Int) ≤ (l.length : Int) := by omega

      by_cases h0 : 0 < i
      · have g0 : (0 : Int) < (i : Int) := by omega
        by_cases h2 : most < n
        · (try simp +decide (implicitDefEqProofs := false) only [go_sem, ↓stk_g, ↓stk_c, ↓reduceIte, h1, g0, h2, hg, g1, hg1, hle])
          refine stk_pure (clone_ok _ (l.take i) (by simp; omega)) fun v hv => ?_
          subst hv
          (try simp +decide (implicitDefEqProofs := false) only [go_sem, ↓stk_g, ↓stk_c, ↓reduceIte])
          refine aret_loose (f := false) (sz := 1) (rows := strRows (l.take i)) (.inr rfl) ?_ ?_
          · simp +decide only [retOf, tget, if_true, if_false, ↓reduceIte]
          refine ⟨i, ⟨by omega, hns, fun _ => ⟨h0, .inl (by rw [← hnv]; exact h2)⟩⟩, rfl⟩
        · have hw4 := wrap_in (n := most - n) (by omega) (by omega)
          by_cases h3 : most - n < max (sz.getD i 0) 0
          · (try simp +decide (implicitDefEqProofs := false) only [go_sem, ↓stk_g, ↓stk_c, ↓reduceIte, h1, g0, h2, h3, hw4, hg, g1, hg1, hle])
            refine stk_pure (clone_ok _ (l.take i) (by simp; omega)) fun v hv => ?_
            subst hv
            (try simp +decide (implicitDefEqProofs := false) only [go_sem, ↓stk_g, ↓stk_c, ↓reduceIte])
            refine aret_loose (f := false) (sz := 1) (rows := strRows (l.take i)) (.inr rfl) ?_ ?_
            · simp +decide only [retOf, tget, if_true, if_false, ↓reduceIte]
            refine ⟨i, ⟨by omega, hns, fun _ => ⟨h0, .inr (by rw [← hnv, hse]; exact h3)⟩⟩, rfl⟩
          · (try simp +decide (implicitDefEqProofs := false) only [go_sem, ↓stk_g, ↓stk_c, ↓reduceIte, h1, g0, h2, h3, hw4, hw, hw3, hg, g1, hg1, hle])
            exact ⟨by omega, n + max (sz.getD i 0) 0, Weak.list _ (Sub.refl _) (by (try simp +decide (implicitDefEqProofs := false) only [go_sem, ↓stk_g, ↓stk_c, ↓reduceIte])), by rw [sumTo, hnv, hse], ShortNot.step hns fun h => by rcases h with ⟨_, h | h⟩; exact h2 (by rw [hnv]; exact h); exact h3 (by rw [hnv, ← hse]; exact h)⟩
      · have g0 : ¬ (0 : Int) < (i : Int) := by omega
        (try simp +decide (implicitDefEqProofs := false) only [go_sem, ↓stk_g, ↓stk_c, ↓reduceIte, h1, g0, hw, hw3, hg, g1, hg1, hle])
        exact ⟨by omega, n + max (sz.getD i 0) 0, Weak.list _ (Sub.refl _) (by (try simp +decide (implicitDefEqProofs := false) only [go_sem, ↓stk_g, ↓stk_c, ↓reduceIte])), by rw [sumTo, hnv, hse], ShortNot.step hns fun h => absurd h.1 h0⟩
    · have g1 : ¬ (i : Int) < (sz.length : Int) := by omega
      have hse : sizeAt sz i = 0 := by rw [sizeAt, if_neg hlt]
      have hw3 := wrap_in (n := n + 0) (by omega) (by omega)
      have hle : (i : Int) ≤ (l.length : Int) := by omega

      by_cases h0 : 0 < i
      · have g0 : (0 : Int) < (i : Int) := by omega
        by_cases h2 : most < n
        · (try simp +decide (implicitDefEqProofs := false) only [go_sem, ↓stk_g, ↓stk_c, ↓reduceIte, h1, g0, h2, hg, g1, hle])
          refine stk_pure (clone_ok _ (l.take i) (by simp; omega)) fun v hv => ?_
          subst hv
          (try simp +decide (implicitDefEqProofs := false) only [go_sem, ↓stk_g, ↓stk_c, ↓reduceIte])
          refine aret_loose (f := false) (sz := 1) (rows := strRows (l.take i)) (.inr rfl) ?_ ?_
          · simp +decide only [retOf, tget, if_true, if_false, ↓reduceIte]
          refine ⟨i, ⟨by omega, hns, fun _ => ⟨h0, .inl (by rw [← hnv]; exact h2)⟩⟩, rfl⟩
        · have hw4 := wrap_in (n := most - n) (by omega) (by omega)
          by_cases h3 : most - n < 0
          · (try simp +decide (implicitDefEqProofs := false) only [go_sem, ↓stk_g, ↓stk_c, ↓reduceIte, h1, g0, h2, h3, hw4, hg, g1, hle])
            refine stk_pure (clone_ok _ (l.take i) (by simp; omega)) fun v hv => ?_
            subst hv
            (try simp +decide (implicitDefEqProofs := false) only [go_sem, ↓stk_g, ↓stk_c, ↓reduceIte])
            refine aret_loose (f := false) (sz := 1) (rows := strRows (l.take i)) (.inr rfl) ?_ ?_
            · simp +decide only [retOf, tget, if_true, if_false, ↓reduceIte]
            refine ⟨i, ⟨by omega, hns, fun _ => ⟨h0, .inr (by rw [← hnv, hse]; exact h3)⟩⟩, rfl⟩
          · (try simp +decide (implicitDefEqProofs := false) only [go_sem, ↓stk_g, ↓stk_c, ↓reduceIte, h1, g0, h2, h3, hw4, hw, hw3, hg, g1, hle])
            exact ⟨by omega, n + 0, Weak.list _ (Sub.refl _) (by (try simp +decide (implicitDefEqProofs := false) only [go_sem, ↓stk_g, ↓stk_c, ↓reduceIte])), by rw [sumTo, hnv, hse], ShortNot.step hns fun h => by rcases h with ⟨_, h | h⟩; exact h2 (by rw [hnv]; exact h); exact h3 (by rw [hnv, ← hse]; exact h)⟩
      · have g0 : ¬ (0 : Int) < (i : Int) := by omega
        (try simp +decide (implicitDefEqProofs := false) only [go_sem, ↓stk_g, ↓stk_c, ↓reduceIte, h1, g0, hw, hw3, hg, g1, hle])
        exact ⟨by omega, n + 0, Weak.list _ (Sub.refl _) (by (try simp +decide (implicitDefEqProofs := false) only [go_sem, ↓stk_g, ↓stk_c, ↓reduceIte])), by rw [sumTo, hnv, hse], ShortNot.step hns fun h => absurd h.1 h0⟩
  · have h1 : ¬ (i : Int) < (l.length : Int) := by omega
    (try simp +decide (implicitDefEqProofs := false) only [go_sem, ↓stk_g, ↓stk_c, ↓reduceIte, h1])
    refine stk_pure (clone_ok f l (by omega)) fun v hv => ?_
    subst hv
    (try simp +decide (implicitDefEqProofs := false) only [go_sem, ↓stk_g, ↓stk_c, ↓reduceIte])
    refine aret_loose (f := false) (sz := 1) (rows := strRows l) (.inr rfl) ?_ ?_
    · simp +decide only [retOf, tget, if_true, if_false, ↓reduceIte]
    · exact ⟨i, ⟨by omega, hns, fun h => absurd h hil⟩, by rw [List.take_of_length_le (by omega)]⟩
end Go.Proofs.YtcbagpippmbmfaaGreatDoor.M
