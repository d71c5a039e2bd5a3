/-
  The document's own fields, begins and number of layer 15: walked.
-/
import Derived.Test.YtcplmaffccfbdaaGreatDoorRa
import Derived.Test.YtcplmaffccfbdaaGreatDoorPrcut
namespace Go.Proofs.YtcplmaffccfbdaaGreatDoor.M
open Go.RowKit
attribute [local go_sem] stk_nil stk_skip stk_ops stk_seq stk_block stk_scope stk_exit stk_ret stk_code_exit stk_code_ret stk_ops_exit stk_ops_ret stk_endb stk_endb_exit stk_endb_ret stk_endl stk_endl_exit stk_endl_ret stk_ops_nil stk_q stk_niq niqA flip srcOf stk_bsl side val bside bval uside uval cside cval bndS bndV intA isInt lside lval fside fval faside faval iside ival sxside sxval sizeA slside slval llside llval lenside lenval lenA tupA mmside mmval nkside boolA isBool ev_t ev_c tget put_s put_n lkside lkval menval stk_mk Option.isSome_some isMapA mapA keyA FZ_rfl FZ_any retOf true_and and_true if_true if_false decide_true decide_false Bool.not_true Bool.not_false Nat.zero_add List.map_cons List.map_nil Int.toNat_natCast strRows_len intRows_len List.getD_cons_zero List.getD_cons_succ List.length_cons List.length_nil List.forall_mem_cons List.not_mem_nil false_implies implies_true Int.ofNat_zero Int.natCast_add Int.natCast_one Int.ofNat_one Int.natCast_zero isB isU Bool.false_eq_true beq_self_eq_true Bool.false_beq Bool.true_beq Int.natCast_nonneg undef strRows_take strRows_drop Int.toNat_zero List.drop_zero Bool.and_true oneOr List.all_cons List.all_nil AVal.one Value.oneCell' Bool.true_and List.take_length stk_st' stside stH hp_self hp_hp isnside isnval lay List.take_succ_cons List.take_zero List.drop_succ_cons List.nil_append List.cons_append Option.getD_some List.append_nil and_self
set_option linter.unusedVariables false
set_option linter.unusedSimpArgs false
def numR (s : Str) : Int := if (∀ x ∈ bl s, isDig x) ∧ s.size ≤ 7 then (dval 0 (bl s) : Int) else -1
def c_rnumber15 : AFn := ⟨1, 35, [2],
  .seq (.ops [⟨(some 2), none, .q (.mv (.const (.int .i64 0)))⟩])
  (.seq (.ops [⟨(some 3), none, .q (.mv (.const (.int .i64 0)))⟩])
  (.seq (.seq (.ops [⟨(some 4), none, .q (.mv (.const (.int .i64 0)))⟩])
  (.block 0 (.loop (.seq (.seq (.ops [⟨(some 5), none, .q (.mv (.tmp 4))⟩,
          ⟨(some 6), none, .q (.mv (.tmp 0))⟩,
          ⟨(some 7), none, .q (.len true (.tmp 6))⟩,
          ⟨(some 8), none, .q (.bin .lss .num (.tmp 5) (.tmp 7))⟩])
      (.cond (.tmp 8)
        (.skip)
        (.exit 0)))
      (.seq (.block 1 (.seq (.seq (.ops [⟨(some 11), none, .q (.mv (.tmp 0))⟩,
            ⟨(some 12), none, .q (.mv (.tmp 4))⟩,
            ⟨(some 13), none, .q (.six (.tmp 11) (.tmp 12))⟩,
            ⟨(some 14), none, .q (.bin .lss .num (.tmp 13) (.const (.int .u8 48)))⟩,
            ⟨(some 15), none, .q (.mv (.tmp 14))⟩,
            ⟨(some 16), (some (15, false)), .q (.mv (.tmp 0))⟩,
            ⟨(some 17), (some (15, false)), .q (.mv (.tmp 4))⟩,
            ⟨(some 18), (some (15, false)), .q (.six (.tmp 16) (.tmp 17))⟩,
            ⟨(some 19), (some (15, false)), .q (.bin .gtr .num (.tmp 18) (.const (.int .u8 57)))⟩,
            ⟨(some 20), none, .q (.pick (.tmp 15) (.const (.bool true)) (.tmp 19))⟩,
            ⟨(some 21), none, .q (.mv (.tmp 20))⟩,
            ⟨(some 22), (some (21, false)), .q (.mv (.tmp 0))⟩,
            ⟨(some 23), (some (21, false)), .q (.len true (.tmp 22))⟩,
            ⟨(some 24), (some (21, false)), .q (.bin .gtr .num (.tmp 23) (.const (.int .i64 7)))⟩,
            ⟨(some 25), none, .q (.pick (.tmp 21) (.const (.bool true)) (.tmp 24))⟩])
        (.cond (.tmp 25)
          (.seq (.ops [⟨(some 2), none, .q (.mv (.const (.int .i64 (-1))))⟩])
          (.ret))
          (.skip)))
        (.ops [⟨(some 26), none, .q (.mv (.tmp 3))⟩,
            ⟨(some 27), none, .q (.bin .mul .num (.tmp 26) (.const (.int .i64 10)))⟩,
            ⟨(some 28), none, .q (.mv (.tmp 0))⟩,
            ⟨(some 29), none, .q (.mv (.tmp 4))⟩,
            ⟨(some 30), none, .q (.six (.tmp 28) (.tmp 29))⟩,
            ⟨(some 31), none, .q (.bin .sub .num (.tmp 30) (.const (.int .u8 48)))⟩,
            ⟨(some 32), none, .q (.cv (.int .i64) (.tmp 31))⟩,
            ⟨(some 33), none, .q (.bin .add .num (.tmp 27) (.tmp 32))⟩,
            ⟨(some 3), none, .q (.mv (.tmp 33))⟩])))
      (.ops [⟨(some 9), none, .q (.mv (.tmp 4))⟩,
          ⟨(some 10), none, .q (.bin .add .num (.tmp 9) (.const (.int .i64 1)))⟩,
          ⟨(some 4), none, .q (.mv (.tmp 10))⟩]))))))
  (.seq (.ops [⟨(some 34), none, .q (.mv (.tmp 3))⟩,
      ⟨(some 2), none, .q (.mv (.tmp 34))⟩])
  (.ret)))), []⟩
theorem k_rnumber15 : compF Tryz.prog 32 = some c_rnumber15 := by kernel_rfl
set_option maxHeartbeats 4000000 in
theorem rnumber15_ok {W : World} (s : Str) (hs : s.size ≤ 1000000) : ACalls Tryz.prog W 32 [.v (.string s)] AHeap.none fun v _ => v = .v (.int .i64 (numR s)) := by
  refine fn_run follows k_rnumber15 rfl ?_
  simp only [c_rnumber15, aretC_nil, List.zipIdx_cons, List.zipIdx_nil, List.map_cons, List.map_nil, Nat.zero_add]
  (try simp +decide (implicitDefEqProofs := false) only [go_sem, ↓stk_g, ↓stk_c, ↓reduceIte])
  have hl := bl_len s
  refine stk_up (α := Nat) s.size (fun i n => ⟨[(4, .v (.int .i64 i)), (3, .v (.int .i64 n)), (0, .v (.string s))], AHeap.none⟩) (fun i n => n = dval 0 ((bl s).take i) ∧ n + 1 ≤ 10 ^ i ∧ (∀ k (hk : k < (bl s).length), k < i → isDig (bl s)[k]) ∧ (0 < i → s.size ≤ 7)) 0 (Weak.list _ (Sub.refl _) (by (try simp +decide (implicitDefEqProofs := false) only [go_sem, ↓stk_g, ↓stk_c, ↓reduceIte]))) ⟨rfl, by decide, fun k hk h => by omega, fun h => by omega⟩ ?_
  rintro i n hi ⟨hJ1, hJ2, hJ3, hJ4⟩
  by_cases hlt : i < s.size
  · have g1 : (i : Int) < (s.size : Int) := by omega
    have hi2 : i < (bl s).length := by omega
    have hb := bt_get (s := s) hi2
    have hlast : (bl s).take (i + 1) = (bl s).take i ++ [(bl s)[i]] := List.take_succ_eq_append_getElem hi2
    have hno : ∀ (h : ¬ isDig (bl s)[i]), numR s = -1 := fun h => if_neg fun e => h (e.1 _ (List.getElem_mem _))
    generalize hx : (bl s)[i] = x at hb hlast hno
    by_cases q1 : bt s (i : Int) < 48
    · (try simp +decide (implicitDefEqProofs := false) only [go_sem, ↓stk_g, ↓stk_c, ↓reduceIte, g1, q1])
      refine aret_pure (.inr rfl) ?_; simp +decide only [retOf, tget, if_true, if_false, ↓reduceIte, List.map_cons, List.map_nil]
      rw [hno (by unfold isDig; omega)]
    by_cases q2 : 57 < bt s (i : Int)
    · (try simp +decide (implicitDefEqProofs := false) only [go_sem, ↓stk_g, ↓stk_c, ↓reduceIte, g1, q1, q2])
      refine aret_pure (.inr rfl) ?_; simp +decide only [retOf, tget, if_true, if_false, ↓reduceIte, List.map_cons, List.map_nil]
      rw [hno (by unfold isDig; omega)]
    by_cases q3 : (7 : Int) < (s.size : Int)
    · (try simp +decide (implicitDefEqProofs := false) only [go_sem, ↓stk_g, ↓stk_c, ↓reduceIte, g1, q1, q2, q3])
      refine aret_pure (.inr rfl) ?_; simp +decide only [retOf, tget, if_true, if_false, ↓reduceIte, List.map_cons, List.map_nil]
      unfold numR
      rw [if_neg (fun e => by omega)]
    have hp : 10 ^ i ≤ 10 ^ 7 := Nat.pow_le_pow_right (by omega) (by omega)
    have hps : 10 ^ (i + 1) = 10 ^ i * 10 := Nat.pow_succ 10 i
    have hw := wrap_in (n := (i : Int) + 1) (by omega) (by omega)
    have w1 := wrap_in (n := (n : Int) * 10) (by omega) (by omega)
    have v1 := u8_in (n := bt s (i : Int) - 48) (by omega) (by omega)
    have v2 := wrap_in (n := bt s (i : Int) - 48) (by omega) (by omega)
    have w2 := wrap_in (n := (n : Int) * 10 + (bt s (i : Int) - 48)) (by omega) (by omega)
    have hc : (n : Int) * 10 + (bt s (i : Int) - 48) = ((n * 10 + (x.toNat - 48) : Nat) : Int) := by omega
    (try simp +decide (implicitDefEqProofs := false) only [go_sem, ↓stk_g, ↓stk_c, ↓reduceIte, g1, q1, q2, q3, w1, v1, v2, w2, hw])
    rw [hc]
    refine ⟨by omega, n * 10 + (x.toNat - 48), Weak.list _ (Sub.refl _) (by (try simp +decide (implicitDefEqProofs := false) only [go_sem, ↓stk_g, ↓stk_c, ↓reduceIte])), by rw [hlast, dval_snoc, ← hJ1], by omega, fun k hk h => ?_, fun _ => by omega⟩
    by_cases e : k = i
    · subst e; rw [hx]; unfold isDig; omega
    · exact hJ3 k hk (by omega)
  · have g1 : ¬ (i : Int) < (s.size : Int) := by omega
    obtain rfl : i = s.size := by omega
    (try simp +decide (implicitDefEqProofs := false) only [go_sem, ↓stk_g, ↓stk_c, ↓reduceIte, g1])
    refine aret_pure (.inr rfl) ?_; simp +decide only [retOf, tget, if_true, if_false, ↓reduceIte, List.map_cons, List.map_nil]
    have hd : ∀ x ∈ bl s, isDig x := fun x hx => by
      obtain ⟨j, hj, rfl⟩ := List.getElem_of_mem hx
      exact hJ3 j hj (by omega)
    have h7 : s.size ≤ 7 := by
      rcases Nat.eq_zero_or_pos s.size with h | h
      · omega
      · exact hJ4 h
    unfold numR
    rw [if_pos ⟨hd, h7⟩, hJ1, ← hl, List.take_length]
theorem numR_itoa (n : Int) (h0 : 0 ≤ n) (h1 : n ≤ 1000000) : numR (itoaS n) = n := by
  have h2 := itoa_len n h0 h1
  obtain ⟨k, rfl⟩ : ∃ k : Nat, n = k := ⟨n.toNat, by omega⟩
  unfold numR
  rw [bl_itoa, if_pos ⟨decDigits_dig k, h2⟩, dval_dec]
/-- A field of a text, by places of the text itself. -/
theorem fieldK_eq (s : Str) {k : Nat} (hk : k ≤ s.size) : fieldK s k =
    if k = 0 ∨ (1 < k ∧ bt s 0 = 48) then (ByteArray.empty, ByteArray.empty, 2)
    else if k = s.size then (ByteArray.empty, ByteArray.empty, 3)
    else if bt s (k : Int) ≠ 58 then (ByteArray.empty, ByteArray.empty, 2)
    else if s.size ≤ k + 1 + dval 0 ((bl s).take k) then (ByteArray.empty, ByteArray.empty, 3)
    else if bt s ((k + 1 + dval 0 ((bl s).take k) : Nat) : Int) ≠ 44 then (ByteArray.empty, ByteArray.empty, 2)
    else (cutS s ((k + 1 : Nat) : Int) ((k + 1 + dval 0 ((bl s).take k) : Nat) : Int), cutS s ((k + 2 + dval 0 ((bl s).take k) : Nat) : Int) (s.size : Int), 0) := by
  unfold fieldK
  generalize dval 0 ((bl s).take k) = n
  have hrb : bl (cutS s (k : Int) (s.size : Int)) = (bl s).drop k := by
    rw [bl_cut s k s.size (Nat.le_refl _), List.take_of_length_le (by rw [bl_len]; omega)]
  have hrs : (cutS s (k : Int) (s.size : Int)).size = s.size - k := by rw [← bl_len, hrb, List.length_drop, bl_len]
  generalize cutS s (k : Int) (s.size : Int) = r at hrb hrs
  have hbt : ∀ i : Nat, bt r (i : Int) = bt s ((k + i : Nat) : Int) := fun i => by
    unfold bt
    rw [Int.toNat_natCast, Int.toNat_natCast, List.getD_eq_getElem?_getD, List.getD_eq_getElem?_getD, show r.data.toList = bl r from rfl, hrb, List.getElem?_drop]
    rfl
  by_cases c1 : k = 0 ∨ (1 < k ∧ bt s 0 = 48)
  · rw [if_pos c1, if_pos c1]
  rw [if_neg c1, if_neg c1]
  by_cases c2 : k = s.size
  · rw [if_pos c2, if_pos (show r = ByteArray.empty from ByteArray.ext (Array.eq_empty_of_size_eq_zero (show r.size = 0 by omega)))]
  rw [if_neg c2, if_neg (fun h => by rw [h] at hrs; have e0 : ByteArray.empty.size = 0 := rfl; omega)]
  have h0 := hbt 0
  rw [Nat.add_zero] at h0
  have h0' : bt r 0 = bt s (k : Int) := h0
  rw [h0']
  by_cases c3 : bt s (k : Int) ≠ 58
  · rw [if_pos c3, if_pos c3]
  rw [if_neg c3, if_neg c3]
  by_cases c4 : s.size ≤ k + 1 + n
  · rw [if_pos c4, if_pos (by omega)]
  rw [if_neg c4, if_neg (show ¬ ((r.size : Int) - 1 ≤ (n : Int)) by omega)]
  have h1 : bt r (1 + (n : Int)) = bt s ((k + 1 + n : Nat) : Int) := by
    rw [show (1 : Int) + (n : Int) = ((1 + n : Nat) : Int) by omega, hbt, show k + (1 + n) = k + 1 + n by omega]
  rw [h1]
  by_cases c5 : bt s ((k + 1 + n : Nat) : Int) ≠ 44
  · rw [if_pos c5, if_pos c5]
  rw [if_neg c5, if_neg c5]
  have e1 : cutS r 1 (1 + (n : Int)) = cutS s ((k + 1 : Nat) : Int) ((k + 1 + n : Nat) : Int) := bl_inj (by
    rw [show (1 : Int) + (n : Int) = ((1 + n : Nat) : Int) by omega, show (1 : Int) = ((1 : Nat) : Int) from rfl, bl_cut r 1 (1 + n) (by omega), bl_cut s (k + 1) (k + 1 + n) (by omega), hrb, List.take_drop, List.drop_drop, show k + (1 + n) = k + 1 + n by omega])
  have e2 : cutS r (2 + (n : Int)) (r.size : Int) = cutS s ((k + 2 + n : Nat) : Int) (s.size : Int) := bl_inj (by
    rw [show (2 : Int) + (n : Int) = ((2 + n : Nat) : Int) by omega, bl_cut r (2 + n) r.size (Nat.le_refl _), bl_cut s (k + 2 + n) s.size (Nat.le_refl _), List.take_of_length_le (by rw [bl_len]; omega), List.take_of_length_le (by rw [bl_len]; omega), hrb, List.drop_drop, show k + (2 + n) = k + 2 + n by omega])
  rw [e1, e2]
def fieldsR : Nat → Str → List Str × Str
  | 0, s => ([], s)
  | n + 1, s => if s = ByteArray.empty then ([], ByteArray.empty) else
    if (fieldV s).2.2 ≠ 0 then ([], s) else ((fieldV s).1 :: (fieldsR n (fieldV s).2.1).1, (fieldsR n (fieldV s).2.1).2)
theorem fieldsR_nil (n : Nat) : fieldsR n ByteArray.empty = ([], ByteArray.empty) := by
  cases n
  · rfl
  · unfold fieldsR; rw [if_pos rfl]
def begsR (s : Str) : Bool := decide ((fieldV s).2.2 = 3)
def c_begins : AFn := ⟨1, 65, [2],
  .seq (.ops [⟨(some 2), none, .q (.mv (.const (.bool false)))⟩])
  (.seq (.ops [⟨(some 3), none, .q (.mv (.const (.int .i64 0)))⟩])
  (.seq (.ops [⟨(some 4), none, .q (.mv (.const (.int .i64 0)))⟩])
  (.seq (.block 0 (.loop (.seq (.seq (.ops [⟨(some 5), none, .q (.mv (.tmp 4))⟩,
          ⟨(some 6), none, .q (.mv (.tmp 0))⟩,
          ⟨(some 7), none, .q (.len true (.tmp 6))⟩,
          ⟨(some 8), none, .q (.bin .lss .num (.tmp 5) (.tmp 7))⟩,
          ⟨(some 9), none, .q (.mv (.tmp 8))⟩,
          ⟨(some 10), (some (9, true)), .q (.mv (.tmp 4))⟩,
          ⟨(some 11), (some (9, true)), .q (.bin .lss .num (.tmp 10) (.const (.int .i64 6)))⟩,
          ⟨(some 12), none, .q (.pick (.tmp 9) (.tmp 11) (.const (.bool false)))⟩,
          ⟨(some 13), none, .q (.mv (.tmp 12))⟩,
          ⟨(some 14), (some (13, true)), .q (.mv (.tmp 0))⟩,
          ⟨(some 15), (some (13, true)), .q (.mv (.tmp 4))⟩,
          ⟨(some 16), (some (13, true)), .q (.six (.tmp 14) (.tmp 15))⟩,
          ⟨(some 17), (some (13, true)), .q (.bin .geq .num (.tmp 16) (.const (.int .u8 48)))⟩,
          ⟨(some 18), none, .q (.pick (.tmp 13) (.tmp 17) (.const (.bool false)))⟩,
          ⟨(some 19), none, .q (.mv (.tmp 18))⟩,
          ⟨(some 20), (some (19, true)), .q (.mv (.tmp 0))⟩,
          ⟨(some 21), (some (19, true)), .q (.mv (.tmp 4))⟩,
          ⟨(some 22), (some (19, true)), .q (.six (.tmp 20) (.tmp 21))⟩,
          ⟨(some 23), (some (19, true)), .q (.bin .leq .num (.tmp 22) (.const (.int .u8 57)))⟩,
          ⟨(some 24), none, .q (.pick (.tmp 19) (.tmp 23) (.const (.bool false)))⟩])
      (.cond (.tmp 24)
        (.skip)
        (.exit 0)))
      (.block 1 (.seq (.ops [⟨(some 25), none, .q (.mv (.tmp 3))⟩,
            ⟨(some 26), none, .q (.bin .mul .num (.tmp 25) (.const (.int .i64 10)))⟩,
            ⟨(some 27), none, .q (.mv (.tmp 0))⟩,
            ⟨(some 28), none, .q (.mv (.tmp 4))⟩,
            ⟨(some 29), none, .q (.six (.tmp 27) (.tmp 28))⟩,
            ⟨(some 30), none, .q (.bin .sub .num (.tmp 29) (.const (.int .u8 48)))⟩,
            ⟨(some 31), none, .q (.cv (.int .i64) (.tmp 30))⟩,
            ⟨(some 32), none, .q (.bin .add .num (.tmp 26) (.tmp 31))⟩,
            ⟨(some 3), none, .q (.mv (.tmp 32))⟩])
        (.ops [⟨(some 33), none, .q (.mv (.tmp 4))⟩,
            ⟨(some 34), none, .q (.bin .add .num (.tmp 33) (.const (.int .i64 1)))⟩,
            ⟨(some 4), none, .q (.mv (.tmp 34))⟩]))))))
  (.seq (.seq (.ops [⟨(some 35), none, .q (.mv (.tmp 4))⟩,
      ⟨(some 36), none, .q (.bin .eql .num (.tmp 35) (.const (.int .i64 0)))⟩,
      ⟨(some 37), none, .q (.mv (.tmp 36))⟩,
      ⟨(some 38), (some (37, false)), .q (.mv (.tmp 4))⟩,
      ⟨(some 39), (some (37, false)), .q (.bin .gtr .num (.tmp 38) (.const (.int .i64 1)))⟩,
      ⟨(some 40), (some (37, false)), .q (.mv (.tmp 39))⟩,
      ⟨(some 41), (some (40, true)), .q (.mv (.tmp 0))⟩,
      ⟨(some 42), (some (40, true)), .q (.six (.tmp 41) (.const (.int .i64 0)))⟩,
      ⟨(some 43), (some (40, true)), .q (.bin .eql .num (.tmp 42) (.const (.int .u8 48)))⟩,
      ⟨(some 44), (some (37, false)), .q (.pick (.tmp 40) (.tmp 43) (.const (.bool false)))⟩,
      ⟨(some 45), none, .q (.pick (.tmp 37) (.const (.bool true)) (.tmp 44))⟩])
  (.cond (.tmp 45)
    (.seq (.ops [⟨(some 2), none, .q (.mv (.const (.bool false)))⟩])
    (.ret))
    (.skip)))
  (.seq (.ops [⟨(some 46), none, .q (.mv (.tmp 4))⟩,
      ⟨(some 47), none, .q (.mv (.tmp 0))⟩,
      ⟨(some 48), none, .q (.len true (.tmp 47))⟩,
      ⟨(some 49), none, .q (.bin .eql .num (.tmp 46) (.tmp 48))⟩,
      ⟨(some 50), none, .q (.mv (.tmp 49))⟩,
      ⟨(some 51), (some (50, false)), .q (.mv (.tmp 0))⟩,
      ⟨(some 52), (some (50, false)), .q (.mv (.tmp 4))⟩,
      ⟨(some 53), (some (50, false)), .q (.six (.tmp 51) (.tmp 52))⟩,
      ⟨(some 54), (some (50, false)), .q (.bin .eql .num (.tmp 53) (.const (.int .u8 58)))⟩,
      ⟨(some 55), (some (50, false)), .q (.mv (.tmp 54))⟩,
      ⟨(some 56), (some (55, true)), .q (.mv (.tmp 0))⟩,
      ⟨(some 57), (some (55, true)), .q (.len true (.tmp 56))⟩,
      ⟨(some 58), (some (55, true)), .q (.mv (.tmp 4))⟩,
      ⟨(some 59), (some (55, true)), .q (.bin .sub .num (.tmp 57) (.tmp 58))⟩,
      ⟨(some 60), (some (55, true)), .q (.bin .sub .num (.tmp 59) (.const (.int .i64 1)))⟩,
      ⟨(some 61), (some (55, true)), .q (.mv (.tmp 3))⟩,
      ⟨(some 62), (some (55, true)), .q (.bin .leq .num (.tmp 60) (.tmp 61))⟩,
      ⟨(some 63), (some (50, false)), .q (.pick (.tmp 55) (.tmp 62) (.const (.bool false)))⟩,
      ⟨(some 64), none, .q (.pick (.tmp 50) (.const (.bool true)) (.tmp 63))⟩,
      ⟨(some 2), none, .q (.mv (.tmp 64))⟩])
  (.ret)))))), []⟩
theorem k_begins : compF Tryz.prog 31 = some c_begins := by kernel_rfl
set_option maxHeartbeats 16000000 in
theorem begins_ok {W : World} (s : Str) (hs : s.size ≤ 1000000000) : ACalls Tryz.prog W 31 [.v (.string s)] AHeap.none fun v _ => v = .v (.bool (begsR s)) := by
  refine fn_run follows k_begins rfl ?_
  simp only [c_begins, aretC_nil, List.zipIdx_cons, List.zipIdx_nil, List.map_cons, List.map_nil, Nat.zero_add]
  (try simp +decide (implicitDefEqProofs := false) only [go_sem, ↓stk_g, ↓stk_c, ↓reduceIte])
  refine stk_up (α := Nat) 6 (fun i n => ⟨[(4, .v (.int .i64 i)), (3, .v (.int .i64 n)), (0, .v (.string s))], AHeap.none⟩) (fun i n => i ≤ s.size ∧ (∀ j (hj : j < (bl s).length), j < i → isDig (bl s)[j]) ∧ n = dval 0 ((bl s).take i)) 0 (Weak.list _ (Sub.refl _) ?_) ⟨Nat.zero_le _, fun j hj h => by omega, rfl⟩ ?_
  · (try simp +decide (implicitDefEqProofs := false) only [go_sem, ↓stk_g, ↓stk_c, ↓reduceIte])
    first | done | exact FZ.refl _ | exact ⟨FZ.refl _, FZ.refl _⟩
  rintro k n hk ⟨hk2, hdig, hnn⟩
  have hbl := bl_len s
  have hfin : ∀ (h4 : k = (bl s).length ∨ k = 6 ∨ ∃ hk : k < (bl s).length, ¬ isDig (bl s)[k]), digK (bl s) = k := fun h4 => digK_at (by omega) hk hdig h4
  have hdt : ∀ c ∈ (bl s).take k, isDig c := fun c hc => by
    obtain ⟨j, hj, rfl⟩ := List.getElem_of_mem hc
    rw [List.length_take] at hj
    rw [List.getElem_take]
    exact hdig j (by omega) (by omega)
  have hn6 : n + 1 ≤ 1000000 := by
    have h1 := dval_lt ((bl s).take k) 0 hdt
    have h2 : 10 ^ ((bl s).take k).length ≤ 10 ^ 6 := Nat.pow_le_pow_right (by omega) (by rw [List.length_take]; omega)
    omega
  have hke := fieldK_eq s hk2
  rw [← hnn] at hke
  have hfe : digK (bl s) = k → fieldV s = _ := fun h => (show fieldV s = fieldK s k by unfold fieldV; rw [h]).trans hke
  clear hke
  have hw := wrap_in (n := (k : Int) + 1) (by omega) (by omega)
  have e4 : (0 : Int) ≤ (k : Int) := by omega
  by_cases q1 : k < s.size
  case neg =>
    have g1 : ¬ (k : Int) < (s.size : Int) := by omega
    have hV := hfe (hfin (.inl (by omega)))
    by_cases z0 : k = 0
    · have d0 : decide ((k : Int) = 0) = true := decide_eq_true (by omega)
      rw [if_pos (.inl z0)] at hV
      (try simp +decide (implicitDefEqProofs := false) only [go_sem, ↓stk_g, ↓stk_c, ↓reduceIte, g1, d0])
      refine aret_pure (.inr rfl) ?_; simp +decide only [retOf, tget, if_true, if_false, ↓reduceIte, List.map_cons, List.map_nil]
      unfold begsR; rw [hV]; rfl
    have d0 : decide ((k : Int) = 0) = false := decide_eq_false (by omega)
    have s0 : (0 : Int) < (s.size : Int) := by omega
    by_cases z1 : 1 < k ∧ bt s 0 = 48
    · have d1 : (1 : Int) < (k : Int) := by have := z1.1; omega
      have d2 : decide (bt s 0 = 48) = true := decide_eq_true z1.2
      rw [if_pos (.inr z1)] at hV
      (try simp +decide (implicitDefEqProofs := false) only [go_sem, ↓stk_g, ↓stk_c, ↓reduceIte, g1, d0, d1, d2, s0])
      refine aret_pure (.inr rfl) ?_; simp +decide only [retOf, tget, if_true, if_false, ↓reduceIte, List.map_cons, List.map_nil]
      unfold begsR; rw [hV]; rfl
    rw [if_neg (fun h => h.elim z0 z1)] at hV
    have hgo : ∀ (K : Prop), (¬ 1 < k → K) → (1 < k → bt s 0 ≠ 48 → K) → K := fun K h1 h2 => by
      by_cases h : 1 < k
      · exact h2 h (fun e => z1 ⟨h, e⟩)
      · exact h1 h
    by_cases y1 : k = s.size
    · have f1 : decide ((k : Int) = (s.size : Int)) = true := decide_eq_true (by omega)
      rw [if_pos y1] at hV
      refine hgo _ (fun z2 => ?_) (fun z2 z3 => ?_)
      · have d1 : ¬ (1 : Int) < (k : Int) := by omega
        (try simp +decide (implicitDefEqProofs := false) only [go_sem, ↓stk_g, ↓stk_c, ↓reduceIte, g1, d0, d1, s0, f1])
        refine aret_pure (.inr rfl) ?_; simp +decide only [retOf, tget, if_true, if_false, ↓reduceIte, List.map_cons, List.map_nil]
        unfold begsR; rw [hV]; rfl
      · have d1 : (1 : Int) < (k : Int) := by omega
        have d2 : decide (bt s 0 = 48) = false := decide_eq_false z3
        (try simp +decide (implicitDefEqProofs := false) only [go_sem, ↓stk_g, ↓stk_c, ↓reduceIte, g1, d0, d1, d2, s0, f1])
        refine aret_pure (.inr rfl) ?_; simp +decide only [retOf, tget, if_true, if_false, ↓reduceIte, List.map_cons, List.map_nil]
        unfold begsR; rw [hV]; rfl
    exact absurd (by omega) y1
  have g1 : (k : Int) < (s.size : Int) := by omega
  have hk3 : k < (bl s).length := by omega
  have hb := bt_get hk3
  by_cases q2 : k < 6
  case neg =>
    have g2 : ¬ (k : Int) < 6 := by omega
    have hV := hfe (hfin (.inr (.inl (by omega))))
    by_cases z0 : k = 0
    · have d0 : decide ((k : Int) = 0) = true := decide_eq_true (by omega)
      rw [if_pos (.inl z0)] at hV
      (try simp +decide (implicitDefEqProofs := false) only [go_sem, ↓stk_g, ↓stk_c, ↓reduceIte, g1, g2, d0])
      refine aret_pure (.inr rfl) ?_; simp +decide only [retOf, tget, if_true, if_false, ↓reduceIte, List.map_cons, List.map_nil]
      unfold begsR; rw [hV]; rfl
    have d0 : decide ((k : Int) = 0) = false := decide_eq_false (by omega)
    have s0 : (0 : Int) < (s.size : Int) := by omega
    by_cases z1 : 1 < k ∧ bt s 0 = 48
    · have d1 : (1 : Int) < (k : Int) := by have := z1.1; omega
      have d2 : decide (bt s 0 = 48) = true := decide_eq_true z1.2
      rw [if_pos (.inr z1)] at hV
      (try simp +decide (implicitDefEqProofs := false) only [go_sem, ↓stk_g, ↓stk_c, ↓reduceIte, g1, g2, d0, d1, d2, s0])
      refine aret_pure (.inr rfl) ?_; simp +decide only [retOf, tget, if_true, if_false, ↓reduceIte, List.map_cons, List.map_nil]
      unfold begsR; rw [hV]; rfl
    rw [if_neg (fun h => h.elim z0 z1)] at hV
    have hgo : ∀ (K : Prop), (¬ 1 < k → K) → (1 < k → bt s 0 ≠ 48 → K) → K := fun K h1 h2 => by
      by_cases h : 1 < k
      · exact h2 h (fun e => z1 ⟨h, e⟩)
      · exact h1 h
    by_cases y1 : k = s.size
    · have f1 : decide ((k : Int) = (s.size : Int)) = true := decide_eq_true (by omega)
      rw [if_pos y1] at hV
      refine hgo _ (fun z2 => ?_) (fun z2 z3 => ?_)
      · have d1 : ¬ (1 : Int) < (k : Int) := by omega
        (try simp +decide (implicitDefEqProofs := false) only [go_sem, ↓stk_g, ↓stk_c, ↓reduceIte, g1, g2, d0, d1, s0, f1])
        refine aret_pure (.inr rfl) ?_; simp +decide only [retOf, tget, if_true, if_false, ↓reduceIte, List.map_cons, List.map_nil]
        unfold begsR; rw [hV]; rfl
      · have d1 : (1 : Int) < (k : Int) := by omega
        have d2 : decide (bt s 0 = 48) = false := decide_eq_false z3
        (try simp +decide (implicitDefEqProofs := false) only [go_sem, ↓stk_g, ↓stk_c, ↓reduceIte, g1, g2, d0, d1, d2, s0, f1])
        refine aret_pure (.inr rfl) ?_; simp +decide only [retOf, tget, if_true, if_false, ↓reduceIte, List.map_cons, List.map_nil]
        unfold begsR; rw [hV]; rfl
    have f1 : decide ((k : Int) = (s.size : Int)) = false := decide_eq_false (by omega)
    have f0 : (k : Int) < (s.size : Int) := by omega
    rw [if_neg y1] at hV
    by_cases y2 : bt s (k : Int) = 58
    case neg =>
      have f2 : decide (bt s (k : Int) = 58) = false := decide_eq_false y2
      rw [if_pos y2] at hV
      refine hgo _ (fun z2 => ?_) (fun z2 z3 => ?_)
      · have d1 : ¬ (1 : Int) < (k : Int) := by omega
        (try simp +decide (implicitDefEqProofs := false) only [go_sem, ↓stk_g, ↓stk_c, ↓reduceIte, g1, g2, d0, d1, s0, f1, f0, e4, f2])
        refine aret_pure (.inr rfl) ?_; simp +decide only [retOf, tget, if_true, if_false, ↓reduceIte, List.map_cons, List.map_nil]
        unfold begsR; rw [hV]; rfl
      · have d1 : (1 : Int) < (k : Int) := by omega
        have d2 : decide (bt s 0 = 48) = false := decide_eq_false z3
        (try simp +decide (implicitDefEqProofs := false) only [go_sem, ↓stk_g, ↓stk_c, ↓reduceIte, g1, g2, d0, d1, d2, s0, f1, f0, e4, f2])
        refine aret_pure (.inr rfl) ?_; simp +decide only [retOf, tget, if_true, if_false, ↓reduceIte, List.map_cons, List.map_nil]
        unfold begsR; rw [hV]; rfl
    have f2 : decide (bt s (k : Int) = 58) = true := decide_eq_true y2
    rw [if_neg (fun h => h y2)] at hV
    have w5 := wrap_in (n := (s.size : Int) - (k : Int)) (by omega) (by omega)
    have w6 := wrap_in (n := (s.size : Int) - (k : Int) - 1) (by omega) (by omega)
    have hres : begsR s = decide ((s.size : Int) - (k : Int) - 1 ≤ (n : Int)) := by
      unfold begsR
      by_cases y3 : s.size ≤ k + 1 + n
      · rw [if_pos y3] at hV
        rw [hV, decide_eq_true (p := (s.size : Int) - (k : Int) - 1 ≤ (n : Int)) (by omega)]; rfl
      · rw [if_neg y3] at hV
        rw [hV, decide_eq_false (p := (s.size : Int) - (k : Int) - 1 ≤ (n : Int)) (by omega)]
        split <;> rfl
    refine hgo _ (fun z2 => ?_) (fun z2 z3 => ?_)
    · have d1 : ¬ (1 : Int) < (k : Int) := by omega
      (try simp +decide (implicitDefEqProofs := false) only [go_sem, ↓stk_g, ↓stk_c, ↓reduceIte, g1, g2, d0, d1, s0, f1, f0, e4, f2, w5, w6])
      refine aret_pure (.inr rfl) ?_; simp +decide only [retOf, tget, if_true, if_false, ↓reduceIte, List.map_cons, List.map_nil]
      rw [hres]
    · have d1 : (1 : Int) < (k : Int) := by omega
      have d2 : decide (bt s 0 = 48) = false := decide_eq_false z3
      (try simp +decide (implicitDefEqProofs := false) only [go_sem, ↓stk_g, ↓stk_c, ↓reduceIte, g1, g2, d0, d1, d2, s0, f1, f0, e4, f2, w5, w6])
      refine aret_pure (.inr rfl) ?_; simp +decide only [retOf, tget, if_true, if_false, ↓reduceIte, List.map_cons, List.map_nil]
      rw [hres]
  have g2 : (k : Int) < 6 := by omega
  by_cases q3 : 48 ≤ bt s (k : Int)
  case neg =>
    have hV := hfe (hfin (.inr (.inr ⟨hk3, by unfold isDig; omega⟩)))
    by_cases z0 : k = 0
    · have d0 : decide ((k : Int) = 0) = true := decide_eq_true (by omega)
      rw [if_pos (.inl z0)] at hV
      (try simp +decide (implicitDefEqProofs := false) only [go_sem, ↓stk_g, ↓stk_c, ↓reduceIte, g1, g2, q3, d0])
      refine aret_pure (.inr rfl) ?_; simp +decide only [retOf, tget, if_true, if_false, ↓reduceIte, List.map_cons, List.map_nil]
      unfold begsR; rw [hV]; rfl
    have d0 : decide ((k : Int) = 0) = false := decide_eq_false (by omega)
    have s0 : (0 : Int) < (s.size : Int) := by omega
    by_cases z1 : 1 < k ∧ bt s 0 = 48
    · have d1 : (1 : Int) < (k : Int) := by have := z1.1; omega
      have d2 : decide (bt s 0 = 48) = true := decide_eq_true z1.2
      rw [if_pos (.inr z1)] at hV
      (try simp +decide (implicitDefEqProofs := false) only [go_sem, ↓stk_g, ↓stk_c, ↓reduceIte, g1, g2, q3, d0, d1, d2, s0])
      refine aret_pure (.inr rfl) ?_; simp +decide only [retOf, tget, if_true, if_false, ↓reduceIte, List.map_cons, List.map_nil]
      unfold begsR; rw [hV]; rfl
    rw [if_neg (fun h => h.elim z0 z1)] at hV
    have hgo : ∀ (K : Prop), (¬ 1 < k → K) → (1 < k → bt s 0 ≠ 48 → K) → K := fun K h1 h2 => by
      by_cases h : 1 < k
      · exact h2 h (fun e => z1 ⟨h, e⟩)
      · exact h1 h
    by_cases y1 : k = s.size
    · have f1 : decide ((k : Int) = (s.size : Int)) = true := decide_eq_true (by omega)
      rw [if_pos y1] at hV
      refine hgo _ (fun z2 => ?_) (fun z2 z3 => ?_)
      · have d1 : ¬ (1 : Int) < (k : Int) := by omega
        (try simp +decide (implicitDefEqProofs := false) only [go_sem, ↓stk_g, ↓stk_c, ↓reduceIte, g1, g2, q3, d0, d1, s0, f1])
        refine aret_pure (.inr rfl) ?_; simp +decide only [retOf, tget, if_true, if_false, ↓reduceIte, List.map_cons, List.map_nil]
        unfold begsR; rw [hV]; rfl
      · have d1 : (1 : Int) < (k : Int) := by omega
        have d2 : decide (bt s 0 = 48) = false := decide_eq_false z3
        (try simp +decide (implicitDefEqProofs := false) only [go_sem, ↓stk_g, ↓stk_c, ↓reduceIte, g1, g2, q3, d0, d1, d2, s0, f1])
        refine aret_pure (.inr rfl) ?_; simp +decide only [retOf, tget, if_true, if_false, ↓reduceIte, List.map_cons, List.map_nil]
        unfold begsR; rw [hV]; rfl
    have f1 : decide ((k : Int) = (s.size : Int)) = false := decide_eq_false (by omega)
    have f0 : (k : Int) < (s.size : Int) := by omega
    rw [if_neg y1] at hV
    by_cases y2 : bt s (k : Int) = 58
    case neg =>
      have f2 : decide (bt s (k : Int) = 58) = false := decide_eq_false y2
      rw [if_pos y2] at hV
      refine hgo _ (fun z2 => ?_) (fun z2 z3 => ?_)
      · have d1 : ¬ (1 : Int) < (k : Int) := by omega
        (try simp +decide (implicitDefEqProofs := false) only [go_sem, ↓stk_g, ↓stk_c, ↓reduceIte, g1, g2, q3, d0, d1, s0, f1, f0, e4, f2])
        refine aret_pure (.inr rfl) ?_; simp +decide only [retOf, tget, if_true, if_false, ↓reduceIte, List.map_cons, List.map_nil]
        unfold begsR; rw [hV]; rfl
      · have d1 : (1 : Int) < (k : Int) := by omega
        have d2 : decide (bt s 0 = 48) = false := decide_eq_false z3
        (try simp +decide (implicitDefEqProofs := false) only [go_sem, ↓stk_g, ↓stk_c, ↓reduceIte, g1, g2, q3, d0, d1, d2, s0, f1, f0, e4, f2])
        refine aret_pure (.inr rfl) ?_; simp +decide only [retOf, tget, if_true, if_false, ↓reduceIte, List.map_cons, List.map_nil]
        unfold begsR; rw [hV]; rfl
    have f2 : decide (bt s (k : Int) = 58) = true := decide_eq_true y2
    rw [if_neg (fun h => h y2)] at hV
    have w5 := wrap_in (n := (s.size : Int) - (k : Int)) (by omega) (by omega)
    have w6 := wrap_in (n := (s.size : Int) - (k : Int) - 1) (by omega) (by omega)
    have hres : begsR s = decide ((s.size : Int) - (k : Int) - 1 ≤ (n : Int)) := by
      unfold begsR
      by_cases y3 : s.size ≤ k + 1 + n
      · rw [if_pos y3] at hV
        rw [hV, decide_eq_true (p := (s.size : Int) - (k : Int) - 1 ≤ (n : Int)) (by omega)]; rfl
      · rw [if_neg y3] at hV
        rw [hV, decide_eq_false (p := (s.size : Int) - (k : Int) - 1 ≤ (n : Int)) (by omega)]
        split <;> rfl
    refine hgo _ (fun z2 => ?_) (fun z2 z3 => ?_)
    · have d1 : ¬ (1 : Int) < (k : Int) := by omega
      (try simp +decide (implicitDefEqProofs := false) only [go_sem, ↓stk_g, ↓stk_c, ↓reduceIte, g1, g2, q3, d0, d1, s0, f1, f0, e4, f2, w5, w6])
      refine aret_pure (.inr rfl) ?_; simp +decide only [retOf, tget, if_true, if_false, ↓reduceIte, List.map_cons, List.map_nil]
      rw [hres]
    · have d1 : (1 : Int) < (k : Int) := by omega
      have d2 : decide (bt s 0 = 48) = false := decide_eq_false z3
      (try simp +decide (implicitDefEqProofs := false) only [go_sem, ↓stk_g, ↓stk_c, ↓reduceIte, g1, g2, q3, d0, d1, d2, s0, f1, f0, e4, f2, w5, w6])
      refine aret_pure (.inr rfl) ?_; simp +decide only [retOf, tget, if_true, if_false, ↓reduceIte, List.map_cons, List.map_nil]
      rw [hres]
  by_cases q4 : bt s (k : Int) ≤ 57
  case neg =>
    have hV := hfe (hfin (.inr (.inr ⟨hk3, by unfold isDig; omega⟩)))
    by_cases z0 : k = 0
    · have d0 : decide ((k : Int) = 0) = true := decide_eq_true (by omega)
      rw [if_pos (.inl z0)] at hV
      (try simp +decide (implicitDefEqProofs := false) only [go_sem, ↓stk_g, ↓stk_c, ↓reduceIte, g1, g2, q3, q4, d0])
      refine aret_pure (.inr rfl) ?_; simp +decide only [retOf, tget, if_true, if_false, ↓reduceIte, List.map_cons, List.map_nil]
      unfold begsR; rw [hV]; rfl
    have d0 : decide ((k : Int) = 0) = false := decide_eq_false (by omega)
    have s0 : (0 : Int) < (s.size : Int) := by omega
    by_cases z1 : 1 < k ∧ bt s 0 = 48
    · have d1 : (1 : Int) < (k : Int) := by have := z1.1; omega
      have d2 : decide (bt s 0 = 48) = true := decide_eq_true z1.2
      rw [if_pos (.inr z1)] at hV
      (try simp +decide (implicitDefEqProofs := false) only [go_sem, ↓stk_g, ↓stk_c, ↓reduceIte, g1, g2, q3, q4, d0, d1, d2, s0])
      refine aret_pure (.inr rfl) ?_; simp +decide only [retOf, tget, if_true, if_false, ↓reduceIte, List.map_cons, List.map_nil]
      unfold begsR; rw [hV]; rfl
    rw [if_neg (fun h => h.elim z0 z1)] at hV
    have hgo : ∀ (K : Prop), (¬ 1 < k → K) → (1 < k → bt s 0 ≠ 48 → K) → K := fun K h1 h2 => by
      by_cases h : 1 < k
      · exact h2 h (fun e => z1 ⟨h, e⟩)
      · exact h1 h
    by_cases y1 : k = s.size
    · have f1 : decide ((k : Int) = (s.size : Int)) = true := decide_eq_true (by omega)
      rw [if_pos y1] at hV
      refine hgo _ (fun z2 => ?_) (fun z2 z3 => ?_)
      · have d1 : ¬ (1 : Int) < (k : Int) := by omega
        (try simp +decide (implicitDefEqProofs := false) only [go_sem, ↓stk_g, ↓stk_c, ↓reduceIte, g1, g2, q3, q4, d0, d1, s0, f1])
        refine aret_pure (.inr rfl) ?_; simp +decide only [retOf, tget, if_true, if_false, ↓reduceIte, List.map_cons, List.map_nil]
        unfold begsR; rw [hV]; rfl
      · have d1 : (1 : Int) < (k : Int) := by omega
        have d2 : decide (bt s 0 = 48) = false := decide_eq_false z3
        (try simp +decide (implicitDefEqProofs := false) only [go_sem, ↓stk_g, ↓stk_c, ↓reduceIte, g1, g2, q3, q4, d0, d1, d2, s0, f1])
        refine aret_pure (.inr rfl) ?_; simp +decide only [retOf, tget, if_true, if_false, ↓reduceIte, List.map_cons, List.map_nil]
        unfold begsR; rw [hV]; rfl
    have f1 : decide ((k : Int) = (s.size : Int)) = false := decide_eq_false (by omega)
    have f0 : (k : Int) < (s.size : Int) := by omega
    rw [if_neg y1] at hV
    by_cases y2 : bt s (k : Int) = 58
    case neg =>
      have f2 : decide (bt s (k : Int) = 58) = false := decide_eq_false y2
      rw [if_pos y2] at hV
      refine hgo _ (fun z2 => ?_) (fun z2 z3 => ?_)
      · have d1 : ¬ (1 : Int) < (k : Int) := by omega
        (try simp +decide (implicitDefEqProofs := false) only [go_sem, ↓stk_g, ↓stk_c, ↓reduceIte, g1, g2, q3, q4, d0, d1, s0, f1, f0, e4, f2])
        refine aret_pure (.inr rfl) ?_; simp +decide only [retOf, tget, if_true, if_false, ↓reduceIte, List.map_cons, List.map_nil]
        unfold begsR; rw [hV]; rfl
      · have d1 : (1 : Int) < (k : Int) := by omega
        have d2 : decide (bt s 0 = 48) = false := decide_eq_false z3
        (try simp +decide (implicitDefEqProofs := false) only [go_sem, ↓stk_g, ↓stk_c, ↓reduceIte, g1, g2, q3, q4, d0, d1, d2, s0, f1, f0, e4, f2])
        refine aret_pure (.inr rfl) ?_; simp +decide only [retOf, tget, if_true, if_false, ↓reduceIte, List.map_cons, List.map_nil]
        unfold begsR; rw [hV]; rfl
    have f2 : decide (bt s (k : Int) = 58) = true := decide_eq_true y2
    rw [if_neg (fun h => h y2)] at hV
    have w5 := wrap_in (n := (s.size : Int) - (k : Int)) (by omega) (by omega)
    have w6 := wrap_in (n := (s.size : Int) - (k : Int) - 1) (by omega) (by omega)
    have hres : begsR s = decide ((s.size : Int) - (k : Int) - 1 ≤ (n : Int)) := by
      unfold begsR
      by_cases y3 : s.size ≤ k + 1 + n
      · rw [if_pos y3] at hV
        rw [hV, decide_eq_true (p := (s.size : Int) - (k : Int) - 1 ≤ (n : Int)) (by omega)]; rfl
      · rw [if_neg y3] at hV
        rw [hV, decide_eq_false (p := (s.size : Int) - (k : Int) - 1 ≤ (n : Int)) (by omega)]
        split <;> rfl
    refine hgo _ (fun z2 => ?_) (fun z2 z3 => ?_)
    · have d1 : ¬ (1 : Int) < (k : Int) := by omega
      (try simp +decide (implicitDefEqProofs := false) only [go_sem, ↓stk_g, ↓stk_c, ↓reduceIte, g1, g2, q3, q4, d0, d1, s0, f1, f0, e4, f2, w5, w6])
      refine aret_pure (.inr rfl) ?_; simp +decide only [retOf, tget, if_true, if_false, ↓reduceIte, List.map_cons, List.map_nil]
      rw [hres]
    · have d1 : (1 : Int) < (k : Int) := by omega
      have d2 : decide (bt s 0 = 48) = false := decide_eq_false z3
      (try simp +decide (implicitDefEqProofs := false) only [go_sem, ↓stk_g, ↓stk_c, ↓reduceIte, g1, g2, q3, q4, d0, d1, d2, s0, f1, f0, e4, f2, w5, w6])
      refine aret_pure (.inr rfl) ?_; simp +decide only [retOf, tget, if_true, if_false, ↓reduceIte, List.map_cons, List.map_nil]
      rw [hres]
  have hx := hb
  generalize hxx : (bl s)[k] = x at hx
  have hlast : (bl s).take (k + 1) = (bl s).take k ++ [x] := by rw [List.take_succ_eq_append_getElem hk3, hxx]
  have w1 := wrap_in (n := (n : Int) * 10) (by omega) (by omega)
  have v1 := u8_in (n := bt s (k : Int) - 48) (by omega) (by omega)
  have v2 := wrap_in (n := bt s (k : Int) - 48) (by omega) (by omega)
  have w2 := wrap_in (n := (n : Int) * 10 + (bt s (k : Int) - 48)) (by omega) (by omega)
  have hc : (n : Int) * 10 + (bt s (k : Int) - 48) = ((n * 10 + (x.toNat - 48) : Nat) : Int) := by omega
  (try simp +decide (implicitDefEqProofs := false) only [go_sem, ↓stk_g, ↓stk_c, ↓reduceIte, g1, g2, q3, q4, w1, v1, v2, w2, hw])
  rw [hc]
  refine ⟨by omega, n * 10 + (x.toNat - 48), Weak.list _ (Sub.refl _) (by (try simp +decide (implicitDefEqProofs := false) only [go_sem, ↓stk_g, ↓stk_c, ↓reduceIte])), by omega, fun j hj h => ?_, by rw [hlast, dval_snoc, ← hnn]⟩
  by_cases e : j = k
  · subst e; rw [hxx]; unfold isDig; omega
  · exact hdig j hj (by omega)
theorem fieldsR_bad {n : Nat} {s : Str} (hs : s ≠ ByteArray.empty) (h : (fieldV s).2.2 ≠ 0) : fieldsR (n + 1) s = ([], s) := by
  unfold fieldsR; rw [if_neg hs, if_pos h]
theorem fieldsR_good {n : Nat} {s : Str} (hs : s ≠ ByteArray.empty) (h : (fieldV s).2.2 = 0) : fieldsR (n + 1) s = ((fieldV s).1 :: (fieldsR n (fieldV s).2.1).1, (fieldsR n (fieldV s).2.1).2) := by
  rw [fieldsR, if_neg hs, if_neg (fun k => k h)]
def c_fields : AFn := ⟨1, 95, [2, 3],
  .seq (.ops [⟨(some 2), none, .q (.mv (.const (.slice none 0 0)))⟩,
      ⟨(some 3), none, .q (.mv (.const (.string ByteArray.empty)))⟩])
  (.seq (.ops [⟨(some 4), none, .q (.mv (.const (.slice none 0 0)))⟩])
  (.seq (.block 0 (.loop (.seq (.seq (.ops [⟨(some 7), none, .q (.mv (.tmp 0))⟩,
          ⟨(some 8), none, .q (.len true (.tmp 7))⟩,
          ⟨(some 9), none, .q (.bin .gtr .num (.tmp 8) (.const (.int .i64 0)))⟩])
      (.cond (.tmp 9)
        (.skip)
        (.exit 0)))
      (.block 1 (.seq (.ops [⟨(some 5), none, .q (.mv (.const (.int .i64 0)))⟩])
        (.seq (.ops [⟨(some 6), none, .q (.mv (.const (.int .i64 0)))⟩])
        (.seq (.block 2 (.loop (.seq (.seq (.ops [⟨(some 10), none, .q (.mv (.tmp 6))⟩,
                ⟨(some 11), none, .q (.mv (.tmp 0))⟩,
                ⟨(some 12), none, .q (.len true (.tmp 11))⟩,
                ⟨(some 13), none, .q (.bin .lss .num (.tmp 10) (.tmp 12))⟩,
                ⟨(some 14), none, .q (.mv (.tmp 13))⟩,
                ⟨(some 15), (some (14, true)), .q (.mv (.tmp 6))⟩,
                ⟨(some 16), (some (14, true)), .q (.bin .lss .num (.tmp 15) (.const (.int .i64 6)))⟩,
                ⟨(some 17), none, .q (.pick (.tmp 14) (.tmp 16) (.const (.bool false)))⟩,
                ⟨(some 18), none, .q (.mv (.tmp 17))⟩,
                ⟨(some 19), (some (18, true)), .q (.mv (.tmp 0))⟩,
                ⟨(some 20), (some (18, true)), .q (.mv (.tmp 6))⟩,
                ⟨(some 21), (some (18, true)), .q (.six (.tmp 19) (.tmp 20))⟩,
                ⟨(some 22), (some (18, true)), .q (.bin .geq .num (.tmp 21) (.const (.int .u8 48)))⟩,
                ⟨(some 23), none, .q (.pick (.tmp 18) (.tmp 22) (.const (.bool false)))⟩,
                ⟨(some 24), none, .q (.mv (.tmp 23))⟩,
                ⟨(some 25), (some (24, true)), .q (.mv (.tmp 0))⟩,
                ⟨(some 26), (some (24, true)), .q (.mv (.tmp 6))⟩,
                ⟨(some 27), (some (24, true)), .q (.six (.tmp 25) (.tmp 26))⟩,
                ⟨(some 28), (some (24, true)), .q (.bin .leq .num (.tmp 27) (.const (.int .u8 57)))⟩,
                ⟨(some 29), none, .q (.pick (.tmp 24) (.tmp 28) (.const (.bool false)))⟩])
            (.cond (.tmp 29)
              (.skip)
              (.exit 2)))
            (.block 3 (.seq (.ops [⟨(some 30), none, .q (.mv (.tmp 5))⟩,
                  ⟨(some 31), none, .q (.bin .mul .num (.tmp 30) (.const (.int .i64 10)))⟩,
                  ⟨(some 32), none, .q (.mv (.tmp 0))⟩,
                  ⟨(some 33), none, .q (.mv (.tmp 6))⟩,
                  ⟨(some 34), none, .q (.six (.tmp 32) (.tmp 33))⟩,
                  ⟨(some 35), none, .q (.bin .sub .num (.tmp 34) (.const (.int .u8 48)))⟩,
                  ⟨(some 36), none, .q (.cv (.int .i64) (.tmp 35))⟩,
                  ⟨(some 37), none, .q (.bin .add .num (.tmp 31) (.tmp 36))⟩,
                  ⟨(some 5), none, .q (.mv (.tmp 37))⟩])
              (.ops [⟨(some 38), none, .q (.mv (.tmp 6))⟩,
                  ⟨(some 39), none, .q (.bin .add .num (.tmp 38) (.const (.int .i64 1)))⟩,
                  ⟨(some 6), none, .q (.mv (.tmp 39))⟩]))))))
        (.seq (.seq (.ops [⟨(some 40), none, .q (.mv (.tmp 6))⟩,
            ⟨(some 41), none, .q (.bin .eql .num (.tmp 40) (.const (.int .i64 0)))⟩,
            ⟨(some 42), none, .q (.mv (.tmp 41))⟩,
            ⟨(some 43), (some (42, false)), .q (.mv (.tmp 6))⟩,
            ⟨(some 44), (some (42, false)), .q (.bin .gtr .num (.tmp 43) (.const (.int .i64 1)))⟩,
            ⟨(some 45), (some (42, false)), .q (.mv (.tmp 44))⟩,
            ⟨(some 46), (some (45, true)), .q (.mv (.tmp 0))⟩,
            ⟨(some 47), (some (45, true)), .q (.six (.tmp 46) (.const (.int .i64 0)))⟩,
            ⟨(some 48), (some (45, true)), .q (.bin .eql .num (.tmp 47) (.const (.int .u8 48)))⟩,
            ⟨(some 49), (some (42, false)), .q (.pick (.tmp 45) (.tmp 48) (.const (.bool false)))⟩,
            ⟨(some 50), none, .q (.pick (.tmp 42) (.const (.bool true)) (.tmp 49))⟩,
            ⟨(some 51), none, .q (.mv (.tmp 50))⟩,
            ⟨(some 52), (some (51, false)), .q (.mv (.tmp 6))⟩,
            ⟨(some 53), (some (51, false)), .q (.bin .add .num (.tmp 52) (.const (.int .i64 1)))⟩,
            ⟨(some 54), (some (51, false)), .q (.mv (.tmp 5))⟩,
            ⟨(some 55), (some (51, false)), .q (.bin .add .num (.tmp 53) (.tmp 54))⟩,
            ⟨(some 56), (some (51, false)), .q (.mv (.tmp 0))⟩,
            ⟨(some 57), (some (51, false)), .q (.len true (.tmp 56))⟩,
            ⟨(some 58), (some (51, false)), .q (.bin .geq .num (.tmp 55) (.tmp 57))⟩,
            ⟨(some 59), none, .q (.pick (.tmp 51) (.const (.bool true)) (.tmp 58))⟩,
            ⟨(some 60), none, .q (.mv (.tmp 59))⟩,
            ⟨(some 61), (some (60, false)), .q (.mv (.tmp 0))⟩,
            ⟨(some 62), (some (60, false)), .q (.mv (.tmp 6))⟩,
            ⟨(some 63), (some (60, false)), .q (.six (.tmp 61) (.tmp 62))⟩,
            ⟨(some 64), (some (60, false)), .q (.bin .neq .num (.tmp 63) (.const (.int .u8 58)))⟩,
            ⟨(some 65), none, .q (.pick (.tmp 60) (.const (.bool true)) (.tmp 64))⟩,
            ⟨(some 66), none, .q (.mv (.tmp 65))⟩,
            ⟨(some 67), (some (66, false)), .q (.mv (.tmp 0))⟩,
            ⟨(some 68), (some (66, false)), .q (.mv (.tmp 6))⟩,
            ⟨(some 69), (some (66, false)), .q (.bin .add .num (.tmp 68) (.const (.int .i64 1)))⟩,
            ⟨(some 70), (some (66, false)), .q (.mv (.tmp 5))⟩,
            ⟨(some 71), (some (66, false)), .q (.bin .add .num (.tmp 69) (.tmp 70))⟩,
            ⟨(some 72), (some (66, false)), .q (.six (.tmp 67) (.tmp 71))⟩,
            ⟨(some 73), (some (66, false)), .q (.bin .neq .num (.tmp 72) (.const (.int .u8 44)))⟩,
            ⟨(some 74), none, .q (.pick (.tmp 66) (.const (.bool true)) (.tmp 73))⟩])
        (.cond (.tmp 74)
          (.seq (.ops [⟨(some 75), none, .q (.mv (.tmp 4))⟩,
              ⟨(some 76), none, .q (.mv (.tmp 0))⟩,
              ⟨(some 2), none, .q (.mv (.tmp 75))⟩,
              ⟨(some 3), none, .q (.mv (.tmp 76))⟩])
          (.ret))
          (.skip)))
        (.seq (.ops [⟨(some 77), none, .q (.mv (.tmp 4))⟩,
            ⟨(some 78), none, .q (.mv (.tmp 0))⟩,
            ⟨(some 79), none, .q (.mv (.tmp 6))⟩,
            ⟨(some 80), none, .q (.bin .add .num (.tmp 79) (.const (.int .i64 1)))⟩,
            ⟨(some 81), none, .q (.mv (.tmp 6))⟩,
            ⟨(some 82), none, .q (.bin .add .num (.tmp 81) (.const (.int .i64 1)))⟩,
            ⟨(some 83), none, .q (.mv (.tmp 5))⟩,
            ⟨(some 84), none, .q (.bin .add .num (.tmp 82) (.tmp 83))⟩,
            ⟨(some 85), none, .q (.ssl (.tmp 78) (some (.tmp 80)) (some (.tmp 84)))⟩,
            ⟨(some 86), none, .e (.bsl 9 1 [(.tmp 85)])⟩,
            ⟨(some 87), none, .e (.app 9 1 16 false (.tmp 77) (.tmp 86))⟩,
            ⟨(some 4), none, .q (.mv (.tmp 87))⟩])
        (.ops [⟨(some 88), none, .q (.mv (.tmp 0))⟩,
            ⟨(some 89), none, .q (.mv (.tmp 6))⟩,
            ⟨(some 90), none, .q (.bin .add .num (.tmp 89) (.const (.int .i64 2)))⟩,
            ⟨(some 91), none, .q (.mv (.tmp 5))⟩,
            ⟨(some 92), none, .q (.bin .add .num (.tmp 90) (.tmp 91))⟩,
            ⟨(some 93), none, .q (.ssl (.tmp 88) (some (.tmp 92)) none)⟩,
            ⟨(some 0), none, .q (.mv (.tmp 93))⟩]))))))))))
  (.seq (.ops [⟨(some 94), none, .q (.mv (.tmp 4))⟩,
      ⟨(some 2), none, .q (.mv (.tmp 94))⟩,
      ⟨(some 3), none, .q (.mv (.const (.string ByteArray.empty)))⟩])
  (.ret)))), []⟩
theorem k_fields : compF Tryz.prog 30 = some c_fields := by kernel_rfl
set_option maxHeartbeats 16000000 in
theorem fields_ok {W : World} (s : Str) (hs : s.size ≤ 1000000) : ACalls Tryz.prog W 30 [.v (.string s)] AHeap.none fun v _ => v = .tup [.sl false 1 (strRows (fieldsR s.size s).1), .v (.string (fieldsR s.size s).2)] := by
  refine fn_run follows k_fields rfl ?_
  simp only [c_fields, aretC_nil, List.zipIdx_cons, List.zipIdx_nil, List.map_cons, List.map_nil, Nat.zero_add]
  (try simp +decide (implicitDefEqProofs := false) only [go_sem, ↓stk_g, ↓stk_c, ↓reduceIte])
  refine stk_up (α := List Str × Str × AVal × AHeap) s.size (fun i a => ⟨[(0, .v (.string a.2.1)), (4, a.2.2.1)], a.2.2.2⟩)
    (fun i a => (a.1.length ≤ i ∧ a.2.1.size + i ≤ s.size ∧ RowO a.2.2.2 9 1 a.2.2.1 (strRows a.1)) ∧ ∃ n, a.2.1.size ≤ n ∧ fieldsR s.size s = (a.1 ++ (fieldsR n a.2.1).1, (fieldsR n a.2.1).2))
    ([], s, nilS, AHeap.none) (Weak.list _ (Sub.refl _) (by (try simp +decide (implicitDefEqProofs := false) only [go_sem, ↓stk_g, ↓stk_c, ↓reduceIte]))) ⟨⟨Nat.le_refl _, Nat.le_refl _, .nil⟩, s.size, Nat.le_refl _, rfl⟩ ?_
  rintro i ⟨out, left, x, H⟩ hi ⟨⟨hJ1, hJ2, hrow⟩, N, hJ5, hJ6⟩
  dsimp only at hJ1 hJ2 hrow hJ5 hJ6 ⊢
  by_cases hne : left = ByteArray.empty
  · subst hne
    have g0 : ¬ (0 : Int) < ((ByteArray.empty : ByteArray).size : Int) := by decide
    (try simp +decide (implicitDefEqProofs := false) only [go_sem, ↓stk_g, ↓stk_c, ↓reduceIte, g0])
    exact ⟨.inr rfl, AHeap.none, _, Sub.none _, .tup2 (hrow.row.fz (strGood out) (fun _ _ => rfl)) (.refl _), by rw [hJ6, fieldsR_nil]; simp [tget]⟩
  have hpos := size_pos hne
  have g0 : (0 : Int) < (left.size : Int) := by omega
  obtain ⟨n0, rfl⟩ : ∃ n0, N = n0 + 1 := ⟨N - 1, by omega⟩
  have hbad := fieldsR_bad (n := n0) hne
  have hgood := fieldsR_good (n := n0) hne
  (try simp +decide (implicitDefEqProofs := false) only [go_sem, ↓stk_g, ↓stk_c, ↓reduceIte, g0])
  refine stk_up (α := Nat) 6 (fun i n => ⟨[(6, .v (.int .i64 i)), (5, .v (.int .i64 n)), (0, .v (.string left)), (4, x)], H⟩) (fun i n => i ≤ left.size ∧ (∀ j (hj : j < (bl left).length), j < i → isDig (bl left)[j]) ∧ n = dval 0 ((bl left).take i)) 0 (Weak.list _ (Sub.refl _) ?_) ⟨Nat.zero_le _, fun j hj h => by omega, rfl⟩ ?_
  · (try simp +decide (implicitDefEqProofs := false) only [go_sem, ↓stk_g, ↓stk_c, ↓reduceIte])
    first | done | exact FZ.refl _ | exact ⟨FZ.refl _, FZ.refl _⟩
  rintro k n hk ⟨hk2, hdig, hnn⟩
  have hbl := bl_len left
  have hfin : ∀ (h4 : k = (bl left).length ∨ k = 6 ∨ ∃ hk : k < (bl left).length, ¬ isDig (bl left)[k]), digK (bl left) = k := fun h4 => digK_at (by omega) hk hdig h4
  have hdt : ∀ c ∈ (bl left).take k, isDig c := fun c hc => by
    obtain ⟨j, hj, rfl⟩ := List.getElem_of_mem hc
    rw [List.length_take] at hj
    rw [List.getElem_take]
    exact hdig j (by omega) (by omega)
  have hn6 : n + 1 ≤ 1000000 := by
    have h1 := dval_lt ((bl left).take k) 0 hdt
    have h2 : 10 ^ ((bl left).take k).length ≤ 10 ^ 6 := Nat.pow_le_pow_right (by omega) (by rw [List.length_take]; omega)
    omega
  have hke := fieldK_eq left hk2
  rw [← hnn] at hke
  have hfe : digK (bl left) = k → fieldV left = _ := fun h => (show fieldV left = fieldK left k by unfold fieldV; rw [h]).trans hke
  clear hke
  have hw := wrap_in (n := (k : Int) + 1) (by omega) (by omega)
  have e4 : (0 : Int) ≤ (k : Int) := by omega
  by_cases q1 : k < left.size
  case neg =>
    have g1 : ¬ (k : Int) < (left.size : Int) := by omega
    have hV := hfe (hfin (.inl (by omega)))
    by_cases z0 : k = 0
    · have d0 : decide ((k : Int) = 0) = true := decide_eq_true (by omega)
      rw [if_pos (.inl z0)] at hV
      (try simp +decide (implicitDefEqProofs := false) only [go_sem, ↓stk_g, ↓stk_c, ↓reduceIte, g1, d0])
      exact ⟨.inr rfl, AHeap.none, _, Sub.none _, .tup2 (hrow.row.fz (strGood out) (fun _ _ => rfl)) (.refl _), by rw [hJ6, hbad (by rw [hV]; decide)]; simp [tget]⟩
    have d0 : decide ((k : Int) = 0) = false := decide_eq_false (by omega)
    have s0 : (0 : Int) < (left.size : Int) := by omega
    by_cases z1 : 1 < k ∧ bt left 0 = 48
    · have d1 : (1 : Int) < (k : Int) := by have := z1.1; omega
      have d2 : decide (bt left 0 = 48) = true := decide_eq_true z1.2
      rw [if_pos (.inr z1)] at hV
      (try simp +decide (implicitDefEqProofs := false) only [go_sem, ↓stk_g, ↓stk_c, ↓reduceIte, g1, d0, d1, d2, s0])
      exact ⟨.inr rfl, AHeap.none, _, Sub.none _, .tup2 (hrow.row.fz (strGood out) (fun _ _ => rfl)) (.refl _), by rw [hJ6, hbad (by rw [hV]; decide)]; simp [tget]⟩
    rw [if_neg (fun h => h.elim z0 z1)] at hV
    have hgo : ∀ (K : Prop), (¬ 1 < k → K) → (1 < k → bt left 0 ≠ 48 → K) → K := fun K h1 h2 => by
      by_cases h : 1 < k
      · exact h2 h (fun e => z1 ⟨h, e⟩)
      · exact h1 h
    have w5 := wrap_in (n := (k : Int) + 1 + (n : Int)) (by omega) (by omega)
    have w6 := wrap_in (n := (k : Int) + 2) (by omega) (by omega)
    have w7 := wrap_in (n := (k : Int) + 2 + (n : Int)) (by omega) (by omega)
    by_cases y1 : left.size ≤ k + 1 + n
    · have f1 : (left.size : Int) ≤ (k : Int) + 1 + (n : Int) := by omega
      have hbad2 : (fieldV left).2.2 ≠ 0 := by
        rw [hV]
        by_cases u1 : k = left.size
        · rw [if_pos u1]; decide
        rw [if_neg u1]
        by_cases u2 : bt left (k : Int) ≠ 58
        · rw [if_pos u2]; decide
        rw [if_neg u2, if_pos y1]; decide
      refine hgo _ (fun z2 => ?_) (fun z2 z3 => ?_)
      · have d1 : ¬ (1 : Int) < (k : Int) := by omega
        (try simp +decide (implicitDefEqProofs := false) only [go_sem, ↓stk_g, ↓stk_c, ↓reduceIte, g1, d0, d1, s0, hw, w5, f1])
        exact ⟨.inr rfl, AHeap.none, _, Sub.none _, .tup2 (hrow.row.fz (strGood out) (fun _ _ => rfl)) (.refl _), by rw [hJ6, hbad hbad2]; simp [tget]⟩
      · have d1 : (1 : Int) < (k : Int) := by omega
        have d2 : decide (bt left 0 = 48) = false := decide_eq_false z3
        (try simp +decide (implicitDefEqProofs := false) only [go_sem, ↓stk_g, ↓stk_c, ↓reduceIte, g1, d0, d1, d2, s0, hw, w5, f1])
        exact ⟨.inr rfl, AHeap.none, _, Sub.none _, .tup2 (hrow.row.fz (strGood out) (fun _ _ => rfl)) (.refl _), by rw [hJ6, hbad hbad2]; simp [tget]⟩
    exact absurd (by omega) y1
  have g1 : (k : Int) < (left.size : Int) := by omega
  have hk3 : k < (bl left).length := by omega
  have hb := bt_get hk3
  by_cases q2 : k < 6
  case neg =>
    have g2 : ¬ (k : Int) < 6 := by omega
    have hV := hfe (hfin (.inr (.inl (by omega))))
    by_cases z0 : k = 0
    · have d0 : decide ((k : Int) = 0) = true := decide_eq_true (by omega)
      rw [if_pos (.inl z0)] at hV
      (try simp +decide (implicitDefEqProofs := false) only [go_sem, ↓stk_g, ↓stk_c, ↓reduceIte, g1, g2, d0])
      exact ⟨.inr rfl, AHeap.none, _, Sub.none _, .tup2 (hrow.row.fz (strGood out) (fun _ _ => rfl)) (.refl _), by rw [hJ6, hbad (by rw [hV]; decide)]; simp [tget]⟩
    have d0 : decide ((k : Int) = 0) = false := decide_eq_false (by omega)
    have s0 : (0 : Int) < (left.size : Int) := by omega
    by_cases z1 : 1 < k ∧ bt left 0 = 48
    · have d1 : (1 : Int) < (k : Int) := by have := z1.1; omega
      have d2 : decide (bt left 0 = 48) = true := decide_eq_true z1.2
      rw [if_pos (.inr z1)] at hV
      (try simp +decide (implicitDefEqProofs := false) only [go_sem, ↓stk_g, ↓stk_c, ↓reduceIte, g1, g2, d0, d1, d2, s0])
      exact ⟨.inr rfl, AHeap.none, _, Sub.none _, .tup2 (hrow.row.fz (strGood out) (fun _ _ => rfl)) (.refl _), by rw [hJ6, hbad (by rw [hV]; decide)]; simp [tget]⟩
    rw [if_neg (fun h => h.elim z0 z1)] at hV
    have hgo : ∀ (K : Prop), (¬ 1 < k → K) → (1 < k → bt left 0 ≠ 48 → K) → K := fun K h1 h2 => by
      by_cases h : 1 < k
      · exact h2 h (fun e => z1 ⟨h, e⟩)
      · exact h1 h
    have w5 := wrap_in (n := (k : Int) + 1 + (n : Int)) (by omega) (by omega)
    have w6 := wrap_in (n := (k : Int) + 2) (by omega) (by omega)
    have w7 := wrap_in (n := (k : Int) + 2 + (n : Int)) (by omega) (by omega)
    by_cases y1 : left.size ≤ k + 1 + n
    · have f1 : (left.size : Int) ≤ (k : Int) + 1 + (n : Int) := by omega
      have hbad2 : (fieldV left).2.2 ≠ 0 := by
        rw [hV]
        by_cases u1 : k = left.size
        · rw [if_pos u1]; decide
        rw [if_neg u1]
        by_cases u2 : bt left (k : Int) ≠ 58
        · rw [if_pos u2]; decide
        rw [if_neg u2, if_pos y1]; decide
      refine hgo _ (fun z2 => ?_) (fun z2 z3 => ?_)
      · have d1 : ¬ (1 : Int) < (k : Int) := by omega
        (try simp +decide (implicitDefEqProofs := false) only [go_sem, ↓stk_g, ↓stk_c, ↓reduceIte, g1, g2, d0, d1, s0, hw, w5, f1])
        exact ⟨.inr rfl, AHeap.none, _, Sub.none _, .tup2 (hrow.row.fz (strGood out) (fun _ _ => rfl)) (.refl _), by rw [hJ6, hbad hbad2]; simp [tget]⟩
      · have d1 : (1 : Int) < (k : Int) := by omega
        have d2 : decide (bt left 0 = 48) = false := decide_eq_false z3
        (try simp +decide (implicitDefEqProofs := false) only [go_sem, ↓stk_g, ↓stk_c, ↓reduceIte, g1, g2, d0, d1, d2, s0, hw, w5, f1])
        exact ⟨.inr rfl, AHeap.none, _, Sub.none _, .tup2 (hrow.row.fz (strGood out) (fun _ _ => rfl)) (.refl _), by rw [hJ6, hbad hbad2]; simp [tget]⟩
    have f1 : ¬ (left.size : Int) ≤ (k : Int) + 1 + (n : Int) := by omega
    have f0 : (k : Int) < (left.size : Int) := by omega
    rw [if_neg (by omega)] at hV
    by_cases y2 : bt left (k : Int) = 58
    case neg =>
      have f2 : decide (bt left (k : Int) ≠ 58) = true := decide_eq_true y2
      rw [if_pos y2] at hV
      refine hgo _ (fun z2 => ?_) (fun z2 z3 => ?_)
      · have d1 : ¬ (1 : Int) < (k : Int) := by omega
        (try simp +decide (implicitDefEqProofs := false) only [go_sem, ↓stk_g, ↓stk_c, ↓reduceIte, g1, g2, d0, d1, s0, hw, w5, f1, f0, e4, f2])
        exact ⟨.inr rfl, AHeap.none, _, Sub.none _, .tup2 (hrow.row.fz (strGood out) (fun _ _ => rfl)) (.refl _), by rw [hJ6, hbad (by rw [hV]; decide)]; simp [tget]⟩
      · have d1 : (1 : Int) < (k : Int) := by omega
        have d2 : decide (bt left 0 = 48) = false := decide_eq_false z3
        (try simp +decide (implicitDefEqProofs := false) only [go_sem, ↓stk_g, ↓stk_c, ↓reduceIte, g1, g2, d0, d1, d2, s0, hw, w5, f1, f0, e4, f2])
        exact ⟨.inr rfl, AHeap.none, _, Sub.none _, .tup2 (hrow.row.fz (strGood out) (fun _ _ => rfl)) (.refl _), by rw [hJ6, hbad (by rw [hV]; decide)]; simp [tget]⟩
    have f2 : decide (bt left (k : Int) ≠ 58) = false := decide_eq_false (fun h => h y2)
    rw [if_neg (fun h => h y2), if_neg y1] at hV
    have f3 : (0 : Int) ≤ (k : Int) + 1 + (n : Int) := by omega
    have f4 : (k : Int) + 1 + (n : Int) < (left.size : Int) := by omega
    have hcast : ((k + 1 + n : Nat) : Int) = (k : Int) + 1 + (n : Int) := by omega
    have hcast2 : ((k + 2 + n : Nat) : Int) = (k : Int) + 2 + (n : Int) := by omega
    have hcast3 : ((k + 1 : Nat) : Int) = (k : Int) + 1 := by omega
    rw [hcast, hcast2, hcast3] at hV
    by_cases y3 : bt left ((k : Int) + 1 + (n : Int)) = 44
    case neg =>
      have f5 : decide (bt left ((k : Int) + 1 + (n : Int)) ≠ 44) = true := decide_eq_true y3
      rw [if_pos y3] at hV
      refine hgo _ (fun z2 => ?_) (fun z2 z3 => ?_)
      · have d1 : ¬ (1 : Int) < (k : Int) := by omega
        (try simp +decide (implicitDefEqProofs := false) only [go_sem, ↓stk_g, ↓stk_c, ↓reduceIte, g1, g2, d0, d1, s0, hw, w5, f1, f0, e4, f2, f3, f4, f5])
        exact ⟨.inr rfl, AHeap.none, _, Sub.none _, .tup2 (hrow.row.fz (strGood out) (fun _ _ => rfl)) (.refl _), by rw [hJ6, hbad (by rw [hV]; decide)]; simp [tget]⟩
      · have d1 : (1 : Int) < (k : Int) := by omega
        have d2 : decide (bt left 0 = 48) = false := decide_eq_false z3
        (try simp +decide (implicitDefEqProofs := false) only [go_sem, ↓stk_g, ↓stk_c, ↓reduceIte, g1, g2, d0, d1, d2, s0, hw, w5, f1, f0, e4, f2, f3, f4, f5])
        exact ⟨.inr rfl, AHeap.none, _, Sub.none _, .tup2 (hrow.row.fz (strGood out) (fun _ _ => rfl)) (.refl _), by rw [hJ6, hbad (by rw [hV]; decide)]; simp [tget]⟩
    have f5 : decide (bt left ((k : Int) + 1 + (n : Int)) ≠ 44) = false := decide_eq_false (fun h => h y3)
    rw [if_neg (fun h => h y3)] at hV
    have f6 : (0 : Int) ≤ (k : Int) + 1 := by omega
    have f7 : (k : Int) + 1 ≤ (k : Int) + 1 + (n : Int) := by omega
    have f8 : (k : Int) + 1 + (n : Int) ≤ (left.size : Int) := by omega
    have f9 : (0 : Int) ≤ (k : Int) + 2 + (n : Int) := by omega
    have f10 : (k : Int) + 2 + (n : Int) ≤ (left.size : Int) := by omega
    have he0 : (fieldV left).2.2 = 0 := by rw [hV]
    have hgood2 := hgood he0
    obtain ⟨zz1, zz2⟩ := fieldV_size he0
    rw [hV] at hgood2 zz1 zz2
    dsimp only at hgood2 zz1 zz2
    generalize hff : cutS left ((k : Int) + 1) ((k : Int) + 1 + (n : Int)) = ff at hgood2 zz1
    generalize hrr : cutS left ((k : Int) + 2 + (n : Int)) (left.size : Int) = rr at hgood2 zz2
    refine hgo _ (fun z2 => ?_) (fun z2 z3 => ?_)
    · have d1 : ¬ (1 : Int) < (k : Int) := by omega
      (try simp +decide (implicitDefEqProofs := false) only [go_sem, ↓stk_g, ↓stk_c, ↓reduceIte, g1, g2, d0, d1, s0, hw, w5, f1, f0, e4, f2, f3, f4, f5, f6, f7, f8, w6, w7, f9, f10, Int.le_refl, hff, hrr])
      refine stk_appO (new := strRows [ff]) hrow (by rfl) (by simp only [strRows_len, List.length_cons, List.length_nil]; omega) fun y H2 hy _ => ?_
      (try simp +decide (implicitDefEqProofs := false) only [go_sem, ↓stk_g, ↓stk_c, ↓reduceIte, hw, w6, w7, f9, f10, Int.le_refl, hrr])
      refine ⟨by omega, (out ++ [ff], rr, y, H2), Weak.list _ (Sub.refl _) (by (try simp +decide (implicitDefEqProofs := false) only [go_sem, ↓stk_g, ↓stk_c, ↓reduceIte])), ⟨by simp; omega, by dsimp only; omega, by simpa only [strRows_append] using hy⟩, n0, by dsimp only; omega, ?_⟩
      rw [hJ6, hgood2]
      simp
    · have d1 : (1 : Int) < (k : Int) := by omega
      have d2 : decide (bt left 0 = 48) = false := decide_eq_false z3
      (try simp +decide (implicitDefEqProofs := false) only [go_sem, ↓stk_g, ↓stk_c, ↓reduceIte, g1, g2, d0, d1, d2, s0, hw, w5, f1, f0, e4, f2, f3, f4, f5, f6, f7, f8, w6, w7, f9, f10, Int.le_refl, hff, hrr])
      refine stk_appO (new := strRows [ff]) hrow (by rfl) (by simp only [strRows_len, List.length_cons, List.length_nil]; omega) fun y H2 hy _ => ?_
      (try simp +decide (implicitDefEqProofs := false) only [go_sem, ↓stk_g, ↓stk_c, ↓reduceIte, hw, w6, w7, f9, f10, Int.le_refl, hrr])
      refine ⟨by omega, (out ++ [ff], rr, y, H2), Weak.list _ (Sub.refl _) (by (try simp +decide (implicitDefEqProofs := false) only [go_sem, ↓stk_g, ↓stk_c, ↓reduceIte])), ⟨by simp; omega, by dsimp only; omega, by simpa only [strRows_append] using hy⟩, n0, by dsimp only; omega, ?_⟩
      rw [hJ6, hgood2]
      simp
  have g2 : (k : Int) < 6 := by omega
  by_cases q3 : 48 ≤ bt left (k : Int)
  case neg =>
    have hV := hfe (hfin (.inr (.inr ⟨hk3, by unfold isDig; omega⟩)))
    by_cases z0 : k = 0
    · have d0 : decide ((k : Int) = 0) = true := decide_eq_true (by omega)
      rw [if_pos (.inl z0)] at hV
      (try simp +decide (implicitDefEqProofs := false) only [go_sem, ↓stk_g, ↓stk_c, ↓reduceIte, g1, g2, q3, d0])
      exact ⟨.inr rfl, AHeap.none, _, Sub.none _, .tup2 (hrow.row.fz (strGood out) (fun _ _ => rfl)) (.refl _), by rw [hJ6, hbad (by rw [hV]; decide)]; simp [tget]⟩
    have d0 : decide ((k : Int) = 0) = false := decide_eq_false (by omega)
    have s0 : (0 : Int) < (left.size : Int) := by omega
    by_cases z1 : 1 < k ∧ bt left 0 = 48
    · have d1 : (1 : Int) < (k : Int) := by have := z1.1; omega
      have d2 : decide (bt left 0 = 48) = true := decide_eq_true z1.2
      rw [if_pos (.inr z1)] at hV
      (try simp +decide (implicitDefEqProofs := false) only [go_sem, ↓stk_g, ↓stk_c, ↓reduceIte, g1, g2, q3, d0, d1, d2, s0])
      exact ⟨.inr rfl, AHeap.none, _, Sub.none _, .tup2 (hrow.row.fz (strGood out) (fun _ _ => rfl)) (.refl _), by rw [hJ6, hbad (by rw [hV]; decide)]; simp [tget]⟩
    rw [if_neg (fun h => h.elim z0 z1)] at hV
    have hgo : ∀ (K : Prop), (¬ 1 < k → K) → (1 < k → bt left 0 ≠ 48 → K) → K := fun K h1 h2 => by
      by_cases h : 1 < k
      · exact h2 h (fun e => z1 ⟨h, e⟩)
      · exact h1 h
    have w5 := wrap_in (n := (k : Int) + 1 + (n : Int)) (by omega) (by omega)
    have w6 := wrap_in (n := (k : Int) + 2) (by omega) (by omega)
    have w7 := wrap_in (n := (k : Int) + 2 + (n : Int)) (by omega) (by omega)
    by_cases y1 : left.size ≤ k + 1 + n
    · have f1 : (left.size : Int) ≤ (k : Int) + 1 + (n : Int) := by omega
      have hbad2 : (fieldV left).2.2 ≠ 0 := by
        rw [hV]
        by_cases u1 : k = left.size
        · rw [if_pos u1]; decide
        rw [if_neg u1]
        by_cases u2 : bt left (k : Int) ≠ 58
        · rw [if_pos u2]; decide
        rw [if_neg u2, if_pos y1]; decide
      refine hgo _ (fun z2 => ?_) (fun z2 z3 => ?_)
      · have d1 : ¬ (1 : Int) < (k : Int) := by omega
        (try simp +decide (implicitDefEqProofs := false) only [go_sem, ↓stk_g, ↓stk_c, ↓reduceIte, g1, g2, q3, d0, d1, s0, hw, w5, f1])
        exact ⟨.inr rfl, AHeap.none, _, Sub.none _, .tup2 (hrow.row.fz (strGood out) (fun _ _ => rfl)) (.refl _), by rw [hJ6, hbad hbad2]; simp [tget]⟩
      · have d1 : (1 : Int) < (k : Int) := by omega
        have d2 : decide (bt left 0 = 48) = false := decide_eq_false z3
        (try simp +decide (implicitDefEqProofs := false) only [go_sem, ↓stk_g, ↓stk_c, ↓reduceIte, g1, g2, q3, d0, d1, d2, s0, hw, w5, f1])
        exact ⟨.inr rfl, AHeap.none, _, Sub.none _, .tup2 (hrow.row.fz (strGood out) (fun _ _ => rfl)) (.refl _), by rw [hJ6, hbad hbad2]; simp [tget]⟩
    have f1 : ¬ (left.size : Int) ≤ (k : Int) + 1 + (n : Int) := by omega
    have f0 : (k : Int) < (left.size : Int) := by omega
    rw [if_neg (by omega)] at hV
    by_cases y2 : bt left (k : Int) = 58
    case neg =>
      have f2 : decide (bt left (k : Int) ≠ 58) = true := decide_eq_true y2
      rw [if_pos y2] at hV
      refine hgo _ (fun z2 => ?_) (fun z2 z3 => ?_)
      · have d1 : ¬ (1 : Int) < (k : Int) := by omega
        (try simp +decide (implicitDefEqProofs := false) only [go_sem, ↓stk_g, ↓stk_c, ↓reduceIte, g1, g2, q3, d0, d1, s0, hw, w5, f1, f0, e4, f2])
        exact ⟨.inr rfl, AHeap.none, _, Sub.none _, .tup2 (hrow.row.fz (strGood out) (fun _ _ => rfl)) (.refl _), by rw [hJ6, hbad (by rw [hV]; decide)]; simp [tget]⟩
      · have d1 : (1 : Int) < (k : Int) := by omega
        have d2 : decide (bt left 0 = 48) = false := decide_eq_false z3
        (try simp +decide (implicitDefEqProofs := false) only [go_sem, ↓stk_g, ↓stk_c, ↓reduceIte, g1, g2, q3, d0, d1, d2, s0, hw, w5, f1, f0, e4, f2])
        exact ⟨.inr rfl, AHeap.none, _, Sub.none _, .tup2 (hrow.row.fz (strGood out) (fun _ _ => rfl)) (.refl _), by rw [hJ6, hbad (by rw [hV]; decide)]; simp [tget]⟩
    have f2 : decide (bt left (k : Int) ≠ 58) = false := decide_eq_false (fun h => h y2)
    rw [if_neg (fun h => h y2), if_neg y1] at hV
    have f3 : (0 : Int) ≤ (k : Int) + 1 + (n : Int) := by omega
    have f4 : (k : Int) + 1 + (n : Int) < (left.size : Int) := by omega
    have hcast : ((k + 1 + n : Nat) : Int) = (k : Int) + 1 + (n : Int) := by omega
    have hcast2 : ((k + 2 + n : Nat) : Int) = (k : Int) + 2 + (n : Int) := by omega
    have hcast3 : ((k + 1 : Nat) : Int) = (k : Int) + 1 := by omega
    rw [hcast, hcast2, hcast3] at hV
    by_cases y3 : bt left ((k : Int) + 1 + (n : Int)) = 44
    case neg =>
      have f5 : decide (bt left ((k : Int) + 1 + (n : Int)) ≠ 44) = true := decide_eq_true y3
      rw [if_pos y3] at hV
      refine hgo _ (fun z2 => ?_) (fun z2 z3 => ?_)
      · have d1 : ¬ (1 : Int) < (k : Int) := by omega
        (try simp +decide (implicitDefEqProofs := false) only [go_sem, ↓stk_g, ↓stk_c, ↓reduceIte, g1, g2, q3, d0, d1, s0, hw, w5, f1, f0, e4, f2, f3, f4, f5])
        exact ⟨.inr rfl, AHeap.none, _, Sub.none _, .tup2 (hrow.row.fz (strGood out) (fun _ _ => rfl)) (.refl _), by rw [hJ6, hbad (by rw [hV]; decide)]; simp [tget]⟩
      · have d1 : (1 : Int) < (k : Int) := by omega
        have d2 : decide (bt left 0 = 48) = false := decide_eq_false z3
        (try simp +decide (implicitDefEqProofs := false) only [go_sem, ↓stk_g, ↓stk_c, ↓reduceIte, g1, g2, q3, d0, d1, d2, s0, hw, w5, f1, f0, e4, f2, f3, f4, f5])
        exact ⟨.inr rfl, AHeap.none, _, Sub.none _, .tup2 (hrow.row.fz (strGood out) (fun _ _ => rfl)) (.refl _), by rw [hJ6, hbad (by rw [hV]; decide)]; simp [tget]⟩
    have f5 : decide (bt left ((k : Int) + 1 + (n : Int)) ≠ 44) = false := decide_eq_false (fun h => h y3)
    rw [if_neg (fun h => h y3)] at hV
    have f6 : (0 : Int) ≤ (k : Int) + 1 := by omega
    have f7 : (k : Int) + 1 ≤ (k : Int) + 1 + (n : Int) := by omega
    have f8 : (k : Int) + 1 + (n : Int) ≤ (left.size : Int) := by omega
    have f9 : (0 : Int) ≤ (k : Int) + 2 + (n : Int) := by omega
    have f10 : (k : Int) + 2 + (n : Int) ≤ (left.size : Int) := by omega
    have he0 : (fieldV left).2.2 = 0 := by rw [hV]
    have hgood2 := hgood he0
    obtain ⟨zz1, zz2⟩ := fieldV_size he0
    rw [hV] at hgood2 zz1 zz2
    dsimp only at hgood2 zz1 zz2
    generalize hff : cutS left ((k : Int) + 1) ((k : Int) + 1 + (n : Int)) = ff at hgood2 zz1
    generalize hrr : cutS left ((k : Int) + 2 + (n : Int)) (left.size : Int) = rr at hgood2 zz2
    refine hgo _ (fun z2 => ?_) (fun z2 z3 => ?_)
    · have d1 : ¬ (1 : Int) < (k : Int) := by omega
      (try simp +decide (implicitDefEqProofs := false) only [go_sem, ↓stk_g, ↓stk_c, ↓reduceIte, g1, g2, q3, d0, d1, s0, hw, w5, f1, f0, e4, f2, f3, f4, f5, f6, f7, f8, w6, w7, f9, f10, Int.le_refl, hff, hrr])
      refine stk_appO (new := strRows [ff]) hrow (by rfl) (by simp only [strRows_len, List.length_cons, List.length_nil]; omega) fun y H2 hy _ => ?_
      (try simp +decide (implicitDefEqProofs := false) only [go_sem, ↓stk_g, ↓stk_c, ↓reduceIte, hw, w6, w7, f9, f10, Int.le_refl, hrr])
      refine ⟨by omega, (out ++ [ff], rr, y, H2), Weak.list _ (Sub.refl _) (by (try simp +decide (implicitDefEqProofs := false) only [go_sem, ↓stk_g, ↓stk_c, ↓reduceIte])), ⟨by simp; omega, by dsimp only; omega, by simpa only [strRows_append] using hy⟩, n0, by dsimp only; omega, ?_⟩
      rw [hJ6, hgood2]
      simp
    · have d1 : (1 : Int) < (k : Int) := by omega
      have d2 : decide (bt left 0 = 48) = false := decide_eq_false z3
      (try simp +decide (implicitDefEqProofs := false) only [go_sem, ↓stk_g, ↓stk_c, ↓reduceIte, g1, g2, q3, d0, d1, d2, s0, hw, w5, f1, f0, e4, f2, f3, f4, f5, f6, f7, f8, w6, w7, f9, f10, Int.le_refl, hff, hrr])
      refine stk_appO (new := strRows [ff]) hrow (by rfl) (by simp only [strRows_len, List.length_cons, List.length_nil]; omega) fun y H2 hy _ => ?_
      (try simp +decide (implicitDefEqProofs := false) only [go_sem, ↓stk_g, ↓stk_c, ↓reduceIte, hw, w6, w7, f9, f10, Int.le_refl, hrr])
      refine ⟨by omega, (out ++ [ff], rr, y, H2), Weak.list _ (Sub.refl _) (by (try simp +decide (implicitDefEqProofs := false) only [go_sem, ↓stk_g, ↓stk_c, ↓reduceIte])), ⟨by simp; omega, by dsimp only; omega, by simpa only [strRows_append] using hy⟩, n0, by dsimp only; omega, ?_⟩
      rw [hJ6, hgood2]
      simp
  by_cases q4 : bt left (k : Int) ≤ 57
  case neg =>
    have hV := hfe (hfin (.inr (.inr ⟨hk3, by unfold isDig; omega⟩)))
    by_cases z0 : k = 0
    · have d0 : decide ((k : Int) = 0) = true := decide_eq_true (by omega)
      rw [if_pos (.inl z0)] at hV
      (try simp +decide (implicitDefEqProofs := false) only [go_sem, ↓stk_g, ↓stk_c, ↓reduceIte, g1, g2, q3, q4, d0])
      exact ⟨.inr rfl, AHeap.none, _, Sub.none _, .tup2 (hrow.row.fz (strGood out) (fun _ _ => rfl)) (.refl _), by rw [hJ6, hbad (by rw [hV]; decide)]; simp [tget]⟩
    have d0 : decide ((k : Int) = 0) = false := decide_eq_false (by omega)
    have s0 : (0 : Int) < (left.size : Int) := by omega
    by_cases z1 : 1 < k ∧ bt left 0 = 48
    · have d1 : (1 : Int) < (k : Int) := by have := z1.1; omega
      have d2 : decide (bt left 0 = 48) = true := decide_eq_true z1.2
      rw [if_pos (.inr z1)] at hV
      (try simp +decide (implicitDefEqProofs := false) only [go_sem, ↓stk_g, ↓stk_c, ↓reduceIte, g1, g2, q3, q4, d0, d1, d2, s0])
      exact ⟨.inr rfl, AHeap.none, _, Sub.none _, .tup2 (hrow.row.fz (strGood out) (fun _ _ => rfl)) (.refl _), by rw [hJ6, hbad (by rw [hV]; decide)]; simp [tget]⟩
    rw [if_neg (fun h => h.elim z0 z1)] at hV
    have hgo : ∀ (K : Prop), (¬ 1 < k → K) → (1 < k → bt left 0 ≠ 48 → K) → K := fun K h1 h2 => by
      by_cases h : 1 < k
      · exact h2 h (fun e => z1 ⟨h, e⟩)
      · exact h1 h
    have w5 := wrap_in (n := (k : Int) + 1 + (n : Int)) (by omega) (by omega)
    have w6 := wrap_in (n := (k : Int) + 2) (by omega) (by omega)
    have w7 := wrap_in (n := (k : Int) + 2 + (n : Int)) (by omega) (by omega)
    by_cases y1 : left.size ≤ k + 1 + n
    · have f1 : (left.size : Int) ≤ (k : Int) + 1 + (n : Int) := by omega
      have hbad2 : (fieldV left).2.2 ≠ 0 := by
        rw [hV]
        by_cases u1 : k = left.size
        · rw [if_pos u1]; decide
        rw [if_neg u1]
        by_cases u2 : bt left (k : Int) ≠ 58
        · rw [if_pos u2]; decide
        rw [if_neg u2, if_pos y1]; decide
      refine hgo _ (fun z2 => ?_) (fun z2 z3 => ?_)
      · have d1 : ¬ (1 : Int) < (k : Int) := by omega
        (try simp +decide (implicitDefEqProofs := false) only [go_sem, ↓stk_g, ↓stk_c, ↓reduceIte, g1, g2, q3, q4, d0, d1, s0, hw, w5, f1])
        exact ⟨.inr rfl, AHeap.none, _, Sub.none _, .tup2 (hrow.row.fz (strGood out) (fun _ _ => rfl)) (.refl _), by rw [hJ6, hbad hbad2]; simp [tget]⟩
      · have d1 : (1 : Int) < (k : Int) := by omega
        have d2 : decide (bt left 0 = 48) = false := decide_eq_false z3
        (try simp +decide (implicitDefEqProofs := false) only [go_sem, ↓stk_g, ↓stk_c, ↓reduceIte, g1, g2, q3, q4, d0, d1, d2, s0, hw, w5, f1])
        exact ⟨.inr rfl, AHeap.none, _, Sub.none _, .tup2 (hrow.row.fz (strGood out) (fun _ _ => rfl)) (.refl _), by rw [hJ6, hbad hbad2]; simp [tget]⟩
    have f1 : ¬ (left.size : Int) ≤ (k : Int) + 1 + (n : Int) := by omega
    have f0 : (k : Int) < (left.size : Int) := by omega
    rw [if_neg (by omega)] at hV
    by_cases y2 : bt left (k : Int) = 58
    case neg =>
      have f2 : decide (bt left (k : Int) ≠ 58) = true := decide_eq_true y2
      rw [if_pos y2] at hV
      refine hgo _ (fun z2 => ?_) (fun z2 z3 => ?_)
      · have d1 : ¬ (1 : Int) < (k : Int) := by omega
        (try simp +decide (implicitDefEqProofs := false) only [go_sem, ↓stk_g, ↓stk_c, ↓reduceIte, g1, g2, q3, q4, d0, d1, s0, hw, w5, f1, f0, e4, f2])
        exact ⟨.inr rfl, AHeap.none, _, Sub.none _, .tup2 (hrow.row.fz (strGood out) (fun _ _ => rfl)) (.refl _), by rw [hJ6, hbad (by rw [hV]; decide)]; simp [tget]⟩
      · have d1 : (1 : Int) < (k : Int) := by omega
        have d2 : decide (bt left 0 = 48) = false := decide_eq_false z3
        (try simp +decide (implicitDefEqProofs := false) only [go_sem, ↓stk_g, ↓stk_c, ↓reduceIte, g1, g2, q3, q4, d0, d1, d2, s0, hw, w5, f1, f0, e4, f2])
        exact ⟨.inr rfl, AHeap.none, _, Sub.none _, .tup2 (hrow.row.fz (strGood out) (fun _ _ => rfl)) (.refl _), by rw [hJ6, hbad (by rw [hV]; decide)]; simp [tget]⟩
    have f2 : decide (bt left (k : Int) ≠ 58) = false := decide_eq_false (fun h => h y2)
    rw [if_neg (fun h => h y2), if_neg y1] at hV
    have f3 : (0 : Int) ≤ (k : Int) + 1 + (n : Int) := by omega
    have f4 : (k : Int) + 1 + (n : Int) < (left.size : Int) := by omega
    have hcast : ((k + 1 + n : Nat) : Int) = (k : Int) + 1 + (n : Int) := by omega
    have hcast2 : ((k + 2 + n : Nat) : Int) = (k : Int) + 2 + (n : Int) := by omega
    have hcast3 : ((k + 1 : Nat) : Int) = (k : Int) + 1 := by omega
    rw [hcast, hcast2, hcast3] at hV
    by_cases y3 : bt left ((k : Int) + 1 + (n : Int)) = 44
    case neg =>
      have f5 : decide (bt left ((k : Int) + 1 + (n : Int)) ≠ 44) = true := decide_eq_true y3
      rw [if_pos y3] at hV
      refine hgo _ (fun z2 => ?_) (fun z2 z3 => ?_)
      · have d1 : ¬ (1 : Int) < (k : Int) := by omega
        (try simp +decide (implicitDefEqProofs := false) only [go_sem, ↓stk_g, ↓stk_c, ↓reduceIte, g1, g2, q3, q4, d0, d1, s0, hw, w5, f1, f0, e4, f2, f3, f4, f5])
        exact ⟨.inr rfl, AHeap.none, _, Sub.none _, .tup2 (hrow.row.fz (strGood out) (fun _ _ => rfl)) (.refl _), by rw [hJ6, hbad (by rw [hV]; decide)]; simp [tget]⟩
      · have d1 : (1 : Int) < (k : Int) := by omega
        have d2 : decide (bt left 0 = 48) = false := decide_eq_false z3
        (try simp +decide (implicitDefEqProofs := false) only [go_sem, ↓stk_g, ↓stk_c, ↓reduceIte, g1, g2, q3, q4, d0, d1, d2, s0, hw, w5, f1, f0, e4, f2, f3, f4, f5])
        exact ⟨.inr rfl, AHeap.none, _, Sub.none _, .tup2 (hrow.row.fz (strGood out) (fun _ _ => rfl)) (.refl _), by rw [hJ6, hbad (by rw [hV]; decide)]; simp [tget]⟩
    have f5 : decide (bt left ((k : Int) + 1 + (n : Int)) ≠ 44) = false := decide_eq_false (fun h => h y3)
    rw [if_neg (fun h => h y3)] at hV
    have f6 : (0 : Int) ≤ (k : Int) + 1 := by omega
    have f7 : (k : Int) + 1 ≤ (k : Int) + 1 + (n : Int) := by omega
    have f8 : (k : Int) + 1 + (n : Int) ≤ (left.size : Int) := by omega
    have f9 : (0 : Int) ≤ (k : Int) + 2 + (n : Int) := by omega
    have f10 : (k : Int) + 2 + (n : Int) ≤ (left.size : Int) := by omega
    have he0 : (fieldV left).2.2 = 0 := by rw [hV]
    have hgood2 := hgood he0
    obtain ⟨zz1, zz2⟩ := fieldV_size he0
    rw [hV] at hgood2 zz1 zz2
    dsimp only at hgood2 zz1 zz2
    generalize hff : cutS left ((k : Int) + 1) ((k : Int) + 1 + (n : Int)) = ff at hgood2 zz1
    generalize hrr : cutS left ((k : Int) + 2 + (n : Int)) (left.size : Int) = rr at hgood2 zz2
    refine hgo _ (fun z2 => ?_) (fun z2 z3 => ?_)
    · have d1 : ¬ (1 : Int) < (k : Int) := by omega
      (try simp +decide (implicitDefEqProofs := false) only [go_sem, ↓stk_g, ↓stk_c, ↓reduceIte, g1, g2, q3, q4, d0, d1, s0, hw, w5, f1, f0, e4, f2, f3, f4, f5, f6, f7, f8, w6, w7, f9, f10, Int.le_refl, hff, hrr])
      refine stk_appO (new := strRows [ff]) hrow (by rfl) (by simp only [strRows_len, List.length_cons, List.length_nil]; omega) fun y H2 hy _ => ?_
      (try simp +decide (implicitDefEqProofs := false) only [go_sem, ↓stk_g, ↓stk_c, ↓reduceIte, hw, w6, w7, f9, f10, Int.le_refl, hrr])
      refine ⟨by omega, (out ++ [ff], rr, y, H2), Weak.list _ (Sub.refl _) (by (try simp +decide (implicitDefEqProofs := false) only [go_sem, ↓stk_g, ↓stk_c, ↓reduceIte])), ⟨by simp; omega, by dsimp only; omega, by simpa only [strRows_append] using hy⟩, n0, by dsimp only; omega, ?_⟩
      rw [hJ6, hgood2]
      simp
    · have d1 : (1 : Int) < (k : Int) := by omega
      have d2 : decide (bt left 0 = 48) = false := decide_eq_false z3
      (try simp +decide (implicitDefEqProofs := false) only [go_sem, ↓stk_g, ↓stk_c, ↓reduceIte, g1, g2, q3, q4, d0, d1, d2, s0, hw, w5, f1, f0, e4, f2, f3, f4, f5, f6, f7, f8, w6, w7, f9, f10, Int.le_refl, hff, hrr])
      refine stk_appO (new := strRows [ff]) hrow (by rfl) (by simp only [strRows_len, List.length_cons, List.length_nil]; omega) fun y H2 hy _ => ?_
      (try simp +decide (implicitDefEqProofs := false) only [go_sem, ↓stk_g, ↓stk_c, ↓reduceIte, hw, w6, w7, f9, f10, Int.le_refl, hrr])
      refine ⟨by omega, (out ++ [ff], rr, y, H2), Weak.list _ (Sub.refl _) (by (try simp +decide (implicitDefEqProofs := false) only [go_sem, ↓stk_g, ↓stk_c, ↓reduceIte])), ⟨by simp; omega, by dsimp only; omega, by simpa only [strRows_append] using hy⟩, n0, by dsimp only; omega, ?_⟩
      rw [hJ6, hgood2]
      simp
  have hx := hb
  generalize hxx : (bl left)[k] = x at hx
  have hlast : (bl left).take (k + 1) = (bl left).take k ++ [x] := by rw [List.take_succ_eq_append_getElem hk3, hxx]
  have w1 := wrap_in (n := (n : Int) * 10) (by omega) (by omega)
  have v1 := u8_in (n := bt left (k : Int) - 48) (by omega) (by omega)
  have v2 := wrap_in (n := bt left (k : Int) - 48) (by omega) (by omega)
  have w2 := wrap_in (n := (n : Int) * 10 + (bt left (k : Int) - 48)) (by omega) (by omega)
  have hc : (n : Int) * 10 + (bt left (k : Int) - 48) = ((n * 10 + (x.toNat - 48) : Nat) : Int) := by omega
  (try simp +decide (implicitDefEqProofs := false) only [go_sem, ↓stk_g, ↓stk_c, ↓reduceIte, g1, g2, q3, q4, w1, v1, v2, w2, hw])
  rw [hc]
  refine ⟨by omega, n * 10 + (x.toNat - 48), Weak.list _ (Sub.refl _) (by (try simp +decide (implicitDefEqProofs := false) only [go_sem, ↓stk_g, ↓stk_c, ↓reduceIte])), by omega, fun j hj h => ?_, by rw [hlast, dval_snoc, ← hnn]⟩
  by_cases e : j = k
  · subst e; rw [hxx]; unfold isDig; omega
  · exact hdig j hj (by omega)
end Go.Proofs.YtcplmaffccfbdaaGreatDoor.M
