/-
  The first field of a text, and its number: walked.
-/
import Derived.Test.YtcplmaffccfbdaaGreatDoorQb
namespace Go.Proofs.YtcplmaffccfbdaaGreatDoor.M
open Go.RowKit
attribute [local go_sem] stk_nil stk_skip stk_ops stk_seq stk_block stk_scope stk_exit stk_ret stk_code_exit stk_code_ret stk_ops_exit stk_ops_ret stk_endb stk_endb_exit stk_endb_ret stk_endl stk_endl_exit stk_endl_ret stk_ops_nil stk_q stk_niq niqA flip srcOf stk_bsl side val bside bval uside uval cside cval bndS bndV intA isInt lside lval fside fval faside faval iside ival sxside sxval sizeA slside slval llside llval lenside lenval lenA tupA mmside mmval nkside boolA isBool ev_t ev_c tget put_s put_n lkside lkval menval stk_mk Option.isSome_some isMapA mapA keyA FZ_rfl FZ_any retOf true_and and_true if_true if_false decide_true decide_false Bool.not_true Bool.not_false Nat.zero_add List.map_cons List.map_nil Int.toNat_natCast strRows_len intRows_len List.getD_cons_zero List.getD_cons_succ List.length_cons List.length_nil List.forall_mem_cons List.not_mem_nil false_implies implies_true Int.ofNat_zero Int.natCast_add Int.natCast_one Int.ofNat_one Int.natCast_zero isB isU Bool.false_eq_true beq_self_eq_true Bool.false_beq Bool.true_beq Int.natCast_nonneg undef strRows_take strRows_drop Int.toNat_zero List.drop_zero Bool.and_true oneOr List.all_cons List.all_nil AVal.one Value.oneCell' Bool.true_and List.take_length stk_st' stside stH hp_self hp_hp isnside isnval
set_option linter.unusedVariables false
set_option linter.unusedSimpArgs false
instance (c : UInt8) : Decidable (isDig c) := inferInstanceAs (Decidable (48 ≤ c.toNat ∧ c.toNat ≤ 57))
def digK (l : List UInt8) : Nat := ((l.take 6).takeWhile (fun c => decide (isDig c))).length
theorem takeWhile_at {q : UInt8 → Bool} : ∀ (l : List UInt8) (k : Nat), k ≤ l.length → (∀ j (hj : j < l.length), j < k → q l[j] = true) → (∀ hk : k < l.length, q l[k] = false) → (l.takeWhile q).length = k
  | [], k, h, _, _ => by simp at h; simp [h]
  | c :: l, 0, _, _, h0 => by
    have := h0 (by simp)
    simp only [List.getElem_cons_zero] at this
    simp [List.takeWhile, this]
  | c :: l, k + 1, h, h1, h2 => by
    have hc := h1 0 (by simp) (by omega)
    simp only [List.getElem_cons_zero] at hc
    have ih := takeWhile_at l k (by simp at h; omega) (fun j hj hjk => by have := h1 (j + 1) (by simp; omega) (by omega); simpa using this) (fun hk => by have := h2 (by simp; omega); simpa using this)
    simp [List.takeWhile, hc, ih]
theorem digK_at {l : List UInt8} {k : Nat} (h1 : k ≤ l.length) (h2 : k ≤ 6) (h3 : ∀ j (hj : j < l.length), j < k → isDig l[j]) (h4 : k = l.length ∨ k = 6 ∨ ∃ hk : k < l.length, ¬ isDig l[k]) : digK l = k := by
  unfold digK
  refine takeWhile_at _ k (by rw [List.length_take]; omega) (fun j hj hjk => ?_) (fun hk => ?_)
  · rw [List.getElem_take]
    exact decide_eq_true (h3 j (by rw [List.length_take] at hj; omega) hjk)
  · rw [List.length_take] at hk
    rw [List.getElem_take]
    rcases h4 with h4 | h4 | ⟨_, h4⟩
    · omega
    · omega
    · exact decide_eq_false h4
theorem dval_lt : ∀ (l : List UInt8) (a : Nat), (∀ c ∈ l, isDig c) → dval a l + 1 ≤ (a + 1) * 10 ^ l.length
  | [], a, _ => by show a + 1 ≤ _; simp
  | c :: l, a, h => by
    have hc := h c (by simp)
    unfold isDig at hc
    have := dval_lt l (a * 10 + (c.toNat - 48)) (fun x hx => h x (by simp [hx]))
    have h2 : (a * 10 + (c.toNat - 48) + 1) * 10 ^ l.length ≤ ((a + 1) * 10) * 10 ^ l.length := Nat.mul_le_mul_right _ (by omega)
    have h3 : (a + 1) * 10 ^ (c :: l).length = ((a + 1) * 10) * 10 ^ l.length := by rw [List.length_cons, Nat.pow_succ, Nat.mul_comm (10 ^ l.length) 10, ← Nat.mul_assoc]
    show dval (a * 10 + (c.toNat - 48)) l + 1 ≤ _
    omega
theorem atoi_dig {l : List UInt8} (h1 : l ≠ []) (h2 : ∀ c ∈ l, isDig c) (h : dval 0 l < 1000000000000000000) : Lib.atoiAll l = .ok (dval 0 l : Int) := by
  cases l with
  | nil => exact absurd rfl h1
  | cons c r =>
    have hc := h2 c (by simp)
    unfold isDig at hc
    have hp : Lib.parseMag (c :: r) = .ok (dval 0 (c :: r)) := by
      unfold Lib.parseMag
      rw [if_neg (by simp), parse_dig _ 0 h2 h]
    unfold Lib.atoiAll
    have k1 : ¬ (c.toNat = 43 ∨ c.toNat = 45) := by omega
    have k2 : ¬ c.toNat = 45 := by omega
    simp only [if_neg k1, hp]
    rw [if_neg (by omega), if_neg (fun h => k2 h.1), if_neg k2]
def numN (s : Str) : Int := if okNum s = true then numP s else -1
theorem num_dig {s : Str} (h1 : bl s ≠ []) (h2 : ∀ c ∈ bl s, isDig c) (h : dval 0 (bl s) < 1000000000000000000) : numP s = (dval 0 (bl s) : Int) ∧ okNum s = true := by
  have e : Lib.atoiAll s.data.toList = .ok (dval 0 (bl s) : Int) := atoi_dig h1 h2 h
  constructor
  · unfold numP; rw [e]
  · unfold okNum; rw [e]
theorem numN_itoa (n : Int) (h0 : 0 ≤ n) (h1 : n ≤ 1000000) : numN (itoaS n) = n := by
  obtain ⟨k, rfl⟩ : ∃ k : Nat, n = k := ⟨n.toNat, by omega⟩
  have e := bl_itoa k
  have hd := dval_dec k
  obtain ⟨h2, h3⟩ := num_dig (s := itoaS (k : Int)) (by rw [e]; exact decDigits_ne k) (by rw [e]; exact decDigits_dig k) (by rw [e, hd]; omega)
  unfold numN
  rw [if_pos h3, h2, e, hd]
def fieldK (s : Str) (k : Nat) : Str × Str × Int :=
  if k = 0 ∨ (1 < k ∧ bt s 0 = 48) then (ByteArray.empty, ByteArray.empty, 2)
  else if cutS s k s.size = ByteArray.empty then (ByteArray.empty, ByteArray.empty, 3)
  else if bt (cutS s k s.size) 0 ≠ 58 then (ByteArray.empty, ByteArray.empty, 2)
  else if ((cutS s k s.size).size : Int) - 1 ≤ (dval 0 ((bl s).take k) : Int) then (ByteArray.empty, ByteArray.empty, 3)
  else if bt (cutS s k s.size) (1 + (dval 0 ((bl s).take k) : Int)) ≠ 44 then (ByteArray.empty, ByteArray.empty, 2)
  else (cutS (cutS s k s.size) 1 (1 + (dval 0 ((bl s).take k) : Int)), cutS (cutS s k s.size) (2 + (dval 0 ((bl s).take k) : Int)) ((cutS s k s.size).size : Int), 0)
def fieldV (s : Str) : Str × Str × Int := fieldK s (digK (bl s))
def fieldA (q : Str × Str × Int) : AVal := .tup [.v (.string q.1), .v (.string q.2.1), .v (.int .i64 q.2.2)]
def c_field : AFn := ⟨1, 78, [2, 3, 4],
  .seq (.ops [⟨(some 2), none, .q (.mv (.const (.string ByteArray.empty)))⟩,
      ⟨(some 3), none, .q (.mv (.const (.string ByteArray.empty)))⟩,
      ⟨(some 4), none, .q (.mv (.const (.int .i64 0)))⟩])
  (.seq (.ops [⟨(some 5), none, .q (.mv (.const (.int .i64 0)))⟩])
  (.seq (.block 0 (.loop (.seq (.seq (.ops [⟨(some 8), none, .q (.mv (.tmp 5))⟩,
          ⟨(some 9), none, .q (.mv (.tmp 0))⟩,
          ⟨(some 10), none, .q (.len true (.tmp 9))⟩,
          ⟨(some 11), none, .q (.bin .lss .num (.tmp 8) (.tmp 10))⟩,
          ⟨(some 12), none, .q (.mv (.tmp 11))⟩,
          ⟨(some 13), (some (12, true)), .q (.mv (.tmp 5))⟩,
          ⟨(some 14), (some (12, true)), .q (.bin .lss .num (.tmp 13) (.const (.int .i64 6)))⟩,
          ⟨(some 15), none, .q (.pick (.tmp 12) (.tmp 14) (.const (.bool false)))⟩,
          ⟨(some 16), none, .q (.mv (.tmp 15))⟩,
          ⟨(some 17), (some (16, true)), .q (.mv (.tmp 0))⟩,
          ⟨(some 18), (some (16, true)), .q (.mv (.tmp 5))⟩,
          ⟨(some 19), (some (16, true)), .q (.six (.tmp 17) (.tmp 18))⟩,
          ⟨(some 20), (some (16, true)), .q (.bin .geq .num (.tmp 19) (.const (.int .u8 48)))⟩,
          ⟨(some 21), none, .q (.pick (.tmp 16) (.tmp 20) (.const (.bool false)))⟩,
          ⟨(some 22), none, .q (.mv (.tmp 21))⟩,
          ⟨(some 23), (some (22, true)), .q (.mv (.tmp 0))⟩,
          ⟨(some 24), (some (22, true)), .q (.mv (.tmp 5))⟩,
          ⟨(some 25), (some (22, true)), .q (.six (.tmp 23) (.tmp 24))⟩,
          ⟨(some 26), (some (22, true)), .q (.bin .leq .num (.tmp 25) (.const (.int .u8 57)))⟩,
          ⟨(some 27), none, .q (.pick (.tmp 22) (.tmp 26) (.const (.bool false)))⟩])
      (.cond (.tmp 27)
        (.skip)
        (.exit 0)))
      (.block 1 (.ops [⟨(some 28), none, .q (.mv (.tmp 5))⟩,
            ⟨(some 29), none, .q (.bin .add .num (.tmp 28) (.const (.int .i64 1)))⟩,
            ⟨(some 5), none, .q (.mv (.tmp 29))⟩])))))
  (.seq (.seq (.ops [⟨(some 30), none, .q (.mv (.tmp 5))⟩,
      ⟨(some 31), none, .q (.bin .eql .num (.tmp 30) (.const (.int .i64 0)))⟩,
      ⟨(some 32), none, .q (.mv (.tmp 31))⟩,
      ⟨(some 33), (some (32, false)), .q (.mv (.tmp 5))⟩,
      ⟨(some 34), (some (32, false)), .q (.bin .gtr .num (.tmp 33) (.const (.int .i64 1)))⟩,
      ⟨(some 35), (some (32, false)), .q (.mv (.tmp 34))⟩,
      ⟨(some 36), (some (35, true)), .q (.mv (.tmp 0))⟩,
      ⟨(some 37), (some (35, true)), .q (.six (.tmp 36) (.const (.int .i64 0)))⟩,
      ⟨(some 38), (some (35, true)), .q (.bin .eql .num (.tmp 37) (.const (.int .u8 48)))⟩,
      ⟨(some 39), (some (32, false)), .q (.pick (.tmp 35) (.tmp 38) (.const (.bool false)))⟩,
      ⟨(some 40), none, .q (.pick (.tmp 32) (.const (.bool true)) (.tmp 39))⟩])
  (.cond (.tmp 40)
    (.seq (.ops [⟨(some 2), none, .q (.mv (.const (.string ByteArray.empty)))⟩,
        ⟨(some 3), none, .q (.mv (.const (.string ByteArray.empty)))⟩,
        ⟨(some 4), none, .q (.mv (.const (.int .i64 2)))⟩])
    (.ret))
    (.skip)))
  (.seq (.ops [⟨(some 42), none, .q (.mv (.tmp 0))⟩,
      ⟨(some 43), none, .q (.mv (.tmp 5))⟩,
      ⟨(some 44), none, .q (.ssl (.tmp 42) none (some (.tmp 43)))⟩,
      ⟨(some 45), none, .e (.call 55 [(.tmp 44)])⟩,
      ⟨(some 41), none, .q (.mv (.tmp 45))⟩,
      ⟨(some 46), none, .q (.ext (.tmp 41) 0)⟩,
      ⟨(some 47), none, .q (.ext (.tmp 41) 1)⟩,
      ⟨(some 6), none, .q (.mv (.tmp 46))⟩,
      ⟨(some 7), none, .q (.mv (.tmp 47))⟩])
  (.seq (.ops [⟨(some 48), none, .q (.mv (.tmp 0))⟩,
      ⟨(some 49), none, .q (.mv (.tmp 5))⟩,
      ⟨(some 50), none, .q (.ssl (.tmp 48) (some (.tmp 49)) none)⟩,
      ⟨(some 0), none, .q (.mv (.tmp 50))⟩])
  (.seq (.block 2 (.seq (.ops [⟨(some 52), none, .q (.mv (.tmp 0))⟩,
        ⟨(some 53), none, .q (.bin .eql .num (.tmp 52) (.const (.string ByteArray.empty)))⟩,
        ⟨(some 51), none, .q (.mv (.tmp 53))⟩])
    (.cond (.tmp 51)
      (.seq (.ops [⟨(some 2), none, .q (.mv (.const (.string ByteArray.empty)))⟩,
          ⟨(some 3), none, .q (.mv (.const (.string ByteArray.empty)))⟩,
          ⟨(some 4), none, .q (.mv (.const (.int .i64 3)))⟩])
      (.ret))
      (.seq (.ops [⟨(some 55), none, .q (.mv (.tmp 0))⟩,
          ⟨(some 56), none, .q (.six (.tmp 55) (.const (.int .i64 0)))⟩,
          ⟨(some 57), none, .q (.bin .neq .num (.tmp 56) (.const (.int .u8 58)))⟩,
          ⟨(some 54), none, .q (.mv (.tmp 57))⟩])
      (.cond (.tmp 54)
        (.seq (.ops [⟨(some 2), none, .q (.mv (.const (.string ByteArray.empty)))⟩,
            ⟨(some 3), none, .q (.mv (.const (.string ByteArray.empty)))⟩,
            ⟨(some 4), none, .q (.mv (.const (.int .i64 2)))⟩])
        (.ret))
        (.seq (.ops [⟨(some 59), none, .q (.mv (.tmp 0))⟩,
            ⟨(some 60), none, .q (.len true (.tmp 59))⟩,
            ⟨(some 61), none, .q (.bin .sub .num (.tmp 60) (.const (.int .i64 1)))⟩,
            ⟨(some 62), none, .q (.mv (.tmp 6))⟩,
            ⟨(some 63), none, .q (.bin .leq .num (.tmp 61) (.tmp 62))⟩,
            ⟨(some 58), none, .q (.mv (.tmp 63))⟩])
        (.cond (.tmp 58)
          (.seq (.ops [⟨(some 2), none, .q (.mv (.const (.string ByteArray.empty)))⟩,
              ⟨(some 3), none, .q (.mv (.const (.string ByteArray.empty)))⟩,
              ⟨(some 4), none, .q (.mv (.const (.int .i64 3)))⟩])
          (.ret))
          (.seq (.ops [⟨(some 65), none, .q (.mv (.tmp 0))⟩,
              ⟨(some 66), none, .q (.mv (.tmp 6))⟩,
              ⟨(some 67), none, .q (.bin .add .num (.const (.int .i64 1)) (.tmp 66))⟩,
              ⟨(some 68), none, .q (.six (.tmp 65) (.tmp 67))⟩,
              ⟨(some 69), none, .q (.bin .neq .num (.tmp 68) (.const (.int .u8 44)))⟩,
              ⟨(some 64), none, .q (.mv (.tmp 69))⟩])
          (.cond (.tmp 64)
            (.seq (.ops [⟨(some 2), none, .q (.mv (.const (.string ByteArray.empty)))⟩,
                ⟨(some 3), none, .q (.mv (.const (.string ByteArray.empty)))⟩,
                ⟨(some 4), none, .q (.mv (.const (.int .i64 2)))⟩])
            (.ret))
            (.skip))))))))))
  (.seq (.ops [⟨(some 70), none, .q (.mv (.tmp 0))⟩,
      ⟨(some 71), none, .q (.mv (.tmp 6))⟩,
      ⟨(some 72), none, .q (.bin .add .num (.const (.int .i64 1)) (.tmp 71))⟩,
      ⟨(some 73), none, .q (.ssl (.tmp 70) (some (.const (.int .i64 1))) (some (.tmp 72)))⟩,
      ⟨(some 74), none, .q (.mv (.tmp 0))⟩,
      ⟨(some 75), none, .q (.mv (.tmp 6))⟩,
      ⟨(some 76), none, .q (.bin .add .num (.const (.int .i64 2)) (.tmp 75))⟩,
      ⟨(some 77), none, .q (.ssl (.tmp 74) (some (.tmp 76)) none)⟩,
      ⟨(some 2), none, .q (.mv (.tmp 73))⟩,
      ⟨(some 3), none, .q (.mv (.tmp 77))⟩,
      ⟨(some 4), none, .q (.mv (.const (.int .i64 0)))⟩])
  (.ret)))))))), []⟩
theorem k_field : compF Tryz.prog 27 = some c_field := by kernel_rfl
set_option maxHeartbeats 16000000 in
theorem field_ok {W : World} (E : Errs W) (s : Str) (hs : s.size ≤ 1000000000) : ACalls Tryz.prog W 27 [.v (.string s)] AHeap.none fun v _ => v = fieldA (fieldV s) := by
  have hl := bl_len s
  refine fn_run follows k_field rfl ?_
  simp only [c_field, aretC_nil, List.zipIdx_cons, List.zipIdx_nil, List.map_cons, List.map_nil, Nat.zero_add]
  (try simp +decide (implicitDefEqProofs := false) only [go_sem, ↓stk_g, ↓stk_c, ↓reduceIte])
  refine stk_up (α := Unit) 6 (fun i _ => ⟨[(5, .v (.int .i64 i)), (0, .v (.string s))], AHeap.none⟩) (fun i _ => i ≤ s.size ∧ ∀ j (hj : j < (bl s).length), j < i → isDig (bl s)[j]) () (Weak.list _ (Sub.refl _) (by (try simp +decide (implicitDefEqProofs := false) only [go_sem, ↓stk_g, ↓stk_c, ↓reduceIte]))) ⟨Nat.zero_le _, fun j hj h => by omega⟩ ?_
  rintro k ⟨⟩ hk ⟨hk2, hdig⟩
  have hfin : ∀ (h4 : k = (bl s).length ∨ k = 6 ∨ ∃ hk : k < (bl s).length, ¬ isDig (bl s)[k]), digK (bl s) = k := fun h4 => digK_at (by omega) hk hdig h4
  have hdt : ∀ c ∈ (bl s).take k, isDig c := fun c hc => by
    obtain ⟨j, hj, rfl⟩ := List.getElem_of_mem hc
    rw [List.length_take] at hj
    rw [List.getElem_take]
    exact hdig j (by omega) (by omega)
  have hn6 : dval 0 ((bl s).take k) + 1 ≤ 1000000 := by
    have h1 := dval_lt ((bl s).take k) 0 hdt
    have h2 : 10 ^ ((bl s).take k).length ≤ 10 ^ 6 := Nat.pow_le_pow_right (by omega) (by rw [List.length_take]; omega)
    omega
  have hcut0 : bl (cutS s 0 (k : Int)) = (bl s).take k := by
    rw [show (0 : Int) = ((0 : Nat) : Int) from rfl, bl_cut s 0 k hk2]; simp
  have hrsz : (cutS s (k : Int) (s.size : Int)).size = s.size - k := by
    unfold cutS; rw [ByteArray.size_extract]; omega
  have hw := wrap_in (n := (k : Int) + 1) (by omega) (by omega)
  by_cases q1 : k < s.size
  case neg =>
    have g1 : ¬ (k : Int) < (s.size : Int) := by omega
    have hK := hfin (.inl (by omega))
    have hv0 : fieldV s = fieldK s k := by unfold fieldV; rw [hK]
    unfold fieldK at hv0
    clear hfin hK
    by_cases z0 : k = 0
    · have e0 : decide ((k : Int) = 0) = true := decide_eq_true (by omega)
      rw [if_pos (.inl z0)] at hv0
      (try simp +decide (implicitDefEqProofs := false) only [go_sem, ↓stk_g, ↓stk_c, ↓reduceIte, g1, e0])
      refine aret_pure (.inr rfl) ?_; simp +decide only [retOf, tget, if_true, if_false, ↓reduceIte, List.map_cons, List.map_nil]
      rw [hv0]; rfl
    have e0 : decide ((k : Int) = 0) = false := decide_eq_false (by omega)
    by_cases z1 : 1 < k ∧ bt s 0 = 48
    · have e1 : (1 : Int) < (k : Int) := by have := z1.1; omega
      have e2 : decide (bt s 0 = 48) = true := decide_eq_true z1.2
      have e3 : (0 : Int) < (s.size : Int) := by omega
      rw [if_pos (.inr z1)] at hv0
      (try simp +decide (implicitDefEqProofs := false) only [go_sem, ↓stk_g, ↓stk_c, ↓reduceIte, g1, e0, e1, e2, e3])
      refine aret_pure (.inr rfl) ?_; simp +decide only [retOf, tget, if_true, if_false, ↓reduceIte, List.map_cons, List.map_nil]
      rw [hv0]; rfl
    rw [if_neg (fun h => h.elim z0 z1)] at hv0
    have hnum := num_dig (s := cutS s 0 (k : Int)) (by rw [hcut0]; intro h; have := congrArg List.length h; rw [List.length_take, List.length_nil] at this; omega) (by rw [hcut0]; exact hdt) (by rw [hcut0]; omega)
    rw [hcut0] at hnum
    have e4 : (0 : Int) ≤ (k : Int) := by omega
    have e5 : (k : Int) ≤ (s.size : Int) := by omega
    have hcs : (cutS s 0 (k : Int)).size ≤ 1000000000 := Nat.le_trans (cutS_size s 0 (k : Int)) hs
    have hgo : ∀ (K : Prop), (¬ 1 < k → K) → (1 < k → bt s 0 ≠ 48 → K) → K := fun K h1 h2 => by
      by_cases h : 1 < k
      · exact h2 h (fun e => z1 ⟨h, e⟩)
      · exact h1 h
    have e3 : (0 : Int) < (s.size : Int) := by omega
    generalize hR : cutS s (k : Int) (s.size : Int) = r at hrsz hv0
    generalize hnn : dval 0 ((bl s).take k) = n at hn6 hnum hv0
    have w1 := wrap_in (n := 1 + (n : Int)) (by omega) (by omega)
    have w2 := wrap_in (n := 2 + (n : Int)) (by omega) (by omega)
    have w3 := wrap_in (n := (r.size : Int) - 1) (by omega) (by omega)
    have z0' : (0 : Int) < (k : Int) := by omega
    refine hgo _ (fun z2 => ?_) (fun z2 z3 => ?_)
    · have e1 : ¬ (1 : Int) < (k : Int) := by omega
      (try simp +decide (implicitDefEqProofs := false) only [go_sem, ↓stk_g, ↓stk_c, ↓reduceIte, g1, e0, e1, e3, e4, e5])
      refine stk_pure (atoi_ok E (cutS s 0 (k : Int)) hcs) fun v hv => ?_
      obtain ⟨e, rfl, -⟩ := hv
      rw [hnum.1]
      by_cases y1 : r = ByteArray.empty
      · have f1 : decide (r = ByteArray.empty) = true := decide_eq_true y1
        rw [if_pos y1] at hv0
        (try simp +decide (implicitDefEqProofs := false) only [go_sem, ↓stk_g, ↓stk_c, ↓reduceIte, e4, e5, Int.le_refl, hR, f1])
        refine aret_pure (.inr rfl) ?_; simp +decide only [retOf, tget, if_true, if_false, ↓reduceIte, List.map_cons, List.map_nil]
        rw [hv0]; rfl
      have f1 : decide (r = ByteArray.empty) = false := decide_eq_false y1
      have f0 : (0 : Int) < (r.size : Int) := by
        rcases Nat.eq_zero_or_pos r.size with h | h
        · exact absurd (ByteArray.ext (Array.eq_empty_of_size_eq_zero h)) y1
        · omega
      rw [if_neg y1] at hv0
      by_cases y2 : bt r 0 = 58
      case neg =>
        have f2 : decide (bt r 0 ≠ 58) = true := decide_eq_true y2
        rw [if_pos y2] at hv0
        (try simp +decide (implicitDefEqProofs := false) only [go_sem, ↓stk_g, ↓stk_c, ↓reduceIte, e4, e5, Int.le_refl, hR, f1, f0, f2])
        refine aret_pure (.inr rfl) ?_; simp +decide only [retOf, tget, if_true, if_false, ↓reduceIte, List.map_cons, List.map_nil]
        rw [hv0]; rfl
      have f2 : decide (bt r 0 ≠ 58) = false := decide_eq_false (fun h => h y2)
      rw [if_neg (fun h => h y2)] at hv0
      by_cases y3 : (r.size : Int) - 1 ≤ (n : Int)
      · rw [if_pos y3] at hv0
        (try simp +decide (implicitDefEqProofs := false) only [go_sem, ↓stk_g, ↓stk_c, ↓reduceIte, e4, e5, Int.le_refl, hR, f1, f0, f2, w3, y3])
        refine aret_pure (.inr rfl) ?_; simp +decide only [retOf, tget, if_true, if_false, ↓reduceIte, List.map_cons, List.map_nil]
        rw [hv0]; rfl
      rw [if_neg y3] at hv0
      have f4 : (1 : Int) + (n : Int) < (r.size : Int) := by omega
      have f5 : (0 : Int) ≤ 1 + (n : Int) := by omega
      by_cases y4 : bt r (1 + (n : Int)) = 44
      case neg =>
        have f3 : decide (bt r (1 + (n : Int)) ≠ 44) = true := decide_eq_true y4
        rw [if_pos y4] at hv0
        (try simp +decide (implicitDefEqProofs := false) only [go_sem, ↓stk_g, ↓stk_c, ↓reduceIte, e4, e5, Int.le_refl, hR, f1, f0, f2, w3, y3, w1, f4, f5, f3])
        refine aret_pure (.inr rfl) ?_; simp +decide only [retOf, tget, if_true, if_false, ↓reduceIte, List.map_cons, List.map_nil]
        rw [hv0]; rfl
      have f3 : decide (bt r (1 + (n : Int)) ≠ 44) = false := decide_eq_false (fun h => h y4)
      rw [if_neg (fun h => h y4)] at hv0
      have f6 : (1 : Int) ≤ 1 + (n : Int) := by omega
      have f7 : (1 : Int) + (n : Int) ≤ (r.size : Int) := by omega
      have f8 : (0 : Int) ≤ 2 + (n : Int) := by omega
      have f9 : (2 : Int) + (n : Int) ≤ (r.size : Int) := by omega
      (try simp +decide (implicitDefEqProofs := false) only [go_sem, ↓stk_g, ↓stk_c, ↓reduceIte, e4, e5, Int.le_refl, hR, f1, f0, f2, w3, y3, w1, w2, f4, f5, f3, f6, f7, f8, f9])
      refine aret_pure (.inr rfl) ?_; simp +decide only [retOf, tget, if_true, if_false, ↓reduceIte, List.map_cons, List.map_nil]
      rw [hv0]; rfl
    · have e1 : (1 : Int) < (k : Int) := by omega
      have e2 : decide (bt s 0 = 48) = false := decide_eq_false z3
      (try simp +decide (implicitDefEqProofs := false) only [go_sem, ↓stk_g, ↓stk_c, ↓reduceIte, g1, e0, e1, e2, e3, e4, e5])
      refine stk_pure (atoi_ok E (cutS s 0 (k : Int)) hcs) fun v hv => ?_
      obtain ⟨e, rfl, -⟩ := hv
      rw [hnum.1]
      by_cases y1 : r = ByteArray.empty
      · have f1 : decide (r = ByteArray.empty) = true := decide_eq_true y1
        rw [if_pos y1] at hv0
        (try simp +decide (implicitDefEqProofs := false) only [go_sem, ↓stk_g, ↓stk_c, ↓reduceIte, e4, e5, Int.le_refl, hR, f1])
        refine aret_pure (.inr rfl) ?_; simp +decide only [retOf, tget, if_true, if_false, ↓reduceIte, List.map_cons, List.map_nil]
        rw [hv0]; rfl
      have f1 : decide (r = ByteArray.empty) = false := decide_eq_false y1
      have f0 : (0 : Int) < (r.size : Int) := by
        rcases Nat.eq_zero_or_pos r.size with h | h
        · exact absurd (ByteArray.ext (Array.eq_empty_of_size_eq_zero h)) y1
        · omega
      rw [if_neg y1] at hv0
      by_cases y2 : bt r 0 = 58
      case neg =>
        have f2 : decide (bt r 0 ≠ 58) = true := decide_eq_true y2
        rw [if_pos y2] at hv0
        (try simp +decide (implicitDefEqProofs := false) only [go_sem, ↓stk_g, ↓stk_c, ↓reduceIte, e4, e5, Int.le_refl, hR, f1, f0, f2])
        refine aret_pure (.inr rfl) ?_; simp +decide only [retOf, tget, if_true, if_false, ↓reduceIte, List.map_cons, List.map_nil]
        rw [hv0]; rfl
      have f2 : decide (bt r 0 ≠ 58) = false := decide_eq_false (fun h => h y2)
      rw [if_neg (fun h => h y2)] at hv0
      by_cases y3 : (r.size : Int) - 1 ≤ (n : Int)
      · rw [if_pos y3] at hv0
        (try simp +decide (implicitDefEqProofs := false) only [go_sem, ↓stk_g, ↓stk_c, ↓reduceIte, e4, e5, Int.le_refl, hR, f1, f0, f2, w3, y3])
        refine aret_pure (.inr rfl) ?_; simp +decide only [retOf, tget, if_true, if_false, ↓reduceIte, List.map_cons, List.map_nil]
        rw [hv0]; rfl
      rw [if_neg y3] at hv0
      have f4 : (1 : Int) + (n : Int) < (r.size : Int) := by omega
      have f5 : (0 : Int) ≤ 1 + (n : Int) := by omega
      by_cases y4 : bt r (1 + (n : Int)) = 44
      case neg =>
        have f3 : decide (bt r (1 + (n : Int)) ≠ 44) = true := decide_eq_true y4
        rw [if_pos y4] at hv0
        (try simp +decide (implicitDefEqProofs := false) only [go_sem, ↓stk_g, ↓stk_c, ↓reduceIte, e4, e5, Int.le_refl, hR, f1, f0, f2, w3, y3, w1, f4, f5, f3])
        refine aret_pure (.inr rfl) ?_; simp +decide only [retOf, tget, if_true, if_false, ↓reduceIte, List.map_cons, List.map_nil]
        rw [hv0]; rfl
      have f3 : decide (bt r (1 + (n : Int)) ≠ 44) = false := decide_eq_false (fun h => h y4)
      rw [if_neg (fun h => h y4)] at hv0
      have f6 : (1 : Int) ≤ 1 + (n : Int) := by omega
      have f7 : (1 : Int) + (n : Int) ≤ (r.size : Int) := by omega
      have f8 : (0 : Int) ≤ 2 + (n : Int) := by omega
      have f9 : (2 : Int) + (n : Int) ≤ (r.size : Int) := by omega
      (try simp +decide (implicitDefEqProofs := false) only [go_sem, ↓stk_g, ↓stk_c, ↓reduceIte, e4, e5, Int.le_refl, hR, f1, f0, f2, w3, y3, w1, w2, f4, f5, f3, f6, f7, f8, f9])
      refine aret_pure (.inr rfl) ?_; simp +decide only [retOf, tget, if_true, if_false, ↓reduceIte, List.map_cons, List.map_nil]
      rw [hv0]; rfl
  have g1 : (k : Int) < (s.size : Int) := by omega
  have hk3 : k < (bl s).length := by omega
  have hb := bt_get hk3
  by_cases q2 : k < 6
  case neg =>
    have g2 : ¬ (k : Int) < 6 := by omega
    have hK := hfin (.inr (.inl (by omega)))
    have hv0 : fieldV s = fieldK s k := by unfold fieldV; rw [hK]
    unfold fieldK at hv0
    clear hfin hK
    by_cases z0 : k = 0
    · have e0 : decide ((k : Int) = 0) = true := decide_eq_true (by omega)
      rw [if_pos (.inl z0)] at hv0
      (try simp +decide (implicitDefEqProofs := false) only [go_sem, ↓stk_g, ↓stk_c, ↓reduceIte, g1, g2, e0])
      refine aret_pure (.inr rfl) ?_; simp +decide only [retOf, tget, if_true, if_false, ↓reduceIte, List.map_cons, List.map_nil]
      rw [hv0]; rfl
    have e0 : decide ((k : Int) = 0) = false := decide_eq_false (by omega)
    by_cases z1 : 1 < k ∧ bt s 0 = 48
    · have e1 : (1 : Int) < (k : Int) := by have := z1.1; omega
      have e2 : decide (bt s 0 = 48) = true := decide_eq_true z1.2
      have e3 : (0 : Int) < (s.size : Int) := by omega
      rw [if_pos (.inr z1)] at hv0
      (try simp +decide (implicitDefEqProofs := false) only [go_sem, ↓stk_g, ↓stk_c, ↓reduceIte, g1, g2, e0, e1, e2, e3])
      refine aret_pure (.inr rfl) ?_; simp +decide only [retOf, tget, if_true, if_false, ↓reduceIte, List.map_cons, List.map_nil]
      rw [hv0]; rfl
    rw [if_neg (fun h => h.elim z0 z1)] at hv0
    have hnum := num_dig (s := cutS s 0 (k : Int)) (by rw [hcut0]; intro h; have := congrArg List.length h; rw [List.length_take, List.length_nil] at this; omega) (by rw [hcut0]; exact hdt) (by rw [hcut0]; omega)
    rw [hcut0] at hnum
    have e4 : (0 : Int) ≤ (k : Int) := by omega
    have e5 : (k : Int) ≤ (s.size : Int) := by omega
    have hcs : (cutS s 0 (k : Int)).size ≤ 1000000000 := Nat.le_trans (cutS_size s 0 (k : Int)) hs
    have hgo : ∀ (K : Prop), (¬ 1 < k → K) → (1 < k → bt s 0 ≠ 48 → K) → K := fun K h1 h2 => by
      by_cases h : 1 < k
      · exact h2 h (fun e => z1 ⟨h, e⟩)
      · exact h1 h
    have e3 : (0 : Int) < (s.size : Int) := by omega
    generalize hR : cutS s (k : Int) (s.size : Int) = r at hrsz hv0
    generalize hnn : dval 0 ((bl s).take k) = n at hn6 hnum hv0
    have w1 := wrap_in (n := 1 + (n : Int)) (by omega) (by omega)
    have w2 := wrap_in (n := 2 + (n : Int)) (by omega) (by omega)
    have w3 := wrap_in (n := (r.size : Int) - 1) (by omega) (by omega)
    have z0' : (0 : Int) < (k : Int) := by omega
    refine hgo _ (fun z2 => ?_) (fun z2 z3 => ?_)
    · have e1 : ¬ (1 : Int) < (k : Int) := by omega
      (try simp +decide (implicitDefEqProofs := false) only [go_sem, ↓stk_g, ↓stk_c, ↓reduceIte, g1, g2, e0, e1, e3, e4, e5])
      refine stk_pure (atoi_ok E (cutS s 0 (k : Int)) hcs) fun v hv => ?_
      obtain ⟨e, rfl, -⟩ := hv
      rw [hnum.1]
      by_cases y1 : r = ByteArray.empty
      · have f1 : decide (r = ByteArray.empty) = true := decide_eq_true y1
        rw [if_pos y1] at hv0
        (try simp +decide (implicitDefEqProofs := false) only [go_sem, ↓stk_g, ↓stk_c, ↓reduceIte, e4, e5, Int.le_refl, hR, f1])
        refine aret_pure (.inr rfl) ?_; simp +decide only [retOf, tget, if_true, if_false, ↓reduceIte, List.map_cons, List.map_nil]
        rw [hv0]; rfl
      have f1 : decide (r = ByteArray.empty) = false := decide_eq_false y1
      have f0 : (0 : Int) < (r.size : Int) := by
        rcases Nat.eq_zero_or_pos r.size with h | h
        · exact absurd (ByteArray.ext (Array.eq_empty_of_size_eq_zero h)) y1
        · omega
      rw [if_neg y1] at hv0
      by_cases y2 : bt r 0 = 58
      case neg =>
        have f2 : decide (bt r 0 ≠ 58) = true := decide_eq_true y2
        rw [if_pos y2] at hv0
        (try simp +decide (implicitDefEqProofs := false) only [go_sem, ↓stk_g, ↓stk_c, ↓reduceIte, e4, e5, Int.le_refl, hR, f1, f0, f2])
        refine aret_pure (.inr rfl) ?_; simp +decide only [retOf, tget, if_true, if_false, ↓reduceIte, List.map_cons, List.map_nil]
        rw [hv0]; rfl
      have f2 : decide (bt r 0 ≠ 58) = false := decide_eq_false (fun h => h y2)
      rw [if_neg (fun h => h y2)] at hv0
      by_cases y3 : (r.size : Int) - 1 ≤ (n : Int)
      · rw [if_pos y3] at hv0
        (try simp +decide (implicitDefEqProofs := false) only [go_sem, ↓stk_g, ↓stk_c, ↓reduceIte, e4, e5, Int.le_refl, hR, f1, f0, f2, w3, y3])
        refine aret_pure (.inr rfl) ?_; simp +decide only [retOf, tget, if_true, if_false, ↓reduceIte, List.map_cons, List.map_nil]
        rw [hv0]; rfl
      rw [if_neg y3] at hv0
      have f4 : (1 : Int) + (n : Int) < (r.size : Int) := by omega
      have f5 : (0 : Int) ≤ 1 + (n : Int) := by omega
      by_cases y4 : bt r (1 + (n : Int)) = 44
      case neg =>
        have f3 : decide (bt r (1 + (n : Int)) ≠ 44) = true := decide_eq_true y4
        rw [if_pos y4] at hv0
        (try simp +decide (implicitDefEqProofs := false) only [go_sem, ↓stk_g, ↓stk_c, ↓reduceIte, e4, e5, Int.le_refl, hR, f1, f0, f2, w3, y3, w1, f4, f5, f3])
        refine aret_pure (.inr rfl) ?_; simp +decide only [retOf, tget, if_true, if_false, ↓reduceIte, List.map_cons, List.map_nil]
        rw [hv0]; rfl
      have f3 : decide (bt r (1 + (n : Int)) ≠ 44) = false := decide_eq_false (fun h => h y4)
      rw [if_neg (fun h => h y4)] at hv0
      have f6 : (1 : Int) ≤ 1 + (n : Int) := by omega
      have f7 : (1 : Int) + (n : Int) ≤ (r.size : Int) := by omega
      have f8 : (0 : Int) ≤ 2 + (n : Int) := by omega
      have f9 : (2 : Int) + (n : Int) ≤ (r.size : Int) := by omega
      (try simp +decide (implicitDefEqProofs := false) only [go_sem, ↓stk_g, ↓stk_c, ↓reduceIte, e4, e5, Int.le_refl, hR, f1, f0, f2, w3, y3, w1, w2, f4, f5, f3, f6, f7, f8, f9])
      refine aret_pure (.inr rfl) ?_; simp +decide only [retOf, tget, if_true, if_false, ↓reduceIte, List.map_cons, List.map_nil]
      rw [hv0]; rfl
    · have e1 : (1 : Int) < (k : Int) := by omega
      have e2 : decide (bt s 0 = 48) = false := decide_eq_false z3
      (try simp +decide (implicitDefEqProofs := false) only [go_sem, ↓stk_g, ↓stk_c, ↓reduceIte, g1, g2, e0, e1, e2, e3, e4, e5])
      refine stk_pure (atoi_ok E (cutS s 0 (k : Int)) hcs) fun v hv => ?_
      obtain ⟨e, rfl, -⟩ := hv
      rw [hnum.1]
      by_cases y1 : r = ByteArray.empty
      · have f1 : decide (r = ByteArray.empty) = true := decide_eq_true y1
        rw [if_pos y1] at hv0
        (try simp +decide (implicitDefEqProofs := false) only [go_sem, ↓stk_g, ↓stk_c, ↓reduceIte, e4, e5, Int.le_refl, hR, f1])
        refine aret_pure (.inr rfl) ?_; simp +decide only [retOf, tget, if_true, if_false, ↓reduceIte, List.map_cons, List.map_nil]
        rw [hv0]; rfl
      have f1 : decide (r = ByteArray.empty) = false := decide_eq_false y1
      have f0 : (0 : Int) < (r.size : Int) := by
        rcases Nat.eq_zero_or_pos r.size with h | h
        · exact absurd (ByteArray.ext (Array.eq_empty_of_size_eq_zero h)) y1
        · omega
      rw [if_neg y1] at hv0
      by_cases y2 : bt r 0 = 58
      case neg =>
        have f2 : decide (bt r 0 ≠ 58) = true := decide_eq_true y2
        rw [if_pos y2] at hv0
        (try simp +decide (implicitDefEqProofs := false) only [go_sem, ↓stk_g, ↓stk_c, ↓reduceIte, e4, e5, Int.le_refl, hR, f1, f0, f2])
        refine aret_pure (.inr rfl) ?_; simp +decide only [retOf, tget, if_true, if_false, ↓reduceIte, List.map_cons, List.map_nil]
        rw [hv0]; rfl
      have f2 : decide (bt r 0 ≠ 58) = false := decide_eq_false (fun h => h y2)
      rw [if_neg (fun h => h y2)] at hv0
      by_cases y3 : (r.size : Int) - 1 ≤ (n : Int)
      · rw [if_pos y3] at hv0
        (try simp +decide (implicitDefEqProofs := false) only [go_sem, ↓stk_g, ↓stk_c, ↓reduceIte, e4, e5, Int.le_refl, hR, f1, f0, f2, w3, y3])
        refine aret_pure (.inr rfl) ?_; simp +decide only [retOf, tget, if_true, if_false, ↓reduceIte, List.map_cons, List.map_nil]
        rw [hv0]; rfl
      rw [if_neg y3] at hv0
      have f4 : (1 : Int) + (n : Int) < (r.size : Int) := by omega
      have f5 : (0 : Int) ≤ 1 + (n : Int) := by omega
      by_cases y4 : bt r (1 + (n : Int)) = 44
      case neg =>
        have f3 : decide (bt r (1 + (n : Int)) ≠ 44) = true := decide_eq_true y4
        rw [if_pos y4] at hv0
        (try simp +decide (implicitDefEqProofs := false) only [go_sem, ↓stk_g, ↓stk_c, ↓reduceIte, e4, e5, Int.le_refl, hR, f1, f0, f2, w3, y3, w1, f4, f5, f3])
        refine aret_pure (.inr rfl) ?_; simp +decide only [retOf, tget, if_true, if_false, ↓reduceIte, List.map_cons, List.map_nil]
        rw [hv0]; rfl
      have f3 : decide (bt r (1 + (n : Int)) ≠ 44) = false := decide_eq_false (fun h => h y4)
      rw [if_neg (fun h => h y4)] at hv0
      have f6 : (1 : Int) ≤ 1 + (n : Int) := by omega
      have f7 : (1 : Int) + (n : Int) ≤ (r.size : Int) := by omega
      have f8 : (0 : Int) ≤ 2 + (n : Int) := by omega
      have f9 : (2 : Int) + (n : Int) ≤ (r.size : Int) := by omega
      (try simp +decide (implicitDefEqProofs := false) only [go_sem, ↓stk_g, ↓stk_c, ↓reduceIte, e4, e5, Int.le_refl, hR, f1, f0, f2, w3, y3, w1, w2, f4, f5, f3, f6, f7, f8, f9])
      refine aret_pure (.inr rfl) ?_; simp +decide only [retOf, tget, if_true, if_false, ↓reduceIte, List.map_cons, List.map_nil]
      rw [hv0]; rfl
  have g2 : (k : Int) < 6 := by omega
  by_cases q3 : 48 ≤ bt s (k : Int)
  case neg =>
    have hK := hfin (.inr (.inr ⟨hk3, by unfold isDig; omega⟩))
    have hv0 : fieldV s = fieldK s k := by unfold fieldV; rw [hK]
    unfold fieldK at hv0
    clear hfin hK
    by_cases z0 : k = 0
    · have e0 : decide ((k : Int) = 0) = true := decide_eq_true (by omega)
      rw [if_pos (.inl z0)] at hv0
      (try simp +decide (implicitDefEqProofs := false) only [go_sem, ↓stk_g, ↓stk_c, ↓reduceIte, g1, g2, q3, e0])
      refine aret_pure (.inr rfl) ?_; simp +decide only [retOf, tget, if_true, if_false, ↓reduceIte, List.map_cons, List.map_nil]
      rw [hv0]; rfl
    have e0 : decide ((k : Int) = 0) = false := decide_eq_false (by omega)
    by_cases z1 : 1 < k ∧ bt s 0 = 48
    · have e1 : (1 : Int) < (k : Int) := by have := z1.1; omega
      have e2 : decide (bt s 0 = 48) = true := decide_eq_true z1.2
      have e3 : (0 : Int) < (s.size : Int) := by omega
      rw [if_pos (.inr z1)] at hv0
      (try simp +decide (implicitDefEqProofs := false) only [go_sem, ↓stk_g, ↓stk_c, ↓reduceIte, g1, g2, q3, e0, e1, e2, e3])
      refine aret_pure (.inr rfl) ?_; simp +decide only [retOf, tget, if_true, if_false, ↓reduceIte, List.map_cons, List.map_nil]
      rw [hv0]; rfl
    rw [if_neg (fun h => h.elim z0 z1)] at hv0
    have hnum := num_dig (s := cutS s 0 (k : Int)) (by rw [hcut0]; intro h; have := congrArg List.length h; rw [List.length_take, List.length_nil] at this; omega) (by rw [hcut0]; exact hdt) (by rw [hcut0]; omega)
    rw [hcut0] at hnum
    have e4 : (0 : Int) ≤ (k : Int) := by omega
    have e5 : (k : Int) ≤ (s.size : Int) := by omega
    have hcs : (cutS s 0 (k : Int)).size ≤ 1000000000 := Nat.le_trans (cutS_size s 0 (k : Int)) hs
    have hgo : ∀ (K : Prop), (¬ 1 < k → K) → (1 < k → bt s 0 ≠ 48 → K) → K := fun K h1 h2 => by
      by_cases h : 1 < k
      · exact h2 h (fun e => z1 ⟨h, e⟩)
      · exact h1 h
    have e3 : (0 : Int) < (s.size : Int) := by omega
    generalize hR : cutS s (k : Int) (s.size : Int) = r at hrsz hv0
    generalize hnn : dval 0 ((bl s).take k) = n at hn6 hnum hv0
    have w1 := wrap_in (n := 1 + (n : Int)) (by omega) (by omega)
    have w2 := wrap_in (n := 2 + (n : Int)) (by omega) (by omega)
    have w3 := wrap_in (n := (r.size : Int) - 1) (by omega) (by omega)
    have z0' : (0 : Int) < (k : Int) := by omega
    refine hgo _ (fun z2 => ?_) (fun z2 z3 => ?_)
    · have e1 : ¬ (1 : Int) < (k : Int) := by omega
      (try simp +decide (implicitDefEqProofs := false) only [go_sem, ↓stk_g, ↓stk_c, ↓reduceIte, g1, g2, q3, e0, e1, e3, e4, e5])
      refine stk_pure (atoi_ok E (cutS s 0 (k : Int)) hcs) fun v hv => ?_
      obtain ⟨e, rfl, -⟩ := hv
      rw [hnum.1]
      by_cases y1 : r = ByteArray.empty
      · have f1 : decide (r = ByteArray.empty) = true := decide_eq_true y1
        rw [if_pos y1] at hv0
        (try simp +decide (implicitDefEqProofs := false) only [go_sem, ↓stk_g, ↓stk_c, ↓reduceIte, e4, e5, Int.le_refl, hR, f1])
        refine aret_pure (.inr rfl) ?_; simp +decide only [retOf, tget, if_true, if_false, ↓reduceIte, List.map_cons, List.map_nil]
        rw [hv0]; rfl
      have f1 : decide (r = ByteArray.empty) = false := decide_eq_false y1
      have f0 : (0 : Int) < (r.size : Int) := by
        rcases Nat.eq_zero_or_pos r.size with h | h
        · exact absurd (ByteArray.ext (Array.eq_empty_of_size_eq_zero h)) y1
        · omega
      rw [if_neg y1] at hv0
      by_cases y2 : bt r 0 = 58
      case neg =>
        have f2 : decide (bt r 0 ≠ 58) = true := decide_eq_true y2
        rw [if_pos y2] at hv0
        (try simp +decide (implicitDefEqProofs := false) only [go_sem, ↓stk_g, ↓stk_c, ↓reduceIte, e4, e5, Int.le_refl, hR, f1, f0, f2])
        refine aret_pure (.inr rfl) ?_; simp +decide only [retOf, tget, if_true, if_false, ↓reduceIte, List.map_cons, List.map_nil]
        rw [hv0]; rfl
      have f2 : decide (bt r 0 ≠ 58) = false := decide_eq_false (fun h => h y2)
      rw [if_neg (fun h => h y2)] at hv0
      by_cases y3 : (r.size : Int) - 1 ≤ (n : Int)
      · rw [if_pos y3] at hv0
        (try simp +decide (implicitDefEqProofs := false) only [go_sem, ↓stk_g, ↓stk_c, ↓reduceIte, e4, e5, Int.le_refl, hR, f1, f0, f2, w3, y3])
        refine aret_pure (.inr rfl) ?_; simp +decide only [retOf, tget, if_true, if_false, ↓reduceIte, List.map_cons, List.map_nil]
        rw [hv0]; rfl
      rw [if_neg y3] at hv0
      have f4 : (1 : Int) + (n : Int) < (r.size : Int) := by omega
      have f5 : (0 : Int) ≤ 1 + (n : Int) := by omega
      by_cases y4 : bt r (1 + (n : Int)) = 44
      case neg =>
        have f3 : decide (bt r (1 + (n : Int)) ≠ 44) = true := decide_eq_true y4
        rw [if_pos y4] at hv0
        (try simp +decide (implicitDefEqProofs := false) only [go_sem, ↓stk_g, ↓stk_c, ↓reduceIte, e4, e5, Int.le_refl, hR, f1, f0, f2, w3, y3, w1, f4, f5, f3])
        refine aret_pure (.inr rfl) ?_; simp +decide only [retOf, tget, if_true, if_false, ↓reduceIte, List.map_cons, List.map_nil]
        rw [hv0]; rfl
      have f3 : decide (bt r (1 + (n : Int)) ≠ 44) = false := decide_eq_false (fun h => h y4)
      rw [if_neg (fun h => h y4)] at hv0
      have f6 : (1 : Int) ≤ 1 + (n : Int) := by omega
      have f7 : (1 : Int) + (n : Int) ≤ (r.size : Int) := by omega
      have f8 : (0 : Int) ≤ 2 + (n : Int) := by omega
      have f9 : (2 : Int) + (n : Int) ≤ (r.size : Int) := by omega
      (try simp +decide (implicitDefEqProofs := false) only [go_sem, ↓stk_g, ↓stk_c, ↓reduceIte, e4, e5, Int.le_refl, hR, f1, f0, f2, w3, y3, w1, w2, f4, f5, f3, f6, f7, f8, f9])
      refine aret_pure (.inr rfl) ?_; simp +decide only [retOf, tget, if_true, if_false, ↓reduceIte, List.map_cons, List.map_nil]
      rw [hv0]; rfl
    · have e1 : (1 : Int) < (k : Int) := by omega
      have e2 : decide (bt s 0 = 48) = false := decide_eq_false z3
      (try simp +decide (implicitDefEqProofs := false) only [go_sem, ↓stk_g, ↓stk_c, ↓reduceIte, g1, g2, q3, e0, e1, e2, e3, e4, e5])
      refine stk_pure (atoi_ok E (cutS s 0 (k : Int)) hcs) fun v hv => ?_
      obtain ⟨e, rfl, -⟩ := hv
      rw [hnum.1]
      by_cases y1 : r = ByteArray.empty
      · have f1 : decide (r = ByteArray.empty) = true := decide_eq_true y1
        rw [if_pos y1] at hv0
        (try simp +decide (implicitDefEqProofs := false) only [go_sem, ↓stk_g, ↓stk_c, ↓reduceIte, e4, e5, Int.le_refl, hR, f1])
        refine aret_pure (.inr rfl) ?_; simp +decide only [retOf, tget, if_true, if_false, ↓reduceIte, List.map_cons, List.map_nil]
        rw [hv0]; rfl
      have f1 : decide (r = ByteArray.empty) = false := decide_eq_false y1
      have f0 : (0 : Int) < (r.size : Int) := by
        rcases Nat.eq_zero_or_pos r.size with h | h
        · exact absurd (ByteArray.ext (Array.eq_empty_of_size_eq_zero h)) y1
        · omega
      rw [if_neg y1] at hv0
      by_cases y2 : bt r 0 = 58
      case neg =>
        have f2 : decide (bt r 0 ≠ 58) = true := decide_eq_true y2
        rw [if_pos y2] at hv0
        (try simp +decide (implicitDefEqProofs := false) only [go_sem, ↓stk_g, ↓stk_c, ↓reduceIte, e4, e5, Int.le_refl, hR, f1, f0, f2])
        refine aret_pure (.inr rfl) ?_; simp +decide only [retOf, tget, if_true, if_false, ↓reduceIte, List.map_cons, List.map_nil]
        rw [hv0]; rfl
      have f2 : decide (bt r 0 ≠ 58) = false := decide_eq_false (fun h => h y2)
      rw [if_neg (fun h => h y2)] at hv0
      by_cases y3 : (r.size : Int) - 1 ≤ (n : Int)
      · rw [if_pos y3] at hv0
        (try simp +decide (implicitDefEqProofs := false) only [go_sem, ↓stk_g, ↓stk_c, ↓reduceIte, e4, e5, Int.le_refl, hR, f1, f0, f2, w3, y3])
        refine aret_pure (.inr rfl) ?_; simp +decide only [retOf, tget, if_true, if_false, ↓reduceIte, List.map_cons, List.map_nil]
        rw [hv0]; rfl
      rw [if_neg y3] at hv0
      have f4 : (1 : Int) + (n : Int) < (r.size : Int) := by omega
      have f5 : (0 : Int) ≤ 1 + (n : Int) := by omega
      by_cases y4 : bt r (1 + (n : Int)) = 44
      case neg =>
        have f3 : decide (bt r (1 + (n : Int)) ≠ 44) = true := decide_eq_true y4
        rw [if_pos y4] at hv0
        (try simp +decide (implicitDefEqProofs := false) only [go_sem, ↓stk_g, ↓stk_c, ↓reduceIte, e4, e5, Int.le_refl, hR, f1, f0, f2, w3, y3, w1, f4, f5, f3])
        refine aret_pure (.inr rfl) ?_; simp +decide only [retOf, tget, if_true, if_false, ↓reduceIte, List.map_cons, List.map_nil]
        rw [hv0]; rfl
      have f3 : decide (bt r (1 + (n : Int)) ≠ 44) = false := decide_eq_false (fun h => h y4)
      rw [if_neg (fun h => h y4)] at hv0
      have f6 : (1 : Int) ≤ 1 + (n : Int) := by omega
      have f7 : (1 : Int) + (n : Int) ≤ (r.size : Int) := by omega
      have f8 : (0 : Int) ≤ 2 + (n : Int) := by omega
      have f9 : (2 : Int) + (n : Int) ≤ (r.size : Int) := by omega
      (try simp +decide (implicitDefEqProofs := false) only [go_sem, ↓stk_g, ↓stk_c, ↓reduceIte, e4, e5, Int.le_refl, hR, f1, f0, f2, w3, y3, w1, w2, f4, f5, f3, f6, f7, f8, f9])
      refine aret_pure (.inr rfl) ?_; simp +decide only [retOf, tget, if_true, if_false, ↓reduceIte, List.map_cons, List.map_nil]
      rw [hv0]; rfl
  by_cases q4 : bt s (k : Int) ≤ 57
  case neg =>
    have hK := hfin (.inr (.inr ⟨hk3, by unfold isDig; omega⟩))
    have hv0 : fieldV s = fieldK s k := by unfold fieldV; rw [hK]
    unfold fieldK at hv0
    clear hfin hK
    by_cases z0 : k = 0
    · have e0 : decide ((k : Int) = 0) = true := decide_eq_true (by omega)
      rw [if_pos (.inl z0)] at hv0
      (try simp +decide (implicitDefEqProofs := false) only [go_sem, ↓stk_g, ↓stk_c, ↓reduceIte, g1, g2, q3, q4, e0])
      refine aret_pure (.inr rfl) ?_; simp +decide only [retOf, tget, if_true, if_false, ↓reduceIte, List.map_cons, List.map_nil]
      rw [hv0]; rfl
    have e0 : decide ((k : Int) = 0) = false := decide_eq_false (by omega)
    by_cases z1 : 1 < k ∧ bt s 0 = 48
    · have e1 : (1 : Int) < (k : Int) := by have := z1.1; omega
      have e2 : decide (bt s 0 = 48) = true := decide_eq_true z1.2
      have e3 : (0 : Int) < (s.size : Int) := by omega
      rw [if_pos (.inr z1)] at hv0
      (try simp +decide (implicitDefEqProofs := false) only [go_sem, ↓stk_g, ↓stk_c, ↓reduceIte, g1, g2, q3, q4, e0, e1, e2, e3])
      refine aret_pure (.inr rfl) ?_; simp +decide only [retOf, tget, if_true, if_false, ↓reduceIte, List.map_cons, List.map_nil]
      rw [hv0]; rfl
    rw [if_neg (fun h => h.elim z0 z1)] at hv0
    have hnum := num_dig (s := cutS s 0 (k : Int)) (by rw [hcut0]; intro h; have := congrArg List.length h; rw [List.length_take, List.length_nil] at this; omega) (by rw [hcut0]; exact hdt) (by rw [hcut0]; omega)
    rw [hcut0] at hnum
    have e4 : (0 : Int) ≤ (k : Int) := by omega
    have e5 : (k : Int) ≤ (s.size : Int) := by omega
    have hcs : (cutS s 0 (k : Int)).size ≤ 1000000000 := Nat.le_trans (cutS_size s 0 (k : Int)) hs
    have hgo : ∀ (K : Prop), (¬ 1 < k → K) → (1 < k → bt s 0 ≠ 48 → K) → K := fun K h1 h2 => by
      by_cases h : 1 < k
      · exact h2 h (fun e => z1 ⟨h, e⟩)
      · exact h1 h
    have e3 : (0 : Int) < (s.size : Int) := by omega
    generalize hR : cutS s (k : Int) (s.size : Int) = r at hrsz hv0
    generalize hnn : dval 0 ((bl s).take k) = n at hn6 hnum hv0
    have w1 := wrap_in (n := 1 + (n : Int)) (by omega) (by omega)
    have w2 := wrap_in (n := 2 + (n : Int)) (by omega) (by omega)
    have w3 := wrap_in (n := (r.size : Int) - 1) (by omega) (by omega)
    have z0' : (0 : Int) < (k : Int) := by omega
    refine hgo _ (fun z2 => ?_) (fun z2 z3 => ?_)
    · have e1 : ¬ (1 : Int) < (k : Int) := by omega
      (try simp +decide (implicitDefEqProofs := false) only [go_sem, ↓stk_g, ↓stk_c, ↓reduceIte, g1, g2, q3, q4, e0, e1, e3, e4, e5])
      refine stk_pure (atoi_ok E (cutS s 0 (k : Int)) hcs) fun v hv => ?_
      obtain ⟨e, rfl, -⟩ := hv
      rw [hnum.1]
      by_cases y1 : r = ByteArray.empty
      · have f1 : decide (r = ByteArray.empty) = true := decide_eq_true y1
        rw [if_pos y1] at hv0
        (try simp +decide (implicitDefEqProofs := false) only [go_sem, ↓stk_g, ↓stk_c, ↓reduceIte, e4, e5, Int.le_refl, hR, f1])
        refine aret_pure (.inr rfl) ?_; simp +decide only [retOf, tget, if_true, if_false, ↓reduceIte, List.map_cons, List.map_nil]
        rw [hv0]; rfl
      have f1 : decide (r = ByteArray.empty) = false := decide_eq_false y1
      have f0 : (0 : Int) < (r.size : Int) := by
        rcases Nat.eq_zero_or_pos r.size with h | h
        · exact absurd (ByteArray.ext (Array.eq_empty_of_size_eq_zero h)) y1
        · omega
      rw [if_neg y1] at hv0
      by_cases y2 : bt r 0 = 58
      case neg =>
        have f2 : decide (bt r 0 ≠ 58) = true := decide_eq_true y2
        rw [if_pos y2] at hv0
        (try simp +decide (implicitDefEqProofs := false) only [go_sem, ↓stk_g, ↓stk_c, ↓reduceIte, e4, e5, Int.le_refl, hR, f1, f0, f2])
        refine aret_pure (.inr rfl) ?_; simp +decide only [retOf, tget, if_true, if_false, ↓reduceIte, List.map_cons, List.map_nil]
        rw [hv0]; rfl
      have f2 : decide (bt r 0 ≠ 58) = false := decide_eq_false (fun h => h y2)
      rw [if_neg (fun h => h y2)] at hv0
      by_cases y3 : (r.size : Int) - 1 ≤ (n : Int)
      · rw [if_pos y3] at hv0
        (try simp +decide (implicitDefEqProofs := false) only [go_sem, ↓stk_g, ↓stk_c, ↓reduceIte, e4, e5, Int.le_refl, hR, f1, f0, f2, w3, y3])
        refine aret_pure (.inr rfl) ?_; simp +decide only [retOf, tget, if_true, if_false, ↓reduceIte, List.map_cons, List.map_nil]
        rw [hv0]; rfl
      rw [if_neg y3] at hv0
      have f4 : (1 : Int) + (n : Int) < (r.size : Int) := by omega
      have f5 : (0 : Int) ≤ 1 + (n : Int) := by omega
      by_cases y4 : bt r (1 + (n : Int)) = 44
      case neg =>
        have f3 : decide (bt r (1 + (n : Int)) ≠ 44) = true := decide_eq_true y4
        rw [if_pos y4] at hv0
        (try simp +decide (implicitDefEqProofs := false) only [go_sem, ↓stk_g, ↓stk_c, ↓reduceIte, e4, e5, Int.le_refl, hR, f1, f0, f2, w3, y3, w1, f4, f5, f3])
        refine aret_pure (.inr rfl) ?_; simp +decide only [retOf, tget, if_true, if_false, ↓reduceIte, List.map_cons, List.map_nil]
        rw [hv0]; rfl
      have f3 : decide (bt r (1 + (n : Int)) ≠ 44) = false := decide_eq_false (fun h => h y4)
      rw [if_neg (fun h => h y4)] at hv0
      have f6 : (1 : Int) ≤ 1 + (n : Int) := by omega
      have f7 : (1 : Int) + (n : Int) ≤ (r.size : Int) := by omega
      have f8 : (0 : Int) ≤ 2 + (n : Int) := by omega
      have f9 : (2 : Int) + (n : Int) ≤ (r.size : Int) := by omega
      (try simp +decide (implicitDefEqProofs := false) only [go_sem, ↓stk_g, ↓stk_c, ↓reduceIte, e4, e5, Int.le_refl, hR, f1, f0, f2, w3, y3, w1, w2, f4, f5, f3, f6, f7, f8, f9])
      refine aret_pure (.inr rfl) ?_; simp +decide only [retOf, tget, if_true, if_false, ↓reduceIte, List.map_cons, List.map_nil]
      rw [hv0]; rfl
    · have e1 : (1 : Int) < (k : Int) := by omega
      have e2 : decide (bt s 0 = 48) = false := decide_eq_false z3
      (try simp +decide (implicitDefEqProofs := false) only [go_sem, ↓stk_g, ↓stk_c, ↓reduceIte, g1, g2, q3, q4, e0, e1, e2, e3, e4, e5])
      refine stk_pure (atoi_ok E (cutS s 0 (k : Int)) hcs) fun v hv => ?_
      obtain ⟨e, rfl, -⟩ := hv
      rw [hnum.1]
      by_cases y1 : r = ByteArray.empty
      · have f1 : decide (r = ByteArray.empty) = true := decide_eq_true y1
        rw [if_pos y1] at hv0
        (try simp +decide (implicitDefEqProofs := false) only [go_sem, ↓stk_g, ↓stk_c, ↓reduceIte, e4, e5, Int.le_refl, hR, f1])
        refine aret_pure (.inr rfl) ?_; simp +decide only [retOf, tget, if_true, if_false, ↓reduceIte, List.map_cons, List.map_nil]
        rw [hv0]; rfl
      have f1 : decide (r = ByteArray.empty) = false := decide_eq_false y1
      have f0 : (0 : Int) < (r.size : Int) := by
        rcases Nat.eq_zero_or_pos r.size with h | h
        · exact absurd (ByteArray.ext (Array.eq_empty_of_size_eq_zero h)) y1
        · omega
      rw [if_neg y1] at hv0
      by_cases y2 : bt r 0 = 58
      case neg =>
        have f2 : decide (bt r 0 ≠ 58) = true := decide_eq_true y2
        rw [if_pos y2] at hv0
        (try simp +decide (implicitDefEqProofs := false) only [go_sem, ↓stk_g, ↓stk_c, ↓reduceIte, e4, e5, Int.le_refl, hR, f1, f0, f2])
        refine aret_pure (.inr rfl) ?_; simp +decide only [retOf, tget, if_true, if_false, ↓reduceIte, List.map_cons, List.map_nil]
        rw [hv0]; rfl
      have f2 : decide (bt r 0 ≠ 58) = false := decide_eq_false (fun h => h y2)
      rw [if_neg (fun h => h y2)] at hv0
      by_cases y3 : (r.size : Int) - 1 ≤ (n : Int)
      · rw [if_pos y3] at hv0
        (try simp +decide (implicitDefEqProofs := false) only [go_sem, ↓stk_g, ↓stk_c, ↓reduceIte, e4, e5, Int.le_refl, hR, f1, f0, f2, w3, y3])
        refine aret_pure (.inr rfl) ?_; simp +decide only [retOf, tget, if_true, if_false, ↓reduceIte, List.map_cons, List.map_nil]
        rw [hv0]; rfl
      rw [if_neg y3] at hv0
      have f4 : (1 : Int) + (n : Int) < (r.size : Int) := by omega
      have f5 : (0 : Int) ≤ 1 + (n : Int) := by omega
      by_cases y4 : bt r (1 + (n : Int)) = 44
      case neg =>
        have f3 : decide (bt r (1 + (n : Int)) ≠ 44) = true := decide_eq_true y4
        rw [if_pos y4] at hv0
        (try simp +decide (implicitDefEqProofs := false) only [go_sem, ↓stk_g, ↓stk_c, ↓reduceIte, e4, e5, Int.le_refl, hR, f1, f0, f2, w3, y3, w1, f4, f5, f3])
        refine aret_pure (.inr rfl) ?_; simp +decide only [retOf, tget, if_true, if_false, ↓reduceIte, List.map_cons, List.map_nil]
        rw [hv0]; rfl
      have f3 : decide (bt r (1 + (n : Int)) ≠ 44) = false := decide_eq_false (fun h => h y4)
      rw [if_neg (fun h => h y4)] at hv0
      have f6 : (1 : Int) ≤ 1 + (n : Int) := by omega
      have f7 : (1 : Int) + (n : Int) ≤ (r.size : Int) := by omega
      have f8 : (0 : Int) ≤ 2 + (n : Int) := by omega
      have f9 : (2 : Int) + (n : Int) ≤ (r.size : Int) := by omega
      (try simp +decide (implicitDefEqProofs := false) only [go_sem, ↓stk_g, ↓stk_c, ↓reduceIte, e4, e5, Int.le_refl, hR, f1, f0, f2, w3, y3, w1, w2, f4, f5, f3, f6, f7, f8, f9])
      refine aret_pure (.inr rfl) ?_; simp +decide only [retOf, tget, if_true, if_false, ↓reduceIte, List.map_cons, List.map_nil]
      rw [hv0]; rfl
  (try simp +decide (implicitDefEqProofs := false) only [go_sem, ↓stk_g, ↓stk_c, ↓reduceIte, g1, g2, q3, q4, hw])
  refine ⟨by omega, (), Weak.list _ (Sub.refl _) (by (try simp +decide (implicitDefEqProofs := false) only [go_sem, ↓stk_g, ↓stk_c, ↓reduceIte])), by omega, fun j hj h => ?_⟩
  by_cases e : j = k
  · subst e; unfold isDig; omega
  · exact hdig j hj (by omega)
def c_mnumber : AFn := ⟨1, 13, [2],
  .seq (.ops [⟨(some 2), none, .q (.mv (.const (.int .i64 0)))⟩])
  (.seq (.ops [⟨(some 6), none, .q (.mv (.tmp 0))⟩,
      ⟨(some 7), none, .e (.call 55 [(.tmp 6)])⟩,
      ⟨(some 5), none, .q (.mv (.tmp 7))⟩,
      ⟨(some 8), none, .q (.ext (.tmp 5) 0)⟩,
      ⟨(some 9), none, .q (.ext (.tmp 5) 1)⟩,
      ⟨(some 3), none, .q (.mv (.tmp 8))⟩,
      ⟨(some 4), none, .q (.mv (.tmp 9))⟩])
  (.seq (.seq (.ops [⟨(some 10), none, .q (.mv (.tmp 4))⟩,
      ⟨(some 11), none, .q (.isn true (.tmp 10))⟩])
  (.cond (.tmp 11)
    (.seq (.ops [⟨(some 2), none, .q (.mv (.const (.int .i64 (-1))))⟩])
    (.ret))
    (.skip)))
  (.seq (.ops [⟨(some 12), none, .q (.mv (.tmp 3))⟩,
      ⟨(some 2), none, .q (.mv (.tmp 12))⟩])
  (.ret)))), []⟩
theorem k_mnumber : compF Tryz.prog 28 = some c_mnumber := by kernel_rfl
set_option maxHeartbeats 2000000 in
theorem mnumber_ok {W : World} (E : Errs W) (s : Str) (hs : s.size ≤ 1000000000) : ACalls Tryz.prog W 28 [.v (.string s)] AHeap.none fun v _ => v = .v (.int .i64 (numN s)) := by
  refine fn_run follows k_mnumber rfl ?_
  simp only [c_mnumber, aretC_nil, List.zipIdx_cons, List.zipIdx_nil, List.map_cons, List.map_nil, Nat.zero_add]
  (try simp +decide (implicitDefEqProofs := false) only [go_sem, ↓stk_g, ↓stk_c, ↓reduceIte])
  refine stk_pure (atoi_ok E s hs) fun v hv => ?_
  obtain ⟨e, rfl, he⟩ := hv
  unfold numN
  rcases he with ⟨h, rfl⟩ | ⟨h, t, x, rfl⟩
  · rw [if_pos h]
    (try simp +decide (implicitDefEqProofs := false) only [go_sem, ↓stk_g, ↓stk_c, ↓reduceIte])
    refine aret_pure (.inr rfl) ?_; simp +decide only [retOf, tget, if_true, if_false, ↓reduceIte, List.map_cons, List.map_nil]
    try rfl
  · rw [if_neg (by rw [h]; simp)]
    (try simp +decide (implicitDefEqProofs := false) only [go_sem, ↓stk_g, ↓stk_c, ↓reduceIte])
    refine aret_pure (.inr rfl) ?_; simp +decide only [retOf, tget, if_true, if_false, ↓reduceIte, List.map_cons, List.map_nil]
    try rfl
end Go.Proofs.YtcplmaffccfbdaaGreatDoor.M
