/-
  The document's own texts of messages; the law MsgTexts: walked.
-/
import Derived.Test.YtcplmaffccfbdaaGreatDoorQf
import Derived.Test.YtcplmaffccfbdaaGreatDoorPr5
namespace Go.Proofs.YtcplmaffccfbdaaGreatDoor.M
open Go.RowKit
attribute [local go_sem] stk_nil stk_skip stk_ops stk_seq stk_block stk_scope stk_exit stk_ret stk_code_exit stk_code_ret stk_ops_exit stk_ops_ret stk_endb stk_endb_exit stk_endb_ret stk_endl stk_endl_exit stk_endl_ret stk_ops_nil stk_q stk_niq niqA flip srcOf stk_bsl side val bside bval uside uval cside cval bndS bndV intA isInt lside lval fside fval faside faval iside ival sxside sxval sizeA slside slval llside llval lenside lenval lenA tupA mmside mmval nkside boolA isBool ev_t ev_c tget put_s put_n lkside lkval menval stk_mk Option.isSome_some isMapA mapA keyA FZ_rfl FZ_any retOf true_and and_true if_true if_false decide_true decide_false Bool.not_true Bool.not_false Nat.zero_add List.map_cons List.map_nil Int.toNat_natCast strRows_len intRows_len List.getD_cons_zero List.getD_cons_succ List.length_cons List.length_nil List.forall_mem_cons List.not_mem_nil false_implies implies_true Int.ofNat_zero Int.natCast_add Int.natCast_one Int.ofNat_one Int.natCast_zero isB isU Bool.false_eq_true beq_self_eq_true Bool.false_beq Bool.true_beq Int.natCast_nonneg undef strRows_take strRows_drop Int.toNat_zero List.drop_zero Bool.and_true oneOr List.all_cons List.all_nil AVal.one Value.oneCell' Bool.true_and List.take_length stk_st' stside stH hp_self hp_hp isnside isnval lay List.take_succ_cons List.take_zero List.drop_succ_cons List.nil_append List.cons_append Option.getD_some List.append_nil and_self
set_option linter.unusedVariables false
set_option linter.unusedSimpArgs false
def c_decimal15 : AFn := ⟨1, 23, [2],
  .seq (.ops [⟨(some 2), none, .q (.mv (.const (.string ByteArray.empty)))⟩])
  (.seq (.ops [⟨(some 3), none, .q (.mv (.const (.string ByteArray.empty)))⟩])
  (.seq (.block 0 (.loop (.seq (.seq (.ops [⟨(some 4), none, .q (.mv (.tmp 0))⟩,
          ⟨(some 5), none, .q (.bin .geq .num (.tmp 4) (.const (.int .i64 10)))⟩])
      (.cond (.tmp 5)
        (.skip)
        (.exit 0)))
      (.block 1 (.seq (.ops [⟨(some 6), none, .q (.mv (.tmp 0))⟩,
            ⟨(some 7), none, .q (.bin .rem .num (.tmp 6) (.const (.int .i64 10)))⟩,
            ⟨(some 8), none, .q (.bin .add .num (.const (.int .i64 48)) (.tmp 7))⟩,
            ⟨(some 9), none, .q (.cv (.int .u8) (.tmp 8))⟩,
            ⟨(some 10), none, .e (.bsl 5 1 [(.tmp 9)])⟩,
            ⟨(some 11), none, .e (.b2s (.tmp 10))⟩,
            ⟨(some 12), none, .q (.mv (.tmp 3))⟩,
            ⟨(some 13), none, .q (.bin .add .num (.tmp 11) (.tmp 12))⟩,
            ⟨(some 3), none, .q (.mv (.tmp 13))⟩])
        (.ops [⟨(some 14), none, .q (.mv (.tmp 0))⟩,
            ⟨(some 15), none, .q (.bin .quo .num (.tmp 14) (.const (.int .i64 10)))⟩,
            ⟨(some 0), none, .q (.mv (.tmp 15))⟩]))))))
  (.seq (.ops [⟨(some 16), none, .q (.mv (.tmp 0))⟩,
      ⟨(some 17), none, .q (.bin .add .num (.const (.int .i64 48)) (.tmp 16))⟩,
      ⟨(some 18), none, .q (.cv (.int .u8) (.tmp 17))⟩,
      ⟨(some 19), none, .e (.bsl 5 1 [(.tmp 18)])⟩,
      ⟨(some 20), none, .e (.b2s (.tmp 19))⟩,
      ⟨(some 21), none, .q (.mv (.tmp 3))⟩,
      ⟨(some 22), none, .q (.bin .add .num (.tmp 20) (.tmp 21))⟩,
      ⟨(some 2), none, .q (.mv (.tmp 22))⟩])
  (.ret)))), []⟩
theorem k_decimal15 : compF Tryz.prog 18 = some c_decimal15 := by kernel_rfl
set_option maxHeartbeats 4000000 in
theorem decimal15_ok {W : World} (n : Int) (h0 : 0 ≤ n) (h1 : n ≤ 1000000) : ACalls Tryz.prog W 18 [.v (.int .i64 n)] AHeap.none fun v _ => v = .v (.string (itoaS n)) := by
  obtain ⟨k, rfl⟩ : ∃ k : Nat, n = k := ⟨n.toNat, by omega⟩
  refine fn_run follows k_decimal15 rfl ?_
  simp only [c_decimal15, aretC_nil, List.zipIdx_cons, List.zipIdx_nil, List.map_cons, List.map_nil, Nat.zero_add]
  (try simp +decide (implicitDefEqProofs := false) only [go_sem, ↓stk_g, ↓stk_c, ↓reduceIte])
  refine stk_up (α := Nat × Str) k (fun i a => ⟨[(0, .v (.int .i64 a.1)), (3, .v (.string a.2))], AHeap.none⟩) (fun i a => Lib.decDigits k = Lib.decDigits a.1 ++ bl a.2 ∧ a.1 + i ≤ k ∧ a.2.size ≤ i) (k, ByteArray.empty) (Weak.list _ (Sub.refl _) (by (try simp +decide (implicitDefEqProofs := false) only [go_sem, ↓stk_g, ↓stk_c, ↓reduceIte]))) ⟨by simp [bl], by simp, by simp⟩ ?_
  rintro i ⟨m, t⟩ hi ⟨hJ1, hJ2, hJ3⟩
  dsimp only at hJ1 hJ2 hJ3 ⊢
  by_cases hm : m < 10
  · have g1 : ¬ (10 : Int) ≤ (m : Int) := by omega
    have w1 := wrap_in (n := 48 + (m : Int)) (by omega) (by omega)
    have v1 := u8_in (n := 48 + (m : Int)) (by omega) (by omega)
    have hz : (digS m).size = 1 := rfl
    have hz2 : 1 + t.size ≤ 9223372036854775807 := by omega
    (try simp +decide (implicitDefEqProofs := false) only [go_sem, ↓stk_g, ↓stk_c, ↓reduceIte, g1, w1, v1])
    refine stk_b2s (digS m) (by rfl) (by rfl) (digS_bytes hm) ?_
    (try simp +decide (implicitDefEqProofs := false) only [go_sem, ↓stk_g, ↓stk_c, ↓reduceIte, hz, hz2])
    refine aret_pure (.inr rfl) ?_; simp +decide only [retOf, tget, if_true, if_false, ↓reduceIte, List.map_cons, List.map_nil]
    have : digS m ++ t = itoaS (k : Int) := bl_inj (by rw [bl_app, bl_itoa, hJ1, dec_end hm])
    rw [← this]
  · have g1 : (10 : Int) ≤ (m : Int) := by omega
    have r1 : (m : Int).tmod 10 = ((m % 10 : Nat) : Int) := by rw [Int.tmod_eq_emod_of_nonneg (by omega)]; omega
    have r2 : (m : Int).tdiv 10 = ((m / 10 : Nat) : Int) := by rw [Int.tdiv_eq_ediv_of_nonneg (by omega)]; omega
    have hd := dec_step hm
    have b1 : m % 10 < 10 := by omega
    have b2 : m / 10 + (i + 1) ≤ k := by omega
    have hb := digS_bytes b1
    have hz : (digS (m % 10)).size = 1 := rfl
    generalize m % 10 = d at r1 hd b1 hb hz
    generalize m / 10 = q at r2 hd b2
    have w0 := wrap_in (n := (q : Int)) (by omega) (by omega)
    have w1 := wrap_in (n := 48 + (d : Int)) (by omega) (by omega)
    have v1 := u8_in (n := 48 + (d : Int)) (by omega) (by omega)
    have hz2 : 1 + t.size ≤ 9223372036854775807 := by omega
    (try simp +decide (implicitDefEqProofs := false) only [go_sem, ↓stk_g, ↓stk_c, ↓reduceIte, g1, r1, r2, w0, w1, v1])
    refine stk_b2s (digS d) (by rfl) (by rfl) hb ?_
    (try simp +decide (implicitDefEqProofs := false) only [go_sem, ↓stk_g, ↓stk_c, ↓reduceIte, hz, hz2, r2, w0])
    refine ⟨by omega, (q, digS d ++ t), Weak.list _ (Sub.refl _) (by (try simp +decide (implicitDefEqProofs := false) only [go_sem, ↓stk_g, ↓stk_c, ↓reduceIte])), ?_, b2, ?_⟩
    · dsimp only
      rw [bl_app, ← List.append_assoc, ← hd]; exact hJ1
    · dsimp only
      rw [ByteArray.size_append, hz]; omega
def c_Field15 : AFn := ⟨1, 10, [2],
  .seq (.ops [⟨(some 2), none, .q (.mv (.const (.string ByteArray.empty)))⟩])
  (.seq (.ops [⟨(some 3), none, .q (.mv (.tmp 0))⟩,
      ⟨(some 4), none, .q (.len true (.tmp 3))⟩,
      ⟨(some 5), none, .e (.call 18 [(.tmp 4)])⟩,
      ⟨(some 6), none, .q (.bin .add .num (.tmp 5) (.const (.string ⟨#[58]⟩)))⟩,
      ⟨(some 7), none, .q (.mv (.tmp 0))⟩,
      ⟨(some 8), none, .q (.bin .add .num (.tmp 6) (.tmp 7))⟩,
      ⟨(some 9), none, .q (.bin .add .num (.tmp 8) (.const (.string ⟨#[44]⟩)))⟩,
      ⟨(some 2), none, .q (.mv (.tmp 9))⟩])
  (.ret)), []⟩
theorem k_Field15 : compF Tryz.prog 17 = some c_Field15 := by kernel_rfl
set_option maxHeartbeats 2000000 in
theorem field15_ok {W : World} (s : Str) (hs : s.size ≤ 1000000) : ACalls Tryz.prog W 17 [.v (.string s)] AHeap.none fun v _ => v = .v (.string (fieldS s)) := by
  refine fn_run follows k_Field15 rfl ?_
  simp only [c_Field15, aretC_nil, List.zipIdx_cons, List.zipIdx_nil, List.map_cons, List.map_nil, Nat.zero_add]
  (try simp +decide (implicitDefEqProofs := false) only [go_sem, ↓stk_g, ↓stk_c, ↓reduceIte])
  refine stk_pure (decimal15_ok (s.size : Int) (by omega) (by omega)) fun v hv => ?_
  subst hv
  have h1 := itoaS_size (n := (s.size : Int)) (by omega) (by omega)
  have h2 : (⟨#[58]⟩ : ByteArray).size = 1 := rfl
  have h3 : (⟨#[44]⟩ : ByteArray).size = 1 := rfl
  have s1 : (itoaS (s.size : Int)).size + 1 ≤ 9223372036854775807 := by omega
  have s2 : (itoaS (s.size : Int)).size + 1 + s.size ≤ 9223372036854775807 := by omega
  have s3 : (itoaS (s.size : Int)).size + 1 + s.size + 1 ≤ 9223372036854775807 := by omega
  (try simp +decide (implicitDefEqProofs := false) only [go_sem, ↓stk_g, ↓stk_c, ↓reduceIte, ByteArray.size_append, h2, h3, s1, s2, s3])
  refine aret_pure (.inr rfl) ?_; simp +decide only [retOf, tget, if_true, if_false, ↓reduceIte, List.map_cons, List.map_nil]
  try rfl
theorem strLt_empty' (x : Str) : strLt x ByteArray.empty = false := by
  cases h : strLt x ByteArray.empty
  · rfl
  · have := (strLt_eq x ByteArray.empty).1 h
    have h2 : bytesL x < [] := this
    exact absurd h2 (List.not_lt_nil _)
theorem gtS_lt (x y : Str) : gtS x y = strLt y x := by
  unfold gtS
  cases h1 : strLt y x
  · rcases Lt.total x y with h | h | h
    · rw [(strLt_eq x y).2 h]; rfl
    · rw [decide_eq_true h, Bool.or_true]; rfl
    · rw [(strLt_eq y x).2 h] at h1; cases h1
  · have h2 := (strLt_eq y x).1 h1
    have h3 : strLt x y = false := by
      cases h : strLt x y
      · rfl
      · exact absurd (Lt.trans ((strLt_eq x y).1 h) h2) (Lt.irrefl _)
    rw [h3, decide_eq_false (fun e => by rw [e] at h2; exact Lt.irrefl _ h2)]; rfl
theorem strLt_pos {x : Str} (h : x ≠ ByteArray.empty) : strLt ByteArray.empty x = true := by
  rcases Lt.total ByteArray.empty x with k | k | k
  · exact (strLt_eq _ _).2 k
  · exact absurd k.symm h
  · have h2 : bytesL x < [] := k
    exact absurd h2 (List.not_lt_nil _)
def c_rises15 : AFn := ⟨1, 43, [2],
  .seq (.ops [⟨(some 2), none, .q (.mv (.const (.bool false)))⟩])
  (.seq (.seq (.ops [⟨(some 3), none, .q (.mv (.const (.int .i64 0)))⟩])
  (.block 0 (.loop (.seq (.seq (.ops [⟨(some 4), none, .q (.mv (.tmp 3))⟩,
          ⟨(some 5), none, .q (.mv (.tmp 0))⟩,
          ⟨(some 6), none, .q (.len false (.tmp 5))⟩,
          ⟨(some 7), none, .q (.bin .lss .num (.tmp 4) (.tmp 6))⟩])
      (.cond (.tmp 7)
        (.skip)
        (.exit 0)))
      (.seq (.block 1 (.seq (.ops [⟨(some 10), none, .q (.mv (.tmp 0))⟩,
            ⟨(some 11), none, .q (.mv (.tmp 3))⟩,
            ⟨(some 12), none, .q (.ixa 1 (.tmp 10) (.tmp 11))⟩,
            ⟨(some 13), none, .q (.ld false 1 (.tmp 12))⟩,
            ⟨(some 14), none, .q (.len true (.tmp 13))⟩,
            ⟨(some 15), none, .q (.bin .lss .num (.tmp 14) (.const (.int .i64 1)))⟩,
            ⟨(some 16), none, .q (.mv (.tmp 15))⟩,
            ⟨(some 17), (some (16, false)), .q (.mv (.tmp 0))⟩,
            ⟨(some 18), (some (16, false)), .q (.mv (.tmp 3))⟩,
            ⟨(some 19), (some (16, false)), .q (.ixa 1 (.tmp 17) (.tmp 18))⟩,
            ⟨(some 20), (some (16, false)), .q (.ld false 1 (.tmp 19))⟩,
            ⟨(some 21), (some (16, false)), .q (.len true (.tmp 20))⟩,
            ⟨(some 22), (some (16, false)), .q (.bin .gtr .num (.tmp 21) (.const (.int .i64 16)))⟩,
            ⟨(some 23), none, .q (.pick (.tmp 16) (.const (.bool true)) (.tmp 22))⟩,
            ⟨(some 24), none, .q (.mv (.tmp 23))⟩,
            ⟨(some 25), (some (24, false)), .q (.mv (.tmp 3))⟩,
            ⟨(some 26), (some (24, false)), .q (.bin .gtr .num (.tmp 25) (.const (.int .i64 0)))⟩,
            ⟨(some 27), (some (24, false)), .q (.mv (.tmp 26))⟩,
            ⟨(some 28), (some (27, true)), .q (.mv (.tmp 0))⟩,
            ⟨(some 29), (some (27, true)), .q (.mv (.tmp 3))⟩,
            ⟨(some 30), (some (27, true)), .q (.bin .sub .num (.tmp 29) (.const (.int .i64 1)))⟩,
            ⟨(some 31), (some (27, true)), .q (.ixa 1 (.tmp 28) (.tmp 30))⟩,
            ⟨(some 32), (some (27, true)), .q (.ld false 1 (.tmp 31))⟩,
            ⟨(some 33), (some (27, true)), .q (.mv (.tmp 0))⟩,
            ⟨(some 34), (some (27, true)), .q (.mv (.tmp 3))⟩,
            ⟨(some 35), (some (27, true)), .q (.ixa 1 (.tmp 33) (.tmp 34))⟩,
            ⟨(some 36), (some (27, true)), .q (.ld false 1 (.tmp 35))⟩,
            ⟨(some 37), (some (27, true)), .q (.bin .geq .num (.tmp 32) (.tmp 36))⟩,
            ⟨(some 38), (some (24, false)), .q (.pick (.tmp 27) (.tmp 37) (.const (.bool false)))⟩,
            ⟨(some 39), none, .q (.pick (.tmp 24) (.const (.bool true)) (.tmp 38))⟩])
        (.cond (.tmp 39)
          (.seq (.ops [⟨(some 2), none, .q (.mv (.const (.bool false)))⟩])
          (.ret))
          (.skip))))
      (.ops [⟨(some 8), none, .q (.mv (.tmp 3))⟩,
          ⟨(some 9), none, .q (.bin .add .num (.tmp 8) (.const (.int .i64 1)))⟩,
          ⟨(some 3), none, .q (.mv (.tmp 9))⟩]))))))
  (.seq (.ops [⟨(some 40), none, .q (.mv (.tmp 0))⟩,
      ⟨(some 41), none, .q (.len false (.tmp 40))⟩,
      ⟨(some 42), none, .q (.bin .leq .num (.tmp 41) (.const (.int .i64 64)))⟩,
      ⟨(some 2), none, .q (.mv (.tmp 42))⟩])
  (.ret))), []⟩
theorem k_rises15 : compF Tryz.prog 25 = some c_rises15 := by kernel_rfl
set_option maxHeartbeats 4000000 in
theorem rises15_ok {W : World} {f : Bool} (l : List Str) (hl : l.length ≤ 1000000) : ACalls Tryz.prog W 25 [.sl f 1 (strRows l)] AHeap.none fun v _ => v = .v (.bool (riseIds ByteArray.empty l && decide (l.length ≤ 64))) := by
  refine fn_run follows k_rises15 rfl ?_
  simp only [c_rises15, aretC_nil, List.zipIdx_cons, List.zipIdx_nil, List.map_cons, List.map_nil, Nat.zero_add]
  (try simp +decide (implicitDefEqProofs := false) only [go_sem, ↓stk_g, ↓stk_c, ↓reduceIte])
  refine stk_up (α := Str) l.length (fun i _ => ⟨[(3, .v (.int .i64 i)), (0, .sl f 1 (strRows l))], AHeap.none⟩) (fun i a => riseIds ByteArray.empty l = riseIds a (l.drop i) ∧ (i = 0 → a = ByteArray.empty) ∧ (∀ k, i = k + 1 → a = l.getD k ByteArray.empty)) ByteArray.empty (Weak.list _ (Sub.refl _) ?_) ⟨by rw [List.drop_zero], fun _ => rfl, fun k h => by omega⟩ ?_
  · (try simp +decide (implicitDefEqProofs := false) only [go_sem, ↓stk_g, ↓stk_c, ↓reduceIte])
    first | done | exact FZ.refl _
  rintro i a hi ⟨hJ, ha0, hak⟩
  by_cases hlt : i < l.length
  · have g1 : (i : Int) < (l.length : Int) := by omega
    have hg := strRows_get hlt
    rw [drop_cons (d := ByteArray.empty) hlt, riseIds] at hJ
    unfold stepS at hJ
    rw [gtS_lt] at hJ
    by_cases c1 : ((l.getD i ByteArray.empty).size : Int) < 1
    · (try simp +decide (implicitDefEqProofs := false) only [go_sem, ↓stk_g, ↓stk_c, ↓reduceIte, g1, hlt, hg, c1])
      refine aret_pure (.inr rfl) ?_; simp +decide only [retOf, tget, if_true, if_false, ↓reduceIte, List.map_cons, List.map_nil]
      have hx : l.getD i ByteArray.empty = ByteArray.empty := by
        rcases Nat.eq_zero_or_pos (l.getD i ByteArray.empty).size with h | h
        · exact ByteArray.ext (Array.eq_empty_of_size_eq_zero h)
        · omega
      rw [hJ, hx, strLt_empty']; rfl
    by_cases c2 : (16 : Int) < ((l.getD i ByteArray.empty).size : Int)
    · (try simp +decide (implicitDefEqProofs := false) only [go_sem, ↓stk_g, ↓stk_c, ↓reduceIte, g1, hlt, hg, c1, c2])
      refine aret_pure (.inr rfl) ?_; simp +decide only [retOf, tget, if_true, if_false, ↓reduceIte, List.map_cons, List.map_nil]
      rw [hJ, decide_eq_false (by omega), Bool.and_false]; rfl
    rw [decide_eq_true (by omega), Bool.and_true] at hJ
    rcases i with _ | k
    · have hw := wrap_in (n := ((0 : Nat) : Int) + 1) (by omega) (by omega)
      have hx : l.getD 0 ByteArray.empty ≠ ByteArray.empty := fun e => by
        rw [e] at c1
        exact c1 (by decide)
      rw [ha0 rfl, strLt_pos hx, Bool.true_and] at hJ
      have hw2 : IntKind.i64.wrap (0 + 1) = 1 := rfl
      have g0 : (0 : Int) < (l.length : Int) := by omega
      have hak2 : ∀ k, 0 + 1 = k + 1 → l.getD 0 ByteArray.empty = l.getD k ByteArray.empty := fun k h => by rw [show k = 0 by omega]
      have h00 : 0 + 1 = 0 → l.getD 0 ByteArray.empty = ByteArray.empty := fun h => by omega
      (try simp +decide (implicitDefEqProofs := false) only [go_sem, ↓stk_g, ↓stk_c, ↓reduceIte, g1, g0, hlt, hg, c1, c2, hw, hw2])
      first | exact ⟨by omega, l.getD 0 ByteArray.empty, Weak.list _ (Sub.refl _) (by (try simp +decide (implicitDefEqProofs := false) only [go_sem, ↓stk_g, ↓stk_c, ↓reduceIte, hw2])), hJ, h00, hak2⟩ | exact ⟨l.getD 0 ByteArray.empty, Weak.list _ (Sub.refl _) (by (try simp +decide (implicitDefEqProofs := false) only [go_sem, ↓stk_g, ↓stk_c, ↓reduceIte, hw2])), hJ, h00, hak2⟩ | exact ⟨by omega, l.getD 0 ByteArray.empty, Weak.list _ (Sub.refl _) (by (try simp +decide (implicitDefEqProofs := false) only [go_sem, ↓stk_g, ↓stk_c, ↓reduceIte, hw2])), hJ, hak2⟩ | exact ⟨l.getD 0 ByteArray.empty, Weak.list _ (Sub.refl _) (by (try simp +decide (implicitDefEqProofs := false) only [go_sem, ↓stk_g, ↓stk_c, ↓reduceIte, hw2])), hJ, hak2⟩
    · have ha := hak k rfl
      have hk0 : k < l.length := by omega
      have g2 : (k : Int) < (l.length : Int) := by omega
      have g1' : (k : Int) + 1 < (l.length : Int) := by omega
      have g3 : (0 : Int) < (k : Int) + 1 := by omega
      have g3' : (0 : Int) ≤ (k : Int) + 1 := by omega
      have g4 : ((k : Int) + 1).toNat = k + 1 := by omega
      have hw := wrap_in (n := (k : Int) + 1 + 1) (by omega) (by omega)
      have hw2 : IntKind.i64.wrap ((k : Int) + 1 - 1) = (k : Int) := by rw [IntKind.wrap_i64]; omega
      have hg2 := strRows_get hk0
      subst ha
      cases hs : strLt (l.getD k ByteArray.empty) (l.getD (k + 1) ByteArray.empty)
      · rw [hs] at hJ
        (try simp +decide (implicitDefEqProofs := false) only [go_sem, ↓stk_g, ↓stk_c, ↓reduceIte, g1', g2, g3, g3', g4, hk0, hlt, hg, hg2, c1, c2, hw2, hs])
        refine aret_pure (.inr rfl) ?_; simp +decide only [retOf, tget, if_true, if_false, ↓reduceIte, List.map_cons, List.map_nil]
        rw [hJ]; rfl
      · rw [hs, Bool.true_and] at hJ
        (try simp +decide (implicitDefEqProofs := false) only [go_sem, ↓stk_g, ↓stk_c, ↓reduceIte, g1', g2, g3, g3', g4, hk0, hlt, hg, hg2, c1, c2, hw, hw2, hs])
        first | exact ⟨by omega, l.getD (k + 1) ByteArray.empty, Weak.list _ (Sub.refl _) (by (try simp +decide (implicitDefEqProofs := false) only [go_sem, ↓stk_g, ↓stk_c, ↓reduceIte])), hJ, (fun h => by omega), fun j h => by rw [show j = k + 1 by omega]⟩ | exact ⟨l.getD (k + 1) ByteArray.empty, Weak.list _ (Sub.refl _) (by (try simp +decide (implicitDefEqProofs := false) only [go_sem, ↓stk_g, ↓stk_c, ↓reduceIte])), hJ, (fun h => by omega), fun j h => by rw [show j = k + 1 by omega]⟩
  · have g1 : ¬ (i : Int) < (l.length : Int) := by omega
    rw [List.drop_eq_nil_of_le (by omega), riseIds] at hJ
    (try simp +decide (implicitDefEqProofs := false) only [go_sem, ↓stk_g, ↓stk_c, ↓reduceIte, g1])
    refine aret_pure (.inr rfl) ?_; simp +decide only [retOf, tget, if_true, if_false, ↓reduceIte, List.map_cons, List.map_nil]
    rw [hJ, Bool.true_and]
    exact congrArg (fun b => AVal.v (.bool b)) (decide_eq_decide.2 (by omega))
def c_ids15 : AFn := ⟨1, 20, [2],
  .seq (.ops [⟨(some 2), none, .q (.mv (.const (.slice none 0 0)))⟩])
  (.seq (.ops [⟨(some 3), none, .q (.mv (.const (.slice none 0 0)))⟩])
  (.seq (.seq (.ops [⟨(some 4), none, .q (.mv (.const (.int .i64 0)))⟩])
  (.block 0 (.loop (.seq (.seq (.ops [⟨(some 5), none, .q (.mv (.tmp 4))⟩,
          ⟨(some 6), none, .q (.mv (.tmp 0))⟩,
          ⟨(some 7), none, .q (.len false (.tmp 6))⟩,
          ⟨(some 8), none, .q (.bin .lss .num (.tmp 5) (.tmp 7))⟩])
      (.cond (.tmp 8)
        (.skip)
        (.exit 0)))
      (.seq (.block 1 (.ops [⟨(some 11), none, .q (.mv (.tmp 3))⟩,
            ⟨(some 12), none, .q (.mv (.tmp 0))⟩,
            ⟨(some 13), none, .q (.mv (.tmp 4))⟩,
            ⟨(some 14), none, .q (.ixa 2 (.tmp 12) (.tmp 13))⟩,
            ⟨(some 15), none, .q (.fad 0 1 (.tmp 14))⟩,
            ⟨(some 16), none, .q (.ld false 1 (.tmp 15))⟩,
            ⟨(some 17), none, .e (.bsl 9 1 [(.tmp 16)])⟩,
            ⟨(some 18), none, .e (.app 9 1 16 false (.tmp 11) (.tmp 17))⟩,
            ⟨(some 3), none, .q (.mv (.tmp 18))⟩]))
      (.ops [⟨(some 9), none, .q (.mv (.tmp 4))⟩,
          ⟨(some 10), none, .q (.bin .add .num (.tmp 9) (.const (.int .i64 1)))⟩,
          ⟨(some 4), none, .q (.mv (.tmp 10))⟩]))))))
  (.seq (.ops [⟨(some 19), none, .q (.mv (.tmp 3))⟩,
      ⟨(some 2), none, .q (.mv (.tmp 19))⟩])
  (.ret)))), []⟩
theorem k_ids15 : compF Tryz.prog 26 = some c_ids15 := by kernel_rfl
set_option maxHeartbeats 4000000 in
theorem ids15_ok {W : World} {f : Bool} (l : List (Str × Str)) (hl : l.length ≤ 1000000) : ACalls Tryz.prog W 26 [.sl f 2 (postRows l)] AHeap.none fun v _ => v = .sl false 1 (strRows (l.map Prod.fst)) := by
  refine fn_run follows k_ids15 rfl ?_
  simp only [c_ids15, aretC_nil, List.zipIdx_cons, List.zipIdx_nil, List.map_cons, List.map_nil, Nat.zero_add]
  (try simp +decide (implicitDefEqProofs := false) only [go_sem, ↓stk_g, ↓stk_c, ↓reduceIte])
  refine stk_up (α := AVal × AHeap) l.length (fun i a => ⟨[(4, .v (.int .i64 i)), (3, a.1), (0, .sl f 2 (postRows l))], a.2⟩) (fun i a => RowO a.2 9 1 a.1 (strRows ((l.take i).map Prod.fst))) (nilS, AHeap.none) (Weak.list _ (Sub.refl _) ?_) .nil ?_
  · (try simp +decide (implicitDefEqProofs := false) only [go_sem, ↓stk_g, ↓stk_c, ↓reduceIte])
    first | done | exact FZ.refl _ | exact ⟨FZ.refl _, FZ.refl _⟩
  rintro i ⟨x, H⟩ hi hJ
  dsimp only at hJ ⊢
  by_cases hlt : i < l.length
  · have g1 : (i : Int) < (l.length : Int) := by omega
    have hw := wrap_in (n := (i : Int) + 1) (by omega) (by omega)
    have hg := postRows_get hlt
    have hget : l.getD i noPost = l[i] := by simp [hlt]
    have hst : (l.take (i + 1)).map Prod.fst = (l.take i).map Prod.fst ++ [(l.getD i noPost).1] := by
      rw [List.take_succ_eq_append_getElem hlt, List.map_append, hget]; rfl
    have hml : ((l.take i).map Prod.fst).length = i := by rw [List.length_map, List.length_take]; omega
    (try simp +decide (implicitDefEqProofs := false) only [go_sem, ↓stk_g, ↓stk_c, ↓reduceIte, g1, hlt, hg, postRows_len])
    refine stk_appO (new := strRows [(l.getD i noPost).1]) hJ (by rfl) (by simp only [strRows_len, List.length_cons, List.length_nil, hml]; omega) fun y H2 hy _ => ?_
    (try simp +decide (implicitDefEqProofs := false) only [go_sem, ↓stk_g, ↓stk_c, ↓reduceIte, hw])
    first | exact ⟨by omega, (y, H2), Weak.list _ (Sub.refl _) (by (try simp +decide (implicitDefEqProofs := false) only [go_sem, ↓stk_g, ↓stk_c, ↓reduceIte])), by dsimp only; rw [hst, ← strRows_append]; exact hy⟩ | exact ⟨(y, H2), Weak.list _ (Sub.refl _) (by (try simp +decide (implicitDefEqProofs := false) only [go_sem, ↓stk_g, ↓stk_c, ↓reduceIte])), by dsimp only; rw [hst, ← strRows_append]; exact hy⟩
  · have g1 : ¬ (i : Int) < (l.length : Int) := by omega
    rw [List.take_of_length_le (by omega)] at hJ
    (try simp +decide (implicitDefEqProofs := false) only [go_sem, ↓stk_g, ↓stk_c, ↓reduceIte, g1, postRows_len])
    refine aret_row (E := 9) (rows := strRows (l.map Prod.fst)) (.inr rfl) ?_ (strGood _) rfl
    simp +decide only [retOf, tget, if_true, if_false, ↓reduceIte]
    exact hJ.row
theorem rightM_ep {m : Msg} (hr : rightM m = true) (hk : m.kind = 2 ∨ m.kind = 3) : m.epoch = 0 := by
  unfold rightM at hr
  split at hr
  · cases hr
  split at hr
  · cases hr
  rcases hk with hk | hk
  · rw [if_neg (by omega), if_pos hk] at hr
    simp only [Bool.and_eq_true, decide_eq_true_eq] at hr
    exact hr.2.2
  · rw [if_neg (by omega), if_neg (by omega), if_pos hk] at hr
    simp only [Bool.and_eq_true, decide_eq_true_eq] at hr
    exact hr.2
def rawsOk (l : List (Str × Str)) : Bool := l.all fun p => decide ((p.2.size : Int) ≤ 2000)
theorem risePosts_eq : ∀ (l : List (Str × Str)) (a : Str), risePosts a l = (rawsOk l && riseIds a (l.map Prod.fst))
  | [], a => rfl
  | q :: l, a => by
    rw [risePosts, risePosts_eq l q.1]
    show _ = ((decide ((q.2.size : Int) ≤ 2000) && rawsOk l) && (stepS a q.1 && riseIds q.1 (l.map Prod.fst)))
    cases stepS a q.1 <;> cases decide ((q.2.size : Int) ≤ 2000) <;> cases rawsOk l <;> cases riseIds q.1 (l.map Prod.fst) <;> rfl
def c_Right15 : AFn := ⟨1, 128, [2],
  .seq (.ops [⟨(some 1), none, .e (.box 27 (.tmp 0))⟩,
      ⟨(some 2), none, .q (.mv (.const (.bool false)))⟩])
  (.seq (.seq (.ops [⟨(some 5), none, .q (.fad 1 1 (.tmp 1))⟩,
      ⟨(some 6), none, .q (.ld false 1 (.tmp 5))⟩,
      ⟨(some 7), none, .q (.bin .lss .num (.tmp 6) (.const (.int .i64 0)))⟩,
      ⟨(some 8), none, .q (.mv (.tmp 7))⟩,
      ⟨(some 9), (some (8, false)), .q (.fad 1 1 (.tmp 1))⟩,
      ⟨(some 10), (some (8, false)), .q (.ld false 1 (.tmp 9))⟩,
      ⟨(some 11), (some (8, false)), .q (.bin .gtr .num (.tmp 10) (.const (.int .i64 5)))⟩,
      ⟨(some 12), none, .q (.pick (.tmp 8) (.const (.bool true)) (.tmp 11))⟩,
      ⟨(some 13), none, .q (.mv (.tmp 12))⟩,
      ⟨(some 14), (some (13, false)), .q (.fad 2 1 (.tmp 1))⟩,
      ⟨(some 15), (some (13, false)), .q (.ld false 1 (.tmp 14))⟩,
      ⟨(some 16), (some (13, false)), .q (.bin .lss .num (.tmp 15) (.const (.int .i64 0)))⟩,
      ⟨(some 17), none, .q (.pick (.tmp 13) (.const (.bool true)) (.tmp 16))⟩,
      ⟨(some 18), none, .q (.mv (.tmp 17))⟩,
      ⟨(some 19), (some (18, false)), .q (.fad 2 1 (.tmp 1))⟩,
      ⟨(some 20), (some (18, false)), .q (.ld false 1 (.tmp 19))⟩,
      ⟨(some 21), (some (18, false)), .q (.bin .gtr .num (.tmp 20) (.const (.int .i64 5)))⟩,
      ⟨(some 22), none, .q (.pick (.tmp 18) (.const (.bool true)) (.tmp 21))⟩,
      ⟨(some 23), none, .q (.mv (.tmp 22))⟩,
      ⟨(some 24), (some (23, false)), .q (.fad 1 1 (.tmp 1))⟩,
      ⟨(some 25), (some (23, false)), .q (.ld false 1 (.tmp 24))⟩,
      ⟨(some 26), (some (23, false)), .q (.fad 2 1 (.tmp 1))⟩,
      ⟨(some 27), (some (23, false)), .q (.ld false 1 (.tmp 26))⟩,
      ⟨(some 28), (some (23, false)), .q (.bin .eql .num (.tmp 25) (.tmp 27))⟩,
      ⟨(some 29), none, .q (.pick (.tmp 23) (.const (.bool true)) (.tmp 28))⟩,
      ⟨(some 30), none, .q (.mv (.tmp 29))⟩,
      ⟨(some 31), (some (30, false)), .q (.fad 3 1 (.tmp 1))⟩,
      ⟨(some 32), (some (30, false)), .q (.ld false 1 (.tmp 31))⟩,
      ⟨(some 33), (some (30, false)), .q (.bin .lss .num (.tmp 32) (.const (.int .i64 0)))⟩,
      ⟨(some 34), none, .q (.pick (.tmp 30) (.const (.bool true)) (.tmp 33))⟩,
      ⟨(some 35), none, .q (.mv (.tmp 34))⟩,
      ⟨(some 36), (some (35, false)), .q (.fad 3 1 (.tmp 1))⟩,
      ⟨(some 37), (some (35, false)), .q (.ld false 1 (.tmp 36))⟩,
      ⟨(some 38), (some (35, false)), .q (.bin .gtr .num (.tmp 37) (.const (.int .i64 1000000)))⟩,
      ⟨(some 39), none, .q (.pick (.tmp 35) (.const (.bool true)) (.tmp 38))⟩,
      ⟨(some 40), none, .q (.mv (.tmp 39))⟩,
      ⟨(some 41), (some (40, false)), .q (.fad 0 1 (.tmp 1))⟩,
      ⟨(some 42), (some (40, false)), .q (.ld false 1 (.tmp 41))⟩,
      ⟨(some 43), (some (40, false)), .q (.bin .lss .num (.tmp 42) (.const (.int .i64 1)))⟩,
      ⟨(some 44), none, .q (.pick (.tmp 40) (.const (.bool true)) (.tmp 43))⟩,
      ⟨(some 45), none, .q (.mv (.tmp 44))⟩,
      ⟨(some 46), (some (45, false)), .q (.fad 0 1 (.tmp 1))⟩,
      ⟨(some 47), (some (45, false)), .q (.ld false 1 (.tmp 46))⟩,
      ⟨(some 48), (some (45, false)), .q (.bin .gtr .num (.tmp 47) (.const (.int .i64 4)))⟩,
      ⟨(some 49), none, .q (.pick (.tmp 45) (.const (.bool true)) (.tmp 48))⟩])
  (.cond (.tmp 49)
    (.seq (.ops [⟨(some 2), none, .q (.mv (.const (.bool false)))⟩])
    (.ret))
    (.skip)))
  (.seq (.ops [⟨(some 50), none, .q (.fad 6 9 (.tmp 1))⟩,
      ⟨(some 51), none, .q (.ld true 9 (.tmp 50))⟩,
      ⟨(some 52), none, .q (.bld [(.int .i64 0), (.slice none 0 0), (.slice none 0 0), (.slice none 0 0), (.slice none 0 0), (.slice none 0 0), (.int .i64 0), (.int .i64 0), (.int .i64 0)] [])⟩,
      ⟨(some 53), none, .e (.call 23 [(.tmp 51), (.tmp 52)])⟩,
      ⟨(some 3), none, .q (.mv (.tmp 53))⟩])
  (.seq (.seq (.ops [⟨(some 54), none, .q (.fad 0 1 (.tmp 1))⟩,
      ⟨(some 55), none, .q (.ld false 1 (.tmp 54))⟩,
      ⟨(some 56), none, .q (.bin .neq .num (.tmp 55) (.const (.int .i64 1)))⟩,
      ⟨(some 57), none, .q (.mv (.tmp 56))⟩,
      ⟨(some 58), (some (57, true)), .q (.fad 4 1 (.tmp 1))⟩,
      ⟨(some 59), (some (57, true)), .q (.ld false 1 (.tmp 58))⟩,
      ⟨(some 60), (some (57, true)), .q (.len false (.tmp 59))⟩,
      ⟨(some 61), (some (57, true)), .q (.bin .gtr .num (.tmp 60) (.const (.int .i64 0)))⟩,
      ⟨(some 62), none, .q (.pick (.tmp 57) (.tmp 61) (.const (.bool false)))⟩,
      ⟨(some 63), none, .q (.mv (.tmp 62))⟩,
      ⟨(some 64), (some (63, false)), .q (.fad 0 1 (.tmp 1))⟩,
      ⟨(some 65), (some (63, false)), .q (.ld false 1 (.tmp 64))⟩,
      ⟨(some 66), (some (63, false)), .q (.bin .neq .num (.tmp 65) (.const (.int .i64 2)))⟩,
      ⟨(some 67), (some (63, false)), .q (.mv (.tmp 66))⟩,
      ⟨(some 68), (some (67, true)), .q (.fad 5 1 (.tmp 1))⟩,
      ⟨(some 69), (some (67, true)), .q (.ld false 1 (.tmp 68))⟩,
      ⟨(some 70), (some (67, true)), .q (.len false (.tmp 69))⟩,
      ⟨(some 71), (some (67, true)), .q (.bin .gtr .num (.tmp 70) (.const (.int .i64 0)))⟩,
      ⟨(some 72), (some (63, false)), .q (.pick (.tmp 67) (.tmp 71) (.const (.bool false)))⟩,
      ⟨(some 73), none, .q (.pick (.tmp 63) (.const (.bool true)) (.tmp 72))⟩,
      ⟨(some 74), none, .q (.mv (.tmp 73))⟩,
      ⟨(some 75), (some (74, false)), .q (.fad 0 1 (.tmp 1))⟩,
      ⟨(some 76), (some (74, false)), .q (.ld false 1 (.tmp 75))⟩,
      ⟨(some 77), (some (74, false)), .q (.bin .neq .num (.tmp 76) (.const (.int .i64 3)))⟩,
      ⟨(some 78), (some (74, false)), .q (.mv (.tmp 77))⟩,
      ⟨(some 79), (some (78, true)), .q (.mv (.tmp 3))⟩,
      ⟨(some 80), (some (78, true)), .q (.un .not (.tmp 79))⟩,
      ⟨(some 81), (some (74, false)), .q (.pick (.tmp 78) (.tmp 80) (.const (.bool false)))⟩,
      ⟨(some 82), none, .q (.pick (.tmp 74) (.const (.bool true)) (.tmp 81))⟩,
      ⟨(some 83), none, .q (.mv (.tmp 82))⟩,
      ⟨(some 84), (some (83, false)), .q (.fad 0 1 (.tmp 1))⟩,
      ⟨(some 85), (some (83, false)), .q (.ld false 1 (.tmp 84))⟩,
      ⟨(some 86), (some (83, false)), .q (.bin .eql .num (.tmp 85) (.const (.int .i64 2)))⟩,
      ⟨(some 87), (some (83, false)), .q (.mv (.tmp 86))⟩,
      ⟨(some 88), (some (87, false)), .q (.fad 0 1 (.tmp 1))⟩,
      ⟨(some 89), (some (87, false)), .q (.ld false 1 (.tmp 88))⟩,
      ⟨(some 90), (some (87, false)), .q (.bin .eql .num (.tmp 89) (.const (.int .i64 3)))⟩,
      ⟨(some 91), (some (83, false)), .q (.pick (.tmp 87) (.const (.bool true)) (.tmp 90))⟩,
      ⟨(some 92), (some (83, false)), .q (.mv (.tmp 91))⟩,
      ⟨(some 93), (some (92, true)), .q (.fad 3 1 (.tmp 1))⟩,
      ⟨(some 94), (some (92, true)), .q (.ld false 1 (.tmp 93))⟩,
      ⟨(some 95), (some (92, true)), .q (.bin .neq .num (.tmp 94) (.const (.int .i64 0)))⟩,
      ⟨(some 96), (some (83, false)), .q (.pick (.tmp 92) (.tmp 95) (.const (.bool false)))⟩,
      ⟨(some 97), none, .q (.pick (.tmp 83) (.const (.bool true)) (.tmp 96))⟩])
  (.cond (.tmp 97)
    (.seq (.ops [⟨(some 2), none, .q (.mv (.const (.bool false)))⟩])
    (.ret))
    (.skip)))
  (.seq (.seq (.ops [⟨(some 98), none, .q (.fad 0 1 (.tmp 1))⟩,
      ⟨(some 99), none, .q (.ld false 1 (.tmp 98))⟩,
      ⟨(some 100), none, .q (.bin .eql .num (.tmp 99) (.const (.int .i64 3)))⟩])
  (.cond (.tmp 100)
    (.seq (.ops [⟨(some 101), none, .q (.fad 6 9 (.tmp 1))⟩,
        ⟨(some 102), none, .q (.ld true 9 (.tmp 101))⟩,
        ⟨(some 103), none, .e (.call 24 [(.tmp 102)])⟩,
        ⟨(some 2), none, .q (.mv (.tmp 103))⟩])
    (.ret))
    (.skip)))
  (.seq (.seq (.ops [⟨(some 4), none, .q (.mv (.const (.int .i64 0)))⟩])
  (.block 0 (.loop (.seq (.seq (.ops [⟨(some 104), none, .q (.mv (.tmp 4))⟩,
          ⟨(some 105), none, .q (.fad 5 1 (.tmp 1))⟩,
          ⟨(some 106), none, .q (.ld false 1 (.tmp 105))⟩,
          ⟨(some 107), none, .q (.len false (.tmp 106))⟩,
          ⟨(some 108), none, .q (.bin .lss .num (.tmp 104) (.tmp 107))⟩])
      (.cond (.tmp 108)
        (.skip)
        (.exit 0)))
      (.seq (.block 1 (.seq (.ops [⟨(some 111), none, .q (.fad 5 1 (.tmp 1))⟩,
            ⟨(some 112), none, .q (.ld false 1 (.tmp 111))⟩,
            ⟨(some 113), none, .q (.mv (.tmp 4))⟩,
            ⟨(some 114), none, .q (.ixa 2 (.tmp 112) (.tmp 113))⟩,
            ⟨(some 115), none, .q (.fad 1 1 (.tmp 114))⟩,
            ⟨(some 116), none, .q (.ld false 1 (.tmp 115))⟩,
            ⟨(some 117), none, .q (.len true (.tmp 116))⟩,
            ⟨(some 118), none, .q (.bin .gtr .num (.tmp 117) (.const (.int .i64 2000)))⟩])
        (.cond (.tmp 118)
          (.seq (.ops [⟨(some 2), none, .q (.mv (.const (.bool false)))⟩])
          (.ret))
          (.skip))))
      (.ops [⟨(some 109), none, .q (.mv (.tmp 4))⟩,
          ⟨(some 110), none, .q (.bin .add .num (.tmp 109) (.const (.int .i64 1)))⟩,
          ⟨(some 4), none, .q (.mv (.tmp 110))⟩]))))))
  (.seq (.ops [⟨(some 119), none, .q (.fad 4 1 (.tmp 1))⟩,
      ⟨(some 120), none, .q (.ld false 1 (.tmp 119))⟩,
      ⟨(some 121), none, .e (.call 25 [(.tmp 120)])⟩,
      ⟨(some 122), none, .q (.mv (.tmp 121))⟩,
      ⟨(some 123), (some (122, true)), .q (.fad 5 1 (.tmp 1))⟩,
      ⟨(some 124), (some (122, true)), .q (.ld false 1 (.tmp 123))⟩,
      ⟨(some 125), (some (122, true)), .e (.call 26 [(.tmp 124)])⟩,
      ⟨(some 126), (some (122, true)), .e (.call 25 [(.tmp 125)])⟩,
      ⟨(some 127), none, .q (.pick (.tmp 122) (.tmp 126) (.const (.bool false)))⟩,
      ⟨(some 2), none, .q (.mv (.tmp 127))⟩])
  (.ret))))))), []⟩
theorem k_Right15 : compF Tryz.prog 10 = some c_Right15 := by kernel_rfl
set_option maxHeartbeats 16000000 in
theorem right15_ok {W : World} (L : Laid W) (m : Msg) (F : MFits m) : ACalls Tryz.prog W 10 [.agg (msgCells m)] AHeap.none fun v _ => v = .v (.bool (rightM m)) := by
  have F1 := F.ids
  have F2 := F.posts
  have no : ∀ (h : RightF m → False), AVal.v (.bool false) = .v (.bool (rightM m)) := fun h => by
    cases hr : rightM m
    · rfl
    · exact (h (rightM_facts hr)).elim
  have noR : ∀ (h : rightM m = true → False), AVal.v (.bool false) = .v (.bool (rightM m)) := fun h => by
    cases hr : rightM m
    · rfl
    · exact (h hr).elim
  refine fn_run follows k_Right15 rfl ?_
  simp only [c_Right15, aretC_nil, List.zipIdx_cons, List.zipIdx_nil, List.map_cons, List.map_nil, Nat.zero_add]
  (try simp +decide (implicitDefEqProofs := false) only [go_sem, ↓stk_g, ↓stk_c, ↓reduceIte])
  rw [stk_box]
  refine ⟨by rfl, fun b1 h1 => ?_⟩
  by_cases c1 : m.frm < 0
  case pos =>
    have d1 : decide (m.frm < 0) = true := decide_eq_true c1
    (try simp +decide (implicitDefEqProofs := false) only [go_sem, ↓stk_g, ↓stk_c, ↓reduceIte, msgCells, d1])
    refine aret_pure (.inr rfl) ?_; simp +decide only [retOf, tget, if_true, if_false, ↓reduceIte, List.map_cons, List.map_nil]
    exact no fun R => by have := R.frm; omega
  have d1 : decide (m.frm < 0) = false := decide_eq_false c1
  by_cases c2 : 5 < m.frm
  case pos =>
    have d2 : decide (5 < m.frm) = true := decide_eq_true c2
    (try simp +decide (implicitDefEqProofs := false) only [go_sem, ↓stk_g, ↓stk_c, ↓reduceIte, msgCells, d1, d2])
    refine aret_pure (.inr rfl) ?_; simp +decide only [retOf, tget, if_true, if_false, ↓reduceIte, List.map_cons, List.map_nil]
    exact no fun R => by have := R.frm; omega
  have d2 : decide (5 < m.frm) = false := decide_eq_false c2
  by_cases c3 : m.dst < 0
  case pos =>
    have d3 : decide (m.dst < 0) = true := decide_eq_true c3
    (try simp +decide (implicitDefEqProofs := false) only [go_sem, ↓stk_g, ↓stk_c, ↓reduceIte, msgCells, d1, d2, d3])
    refine aret_pure (.inr rfl) ?_; simp +decide only [retOf, tget, if_true, if_false, ↓reduceIte, List.map_cons, List.map_nil]
    exact no fun R => by have := R.dst; omega
  have d3 : decide (m.dst < 0) = false := decide_eq_false c3
  by_cases c4 : 5 < m.dst
  case pos =>
    have d4 : decide (5 < m.dst) = true := decide_eq_true c4
    (try simp +decide (implicitDefEqProofs := false) only [go_sem, ↓stk_g, ↓stk_c, ↓reduceIte, msgCells, d1, d2, d3, d4])
    refine aret_pure (.inr rfl) ?_; simp +decide only [retOf, tget, if_true, if_false, ↓reduceIte, List.map_cons, List.map_nil]
    exact no fun R => by have := R.dst; omega
  have d4 : decide (5 < m.dst) = false := decide_eq_false c4
  by_cases c5 : m.frm = m.dst
  case pos =>
    have d5 : decide (m.frm = m.dst) = true := decide_eq_true c5
    (try simp +decide (implicitDefEqProofs := false) only [go_sem, ↓stk_g, ↓stk_c, ↓reduceIte, msgCells, d1, d2, d3, d4, d5])
    refine aret_pure (.inr rfl) ?_; simp +decide only [retOf, tget, if_true, if_false, ↓reduceIte, List.map_cons, List.map_nil]
    exact no fun R => by have := R.ne; omega
  have d5 : decide (m.frm = m.dst) = false := decide_eq_false c5
  by_cases c6 : m.epoch < 0
  case pos =>
    have d6 : decide (m.epoch < 0) = true := decide_eq_true c6
    (try simp +decide (implicitDefEqProofs := false) only [go_sem, ↓stk_g, ↓stk_c, ↓reduceIte, msgCells, d1, d2, d3, d4, d5, d6])
    refine aret_pure (.inr rfl) ?_; simp +decide only [retOf, tget, if_true, if_false, ↓reduceIte, List.map_cons, List.map_nil]
    exact no fun R => by have := R.epoch; omega
  have d6 : decide (m.epoch < 0) = false := decide_eq_false c6
  by_cases c7 : 1000000 < m.epoch
  case pos =>
    have d7 : decide (1000000 < m.epoch) = true := decide_eq_true c7
    (try simp +decide (implicitDefEqProofs := false) only [go_sem, ↓stk_g, ↓stk_c, ↓reduceIte, msgCells, d1, d2, d3, d4, d5, d6, d7])
    refine aret_pure (.inr rfl) ?_; simp +decide only [retOf, tget, if_true, if_false, ↓reduceIte, List.map_cons, List.map_nil]
    exact no fun R => by have := R.epoch; omega
  have d7 : decide (1000000 < m.epoch) = false := decide_eq_false c7
  by_cases c8 : m.kind < 1
  case pos =>
    have d8 : decide (m.kind < 1) = true := decide_eq_true c8
    (try simp +decide (implicitDefEqProofs := false) only [go_sem, ↓stk_g, ↓stk_c, ↓reduceIte, msgCells, d1, d2, d3, d4, d5, d6, d7, d8])
    refine aret_pure (.inr rfl) ?_; simp +decide only [retOf, tget, if_true, if_false, ↓reduceIte, List.map_cons, List.map_nil]
    exact no fun R => by have := R.kind; omega
  have d8 : decide (m.kind < 1) = false := decide_eq_false c8
  by_cases c9 : 4 < m.kind
  case pos =>
    have d9 : decide (4 < m.kind) = true := decide_eq_true c9
    (try simp +decide (implicitDefEqProofs := false) only [go_sem, ↓stk_g, ↓stk_c, ↓reduceIte, msgCells, d1, d2, d3, d4, d5, d6, d7, d8, d9])
    refine aret_pure (.inr rfl) ?_; simp +decide only [retOf, tget, if_true, if_false, ↓reduceIte, List.map_cons, List.map_nil]
    exact no fun R => by have := R.kind; omega
  have d9 : decide (4 < m.kind) = false := decide_eq_false c9
  (try simp +decide (implicitDefEqProofs := false) only [go_sem, ↓stk_g, ↓stk_c, ↓reduceIte, msgCells, d1, d2, d3, d4, d5, d6, d7, d8, d9])
  refine stk_pureW ⟨[(52, .agg (polCells pol0)), (51, .agg (polCells m.pol)), (1, .pl (msgCells m))], AHeap.none⟩ (Weak.list _ (Sub.none _) ?_) (psame_ok m.pol pol0 F.pol.lens pol0_lens) fun v hv => ?_
  · (try simp +decide (implicitDefEqProofs := false) only [go_sem, ↓stk_g, ↓stk_c, ↓reduceIte, polCells, FZ_rfl])
    exact ⟨FZ.zero, FZ.cellsR (hp_self _ _ _) rfl⟩
  subst hv
  have hR : (m.frm < 0) = False := eq_false c1
  clear h1
  by_cases hk1 : m.kind = 1
  case pos =>
    have hk := hk1
    have k1 : decide (m.kind = 1) = true := by rw [hk]; rfl
    have n1 : decide (m.kind ≠ 1) = false := by rw [hk]; rfl
    have k2 : decide (m.kind = 2) = false := by rw [hk]; rfl
    have n2 : decide (m.kind ≠ 2) = true := by rw [hk]; rfl
    have k3 : decide (m.kind = 3) = false := by rw [hk]; rfl
    have n3 : decide (m.kind ≠ 3) = true := by rw [hk]; rfl
    by_cases a2 : 0 < m.posts.length
    case pos =>
      have i2 : decide ((0 : Int) < (m.posts.length : Int)) = true := decide_eq_true (by omega)
      (try simp +decide (implicitDefEqProofs := false) only [go_sem, ↓stk_g, ↓stk_c, ↓reduceIte, msgCells, k1, n1, k2, n2, k3, n3, i2, postRows_len])
      refine aret_pure (.inr rfl) ?_; simp +decide only [retOf, tget, if_true, if_false, ↓reduceIte, List.map_cons, List.map_nil]
      exact no fun R => by rw [R.posts0 (by omega)] at a2; exact absurd a2 (by decide)
    have i2 : decide ((0 : Int) < (m.posts.length : Int)) = false := decide_eq_false (by omega)
    by_cases a3 : m.pol = pol0
    case neg =>
      have i3 : decide (m.pol = pol0) = false := decide_eq_false a3
      (try simp +decide (implicitDefEqProofs := false) only [go_sem, ↓stk_g, ↓stk_c, ↓reduceIte, msgCells, k1, n1, k2, n2, k3, n3, i2, i3, postRows_len])
      refine aret_pure (.inr rfl) ?_; simp +decide only [retOf, tget, if_true, if_false, ↓reduceIte, List.map_cons, List.map_nil]
      exact no fun R => a3 (R.pol0 (by omega))
    have i3 : decide (m.pol = pol0) = true := decide_eq_true a3
    (try simp +decide (implicitDefEqProofs := false) only [go_sem, ↓stk_g, ↓stk_c, ↓reduceIte, msgCells, k1, n1, k2, n2, k3, n3, i2, i3, postRows_len])
    refine stk_up (α := Unit) m.posts.length (fun i _ => ⟨[(4, .v (.int .i64 i)), (1, .pl (msgCells m))], AHeap.none⟩) (fun i _ => ∀ j (hj : j < m.posts.length), j < i → (m.posts[j].2.size : Int) ≤ 2000) () (Weak.list _ (Sub.refl _) ?_) (fun j hj h => by omega) ?_
    · (try simp +decide (implicitDefEqProofs := false) only [go_sem, ↓stk_g, ↓stk_c, ↓reduceIte])
      first | done | exact FZ.refl _
    rintro i ⟨⟩ hi hJ
    by_cases hlt : i < m.posts.length
    · have g1 : (i : Int) < (m.posts.length : Int) := by omega
      have hw := wrap_in (n := (i : Int) + 1) (by omega) (by omega)
      have hg := postRows_get hlt
      have hget : m.posts.getD i noPost = m.posts[i] := by simp [hlt]
      rw [hget] at hg
      by_cases hr : (2000 : Int) < (m.posts[i].2.size : Int)
      · (try simp +decide (implicitDefEqProofs := false) only [go_sem, ↓stk_g, ↓stk_c, ↓reduceIte, msgCells, postRows_len, g1, hlt, hg, hr])
        refine aret_pure (.inr rfl) ?_; simp +decide only [retOf, tget, if_true, if_false, ↓reduceIte, List.map_cons, List.map_nil]
        exact no fun R => by have := (R.posts.2 m.posts[i] (List.getElem_mem _)).2; omega
      · (try simp +decide (implicitDefEqProofs := false) only [go_sem, ↓stk_g, ↓stk_c, ↓reduceIte, msgCells, postRows_len, g1, hlt, hg, hr, hw])
        have hJ2 : ∀ j (hj : j < m.posts.length), j < i + 1 → (m.posts[j].2.size : Int) ≤ 2000 := fun j hj h => by
          by_cases e : j = i
          · subst e; omega
          · exact hJ j hj (by omega)
        first | exact ⟨by omega, (), Weak.list _ (Sub.refl _) (by (try simp +decide (implicitDefEqProofs := false) only [go_sem, ↓stk_g, ↓stk_c, ↓reduceIte])), hJ2⟩ | exact ⟨(), Weak.list _ (Sub.refl _) (by (try simp +decide (implicitDefEqProofs := false) only [go_sem, ↓stk_g, ↓stk_c, ↓reduceIte])), hJ2⟩
    have g1 : ¬ (i : Int) < (m.posts.length : Int) := by omega
    have hraw : rawsOk m.posts = true := List.all_eq_true.2 fun q hq => by
      obtain ⟨j, hj, rfl⟩ := List.getElem_of_mem hq
      exact decide_eq_true (hJ j hj (by omega))
    clear hJ
    (try simp +decide (implicitDefEqProofs := false) only [go_sem, ↓stk_g, ↓stk_c, ↓reduceIte, msgCells, postRows_len, g1])
    refine stk_pure (rises15_ok m.ids F1) fun v hv => ?_
    subst hv
    have hfin : rightM m = ((riseIds ByteArray.empty m.ids && decide (m.ids.length ≤ 64)) && (riseIds ByteArray.empty (m.posts.map Prod.fst) && decide ((m.posts.map Prod.fst).length ≤ 64))) := by
      have hp : m.posts = [] := List.length_eq_zero_iff.1 (by omega)
      unfold rightM
      rw [if_neg (by omega), if_neg (fun h => h.elim (fun h => h.1 hk) (fun h => h.elim (fun h => a2 h.2) (fun h => h.2 a3))), if_pos hk, hp]
      simp [riseIds]
    cases hri : (riseIds ByteArray.empty m.ids && decide (m.ids.length ≤ 64))
    · (try simp +decide (implicitDefEqProofs := false) only [go_sem, ↓stk_g, ↓stk_c, ↓reduceIte])
      refine aret_pure (.inr rfl) ?_; simp +decide only [retOf, tget, if_true, if_false, ↓reduceIte, List.map_cons, List.map_nil]
      rw [hfin, hri, Bool.false_and]
    (try simp +decide (implicitDefEqProofs := false) only [go_sem, ↓stk_g, ↓stk_c, ↓reduceIte, msgCells])
    refine stk_pure (ids15_ok m.posts F2) fun v hv => ?_
    subst hv
    (try simp +decide (implicitDefEqProofs := false) only [go_sem, ↓stk_g, ↓stk_c, ↓reduceIte])
    refine stk_pure (rises15_ok (m.posts.map Prod.fst) (by rw [List.length_map]; omega)) fun v hv => ?_
    subst hv
    rw [hri, Bool.true_and] at hfin
    generalize (riseIds ByteArray.empty (m.posts.map Prod.fst) && decide ((m.posts.map Prod.fst).length ≤ 64)) = z at hfin ⊢
    (try simp +decide (implicitDefEqProofs := false) only [go_sem, ↓stk_g, ↓stk_c, ↓reduceIte])
    refine aret_pure (.inr rfl) ?_; simp +decide only [retOf, tget, if_true, if_false, ↓reduceIte, List.map_cons, List.map_nil]
    rw [hfin]
  by_cases hk2 : m.kind = 2
  case pos =>
    have hk := hk2
    have k1 : decide (m.kind = 1) = false := by rw [hk]; rfl
    have n1 : decide (m.kind ≠ 1) = true := by rw [hk]; rfl
    have k2 : decide (m.kind = 2) = true := by rw [hk]; rfl
    have n2 : decide (m.kind ≠ 2) = false := by rw [hk]; rfl
    have k3 : decide (m.kind = 3) = false := by rw [hk]; rfl
    have n3 : decide (m.kind ≠ 3) = true := by rw [hk]; rfl
    by_cases a1 : 0 < m.ids.length
    case pos =>
      have i1 : decide ((0 : Int) < (m.ids.length : Int)) = true := decide_eq_true (by omega)
      (try simp +decide (implicitDefEqProofs := false) only [go_sem, ↓stk_g, ↓stk_c, ↓reduceIte, msgCells, k1, n1, k2, n2, k3, n3, i1, postRows_len])
      refine aret_pure (.inr rfl) ?_; simp +decide only [retOf, tget, if_true, if_false, ↓reduceIte, List.map_cons, List.map_nil]
      exact no fun R => by rw [R.ids0 (by omega)] at a1; exact absurd a1 (by decide)
    have i1 : decide ((0 : Int) < (m.ids.length : Int)) = false := decide_eq_false (by omega)
    by_cases a3 : m.pol = pol0
    case neg =>
      have i3 : decide (m.pol = pol0) = false := decide_eq_false a3
      (try simp +decide (implicitDefEqProofs := false) only [go_sem, ↓stk_g, ↓stk_c, ↓reduceIte, msgCells, k1, n1, k2, n2, k3, n3, i1, i3, postRows_len])
      refine aret_pure (.inr rfl) ?_; simp +decide only [retOf, tget, if_true, if_false, ↓reduceIte, List.map_cons, List.map_nil]
      exact no fun R => a3 (R.pol0 (by omega))
    have i3 : decide (m.pol = pol0) = true := decide_eq_true a3
    by_cases a4 : m.epoch = 0
    case neg =>
      have i4 : decide (m.epoch ≠ 0) = true := decide_eq_true a4
      (try simp +decide (implicitDefEqProofs := false) only [go_sem, ↓stk_g, ↓stk_c, ↓reduceIte, msgCells, k1, n1, k2, n2, k3, n3, i1, i3, i4, postRows_len])
      refine aret_pure (.inr rfl) ?_; simp +decide only [retOf, tget, if_true, if_false, ↓reduceIte, List.map_cons, List.map_nil]
      exact noR fun R => a4 (rightM_ep R (by omega))
    have i4 : decide (m.epoch ≠ 0) = false := decide_eq_false (fun h => h a4)
    (try simp +decide (implicitDefEqProofs := false) only [go_sem, ↓stk_g, ↓stk_c, ↓reduceIte, msgCells, k1, n1, k2, n2, k3, n3, i1, i3, i4, postRows_len])
    refine stk_up (α := Unit) m.posts.length (fun i _ => ⟨[(4, .v (.int .i64 i)), (1, .pl (msgCells m))], AHeap.none⟩) (fun i _ => ∀ j (hj : j < m.posts.length), j < i → (m.posts[j].2.size : Int) ≤ 2000) () (Weak.list _ (Sub.refl _) ?_) (fun j hj h => by omega) ?_
    · (try simp +decide (implicitDefEqProofs := false) only [go_sem, ↓stk_g, ↓stk_c, ↓reduceIte])
      first | done | exact FZ.refl _
    rintro i ⟨⟩ hi hJ
    by_cases hlt : i < m.posts.length
    · have g1 : (i : Int) < (m.posts.length : Int) := by omega
      have hw := wrap_in (n := (i : Int) + 1) (by omega) (by omega)
      have hg := postRows_get hlt
      have hget : m.posts.getD i noPost = m.posts[i] := by simp [hlt]
      rw [hget] at hg
      by_cases hr : (2000 : Int) < (m.posts[i].2.size : Int)
      · (try simp +decide (implicitDefEqProofs := false) only [go_sem, ↓stk_g, ↓stk_c, ↓reduceIte, msgCells, postRows_len, g1, hlt, hg, hr])
        refine aret_pure (.inr rfl) ?_; simp +decide only [retOf, tget, if_true, if_false, ↓reduceIte, List.map_cons, List.map_nil]
        exact no fun R => by have := (R.posts.2 m.posts[i] (List.getElem_mem _)).2; omega
      · (try simp +decide (implicitDefEqProofs := false) only [go_sem, ↓stk_g, ↓stk_c, ↓reduceIte, msgCells, postRows_len, g1, hlt, hg, hr, hw])
        have hJ2 : ∀ j (hj : j < m.posts.length), j < i + 1 → (m.posts[j].2.size : Int) ≤ 2000 := fun j hj h => by
          by_cases e : j = i
          · subst e; omega
          · exact hJ j hj (by omega)
        first | exact ⟨by omega, (), Weak.list _ (Sub.refl _) (by (try simp +decide (implicitDefEqProofs := false) only [go_sem, ↓stk_g, ↓stk_c, ↓reduceIte])), hJ2⟩ | exact ⟨(), Weak.list _ (Sub.refl _) (by (try simp +decide (implicitDefEqProofs := false) only [go_sem, ↓stk_g, ↓stk_c, ↓reduceIte])), hJ2⟩
    have g1 : ¬ (i : Int) < (m.posts.length : Int) := by omega
    have hraw : rawsOk m.posts = true := List.all_eq_true.2 fun q hq => by
      obtain ⟨j, hj, rfl⟩ := List.getElem_of_mem hq
      exact decide_eq_true (hJ j hj (by omega))
    clear hJ
    (try simp +decide (implicitDefEqProofs := false) only [go_sem, ↓stk_g, ↓stk_c, ↓reduceIte, msgCells, postRows_len, g1])
    refine stk_pure (rises15_ok m.ids F1) fun v hv => ?_
    subst hv
    have hfin : rightM m = ((riseIds ByteArray.empty m.ids && decide (m.ids.length ≤ 64)) && (riseIds ByteArray.empty (m.posts.map Prod.fst) && decide ((m.posts.map Prod.fst).length ≤ 64))) := by
      have hp : m.ids = [] := List.length_eq_zero_iff.1 (by omega)
      unfold rightM
      rw [if_neg (by omega), if_neg (fun h => h.elim (fun h => a1 h.2) (fun h => h.elim (fun h => h.1 hk) (fun h => h.2 a3))), if_neg (by omega), if_pos hk, hp, risePosts_eq, hraw, decide_eq_true a4, List.length_map]
      simp [riseIds]
    cases hri : (riseIds ByteArray.empty m.ids && decide (m.ids.length ≤ 64))
    · (try simp +decide (implicitDefEqProofs := false) only [go_sem, ↓stk_g, ↓stk_c, ↓reduceIte])
      refine aret_pure (.inr rfl) ?_; simp +decide only [retOf, tget, if_true, if_false, ↓reduceIte, List.map_cons, List.map_nil]
      rw [hfin, hri, Bool.false_and]
    (try simp +decide (implicitDefEqProofs := false) only [go_sem, ↓stk_g, ↓stk_c, ↓reduceIte, msgCells])
    refine stk_pure (ids15_ok m.posts F2) fun v hv => ?_
    subst hv
    (try simp +decide (implicitDefEqProofs := false) only [go_sem, ↓stk_g, ↓stk_c, ↓reduceIte])
    refine stk_pure (rises15_ok (m.posts.map Prod.fst) (by rw [List.length_map]; omega)) fun v hv => ?_
    subst hv
    rw [hri, Bool.true_and] at hfin
    generalize (riseIds ByteArray.empty (m.posts.map Prod.fst) && decide ((m.posts.map Prod.fst).length ≤ 64)) = z at hfin ⊢
    (try simp +decide (implicitDefEqProofs := false) only [go_sem, ↓stk_g, ↓stk_c, ↓reduceIte])
    refine aret_pure (.inr rfl) ?_; simp +decide only [retOf, tget, if_true, if_false, ↓reduceIte, List.map_cons, List.map_nil]
    rw [hfin]
  by_cases hk3 : m.kind = 3
  case pos =>
    have hk := hk3
    have k1 : decide (m.kind = 1) = false := by rw [hk]; rfl
    have n1 : decide (m.kind ≠ 1) = true := by rw [hk]; rfl
    have k2 : decide (m.kind = 2) = false := by rw [hk]; rfl
    have n2 : decide (m.kind ≠ 2) = true := by rw [hk]; rfl
    have k3 : decide (m.kind = 3) = true := by rw [hk]; rfl
    have n3 : decide (m.kind ≠ 3) = false := by rw [hk]; rfl
    by_cases a1 : 0 < m.ids.length
    case pos =>
      have i1 : decide ((0 : Int) < (m.ids.length : Int)) = true := decide_eq_true (by omega)
      (try simp +decide (implicitDefEqProofs := false) only [go_sem, ↓stk_g, ↓stk_c, ↓reduceIte, msgCells, k1, n1, k2, n2, k3, n3, i1, postRows_len])
      refine aret_pure (.inr rfl) ?_; simp +decide only [retOf, tget, if_true, if_false, ↓reduceIte, List.map_cons, List.map_nil]
      exact no fun R => by rw [R.ids0 (by omega)] at a1; exact absurd a1 (by decide)
    have i1 : decide ((0 : Int) < (m.ids.length : Int)) = false := decide_eq_false (by omega)
    by_cases a2 : 0 < m.posts.length
    case pos =>
      have i2 : decide ((0 : Int) < (m.posts.length : Int)) = true := decide_eq_true (by omega)
      (try simp +decide (implicitDefEqProofs := false) only [go_sem, ↓stk_g, ↓stk_c, ↓reduceIte, msgCells, k1, n1, k2, n2, k3, n3, i1, i2, postRows_len])
      refine aret_pure (.inr rfl) ?_; simp +decide only [retOf, tget, if_true, if_false, ↓reduceIte, List.map_cons, List.map_nil]
      exact no fun R => by rw [R.posts0 (by omega)] at a2; exact absurd a2 (by decide)
    have i2 : decide ((0 : Int) < (m.posts.length : Int)) = false := decide_eq_false (by omega)
    by_cases a4 : m.epoch = 0
    case neg =>
      have i4 : decide (m.epoch ≠ 0) = true := decide_eq_true a4
      (try simp +decide (implicitDefEqProofs := false) only [go_sem, ↓stk_g, ↓stk_c, ↓reduceIte, msgCells, k1, n1, k2, n2, k3, n3, i1, i2, i4, postRows_len])
      refine aret_pure (.inr rfl) ?_; simp +decide only [retOf, tget, if_true, if_false, ↓reduceIte, List.map_cons, List.map_nil]
      exact noR fun R => a4 (rightM_ep R (by omega))
    have i4 : decide (m.epoch ≠ 0) = false := decide_eq_false (fun h => h a4)
    have hfin : rightM m = rightP m.pol := by
      unfold rightM
      rw [if_neg (by omega), if_neg (fun h => h.elim (fun h => a1 h.2) (fun h => h.elim (fun h => a2 h.2) (fun h => h.1 hk))), if_neg (by omega), if_neg (by omega), if_pos hk, decide_eq_true a4, Bool.and_true]
    (try simp +decide (implicitDefEqProofs := false) only [go_sem, ↓stk_g, ↓stk_c, ↓reduceIte, msgCells, k1, n1, k2, n2, k3, n3, i1, i2, i4, postRows_len])
    refine stk_pure (rright_ok m.pol F.pol) fun v hv => ?_
    subst hv
    (try simp +decide (implicitDefEqProofs := false) only [go_sem, ↓stk_g, ↓stk_c, ↓reduceIte])
    refine aret_pure (.inr rfl) ?_; simp +decide only [retOf, tget, if_true, if_false, ↓reduceIte, List.map_cons, List.map_nil]
    rw [hfin]
  have hk : m.kind = 4 := by omega
  have k1 : decide (m.kind = 1) = false := by rw [hk]; rfl
  have n1 : decide (m.kind ≠ 1) = true := by rw [hk]; rfl
  have k2 : decide (m.kind = 2) = false := by rw [hk]; rfl
  have n2 : decide (m.kind ≠ 2) = true := by rw [hk]; rfl
  have k3 : decide (m.kind = 3) = false := by rw [hk]; rfl
  have n3 : decide (m.kind ≠ 3) = true := by rw [hk]; rfl
  by_cases a1 : 0 < m.ids.length
  case pos =>
    have i1 : decide ((0 : Int) < (m.ids.length : Int)) = true := decide_eq_true (by omega)
    (try simp +decide (implicitDefEqProofs := false) only [go_sem, ↓stk_g, ↓stk_c, ↓reduceIte, msgCells, k1, n1, k2, n2, k3, n3, i1, postRows_len])
    refine aret_pure (.inr rfl) ?_; simp +decide only [retOf, tget, if_true, if_false, ↓reduceIte, List.map_cons, List.map_nil]
    exact no fun R => by rw [R.ids0 (by omega)] at a1; exact absurd a1 (by decide)
  have i1 : decide ((0 : Int) < (m.ids.length : Int)) = false := decide_eq_false (by omega)
  by_cases a2 : 0 < m.posts.length
  case pos =>
    have i2 : decide ((0 : Int) < (m.posts.length : Int)) = true := decide_eq_true (by omega)
    (try simp +decide (implicitDefEqProofs := false) only [go_sem, ↓stk_g, ↓stk_c, ↓reduceIte, msgCells, k1, n1, k2, n2, k3, n3, i1, i2, postRows_len])
    refine aret_pure (.inr rfl) ?_; simp +decide only [retOf, tget, if_true, if_false, ↓reduceIte, List.map_cons, List.map_nil]
    exact no fun R => by rw [R.posts0 (by omega)] at a2; exact absurd a2 (by decide)
  have i2 : decide ((0 : Int) < (m.posts.length : Int)) = false := decide_eq_false (by omega)
  by_cases a3 : m.pol = pol0
  case neg =>
    have i3 : decide (m.pol = pol0) = false := decide_eq_false a3
    (try simp +decide (implicitDefEqProofs := false) only [go_sem, ↓stk_g, ↓stk_c, ↓reduceIte, msgCells, k1, n1, k2, n2, k3, n3, i1, i2, i3, postRows_len])
    refine aret_pure (.inr rfl) ?_; simp +decide only [retOf, tget, if_true, if_false, ↓reduceIte, List.map_cons, List.map_nil]
    exact no fun R => a3 (R.pol0 (by omega))
  have i3 : decide (m.pol = pol0) = true := decide_eq_true a3
  (try simp +decide (implicitDefEqProofs := false) only [go_sem, ↓stk_g, ↓stk_c, ↓reduceIte, msgCells, k1, n1, k2, n2, k3, n3, i1, i2, i3, postRows_len])
  refine stk_up (α := Unit) m.posts.length (fun i _ => ⟨[(4, .v (.int .i64 i)), (1, .pl (msgCells m))], AHeap.none⟩) (fun i _ => ∀ j (hj : j < m.posts.length), j < i → (m.posts[j].2.size : Int) ≤ 2000) () (Weak.list _ (Sub.refl _) ?_) (fun j hj h => by omega) ?_
  · (try simp +decide (implicitDefEqProofs := false) only [go_sem, ↓stk_g, ↓stk_c, ↓reduceIte])
    first | done | exact FZ.refl _
  rintro i ⟨⟩ hi hJ
  by_cases hlt : i < m.posts.length
  · have g1 : (i : Int) < (m.posts.length : Int) := by omega
    have hw := wrap_in (n := (i : Int) + 1) (by omega) (by omega)
    have hg := postRows_get hlt
    have hget : m.posts.getD i noPost = m.posts[i] := by simp [hlt]
    rw [hget] at hg
    by_cases hr : (2000 : Int) < (m.posts[i].2.size : Int)
    · (try simp +decide (implicitDefEqProofs := false) only [go_sem, ↓stk_g, ↓stk_c, ↓reduceIte, msgCells, postRows_len, g1, hlt, hg, hr])
      refine aret_pure (.inr rfl) ?_; simp +decide only [retOf, tget, if_true, if_false, ↓reduceIte, List.map_cons, List.map_nil]
      exact no fun R => by have := (R.posts.2 m.posts[i] (List.getElem_mem _)).2; omega
    · (try simp +decide (implicitDefEqProofs := false) only [go_sem, ↓stk_g, ↓stk_c, ↓reduceIte, msgCells, postRows_len, g1, hlt, hg, hr, hw])
      have hJ2 : ∀ j (hj : j < m.posts.length), j < i + 1 → (m.posts[j].2.size : Int) ≤ 2000 := fun j hj h => by
        by_cases e : j = i
        · subst e; omega
        · exact hJ j hj (by omega)
      first | exact ⟨by omega, (), Weak.list _ (Sub.refl _) (by (try simp +decide (implicitDefEqProofs := false) only [go_sem, ↓stk_g, ↓stk_c, ↓reduceIte])), hJ2⟩ | exact ⟨(), Weak.list _ (Sub.refl _) (by (try simp +decide (implicitDefEqProofs := false) only [go_sem, ↓stk_g, ↓stk_c, ↓reduceIte])), hJ2⟩
  have g1 : ¬ (i : Int) < (m.posts.length : Int) := by omega
  have hraw : rawsOk m.posts = true := List.all_eq_true.2 fun q hq => by
    obtain ⟨j, hj, rfl⟩ := List.getElem_of_mem hq
    exact decide_eq_true (hJ j hj (by omega))
  clear hJ
  (try simp +decide (implicitDefEqProofs := false) only [go_sem, ↓stk_g, ↓stk_c, ↓reduceIte, msgCells, postRows_len, g1])
  refine stk_pure (rises15_ok m.ids F1) fun v hv => ?_
  subst hv
  have hfin : rightM m = ((riseIds ByteArray.empty m.ids && decide (m.ids.length ≤ 64)) && (riseIds ByteArray.empty (m.posts.map Prod.fst) && decide ((m.posts.map Prod.fst).length ≤ 64))) := by
    have hp : m.posts = [] := List.length_eq_zero_iff.1 (by omega)
    have hp2 : m.ids = [] := List.length_eq_zero_iff.1 (by omega)
    unfold rightM
    rw [if_neg (by omega), if_neg (fun h => h.elim (fun h => a1 h.2) (fun h => h.elim (fun h => a2 h.2) (fun h => h.2 a3))), if_neg (by omega), if_neg (by omega), if_neg (by omega), hp, hp2, decide_eq_true hk]
    simp [riseIds]
  cases hri : (riseIds ByteArray.empty m.ids && decide (m.ids.length ≤ 64))
  · (try simp +decide (implicitDefEqProofs := false) only [go_sem, ↓stk_g, ↓stk_c, ↓reduceIte])
    refine aret_pure (.inr rfl) ?_; simp +decide only [retOf, tget, if_true, if_false, ↓reduceIte, List.map_cons, List.map_nil]
    rw [hfin, hri, Bool.false_and]
  (try simp +decide (implicitDefEqProofs := false) only [go_sem, ↓stk_g, ↓stk_c, ↓reduceIte, msgCells])
  refine stk_pure (ids15_ok m.posts F2) fun v hv => ?_
  subst hv
  (try simp +decide (implicitDefEqProofs := false) only [go_sem, ↓stk_g, ↓stk_c, ↓reduceIte])
  refine stk_pure (rises15_ok (m.posts.map Prod.fst) (by rw [List.length_map]; omega)) fun v hv => ?_
  subst hv
  rw [hri, Bool.true_and] at hfin
  generalize (riseIds ByteArray.empty (m.posts.map Prod.fst) && decide ((m.posts.map Prod.fst).length ≤ 64)) = z at hfin ⊢
  (try simp +decide (implicitDefEqProofs := false) only [go_sem, ↓stk_g, ↓stk_c, ↓reduceIte])
  refine aret_pure (.inr rfl) ?_; simp +decide only [retOf, tget, if_true, if_false, ↓reduceIte, List.map_cons, List.map_nil]
  rw [hfin]
theorem cat4 (m : Msg) : (((fieldS (itoaS m.kind) ++ fieldS (itoaS m.frm) : Str) ++ fieldS (itoaS m.dst) : Str) ++ fieldS (itoaS m.epoch) : Str) = catF (numsM m) := by
  show _ = ((((ByteArray.empty ++ fieldS (itoaS m.kind) : Str) ++ fieldS (itoaS m.frm) : Str) ++ fieldS (itoaS m.dst) : Str) ++ fieldS (itoaS m.epoch) : Str)
  rw [ByteArray.empty_append]
def c_Encode15 : AFn := ⟨1, 103, [2, 3],
  .seq (.ops [⟨(some 1), none, .e (.box 27 (.tmp 0))⟩,
      ⟨(some 2), none, .q (.mv (.const (.string ByteArray.empty)))⟩,
      ⟨(some 3), none, .q (.mv (.const (.int .i64 0)))⟩])
  (.seq (.seq (.ops [⟨(some 9), none, .q (.ld true 15 (.tmp 1))⟩,
      ⟨(some 10), none, .e (.call 10 [(.tmp 9)])⟩,
      ⟨(some 11), none, .q (.un .not (.tmp 10))⟩])
  (.cond (.tmp 11)
    (.seq (.ops [⟨(some 2), none, .q (.mv (.const (.string ByteArray.empty)))⟩,
        ⟨(some 3), none, .q (.mv (.const (.int .i64 2)))⟩])
    (.ret))
    (.skip)))
  (.seq (.ops [⟨(some 12), none, .q (.fad 0 1 (.tmp 1))⟩,
      ⟨(some 13), none, .q (.ld false 1 (.tmp 12))⟩,
      ⟨(some 16), none, .q (.fad 1 1 (.tmp 1))⟩,
      ⟨(some 17), none, .q (.ld false 1 (.tmp 16))⟩,
      ⟨(some 21), none, .q (.fad 2 1 (.tmp 1))⟩,
      ⟨(some 22), none, .q (.ld false 1 (.tmp 21))⟩,
      ⟨(some 26), none, .q (.fad 3 1 (.tmp 1))⟩,
      ⟨(some 27), none, .q (.ld false 1 (.tmp 26))⟩,
      ⟨(some 14), none, .e (.callq 18 [(.tmp 13)])⟩,
      ⟨(some 15), none, .e (.callq 17 [(.tmp 14)])⟩,
      ⟨(some 18), none, .e (.callq 18 [(.tmp 17)])⟩,
      ⟨(some 19), none, .e (.callq 17 [(.tmp 18)])⟩,
      ⟨(some 20), none, .q (.bin .add .num (.tmp 15) (.tmp 19))⟩,
      ⟨(some 23), none, .e (.callq 18 [(.tmp 22)])⟩,
      ⟨(some 24), none, .e (.callq 17 [(.tmp 23)])⟩,
      ⟨(some 25), none, .q (.bin .add .num (.tmp 20) (.tmp 24))⟩,
      ⟨(some 28), none, .e (.call 18 [(.tmp 27)])⟩,
      ⟨(some 29), none, .e (.call 17 [(.tmp 28)])⟩,
      ⟨(some 30), none, .q (.bin .add .num (.tmp 25) (.tmp 29))⟩,
      ⟨(some 4), none, .q (.mv (.tmp 30))⟩])
  (.seq (.seq (.ops [⟨(some 31), none, .q (.fad 0 1 (.tmp 1))⟩,
      ⟨(some 32), none, .q (.ld false 1 (.tmp 31))⟩])
  (.block 0 (.seq (.ops [⟨(some 34), none, .q (.bin .eql .num (.tmp 32) (.const (.int .i64 1)))⟩,
        ⟨(some 33), none, .q (.mv (.tmp 34))⟩])
    (.cond (.tmp 33)
      (.seq (.ops [⟨(some 35), none, .q (.mv (.tmp 4))⟩,
          ⟨(some 36), none, .q (.fad 4 1 (.tmp 1))⟩,
          ⟨(some 37), none, .q (.ld false 1 (.tmp 36))⟩,
          ⟨(some 38), none, .q (.len false (.tmp 37))⟩,
          ⟨(some 39), none, .e (.call 18 [(.tmp 38)])⟩,
          ⟨(some 40), none, .e (.call 17 [(.tmp 39)])⟩,
          ⟨(some 41), none, .q (.bin .add .num (.tmp 35) (.tmp 40))⟩,
          ⟨(some 4), none, .q (.mv (.tmp 41))⟩])
      (.seq (.ops [⟨(some 5), none, .q (.mv (.const (.int .i64 0)))⟩])
      (.block 1 (.loop (.seq (.seq (.ops [⟨(some 42), none, .q (.mv (.tmp 5))⟩,
              ⟨(some 43), none, .q (.fad 4 1 (.tmp 1))⟩,
              ⟨(some 44), none, .q (.ld false 1 (.tmp 43))⟩,
              ⟨(some 45), none, .q (.len false (.tmp 44))⟩,
              ⟨(some 46), none, .q (.bin .lss .num (.tmp 42) (.tmp 45))⟩])
          (.cond (.tmp 46)
            (.skip)
            (.exit 1)))
          (.seq (.block 2 (.ops [⟨(some 49), none, .q (.mv (.tmp 4))⟩,
                ⟨(some 50), none, .q (.fad 4 1 (.tmp 1))⟩,
                ⟨(some 51), none, .q (.ld false 1 (.tmp 50))⟩,
                ⟨(some 52), none, .q (.mv (.tmp 5))⟩,
                ⟨(some 53), none, .q (.ixa 1 (.tmp 51) (.tmp 52))⟩,
                ⟨(some 54), none, .q (.ld false 1 (.tmp 53))⟩,
                ⟨(some 55), none, .e (.call 17 [(.tmp 54)])⟩,
                ⟨(some 56), none, .q (.bin .add .num (.tmp 49) (.tmp 55))⟩,
                ⟨(some 4), none, .q (.mv (.tmp 56))⟩]))
          (.ops [⟨(some 47), none, .q (.mv (.tmp 5))⟩,
              ⟨(some 48), none, .q (.bin .add .num (.tmp 47) (.const (.int .i64 1)))⟩,
              ⟨(some 5), none, .q (.mv (.tmp 48))⟩])))))))
      (.seq (.ops [⟨(some 58), none, .q (.bin .eql .num (.tmp 32) (.const (.int .i64 2)))⟩,
          ⟨(some 57), none, .q (.mv (.tmp 58))⟩])
      (.cond (.tmp 57)
        (.seq (.ops [⟨(some 59), none, .q (.mv (.tmp 4))⟩,
            ⟨(some 60), none, .q (.fad 5 1 (.tmp 1))⟩,
            ⟨(some 61), none, .q (.ld false 1 (.tmp 60))⟩,
            ⟨(some 62), none, .q (.len false (.tmp 61))⟩,
            ⟨(some 63), none, .e (.call 18 [(.tmp 62)])⟩,
            ⟨(some 64), none, .e (.call 17 [(.tmp 63)])⟩,
            ⟨(some 65), none, .q (.bin .add .num (.tmp 59) (.tmp 64))⟩,
            ⟨(some 4), none, .q (.mv (.tmp 65))⟩])
        (.seq (.ops [⟨(some 6), none, .q (.mv (.const (.int .i64 0)))⟩])
        (.block 3 (.loop (.seq (.seq (.ops [⟨(some 66), none, .q (.mv (.tmp 6))⟩,
                ⟨(some 67), none, .q (.fad 5 1 (.tmp 1))⟩,
                ⟨(some 68), none, .q (.ld false 1 (.tmp 67))⟩,
                ⟨(some 69), none, .q (.len false (.tmp 68))⟩,
                ⟨(some 70), none, .q (.bin .lss .num (.tmp 66) (.tmp 69))⟩])
            (.cond (.tmp 70)
              (.skip)
              (.exit 3)))
            (.seq (.block 4 (.ops [⟨(some 73), none, .q (.mv (.tmp 4))⟩,
                  ⟨(some 74), none, .q (.fad 5 1 (.tmp 1))⟩,
                  ⟨(some 75), none, .q (.ld false 1 (.tmp 74))⟩,
                  ⟨(some 76), none, .q (.mv (.tmp 6))⟩,
                  ⟨(some 77), none, .q (.ixa 2 (.tmp 75) (.tmp 76))⟩,
                  ⟨(some 78), none, .q (.fad 0 1 (.tmp 77))⟩,
                  ⟨(some 79), none, .q (.ld false 1 (.tmp 78))⟩,
                  ⟨(some 82), none, .q (.fad 5 1 (.tmp 1))⟩,
                  ⟨(some 83), none, .q (.ld false 1 (.tmp 82))⟩,
                  ⟨(some 84), none, .q (.mv (.tmp 6))⟩,
                  ⟨(some 85), none, .q (.ixa 2 (.tmp 83) (.tmp 84))⟩,
                  ⟨(some 86), none, .q (.fad 1 1 (.tmp 85))⟩,
                  ⟨(some 87), none, .q (.ld false 1 (.tmp 86))⟩,
                  ⟨(some 80), none, .e (.callq 17 [(.tmp 79)])⟩,
                  ⟨(some 81), none, .q (.bin .add .num (.tmp 73) (.tmp 80))⟩,
                  ⟨(some 88), none, .e (.call 17 [(.tmp 87)])⟩,
                  ⟨(some 89), none, .q (.bin .add .num (.tmp 81) (.tmp 88))⟩,
                  ⟨(some 4), none, .q (.mv (.tmp 89))⟩]))
            (.ops [⟨(some 71), none, .q (.mv (.tmp 6))⟩,
                ⟨(some 72), none, .q (.bin .add .num (.tmp 71) (.const (.int .i64 1)))⟩,
                ⟨(some 6), none, .q (.mv (.tmp 72))⟩])))))))
        (.seq (.ops [⟨(some 91), none, .q (.bin .eql .num (.tmp 32) (.const (.int .i64 3)))⟩,
            ⟨(some 90), none, .q (.mv (.tmp 91))⟩])
        (.cond (.tmp 90)
          (.seq (.ops [⟨(some 93), none, .q (.fad 6 9 (.tmp 1))⟩,
              ⟨(some 94), none, .q (.ld true 9 (.tmp 93))⟩,
              ⟨(some 95), none, .e (.call 19 [(.tmp 94)])⟩,
              ⟨(some 92), none, .q (.mv (.tmp 95))⟩,
              ⟨(some 96), none, .q (.ext (.tmp 92) 0)⟩,
              ⟨(some 97), none, .q (.ext (.tmp 92) 1)⟩,
              ⟨(some 7), none, .q (.mv (.tmp 96))⟩,
              ⟨(some 8), none, .q (.mv (.tmp 97))⟩])
          (.ops [⟨(some 98), none, .q (.mv (.tmp 4))⟩,
              ⟨(some 99), none, .q (.mv (.tmp 7))⟩,
              ⟨(some 100), none, .e (.call 17 [(.tmp 99)])⟩,
              ⟨(some 101), none, .q (.bin .add .num (.tmp 98) (.tmp 100))⟩,
              ⟨(some 4), none, .q (.mv (.tmp 101))⟩]))
          (.skip)))))))))
  (.seq (.ops [⟨(some 102), none, .q (.mv (.tmp 4))⟩,
      ⟨(some 2), none, .q (.mv (.tmp 102))⟩,
      ⟨(some 3), none, .q (.mv (.const (.int .i64 0)))⟩])
  (.ret))))), []⟩
theorem k_Encode15 : compF Tryz.prog 8 = some c_Encode15 := by kernel_rfl
set_option maxHeartbeats 16000000 in
theorem encode15_ok {W : World} (L : Laid W) (m : Msg) (F : MFits m) : ACalls Tryz.prog W 8 [.agg (msgCells m)] AHeap.none fun v _ => v = encR m := by
  refine fn_run follows k_Encode15 rfl ?_
  simp only [c_Encode15, aretC_nil, List.zipIdx_cons, List.zipIdx_nil, List.map_cons, List.map_nil, Nat.zero_add]
  (try simp +decide (implicitDefEqProofs := false) only [go_sem, ↓stk_g, ↓stk_c, ↓reduceIte])
  rw [stk_box]
  refine ⟨by rfl, fun b1 h1 => ?_⟩
  (try simp +decide (implicitDefEqProofs := false) only [go_sem, ↓stk_g, ↓stk_c, ↓reduceIte, msgCells])
  refine stk_pureW ⟨[(1, .pl (msgCells m)), (9, .agg (msgCells m))], AHeap.none⟩ (Weak.list _ (Sub.none _) ?_) (right15_ok L m F) fun v hv => ?_
  · (try simp +decide (implicitDefEqProofs := false) only [go_sem, ↓stk_g, ↓stk_c, ↓reduceIte])
    first | done | exact FZ.cellsR (hp_self _ _ _) rfl | exact ⟨FZ.cellsR (hp_self _ _ _) rfl, FZ.refl _⟩
  subst hv
  unfold encR
  cases hm : rightM m
  · (try simp +decide (implicitDefEqProofs := false) only [go_sem, ↓stk_g, ↓stk_c, ↓reduceIte])
    refine aret_pure (.inr rfl) ?_; simp +decide only [retOf, tget, if_true, if_false, ↓reduceIte, List.map_cons, List.map_nil]
    try rfl
  have R := rightM_facts hm
  have hn := numsM_size R
  have r1 := R.frm; have r2 := R.dst; have r3 := R.epoch; have r4 := R.kind
  have y1 := hn (itoaS m.kind) (by simp [numsM, nums4])
  have y2 := hn (itoaS m.frm) (by simp [numsM, nums4])
  have y3 := hn (itoaS m.dst) (by simp [numsM, nums4])
  have y4 := hn (itoaS m.epoch) (by simp [numsM, nums4])
  have z1 := fieldS_size2 (x := itoaS m.kind) (by omega)
  have z2 := fieldS_size2 (x := itoaS m.frm) (by omega)
  have z3 := fieldS_size2 (x := itoaS m.dst) (by omega)
  have z4 := fieldS_size2 (x := itoaS m.epoch) (by omega)
  have h4 := cat4 m
  have hz0 := part_size R (l := []) (by simp) (fun s hs => by cases hs)
  rw [List.append_nil] at hz0
  (try simp +decide (implicitDefEqProofs := false) only [go_sem, ↓stk_g, ↓stk_c, ↓reduceIte, msgCells])
  refine stk_callq (decimal15_ok m.kind (by omega) (by omega)) fun v hv => ?_
  subst hv
  (try simp +decide (implicitDefEqProofs := false) only [go_sem, ↓stk_g, ↓stk_c, ↓reduceIte])
  refine stk_callq (field15_ok (itoaS m.kind) (by omega)) fun v hv => ?_
  subst hv
  (try simp +decide (implicitDefEqProofs := false) only [go_sem, ↓stk_g, ↓stk_c, ↓reduceIte])
  refine stk_callq (decimal15_ok m.frm (by omega) (by omega)) fun v hv => ?_
  subst hv
  (try simp +decide (implicitDefEqProofs := false) only [go_sem, ↓stk_g, ↓stk_c, ↓reduceIte])
  refine stk_callq (field15_ok (itoaS m.frm) (by omega)) fun v hv => ?_
  subst hv
  have v1 : (fieldS (itoaS m.kind)).size + (fieldS (itoaS m.frm)).size ≤ 9223372036854775807 := by omega
  (try simp +decide (implicitDefEqProofs := false) only [go_sem, ↓stk_g, ↓stk_c, ↓reduceIte, v1])
  refine stk_callq (decimal15_ok m.dst (by omega) (by omega)) fun v hv => ?_
  subst hv
  (try simp +decide (implicitDefEqProofs := false) only [go_sem, ↓stk_g, ↓stk_c, ↓reduceIte])
  refine stk_callq (field15_ok (itoaS m.dst) (by omega)) fun v hv => ?_
  subst hv
  have v2 : (fieldS (itoaS m.kind)).size + (fieldS (itoaS m.frm)).size + (fieldS (itoaS m.dst)).size ≤ 9223372036854775807 := by omega
  (try simp +decide (implicitDefEqProofs := false) only [go_sem, ↓stk_g, ↓stk_c, ↓reduceIte, ByteArray.size_append, v2])
  refine stk_pure (decimal15_ok m.epoch (by omega) (by omega)) fun v hv => ?_
  subst hv
  (try simp +decide (implicitDefEqProofs := false) only [go_sem, ↓stk_g, ↓stk_c, ↓reduceIte])
  refine stk_pure (field15_ok (itoaS m.epoch) (by omega)) fun v hv => ?_
  subst hv
  have v3 : (fieldS (itoaS m.kind)).size + (fieldS (itoaS m.frm)).size + (fieldS (itoaS m.dst)).size + (fieldS (itoaS m.epoch)).size ≤ 9223372036854775807 := by omega
  unfold msgT restM
  by_cases hk1 : m.kind = 1
  · have k1 : decide (m.kind = 1) = true := decide_eq_true hk1
    rw [if_pos hk1]
    have hil := R.ids.1
    have his := R.ids.2
    have hil2 := itoa_len (m.ids.length : Int) (by omega) (by omega)
    have hfl := fieldS_size2 (x := itoaS (m.ids.length : Int)) (by omega)
    have w1 : (catF (numsM m)).size + (fieldS (itoaS (m.ids.length : Int))).size ≤ 9223372036854775807 := by omega
    (try simp +decide (implicitDefEqProofs := false) only [go_sem, ↓stk_g, ↓stk_c, ↓reduceIte, ByteArray.size_append, v3, h4, k1, msgCells])
    refine stk_pure (decimal15_ok (m.ids.length : Int) (by omega) (by omega)) fun v hv => ?_
    subst hv
    (try simp +decide (implicitDefEqProofs := false) only [go_sem, ↓stk_g, ↓stk_c, ↓reduceIte])
    refine stk_pure (field15_ok (itoaS (m.ids.length : Int)) (by omega)) fun v hv => ?_
    subst hv
    (try simp +decide (implicitDefEqProofs := false) only [go_sem, ↓stk_g, ↓stk_c, ↓reduceIte, w1, h4])
    refine stk_up (α := Str) m.ids.length (fun i t => ⟨[(5, .v (.int .i64 i)), (4, .v (.string t)), (1, .pl (msgCells m))], AHeap.none⟩) (fun i t => t = catF (numsM m ++ itoaS (m.ids.length : Int) :: m.ids.take i)) (catF (numsM m) ++ fieldS (itoaS (m.ids.length : Int))) (Weak.list _ (Sub.refl _) ?_) (by rw [← catF_snoc]; rfl) ?_
    · (try simp +decide (implicitDefEqProofs := false) only [go_sem, ↓stk_g, ↓stk_c, ↓reduceIte, h4])
      first | done | exact FZ.refl _ | exact ⟨FZ.refl _, FZ.refl _⟩
    rintro i t hi hJ
    by_cases hlt : i < m.ids.length
    · have g1 : (i : Int) < (m.ids.length : Int) := by omega
      have hw := wrap_in (n := (i : Int) + 1) (by omega) (by omega)
      have hg := strRows_get hlt
      have hget : m.ids.getD i ByteArray.empty = m.ids[i] := by simp [hlt]
      have hs16 := his (m.ids.getD i ByteArray.empty) (by rw [hget]; exact List.getElem_mem _)
      have hst : m.ids.take (i + 1) = m.ids.take i ++ [m.ids.getD i ByteArray.empty] := by rw [List.take_succ_eq_append_getElem hlt, hget]
      have hz := part_size R (l := itoaS (m.ids.length : Int) :: m.ids.take i) (by rw [List.length_cons, List.length_take]; omega) (fun s hs => by
        rcases List.mem_cons.1 hs with rfl | hs
        · omega
        · have := his s (List.mem_of_mem_take hs); omega)
      rw [← hJ] at hz
      have hff := fieldS_size2 (x := m.ids.getD i ByteArray.empty) (by omega)
      have w2 : t.size + (fieldS (m.ids.getD i ByteArray.empty)).size ≤ 9223372036854775807 := by omega
      (try simp +decide (implicitDefEqProofs := false) only [go_sem, ↓stk_g, ↓stk_c, ↓reduceIte, msgCells, g1, hlt, hg])
      refine stk_pure (field15_ok (m.ids.getD i ByteArray.empty) (by omega)) fun v hv => ?_
      subst hv
      (try simp +decide (implicitDefEqProofs := false) only [go_sem, ↓stk_g, ↓stk_c, ↓reduceIte, w2, hw])
      have hJ2 : t ++ fieldS (m.ids.getD i ByteArray.empty) = catF (numsM m ++ itoaS (m.ids.length : Int) :: m.ids.take (i + 1)) := by
        rw [hJ, ← catF_snoc, hst]; simp
      first | exact ⟨by omega, _, Weak.list _ (Sub.refl _) (by (try simp +decide (implicitDefEqProofs := false) only [go_sem, ↓stk_g, ↓stk_c, ↓reduceIte])), hJ2⟩ | exact ⟨_, Weak.list _ (Sub.refl _) (by (try simp +decide (implicitDefEqProofs := false) only [go_sem, ↓stk_g, ↓stk_c, ↓reduceIte])), hJ2⟩
    · have g1 : ¬ (i : Int) < (m.ids.length : Int) := by omega
      rw [List.take_of_length_le (by omega)] at hJ
      (try simp +decide (implicitDefEqProofs := false) only [go_sem, ↓stk_g, ↓stk_c, ↓reduceIte, msgCells, g1])
      refine aret_pure (.inr rfl) ?_; simp +decide only [retOf, tget, if_true, if_false, ↓reduceIte, List.map_cons, List.map_nil]
      rw [hJ]
      try rfl
  have k1 : decide (m.kind = 1) = false := decide_eq_false hk1
  rw [if_neg hk1]
  by_cases hk2 : m.kind = 2
  · have k2 : decide (m.kind = 2) = true := decide_eq_true hk2
    rw [if_pos hk2]
    have hil := R.posts.1
    have his := R.posts.2
    have hil2 := itoa_len (m.posts.length : Int) (by omega) (by omega)
    have hfl := fieldS_size2 (x := itoaS (m.posts.length : Int)) (by omega)
    have w1 : (catF (numsM m)).size + (fieldS (itoaS (m.posts.length : Int))).size ≤ 9223372036854775807 := by omega
    (try simp +decide (implicitDefEqProofs := false) only [go_sem, ↓stk_g, ↓stk_c, ↓reduceIte, ByteArray.size_append, v3, h4, k1, k2, msgCells, postRows_len])
    refine stk_pure (decimal15_ok (m.posts.length : Int) (by omega) (by omega)) fun v hv => ?_
    subst hv
    (try simp +decide (implicitDefEqProofs := false) only [go_sem, ↓stk_g, ↓stk_c, ↓reduceIte])
    refine stk_pure (field15_ok (itoaS (m.posts.length : Int)) (by omega)) fun v hv => ?_
    subst hv
    (try simp +decide (implicitDefEqProofs := false) only [go_sem, ↓stk_g, ↓stk_c, ↓reduceIte, w1, h4])
    refine stk_up (α := Str) m.posts.length (fun i t => ⟨[(6, .v (.int .i64 i)), (4, .v (.string t)), (1, .pl (msgCells m))], AHeap.none⟩) (fun i t => t = catF (numsM m ++ itoaS (m.posts.length : Int) :: flatP (m.posts.take i))) (catF (numsM m) ++ fieldS (itoaS (m.posts.length : Int))) (Weak.list _ (Sub.refl _) ?_) (by rw [← catF_snoc]; rfl) ?_
    · (try simp +decide (implicitDefEqProofs := false) only [go_sem, ↓stk_g, ↓stk_c, ↓reduceIte, h4])
      first | done | exact FZ.refl _ | exact ⟨FZ.refl _, FZ.refl _⟩
    rintro i t hi hJ
    by_cases hlt : i < m.posts.length
    · have g1 : (i : Int) < (m.posts.length : Int) := by omega
      have hw := wrap_in (n := (i : Int) + 1) (by omega) (by omega)
      have hg := postRows_get hlt
      have hget : m.posts.getD i noPost = m.posts[i] := by simp [hlt]
      have hs16 := his (m.posts.getD i noPost) (by rw [hget]; exact List.getElem_mem _)
      have hst : flatP (m.posts.take (i + 1)) = flatP (m.posts.take i) ++ [(m.posts.getD i noPost).1, (m.posts.getD i noPost).2] := by rw [List.take_succ_eq_append_getElem hlt, hget, flatP_snoc]
      have hz := part_size R (l := itoaS (m.posts.length : Int) :: flatP (m.posts.take i)) (by rw [List.length_cons, flatP_len, List.length_take]; omega) (fun s hs => by
        rcases List.mem_cons.1 hs with rfl | hs
        · omega
        · obtain ⟨p, hp, e⟩ := flatP_mem _ s hs
          have := his p (List.mem_of_mem_take hp)
          rcases e with rfl | rfl <;> omega)
      rw [← hJ] at hz
      generalize m.posts.getD i noPost = q at hg hs16 hst
      have hff := fieldS_size2 (x := q.1) (by omega)
      have hff2 := fieldS_size2 (x := q.2) (by omega)
      have w2 : t.size + (fieldS q.1).size ≤ 9223372036854775807 := by omega
      have w3 : t.size + (fieldS q.1).size + (fieldS q.2).size ≤ 9223372036854775807 := by omega
      (try simp +decide (implicitDefEqProofs := false) only [go_sem, ↓stk_g, ↓stk_c, ↓reduceIte, msgCells, postRows_len, g1, hlt, hg])
      refine stk_callq (field15_ok q.1 (by omega)) fun v hv => ?_
      subst hv
      (try simp +decide (implicitDefEqProofs := false) only [go_sem, ↓stk_g, ↓stk_c, ↓reduceIte, w2])
      refine stk_pure (field15_ok q.2 (by omega)) fun v hv => ?_
      subst hv
      (try simp +decide (implicitDefEqProofs := false) only [go_sem, ↓stk_g, ↓stk_c, ↓reduceIte, ByteArray.size_append, w3, hw])
      have hJ2 : (t ++ fieldS q.1 : Str) ++ fieldS q.2 = catF (numsM m ++ itoaS (m.posts.length : Int) :: flatP (m.posts.take (i + 1))) := by
        rw [hJ, ← catF_snoc, ← catF_snoc, hst]; simp
      first | exact ⟨by omega, _, Weak.list _ (Sub.refl _) (by (try simp +decide (implicitDefEqProofs := false) only [go_sem, ↓stk_g, ↓stk_c, ↓reduceIte])), hJ2⟩ | exact ⟨_, Weak.list _ (Sub.refl _) (by (try simp +decide (implicitDefEqProofs := false) only [go_sem, ↓stk_g, ↓stk_c, ↓reduceIte])), hJ2⟩
    · have g1 : ¬ (i : Int) < (m.posts.length : Int) := by omega
      rw [List.take_of_length_le (by omega)] at hJ
      (try simp +decide (implicitDefEqProofs := false) only [go_sem, ↓stk_g, ↓stk_c, ↓reduceIte, msgCells, postRows_len, g1])
      refine aret_pure (.inr rfl) ?_; simp +decide only [retOf, tget, if_true, if_false, ↓reduceIte, List.map_cons, List.map_nil]
      rw [hJ]
      try rfl
  have k2 : decide (m.kind = 2) = false := decide_eq_false hk2
  rw [if_neg hk2]
  by_cases hk3 : m.kind = 3
  · have k3 : decide (m.kind = 3) = true := decide_eq_true hk3
    rw [if_pos hk3]
    have hp := R.pol hk3
    have hpz := textP_len hp
    have hff := fieldS_size2 (x := textP m.pol) (by omega)
    have w2 : (catF (numsM m)).size + (fieldS (textP m.pol)).size ≤ 9223372036854775807 := by omega
    (try simp +decide (implicitDefEqProofs := false) only [go_sem, ↓stk_g, ↓stk_c, ↓reduceIte, ByteArray.size_append, v3, h4, k1, k2, k3, msgCells])
    refine stk_pure (rtext_ok m.pol F.pol) fun v hv => ?_
    unfold textR at hv
    rw [hp, if_pos rfl] at hv
    subst hv
    (try simp +decide (implicitDefEqProofs := false) only [go_sem, ↓stk_g, ↓stk_c, ↓reduceIte])
    refine stk_pure (field15_ok (textP m.pol) (by omega)) fun v hv => ?_
    subst hv
    (try simp +decide (implicitDefEqProofs := false) only [go_sem, ↓stk_g, ↓stk_c, ↓reduceIte, w2, h4])
    refine aret_pure (.inr rfl) ?_; simp +decide only [retOf, tget, if_true, if_false, ↓reduceIte, List.map_cons, List.map_nil]
    rw [← catF_snoc]
    try rfl
  have k3 : decide (m.kind = 3) = false := decide_eq_false hk3
  rw [if_neg hk3, List.append_nil]
  (try simp +decide (implicitDefEqProofs := false) only [go_sem, ↓stk_g, ↓stk_c, ↓reduceIte, ByteArray.size_append, v3, h4, k1, k2, k3, msgCells])
  refine aret_pure (.inr rfl) ?_; simp +decide only [retOf, tget, if_true, if_false, ↓reduceIte, List.map_cons, List.map_nil]
  try rfl
def c_law_MTexts : AFn := ⟨1, 43, [2],
  .seq (.ops [⟨(some 1), none, .e (.box 27 (.tmp 0))⟩,
      ⟨(some 2), none, .q (.mv (.const (.bool false)))⟩])
  (.seq (.ops [⟨(some 9), none, .e (.call 5 [])⟩,
      ⟨(some 3), none, .q (.mv (.tmp 9))⟩])
  (.seq (.ops [⟨(some 10), none, .q (.ld true 15 (.tmp 1))⟩,
      ⟨(some 11), none, .e (.call 6 [(.tmp 10)])⟩,
      ⟨(some 4), none, .q (.mv (.tmp 11))⟩])
  (.seq (.seq (.ops [⟨(some 12), none, .q (.mv (.tmp 4))⟩,
      ⟨(some 13), none, .q (.un .not (.tmp 12))⟩])
  (.cond (.tmp 13)
    (.seq (.ops [⟨(some 14), none, .q (.mv (.tmp 3))⟩,
        ⟨(some 2), none, .q (.mv (.tmp 14))⟩])
    (.ret))
    (.skip)))
  (.seq (.ops [⟨(some 16), none, .q (.ld true 15 (.tmp 1))⟩,
      ⟨(some 17), none, .e (.call 7 [(.tmp 16)])⟩,
      ⟨(some 15), none, .q (.mv (.tmp 17))⟩,
      ⟨(some 18), none, .q (.ext (.tmp 15) 0)⟩,
      ⟨(some 19), none, .q (.ext (.tmp 15) 1)⟩,
      ⟨(some 5), none, .q (.mv (.tmp 18))⟩,
      ⟨(some 6), none, .q (.mv (.tmp 19))⟩])
  (.seq (.ops [⟨(some 21), none, .q (.ld true 15 (.tmp 1))⟩,
      ⟨(some 22), none, .e (.call 8 [(.tmp 21)])⟩,
      ⟨(some 20), none, .q (.mv (.tmp 22))⟩,
      ⟨(some 23), none, .q (.ext (.tmp 20) 0)⟩,
      ⟨(some 24), none, .q (.ext (.tmp 20) 1)⟩,
      ⟨(some 7), none, .q (.mv (.tmp 23))⟩,
      ⟨(some 8), none, .q (.mv (.tmp 24))⟩])
  (.seq (.ops [⟨(some 25), none, .q (.mv (.tmp 3))⟩,
      ⟨(some 26), none, .q (.mv (.tmp 25))⟩,
      ⟨(some 27), (some (26, true)), .q (.ld true 15 (.tmp 1))⟩,
      ⟨(some 29), (some (26, true)), .q (.ld true 15 (.tmp 1))⟩,
      ⟨(some 28), (some (26, true)), .e (.callq 9 [(.tmp 27)])⟩,
      ⟨(some 30), (some (26, true)), .e (.call 10 [(.tmp 29)])⟩,
      ⟨(some 31), (some (26, true)), .q (.bin .eql .bool (.tmp 28) (.tmp 30))⟩,
      ⟨(some 32), none, .q (.pick (.tmp 26) (.tmp 31) (.const (.bool false)))⟩,
      ⟨(some 33), none, .q (.mv (.tmp 32))⟩,
      ⟨(some 34), (some (33, true)), .q (.mv (.tmp 5))⟩,
      ⟨(some 35), (some (33, true)), .q (.mv (.tmp 7))⟩,
      ⟨(some 36), (some (33, true)), .q (.bin .eql .num (.tmp 34) (.tmp 35))⟩,
      ⟨(some 37), none, .q (.pick (.tmp 33) (.tmp 36) (.const (.bool false)))⟩,
      ⟨(some 38), none, .q (.mv (.tmp 37))⟩,
      ⟨(some 39), (some (38, true)), .q (.mv (.tmp 6))⟩,
      ⟨(some 40), (some (38, true)), .q (.mv (.tmp 8))⟩,
      ⟨(some 41), (some (38, true)), .q (.bin .eql .num (.tmp 39) (.tmp 40))⟩,
      ⟨(some 42), none, .q (.pick (.tmp 38) (.tmp 41) (.const (.bool false)))⟩,
      ⟨(some 2), none, .q (.mv (.tmp 42))⟩])
  (.ret))))))), []⟩
theorem k_law_MTexts : compF Tryz.prog 3 = some c_law_MTexts := by kernel_rfl
set_option maxHeartbeats 8000000 in
theorem mtexts_law {W : World} (L : Laid W) (E : Errs W) (m : Msg) (hlen : MLens m) : ACalls Tryz.prog W 3 [.agg (msgCells m)] AHeap.none fun v _ => v = .v (.bool true) := by
  refine fn_run follows k_law_MTexts rfl ?_
  simp only [c_law_MTexts, aretC_nil, List.zipIdx_cons, List.zipIdx_nil, List.map_cons, List.map_nil, Nat.zero_add]
  (try simp +decide (implicitDefEqProofs := false) only [go_sem, ↓stk_g, ↓stk_c, ↓reduceIte])
  rw [stk_box]
  refine ⟨by rfl, fun b1 h1 => ?_⟩
  (try simp +decide (implicitDefEqProofs := false) only [go_sem, ↓stk_g, ↓stk_c, ↓reduceIte])
  refine stk_pureW ⟨[(1, .pl (msgCells m))], AHeap.none⟩ (Weak.list _ (Sub.none _) ?_) (mawake_ok L E) fun v hv => ?_
  · (try simp +decide (implicitDefEqProofs := false) only [go_sem, ↓stk_g, ↓stk_c, ↓reduceIte])
    exact FZ.cellsR (hp_self _ _ _) rfl
  subst hv
  (try simp +decide (implicitDefEqProofs := false) only [go_sem, ↓stk_g, ↓stk_c, ↓reduceIte, msgCells])
  refine stk_pure (mlight_ok m hlen) fun v hv => ?_
  obtain ⟨b, rfl, hF⟩ := hv
  cases b
  · (try simp +decide (implicitDefEqProofs := false) only [go_sem, ↓stk_g, ↓stk_c, ↓reduceIte])
    refine aret_pure (.inr rfl) ?_; simp +decide only [retOf, tget, if_true, if_false, ↓reduceIte, List.map_cons, List.map_nil]
  have F := hF rfl
  clear hF
  (try simp +decide (implicitDefEqProofs := false) only [go_sem, ↓stk_g, ↓stk_c, ↓reduceIte, msgCells])
  refine stk_pure (encode_ok L m F) fun v hv => ?_
  obtain ⟨t, e, hte⟩ : ∃ (t : Str) (e : Int), encR m = .tup [.v (.string t), .v (.int .i64 e)] := by
    unfold encR
    split
    · exact ⟨_, _, rfl⟩
    · exact ⟨_, _, rfl⟩
  rw [hte] at hv
  subst hv
  (try simp +decide (implicitDefEqProofs := false) only [go_sem, ↓stk_g, ↓stk_c, ↓reduceIte, msgCells])
  refine stk_pure (encode15_ok L m F) fun v hv => ?_
  rw [hte] at hv
  subst hv
  have ht1 : decide (t = t) = true := decide_eq_true rfl
  have ht2 : decide (e = e) = true := decide_eq_true rfl
  (try simp +decide (implicitDefEqProofs := false) only [go_sem, ↓stk_g, ↓stk_c, ↓reduceIte, msgCells])
  refine stk_callq (mright_ok L m F) fun v hv => ?_
  subst hv
  (try simp +decide (implicitDefEqProofs := false) only [go_sem, ↓stk_g, ↓stk_c, ↓reduceIte])
  refine stk_pure (right15_ok L m F) fun v hv => ?_
  subst hv
  generalize rightM m = rr
  cases rr
  · (try simp +decide (implicitDefEqProofs := false) only [go_sem, ↓stk_g, ↓stk_c, ↓reduceIte, ht1, ht2, beq_self_eq_true])
    refine aret_pure (.inr rfl) ?_; simp +decide only [retOf, tget, if_true, if_false, ↓reduceIte, List.map_cons, List.map_nil]
  · (try simp +decide (implicitDefEqProofs := false) only [go_sem, ↓stk_g, ↓stk_c, ↓reduceIte, ht1, ht2, beq_self_eq_true])
    refine aret_pure (.inr rfl) ?_; simp +decide only [retOf, tget, if_true, if_false, ↓reduceIte, List.map_cons, List.map_nil]
end Go.Proofs.YtcplmaffccfbdaaGreatDoor.M
