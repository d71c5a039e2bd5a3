/-
  The document's own decimal, lines and Text of layer 8, walked.
-/
import Derived.Test.YtcplmaffccfbdaaGreatDoorPr3
namespace Go.Proofs.YtcplmaffccfbdaaGreatDoor.M
open Go.RowKit
attribute [local go_sem] stk_nil stk_skip stk_ops stk_seq stk_block stk_scope stk_exit stk_ret stk_code_exit stk_code_ret stk_ops_exit stk_ops_ret stk_endb stk_endb_exit stk_endb_ret stk_endl stk_endl_exit stk_endl_ret stk_ops_nil stk_q stk_niq niqA flip srcOf stk_bsl side val bside bval uside uval cside cval bndS bndV intA isInt lside lval fside fval faside faval iside ival sxside sxval sizeA slside slval llside llval lenside lenval lenA tupA mmside mmval nkside boolA isBool ev_t ev_c tget put_s put_n lkside lkval menval stk_mk Option.isSome_some isMapA mapA keyA FZ_rfl FZ_any retOf true_and and_true if_true if_false decide_true decide_false Bool.not_true Bool.not_false Nat.zero_add List.map_cons List.map_nil Int.toNat_natCast strRows_len intRows_len List.getD_cons_zero List.getD_cons_succ List.length_cons List.length_nil List.forall_mem_cons List.not_mem_nil false_implies implies_true Int.ofNat_zero Int.natCast_add Int.natCast_one Int.ofNat_one Int.natCast_zero isB isU Bool.false_eq_true beq_self_eq_true Bool.false_beq Bool.true_beq Int.natCast_nonneg undef strRows_take strRows_drop Int.toNat_zero List.drop_zero Bool.and_true oneOr List.all_cons List.all_nil AVal.one Value.oneCell' Bool.true_and List.take_length stk_st' stside stH hp_self hp_hp isnside isnval
set_option linter.unusedVariables false
set_option linter.unusedSimpArgs false
def digS (d : Nat) : Str := ⟨#[UInt8.ofNat (48 + d)]⟩
theorem digS_bytes {d : Nat} (h : d < 10) : [[AVal.v (.int .u8 (48 + (d : Int)))]] = bytesOf (digS d) := by
  have h1 : (48 + d) % 256 = 48 + d := by omega
  simp only [bytesOf, digS, List.map_cons, List.map_nil, UInt8.toNat_ofNat', h1, Int.natCast_add]
  rfl
theorem u8_in {n : Int} (h1 : 0 ≤ n) (h2 : n ≤ 255) : IntKind.u8.wrap n = n := by rw [IntKind.wrap_u8]; omega
theorem dec_step {m : Nat} (h : ¬ m < 10) : Lib.decDigits m = Lib.decDigits (m / 10) ++ bl (digS (m % 10)) := by
  rw [Lib.decDigits, dif_neg h]; rfl
theorem dec_end {m : Nat} (h : m < 10) : Lib.decDigits m = bl (digS m) := by
  rw [Lib.decDigits_one h]; rfl
theorem bl_itoa (n : Nat) : bl (itoaS (n : Int)) = Lib.decDigits n := by
  unfold itoaS bl Lib.itoa
  rw [if_neg (by omega)]
  simp
def c_decimal : AFn := ⟨1, 23, [2],
  .seq (.ops [⟨(some 2), none, .q (.mv (.const (.string ByteArray.empty)))⟩])
  (.seq (.ops [⟨(some 3), none, .q (.mv (.const (.string ByteArray.empty)))⟩])
  (.seq (.block 0 (.loop (.seq (.seq (.ops [⟨(some 4), none, .q (.mv (.tmp 0))⟩,
          ⟨(some 5), none, .q (.bin .geq .num (.tmp 4) (.const (.int .i64 10)))⟩])
      (.cond (.tmp 5)
        (.skip)
        (.exit 0)))
      (.block 1 (.seq (.ops [⟨(some 6), none, .q (.mv (.tmp 0))⟩,
            ⟨(some 7), none, .q (.bin .rem .num (.tmp 6) (.const (.int .i64 10)))⟩,
            ⟨(some 8), none, .q (.bin .add .num (.const (.int .i64 48)) (.tmp 7))⟩,
            ⟨(some 9), none, .q (.cv (.int .u8) (.tmp 8))⟩,
            ⟨(some 10), none, .e (.bsl 5 1 [(.tmp 9)])⟩,
            ⟨(some 11), none, .e (.b2s (.tmp 10))⟩,
            ⟨(some 12), none, .q (.mv (.tmp 3))⟩,
            ⟨(some 13), none, .q (.bin .add .num (.tmp 11) (.tmp 12))⟩,
            ⟨(some 3), none, .q (.mv (.tmp 13))⟩])
        (.ops [⟨(some 14), none, .q (.mv (.tmp 0))⟩,
            ⟨(some 15), none, .q (.bin .quo .num (.tmp 14) (.const (.int .i64 10)))⟩,
            ⟨(some 0), none, .q (.mv (.tmp 15))⟩]))))))
  (.seq (.ops [⟨(some 16), none, .q (.mv (.tmp 0))⟩,
      ⟨(some 17), none, .q (.bin .add .num (.const (.int .i64 48)) (.tmp 16))⟩,
      ⟨(some 18), none, .q (.cv (.int .u8) (.tmp 17))⟩,
      ⟨(some 19), none, .e (.bsl 5 1 [(.tmp 18)])⟩,
      ⟨(some 20), none, .e (.b2s (.tmp 19))⟩,
      ⟨(some 21), none, .q (.mv (.tmp 3))⟩,
      ⟨(some 22), none, .q (.bin .add .num (.tmp 20) (.tmp 21))⟩,
      ⟨(some 2), none, .q (.mv (.tmp 22))⟩])
  (.ret)))), []⟩
theorem k_decimal : compF Tryz.prog 37 = some c_decimal := by kernel_rfl
set_option maxHeartbeats 4000000 in
theorem decimal_ok {W : World} (n : Int) (h0 : 0 ≤ n) (h1 : n ≤ 1000000) : ACalls Tryz.prog W 37 [.v (.int .i64 n)] AHeap.none fun v _ => v = .v (.string (itoaS n)) := by
  obtain ⟨k, rfl⟩ : ∃ k : Nat, n = k := ⟨n.toNat, by omega⟩
  refine fn_run follows k_decimal rfl ?_
  simp only [c_decimal, aretC_nil, List.zipIdx_cons, List.zipIdx_nil, List.map_cons, List.map_nil, Nat.zero_add]
  (try simp +decide (implicitDefEqProofs := false) only [go_sem, ↓stk_g, ↓stk_c, ↓reduceIte])
  refine stk_up (α := Nat × Str) k (fun i a => ⟨[(0, .v (.int .i64 a.1)), (3, .v (.string a.2))], AHeap.none⟩) (fun i a => Lib.decDigits k = Lib.decDigits a.1 ++ bl a.2 ∧ a.1 + i ≤ k ∧ a.2.size ≤ i) (k, ByteArray.empty) (Weak.list _ (Sub.refl _) (by (try simp +decide (implicitDefEqProofs := false) only [go_sem, ↓stk_g, ↓stk_c, ↓reduceIte]))) ⟨by simp [bl], by simp, by simp⟩ ?_
  rintro i ⟨m, t⟩ hi ⟨hJ1, hJ2, hJ3⟩
  dsimp only at hJ1 hJ2 hJ3 ⊢
  by_cases hm : m < 10
  · have g1 : ¬ (10 : Int) ≤ (m : Int) := by omega
    have w1 := wrap_in (n := 48 + (m : Int)) (by omega) (by omega)
    have v1 := u8_in (n := 48 + (m : Int)) (by omega) (by omega)
    have hz : (digS m).size = 1 := rfl
    have hz2 : 1 + t.size ≤ 9223372036854775807 := by omega
    (try simp +decide (implicitDefEqProofs := false) only [go_sem, ↓stk_g, ↓stk_c, ↓reduceIte, g1, w1, v1, lay, oneOr, List.take_succ_cons, List.take_zero, List.drop_succ_cons, List.drop_zero, List.nil_append, List.cons_append, Option.getD_some, Nat.reduceAdd, Nat.reduceLeDiff, List.append_nil, and_self, List.all_cons, List.all_nil])
    refine stk_b2s (digS m) (by rfl) (by rfl) (digS_bytes hm) ?_
    (try simp +decide (implicitDefEqProofs := false) only [go_sem, ↓stk_g, ↓stk_c, ↓reduceIte, hz, hz2])
    refine aret_pure (.inr rfl) ?_; simp +decide only [retOf, tget, if_true, if_false, ↓reduceIte, List.map_cons, List.map_nil]
    have : digS m ++ t = itoaS (k : Int) := bl_inj (by rw [bl_app, bl_itoa, hJ1, dec_end hm])
    rw [← this]
  · have g1 : (10 : Int) ≤ (m : Int) := by omega
    have r1 : (m : Int).tmod 10 = ((m % 10 : Nat) : Int) := by rw [Int.tmod_eq_emod_of_nonneg (by omega)]; omega
    have r2 : (m : Int).tdiv 10 = ((m / 10 : Nat) : Int) := by rw [Int.tdiv_eq_ediv_of_nonneg (by omega)]; omega
    have hd := dec_step hm
    have b1 : m % 10 < 10 := by omega
    have b2 : m / 10 + (i + 1) ≤ k := by omega
    have hb := digS_bytes b1
    have hz : (digS (m % 10)).size = 1 := rfl
    generalize m % 10 = d at r1 hd b1 hb hz
    generalize m / 10 = q at r2 hd b2
    have w0 := wrap_in (n := (q : Int)) (by omega) (by omega)
    have w1 := wrap_in (n := 48 + (d : Int)) (by omega) (by omega)
    have v1 := u8_in (n := 48 + (d : Int)) (by omega) (by omega)
    have hz2 : 1 + t.size ≤ 9223372036854775807 := by omega
    (try simp +decide (implicitDefEqProofs := false) only [go_sem, ↓stk_g, ↓stk_c, ↓reduceIte, g1, r1, r2, w0, w1, v1, lay, oneOr, List.take_succ_cons, List.take_zero, List.drop_succ_cons, List.drop_zero, List.nil_append, List.cons_append, Option.getD_some, Nat.reduceAdd, Nat.reduceLeDiff, List.append_nil, and_self, List.all_cons, List.all_nil])
    refine stk_b2s (digS d) (by rfl) (by rfl) hb ?_
    (try simp +decide (implicitDefEqProofs := false) only [go_sem, ↓stk_g, ↓stk_c, ↓reduceIte, hz, hz2, r2, w0, lay, oneOr, List.take_succ_cons, List.take_zero, List.drop_succ_cons, List.drop_zero, List.nil_append, List.cons_append, Option.getD_some, Nat.reduceAdd, Nat.reduceLeDiff, List.append_nil, and_self, List.all_cons, List.all_nil])
    refine ⟨by omega, (q, digS d ++ t), Weak.list _ (Sub.refl _) (by (try simp +decide (implicitDefEqProofs := false) only [go_sem, ↓stk_g, ↓stk_c, ↓reduceIte])), ?_, b2, ?_⟩
    · dsimp only
      rw [bl_app, ← List.append_assoc, ← hd]; exact hJ1
    · dsimp only
      rw [ByteArray.size_append, hz]; omega
theorem line_bl (a b : Str) : bl (lineS [a, b]) = bl a ++ (32 :: (bl b ++ [10])) := by
  unfold lineS
  rw [bl_app]
  have : bl (joinS [a, b] spS) = bl a ++ (32 :: bl b) := by
    show (Lib.join [bl a, bl b] (bl spS)).toArray.toList = _
    simp [Lib.join, List.intercalate, List.intersperse, bl, spS]
  rw [this, List.append_assoc]
  rfl
def c_lines : AFn := ⟨2, 24, [4],
  .seq (.ops [⟨(some 4), none, .q (.mv (.const (.string ByteArray.empty)))⟩])
  (.seq (.ops [⟨(some 5), none, .q (.mv (.const (.string ByteArray.empty)))⟩])
  (.seq (.seq (.ops [⟨(some 6), none, .q (.mv (.const (.int .i64 0)))⟩])
  (.block 0 (.loop (.seq (.seq (.ops [⟨(some 7), none, .q (.mv (.tmp 6))⟩,
          ⟨(some 8), none, .q (.mv (.tmp 1))⟩,
          ⟨(some 9), none, .q (.len false (.tmp 8))⟩,
          ⟨(some 10), none, .q (.bin .lss .num (.tmp 7) (.tmp 9))⟩])
      (.cond (.tmp 10)
        (.skip)
        (.exit 0)))
      (.seq (.block 1 (.ops [⟨(some 13), none, .q (.mv (.tmp 5))⟩,
            ⟨(some 14), none, .q (.mv (.tmp 0))⟩,
            ⟨(some 15), none, .q (.bin .add .num (.tmp 13) (.tmp 14))⟩,
            ⟨(some 16), none, .q (.bin .add .num (.tmp 15) (.const (.string ⟨#[32]⟩)))⟩,
            ⟨(some 17), none, .q (.mv (.tmp 1))⟩,
            ⟨(some 18), none, .q (.mv (.tmp 6))⟩,
            ⟨(some 19), none, .q (.ixa 1 (.tmp 17) (.tmp 18))⟩,
            ⟨(some 20), none, .q (.ld false 1 (.tmp 19))⟩,
            ⟨(some 21), none, .q (.bin .add .num (.tmp 16) (.tmp 20))⟩,
            ⟨(some 22), none, .q (.bin .add .num (.tmp 21) (.const (.string ⟨#[10]⟩)))⟩,
            ⟨(some 5), none, .q (.mv (.tmp 22))⟩]))
      (.ops [⟨(some 11), none, .q (.mv (.tmp 6))⟩,
          ⟨(some 12), none, .q (.bin .add .num (.tmp 11) (.const (.int .i64 1)))⟩,
          ⟨(some 6), none, .q (.mv (.tmp 12))⟩]))))))
  (.seq (.ops [⟨(some 23), none, .q (.mv (.tmp 5))⟩,
      ⟨(some 4), none, .q (.mv (.tmp 23))⟩])
  (.ret)))), []⟩
theorem k_lines : compF Tryz.prog 38 = some c_lines := by kernel_rfl
set_option maxHeartbeats 4000000 in
theorem lines_ok {W : World} (hd : Str) (l : List Str) (h1 : hd.size ≤ 100) (hl : l.length ≤ 20000) (hz : ∀ s ∈ l, s.size ≤ 20000) : ACalls Tryz.prog W 38 [.v (.string hd), .sl false 1 (strRows l)] AHeap.none fun v _ => v = .v (.string (linesS hd ByteArray.empty l)) := by
  refine fn_run follows k_lines rfl ?_
  simp only [c_lines, aretC_nil, List.zipIdx_cons, List.zipIdx_nil, List.map_cons, List.map_nil, Nat.zero_add]
  (try simp +decide (implicitDefEqProofs := false) only [go_sem, ↓stk_g, ↓stk_c, ↓reduceIte])
  refine stk_up (α := Str) l.length (fun i t => ⟨[(6, .v (.int .i64 i)), (5, .v (.string t)), (0, .v (.string hd)), (1, .sl false 1 (strRows l))], AHeap.none⟩) (fun i t => t = linesS hd ByteArray.empty (l.take i)) ByteArray.empty (Weak.list _ (Sub.refl _) (by (try simp +decide (implicitDefEqProofs := false) only [go_sem, ↓stk_g, ↓stk_c, ↓reduceIte]))) rfl ?_
  rintro i t hi hJ
  by_cases hlt : i < l.length
  · have g1 : (i : Int) < (l.length : Int) := by omega
    have hw := wrap_in (n := (i : Int) + 1) (by omega) (by omega)
    have hg := strRows_get hlt
    have hget : l.getD i ByteArray.empty = l[i] := by simp [hlt]
    have hsz := hz (l.getD i ByteArray.empty) (by rw [hget]; exact List.getElem_mem _)
    have htz := linesS_size hd h1 (l.take i) ByteArray.empty (fun s hs => hz s (List.mem_of_mem_take hs))
    rw [← hJ, List.length_take] at htz
    have e0 : ByteArray.empty.size = 0 := rfl
    have e1 : (⟨#[32]⟩ : ByteArray).size = 1 := rfl
    have e2 : (⟨#[10]⟩ : ByteArray).size = 1 := rfl
    have s1 : t.size + hd.size ≤ 9223372036854775807 := by omega
    have s2 : t.size + hd.size + 1 ≤ 9223372036854775807 := by omega
    have s3 : t.size + hd.size + 1 + (l.getD i ByteArray.empty).size ≤ 9223372036854775807 := by omega
    have s4 : t.size + hd.size + 1 + (l.getD i ByteArray.empty).size + 1 ≤ 9223372036854775807 := by omega
    have hstep : ((((t ++ hd : ByteArray) ++ ⟨#[32]⟩ : ByteArray) ++ l.getD i ByteArray.empty : ByteArray) ++ ⟨#[10]⟩ : ByteArray) = t ++ lineS [hd, l.getD i ByteArray.empty] := bl_inj (by
      rw [bl_app, bl_app, bl_app, bl_app, bl_app, line_bl]
      simp only [List.append_assoc, List.cons_append]
      rfl)
    (try simp +decide (implicitDefEqProofs := false) only [go_sem, ↓stk_g, ↓stk_c, ↓reduceIte, g1, hlt, hg, e1, e2, s1, s2, s3, s4, ByteArray.size_append, hw])
    refine ⟨((((t ++ hd : ByteArray) ++ ⟨#[32]⟩ : ByteArray) ++ l.getD i ByteArray.empty : ByteArray) ++ ⟨#[10]⟩ : ByteArray), Weak.list _ (Sub.refl _) (by (try simp +decide (implicitDefEqProofs := false) only [go_sem, ↓stk_g, ↓stk_c, ↓reduceIte])), ?_⟩
    rw [List.take_succ_eq_append_getElem hlt, linesS_snoc, ← hJ, ← hget]
    exact hstep
  · have g1 : ¬ (i : Int) < (l.length : Int) := by omega
    rw [List.take_of_length_le (by omega)] at hJ
    (try simp +decide (implicitDefEqProofs := false) only [go_sem, ↓stk_g, ↓stk_c, ↓reduceIte, g1])
    refine aret_pure (.inr rfl) ?_; simp +decide only [retOf, tget, if_true, if_false, ↓reduceIte, List.map_cons, List.map_nil]
    rw [hJ]
theorem lines_app (hd t : Str) (l : List Str) : linesS hd t l = t ++ linesS hd ByteArray.empty l := by
  have key : ∀ (l : List Str) (t u : Str), linesS hd (t ++ u) l = t ++ linesS hd u l := by
    intro l
    induction l with
    | nil => intro t u; rfl
    | cons s l ih =>
      intro t u
      show linesS hd (t ++ u ++ lineS [hd, s]) l = t ++ linesS hd (u ++ lineS [hd, s]) l
      rw [ByteArray.append_assoc, ih]
  have := key l t ByteArray.empty
  rw [ByteArray.append_empty] at this
  exact this
end Go.Proofs.YtcplmaffccfbdaaGreatDoor.M
